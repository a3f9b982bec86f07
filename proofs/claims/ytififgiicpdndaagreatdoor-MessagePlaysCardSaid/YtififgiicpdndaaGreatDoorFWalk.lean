/- field.walk: the contract. -/
import Derived.Test.YtififgiicpdndaaGreatDoorXMix
import Derived.Test.YtififgiicpdndaaGreatDoorMapS
namespace Go.Proofs.YtififgiicpdndaaGreatDoor.Fw
open Go.RowKit Go.Proofs.YtififgiicpdndaaGreatDoor.XMi Go.Proofs.YtififgiicpdndaaGreatDoorW.PrintWords Go.Proofs.YtififgiicpdndaaGreatDoorW.PrintLast Go.Proofs.YtififgiicpdndaaGreatDoorW.PrintMore Go.Proofs.YtififgiicpdndaaGreatDoor.Ms

def nameB (k : Nat) (s : ByteArray) : Bool := (field_Name.f k s).getD false
def valueB (k : Nat) (s : ByteArray) : Bool := (field_Value.f k s).getD false
def forbB (k : Nat) (f : S61) : Bool := (field_forbidden.f k f.f0 f.f1).getD false
def colonB (k : Nat) (names : List ByteArray) (s : ByteArray) : Bool := (slices_Contains_string_string.f k names s).getD false
/-- The rounds are enough for a field. -/
def Fit1 (k : Nat) (names : List ByteArray) (f : S61) : Prop := field_Name.f k f.f0 = some (nameB k f.f0) ∧ field_Value.f k f.f1 = some (valueB k f.f1) ∧ field_forbidden.f k f.f0 f.f1 = some (forbB k f) ∧ slices_Contains_string_string.f k names f.f0 = some (colonB k names f.f0) ∧ f.f0.size ≤ 140737488351232 ∧ f.f1.size ≤ 140737488351232
/-- What walk says: what was said of the names with a colon, or an error. -/
def walkP (k : Nat) (names : List ByteArray) : List S61 → List (ByteArray × ByteArray) → Bool → Option (List (ByteArray × ByteArray)) × Int
  | [], said, _ => (some said, 0)
  | f :: l, said, plain =>
    if (!colonB k names f.f0 && !nameB k f.f0 || forbB k f) = true then (none, 6)
    else if valueB k f.f1 = false then (none, 3)
    else if (colonB k names f.f0 && (plain || (Ms.look said f.f0).isSome)) = true then (none, 7)
    else if colonB k names f.f0 = true then walkP k names l ((f.f0, f.f1) :: said) plain
    else walkP k names l said true
theorem zero9 (w : World) : (zeroValue 9).run Tryz.prog w = .ok (.string ⟨#[]⟩) w := Tryz.zeroValue9 w
theorem w64_in (n : Int) (h : -9223372036854775808 ≤ n ∧ n ≤ 9223372036854775807) : wrap64 n = n := by unfold wrap64; omega
theorem elem_at {w0 w : World} {A : Option Addr} {l : List S61} (hC : k61.C w0 A l.length l) (hb : Below w0.heap.size w0 w) (n : Nat) (hn : n < l.length) :
    ∃ ad, A = some ad ∧ w.cell? (ad.add (n * 2)) = some (.string l[n].f0) ∧ w.cell? ⟨(ad.add (n * 2)).block, (ad.add (n * 2)).off + 1, none⟩ = some (.string l[n].f1) := by
  obtain ⟨ad, e, h0, h1⟩ := at_T61 (Kd.C_below hC hb) (n : Int) (by omega) (by omega)
  rw [Int.toNat_natCast, show rd_T61 l (n : Int) = l[n] from by simp [rd_T61, hn]] at h0 h1
  exact ⟨ad, e, h0, h1⟩
/-- A field's own box, behind what came since; a map that a call has made. -/
structure Bx (w0 w : World) (f : S61) (b : Nat) (m : List (ByteArray × ByteArray)) (w' : World) : Prop where
  lt : b < w.heap.size
  bl0 : Below w0.heap.size w0 w'
  bl : Below w.heap.size w w'
  c0 : w'.cell? ⟨w.heap.size, 0, none⟩ = some (.string f.f0)
  c1 : w'.cell? ⟨w.heap.size, 1, none⟩ = some (.string f.f1)
  sm : SMap Tryz.prog 9 9 w' b m
theorem Bx.start {w0 w : World} {b : Nat} {m : List (ByteArray × ByteArray)} (f : S61) (h0 : Below w0.heap.size w0 w) (h : SMap Tryz.prog 9 9 w b m) : Bx w0 w f b m (w.alloc (.cells #[.string f.f0, .string f.f1] 61)) := by
  have e := heap_alloc_new w (.cells #[.string f.f0, .string f.f1] 61)
  exact ⟨h.lt, below_alloc h0 _, below_alloc (Below.refl _ _) _, by unfold World.cell?; rw [show (⟨w.heap.size, 0, none⟩ : Addr).block = w.heap.size from rfl, e]; rfl, by unfold World.cell?; rw [show (⟨w.heap.size, 1, none⟩ : Addr).block = w.heap.size from rfl, e]; rfl, h.block (Below.heap_alloc w _ _ h.lt)⟩
theorem Bx.step {w0 w w1 w2 : World} {f : S61} {b : Nat} {m : List (ByteArray × ByteArray)} (h : Bx w0 w f b m w1) (hb : Below w1.heap.size w1 w2) : Bx w0 w f b m w2 :=
  ⟨h.lt, below_step h.bl0 hb, below_step h.bl hb, (hb.cell (World.block_lt_of_cell? _ _ h.c0)).trans h.c0, (hb.cell (World.block_lt_of_cell? _ _ h.c1)).trans h.c1, h.sm.block (hb.block _ h.sm.lt)⟩
theorem Bx.look {w0 w w1 : World} {f : S61} {b : Nat} {m : List (ByteArray × ByteArray)} (h : Bx w0 w f b m w1) (s : ByteArray) (hs : s.size ≤ maxLen) :
    (Instr.lookup 94 (.map (some b)) (.string s) true).run Tryz.prog w1 = .ok (.tuple #[.string ((Ms.look m s).getD ⟨#[]⟩), .bool (Ms.look m s).isSome]) w1 :=
  h.sm.look Tryz.underlying9 Tryz.underlying94 Tryz.underlying9 (zero9 w1) s hs true
/-- What a call of walk leaves: the answer, and a map of its own. -/
def WalkPost (k : Nat) (names : List ByteArray) (l : List S61) (w : World) (e : Ending) (w' : World) : Prop :=
  Below w.heap.size w w' ∧ ∃ mv, e = .returned (.tuple #[mv, .int .i64 (walkP k names l [] false).2]) ∧
    match (walkP k names l [] false).1 with
    | none => mv = .map none
    | some said => ∃ b, mv = .map (some b) ∧ w.heap.size ≤ b ∧ SMap Tryz.prog 9 9 w' b said
theorem walkPost_none {k : Nat} {names : List ByteArray} {l : List S61} {w w' : World} {n : Int} (h : Below w.heap.size w w') (hp : walkP k names l [] false = (none, n)) : WalkPost k names l w (.returned (.tuple #[.map none, .int .i64 n])) w' := by
  unfold WalkPost
  rw [hp]
  exact ⟨h, _, rfl, rfl⟩
theorem walkPost_some {k : Nat} {names : List ByteArray} {l : List S61} {w w' : World} {n : Int} {said : List (ByteArray × ByteArray)} {b : Nat} (h : Below w.heap.size w w') (hp : walkP k names l [] false = (some said, n)) (hb : w.heap.size ≤ b) (hs : SMap Tryz.prog 9 9 w' b said) : WalkPost k names l w (.returned (.tuple #[.map (some b), .int .i64 n])) w' := by
  unfold WalkPost
  rw [hp]
  exact ⟨h, _, rfl, _, rfl, hb, hs⟩
set_option maxHeartbeats 3200000 in
set_option maxRecDepth 20000 in
theorem walk_calls (k : Nat) (A : Option Addr) (l : List S61) (c : Nat) (An : Option Addr) (names : List ByteArray) (cn : Nat) (w : World) (hl : l.length ≤ 1000000000) (hC : k61.C w A l.length l) (hN : Kd.C Kd.string w An names.length names) (hcn : names.length ≤ cn) (hF : ∀ f ∈ l, Fit1 k names f) :
    Calls Tryz.prog 69 #[.slice A l.length c, .slice An names.length cn] w (WalkPost k names l w) := by
  have HL := Aside0.mk hl
  have HC := Aside0.mk hC
  have HNm := Aside0.mk hN
  have HF := Aside0.mk hF
  have HCN := Aside0.mk hcn
  have hmm := @run_makeMap Tryz.prog
  clear hl hC hN hF hcn
  go_enter Tryz.func69, Tryz.ntmps69
  go_wp2
  go_loopg [16, 7] (l.length + 1) (fun kq v16 v7 w' => ∃ (i : Nat) (plain : Bool) (said : List (ByteArray × ByteArray)), v16 = .int .i64 i ∧ v7 = .bool plain ∧ Aside0 (i ≤ l.length ∧ i + kq = l.length + 1 ∧ said.length ≤ i ∧ walkP k names (l.drop i) said plain = walkP k names l [] false) ∧ Aside0 (Below w.heap.size w w' ∧ SMap Tryz.prog 9 9 w' w.heap.size said))
  case atStart => exact ⟨0, false, [], rfl, rfl, ⟨by omega, by omega, by simp, by simp⟩, ⟨below_alloc (Below.refl _ _) _, smap_made w⟩⟩
  case round =>
    obtain ⟨i, plain, said, rfl, rfl, HJ, HW⟩ := hrel
    by_cases hi : i < l.length
    · have HI := Aside0.mk hi
      have e1 : decide ((i : Int) < (l.length : Int)) = true := decide_eq_true (by omega)
      obtain ⟨ad, hA, k0, k1⟩ := elem_at HC.out HW.out.1 i hi
      subst hA
      have p1 : (0 : Int) ≤ (i : Int) := by omega
      have p2 : (i : Int) < (l.length : Int) := by omega
      have hwi : wrap64 ((i : Int) + 1) = (i : Int) + 1 := w64_in ((i : Int) + 1) (by have := HL.out; omega)
      have hd : l.drop i = l[i] :: l.drop (i + 1) := List.drop_eq_getElem_cons hi
      have HFx : Aside0 (Fit1 k names l[i]) := ⟨HF.out _ (List.getElem_mem hi)⟩
      have HP : Aside0 (walkP k names (l[i] :: l.drop (i + 1)) said plain = walkP k names l [] false) := ⟨by rw [← hd]; exact HJ.out.2.2.2⟩
      have HJ' : Aside0 (i ≤ l.length ∧ i + gk = l.length + 1 ∧ said.length ≤ i) := ⟨HJ.out.1, HJ.out.2.1, HJ.out.2.2.1⟩
      clear HJ hd
      generalize l[i] = x at k0 k1 HFx HP
      clear hi
      obtain ⟨fn, fv, ff, fc, s0, s1⟩ := HFx.out
      have HS : Aside0 (x.f0.size ≤ maxLen ∧ x.f1.size ≤ maxLen) := ⟨by unfold maxLen; omega, by unfold maxLen; omega⟩
      have HSL : Aside0 (said.length < maxLen) := ⟨by have := HJ'.out; have := HL.out; unfold maxLen; omega⟩
      have HB0 : Aside0 (Bx w wr x w.heap.size said (wr.alloc (.cells #[.string x.f0, .string x.f1] 61))) := ⟨Bx.start x HW.out.1 HW.out.2⟩
      have HNB : Kd.C Kd.string (wr.alloc (.cells #[.string x.f0, .string x.f1] 61)) An names.length names := Kd.C_below HNm.out (below_alloc HW.out.1 _)
      have hlk := fun w1 (h : Bx w wr x w.heap.size said w1) => h.look x.f0 HS.out.1
      have hp := HP.out
      simp only [walkP] at hp
      clear HFx HP s0 s1
      generalize nameB k x.f0 = nm at fn hp
      generalize valueB k x.f1 = va at fv hp
      generalize forbB k x = fb at ff hp
      generalize colonB k names x.f0 = co at fc hp
      generalize hq : (Ms.look said x.f0).isSome = tw at hp
      have hlk : ∀ w1, Bx w wr x w.heap.size said w1 → (Instr.lookup 94 (.map (some w.heap.size)) (.string x.f0) true).run Tryz.prog w1 = .ok (.tuple #[.string ((Ms.look said x.f0).getD ⟨#[]⟩), .bool tw]) w1 := by rw [← hq]; exact hlk
      clear hq
      generalize (Ms.look said x.f0).getD ⟨#[]⟩ = sv at hlk
      cases co
      case false =>
        cases nm
        case false =>
          have hp : walkP k names l [] false = (none, 6) := hp.symm
          have HP := Aside0.mk hp
          clear hp
          go_wp2_with (first
            | (go_at_call 38; refine (slices_Contains_string_string.calls k An cn names x.f0 false _ HNB HCN.out fc).mono ?_; rintro e w1 ⟨rfl, hd⟩; have hx := HB0.out.step hd.below; clear hd; have B1 := Aside0.mk hx; have c0 := hx.c0; have c1 := hx.c1; have hk1 := hlk w1 hx; clear hx)
            | (go_at_call 95; refine (field_Name.calls k x.f0 false _ fn).mono ?_; rintro e w2 ⟨rfl, hd⟩; have hx := B1.out.step hd.below; clear hd B1 c0 c1 hk1; have B1 := Aside0.mk hx; have c0 := hx.c0; have c1 := hx.c1; clear hx)
            | (go_at_call 96; refine (field_forbidden.calls k x.f0 x.f1 fb _ ff).mono ?_; rintro e w3 ⟨rfl, hd⟩; have hx := B1.out.step hd; clear hd B1 c0 c1; have B1 := Aside0.mk hx; have c0 := hx.c0; have c1 := hx.c1; clear hx)
            | (go_at_call 97; refine (field_Value.calls k x.f1 va _ fv).mono ?_; rintro e w4 ⟨rfl, hd⟩; have hx := B1.out.step hd; clear hd B1 c0 c1; have B1 := Aside0.mk hx; have c0 := hx.c0; have c1 := hx.c1; clear hx)
            | (at_mapUpdate; refine wpList_smap_update _ rfl _ _ _ rfl Tryz.underlying9 Tryz.underlying94 Tryz.underlying9 w.heap.size said rfl B1.out.sm HSL.out x.f0 x.f1 rfl rfl HS.out.1 HS.out.2 ?_; intro w5 hm5 hg5; have M5 := Aside0.mk (And.intro (Below.grown B1.out.bl0 hg5 (Nat.le_trans HW.out.1.size B1.out.bl.size) (fun k e => by cases e; exact Nat.le_refl _)) hm5); clear hm5 hg5))
          go_ret2
          exact walkPost_none B1.out.bl0 HP.out
        case true =>
          cases fb
          case false =>
            cases va
            case false =>
              have hp : walkP k names l [] false = (none, 3) := hp.symm
              have HP := Aside0.mk hp
              clear hp
              go_wp2_with (first
                | (go_at_call 38; refine (slices_Contains_string_string.calls k An cn names x.f0 false _ HNB HCN.out fc).mono ?_; rintro e w1 ⟨rfl, hd⟩; have hx := HB0.out.step hd.below; clear hd; have B1 := Aside0.mk hx; have c0 := hx.c0; have c1 := hx.c1; have hk1 := hlk w1 hx; clear hx)
                | (go_at_call 95; refine (field_Name.calls k x.f0 true _ fn).mono ?_; rintro e w2 ⟨rfl, hd⟩; have hx := B1.out.step hd.below; clear hd B1 c0 c1 hk1; have B1 := Aside0.mk hx; have c0 := hx.c0; have c1 := hx.c1; clear hx)
                | (go_at_call 96; refine (field_forbidden.calls k x.f0 x.f1 false _ ff).mono ?_; rintro e w3 ⟨rfl, hd⟩; have hx := B1.out.step hd; clear hd B1 c0 c1; have B1 := Aside0.mk hx; have c0 := hx.c0; have c1 := hx.c1; clear hx)
                | (go_at_call 97; refine (field_Value.calls k x.f1 false _ fv).mono ?_; rintro e w4 ⟨rfl, hd⟩; have hx := B1.out.step hd; clear hd B1 c0 c1; have B1 := Aside0.mk hx; have c0 := hx.c0; have c1 := hx.c1; clear hx)
                | (at_mapUpdate; refine wpList_smap_update _ rfl _ _ _ rfl Tryz.underlying9 Tryz.underlying94 Tryz.underlying9 w.heap.size said rfl B1.out.sm HSL.out x.f0 x.f1 rfl rfl HS.out.1 HS.out.2 ?_; intro w5 hm5 hg5; have M5 := Aside0.mk (And.intro (Below.grown B1.out.bl0 hg5 (Nat.le_trans HW.out.1.size B1.out.bl.size) (fun k e => by cases e; exact Nat.le_refl _)) hm5); clear hm5 hg5))
              go_ret2
              exact walkPost_none B1.out.bl0 HP.out
            case true =>
              have hp : walkP k names l [] false = walkP k names (l.drop (i + 1)) said true := hp.symm
              have HP := Aside0.mk hp
              clear hp
              go_wp2_with (first
                | (go_at_call 38; refine (slices_Contains_string_string.calls k An cn names x.f0 false _ HNB HCN.out fc).mono ?_; rintro e w1 ⟨rfl, hd⟩; have hx := HB0.out.step hd.below; clear hd; have B1 := Aside0.mk hx; have c0 := hx.c0; have c1 := hx.c1; have hk1 := hlk w1 hx; clear hx)
                | (go_at_call 95; refine (field_Name.calls k x.f0 true _ fn).mono ?_; rintro e w2 ⟨rfl, hd⟩; have hx := B1.out.step hd.below; clear hd B1 c0 c1 hk1; have B1 := Aside0.mk hx; have c0 := hx.c0; have c1 := hx.c1; clear hx)
                | (go_at_call 96; refine (field_forbidden.calls k x.f0 x.f1 false _ ff).mono ?_; rintro e w3 ⟨rfl, hd⟩; have hx := B1.out.step hd; clear hd B1 c0 c1; have B1 := Aside0.mk hx; have c0 := hx.c0; have c1 := hx.c1; clear hx)
                | (go_at_call 97; refine (field_Value.calls k x.f1 true _ fv).mono ?_; rintro e w4 ⟨rfl, hd⟩; have hx := B1.out.step hd; clear hd B1 c0 c1; have B1 := Aside0.mk hx; have c0 := hx.c0; have c1 := hx.c1; clear hx)
                | (at_mapUpdate; refine wpList_smap_update _ rfl _ _ _ rfl Tryz.underlying9 Tryz.underlying94 Tryz.underlying9 w.heap.size said rfl B1.out.sm HSL.out x.f0 x.f1 rfl rfl HS.out.1 HS.out.2 ?_; intro w5 hm5 hg5; have M5 := Aside0.mk (And.intro (Below.grown B1.out.bl0 hg5 (Nat.le_trans HW.out.1.size B1.out.bl.size) (fun k e => by cases e; exact Nat.le_refl _)) hm5); clear hm5 hg5))
              go_roundg (gk - 1)
              case measure => have := HJ'.out; have := HI.out; omega
              case rel => exact ⟨i + 1, true, said, by rw [hwi]; rfl, rfl, ⟨by have := HI.out; omega, by have := HJ'.out; have := HI.out; omega, by have := HJ'.out; omega, HP.out.symm⟩, ⟨B1.out.bl0, B1.out.sm⟩⟩
          case true =>
            have hp : walkP k names l [] false = (none, 6) := hp.symm
            have HP := Aside0.mk hp
            clear hp
            go_wp2_with (first
              | (go_at_call 38; refine (slices_Contains_string_string.calls k An cn names x.f0 false _ HNB HCN.out fc).mono ?_; rintro e w1 ⟨rfl, hd⟩; have hx := HB0.out.step hd.below; clear hd; have B1 := Aside0.mk hx; have c0 := hx.c0; have c1 := hx.c1; have hk1 := hlk w1 hx; clear hx)
              | (go_at_call 95; refine (field_Name.calls k x.f0 true _ fn).mono ?_; rintro e w2 ⟨rfl, hd⟩; have hx := B1.out.step hd.below; clear hd B1 c0 c1 hk1; have B1 := Aside0.mk hx; have c0 := hx.c0; have c1 := hx.c1; clear hx)
              | (go_at_call 96; refine (field_forbidden.calls k x.f0 x.f1 true _ ff).mono ?_; rintro e w3 ⟨rfl, hd⟩; have hx := B1.out.step hd; clear hd B1 c0 c1; have B1 := Aside0.mk hx; have c0 := hx.c0; have c1 := hx.c1; clear hx)
              | (go_at_call 97; refine (field_Value.calls k x.f1 va _ fv).mono ?_; rintro e w4 ⟨rfl, hd⟩; have hx := B1.out.step hd; clear hd B1 c0 c1; have B1 := Aside0.mk hx; have c0 := hx.c0; have c1 := hx.c1; clear hx)
              | (at_mapUpdate; refine wpList_smap_update _ rfl _ _ _ rfl Tryz.underlying9 Tryz.underlying94 Tryz.underlying9 w.heap.size said rfl B1.out.sm HSL.out x.f0 x.f1 rfl rfl HS.out.1 HS.out.2 ?_; intro w5 hm5 hg5; have M5 := Aside0.mk (And.intro (Below.grown B1.out.bl0 hg5 (Nat.le_trans HW.out.1.size B1.out.bl.size) (fun k e => by cases e; exact Nat.le_refl _)) hm5); clear hm5 hg5))
            go_ret2
            exact walkPost_none B1.out.bl0 HP.out
      case true =>
        cases fb
        case false =>
          cases va
          case false =>
            have hp : walkP k names l [] false = (none, 3) := hp.symm
            have HP := Aside0.mk hp
            clear hp
            go_wp2_with (first
              | (go_at_call 38; refine (slices_Contains_string_string.calls k An cn names x.f0 true _ HNB HCN.out fc).mono ?_; rintro e w1 ⟨rfl, hd⟩; have hx := HB0.out.step hd.below; clear hd; have B1 := Aside0.mk hx; have c0 := hx.c0; have c1 := hx.c1; have hk1 := hlk w1 hx; clear hx)
              | (go_at_call 95; refine (field_Name.calls k x.f0 nm _ fn).mono ?_; rintro e w2 ⟨rfl, hd⟩; have hx := B1.out.step hd.below; clear hd B1 c0 c1 hk1; have B1 := Aside0.mk hx; have c0 := hx.c0; have c1 := hx.c1; clear hx)
              | (go_at_call 96; refine (field_forbidden.calls k x.f0 x.f1 false _ ff).mono ?_; rintro e w3 ⟨rfl, hd⟩; have hx := B1.out.step hd; clear hd B1 c0 c1; have B1 := Aside0.mk hx; have c0 := hx.c0; have c1 := hx.c1; clear hx)
              | (go_at_call 97; refine (field_Value.calls k x.f1 false _ fv).mono ?_; rintro e w4 ⟨rfl, hd⟩; have hx := B1.out.step hd; clear hd B1 c0 c1; have B1 := Aside0.mk hx; have c0 := hx.c0; have c1 := hx.c1; clear hx)
              | (at_mapUpdate; refine wpList_smap_update _ rfl _ _ _ rfl Tryz.underlying9 Tryz.underlying94 Tryz.underlying9 w.heap.size said rfl B1.out.sm HSL.out x.f0 x.f1 rfl rfl HS.out.1 HS.out.2 ?_; intro w5 hm5 hg5; have M5 := Aside0.mk (And.intro (Below.grown B1.out.bl0 hg5 (Nat.le_trans HW.out.1.size B1.out.bl.size) (fun k e => by cases e; exact Nat.le_refl _)) hm5); clear hm5 hg5))
            go_ret2
            exact walkPost_none B1.out.bl0 HP.out
          case true =>
            cases plain
            case false =>
              cases tw
              case false =>
                have hp : walkP k names l [] false = walkP k names (l.drop (i + 1)) ((x.f0, x.f1) :: said) false := hp.symm
                have HP := Aside0.mk hp
                clear hp
                go_wp2_with (first
                  | (go_at_call 38; refine (slices_Contains_string_string.calls k An cn names x.f0 true _ HNB HCN.out fc).mono ?_; rintro e w1 ⟨rfl, hd⟩; have hx := HB0.out.step hd.below; clear hd; have B1 := Aside0.mk hx; have c0 := hx.c0; have c1 := hx.c1; have hk1 := hlk w1 hx; clear hx)
                  | (go_at_call 95; refine (field_Name.calls k x.f0 nm _ fn).mono ?_; rintro e w2 ⟨rfl, hd⟩; have hx := B1.out.step hd.below; clear hd B1 c0 c1 hk1; have B1 := Aside0.mk hx; have c0 := hx.c0; have c1 := hx.c1; clear hx)
                  | (go_at_call 96; refine (field_forbidden.calls k x.f0 x.f1 false _ ff).mono ?_; rintro e w3 ⟨rfl, hd⟩; have hx := B1.out.step hd; clear hd B1 c0 c1; have B1 := Aside0.mk hx; have c0 := hx.c0; have c1 := hx.c1; clear hx)
                  | (go_at_call 97; refine (field_Value.calls k x.f1 true _ fv).mono ?_; rintro e w4 ⟨rfl, hd⟩; have hx := B1.out.step hd; clear hd B1 c0 c1; have B1 := Aside0.mk hx; have c0 := hx.c0; have c1 := hx.c1; clear hx)
                  | (at_mapUpdate; refine wpList_smap_update _ rfl _ _ _ rfl Tryz.underlying9 Tryz.underlying94 Tryz.underlying9 w.heap.size said rfl B1.out.sm HSL.out x.f0 x.f1 rfl rfl HS.out.1 HS.out.2 ?_; intro w5 hm5 hg5; have M5 := Aside0.mk (And.intro (Below.grown B1.out.bl0 hg5 (Nat.le_trans HW.out.1.size B1.out.bl.size) (fun k e => by cases e; exact Nat.le_refl _)) hm5); clear hm5 hg5))
                go_roundg (gk - 1)
                case measure => have := HJ'.out; have := HI.out; omega
                case rel => exact ⟨i + 1, false, (x.f0, x.f1) :: said, by rw [hwi]; rfl, rfl, ⟨by have := HI.out; omega, by have := HJ'.out; have := HI.out; omega, by have := HJ'.out; simp only [List.length_cons]; omega, HP.out.symm⟩, M5⟩
              case true =>
                have hp : walkP k names l [] false = (none, 7) := hp.symm
                have HP := Aside0.mk hp
                clear hp
                go_wp2_with (first
                  | (go_at_call 38; refine (slices_Contains_string_string.calls k An cn names x.f0 true _ HNB HCN.out fc).mono ?_; rintro e w1 ⟨rfl, hd⟩; have hx := HB0.out.step hd.below; clear hd; have B1 := Aside0.mk hx; have c0 := hx.c0; have c1 := hx.c1; have hk1 := hlk w1 hx; clear hx)
                  | (go_at_call 95; refine (field_Name.calls k x.f0 nm _ fn).mono ?_; rintro e w2 ⟨rfl, hd⟩; have hx := B1.out.step hd.below; clear hd B1 c0 c1 hk1; have B1 := Aside0.mk hx; have c0 := hx.c0; have c1 := hx.c1; clear hx)
                  | (go_at_call 96; refine (field_forbidden.calls k x.f0 x.f1 false _ ff).mono ?_; rintro e w3 ⟨rfl, hd⟩; have hx := B1.out.step hd; clear hd B1 c0 c1; have B1 := Aside0.mk hx; have c0 := hx.c0; have c1 := hx.c1; clear hx)
                  | (go_at_call 97; refine (field_Value.calls k x.f1 true _ fv).mono ?_; rintro e w4 ⟨rfl, hd⟩; have hx := B1.out.step hd; clear hd B1 c0 c1; have B1 := Aside0.mk hx; have c0 := hx.c0; have c1 := hx.c1; clear hx)
                  | (at_mapUpdate; refine wpList_smap_update _ rfl _ _ _ rfl Tryz.underlying9 Tryz.underlying94 Tryz.underlying9 w.heap.size said rfl B1.out.sm HSL.out x.f0 x.f1 rfl rfl HS.out.1 HS.out.2 ?_; intro w5 hm5 hg5; have M5 := Aside0.mk (And.intro (Below.grown B1.out.bl0 hg5 (Nat.le_trans HW.out.1.size B1.out.bl.size) (fun k e => by cases e; exact Nat.le_refl _)) hm5); clear hm5 hg5))
                go_ret2
                exact walkPost_none B1.out.bl0 HP.out
            case true =>
              have hp : walkP k names l [] false = (none, 7) := hp.symm
              have HP := Aside0.mk hp
              clear hp
              go_wp2_with (first
                | (go_at_call 38; refine (slices_Contains_string_string.calls k An cn names x.f0 true _ HNB HCN.out fc).mono ?_; rintro e w1 ⟨rfl, hd⟩; have hx := HB0.out.step hd.below; clear hd; have B1 := Aside0.mk hx; have c0 := hx.c0; have c1 := hx.c1; have hk1 := hlk w1 hx; clear hx)
                | (go_at_call 95; refine (field_Name.calls k x.f0 nm _ fn).mono ?_; rintro e w2 ⟨rfl, hd⟩; have hx := B1.out.step hd.below; clear hd B1 c0 c1 hk1; have B1 := Aside0.mk hx; have c0 := hx.c0; have c1 := hx.c1; clear hx)
                | (go_at_call 96; refine (field_forbidden.calls k x.f0 x.f1 false _ ff).mono ?_; rintro e w3 ⟨rfl, hd⟩; have hx := B1.out.step hd; clear hd B1 c0 c1; have B1 := Aside0.mk hx; have c0 := hx.c0; have c1 := hx.c1; clear hx)
                | (go_at_call 97; refine (field_Value.calls k x.f1 true _ fv).mono ?_; rintro e w4 ⟨rfl, hd⟩; have hx := B1.out.step hd; clear hd B1 c0 c1; have B1 := Aside0.mk hx; have c0 := hx.c0; have c1 := hx.c1; clear hx)
                | (at_mapUpdate; refine wpList_smap_update _ rfl _ _ _ rfl Tryz.underlying9 Tryz.underlying94 Tryz.underlying9 w.heap.size said rfl B1.out.sm HSL.out x.f0 x.f1 rfl rfl HS.out.1 HS.out.2 ?_; intro w5 hm5 hg5; have M5 := Aside0.mk (And.intro (Below.grown B1.out.bl0 hg5 (Nat.le_trans HW.out.1.size B1.out.bl.size) (fun k e => by cases e; exact Nat.le_refl _)) hm5); clear hm5 hg5))
              go_ret2
              exact walkPost_none B1.out.bl0 HP.out
        case true =>
          have hp : walkP k names l [] false = (none, 6) := hp.symm
          have HP := Aside0.mk hp
          clear hp
          go_wp2_with (first
            | (go_at_call 38; refine (slices_Contains_string_string.calls k An cn names x.f0 true _ HNB HCN.out fc).mono ?_; rintro e w1 ⟨rfl, hd⟩; have hx := HB0.out.step hd.below; clear hd; have B1 := Aside0.mk hx; have c0 := hx.c0; have c1 := hx.c1; have hk1 := hlk w1 hx; clear hx)
            | (go_at_call 95; refine (field_Name.calls k x.f0 nm _ fn).mono ?_; rintro e w2 ⟨rfl, hd⟩; have hx := B1.out.step hd.below; clear hd B1 c0 c1 hk1; have B1 := Aside0.mk hx; have c0 := hx.c0; have c1 := hx.c1; clear hx)
            | (go_at_call 96; refine (field_forbidden.calls k x.f0 x.f1 true _ ff).mono ?_; rintro e w3 ⟨rfl, hd⟩; have hx := B1.out.step hd; clear hd B1 c0 c1; have B1 := Aside0.mk hx; have c0 := hx.c0; have c1 := hx.c1; clear hx)
            | (go_at_call 97; refine (field_Value.calls k x.f1 va _ fv).mono ?_; rintro e w4 ⟨rfl, hd⟩; have hx := B1.out.step hd; clear hd B1 c0 c1; have B1 := Aside0.mk hx; have c0 := hx.c0; have c1 := hx.c1; clear hx)
            | (at_mapUpdate; refine wpList_smap_update _ rfl _ _ _ rfl Tryz.underlying9 Tryz.underlying94 Tryz.underlying9 w.heap.size said rfl B1.out.sm HSL.out x.f0 x.f1 rfl rfl HS.out.1 HS.out.2 ?_; intro w5 hm5 hg5; have M5 := Aside0.mk (And.intro (Below.grown B1.out.bl0 hg5 (Nat.le_trans HW.out.1.size B1.out.bl.size) (fun k e => by cases e; exact Nat.le_refl _)) hm5); clear hm5 hg5))
          go_ret2
          exact walkPost_none B1.out.bl0 HP.out
    · obtain rfl : i = l.length := by have := HJ.out.1; omega
      have e1 : decide ((l.length : Int) < (l.length : Int)) = false := decide_eq_false (by omega)
      have hp := HJ.out.2.2.2
      rw [List.drop_length] at hp
      have HP := Aside0.mk hp
      clear hp HJ hi
      go_wp2
      go_ret2
      exact walkPost_some HW.out.1 HP.out.symm (Nat.le_refl _) HW.out.2
end Go.Proofs.YtififgiicpdndaaGreatDoor.Fw
