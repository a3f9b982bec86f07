/- Merged: FReq FReq2 FLen FPure FCalls FRows FApp FOpen FForbids FFew FGets FMore FStatus. -/
import Derived.Test.YtififgiicpdndaaGreatDoorFWalk
import Derived.Laws.Cover1
import Derived.Test.YtififgiicpdndaaGreatDoorAtoiLay
import Derived.Lib.AtoiErrMem
import Derived.Maps.AppendAt
import Derived.Deep.AppendLies
import Derived.Laws.Append
import Derived.Deep.SlicePairs
import Derived.SizedLaws
import Derived.Lib.SmallJoins
import Derived.Test.YtififgiicpdndaaGreatDoorXMix
import Derived.Test.YtififgiicpdndaaGreatDoorWGuard
/- field.Request, Response, Trailers: contracts. -/
namespace Go.Proofs.YtififgiicpdndaaGreatDoor.Fw
open Go.RowKit Go.Proofs.YtififgiicpdndaaGreatDoor.XMi Go.Proofs.YtififgiicpdndaaGreatDoorW.PrintWords Go.Proofs.YtififgiicpdndaaGreatDoorW.PrintLast Go.Proofs.YtififgiicpdndaaGreatDoorW.PrintMore Go.Proofs.YtififgiicpdndaaGreatDoor.Ms
def colStatus : ByteArray := ⟨#[58, 115, 116, 97, 116, 117, 115]⟩
theorem walkP_cases (k : Nat) (names : List ByteArray) : ∀ (l : List S61) (said : List (ByteArray × ByteArray)) (plain : Bool), (∃ m, walkP k names l said plain = (some m, 0)) ∨ walkP k names l said plain = (none, 3) ∨ walkP k names l said plain = (none, 6) ∨ walkP k names l said plain = (none, 7)
  | [], said, _ => .inl ⟨said, rfl⟩
  | f :: l, said, plain => by
    unfold walkP
    split
    · exact .inr (.inr (.inl rfl))
    · split
      · exact .inr (.inl rfl)
      · split
        · exact .inr (.inr (.inr rfl))
        · split
          · exact walkP_cases k names l _ _
          · exact walkP_cases k names l _ _
theorem post_none {k : Nat} {names : List ByteArray} {l : List S61} {w w' : World} {e : Ending} {n : Int} (h : WalkPost k names l w e w') (hp : walkP k names l [] false = (none, n)) : e = .returned (.tuple #[.map none, .int .i64 n]) ∧ Below w.heap.size w w' := by
  unfold WalkPost at h
  rw [hp] at h
  obtain ⟨hb, mv, rfl, rfl⟩ := h
  exact ⟨rfl, hb⟩
theorem post_some {k : Nat} {names : List ByteArray} {l : List S61} {w w' : World} {e : Ending} {n : Int} {m : List (ByteArray × ByteArray)} (h : WalkPost k names l w e w') (hp : walkP k names l [] false = (some m, n)) : ∃ b, e = .returned (.tuple #[.map (some b), .int .i64 n]) ∧ Below w.heap.size w w' ∧ w.heap.size ≤ b ∧ SMap Tryz.prog 9 9 w' b m := by
  unfold WalkPost at h
  rw [hp] at h
  obtain ⟨hb, mv, rfl, b, rfl, h1, h2⟩ := h
  exact ⟨b, rfl, hb, h1, h2⟩
set_option maxHeartbeats 1600000 in
set_option maxRecDepth 20000 in
theorem trailers_calls (k : Nat) (A : Option Addr) (l : List S61) (c : Nat) (w : World) (hl : l.length ≤ 1000000000) (hC : k61.C w A l.length l) (hF : ∀ f ∈ l, Fit1 k [] f) :
    Calls Tryz.prog 29 #[.slice A l.length c] w fun e w' => e = .returned (.int .i64 (walkP k [] l [] false).2) ∧ Below w.heap.size w w' := by
  have HW : Aside0 (Calls Tryz.prog 69 #[.slice A l.length c, .slice none 0 0] w (WalkPost k [] l w)) := ⟨walk_calls k A l c none [] 0 w hl hC (Kd.C_nil _ _) (Nat.le_refl _) hF⟩
  clear hl hC hF
  go_enter Tryz.func29, Tryz.ntmps29
  go_wp2_with (first | (go_at_call 69; refine HW.out.mono ?_; rintro e w1 ⟨hb, mv, rfl, -⟩; have HB := Aside0.mk hb; clear hb))
  go_ret
  exact ⟨rfl, HB.out⟩
theorem strs_C (w : World) (xs : List ByteArray) (hn : xs.length ≤ 9223372036854775807) : Kd.C Kd.string (w.alloc (.cells (xs.map Value.string).toArray 9)) (some ⟨w.heap.size, 0, none⟩) xs.length xs := by
  refine ⟨rfl, hn, fun _ => ⟨_, rfl, fun j p hp => ⟨[.string p], rfl, rfl, fun i u hu => ?_⟩⟩⟩
  rcases i with _ | i
  · obtain rfl := Option.some.inj hu
    have e := heap_alloc_new w (.cells (xs.map Value.string).toArray 9)
    have e2 : (⟨w.heap.size, 0, none⟩ : Addr).add (j * Kd.string.sz + 0) = ⟨w.heap.size, j, none⟩ := by
      show (⟨w.heap.size, 0, none⟩ : Addr).add (j * 1 + 0) = _
      rw [Nat.mul_one]
      unfold Addr.add
      split
      · next h => rw [show j = 0 from h]
      · simp
    rw [e2]
    unfold World.cell?
    rw [show (⟨w.heap.size, j, none⟩ : Addr).block = w.heap.size from rfl, e]
    show (xs.map Value.string).toArray[j]? = _
    rw [List.getElem?_toArray, List.getElem?_map, hp]
    rfl
  · cases hu
def digitsB (s : ByteArray) : Bool := (field_digits.f s).getD false
/-- What Response says of the statuses' text. -/
def statusP (s : ByteArray) : Bool := decide (s.size = 3) && digitsB s && !(Op.bytesLess s.toList [49, 48, 48]) && (Op.bytesLess s.toList [53, 57, 57] || s.toList == [53, 57, 57])
def respS (s : ByteArray) : Int := if statusP s then 0 else 3
theorem respS_of {s : ByteArray} {b : Bool} (h : statusP s = b) : respS s = if b then 0 else 3 := by unfold respS; rw [h]
def respP (k : Nat) (l : List S61) : Int :=
  match walkP k [colStatus] l [] false with
  | (some m, _) => respS ((Ms.look m colStatus).getD ⟨#[]⟩)
  | (none, n) => n
set_option maxHeartbeats 1600000 in
set_option maxRecDepth 20000 in
theorem response_calls (k : Nat) (A : Option Addr) (l : List S61) (c : Nat) (w : World) (hl : l.length ≤ 1000000000) (hC : k61.C w A l.length l) (hF : ∀ f ∈ l, Fit1 k [colStatus] f) (hD : ∀ m, walkP k [colStatus] l [] false = (some m, 0) → field_digits.f ((Ms.look m colStatus).getD ⟨#[]⟩) = some (digitsB ((Ms.look m colStatus).getD ⟨#[]⟩))) :
    Calls Tryz.prog 62 #[.slice A l.length c] w fun e w' => e = .returned (.int .i64 (respP k l)) ∧ Below w.heap.size w w' := by
  have HW : Aside0 (Calls Tryz.prog 69 #[.slice A l.length c, .slice (some ⟨w.heap.size, 0, none⟩) 1 1] (w.alloc (.cells #[.string colStatus] 9)) (WalkPost k [colStatus] l (w.alloc (.cells #[.string colStatus] 9)))) :=
    ⟨walk_calls k A l c _ [colStatus] 1 _ hl (Kd.C_alloc hC _) (strs_C w [colStatus] (by decide)) (Nat.le_refl _) hF⟩
  clear hl hC hF
  unfold respP
  rcases walkP_cases k [colStatus] l [] false with ⟨m, hp⟩ | hp | hp | hp
  · have hD := hD m hp
    have HP := Aside0.mk hp
    rw [hp]
    clear hp
    show Calls _ _ _ _ fun e w' => e = .returned (.int .i64 (respS ((Ms.look m colStatus).getD ⟨#[]⟩))) ∧ Below w.heap.size w w'
    have hlk : ∀ w1 b, SMap Tryz.prog 9 9 w1 b m → (Instr.lookup 94 (.map (some b)) (.string ⟨#[58, 115, 116, 97, 116, 117, 115]⟩) false).run Tryz.prog w1 = .ok (.string ((Ms.look m colStatus).getD ⟨#[]⟩)) w1 := fun w1 b h => h.look (T := 94) Tryz.underlying9 Tryz.underlying94 Tryz.underlying9 (zero9 w1) colStatus (by decide) false
    generalize (Ms.look m colStatus).getD ⟨#[]⟩ = s at hD hlk ⊢
    have hst : ∀ a b c d e, decide (s.size = 3) = a → digitsB s = b → Op.bytesLess s.toList [49, 48, 48] = c → Op.bytesLess s.toList [53, 57, 57] = d → (s.toList == [53, 57, 57]) = e → statusP s = (a && b && !c && (d || e)) := fun a b c d e h1 h2 h3 h4 h5 => by unfold statusP; rw [h1, h2, h3, h4, h5]
    by_cases h3 : s.size = 3
    · have e3 : ((s.size : Int) != 3) = false := by simp; omega
      have hst := fun b c d e => hst _ b c d e (decide_eq_true h3)
      clear h3
      generalize digitsB s = dg at hD hst
      cases dg
      case false =>
        have HST := Aside0.mk (respS_of (b := false) (hst _ _ _ _ rfl rfl rfl rfl))
        clear hst
        rw [HST.out]
        go_enter Tryz.func62, Tryz.ntmps62
        go_wp2_with (first
          | (go_at_call 69; refine HW.out.mono ?_; rintro e w1 hx; obtain ⟨b, rfl, hb, _, hs⟩ := post_some hx HP.out; have hk1 := hlk w1 b hs; have hb := below_step (below_alloc (Below.refl _ _) _) hb; have HB := Aside0.mk hb; clear hb hx hs HW)
          | (go_at_call 74; refine (field_digits.calls s _ _ hD).mono ?_; rintro e w2 ⟨rfl, hb2⟩; have hb2 := below_step HB.out hb2; clear HB; have HB := Aside0.mk hb2; clear hb2))
        go_ret
        exact ⟨rfl, HB.out⟩
      case true =>
        generalize hl1 : Op.bytesLess s.toList [49, 48, 48] = l1 at hst
        generalize hl2 : Op.bytesLess s.toList [53, 57, 57] = l2 at hst
        generalize hl3 : (s.toList == [53, 57, 57]) = l3 at hst
        cases l1 <;> cases l2 <;> cases l3
        all_goals
          have HST := Aside0.mk (respS_of (hst _ _ _ _ rfl rfl rfl rfl))
          clear hst
          rw [HST.out]
          go_enter Tryz.func62, Tryz.ntmps62
          go_wp2_with (first
            | (go_at_call 69; refine HW.out.mono ?_; rintro e w1 hx; obtain ⟨b, rfl, hb, _, hs⟩ := post_some hx HP.out; have hk1 := hlk w1 b hs; have hb := below_step (below_alloc (Below.refl _ _) _) hb; have HB := Aside0.mk hb; clear hb hx hs HW)
            | (go_at_call 74; refine (field_digits.calls s _ _ hD).mono ?_; rintro e w2 ⟨rfl, hb2⟩; have hb2 := below_step HB.out hb2; clear HB; have HB := Aside0.mk hb2; clear hb2))
          go_ret
          exact ⟨rfl, HB.out⟩
    · have e3 : ((s.size : Int) != 3) = true := by simp; omega
      have HST := Aside0.mk (respS_of (hst _ _ _ _ _ (decide_eq_false h3) rfl rfl rfl rfl))
      clear hst h3
      rw [HST.out]
      go_enter Tryz.func62, Tryz.ntmps62
      go_wp2_with (first
      | (go_at_call 69; refine HW.out.mono ?_; rintro e w1 hx; obtain ⟨b, rfl, hb, _, hs⟩ := post_some hx HP.out; have hk1 := hlk w1 b hs; have hb := below_step (below_alloc (Below.refl _ _) _) hb; have HB := Aside0.mk hb; clear hb hx hs HW)
      | (go_at_call 74; refine (field_digits.calls s _ _ hD).mono ?_; rintro e w2 ⟨rfl, hb2⟩; have hb2 := below_step HB.out hb2; clear HB; have HB := Aside0.mk hb2; clear hb2))
      go_ret
      exact ⟨rfl, HB.out⟩
  all_goals
    have HP := Aside0.mk hp
    rw [hp]
    clear hp hD
    go_enter Tryz.func62, Tryz.ntmps62
    go_wp2_with (first | (go_at_call 69; refine HW.out.mono ?_; rintro e w1 hx; obtain ⟨rfl, hb⟩ := post_none hx HP.out; have HB := Aside0.mk hb; clear hb hx HW))
    go_ret
    exact ⟨rfl, below_step (below_alloc (Below.refl _ _) _) HB.out⟩
end Go.Proofs.YtififgiicpdndaaGreatDoor.Fw
/- field.Request: the contract. -/
namespace Go.Proofs.YtififgiicpdndaaGreatDoor.Fw
open Go.RowKit Go.Proofs.YtififgiicpdndaaGreatDoor.XMi Go.Proofs.YtififgiicpdndaaGreatDoorW.PrintWords Go.Proofs.YtififgiicpdndaaGreatDoorW.PrintLast Go.Proofs.YtififgiicpdndaaGreatDoorW.PrintMore Go.Proofs.YtififgiicpdndaaGreatDoor.Ms
def pathB : ByteArray := ⟨#[58, 112, 97, 116, 104]⟩
def reqNames : List ByteArray := [⟨#[58, 109, 101, 116, 104, 111, 100]⟩, ⟨#[58, 115, 99, 104, 101, 109, 101]⟩, ⟨#[58, 97, 117, 116, 104, 111, 114, 105, 116, 121]⟩, pathB]
def sayB (m : List (ByteArray × ByteArray)) (s : ByteArray) : ByteArray := (Ms.look m s).getD ⟨#[]⟩
def prefB (s : ByteArray) : Bool := (strings_HasPrefix.f s ⟨#[47]⟩).getD false
def reqS (m : List (ByteArray × ByteArray)) (names : List ByteArray) : Int := if names.all (fun n => !((sayB m n).toList == [])) && prefB (sayB m pathB) then 0 else 3
def reqP (k : Nat) (l : List S61) : Int :=
  match walkP k reqNames l [] false with
  | (some m, _) => reqS m reqNames
  | (none, n) => n
theorem str_at {w : World} {A : Option Addr} {names : List ByteArray} (h : Kd.C Kd.string w A names.length names) (i : Nat) (hi : i < names.length) : ∃ ad, A = some ad ∧ w.cell? (ad.add i) = some (.string names[i]) := by
  obtain ⟨ad, c, e, _, hK, hc⟩ := Kd.C_get h ⟨#[]⟩ (i : Int) (by omega) (by omega)
  have hc0 := hc 0 (.string (names.getD i ⟨#[]⟩)) (by rw [show c = [.string (names.getD (i : Int).toNat ⟨#[]⟩)] from hK]; rfl)
  rw [show (i : Int).toNat * Kd.string.sz + 0 = i from Nat.mul_one i, List.getD_eq_getElem?_getD, List.getElem?_eq_getElem hi] at hc0
  exact ⟨ad, e, hc0⟩
theorem add0 (b j : Nat) : (⟨b, 0, none⟩ : Addr).add j = ⟨b, j, none⟩ := by
  unfold Addr.add
  split
  · next h => rw [show j = 0 from h]
  · simp
set_option maxHeartbeats 1600000 in
set_option maxRecDepth 20000 in
theorem request_calls (k : Nat) (A : Option Addr) (l : List S61) (c : Nat) (w : World) (hl : l.length ≤ 1000000000) (hC : k61.C w A l.length l) (hF : ∀ f ∈ l, Fit1 k reqNames f) (hD : ∀ m, walkP k reqNames l [] false = (some m, 0) → strings_HasPrefix.f (sayB m pathB) ⟨#[47]⟩ = some (prefB (sayB m pathB))) :
    Calls Tryz.prog 31 #[.slice A l.length c] w fun e w' => e = .returned (.int .i64 (reqP k l)) ∧ Below w.heap.size w w' := by
  have HW : Aside0 (Calls Tryz.prog 69 #[.slice A l.length c, .slice (some ⟨w.heap.size, 0, none⟩) 4 4] (w.alloc (.cells #[.string ⟨#[58, 109, 101, 116, 104, 111, 100]⟩, .string ⟨#[58, 115, 99, 104, 101, 109, 101]⟩, .string ⟨#[58, 97, 117, 116, 104, 111, 114, 105, 116, 121]⟩, .string ⟨#[58, 112, 97, 116, 104]⟩] 9)) (WalkPost k reqNames l (w.alloc (.cells #[.string ⟨#[58, 109, 101, 116, 104, 111, 100]⟩, .string ⟨#[58, 115, 99, 104, 101, 109, 101]⟩, .string ⟨#[58, 97, 117, 116, 104, 111, 114, 105, 116, 121]⟩, .string ⟨#[58, 112, 97, 116, 104]⟩] 9)))) :=
    ⟨walk_calls k A l c _ reqNames 4 _ hl (Kd.C_alloc hC _) (strs_C w reqNames (by decide)) (Nat.le_refl _) hF⟩
  have HN : Aside0 (Kd.C Kd.string (w.alloc (.cells #[.string ⟨#[58, 109, 101, 116, 104, 111, 100]⟩, .string ⟨#[58, 115, 99, 104, 101, 109, 101]⟩, .string ⟨#[58, 97, 117, 116, 104, 111, 114, 105, 116, 121]⟩, .string ⟨#[58, 112, 97, 116, 104]⟩] 9)) (some ⟨w.heap.size, 0, none⟩) reqNames.length reqNames) := ⟨strs_C w reqNames (by decide)⟩
  clear hl hC hF
  unfold reqP
  rcases walkP_cases k reqNames l [] false with ⟨m, hp⟩ | hp | hp | hp
  · have hD := hD m hp
    have HP := Aside0.mk hp
    rw [hp]
    clear hp
    show Calls _ _ _ _ fun e w' => e = .returned (.int .i64 (reqS m reqNames)) ∧ Below w.heap.size w w'
    have hlk : ∀ w1 b s, SMap Tryz.prog 9 9 w1 b m → s.size ≤ maxLen → (Instr.lookup 94 (.map (some b)) (.string s) false).run Tryz.prog w1 = .ok (.string (sayB m s)) w1 := fun w1 b s h hs => h.look (T := 94) Tryz.underlying9 Tryz.underlying94 Tryz.underlying9 (zero9 w1) s hs false
    have hnm : Aside0 (reqNames.length = 4 ∧ ∀ x ∈ reqNames, x.size ≤ maxLen) := ⟨by decide⟩
    have HR : Aside0 (reqS m reqNames = if reqNames.all (fun n => !((sayB m n).toList == [])) && prefB (sayB m pathB) then 0 else 3) := ⟨rfl⟩
    generalize reqNames = names at HW HN HP hnm HR ⊢
    generalize reqS m names = r at HR ⊢
    go_enter Tryz.func31, Tryz.ntmps31
    go_wp2_with (first
      | (go_at_call 69; refine HW.out.mono ?_; rintro e w1 hx; obtain ⟨b, rfl, hb, _, hs⟩ := post_some hx HP.out; have HS := Aside0.mk hs; have HN1 := Aside0.mk (Kd.C_below HN.out hb); have hb := below_step (below_alloc (Below.refl _ _) _) hb; have HB := Aside0.mk hb; clear hb hx hs HW))
    have hD : strings_HasPrefix.f (sayB m pathB) ⟨#[47]⟩ = some (prefB (sayB m pathB)) := hD
    have HD := Aside0.mk hD
    have hkp := hlk w1 b ⟨#[58, 112, 97, 116, 104]⟩ HS.out (by decide)
    have hkp : (Instr.lookup 94 (.map (some b)) (.string ⟨#[58, 112, 97, 116, 104]⟩) false).run Tryz.prog w1 = .ok (.string (sayB m pathB)) w1 := hkp
    have hlk := fun s hs => hlk w1 b s HS.out hs
    clear hD
    generalize prefB (sayB m pathB) = pf at HR HD
    go_loopg [20] 5 (fun kq v20 w' => ∃ i : Nat, v20 = .int .i64 i ∧ w' = w1 ∧ Aside0 (i ≤ 4 ∧ i + kq = 5 ∧ ∀ n ∈ names.take i, (sayB m n).toList ≠ []))
    case atStart => exact ⟨0, rfl, rfl, ⟨by omega, by omega, by simp⟩⟩
    case round =>
      obtain ⟨i, rfl, rfl, HJ⟩ := hrel
      by_cases hi : i < 4
      · have HI := Aside0.mk hi
        have e1 : decide ((i : Int) < (4 : Int)) = true := decide_eq_true (by omega)
        have hin : i < names.length := by rw [hnm.out.1]; exact hi
        obtain ⟨ad, hA, k0⟩ := str_at HN1.out i hin
        cases hA
        rw [add0] at k0
        have p1 : (0 : Int) ≤ (i : Int) := by omega
        have p2 : (i : Int) < (4 : Int) := by omega
        have hwi : wrap64 ((i : Int) + 1) = (i : Int) + 1 := w64_in ((i : Int) + 1) (by omega)
        have hk1 := hlk names[i] (hnm.out.2 _ (List.getElem_mem hin))
        have HNX : Aside0 (∀ n ∈ names.take (i + 1), n ∈ names.take i ∨ n = names[i]) := ⟨fun n hn => by
          rw [List.take_succ_eq_append_getElem hin] at hn
          rcases List.mem_append.1 hn with h | h
          · exact .inl h
          · exact .inr (List.mem_singleton.1 h)⟩
        have HM : Aside0 (names[i] ∈ names) := ⟨List.getElem_mem hin⟩
        generalize names[i] = x at k0 hk1 HNX HM
        clear hi hin hlk hkp
        generalize hq : ((sayB m x).toList == []) = q
        have HQ := Aside0.mk hq
        cases q
        case true =>
          have HR3 : Aside0 (r = 3) := ⟨by
            rw [HR.out, if_neg]
            intro h
            rw [Bool.and_eq_true, List.all_eq_true] at h
            have := h.1 x HM.out
            rw [HQ.out] at this
            cases this⟩
          go_wp2
          go_ret
          exact ⟨by rw [HR3.out]; rfl, HB.out⟩
        case false =>
          go_wp2
          go_roundg (gk - 1)
          case measure => have := HJ.out; have := HI.out; omega
          case rel => exact ⟨i + 1, by first | rfl | (rw [hwi]; rfl), rfl, ⟨by have := HI.out; omega, by have := HJ.out; have := HI.out; omega, fun n hn => by
            rcases HNX.out n hn with h | rfl
            · exact HJ.out.2.2 n h
            · exact beq_eq_false_iff_ne.1 HQ.out⟩⟩
      · obtain rfl : i = 4 := by have := HJ.out.1; omega
        have HA : Aside0 ((names.all fun n => !((sayB m n).toList == [])) = true) := ⟨by
          rw [List.all_eq_true]
          intro n hn
          have := HJ.out.2.2 n (by rw [List.take_of_length_le (Nat.le_of_eq hnm.out.1)]; exact hn)
          rw [beq_eq_false_iff_ne.2 this]
          rfl⟩
        have HR := Aside0.mk (HR.out.trans (by rw [HA.out, Bool.true_and]))
        have e1 : decide (((4 : Nat) : Int) < (4 : Int)) = false := by decide
        clear hi HJ hlk
        cases pf
        all_goals
          go_wp2_with (first | (go_at_call 71; refine (strings_HasPrefix.calls _ _ _ _ HD.out).mono ?_; rintro e w2 ⟨rfl, hd⟩; have HB2 := Aside0.mk (below_step HB.out hd.below); clear hd))
          go_ret
          exact ⟨by rw [HR.out]; rfl, HB2.out⟩
  all_goals
    have HP := Aside0.mk hp
    rw [hp]
    clear hp hD
    go_enter Tryz.func31, Tryz.ntmps31
    go_wp2_with (first | (go_at_call 69; refine HW.out.mono ?_; rintro e w1 hx; obtain ⟨rfl, hb⟩ := post_none hx HP.out; have HB := Aside0.mk hb; clear hb hx HW))
    go_ret
    exact ⟨rfl, below_step (below_alloc (Below.refl _ _) _) HB.out⟩
end Go.Proofs.YtififgiicpdndaaGreatDoor.Fw
/- field.Length: the contract. -/
namespace Go.Proofs.YtififgiicpdndaaGreatDoor.Fw
open Go.RowKit Go.Proofs.YtififgiicpdndaaGreatDoor.XMi Go.Proofs.YtififgiicpdndaaGreatDoorW.PrintWords Go.Proofs.YtififgiicpdndaaGreatDoorW.PrintLast Go.Proofs.YtififgiicpdndaaGreatDoorW.PrintMore Go.Proofs.YtififgiicpdndaaGreatDoor.Ms
def lenB : ByteArray := ⟨#[99, 111, 110, 116, 101, 110, 116, 45, 108, 101, 110, 103, 116, 104]⟩
instance : Inhabited S61 := ⟨z61⟩
def otherB (s : ByteArray) (f : S61) : Bool := f.f0.toList == [99, 111, 110, 116, 101, 110, 116, 45, 108, 101, 110, 103, 116, 104] && f.f1.toList != s.toList
set_option maxHeartbeats 800000 in
theorem other_calls (s : ByteArray) (x : S61) (w : World) (b : Nat) (hb : w.heap[b]? = some (.cells #[.string s] 9 (0, 0))) :
    Calls Tryz.prog 73 #[.agg #[.string x.f0, .string x.f1], .pointer (some ⟨b, 0, none⟩)] w fun e w' => e = .returned (.bool (otherB s x)) ∧ Below w.heap.size w w' := by
  have hlt : b < w.heap.size := by
    rcases Nat.lt_or_ge b w.heap.size with h | h
    · exact h
    · rw [Array.getElem?_eq_none h] at hb; cases hb
  have HB : Aside0 ((w.alloc (.cells #[.string x.f0, .string x.f1] 61)).cell? ⟨b, 0, none⟩ = some (.string s)) := ⟨by
    have := (Below.heap_alloc w (.cells #[.string x.f0, .string x.f1] 61) b hlt).trans hb
    simp [World.cell?, this]⟩
  have HO : Aside0 (otherB s x = (x.f0.toList == [99, 111, 110, 116, 101, 110, 116, 45, 108, 101, 110, 103, 116, 104] && x.f1.toList != s.toList)) := ⟨rfl⟩
  clear hb hlt
  generalize otherB s x = o at HO ⊢
  generalize hq : (x.f0.toList == [99, 111, 110, 116, 101, 110, 116, 45, 108, 101, 110, 103, 116, 104]) = q at HO
  have k0 := HB.out
  cases q
  all_goals
    go_enter Tryz.func73, Tryz.ntmps73
    go_wp2
    go_ret
    exact ⟨by rw [HO.out]; rfl, below_alloc (Below.refl _ _) _⟩
def encL (x : S61) : List Value := [.string x.f0, .string x.f1]
theorem contains_calls (s : ByteArray) (A : Option Addr) (l : List S61) (c : Nat) (w : World) (b : Nat) (hb : w.heap[b]? = some (.cells #[.string s] 9 (0, 0))) (hn : 0 < l.length) (hl : l.length ≤ 1000000000) (hC : k61.C w A l.length l) :
    Calls Tryz.prog 72 #[.slice A l.length c, .func (.func 73) #[] #[.pointer (some ⟨b, 0, none⟩)]] w fun e w' => e = .returned (.bool (l.any (otherB s))) ∧ Below w.heap.size w w' := by
  have hblt : ∀ {w : World} {b : Nat} {o : Obj}, w.heap[b]? = some o → b < w.heap.size := fun {w b o} hb => by
    rcases Nat.lt_or_ge b w.heap.size with h | h
    · exact h
    · rw [Array.getElem?_eq_none h] at hb; cases hb
  have hp : PredBelow Tryz.prog 73 #[.pointer (some ⟨b, 0, none⟩)] (fun x => .agg (encL x).toArray) (otherB s) w := fun W x hW =>
    (other_calls s x W b ((hW.block b (hblt hb)).trans hb)).mono fun e w' ⟨he, hb2⟩ => ⟨he, below_step hW hb2⟩
  obtain ⟨ad, rfl, h0, h1⟩ := elem_at hC (Below.refl _ _) 0 hn
  obtain ⟨g, off, sp⟩ := ad
  have hsp : sp = none := by
    rw [Nat.zero_mul] at h0
    have h0 : w.cell? ⟨g, off, sp⟩ = some (.string l[0].f0) := h0
    unfold World.cell? at h0
    split at h0
    · split at h0
      · cases h0
      · next h => exact Option.not_isSome_iff_eq_none.1 h
    · cases h0
  subst hsp
  have hg : g < w.heap.size := by
    have := World.block_lt_of_cell? w _ h0
    rwa [Nat.zero_mul] at this
  have := AnyQ.slices_ContainsFunc Tryz.SlH0_8 2 Tryz.isAgg61 Tryz.sizeOf61 encL (fun _ => rfl) (otherB s) 73 #[.pointer (some ⟨b, 0, none⟩)] (enters_of Tryz.func73 (by kernel_rfl) rfl) g off l.length c l w hp (Nat.le_refl _) (by omega) hg (fun j hj i v hi => by
    obtain ⟨ad, e, a0, a1⟩ := elem_at hC (Below.refl _ _) j hj
    cases e
    have hlj : l[j]! = l[j] := by simp [hj]
    rw [hlj] at hi
    have e1 : (⟨g, off, none⟩ : Addr).add (j * 2) = ⟨g, off + j * 2, none⟩ := by
      unfold Addr.add
      split
      · next h => rw [h, Nat.add_zero]
      · rfl
    rw [e1] at a0 a1
    rcases i with _ | _ | i
    · obtain rfl := Option.some.inj hi
      exact a0
    · obtain rfl := Option.some.inj hi
      exact a1
    · cases hi)
  rw [List.take_length] at this
  exact this
def getP (name : ByteArray) : List S61 → Option ByteArray
  | [] => none
  | f :: l => if f.f0 = name then some f.f1 else getP name l
def lenN (s : ByteArray) : Int := (Lib.atoi s.data.toList).getD 0
def lenS (l : List S61) (s : ByteArray) : Int × Int := if l.any (otherB s) || !digitsB s || decide ((s.size : Int) > 9) then (-1, 3) else (lenN s, 0)
def lenP (l : List S61) : Int × Int :=
  match getP lenB l with
  | none => (-1, 0)
  | some s => lenS l s
theorem getP_pos {name : ByteArray} {l : List S61} {s : ByteArray} (h : getP name l = some s) : 0 < l.length := by
  cases l with
  | nil => cases h
  | cons => simp
theorem lenS_of {l : List S61} {s : ByteArray} {a b c : Bool} (h1 : l.any (otherB s) = a) (h2 : digitsB s = b) (h3 : decide ((s.size : Int) > 9) = c) : lenS l s = if a || !b || c then (-1, 3) else (lenN s, 0) := by unfold lenS; rw [h1, h2, h3]
set_option maxHeartbeats 1600000 in
set_option maxRecDepth 20000 in
theorem length_calls (k : Nat) (A : Option Addr) (l : List S61) (c : Nat) (w : World) (hl : l.length ≤ 1000000000) (hC : k61.C w A l.length l) (hlc : l.length ≤ c) (hG : field_Get.f k lenB l = some ((getP lenB l).getD ⟨#[]⟩, (getP lenB l).isSome))
    (hD : ∀ s, getP lenB l = some s → field_digits.f s = some (digitsB s) ∧ (digitsB s = true → s.size ≤ 9 → Lib.atoi s.data.toList = some (lenN s))) :
    Calls Tryz.prog 32 #[.slice A l.length c] w fun e w' => e = .returned (.tuple #[.int .i64 (lenP l).1, .int .i64 (lenP l).2]) ∧ Below w.heap.size w w' := by
  have HG : ∀ s is, (getP lenB l).getD ⟨#[]⟩ = s → (getP lenB l).isSome = is → Aside0 (Calls Tryz.prog 63 #[.string ⟨#[99, 111, 110, 116, 101, 110, 116, 45, 108, 101, 110, 103, 116, 104]⟩, .slice A l.length c] w fun e w' => e = .returned (.tuple #[.string s, .bool is]) ∧ Below w.heap.size w w') :=
    fun s is h1 h2 => ⟨field_Get.calls k lenB A c l s is w hC hlc (by rw [hG, h1, h2])⟩
  unfold lenP
  cases hg : getP lenB l with
  | none =>
    have HG := HG ⟨#[]⟩ false (by rw [hg]; rfl) (by rw [hg]; rfl)
    clear hG hD hC hl hlc
    go_enter Tryz.func32, Tryz.ntmps32
    go_wp2_with (first | (go_at_call 63; refine HG.out.mono ?_; rintro e w1 ⟨rfl, hb⟩; have HB := Aside0.mk hb; clear hb))
    go_ret2
    exact ⟨rfl, by first | exact HB.out | exact below_alloc HB.out _⟩
  | some s =>
    have HG := HG s true (by rw [hg]; rfl) (by rw [hg]; rfl)
    obtain ⟨hd, ha⟩ := hD s hg
    have hn := getP_pos hg
    have HA := Aside0.mk ha
    have HC : ∀ w1, Below w.heap.size w w1 → Aside0 (∀ w2, Below (w1.alloc (.cells #[.string s] 9)).heap.size (w1.alloc (.cells #[.string s] 9)) w2 → Calls Tryz.prog 72 #[.slice A l.length c, .func (.func 73) #[] #[.pointer (some ⟨w1.heap.size, 0, none⟩)]] w2 fun e w' => e = .returned (.bool (l.any (otherB s))) ∧ Below w2.heap.size w2 w') :=
      fun w1 hb => ⟨fun w2 hb2 => contains_calls s A l c w2 w1.heap.size ((hb2.block _ (by rw [World.size_alloc]; omega)).trans (heap_alloc_new w1 _)) hn hl (Kd.C_below hC (below_step (below_alloc hb _) hb2))⟩
    have HX : ∀ w1 w2 : World, Below (w1.alloc (.cells #[.string s] 9)).heap.size (w1.alloc (.cells #[.string s] 9)) w2 → w2.cell? ⟨w1.heap.size, 0, none⟩ = some (.string s) := fun w1 w2 hb => by
      rw [hb.cell (by rw [World.size_alloc]; exact Nat.lt_succ_self _)]
      unfold World.cell?
      rw [show (⟨w1.heap.size, 0, none⟩ : Addr).block = w1.heap.size from rfl, heap_alloc_new]
      rfl
    clear hG hD hC hl hlc hn
    show Calls _ _ _ _ fun e w' => e = .returned (.tuple #[.int .i64 (lenS l s).1, .int .i64 (lenS l s).2]) ∧ Below w.heap.size w w'
    generalize ho : l.any (otherB s) = o at HC
    generalize hdg : digitsB s = dg at hd ha HA
    generalize h9 : decide ((s.size : Int) > 9) = q
    have HS := Aside0.mk (lenS_of ho hdg h9)
    clear ho hdg ha
    generalize lenS l s = r at HS ⊢
    cases o with
    | true =>
      go_enter Tryz.func32, Tryz.ntmps32
      go_wp2_with (first
        | (go_at_call 63; refine HG.out.mono ?_; rintro e w1 ⟨rfl, hb⟩; have HB := Aside0.mk hb; have HC1 := HC w1 hb; have HX1 := HX w1; clear hb HC HX)
        | (go_at_call 72; refine (HC1.out _ (Below.refl _ _)).mono ?_; rintro e w2 ⟨rfl, hb⟩; have hx := HX1 w2 hb; have HB2 := Aside0.mk (below_step (below_alloc HB.out _) hb); clear hb HC1 HX1))
      go_ret2
      exact ⟨by rw [HS.out]; rfl, HB2.out⟩
    | false =>
      have HDG := Aside0.mk hd
      clear hd
      cases dg with
      | false =>
        go_enter Tryz.func32, Tryz.ntmps32
        go_wp2_with (first
          | (go_at_call 63; refine HG.out.mono ?_; rintro e w1 ⟨rfl, hb⟩; have HB := Aside0.mk hb; have HC1 := HC w1 hb; have HX1 := HX w1; clear hb HC HX)
          | (go_at_call 72; refine (HC1.out _ (Below.refl _ _)).mono ?_; rintro e w2 ⟨rfl, hb⟩; have hx := HX1 w2 hb; have HB1 := Aside0.mk hb; have HB2 := Aside0.mk (below_step (below_alloc HB.out _) hb); clear hb HC1)
          | (go_at_call 74; refine (field_digits.calls s _ _ HDG.out).mono ?_; rintro e w3 ⟨rfl, hb⟩; clear hx; have hx := HX1 w3 (below_step HB1.out hb); have HB3 := Aside0.mk (below_step HB2.out hb); clear hb HX1 HB2))
        go_ret2
        exact ⟨by rw [HS.out]; rfl, HB3.out⟩
      | true =>
        cases q with
        | true =>
          have h9 := Aside0.mk h9
          have h9' : decide ((s.size : Int) > 9) = true := h9.out
          go_enter Tryz.func32, Tryz.ntmps32
          go_wp2_with (first
            | (go_at_call 63; refine HG.out.mono ?_; rintro e w1 ⟨rfl, hb⟩; have HB := Aside0.mk hb; have HC1 := HC w1 hb; have HX1 := HX w1; clear hb HC HX)
            | (go_at_call 72; refine (HC1.out _ (Below.refl _ _)).mono ?_; rintro e w2 ⟨rfl, hb⟩; have hx := HX1 w2 hb; have HB1 := Aside0.mk hb; have HB2 := Aside0.mk (below_step (below_alloc HB.out _) hb); clear hb HC1)
            | (go_at_call 74; refine (field_digits.calls s _ _ HDG.out).mono ?_; rintro e w3 ⟨rfl, hb⟩; clear hx; have hx := HX1 w3 (below_step HB1.out hb); have HB3 := Aside0.mk (below_step HB2.out hb); clear hb HX1 HB2))
          go_ret2
          exact ⟨by rw [HS.out]; rfl, HB3.out⟩
        | false =>
          have HAT : Aside0 (Lib.atoi s.data.toList = some (lenN s) ∧ s.size ≤ 18) := ⟨HA.out rfl (by have := of_decide_eq_false h9; omega), by have := of_decide_eq_false h9; omega⟩
          go_enter Tryz.func32, Tryz.ntmps32
          go_wp2_with (first
            | (go_at_call 63; refine HG.out.mono ?_; rintro e w1 ⟨rfl, hb⟩; have HB := Aside0.mk hb; have HC1 := HC w1 hb; have HX1 := HX w1; clear hb HC HX)
            | (go_at_call 72; refine (HC1.out _ (Below.refl _ _)).mono ?_; rintro e w2 ⟨rfl, hb⟩; have hx := HX1 w2 hb; have HB1 := Aside0.mk hb; have HB2 := Aside0.mk (below_step (below_alloc HB.out _) hb); clear hb HC1)
            | (go_at_call 74; refine (field_digits.calls s _ _ HDG.out).mono ?_; rintro e w3 ⟨rfl, hb⟩; clear hx; have hx := HX1 w3 (below_step HB1.out hb); have HB3 := Aside0.mk (below_step HB2.out hb); clear hb HX1 HB2)
            | (go_at_call 64; refine (Any.strconv_Atoi Tryz.Lays_172 s (lenN s) HAT.out.2 HAT.out.1 _).mono ?_; rintro e w4 ⟨rfl, t, rfl⟩))
          go_ret2
          exact ⟨by rw [HS.out]; rfl, below_step HB3.out (Below.trans (Below.refl _ _) (Go.Lib.bytesWorld_below _ _ _))⟩
end Go.Proofs.YtififgiicpdndaaGreatDoor.Fw
/- What the fields' functions say, in plain words; the contracts by them. -/
namespace Go.Proofs.YtififgiicpdndaaGreatDoor.Fw
open Go.RowKit Go.Proofs.YtififgiicpdndaaGreatDoor.XMi Go.Proofs.YtififgiicpdndaaGreatDoorW.PrintWords Go.Proofs.YtififgiicpdndaaGreatDoorW.PrintLast Go.Proofs.YtififgiicpdndaaGreatDoorW.PrintMore Go.Proofs.YtififgiicpdndaaGreatDoor.Ms
theorem bt_at {s : ByteArray} {pre rest : List UInt8} {c : UInt8} (h : s.toList = pre ++ c :: rest) : bt s (pre.length : Int) = (c.toNat : Int) := by
  have h' : s.data.toList = pre ++ c :: rest := by rw [← Go.Lib.toList_data]; exact h
  have hlt : pre.length < s.size := by
    show pre.length < s.data.size
    rw [← Array.length_toList, h']
    simp
  unfold bt
  rw [Int.toNat_natCast, dif_pos hlt]
  have : s[pre.length]'hlt = c := by
    show s.data[pre.length] = c
    rw [← Array.getElem_toList]
    simp [h']
  rw [this]
theorem size_list (s : ByteArray) : s.size = s.toList.length := by
  rw [Go.Lib.toList_data, Array.length_toList]
  rfl
def letterP (c : UInt8) : Bool := (decide (97 ≤ c.toNat) && decide (c.toNat ≤ 122)) || (decide (48 ≤ c.toNat) && decide (c.toNat ≤ 57)) || decide (c.toNat = 45) || decide (c.toNat = 95)
theorem letter_eq (k : Nat) (c : UInt8) : field_letter.f (k + 2) (c.toNat : Int) = some (letterP c) := by
  unfold letterP field_letter.f
  generalize c.toNat = n
  simp only [field_letter.j0, field_letter.j1]
  have e1 : ((n : Int) ≥ 97) ↔ 97 ≤ n := by omega
  have e2 : ((n : Int) ≤ 122) ↔ n ≤ 122 := by omega
  have e3 : ((n : Int) ≥ 48) ↔ 48 ≤ n := by omega
  have e4 : ((n : Int) ≤ 57) ↔ n ≤ 57 := by omega
  have e5 : ((n : Int) = 45) ↔ n = 45 := by omega
  have e6 : ((n : Int) = 95) ↔ n = 95 := by omega
  simp only [e1, e2, e3, e4, e5, e6]
  clear e1 e2 e3 e4 e5 e6
  by_cases hA : 97 ≤ n <;> by_cases hB : n ≤ 122 <;> by_cases hC : 48 ≤ n <;> by_cases hD : n ≤ 57 <;> by_cases hE : n = 45 <;> by_cases hF : n = 95 <;> first | (exfalso; omega) | simp [hA, hB, hC, hD, hE, hF]
def nameP (s : ByteArray) : Bool := s.toList.all letterP && (!(s.toList == []) && decide (s.size ≤ 40))
theorem name_l0 (s : ByteArray) (hs : s.size ≤ 1000000) : ∀ (rest pre : List UInt8) (k : Nat), s.toList = pre ++ rest → rest.length + 3 ≤ k → field_Name.l0 k s (s.size : Int) (pre.length : Int) = some (rest.all letterP && (!(s.toList == []) && decide (s.size ≤ 40))) := by
  intro rest
  induction rest with
  | nil =>
    intro pre k e hk
    obtain ⟨k, rfl⟩ : ∃ m, k = m + 1 := ⟨k - 1, by omega⟩
    have hp : pre.length = s.size := by rw [size_list, e, List.append_nil]
    rw [hp]
    simp only [field_Name.l0]
    rw [if_neg (by omega), List.all_nil, Bool.true_and]
    by_cases h : s.toList = []
    · rw [if_pos h, h]; rfl
    · rw [if_neg h, beq_eq_false_iff_ne.2 h]
      simp
      omega
  | cons c rest ih =>
    intro pre k e hk
    obtain ⟨k, rfl⟩ : ∃ m, k = m + 3 := ⟨k - 3, by omega⟩
    have hp : pre.length < s.size := by rw [size_list, e]; simp
    simp only [field_Name.l0]
    rw [if_pos (by omega), if_pos (by omega), if_pos (by omega), bt_at e, letter_eq, Option.bind_some, List.all_cons]
    cases letterP c with
    | false => rfl
    | true =>
      rw [if_pos rfl, Bool.true_and]
      have e1 : wrap64 ((pre.length : Int) + 1) = (((pre ++ [c]).length : Nat) : Int) := by
        rw [List.length_append, List.length_singleton, w64_in ((pre.length : Int) + 1) (by omega)]
        rfl
      rw [e1]
      exact ih (pre ++ [c]) (k + 2) (by rw [e]; simp) (by simp at hk; omega)
theorem name_eq (k : Nat) (s : ByteArray) (hs : s.size ≤ 1000000) (hk : s.size + 3 ≤ k) : field_Name.f k s = some (nameP s) :=
  name_l0 s hs s.toList [] k rfl (by rw [← size_list]; exact hk)
/-! the ends of a text -/
theorem dw_of {p : UInt8 → Bool} {l : List UInt8} (h : ∀ x, l.head? = some x → p x = false) : l.dropWhile p = l := by
  cases l with
  | nil => rfl
  | cons a t => rw [List.dropWhile_cons, h a rfl]; rfl
theorem dw_len (p : UInt8 → Bool) : ∀ (l : List UInt8), (l.dropWhile p).length ≤ l.length
  | [] => Nat.le_refl _
  | a :: t => by
    rw [List.dropWhile_cons]
    split
    · exact Nat.le_succ_of_le (dw_len p t)
    · exact Nat.le_refl _
theorem dw_to {p : UInt8 → Bool} {l : List UInt8} (h : l.length ≤ (l.dropWhile p).length) : ∀ x, l.head? = some x → p x = false := by
  intro x hx
  cases l with
  | nil => cases hx
  | cons a t =>
    obtain rfl := Option.some.inj hx
    rw [List.dropWhile_cons] at h
    by_cases hp : p a = true
    · rw [if_pos hp] at h
      have := dw_len p t
      simp at h
      omega
    · simpa using hp
def endsB (l : List UInt8) : Bool := !(l.head? == some 32) && !(l.getLast? == some 32)
theorem trim_iff (l : List UInt8) : (Go.Lib.trimS l [32] == l) = endsB l := by
  have hp : ∀ x : UInt8, ([32] : List UInt8).contains x = false ↔ x ≠ 32 := fun x => by rw [Go.Lib.contains_one]; simp
  rw [Bool.eq_iff_iff, beq_iff_eq]
  unfold endsB
  rw [Bool.and_eq_true, Bool.not_eq_true', Bool.not_eq_true', beq_eq_false_iff_ne, beq_eq_false_iff_ne]
  unfold Go.Lib.trimS Go.Lib.trimLeftS Go.Lib.trimRightS
  constructor
  · intro h
    have h1 := dw_len (([32] : List UInt8).contains ·) (l.reverse.dropWhile (([32] : List UInt8).contains ·)).reverse
    rw [h, List.length_reverse] at h1
    have h2 := dw_to (p := (([32] : List UInt8).contains ·)) (l := l.reverse) (by rw [List.length_reverse]; exact h1)
    rw [dw_of h2, List.reverse_reverse] at h
    have h3 := dw_to (p := (([32] : List UInt8).contains ·)) (l := l) (by rw [h]; exact Nat.le_refl _)
    refine ⟨fun e => ?_, fun e => ?_⟩
    · exact (hp 32).1 (h3 32 e) rfl
    · exact (hp 32).1 (h2 32 (by rw [List.head?_reverse]; exact e)) rfl
  · rintro ⟨h1, h2⟩
    rw [dw_of (p := (([32] : List UInt8).contains ·)) (l := l.reverse) (fun x hx => (hp x).2 (fun e => h2 (by rw [← e, ← hx, List.head?_reverse]))), List.reverse_reverse]
    exact dw_of (p := (([32] : List UInt8).contains ·)) (fun x hx => (hp x).2 (fun e => h1 (by rw [← e, hx])))
theorem trim_nil (l cs : List UInt8) : (Go.Lib.trimS l cs == []) = l.all (cs.contains ·) := by
  rw [Bool.eq_iff_iff, beq_iff_eq]
  unfold Go.Lib.trimS Go.Lib.trimLeftS Go.Lib.trimRightS
  have hd : ∀ m : List UInt8, m.dropWhile (cs.contains ·) = [] ↔ ∀ x ∈ m, cs.contains x = true := fun m => by
    induction m with
    | nil => simp
    | cons a t ih =>
      rw [List.dropWhile_cons]
      by_cases ha : cs.contains a = true
      · rw [if_pos ha, ih]
        simp only [List.mem_cons, forall_eq_or_imp]
        exact ⟨fun h => ⟨ha, h⟩, fun h => h.2⟩
      · rw [if_neg ha]
        exact ⟨fun h => (by cases h), fun h => absurd (h a (by simp)) ha⟩
  rw [hd, List.all_eq_true]
  constructor
  · intro h x hx
    have hx : x ∈ l.reverse := List.mem_reverse.2 hx
    rw [← List.takeWhile_append_dropWhile (p := (cs.contains ·)) (l := l.reverse)] at hx
    rcases List.mem_append.1 hx with hx | hx
    · exact List.all_eq_true.1 (List.all_takeWhile) x hx
    · exact h x (List.mem_reverse.2 hx)
  · intro h x hx
    have := List.mem_reverse.1 hx
    exact h x (List.mem_reverse.1 ((List.dropWhile_sublist _).mem this))
def okB (c : UInt8) : Bool := decide (32 ≤ c.toNat) && !decide (c.toNat = 127)
def valueP (s : ByteArray) : Bool := s.toList.all okB && (decide (s.size ≤ 200) && endsB s.toList)
theorem trim_f (s a : ByteArray) (ha : a.data.toList.all (fun b => decide (b.toNat < 128)) = true) (h2 : a.size < 4294967281) (hs : s.size ≤ 1000000) : strings_Trim.f s a = some ⟨(Go.Lib.trimS s.data.toList a.data.toList).toArray⟩ := by
  unfold strings_Trim.f
  rw [if_pos ⟨ha, h2, by omega⟩]
theorem toList_mk (l : List UInt8) : (⟨l.toArray⟩ : ByteArray).toList = l := by rw [Go.Lib.toList_data]
theorem value_l0 (s : ByteArray) (hs : s.size ≤ 1000000) : ∀ (rest pre : List UInt8) (k : Nat), s.toList = pre ++ rest → rest.length + 1 ≤ k → field_Value.l0 k s (s.size : Int) (pre.length : Int) = some (rest.all okB && (decide (s.size ≤ 200) && endsB s.toList)) := by
  intro rest
  induction rest with
  | nil =>
    intro pre k e hk
    obtain ⟨k, rfl⟩ : ∃ m, k = m + 1 := ⟨k - 1, by omega⟩
    have hp : pre.length = s.size := by rw [size_list, e, List.append_nil]
    rw [hp]
    simp only [field_Value.l0]
    rw [if_neg (by omega), List.all_nil, Bool.true_and]
    by_cases h : s.size ≤ 200
    · rw [if_pos (by omega), trim_f s _ (by decide) (by decide) hs, Option.bind_some, toList_mk, decide_eq_true h, Bool.true_and, Go.Lib.toList_data, trim_iff]
    · rw [if_neg (by omega), decide_eq_false h]
      rfl
  | cons c rest ih =>
    intro pre k e hk
    obtain ⟨k, rfl⟩ : ∃ m, k = m + 1 := ⟨k - 1, by omega⟩
    have hp : pre.length < s.size := by rw [size_list, e]; simp
    simp only [field_Value.l0]
    rw [if_pos (by omega), if_pos (by omega), if_pos (by omega), bt_at e, List.all_cons]
    unfold okB
    by_cases h1 : (c.toNat : Int) < 32
    · rw [if_pos h1, decide_eq_false (p := 32 ≤ c.toNat) (by omega)]
      rfl
    · rw [if_neg h1, decide_eq_true (p := 32 ≤ c.toNat) (by omega), Bool.true_and]
      by_cases h2 : (c.toNat : Int) = 127
      · rw [if_pos h2, decide_eq_true (p := c.toNat = 127) (by omega)]
        rfl
      · rw [if_neg h2, decide_eq_false (p := c.toNat = 127) (by omega), Bool.not_false, Bool.true_and]
        have e1 : wrap64 ((pre.length : Int) + 1) = (((pre ++ [c]).length : Nat) : Int) := by
          rw [List.length_append, List.length_singleton, w64_in ((pre.length : Int) + 1) (by omega)]
          rfl
        rw [e1]
        exact ih (pre ++ [c]) k (by rw [e]; simp) (by simp at hk; omega)
theorem value_eq (k : Nat) (s : ByteArray) (hs : s.size ≤ 1000000) (hk : s.size + 1 ≤ k) : field_Value.f k s = some (valueP s) :=
  value_l0 s hs s.toList [] k rfl (by rw [← size_list]; exact hk)
def isDig (c : UInt8) : Bool := ([48, 49, 50, 51, 52, 53, 54, 55, 56, 57] : List UInt8).contains c
def digP (s : ByteArray) : Bool := !(s.toList == []) && s.toList.all isDig
theorem digits_eq (s : ByteArray) (hs : s.size ≤ 1000000) : field_digits.f s = some (digP s) := by
  unfold field_digits.f digP
  by_cases h : s.toList = []
  · rw [if_pos h, h]
    rfl
  · rw [if_neg h, beq_eq_false_iff_ne.2 h, trim_f s _ (by decide) (by decide) hs, Option.bind_some, toList_mk, trim_nil, Go.Lib.toList_data]
    rfl
def forbP (f : S61) : Bool := if f.f0.toList = ([116, 101] : List UInt8) then !(f.f1.toList == ([116, 114, 97, 105, 108, 101, 114, 115] : List UInt8)) else f.f0.toList == ([99, 111, 110, 110, 101, 99, 116, 105, 111, 110] : List UInt8) || f.f0.toList == ([116, 114, 97, 110, 115, 102, 101, 114, 45, 101, 110, 99, 111, 100, 105, 110, 103] : List UInt8) || f.f0.toList == ([117, 112, 103, 114, 97, 100, 101] : List UInt8) || f.f0.toList == ([107, 101, 101, 112, 45, 97, 108, 105, 118, 101] : List UInt8)
theorem forb_eq (k : Nat) (f : S61) (hk : 1 ≤ k) : field_forbidden.f k f.f0 f.f1 = some (forbP f) := by
  obtain ⟨k, rfl⟩ : ∃ m, k = m + 1 := ⟨k - 1, by omega⟩
  unfold field_forbidden.f forbP
  simp only [field_forbidden.j0]
  generalize f.f0.toList = l
  generalize f.f1.toList = m
  by_cases h0 : l = [116, 101]
  · rw [if_pos h0, if_pos h0]
    by_cases h : m = [116, 114, 97, 105, 108, 101, 114, 115]
    · rw [if_pos h, beq_iff_eq.2 h]; rfl
    · rw [if_neg h, beq_eq_false_iff_ne.2 h]; rfl
  · rw [if_neg h0, if_neg h0]
    by_cases h1 : l = [99, 111, 110, 110, 101, 99, 116, 105, 111, 110]
    · rw [if_pos h1, beq_iff_eq.2 h1]; rfl
    · rw [if_neg h1, beq_eq_false_iff_ne.2 h1]
      by_cases h2 : l = [116, 114, 97, 110, 115, 102, 101, 114, 45, 101, 110, 99, 111, 100, 105, 110, 103]
      · rw [if_pos h2, beq_iff_eq.2 h2]; rfl
      · rw [if_neg h2, beq_eq_false_iff_ne.2 h2]
        by_cases h3 : l = [117, 112, 103, 114, 97, 100, 101]
        · rw [if_pos h3, beq_iff_eq.2 h3]; rfl
        · rw [if_neg h3, beq_eq_false_iff_ne.2 h3]
          by_cases h4 : l = [107, 101, 101, 112, 45, 97, 108, 105, 118, 101]
          · rw [beq_iff_eq.2 h4]; rfl
          · rw [beq_eq_false_iff_ne.2 h4]; rfl
def memP (names : List ByteArray) (s : ByteArray) : Bool := names.any (fun n => s.toList == n.toList)
theorem index_l0 (names : List ByteArray) (s : ByteArray) (hn : names.length ≤ 1000) : ∀ (rest pre : List ByteArray) (k : Nat), names = pre ++ rest → rest.length + 1 ≤ k → ∃ n : Int, slices_Index_string_string.l0 k names s (names.length : Int) (pre.length : Int) = some n ∧ decide (n ≥ 0) = memP rest s := by
  intro rest
  induction rest with
  | nil =>
    intro pre k e hk
    obtain ⟨k, rfl⟩ : ∃ m, k = m + 1 := ⟨k - 1, by omega⟩
    simp only [slices_Index_string_string.l0]
    rw [if_neg (by rw [e, List.append_nil]; omega)]
    exact ⟨-1, rfl, rfl⟩
  | cons c rest ih =>
    intro pre k e hk
    obtain ⟨k, rfl⟩ : ∃ m, k = m + 1 := ⟨k - 1, by omega⟩
    have hp : pre.length < names.length := by rw [e]; simp
    have hr : rdOf ByteArray.empty names (pre.length : Int) = c := by unfold rdOf; rw [e]; simp [List.getD]
    simp only [slices_Index_string_string.l0]
    rw [if_pos (by omega), if_pos (by omega), if_pos (by omega), hr]
    unfold memP
    rw [List.any_cons]
    by_cases h : s.toList = c.toList
    · rw [if_pos h, beq_iff_eq.2 h]
      exact ⟨_, rfl, by simp⟩
    · rw [if_neg h, beq_eq_false_iff_ne.2 h, Bool.false_or]
      have e1 : wrap64 ((pre.length : Int) + 1) = (((pre ++ [c]).length : Nat) : Int) := by
        rw [List.length_append, List.length_singleton, w64_in ((pre.length : Int) + 1) (by omega)]
        rfl
      rw [e1]
      exact ih (pre ++ [c]) k (by rw [e]; simp) (by simp at hk; omega)
theorem mem_eq (k : Nat) (names : List ByteArray) (s : ByteArray) (hn : names.length ≤ 1000) (hk : names.length + 1 ≤ k) : slices_Contains_string_string.f k names s = some (memP names s) := by
  obtain ⟨n, h1, h2⟩ := index_l0 names s hn names [] k rfl hk
  unfold slices_Contains_string_string.f slices_Index_string_string.f
  rw [show ((0 : Int)) = (([] : List ByteArray).length : Int) from rfl, h1, Option.bind_some]
  show some (decide (n ≥ 0)) = _
  rw [h2]
theorem toList_inj {a b : ByteArray} : a.toList = b.toList ↔ a = b := by
  rw [Go.Lib.toList_data, Go.Lib.toList_data]
  exact ⟨fun h => ByteArray.ext (Array.toList_inj.1 h), fun h => by rw [h]⟩
theorem get_l0 (name : ByteArray) (l : List S61) (hl : l.length ≤ 1000000000) : ∀ (rest pre : List S61) (k : Nat), l = pre ++ rest → rest.length + 1 ≤ k → field_Get.l0 k name l (l.length : Int) (pre.length : Int) = some ((getP name rest).getD ⟨#[]⟩, (getP name rest).isSome) := by
  intro rest
  induction rest with
  | nil =>
    intro pre k e hk
    obtain ⟨k, rfl⟩ : ∃ m, k = m + 1 := ⟨k - 1, by omega⟩
    simp only [field_Get.l0]
    rw [if_neg (by rw [e, List.append_nil]; omega)]
    rfl
  | cons c rest ih =>
    intro pre k e hk
    obtain ⟨k, rfl⟩ : ∃ m, k = m + 1 := ⟨k - 1, by omega⟩
    have hp : pre.length < l.length := by rw [e]; simp
    have hr : rd_T61 l (pre.length : Int) = c := by unfold rd_T61; rw [e]; simp [List.getD]
    simp only [field_Get.l0]
    rw [if_pos (by omega), if_pos (by omega), if_pos (by omega), hr]
    unfold getP
    by_cases h : c.f0 = name
    · rw [if_pos (toList_inj.2 h), if_pos h]
      rfl
    · rw [if_neg (fun e => h (toList_inj.1 e)), if_neg h]
      have e1 : wrap64 ((pre.length : Int) + 1) = (((pre ++ [c]).length : Nat) : Int) := by
        rw [List.length_append, List.length_singleton, w64_in ((pre.length : Int) + 1) (by omega)]
        rfl
      rw [e1]
      exact ih (pre ++ [c]) k (by rw [e]; simp) (by simp at hk; omega)
theorem get_eq (k : Nat) (name : ByteArray) (l : List S61) (hl : l.length ≤ 1000000000) (hk : l.length + 1 ≤ k) : field_Get.f k name l = some ((getP name l).getD ⟨#[]⟩, (getP name l).isSome) :=
  get_l0 name l hl l [] k rfl hk
end Go.Proofs.YtififgiicpdndaaGreatDoor.Fw
/- The contracts of the fields' functions in plain words. -/
namespace Go.Proofs.YtififgiicpdndaaGreatDoor.Fw
open Go.RowKit Go.Proofs.YtififgiicpdndaaGreatDoor.XMi Go.Proofs.YtififgiicpdndaaGreatDoorW.PrintWords Go.Proofs.YtififgiicpdndaaGreatDoorW.PrintLast Go.Proofs.YtififgiicpdndaaGreatDoorW.PrintMore Go.Proofs.YtififgiicpdndaaGreatDoor.Ms
def Sz (f : S61) : Prop := f.f0.size ≤ 100000 ∧ f.f1.size ≤ 100000
structure Sized (l : List S61) : Prop where
  len : l.length ≤ 100000
  sz : ∀ f ∈ l, Sz f
def walkQ (names : List ByteArray) : List S61 → List (ByteArray × ByteArray) → Bool → Option (List (ByteArray × ByteArray)) × Int
  | [], said, _ => (some said, 0)
  | f :: l, said, plain =>
    if (!memP names f.f0 && !nameP f.f0 || forbP f) = true then (none, 6)
    else if valueP f.f1 = false then (none, 3)
    else if (memP names f.f0 && (plain || (Ms.look said f.f0).isSome)) = true then (none, 7)
    else if memP names f.f0 = true then walkQ names l ((f.f0, f.f1) :: said) plain
    else walkQ names l said true
theorem fit_of {k : Nat} (hk : 100003 ≤ k) {names : List ByteArray} (hn : names.length ≤ 1000) {f : S61} (h : Sz f) : Fit1 k names f ∧ nameB k f.f0 = nameP f.f0 ∧ valueB k f.f1 = valueP f.f1 ∧ forbB k f = forbP f ∧ colonB k names f.f0 = memP names f.f0 := by
  obtain ⟨h0, h1⟩ := h
  have e1 := name_eq k f.f0 (by omega) (by omega)
  have e2 := value_eq k f.f1 (by omega) (by omega)
  have e3 := forb_eq k f (by omega)
  have e4 := mem_eq k names f.f0 hn (by omega)
  refine ⟨⟨?_, ?_, ?_, ?_, by omega, by omega⟩, ?_, ?_, ?_, ?_⟩
  · unfold nameB; rw [e1]; rfl
  · unfold valueB; rw [e2]; rfl
  · unfold forbB; rw [e3]; rfl
  · unfold colonB; rw [e4]; rfl
  · unfold nameB; rw [e1]; rfl
  · unfold valueB; rw [e2]; rfl
  · unfold forbB; rw [e3]; rfl
  · unfold colonB; rw [e4]; rfl
theorem walk_eq {k : Nat} (hk : 100003 ≤ k) {names : List ByteArray} (hn : names.length ≤ 1000) : ∀ (l : List S61) (said : List (ByteArray × ByteArray)) (plain : Bool), (∀ f ∈ l, Sz f) → walkP k names l said plain = walkQ names l said plain
  | [], _, _, _ => rfl
  | f :: l, said, plain, h => by
    obtain ⟨_, e1, e2, e3, e4⟩ := fit_of hk hn (h f (by simp))
    have ih := fun said plain => walk_eq hk hn l said plain (fun x hx => h x (by simp [hx]))
    unfold walkP walkQ
    rw [e1, e2, e3, e4, ih, ih]
theorem walkQ_mem (names : List ByteArray) : ∀ (l : List S61) (said : List (ByteArray × ByteArray)) (plain : Bool) (m : List (ByteArray × ByteArray)) (n : Int), walkQ names l said plain = (some m, n) → ∀ p ∈ m, p ∈ said ∨ ∃ f ∈ l, p = (f.f0, f.f1)
  | [], said, _, m, n, h, p, hp => by
    unfold walkQ at h
    injection h with h1 h2
    injection h1 with h1
    subst h1
    exact .inl hp
  | f :: l, said, plain, m, n, h, p, hp => by
    unfold walkQ at h
    split at h
    · cases h
    · split at h
      · cases h
      · split at h
        · cases h
        · split at h
          · rcases walkQ_mem names l _ _ m n h p hp with h | ⟨g, hg, e⟩
            · rcases List.mem_cons.1 h with h | h
              · exact .inr ⟨f, by simp, h⟩
              · exact .inl h
            · exact .inr ⟨g, by simp [hg], e⟩
          · rcases walkQ_mem names l _ _ m n h p hp with h | ⟨g, hg, e⟩
            · exact .inl h
            · exact .inr ⟨g, by simp [hg], e⟩
theorem look_mem : ∀ (m : List (ByteArray × ByteArray)) (s v : ByteArray), Ms.look m s = some v → (s, v) ∈ m
  | [], _, _, h => by cases h
  | p :: m, s, v, h => by
    unfold Ms.look at h
    split at h
    · next e => injection h with h; subst h; subst e; simp
    · exact List.mem_cons_of_mem _ (look_mem m s v h)
theorem say_size {names : List ByteArray} {l : List S61} {m : List (ByteArray × ByteArray)} {n : Int} (h : walkQ names l [] false = (some m, n)) (hs : ∀ f ∈ l, Sz f) (s : ByteArray) : (sayB m s).size ≤ 100000 := by
  unfold sayB
  cases e : Ms.look m s with
  | none => exact Nat.zero_le _
  | some v =>
    rcases walkQ_mem names l [] false m n h _ (look_mem m s v e) with h | ⟨f, hf, e2⟩
    · cases h
    · injection e2 with e2 e3
      subst e3
      exact (hs f hf).2
def statP (s : ByteArray) : Bool := decide (s.size = 3) && digP s && !(Op.bytesLess s.toList [49, 48, 48]) && (Op.bytesLess s.toList [53, 57, 57] || s.toList == [53, 57, 57])
def respQ (l : List S61) : Int :=
  match walkQ [colStatus] l [] false with
  | (some m, _) => if statP (sayB m colStatus) then 0 else 3
  | (none, n) => n
def prefP (s : ByteArray) : Bool := s.toList.head? == some 47
def reqQ (l : List S61) : Int :=
  match walkQ reqNames l [] false with
  | (some m, _) => if reqNames.all (fun n => !((sayB m n).toList == [])) && prefP (sayB m pathB) then 0 else 3
  | (none, n) => n
def trailQ (l : List S61) : Int := (walkQ [] l [] false).2
theorem pref_eq (s : ByteArray) : strings_HasPrefix.f s ⟨#[47]⟩ = some (prefP s) := by
  unfold strings_HasPrefix.f stringslite_HasPrefix.f prefP
  have h1 : (⟨#[47]⟩ : ByteArray).size = 1 := rfl
  rw [h1]
  by_cases h : 1 ≤ s.size
  · rw [if_pos (by omega), if_pos (by omega), if_pos (by omega), Option.bind_some]
    congr 1
    have e : ((s.extract 0 (((1 : Nat) : Int)).toNat).toList) = s.data.toList.take 1 := by rw [show (((1 : Nat) : Int)).toNat = 1 from rfl, Go.Lib.extract_toList]; rfl
    rw [e, show (⟨#[47]⟩ : ByteArray).toList = [47] from toList_mk [47], Go.Lib.toList_data]
    have hl : 1 ≤ s.data.toList.length := by rw [← Go.Lib.toList_data, ← size_list]; exact h
    generalize s.data.toList = t at hl
    cases t with
    | nil => simp at hl
    | cons a t => simp
  · rw [if_neg (by omega)]
    have hl : s.toList.length = 0 := by rw [← size_list]; omega
    rw [List.length_eq_zero_iff.1 hl]
    rfl
theorem isDig_iff (c : UInt8) : isDig c = true ↔ 48 ≤ c.toNat ∧ c.toNat ≤ 57 := by
  unfold isDig
  rw [List.contains_iff_mem]
  have hc : ∀ n : Nat, n < 256 → (c = UInt8.ofNat n ↔ c.toNat = n) := fun n hn => by
    rw [← UInt8.toNat_inj]
    simp
    omega
  simp only [List.mem_cons, List.not_mem_nil, or_false]
  have e := fun n hn => hc n hn
  rw [show (48 : UInt8) = UInt8.ofNat 48 from rfl, show (49 : UInt8) = UInt8.ofNat 49 from rfl, show (50 : UInt8) = UInt8.ofNat 50 from rfl, show (51 : UInt8) = UInt8.ofNat 51 from rfl, show (52 : UInt8) = UInt8.ofNat 52 from rfl, show (53 : UInt8) = UInt8.ofNat 53 from rfl, show (54 : UInt8) = UInt8.ofNat 54 from rfl, show (55 : UInt8) = UInt8.ofNat 55 from rfl, show (56 : UInt8) = UInt8.ofNat 56 from rfl, show (57 : UInt8) = UInt8.ofNat 57 from rfl]
  rw [e 48 (by decide), e 49 (by decide), e 50 (by decide), e 51 (by decide), e 52 (by decide), e 53 (by decide), e 54 (by decide), e 55 (by decide), e 56 (by decide), e 57 (by decide)]
  omega
def numD (l : List UInt8) : Nat := l.foldl (fun a c => a * 10 + (c.toNat - 48)) 0
theorem dec_eq : ∀ (l : List UInt8) (acc : Nat), l.all isDig = true → Go.Lib.decFrom acc l = some (l.foldl (fun a c => a * 10 + (c.toNat - 48)) acc)
  | [], _, _ => rfl
  | c :: l, acc, h => by
    rw [List.all_cons, Bool.and_eq_true, isDig_iff] at h
    unfold Go.Lib.decFrom
    rw [show Go.Lib.digitVal c = some (c.toNat - 48) from if_pos h.1]
    exact dec_eq l _ h.2
theorem atoi_eq (s : ByteArray) (h : digP s = true) : Go.Lib.atoi s.data.toList = some ((numD s.toList : Nat) : Int) := by
  unfold digP at h
  rw [Bool.and_eq_true] at h
  rw [← Go.Lib.toList_data]
  unfold numD
  generalize s.toList = l at h ⊢
  cases l with
  | nil => cases h.1
  | cons c l =>
    have hc := h.2
    rw [List.all_cons, Bool.and_eq_true, isDig_iff] at hc
    unfold Go.Lib.atoi
    have h1 : (c == 45) = false := beq_eq_false_iff_ne.2 fun e => by rw [e] at hc; exact absurd hc.1.1 (by decide)
    have h2 : (c == 43) = false := beq_eq_false_iff_ne.2 fun e => by rw [e] at hc; exact absurd hc.1.1 (by decide)
    dsimp only
    rw [h1, h2]
    show (Go.Lib.decNat (c :: l)).map _ = _
    unfold Go.Lib.decNat
    rw [show (c :: l).isEmpty = false from rfl, dec_eq (c :: l) 0 h.2]
    rfl
def lenQ (l : List S61) : Int × Int :=
  match getP lenB l with
  | none => (-1, 0)
  | some s => if l.any (otherB s) || !digP s || decide ((s.size : Int) > 9) then (-1, 3) else (((numD s.toList : Nat) : Int), 0)
theorem getP_mem : ∀ {name : ByteArray} {l : List S61} {s : ByteArray}, getP name l = some s → ∃ f ∈ l, f.f1 = s
  | _, [], _, h => by cases h
  | name, f :: l, s, h => by
    unfold getP at h
    split at h
    · exact ⟨f, by simp, Option.some.inj h⟩
    · obtain ⟨g, hg, e⟩ := getP_mem h
      exact ⟨g, by simp [hg], e⟩
theorem get_c (name : ByteArray) {A : Option Addr} {l : List S61} {c : Nat} {w : World} (hS : Sized l) (hC : k61.C w A l.length l) (hc : l.length ≤ c) : Calls Tryz.prog 63 #[.string name, .slice A l.length c] w fun e w' => e = .returned (.tuple #[.string ((getP name l).getD ⟨#[]⟩), .bool (getP name l).isSome]) ∧ Below w.heap.size w w' :=
  field_Get.calls _ name A c l _ _ w hC hc (get_eq (l.length + 1) name l (by have := hS.len; omega) (Nat.le_refl _))
theorem trail_c {A : Option Addr} {l : List S61} {c : Nat} {w : World} (hS : Sized l) (hC : k61.C w A l.length l) : Calls Tryz.prog 29 #[.slice A l.length c] w fun e w' => e = .returned (.int .i64 (trailQ l)) ∧ Below w.heap.size w w' := by
  obtain ⟨k, hk⟩ : ∃ k, 100003 ≤ k := ⟨100003, Nat.le_refl _⟩
  have := trailers_calls k A l c w (by have := hS.len; omega) hC (fun f hf => (fit_of hk (by decide) (hS.sz f hf)).1)
  rw [walk_eq hk (by decide) l [] false hS.sz] at this
  exact this
theorem resp_c {A : Option Addr} {l : List S61} {c : Nat} {w : World} (hS : Sized l) (hC : k61.C w A l.length l) : Calls Tryz.prog 62 #[.slice A l.length c] w fun e w' => e = .returned (.int .i64 (respQ l)) ∧ Below w.heap.size w w' := by
  obtain ⟨k, hk⟩ : ∃ k, 100003 ≤ k := ⟨100003, Nat.le_refl _⟩
  have hw := walk_eq hk (names := [colStatus]) (by decide) l [] false hS.sz
  have hd : ∀ m, walkP k [colStatus] l [] false = (some m, 0) → field_digits.f (sayB m colStatus) = some (digP (sayB m colStatus)) := fun m hm => digits_eq _ (by have := say_size (hw ▸ hm) hS.sz colStatus; omega)
  have hdB : ∀ s, field_digits.f s = some (digP s) → digitsB s = digP s := fun s h => by unfold digitsB; rw [h]; rfl
  have := response_calls k A l c w (by have := hS.len; omega) hC (fun f hf => (fit_of hk (by decide) (hS.sz f hf)).1) (fun m hm => by
    have := hd m hm
    rw [show (Ms.look m colStatus).getD ⟨#[]⟩ = sayB m colStatus from rfl, hdB _ this]
    exact this)
  have e : respP k l = respQ l := by
    unfold respP respQ
    rcases walkP_cases k [colStatus] l [] false with ⟨m, hp⟩ | hp | hp | hp
    · have h1 := hdB _ (hd m hp)
      rw [← hw, hp]
      show respS (sayB m colStatus) = if statP (sayB m colStatus) then 0 else 3
      unfold respS statusP statP
      rw [h1]
    all_goals rw [← hw, hp]
  rw [e] at this
  exact this
theorem req_c {A : Option Addr} {l : List S61} {c : Nat} {w : World} (hS : Sized l) (hC : k61.C w A l.length l) : Calls Tryz.prog 31 #[.slice A l.length c] w fun e w' => e = .returned (.int .i64 (reqQ l)) ∧ Below w.heap.size w w' := by
  obtain ⟨k, hk⟩ : ∃ k, 100003 ≤ k := ⟨100003, Nat.le_refl _⟩
  have hw := walk_eq hk (names := reqNames) (by decide) l [] false hS.sz
  have hpB : ∀ s, prefB s = prefP s := fun s => by unfold prefB; rw [pref_eq]; rfl
  have := request_calls k A l c w (by have := hS.len; omega) hC (fun f hf => (fit_of hk (by decide) (hS.sz f hf)).1) (fun m _ => by rw [hpB]; exact pref_eq _)
  have e : reqP k l = reqQ l := by
    unfold reqP reqQ
    rw [← hw]
    rcases walkP_cases k reqNames l [] false with ⟨m, hp⟩ | hp | hp | hp
    · rw [hp]
      show reqS m reqNames = _
      unfold reqS
      rw [hpB]
    all_goals rw [hp]
  rw [e] at this
  exact this
theorem len_c {A : Option Addr} {l : List S61} {c : Nat} {w : World} (hS : Sized l) (hC : k61.C w A l.length l) (hc : l.length ≤ c) : Calls Tryz.prog 32 #[.slice A l.length c] w fun e w' => e = .returned (.tuple #[.int .i64 (lenQ l).1, .int .i64 (lenQ l).2]) ∧ Below w.heap.size w w' := by
  have hsz : ∀ s, getP lenB l = some s → digitsB s = digP s ∧ field_digits.f s = some (digP s) := fun s hs => by
    obtain ⟨f, hf, rfl⟩ := getP_mem hs
    have := digits_eq f.f1 (by have := (hS.sz f hf).2; omega)
    exact ⟨by unfold digitsB; rw [this]; rfl, this⟩
  have hN : ∀ s, digP s = true → lenN s = ((numD s.toList : Nat) : Int) := fun s h => by unfold lenN; rw [atoi_eq s h]; rfl
  have := length_calls (l.length + 1) A l c w (by have := hS.len; omega) hC hc (get_eq _ lenB l (by have := hS.len; omega) (Nat.le_refl _)) (fun s hs => by
    obtain ⟨h1, h2⟩ := hsz s hs
    rw [h1]
    exact ⟨h2, fun h _ => by rw [hN s h]; exact atoi_eq s h⟩)
  have e : lenP l = lenQ l := by
    unfold lenP lenQ
    cases h : getP lenB l with
    | none => rfl
    | some s =>
      show lenS l s = if l.any (otherB s) || !digP s || decide ((s.size : Int) > 9) then (-1, 3) else (((numD s.toList : Nat) : Int), 0)
      unfold lenS
      rw [(hsz s h).1]
      cases hd : digP s with
      | false => simp
      | true => rw [hN s hd]
  rw [e] at this
  exact this
end Go.Proofs.YtififgiicpdndaaGreatDoor.Fw
/- Rows of fields in memory: a literal, a part of it. -/
namespace Go.Proofs.YtififgiicpdndaaGreatDoor.Fw
open Go.RowKit Go.Proofs.YtififgiicpdndaaGreatDoor.XMi Go.Proofs.YtififgiicpdndaaGreatDoorW.PrintWords Go.Proofs.YtififgiicpdndaaGreatDoorW.PrintLast Go.Proofs.YtififgiicpdndaaGreatDoorW.PrintMore Go.Proofs.YtififgiicpdndaaGreatDoor.Ms
def fcells : List S61 → List Value
  | [] => []
  | x :: l => .string x.f0 :: .string x.f1 :: fcells l
theorem fcells_len : ∀ l : List S61, (fcells l).length = l.length * 2
  | [] => rfl
  | x :: l => by simp [fcells, fcells_len l]; omega
theorem fcells_get : ∀ (l : List S61) (j : Nat) (p : S61), l[j]? = some p → (fcells l)[j * 2]? = some (.string p.f0) ∧ (fcells l)[j * 2 + 1]? = some (.string p.f1)
  | [], j, p, h => by simp at h
  | x :: l, 0, p, h => by
    obtain rfl := Option.some.inj h
    exact ⟨rfl, rfl⟩
  | x :: l, j + 1, p, h => by
    have := fcells_get l j p (by simpa using h)
    rw [show (j + 1) * 2 = j * 2 + 1 + 1 by omega]
    simpa [fcells] using this
theorem fcells_append : ∀ a b : List S61, fcells (a ++ b) = fcells a ++ fcells b
  | [], _ => rfl
  | x :: a, b => by simp [fcells, fcells_append a b]
/-- A row of fields that lies in a block. -/
theorem flds_of {w : World} {b : Nat} {cs : Array Value} {t : TypeId} {fr : Nat × Nat} (hh : w.heap[b]? = some (.cells cs t fr)) (pre : List Value) (l : List S61) (post : List Value) (e : cs.toList = pre ++ (fcells l ++ post)) (hl : l.length ≤ 1000000000) : k61.C w (some ⟨b, pre.length, none⟩) l.length l := by
  refine ⟨rfl, by omega, fun _ => ⟨_, rfl, fun j p hp => ⟨[.string p.f0, .string p.f1], rfl, k61_mk w p, fun i u hu => ?_⟩⟩⟩
  have hj : j < l.length := (List.getElem?_eq_some_iff.1 hp).1
  have hcell : ∀ n, n < l.length * 2 → w.cell? ((⟨b, pre.length, none⟩ : Addr).add n) = (fcells l)[n]? := fun n hn => by
    have e2 : (⟨b, pre.length, none⟩ : Addr).add n = ⟨b, pre.length + n, none⟩ := by
      unfold Addr.add
      split
      · next h => rw [h, Nat.add_zero]
      · rfl
    rw [e2]
    unfold World.cell?
    rw [show (⟨b, pre.length + n, none⟩ : Addr).block = b from rfl, hh]
    show cs[pre.length + n]? = _
    rw [← Array.getElem?_toList, e, List.getElem?_append_right (by omega), List.getElem?_append_left (by rw [fcells_len]; omega)]
    congr 1
    omega
  obtain ⟨h0, h1⟩ := fcells_get l j p hp
  have hsz : j * k61.sz = j * 2 := rfl
  rw [hsz, hcell _ (by
    rcases i with _ | _ | i
    · omega
    · omega
    · cases hu)]
  rcases i with _ | _ | i
  · obtain rfl := Option.some.inj hu
    exact h0
  · obtain rfl := Option.some.inj hu
    exact h1
  · cases hu
theorem sized_lit {l : List S61} (h : (decide (l.length ≤ 100000) && l.all (fun f => decide (f.f0.size ≤ 100000) && decide (f.f1.size ≤ 100000))) = true) : Sized l := by
  rw [Bool.and_eq_true, List.all_eq_true] at h
  refine ⟨of_decide_eq_true h.1, fun f hf => ?_⟩
  have := h.2 f hf
  rw [Bool.and_eq_true] at this
  exact ⟨of_decide_eq_true this.1, of_decide_eq_true this.2⟩
end Go.Proofs.YtififgiicpdndaaGreatDoor.Fw
/- A row of fields of one's own, and what is appended to it. -/
namespace Go.Proofs.YtififgiicpdndaaGreatDoor.Fw
open Go.RowKit Go.Proofs.YtififgiicpdndaaGreatDoor.XMi Go.Proofs.YtififgiicpdndaaGreatDoorW.PrintWords Go.Proofs.YtififgiicpdndaaGreatDoorW.PrintLast Go.Proofs.YtififgiicpdndaaGreatDoorW.PrintMore Go.Proofs.YtififgiicpdndaaGreatDoor.Ms
theorem infoFd : (Tryz.prog.info? 61).map (fun i => (i.zero, i.size, i.bytes)) = some (some (.agg #[(.string ⟨#[]⟩), (.string ⟨#[]⟩)]), 2, 32) := by kernel_rfl
theorem cells_of_heap {w : World} {g : Nat} {cs : Array Value} {t : TypeId} (h : w.heap[g]? = some (.cells cs t (0, 0))) (i : Nat) (v : Value) (hv : cs[i]? = some v) : w.cell? ⟨g, i, none⟩ = some v := by
  unfold World.cell?
  rw [show (⟨g, i, none⟩ : Addr).block = g from rfl, h]
  exact hv
/-- A row of fields of one's own: it begins at its block's start, and the block is not below 'base'. -/
def FR (w : World) (base : Nat) (A : Option Addr) (n c : Nat) (l : List S61) : Prop := n = l.length ∧ w.ownsRow base 61 2 (.slice A n c) n (fcells l)
theorem FR.nil (w : World) (base : Nat) : FR w base none 0 0 [] := ⟨rfl, World.ownsRow_nil w base 61 2⟩
theorem FR.c {w : World} {base n c : Nat} {A : Option Addr} {l : List S61} (h : FR w base A n c l) (hl : l.length ≤ 1000000000) : k61.C w A n l ∧ n ≤ c := by
  obtain ⟨rfl, h1, h2⟩ := h
  rcases h2 with ⟨e, h0⟩ | ⟨g, cap, cur, e, hb, hh, hnc, hcm, hcs, ht⟩
  · injection e with e1 e2 e3
    subst e1; subst e3
    obtain rfl : l = [] := List.eq_nil_of_length_eq_zero h0
    exact ⟨⟨rfl, Nat.zero_le _, fun h => absurd h (Nat.lt_irrefl _)⟩, Nat.zero_le _⟩
  · injection e with e1 e2 e3
    subst e1; subst e3
    exact ⟨flds_of hh [] l (cur.toList.drop (l.length * 2)) (by rw [← ht]; simp [List.take_append_drop]) hl, hnc⟩
theorem FR.step {w w' : World} {base n c : Nat} {A : Option Addr} {l : List S61} (h : FR w base A n c l) (hb : Below w.heap.size w w') : FR w' base A n c l := by
  obtain ⟨rfl, h1, h2⟩ := h
  refine ⟨rfl, h1, ?_⟩
  rcases h2 with h2 | ⟨g, cap, cur, e, hbg, hh, hr⟩
  · exact .inl h2
  · exact .inr ⟨g, cap, cur, e, hbg, (hb.block g (blk_lt hh)).trans hh, hr⟩
theorem FR.alloc {w : World} {base n c : Nat} {A : Option Addr} {l : List S61} (h : FR w base A n c l) (o : Obj) : FR (w.alloc o) base A n c l := h.step (Below.alloc (Below.refl _ _) (Nat.le_refl _) o)
theorem FR.drew {w : World} {base n c : Nat} {A : Option Addr} {l : List S61} (h : FR w base A n c l) : FR w.drew base A n c l := h
theorem fcells_one : ∀ l : List S61, ∀ v ∈ fcells l, v.oneCell' = true
  | [], v, h => by cases h
  | x :: l, v, h => by
    simp only [fcells, List.mem_cons] at h
    rcases h with rfl | rfl | h
    · rfl
    · rfl
    · exact fcells_one l v h
theorem fcells_at : ∀ (l : List S61) (j : Nat) (u : Value), (fcells l)[j]? = some u → ∃ (q : Nat) (x : S61), l[q]? = some x ∧ (j = q * 2 ∧ u = .string x.f0 ∨ j = q * 2 + 1 ∧ u = .string x.f1)
  | [], j, u, h => by simp [fcells] at h
  | x :: l, 0, u, h => by
    obtain rfl := Option.some.inj h
    exact ⟨0, x, rfl, .inl ⟨rfl, rfl⟩⟩
  | x :: l, 1, u, h => by
    obtain rfl := Option.some.inj h
    exact ⟨0, x, rfl, .inr ⟨rfl, rfl⟩⟩
  | x :: l, j + 2, u, h => by
    obtain ⟨q, y, h1, h2⟩ := fcells_at l j u (by simpa [fcells] using h)
    refine ⟨q + 1, y, by simpa using h1, ?_⟩
    rcases h2 with ⟨rfl, h2⟩ | ⟨rfl, h2⟩
    · exact .inl ⟨by omega, h2⟩
    · exact .inr ⟨by omega, h2⟩
theorem c_cells {w : World} {ad : Addr} {m : Nat} {k : List S61} (hC : k61.C w (some ad) m k) : ∀ j u, (fcells k)[j]? = some u → w.cell? (ad.add j) = some u := by
  intro j u hj
  obtain ⟨q, x, hq, hu⟩ := fcells_at k j u hj
  have hql : q < k.length := (List.getElem?_eq_some_iff.1 hq).1
  have hm : m = k.length := hC.1.symm
  obtain ⟨ad', e, h0, h1⟩ := at_T61 hC (q : Int) (by omega) (by omega)
  obtain rfl := Option.some.inj e
  have hx : rd_T61 k (q : Int) = x := by simp [rd_T61, hq]
  rw [hx, Int.toNat_natCast] at h0 h1
  rcases hu with ⟨rfl, rfl⟩ | ⟨rfl, rfl⟩
  · exact h0
  · rw [← h1]
    congr 1
    unfold Addr.add
    repeat' split
    all_goals first | rfl | omega | (simp_all; done) | (simp_all; omega)
theorem app_run {w w0 : World} {base : Nat} {A B : Option Addr} {n c m d : Nat} {l k : List S61} (ty : TypeId) (h : FR w base A n c l) (hC : k61.C w B m k) (hl : l.length + k.length ≤ 1000000) (hbase : base ≤ w.heap.size) (hb : Below base w0 w) :
    ∃ A' c' w', (Builtin.append_ #[22, 22] ty #[.slice A n c, .slice B m d]).run Tryz.prog w = .ok (.slice A' (n + m) c') w' ∧ FR w' base A' (n + m) c' (l ++ k) ∧ Below base w0 w' ∧ w.grownBy w' (Value.ownBlock (.slice A n c)) := by
  obtain ⟨i, hi, hz, hs, hby⟩ := info_parts infoFd
  have hm : m = k.length := hC.1.symm
  subst hm
  obtain ⟨rfl, hown⟩ := h
  cases B with
  | none =>
    have hk : k = [] := by
      rcases Nat.eq_zero_or_pos k.length with h | h
      · exact List.eq_nil_of_length_eq_zero h
      · obtain ⟨ad, e, _⟩ := hC.2.2 h
        cases e
    subst hk
    have hn : (Builtin.append_ #[22, 22] ty #[.slice A l.length c, .slice none 0 d]).run Tryz.prog w = .ok (.slice A l.length c) w := by
      have hle : l.length ≤ c := (FR.c ⟨rfl, hown⟩ (by omega)).2
      cases A <;> simp [Builtin.append_, run_underlying Tryz.underlying22, sizeOf, typeInfo, hi, Builtin.lenOf, Builtin.firstCells, loadCells, storeCells, hle]
    exact ⟨A, c, w, hn, ⟨by simp, by simpa using hown⟩, hb, rfl, rfl, rfl, Nat.le_refl _, fun _ _ _ => rfl⟩
  | some ad =>
    have hmx : maxLen = 9223372036854775807 := rfl
    obtain ⟨v', w', hr, ho, hg, hnil, hat⟩ := run_append_own_at (P := Tryz.prog) w base 22 ty 61 i (.agg #[.string ⟨#[]⟩, .string ⟨#[]⟩]) 2 32 Tryz.underlying22 hi hz hs hby rfl (by decide) (.slice A l.length c) l.length (fcells l) hown ad k.length d (fcells k) (fcells_len k) (c_cells hC) (fcells_one k) (by omega) (by omega) hbase
    obtain ⟨A', c', rfl⟩ : ∃ A' c', v' = .slice A' (l.length + k.length) c' := by
      rcases ho.2 with ⟨rfl, h0⟩ | ⟨g, cap, cur, rfl, _⟩
      · exact ⟨none, 0, by rw [h0]⟩
      · exact ⟨_, _, rfl⟩
    refine ⟨A', c', w', hr, ⟨by simp, by rw [fcells_append]; exact ho⟩, hb.grown hg hbase fun g hg => ?_, hg⟩
    rcases hown.2 with ⟨e, _⟩ | ⟨g', cap, cur, e, hbg, _⟩
    · rw [e] at hg; cases hg
    · rw [e] at hg
      obtain rfl : g' = g := by simpa [Value.ownBlock] using hg
      exact hbg
theorem wp_app {o : Oper} {a : Act} {K : Act → World → Prop} {Q : Exit → Act → World → Prop} {w : World} (s x : Operand) (ho : o.op = .call { callee := .builtin .append, args := #[s, x], argTypes := #[22, 22] })
    (w0 : World) (base : Nat) (A B : Option Addr) (n c m d : Nat) (l k : List S61) (hs : a.eval s = .slice A n c) (hx : a.eval x = .slice B m d) (h : FR w base A n c l) (hC : k61.C w B m k) (hl : l.length + k.length ≤ 1000000) (hbase : base ≤ w.heap.size) (hb : Below base w0 w)
    (hK : ∀ A' c' w', FR w' base A' (n + m) c' (l ++ k) → Below base w0 w' → w.grownBy w' (Value.ownBlock (.slice A n c)) → K (a.put o.dst (.slice A' (n + m) c')) w') : o.wp Tryz.prog a w K Q := by
  obtain ⟨A', c', w', hr, h1, h2, h3⟩ := app_run o.type h hC (d := d) hl hbase hb
  unfold Oper.wp execOp
  simp only [ho, resolve, invoke, builtin, Sem.run_bind, Sem.run_pure, Result.andThen_ok, List.map_toArray, List.map_cons, List.map_nil, hs, hx, hr]
  exact hK A' c' w' h1 h2 h3
/-- At a plain region's list. -/
theorem list_app {ops : Array Oper} {rest : List Oper} {o : Oper} {a : Act} {Q : Exit → Act → World → Prop} {w : World} (hgd : o.guard = none) (s x : Operand) (ho : o.op = .call { callee := .builtin .append, args := #[s, x], argTypes := #[22, 22] })
    (w0 : World) (base : Nat) (A B : Option Addr) (n c m d : Nat) (l k : List S61) (hs : a.eval s = .slice A n c) (hx : a.eval x = .slice B m d) (h : FR w base A n c l) (hC : k61.C w B m k) (hl : l.length + k.length ≤ 1000000) (hbase : base ≤ w.heap.size) (hb : Below base w0 w)
    (hK : ∀ A' c' w', FR w' base A' (n + m) c' (l ++ k) → Below base w0 w' → w.grownBy w' (Value.ownBlock (.slice A n c)) → wpList Tryz.prog ops Q rest (a.put o.dst (.slice A' (n + m) c')) w') : wpList Tryz.prog ops Q (o :: rest) a w :=
  wpList_plain hgd fun _ hp => wp_app s x ho w0 base A B n c m d l k hs hx h hC hl hbase hb fun A' c' w' h1 h2 h3 => hp _ _ (hK A' c' w' h1 h2 h3)
/-- At a step of a region that draws. -/
theorem step_app {ops : Array Oper} {o : Oper} {a : Act} {K : Act → World → Prop} {Q : Exit → Act → World → Prop} {E : Prop} {w : World} (hw : Region.wanted o (yielded ops a.tmps) = true) (s x : Operand) (ho : o.op = .call { callee := .builtin .append, args := #[s, x], argTypes := #[22, 22] })
    (w0 : World) (base : Nat) (A B : Option Addr) (n c m d : Nat) (l k : List S61) (hs : a.eval s = .slice A n c) (hx : a.eval x = .slice B m d) (h : FR w base A n c l) (hC : k61.C w B m k) (hl : l.length + k.length ≤ 1000000) (hbase : base ≤ w.heap.size) (hb : Below base w0 w)
    (hK : ∀ A' c' w', FR w' base A' (n + m) c' (l ++ k) → Below base w0 w' → w.grownBy w' (Value.ownBlock (.slice A n c)) → K (a.put o.dst (.slice A' (n + m) c')) w') :
    if Region.wanted o (yielded ops a.tmps) = true then Oper.wp Tryz.prog o a w K Q else E := by
  rw [if_pos hw]
  exact wp_app s x ho w0 base A B n c m d l k hs hx h hC hl hbase hb hK
end Go.Proofs.YtififgiicpdndaaGreatDoor.Fw
/- A slice of fields, and a field, that came in: opened. -/
namespace Go.Proofs.YtififgiicpdndaaGreatDoor.Fw
open Go.ChangeShapes Go.WideShapes Go.RowKit Go.Proofs.YtififgiicpdndaaGreatDoor.XMi Go.Proofs.YtififgiicpdndaaGreatDoorW.PrintWords Go.Proofs.YtififgiicpdndaaGreatDoorW.PrintLast Go.Proofs.YtififgiicpdndaaGreatDoorW.PrintMore Go.Proofs.YtififgiicpdndaaGreatDoor.Ms

/-- What the guards leave of a list that came in. -/
structure Small (l : List S61) (cap : Nat) : Prop where
  cap : l.length ≤ cap
  len : l.length ≤ reachBytes
  sz : ∀ y ∈ l, y.f0.size ≤ reachBytes ∧ y.f1.size ≤ reachBytes
theorem bytes26 : Tryz.prog.bytesOf 61 = 32 := by kernel_rfl
section
variable {H : Type} {enc : TypeId × Value → H} {w : World} {base : Nat} {spare : Nat → Bool} {held : Bool}
theorem weights_all {P : Program} {e : TypeId} : ∀ {ds : List (DataW H)} {d : DataW H}, d ∈ ds → ∀ n ∈ d.weights P e, n ∈ DataW.weightsAll P e ds
  | d0 :: ds, d, hd, n, hn => by
    simp only [DataW.weightsAll, List.mem_append]
    rcases List.mem_cons.1 hd with rfl | hd
    · exact .inl hn
    · exact .inr (weights_all hd n hn)
theorem pair_weights (a b : List UInt8) : ∀ n, n = a.length ∨ n = b.length → n ∈ (DataW.agg [DataW.lit (.string a), DataW.lit (.string b)] : DataW H).weights Tryz.prog 61 := by
  intro n hn
  simp only [DataW.weights, Tryz.underlying61]
  simp only [DataW.weightsEach, DataW.weights, List.map_cons, List.map_nil, List.mem_append, List.mem_singleton]
  rcases hn with rfl | rfl
  · exact .inl rfl
  · exact .inr (.inl rfl)
theorem open_fields {fuel j : Nat} {cs : List Value} {x : DataW H × List MemPlace} {ts : List TypeId} {ds : List (DataW H)} (hsz : (DataW.weightsEach Tryz.prog ts ds).all (· ≤ reachBytes) = true) (htj : ts[j]? = some 22) (hdj : ds[j]? = some x.1)
    (h : DataW.trod enc Tryz.prog w base spare held fuel 22 cs = some x) :
    ∃ (A : Option Addr) (cap : Nat) (l : List S61), cs = [.slice A l.length cap] ∧ True ∧ k61.C w A l.length l ∧ Small l cap := by
  rcases Go.Deep.open_slice_pairs (P := Tryz.prog) Tryz.underlying22 Tryz.underlying61 (by kernel_rfl) rfl rfl (by kernel_rfl) (by kernel_rfl) h with ⟨rfl, rfl⟩ | ⟨a, len, cap, m, n, V0, V1, D0, D1, P0, P1, rfl, hb, hl, hm, hmm, rfl, hx⟩
  · exact ⟨none, 0, [], rfl, trivial, ⟨rfl, Nat.zero_le _, fun h => absurd h (Nat.lt_irrefl _)⟩, Nat.le_refl _, Nat.zero_le _, fun y hy => by cases hy⟩
  · have hlm : len ≤ m := by rw [hmm]; split <;> omega
    have each : ∀ i, i < len → ∃ y : S61, V0 i = .string y.f0 ∧ V1 i = .string y.f1 ∧ D0 i = .lit (.string y.f0.data.toList) ∧ D1 i = .lit (.string y.f1.data.toList) := by
      intro i hi
      obtain ⟨_, _, h0, h1⟩ := hx i (by omega)
      obtain ⟨s0, e0, g0, _⟩ := DataW.trod_string (by exact Tryz.underlying9) h0
      obtain ⟨s1, e1, g1, _⟩ := DataW.trod_string (by exact Tryz.underlying9) h1
      exact ⟨⟨s0, s1⟩, by simpa using e0, by simpa using e1, by simpa using congrArg Prod.fst g0, by simpa using congrArg Prod.fst g1⟩
    obtain ⟨Y, hY⟩ := Go.Deep.choose_lt each
    have hlen : ((List.range len).map Y).length = len := by simp
    unfold maxLen at hm
    refine ⟨some a, cap, (List.range len).map Y, by rw [hlen], trivial, ⟨rfl, by rw [hlen]; omega, fun _ => ⟨a, rfl, fun i y hy => ?_⟩⟩, by rw [hlen]; exact hl, ?big, fun y hy => ?_⟩
    case big =>
      have := List.all_eq_true.1 hsz _ (DataW.weights_mem_each htj hdj _ (by simp only [DataW.weights, Tryz.underlying22]; exact List.mem_cons_self))
      have h2 := of_decide_eq_true this
      rw [bytes26, List.length_map, List.length_range] at h2
      rw [hlen]
      omega
    · have hi : i < len := by rw [← hlen]; exact (List.getElem?_eq_some_iff.1 hy).1
      rw [List.getElem?_map, List.getElem?_range hi] at hy
      obtain rfl := Option.some.inj hy
      obtain ⟨c0, c1, _⟩ := hx i (by omega)
      obtain ⟨e0, e1, _⟩ := hY i hi
      refine ⟨[.string (Y i).f0, .string (Y i).f1], rfl, k61_mk w (Y i), fun k u hu => ?_⟩
      rcases k with _ | _ | k
      · obtain rfl := Option.some.inj hu
        rw [← e0]
        exact c0
      · obtain rfl := Option.some.inj hu
        rw [← e1]
        exact c1
      · cases hu
    · obtain ⟨i, hi, rfl⟩ := List.mem_map.1 hy
      have hi' : i < len := List.mem_range.1 hi
      obtain ⟨_, _, d0, d1⟩ := hY i hi'
      have hmem : ∀ q, q = (Y i).f0.data.toList.length ∨ q = (Y i).f1.data.toList.length → q ≤ reachBytes := by
        intro q hq
        have hw := weights_all (P := Tryz.prog) (e := 61) (ds := (List.range len).map fun i => DataW.agg [D0 i, D1 i]) (List.mem_map.2 ⟨i, hi, rfl⟩) q (by rw [d0, d1]; exact pair_weights _ _ q hq)
        have := List.all_eq_true.1 hsz q (DataW.weights_mem_each htj hdj q (by simp only [DataW.weights, Tryz.underlying22]; simp only [List.mem_cons, List.mem_append]; exact .inr (.inl hw)))
        simpa using this
      exact ⟨by have := hmem _ (.inl rfl); rwa [Array.length_toList] at this, by have := hmem _ (.inr rfl); rwa [Array.length_toList] at this⟩
end
end Go.Proofs.YtififgiicpdndaaGreatDoor.Fw
/- FieldForbids. -/
namespace Go.Proofs.YtififgiicpdndaaGreatDoor.Fw
open Go.RowKit Go.Proofs.YtififgiicpdndaaGreatDoor.XMi Go.Proofs.YtififgiicpdndaaGreatDoorW.PrintWords Go.Proofs.YtififgiicpdndaaGreatDoorW.PrintLast Go.Proofs.YtififgiicpdndaaGreatDoorW.PrintMore Go.Proofs.YtififgiicpdndaaGreatDoor.Ms
theorem trail_n {A : Option Addr} {l : List S61} {n c : Nat} {w : World} (hS : Sized l) (hC : k61.C w A n l) : Calls Tryz.prog 29 #[.slice A n c] w fun e w' => e = .returned (.int .i64 (trailQ l)) ∧ Below w.heap.size w w' := by
  obtain rfl : l.length = n := hC.1
  exact trail_c hS hC
theorem resp_n {A : Option Addr} {l : List S61} {n c : Nat} {w : World} (hS : Sized l) (hC : k61.C w A n l) : Calls Tryz.prog 62 #[.slice A n c] w fun e w' => e = .returned (.int .i64 (respQ l)) ∧ Below w.heap.size w w' := by
  obtain rfl : l.length = n := hC.1
  exact resp_c hS hC
theorem req_n {A : Option Addr} {l : List S61} {n c : Nat} {w : World} (hS : Sized l) (hC : k61.C w A n l) : Calls Tryz.prog 31 #[.slice A n c] w fun e w' => e = .returned (.int .i64 (reqQ l)) ∧ Below w.heap.size w w' := by
  obtain rfl : l.length = n := hC.1
  exact req_c hS hC
theorem get_n (name : ByteArray) {A : Option Addr} {l : List S61} {n c : Nat} {w : World} (hS : Sized l) (hC : k61.C w A n l) (hc : n ≤ c) : Calls Tryz.prog 63 #[.string name, .slice A n c] w fun e w' => e = .returned (.tuple #[.string ((getP name l).getD ⟨#[]⟩), .bool (getP name l).isSome]) ∧ Below w.heap.size w w' := by
  obtain rfl : l.length = n := hC.1
  exact get_c name hS hC hc
theorem len_n {A : Option Addr} {l : List S61} {n c : Nat} {w : World} (hS : Sized l) (hC : k61.C w A n l) (hc : n ≤ c) : Calls Tryz.prog 32 #[.slice A n c] w fun e w' => e = .returned (.tuple #[.int .i64 (lenQ l).1, .int .i64 (lenQ l).2]) ∧ Below w.heap.size w w' := by
  obtain rfl : l.length = n := hC.1
  exact len_c hS hC hc
theorem lit1 (w : World) (a b : ByteArray) : k61.C (w.alloc (.cells #[.string a, .string b] 61)) (some ⟨w.heap.size, 0, none⟩) 1 [⟨a, b⟩] := flds_of (heap_alloc_new w _) [] [⟨a, b⟩] [] rfl (by simp)
end Go.Proofs.YtififgiicpdndaaGreatDoor.Fw
/- Few, inner: contracts in plain words. -/
namespace Go.Proofs.YtififgiicpdndaaGreatDoor.Fw
open Go.RowKit Go.Proofs.YtififgiicpdndaaGreatDoor.XMi Go.Proofs.YtififgiicpdndaaGreatDoorW.PrintWords Go.Proofs.YtififgiicpdndaaGreatDoorW.PrintLast Go.Proofs.YtififgiicpdndaaGreatDoorW.PrintMore Go.Proofs.YtififgiicpdndaaGreatDoor.Ms
def wsum : List S61 → Int → Int
  | [], n => n
  | f :: l, n => wsum l (wrap64 (n + wrap64 ((f.f0.size : Int) + (f.f1.size : Int))))
def tot : List S61 → Nat
  | [] => 0
  | f :: l => f.f0.size + f.f1.size + tot l
def fewP (l : List S61) : Bool := decide (l.length ≤ 40) && decide (tot l ≤ 4000)
theorem few_l0 (l : List S61) (hl : l.length ≤ 1000000000000000) : ∀ (rest pre : List S61) (n : Int) (k : Nat), l = pre ++ rest → rest.length + 1 ≤ k → bywashlaw6_Few.l0 k l n l (l.length : Int) (pre.length : Int) = some (decide (l.length ≤ 40) && decide (wsum rest n ≤ 4000)) := by
  intro rest
  induction rest with
  | nil =>
    intro pre n k e hk
    obtain ⟨k, rfl⟩ : ∃ m, k = m + 1 := ⟨k - 1, by omega⟩
    have hp : pre.length = l.length := by rw [e, List.append_nil]
    rw [hp]
    simp only [bywashlaw6_Few.l0]
    rw [if_neg (by omega)]
    by_cases h : l.length ≤ 40
    · rw [if_pos (by omega), decide_eq_true h, Bool.true_and]
      rfl
    · rw [if_neg (by omega), decide_eq_false h, Bool.false_and]
  | cons f rest ih =>
    intro pre n k e hk
    obtain ⟨k, rfl⟩ : ∃ m, k = m + 1 := ⟨k - 1, by omega⟩
    have hp : pre.length < l.length := by rw [e]; simp
    simp only [bywashlaw6_Few.l0]
    have hf : rd_T61 l (pre.length : Int) = f := by
      have : l[pre.length]? = some f := by rw [e]; simp
      simp [rd_T61, this]
    rw [if_pos (by omega), if_pos (by omega), if_pos (by omega), hf]
    have e1 : wrap64 ((pre.length : Int) + 1) = (((pre ++ [f]).length : Nat) : Int) := by
      rw [List.length_append, List.length_singleton, w64_in ((pre.length : Int) + 1) (by omega)]
      rfl
    rw [e1]
    exact ih (pre ++ [f]) _ k (by rw [e]; simp) (by simp at hk; omega)
theorem wsum_eq : ∀ (l : List S61) (n : Int), (∀ f ∈ l, f.f0.size ≤ 140737488355328 ∧ f.f1.size ≤ 140737488355328) → l.length ≤ 40 → 0 ≤ n → n ≤ 281474976710656 * (40 - l.length) → wsum l n = n + (tot l : Int)
  | [], n, _, _, _, _ => by simp [wsum, tot]
  | f :: l, n, h, hl, h0, hn => by
    obtain ⟨h1, h2⟩ := h f (by simp)
    rw [List.length_cons] at hl hn
    have e1 : wrap64 ((f.f0.size : Int) + (f.f1.size : Int)) = (f.f0.size : Int) + (f.f1.size : Int) := w64_in ((f.f0.size : Int) + (f.f1.size : Int)) (by omega)
    have e2 : wrap64 (n + ((f.f0.size : Int) + (f.f1.size : Int))) = n + ((f.f0.size : Int) + (f.f1.size : Int)) := w64_in (n + ((f.f0.size : Int) + (f.f1.size : Int))) (by omega)
    unfold wsum tot
    rw [e1, e2, wsum_eq l _ (fun x hx => h x (by simp [hx])) (by omega) (by omega) (by omega)]
    omega
theorem few_eq (l : List S61) (hl : l.length ≤ 1000000000000000) (hs : ∀ f ∈ l, f.f0.size ≤ reachBytes ∧ f.f1.size ≤ reachBytes) : bywashlaw6_Few.f (l.length + 1) l = some (fewP l) := by
  have := few_l0 l hl l [] 0 (l.length + 1) rfl (Nat.le_refl _)
  refine this.trans ?_
  unfold fewP
  by_cases h : l.length ≤ 40
  · rw [wsum_eq l 0 (fun f hf => by have := hs f hf; have := reachBytes_lt; omega) h (Int.le_refl _) (by omega)]
    congr 2
    exact decide_eq_decide.2 (by omega)
  · rw [decide_eq_false h, Bool.false_and, Bool.false_and]
theorem tot_mem : ∀ {l : List S61} {f : S61}, f ∈ l → f.f0.size + f.f1.size ≤ tot l
  | f :: l, g, h => by
    unfold tot
    rcases List.mem_cons.1 h with rfl | h
    · omega
    · have := tot_mem h
      omega
theorem few_sized {l : List S61} (h : fewP l = true) : Sized l ∧ l.length ≤ 40 ∧ tot l ≤ 4000 := by
  unfold fewP at h
  rw [Bool.and_eq_true] at h
  have h1 := of_decide_eq_true h.1
  have h2 := of_decide_eq_true h.2
  exact ⟨⟨by omega, fun f hf => by have := tot_mem hf; exact ⟨by omega, by omega⟩⟩, h1, h2⟩
theorem few_c {A : Option Addr} {l : List S61} {c : Nat} {w : World} (hC : k61.C w A l.length l) (hc : l.length ≤ c) (hl : l.length ≤ 1000000000000000) (hs : ∀ f ∈ l, f.f0.size ≤ reachBytes ∧ f.f1.size ≤ reachBytes) : Calls Tryz.prog 18 #[.slice A l.length c] w fun e w' => e = .returned (.bool (fewP l)) ∧ Below w.heap.size w w' :=
  bywashlaw6_Few.calls (l.length + 1) A c l _ w hC hc (few_eq l hl hs)
end Go.Proofs.YtififgiicpdndaaGreatDoor.Fw
/- FieldGets. -/
namespace Go.Proofs.YtififgiicpdndaaGreatDoor.Fw
open Go.RowKit Go.Proofs.YtififgiicpdndaaGreatDoor.XMi Go.Proofs.YtififgiicpdndaaGreatDoorW.PrintWords Go.Proofs.YtififgiicpdndaaGreatDoorW.PrintLast Go.Proofs.YtififgiicpdndaaGreatDoorW.PrintMore Go.Proofs.YtififgiicpdndaaGreatDoor.Ms
end Go.Proofs.YtififgiicpdndaaGreatDoor.Fw
/- FieldMore. -/
namespace Go.Proofs.YtififgiicpdndaaGreatDoor.Fw
open Go.RowKit Go.Proofs.YtififgiicpdndaaGreatDoor.XMi Go.Proofs.YtififgiicpdndaaGreatDoorW.PrintWords Go.Proofs.YtififgiicpdndaaGreatDoorW.PrintLast Go.Proofs.YtififgiicpdndaaGreatDoorW.PrintMore Go.Proofs.YtififgiicpdndaaGreatDoor.Ms
end Go.Proofs.YtififgiicpdndaaGreatDoor.Fw
/- FieldStatus. -/
namespace Go.Proofs.YtififgiicpdndaaGreatDoor.Fw
open Go.RowKit Go.Proofs.YtififgiicpdndaaGreatDoor.XMi Go.Proofs.YtififgiicpdndaaGreatDoorW.PrintWords Go.Proofs.YtififgiicpdndaaGreatDoorW.PrintLast Go.Proofs.YtififgiicpdndaaGreatDoorW.PrintMore Go.Proofs.YtififgiicpdndaaGreatDoor.Ms
def digC (n : Nat) : UInt8 := UInt8.ofNat (48 + n % 10)
def digsF : Nat → Nat → List UInt8
  | 0, _ => []
  | k + 1, n => if n < 10 then [digC n] else digsF k (n / 10) ++ [digC n]
def fin (k v : Nat) (d : List UInt8) : List UInt8 := if v = 0 ∧ d ≠ [] then d else digsF k v ++ d
theorem mem_stat : memP [colStatus] colStatus = true := by kernel_rfl
end Go.Proofs.YtififgiicpdndaaGreatDoor.Fw
