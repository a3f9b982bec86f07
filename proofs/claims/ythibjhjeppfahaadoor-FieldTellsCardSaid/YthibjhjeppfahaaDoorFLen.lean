/- field.Length: the contract. -/
import Derived.Test.YthibjhjeppfahaaDoorFReq2
import Derived.Test.YthibjhjeppfahaaDoorAtoiLay
import Derived.Lib.AtoiErrMem
namespace Go.Proofs.YthibjhjeppfahaaDoor.Fw
open Go.RowKit Go.Proofs.YthibjhjeppfahaaDoor.XFi Go.Proofs.YthibjhjeppfahaaDoorW.PrintWords Go.Proofs.YthibjhjeppfahaaDoorW.PrintLast Go.Proofs.YthibjhjeppfahaaDoorW.PrintMore Go.Proofs.YthibjhjeppfahaaDoor.Ms
def lenB : ByteArray := ⟨#[99, 111, 110, 116, 101, 110, 116, 45, 108, 101, 110, 103, 116, 104]⟩
instance : Inhabited S26 := ⟨z26⟩
def otherB (s : ByteArray) (f : S26) : Bool := f.f0.toList == [99, 111, 110, 116, 101, 110, 116, 45, 108, 101, 110, 103, 116, 104] && f.f1.toList != s.toList
set_option maxHeartbeats 800000 in
theorem other_calls (s : ByteArray) (x : S26) (w : World) (b : Nat) (hb : w.heap[b]? = some (.cells #[.string s] 9 (0, 0))) :
    Calls Tryd.prog 36 #[.agg #[.string x.f0, .string x.f1], .pointer (some ⟨b, 0, none⟩)] w fun e w' => e = .returned (.bool (otherB s x)) ∧ Below w.heap.size w w' := by
  have hlt : b < w.heap.size := by
    rcases Nat.lt_or_ge b w.heap.size with h | h
    · exact h
    · rw [Array.getElem?_eq_none h] at hb; cases hb
  have HB : Aside0 ((w.alloc (.cells #[.string x.f0, .string x.f1] 26)).cell? ⟨b, 0, none⟩ = some (.string s)) := ⟨by
    have := (Below.heap_alloc w (.cells #[.string x.f0, .string x.f1] 26) b hlt).trans hb
    simp [World.cell?, this]⟩
  have HO : Aside0 (otherB s x = (x.f0.toList == [99, 111, 110, 116, 101, 110, 116, 45, 108, 101, 110, 103, 116, 104] && x.f1.toList != s.toList)) := ⟨rfl⟩
  clear hb hlt
  generalize otherB s x = o at HO ⊢
  generalize hq : (x.f0.toList == [99, 111, 110, 116, 101, 110, 116, 45, 108, 101, 110, 103, 116, 104]) = q at HO
  have k0 := HB.out
  cases q
  all_goals
    go_enter Tryd.func36, Tryd.ntmps36
    go_wp2
    go_ret
    exact ⟨by rw [HO.out]; rfl, below_alloc (Below.refl _ _) _⟩
def encL (x : S26) : List Value := [.string x.f0, .string x.f1]
theorem contains_calls (s : ByteArray) (A : Option Addr) (l : List S26) (c : Nat) (w : World) (b : Nat) (hb : w.heap[b]? = some (.cells #[.string s] 9 (0, 0))) (hn : 0 < l.length) (hl : l.length ≤ 1000000000) (hC : k26.C w A l.length l) :
    Calls Tryd.prog 35 #[.slice A l.length c, .func (.func 36) #[] #[.pointer (some ⟨b, 0, none⟩)]] w fun e w' => e = .returned (.bool (l.any (otherB s))) ∧ Below w.heap.size w w' := by
  have hblt : ∀ {w : World} {b : Nat} {o : Obj}, w.heap[b]? = some o → b < w.heap.size := fun {w b o} hb => by
    rcases Nat.lt_or_ge b w.heap.size with h | h
    · exact h
    · rw [Array.getElem?_eq_none h] at hb; cases hb
  have hp : PredBelow Tryd.prog 36 #[.pointer (some ⟨b, 0, none⟩)] (fun x => .agg (encL x).toArray) (otherB s) w := fun W x hW =>
    (other_calls s x W b ((hW.block b (hblt hb)).trans hb)).mono fun e w' ⟨he, hb2⟩ => ⟨he, below_step hW hb2⟩
  obtain ⟨ad, rfl, h0, h1⟩ := elem_at hC (Below.refl _ _) 0 hn
  obtain ⟨g, off, sp⟩ := ad
  have hsp : sp = none := by
    rw [Nat.zero_mul] at h0
    have h0 : w.cell? ⟨g, off, sp⟩ = some (.string l[0].f0) := h0
    unfold World.cell? at h0
    split at h0
    · split at h0
      · cases h0
      · next h => exact Option.not_isSome_iff_eq_none.1 h
    · cases h0
  subst hsp
  have hg : g < w.heap.size := by
    have := World.block_lt_of_cell? w _ h0
    rwa [Nat.zero_mul] at this
  have := AnyQ.slices_ContainsFunc Tryd.SlH0_8 2 Tryd.isAgg26 Tryd.sizeOf26 encL (fun _ => rfl) (otherB s) 36 #[.pointer (some ⟨b, 0, none⟩)] (enters_of Tryd.func36 (by kernel_rfl) rfl) g off l.length c l w hp (Nat.le_refl _) (by omega) hg (fun j hj i v hi => by
    obtain ⟨ad, e, a0, a1⟩ := elem_at hC (Below.refl _ _) j hj
    cases e
    have hlj : l[j]! = l[j] := by simp [hj]
    rw [hlj] at hi
    have e1 : (⟨g, off, none⟩ : Addr).add (j * 2) = ⟨g, off + j * 2, none⟩ := by
      unfold Addr.add
      split
      · next h => rw [h, Nat.add_zero]
      · rfl
    rw [e1] at a0 a1
    rcases i with _ | _ | i
    · obtain rfl := Option.some.inj hi
      exact a0
    · obtain rfl := Option.some.inj hi
      exact a1
    · cases hi)
  rw [List.take_length] at this
  exact this
def getP (name : ByteArray) : List S26 → Option ByteArray
  | [] => none
  | f :: l => if f.f0 = name then some f.f1 else getP name l
def lenN (s : ByteArray) : Int := (Lib.atoi s.data.toList).getD 0
def lenS (l : List S26) (s : ByteArray) : Int × Int := if l.any (otherB s) || !digitsB s || decide ((s.size : Int) > 9) then (-1, 3) else (lenN s, 0)
def lenP (l : List S26) : Int × Int :=
  match getP lenB l with
  | none => (-1, 0)
  | some s => lenS l s
theorem getP_pos {name : ByteArray} {l : List S26} {s : ByteArray} (h : getP name l = some s) : 0 < l.length := by
  cases l with
  | nil => cases h
  | cons => simp
theorem lenS_of {l : List S26} {s : ByteArray} {a b c : Bool} (h1 : l.any (otherB s) = a) (h2 : digitsB s = b) (h3 : decide ((s.size : Int) > 9) = c) : lenS l s = if a || !b || c then (-1, 3) else (lenN s, 0) := by unfold lenS; rw [h1, h2, h3]
set_option maxHeartbeats 1600000 in
set_option maxRecDepth 20000 in
theorem length_calls (k : Nat) (A : Option Addr) (l : List S26) (c : Nat) (w : World) (hl : l.length ≤ 1000000000) (hC : k26.C w A l.length l) (hlc : l.length ≤ c) (hG : field_Get.f k lenB l = some ((getP lenB l).getD ⟨#[]⟩, (getP lenB l).isSome))
    (hD : ∀ s, getP lenB l = some s → field_digits.f s = some (digitsB s) ∧ (digitsB s = true → s.size ≤ 9 → Lib.atoi s.data.toList = some (lenN s))) :
    Calls Tryd.prog 20 #[.slice A l.length c] w fun e w' => e = .returned (.tuple #[.int .i64 (lenP l).1, .int .i64 (lenP l).2]) ∧ Below w.heap.size w w' := by
  have HG : ∀ s is, (getP lenB l).getD ⟨#[]⟩ = s → (getP lenB l).isSome = is → Aside0 (Calls Tryd.prog 15 #[.string ⟨#[99, 111, 110, 116, 101, 110, 116, 45, 108, 101, 110, 103, 116, 104]⟩, .slice A l.length c] w fun e w' => e = .returned (.tuple #[.string s, .bool is]) ∧ Below w.heap.size w w') :=
    fun s is h1 h2 => ⟨field_Get.calls k lenB A c l s is w hC hlc (by rw [hG, h1, h2])⟩
  unfold lenP
  cases hg : getP lenB l with
  | none =>
    have HG := HG ⟨#[]⟩ false (by rw [hg]; rfl) (by rw [hg]; rfl)
    clear hG hD hC hl hlc
    go_enter Tryd.func20, Tryd.ntmps20
    go_wp2_with (first | (go_at_call 15; refine HG.out.mono ?_; rintro e w1 ⟨rfl, hb⟩; have HB := Aside0.mk hb; clear hb))
    go_ret2
    exact ⟨rfl, by first | exact HB.out | exact below_alloc HB.out _⟩
  | some s =>
    have HG := HG s true (by rw [hg]; rfl) (by rw [hg]; rfl)
    obtain ⟨hd, ha⟩ := hD s hg
    have hn := getP_pos hg
    have HA := Aside0.mk ha
    have HC : ∀ w1, Below w.heap.size w w1 → Aside0 (∀ w2, Below (w1.alloc (.cells #[.string s] 9)).heap.size (w1.alloc (.cells #[.string s] 9)) w2 → Calls Tryd.prog 35 #[.slice A l.length c, .func (.func 36) #[] #[.pointer (some ⟨w1.heap.size, 0, none⟩)]] w2 fun e w' => e = .returned (.bool (l.any (otherB s))) ∧ Below w2.heap.size w2 w') :=
      fun w1 hb => ⟨fun w2 hb2 => contains_calls s A l c w2 w1.heap.size ((hb2.block _ (by rw [World.size_alloc]; omega)).trans (heap_alloc_new w1 _)) hn hl (Kd.C_below hC (below_step (below_alloc hb _) hb2))⟩
    have HX : ∀ w1 w2 : World, Below (w1.alloc (.cells #[.string s] 9)).heap.size (w1.alloc (.cells #[.string s] 9)) w2 → w2.cell? ⟨w1.heap.size, 0, none⟩ = some (.string s) := fun w1 w2 hb => by
      rw [hb.cell (by rw [World.size_alloc]; exact Nat.lt_succ_self _)]
      unfold World.cell?
      rw [show (⟨w1.heap.size, 0, none⟩ : Addr).block = w1.heap.size from rfl, heap_alloc_new]
      rfl
    clear hG hD hC hl hlc hn
    show Calls _ _ _ _ fun e w' => e = .returned (.tuple #[.int .i64 (lenS l s).1, .int .i64 (lenS l s).2]) ∧ Below w.heap.size w w'
    generalize ho : l.any (otherB s) = o at HC
    generalize hdg : digitsB s = dg at hd ha HA
    generalize h9 : decide ((s.size : Int) > 9) = q
    have HS := Aside0.mk (lenS_of ho hdg h9)
    clear ho hdg ha
    generalize lenS l s = r at HS ⊢
    cases o with
    | true =>
      go_enter Tryd.func20, Tryd.ntmps20
      go_wp2_with (first
        | (go_at_call 15; refine HG.out.mono ?_; rintro e w1 ⟨rfl, hb⟩; have HB := Aside0.mk hb; have HC1 := HC w1 hb; have HX1 := HX w1; clear hb HC HX)
        | (go_at_call 35; refine (HC1.out _ (Below.refl _ _)).mono ?_; rintro e w2 ⟨rfl, hb⟩; have hx := HX1 w2 hb; have HB2 := Aside0.mk (below_step (below_alloc HB.out _) hb); clear hb HC1 HX1))
      go_ret2
      exact ⟨by rw [HS.out]; rfl, HB2.out⟩
    | false =>
      have HDG := Aside0.mk hd
      clear hd
      cases dg with
      | false =>
        go_enter Tryd.func20, Tryd.ntmps20
        go_wp2_with (first
          | (go_at_call 15; refine HG.out.mono ?_; rintro e w1 ⟨rfl, hb⟩; have HB := Aside0.mk hb; have HC1 := HC w1 hb; have HX1 := HX w1; clear hb HC HX)
          | (go_at_call 35; refine (HC1.out _ (Below.refl _ _)).mono ?_; rintro e w2 ⟨rfl, hb⟩; have hx := HX1 w2 hb; have HB1 := Aside0.mk hb; have HB2 := Aside0.mk (below_step (below_alloc HB.out _) hb); clear hb HC1)
          | (go_at_call 37; refine (field_digits.calls s _ _ HDG.out).mono ?_; rintro e w3 ⟨rfl, hb⟩; clear hx; have hx := HX1 w3 (below_step HB1.out hb); have HB3 := Aside0.mk (below_step HB2.out hb); clear hb HX1 HB2))
        go_ret2
        exact ⟨by rw [HS.out]; rfl, HB3.out⟩
      | true =>
        cases q with
        | true =>
          have h9 := Aside0.mk h9
          have h9' : decide ((s.size : Int) > 9) = true := h9.out
          go_enter Tryd.func20, Tryd.ntmps20
          go_wp2_with (first
            | (go_at_call 15; refine HG.out.mono ?_; rintro e w1 ⟨rfl, hb⟩; have HB := Aside0.mk hb; have HC1 := HC w1 hb; have HX1 := HX w1; clear hb HC HX)
            | (go_at_call 35; refine (HC1.out _ (Below.refl _ _)).mono ?_; rintro e w2 ⟨rfl, hb⟩; have hx := HX1 w2 hb; have HB1 := Aside0.mk hb; have HB2 := Aside0.mk (below_step (below_alloc HB.out _) hb); clear hb HC1)
            | (go_at_call 37; refine (field_digits.calls s _ _ HDG.out).mono ?_; rintro e w3 ⟨rfl, hb⟩; clear hx; have hx := HX1 w3 (below_step HB1.out hb); have HB3 := Aside0.mk (below_step HB2.out hb); clear hb HX1 HB2))
          go_ret2
          exact ⟨by rw [HS.out]; rfl, HB3.out⟩
        | false =>
          have HAT : Aside0 (Lib.atoi s.data.toList = some (lenN s) ∧ s.size ≤ 18) := ⟨HA.out rfl (by have := of_decide_eq_false h9; omega), by have := of_decide_eq_false h9; omega⟩
          go_enter Tryd.func20, Tryd.ntmps20
          go_wp2_with (first
            | (go_at_call 15; refine HG.out.mono ?_; rintro e w1 ⟨rfl, hb⟩; have HB := Aside0.mk hb; have HC1 := HC w1 hb; have HX1 := HX w1; clear hb HC HX)
            | (go_at_call 35; refine (HC1.out _ (Below.refl _ _)).mono ?_; rintro e w2 ⟨rfl, hb⟩; have hx := HX1 w2 hb; have HB1 := Aside0.mk hb; have HB2 := Aside0.mk (below_step (below_alloc HB.out _) hb); clear hb HC1)
            | (go_at_call 37; refine (field_digits.calls s _ _ HDG.out).mono ?_; rintro e w3 ⟨rfl, hb⟩; clear hx; have hx := HX1 w3 (below_step HB1.out hb); have HB3 := Aside0.mk (below_step HB2.out hb); clear hb HX1 HB2)
            | (go_at_call 38; refine (Any.strconv_Atoi Tryd.Lays_172 s (lenN s) HAT.out.2 HAT.out.1 _).mono ?_; rintro e w4 ⟨rfl, t, rfl⟩))
          go_ret2
          exact ⟨by rw [HS.out]; rfl, below_step HB3.out (Below.trans (Below.refl _ _) (Go.Lib.bytesWorld_below _ _ _))⟩
end Go.Proofs.YthibjhjeppfahaaDoor.Fw
