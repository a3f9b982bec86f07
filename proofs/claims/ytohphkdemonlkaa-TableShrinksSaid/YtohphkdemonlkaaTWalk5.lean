/- Contracts of the table's methods: Find. -/
import Derived.Test.YtohphkdemonlkaaTWalk4
namespace Go.Proofs.Ytohphkdemonlkaa.Tw
open Go.RowKit Go.Lib Go.Proofs.Ytohphkdemonlkaa.XQt Go.Proofs.YtohphkdemonlkaaW.PrintWords Go.Proofs.YtohphkdemonlkaaW.PrintLast Go.Proofs.YtohphkdemonlkaaW.PrintMore Go.Proofs.Ytohphkdemonlkaa.Ob

instance : Inhabited S54 := ⟨z54⟩
/-- The first place, counted from i, at which p holds; -1 if at none. -/
def ixP (p : S54 → Bool) : List S54 → Nat → Int
  | [], _ => -1
  | y :: r, i => if p y then (i : Int) else ixP p r (i + 1)
theorem idxBy_ixP (p : S54 → Bool) (d : S54) : ∀ (l : List S54) (i : Nat), Lib.idxByFrom (fun _ y => p y) d l i = ixP p l i
  | [], _ => rfl
  | y :: r, i => by
    unfold Lib.idxByFrom ixP
    rw [idxBy_ixP p d r (i + 1)]
def same (f y : S54) : Bool := f.f0.toList == y.f0.toList && f.f1.toList == y.f1.toList
theorem index_l0 (l : List S54) (f : S54) (hl : l.length ≤ 4611686018427387904) : ∀ (rest pre : List S54) (k : Nat), l = pre ++ rest → rest.length < k →
    api_Field_74.l0 k l (l.length : Int) (pre.length : Int) f.f0 f.f1 = some (ixP (same f) rest pre.length) := by
  intro rest
  induction rest with
  | nil =>
    intro pre k e hk
    obtain ⟨k, rfl⟩ : ∃ m, k = m + 1 := ⟨k - 1, by omega⟩
    rw [List.append_nil] at e
    simp only [api_Field_74.l0]
    rw [if_neg (by rw [e]; omega)]
    rfl
  | cons c rest ih =>
    intro pre k e hk
    obtain ⟨k, rfl⟩ : ∃ m, k = m + 1 := ⟨k - 1, by omega⟩
    have hpl : pre.length < l.length := by rw [e]; simp
    have hrd : rd_T54 l (pre.length : Int) = c := by
      unfold rd_T54
      rw [e]
      simp [List.getD]
    simp only [api_Field_74.l0]
    rw [if_pos (by omega), if_pos (by omega), if_pos (by omega), hrd]
    unfold ixP same
    by_cases h : (f.f0.toList == c.f0.toList && f.f1.toList == c.f1.toList) = true
    · rw [if_pos h, if_pos h]
    · have e1 : wrap64 ((pre.length : Int) + 1) = (((pre ++ [c]).length : Nat) : Int) := by
        rw [List.length_append, List.length_singleton, w64_in ((pre.length : Int) + 1) (by omega)]
        rfl
      rw [if_neg h, if_neg h, e1]
      clear e1
      rw [ih (pre ++ [c]) k (by rw [e]; simp) (by simp at hk; omega)]
      rw [List.length_append, List.length_singleton]
      rfl
theorem index_f (l : List S54) (f : S54) (hl : l.length ≤ 4611686018427387904) : api_Field_74.f (l.length + 1) l f.f0 f.f1 = some (ixP (same f) l 0) := by
  have := index_l0 l f hl l [] (l.length + 1) rfl (by omega)
  unfold api_Field_74.f
  simpa using this
theorem ixP_cases (p : S54 → Bool) : ∀ (l : List S54) (i : Nat), (∃ k, ∃ h : k < l.length, ixP p l i = ((i + k : Nat) : Int) ∧ p l[k] = true ∧ ∀ j (hj : j < k), p (l[j]'(Nat.lt_trans hj h)) = false) ∨ (ixP p l i = -1 ∧ ∀ x ∈ l, p x = false)
  | [], i => .inr ⟨rfl, fun x hx => by cases hx⟩
  | y :: r, i => by
    unfold ixP
    by_cases h : p y = true
    · rw [if_pos h]
      exact .inl ⟨0, by simp, by simp, by simpa using h, fun j hj => absurd hj (Nat.not_lt_zero _)⟩
    · rw [if_neg h]
      have h' : p y = false := by simpa using h
      rcases ixP_cases p r (i + 1) with ⟨k, hk, e, hp, hn⟩ | ⟨e, hn⟩
      · refine .inl ⟨k + 1, by simp; omega, by rw [e]; congr 1; omega, by simpa using hp, fun j hj => ?_⟩
        cases j with
        | zero => simpa using h'
        | succ j => simpa using hn j (by omega)
      · exact .inr ⟨e, fun x hx => by
          rcases List.mem_cons.1 hx with rfl | hx
          · exact h'
          · exact hn x hx⟩
def sameName (f y : S54) : Bool := y.f0.toList == f.f0.toList

set_option maxHeartbeats 800000 in
theorem pred_calls (f x : S54) (w : World) (b : Nat) (hb : w.heap[b]? = some (.cells #[.string f.f0, .string f.f1] 54 (0, 0))) :
    Calls Try.prog 76 #[.agg #[.string x.f0, .string x.f1], .pointer (some ⟨b, 0, none⟩)] w fun e w' => e = .returned (.bool (sameName f x)) ∧ Below w.heap.size w w' := by
  have hbl := blk_lt hb
  have HB := Aside0.mk hb
  clear hb
  go_enter Try.func76, Try.ntmps76
  have k0 : (w.alloc (.cells #[.string x.f0, .string x.f1] 54)).cell? ⟨b, 0, none⟩ = some (.string f.f0) := by
    have := (Below.heap_alloc w (.cells #[.string x.f0, .string x.f1] 54) b hbl).trans HB.out
    simp [World.cell?, this]
  go_wp2
  go_ret
  exact ⟨rfl, below_alloc (Below.refl _ _) _⟩
def encL (x : S54) : List Value := [.string x.f0, .string x.f1]
theorem fcells_get : ∀ (l : List S54) (j : Nat), j < l.length → ∀ i v, (encL l[j]!)[i]? = some v → (fcells l)[j * 2 + i]? = some v
  | [], j, hj, _, _, _ => absurd hj (Nat.not_lt_zero _)
  | x :: l, 0, _, i, v, h => by
    rw [Nat.zero_mul, Nat.zero_add]
    rcases i with _ | _ | i
    · simpa [encL, fcells] using h
    · simpa [encL, fcells] using h
    · cases h
  | x :: l, j + 1, hj, i, v, h => by
    have := fcells_get l j (by simpa using hj) i v (by simpa using h)
    rw [show (j + 1) * 2 + i = (j * 2 + i) + 1 + 1 by omega]
    simpa [fcells] using this
theorem indexFunc_calls (f : S54) (w : World) (b : Nat) (hb : w.heap[b]? = some (.cells #[.string f.f0, .string f.f1] 54 (0, 0))) {base : Nat} {ok : Nat → Prop} {A : Option Addr} {n c : Nat} {l : List S54} (h : k54.R 54 w base ok (.slice A n c) l) (hn0 : 0 < l.length) (hl : l.length ≤ 1000000016) :
    Calls Try.prog 75 #[.slice A n c, .func (.func 76) #[] #[.pointer (some ⟨b, 0, none⟩)]] w fun e w' => e = .returned (.int .i64 (ixP (sameName f) l 0)) ∧ Below w.heap.size w w' := by
  have hn : n = l.length := (Kd.R_reads' h).1
  subst hn
  rcases r_open h with ⟨hv0, rfl⟩ | ⟨g, c', cur, hv0, hb', hok, hh, hnc, hcm, hcs, ht⟩
  · exact absurd hn0 (Nat.lt_irrefl 0)
  · injection hv0 with h1 h2 h3
    subst h1; subst h3
    have hp : PredBelow Try.prog 76 #[.pointer (some ⟨b, 0, none⟩)] (fun x => .agg (encL x).toArray) (sameName f) w := fun W x hW => by
      have hbW : W.heap[b]? = some (.cells #[.string f.f0, .string f.f1] 54 (0, 0)) := (hW.block b (blk_lt hb)).trans hb
      exact (pred_calls f x W b hbW).mono (fun e w' ⟨he, hb2⟩ => ⟨he, below_step hW hb2⟩)
    refine (AnyQ.slices_IndexFunc Try.laysSlH06_f75 2 Try.isAgg54 Try.sizeOf54 encL (fun _ => rfl) (sameName f) 76 #[.pointer (some ⟨b, 0, none⟩)] (enters_of Try.func76 (by kernel_rfl) rfl) g 0 l.length c l w hp (Nat.le_refl _) (by omega) (blk_lt hh) (fun j hj i v hi => ?_)).mono ?_
    · have hg := fcells_get l j hj i v hi
      have hjl := (List.getElem?_eq_some_iff.1 hg).1
      rw [fcells_len] at hjl
      rw [← ht, List.getElem?_take, if_pos hjl] at hg
      simp only [World.cell?, hh, Nat.zero_add]
      simpa using hg
    · rintro e w' ⟨rfl, hb2⟩
      refine ⟨?_, hb2⟩
      rw [List.take_length]
      congr 2
      exact idxBy_ixP _ _ _ _

/-- Where a field is, or its name. -/
def findN (L : List S54) (f : S54) : Int := if 0 ≤ ixP (same f) L 0 then ixP (same f) L 0 + 1 else 1 + ixP (sameName f) L 0
def findB (L : List S54) (f : S54) : Bool := decide (0 ≤ ixP (same f) L 0)
theorem ixP_bound (p : S54 → Bool) (l : List S54) (hl : l.length ≤ 1000000016) : -1 ≤ ixP p l 0 ∧ ixP p l 0 ≤ 1000000016 := by
  rcases ixP_cases p l 0 with ⟨k, hk, e, _⟩ | ⟨e, _⟩
  · rw [e]; omega
  · rw [e]; omega
set_option maxHeartbeats 1600000 in
theorem find_calls (q : List S54 × (Int × Int)) (f : S54) (w : World) (g : Nat) (base : Nat) (ok : Nat → Prop) (hl : q.1.length ≤ 1000000000) (hq : TK.M w base ok q [.pointer (some ⟨g, 0, none⟩)]) :
    Calls Try.prog 32 #[.pointer (some ⟨g, 0, none⟩), fv f] w fun e w' => e = .returned (.tuple #[.int .i64 (findN (wholeL q.1) f), .bool (findB (wholeL q.1) f)]) ∧ Below w.heap.size w w' := by
  have HW : ∀ w1, Below w.heap.size w w1 → Aside0 (Calls Try.prog 73 #[.pointer (some ⟨g, 0, none⟩)] w1 fun e w' => ∃ A1 c1, e = .returned (.slice A1 (wholeL q.1).length c1) ∧ k54.R 54 w' w1.heap.size (fun k => w1.heap.size ≤ k) (.slice A1 (wholeL q.1).length c1) (wholeL q.1) ∧ Below w1.heap.size w1 w') :=
    fun w1 hb => ⟨whole_calls q w1 g base ok hl (Kd.M_below hq hb)⟩
  have hlen : Aside0 ((wholeL q.1).length ≤ 1000000016 ∧ 0 < (wholeL q.1).length) := ⟨by rw [whole_len]; omega⟩
  generalize wholeL q.1 = L at HW hlen
  have HC : ∀ (o : Obj) (w2 : World), Below (w.alloc o).heap.size (w.alloc o) w2 → Aside0 (∀ cells, o = .cells cells 54 (0, 0) → w2.heap[w.heap.size]? = some (.cells cells 54 (0, 0))) := fun o w2 hb => ⟨fun cells e => by rw [hb.block _ (by rw [World.size_alloc]; omega), e]; exact heap_alloc_new w _⟩
  have HI : ∀ (w2 : World) (A1 : Option Addr) (c1 : Nat) (base : Nat) (ok : Nat → Prop), k54.R 54 w2 base ok (.slice A1 L.length c1) L → Aside0 (Calls Try.prog 74 #[.slice A1 L.length c1, .agg #[.string f.f0, .string f.f1]] w2 fun e w' => e = .returned (.int .i64 (ixP (same f) L 0)) ∧ Below w2.heap.size w2 w') :=
    fun w2 A1 c1 base ok h => ⟨api_Field_74.calls (L.length + 1) A1 c1 L f.f0 f.f1 _ w2 (Kd.R_reads' h).2.2 (Kd.R_reads' h).2.1 (index_f L f (by have := hlen.out; omega))⟩
  have HF : ∀ (w2 w3 : World) (A1 : Option Addr) (c1 : Nat) (base : Nat) (ok : Nat → Prop), k54.R 54 w2 base ok (.slice A1 L.length c1) L → Below w2.heap.size w2 w3 → w3.heap[w.heap.size]? = some (.cells #[.string f.f0, .string f.f1] 54 (0, 0)) →
      Aside0 (Calls Try.prog 75 #[.slice A1 L.length c1, .func (.func 76) #[] #[.pointer (some ⟨w.heap.size, 0, none⟩)]] w3 fun e w' => e = .returned (.int .i64 (ixP (sameName f) L 0)) ∧ Below w3.heap.size w3 w') :=
    fun w2 w3 A1 c1 base ok h hb hc => ⟨indexFunc_calls f w3 w.heap.size hc (Kd.R_below h hb) hlen.out.2 hlen.out.1⟩
  have hb1 := ixP_bound (same f) L hlen.out.1
  have hb2 := ixP_bound (sameName f) L hlen.out.1
  unfold findN findB fv
  generalize ixP (same f) L 0 = n1 at HI hb1 ⊢
  generalize ixP (sameName f) L 0 = n2 at HF hb2 ⊢
  clear hq hl
  by_cases hn : 0 ≤ n1
  · have d1 : decide (n1 ≥ 0) = true := decide_eq_true hn
    rw [if_pos hn, decide_eq_true hn]
    have hw : wrap64 (n1 + 1) = n1 + 1 := w64_in (n1 + 1) (by omega)
    clear hn hb1 hb2
    go_enter Try.func32, Try.ntmps32
    go_wp2_with (first
      | (go_at_call 73; refine (HW _ (below_alloc (Below.refl _ _) _)).out.mono ?_; rintro e w2 ⟨A1, c1, rfl, hR, hB⟩; have hbk := (HC _ w2 hB).out _ rfl; have k0 : w2.cell? ⟨w.heap.size, 0, none⟩ = some (.string f.f0) := (by simp [World.cell?, hbk]); have k1 : w2.cell? ⟨w.heap.size, 1, none⟩ = some (.string f.f1) := (by simp [World.cell?, hbk]); have HB2 := Aside0.mk hB; have HBK := Aside0.mk hbk; have HR := Aside0.mk hR; clear hB hR hbk)
      | (go_at_call 74; refine (HI _ A1 c1 _ _ HR.out).out.mono ?_; rintro e w3 ⟨rfl, hB3⟩; have HB3 := Aside0.mk hB3; clear hB3))
    go_ret2
    exact ⟨by show Ending.returned (.tuple #[.int .i64 (wrap64 (n1 + 1)), .bool true]) = _; rw [hw], below_step (below_step (below_alloc (Below.refl _ _) _) HB2.out) HB3.out⟩
  · have d1 : decide (n1 ≥ 0) = false := decide_eq_false hn
    rw [if_neg hn, decide_eq_false hn]
    have hw : wrap64 (1 + n2) = 1 + n2 := w64_in (1 + n2) (by omega)
    clear hn hb1 hb2
    go_enter Try.func32, Try.ntmps32
    go_wp2_with (first
      | (go_at_call 73; refine (HW _ (below_alloc (Below.refl _ _) _)).out.mono ?_; rintro e w2 ⟨A1, c1, rfl, hR, hB⟩; have hbk := (HC _ w2 hB).out _ rfl; have k0 : w2.cell? ⟨w.heap.size, 0, none⟩ = some (.string f.f0) := (by simp [World.cell?, hbk]); have k1 : w2.cell? ⟨w.heap.size, 1, none⟩ = some (.string f.f1) := (by simp [World.cell?, hbk]); have HB2 := Aside0.mk hB; have HBK := Aside0.mk hbk; have HR := Aside0.mk hR; clear hB hR hbk)
      | (go_at_call 74; refine (HI _ A1 c1 _ _ HR.out).out.mono ?_; rintro e w3 ⟨rfl, hB3⟩; have HB3 := Aside0.mk hB3; clear hB3)
      | (go_at_call 75; refine (HF _ w3 A1 c1 _ _ HR.out HB3.out ((HB3.out.block _ (blk_lt HBK.out)).trans HBK.out)).out.mono ?_; rintro e w4 ⟨rfl, hB4⟩; have HB4 := Aside0.mk hB4; clear hB4))
    go_ret2
    exact ⟨by show Ending.returned (.tuple #[.int .i64 (wrap64 (1 + n2)), .bool false]) = _; rw [hw], below_step (below_step (below_step (below_alloc (Below.refl _ _) _) HB2.out) HB3.out) HB4.out⟩
end Go.Proofs.Ytohphkdemonlkaa.Tw
