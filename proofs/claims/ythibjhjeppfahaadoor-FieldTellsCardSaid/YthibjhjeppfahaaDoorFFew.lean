/- Few, inner: contracts in plain words. -/
import Derived.Test.YthibjhjeppfahaaDoorFApp
import Derived.Test.YthibjhjeppfahaaDoorXFix5
import Derived.SizedLaws
namespace Go.Proofs.YthibjhjeppfahaaDoor.Fw
open Go.RowKit Go.Proofs.YthibjhjeppfahaaDoor.XFi Go.Proofs.YthibjhjeppfahaaDoorW.PrintWords Go.Proofs.YthibjhjeppfahaaDoorW.PrintLast Go.Proofs.YthibjhjeppfahaaDoorW.PrintMore Go.Proofs.YthibjhjeppfahaaDoor.Ms
theorem inner_l0 (s : ByteArray) (hs : s.size ≤ 1000000) : ∀ (rest pre : List UInt8) (k : Nat), s.toList = pre ++ rest → rest.length + 1 ≤ k → bywashlaw6_inner.l0 k s (pre.length : Int) = some (rest.all okB) := by
  intro rest
  induction rest with
  | nil =>
    intro pre k e hk
    obtain ⟨k, rfl⟩ : ∃ m, k = m + 1 := ⟨k - 1, by omega⟩
    have hp : pre.length = s.size := by rw [size_list, e, List.append_nil]
    rw [hp]
    simp only [bywashlaw6_inner.l0]
    rw [if_neg (by omega), List.all_nil]
  | cons c rest ih =>
    intro pre k e hk
    obtain ⟨k, rfl⟩ : ∃ m, k = m + 1 := ⟨k - 1, by omega⟩
    have hp : pre.length < s.size := by rw [size_list, e]; simp
    simp only [bywashlaw6_inner.l0]
    rw [if_pos (by omega), if_pos (by omega), bt_at e, List.all_cons]
    unfold okB
    by_cases h1 : (c.toNat : Int) < 32
    · rw [if_pos h1, decide_eq_false (p := 32 ≤ c.toNat) (by omega)]
      rfl
    · rw [if_neg h1, decide_eq_true (p := 32 ≤ c.toNat) (by omega), Bool.true_and]
      by_cases h2 : (c.toNat : Int) = 127
      · rw [if_pos h2, decide_eq_true (p := c.toNat = 127) (by omega)]
        rfl
      · rw [if_neg h2, decide_eq_false (p := c.toNat = 127) (by omega), Bool.not_false, Bool.true_and]
        have e1 : wrap64 ((pre.length : Int) + 1) = (((pre ++ [c]).length : Nat) : Int) := by
          rw [List.length_append, List.length_singleton, w64_in ((pre.length : Int) + 1) (by omega)]
          rfl
        rw [e1]
        exact ih (pre ++ [c]) k (by rw [e]; simp) (by simp at hk; omega)
theorem inner_c (s : ByteArray) (hs : s.size ≤ 1000000) (w : World) : Calls Tryd.prog 17 #[.string s] w fun e w' => e = .returned (.bool (s.toList.all okB)) ∧ Below w.heap.size w w' :=
  (bywashlaw6_inner.calls (s.size + 1) s _ w (inner_l0 s hs s.toList [] _ rfl (by rw [← size_list]; exact Nat.le_refl _))).mono fun _ _ ⟨h1, h2⟩ => ⟨h1, h2.below⟩
def wsum : List S26 → Int → Int
  | [], n => n
  | f :: l, n => wsum l (wrap64 (n + wrap64 ((f.f0.size : Int) + (f.f1.size : Int))))
def tot : List S26 → Nat
  | [] => 0
  | f :: l => f.f0.size + f.f1.size + tot l
def fewP (l : List S26) : Bool := decide (l.length ≤ 40) && decide (tot l ≤ 4000)
theorem few_l0 (l : List S26) (hl : l.length ≤ 1000000000000000) : ∀ (rest pre : List S26) (n : Int) (k : Nat), l = pre ++ rest → rest.length + 1 ≤ k → bywashlaw6_Few.l0 k l n l (l.length : Int) (pre.length : Int) = some (decide (l.length ≤ 40) && decide (wsum rest n ≤ 4000)) := by
  intro rest
  induction rest with
  | nil =>
    intro pre n k e hk
    obtain ⟨k, rfl⟩ : ∃ m, k = m + 1 := ⟨k - 1, by omega⟩
    have hp : pre.length = l.length := by rw [e, List.append_nil]
    rw [hp]
    simp only [bywashlaw6_Few.l0]
    rw [if_neg (by omega)]
    by_cases h : l.length ≤ 40
    · rw [if_pos (by omega), decide_eq_true h, Bool.true_and]
      rfl
    · rw [if_neg (by omega), decide_eq_false h, Bool.false_and]
  | cons f rest ih =>
    intro pre n k e hk
    obtain ⟨k, rfl⟩ : ∃ m, k = m + 1 := ⟨k - 1, by omega⟩
    have hp : pre.length < l.length := by rw [e]; simp
    simp only [bywashlaw6_Few.l0]
    have hf : rd_T26 l (pre.length : Int) = f := by
      have : l[pre.length]? = some f := by rw [e]; simp
      simp [rd_T26, this]
    rw [if_pos (by omega), if_pos (by omega), if_pos (by omega), hf]
    have e1 : wrap64 ((pre.length : Int) + 1) = (((pre ++ [f]).length : Nat) : Int) := by
      rw [List.length_append, List.length_singleton, w64_in ((pre.length : Int) + 1) (by omega)]
      rfl
    rw [e1]
    exact ih (pre ++ [f]) _ k (by rw [e]; simp) (by simp at hk; omega)
theorem wsum_eq : ∀ (l : List S26) (n : Int), (∀ f ∈ l, f.f0.size ≤ 140737488355328 ∧ f.f1.size ≤ 140737488355328) → l.length ≤ 40 → 0 ≤ n → n ≤ 281474976710656 * (40 - l.length) → wsum l n = n + (tot l : Int)
  | [], n, _, _, _, _ => by simp [wsum, tot]
  | f :: l, n, h, hl, h0, hn => by
    obtain ⟨h1, h2⟩ := h f (by simp)
    rw [List.length_cons] at hl hn
    have e1 : wrap64 ((f.f0.size : Int) + (f.f1.size : Int)) = (f.f0.size : Int) + (f.f1.size : Int) := w64_in ((f.f0.size : Int) + (f.f1.size : Int)) (by omega)
    have e2 : wrap64 (n + ((f.f0.size : Int) + (f.f1.size : Int))) = n + ((f.f0.size : Int) + (f.f1.size : Int)) := w64_in (n + ((f.f0.size : Int) + (f.f1.size : Int))) (by omega)
    unfold wsum tot
    rw [e1, e2, wsum_eq l _ (fun x hx => h x (by simp [hx])) (by omega) (by omega) (by omega)]
    omega
theorem few_eq (l : List S26) (hl : l.length ≤ 1000000000000000) (hs : ∀ f ∈ l, f.f0.size ≤ reachBytes ∧ f.f1.size ≤ reachBytes) : bywashlaw6_Few.f (l.length + 1) l = some (fewP l) := by
  have := few_l0 l hl l [] 0 (l.length + 1) rfl (Nat.le_refl _)
  refine this.trans ?_
  unfold fewP
  by_cases h : l.length ≤ 40
  · rw [wsum_eq l 0 (fun f hf => by have := hs f hf; have := reachBytes_lt; omega) h (Int.le_refl _) (by omega)]
    congr 2
    exact decide_eq_decide.2 (by omega)
  · rw [decide_eq_false h, Bool.false_and, Bool.false_and]
theorem tot_mem : ∀ {l : List S26} {f : S26}, f ∈ l → f.f0.size + f.f1.size ≤ tot l
  | f :: l, g, h => by
    unfold tot
    rcases List.mem_cons.1 h with rfl | h
    · omega
    · have := tot_mem h
      omega
theorem few_sized {l : List S26} (h : fewP l = true) : Sized l ∧ l.length ≤ 40 ∧ tot l ≤ 4000 := by
  unfold fewP at h
  rw [Bool.and_eq_true] at h
  have h1 := of_decide_eq_true h.1
  have h2 := of_decide_eq_true h.2
  exact ⟨⟨by omega, fun f hf => by have := tot_mem hf; exact ⟨by omega, by omega⟩⟩, h1, h2⟩
theorem few_c {A : Option Addr} {l : List S26} {c : Nat} {w : World} (hC : k26.C w A l.length l) (hc : l.length ≤ c) (hl : l.length ≤ 1000000000000000) (hs : ∀ f ∈ l, f.f0.size ≤ reachBytes ∧ f.f1.size ≤ reachBytes) : Calls Tryd.prog 14 #[.slice A l.length c] w fun e w' => e = .returned (.bool (fewP l)) ∧ Below w.heap.size w w' :=
  bywashlaw6_Few.calls (l.length + 1) A c l _ w hC hc (few_eq l hl hs)
end Go.Proofs.YthibjhjeppfahaaDoor.Fw
