/- Contracts of the queue's methods that read alone. -/
import Derived.Test.YtohphkdemonlkaaXQtx4
import Derived.Test.YtohphkdemonlkaaObj
namespace Go.Proofs.Ytohphkdemonlkaa.Qw
open Go.RowKit Go.Proofs.Ytohphkdemonlkaa.XQt Go.Proofs.YtohphkdemonlkaaW.PrintWords Go.Proofs.YtohphkdemonlkaaW.PrintLast Go.Proofs.YtohphkdemonlkaaW.PrintMore Go.Proofs.Ytohphkdemonlkaa.Ob

/-! ### plain -/
def ix (l : List Int) (a : Int) : Int := if a ∈ l then (l.idxOf a : Int) else -1
theorem index_l0 (l : List Int) (a : Int) (hl : l.length ≤ 4611686018427387904) : ∀ (rest pre : List Int) (k : Nat), l = pre ++ rest → a ∉ pre → rest.length < k →
    slices_Index_int_int.l0 k l a (l.length : Int) (pre.length : Int) = some (if a ∈ rest then ((pre.length + rest.idxOf a : Nat) : Int) else -1) := by
  intro rest
  induction rest with
  | nil =>
    intro pre k e hp hk
    obtain ⟨k, rfl⟩ : ∃ m, k = m + 1 := ⟨k - 1, by omega⟩
    rw [List.append_nil] at e
    simp only [slices_Index_int_int.l0]
    rw [if_neg (by rw [e]; omega)]
    simp
  | cons c rest ih =>
    intro pre k e hp hk
    obtain ⟨k, rfl⟩ : ∃ m, k = m + 1 := ⟨k - 1, by omega⟩
    have hpl : pre.length < l.length := by rw [e]; simp
    have hrd : rd l (pre.length : Int) = c := by
      unfold rd
      rw [e]
      simp [List.getD]
    simp only [slices_Index_int_int.l0]
    rw [if_pos (by omega), if_pos (by omega), if_pos (by omega), hrd]
    by_cases h : a = c
    · subst h
      rw [if_pos rfl, if_pos List.mem_cons_self, List.idxOf_cons_self]
      rfl
    · have e1 : wrap64 ((pre.length : Int) + 1) = (((pre ++ [c]).length : Nat) : Int) := by simp only [List.length_append, List.length_singleton]; unfold wrap64; omega
      rw [if_neg h, e1]
      clear e1
      rw [ih (pre ++ [c]) k (by rw [e]; simp) (by simp [hp, h]) (by simp at hk; omega)]
      have hm : (a ∈ c :: rest) = (a ∈ rest) := by simp [h]
      have hix : List.idxOf a (c :: rest) = List.idxOf a rest + 1 := by rw [List.idxOf_cons, show (c == a) = false from by rw [beq_eq_false_iff_ne]; exact fun e => h e.symm]; rfl
      rw [hix]
      simp only [hm, List.length_append, List.length_singleton]
      congr 1
      by_cases g : a ∈ rest
      · rw [if_pos g, if_pos g]; congr 1; omega
      · rw [if_neg g, if_neg g]
theorem index_f (l : List Int) (a : Int) (hl : l.length ≤ 4611686018427387904) : slices_Index_int_int.f (l.length + 1) l a = some (ix l a) := by
  have := index_l0 l a hl l [] (l.length + 1) rfl (by simp) (by omega)
  unfold slices_Index_int_int.f ix
  simpa using this
theorem ix_ge (l : List Int) (a : Int) : decide (ix l a ≥ 0) = decide (a ∈ l) := by
  unfold ix
  by_cases h : a ∈ l
  · rw [if_pos h]; simp [h]
  · rw [if_neg h]; simp [h]
theorem contains_f (l : List Int) (a : Int) (hl : l.length ≤ 4611686018427387904) : slices_Contains_int_int.f (l.length + 1) l a = some (decide (a ∈ l)) := by
  unfold slices_Contains_int_int.f
  rw [index_f l a hl, Option.bind_some, ix_ge]

/-! ### the queue in memory -/
/-- A queue: the calls that wait, and how many may. -/
abbrev QK : Kd (List Int × Int) := ptr 80 (Kd.pair (qslice 3 (Kd.int .i64)) (Kd.int .i64))
theorem qk_open {w : World} {base : Nat} {ok : Nat → Prop} {q : List Int × Int} {cs : List Value} (h : QK.M w base ok q cs) :
    ∃ g A c, cs = [.pointer (some ⟨g, 0, none⟩)] ∧ base ≤ g ∧ ok g ∧ w.heap[g]? = some (.cells #[.slice A q.1.length c, .int .i64 q.2] 80 (0, 0)) ∧ q.1.length ≤ c ∧
      (Kd.int .i64).Q 3 w base (fun k => ok k ∧ k ≠ g) (.slice A q.1.length c) q.1 := by
  obtain ⟨g, cells, rfl, hb, ho, hg, c0, c1, hc, ⟨v, rfl, hq⟩, h1⟩ := h
  have h1' : c1 = [Value.int .i64 q.2] := h1
  subst h1'
  obtain ⟨A, c, rfl, hl, _⟩ := Kd.Q_reads hq
  have hcells : cells = #[.slice A q.1.length c, .int .i64 q.2] := by
    cases cells
    simpa using hc
  subst hcells
  exact ⟨g, A, c, rfl, hb, ho, hg, hl, hq⟩

/-- May a call come? -/
def mayC (q : List Int × Int) (id : Int) : Int := if id ∈ q.1 then 1 else if (q.1.length : Int) ≥ q.2 then 13 else 0

set_option maxHeartbeats 400000 in
theorem may_calls (q : List Int × Int) (id : Int) (w : World) (g : Nat) (A : Option Addr) (c : Nat) (base : Nat) (ok : Nat → Prop)
    (hg : w.heap[g]? = some (.cells #[.slice A q.1.length c, .int .i64 q.2] 80 (0, 0))) (hc : q.1.length ≤ c) (hl : q.1.length ≤ 4611686018427387904)
    (hq : (Kd.int .i64).Q 3 w base ok (.slice A q.1.length c) q.1) :
    Calls Try.prog 43 #[.pointer (some ⟨g, 0, none⟩), .int .i64 id] w fun e w' => e = .returned (.int .i64 (mayC q id)) ∧ Drawn0 w w' := by
  have HC := Aside0.mk (Kd.Q_reads' hq).2.2
  have HF := Aside0.mk (contains_f q.1 id hl)
  have HL := Aside0.mk hc
  clear hq hc
  have h0 : w.cell? ⟨g, 0, none⟩ = some (.slice A q.1.length c) := by simp [World.cell?, hg]
  have h1 : w.cell? ⟨g, 1, none⟩ = some (.int .i64 q.2) := by simp [World.cell?, hg]
  clear hg
  by_cases hm : id ∈ q.1
  · have HD : Aside0 (decide (id ∈ q.1) = true) := ⟨decide_eq_true hm⟩
    have HV : Aside0 (mayC q id = 1) := ⟨by unfold mayC; rw [if_pos hm]⟩
    clear hm
    go_enter Try.func43, Try.ntmps43
    go_wp2_with (go_at_call 80; refine (slices_Contains_int_int.calls _ A c q.1 id _ _ HC.out HL.out HF.out).mono ?_; rintro e w' ⟨rfl, ⟨nd, rfl⟩⟩; rw [HD.out])
    go_ret
    exact ⟨by rw [HV.out]; rfl, by repeat (first | exact Drawn0.refl _ | apply Drawn0.step)⟩
  · have HD : Aside0 (decide (id ∈ q.1) = false) := ⟨decide_eq_false hm⟩
    by_cases hf : (q.1.length : Int) ≥ q.2
    · have HV : Aside0 (mayC q id = 13) := ⟨by unfold mayC; rw [if_neg hm, if_pos hf]⟩
      have hf' : decide ((q.1.length : Int) ≥ q.2) = true := decide_eq_true hf
      clear hm hf
      go_enter Try.func43, Try.ntmps43
      go_wp2_with (go_at_call 80; refine (slices_Contains_int_int.calls _ A c q.1 id _ _ HC.out HL.out HF.out).mono ?_; rintro e w' ⟨rfl, ⟨nd, rfl⟩⟩; rw [HD.out])
      go_quiet (fail)
      go_wp2
      go_ret
      exact ⟨by rw [HV.out]; rfl, by repeat (first | exact Drawn0.refl _ | apply Drawn0.step)⟩
    · have HV : Aside0 (mayC q id = 0) := ⟨by unfold mayC; rw [if_neg hm, if_neg hf]⟩
      have hf' : decide ((q.1.length : Int) ≥ q.2) = false := decide_eq_false hf
      clear hm hf
      go_enter Try.func43, Try.ntmps43
      go_wp2_with (go_at_call 80; refine (slices_Contains_int_int.calls _ A c q.1 id _ _ HC.out HL.out HF.out).mono ?_; rintro e w' ⟨rfl, ⟨nd, rfl⟩⟩; rw [HD.out])
      go_quiet (fail)
      go_wp2
      go_ret
      exact ⟨by rw [HV.out]; rfl, by repeat (first | exact Drawn0.refl _ | apply Drawn0.step)⟩
end Go.Proofs.Ytohphkdemonlkaa.Qw
