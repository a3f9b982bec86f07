-- Printed by wip/tools/xprint.py of this claim's session: the kit's print over contracts of its own.
import Derived.Test.YtohphkdemonlkaaXQtx0
import Derived.Test.YtohphkdemonlkaaXQtx1
import Derived.Test.YtohphkdemonlkaaXQtx2
import Derived.Test.YtohphkdemonlkaaXQtx3
namespace Go.Proofs.Ytohphkdemonlkaa.XQt
open Go.RowKit Go.Proofs.YtohphkdemonlkaaW.PrintWords Go.Proofs.YtohphkdemonlkaaW.PrintLast Go.Proofs.YtohphkdemonlkaaW.PrintMore
attribute [local go_sem] max2_int min2_int max_two min_two max_three min_three max_four min_four   -- for this text's walks alone
set_option linter.unusedVariables false
set_option linter.unusedSimpArgs false

attribute [local go_sem high] eqA54 eqA114 eqA117
/-! ### bywashbook_SameFields: function 41 -/
def bywashbook_SameFields.l0 : Nat → List (S54) → List (S54) → Int → Option (Bool)
  | 0, _, _, _ => none
  | k + 1, x0, x1, x5 => if x5 < (x0.length : Int) then (if 0 ≤ x5 then (if x5 < (x1.length : Int) then (if (((((rd_T54 x0 x5).f0).toList) == (((rd_T54 x1 x5).f0).toList) && ((((rd_T54 x0 x5).f1).toList) == (((rd_T54 x1 x5).f1).toList))) = true) then (bywashbook_SameFields.l0 k x0 x1 (wrap64 (x5 + 1))) else (some false)) else (none)) else (none)) else (some true)
def bywashbook_SameFields.f (k : Nat) (l0 : List (S54)) (l1 : List (S54)) : Option (Bool) := if (l0.length : Int) = (l1.length : Int) then (bywashbook_SameFields.l0 k l0 l1 0) else (some false)
theorem bywashbook_SameFields.mono_l : ∀ k, (∀ y0 y1 y2, LeO (bywashbook_SameFields.l0 k y0 y1 y2) (bywashbook_SameFields.l0 (k + 1) y0 y1 y2))
  | 0 => fun _ _ _ r h => by simp [bywashbook_SameFields.l0] at h
  | k + 1 => by
    have ih0 := bywashbook_SameFields.mono_l k
    · intro y0 y1 y2
      unfold bywashbook_SameFields.l0
      repeat' first
      | (with_reducible exact ih0 _ _ _)
      | (with_reducible exact LeO.refl _)
      | (with_reducible exact LeO.none _)
      | (with_reducible refine LeO.ite ?_ ?_)
      | (with_reducible refine LeO.bind ?_ (fun _ => ?_))
      | exact ih0 _ _ _
      | exact LeO.none _
      | refine LeO.ite ?_ ?_
      | refine LeO.bind ?_ (fun _ => ?_)
theorem bywashbook_SameFields.mono : ∀ a0 a1 k, LeO (bywashbook_SameFields.f k a0 a1) (bywashbook_SameFields.f (k + 1) a0 a1) := by
  intro a0 a1 k
  have ih0 := bywashbook_SameFields.mono_l k
  unfold bywashbook_SameFields.f
  repeat' first
      | (with_reducible exact ih0 _ _ _)
      | (with_reducible exact LeO.refl _)
      | (with_reducible exact LeO.none _)
      | (with_reducible refine LeO.ite ?_ ?_)
      | (with_reducible refine LeO.bind ?_ (fun _ => ?_))
      | exact ih0 _ _ _
      | exact LeO.none _
      | refine LeO.ite ?_ ?_
      | refine LeO.bind ?_ (fun _ => ?_)
set_option maxHeartbeats 8000000 in
set_option maxRecDepth 100000 in
theorem bywashbook_SameFields.calls (k : Nat) (A0 : Option Addr) (c0 : Nat) (l0 : List (S54)) (A1 : Option Addr) (c1 : Nat) (l1 : List (S54)) (r : Bool) (w : World) (hr0 : Kd.C k54 w A0 l0.length l0) (hc0 : l0.length ≤ c0) (hr1 : Kd.C k54 w A1 l1.length l1) (hc1 : l1.length ≤ c1) (h : bywashbook_SameFields.f k l0 l1 = some r) :
    Calls Try.prog 41 #[.slice A0 l0.length c0, .slice A1 l1.length c1] w fun e w' => e = .returned (.bool r) ∧ Drawn0 w w' := by
  have hu54 := Try.underlying54
  have HR0 := Aside0.mk hr0
  have HC0 := Aside0.mk hc0
  clear hr0 hc0
  have HR1 := Aside0.mk hr1
  have HC1 := Aside0.mk hc1
  clear hr1 hc1
  have H : (if (l0.length : Int) = (l1.length : Int) then (bywashbook_SameFields.l0 k l0 l1 0) else (some false)) = some r := h
  clear h
  by_cases c3 : (l0.length : Int) = (l1.length : Int)
  · rw [if_pos c3] at H
    have c3b0 : ((l0.length : Int) == (l1.length : Int)) = true := beq_iff_eq.mpr c3
    have c3b1 : ((l0.length : Int) != (l1.length : Int)) = false := bne_eq_false_iff_eq.mpr c3
    have c3b2 : (l0.length == l1.length) = true := by first | simpa using c3 | (simp at c3 ⊢; omega)
    clear c3
    have H' := Aside0.mk H
    clear H
    go_enter Try.func41, Try.ntmps41
    go_wp2
    repeat (go_quiet (fail); try go_wp2)
    go_loopg [5] k (fun kq v5 w' => ∃ (x5_1 : Int), v5 = .int .i64 x5_1 ∧ Aside0 (bywashbook_SameFields.l0 kq l0 l1 x5_1 = some r) ∧ Aside0 (kq ≤ k) ∧ Drawn0 w w')
    case atStart => exact ⟨(0), (by first | rfl | (simp; done) | (simp [*]; done)), H', ⟨Nat.le_refl _⟩, by repeat (first | exact Drawn0.refl _ | apply Drawn0.step)⟩
    case round =>
      clear H'
      try clear c1
      try clear p2
      try clear c3
      try clear c3b0
      try clear c3b1
      try clear c3b2
      obtain ⟨x5_1, rfl, HA, HK1, ⟨m1, rfl⟩⟩ := hrel
      cases gk with
      | zero => exact absurd HA.out (by simp [bywashbook_SameFields.l0])
      | succ k1 =>
        have H := HA.out
        clear HA
        simp only [bywashbook_SameFields.l0] at H
        by_cases c4 : x5_1 < (l0.length : Int)
        · rw [if_pos c4] at H
          have c4b0 : decide (x5_1 < (l0.length : Int)) = true := decide_eq_true c4
          clear c4
          by_cases c5 : 0 ≤ x5_1
          · rw [if_pos c5] at H
            have c5b0 : decide (0 ≤ x5_1) = true := decide_eq_true c5
            clear c5
            by_cases c6 : x5_1 < (l1.length : Int)
            · rw [if_pos c6] at H
              have c6b0 : decide (x5_1 < (l1.length : Int)) = true := decide_eq_true c6
              clear c6
              by_cases c7 : (((((rd_T54 l0 x5_1).f0).toList) == (((rd_T54 l1 x5_1).f0).toList) && ((((rd_T54 l0 x5_1).f1).toList) == (((rd_T54 l1 x5_1).f1).toList))) = true)
              · rw [if_pos c7] at H
                have c7b0 : ((((rd_T54 l0 x5_1).f0).toList) == (((rd_T54 l1 x5_1).f0).toList) && ((((rd_T54 l0 x5_1).f1).toList) == (((rd_T54 l1 x5_1).f1).toList))) = true := c7
                (try (have c7b1 : decide ((((rd_T54 l0 x5_1).f0).toList) = (((rd_T54 l1 x5_1).f0).toList) && ((((rd_T54 l0 x5_1).f1).toList) == (((rd_T54 l1 x5_1).f1).toList))) = true := by simpa using c7))
                (try (have c7b2 : ((((rd_T54 l0 x5_1).f0).toList) == (((rd_T54 l1 x5_1).f0).toList) && ((((rd_T54 l0 x5_1).f1).toList) == (((rd_T54 l1 x5_1).f1).toList))) = true := by simpa using c7))
                clear c7
                have H' := Aside0.mk H
                clear H
                have p128 : 0 ≤ (x5_1 : Int) := of_decide_eq_true (by first | (with_reducible assumption) | assumption)
                have q128 : x5_1 < (l0.length : Int) := of_decide_eq_true (by first | (with_reducible assumption) | assumption)
                obtain ⟨ad128, e128, hx128_0, hx128_1⟩ := at_T54 HR0.out x5_1 p128 q128
                cases e128
                replace p128 := eq_true p128
                replace q128 := eq_true q128
                have p129 : 0 ≤ (x5_1 : Int) := of_decide_eq_true (by first | (with_reducible assumption) | assumption)
                have q129 : x5_1 < (l1.length : Int) := of_decide_eq_true (by first | (with_reducible assumption) | assumption)
                obtain ⟨ad129, e129, hx129_0, hx129_1⟩ := at_T54 HR1.out x5_1 p129 q129
                cases e129
                replace p129 := eq_true p129
                replace q129 := eq_true q129
                go_wp2
                repeat (go_quiet (fail); try go_wp2)
                go_roundg k1
                case measure => have := HK1.out; omega
                case rel => exact ⟨(wrap64 (x5_1 + 1)), (by first | rfl | (simp; done) | (simp [*]; done)), H', ⟨by have := HK1.out; omega⟩, by repeat (first | exact Drawn0.refl _ | apply Drawn0.step)⟩
              · rw [if_neg c7] at H
                have c7b0 : ((((rd_T54 l0 x5_1).f0).toList) == (((rd_T54 l1 x5_1).f0).toList) && ((((rd_T54 l0 x5_1).f1).toList) == (((rd_T54 l1 x5_1).f1).toList))) = false := by simpa using c7
                (try (have c7b1 : decide ((((rd_T54 l0 x5_1).f0).toList) = (((rd_T54 l1 x5_1).f0).toList) && ((((rd_T54 l0 x5_1).f1).toList) == (((rd_T54 l1 x5_1).f1).toList))) = false := by simpa using c7))
                (try (have c7b2 : ((((rd_T54 l0 x5_1).f0).toList) == (((rd_T54 l1 x5_1).f0).toList) && ((((rd_T54 l0 x5_1).f1).toList) == (((rd_T54 l1 x5_1).f1).toList))) = false := by simpa using c7))
                (try (have c7b3 : ¬ ((((rd_T54 l0 x5_1).f0).toList) = (((rd_T54 l1 x5_1).f0).toList) && ((((rd_T54 l0 x5_1).f1).toList) == (((rd_T54 l1 x5_1).f1).toList))) := by simpa using c7))
                clear c7
                obtain rfl := Option.some.inj H
                have p128 : 0 ≤ (x5_1 : Int) := of_decide_eq_true (by first | (with_reducible assumption) | assumption)
                have q128 : x5_1 < (l0.length : Int) := of_decide_eq_true (by first | (with_reducible assumption) | assumption)
                obtain ⟨ad128, e128, hx128_0, hx128_1⟩ := at_T54 HR0.out x5_1 p128 q128
                cases e128
                replace p128 := eq_true p128
                replace q128 := eq_true q128
                have p129 : 0 ≤ (x5_1 : Int) := of_decide_eq_true (by first | (with_reducible assumption) | assumption)
                have q129 : x5_1 < (l1.length : Int) := of_decide_eq_true (by first | (with_reducible assumption) | assumption)
                obtain ⟨ad129, e129, hx129_0, hx129_1⟩ := at_T54 HR1.out x5_1 p129 q129
                cases e129
                replace p129 := eq_true p129
                replace q129 := eq_true q129
                go_wp2
                repeat (go_quiet (fail); try go_wp2)
                go_ret
                exact ⟨by first | rfl | (simp; done) | (simp [*]; done), by repeat (first | exact Drawn0.refl _ | apply Drawn0.step)⟩
            · rw [if_neg c6] at H
              exact absurd H (by simp)
          · rw [if_neg c5] at H
            exact absurd H (by simp)
        · rw [if_neg c4] at H
          have c4b0 : decide (x5_1 < (l0.length : Int)) = false := decide_eq_false c4
          clear c4
          obtain rfl := Option.some.inj H
          go_wp2
          repeat (go_quiet (fail); try go_wp2)
          go_ret
          exact ⟨by first | rfl | (simp; done) | (simp [*]; done), by repeat (first | exact Drawn0.refl _ | apply Drawn0.step)⟩
  · rw [if_neg c3] at H
    have c3b0 : ((l0.length : Int) == (l1.length : Int)) = false := beq_eq_false_iff_ne.mpr c3
    have c3b1 : ((l0.length : Int) != (l1.length : Int)) = true := bne_iff_ne.mpr c3
    have c3b2 : (l0.length == l1.length) = false := by first | simpa using c3 | (simp at c3 ⊢; omega)
    obtain rfl := Option.some.inj H
    go_enter Try.func41, Try.ntmps41
    go_wp2
    repeat (go_quiet (fail); try go_wp2)
    go_ret
    exact ⟨by first | rfl | (simp; done) | (simp [*]; done), by repeat (first | exact Drawn0.refl _ | apply Drawn0.step)⟩

-- NOT PRINTED: function 51 (bywashbook_Book_stillFields)

/-! ### bywashbook_SameFrames: function 84 -/
def bywashbook_SameFrames.l0 : Nat → List (S114) → List (S114) → Int → Option (Bool)
  | 0, _, _, _ => none
  | k + 1, x0, x1, x5 => if x5 < (x0.length : Int) then (if 0 ≤ x5 then (if x5 < (x1.length : Int) then (if ((((rd_T114 x0 x5).f0) == ((rd_T114 x1 x5).f0) && (((rd_T114 x0 x5).f1) == ((rd_T114 x1 x5).f1) && (((rd_T114 x0 x5).f2) == ((rd_T114 x1 x5).f2) && ((((rd_T114 x0 x5).f3).toList) == (((rd_T114 x1 x5).f3).toList))))) = true) then (bywashbook_SameFrames.l0 k x0 x1 (wrap64 (x5 + 1))) else (some false)) else (none)) else (none)) else (some true)
def bywashbook_SameFrames.f (k : Nat) (l0 : List (S114)) (l1 : List (S114)) : Option (Bool) := if (l0.length : Int) = (l1.length : Int) then (bywashbook_SameFrames.l0 k l0 l1 0) else (some false)
theorem bywashbook_SameFrames.mono_l : ∀ k, (∀ y0 y1 y2, LeO (bywashbook_SameFrames.l0 k y0 y1 y2) (bywashbook_SameFrames.l0 (k + 1) y0 y1 y2))
  | 0 => fun _ _ _ r h => by simp [bywashbook_SameFrames.l0] at h
  | k + 1 => by
    have ih0 := bywashbook_SameFrames.mono_l k
    · intro y0 y1 y2
      unfold bywashbook_SameFrames.l0
      repeat' first
      | (with_reducible exact ih0 _ _ _)
      | (with_reducible exact LeO.refl _)
      | (with_reducible exact LeO.none _)
      | (with_reducible refine LeO.ite ?_ ?_)
      | (with_reducible refine LeO.bind ?_ (fun _ => ?_))
      | exact ih0 _ _ _
      | exact LeO.none _
      | refine LeO.ite ?_ ?_
      | refine LeO.bind ?_ (fun _ => ?_)
theorem bywashbook_SameFrames.mono : ∀ a0 a1 k, LeO (bywashbook_SameFrames.f k a0 a1) (bywashbook_SameFrames.f (k + 1) a0 a1) := by
  intro a0 a1 k
  have ih0 := bywashbook_SameFrames.mono_l k
  unfold bywashbook_SameFrames.f
  repeat' first
      | (with_reducible exact ih0 _ _ _)
      | (with_reducible exact LeO.refl _)
      | (with_reducible exact LeO.none _)
      | (with_reducible refine LeO.ite ?_ ?_)
      | (with_reducible refine LeO.bind ?_ (fun _ => ?_))
      | exact ih0 _ _ _
      | exact LeO.none _
      | refine LeO.ite ?_ ?_
      | refine LeO.bind ?_ (fun _ => ?_)
set_option maxHeartbeats 8000000 in
set_option maxRecDepth 100000 in
theorem bywashbook_SameFrames.calls (k : Nat) (A0 : Option Addr) (c0 : Nat) (l0 : List (S114)) (A1 : Option Addr) (c1 : Nat) (l1 : List (S114)) (r : Bool) (w : World) (hr0 : Kd.C k114 w A0 l0.length l0) (hc0 : l0.length ≤ c0) (hr1 : Kd.C k114 w A1 l1.length l1) (hc1 : l1.length ≤ c1) (h : bywashbook_SameFrames.f k l0 l1 = some r) :
    Calls Try.prog 84 #[.slice A0 l0.length c0, .slice A1 l1.length c1] w fun e w' => e = .returned (.bool r) ∧ Drawn0 w w' := by
  have hu114 := Try.underlying114
  have HR0 := Aside0.mk hr0
  have HC0 := Aside0.mk hc0
  clear hr0 hc0
  have HR1 := Aside0.mk hr1
  have HC1 := Aside0.mk hc1
  clear hr1 hc1
  have H : (if (l0.length : Int) = (l1.length : Int) then (bywashbook_SameFrames.l0 k l0 l1 0) else (some false)) = some r := h
  clear h
  by_cases c3 : (l0.length : Int) = (l1.length : Int)
  · rw [if_pos c3] at H
    have c3b0 : ((l0.length : Int) == (l1.length : Int)) = true := beq_iff_eq.mpr c3
    have c3b1 : ((l0.length : Int) != (l1.length : Int)) = false := bne_eq_false_iff_eq.mpr c3
    have c3b2 : (l0.length == l1.length) = true := by first | simpa using c3 | (simp at c3 ⊢; omega)
    clear c3
    have H' := Aside0.mk H
    clear H
    go_enter Try.func84, Try.ntmps84
    go_wp2
    repeat (go_quiet (fail); try go_wp2)
    go_loopg [5] k (fun kq v5 w' => ∃ (x5_1 : Int), v5 = .int .i64 x5_1 ∧ Aside0 (bywashbook_SameFrames.l0 kq l0 l1 x5_1 = some r) ∧ Aside0 (kq ≤ k) ∧ Drawn0 w w')
    case atStart => exact ⟨(0), (by first | rfl | (simp; done) | (simp [*]; done)), H', ⟨Nat.le_refl _⟩, by repeat (first | exact Drawn0.refl _ | apply Drawn0.step)⟩
    case round =>
      clear H'
      try clear c1
      try clear p2
      try clear c3
      try clear c3b0
      try clear c3b1
      try clear c3b2
      obtain ⟨x5_1, rfl, HA, HK1, ⟨m1, rfl⟩⟩ := hrel
      cases gk with
      | zero => exact absurd HA.out (by simp [bywashbook_SameFrames.l0])
      | succ k1 =>
        have H := HA.out
        clear HA
        simp only [bywashbook_SameFrames.l0] at H
        by_cases c4 : x5_1 < (l0.length : Int)
        · rw [if_pos c4] at H
          have c4b0 : decide (x5_1 < (l0.length : Int)) = true := decide_eq_true c4
          clear c4
          by_cases c5 : 0 ≤ x5_1
          · rw [if_pos c5] at H
            have c5b0 : decide (0 ≤ x5_1) = true := decide_eq_true c5
            clear c5
            by_cases c6 : x5_1 < (l1.length : Int)
            · rw [if_pos c6] at H
              have c6b0 : decide (x5_1 < (l1.length : Int)) = true := decide_eq_true c6
              clear c6
              by_cases c7 : ((((rd_T114 l0 x5_1).f0) == ((rd_T114 l1 x5_1).f0) && (((rd_T114 l0 x5_1).f1) == ((rd_T114 l1 x5_1).f1) && (((rd_T114 l0 x5_1).f2) == ((rd_T114 l1 x5_1).f2) && ((((rd_T114 l0 x5_1).f3).toList) == (((rd_T114 l1 x5_1).f3).toList))))) = true)
              · rw [if_pos c7] at H
                have c7b0 : (((rd_T114 l0 x5_1).f0) == ((rd_T114 l1 x5_1).f0) && (((rd_T114 l0 x5_1).f1) == ((rd_T114 l1 x5_1).f1) && (((rd_T114 l0 x5_1).f2) == ((rd_T114 l1 x5_1).f2) && ((((rd_T114 l0 x5_1).f3).toList) == (((rd_T114 l1 x5_1).f3).toList))))) = true := c7
                (try (have c7b1 : decide (((rd_T114 l0 x5_1).f0) = ((rd_T114 l1 x5_1).f0) && (((rd_T114 l0 x5_1).f1) == ((rd_T114 l1 x5_1).f1) && (((rd_T114 l0 x5_1).f2) == ((rd_T114 l1 x5_1).f2) && ((((rd_T114 l0 x5_1).f3).toList) == (((rd_T114 l1 x5_1).f3).toList))))) = true := by simpa using c7))
                (try (have c7b2 : (((rd_T114 l0 x5_1).f0) == ((rd_T114 l1 x5_1).f0) && (((rd_T114 l0 x5_1).f1) == ((rd_T114 l1 x5_1).f1) && (((rd_T114 l0 x5_1).f2) == ((rd_T114 l1 x5_1).f2) && ((((rd_T114 l0 x5_1).f3).toList) == (((rd_T114 l1 x5_1).f3).toList))))) = true := by simpa using c7))
                clear c7
                have H' := Aside0.mk H
                clear H
                have p133 : 0 ≤ (x5_1 : Int) := of_decide_eq_true (by first | (with_reducible assumption) | assumption)
                have q133 : x5_1 < (l0.length : Int) := of_decide_eq_true (by first | (with_reducible assumption) | assumption)
                obtain ⟨ad133, e133, hx133_0, hx133_1, hx133_2, hx133_3⟩ := at_T114 HR0.out x5_1 p133 q133
                cases e133
                replace p133 := eq_true p133
                replace q133 := eq_true q133
                have p134 : 0 ≤ (x5_1 : Int) := of_decide_eq_true (by first | (with_reducible assumption) | assumption)
                have q134 : x5_1 < (l1.length : Int) := of_decide_eq_true (by first | (with_reducible assumption) | assumption)
                obtain ⟨ad134, e134, hx134_0, hx134_1, hx134_2, hx134_3⟩ := at_T114 HR1.out x5_1 p134 q134
                cases e134
                replace p134 := eq_true p134
                replace q134 := eq_true q134
                go_wp2
                repeat (go_quiet (fail); try go_wp2)
                go_roundg k1
                case measure => have := HK1.out; omega
                case rel => exact ⟨(wrap64 (x5_1 + 1)), (by first | rfl | (simp; done) | (simp [*]; done)), H', ⟨by have := HK1.out; omega⟩, by repeat (first | exact Drawn0.refl _ | apply Drawn0.step)⟩
              · rw [if_neg c7] at H
                have c7b0 : (((rd_T114 l0 x5_1).f0) == ((rd_T114 l1 x5_1).f0) && (((rd_T114 l0 x5_1).f1) == ((rd_T114 l1 x5_1).f1) && (((rd_T114 l0 x5_1).f2) == ((rd_T114 l1 x5_1).f2) && ((((rd_T114 l0 x5_1).f3).toList) == (((rd_T114 l1 x5_1).f3).toList))))) = false := by simpa using c7
                (try (have c7b1 : decide (((rd_T114 l0 x5_1).f0) = ((rd_T114 l1 x5_1).f0) && (((rd_T114 l0 x5_1).f1) == ((rd_T114 l1 x5_1).f1) && (((rd_T114 l0 x5_1).f2) == ((rd_T114 l1 x5_1).f2) && ((((rd_T114 l0 x5_1).f3).toList) == (((rd_T114 l1 x5_1).f3).toList))))) = false := by simpa using c7))
                (try (have c7b2 : (((rd_T114 l0 x5_1).f0) == ((rd_T114 l1 x5_1).f0) && (((rd_T114 l0 x5_1).f1) == ((rd_T114 l1 x5_1).f1) && (((rd_T114 l0 x5_1).f2) == ((rd_T114 l1 x5_1).f2) && ((((rd_T114 l0 x5_1).f3).toList) == (((rd_T114 l1 x5_1).f3).toList))))) = false := by simpa using c7))
                (try (have c7b3 : ¬ (((rd_T114 l0 x5_1).f0) = ((rd_T114 l1 x5_1).f0) && (((rd_T114 l0 x5_1).f1) == ((rd_T114 l1 x5_1).f1) && (((rd_T114 l0 x5_1).f2) == ((rd_T114 l1 x5_1).f2) && ((((rd_T114 l0 x5_1).f3).toList) == (((rd_T114 l1 x5_1).f3).toList))))) := by simpa using c7))
                clear c7
                obtain rfl := Option.some.inj H
                have p133 : 0 ≤ (x5_1 : Int) := of_decide_eq_true (by first | (with_reducible assumption) | assumption)
                have q133 : x5_1 < (l0.length : Int) := of_decide_eq_true (by first | (with_reducible assumption) | assumption)
                obtain ⟨ad133, e133, hx133_0, hx133_1, hx133_2, hx133_3⟩ := at_T114 HR0.out x5_1 p133 q133
                cases e133
                replace p133 := eq_true p133
                replace q133 := eq_true q133
                have p134 : 0 ≤ (x5_1 : Int) := of_decide_eq_true (by first | (with_reducible assumption) | assumption)
                have q134 : x5_1 < (l1.length : Int) := of_decide_eq_true (by first | (with_reducible assumption) | assumption)
                obtain ⟨ad134, e134, hx134_0, hx134_1, hx134_2, hx134_3⟩ := at_T114 HR1.out x5_1 p134 q134
                cases e134
                replace p134 := eq_true p134
                replace q134 := eq_true q134
                go_wp2
                repeat (go_quiet (fail); try go_wp2)
                go_ret
                exact ⟨by first | rfl | (simp; done) | (simp [*]; done), by repeat (first | exact Drawn0.refl _ | apply Drawn0.step)⟩
            · rw [if_neg c6] at H
              exact absurd H (by simp)
          · rw [if_neg c5] at H
            exact absurd H (by simp)
        · rw [if_neg c4] at H
          have c4b0 : decide (x5_1 < (l0.length : Int)) = false := decide_eq_false c4
          clear c4
          obtain rfl := Option.some.inj H
          go_wp2
          repeat (go_quiet (fail); try go_wp2)
          go_ret
          exact ⟨by first | rfl | (simp; done) | (simp [*]; done), by repeat (first | exact Drawn0.refl _ | apply Drawn0.step)⟩
  · rw [if_neg c3] at H
    have c3b0 : ((l0.length : Int) == (l1.length : Int)) = false := beq_eq_false_iff_ne.mpr c3
    have c3b1 : ((l0.length : Int) != (l1.length : Int)) = true := bne_iff_ne.mpr c3
    have c3b2 : (l0.length == l1.length) = false := by first | simpa using c3 | (simp at c3 ⊢; omega)
    obtain rfl := Option.some.inj H
    go_enter Try.func84, Try.ntmps84
    go_wp2
    repeat (go_quiet (fail); try go_wp2)
    go_ret
    exact ⟨by first | rfl | (simp; done) | (simp [*]; done), by repeat (first | exact Drawn0.refl _ | apply Drawn0.step)⟩

-- NOT PRINTED: function 52 (bywashbook_Book_stillFrames)

/-! ### bywashbook_SamePrefs: function 85 -/
def bywashbook_SamePrefs.l0 : Nat → List (S117) → List (S117) → Int → Option (Bool)
  | 0, _, _, _ => none
  | k + 1, x0, x1, x5 => if x5 < (x0.length : Int) then (if 0 ≤ x5 then (if x5 < (x1.length : Int) then (if ((((rd_T117 x0 x5).f0) == ((rd_T117 x1 x5).f0) && (((rd_T117 x0 x5).f1) == ((rd_T117 x1 x5).f1))) = true) then (bywashbook_SamePrefs.l0 k x0 x1 (wrap64 (x5 + 1))) else (some false)) else (none)) else (none)) else (some true)
def bywashbook_SamePrefs.f (k : Nat) (l0 : List (S117)) (l1 : List (S117)) : Option (Bool) := if (l0.length : Int) = (l1.length : Int) then (bywashbook_SamePrefs.l0 k l0 l1 0) else (some false)
theorem bywashbook_SamePrefs.mono_l : ∀ k, (∀ y0 y1 y2, LeO (bywashbook_SamePrefs.l0 k y0 y1 y2) (bywashbook_SamePrefs.l0 (k + 1) y0 y1 y2))
  | 0 => fun _ _ _ r h => by simp [bywashbook_SamePrefs.l0] at h
  | k + 1 => by
    have ih0 := bywashbook_SamePrefs.mono_l k
    · intro y0 y1 y2
      unfold bywashbook_SamePrefs.l0
      repeat' first
      | (with_reducible exact ih0 _ _ _)
      | (with_reducible exact LeO.refl _)
      | (with_reducible exact LeO.none _)
      | (with_reducible refine LeO.ite ?_ ?_)
      | (with_reducible refine LeO.bind ?_ (fun _ => ?_))
      | exact ih0 _ _ _
      | exact LeO.none _
      | refine LeO.ite ?_ ?_
      | refine LeO.bind ?_ (fun _ => ?_)
theorem bywashbook_SamePrefs.mono : ∀ a0 a1 k, LeO (bywashbook_SamePrefs.f k a0 a1) (bywashbook_SamePrefs.f (k + 1) a0 a1) := by
  intro a0 a1 k
  have ih0 := bywashbook_SamePrefs.mono_l k
  unfold bywashbook_SamePrefs.f
  repeat' first
      | (with_reducible exact ih0 _ _ _)
      | (with_reducible exact LeO.refl _)
      | (with_reducible exact LeO.none _)
      | (with_reducible refine LeO.ite ?_ ?_)
      | (with_reducible refine LeO.bind ?_ (fun _ => ?_))
      | exact ih0 _ _ _
      | exact LeO.none _
      | refine LeO.ite ?_ ?_
      | refine LeO.bind ?_ (fun _ => ?_)
set_option maxHeartbeats 8000000 in
set_option maxRecDepth 100000 in
theorem bywashbook_SamePrefs.calls (k : Nat) (A0 : Option Addr) (c0 : Nat) (l0 : List (S117)) (A1 : Option Addr) (c1 : Nat) (l1 : List (S117)) (r : Bool) (w : World) (hr0 : Kd.C k117 w A0 l0.length l0) (hc0 : l0.length ≤ c0) (hr1 : Kd.C k117 w A1 l1.length l1) (hc1 : l1.length ≤ c1) (h : bywashbook_SamePrefs.f k l0 l1 = some r) :
    Calls Try.prog 85 #[.slice A0 l0.length c0, .slice A1 l1.length c1] w fun e w' => e = .returned (.bool r) ∧ Drawn0 w w' := by
  have hu117 := Try.underlying117
  have HR0 := Aside0.mk hr0
  have HC0 := Aside0.mk hc0
  clear hr0 hc0
  have HR1 := Aside0.mk hr1
  have HC1 := Aside0.mk hc1
  clear hr1 hc1
  have H : (if (l0.length : Int) = (l1.length : Int) then (bywashbook_SamePrefs.l0 k l0 l1 0) else (some false)) = some r := h
  clear h
  by_cases c3 : (l0.length : Int) = (l1.length : Int)
  · rw [if_pos c3] at H
    have c3b0 : ((l0.length : Int) == (l1.length : Int)) = true := beq_iff_eq.mpr c3
    have c3b1 : ((l0.length : Int) != (l1.length : Int)) = false := bne_eq_false_iff_eq.mpr c3
    have c3b2 : (l0.length == l1.length) = true := by first | simpa using c3 | (simp at c3 ⊢; omega)
    clear c3
    have H' := Aside0.mk H
    clear H
    go_enter Try.func85, Try.ntmps85
    go_wp2
    repeat (go_quiet (fail); try go_wp2)
    go_loopg [5] k (fun kq v5 w' => ∃ (x5_1 : Int), v5 = .int .i64 x5_1 ∧ Aside0 (bywashbook_SamePrefs.l0 kq l0 l1 x5_1 = some r) ∧ Aside0 (kq ≤ k) ∧ Drawn0 w w')
    case atStart => exact ⟨(0), (by first | rfl | (simp; done) | (simp [*]; done)), H', ⟨Nat.le_refl _⟩, by repeat (first | exact Drawn0.refl _ | apply Drawn0.step)⟩
    case round =>
      clear H'
      try clear c1
      try clear p2
      try clear c3
      try clear c3b0
      try clear c3b1
      try clear c3b2
      obtain ⟨x5_1, rfl, HA, HK1, ⟨m1, rfl⟩⟩ := hrel
      cases gk with
      | zero => exact absurd HA.out (by simp [bywashbook_SamePrefs.l0])
      | succ k1 =>
        have H := HA.out
        clear HA
        simp only [bywashbook_SamePrefs.l0] at H
        by_cases c4 : x5_1 < (l0.length : Int)
        · rw [if_pos c4] at H
          have c4b0 : decide (x5_1 < (l0.length : Int)) = true := decide_eq_true c4
          clear c4
          by_cases c5 : 0 ≤ x5_1
          · rw [if_pos c5] at H
            have c5b0 : decide (0 ≤ x5_1) = true := decide_eq_true c5
            clear c5
            by_cases c6 : x5_1 < (l1.length : Int)
            · rw [if_pos c6] at H
              have c6b0 : decide (x5_1 < (l1.length : Int)) = true := decide_eq_true c6
              clear c6
              by_cases c7 : ((((rd_T117 l0 x5_1).f0) == ((rd_T117 l1 x5_1).f0) && (((rd_T117 l0 x5_1).f1) == ((rd_T117 l1 x5_1).f1))) = true)
              · rw [if_pos c7] at H
                have c7b0 : (((rd_T117 l0 x5_1).f0) == ((rd_T117 l1 x5_1).f0) && (((rd_T117 l0 x5_1).f1) == ((rd_T117 l1 x5_1).f1))) = true := c7
                (try (have c7b1 : decide (((rd_T117 l0 x5_1).f0) = ((rd_T117 l1 x5_1).f0) && (((rd_T117 l0 x5_1).f1) == ((rd_T117 l1 x5_1).f1))) = true := by simpa using c7))
                (try (have c7b2 : (((rd_T117 l0 x5_1).f0) == ((rd_T117 l1 x5_1).f0) && (((rd_T117 l0 x5_1).f1) == ((rd_T117 l1 x5_1).f1))) = true := by simpa using c7))
                clear c7
                have H' := Aside0.mk H
                clear H
                have p138 : 0 ≤ (x5_1 : Int) := of_decide_eq_true (by first | (with_reducible assumption) | assumption)
                have q138 : x5_1 < (l0.length : Int) := of_decide_eq_true (by first | (with_reducible assumption) | assumption)
                obtain ⟨ad138, e138, hx138_0, hx138_1⟩ := at_T117 HR0.out x5_1 p138 q138
                cases e138
                replace p138 := eq_true p138
                replace q138 := eq_true q138
                have p139 : 0 ≤ (x5_1 : Int) := of_decide_eq_true (by first | (with_reducible assumption) | assumption)
                have q139 : x5_1 < (l1.length : Int) := of_decide_eq_true (by first | (with_reducible assumption) | assumption)
                obtain ⟨ad139, e139, hx139_0, hx139_1⟩ := at_T117 HR1.out x5_1 p139 q139
                cases e139
                replace p139 := eq_true p139
                replace q139 := eq_true q139
                go_wp2
                repeat (go_quiet (fail); try go_wp2)
                go_roundg k1
                case measure => have := HK1.out; omega
                case rel => exact ⟨(wrap64 (x5_1 + 1)), (by first | rfl | (simp; done) | (simp [*]; done)), H', ⟨by have := HK1.out; omega⟩, by repeat (first | exact Drawn0.refl _ | apply Drawn0.step)⟩
              · rw [if_neg c7] at H
                have c7b0 : (((rd_T117 l0 x5_1).f0) == ((rd_T117 l1 x5_1).f0) && (((rd_T117 l0 x5_1).f1) == ((rd_T117 l1 x5_1).f1))) = false := by simpa using c7
                (try (have c7b1 : decide (((rd_T117 l0 x5_1).f0) = ((rd_T117 l1 x5_1).f0) && (((rd_T117 l0 x5_1).f1) == ((rd_T117 l1 x5_1).f1))) = false := by simpa using c7))
                (try (have c7b2 : (((rd_T117 l0 x5_1).f0) == ((rd_T117 l1 x5_1).f0) && (((rd_T117 l0 x5_1).f1) == ((rd_T117 l1 x5_1).f1))) = false := by simpa using c7))
                (try (have c7b3 : ¬ (((rd_T117 l0 x5_1).f0) = ((rd_T117 l1 x5_1).f0) && (((rd_T117 l0 x5_1).f1) == ((rd_T117 l1 x5_1).f1))) := by simpa using c7))
                clear c7
                obtain rfl := Option.some.inj H
                have p138 : 0 ≤ (x5_1 : Int) := of_decide_eq_true (by first | (with_reducible assumption) | assumption)
                have q138 : x5_1 < (l0.length : Int) := of_decide_eq_true (by first | (with_reducible assumption) | assumption)
                obtain ⟨ad138, e138, hx138_0, hx138_1⟩ := at_T117 HR0.out x5_1 p138 q138
                cases e138
                replace p138 := eq_true p138
                replace q138 := eq_true q138
                have p139 : 0 ≤ (x5_1 : Int) := of_decide_eq_true (by first | (with_reducible assumption) | assumption)
                have q139 : x5_1 < (l1.length : Int) := of_decide_eq_true (by first | (with_reducible assumption) | assumption)
                obtain ⟨ad139, e139, hx139_0, hx139_1⟩ := at_T117 HR1.out x5_1 p139 q139
                cases e139
                replace p139 := eq_true p139
                replace q139 := eq_true q139
                go_wp2
                repeat (go_quiet (fail); try go_wp2)
                go_ret
                exact ⟨by first | rfl | (simp; done) | (simp [*]; done), by repeat (first | exact Drawn0.refl _ | apply Drawn0.step)⟩
            · rw [if_neg c6] at H
              exact absurd H (by simp)
          · rw [if_neg c5] at H
            exact absurd H (by simp)
        · rw [if_neg c4] at H
          have c4b0 : decide (x5_1 < (l0.length : Int)) = false := decide_eq_false c4
          clear c4
          obtain rfl := Option.some.inj H
          go_wp2
          repeat (go_quiet (fail); try go_wp2)
          go_ret
          exact ⟨by first | rfl | (simp; done) | (simp [*]; done), by repeat (first | exact Drawn0.refl _ | apply Drawn0.step)⟩
  · rw [if_neg c3] at H
    have c3b0 : ((l0.length : Int) == (l1.length : Int)) = false := beq_eq_false_iff_ne.mpr c3
    have c3b1 : ((l0.length : Int) != (l1.length : Int)) = true := bne_iff_ne.mpr c3
    have c3b2 : (l0.length == l1.length) = false := by first | simpa using c3 | (simp at c3 ⊢; omega)
    obtain rfl := Option.some.inj H
    go_enter Try.func85, Try.ntmps85
    go_wp2
    repeat (go_quiet (fail); try go_wp2)
    go_ret
    exact ⟨by first | rfl | (simp; done) | (simp [*]; done), by repeat (first | exact Drawn0.refl _ | apply Drawn0.step)⟩

-- NOT PRINTED: function 53 (bywashbook_Book_stillPrefs)

/-! ### bywashbook_markInts: function 86 -/
def bywashbook_markInts.l0 : Nat → Int → Int → Int → List Int → Int → Option (List Int)
  | 0, _, _, _, _, _ => none
  | k + 1, x0, x1, x2, x7, x8 => if x8 < (wrap64 (x1 + x2)) then (if x7.length < 17592186044416 then (bywashbook_markInts.l0 k x0 x1 x2 (x7 ++ [wrap64 ((wrap64 ((wrap64 ((-1000000) * x0)) - x8)) - 7)]) (wrap64 (x8 + 1))) else (none)) else (some x7)
def bywashbook_markInts.f (k : Nat) (a0 : Int) (a1 : Int) (a2 : Int) : Option (List Int) := bywashbook_markInts.l0 k a0 a1 a2 ([] : List Int) a1
theorem bywashbook_markInts.mono_l : ∀ k, (∀ y0 y1 y2 y3 y4, LeO (bywashbook_markInts.l0 k y0 y1 y2 y3 y4) (bywashbook_markInts.l0 (k + 1) y0 y1 y2 y3 y4))
  | 0 => fun _ _ _ _ _ r h => by simp [bywashbook_markInts.l0] at h
  | k + 1 => by
    have ih0 := bywashbook_markInts.mono_l k
    · intro y0 y1 y2 y3 y4
      unfold bywashbook_markInts.l0
      repeat' first
      | (with_reducible exact ih0 _ _ _ _ _)
      | (with_reducible exact LeO.refl _)
      | (with_reducible exact LeO.none _)
      | (with_reducible refine LeO.ite ?_ ?_)
      | (with_reducible refine LeO.bind ?_ (fun _ => ?_))
      | exact ih0 _ _ _ _ _
      | exact LeO.none _
      | refine LeO.ite ?_ ?_
      | refine LeO.bind ?_ (fun _ => ?_)
theorem bywashbook_markInts.mono : ∀ a0 a1 a2 k, LeO (bywashbook_markInts.f k a0 a1 a2) (bywashbook_markInts.f (k + 1) a0 a1 a2) := by
  intro a0 a1 a2 k
  have ih0 := bywashbook_markInts.mono_l k
  unfold bywashbook_markInts.f
  repeat' first
      | (with_reducible exact ih0 _ _ _ _ _)
      | (with_reducible exact LeO.refl _)
      | (with_reducible exact LeO.none _)
      | (with_reducible refine LeO.ite ?_ ?_)
      | (with_reducible refine LeO.bind ?_ (fun _ => ?_))
      | exact ih0 _ _ _ _ _
      | exact LeO.none _
      | refine LeO.ite ?_ ?_
      | refine LeO.bind ?_ (fun _ => ?_)
set_option maxHeartbeats 8000000 in
set_option maxRecDepth 100000 in
theorem bywashbook_markInts.calls (k : Nat) (a0 : Int) (a1 : Int) (a2 : Int) (r : List Int) (w : World) (h : bywashbook_markInts.f k a0 a1 a2 = some r) :
    Calls Try.prog 86 #[.int .i64 a0, .int .i64 a1, .int .i64 a2] w fun e w' => ∃ v0_ : Value, e = .returned (v0_) ∧ Kd.R (Kd.int .i64) 3 w' w.heap.size (fun _ => True) v0_ r ∧ Below w.heap.size w w' := by
  have HB := Aside0.mk (Below.refl w.heap.size w)
  have H : (bywashbook_markInts.l0 k a0 a1 a2 ([] : List Int) a1) = some r := h
  clear h
  have H' := Aside0.mk H
  clear H
  go_enter Try.func86, Try.ntmps86
  go_wp2
  go_loopg [7, 8] k (fun kq v7 v8 w' => ∃ (x7_1 : List Int) (x8_1 : Int), v8 = .int .i64 x8_1 ∧ Aside0 (bywashbook_markInts.l0 kq a0 a1 a2 x7_1 x8_1 = some r) ∧ Aside0 (kq ≤ k) ∧ Aside0 (Kd.R (Kd.int .i64) 3 w' w.heap.size (fun _ => True) v7 x7_1) ∧ Aside0 (Below w.heap.size w w'))
  case atStart => exact ⟨(([] : List Int)), (a1), (by first | rfl | (simp; done) | (simp [*]; done)), H', ⟨Nat.le_refl _⟩, ⟨by first | exact Kd.R_nil _ _ _ _ _ | exact Kd.N_nil _ _ _ _ _ | exact Kd.V_nil _ _ _ _ _ | exact Kd.Q_nil _ _ _ _ _ | exact Kd.S_nil _ _ _ _ _⟩, ⟨by repeat (first | (with_reducible first | exact HB.out | apply below_alloc | apply pw_below_drewN | apply below_drew1) | exact HB.out)⟩⟩
  case round =>
    clear H'
    try clear p2
    obtain ⟨x7_1, x8_1, rfl, HA, HK1, HO_7, HB⟩ := hrel
    cases gk with
    | zero => exact absurd HA.out (by simp [bywashbook_markInts.l0])
    | succ k1 =>
      have H := HA.out
      clear HA
      simp only [bywashbook_markInts.l0] at H
      by_cases c4 : x8_1 < (wrap64 (a1 + a2))
      · rw [if_pos c4] at H
        have c4b0 : decide (x8_1 < (wrap64 (a1 + a2))) = true := decide_eq_true c4
        clear c4
        by_cases c5 : x7_1.length < 17592186044416
        · rw [if_pos c5] at H
          have LMc5 := Aside0.mk c5
          clear c5
          obtain ⟨y143, hy143⟩ : ∃ y_ : List Int, y_ = (x7_1 ++ [wrap64 ((wrap64 ((wrap64 ((-1000000) * a0)) - x8_1)) - 7)]) := ⟨_, rfl⟩
          replace H : (bywashbook_markInts.l0 k1 a0 a1 a2 y143 (wrap64 (x8_1 + 1))) = some r := by first | (rw [hy143]; with_reducible exact H) | (have H2_ := (Option.bind_some _ _).symm.trans H; rw [hy143]; with_reducible exact H2_) | (have H2_ := (Option.bind_some _ _).symm.trans H; with_reducible exact H2_) | with_reducible exact H | (rw [hy143]; exact H) | exact H
          have Ny143 := Aside0.mk hy143
          clear hy143
          have H' := Aside0.mk H
          clear H
          go_wp2_with (first | ((with_reducible refine gate_builtin (b := .append) (xs := #[.tmp 17, .tmp 23]) rfl ?_); at_builtin; refine Kd.R_append (Kd.int .i64) (w0 := w) w.heap.size rfl (.tmp 17) (.tmp 23) 33 3 (.int .i64 0) 8 rfl Try.underlying33 info3 rfl (by decide) (by omega) u7 x7_1 (wrap64 ((wrap64 ((wrap64 ((-1000000) * a0)) - x8_1)) - 7)) [.int .i64 (wrap64 ((wrap64 ((wrap64 ((-1000000) * a0)) - x8_1)) - 7))] (fun _ => True) (fun _ => False) rfl rfl ?aP (fun _ hk => hk.elim) ?aF ?aO ?aB ?aS ?aL ?_; (case aP => exact rfl); (case aB => exact (by repeat (first | (with_reducible first | exact HB.out | apply below_alloc | apply pw_below_drewN | apply below_drew1) | exact HB.out))); (case aF => exact (fun _ _ => trivial)); (case aO => exact (by (with_reducible repeat (first | apply Kd.R_alloc | apply Kd.R_drewN | apply Kd.R_drew)); exact HO_7.out)); (case aS => exact (below_size (by repeat (first | (with_reducible first | exact HB.out | apply below_alloc | apply pw_below_drewN | apply below_drew1) | exact HB.out)))); (case aL => have := LMc5.out; omega); intro v144 w6 ho hb hg hat; rw [← Ny143.out] at ho; have n0_ := Aside0.mk (hb); have n1_ := Aside0.mk (ho); clear HB; clear HO_7; have HB := n0_; have HO145 := n1_; clear n0_ n1_; clear ho hb hg hat))
          go_roundg k1
          case measure => have := HK1.out; omega
          case rel => exact ⟨(y143), (wrap64 (x8_1 + 1)), (by first | rfl | (simp; done) | (simp [*]; done)), H', ⟨by have := HK1.out; omega⟩, ⟨by (with_reducible repeat (first | apply Kd.R_alloc | apply Kd.R_drewN | apply Kd.R_drew)); exact HO145.out⟩, ⟨by repeat (first | (with_reducible first | exact HB.out | apply below_alloc | apply pw_below_drewN | apply below_drew1) | exact HB.out)⟩⟩
        · rw [if_neg c5] at H
          exact absurd H (by simp)
      · rw [if_neg c4] at H
        have c4b0 : decide (x8_1 < (wrap64 (a1 + a2))) = false := decide_eq_false c4
        clear c4
        obtain rfl := Option.some.inj H
        go_wp2
        go_ret
        exact ⟨_, by first | rfl | (simp [errW_none, errW_some] <;> rfl) | (simp [*, errW_none, errW_some] <;> rfl), by (with_reducible repeat (first | apply Kd.R_alloc | apply Kd.R_drewN | apply Kd.R_drew)); exact HO_7.out, by repeat (first | (with_reducible first | exact HB.out | apply below_alloc | apply pw_below_drewN | apply below_drew1) | exact HB.out)⟩

-- NOT PRINTED: function 54 (bywashbook_Book_putInts)

/-! ### bywashbook_name: function 95 -/
def bywashbook_name.f (a0 : Int) (a1 : Int) : Option (ByteArray) := some (strOfNums (([109, (wrap64 (65 + (Int.tmod a0 26))) % 256, (wrap64 (65 + (Int.tmod (wrap64 (Int.tdiv a0 26)) 26))) % 256, (wrap64 (48 + (Int.tmod a1 10))) % 256, (wrap64 (48 + (Int.tmod (wrap64 (Int.tdiv a1 10)) 10))) % 256, (wrap64 (48 + (Int.tmod (wrap64 (Int.tdiv a1 100)) 10))) % 256] : List Int)))
set_option maxHeartbeats 8000000 in
set_option maxRecDepth 100000 in
theorem bywashbook_name.calls (a0 : Int) (a1 : Int) (r : ByteArray) (w : World) (h : bywashbook_name.f a0 a1 = some r) :
    Calls Try.prog 95 #[.int .i64 a0, .int .i64 a1] w fun e w' => e = .returned (.string r) ∧ Below w.heap.size w w' := by
  have HB := Aside0.mk (Below.refl w.heap.size w)
  have H : (some (strOfNums (([109, (wrap64 (65 + (Int.tmod a0 26))) % 256, (wrap64 (65 + (Int.tmod (wrap64 (Int.tdiv a0 26)) 26))) % 256, (wrap64 (48 + (Int.tmod a1 10))) % 256, (wrap64 (48 + (Int.tmod (wrap64 (Int.tdiv a1 10)) 10))) % 256, (wrap64 (48 + (Int.tmod (wrap64 (Int.tdiv a1 100)) 10))) % 256] : List Int)))) = some r := h
  clear h
  obtain ⟨y152, hy152⟩ : ∃ y_ : List Int, y_ = (([109, (wrap64 (65 + (Int.tmod a0 26))) % 256, (wrap64 (65 + (Int.tmod (wrap64 (Int.tdiv a0 26)) 26))) % 256, (wrap64 (48 + (Int.tmod a1 10))) % 256, (wrap64 (48 + (Int.tmod (wrap64 (Int.tdiv a1 10)) 10))) % 256, (wrap64 (48 + (Int.tmod (wrap64 (Int.tdiv a1 100)) 10))) % 256] : List Int)) := ⟨_, rfl⟩
  replace H : (some (strOfNums y152)) = some r := by first | (rw [hy152]; with_reducible exact H) | (have H2_ := (Option.bind_some _ _).symm.trans H; rw [hy152]; with_reducible exact H2_) | (have H2_ := (Option.bind_some _ _).symm.trans H; with_reducible exact H2_) | with_reducible exact H | (rw [hy152]; exact H) | exact H
  have Ny152 := Aside0.mk hy152
  clear hy152
  obtain rfl := Option.some.inj H
  go_enter Try.func95, Try.ntmps95
  go_wp2_with (first | ((with_reducible refine gate_dst (N := 28) rfl ?_); refine Kd.R_lit (Kd.int .u8) _ 5 ?hg (N := 28) ?hd (xs := ([109, (wrap64 (65 + (Int.tmod a0 26))) % 256, (wrap64 (65 + (Int.tmod (wrap64 (Int.tdiv a0 26)) 26))) % 256, (wrap64 (48 + (Int.tmod a1 10))) % 256, (wrap64 (48 + (Int.tmod (wrap64 (Int.tdiv a1 10)) 10))) % 256, (wrap64 (48 + (Int.tmod (wrap64 (Int.tdiv a1 100)) 10))) % 256] : List Int)) (inner := [.int .u8 109, .int .u8 ((wrap64 (65 + (Int.tmod a0 26))) % 256), .int .u8 ((wrap64 (65 + (Int.tmod (wrap64 (Int.tdiv a0 26)) 26))) % 256), .int .u8 ((wrap64 (48 + (Int.tmod a1 10))) % 256), .int .u8 ((wrap64 (48 + (Int.tmod (wrap64 (Int.tdiv a1 10)) 10))) % 256), .int .u8 ((wrap64 (48 + (Int.tmod (wrap64 (Int.tdiv a1 100)) 10))) % 256)]) (ok := fun _ => True) (okp := fun _ => True) ?hr ?hp (fun _ hk => hk) trivial (Below.refl _ _) (Nat.le_refl _) (by simp) ?_; (case hd => rfl); (case hg => rfl); (case hr => first | (go_simp; done) | (go_simp; rfl)); (case hp => exact (Reps.one (show Kd.M (Kd.int .u8) _ _ _ 109 [.int .u8 109] from rfl) (Reps.one (show Kd.M (Kd.int .u8) _ _ _ ((wrap64 (65 + (Int.tmod a0 26))) % 256) [.int .u8 ((wrap64 (65 + (Int.tmod a0 26))) % 256)] from rfl) (Reps.one (show Kd.M (Kd.int .u8) _ _ _ ((wrap64 (65 + (Int.tmod (wrap64 (Int.tdiv a0 26)) 26))) % 256) [.int .u8 ((wrap64 (65 + (Int.tmod (wrap64 (Int.tdiv a0 26)) 26))) % 256)] from rfl) (Reps.one (show Kd.M (Kd.int .u8) _ _ _ ((wrap64 (48 + (Int.tmod a1 10))) % 256) [.int .u8 ((wrap64 (48 + (Int.tmod a1 10))) % 256)] from rfl) (Reps.one (show Kd.M (Kd.int .u8) _ _ _ ((wrap64 (48 + (Int.tmod (wrap64 (Int.tdiv a1 10)) 10))) % 256) [.int .u8 ((wrap64 (48 + (Int.tmod (wrap64 (Int.tdiv a1 10)) 10))) % 256)] from rfl) (Reps.one (show Kd.M (Kd.int .u8) _ _ _ ((wrap64 (48 + (Int.tmod (wrap64 (Int.tdiv a1 100)) 10))) % 256) [.int .u8 ((wrap64 (48 + (Int.tmod (wrap64 (Int.tdiv a1 100)) 10))) % 256)] from rfl) (Reps.none _ _)))))))); intro v153 w3 ho4 hb hg_ hnew_; clear hg_ hnew_; (first | rw [← Ny152.out] at ho4 | (simp only [Int.reduceToNat] at ho4; rw [← Ny152.out] at ho4)); have n0_ := Aside0.mk (Kd.R_lower ho4 (below_size (by repeat (first | (with_reducible first | exact HB.out | apply below_alloc | apply pw_below_drewN | apply below_drew1) | exact HB.out)))); have n1_ := Aside0.mk (below_step (by repeat (first | (with_reducible first | exact HB.out | apply below_alloc | apply pw_below_drewN | apply below_drew1) | exact HB.out)) hb); clear HB; have HO154 := n0_; have HB := n1_; clear n0_ n1_; clear hb ho4; have hcv5 := own_string (P := Try.prog) Try.underlying66 Try.underlying5 Try.underlying9 (Kd.own_of_R HO154.out); have hcv6 := fun n_ => own_string (P := Try.prog) Try.underlying66 Try.underlying5 Try.underlying9 (Kd.own_of_R (Kd.R_drewN HO154.out n_))))
  go_ret
  exact ⟨by first | rfl | (simp [errW_none, errW_some] <;> rfl) | (simp [*, errW_none, errW_some] <;> rfl), by repeat (first | (with_reducible first | exact HB.out | apply below_alloc | apply pw_below_drewN | apply below_drew1) | exact HB.out)⟩

/-! ### bywashbook_markTexts: function 87 -/
def bywashbook_markTexts.l0 : Nat → Int → Int → Int → List ByteArray → Int → Option (List ByteArray)
  | 0, _, _, _, _, _ => none
  | k + 1, x0, x1, x2, x7, x8 => if x8 < (wrap64 (x1 + x2)) then ((bywashbook_name.f x0 x8).bind fun t155 => (if x7.length < 8796093022208 then (bywashbook_markTexts.l0 k x0 x1 x2 (x7 ++ [t155]) (wrap64 (x8 + 1))) else (none))) else (some x7)
def bywashbook_markTexts.f (k : Nat) (a0 : Int) (a1 : Int) (a2 : Int) : Option (List ByteArray) := bywashbook_markTexts.l0 k a0 a1 a2 ([] : List ByteArray) a1
theorem bywashbook_markTexts.mono_l : ∀ k, (∀ y0 y1 y2 y3 y4, LeO (bywashbook_markTexts.l0 k y0 y1 y2 y3 y4) (bywashbook_markTexts.l0 (k + 1) y0 y1 y2 y3 y4))
  | 0 => fun _ _ _ _ _ r h => by simp [bywashbook_markTexts.l0] at h
  | k + 1 => by
    have ih0 := bywashbook_markTexts.mono_l k
    · intro y0 y1 y2 y3 y4
      unfold bywashbook_markTexts.l0
      repeat' first
      | (with_reducible exact ih0 _ _ _ _ _)
      | (with_reducible exact LeO.refl _)
      | (with_reducible exact LeO.none _)
      | (with_reducible refine LeO.ite ?_ ?_)
      | (with_reducible refine LeO.bind ?_ (fun _ => ?_))
      | exact ih0 _ _ _ _ _
      | exact LeO.none _
      | refine LeO.ite ?_ ?_
      | refine LeO.bind ?_ (fun _ => ?_)
theorem bywashbook_markTexts.mono : ∀ a0 a1 a2 k, LeO (bywashbook_markTexts.f k a0 a1 a2) (bywashbook_markTexts.f (k + 1) a0 a1 a2) := by
  intro a0 a1 a2 k
  have ih0 := bywashbook_markTexts.mono_l k
  unfold bywashbook_markTexts.f
  repeat' first
      | (with_reducible exact ih0 _ _ _ _ _)
      | (with_reducible exact LeO.refl _)
      | (with_reducible exact LeO.none _)
      | (with_reducible refine LeO.ite ?_ ?_)
      | (with_reducible refine LeO.bind ?_ (fun _ => ?_))
      | exact ih0 _ _ _ _ _
      | exact LeO.none _
      | refine LeO.ite ?_ ?_
      | refine LeO.bind ?_ (fun _ => ?_)
set_option maxHeartbeats 8000000 in
set_option maxRecDepth 100000 in
theorem bywashbook_markTexts.calls (k : Nat) (a0 : Int) (a1 : Int) (a2 : Int) (r : List ByteArray) (w : World) (h : bywashbook_markTexts.f k a0 a1 a2 = some r) :
    Calls Try.prog 87 #[.int .i64 a0, .int .i64 a1, .int .i64 a2] w fun e w' => ∃ v0_ : Value, e = .returned (v0_) ∧ Kd.R Kd.string 9 w' w.heap.size (fun _ => True) v0_ r ∧ Below w.heap.size w w' := by
  have HB := Aside0.mk (Below.refl w.heap.size w)
  have H : (bywashbook_markTexts.l0 k a0 a1 a2 ([] : List ByteArray) a1) = some r := h
  clear h
  have H' := Aside0.mk H
  clear H
  go_enter Try.func87, Try.ntmps87
  go_wp2
  go_loopg [7, 8] k (fun kq v7 v8 w' => ∃ (x7_1 : List ByteArray) (x8_1 : Int), v8 = .int .i64 x8_1 ∧ Aside0 (bywashbook_markTexts.l0 kq a0 a1 a2 x7_1 x8_1 = some r) ∧ Aside0 (kq ≤ k) ∧ Aside0 (Kd.R Kd.string 9 w' w.heap.size (fun _ => True) v7 x7_1) ∧ Aside0 (Below w.heap.size w w'))
  case atStart => exact ⟨(([] : List ByteArray)), (a1), (by first | rfl | (simp; done) | (simp [*]; done)), H', ⟨Nat.le_refl _⟩, ⟨by first | exact Kd.R_nil _ _ _ _ _ | exact Kd.N_nil _ _ _ _ _ | exact Kd.V_nil _ _ _ _ _ | exact Kd.Q_nil _ _ _ _ _ | exact Kd.S_nil _ _ _ _ _⟩, ⟨by repeat (first | (with_reducible first | exact HB.out | apply below_alloc | apply pw_below_drewN | apply below_drew1) | exact HB.out)⟩⟩
  case round =>
    clear H'
    try clear p2
    obtain ⟨x7_1, x8_1, rfl, HA, HK1, HO_7, HB⟩ := hrel
    cases gk with
    | zero => exact absurd HA.out (by simp [bywashbook_markTexts.l0])
    | succ k1 =>
      have H := HA.out
      clear HA
      simp only [bywashbook_markTexts.l0] at H
      by_cases c4 : x8_1 < (wrap64 (a1 + a2))
      · rw [if_pos c4] at H
        have c4b0 : decide (x8_1 < (wrap64 (a1 + a2))) = true := decide_eq_true c4
        clear c4
        replace H := Option.bind_eq_some_iff.mp H
        obtain ⟨t155, A50, H⟩ := H
        replace H : (if x7_1.length < 8796093022208 then (bywashbook_markTexts.l0 k1 a0 a1 a2 (x7_1 ++ [t155]) (wrap64 (x8_1 + 1))) else (none)) = some r := H
        have A5 := Aside0.mk A50
        clear A50
        by_cases c6 : x7_1.length < 8796093022208
        · rw [if_pos c6] at H
          have LMc6 := Aside0.mk c6
          clear c6
          obtain ⟨y156, hy156⟩ : ∃ y_ : List ByteArray, y_ = (x7_1 ++ [t155]) := ⟨_, rfl⟩
          replace H : (bywashbook_markTexts.l0 k1 a0 a1 a2 y156 (wrap64 (x8_1 + 1))) = some r := by first | (rw [hy156]; with_reducible exact H) | (have H2_ := (Option.bind_some _ _).symm.trans H; rw [hy156]; with_reducible exact H2_) | (have H2_ := (Option.bind_some _ _).symm.trans H; with_reducible exact H2_) | with_reducible exact H | (rw [hy156]; exact H) | exact H
          have Ny156 := Aside0.mk hy156
          clear hy156
          have H' := Aside0.mk H
          clear H
          go_wp2_with (first | ((with_reducible refine gate_callee (f := 95) rfl ?_); refine goesL_ (some 20) rfl rfl Try.func95 (by kernel_rfl) rfl #[.int .i64 a0, .int .i64 x8_1] rfl (by (try simp only [List.map_toArray, List.map_cons, List.map_nil]); first | done | rfl | (simp only [List.length_drop, List.length_take]; rfl)) ?_; (with_reducible refine (bywashbook_name.calls a0 x8_1 t155 _ A5.out).mono ?_); rintro e w7 ⟨rfl, hb⟩; refine ⟨_, rfl, ?_⟩; have n0_ := Aside0.mk (Kd.R_below (by (with_reducible repeat (first | apply Kd.R_alloc | apply Kd.R_drewN | apply Kd.R_drew)); exact HO_7.out) hb); have n1_ := Aside0.mk (below_step (by repeat (first | (with_reducible first | exact HB.out | apply below_alloc | apply pw_below_drewN | apply below_drew1) | exact HB.out)) hb); clear HO_7; clear HB; have HO_7 := n0_; have HB := n1_; clear n0_ n1_; (try clear hb); (try clear hb2); (try clear hk); (try clear hi)) | ((with_reducible refine gate_builtin (b := .append) (xs := #[.tmp 17, .tmp 21]) rfl ?_); at_builtin; refine Kd.R_append Kd.string (w0 := w) w.heap.size rfl (.tmp 17) (.tmp 21) 104 9 (.string ⟨#[]⟩) 16 rfl Try.underlying104 info9 rfl (by decide) (by omega) u7 x7_1 t155 [.string t155] (fun _ => True) (fun _ => False) rfl rfl ?aP (fun _ hk => hk.elim) ?aF ?aO ?aB ?aS ?aL ?_; (case aP => exact rfl); (case aB => exact (by repeat (first | (with_reducible first | exact HB.out | apply below_alloc | apply pw_below_drewN | apply below_drew1) | exact HB.out))); (case aF => exact (fun _ _ => trivial)); (case aO => exact (by (with_reducible repeat (first | apply Kd.R_alloc | apply Kd.R_drewN | apply Kd.R_drew)); exact HO_7.out)); (case aS => exact (below_size (by repeat (first | (with_reducible first | exact HB.out | apply below_alloc | apply pw_below_drewN | apply below_drew1) | exact HB.out)))); (case aL => have := LMc6.out; omega); intro v157 w8 ho hb hg hat; rw [← Ny156.out] at ho; have n0_ := Aside0.mk (hb); have n1_ := Aside0.mk (ho); clear HB; clear HO_7; have HB := n0_; have HO158 := n1_; clear n0_ n1_; clear ho hb hg hat))
          go_roundg k1
          case measure => have := HK1.out; omega
          case rel => exact ⟨(y156), (wrap64 (x8_1 + 1)), (by first | rfl | (simp; done) | (simp [*]; done)), H', ⟨by have := HK1.out; omega⟩, ⟨by (with_reducible repeat (first | apply Kd.R_alloc | apply Kd.R_drewN | apply Kd.R_drew)); exact HO158.out⟩, ⟨by repeat (first | (with_reducible first | exact HB.out | apply below_alloc | apply pw_below_drewN | apply below_drew1) | exact HB.out)⟩⟩
        · rw [if_neg c6] at H
          exact absurd H (by simp)
      · rw [if_neg c4] at H
        have c4b0 : decide (x8_1 < (wrap64 (a1 + a2))) = false := decide_eq_false c4
        clear c4
        obtain rfl := Option.some.inj H
        go_wp2
        go_ret
        exact ⟨_, by first | rfl | (simp [errW_none, errW_some] <;> rfl) | (simp [*, errW_none, errW_some] <;> rfl), by (with_reducible repeat (first | apply Kd.R_alloc | apply Kd.R_drewN | apply Kd.R_drew)); exact HO_7.out, by repeat (first | (with_reducible first | exact HB.out | apply below_alloc | apply pw_below_drewN | apply below_drew1) | exact HB.out)⟩

-- NOT PRINTED: function 55 (bywashbook_Book_putTexts)

/-! ### bywashbook_markFields: function 88 -/
def bywashbook_markFields.l0 : Nat → Int → Int → Int → List (S54) → Int → Option ((List (S54)))
  | 0, _, _, _, _, _ => none
  | k + 1, x0, x1, x2, x7, x8 => if x8 < (wrap64 (x1 + x2)) then ((bywashbook_name.f x0 x8).bind fun t165 => (if x7.length < 4398046511104 then (bywashbook_markFields.l0 k x0 x1 x2 (x7 ++ [(⟨t165, (⟨#[]⟩ : ByteArray)⟩ : S54)]) (wrap64 (x8 + 1))) else (none))) else (some x7)
def bywashbook_markFields.f (k : Nat) (a0 : Int) (a1 : Int) (a2 : Int) : Option ((List (S54))) := bywashbook_markFields.l0 k a0 a1 a2 ([] : List (S54)) a1
theorem bywashbook_markFields.mono_l : ∀ k, (∀ y0 y1 y2 y3 y4, LeO (bywashbook_markFields.l0 k y0 y1 y2 y3 y4) (bywashbook_markFields.l0 (k + 1) y0 y1 y2 y3 y4))
  | 0 => fun _ _ _ _ _ r h => by simp [bywashbook_markFields.l0] at h
  | k + 1 => by
    have ih0 := bywashbook_markFields.mono_l k
    · intro y0 y1 y2 y3 y4
      unfold bywashbook_markFields.l0
      repeat' first
      | (with_reducible exact ih0 _ _ _ _ _)
      | (with_reducible exact LeO.refl _)
      | (with_reducible exact LeO.none _)
      | (with_reducible refine LeO.ite ?_ ?_)
      | (with_reducible refine LeO.bind ?_ (fun _ => ?_))
      | exact ih0 _ _ _ _ _
      | exact LeO.none _
      | refine LeO.ite ?_ ?_
      | refine LeO.bind ?_ (fun _ => ?_)
theorem bywashbook_markFields.mono : ∀ a0 a1 a2 k, LeO (bywashbook_markFields.f k a0 a1 a2) (bywashbook_markFields.f (k + 1) a0 a1 a2) := by
  intro a0 a1 a2 k
  have ih0 := bywashbook_markFields.mono_l k
  unfold bywashbook_markFields.f
  repeat' first
      | (with_reducible exact ih0 _ _ _ _ _)
      | (with_reducible exact LeO.refl _)
      | (with_reducible exact LeO.none _)
      | (with_reducible refine LeO.ite ?_ ?_)
      | (with_reducible refine LeO.bind ?_ (fun _ => ?_))
      | exact ih0 _ _ _ _ _
      | exact LeO.none _
      | refine LeO.ite ?_ ?_
      | refine LeO.bind ?_ (fun _ => ?_)
set_option maxHeartbeats 8000000 in
set_option maxRecDepth 100000 in
theorem bywashbook_markFields.calls (k : Nat) (a0 : Int) (a1 : Int) (a2 : Int) (r : List (S54)) (w : World) (h : bywashbook_markFields.f k a0 a1 a2 = some r) :
    Calls Try.prog 88 #[.int .i64 a0, .int .i64 a1, .int .i64 a2] w fun e w' => ∃ v0_ : Value, e = .returned (v0_) ∧ Kd.R k54 54 w' w.heap.size (fun _ => True) v0_ r ∧ Below w.heap.size w w' := by
  have hu54 := Try.underlying54
  have HB := Aside0.mk (Below.refl w.heap.size w)
  have H : (bywashbook_markFields.l0 k a0 a1 a2 ([] : List (S54)) a1) = some r := h
  clear h
  have H' := Aside0.mk H
  clear H
  go_enter Try.func88, Try.ntmps88
  go_wp2
  go_loopg [7, 8] k (fun kq v7 v8 w' => ∃ (x7_1 : List (S54)) (x8_1 : Int), v8 = .int .i64 x8_1 ∧ Aside0 (bywashbook_markFields.l0 kq a0 a1 a2 x7_1 x8_1 = some r) ∧ Aside0 (kq ≤ k) ∧ Aside0 (Kd.R k54 54 w' w.heap.size (fun _ => True) v7 x7_1) ∧ Aside0 (Below w.heap.size w w'))
  case atStart => exact ⟨(([] : List (S54))), (a1), (by first | rfl | (simp; done) | (simp [*]; done)), H', ⟨Nat.le_refl _⟩, ⟨by first | exact Kd.R_nil _ _ _ _ _ | exact Kd.N_nil _ _ _ _ _ | exact Kd.V_nil _ _ _ _ _ | exact Kd.Q_nil _ _ _ _ _ | exact Kd.S_nil _ _ _ _ _⟩, ⟨by repeat (first | (with_reducible first | exact HB.out | apply below_alloc | apply pw_below_drewN | apply below_drew1) | exact HB.out)⟩⟩
  case round =>
    clear H'
    try clear p2
    obtain ⟨x7_1, x8_1, rfl, HA, HK1, HO_7, HB⟩ := hrel
    cases gk with
    | zero => exact absurd HA.out (by simp [bywashbook_markFields.l0])
    | succ k1 =>
      have H := HA.out
      clear HA
      simp only [bywashbook_markFields.l0] at H
      by_cases c4 : x8_1 < (wrap64 (a1 + a2))
      · rw [if_pos c4] at H
        have c4b0 : decide (x8_1 < (wrap64 (a1 + a2))) = true := decide_eq_true c4
        clear c4
        replace H := Option.bind_eq_some_iff.mp H
        obtain ⟨t165, A50, H⟩ := H
        replace H : (if x7_1.length < 4398046511104 then (bywashbook_markFields.l0 k1 a0 a1 a2 (x7_1 ++ [(⟨t165, (⟨#[]⟩ : ByteArray)⟩ : S54)]) (wrap64 (x8_1 + 1))) else (none)) = some r := H
        have A5 := Aside0.mk A50
        clear A50
        by_cases c6 : x7_1.length < 4398046511104
        · rw [if_pos c6] at H
          have LMc6 := Aside0.mk c6
          clear c6
          obtain ⟨y166, hy166⟩ : ∃ y_ : List (S54), y_ = (x7_1 ++ [(⟨t165, (⟨#[]⟩ : ByteArray)⟩ : S54)]) := ⟨_, rfl⟩
          replace H : (bywashbook_markFields.l0 k1 a0 a1 a2 y166 (wrap64 (x8_1 + 1))) = some r := by first | (rw [hy166]; with_reducible exact H) | (have H2_ := (Option.bind_some _ _).symm.trans H; rw [hy166]; with_reducible exact H2_) | (have H2_ := (Option.bind_some _ _).symm.trans H; with_reducible exact H2_) | with_reducible exact H | (rw [hy166]; exact H) | exact H
          have Ny166 := Aside0.mk hy166
          clear hy166
          have H' := Aside0.mk H
          clear H
          go_wp2_with (first | ((with_reducible refine gate_callee (f := 95) rfl ?_); refine goesL_ (some 20) rfl rfl Try.func95 (by kernel_rfl) rfl #[.int .i64 a0, .int .i64 x8_1] rfl (by (try simp only [List.map_toArray, List.map_cons, List.map_nil]); first | done | rfl | (simp only [List.length_drop, List.length_take]; rfl)) ?_; (with_reducible refine (bywashbook_name.calls a0 x8_1 t165 _ A5.out).mono ?_); rintro e w7 ⟨rfl, hb⟩; refine ⟨_, rfl, ?_⟩; have n0_ := Aside0.mk (Kd.R_below (by (with_reducible repeat (first | apply Kd.R_alloc | apply Kd.R_drewN | apply Kd.R_drew)); exact HO_7.out) hb); have n1_ := Aside0.mk (below_step (by repeat (first | (with_reducible first | exact HB.out | apply below_alloc | apply pw_below_drewN | apply below_drew1) | exact HB.out)) hb); clear HO_7; clear HB; have HO_7 := n0_; have HB := n1_; clear n0_ n1_; (try clear hb); (try clear hb2); (try clear hk); (try clear hi)) | ((with_reducible refine gate_builtin (b := .append) (xs := #[.tmp 17, .tmp 22]) rfl ?_); at_builtin; refine Kd.R_append k54 (w0 := w) w.heap.size rfl (.tmp 17) (.tmp 22) 50 54 (.agg #[(.string ⟨#[]⟩), (.string ⟨#[]⟩)]) 32 rfl Try.underlying50 info54 rfl (by decide) (by omega) u7 x7_1 (⟨t165, (⟨#[]⟩ : ByteArray)⟩ : S54) [.string t165, .string (⟨#[]⟩ : ByteArray)] (fun _ => True) (fun _ => False) rfl rfl ?aP (fun _ hk => hk.elim) ?aF ?aO ?aB ?aS ?aL ?_; (case aP => exact k54_mkM _ _ _ (⟨t165, (⟨#[]⟩ : ByteArray)⟩ : S54)); (case aB => exact (by repeat (first | (with_reducible first | exact HB.out | apply below_alloc | apply pw_below_drewN | apply below_drew1) | exact HB.out))); (case aF => exact (fun _ _ => trivial)); (case aO => exact (by (with_reducible repeat (first | apply Kd.R_alloc | apply Kd.R_drewN | apply Kd.R_drew)); exact HO_7.out)); (case aS => exact (below_size (by repeat (first | (with_reducible first | exact HB.out | apply below_alloc | apply pw_below_drewN | apply below_drew1) | exact HB.out)))); (case aL => have := LMc6.out; omega); intro v167 w8 ho hb hg hat; rw [← Ny166.out] at ho; have n0_ := Aside0.mk (hb); have n1_ := Aside0.mk (ho); clear HB; clear HO_7; have HB := n0_; have HO168 := n1_; clear n0_ n1_; clear ho hb hg hat))
          go_roundg k1
          case measure => have := HK1.out; omega
          case rel => exact ⟨(y166), (wrap64 (x8_1 + 1)), (by first | rfl | (simp; done) | (simp [*]; done)), H', ⟨by have := HK1.out; omega⟩, ⟨by (with_reducible repeat (first | apply Kd.R_alloc | apply Kd.R_drewN | apply Kd.R_drew)); exact HO168.out⟩, ⟨by repeat (first | (with_reducible first | exact HB.out | apply below_alloc | apply pw_below_drewN | apply below_drew1) | exact HB.out)⟩⟩
        · rw [if_neg c6] at H
          exact absurd H (by simp)
      · rw [if_neg c4] at H
        have c4b0 : decide (x8_1 < (wrap64 (a1 + a2))) = false := decide_eq_false c4
        clear c4
        obtain rfl := Option.some.inj H
        go_wp2
        go_ret
        exact ⟨_, by first | rfl | (simp [errW_none, errW_some] <;> rfl) | (simp [*, errW_none, errW_some] <;> rfl), by (with_reducible repeat (first | apply Kd.R_alloc | apply Kd.R_drewN | apply Kd.R_drew)); exact HO_7.out, by repeat (first | (with_reducible first | exact HB.out | apply below_alloc | apply pw_below_drewN | apply below_drew1) | exact HB.out)⟩

-- NOT PRINTED: function 56 (bywashbook_Book_putFields)

/-! ### bywashbook_markFrames: function 89 -/
def bywashbook_markFrames.l0 : Nat → Int → Int → Int → List (S114) → Int → Option ((List (S114)))
  | 0, _, _, _, _, _ => none
  | k + 1, x0, x1, x2, x7, x8 => if x8 < (wrap64 (x1 + x2)) then (if x7.length < 3518437208883 then (bywashbook_markFrames.l0 k x0 x1 x2 (x7 ++ [(⟨wrap64 ((wrap64 ((wrap64 ((-1000) * x0)) - x8)) - 1), 0, 0, (⟨#[]⟩ : ByteArray)⟩ : S114)]) (wrap64 (x8 + 1))) else (none)) else (some x7)
def bywashbook_markFrames.f (k : Nat) (a0 : Int) (a1 : Int) (a2 : Int) : Option ((List (S114))) := bywashbook_markFrames.l0 k a0 a1 a2 ([] : List (S114)) a1
theorem bywashbook_markFrames.mono_l : ∀ k, (∀ y0 y1 y2 y3 y4, LeO (bywashbook_markFrames.l0 k y0 y1 y2 y3 y4) (bywashbook_markFrames.l0 (k + 1) y0 y1 y2 y3 y4))
  | 0 => fun _ _ _ _ _ r h => by simp [bywashbook_markFrames.l0] at h
  | k + 1 => by
    have ih0 := bywashbook_markFrames.mono_l k
    · intro y0 y1 y2 y3 y4
      unfold bywashbook_markFrames.l0
      repeat' first
      | (with_reducible exact ih0 _ _ _ _ _)
      | (with_reducible exact LeO.refl _)
      | (with_reducible exact LeO.none _)
      | (with_reducible refine LeO.ite ?_ ?_)
      | (with_reducible refine LeO.bind ?_ (fun _ => ?_))
      | exact ih0 _ _ _ _ _
      | exact LeO.none _
      | refine LeO.ite ?_ ?_
      | refine LeO.bind ?_ (fun _ => ?_)
theorem bywashbook_markFrames.mono : ∀ a0 a1 a2 k, LeO (bywashbook_markFrames.f k a0 a1 a2) (bywashbook_markFrames.f (k + 1) a0 a1 a2) := by
  intro a0 a1 a2 k
  have ih0 := bywashbook_markFrames.mono_l k
  unfold bywashbook_markFrames.f
  repeat' first
      | (with_reducible exact ih0 _ _ _ _ _)
      | (with_reducible exact LeO.refl _)
      | (with_reducible exact LeO.none _)
      | (with_reducible refine LeO.ite ?_ ?_)
      | (with_reducible refine LeO.bind ?_ (fun _ => ?_))
      | exact ih0 _ _ _ _ _
      | exact LeO.none _
      | refine LeO.ite ?_ ?_
      | refine LeO.bind ?_ (fun _ => ?_)
set_option maxHeartbeats 8000000 in
set_option maxRecDepth 100000 in
theorem bywashbook_markFrames.calls (k : Nat) (a0 : Int) (a1 : Int) (a2 : Int) (r : List (S114)) (w : World) (h : bywashbook_markFrames.f k a0 a1 a2 = some r) :
    Calls Try.prog 89 #[.int .i64 a0, .int .i64 a1, .int .i64 a2] w fun e w' => ∃ v0_ : Value, e = .returned (v0_) ∧ Kd.R k114 114 w' w.heap.size (fun _ => True) v0_ r ∧ Below w.heap.size w w' := by
  have hu114 := Try.underlying114
  have HB := Aside0.mk (Below.refl w.heap.size w)
  have H : (bywashbook_markFrames.l0 k a0 a1 a2 ([] : List (S114)) a1) = some r := h
  clear h
  have H' := Aside0.mk H
  clear H
  go_enter Try.func89, Try.ntmps89
  go_wp2
  go_loopg [7, 8] k (fun kq v7 v8 w' => ∃ (x7_1 : List (S114)) (x8_1 : Int), v8 = .int .i64 x8_1 ∧ Aside0 (bywashbook_markFrames.l0 kq a0 a1 a2 x7_1 x8_1 = some r) ∧ Aside0 (kq ≤ k) ∧ Aside0 (Kd.R k114 114 w' w.heap.size (fun _ => True) v7 x7_1) ∧ Aside0 (Below w.heap.size w w'))
  case atStart => exact ⟨(([] : List (S114))), (a1), (by first | rfl | (simp; done) | (simp [*]; done)), H', ⟨Nat.le_refl _⟩, ⟨by first | exact Kd.R_nil _ _ _ _ _ | exact Kd.N_nil _ _ _ _ _ | exact Kd.V_nil _ _ _ _ _ | exact Kd.Q_nil _ _ _ _ _ | exact Kd.S_nil _ _ _ _ _⟩, ⟨by repeat (first | (with_reducible first | exact HB.out | apply below_alloc | apply pw_below_drewN | apply below_drew1) | exact HB.out)⟩⟩
  case round =>
    clear H'
    try clear p2
    obtain ⟨x7_1, x8_1, rfl, HA, HK1, HO_7, HB⟩ := hrel
    cases gk with
    | zero => exact absurd HA.out (by simp [bywashbook_markFrames.l0])
    | succ k1 =>
      have H := HA.out
      clear HA
      simp only [bywashbook_markFrames.l0] at H
      by_cases c4 : x8_1 < (wrap64 (a1 + a2))
      · rw [if_pos c4] at H
        have c4b0 : decide (x8_1 < (wrap64 (a1 + a2))) = true := decide_eq_true c4
        clear c4
        by_cases c5 : x7_1.length < 3518437208883
        · rw [if_pos c5] at H
          have LMc5 := Aside0.mk c5
          clear c5
          obtain ⟨y175, hy175⟩ : ∃ y_ : List (S114), y_ = (x7_1 ++ [(⟨wrap64 ((wrap64 ((wrap64 ((-1000) * a0)) - x8_1)) - 1), 0, 0, (⟨#[]⟩ : ByteArray)⟩ : S114)]) := ⟨_, rfl⟩
          replace H : (bywashbook_markFrames.l0 k1 a0 a1 a2 y175 (wrap64 (x8_1 + 1))) = some r := by first | (rw [hy175]; with_reducible exact H) | (have H2_ := (Option.bind_some _ _).symm.trans H; rw [hy175]; with_reducible exact H2_) | (have H2_ := (Option.bind_some _ _).symm.trans H; with_reducible exact H2_) | with_reducible exact H | (rw [hy175]; exact H) | exact H
          have Ny175 := Aside0.mk hy175
          clear hy175
          have H' := Aside0.mk H
          clear H
          go_wp2_with (first | ((with_reducible refine gate_builtin (b := .append) (xs := #[.tmp 17, .tmp 24]) rfl ?_); at_builtin; refine Kd.R_append k114 (w0 := w) w.heap.size rfl (.tmp 17) (.tmp 24) 106 114 (.agg #[(.int .i64 0), (.int .i64 0), (.int .i64 0), (.string ⟨#[]⟩)]) 40 rfl Try.underlying106 info114 rfl (by decide) (by omega) u7 x7_1 (⟨wrap64 ((wrap64 ((wrap64 ((-1000) * a0)) - x8_1)) - 1), 0, 0, (⟨#[]⟩ : ByteArray)⟩ : S114) [.int .i64 (wrap64 ((wrap64 ((wrap64 ((-1000) * a0)) - x8_1)) - 1)), .int .i64 0, .int .i64 0, .string (⟨#[]⟩ : ByteArray)] (fun _ => True) (fun _ => False) rfl rfl ?aP (fun _ hk => hk.elim) ?aF ?aO ?aB ?aS ?aL ?_; (case aP => exact k114_mkM _ _ _ (⟨wrap64 ((wrap64 ((wrap64 ((-1000) * a0)) - x8_1)) - 1), 0, 0, (⟨#[]⟩ : ByteArray)⟩ : S114)); (case aB => exact (by repeat (first | (with_reducible first | exact HB.out | apply below_alloc | apply pw_below_drewN | apply below_drew1) | exact HB.out))); (case aF => exact (fun _ _ => trivial)); (case aO => exact (by (with_reducible repeat (first | apply Kd.R_alloc | apply Kd.R_drewN | apply Kd.R_drew)); exact HO_7.out)); (case aS => exact (below_size (by repeat (first | (with_reducible first | exact HB.out | apply below_alloc | apply pw_below_drewN | apply below_drew1) | exact HB.out)))); (case aL => have := LMc5.out; omega); intro v176 w6 ho hb hg hat; rw [← Ny175.out] at ho; have n0_ := Aside0.mk (hb); have n1_ := Aside0.mk (ho); clear HB; clear HO_7; have HB := n0_; have HO177 := n1_; clear n0_ n1_; clear ho hb hg hat))
          go_roundg k1
          case measure => have := HK1.out; omega
          case rel => exact ⟨(y175), (wrap64 (x8_1 + 1)), (by first | rfl | (simp; done) | (simp [*]; done)), H', ⟨by have := HK1.out; omega⟩, ⟨by (with_reducible repeat (first | apply Kd.R_alloc | apply Kd.R_drewN | apply Kd.R_drew)); exact HO177.out⟩, ⟨by repeat (first | (with_reducible first | exact HB.out | apply below_alloc | apply pw_below_drewN | apply below_drew1) | exact HB.out)⟩⟩
        · rw [if_neg c5] at H
          exact absurd H (by simp)
      · rw [if_neg c4] at H
        have c4b0 : decide (x8_1 < (wrap64 (a1 + a2))) = false := decide_eq_false c4
        clear c4
        obtain rfl := Option.some.inj H
        go_wp2
        go_ret
        exact ⟨_, by first | rfl | (simp [errW_none, errW_some] <;> rfl) | (simp [*, errW_none, errW_some] <;> rfl), by (with_reducible repeat (first | apply Kd.R_alloc | apply Kd.R_drewN | apply Kd.R_drew)); exact HO_7.out, by repeat (first | (with_reducible first | exact HB.out | apply below_alloc | apply pw_below_drewN | apply below_drew1) | exact HB.out)⟩

-- NOT PRINTED: function 57 (bywashbook_Book_putFrames)

end Go.Proofs.Ytohphkdemonlkaa.XQt
