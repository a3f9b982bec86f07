/- QueueFull: printed by full.py. -/
import Derived.Test.YtohphkdemonlkaaQCuts
import Derived.Test.YtohphkdemonlkaaQWalk7
namespace Go.Proofs.Ytohphkdemonlkaa.Qw
open Go.RowKit Go.Proofs.Ytohphkdemonlkaa.XQt Go.Proofs.YtohphkdemonlkaaW.PrintWords Go.Proofs.YtohphkdemonlkaaW.PrintLast Go.Proofs.YtohphkdemonlkaaW.PrintMore Go.Proofs.Ytohphkdemonlkaa.Ob

def down : Nat → List Int
  | 0 => []
  | m + 1 => ((m : Int) + 1) :: down m
theorem down_len : ∀ m, (down m).length = m
  | 0 => rfl
  | m + 1 => by rw [down, List.length_cons, down_len m]
theorem mem_down : ∀ (m : Nat) (x : Int), x ∈ down m ↔ 1 ≤ x ∧ x < 1 + m
  | 0, x => by simp [down]; try omega
  | m + 1, x => by
    rw [down, List.mem_cons, mem_down m x]
    omega
def stm (b : Bool) (m : Nat) : List Int := if b then down m else up 1 m
theorem stm_len (b : Bool) (m : Nat) : (stm b m).length = m := by cases b <;> simp [stm, down_len, up_len]
theorem mem_stm (b : Bool) (m : Nat) (x : Int) : x ∈ stm b m ↔ 1 ≤ x ∧ x < 1 + m := by cases b <;> simp [stm, mem_down, mem_up]
theorem may_stm_ok (b : Bool) (m : Nat) (most j : Int) (h1 : (m : Int) < most) (h2 : (m : Int) < j) : mayC (stm b m, most) j = 0 := by
  unfold mayC
  rw [if_neg (by show ¬ j ∈ stm b m; rw [mem_stm]; omega), if_neg (by show ¬ (((stm b m).length : Int) ≥ most); rw [stm_len]; omega)]
theorem may_stm_no (b : Bool) (m : Nat) (most j : Int) (h1 : (m : Int) = most) (h2 : (m : Int) < j) : mayC (stm b m, most) j = 13 := by
  unfold mayC
  rw [if_neg (by show ¬ j ∈ stm b m; rw [mem_stm]; omega), if_pos (by show (((stm b m).length : Int) ≥ most); rw [stm_len]; omega)]
section
variable {w0 w : World} {g : Nat}
theorem fu_ok_false (m : Nat) (most : Int) (h9 : m ≤ 100) (h1 : (m : Int) < most) (h : Own w0 w (stm false m, most) g) : Calls Try.prog 16 #[.pointer (some ⟨g, 0, none⟩), .int .i64 ((m : Int) + 1)] w fun e w' => e = .returned (.int .i64 0) ∧ Own w0 w' (stm false (m + 1), most) g := by
  have hm := may_stm_ok false m most (m + 1) h1 (by omega)
  have := put_own h (by rw [stm_len]; omega) ((m : Int) + 1)
  rw [show putQ (stm false m, most) ((m : Int) + 1) = (stm false (m + 1), most) from by unfold putQ; rw [if_pos hm]; show ((up 1 m) ++ [(m : Int) + 1], most) = (up 1 (m + 1), most); rw [← up_snoc, Int.add_comm], hm] at this
  exact this
theorem fu_ok_true (m : Nat) (most : Int) (h9 : m ≤ 100) (h1 : (m : Int) < most) (h : Own w0 w (stm true m, most) g) : Calls Try.prog 20 #[.pointer (some ⟨g, 0, none⟩), .int .i64 ((m : Int) + 1)] w fun e w' => e = .returned (.int .i64 0) ∧ Own w0 w' (stm true (m + 1), most) g := by
  have hm := may_stm_ok true m most (m + 1) h1 (by omega)
  have := back_own h (by rw [stm_len]; omega) ((m : Int) + 1)
  rw [show backQ (stm true m, most) ((m : Int) + 1) = (stm true (m + 1), most) from by unfold backQ; rw [if_pos hm]; rfl, hm] at this
  exact this
theorem fu_no_false (m : Nat) (most j : Int) (h9 : m ≤ 100) (h1 : (m : Int) = most) (h2 : (m : Int) < j) (h : Own w0 w (stm false m, most) g) : Calls Try.prog 16 #[.pointer (some ⟨g, 0, none⟩), .int .i64 j] w fun e w' => e = .returned (.int .i64 13) ∧ Own w0 w' (stm false m, most) g := by
  have hm := may_stm_no false m most j h1 h2
  have := put_own h (by rw [stm_len]; omega) j
  rw [show putQ (stm false m, most) j = (stm false m, most) from by unfold putQ; rw [hm]; rfl, hm] at this
  exact this
theorem fu_no_true (m : Nat) (most j : Int) (h9 : m ≤ 100) (h1 : (m : Int) = most) (h2 : (m : Int) < j) (h : Own w0 w (stm true m, most) g) : Calls Try.prog 20 #[.pointer (some ⟨g, 0, none⟩), .int .i64 j] w fun e w' => e = .returned (.int .i64 13) ∧ Own w0 w' (stm true m, most) g := by
  have hm := may_stm_no true m most j h1 h2
  have := back_own h (by rw [stm_len]; omega) j
  rw [show backQ (stm true m, most) j = (stm true m, most) from by unfold backQ; rw [hm]; rfl, hm] at this
  exact this
theorem fu_all (l : List Int) (m : Nat) (most : Int) (h9 : m ≤ 100) (hl : l.length = m) (h : Own w0 w (l, most) g) : Calls Try.prog 21 #[.pointer (some ⟨g, 0, none⟩)] w fun e w' => ∃ A1 c1, e = .returned (.slice A1 m c1) ∧ Own w0 w' (l, most) g := by
  subst hl
  refine (all_own h (by show l.length ≤ _; omega)).mono ?_
  rintro e w' ⟨A1, c1, rfl, _, hs⟩
  exact ⟨A1, c1, rfl, hs⟩
theorem fu_first_none (b : Bool) (m : Nat) (most : Int) (hz : m = 0) (h : Own w0 w (stm b m, most) g) : Calls Try.prog 19 #[.pointer (some ⟨g, 0, none⟩)] w fun e w' => e = .returned (.tuple #[.int .i64 0, .bool false]) ∧ Own w0 w' (stm b m, most) g := by
  subst hz
  cases b <;> exact first_none_own h
theorem fu_first_true (m : Nat) (most : Int) (h9 : m ≤ 100) (hz : ¬ m = 0) (h : Own w0 w (stm true m, most) g) : Calls Try.prog 19 #[.pointer (some ⟨g, 0, none⟩)] w fun e w' => e = .returned (.tuple #[.int .i64 (m : Int), .bool true]) ∧ Own w0 w' ((stm true m).tail, most) g := by
  cases m with
  | zero => exact absurd rfl hz
  | succ m => exact first_own h (by show (down m).length ≤ _; rw [down_len]; omega)
theorem fu_first_false (m : Nat) (most : Int) (h9 : m ≤ 100) (hz : ¬ m = 0) (h : Own w0 w (stm false m, most) g) : Calls Try.prog 19 #[.pointer (some ⟨g, 0, none⟩)] w fun e w' => e = .returned (.tuple #[.int .i64 1, .bool true]) ∧ Own w0 w' ((stm false m).tail, most) g := by
  cases m with
  | zero => exact absurd rfl hz
  | succ m => exact first_own h (by show (up 2 m).length ≤ _; rw [up_len]; omega)
theorem fu_hundred (b : Bool) (m : Nat) (most : Int) (hz : ¬ m = 0) (h1 : (m : Int) ≤ most) (h2 : (m : Int) ≤ 50) (h : Own w0 w ((stm b m).tail, most) g) : Calls Try.prog 16 #[.pointer (some ⟨g, 0, none⟩), .int .i64 100] w fun e w' => e = .returned (.int .i64 0) ∧ Own w0 w' ((stm b m).tail ++ [100], most) g := by
  have hl : (stm b m).tail.length = m - 1 := by rw [List.length_tail, stm_len]
  have hm : mayC ((stm b m).tail, most) 100 = 0 := by
    unfold mayC
    rw [if_neg (fun hx => by have := (mem_stm b m 100).1 (List.mem_of_mem_tail hx); omega), if_neg (by show ¬ (((stm b m).tail.length : Int) ≥ most); rw [hl]; omega)]
  have := put_own h (by show (stm b m).tail.length ≤ _; omega) 100
  rw [show putQ ((stm b m).tail, most) 100 = ((stm b m).tail ++ [100], most) from by unfold putQ; rw [if_pos hm], hm] at this
  exact this
theorem tl_len (b : Bool) (m : Nat) (hz : ¬ m = 0) : ((stm b m).tail ++ [100]).length = m := by rw [List.length_append, List.length_tail, stm_len, List.length_singleton]; omega
end
set_option maxHeartbeats 1600000 in
theorem full_false (most n : Int) (w : World) (h1 : 1 ≤ most) (h2 : most ≤ 50) (h3 : 0 ≤ n) (h4 : n ≤ 60) :
    Calls Try.prog 6 #[.int .i64 most, .int .i64 n, .bool false] w fun e w' => e = .returned (.bool true) ∧ Below w.heap.size w w' := by
  have c1 : decide (most < 1) = false := decide_eq_false (by omega)
  have c2 : decide (most > 50) = false := decide_eq_false (by omega)
  have c2' : decide (50 < most) = false := decide_eq_false (by omega)
  have c3 : decide (n < 0) = false := decide_eq_false (by omega)
  have c4 : decide (n > 60) = false := decide_eq_false (by omega)
  have c4' : decide (60 < n) = false := decide_eq_false (by omega)
  have HN : Aside0 (1 ≤ most ∧ most ≤ 50 ∧ 0 ≤ n ∧ n ≤ 60) := ⟨h1, h2, h3, h4⟩
  clear h1 h2 h3 h4
  go_enter Try.func6, Try.ntmps6
  go_wp2_with (first
    | (go_at_call 14; refine (alive_calls _).mono ?_; rintro e w' ⟨rfl, HB⟩)
    | (go_at_call 15; refine (new_own HB most HN.out.1).mono ?_; rintro e w' ⟨g, rfl, HS⟩))
  clear c1 c2 c2' c3 c4 c4'
  go_loopg [8, 9] 100 (fun kq v8 v9 w' => ∃ (j : Int) (m : Nat), v8 = .int .i64 j ∧ Aside0 (1 ≤ j ∧ j ≤ n + 1 ∧ j + (kq : Int) = 101 ∧ (m : Int) = min (j - 1) most) ∧ Own w w' (stm false m, most) g)
  case atStart => exact ⟨1, 0, rfl, ⟨by omega, by have := HN.out; omega, by omega, by have := HN.out; omega⟩, HS⟩
  case round =>
    clear HS
    obtain ⟨j, m, rfl, HJ, HS⟩ := hrel
    by_cases hj : j ≤ n
    · have d1 : decide (j ≤ n) = true := decide_eq_true hj
      have HK : Aside0 (j ≤ n) := ⟨hj⟩
      have HW : Aside0 (wrap64 (j + 1) = j + 1) := ⟨w64_in _ (by have := HJ.out; have := HN.out; omega)⟩
      by_cases hm : j ≤ most
      · have d2 : decide (j ≤ most) = true := decide_eq_true hm
        have HM : Aside0 (j ≤ most) := ⟨hm⟩
        have hjm : j = (m : Int) + 1 := by have := HJ.out; omega
        have HC := Aside0.mk (fu_ok_false m most (by have := HJ.out; have := HN.out; omega) (by have := HJ.out; omega) HS)
        rw [← hjm] at HC
        clear hj hm hjm
        go_wp2_with (go_at_call 16; refine HC.out.mono ?_; rintro e w' ⟨rfl, HS'⟩; clear HS HC)
        go_roundg (gk - 1)
        case measure => have := HJ.out; have := HN.out; have := HK.out; omega
        case rel => exact ⟨j + 1, m + 1, by rw [HW.out], ⟨by have := HJ.out; omega, by have := HK.out; omega, by have := HJ.out; have := HN.out; have := HK.out; omega, by have := HJ.out; have := HM.out; omega⟩, HS'⟩
      · have d2 : decide (j ≤ most) = false := decide_eq_false hm
        have HM : Aside0 (¬ j ≤ most) := ⟨hm⟩
        have HC := Aside0.mk (fu_no_false m most j (by have := HJ.out; have := HN.out; omega) (by have := HJ.out; omega) (by have := HJ.out; omega) HS)
        clear hj hm
        go_wp2_with (go_at_call 16; refine HC.out.mono ?_; rintro e w' ⟨rfl, HS'⟩; clear HS HC)
        go_roundg (gk - 1)
        case measure => have := HJ.out; have := HN.out; have := HK.out; omega
        case rel => exact ⟨j + 1, m, by rw [HW.out], ⟨by have := HJ.out; omega, by have := HK.out; omega, by have := HJ.out; have := HN.out; have := HK.out; omega, by have := HJ.out; have := HM.out; omega⟩, HS'⟩
    · have d1 : decide (j ≤ n) = false := decide_eq_false hj
      have HM : Aside0 ((m : Int) = min n most) := ⟨by have := HJ.out; omega⟩
      have HL : Aside0 (m ≤ 100 ∧ (m : Int) ≤ most ∧ (m : Int) ≤ 50) := ⟨by have := HM.out; have := HN.out; omega⟩
      clear hj
      go_upto_region 16 with (fail)
      rw [← HM.out]
      clear HM HJ d1
      by_cases hz : m = 0
      · have z1 : ((m : Int) == 0) = true := beq_iff_eq.2 (by omega)
        have HZ := Aside0.mk hz
        clear hz
        go_wp2_with (first
          | (go_at_call 21; refine (fu_all _ m most HL.out.1 (stm_len _ m) HS).mono ?_; rintro e w' ⟨A1, ca, rfl, HS1⟩; clear HS)
          | (go_at_call 19; refine (fu_first_none _ m most HZ.out HS1).mono ?_; rintro e w' ⟨rfl, HS2⟩; clear HS1))
        go_ret
        exact ⟨rfl, HS2.below⟩
      · have z1 : ((m : Int) == 0) = false := beq_eq_false_iff_ne.2 (by omega)
        have HZ := Aside0.mk hz
        clear hz
        go_wp2_with (first
          | (go_at_call 21; refine (fu_all _ m most HL.out.1 (stm_len _ m) HS).mono ?_; rintro e w' ⟨A1, ca, rfl, HS1⟩; clear HS)
          | (go_at_call 19; refine (fu_first_false m most HL.out.1 HZ.out HS1).mono ?_; rintro e w' ⟨rfl, HS2⟩; clear HS1)
          | (go_at_call 16; refine (fu_hundred _ m most HZ.out HL.out.2.1 HL.out.2.2 HS2).mono ?_; rintro e w' ⟨rfl, HS3⟩; clear HS2)
          | (go_at_call 21; refine (fu_all _ m most HL.out.1 (tl_len _ m HZ.out) HS3).mono ?_; rintro e w' ⟨A2, cb, rfl, HS4⟩; clear HS3))
        go_ret
        exact ⟨rfl, HS4.below⟩
set_option maxHeartbeats 1600000 in
theorem full_true (most n : Int) (w : World) (h1 : 1 ≤ most) (h2 : most ≤ 50) (h3 : 0 ≤ n) (h4 : n ≤ 60) :
    Calls Try.prog 6 #[.int .i64 most, .int .i64 n, .bool true] w fun e w' => e = .returned (.bool true) ∧ Below w.heap.size w w' := by
  have c1 : decide (most < 1) = false := decide_eq_false (by omega)
  have c2 : decide (most > 50) = false := decide_eq_false (by omega)
  have c2' : decide (50 < most) = false := decide_eq_false (by omega)
  have c3 : decide (n < 0) = false := decide_eq_false (by omega)
  have c4 : decide (n > 60) = false := decide_eq_false (by omega)
  have c4' : decide (60 < n) = false := decide_eq_false (by omega)
  have HN : Aside0 (1 ≤ most ∧ most ≤ 50 ∧ 0 ≤ n ∧ n ≤ 60) := ⟨h1, h2, h3, h4⟩
  clear h1 h2 h3 h4
  go_enter Try.func6, Try.ntmps6
  go_wp2_with (first
    | (go_at_call 14; refine (alive_calls _).mono ?_; rintro e w' ⟨rfl, HB⟩)
    | (go_at_call 15; refine (new_own HB most HN.out.1).mono ?_; rintro e w' ⟨g, rfl, HS⟩))
  clear c1 c2 c2' c3 c4 c4'
  go_loopg [8, 9] 100 (fun kq v8 v9 w' => ∃ (j : Int) (m : Nat), v8 = .int .i64 j ∧ Aside0 (1 ≤ j ∧ j ≤ n + 1 ∧ j + (kq : Int) = 101 ∧ (m : Int) = min (j - 1) most) ∧ Own w w' (stm true m, most) g)
  case atStart => exact ⟨1, 0, rfl, ⟨by omega, by have := HN.out; omega, by omega, by have := HN.out; omega⟩, HS⟩
  case round =>
    clear HS
    obtain ⟨j, m, rfl, HJ, HS⟩ := hrel
    by_cases hj : j ≤ n
    · have d1 : decide (j ≤ n) = true := decide_eq_true hj
      have HK : Aside0 (j ≤ n) := ⟨hj⟩
      have HW : Aside0 (wrap64 (j + 1) = j + 1) := ⟨w64_in _ (by have := HJ.out; have := HN.out; omega)⟩
      by_cases hm : j ≤ most
      · have d2 : decide (j ≤ most) = true := decide_eq_true hm
        have HM : Aside0 (j ≤ most) := ⟨hm⟩
        have hjm : j = (m : Int) + 1 := by have := HJ.out; omega
        have HC := Aside0.mk (fu_ok_true m most (by have := HJ.out; have := HN.out; omega) (by have := HJ.out; omega) HS)
        rw [← hjm] at HC
        clear hj hm hjm
        go_wp2_with (go_at_call 20; refine HC.out.mono ?_; rintro e w' ⟨rfl, HS'⟩; clear HS HC)
        go_roundg (gk - 1)
        case measure => have := HJ.out; have := HN.out; have := HK.out; omega
        case rel => exact ⟨j + 1, m + 1, by rw [HW.out], ⟨by have := HJ.out; omega, by have := HK.out; omega, by have := HJ.out; have := HN.out; have := HK.out; omega, by have := HJ.out; have := HM.out; omega⟩, HS'⟩
      · have d2 : decide (j ≤ most) = false := decide_eq_false hm
        have HM : Aside0 (¬ j ≤ most) := ⟨hm⟩
        have HC := Aside0.mk (fu_no_true m most j (by have := HJ.out; have := HN.out; omega) (by have := HJ.out; omega) (by have := HJ.out; omega) HS)
        clear hj hm
        go_wp2_with (go_at_call 20; refine HC.out.mono ?_; rintro e w' ⟨rfl, HS'⟩; clear HS HC)
        go_roundg (gk - 1)
        case measure => have := HJ.out; have := HN.out; have := HK.out; omega
        case rel => exact ⟨j + 1, m, by rw [HW.out], ⟨by have := HJ.out; omega, by have := HK.out; omega, by have := HJ.out; have := HN.out; have := HK.out; omega, by have := HJ.out; have := HM.out; omega⟩, HS'⟩
    · have d1 : decide (j ≤ n) = false := decide_eq_false hj
      have HM : Aside0 ((m : Int) = min n most) := ⟨by have := HJ.out; omega⟩
      have HL : Aside0 (m ≤ 100 ∧ (m : Int) ≤ most ∧ (m : Int) ≤ 50) := ⟨by have := HM.out; have := HN.out; omega⟩
      clear hj
      go_upto_region 16 with (fail)
      rw [← HM.out]
      clear HM HJ d1
      by_cases hz : m = 0
      · have z1 : ((m : Int) == 0) = true := beq_iff_eq.2 (by omega)
        have HZ := Aside0.mk hz
        clear hz
        go_wp2_with (first
          | (go_at_call 21; refine (fu_all _ m most HL.out.1 (stm_len _ m) HS).mono ?_; rintro e w' ⟨A1, ca, rfl, HS1⟩; clear HS)
          | (go_at_call 19; refine (fu_first_none _ m most HZ.out HS1).mono ?_; rintro e w' ⟨rfl, HS2⟩; clear HS1))
        go_ret
        exact ⟨rfl, HS2.below⟩
      · have z1 : ((m : Int) == 0) = false := beq_eq_false_iff_ne.2 (by omega)
        have HZ := Aside0.mk hz
        clear hz
        go_wp2_with (first
          | (go_at_call 21; refine (fu_all _ m most HL.out.1 (stm_len _ m) HS).mono ?_; rintro e w' ⟨A1, ca, rfl, HS1⟩; clear HS)
          | (go_at_call 19; refine (fu_first_true m most HL.out.1 HZ.out HS1).mono ?_; rintro e w' ⟨rfl, HS2⟩; clear HS1)
          | (go_at_call 16; refine (fu_hundred _ m most HZ.out HL.out.2.1 HL.out.2.2 HS2).mono ?_; rintro e w' ⟨rfl, HS3⟩; clear HS2)
          | (go_at_call 21; refine (fu_all _ m most HL.out.1 (tl_len _ m HZ.out) HS3).mono ?_; rintro e w' ⟨A2, cb, rfl, HS4⟩; clear HS3))
        go_ret
        exact ⟨rfl, HS4.below⟩
set_option maxHeartbeats 800000 in
theorem full_calls (most n : Int) (back : Bool) (w : World) :
    Calls Try.prog 6 #[.int .i64 most, .int .i64 n, .bool back] w fun e w' => e = .returned (.bool true) ∧ Below w.heap.size w w' := by
  by_cases h : 1 ≤ most ∧ most ≤ 50 ∧ 0 ≤ n ∧ n ≤ 60
  · cases back
    · exact full_false most n w h.1 h.2.1 h.2.2.1 h.2.2.2
    · exact full_true most n w h.1 h.2.1 h.2.2.1 h.2.2.2
  have key : ∀ (c1 c2 c3 c4 : Bool), decide (most < 1) = c1 → decide (most > 50) = c2 → decide (n < 0) = c3 → decide (n > 60) = c4 → Calls Try.prog 6 #[.int .i64 most, .int .i64 n, .bool back] w fun e w' => e = .returned (.bool true) ∧ Below w.heap.size w w' := by
    intro c1 c2 c3 c4 e1 e2 e3 e4
    have hor : c1 = true ∨ c2 = true ∨ c3 = true ∨ c4 = true := by
      subst e1; subst e2; subst e3; subst e4
      simp only [decide_eq_true_eq]
      omega
    have e2' : decide (50 < most) = c2 := e2
    have e4' : decide (60 < n) = c4 := e4
    clear h
    cases c1 <;> cases c2 <;> cases c3 <;> cases c4 <;> first
      | (exact absurd hor (by decide))
      | (clear hor
         go_enter Try.func6, Try.ntmps6
         go_wp2_with (go_at_call 14; refine (alive_calls _).mono ?_; rintro e w' ⟨rfl, HB⟩)
         go_ret
         exact ⟨rfl, HB⟩)
  exact key _ _ _ _ rfl rfl rfl rfl
end Go.Proofs.Ytohphkdemonlkaa.Qw
