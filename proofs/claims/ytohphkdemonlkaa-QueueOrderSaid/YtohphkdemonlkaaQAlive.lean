/- alive. -/
import Derived.Test.YtohphkdemonlkaaQWalk6
namespace Go.Proofs.Ytohphkdemonlkaa.Qw
open Go.RowKit Go.Proofs.Ytohphkdemonlkaa.XQt Go.Proofs.YtohphkdemonlkaaW.PrintWords Go.Proofs.YtohphkdemonlkaaW.PrintLast Go.Proofs.YtohphkdemonlkaaW.PrintMore Go.Proofs.Ytohphkdemonlkaa.Ob

section
variable {w0 w : World} {g : Nat}
theorem al0 (w : World) : Calls Try.prog 15 #[.int .i64 3] w fun e w' => ∃ g, e = .returned (.pointer (some ⟨g, 0, none⟩)) ∧ Own w w' ([], 3) g := new_own (Below.refl _ _) 3 (by decide)
theorem al1 (h : Own w0 w ([], 3) g) : Calls Try.prog 16 #[.pointer (some ⟨g, 0, none⟩), .int .i64 3] w fun e w' => e = .returned (.int .i64 0) ∧ Own w0 w' ([3], 3) g := put_own h (by decide) 3
theorem al2 (h : Own w0 w ([3], 3) g) : Calls Try.prog 16 #[.pointer (some ⟨g, 0, none⟩), .int .i64 5] w fun e w' => e = .returned (.int .i64 0) ∧ Own w0 w' ([3, 5], 3) g := put_own h (by decide) 5
theorem al3 (h : Own w0 w ([3, 5], 3) g) : Calls Try.prog 20 #[.pointer (some ⟨g, 0, none⟩), .int .i64 7] w fun e w' => e = .returned (.int .i64 0) ∧ Own w0 w' ([7, 3, 5], 3) g := back_own h (by decide) 7
theorem al4 (h : Own w0 w ([7, 3, 5], 3) g) : Calls Try.prog 16 #[.pointer (some ⟨g, 0, none⟩), .int .i64 9] w fun e w' => e = .returned (.int .i64 13) ∧ Own w0 w' ([7, 3, 5], 3) g := put_own h (by decide) 9
theorem al5 (h : Own w0 w ([7, 3, 5], 3) g) : Calls Try.prog 16 #[.pointer (some ⟨g, 0, none⟩), .int .i64 3] w fun e w' => e = .returned (.int .i64 1) ∧ Own w0 w' ([7, 3, 5], 3) g := put_own h (by decide) 3
theorem al6 (h : Own w0 w ([7, 3, 5], 3) g) : Calls Try.prog 19 #[.pointer (some ⟨g, 0, none⟩)] w fun e w' => e = .returned (.tuple #[.int .i64 7, .bool true]) ∧ Own w0 w' ([3, 5], 3) g := first_own h (by decide)
theorem al7 (h : Own w0 w ([3, 5], 3) g) : Calls Try.prog 18 #[.pointer (some ⟨g, 0, none⟩), .int .i64 5] w fun e w' => e = .returned (.int .i64 1) ∧ Own w0 w' ([3, 5], 3) g := place_own h (by decide) 5
theorem al8 (h : Own w0 w ([3, 5], 3) g) : Calls Try.prog 17 #[.pointer (some ⟨g, 0, none⟩), .int .i64 3] w fun e w' => e = .returned (.bool true) ∧ Own w0 w' ([5], 3) g := cut_own h (by decide) 3 (by decide)
theorem al9 (h : Own w0 w ([5], 3) g) : Calls Try.prog 17 #[.pointer (some ⟨g, 0, none⟩), .int .i64 3] w fun e w' => e = .returned (.bool false) ∧ Own w0 w' ([5], 3) g := cut_none_own h (by decide) 3 (by decide)
end
set_option maxHeartbeats 1600000 in
theorem alive_calls (w : World) : Calls Try.prog 14 #[] w fun e w' => e = .returned (.bool true) ∧ Below w.heap.size w w' := by
  go_enter Try.func14, Try.ntmps14
  go_wp2_with (first
    | (go_at_call 15; refine (al0 _).mono ?_; rintro e w' ⟨g, rfl, HS0⟩)
    | (go_at_call 16; refine (al1 HS0).mono ?_; rintro e w' ⟨rfl, HS1⟩; clear HS0)
    | (go_at_call 16; refine (al2 HS1).mono ?_; rintro e w' ⟨rfl, HS2⟩; clear HS1)
    | (go_at_call 20; refine (al3 HS2).mono ?_; rintro e w' ⟨rfl, HS3⟩; clear HS2)
    | (go_at_call 16; refine (al4 HS3).mono ?_; rintro e w' ⟨rfl, HS4⟩; clear HS3)
    | (go_at_call 16; refine (al5 HS4).mono ?_; rintro e w' ⟨rfl, HS5⟩; clear HS4)
    | (go_at_call 19; refine (al6 HS5).mono ?_; rintro e w' ⟨rfl, HS6⟩; clear HS5)
    | (go_at_call 18; refine (al7 HS6).mono ?_; rintro e w' ⟨rfl, HS7⟩; clear HS6)
    | (go_at_call 17; refine (al8 HS7).mono ?_; rintro e w' ⟨rfl, HS8⟩; clear HS7)
    | (go_at_call 17; refine (al9 HS8).mono ?_; rintro e w' ⟨rfl, HS9⟩; clear HS8))
  go_ret
  exact ⟨rfl, HS9.below⟩
end Go.Proofs.Ytohphkdemonlkaa.Qw
