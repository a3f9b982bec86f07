/- A first call of the table, whose answer is known. -/
import Derived.Test.YtohphkdemonlkaaTWalk7
namespace Go.Proofs.Ytohphkdemonlkaa.Tw
open Go.RowKit Go.Lib Go.Proofs.Ytohphkdemonlkaa.XQt Go.Proofs.YtohphkdemonlkaaW.PrintWords Go.Proofs.YtohphkdemonlkaaW.PrintLast Go.Proofs.YtohphkdemonlkaaW.PrintMore Go.Proofs.Ytohphkdemonlkaa.Ob
def fxy : S54 := ⟨⟨#[120]⟩, ⟨#[121]⟩⟩
def fget : S54 := ⟨⟨#[58, 109, 101, 116, 104, 111, 100]⟩, ⟨#[71, 69, 84]⟩⟩
theorem al_add : addL 100 [] fxy = [fxy] := rfl
theorem al_at : rd_T54 (wholeL [fxy]) 16 = fxy := rfl
theorem al_find : findN (wholeL [fxy]) fget = 2 := by kernel_rfl
theorem al_findB : findB (wholeL [fxy]) fget = true := by kernel_rfl
theorem al_total : total [fxy] = 34 := rfl
section
variable {w0 w : World} {g : Nat}
theorem al_1 (h : TOwn w0 w [] 100 g) : Calls Try.prog 27 #[.pointer (some ⟨g, 0, none⟩), .agg #[.string ⟨#[120]⟩, .string ⟨#[121]⟩]] w fun e w' => e = .returned (.tuple #[]) ∧ TOwn w0 w' [fxy] 100 g := by
  have := add_own h fxy (by decide)
  rw [al_add] at this
  exact this
theorem al_2 (h : TOwn w0 w [fxy] 100 g) : Calls Try.prog 31 #[.pointer (some ⟨g, 0, none⟩), .int .i64 17] w fun e w' => e = .returned (.tuple #[.agg #[.string ⟨#[120]⟩, .string ⟨#[121]⟩], .bool true]) ∧ TOwn w0 w' [fxy] 100 g := by
  refine (at_own h 16 (by decide)).mono ?_
  rintro e w' ⟨rfl, hb⟩
  exact ⟨rfl, h.below_ hb⟩
theorem al_3 (h : TOwn w0 w [fxy] 100 g) : Calls Try.prog 32 #[.pointer (some ⟨g, 0, none⟩), .agg #[.string ⟨#[58, 109, 101, 116, 104, 111, 100]⟩, .string ⟨#[71, 69, 84]⟩]] w fun e w' => e = .returned (.tuple #[.int .i64 2, .bool true]) ∧ Below w.heap.size w w' := by
  have := find_own h fget
  rw [al_find, al_findB] at this
  exact this
end
set_option maxHeartbeats 1600000 in
theorem alive_calls (w : World) : Calls Try.prog 25 #[] w fun e w' => e = .returned (.bool true) ∧ Below w.heap.size w w' := by
  have HN := Aside0.mk (new_own (Below.refl w.heap.size w) 100 (by decide))
  go_enter Try.func25, Try.ntmps25
  go_wp2_with (first
    | (go_at_call 26; refine HN.out.mono ?_; rintro e w1 ⟨g, rfl, hs1⟩; have HS1 := Aside0.mk hs1; clear hs1)
    | (go_at_call 27; refine (al_1 HS1.out).mono ?_; rintro e w2 ⟨rfl, hs2⟩; have HS2 := Aside0.mk hs2; clear HS1 hs2)
    | (go_at_call 31; refine (al_2 HS2.out).mono ?_; rintro e w3 ⟨rfl, hs3⟩; have HS3 := Aside0.mk hs3; clear HS2 hs3)
    | (go_at_call 32; refine (al_3 (HS3.out.below_ (below_alloc (Below.refl _ _) (.cells #[.string ⟨#[120]⟩, .string ⟨#[121]⟩] 54)))).mono ?_; rintro e w4 ⟨rfl, hb4⟩; have HX := Aside0.mk ((hb4.block w3.heap.size (by rw [World.size_alloc]; omega)).trans (heap_alloc_new w3 _)); have x0 := cells_of_heap HX.out 0 _ rfl; have x1 := cells_of_heap HX.out 1 _ rfl; have HS4 := Aside0.mk ((HS3.out.below_ (below_alloc (Below.refl _ _) (.cells #[.string ⟨#[120]⟩, .string ⟨#[121]⟩] 54))).below_ hb4); clear HS3 hb4)
    | (go_at_call 29; refine (used_own HS4.out).mono ?_; rintro e w5 ⟨rfl, hb5⟩; rw [al_total]; have HX5 := Aside0.mk ((hb5.block _ (blk_lt HX.out)).trans HX.out); have y0 := cells_of_heap HX5.out 0 _ rfl; have y1 := cells_of_heap HX5.out 1 _ rfl; have HS5 := Aside0.mk (HS4.out.below_ hb5); clear HS4 hb5 HX)
    | (go_at_call 34; refine (size_own HS5.out).mono ?_; rintro e w6 ⟨rfl, hb6⟩; have HX6 := Aside0.mk ((hb6.block _ (blk_lt HX5.out)).trans HX5.out); have z0 := cells_of_heap HX6.out 0 _ rfl; have z1 := cells_of_heap HX6.out 1 _ rfl; have HS6 := Aside0.mk (HS5.out.below_ hb6); clear HS5 hb6 HX5)
    | (go_at_call 30; refine (cost_calls fxy (by decide) _).mono ?_; rintro e w7 ⟨rfl, hb7⟩; rw [show cost fxy = 34 from rfl]; have HS7 := Aside0.mk (HS6.out.below_ hb7); clear HS6 hb7))
  go_ret
  exact ⟨rfl, HS7.out.below⟩
end Go.Proofs.Ytohphkdemonlkaa.Tw
