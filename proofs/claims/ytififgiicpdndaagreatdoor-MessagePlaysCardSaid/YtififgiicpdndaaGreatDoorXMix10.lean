-- Printed by wip/tools/xprint.py of this claim's session: the kit's print over contracts of its own.
import Derived.Test.YtififgiicpdndaaGreatDoorXMix0
import Derived.Test.YtififgiicpdndaaGreatDoorXMix2
import Derived.Test.YtififgiicpdndaaGreatDoorXMix3
namespace Go.Proofs.YtififgiicpdndaaGreatDoor.XMi
open Go.RowKit Go.Proofs.YtififgiicpdndaaGreatDoorW.PrintWords Go.Proofs.YtififgiicpdndaaGreatDoorW.PrintLast Go.Proofs.YtififgiicpdndaaGreatDoorW.PrintMore
attribute [local go_sem] max2_int min2_int max_two min_two max_three min_three max_four min_four   -- for this text's walks alone
set_option linter.unusedVariables false
set_option linter.unusedSimpArgs false

attribute [local go_sem high] eqA115 eqA118
-- NOT PRINTED: function 39 (bywashbook_Book_stillInts)

-- NOT PRINTED: function 40 (bywashbook_Book_stillTexts)

-- NOT PRINTED: function 41 (bywashbook_Book_stillFields)

-- NOT PRINTED: function 42 (bywashbook_Book_stillFrames)

-- NOT PRINTED: function 43 (bywashbook_Book_stillPrefs)

-- NOT PRINTED: function 44 (bywashbook_Book_putInts)

/-! ### bywashbook_name: function 102 -/
def bywashbook_name.f (a0 : Int) (a1 : Int) : Option (ByteArray) := some (strOfNums (([109, (wrap64 (65 + (Int.tmod a0 26))) % 256, (wrap64 (65 + (Int.tmod (wrap64 (Int.tdiv a0 26)) 26))) % 256, (wrap64 (48 + (Int.tmod a1 10))) % 256, (wrap64 (48 + (Int.tmod (wrap64 (Int.tdiv a1 10)) 10))) % 256, (wrap64 (48 + (Int.tmod (wrap64 (Int.tdiv a1 100)) 10))) % 256] : List Int)))
set_option maxHeartbeats 8000000 in
set_option maxRecDepth 100000 in
theorem bywashbook_name.calls (a0 : Int) (a1 : Int) (r : ByteArray) (w : World) (h : bywashbook_name.f a0 a1 = some r) :
    Calls Tryz.prog 102 #[.int .i64 a0, .int .i64 a1] w fun e w' => e = .returned (.string r) ∧ Below w.heap.size w w' := by
  have HB := Aside0.mk (Below.refl w.heap.size w)
  have H : (some (strOfNums (([109, (wrap64 (65 + (Int.tmod a0 26))) % 256, (wrap64 (65 + (Int.tmod (wrap64 (Int.tdiv a0 26)) 26))) % 256, (wrap64 (48 + (Int.tmod a1 10))) % 256, (wrap64 (48 + (Int.tmod (wrap64 (Int.tdiv a1 10)) 10))) % 256, (wrap64 (48 + (Int.tmod (wrap64 (Int.tdiv a1 100)) 10))) % 256] : List Int)))) = some r := h
  clear h
  obtain ⟨y249, hy249⟩ : ∃ y_ : List Int, y_ = (([109, (wrap64 (65 + (Int.tmod a0 26))) % 256, (wrap64 (65 + (Int.tmod (wrap64 (Int.tdiv a0 26)) 26))) % 256, (wrap64 (48 + (Int.tmod a1 10))) % 256, (wrap64 (48 + (Int.tmod (wrap64 (Int.tdiv a1 10)) 10))) % 256, (wrap64 (48 + (Int.tmod (wrap64 (Int.tdiv a1 100)) 10))) % 256] : List Int)) := ⟨_, rfl⟩
  replace H : (some (strOfNums y249)) = some r := by first | (rw [hy249]; with_reducible exact H) | (have H2_ := (Option.bind_some _ _).symm.trans H; rw [hy249]; with_reducible exact H2_) | (have H2_ := (Option.bind_some _ _).symm.trans H; with_reducible exact H2_) | with_reducible exact H | (rw [hy249]; exact H) | exact H
  have Ny249 := Aside0.mk hy249
  clear hy249
  obtain rfl := Option.some.inj H
  go_enter Tryz.func102, Tryz.ntmps102
  go_wp2_with (first | ((with_reducible refine gate_dst (N := 28) rfl ?_); refine Kd.R_lit (Kd.int .u8) _ 5 ?hg (N := 28) ?hd (xs := ([109, (wrap64 (65 + (Int.tmod a0 26))) % 256, (wrap64 (65 + (Int.tmod (wrap64 (Int.tdiv a0 26)) 26))) % 256, (wrap64 (48 + (Int.tmod a1 10))) % 256, (wrap64 (48 + (Int.tmod (wrap64 (Int.tdiv a1 10)) 10))) % 256, (wrap64 (48 + (Int.tmod (wrap64 (Int.tdiv a1 100)) 10))) % 256] : List Int)) (inner := [.int .u8 109, .int .u8 ((wrap64 (65 + (Int.tmod a0 26))) % 256), .int .u8 ((wrap64 (65 + (Int.tmod (wrap64 (Int.tdiv a0 26)) 26))) % 256), .int .u8 ((wrap64 (48 + (Int.tmod a1 10))) % 256), .int .u8 ((wrap64 (48 + (Int.tmod (wrap64 (Int.tdiv a1 10)) 10))) % 256), .int .u8 ((wrap64 (48 + (Int.tmod (wrap64 (Int.tdiv a1 100)) 10))) % 256)]) (ok := fun _ => True) (okp := fun _ => True) ?hr ?hp (fun _ hk => hk) trivial (Below.refl _ _) (Nat.le_refl _) (by simp) ?_; (case hd => rfl); (case hg => rfl); (case hr => first | (go_simp; done) | (go_simp; rfl)); (case hp => exact (Reps.one (show Kd.M (Kd.int .u8) _ _ _ 109 [.int .u8 109] from rfl) (Reps.one (show Kd.M (Kd.int .u8) _ _ _ ((wrap64 (65 + (Int.tmod a0 26))) % 256) [.int .u8 ((wrap64 (65 + (Int.tmod a0 26))) % 256)] from rfl) (Reps.one (show Kd.M (Kd.int .u8) _ _ _ ((wrap64 (65 + (Int.tmod (wrap64 (Int.tdiv a0 26)) 26))) % 256) [.int .u8 ((wrap64 (65 + (Int.tmod (wrap64 (Int.tdiv a0 26)) 26))) % 256)] from rfl) (Reps.one (show Kd.M (Kd.int .u8) _ _ _ ((wrap64 (48 + (Int.tmod a1 10))) % 256) [.int .u8 ((wrap64 (48 + (Int.tmod a1 10))) % 256)] from rfl) (Reps.one (show Kd.M (Kd.int .u8) _ _ _ ((wrap64 (48 + (Int.tmod (wrap64 (Int.tdiv a1 10)) 10))) % 256) [.int .u8 ((wrap64 (48 + (Int.tmod (wrap64 (Int.tdiv a1 10)) 10))) % 256)] from rfl) (Reps.one (show Kd.M (Kd.int .u8) _ _ _ ((wrap64 (48 + (Int.tmod (wrap64 (Int.tdiv a1 100)) 10))) % 256) [.int .u8 ((wrap64 (48 + (Int.tmod (wrap64 (Int.tdiv a1 100)) 10))) % 256)] from rfl) (Reps.none _ _)))))))); intro v250 w3 ho4 hb hg_ hnew_; clear hg_ hnew_; (first | rw [← Ny249.out] at ho4 | (simp only [Int.reduceToNat] at ho4; rw [← Ny249.out] at ho4)); have n0_ := Aside0.mk (Kd.R_lower ho4 (below_size (by repeat (first | (with_reducible first | exact HB.out | apply below_alloc | apply pw_below_drewN | apply below_drew1) | exact HB.out)))); have n1_ := Aside0.mk (below_step (by repeat (first | (with_reducible first | exact HB.out | apply below_alloc | apply pw_below_drewN | apply below_drew1) | exact HB.out)) hb); clear HB; have HO251 := n0_; have HB := n1_; clear n0_ n1_; clear hb ho4; have hcv5 := own_string (P := Tryz.prog) Tryz.underlying128 Tryz.underlying5 Tryz.underlying9 (Kd.own_of_R HO251.out); have hcv6 := fun n_ => own_string (P := Tryz.prog) Tryz.underlying128 Tryz.underlying5 Tryz.underlying9 (Kd.own_of_R (Kd.R_drewN HO251.out n_))))
  go_ret
  exact ⟨by first | rfl | (simp [errW_none, errW_some] <;> rfl) | (simp [*, errW_none, errW_some] <;> rfl), by repeat (first | (with_reducible first | exact HB.out | apply below_alloc | apply pw_below_drewN | apply below_drew1) | exact HB.out)⟩

-- NOT PRINTED: function 45 (bywashbook_Book_putTexts)

end Go.Proofs.YtififgiicpdndaaGreatDoor.XMi
