-- Printed by wip/tools/xprint.py of this claim's session: the kit's print over contracts of its own.
import Derived.Test.YtmglfnphkngfdaaXSqx0
import Derived.Test.YtmglfnphkngfdaaXSqx1
import Derived.Test.YtmglfnphkngfdaaXSqx2
import Derived.Test.YtmglfnphkngfdaaXSqx3
namespace Go.Proofs.Ytmglfnphkngfdaa.XSq
open Go.RowKit Go.Proofs.YtmglfnphkngfdaaW.PrintWords Go.Proofs.YtmglfnphkngfdaaW.PrintLast Go.Proofs.YtmglfnphkngfdaaW.PrintMore
attribute [local go_sem] max2_int min2_int max_two min_two max_three min_three max_four min_four   -- for this text's walks alone
set_option linter.unusedVariables false
set_option linter.unusedSimpArgs false

/-! ### bywashlaw3_SqueezeBytes: function 12 -/
def bywashlaw3_SqueezeBytes.j0 : Nat → Bool → Option (Bool)
  | 0, _ => none
  | k + 1, x4 => some x4
def bywashlaw3_SqueezeBytes.f (k : Nat) (a0 : Int) (a1 : Int) : Option (Bool) := (bywashlaw3_alive.f k).bind fun t206 => (if t206 = true then ((squeeze_Put.f k (strOfNums (([a0] : List Int)))).bind fun t210 => ((squeeze_Put.f k (strOfNums (([a1] : List Int)))).bind fun t214 => ((squeeze_Get.f k t210).bind fun bt215 => ((squeeze_Bits.f k a0).bind fun t217 => (if ((t210.toList == t214.toList) == (a0 == a1)) = true then (if bt215.2 = 0 then (if bt215.1.toList = (strOfNums (([a0] : List Int))).toList then (if t217 = 5 then (bywashlaw3_SqueezeBytes.j0 k ((t210.size : Int) == (wrap64 (Int.tdiv (wrap64 (t217 + 7)) 8)))) else (if t217 = 7 then (bywashlaw3_SqueezeBytes.j0 k ((t210.size : Int) == (wrap64 (Int.tdiv (wrap64 (t217 + 7)) 8)))) else (if t217 = 10 then (bywashlaw3_SqueezeBytes.j0 k ((t210.size : Int) == (wrap64 (Int.tdiv (wrap64 (t217 + 7)) 8)))) else (bywashlaw3_SqueezeBytes.j0 k false)))) else (bywashlaw3_SqueezeBytes.j0 k false)) else (bywashlaw3_SqueezeBytes.j0 k false)) else (bywashlaw3_SqueezeBytes.j0 k false)))))) else (some false))
theorem bywashlaw3_SqueezeBytes.mono_l : ∀ k, (∀ y0, LeO (bywashlaw3_SqueezeBytes.j0 k y0) (bywashlaw3_SqueezeBytes.j0 (k + 1) y0))
  | 0 => fun _ r h => by simp [bywashlaw3_SqueezeBytes.j0] at h
  | k + 1 => by
    have ih0 := bywashlaw3_SqueezeBytes.mono_l k
    · intro y0
      unfold bywashlaw3_SqueezeBytes.j0
      repeat' first
      | (with_reducible exact ih0 _)
      | (with_reducible exact bywashlaw3_alive.mono _)
      | (with_reducible exact squeeze_Bits.mono _ _)
      | (with_reducible exact squeeze_Get.mono _ _)
      | (with_reducible exact squeeze_Put.mono _ _)
      | (with_reducible exact LeO.refl _)
      | (with_reducible exact LeO.none _)
      | (with_reducible refine LeO.ite ?_ ?_)
      | (with_reducible refine LeO.bind ?_ (fun _ => ?_))
      | exact ih0 _
      | exact bywashlaw3_alive.mono _
      | exact squeeze_Bits.mono _ _
      | exact squeeze_Get.mono _ _
      | exact squeeze_Put.mono _ _
      | exact LeO.none _
      | refine LeO.ite ?_ ?_
      | refine LeO.bind ?_ (fun _ => ?_)
theorem bywashlaw3_SqueezeBytes.mono : ∀ a0 a1 k, LeO (bywashlaw3_SqueezeBytes.f k a0 a1) (bywashlaw3_SqueezeBytes.f (k + 1) a0 a1) := by
  intro a0 a1 k
  have ih0 := bywashlaw3_SqueezeBytes.mono_l k
  unfold bywashlaw3_SqueezeBytes.f
  repeat' first
      | (with_reducible exact ih0 _)
      | (with_reducible exact bywashlaw3_alive.mono _)
      | (with_reducible exact squeeze_Bits.mono _ _)
      | (with_reducible exact squeeze_Get.mono _ _)
      | (with_reducible exact squeeze_Put.mono _ _)
      | (with_reducible exact LeO.refl _)
      | (with_reducible exact LeO.none _)
      | (with_reducible refine LeO.ite ?_ ?_)
      | (with_reducible refine LeO.bind ?_ (fun _ => ?_))
      | exact ih0 _
      | exact bywashlaw3_alive.mono _
      | exact squeeze_Bits.mono _ _
      | exact squeeze_Get.mono _ _
      | exact squeeze_Put.mono _ _
      | exact LeO.none _
      | refine LeO.ite ?_ ?_
      | refine LeO.bind ?_ (fun _ => ?_)
def bywashlaw3_SqueezeBytes.T3 : Bool × List (List Nat × List Nat) := (true, [([], []), ([0], [0]), ([1], [1]), ([2], [2]), ([], []), ([4], [4]), ([5], [5]), ([6, 3], [6]), ([3, 7, 0, 1, 2, 3], [3]), ([7, 8, 0, 1, 2, 3, 4, 5, 6, 7, 8], [7])])
def bywashlaw3_SqueezeBytes.B3 : List Nat := [0, 1, 3, 7, 0, 16, 48, 127, 255, 511]
theorem bywashlaw3_SqueezeBytes.tab3 : rtab .any (opsOf Try.f12 3) = bywashlaw3_SqueezeBytes.T3 := by kernel_rfl
theorem bywashlaw3_SqueezeBytes.bits3 : waitsOk bywashlaw3_SqueezeBytes.T3.2 bywashlaw3_SqueezeBytes.B3 = true := by kernel_rfl
set_option maxHeartbeats 8000000 in
set_option maxRecDepth 100000 in
theorem bywashlaw3_SqueezeBytes.calls (k : Nat) (a0 : Int) (a1 : Int) (r : Bool) (w : World) (h : bywashlaw3_SqueezeBytes.f k a0 a1 = some r) :
    Calls Try.prog 12 #[.int .u8 a0, .int .u8 a1] w fun e w' => e = .returned (.bool r) ∧ Below w.heap.size w w' := by
  have HB := Aside0.mk (Below.refl w.heap.size w)
  have H : ((bywashlaw3_alive.f k).bind fun t206 => (if t206 = true then ((squeeze_Put.f k (strOfNums (([a0] : List Int)))).bind fun t210 => ((squeeze_Put.f k (strOfNums (([a1] : List Int)))).bind fun t214 => ((squeeze_Get.f k t210).bind fun bt215 => ((squeeze_Bits.f k a0).bind fun t217 => (if ((t210.toList == t214.toList) == (a0 == a1)) = true then (if bt215.2 = 0 then (if bt215.1.toList = (strOfNums (([a0] : List Int))).toList then (if t217 = 5 then (bywashlaw3_SqueezeBytes.j0 k ((t210.size : Int) == (wrap64 (Int.tdiv (wrap64 (t217 + 7)) 8)))) else (if t217 = 7 then (bywashlaw3_SqueezeBytes.j0 k ((t210.size : Int) == (wrap64 (Int.tdiv (wrap64 (t217 + 7)) 8)))) else (if t217 = 10 then (bywashlaw3_SqueezeBytes.j0 k ((t210.size : Int) == (wrap64 (Int.tdiv (wrap64 (t217 + 7)) 8)))) else (bywashlaw3_SqueezeBytes.j0 k false)))) else (bywashlaw3_SqueezeBytes.j0 k false)) else (bywashlaw3_SqueezeBytes.j0 k false)) else (bywashlaw3_SqueezeBytes.j0 k false)))))) else (some false))) = some r := h
  clear h
  replace H := Option.bind_eq_some_iff.mp H
  obtain ⟨t206, A30, H⟩ := H
  replace H : (if t206 = true then ((squeeze_Put.f k (strOfNums (([a0] : List Int)))).bind fun t210 => ((squeeze_Put.f k (strOfNums (([a1] : List Int)))).bind fun t214 => ((squeeze_Get.f k t210).bind fun bt215 => ((squeeze_Bits.f k a0).bind fun t217 => (if ((t210.toList == t214.toList) == (a0 == a1)) = true then (if bt215.2 = 0 then (if bt215.1.toList = (strOfNums (([a0] : List Int))).toList then (if t217 = 5 then (bywashlaw3_SqueezeBytes.j0 k ((t210.size : Int) == (wrap64 (Int.tdiv (wrap64 (t217 + 7)) 8)))) else (if t217 = 7 then (bywashlaw3_SqueezeBytes.j0 k ((t210.size : Int) == (wrap64 (Int.tdiv (wrap64 (t217 + 7)) 8)))) else (if t217 = 10 then (bywashlaw3_SqueezeBytes.j0 k ((t210.size : Int) == (wrap64 (Int.tdiv (wrap64 (t217 + 7)) 8)))) else (bywashlaw3_SqueezeBytes.j0 k false)))) else (bywashlaw3_SqueezeBytes.j0 k false)) else (bywashlaw3_SqueezeBytes.j0 k false)) else (bywashlaw3_SqueezeBytes.j0 k false)))))) else (some false)) = some r := H
  have A3 := Aside0.mk A30
  clear A30
  by_cases c4 : t206 = true
  · subst c4
    have H1 : ((squeeze_Put.f k (strOfNums (([a0] : List Int)))).bind fun t210 => ((squeeze_Put.f k (strOfNums (([a1] : List Int)))).bind fun t214 => ((squeeze_Get.f k t210).bind fun bt215 => ((squeeze_Bits.f k a0).bind fun t217 => (if ((t210.toList == t214.toList) == (a0 == a1)) = true then (if bt215.2 = 0 then (if bt215.1.toList = (strOfNums (([a0] : List Int))).toList then (if t217 = 5 then (bywashlaw3_SqueezeBytes.j0 k ((t210.size : Int) == (wrap64 (Int.tdiv (wrap64 (t217 + 7)) 8)))) else (if t217 = 7 then (bywashlaw3_SqueezeBytes.j0 k ((t210.size : Int) == (wrap64 (Int.tdiv (wrap64 (t217 + 7)) 8)))) else (if t217 = 10 then (bywashlaw3_SqueezeBytes.j0 k ((t210.size : Int) == (wrap64 (Int.tdiv (wrap64 (t217 + 7)) 8)))) else (bywashlaw3_SqueezeBytes.j0 k false)))) else (bywashlaw3_SqueezeBytes.j0 k false)) else (bywashlaw3_SqueezeBytes.j0 k false)) else (bywashlaw3_SqueezeBytes.j0 k false)))))) = some r := by rw [if_pos rfl] at H; exact H
    clear H
    have H := H1
    clear H1
    obtain ⟨y207, hy207⟩ : ∃ y_ : List Int, y_ = (([a0] : List Int)) := ⟨_, rfl⟩
    replace H : ((squeeze_Put.f k (strOfNums y207)).bind fun t210 => ((squeeze_Put.f k (strOfNums (([a1] : List Int)))).bind fun t214 => ((squeeze_Get.f k t210).bind fun bt215 => ((squeeze_Bits.f k a0).bind fun t217 => (if ((t210.toList == t214.toList) == (a0 == a1)) = true then (if bt215.2 = 0 then (if bt215.1.toList = (strOfNums (([a0] : List Int))).toList then (if t217 = 5 then (bywashlaw3_SqueezeBytes.j0 k ((t210.size : Int) == (wrap64 (Int.tdiv (wrap64 (t217 + 7)) 8)))) else (if t217 = 7 then (bywashlaw3_SqueezeBytes.j0 k ((t210.size : Int) == (wrap64 (Int.tdiv (wrap64 (t217 + 7)) 8)))) else (if t217 = 10 then (bywashlaw3_SqueezeBytes.j0 k ((t210.size : Int) == (wrap64 (Int.tdiv (wrap64 (t217 + 7)) 8)))) else (bywashlaw3_SqueezeBytes.j0 k false)))) else (bywashlaw3_SqueezeBytes.j0 k false)) else (bywashlaw3_SqueezeBytes.j0 k false)) else (bywashlaw3_SqueezeBytes.j0 k false)))))) = some r := by first | (rw [hy207]; with_reducible exact H) | (have H2_ := (Option.bind_some _ _).symm.trans H; rw [hy207]; with_reducible exact H2_) | (have H2_ := (Option.bind_some _ _).symm.trans H; with_reducible exact H2_) | with_reducible exact H | (rw [hy207]; exact H) | exact H
    have Ny207 := Aside0.mk hy207
    clear hy207
    replace H := Option.bind_eq_some_iff.mp H
    obtain ⟨t210, A50, H⟩ := H
    replace H : ((squeeze_Put.f k (strOfNums (([a1] : List Int)))).bind fun t214 => ((squeeze_Get.f k t210).bind fun bt215 => ((squeeze_Bits.f k a0).bind fun t217 => (if ((t210.toList == t214.toList) == (a0 == a1)) = true then (if bt215.2 = 0 then (if bt215.1.toList = (strOfNums (([a0] : List Int))).toList then (if t217 = 5 then (bywashlaw3_SqueezeBytes.j0 k ((t210.size : Int) == (wrap64 (Int.tdiv (wrap64 (t217 + 7)) 8)))) else (if t217 = 7 then (bywashlaw3_SqueezeBytes.j0 k ((t210.size : Int) == (wrap64 (Int.tdiv (wrap64 (t217 + 7)) 8)))) else (if t217 = 10 then (bywashlaw3_SqueezeBytes.j0 k ((t210.size : Int) == (wrap64 (Int.tdiv (wrap64 (t217 + 7)) 8)))) else (bywashlaw3_SqueezeBytes.j0 k false)))) else (bywashlaw3_SqueezeBytes.j0 k false)) else (bywashlaw3_SqueezeBytes.j0 k false)) else (bywashlaw3_SqueezeBytes.j0 k false))))) = some r := H
    have A5 := Aside0.mk A50
    clear A50
    obtain ⟨y211, hy211⟩ : ∃ y_ : List Int, y_ = (([a1] : List Int)) := ⟨_, rfl⟩
    replace H : ((squeeze_Put.f k (strOfNums y211)).bind fun t214 => ((squeeze_Get.f k t210).bind fun bt215 => ((squeeze_Bits.f k a0).bind fun t217 => (if ((t210.toList == t214.toList) == (a0 == a1)) = true then (if bt215.2 = 0 then (if bt215.1.toList = (strOfNums (([a0] : List Int))).toList then (if t217 = 5 then (bywashlaw3_SqueezeBytes.j0 k ((t210.size : Int) == (wrap64 (Int.tdiv (wrap64 (t217 + 7)) 8)))) else (if t217 = 7 then (bywashlaw3_SqueezeBytes.j0 k ((t210.size : Int) == (wrap64 (Int.tdiv (wrap64 (t217 + 7)) 8)))) else (if t217 = 10 then (bywashlaw3_SqueezeBytes.j0 k ((t210.size : Int) == (wrap64 (Int.tdiv (wrap64 (t217 + 7)) 8)))) else (bywashlaw3_SqueezeBytes.j0 k false)))) else (bywashlaw3_SqueezeBytes.j0 k false)) else (bywashlaw3_SqueezeBytes.j0 k false)) else (bywashlaw3_SqueezeBytes.j0 k false))))) = some r := by first | (rw [hy211]; with_reducible exact H) | (have H2_ := (Option.bind_some _ _).symm.trans H; rw [hy211]; with_reducible exact H2_) | (have H2_ := (Option.bind_some _ _).symm.trans H; with_reducible exact H2_) | with_reducible exact H | (rw [hy211]; exact H) | exact H
    have Ny211 := Aside0.mk hy211
    clear hy211
    replace H := Option.bind_eq_some_iff.mp H
    obtain ⟨t214, A60, H⟩ := H
    replace H : ((squeeze_Get.f k t210).bind fun bt215 => ((squeeze_Bits.f k a0).bind fun t217 => (if ((t210.toList == t214.toList) == (a0 == a1)) = true then (if bt215.2 = 0 then (if bt215.1.toList = (strOfNums (([a0] : List Int))).toList then (if t217 = 5 then (bywashlaw3_SqueezeBytes.j0 k ((t210.size : Int) == (wrap64 (Int.tdiv (wrap64 (t217 + 7)) 8)))) else (if t217 = 7 then (bywashlaw3_SqueezeBytes.j0 k ((t210.size : Int) == (wrap64 (Int.tdiv (wrap64 (t217 + 7)) 8)))) else (if t217 = 10 then (bywashlaw3_SqueezeBytes.j0 k ((t210.size : Int) == (wrap64 (Int.tdiv (wrap64 (t217 + 7)) 8)))) else (bywashlaw3_SqueezeBytes.j0 k false)))) else (bywashlaw3_SqueezeBytes.j0 k false)) else (bywashlaw3_SqueezeBytes.j0 k false)) else (bywashlaw3_SqueezeBytes.j0 k false)))) = some r := H
    have A6 := Aside0.mk A60
    clear A60
    replace H := Option.bind_eq_some_iff.mp H
    obtain ⟨⟨t215, t216⟩, A70, H⟩ := H
    replace H : ((squeeze_Bits.f k a0).bind fun t217 => (if ((t210.toList == t214.toList) == (a0 == a1)) = true then (if t216 = 0 then (if t215.toList = (strOfNums (([a0] : List Int))).toList then (if t217 = 5 then (bywashlaw3_SqueezeBytes.j0 k ((t210.size : Int) == (wrap64 (Int.tdiv (wrap64 (t217 + 7)) 8)))) else (if t217 = 7 then (bywashlaw3_SqueezeBytes.j0 k ((t210.size : Int) == (wrap64 (Int.tdiv (wrap64 (t217 + 7)) 8)))) else (if t217 = 10 then (bywashlaw3_SqueezeBytes.j0 k ((t210.size : Int) == (wrap64 (Int.tdiv (wrap64 (t217 + 7)) 8)))) else (bywashlaw3_SqueezeBytes.j0 k false)))) else (bywashlaw3_SqueezeBytes.j0 k false)) else (bywashlaw3_SqueezeBytes.j0 k false)) else (bywashlaw3_SqueezeBytes.j0 k false))) = some r := H
    have A7 := Aside0.mk A70
    clear A70
    replace H := Option.bind_eq_some_iff.mp H
    obtain ⟨t217, A80, H⟩ := H
    replace H : (if ((t210.toList == t214.toList) == (a0 == a1)) = true then (if t216 = 0 then (if t215.toList = (strOfNums (([a0] : List Int))).toList then (if t217 = 5 then (bywashlaw3_SqueezeBytes.j0 k ((t210.size : Int) == (wrap64 (Int.tdiv (wrap64 (t217 + 7)) 8)))) else (if t217 = 7 then (bywashlaw3_SqueezeBytes.j0 k ((t210.size : Int) == (wrap64 (Int.tdiv (wrap64 (t217 + 7)) 8)))) else (if t217 = 10 then (bywashlaw3_SqueezeBytes.j0 k ((t210.size : Int) == (wrap64 (Int.tdiv (wrap64 (t217 + 7)) 8)))) else (bywashlaw3_SqueezeBytes.j0 k false)))) else (bywashlaw3_SqueezeBytes.j0 k false)) else (bywashlaw3_SqueezeBytes.j0 k false)) else (bywashlaw3_SqueezeBytes.j0 k false)) = some r := H
    have A8 := Aside0.mk A80
    clear A80
    have HC9 := Aside0.mk H
    clear H
    go_enter Try.func12, Try.ntmps12
    try go_wp2_with (first | ((with_reducible refine gate_callee (f := 20) rfl ?_); refine goesL_ (some 10) rfl rfl Try.func20 (by kernel_rfl) rfl #[] rfl (by (try simp only [List.map_toArray, List.map_cons, List.map_nil]); first | done | rfl | (simp only [List.length_drop, List.length_take]; rfl)) ?_; (with_reducible refine (bywashlaw3_alive.calls k  true _ A3.out).mono ?_); rintro e w10 ⟨rfl, hb⟩; refine ⟨_, rfl, ?_⟩; have n0_ := Aside0.mk (below_step (by repeat (first | (with_reducible first | exact HB.out | apply below_alloc | apply pw_below_drewN | apply below_drew1) | exact HB.out)) hb); clear HB; have HB := n0_; clear n0_; (try clear hb); (try clear hb2); (try clear hk); (try clear hi)))
    have n0_ := Aside0.mk (below_drew1 HB.out)
    clear HB
    have HB := n0_
    clear n0_
    refine start_ (n := 10) (S := fun w' => True) (ds := []) #[false, false, false, false, false, false, false, false, false, false] (by kernel_rfl) rfl rfl trivial (fun hHeld => ?_); refine with_tabW bywashlaw3_SqueezeBytes.tab3 bywashlaw3_SqueezeBytes.bits3 (fun HT_ HW_ => ?_)
    generalize w10.drew = w11 at HB hHeld ⊢
    refine pure_ (i := 0) (N := some 12) (v := ?_) (a' := ?_) #[true, false, false, false, false, false, false, false, false, false] rfl rfl (any_of HT_.out (by kernel_rfl)) (fun _ _ _ h => h) (Or.inl ⟨by rfl, ?_⟩) ?_ ?_
    rotate_left
    · intro w'
      go_simp
      with_reducible rfl
    rotate_left
    · simp only [Act.put, List.setIfInBounds_toArray, List.set_cons_zero, List.set_cons_succ, i64_w, i32_w]
      rfl
    refine pure_ (i := 4) (N := some 16) (v := ?_) (a' := ?_) #[true, false, false, false, true, false, false, false, false, false] rfl rfl (any_of HT_.out (by kernel_rfl)) (fun _ _ _ h => h) (Or.inl ⟨by rfl, ?_⟩) ?_ ?_
    rotate_left
    · intro w'
      go_simp
      with_reducible rfl
    rotate_left
    · simp only [Act.put, List.setIfInBounds_toArray, List.set_cons_zero, List.set_cons_succ, i64_w, i32_w]
      rfl
    refine join_ (σ := Value × Value) 3 #[true, true, true, true, true, true, true, false, false, false] (fun s_ => [(13, s_.1), (14, .string (strOfNums y207)), (15, .string t210), (17, s_.2), (18, .string (strOfNums y211))]) (fun s_ w' => (Kd.R (Kd.int .u8) 5 w' w.heap.size (fun k_ => some k_ ≠ (s_.2 : Value).ownBlock) s_.1 y207) ∧ (Kd.R (Kd.int .u8) 5 w' w.heap.size (fun k_ => some k_ ≠ (s_.1 : Value).ownBlock) s_.2 y211) ∧ (Below w.heap.size w w')) ?_ ?_
    rotate_left
    · intro hJ1_2_3_5_6
      refine join_ (σ := Value × Value) 4 #[true, true, true, true, true, true, false, false, false, false] (fun s_ => [(13, s_.1), (14, .string (strOfNums y207)), (15, .string t210), (17, s_.2)]) (fun s_ w' => (Kd.R (Kd.int .u8) 5 w' w.heap.size (fun k_ => some k_ ≠ (s_.2 : Value).ownBlock) s_.1 y207) ∧ (Kd.R (Kd.int .u8) 5 w' w.heap.size (fun k_ => some k_ ≠ (s_.1 : Value).ownBlock) s_.2 y211) ∧ (Below w.heap.size w w')) ?_ ?_
      rotate_left
      · intro hJ1_2_3_5
        refine join_ (σ := Value × Value) 4 #[true, true, true, false, true, true, true, false, false, false] (fun s_ => [(13, s_.1), (14, .string (strOfNums y207)), (17, s_.2), (18, .string (strOfNums y211))]) (fun s_ w' => (Kd.R (Kd.int .u8) 5 w' w.heap.size (fun k_ => some k_ ≠ (s_.2 : Value).ownBlock) s_.1 y207) ∧ (Kd.R (Kd.int .u8) 5 w' w.heap.size (fun k_ => some k_ ≠ (s_.1 : Value).ownBlock) s_.2 y211) ∧ (Below w.heap.size w w')) ?_ ?_
        rotate_left
        · intro hJ1_2_5_6
          refine join_ (σ := Value) 5 #[true, true, true, true, true, false, false, false, false, false] (fun s_ => [(13, s_), (14, .string (strOfNums y207)), (15, .string t210)]) (fun s_ w' => (Kd.R (Kd.int .u8) 5 w' w.heap.size (fun _ => True) s_ y207) ∧ (Below w.heap.size w w')) ?_ ?_
          rotate_left
          · intro hJ1_2_3
            refine join_ (σ := Value × Value) 5 #[true, true, true, false, true, true, false, false, false, false] (fun s_ => [(13, s_.1), (14, .string (strOfNums y207)), (17, s_.2)]) (fun s_ w' => (Kd.R (Kd.int .u8) 5 w' w.heap.size (fun k_ => some k_ ≠ (s_.2 : Value).ownBlock) s_.1 y207) ∧ (Kd.R (Kd.int .u8) 5 w' w.heap.size (fun k_ => some k_ ≠ (s_.1 : Value).ownBlock) s_.2 y211) ∧ (Below w.heap.size w w')) ?_ ?_
            rotate_left
            · intro hJ1_2_5
              refine join_ (σ := Value × Value) 5 #[true, true, false, false, true, true, true, false, false, false] (fun s_ => [(13, s_.1), (17, s_.2), (18, .string (strOfNums y211))]) (fun s_ w' => (Kd.R (Kd.int .u8) 5 w' w.heap.size (fun k_ => some k_ ≠ (s_.2 : Value).ownBlock) s_.1 y207) ∧ (Kd.R (Kd.int .u8) 5 w' w.heap.size (fun k_ => some k_ ≠ (s_.1 : Value).ownBlock) s_.2 y211) ∧ (Below w.heap.size w w')) ?_ ?_
              rotate_left
              · intro hJ1_5_6
                refine join_ (σ := Value) 6 #[true, true, true, false, true, false, false, false, false, false] (fun s_ => [(13, s_), (14, .string (strOfNums y207))]) (fun s_ w' => (Kd.R (Kd.int .u8) 5 w' w.heap.size (fun _ => True) s_ y207) ∧ (Below w.heap.size w w')) ?_ ?_
                rotate_left
                · intro hJ1_2
                  refine join_ (σ := Value × Value) 6 #[true, true, false, false, true, true, false, false, false, false] (fun s_ => [(13, s_.1), (17, s_.2)]) (fun s_ w' => (Kd.R (Kd.int .u8) 5 w' w.heap.size (fun k_ => some k_ ≠ (s_.2 : Value).ownBlock) s_.1 y207) ∧ (Kd.R (Kd.int .u8) 5 w' w.heap.size (fun k_ => some k_ ≠ (s_.1 : Value).ownBlock) s_.2 y211) ∧ (Below w.heap.size w w')) ?_ ?_
                  rotate_left
                  · intro hJ1_5
                    refine join_ (σ := Value) 6 #[true, false, false, false, true, true, true, false, false, false] (fun s_ => [(17, s_), (18, .string (strOfNums y211))]) (fun s_ w' => (Kd.R (Kd.int .u8) 5 w' w.heap.size (fun _ => True) s_ y211) ∧ (Below w.heap.size w w')) ?_ ?_
                    rotate_left
                    · intro hJ5_6
                      refine join_ (σ := Value) 7 #[true, true, false, false, true, false, false, false, false, false] (fun s_ => [(13, s_)]) (fun s_ w' => (Kd.R (Kd.int .u8) 5 w' w.heap.size (fun _ => True) s_ y207) ∧ (Below w.heap.size w w')) ?_ ?_
                      rotate_left
                      · intro hJ1
                        refine join_ (σ := Value) 7 #[true, false, false, false, true, true, false, false, false, false] (fun s_ => [(17, s_)]) (fun s_ w' => (Kd.R (Kd.int .u8) 5 w' w.heap.size (fun _ => True) s_ y211) ∧ (Below w.heap.size w w')) ?_ ?_
                        rotate_left
                        · intro hJ5
                          refine two_ (i := 1) (j := 5) (Ni := some 13) (Nj := some 17) #[true, true, false, false, true, false, false, false, false, false] #[true, false, false, false, true, true, false, false, false, false] rfl rfl rfl rfl (two_of HT_.out (by kernel_rfl)) (by decide) (by decide) (fun K hK => ?_) (fun K hK => ?_)
                          · skip
                            refine Kd.R_lit_step (Kd.int .u8) _ 5 ?hg (N := 13) ?hd (xs := ([a0] : List Int)) (inner := [.int .u8 a0]) (ok := fun _ => True) (okp := fun _ => True) ?hr ?hp (fun _ hk => hk) trivial (Below.refl _ _) (Nat.le_refl _) (by simp) ?_; (case hd => rfl); (case hg => rfl); (case hr => first | (go_simp; done) | (go_simp; rfl)); (case hp => exact (Reps.one (show Kd.M (Kd.int .u8) _ _ _ a0 [.int .u8 a0] from rfl) (Reps.none _ _)))
                            intro v208 w12 ho13 hb hg_ hnew_
                            clear hg_ hnew_
                            (first | rw [← Ny207.out] at ho13 | (simp only [Int.reduceToNat] at ho13; rw [← Ny207.out] at ho13))
                            have n0_ := Aside0.mk (Kd.R_lower ho13 (below_size (by repeat (first | (with_reducible first | exact HB.out | apply below_alloc | apply pw_below_drewN | apply below_drew1) | exact HB.out))))
                            have n1_ := Aside0.mk (below_step (by repeat (first | (with_reducible first | exact HB.out | apply below_alloc | apply pw_below_drewN | apply below_drew1) | exact HB.out)) hb)
                            clear HB
                            have HO209 := n0_
                            have HB := n1_
                            clear n0_ n1_
                            clear hb ho13
                            refine hK.out _ _ trivial (fun hHeld => ?_)
                            clear hK K
                            refine norm_ (a' := ?_) ?_ ?_
                            rotate_left
                            · show Act.put _ (some 13) _ = _
                              simp only [Act.put, List.setIfInBounds_toArray, List.set_cons_zero, List.set_cons_succ, i64_w, i32_w]
                              rfl
                            exact norm_ (by first | (simp only [putAll, Act.put, List.setIfInBounds_toArray, List.set_cons_zero, List.set_cons_succ]; done) | (simp only [putAll, Act.put, List.setIfInBounds_toArray, List.set_cons_zero, List.set_cons_succ]; rfl)) (hJ1 (v208) _ ⟨(by (with_reducible repeat (first | apply Kd.R_alloc | apply Kd.R_drewN | apply Kd.R_drew)); exact HO209.out), (by repeat (first | (with_reducible first | exact HB.out | apply below_alloc | apply pw_below_drewN | apply below_drew1) | exact HB.out))⟩)
                          · skip
                            refine Kd.R_lit_step (Kd.int .u8) _ 5 ?hg (N := 17) ?hd (xs := ([a1] : List Int)) (inner := [.int .u8 a1]) (ok := fun _ => True) (okp := fun _ => True) ?hr ?hp (fun _ hk => hk) trivial (Below.refl _ _) (Nat.le_refl _) (by simp) ?_; (case hd => rfl); (case hg => rfl); (case hr => first | (go_simp; done) | (go_simp; rfl)); (case hp => exact (Reps.one (show Kd.M (Kd.int .u8) _ _ _ a1 [.int .u8 a1] from rfl) (Reps.none _ _)))
                            intro v212 w12 ho13 hb hg_ hnew_
                            clear hg_ hnew_
                            (first | rw [← Ny211.out] at ho13 | (simp only [Int.reduceToNat] at ho13; rw [← Ny211.out] at ho13))
                            have n0_ := Aside0.mk (Kd.R_lower ho13 (below_size (by repeat (first | (with_reducible first | exact HB.out | apply below_alloc | apply pw_below_drewN | apply below_drew1) | exact HB.out))))
                            have n1_ := Aside0.mk (below_step (by repeat (first | (with_reducible first | exact HB.out | apply below_alloc | apply pw_below_drewN | apply below_drew1) | exact HB.out)) hb)
                            clear HB
                            have HO213 := n0_
                            have HB := n1_
                            clear n0_ n1_
                            clear hb ho13
                            refine hK.out _ _ trivial (fun hHeld => ?_)
                            clear hK K
                            refine norm_ (a' := ?_) ?_ ?_
                            rotate_left
                            · show Act.put _ (some 17) _ = _
                              simp only [Act.put, List.setIfInBounds_toArray, List.set_cons_zero, List.set_cons_succ, i64_w, i32_w]
                              rfl
                            exact norm_ (by first | (simp only [putAll, Act.put, List.setIfInBounds_toArray, List.set_cons_zero, List.set_cons_succ]; done) | (simp only [putAll, Act.put, List.setIfInBounds_toArray, List.set_cons_zero, List.set_cons_succ]; rfl)) (hJ5 (v212) _ ⟨(by (with_reducible repeat (first | apply Kd.R_alloc | apply Kd.R_drewN | apply Kd.R_drew)); exact HO213.out), (by repeat (first | (with_reducible first | exact HB.out | apply below_alloc | apply pw_below_drewN | apply below_drew1) | exact HB.out))⟩)
                        · skip
                          rintro v212 w14 ⟨h0_, h1_⟩
                          have n0_ : Aside0 (Kd.R (Kd.int .u8) 5 w14 w.heap.size (fun _ => True) v212 y211) := ⟨h0_⟩
                          have n1_ : Aside0 (Below w.heap.size w w14) := ⟨h1_⟩
                          clear HB
                          clear h0_ h1_
                          have HO213 := n0_
                          have HB := n1_
                          clear n0_ n1_
                          have hHeld := trivial
                          refine norm_ (a' := ?_) ?_ ?_
                          rotate_left
                          · simp only [putAll, Act.put, List.setIfInBounds_toArray, List.set_cons_zero, List.set_cons_succ]
                            rfl
                          refine two_ (i := 1) (j := 6) (Ni := some 13) (Nj := some 18) #[true, true, false, false, true, true, false, false, false, false] #[true, false, false, false, true, true, true, false, false, false] rfl rfl rfl rfl (two_of HT_.out (by kernel_rfl)) (by decide) (by decide) (fun K hK => ?_) (fun K hK => ?_)
                          · skip
                            refine Kd.R_lit_step (Kd.int .u8) _ 5 ?hg (N := 13) ?hd (xs := ([a0] : List Int)) (inner := [.int .u8 a0]) (ok := fun _ => True) (okp := fun _ => True) ?hr ?hp (fun _ hk => hk) trivial (Below.refl _ _) (Nat.le_refl _) (by simp) ?_; (case hd => rfl); (case hg => rfl); (case hr => first | (go_simp; done) | (go_simp; rfl)); (case hp => exact (Reps.one (show Kd.M (Kd.int .u8) _ _ _ a0 [.int .u8 a0] from rfl) (Reps.none _ _)))
                            intro v208 w15 ho16 hb hg_ hnew_
                            clear hg_ hnew_
                            (first | rw [← Ny207.out] at ho16 | (simp only [Int.reduceToNat] at ho16; rw [← Ny207.out] at ho16))
                            have n0_ := Aside0.mk (Kd.R_elder' (by (with_reducible repeat (first | apply Kd.R_alloc | apply Kd.R_drewN | apply Kd.R_drew)); exact HO213.out) (Kd.R_base ho16) hb)
                            have n1_ := Aside0.mk (Kd.R_lower (Kd.R_new' ho16 (Kd.R_lt (by (with_reducible repeat (first | apply Kd.R_alloc | apply Kd.R_drewN | apply Kd.R_drew)); exact HO213.out))) (below_size (by repeat (first | (with_reducible first | exact HB.out | apply below_alloc | apply pw_below_drewN | apply below_drew1) | exact HB.out))))
                            have n2_ := Aside0.mk (below_step (by repeat (first | (with_reducible first | exact HB.out | apply below_alloc | apply pw_below_drewN | apply below_drew1) | exact HB.out)) hb)
                            clear HO213
                            clear HB
                            have HO213 := n0_
                            have HO209 := n1_
                            have HB := n2_
                            clear n0_ n1_ n2_
                            clear hb ho16
                            refine hK.out _ _ trivial (fun hHeld => ?_)
                            clear hK K
                            refine norm_ (a' := ?_) ?_ ?_
                            rotate_left
                            · show Act.put _ (some 13) _ = _
                              simp only [Act.put, List.setIfInBounds_toArray, List.set_cons_zero, List.set_cons_succ, i64_w, i32_w]
                              rfl
                            exact norm_ (by first | (simp only [putAll, Act.put, List.setIfInBounds_toArray, List.set_cons_zero, List.set_cons_succ]; done) | (simp only [putAll, Act.put, List.setIfInBounds_toArray, List.set_cons_zero, List.set_cons_succ]; rfl)) (hJ1_5 (v208, v212) _ ⟨(by (with_reducible repeat (first | apply Kd.R_alloc | apply Kd.R_drewN | apply Kd.R_drew)); exact Kd.R_mono HO209.out (fun _ hk => hk.2)), (by (with_reducible repeat (first | apply Kd.R_alloc | apply Kd.R_drewN | apply Kd.R_drew)); exact Kd.R_mono HO213.out (fun _ hk => hk.2)), (by repeat (first | (with_reducible first | exact HB.out | apply below_alloc | apply pw_below_drewN | apply below_drew1) | exact HB.out))⟩)
                          · skip
                            have hcv15 := own_string (P := Try.prog) Try.underlying32 Try.underlying5 Try.underlying9 (Kd.own_of_R HO213.out)
                            refine value_ (w1 := ?_) (v := ?_) (by rfl) rfl ?_ ?_
                            rotate_left 2
                            · go_simp
                              constructor
                              · rfl
                              · rfl
                            clear hcv15
                            refine hK.out _ _ trivial (fun hHeld => ?_)
                            clear hK K
                            refine norm_ (a' := ?_) ?_ ?_
                            rotate_left
                            · show Act.put _ (some 18) _ = _
                              simp only [Act.put, List.setIfInBounds_toArray, List.set_cons_zero, List.set_cons_succ, i64_w, i32_w]
                              rfl
                            exact norm_ (by first | (simp only [putAll, Act.put, List.setIfInBounds_toArray, List.set_cons_zero, List.set_cons_succ]; done) | (simp only [putAll, Act.put, List.setIfInBounds_toArray, List.set_cons_zero, List.set_cons_succ]; rfl)) (hJ5_6 (v212) _ ⟨(by (with_reducible repeat (first | apply Kd.R_alloc | apply Kd.R_drewN | apply Kd.R_drew)); exact HO213.out), (by repeat (first | (with_reducible first | exact HB.out | apply below_alloc | apply pw_below_drewN | apply below_drew1) | exact HB.out))⟩)
                      · skip
                        rintro v208 w14 ⟨h0_, h1_⟩
                        have n0_ : Aside0 (Kd.R (Kd.int .u8) 5 w14 w.heap.size (fun _ => True) v208 y207) := ⟨h0_⟩
                        have n1_ : Aside0 (Below w.heap.size w w14) := ⟨h1_⟩
                        clear HB
                        clear h0_ h1_
                        have HO209 := n0_
                        have HB := n1_
                        clear n0_ n1_
                        have hHeld := trivial
                        refine norm_ (a' := ?_) ?_ ?_
                        rotate_left
                        · simp only [putAll, Act.put, List.setIfInBounds_toArray, List.set_cons_zero, List.set_cons_succ]
                          rfl
                        refine two_ (i := 2) (j := 5) (Ni := some 14) (Nj := some 17) #[true, true, true, false, true, false, false, false, false, false] #[true, true, false, false, true, true, false, false, false, false] rfl rfl rfl rfl (two_of HT_.out (by kernel_rfl)) (by decide) (by decide) (fun K hK => ?_) (fun K hK => ?_)
                        · skip
                          have hcv15 := own_string (P := Try.prog) Try.underlying32 Try.underlying5 Try.underlying9 (Kd.own_of_R HO209.out)
                          refine value_ (w1 := ?_) (v := ?_) (by rfl) rfl ?_ ?_
                          rotate_left 2
                          · go_simp
                            constructor
                            · rfl
                            · rfl
                          clear hcv15
                          refine hK.out _ _ trivial (fun hHeld => ?_)
                          clear hK K
                          refine norm_ (a' := ?_) ?_ ?_
                          rotate_left
                          · show Act.put _ (some 14) _ = _
                            simp only [Act.put, List.setIfInBounds_toArray, List.set_cons_zero, List.set_cons_succ, i64_w, i32_w]
                            rfl
                          exact norm_ (by first | (simp only [putAll, Act.put, List.setIfInBounds_toArray, List.set_cons_zero, List.set_cons_succ]; done) | (simp only [putAll, Act.put, List.setIfInBounds_toArray, List.set_cons_zero, List.set_cons_succ]; rfl)) (hJ1_2 (v208) _ ⟨(by (with_reducible repeat (first | apply Kd.R_alloc | apply Kd.R_drewN | apply Kd.R_drew)); exact HO209.out), (by repeat (first | (with_reducible first | exact HB.out | apply below_alloc | apply pw_below_drewN | apply below_drew1) | exact HB.out))⟩)
                        · skip
                          refine Kd.R_lit_step (Kd.int .u8) _ 5 ?hg (N := 17) ?hd (xs := ([a1] : List Int)) (inner := [.int .u8 a1]) (ok := fun _ => True) (okp := fun _ => True) ?hr ?hp (fun _ hk => hk) trivial (Below.refl _ _) (Nat.le_refl _) (by simp) ?_; (case hd => rfl); (case hg => rfl); (case hr => first | (go_simp; done) | (go_simp; rfl)); (case hp => exact (Reps.one (show Kd.M (Kd.int .u8) _ _ _ a1 [.int .u8 a1] from rfl) (Reps.none _ _)))
                          intro v212 w15 ho16 hb hg_ hnew_
                          clear hg_ hnew_
                          (first | rw [← Ny211.out] at ho16 | (simp only [Int.reduceToNat] at ho16; rw [← Ny211.out] at ho16))
                          have n0_ := Aside0.mk (Kd.R_elder' (by (with_reducible repeat (first | apply Kd.R_alloc | apply Kd.R_drewN | apply Kd.R_drew)); exact HO209.out) (Kd.R_base ho16) hb)
                          have n1_ := Aside0.mk (Kd.R_lower (Kd.R_new' ho16 (Kd.R_lt (by (with_reducible repeat (first | apply Kd.R_alloc | apply Kd.R_drewN | apply Kd.R_drew)); exact HO209.out))) (below_size (by repeat (first | (with_reducible first | exact HB.out | apply below_alloc | apply pw_below_drewN | apply below_drew1) | exact HB.out))))
                          have n2_ := Aside0.mk (below_step (by repeat (first | (with_reducible first | exact HB.out | apply below_alloc | apply pw_below_drewN | apply below_drew1) | exact HB.out)) hb)
                          clear HO209
                          clear HB
                          have HO209 := n0_
                          have HO213 := n1_
                          have HB := n2_
                          clear n0_ n1_ n2_
                          clear hb ho16
                          refine hK.out _ _ trivial (fun hHeld => ?_)
                          clear hK K
                          refine norm_ (a' := ?_) ?_ ?_
                          rotate_left
                          · show Act.put _ (some 17) _ = _
                            simp only [Act.put, List.setIfInBounds_toArray, List.set_cons_zero, List.set_cons_succ, i64_w, i32_w]
                            rfl
                          exact norm_ (by first | (simp only [putAll, Act.put, List.setIfInBounds_toArray, List.set_cons_zero, List.set_cons_succ]; done) | (simp only [putAll, Act.put, List.setIfInBounds_toArray, List.set_cons_zero, List.set_cons_succ]; rfl)) (hJ1_5 (v208, v212) _ ⟨(by (with_reducible repeat (first | apply Kd.R_alloc | apply Kd.R_drewN | apply Kd.R_drew)); exact Kd.R_mono HO209.out (fun _ hk => hk.2)), (by (with_reducible repeat (first | apply Kd.R_alloc | apply Kd.R_drewN | apply Kd.R_drew)); exact Kd.R_mono HO213.out (fun _ hk => hk.2)), (by repeat (first | (with_reducible first | exact HB.out | apply below_alloc | apply pw_below_drewN | apply below_drew1) | exact HB.out))⟩)
                    · skip
                      rintro v212 w15 ⟨h0_, h1_⟩
                      have n0_ : Aside0 (Kd.R (Kd.int .u8) 5 w15 w.heap.size (fun _ => True) v212 y211) := ⟨h0_⟩
                      have n1_ : Aside0 (Below w.heap.size w w15) := ⟨h1_⟩
                      clear HB
                      clear h0_ h1_
                      have HO213 := n0_
                      have HB := n1_
                      clear n0_ n1_
                      have hHeld := trivial
                      refine norm_ (a' := ?_) ?_ ?_
                      rotate_left
                      · simp only [putAll, Act.put, List.setIfInBounds_toArray, List.set_cons_zero, List.set_cons_succ]
                        rfl
                      refine one_ (i := 1) (N := some 13) #[true, true, false, false, true, true, true, false, false, false] rfl rfl (one_of HT_.out (by kernel_rfl)) (by decide) (fun K hK => ?_)
                      refine Kd.R_lit_step (Kd.int .u8) _ 5 ?hg (N := 13) ?hd (xs := ([a0] : List Int)) (inner := [.int .u8 a0]) (ok := fun _ => True) (okp := fun _ => True) ?hr ?hp (fun _ hk => hk) trivial (Below.refl _ _) (Nat.le_refl _) (by simp) ?_; (case hd => rfl); (case hg => rfl); (case hr => first | (go_simp; done) | (go_simp; rfl)); (case hp => exact (Reps.one (show Kd.M (Kd.int .u8) _ _ _ a0 [.int .u8 a0] from rfl) (Reps.none _ _)))
                      intro v208 w16 ho17 hb hg_ hnew_
                      clear hg_ hnew_
                      (first | rw [← Ny207.out] at ho17 | (simp only [Int.reduceToNat] at ho17; rw [← Ny207.out] at ho17))
                      have n0_ := Aside0.mk (Kd.R_elder' (by (with_reducible repeat (first | apply Kd.R_alloc | apply Kd.R_drewN | apply Kd.R_drew)); exact HO213.out) (Kd.R_base ho17) hb)
                      have n1_ := Aside0.mk (Kd.R_lower (Kd.R_new' ho17 (Kd.R_lt (by (with_reducible repeat (first | apply Kd.R_alloc | apply Kd.R_drewN | apply Kd.R_drew)); exact HO213.out))) (below_size (by repeat (first | (with_reducible first | exact HB.out | apply below_alloc | apply pw_below_drewN | apply below_drew1) | exact HB.out))))
                      have n2_ := Aside0.mk (below_step (by repeat (first | (with_reducible first | exact HB.out | apply below_alloc | apply pw_below_drewN | apply below_drew1) | exact HB.out)) hb)
                      clear HO213
                      clear HB
                      have HO213 := n0_
                      have HO209 := n1_
                      have HB := n2_
                      clear n0_ n1_ n2_
                      clear hb ho17
                      refine hK.out _ _ trivial (fun hHeld => ?_)
                      clear hK K
                      refine norm_ (a' := ?_) ?_ ?_
                      rotate_left
                      · show Act.put _ (some 13) _ = _
                        simp only [Act.put, List.setIfInBounds_toArray, List.set_cons_zero, List.set_cons_succ, i64_w, i32_w]
                        rfl
                      exact norm_ (by first | (simp only [putAll, Act.put, List.setIfInBounds_toArray, List.set_cons_zero, List.set_cons_succ]; done) | (simp only [putAll, Act.put, List.setIfInBounds_toArray, List.set_cons_zero, List.set_cons_succ]; rfl)) (hJ1_5_6 (v208, v212) _ ⟨(by (with_reducible repeat (first | apply Kd.R_alloc | apply Kd.R_drewN | apply Kd.R_drew)); exact Kd.R_mono HO209.out (fun _ hk => hk.2)), (by (with_reducible repeat (first | apply Kd.R_alloc | apply Kd.R_drewN | apply Kd.R_drew)); exact Kd.R_mono HO213.out (fun _ hk => hk.2)), (by repeat (first | (with_reducible first | exact HB.out | apply below_alloc | apply pw_below_drewN | apply below_drew1) | exact HB.out))⟩)
                  · skip
                    rintro ⟨v208, v212⟩ w16 ⟨h0_, h1_, h2_⟩
                    have n0_ : Aside0 (Kd.R (Kd.int .u8) 5 w16 w.heap.size (fun k_ => some k_ ≠ (v212 : Value).ownBlock) v208 y207) := ⟨h0_⟩
                    have n1_ : Aside0 (Kd.R (Kd.int .u8) 5 w16 w.heap.size (fun k_ => some k_ ≠ (v208 : Value).ownBlock) v212 y211) := ⟨h1_⟩
                    have n2_ : Aside0 (Below w.heap.size w w16) := ⟨h2_⟩
                    clear HB
                    clear h0_ h1_ h2_
                    have HO209 := n0_
                    have HO213 := n1_
                    have HB := n2_
                    clear n0_ n1_ n2_
                    have hHeld := trivial
                    refine norm_ (a' := ?_) ?_ ?_
                    rotate_left
                    · simp only [putAll, Act.put, List.setIfInBounds_toArray, List.set_cons_zero, List.set_cons_succ]
                      rfl
                    refine two_ (i := 2) (j := 6) (Ni := some 14) (Nj := some 18) #[true, true, true, false, true, true, false, false, false, false] #[true, true, false, false, true, true, true, false, false, false] rfl rfl rfl rfl (two_of HT_.out (by kernel_rfl)) (by decide) (by decide) (fun K hK => ?_) (fun K hK => ?_)
                    · skip
                      have hcv17 := own_string (P := Try.prog) Try.underlying32 Try.underlying5 Try.underlying9 (Kd.own_of_R HO209.out)
                      refine value_ (w1 := ?_) (v := ?_) (by rfl) rfl ?_ ?_
                      rotate_left 2
                      · go_simp
                        constructor
                        · rfl
                        · rfl
                      clear hcv17
                      refine hK.out _ _ trivial (fun hHeld => ?_)
                      clear hK K
                      refine norm_ (a' := ?_) ?_ ?_
                      rotate_left
                      · show Act.put _ (some 14) _ = _
                        simp only [Act.put, List.setIfInBounds_toArray, List.set_cons_zero, List.set_cons_succ, i64_w, i32_w]
                        rfl
                      exact norm_ (by first | (simp only [putAll, Act.put, List.setIfInBounds_toArray, List.set_cons_zero, List.set_cons_succ]; done) | (simp only [putAll, Act.put, List.setIfInBounds_toArray, List.set_cons_zero, List.set_cons_succ]; rfl)) (hJ1_2_5 (v208, v212) _ ⟨(by (with_reducible repeat (first | apply Kd.R_alloc | apply Kd.R_drewN | apply Kd.R_drew)); exact HO209.out), (by (with_reducible repeat (first | apply Kd.R_alloc | apply Kd.R_drewN | apply Kd.R_drew)); exact HO213.out), (by repeat (first | (with_reducible first | exact HB.out | apply below_alloc | apply pw_below_drewN | apply below_drew1) | exact HB.out))⟩)
                    · skip
                      have hcv17 := own_string (P := Try.prog) Try.underlying32 Try.underlying5 Try.underlying9 (Kd.own_of_R HO213.out)
                      refine value_ (w1 := ?_) (v := ?_) (by rfl) rfl ?_ ?_
                      rotate_left 2
                      · go_simp
                        constructor
                        · rfl
                        · rfl
                      clear hcv17
                      refine hK.out _ _ trivial (fun hHeld => ?_)
                      clear hK K
                      refine norm_ (a' := ?_) ?_ ?_
                      rotate_left
                      · show Act.put _ (some 18) _ = _
                        simp only [Act.put, List.setIfInBounds_toArray, List.set_cons_zero, List.set_cons_succ, i64_w, i32_w]
                        rfl
                      exact norm_ (by first | (simp only [putAll, Act.put, List.setIfInBounds_toArray, List.set_cons_zero, List.set_cons_succ]; done) | (simp only [putAll, Act.put, List.setIfInBounds_toArray, List.set_cons_zero, List.set_cons_succ]; rfl)) (hJ1_5_6 (v208, v212) _ ⟨(by (with_reducible repeat (first | apply Kd.R_alloc | apply Kd.R_drewN | apply Kd.R_drew)); exact HO209.out), (by (with_reducible repeat (first | apply Kd.R_alloc | apply Kd.R_drewN | apply Kd.R_drew)); exact HO213.out), (by repeat (first | (with_reducible first | exact HB.out | apply below_alloc | apply pw_below_drewN | apply below_drew1) | exact HB.out))⟩)
                · skip
                  rintro v208 w15 ⟨h0_, h1_⟩
                  have n0_ : Aside0 (Kd.R (Kd.int .u8) 5 w15 w.heap.size (fun _ => True) v208 y207) := ⟨h0_⟩
                  have n1_ : Aside0 (Below w.heap.size w w15) := ⟨h1_⟩
                  clear HB
                  clear h0_ h1_
                  have HO209 := n0_
                  have HB := n1_
                  clear n0_ n1_
                  have hHeld := trivial
                  refine norm_ (a' := ?_) ?_ ?_
                  rotate_left
                  · simp only [putAll, Act.put, List.setIfInBounds_toArray, List.set_cons_zero, List.set_cons_succ]
                    rfl
                  refine two_ (i := 3) (j := 5) (Ni := some 15) (Nj := some 17) #[true, true, true, true, true, false, false, false, false, false] #[true, true, true, false, true, true, false, false, false, false] rfl rfl rfl rfl (two_of HT_.out (by kernel_rfl)) (by decide) (by decide) (fun K hK => ?_) (fun K hK => ?_)
                  · skip
                    refine goes_ Try.func21 (by kernel_rfl) rfl #[.string (strOfNums y207)] (by rfl) rfl rfl (by (try simp only [List.map_toArray, List.map_cons, List.map_nil]); first | done | rfl | (simp only [List.length_drop, List.length_take]; rfl)) ?_
                    with_reducible refine (squeeze_Put.calls k (strOfNums y207) t210 _ A5.out).mono ?_
                    rintro e w16 ⟨rfl, hb⟩
                    refine ⟨_, rfl, ?_⟩
                    have n0_ := Aside0.mk (Kd.R_below (by (with_reducible repeat (first | apply Kd.R_alloc | apply Kd.R_drewN | apply Kd.R_drew)); exact HO209.out) hb)
                    have n1_ := Aside0.mk (below_step (by repeat (first | (with_reducible first | exact HB.out | apply below_alloc | apply pw_below_drewN | apply below_drew1) | exact HB.out)) hb)
                    clear HO209
                    clear HB
                    have HO209 := n0_
                    have HB := n1_
                    clear n0_ n1_
                    (try clear hb)
                    (try clear hb2)
                    (try clear hk)
                    (try clear hi)
                    refine hK.out _ _ trivial (fun hHeld => ?_)
                    clear hK K
                    refine norm_ (a' := ?_) ?_ ?_
                    rotate_left
                    · show Act.put _ (some 15) _ = _
                      simp only [Act.put, List.setIfInBounds_toArray, List.set_cons_zero, List.set_cons_succ, i64_w, i32_w]
                      rfl
                    exact norm_ (by first | (simp only [putAll, Act.put, List.setIfInBounds_toArray, List.set_cons_zero, List.set_cons_succ]; done) | (simp only [putAll, Act.put, List.setIfInBounds_toArray, List.set_cons_zero, List.set_cons_succ]; rfl)) (hJ1_2_3 (v208) _ ⟨(by (with_reducible repeat (first | apply Kd.R_alloc | apply Kd.R_drewN | apply Kd.R_drew)); exact HO209.out), (by repeat (first | (with_reducible first | exact HB.out | apply below_alloc | apply pw_below_drewN | apply below_drew1) | exact HB.out))⟩)
                  · skip
                    refine Kd.R_lit_step (Kd.int .u8) _ 5 ?hg (N := 17) ?hd (xs := ([a1] : List Int)) (inner := [.int .u8 a1]) (ok := fun _ => True) (okp := fun _ => True) ?hr ?hp (fun _ hk => hk) trivial (Below.refl _ _) (Nat.le_refl _) (by simp) ?_; (case hd => rfl); (case hg => rfl); (case hr => first | (go_simp; done) | (go_simp; rfl)); (case hp => exact (Reps.one (show Kd.M (Kd.int .u8) _ _ _ a1 [.int .u8 a1] from rfl) (Reps.none _ _)))
                    intro v212 w16 ho17 hb hg_ hnew_
                    clear hg_ hnew_
                    (first | rw [← Ny211.out] at ho17 | (simp only [Int.reduceToNat] at ho17; rw [← Ny211.out] at ho17))
                    have n0_ := Aside0.mk (Kd.R_elder' (by (with_reducible repeat (first | apply Kd.R_alloc | apply Kd.R_drewN | apply Kd.R_drew)); exact HO209.out) (Kd.R_base ho17) hb)
                    have n1_ := Aside0.mk (Kd.R_lower (Kd.R_new' ho17 (Kd.R_lt (by (with_reducible repeat (first | apply Kd.R_alloc | apply Kd.R_drewN | apply Kd.R_drew)); exact HO209.out))) (below_size (by repeat (first | (with_reducible first | exact HB.out | apply below_alloc | apply pw_below_drewN | apply below_drew1) | exact HB.out))))
                    have n2_ := Aside0.mk (below_step (by repeat (first | (with_reducible first | exact HB.out | apply below_alloc | apply pw_below_drewN | apply below_drew1) | exact HB.out)) hb)
                    clear HO209
                    clear HB
                    have HO209 := n0_
                    have HO213 := n1_
                    have HB := n2_
                    clear n0_ n1_ n2_
                    clear hb ho17
                    refine hK.out _ _ trivial (fun hHeld => ?_)
                    clear hK K
                    refine norm_ (a' := ?_) ?_ ?_
                    rotate_left
                    · show Act.put _ (some 17) _ = _
                      simp only [Act.put, List.setIfInBounds_toArray, List.set_cons_zero, List.set_cons_succ, i64_w, i32_w]
                      rfl
                    exact norm_ (by first | (simp only [putAll, Act.put, List.setIfInBounds_toArray, List.set_cons_zero, List.set_cons_succ]; done) | (simp only [putAll, Act.put, List.setIfInBounds_toArray, List.set_cons_zero, List.set_cons_succ]; rfl)) (hJ1_2_5 (v208, v212) _ ⟨(by (with_reducible repeat (first | apply Kd.R_alloc | apply Kd.R_drewN | apply Kd.R_drew)); exact Kd.R_mono HO209.out (fun _ hk => hk.2)), (by (with_reducible repeat (first | apply Kd.R_alloc | apply Kd.R_drewN | apply Kd.R_drew)); exact Kd.R_mono HO213.out (fun _ hk => hk.2)), (by repeat (first | (with_reducible first | exact HB.out | apply below_alloc | apply pw_below_drewN | apply below_drew1) | exact HB.out))⟩)
              · skip
                rintro ⟨v208, v212⟩ w17 ⟨h0_, h1_, h2_⟩
                have n0_ : Aside0 (Kd.R (Kd.int .u8) 5 w17 w.heap.size (fun k_ => some k_ ≠ (v212 : Value).ownBlock) v208 y207) := ⟨h0_⟩
                have n1_ : Aside0 (Kd.R (Kd.int .u8) 5 w17 w.heap.size (fun k_ => some k_ ≠ (v208 : Value).ownBlock) v212 y211) := ⟨h1_⟩
                have n2_ : Aside0 (Below w.heap.size w w17) := ⟨h2_⟩
                clear HB
                clear h0_ h1_ h2_
                have HO209 := n0_
                have HO213 := n1_
                have HB := n2_
                clear n0_ n1_ n2_
                have hHeld := trivial
                refine norm_ (a' := ?_) ?_ ?_
                rotate_left
                · simp only [putAll, Act.put, List.setIfInBounds_toArray, List.set_cons_zero, List.set_cons_succ]
                  rfl
                refine one_ (i := 2) (N := some 14) #[true, true, true, false, true, true, true, false, false, false] rfl rfl (one_of HT_.out (by kernel_rfl)) (by decide) (fun K hK => ?_)
                have hcv18 := own_string (P := Try.prog) Try.underlying32 Try.underlying5 Try.underlying9 (Kd.own_of_R HO209.out)
                refine value_ (w1 := ?_) (v := ?_) (by rfl) rfl ?_ ?_
                rotate_left 2
                · go_simp
                  constructor
                  · rfl
                  · rfl
                clear hcv18
                refine hK.out _ _ trivial (fun hHeld => ?_)
                clear hK K
                refine norm_ (a' := ?_) ?_ ?_
                rotate_left
                · show Act.put _ (some 14) _ = _
                  simp only [Act.put, List.setIfInBounds_toArray, List.set_cons_zero, List.set_cons_succ, i64_w, i32_w]
                  rfl
                exact norm_ (by first | (simp only [putAll, Act.put, List.setIfInBounds_toArray, List.set_cons_zero, List.set_cons_succ]; done) | (simp only [putAll, Act.put, List.setIfInBounds_toArray, List.set_cons_zero, List.set_cons_succ]; rfl)) (hJ1_2_5_6 (v208, v212) _ ⟨(by (with_reducible repeat (first | apply Kd.R_alloc | apply Kd.R_drewN | apply Kd.R_drew)); exact HO209.out), (by (with_reducible repeat (first | apply Kd.R_alloc | apply Kd.R_drewN | apply Kd.R_drew)); exact HO213.out), (by repeat (first | (with_reducible first | exact HB.out | apply below_alloc | apply pw_below_drewN | apply below_drew1) | exact HB.out))⟩)
            · skip
              rintro ⟨v208, v212⟩ w17 ⟨h0_, h1_, h2_⟩
              have n0_ : Aside0 (Kd.R (Kd.int .u8) 5 w17 w.heap.size (fun k_ => some k_ ≠ (v212 : Value).ownBlock) v208 y207) := ⟨h0_⟩
              have n1_ : Aside0 (Kd.R (Kd.int .u8) 5 w17 w.heap.size (fun k_ => some k_ ≠ (v208 : Value).ownBlock) v212 y211) := ⟨h1_⟩
              have n2_ : Aside0 (Below w.heap.size w w17) := ⟨h2_⟩
              clear HB
              clear h0_ h1_ h2_
              have HO209 := n0_
              have HO213 := n1_
              have HB := n2_
              clear n0_ n1_ n2_
              have hHeld := trivial
              refine norm_ (a' := ?_) ?_ ?_
              rotate_left
              · simp only [putAll, Act.put, List.setIfInBounds_toArray, List.set_cons_zero, List.set_cons_succ]
                rfl
              refine two_ (i := 3) (j := 6) (Ni := some 15) (Nj := some 18) #[true, true, true, true, true, true, false, false, false, false] #[true, true, true, false, true, true, true, false, false, false] rfl rfl rfl rfl (two_of HT_.out (by kernel_rfl)) (by decide) (by decide) (fun K hK => ?_) (fun K hK => ?_)
              · skip
                refine goes_ Try.func21 (by kernel_rfl) rfl #[.string (strOfNums y207)] (by rfl) rfl rfl (by (try simp only [List.map_toArray, List.map_cons, List.map_nil]); first | done | rfl | (simp only [List.length_drop, List.length_take]; rfl)) ?_
                with_reducible refine (squeeze_Put.calls k (strOfNums y207) t210 _ A5.out).mono ?_
                rintro e w18 ⟨rfl, hb⟩
                refine ⟨_, rfl, ?_⟩
                have n0_ := Aside0.mk (Kd.R_below (by (with_reducible repeat (first | apply Kd.R_alloc | apply Kd.R_drewN | apply Kd.R_drew)); exact HO209.out) hb)
                have n1_ := Aside0.mk (Kd.R_below (by (with_reducible repeat (first | apply Kd.R_alloc | apply Kd.R_drewN | apply Kd.R_drew)); exact HO213.out) hb)
                have n2_ := Aside0.mk (below_step (by repeat (first | (with_reducible first | exact HB.out | apply below_alloc | apply pw_below_drewN | apply below_drew1) | exact HB.out)) hb)
                clear HO209
                clear HO213
                clear HB
                have HO209 := n0_
                have HO213 := n1_
                have HB := n2_
                clear n0_ n1_ n2_
                (try clear hb)
                (try clear hb2)
                (try clear hk)
                (try clear hi)
                refine hK.out _ _ trivial (fun hHeld => ?_)
                clear hK K
                refine norm_ (a' := ?_) ?_ ?_
                rotate_left
                · show Act.put _ (some 15) _ = _
                  simp only [Act.put, List.setIfInBounds_toArray, List.set_cons_zero, List.set_cons_succ, i64_w, i32_w]
                  rfl
                exact norm_ (by first | (simp only [putAll, Act.put, List.setIfInBounds_toArray, List.set_cons_zero, List.set_cons_succ]; done) | (simp only [putAll, Act.put, List.setIfInBounds_toArray, List.set_cons_zero, List.set_cons_succ]; rfl)) (hJ1_2_3_5 (v208, v212) _ ⟨(by (with_reducible repeat (first | apply Kd.R_alloc | apply Kd.R_drewN | apply Kd.R_drew)); exact HO209.out), (by (with_reducible repeat (first | apply Kd.R_alloc | apply Kd.R_drewN | apply Kd.R_drew)); exact HO213.out), (by repeat (first | (with_reducible first | exact HB.out | apply below_alloc | apply pw_below_drewN | apply below_drew1) | exact HB.out))⟩)
              · skip
                have hcv18 := own_string (P := Try.prog) Try.underlying32 Try.underlying5 Try.underlying9 (Kd.own_of_R HO213.out)
                refine value_ (w1 := ?_) (v := ?_) (by rfl) rfl ?_ ?_
                rotate_left 2
                · go_simp
                  constructor
                  · rfl
                  · rfl
                clear hcv18
                refine hK.out _ _ trivial (fun hHeld => ?_)
                clear hK K
                refine norm_ (a' := ?_) ?_ ?_
                rotate_left
                · show Act.put _ (some 18) _ = _
                  simp only [Act.put, List.setIfInBounds_toArray, List.set_cons_zero, List.set_cons_succ, i64_w, i32_w]
                  rfl
                exact norm_ (by first | (simp only [putAll, Act.put, List.setIfInBounds_toArray, List.set_cons_zero, List.set_cons_succ]; done) | (simp only [putAll, Act.put, List.setIfInBounds_toArray, List.set_cons_zero, List.set_cons_succ]; rfl)) (hJ1_2_5_6 (v208, v212) _ ⟨(by (with_reducible repeat (first | apply Kd.R_alloc | apply Kd.R_drewN | apply Kd.R_drew)); exact HO209.out), (by (with_reducible repeat (first | apply Kd.R_alloc | apply Kd.R_drewN | apply Kd.R_drew)); exact HO213.out), (by repeat (first | (with_reducible first | exact HB.out | apply below_alloc | apply pw_below_drewN | apply below_drew1) | exact HB.out))⟩)
          · skip
            rintro v208 w16 ⟨h0_, h1_⟩
            have n0_ : Aside0 (Kd.R (Kd.int .u8) 5 w16 w.heap.size (fun _ => True) v208 y207) := ⟨h0_⟩
            have n1_ : Aside0 (Below w.heap.size w w16) := ⟨h1_⟩
            clear HB
            clear h0_ h1_
            have HO209 := n0_
            have HB := n1_
            clear n0_ n1_
            have hHeld := trivial
            refine norm_ (a' := ?_) ?_ ?_
            rotate_left
            · simp only [putAll, Act.put, List.setIfInBounds_toArray, List.set_cons_zero, List.set_cons_succ]
              rfl
            refine one_ (i := 5) (N := some 17) #[true, true, true, true, true, true, false, false, false, false] rfl rfl (one_of HT_.out (by kernel_rfl)) (by decide) (fun K hK => ?_)
            refine Kd.R_lit_step (Kd.int .u8) _ 5 ?hg (N := 17) ?hd (xs := ([a1] : List Int)) (inner := [.int .u8 a1]) (ok := fun _ => True) (okp := fun _ => True) ?hr ?hp (fun _ hk => hk) trivial (Below.refl _ _) (Nat.le_refl _) (by simp) ?_; (case hd => rfl); (case hg => rfl); (case hr => first | (go_simp; done) | (go_simp; rfl)); (case hp => exact (Reps.one (show Kd.M (Kd.int .u8) _ _ _ a1 [.int .u8 a1] from rfl) (Reps.none _ _)))
            intro v212 w17 ho18 hb hg_ hnew_
            clear hg_ hnew_
            (first | rw [← Ny211.out] at ho18 | (simp only [Int.reduceToNat] at ho18; rw [← Ny211.out] at ho18))
            have n0_ := Aside0.mk (Kd.R_elder' (by (with_reducible repeat (first | apply Kd.R_alloc | apply Kd.R_drewN | apply Kd.R_drew)); exact HO209.out) (Kd.R_base ho18) hb)
            have n1_ := Aside0.mk (Kd.R_lower (Kd.R_new' ho18 (Kd.R_lt (by (with_reducible repeat (first | apply Kd.R_alloc | apply Kd.R_drewN | apply Kd.R_drew)); exact HO209.out))) (below_size (by repeat (first | (with_reducible first | exact HB.out | apply below_alloc | apply pw_below_drewN | apply below_drew1) | exact HB.out))))
            have n2_ := Aside0.mk (below_step (by repeat (first | (with_reducible first | exact HB.out | apply below_alloc | apply pw_below_drewN | apply below_drew1) | exact HB.out)) hb)
            clear HO209
            clear HB
            have HO209 := n0_
            have HO213 := n1_
            have HB := n2_
            clear n0_ n1_ n2_
            clear hb ho18
            refine hK.out _ _ trivial (fun hHeld => ?_)
            clear hK K
            refine norm_ (a' := ?_) ?_ ?_
            rotate_left
            · show Act.put _ (some 17) _ = _
              simp only [Act.put, List.setIfInBounds_toArray, List.set_cons_zero, List.set_cons_succ, i64_w, i32_w]
              rfl
            exact norm_ (by first | (simp only [putAll, Act.put, List.setIfInBounds_toArray, List.set_cons_zero, List.set_cons_succ]; done) | (simp only [putAll, Act.put, List.setIfInBounds_toArray, List.set_cons_zero, List.set_cons_succ]; rfl)) (hJ1_2_3_5 (v208, v212) _ ⟨(by (with_reducible repeat (first | apply Kd.R_alloc | apply Kd.R_drewN | apply Kd.R_drew)); exact Kd.R_mono HO209.out (fun _ hk => hk.2)), (by (with_reducible repeat (first | apply Kd.R_alloc | apply Kd.R_drewN | apply Kd.R_drew)); exact Kd.R_mono HO213.out (fun _ hk => hk.2)), (by repeat (first | (with_reducible first | exact HB.out | apply below_alloc | apply pw_below_drewN | apply below_drew1) | exact HB.out))⟩)
        · skip
          rintro ⟨v208, v212⟩ w18 ⟨h0_, h1_, h2_⟩
          have n0_ : Aside0 (Kd.R (Kd.int .u8) 5 w18 w.heap.size (fun k_ => some k_ ≠ (v212 : Value).ownBlock) v208 y207) := ⟨h0_⟩
          have n1_ : Aside0 (Kd.R (Kd.int .u8) 5 w18 w.heap.size (fun k_ => some k_ ≠ (v208 : Value).ownBlock) v212 y211) := ⟨h1_⟩
          have n2_ : Aside0 (Below w.heap.size w w18) := ⟨h2_⟩
          clear HB
          clear h0_ h1_ h2_
          have HO209 := n0_
          have HO213 := n1_
          have HB := n2_
          clear n0_ n1_ n2_
          have hHeld := trivial
          refine norm_ (a' := ?_) ?_ ?_
          rotate_left
          · simp only [putAll, Act.put, List.setIfInBounds_toArray, List.set_cons_zero, List.set_cons_succ]
            rfl
          refine one_ (i := 3) (N := some 15) #[true, true, true, true, true, true, true, false, false, false] rfl rfl (one_of HT_.out (by kernel_rfl)) (by decide) (fun K hK => ?_)
          refine goes_ Try.func21 (by kernel_rfl) rfl #[.string (strOfNums y207)] (by rfl) rfl rfl (by (try simp only [List.map_toArray, List.map_cons, List.map_nil]); first | done | rfl | (simp only [List.length_drop, List.length_take]; rfl)) ?_
          with_reducible refine (squeeze_Put.calls k (strOfNums y207) t210 _ A5.out).mono ?_
          rintro e w19 ⟨rfl, hb⟩
          refine ⟨_, rfl, ?_⟩
          have n0_ := Aside0.mk (Kd.R_below (by (with_reducible repeat (first | apply Kd.R_alloc | apply Kd.R_drewN | apply Kd.R_drew)); exact HO209.out) hb)
          have n1_ := Aside0.mk (Kd.R_below (by (with_reducible repeat (first | apply Kd.R_alloc | apply Kd.R_drewN | apply Kd.R_drew)); exact HO213.out) hb)
          have n2_ := Aside0.mk (below_step (by repeat (first | (with_reducible first | exact HB.out | apply below_alloc | apply pw_below_drewN | apply below_drew1) | exact HB.out)) hb)
          clear HO209
          clear HO213
          clear HB
          have HO209 := n0_
          have HO213 := n1_
          have HB := n2_
          clear n0_ n1_ n2_
          (try clear hb)
          (try clear hb2)
          (try clear hk)
          (try clear hi)
          refine hK.out _ _ trivial (fun hHeld => ?_)
          clear hK K
          refine norm_ (a' := ?_) ?_ ?_
          rotate_left
          · show Act.put _ (some 15) _ = _
            simp only [Act.put, List.setIfInBounds_toArray, List.set_cons_zero, List.set_cons_succ, i64_w, i32_w]
            rfl
          exact norm_ (by first | (simp only [putAll, Act.put, List.setIfInBounds_toArray, List.set_cons_zero, List.set_cons_succ]; done) | (simp only [putAll, Act.put, List.setIfInBounds_toArray, List.set_cons_zero, List.set_cons_succ]; rfl)) (hJ1_2_3_5_6 (v208, v212) _ ⟨(by (with_reducible repeat (first | apply Kd.R_alloc | apply Kd.R_drewN | apply Kd.R_drew)); exact HO209.out), (by (with_reducible repeat (first | apply Kd.R_alloc | apply Kd.R_drewN | apply Kd.R_drew)); exact HO213.out), (by repeat (first | (with_reducible first | exact HB.out | apply below_alloc | apply pw_below_drewN | apply below_drew1) | exact HB.out))⟩)
      · skip
        rintro ⟨v208, v212⟩ w18 ⟨h0_, h1_, h2_⟩
        have n0_ : Aside0 (Kd.R (Kd.int .u8) 5 w18 w.heap.size (fun k_ => some k_ ≠ (v212 : Value).ownBlock) v208 y207) := ⟨h0_⟩
        have n1_ : Aside0 (Kd.R (Kd.int .u8) 5 w18 w.heap.size (fun k_ => some k_ ≠ (v208 : Value).ownBlock) v212 y211) := ⟨h1_⟩
        have n2_ : Aside0 (Below w.heap.size w w18) := ⟨h2_⟩
        clear HB
        clear h0_ h1_ h2_
        have HO209 := n0_
        have HO213 := n1_
        have HB := n2_
        clear n0_ n1_ n2_
        have hHeld := trivial
        refine norm_ (a' := ?_) ?_ ?_
        rotate_left
        · simp only [putAll, Act.put, List.setIfInBounds_toArray, List.set_cons_zero, List.set_cons_succ]
          rfl
        refine one_ (i := 6) (N := some 18) #[true, true, true, true, true, true, true, false, false, false] rfl rfl (one_of HT_.out (by kernel_rfl)) (by decide) (fun K hK => ?_)
        have hcv19 := own_string (P := Try.prog) Try.underlying32 Try.underlying5 Try.underlying9 (Kd.own_of_R HO213.out)
        refine value_ (w1 := ?_) (v := ?_) (by rfl) rfl ?_ ?_
        rotate_left 2
        · go_simp
          constructor
          · rfl
          · rfl
        clear hcv19
        refine hK.out _ _ trivial (fun hHeld => ?_)
        clear hK K
        refine norm_ (a' := ?_) ?_ ?_
        rotate_left
        · show Act.put _ (some 18) _ = _
          simp only [Act.put, List.setIfInBounds_toArray, List.set_cons_zero, List.set_cons_succ, i64_w, i32_w]
          rfl
        exact norm_ (by first | (simp only [putAll, Act.put, List.setIfInBounds_toArray, List.set_cons_zero, List.set_cons_succ]; done) | (simp only [putAll, Act.put, List.setIfInBounds_toArray, List.set_cons_zero, List.set_cons_succ]; rfl)) (hJ1_2_3_5_6 (v208, v212) _ ⟨(by (with_reducible repeat (first | apply Kd.R_alloc | apply Kd.R_drewN | apply Kd.R_drew)); exact HO209.out), (by (with_reducible repeat (first | apply Kd.R_alloc | apply Kd.R_drewN | apply Kd.R_drew)); exact HO213.out), (by repeat (first | (with_reducible first | exact HB.out | apply below_alloc | apply pw_below_drewN | apply below_drew1) | exact HB.out))⟩)
    rintro ⟨v208, v212⟩ w19 ⟨h0_, h1_, h2_⟩
    have n0_ : Aside0 (Kd.R (Kd.int .u8) 5 w19 w.heap.size (fun k_ => some k_ ≠ (v212 : Value).ownBlock) v208 y207) := ⟨h0_⟩
    have n1_ : Aside0 (Kd.R (Kd.int .u8) 5 w19 w.heap.size (fun k_ => some k_ ≠ (v208 : Value).ownBlock) v212 y211) := ⟨h1_⟩
    have n2_ : Aside0 (Below w.heap.size w w19) := ⟨h2_⟩
    clear HB
    clear h0_ h1_ h2_
    have HO209 := n0_
    have HO213 := n1_
    have HB := n2_
    clear n0_ n1_ n2_
    have hHeld := trivial
    refine norm_ (a' := ?_) ?_ ?_
    rotate_left
    · simp only [putAll, Act.put, List.setIfInBounds_toArray, List.set_cons_zero, List.set_cons_succ]
      rfl
    refine one_ (i := 7) (N := some 19) #[true, true, true, true, true, true, true, true, false, false] rfl rfl (one_of HT_.out (by kernel_rfl)) (by decide) (fun K hK => ?_)
    refine goes_ Try.func21 (by kernel_rfl) rfl #[.string (strOfNums y211)] (by rfl) rfl rfl (by (try simp only [List.map_toArray, List.map_cons, List.map_nil]); first | done | rfl | (simp only [List.length_drop, List.length_take]; rfl)) ?_
    with_reducible refine (squeeze_Put.calls k (strOfNums y211) t214 _ A6.out).mono ?_
    rintro e w20 ⟨rfl, hb⟩
    refine ⟨_, rfl, ?_⟩
    have n0_ := Aside0.mk (Kd.R_below (by (with_reducible repeat (first | apply Kd.R_alloc | apply Kd.R_drewN | apply Kd.R_drew)); exact HO209.out) hb)
    have n1_ := Aside0.mk (Kd.R_below (by (with_reducible repeat (first | apply Kd.R_alloc | apply Kd.R_drewN | apply Kd.R_drew)); exact HO213.out) hb)
    have n2_ := Aside0.mk (below_step (by repeat (first | (with_reducible first | exact HB.out | apply below_alloc | apply pw_below_drewN | apply below_drew1) | exact HB.out)) hb)
    clear HO209
    clear HO213
    clear HB
    have HO209 := n0_
    have HO213 := n1_
    have HB := n2_
    clear n0_ n1_ n2_
    (try clear hb)
    (try clear hb2)
    (try clear hk)
    (try clear hi)
    refine hK.out _ _ trivial (fun hHeld => ?_)
    clear hK K
    refine norm_ (a' := ?_) ?_ ?_
    rotate_left
    · show Act.put _ (some 19) _ = _
      simp only [Act.put, List.setIfInBounds_toArray, List.set_cons_zero, List.set_cons_succ, i64_w, i32_w]
      rfl
    refine pure_ (i := 8) (N := some 5) (v := ?_) (a' := ?_) #[true, true, true, true, true, true, true, true, true, false] rfl rfl (any_of HT_.out (by kernel_rfl)) (fun _ _ _ h => h) (Or.inl ⟨by rfl, ?_⟩) ?_ ?_
    rotate_left
    · intro w'
      go_simp
      with_reducible rfl
    rotate_left
    · simp only [Act.put, List.setIfInBounds_toArray, List.set_cons_zero, List.set_cons_succ, i64_w, i32_w]
      rfl
    refine pure_ (i := 9) (N := some 6) (v := ?_) (a' := ?_) #[true, true, true, true, true, true, true, true, true, true] rfl rfl (any_of HT_.out (by kernel_rfl)) (fun _ _ _ h => h) (Or.inl ⟨by rfl, ?_⟩) ?_ ?_
    rotate_left
    · intro w'
      go_simp
      with_reducible rfl
    rotate_left
    · simp only [Act.put, List.setIfInBounds_toArray, List.set_cons_zero, List.set_cons_succ, i64_w, i32_w]
      rfl
    refine done_ (done_of HT_.out (by kernel_rfl)) ?_
    go_upto_region 6 with (first | ((with_reducible refine gate_callee (f := 22) rfl ?_); refine goesL_ (some 22) rfl rfl Try.func22 (by kernel_rfl) rfl #[.string t210] rfl (by (try simp only [List.map_toArray, List.map_cons, List.map_nil]); first | done | rfl | (simp only [List.length_drop, List.length_take]; rfl)) ?_; (with_reducible refine (squeeze_Get.calls k t210 t215 t216 _ A7.out).mono ?_); rintro e w21 ⟨rfl, hb⟩; refine ⟨_, rfl, ?_⟩; have n0_ := Aside0.mk (Kd.R_below (by (with_reducible repeat (first | apply Kd.R_alloc | apply Kd.R_drewN | apply Kd.R_drew)); exact HO209.out) hb); have n1_ := Aside0.mk (Kd.R_below (by (with_reducible repeat (first | apply Kd.R_alloc | apply Kd.R_drewN | apply Kd.R_drew)); exact HO213.out) hb); have n2_ := Aside0.mk (below_step (by repeat (first | (with_reducible first | exact HB.out | apply below_alloc | apply pw_below_drewN | apply below_drew1) | exact HB.out)) hb); clear HO209; clear HO213; clear HB; have HO209 := n0_; have HO213 := n1_; have HB := n2_; clear n0_ n1_ n2_; (try clear hb); (try clear hb2); (try clear hk); (try clear hi)) | ((with_reducible refine gate_callee (f := 26) rfl ?_); refine goesL_ (some 26) rfl rfl Try.func26 (by kernel_rfl) rfl #[.int .u8 a0] rfl (by (try simp only [List.map_toArray, List.map_cons, List.map_nil]); first | done | rfl | (simp only [List.length_drop, List.length_take]; rfl)) ?_; (with_reducible refine (squeeze_Bits.calls k a0 t217 _ A8.out).mono ?_); rintro e w' ⟨rfl, ⟨nd, rfl⟩⟩; refine ⟨_, rfl, ?_⟩))
    (try simp only [Act.put, List.setIfInBounds_toArray, List.set_cons_zero, List.set_cons_succ])
    go_cut [4] (fun v4 wc => ∃ (kq : Nat) (x4_8 : Bool), v4 = .bool x4_8 ∧ Aside0 (bywashlaw3_SqueezeBytes.j0 kq x4_8 = some r) ∧ Aside0 (kq ≤ k) ∧ Aside0 (Below w.heap.size w wc))
    case first =>
      have H := HC9.out
      clear HC9
      by_cases c22 : ((t210.toList == t214.toList) == (a0 == a1)) = true
      · rw [if_pos c22] at H
        have c22b0 : ((t210.toList == t214.toList) == (a0 == a1)) = true := c22
        (try (have c22b1 : decide ((t210.toList == t214.toList) = (a0 == a1)) = true := by simpa using c22))
        (try (have c22b2 : ((t210.toList == t214.toList) == (a0 == a1)) = true := by simpa using c22))
        clear c22
        (first | rw [c22b0] | (simp only [i64_w, i32_w]; rw [c22b0]) | skip)
        by_cases c23 : t216 = 0
        · rw [if_pos c23] at H
          have c23b0 : (t216 == 0) = true := beq_iff_eq.mpr c23
          have c23b1 : (t216 != 0) = false := bne_eq_false_iff_eq.mpr c23
          clear c23
          obtain ⟨y218, hy218⟩ : ∃ y_ : List Int, y_ = (([a0] : List Int)) := ⟨_, rfl⟩
          replace H : (if t215.toList = (strOfNums y218).toList then (if t217 = 5 then (bywashlaw3_SqueezeBytes.j0 k ((t210.size : Int) == (wrap64 (Int.tdiv (wrap64 (t217 + 7)) 8)))) else (if t217 = 7 then (bywashlaw3_SqueezeBytes.j0 k ((t210.size : Int) == (wrap64 (Int.tdiv (wrap64 (t217 + 7)) 8)))) else (if t217 = 10 then (bywashlaw3_SqueezeBytes.j0 k ((t210.size : Int) == (wrap64 (Int.tdiv (wrap64 (t217 + 7)) 8)))) else (bywashlaw3_SqueezeBytes.j0 k false)))) else (bywashlaw3_SqueezeBytes.j0 k false)) = some r := by first | (rw [hy218]; with_reducible exact H) | (have H2_ := (Option.bind_some _ _).symm.trans H; rw [hy218]; with_reducible exact H2_) | (have H2_ := (Option.bind_some _ _).symm.trans H; with_reducible exact H2_) | with_reducible exact H | (rw [hy218]; exact H) | exact H
          have Ny218 := Aside0.mk hy218
          clear hy218
          by_cases c24 : t215.toList = (strOfNums y218).toList
          · rw [if_pos c24] at H
            have c24b0 : (t215.toList == (strOfNums y218).toList) = true := beq_iff_eq.mpr c24
            have c24b1 : (t215.toList != (strOfNums y218).toList) = false := bne_eq_false_iff_eq.mpr c24
            clear c24
            by_cases c25 : t217 = 5
            · rw [if_pos c25] at H
              have c25b0 : (t217 == 5) = true := beq_iff_eq.mpr c25
              have c25b1 : (t217 != 5) = false := bne_eq_false_iff_eq.mpr c25
              clear c25
              have H' := Aside0.mk H
              clear H
              go_wp2_with (first | ((with_reducible refine gate_dst (N := 41) rfl ?_); (try (refine gate_guard (by rfl) ?_; dsimp only)); refine Kd.R_lit (Kd.int .u8) _ 5 ?hg (N := 41) ?hd (xs := ([a0] : List Int)) (inner := [.int .u8 a0]) (ok := fun _ => True) (okp := fun _ => True) ?hr ?hp (fun _ hk => hk) trivial (Below.refl _ _) (Nat.le_refl _) (by simp) ?_; (case hd => rfl); (case hg => rfl); (case hr => first | (go_simp; done) | (go_simp; rfl)); (case hp => exact (Reps.one (show Kd.M (Kd.int .u8) _ _ _ a0 [.int .u8 a0] from rfl) (Reps.none _ _))); intro v219 w26 ho27 hb hg_ hnew_; clear hg_ hnew_; (first | rw [← Ny218.out] at ho27 | (simp only [Int.reduceToNat] at ho27; rw [← Ny218.out] at ho27)); have n0_ := Aside0.mk (Kd.R_elder' (by (with_reducible repeat (first | apply Kd.R_alloc | apply Kd.R_drewN | apply Kd.R_drew)); exact HO209.out) (Kd.R_base ho27) hb); have n1_ := Aside0.mk (Kd.R_elder' (by (with_reducible repeat (first | apply Kd.R_alloc | apply Kd.R_drewN | apply Kd.R_drew)); exact HO213.out) (Kd.R_base ho27) hb); have n2_ := Aside0.mk (Kd.R_lower (Kd.R_new' (Kd.R_new' ho27 (Kd.R_lt (by (with_reducible repeat (first | apply Kd.R_alloc | apply Kd.R_drewN | apply Kd.R_drew)); exact HO209.out))) (Kd.R_lt (by (with_reducible repeat (first | apply Kd.R_alloc | apply Kd.R_drewN | apply Kd.R_drew)); exact HO213.out))) (below_size (by repeat (first | (with_reducible first | exact HB.out | apply below_alloc | apply pw_below_drewN | apply below_drew1) | exact HB.out)))); have n3_ := Aside0.mk (below_step (by repeat (first | (with_reducible first | exact HB.out | apply below_alloc | apply pw_below_drewN | apply below_drew1) | exact HB.out)) hb); clear HO209; clear HO213; clear HB; have HO209 := n0_; have HO213 := n1_; have HO220 := n2_; have HB := n3_; clear n0_ n1_ n2_ n3_; clear hb ho27; have hcv28 := own_string (P := Try.prog) Try.underlying32 Try.underlying5 Try.underlying9 (Kd.own_of_R HO220.out); have hcv29 := fun n_ => own_string (P := Try.prog) Try.underlying32 Try.underlying5 Try.underlying9 (Kd.own_of_R (Kd.R_drewN HO220.out n_))))
              go_meet
              case rel => exact ⟨_, (((t210.size : Int) == (wrap64 (Int.tdiv (wrap64 (t217 + 7)) 8)))), (by first | rfl | (simp; done) | (simp [*]; done)), H', ⟨by first | omega | exact Nat.le_refl _⟩, ⟨by repeat (first | (with_reducible first | exact HB.out | apply below_alloc | apply pw_below_drewN | apply below_drew1) | exact HB.out)⟩⟩
            · rw [if_neg c25] at H
              have c25b0 : (t217 == 5) = false := beq_eq_false_iff_ne.mpr c25
              have c25b1 : (t217 != 5) = true := bne_iff_ne.mpr c25
              by_cases c30 : t217 = 7
              · rw [if_pos c30] at H
                have c30b0 : (t217 == 7) = true := beq_iff_eq.mpr c30
                have c30b1 : (t217 != 7) = false := bne_eq_false_iff_eq.mpr c30
                clear c30
                have H' := Aside0.mk H
                clear H
                go_wp2_with (first | ((with_reducible refine gate_dst (N := 41) rfl ?_); (try (refine gate_guard (by rfl) ?_; dsimp only)); refine Kd.R_lit (Kd.int .u8) _ 5 ?hg (N := 41) ?hd (xs := ([a0] : List Int)) (inner := [.int .u8 a0]) (ok := fun _ => True) (okp := fun _ => True) ?hr ?hp (fun _ hk => hk) trivial (Below.refl _ _) (Nat.le_refl _) (by simp) ?_; (case hd => rfl); (case hg => rfl); (case hr => first | (go_simp; done) | (go_simp; rfl)); (case hp => exact (Reps.one (show Kd.M (Kd.int .u8) _ _ _ a0 [.int .u8 a0] from rfl) (Reps.none _ _))); intro v219 w31 ho32 hb hg_ hnew_; clear hg_ hnew_; (first | rw [← Ny218.out] at ho32 | (simp only [Int.reduceToNat] at ho32; rw [← Ny218.out] at ho32)); have n0_ := Aside0.mk (Kd.R_elder' (by (with_reducible repeat (first | apply Kd.R_alloc | apply Kd.R_drewN | apply Kd.R_drew)); exact HO209.out) (Kd.R_base ho32) hb); have n1_ := Aside0.mk (Kd.R_elder' (by (with_reducible repeat (first | apply Kd.R_alloc | apply Kd.R_drewN | apply Kd.R_drew)); exact HO213.out) (Kd.R_base ho32) hb); have n2_ := Aside0.mk (Kd.R_lower (Kd.R_new' (Kd.R_new' ho32 (Kd.R_lt (by (with_reducible repeat (first | apply Kd.R_alloc | apply Kd.R_drewN | apply Kd.R_drew)); exact HO209.out))) (Kd.R_lt (by (with_reducible repeat (first | apply Kd.R_alloc | apply Kd.R_drewN | apply Kd.R_drew)); exact HO213.out))) (below_size (by repeat (first | (with_reducible first | exact HB.out | apply below_alloc | apply pw_below_drewN | apply below_drew1) | exact HB.out)))); have n3_ := Aside0.mk (below_step (by repeat (first | (with_reducible first | exact HB.out | apply below_alloc | apply pw_below_drewN | apply below_drew1) | exact HB.out)) hb); clear HO209; clear HO213; clear HB; have HO209 := n0_; have HO213 := n1_; have HO220 := n2_; have HB := n3_; clear n0_ n1_ n2_ n3_; clear hb ho32; have hcv33 := own_string (P := Try.prog) Try.underlying32 Try.underlying5 Try.underlying9 (Kd.own_of_R HO220.out); have hcv34 := fun n_ => own_string (P := Try.prog) Try.underlying32 Try.underlying5 Try.underlying9 (Kd.own_of_R (Kd.R_drewN HO220.out n_))))
                go_meet
                case rel => exact ⟨_, (((t210.size : Int) == (wrap64 (Int.tdiv (wrap64 (t217 + 7)) 8)))), (by first | rfl | (simp; done) | (simp [*]; done)), H', ⟨by first | omega | exact Nat.le_refl _⟩, ⟨by repeat (first | (with_reducible first | exact HB.out | apply below_alloc | apply pw_below_drewN | apply below_drew1) | exact HB.out)⟩⟩
              · rw [if_neg c30] at H
                have c30b0 : (t217 == 7) = false := beq_eq_false_iff_ne.mpr c30
                have c30b1 : (t217 != 7) = true := bne_iff_ne.mpr c30
                by_cases c35 : t217 = 10
                · rw [if_pos c35] at H
                  have c35b0 : (t217 == 10) = true := beq_iff_eq.mpr c35
                  have c35b1 : (t217 != 10) = false := bne_eq_false_iff_eq.mpr c35
                  clear c35
                  have H' := Aside0.mk H
                  clear H
                  go_wp2_with (first | ((with_reducible refine gate_dst (N := 41) rfl ?_); (try (refine gate_guard (by rfl) ?_; dsimp only)); refine Kd.R_lit (Kd.int .u8) _ 5 ?hg (N := 41) ?hd (xs := ([a0] : List Int)) (inner := [.int .u8 a0]) (ok := fun _ => True) (okp := fun _ => True) ?hr ?hp (fun _ hk => hk) trivial (Below.refl _ _) (Nat.le_refl _) (by simp) ?_; (case hd => rfl); (case hg => rfl); (case hr => first | (go_simp; done) | (go_simp; rfl)); (case hp => exact (Reps.one (show Kd.M (Kd.int .u8) _ _ _ a0 [.int .u8 a0] from rfl) (Reps.none _ _))); intro v219 w36 ho37 hb hg_ hnew_; clear hg_ hnew_; (first | rw [← Ny218.out] at ho37 | (simp only [Int.reduceToNat] at ho37; rw [← Ny218.out] at ho37)); have n0_ := Aside0.mk (Kd.R_elder' (by (with_reducible repeat (first | apply Kd.R_alloc | apply Kd.R_drewN | apply Kd.R_drew)); exact HO209.out) (Kd.R_base ho37) hb); have n1_ := Aside0.mk (Kd.R_elder' (by (with_reducible repeat (first | apply Kd.R_alloc | apply Kd.R_drewN | apply Kd.R_drew)); exact HO213.out) (Kd.R_base ho37) hb); have n2_ := Aside0.mk (Kd.R_lower (Kd.R_new' (Kd.R_new' ho37 (Kd.R_lt (by (with_reducible repeat (first | apply Kd.R_alloc | apply Kd.R_drewN | apply Kd.R_drew)); exact HO209.out))) (Kd.R_lt (by (with_reducible repeat (first | apply Kd.R_alloc | apply Kd.R_drewN | apply Kd.R_drew)); exact HO213.out))) (below_size (by repeat (first | (with_reducible first | exact HB.out | apply below_alloc | apply pw_below_drewN | apply below_drew1) | exact HB.out)))); have n3_ := Aside0.mk (below_step (by repeat (first | (with_reducible first | exact HB.out | apply below_alloc | apply pw_below_drewN | apply below_drew1) | exact HB.out)) hb); clear HO209; clear HO213; clear HB; have HO209 := n0_; have HO213 := n1_; have HO220 := n2_; have HB := n3_; clear n0_ n1_ n2_ n3_; clear hb ho37; have hcv38 := own_string (P := Try.prog) Try.underlying32 Try.underlying5 Try.underlying9 (Kd.own_of_R HO220.out); have hcv39 := fun n_ => own_string (P := Try.prog) Try.underlying32 Try.underlying5 Try.underlying9 (Kd.own_of_R (Kd.R_drewN HO220.out n_))))
                  go_meet
                  case rel => exact ⟨_, (((t210.size : Int) == (wrap64 (Int.tdiv (wrap64 (t217 + 7)) 8)))), (by first | rfl | (simp; done) | (simp [*]; done)), H', ⟨by first | omega | exact Nat.le_refl _⟩, ⟨by repeat (first | (with_reducible first | exact HB.out | apply below_alloc | apply pw_below_drewN | apply below_drew1) | exact HB.out)⟩⟩
                · rw [if_neg c35] at H
                  have c35b0 : (t217 == 10) = false := beq_eq_false_iff_ne.mpr c35
                  have c35b1 : (t217 != 10) = true := bne_iff_ne.mpr c35
                  have H' := Aside0.mk H
                  clear H
                  go_wp2_with (first | ((with_reducible refine gate_dst (N := 41) rfl ?_); (try (refine gate_guard (by rfl) ?_; dsimp only)); refine Kd.R_lit (Kd.int .u8) _ 5 ?hg (N := 41) ?hd (xs := ([a0] : List Int)) (inner := [.int .u8 a0]) (ok := fun _ => True) (okp := fun _ => True) ?hr ?hp (fun _ hk => hk) trivial (Below.refl _ _) (Nat.le_refl _) (by simp) ?_; (case hd => rfl); (case hg => rfl); (case hr => first | (go_simp; done) | (go_simp; rfl)); (case hp => exact (Reps.one (show Kd.M (Kd.int .u8) _ _ _ a0 [.int .u8 a0] from rfl) (Reps.none _ _))); intro v219 w40 ho41 hb hg_ hnew_; clear hg_ hnew_; (first | rw [← Ny218.out] at ho41 | (simp only [Int.reduceToNat] at ho41; rw [← Ny218.out] at ho41)); have n0_ := Aside0.mk (Kd.R_elder' (by (with_reducible repeat (first | apply Kd.R_alloc | apply Kd.R_drewN | apply Kd.R_drew)); exact HO209.out) (Kd.R_base ho41) hb); have n1_ := Aside0.mk (Kd.R_elder' (by (with_reducible repeat (first | apply Kd.R_alloc | apply Kd.R_drewN | apply Kd.R_drew)); exact HO213.out) (Kd.R_base ho41) hb); have n2_ := Aside0.mk (Kd.R_lower (Kd.R_new' (Kd.R_new' ho41 (Kd.R_lt (by (with_reducible repeat (first | apply Kd.R_alloc | apply Kd.R_drewN | apply Kd.R_drew)); exact HO209.out))) (Kd.R_lt (by (with_reducible repeat (first | apply Kd.R_alloc | apply Kd.R_drewN | apply Kd.R_drew)); exact HO213.out))) (below_size (by repeat (first | (with_reducible first | exact HB.out | apply below_alloc | apply pw_below_drewN | apply below_drew1) | exact HB.out)))); have n3_ := Aside0.mk (below_step (by repeat (first | (with_reducible first | exact HB.out | apply below_alloc | apply pw_below_drewN | apply below_drew1) | exact HB.out)) hb); clear HO209; clear HO213; clear HB; have HO209 := n0_; have HO213 := n1_; have HO220 := n2_; have HB := n3_; clear n0_ n1_ n2_ n3_; clear hb ho41; have hcv42 := own_string (P := Try.prog) Try.underlying32 Try.underlying5 Try.underlying9 (Kd.own_of_R HO220.out); have hcv43 := fun n_ => own_string (P := Try.prog) Try.underlying32 Try.underlying5 Try.underlying9 (Kd.own_of_R (Kd.R_drewN HO220.out n_))))
                  go_meet
                  case rel => exact ⟨_, (false), (by first | rfl | (simp; done) | (simp [*]; done)), H', ⟨by first | omega | exact Nat.le_refl _⟩, ⟨by repeat (first | (with_reducible first | exact HB.out | apply below_alloc | apply pw_below_drewN | apply below_drew1) | exact HB.out)⟩⟩
          · rw [if_neg c24] at H
            have c24b0 : (t215.toList == (strOfNums y218).toList) = false := beq_eq_false_iff_ne.mpr c24
            have c24b1 : (t215.toList != (strOfNums y218).toList) = true := bne_iff_ne.mpr c24
            have H' := Aside0.mk H
            clear H
            go_wp2_with (first | ((with_reducible refine gate_dst (N := 41) rfl ?_); (try (refine gate_guard (by rfl) ?_; dsimp only)); refine Kd.R_lit (Kd.int .u8) _ 5 ?hg (N := 41) ?hd (xs := ([a0] : List Int)) (inner := [.int .u8 a0]) (ok := fun _ => True) (okp := fun _ => True) ?hr ?hp (fun _ hk => hk) trivial (Below.refl _ _) (Nat.le_refl _) (by simp) ?_; (case hd => rfl); (case hg => rfl); (case hr => first | (go_simp; done) | (go_simp; rfl)); (case hp => exact (Reps.one (show Kd.M (Kd.int .u8) _ _ _ a0 [.int .u8 a0] from rfl) (Reps.none _ _))); intro v219 w44 ho45 hb hg_ hnew_; clear hg_ hnew_; (first | rw [← Ny218.out] at ho45 | (simp only [Int.reduceToNat] at ho45; rw [← Ny218.out] at ho45)); have n0_ := Aside0.mk (Kd.R_elder' (by (with_reducible repeat (first | apply Kd.R_alloc | apply Kd.R_drewN | apply Kd.R_drew)); exact HO209.out) (Kd.R_base ho45) hb); have n1_ := Aside0.mk (Kd.R_elder' (by (with_reducible repeat (first | apply Kd.R_alloc | apply Kd.R_drewN | apply Kd.R_drew)); exact HO213.out) (Kd.R_base ho45) hb); have n2_ := Aside0.mk (Kd.R_lower (Kd.R_new' (Kd.R_new' ho45 (Kd.R_lt (by (with_reducible repeat (first | apply Kd.R_alloc | apply Kd.R_drewN | apply Kd.R_drew)); exact HO209.out))) (Kd.R_lt (by (with_reducible repeat (first | apply Kd.R_alloc | apply Kd.R_drewN | apply Kd.R_drew)); exact HO213.out))) (below_size (by repeat (first | (with_reducible first | exact HB.out | apply below_alloc | apply pw_below_drewN | apply below_drew1) | exact HB.out)))); have n3_ := Aside0.mk (below_step (by repeat (first | (with_reducible first | exact HB.out | apply below_alloc | apply pw_below_drewN | apply below_drew1) | exact HB.out)) hb); clear HO209; clear HO213; clear HB; have HO209 := n0_; have HO213 := n1_; have HO220 := n2_; have HB := n3_; clear n0_ n1_ n2_ n3_; clear hb ho45; have hcv46 := own_string (P := Try.prog) Try.underlying32 Try.underlying5 Try.underlying9 (Kd.own_of_R HO220.out); have hcv47 := fun n_ => own_string (P := Try.prog) Try.underlying32 Try.underlying5 Try.underlying9 (Kd.own_of_R (Kd.R_drewN HO220.out n_))))
            go_meet
            case rel => exact ⟨_, (false), (by first | rfl | (simp; done) | (simp [*]; done)), H', ⟨by first | omega | exact Nat.le_refl _⟩, ⟨by repeat (first | (with_reducible first | exact HB.out | apply below_alloc | apply pw_below_drewN | apply below_drew1) | exact HB.out)⟩⟩
        · rw [if_neg c23] at H
          have c23b0 : (t216 == 0) = false := beq_eq_false_iff_ne.mpr c23
          have c23b1 : (t216 != 0) = true := bne_iff_ne.mpr c23
          have H' := Aside0.mk H
          clear H
          go_wp2
          go_meet
          case rel => exact ⟨_, (false), (by first | rfl | (simp; done) | (simp [*]; done)), H', ⟨by first | omega | exact Nat.le_refl _⟩, ⟨by repeat (first | (with_reducible first | exact HB.out | apply below_alloc | apply pw_below_drewN | apply below_drew1) | exact HB.out)⟩⟩
      · rw [if_neg c22] at H
        have c22b0 : ((t210.toList == t214.toList) == (a0 == a1)) = false := by simpa using c22
        (try (have c22b1 : decide ((t210.toList == t214.toList) = (a0 == a1)) = false := by simpa using c22))
        (try (have c22b2 : ((t210.toList == t214.toList) == (a0 == a1)) = false := by simpa using c22))
        (try (have c22b3 : ¬ ((t210.toList == t214.toList) = (a0 == a1)) := by simpa using c22))
        clear c22
        (first | rw [c22b0] | (simp only [i64_w, i32_w]; rw [c22b0]) | skip)
        have H' := Aside0.mk H
        clear H
        go_wp2
        go_meet
        case rel => exact ⟨_, (false), (by first | rfl | (simp; done) | (simp [*]; done)), H', ⟨by first | omega | exact Nat.le_refl _⟩, ⟨by repeat (first | (with_reducible first | exact HB.out | apply below_alloc | apply pw_below_drewN | apply below_drew1) | exact HB.out)⟩⟩
    case rest =>
      clear HC9
      try clear hcv1
      try clear c2
      try clear p2
      try clear hcv2
      try clear c3
      try clear hcv3
      try clear hcv4
      try clear p6
      try clear hcv15
      try clear hcv17
      try clear hcv18
      try clear hcv19
      try clear c21
      try clear c22
      try clear c22b0
      try clear c22b1
      try clear c22b2
      try clear c23
      try clear c23b0
      try clear c23b1
      try clear c24
      try clear c24b0
      try clear c24b1
      try clear c25
      try clear c25b0
      try clear c25b1
      try clear c26
      try clear hcv28
      try clear hcv29
      try clear c30
      try clear c30b0
      try clear c30b1
      try clear hcv33
      try clear hcv34
      try clear c35
      try clear c35b0
      try clear c35b1
      try clear hcv38
      try clear hcv39
      try clear hcv42
      try clear hcv43
      try clear hcv46
      try clear hcv47
      obtain ⟨kq, x4_8, rfl, HA, HJ8, HB⟩ := hcut
      cases kq with
      | zero => exact absurd HA.out (by simp [bywashlaw3_SqueezeBytes.j0])
      | succ kj8 =>
        have H := HA.out
        clear HA
        simp only [bywashlaw3_SqueezeBytes.j0] at H
        obtain rfl := Option.some.inj H
        go_wp2
        go_ret
        exact ⟨by first | rfl | (simp [errW_none, errW_some] <;> rfl) | (simp [*, errW_none, errW_some] <;> rfl), by repeat (first | (with_reducible first | exact HB.out | apply below_alloc | apply pw_below_drewN | apply below_drew1) | exact HB.out)⟩
  · replace c4 := Bool.eq_false_iff.mpr c4
    subst c4
    have H1 : (some false) = some r := by rw [if_neg (show ¬ (false = true) by decide)] at H; exact H
    clear H
    have H := H1
    clear H1
    obtain rfl := Option.some.inj H
    go_enter Try.func12, Try.ntmps12
    go_wp2_with (first | ((with_reducible refine gate_callee (f := 20) rfl ?_); refine goesL_ (some 10) rfl rfl Try.func20 (by kernel_rfl) rfl #[] rfl (by (try simp only [List.map_toArray, List.map_cons, List.map_nil]); first | done | rfl | (simp only [List.length_drop, List.length_take]; rfl)) ?_; (with_reducible refine (bywashlaw3_alive.calls k  false _ A3.out).mono ?_); rintro e w48 ⟨rfl, hb⟩; refine ⟨_, rfl, ?_⟩; have n0_ := Aside0.mk (below_step (by repeat (first | (with_reducible first | exact HB.out | apply below_alloc | apply pw_below_drewN | apply below_drew1) | exact HB.out)) hb); clear HB; have HB := n0_; clear n0_; (try clear hb); (try clear hb2); (try clear hk); (try clear hi)))
    go_ret
    exact ⟨by first | rfl | (simp [errW_none, errW_some] <;> rfl) | (simp [*, errW_none, errW_some] <;> rfl), by repeat (first | (with_reducible first | exact HB.out | apply below_alloc | apply pw_below_drewN | apply below_drew1) | exact HB.out)⟩

/-- THE ONE PURE STATEMENT of bywashlaw3_SqueezeBytes: yours. -/
def bywashlaw3_SqueezeBytes.Pure : Prop := ∀ (a0 : Int) (a1 : Int), (Lit.int .u8 a0).wf = true → (Lit.int .u8 a1).wf = true → ∃ k, bywashlaw3_SqueezeBytes.f k a0 a1 = some true
theorem bywashlaw3_SqueezeBytes.walk (P : bywashlaw3_SqueezeBytes.Pure) (a0 : Int) (a1 : Int) (w : World) (w0 : (Lit.int .u8 a0).wf = true) (w1 : (Lit.int .u8 a1).wf = true) :
    Calls Try.prog 12 #[.int .u8 a0, .int .u8 a1] w fun e w' => e = .returned (.bool true) ∧ Below w.heap.size w w' := by
  obtain ⟨k, h⟩ := P a0 a1 w0 w1
  refine (bywashlaw3_SqueezeBytes.calls k a0 a1 true w h).mono ?_
  rintro e w' ⟨rfl, hd⟩
  exact ⟨rfl, hd⟩

end Go.Proofs.Ytmglfnphkngfdaa.XSq
