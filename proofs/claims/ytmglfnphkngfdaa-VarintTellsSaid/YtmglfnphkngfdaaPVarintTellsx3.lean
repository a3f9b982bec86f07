-- PRINTED BY print.sh 35421559b90ae4d0a3588c463048766b98c2df88dd9212a6774a882060cdf62d: not written by this session
import Derived.Test.YtmglfnphkngfdaaPVarintTellsx0
import Derived.Test.YtmglfnphkngfdaaPVarintTellsx1
import Derived.Test.YtmglfnphkngfdaaPVarintTellsx2
namespace Go.Proofs.Ytmglfnphkngfdaa.PVarintTells
open Go.RowKit Go.Proofs.YtmglfnphkngfdaaW.PrintWords Go.Proofs.YtmglfnphkngfdaaW.PrintLast Go.Proofs.YtmglfnphkngfdaaW.PrintMore
attribute [local go_sem] max2_int min2_int max_two min_two max_three min_three max_four min_four   -- for this text's walks alone
set_option linter.unusedVariables false
set_option linter.unusedSimpArgs false

/-! ### bywashlaw2_VarintTells: function 3 -/
mutual
def bywashlaw2_VarintTells.j0 : Nat → Int → Int → Int → ByteArray → Bool → Option (Bool)
  | 0, _, _, _, _, _ => none
  | k + 1, x0, x1, x2, x3, x28 => if x28 = true then ((bywashlaw2_alive.f k).bind fun t134 => (some t134)) else ((varint_Put.f k x0 x1 x2).bind fun bt135 => ((bywashref1_NumberPut.f k x0 x1 x2).bind fun bt137 => ((varint_Get.f k x3 x1).bind fun bt139 => ((bywashref1_NumberGet.f k x3 x1).bind fun bt142 => (if bt135.1.toList = bt137.1.toList then (if (bt135.2 != bt137.2) = true then (bywashlaw2_VarintTells.j1 k x1 x2 x3 bt135.1 bt135.2 true) else (if bt139.1 = bt142.1 then (if bt139.2.1 = bt142.2.1 then (bywashlaw2_VarintTells.j1 k x1 x2 x3 bt135.1 bt135.2 (bt139.2.2 != bt142.2.2)) else (bywashlaw2_VarintTells.j1 k x1 x2 x3 bt135.1 bt135.2 true)) else (bywashlaw2_VarintTells.j1 k x1 x2 x3 bt135.1 bt135.2 true))) else (bywashlaw2_VarintTells.j1 k x1 x2 x3 bt135.1 bt135.2 true))))))
def bywashlaw2_VarintTells.j1 : Nat → Int → Int → ByteArray → ByteArray → Bool → Bool → Option (Bool)
  | 0, _, _, _, _, _, _ => none
  | k + 1, x1, x2, x3, x9, x10, x80 => if x80 = true then (some false) else (if x10 = true then (if x9.size + x3.size ≤ 9223372036854775807 then ((varint_Get.f k (x9 ++ x3) x1).bind fun bt145 => (if bt145.1 = x2 then (if bt145.2.1 = (x9.size : Int) then (some (bt145.2.2 == 0)) else (some false)) else (some false))) else (none)) else (some true))
end
def bywashlaw2_VarintTells.f (k : Nat) (a0 : Int) (a1 : Int) (a2 : Int) (a3 : ByteArray) : Option (Bool) := if (a3.size : Int) > 60 then (bywashlaw2_VarintTells.j0 k a0 a1 a2 a3 true) else ((bywashlaw2_alive.f k).bind fun t133 => (bywashlaw2_VarintTells.j0 k a0 a1 a2 a3 (!t133)))
theorem bywashlaw2_VarintTells.mono_l : ∀ k, (∀ y0 y1 y2 y3 y4, LeO (bywashlaw2_VarintTells.j0 k y0 y1 y2 y3 y4) (bywashlaw2_VarintTells.j0 (k + 1) y0 y1 y2 y3 y4)) ∧ (∀ y0 y1 y2 y3 y4 y5, LeO (bywashlaw2_VarintTells.j1 k y0 y1 y2 y3 y4 y5) (bywashlaw2_VarintTells.j1 (k + 1) y0 y1 y2 y3 y4 y5))
  | 0 => ⟨fun _ _ _ _ _ r h => by simp [bywashlaw2_VarintTells.j0] at h, fun _ _ _ _ _ _ r h => by simp [bywashlaw2_VarintTells.j1] at h⟩
  | k + 1 => by
    obtain ⟨ih0, ih1⟩ := bywashlaw2_VarintTells.mono_l k
    refine ⟨?_, ?_⟩
    · intro y0 y1 y2 y3 y4
      unfold bywashlaw2_VarintTells.j0
      repeat' first
      | (with_reducible exact ih0 _ _ _ _ _)
      | (with_reducible exact ih1 _ _ _ _ _ _)
      | (with_reducible exact bywashlaw2_alive.mono _)
      | (with_reducible exact bywashref1_NumberGet.mono _ _ _)
      | (with_reducible exact bywashref1_NumberPut.mono _ _ _ _)
      | (with_reducible exact varint_Get.mono _ _ _)
      | (with_reducible exact varint_Put.mono _ _ _ _)
      | (with_reducible exact LeO.refl _)
      | (with_reducible exact LeO.none _)
      | (with_reducible refine LeO.ite ?_ ?_)
      | (with_reducible refine LeO.bind ?_ (fun _ => ?_))
      | exact ih0 _ _ _ _ _
      | exact ih1 _ _ _ _ _ _
      | exact bywashlaw2_alive.mono _
      | exact bywashref1_NumberGet.mono _ _ _
      | exact bywashref1_NumberPut.mono _ _ _ _
      | exact varint_Get.mono _ _ _
      | exact varint_Put.mono _ _ _ _
      | exact LeO.none _
      | refine LeO.ite ?_ ?_
      | refine LeO.bind ?_ (fun _ => ?_)
    · intro y0 y1 y2 y3 y4 y5
      unfold bywashlaw2_VarintTells.j1
      repeat' first
      | (with_reducible exact ih0 _ _ _ _ _)
      | (with_reducible exact ih1 _ _ _ _ _ _)
      | (with_reducible exact bywashlaw2_alive.mono _)
      | (with_reducible exact bywashref1_NumberGet.mono _ _ _)
      | (with_reducible exact bywashref1_NumberPut.mono _ _ _ _)
      | (with_reducible exact varint_Get.mono _ _ _)
      | (with_reducible exact varint_Put.mono _ _ _ _)
      | (with_reducible exact LeO.refl _)
      | (with_reducible exact LeO.none _)
      | (with_reducible refine LeO.ite ?_ ?_)
      | (with_reducible refine LeO.bind ?_ (fun _ => ?_))
      | exact ih0 _ _ _ _ _
      | exact ih1 _ _ _ _ _ _
      | exact bywashlaw2_alive.mono _
      | exact bywashref1_NumberGet.mono _ _ _
      | exact bywashref1_NumberPut.mono _ _ _ _
      | exact varint_Get.mono _ _ _
      | exact varint_Put.mono _ _ _ _
      | exact LeO.none _
      | refine LeO.ite ?_ ?_
      | refine LeO.bind ?_ (fun _ => ?_)
theorem bywashlaw2_VarintTells.mono : ∀ a0 a1 a2 a3 k, LeO (bywashlaw2_VarintTells.f k a0 a1 a2 a3) (bywashlaw2_VarintTells.f (k + 1) a0 a1 a2 a3) := by
  intro a0 a1 a2 a3 k
  obtain ⟨ih0, ih1⟩ := bywashlaw2_VarintTells.mono_l k
  unfold bywashlaw2_VarintTells.f
  repeat' first
      | (with_reducible exact ih0 _ _ _ _ _)
      | (with_reducible exact ih1 _ _ _ _ _ _)
      | (with_reducible exact bywashlaw2_alive.mono _)
      | (with_reducible exact bywashref1_NumberGet.mono _ _ _)
      | (with_reducible exact bywashref1_NumberPut.mono _ _ _ _)
      | (with_reducible exact varint_Get.mono _ _ _)
      | (with_reducible exact varint_Put.mono _ _ _ _)
      | (with_reducible exact LeO.refl _)
      | (with_reducible exact LeO.none _)
      | (with_reducible refine LeO.ite ?_ ?_)
      | (with_reducible refine LeO.bind ?_ (fun _ => ?_))
      | exact ih0 _ _ _ _ _
      | exact ih1 _ _ _ _ _ _
      | exact bywashlaw2_alive.mono _
      | exact bywashref1_NumberGet.mono _ _ _
      | exact bywashref1_NumberPut.mono _ _ _ _
      | exact varint_Get.mono _ _ _
      | exact varint_Put.mono _ _ _ _
      | exact LeO.none _
      | refine LeO.ite ?_ ?_
      | refine LeO.bind ?_ (fun _ => ?_)
set_option maxHeartbeats 8000000 in
set_option maxRecDepth 100000 in
theorem bywashlaw2_VarintTells.calls (k : Nat) (a0 : Int) (a1 : Int) (a2 : Int) (a3 : ByteArray) (r : Bool) (w : World) (h : bywashlaw2_VarintTells.f k a0 a1 a2 a3 = some r) :
    Calls Try.prog 3 #[.int .u8 a0, .int .i64 a1, .int .i64 a2, .string a3] w fun e w' => e = .returned (.bool r) ∧ Below w.heap.size w w' := by
  have HB := Aside0.mk (Below.refl w.heap.size w)
  have H : (if (a3.size : Int) > 60 then (bywashlaw2_VarintTells.j0 k a0 a1 a2 a3 true) else ((bywashlaw2_alive.f k).bind fun t133 => (bywashlaw2_VarintTells.j0 k a0 a1 a2 a3 (!t133)))) = some r := h
  clear h
  have HC5 := Aside0.mk H
  clear H
  go_enter Try.func3, Try.ntmps3
  go_upto_region 1 with (fail)
  go_cut [28] (fun v28 wc => ∃ (kq : Nat) (x28_4 : Bool), v28 = .bool x28_4 ∧ Aside0 (bywashlaw2_VarintTells.j0 kq a0 a1 a2 a3 x28_4 = some r) ∧ Aside0 (kq ≤ k) ∧ Aside0 (Below w.heap.size w wc))
  case first =>
    have H := HC5.out
    clear HC5
    by_cases c6 : (a3.size : Int) > 60
    · rw [if_pos c6] at H
      have c6b0 : decide (60 < (a3.size : Int)) = true := decide_eq_true c6
      have c6b1 : decide (60 < a3.size) = true := decide_eq_true (by omega)
      clear c6
      (first | rw [c6b0] | (simp only [i64_w, i32_w]; rw [c6b0]) | skip)
      have H' := Aside0.mk H
      clear H
      go_wp2
      go_meet
      case rel => exact ⟨_, (true), (by first | rfl | (simp; done) | (simp [*]; done)), H', ⟨by first | omega | exact Nat.le_refl _⟩, ⟨by repeat (first | (with_reducible first | exact HB.out | apply below_alloc | apply pw_below_drewN | apply below_drew1) | exact HB.out)⟩⟩
    · rw [if_neg c6] at H
      have c6b0 : decide (60 < (a3.size : Int)) = false := decide_eq_false c6
      have c6b1 : decide (60 < a3.size) = false := decide_eq_false (by omega)
      clear c6
      (first | rw [c6b0] | (simp only [i64_w, i32_w]; rw [c6b0]) | skip)
      replace H := Option.bind_eq_some_iff.mp H
      obtain ⟨t133, A70, H⟩ := H
      replace H : (bywashlaw2_VarintTells.j0 k a0 a1 a2 a3 (!t133)) = some r := H
      have A7 := Aside0.mk A70
      clear A70
      have H' := Aside0.mk H
      clear H
      go_wp2_with (first | (go_at_call 15; (with_reducible refine (bywashlaw2_alive.calls k  t133 _ A7.out).mono ?_); rintro e w8 ⟨rfl, hb⟩; have n0_ := Aside0.mk (below_step (by repeat (first | (with_reducible first | exact HB.out | apply below_alloc | apply pw_below_drewN | apply below_drew1) | exact HB.out)) hb); clear HB; have HB := n0_; clear n0_; (try clear hb); (try clear hb2); (try clear hk); (try clear hi)))
      go_meet
      case rel => exact ⟨_, (!t133), (by first | rfl | (simp; done) | (simp [*]; done)), H', ⟨by first | omega | exact Nat.le_refl _⟩, ⟨by repeat (first | (with_reducible first | exact HB.out | apply below_alloc | apply pw_below_drewN | apply below_drew1) | exact HB.out)⟩⟩
  case rest =>
    clear HC5
    try clear p2
    try clear c3
    try clear c6
    try clear c6b0
    try clear c6b1
    obtain ⟨kq, x28_4, rfl, HA, HJ4, HB⟩ := hcut
    cases kq with
    | zero => exact absurd HA.out (by simp [bywashlaw2_VarintTells.j0])
    | succ kj4 =>
      have H := HA.out
      clear HA
      simp only [bywashlaw2_VarintTells.j0] at H
      by_cases c9 : x28_4 = true
      · subst c9
        have H1 : ((bywashlaw2_alive.f kj4).bind fun t134 => (some t134)) = some r := by rw [if_pos rfl] at H; exact H
        clear H
        have H := H1
        clear H1
        replace H := Option.bind_eq_some_iff.mp H
        obtain ⟨t134, A100, H⟩ := H
        replace H : (some t134) = some r := H
        have A10 := Aside0.mk A100
        clear A100
        obtain rfl := Option.some.inj H
        go_wp2_with (first | ((with_reducible refine gate_callee (f := 15) rfl ?_); refine goesL_ (some 29) rfl rfl Try.func15 (by kernel_rfl) rfl #[] rfl (by (try simp only [List.map_toArray, List.map_cons, List.map_nil]); first | done | rfl | (simp only [List.length_drop, List.length_take]; rfl)) ?_; (with_reducible refine (bywashlaw2_alive.calls kj4  t134 _ A10.out).mono ?_); rintro e w11 ⟨rfl, hb⟩; refine ⟨_, rfl, ?_⟩; have n0_ := Aside0.mk (below_step (by repeat (first | (with_reducible first | exact HB.out | apply below_alloc | apply pw_below_drewN | apply below_drew1) | exact HB.out)) hb); clear HB; have HB := n0_; clear n0_; (try clear hb); (try clear hb2); (try clear hk); (try clear hi)))
        go_ret
        exact ⟨by first | rfl | (simp [errW_none, errW_some] <;> rfl) | (simp [*, errW_none, errW_some] <;> rfl), by repeat (first | (with_reducible first | exact HB.out | apply below_alloc | apply pw_below_drewN | apply below_drew1) | exact HB.out)⟩
      · replace c9 := Bool.eq_false_iff.mpr c9
        subst c9
        have H1 : ((varint_Put.f kj4 a0 a1 a2).bind fun bt135 => ((bywashref1_NumberPut.f kj4 a0 a1 a2).bind fun bt137 => ((varint_Get.f kj4 a3 a1).bind fun bt139 => ((bywashref1_NumberGet.f kj4 a3 a1).bind fun bt142 => (if bt135.1.toList = bt137.1.toList then (if (bt135.2 != bt137.2) = true then (bywashlaw2_VarintTells.j1 kj4 a1 a2 a3 bt135.1 bt135.2 true) else (if bt139.1 = bt142.1 then (if bt139.2.1 = bt142.2.1 then (bywashlaw2_VarintTells.j1 kj4 a1 a2 a3 bt135.1 bt135.2 (bt139.2.2 != bt142.2.2)) else (bywashlaw2_VarintTells.j1 kj4 a1 a2 a3 bt135.1 bt135.2 true)) else (bywashlaw2_VarintTells.j1 kj4 a1 a2 a3 bt135.1 bt135.2 true))) else (bywashlaw2_VarintTells.j1 kj4 a1 a2 a3 bt135.1 bt135.2 true)))))) = some r := by rw [if_neg (show ¬ (false = true) by decide)] at H; exact H
        clear H
        have H := H1
        clear H1
        replace H := Option.bind_eq_some_iff.mp H
        obtain ⟨⟨t135, t136⟩, A120, H⟩ := H
        replace H : ((bywashref1_NumberPut.f kj4 a0 a1 a2).bind fun bt137 => ((varint_Get.f kj4 a3 a1).bind fun bt139 => ((bywashref1_NumberGet.f kj4 a3 a1).bind fun bt142 => (if t135.toList = bt137.1.toList then (if (t136 != bt137.2) = true then (bywashlaw2_VarintTells.j1 kj4 a1 a2 a3 t135 t136 true) else (if bt139.1 = bt142.1 then (if bt139.2.1 = bt142.2.1 then (bywashlaw2_VarintTells.j1 kj4 a1 a2 a3 t135 t136 (bt139.2.2 != bt142.2.2)) else (bywashlaw2_VarintTells.j1 kj4 a1 a2 a3 t135 t136 true)) else (bywashlaw2_VarintTells.j1 kj4 a1 a2 a3 t135 t136 true))) else (bywashlaw2_VarintTells.j1 kj4 a1 a2 a3 t135 t136 true))))) = some r := H
        have A12 := Aside0.mk A120
        clear A120
        replace H := Option.bind_eq_some_iff.mp H
        obtain ⟨⟨t137, t138⟩, A130, H⟩ := H
        replace H : ((varint_Get.f kj4 a3 a1).bind fun bt139 => ((bywashref1_NumberGet.f kj4 a3 a1).bind fun bt142 => (if t135.toList = t137.toList then (if (t136 != t138) = true then (bywashlaw2_VarintTells.j1 kj4 a1 a2 a3 t135 t136 true) else (if bt139.1 = bt142.1 then (if bt139.2.1 = bt142.2.1 then (bywashlaw2_VarintTells.j1 kj4 a1 a2 a3 t135 t136 (bt139.2.2 != bt142.2.2)) else (bywashlaw2_VarintTells.j1 kj4 a1 a2 a3 t135 t136 true)) else (bywashlaw2_VarintTells.j1 kj4 a1 a2 a3 t135 t136 true))) else (bywashlaw2_VarintTells.j1 kj4 a1 a2 a3 t135 t136 true)))) = some r := H
        have A13 := Aside0.mk A130
        clear A130
        replace H := Option.bind_eq_some_iff.mp H
        obtain ⟨⟨t139, t140, t141⟩, A140, H⟩ := H
        replace H : ((bywashref1_NumberGet.f kj4 a3 a1).bind fun bt142 => (if t135.toList = t137.toList then (if (t136 != t138) = true then (bywashlaw2_VarintTells.j1 kj4 a1 a2 a3 t135 t136 true) else (if t139 = bt142.1 then (if t140 = bt142.2.1 then (bywashlaw2_VarintTells.j1 kj4 a1 a2 a3 t135 t136 (t141 != bt142.2.2)) else (bywashlaw2_VarintTells.j1 kj4 a1 a2 a3 t135 t136 true)) else (bywashlaw2_VarintTells.j1 kj4 a1 a2 a3 t135 t136 true))) else (bywashlaw2_VarintTells.j1 kj4 a1 a2 a3 t135 t136 true))) = some r := H
        have A14 := Aside0.mk A140
        clear A140
        replace H := Option.bind_eq_some_iff.mp H
        obtain ⟨⟨t142, t143, t144⟩, A150, H⟩ := H
        replace H : (if t135.toList = t137.toList then (if (t136 != t138) = true then (bywashlaw2_VarintTells.j1 kj4 a1 a2 a3 t135 t136 true) else (if t139 = t142 then (if t140 = t143 then (bywashlaw2_VarintTells.j1 kj4 a1 a2 a3 t135 t136 (t141 != t144)) else (bywashlaw2_VarintTells.j1 kj4 a1 a2 a3 t135 t136 true)) else (bywashlaw2_VarintTells.j1 kj4 a1 a2 a3 t135 t136 true))) else (bywashlaw2_VarintTells.j1 kj4 a1 a2 a3 t135 t136 true)) = some r := H
        have A15 := Aside0.mk A150
        clear A150
        have HC16 := Aside0.mk H
        clear H
        go_upto_region 7 with (first | ((with_reducible refine gate_callee (f := 16) rfl ?_); refine goesL_ (some 34) rfl rfl Try.func16 (by kernel_rfl) rfl #[.int .u8 a0, .int .i64 a1, .int .i64 a2] rfl (by (try simp only [List.map_toArray, List.map_cons, List.map_nil]); first | done | rfl | (simp only [List.length_drop, List.length_take]; rfl)) ?_; (with_reducible refine (varint_Put.calls kj4 a0 a1 a2 t135 t136 _ A12.out).mono ?_); rintro e w17 ⟨rfl, hb⟩; refine ⟨_, rfl, ?_⟩; have n0_ := Aside0.mk (below_step (by repeat (first | (with_reducible first | exact HB.out | apply below_alloc | apply pw_below_drewN | apply below_drew1) | exact HB.out)) hb); clear HB; have HB := n0_; clear n0_; (try clear hb); (try clear hb2); (try clear hk); (try clear hi)) | ((with_reducible refine gate_callee (f := 17) rfl ?_); refine goesL_ (some 41) rfl rfl Try.func17 (by kernel_rfl) rfl #[.int .u8 a0, .int .i64 a1, .int .i64 a2] rfl (by (try simp only [List.map_toArray, List.map_cons, List.map_nil]); first | done | rfl | (simp only [List.length_drop, List.length_take]; rfl)) ?_; (with_reducible refine (bywashref1_NumberPut.calls kj4 a0 a1 a2 t137 t138 _ A13.out).mono ?_); rintro e w18 ⟨rfl, hb⟩; refine ⟨_, rfl, ?_⟩; have n0_ := Aside0.mk (below_step (by repeat (first | (with_reducible first | exact HB.out | apply below_alloc | apply pw_below_drewN | apply below_drew1) | exact HB.out)) hb); clear HB; have HB := n0_; clear n0_; (try clear hb); (try clear hb2); (try clear hk); (try clear hi)) | ((with_reducible refine gate_callee (f := 18) rfl ?_); refine goesL_ (some 47) rfl rfl Try.func18 (by kernel_rfl) rfl #[.string a3, .int .i64 a1] rfl (by (try simp only [List.map_toArray, List.map_cons, List.map_nil]); first | done | rfl | (simp only [List.length_drop, List.length_take]; rfl)) ?_; (with_reducible refine (varint_Get.calls kj4 a3 a1 t139 t140 t141 _ A14.out).mono ?_); rintro e w' ⟨rfl, ⟨nd, rfl⟩⟩; refine ⟨_, rfl, ?_⟩) | ((with_reducible refine gate_callee (f := 19) rfl ?_); refine goesL_ (some 54) rfl rfl Try.func19 (by kernel_rfl) rfl #[.string a3, .int .i64 a1] rfl (by (try simp only [List.map_toArray, List.map_cons, List.map_nil]); first | done | rfl | (simp only [List.length_drop, List.length_take]; rfl)) ?_; (with_reducible refine (bywashref1_NumberGet.calls kj4 a3 a1 t142 t143 t144 _ A15.out).mono ?_); rintro e w' ⟨rfl, ⟨nd, rfl⟩⟩; refine ⟨_, rfl, ?_⟩))
        (try simp only [Act.put, List.setIfInBounds_toArray, List.set_cons_zero, List.set_cons_succ])
        go_cut [80] (fun v80 wc => ∃ (kq : Nat) (x80_15 : Bool), v80 = .bool x80_15 ∧ Aside0 (bywashlaw2_VarintTells.j1 kq a1 a2 a3 t135 t136 x80_15 = some r) ∧ Aside0 (kq ≤ kj4) ∧ Aside0 (Below w.heap.size w wc))
        case first =>
          have H := HC16.out
          clear HC16
          by_cases c19 : t135.toList = t137.toList
          · rw [if_pos c19] at H
            have c19b0 : (t135.toList == t137.toList) = true := beq_iff_eq.mpr c19
            have c19b1 : (t135.toList != t137.toList) = false := bne_eq_false_iff_eq.mpr c19
            clear c19
            (first | rw [c19b0] | (simp only [i64_w, i32_w]; rw [c19b0]) | skip)
            by_cases c20 : (t136 != t138) = true
            · rw [if_pos c20] at H
              have c20b0 : (t136 != t138) = true := c20
              (try (have c20b1 : decide (t136 = t138) = false := by simpa using c20))
              (try (have c20b2 : (t136 == t138) = false := by simpa using c20))
              (try (have c20b3 : ¬ (t136 = t138) := by simpa using c20))
              clear c20
              have H' := Aside0.mk H
              clear H
              go_wp2
              go_meet
              case rel => exact ⟨_, (true), (by first | rfl | (simp; done) | (simp [*]; done)), H', ⟨by have := HJ4.out; first | omega | exact Nat.le_refl _⟩, ⟨by repeat (first | (with_reducible first | exact HB.out | apply below_alloc | apply pw_below_drewN | apply below_drew1) | exact HB.out)⟩⟩
            · rw [if_neg c20] at H
              have c20b0 : (t136 != t138) = false := by simpa using c20
              (try (have c20b1 : decide (t136 = t138) = true := by simpa using c20))
              (try (have c20b2 : (t136 == t138) = true := by simpa using c20))
              clear c20
              by_cases c21 : t139 = t142
              · rw [if_pos c21] at H
                have c21b0 : (t139 == t142) = true := beq_iff_eq.mpr c21
                have c21b1 : (t139 != t142) = false := bne_eq_false_iff_eq.mpr c21
                clear c21
                by_cases c22 : t140 = t143
                · rw [if_pos c22] at H
                  have c22b0 : (t140 == t143) = true := beq_iff_eq.mpr c22
                  have c22b1 : (t140 != t143) = false := bne_eq_false_iff_eq.mpr c22
                  clear c22
                  have H' := Aside0.mk H
                  clear H
                  go_wp2
                  go_meet
                  case rel => exact ⟨_, ((t141 != t144)), (by first | rfl | (simp; done) | (simp [*]; done)), H', ⟨by have := HJ4.out; first | omega | exact Nat.le_refl _⟩, ⟨by repeat (first | (with_reducible first | exact HB.out | apply below_alloc | apply pw_below_drewN | apply below_drew1) | exact HB.out)⟩⟩
                · rw [if_neg c22] at H
                  have c22b0 : (t140 == t143) = false := beq_eq_false_iff_ne.mpr c22
                  have c22b1 : (t140 != t143) = true := bne_iff_ne.mpr c22
                  have H' := Aside0.mk H
                  clear H
                  go_wp2
                  go_meet
                  case rel => exact ⟨_, (true), (by first | rfl | (simp; done) | (simp [*]; done)), H', ⟨by have := HJ4.out; first | omega | exact Nat.le_refl _⟩, ⟨by repeat (first | (with_reducible first | exact HB.out | apply below_alloc | apply pw_below_drewN | apply below_drew1) | exact HB.out)⟩⟩
              · rw [if_neg c21] at H
                have c21b0 : (t139 == t142) = false := beq_eq_false_iff_ne.mpr c21
                have c21b1 : (t139 != t142) = true := bne_iff_ne.mpr c21
                have H' := Aside0.mk H
                clear H
                go_wp2
                go_meet
                case rel => exact ⟨_, (true), (by first | rfl | (simp; done) | (simp [*]; done)), H', ⟨by have := HJ4.out; first | omega | exact Nat.le_refl _⟩, ⟨by repeat (first | (with_reducible first | exact HB.out | apply below_alloc | apply pw_below_drewN | apply below_drew1) | exact HB.out)⟩⟩
          · rw [if_neg c19] at H
            have c19b0 : (t135.toList == t137.toList) = false := beq_eq_false_iff_ne.mpr c19
            have c19b1 : (t135.toList != t137.toList) = true := bne_iff_ne.mpr c19
            (first | rw [c19b0] | (simp only [i64_w, i32_w]; rw [c19b0]) | skip)
            have H' := Aside0.mk H
            clear H
            go_wp2
            go_meet
            case rel => exact ⟨_, (true), (by first | rfl | (simp; done) | (simp [*]; done)), H', ⟨by have := HJ4.out; first | omega | exact Nat.le_refl _⟩, ⟨by repeat (first | (with_reducible first | exact HB.out | apply below_alloc | apply pw_below_drewN | apply below_drew1) | exact HB.out)⟩⟩
        case rest =>
          clear HC16
          try clear c1
          try clear c2
          try clear p2
          try clear c3
          try clear c6
          try clear c6b0
          try clear c6b1
          try clear c9
          try clear c15
          try clear c16
          try clear c17
          try clear c18
          try clear c19
          try clear c19b0
          try clear c19b1
          try clear c20
          try clear c20b0
          try clear c20b1
          try clear c20b2
          try clear c21
          try clear c21b0
          try clear c21b1
          try clear c22
          try clear c22b0
          try clear c22b1
          try clear p2
          obtain ⟨kq, x80_15, rfl, HA, HJ15, HB⟩ := hcut
          cases kq with
          | zero => exact absurd HA.out (by simp [bywashlaw2_VarintTells.j1])
          | succ kj15 =>
            have H := HA.out
            clear HA
            simp only [bywashlaw2_VarintTells.j1] at H
            by_cases c23 : x80_15 = true
            · subst c23
              have H1 : (some false) = some r := by rw [if_pos rfl] at H; exact H
              clear H
              have H := H1
              clear H1
              obtain rfl := Option.some.inj H
              go_wp2
              go_ret
              exact ⟨by first | rfl | (simp [errW_none, errW_some] <;> rfl) | (simp [*, errW_none, errW_some] <;> rfl), by repeat (first | (with_reducible first | exact HB.out | apply below_alloc | apply pw_below_drewN | apply below_drew1) | exact HB.out)⟩
            · replace c23 := Bool.eq_false_iff.mpr c23
              subst c23
              have H1 : (if t136 = true then (if t135.size + a3.size ≤ 9223372036854775807 then ((varint_Get.f kj15 (t135 ++ a3) a1).bind fun bt145 => (if bt145.1 = a2 then (if bt145.2.1 = (t135.size : Int) then (some (bt145.2.2 == 0)) else (some false)) else (some false))) else (none)) else (some true)) = some r := by rw [if_neg (show ¬ (false = true) by decide)] at H; exact H
              clear H
              have H := H1
              clear H1
              by_cases c24 : t136 = true
              · subst c24
                have H1 : (if t135.size + a3.size ≤ 9223372036854775807 then ((varint_Get.f kj15 (t135 ++ a3) a1).bind fun bt145 => (if bt145.1 = a2 then (if bt145.2.1 = (t135.size : Int) then (some (bt145.2.2 == 0)) else (some false)) else (some false))) else (none)) = some r := by rw [if_pos rfl] at H; exact H
                clear H
                have H := H1
                clear H1
                by_cases c25 : t135.size + a3.size ≤ 9223372036854775807
                · rw [if_pos c25] at H
                  have c25b0 := eq_true c25
                  have c25b1 : decide (t135.size + a3.size ≤ 9223372036854775807) = true := decide_eq_true c25
                  try have c25b2 : (9223372036854775807 < t135.size + a3.size) = False := eq_false (Nat.not_lt.2 c25)
                  replace H := Option.bind_eq_some_iff.mp H
                  obtain ⟨⟨t145, t146, t147⟩, A260, H⟩ := H
                  replace H : (if t145 = a2 then (if t146 = (t135.size : Int) then (some (t147 == 0)) else (some false)) else (some false)) = some r := H
                  have A26 := Aside0.mk A260
                  clear A260
                  by_cases c27 : t145 = a2
                  · rw [if_pos c27] at H
                    have c27b0 : (t145 == a2) = true := beq_iff_eq.mpr c27
                    have c27b1 : (t145 != a2) = false := bne_eq_false_iff_eq.mpr c27
                    clear c27
                    by_cases c28 : t146 = (t135.size : Int)
                    · rw [if_pos c28] at H
                      have c28b0 : (t146 == (t135.size : Int)) = true := beq_iff_eq.mpr c28
                      have c28b1 : (t146 != (t135.size : Int)) = false := bne_eq_false_iff_eq.mpr c28
                      clear c28
                      obtain rfl := Option.some.inj H
                      go_wp2_with (first | ((with_reducible refine gate_callee (f := 18) rfl ?_); refine goesL_ (some 88) rfl rfl Try.func18 (by kernel_rfl) rfl #[.string (t135 ++ a3), .int .i64 a1] rfl (by (try simp only [List.map_toArray, List.map_cons, List.map_nil]); first | done | rfl | (simp only [List.length_drop, List.length_take]; rfl)) ?_; (with_reducible refine (varint_Get.calls kj15 (t135 ++ a3) a1 t145 t146 t147 _ A26.out).mono ?_); rintro e w' ⟨rfl, ⟨nd, rfl⟩⟩; refine ⟨_, rfl, ?_⟩))
                      go_ret
                      exact ⟨by first | rfl | (simp [errW_none, errW_some] <;> rfl) | (simp [*, errW_none, errW_some] <;> rfl), by repeat (first | (with_reducible first | exact HB.out | apply below_alloc | apply pw_below_drewN | apply below_drew1) | exact HB.out)⟩
                    · rw [if_neg c28] at H
                      have c28b0 : (t146 == (t135.size : Int)) = false := beq_eq_false_iff_ne.mpr c28
                      have c28b1 : (t146 != (t135.size : Int)) = true := bne_iff_ne.mpr c28
                      obtain rfl := Option.some.inj H
                      go_wp2_with (first | ((with_reducible refine gate_callee (f := 18) rfl ?_); refine goesL_ (some 88) rfl rfl Try.func18 (by kernel_rfl) rfl #[.string (t135 ++ a3), .int .i64 a1] rfl (by (try simp only [List.map_toArray, List.map_cons, List.map_nil]); first | done | rfl | (simp only [List.length_drop, List.length_take]; rfl)) ?_; (with_reducible refine (varint_Get.calls kj15 (t135 ++ a3) a1 t145 t146 t147 _ A26.out).mono ?_); rintro e w' ⟨rfl, ⟨nd, rfl⟩⟩; refine ⟨_, rfl, ?_⟩))
                      go_ret
                      exact ⟨by first | rfl | (simp [errW_none, errW_some] <;> rfl) | (simp [*, errW_none, errW_some] <;> rfl), by repeat (first | (with_reducible first | exact HB.out | apply below_alloc | apply pw_below_drewN | apply below_drew1) | exact HB.out)⟩
                  · rw [if_neg c27] at H
                    have c27b0 : (t145 == a2) = false := beq_eq_false_iff_ne.mpr c27
                    have c27b1 : (t145 != a2) = true := bne_iff_ne.mpr c27
                    obtain rfl := Option.some.inj H
                    go_wp2_with (first | ((with_reducible refine gate_callee (f := 18) rfl ?_); refine goesL_ (some 88) rfl rfl Try.func18 (by kernel_rfl) rfl #[.string (t135 ++ a3), .int .i64 a1] rfl (by (try simp only [List.map_toArray, List.map_cons, List.map_nil]); first | done | rfl | (simp only [List.length_drop, List.length_take]; rfl)) ?_; (with_reducible refine (varint_Get.calls kj15 (t135 ++ a3) a1 t145 t146 t147 _ A26.out).mono ?_); rintro e w' ⟨rfl, ⟨nd, rfl⟩⟩; refine ⟨_, rfl, ?_⟩))
                    go_ret
                    exact ⟨by first | rfl | (simp [errW_none, errW_some] <;> rfl) | (simp [*, errW_none, errW_some] <;> rfl), by repeat (first | (with_reducible first | exact HB.out | apply below_alloc | apply pw_below_drewN | apply below_drew1) | exact HB.out)⟩
                · rw [if_neg c25] at H
                  exact absurd H (by simp)
              · replace c24 := Bool.eq_false_iff.mpr c24
                subst c24
                have H1 : (some true) = some r := by rw [if_neg (show ¬ (false = true) by decide)] at H; exact H
                clear H
                have H := H1
                clear H1
                obtain rfl := Option.some.inj H
                go_wp2
                go_ret
                exact ⟨by first | rfl | (simp [errW_none, errW_some] <;> rfl) | (simp [*, errW_none, errW_some] <;> rfl), by repeat (first | (with_reducible first | exact HB.out | apply below_alloc | apply pw_below_drewN | apply below_drew1) | exact HB.out)⟩

/-- THE ONE PURE STATEMENT of bywashlaw2_VarintTells: yours. -/
def bywashlaw2_VarintTells.Pure : Prop := ∀ (a0 : Int) (a1 : Int) (a2 : Int) (a3 : ByteArray), (Lit.int .u8 a0).wf = true → (Lit.int .i64 a1).wf = true → (Lit.int .i64 a2).wf = true → a3.size ≤ 140737488351232 → ∃ k, bywashlaw2_VarintTells.f k a0 a1 a2 a3 = some true
theorem bywashlaw2_VarintTells.walk (P : bywashlaw2_VarintTells.Pure) (a0 : Int) (a1 : Int) (a2 : Int) (a3 : ByteArray) (w : World) (w0 : (Lit.int .u8 a0).wf = true) (w1 : (Lit.int .i64 a1).wf = true) (w2 : (Lit.int .i64 a2).wf = true) (w3 : a3.size ≤ 140737488351232) :
    Calls Try.prog 3 #[.int .u8 a0, .int .i64 a1, .int .i64 a2, .string a3] w fun e w' => e = .returned (.bool true) ∧ Below w.heap.size w w' := by
  obtain ⟨k, h⟩ := P a0 a1 a2 a3 w0 w1 w2 w3
  refine (bywashlaw2_VarintTells.calls k a0 a1 a2 a3 true w h).mono ?_
  rintro e w' ⟨rfl, hd⟩
  exact ⟨rfl, hd⟩

end Go.Proofs.Ytmglfnphkngfdaa.PVarintTells
