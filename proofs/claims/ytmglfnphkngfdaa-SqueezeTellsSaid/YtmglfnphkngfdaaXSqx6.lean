-- Printed by wip/tools/xprint.py of this claim's session: the kit's print over contracts of its own.
import Derived.Test.YtmglfnphkngfdaaXSqx0
import Derived.Test.YtmglfnphkngfdaaXSqx1
import Derived.Test.YtmglfnphkngfdaaXSqx2
import Derived.Test.YtmglfnphkngfdaaXSqx3
namespace Go.Proofs.Ytmglfnphkngfdaa.XSq
open Go.RowKit Go.Proofs.YtmglfnphkngfdaaW.PrintWords Go.Proofs.YtmglfnphkngfdaaW.PrintLast Go.Proofs.YtmglfnphkngfdaaW.PrintMore
attribute [local go_sem] max2_int min2_int max_two min_two max_three min_three max_four min_four   -- for this text's walks alone
set_option linter.unusedVariables false
set_option linter.unusedSimpArgs false

/-! ### bywashlaw3_SqueezeOnce: function 10 -/
def bywashlaw3_SqueezeOnce.j0 : Nat → ByteArray → Bool → Option (Bool)
  | 0, _, _ => none
  | k + 1, x0, x11 => if x11 = true then ((bywashlaw3_alive.f k).bind fun t181 => (some t181)) else ((squeeze_Get.f k x0).bind fun bt182 => (if bt182.2 = 0 then ((squeeze_Put.f k bt182.1).bind fun t184 => (some (t184.toList == x0.toList))) else (if bt182.1.toList = ([] : List UInt8) then (some true) else (some false))))
def bywashlaw3_SqueezeOnce.f (k : Nat) (a0 : ByteArray) : Option (Bool) := if (a0.size : Int) > 120 then (bywashlaw3_SqueezeOnce.j0 k a0 true) else ((bywashlaw3_alive.f k).bind fun t180 => (bywashlaw3_SqueezeOnce.j0 k a0 (!t180)))
theorem bywashlaw3_SqueezeOnce.mono_l : ∀ k, (∀ y0 y1, LeO (bywashlaw3_SqueezeOnce.j0 k y0 y1) (bywashlaw3_SqueezeOnce.j0 (k + 1) y0 y1))
  | 0 => fun _ _ r h => by simp [bywashlaw3_SqueezeOnce.j0] at h
  | k + 1 => by
    have ih0 := bywashlaw3_SqueezeOnce.mono_l k
    · intro y0 y1
      unfold bywashlaw3_SqueezeOnce.j0
      repeat' first
      | (with_reducible exact ih0 _ _)
      | (with_reducible exact bywashlaw3_alive.mono _)
      | (with_reducible exact squeeze_Get.mono _ _)
      | (with_reducible exact squeeze_Put.mono _ _)
      | (with_reducible exact LeO.refl _)
      | (with_reducible exact LeO.none _)
      | (with_reducible refine LeO.ite ?_ ?_)
      | (with_reducible refine LeO.bind ?_ (fun _ => ?_))
      | exact ih0 _ _
      | exact bywashlaw3_alive.mono _
      | exact squeeze_Get.mono _ _
      | exact squeeze_Put.mono _ _
      | exact LeO.none _
      | refine LeO.ite ?_ ?_
      | refine LeO.bind ?_ (fun _ => ?_)
theorem bywashlaw3_SqueezeOnce.mono : ∀ a0 k, LeO (bywashlaw3_SqueezeOnce.f k a0) (bywashlaw3_SqueezeOnce.f (k + 1) a0) := by
  intro a0 k
  have ih0 := bywashlaw3_SqueezeOnce.mono_l k
  unfold bywashlaw3_SqueezeOnce.f
  repeat' first
      | (with_reducible exact ih0 _ _)
      | (with_reducible exact bywashlaw3_alive.mono _)
      | (with_reducible exact squeeze_Get.mono _ _)
      | (with_reducible exact squeeze_Put.mono _ _)
      | (with_reducible exact LeO.refl _)
      | (with_reducible exact LeO.none _)
      | (with_reducible refine LeO.ite ?_ ?_)
      | (with_reducible refine LeO.bind ?_ (fun _ => ?_))
      | exact ih0 _ _
      | exact bywashlaw3_alive.mono _
      | exact squeeze_Get.mono _ _
      | exact squeeze_Put.mono _ _
      | exact LeO.none _
      | refine LeO.ite ?_ ?_
      | refine LeO.bind ?_ (fun _ => ?_)
set_option maxHeartbeats 8000000 in
set_option maxRecDepth 100000 in
theorem bywashlaw3_SqueezeOnce.calls (k : Nat) (a0 : ByteArray) (r : Bool) (w : World) (h : bywashlaw3_SqueezeOnce.f k a0 = some r) :
    Calls Try.prog 10 #[.string a0] w fun e w' => e = .returned (.bool r) ∧ Below w.heap.size w w' := by
  have HB := Aside0.mk (Below.refl w.heap.size w)
  have H : (if (a0.size : Int) > 120 then (bywashlaw3_SqueezeOnce.j0 k a0 true) else ((bywashlaw3_alive.f k).bind fun t180 => (bywashlaw3_SqueezeOnce.j0 k a0 (!t180)))) = some r := h
  clear h
  have HC2 := Aside0.mk H
  clear H
  go_enter Try.func10, Try.ntmps10
  go_upto_region 1 with (fail)
  go_cut [11] (fun v11 wc => ∃ (kq : Nat) (x11_1 : Bool), v11 = .bool x11_1 ∧ Aside0 (bywashlaw3_SqueezeOnce.j0 kq a0 x11_1 = some r) ∧ Aside0 (kq ≤ k) ∧ Aside0 (Below w.heap.size w wc))
  case first =>
    have H := HC2.out
    clear HC2
    by_cases c3 : (a0.size : Int) > 120
    · rw [if_pos c3] at H
      have c3b0 : decide (120 < (a0.size : Int)) = true := decide_eq_true c3
      have c3b1 : decide (120 < a0.size) = true := decide_eq_true (by omega)
      clear c3
      (first | rw [c3b0] | (simp only [i64_w, i32_w]; rw [c3b0]) | skip)
      have H' := Aside0.mk H
      clear H
      go_wp2
      go_meet
      case rel => exact ⟨_, (true), (by first | rfl | (simp; done) | (simp [*]; done)), H', ⟨by first | omega | exact Nat.le_refl _⟩, ⟨by repeat (first | (with_reducible first | exact HB.out | apply below_alloc | apply pw_below_drewN | apply below_drew1) | exact HB.out)⟩⟩
    · rw [if_neg c3] at H
      have c3b0 : decide (120 < (a0.size : Int)) = false := decide_eq_false c3
      have c3b1 : decide (120 < a0.size) = false := decide_eq_false (by omega)
      clear c3
      (first | rw [c3b0] | (simp only [i64_w, i32_w]; rw [c3b0]) | skip)
      replace H := Option.bind_eq_some_iff.mp H
      obtain ⟨t180, A40, H⟩ := H
      replace H : (bywashlaw3_SqueezeOnce.j0 k a0 (!t180)) = some r := H
      have A4 := Aside0.mk A40
      clear A40
      have H' := Aside0.mk H
      clear H
      go_wp2_with (first | (go_at_call 20; (with_reducible refine (bywashlaw3_alive.calls k  t180 _ A4.out).mono ?_); rintro e w5 ⟨rfl, hb⟩; have n0_ := Aside0.mk (below_step (by repeat (first | (with_reducible first | exact HB.out | apply below_alloc | apply pw_below_drewN | apply below_drew1) | exact HB.out)) hb); clear HB; have HB := n0_; clear n0_; (try clear hb); (try clear hb2); (try clear hk); (try clear hi)))
      go_meet
      case rel => exact ⟨_, (!t180), (by first | rfl | (simp; done) | (simp [*]; done)), H', ⟨by first | omega | exact Nat.le_refl _⟩, ⟨by repeat (first | (with_reducible first | exact HB.out | apply below_alloc | apply pw_below_drewN | apply below_drew1) | exact HB.out)⟩⟩
  case rest =>
    clear HC2
    try clear c1
    try clear p2
    try clear c3
    try clear c3b0
    try clear c3b1
    obtain ⟨kq, x11_1, rfl, HA, HJ1, HB⟩ := hcut
    cases kq with
    | zero => exact absurd HA.out (by simp [bywashlaw3_SqueezeOnce.j0])
    | succ kj1 =>
      have H := HA.out
      clear HA
      simp only [bywashlaw3_SqueezeOnce.j0] at H
      by_cases c6 : x11_1 = true
      · subst c6
        have H1 : ((bywashlaw3_alive.f kj1).bind fun t181 => (some t181)) = some r := by rw [if_pos rfl] at H; exact H
        clear H
        have H := H1
        clear H1
        replace H := Option.bind_eq_some_iff.mp H
        obtain ⟨t181, A70, H⟩ := H
        replace H : (some t181) = some r := H
        have A7 := Aside0.mk A70
        clear A70
        obtain rfl := Option.some.inj H
        go_wp2_with (first | ((with_reducible refine gate_callee (f := 20) rfl ?_); refine goesL_ (some 12) rfl rfl Try.func20 (by kernel_rfl) rfl #[] rfl (by (try simp only [List.map_toArray, List.map_cons, List.map_nil]); first | done | rfl | (simp only [List.length_drop, List.length_take]; rfl)) ?_; (with_reducible refine (bywashlaw3_alive.calls kj1  t181 _ A7.out).mono ?_); rintro e w8 ⟨rfl, hb⟩; refine ⟨_, rfl, ?_⟩; have n0_ := Aside0.mk (below_step (by repeat (first | (with_reducible first | exact HB.out | apply below_alloc | apply pw_below_drewN | apply below_drew1) | exact HB.out)) hb); clear HB; have HB := n0_; clear n0_; (try clear hb); (try clear hb2); (try clear hk); (try clear hi)))
        go_ret
        exact ⟨by first | rfl | (simp [errW_none, errW_some] <;> rfl) | (simp [*, errW_none, errW_some] <;> rfl), by repeat (first | (with_reducible first | exact HB.out | apply below_alloc | apply pw_below_drewN | apply below_drew1) | exact HB.out)⟩
      · replace c6 := Bool.eq_false_iff.mpr c6
        subst c6
        have H1 : ((squeeze_Get.f kj1 a0).bind fun bt182 => (if bt182.2 = 0 then ((squeeze_Put.f kj1 bt182.1).bind fun t184 => (some (t184.toList == a0.toList))) else (if bt182.1.toList = ([] : List UInt8) then (some true) else (some false)))) = some r := by rw [if_neg (show ¬ (false = true) by decide)] at H; exact H
        clear H
        have H := H1
        clear H1
        replace H := Option.bind_eq_some_iff.mp H
        obtain ⟨⟨t182, t183⟩, A90, H⟩ := H
        replace H : (if t183 = 0 then ((squeeze_Put.f kj1 t182).bind fun t184 => (some (t184.toList == a0.toList))) else (if t182.toList = ([] : List UInt8) then (some true) else (some false))) = some r := H
        have A9 := Aside0.mk A90
        clear A90
        by_cases c10 : t183 = 0
        · rw [if_pos c10] at H
          have c10b0 : (t183 == 0) = true := beq_iff_eq.mpr c10
          have c10b1 : (t183 != 0) = false := bne_eq_false_iff_eq.mpr c10
          clear c10
          replace H := Option.bind_eq_some_iff.mp H
          obtain ⟨t184, A110, H⟩ := H
          replace H : (some (t184.toList == a0.toList)) = some r := H
          have A11 := Aside0.mk A110
          clear A110
          obtain rfl := Option.some.inj H
          go_wp2_with (first | ((with_reducible refine gate_callee (f := 22) rfl ?_); refine goesL_ (some 15) rfl rfl Try.func22 (by kernel_rfl) rfl #[.string a0] rfl (by (try simp only [List.map_toArray, List.map_cons, List.map_nil]); first | done | rfl | (simp only [List.length_drop, List.length_take]; rfl)) ?_; (with_reducible refine (squeeze_Get.calls kj1 a0 t182 t183 _ A9.out).mono ?_); rintro e w12 ⟨rfl, hb⟩; refine ⟨_, rfl, ?_⟩; have n0_ := Aside0.mk (below_step (by repeat (first | (with_reducible first | exact HB.out | apply below_alloc | apply pw_below_drewN | apply below_drew1) | exact HB.out)) hb); clear HB; have HB := n0_; clear n0_; (try clear hb); (try clear hb2); (try clear hk); (try clear hi)) | (go_at_call 21; (with_reducible refine (squeeze_Put.calls kj1 t182 t184 _ A11.out).mono ?_); rintro e w13 ⟨rfl, hb⟩; have n0_ := Aside0.mk (below_step (by repeat (first | (with_reducible first | exact HB.out | apply below_alloc | apply pw_below_drewN | apply below_drew1) | exact HB.out)) hb); clear HB; have HB := n0_; clear n0_; (try clear hb); (try clear hb2); (try clear hk); (try clear hi)))
          go_ret
          exact ⟨by first | rfl | (simp [errW_none, errW_some] <;> rfl) | (simp [*, errW_none, errW_some] <;> rfl), by repeat (first | (with_reducible first | exact HB.out | apply below_alloc | apply pw_below_drewN | apply below_drew1) | exact HB.out)⟩
        · rw [if_neg c10] at H
          have c10b0 : (t183 == 0) = false := beq_eq_false_iff_ne.mpr c10
          have c10b1 : (t183 != 0) = true := bne_iff_ne.mpr c10
          by_cases c14 : t182.toList = ([] : List UInt8)
          · rw [if_pos c14] at H
            have c14b0 : (t182.toList == ([] : List UInt8)) = true := beq_iff_eq.mpr c14
            have c14b1 : (t182.toList != ([] : List UInt8)) = false := bne_eq_false_iff_eq.mpr c14
            clear c14
            obtain rfl := Option.some.inj H
            go_wp2_with (first | ((with_reducible refine gate_callee (f := 22) rfl ?_); refine goesL_ (some 15) rfl rfl Try.func22 (by kernel_rfl) rfl #[.string a0] rfl (by (try simp only [List.map_toArray, List.map_cons, List.map_nil]); first | done | rfl | (simp only [List.length_drop, List.length_take]; rfl)) ?_; (with_reducible refine (squeeze_Get.calls kj1 a0 t182 t183 _ A9.out).mono ?_); rintro e w15 ⟨rfl, hb⟩; refine ⟨_, rfl, ?_⟩; have n0_ := Aside0.mk (below_step (by repeat (first | (with_reducible first | exact HB.out | apply below_alloc | apply pw_below_drewN | apply below_drew1) | exact HB.out)) hb); clear HB; have HB := n0_; clear n0_; (try clear hb); (try clear hb2); (try clear hk); (try clear hi)))
            go_ret
            exact ⟨by first | rfl | (simp [errW_none, errW_some] <;> rfl) | (simp [*, errW_none, errW_some] <;> rfl), by repeat (first | (with_reducible first | exact HB.out | apply below_alloc | apply pw_below_drewN | apply below_drew1) | exact HB.out)⟩
          · rw [if_neg c14] at H
            have c14b0 : (t182.toList == ([] : List UInt8)) = false := beq_eq_false_iff_ne.mpr c14
            have c14b1 : (t182.toList != ([] : List UInt8)) = true := bne_iff_ne.mpr c14
            obtain rfl := Option.some.inj H
            go_wp2_with (first | ((with_reducible refine gate_callee (f := 22) rfl ?_); refine goesL_ (some 15) rfl rfl Try.func22 (by kernel_rfl) rfl #[.string a0] rfl (by (try simp only [List.map_toArray, List.map_cons, List.map_nil]); first | done | rfl | (simp only [List.length_drop, List.length_take]; rfl)) ?_; (with_reducible refine (squeeze_Get.calls kj1 a0 t182 t183 _ A9.out).mono ?_); rintro e w16 ⟨rfl, hb⟩; refine ⟨_, rfl, ?_⟩; have n0_ := Aside0.mk (below_step (by repeat (first | (with_reducible first | exact HB.out | apply below_alloc | apply pw_below_drewN | apply below_drew1) | exact HB.out)) hb); clear HB; have HB := n0_; clear n0_; (try clear hb); (try clear hb2); (try clear hk); (try clear hi)))
            go_ret
            exact ⟨by first | rfl | (simp [errW_none, errW_some] <;> rfl) | (simp [*, errW_none, errW_some] <;> rfl), by repeat (first | (with_reducible first | exact HB.out | apply below_alloc | apply pw_below_drewN | apply below_drew1) | exact HB.out)⟩

/-- THE ONE PURE STATEMENT of bywashlaw3_SqueezeOnce: yours. -/
def bywashlaw3_SqueezeOnce.Pure : Prop := ∀ (a0 : ByteArray), a0.size ≤ 140737488351232 → ∃ k, bywashlaw3_SqueezeOnce.f k a0 = some true
theorem bywashlaw3_SqueezeOnce.walk (P : bywashlaw3_SqueezeOnce.Pure) (a0 : ByteArray) (w : World) (w0 : a0.size ≤ 140737488351232) :
    Calls Try.prog 10 #[.string a0] w fun e w' => e = .returned (.bool true) ∧ Below w.heap.size w w' := by
  obtain ⟨k, h⟩ := P a0 w0
  refine (bywashlaw3_SqueezeOnce.calls k a0 true w h).mono ?_
  rintro e w' ⟨rfl, hd⟩
  exact ⟨rfl, hd⟩

/-! ### bywashlaw3_SqueezeJoins: function 11 -/
mutual
def bywashlaw3_SqueezeJoins.j0 : Nat → ByteArray → ByteArray → Bool → Option (Bool)
  | 0, _, _, _ => none
  | k + 1, x0, x1, x18 => if x18 = true then ((bywashlaw3_alive.f k).bind fun t186 => (some t186)) else (bywashlaw3_SqueezeJoins.l0 k x0 x1 0 0)
def bywashlaw3_SqueezeJoins.l0 : Nat → ByteArray → ByteArray → Int → Int → Option (Bool)
  | 0, _, _, _, _ => none
  | k + 1, x0, x1, x5, x6 => if x0.size + x1.size ≤ 9223372036854775807 then (if x6 < ((x0 ++ x1).size : Int) then (if 0 ≤ x6 then ((squeeze_Bits.f k (bt (x0 ++ x1) x6)).bind fun t187 => (bywashlaw3_SqueezeJoins.l0 k x0 x1 (wrap64 (x5 + t187)) (wrap64 (x6 + 1)))) else (none)) else ((squeeze_Len.f k (x0 ++ x1)).bind fun t188 => (if t188 = (wrap64 (Int.tdiv (wrap64 (x5 + 7)) 8)) then ((squeeze_Len.f k (x0 ++ x1)).bind fun t189 => ((squeeze_Len.f k x0).bind fun t190 => ((squeeze_Len.f k x1).bind fun t191 => (some (decide (t189 ≤ (wrap64 (t190 + t191)))))))) else (some false)))) else (none)
end
def bywashlaw3_SqueezeJoins.f (k : Nat) (a0 : ByteArray) (a1 : ByteArray) : Option (Bool) := if (a0.size : Int) > 100 then (bywashlaw3_SqueezeJoins.j0 k a0 a1 true) else (if (a1.size : Int) > 100 then (bywashlaw3_SqueezeJoins.j0 k a0 a1 true) else ((bywashlaw3_alive.f k).bind fun t185 => (bywashlaw3_SqueezeJoins.j0 k a0 a1 (!t185))))
theorem bywashlaw3_SqueezeJoins.mono_l : ∀ k, (∀ y0 y1 y2, LeO (bywashlaw3_SqueezeJoins.j0 k y0 y1 y2) (bywashlaw3_SqueezeJoins.j0 (k + 1) y0 y1 y2)) ∧ (∀ y0 y1 y2 y3, LeO (bywashlaw3_SqueezeJoins.l0 k y0 y1 y2 y3) (bywashlaw3_SqueezeJoins.l0 (k + 1) y0 y1 y2 y3))
  | 0 => ⟨fun _ _ _ r h => by simp [bywashlaw3_SqueezeJoins.j0] at h, fun _ _ _ _ r h => by simp [bywashlaw3_SqueezeJoins.l0] at h⟩
  | k + 1 => by
    obtain ⟨ih0, ih1⟩ := bywashlaw3_SqueezeJoins.mono_l k
    refine ⟨?_, ?_⟩
    · intro y0 y1 y2
      unfold bywashlaw3_SqueezeJoins.j0
      repeat' first
      | (with_reducible exact ih0 _ _ _)
      | (with_reducible exact ih1 _ _ _ _)
      | (with_reducible exact bywashlaw3_alive.mono _)
      | (with_reducible exact squeeze_Bits.mono _ _)
      | (with_reducible exact squeeze_Len.mono _ _)
      | (with_reducible exact LeO.refl _)
      | (with_reducible exact LeO.none _)
      | (with_reducible refine LeO.ite ?_ ?_)
      | (with_reducible refine LeO.bind ?_ (fun _ => ?_))
      | exact ih0 _ _ _
      | exact ih1 _ _ _ _
      | exact bywashlaw3_alive.mono _
      | exact squeeze_Bits.mono _ _
      | exact squeeze_Len.mono _ _
      | exact LeO.none _
      | refine LeO.ite ?_ ?_
      | refine LeO.bind ?_ (fun _ => ?_)
    · intro y0 y1 y2 y3
      unfold bywashlaw3_SqueezeJoins.l0
      repeat' first
      | (with_reducible exact ih0 _ _ _)
      | (with_reducible exact ih1 _ _ _ _)
      | (with_reducible exact bywashlaw3_alive.mono _)
      | (with_reducible exact squeeze_Bits.mono _ _)
      | (with_reducible exact squeeze_Len.mono _ _)
      | (with_reducible exact LeO.refl _)
      | (with_reducible exact LeO.none _)
      | (with_reducible refine LeO.ite ?_ ?_)
      | (with_reducible refine LeO.bind ?_ (fun _ => ?_))
      | exact ih0 _ _ _
      | exact ih1 _ _ _ _
      | exact bywashlaw3_alive.mono _
      | exact squeeze_Bits.mono _ _
      | exact squeeze_Len.mono _ _
      | exact LeO.none _
      | refine LeO.ite ?_ ?_
      | refine LeO.bind ?_ (fun _ => ?_)
theorem bywashlaw3_SqueezeJoins.mono : ∀ a0 a1 k, LeO (bywashlaw3_SqueezeJoins.f k a0 a1) (bywashlaw3_SqueezeJoins.f (k + 1) a0 a1) := by
  intro a0 a1 k
  obtain ⟨ih0, ih1⟩ := bywashlaw3_SqueezeJoins.mono_l k
  unfold bywashlaw3_SqueezeJoins.f
  repeat' first
      | (with_reducible exact ih0 _ _ _)
      | (with_reducible exact ih1 _ _ _ _)
      | (with_reducible exact bywashlaw3_alive.mono _)
      | (with_reducible exact squeeze_Bits.mono _ _)
      | (with_reducible exact squeeze_Len.mono _ _)
      | (with_reducible exact LeO.refl _)
      | (with_reducible exact LeO.none _)
      | (with_reducible refine LeO.ite ?_ ?_)
      | (with_reducible refine LeO.bind ?_ (fun _ => ?_))
      | exact ih0 _ _ _
      | exact ih1 _ _ _ _
      | exact bywashlaw3_alive.mono _
      | exact squeeze_Bits.mono _ _
      | exact squeeze_Len.mono _ _
      | exact LeO.none _
      | refine LeO.ite ?_ ?_
      | refine LeO.bind ?_ (fun _ => ?_)
set_option maxHeartbeats 8000000 in
set_option maxRecDepth 100000 in
theorem bywashlaw3_SqueezeJoins.calls (k : Nat) (a0 : ByteArray) (a1 : ByteArray) (r : Bool) (w : World) (h : bywashlaw3_SqueezeJoins.f k a0 a1 = some r) :
    Calls Try.prog 11 #[.string a0, .string a1] w fun e w' => e = .returned (.bool r) ∧ Below w.heap.size w w' := by
  have HB := Aside0.mk (Below.refl w.heap.size w)
  have H : (if (a0.size : Int) > 100 then (bywashlaw3_SqueezeJoins.j0 k a0 a1 true) else (if (a1.size : Int) > 100 then (bywashlaw3_SqueezeJoins.j0 k a0 a1 true) else ((bywashlaw3_alive.f k).bind fun t185 => (bywashlaw3_SqueezeJoins.j0 k a0 a1 (!t185))))) = some r := h
  clear h
  have HC3 := Aside0.mk H
  clear H
  go_enter Try.func11, Try.ntmps11
  go_upto_region 1 with (fail)
  go_cut [18] (fun v18 wc => ∃ (kq : Nat) (x18_2 : Bool), v18 = .bool x18_2 ∧ Aside0 (bywashlaw3_SqueezeJoins.j0 kq a0 a1 x18_2 = some r) ∧ Aside0 (kq ≤ k) ∧ Aside0 (Below w.heap.size w wc))
  case first =>
    have H := HC3.out
    clear HC3
    by_cases c4 : (a0.size : Int) > 100
    · rw [if_pos c4] at H
      have c4b0 : decide (100 < (a0.size : Int)) = true := decide_eq_true c4
      have c4b1 : decide (100 < a0.size) = true := decide_eq_true (by omega)
      clear c4
      (first | rw [c4b0] | (simp only [i64_w, i32_w]; rw [c4b0]) | skip)
      have H' := Aside0.mk H
      clear H
      go_wp2
      go_meet
      case rel => exact ⟨_, (true), (by first | rfl | (simp; done) | (simp [*]; done)), H', ⟨by first | omega | exact Nat.le_refl _⟩, ⟨by repeat (first | (with_reducible first | exact HB.out | apply below_alloc | apply pw_below_drewN | apply below_drew1) | exact HB.out)⟩⟩
    · rw [if_neg c4] at H
      have c4b0 : decide (100 < (a0.size : Int)) = false := decide_eq_false c4
      have c4b1 : decide (100 < a0.size) = false := decide_eq_false (by omega)
      clear c4
      (first | rw [c4b0] | (simp only [i64_w, i32_w]; rw [c4b0]) | skip)
      by_cases c5 : (a1.size : Int) > 100
      · rw [if_pos c5] at H
        have c5b0 : decide (100 < (a1.size : Int)) = true := decide_eq_true c5
        have c5b1 : decide (100 < a1.size) = true := decide_eq_true (by omega)
        clear c5
        have H' := Aside0.mk H
        clear H
        go_wp2
        go_meet
        case rel => exact ⟨_, (true), (by first | rfl | (simp; done) | (simp [*]; done)), H', ⟨by first | omega | exact Nat.le_refl _⟩, ⟨by repeat (first | (with_reducible first | exact HB.out | apply below_alloc | apply pw_below_drewN | apply below_drew1) | exact HB.out)⟩⟩
      · rw [if_neg c5] at H
        have c5b0 : decide (100 < (a1.size : Int)) = false := decide_eq_false c5
        have c5b1 : decide (100 < a1.size) = false := decide_eq_false (by omega)
        clear c5
        replace H := Option.bind_eq_some_iff.mp H
        obtain ⟨t185, A60, H⟩ := H
        replace H : (bywashlaw3_SqueezeJoins.j0 k a0 a1 (!t185)) = some r := H
        have A6 := Aside0.mk A60
        clear A60
        have H' := Aside0.mk H
        clear H
        go_wp2_with (first | (go_at_call 20; (with_reducible refine (bywashlaw3_alive.calls k  t185 _ A6.out).mono ?_); rintro e w7 ⟨rfl, hb⟩; have n0_ := Aside0.mk (below_step (by repeat (first | (with_reducible first | exact HB.out | apply below_alloc | apply pw_below_drewN | apply below_drew1) | exact HB.out)) hb); clear HB; have HB := n0_; clear n0_; (try clear hb); (try clear hb2); (try clear hk); (try clear hi)))
        go_meet
        case rel => exact ⟨_, (!t185), (by first | rfl | (simp; done) | (simp [*]; done)), H', ⟨by first | omega | exact Nat.le_refl _⟩, ⟨by repeat (first | (with_reducible first | exact HB.out | apply below_alloc | apply pw_below_drewN | apply below_drew1) | exact HB.out)⟩⟩
  case rest =>
    clear HC3
    try clear c1
    try clear p2
    try clear c4
    try clear c4b0
    try clear c4b1
    try clear c5
    try clear c5b0
    try clear c5b1
    obtain ⟨kq, x18_2, rfl, HA, HJ2, HB⟩ := hcut
    cases kq with
    | zero => exact absurd HA.out (by simp [bywashlaw3_SqueezeJoins.j0])
    | succ kj2 =>
      have H := HA.out
      clear HA
      simp only [bywashlaw3_SqueezeJoins.j0] at H
      by_cases c8 : x18_2 = true
      · subst c8
        have H1 : ((bywashlaw3_alive.f kj2).bind fun t186 => (some t186)) = some r := by rw [if_pos rfl] at H; exact H
        clear H
        have H := H1
        clear H1
        replace H := Option.bind_eq_some_iff.mp H
        obtain ⟨t186, A90, H⟩ := H
        replace H : (some t186) = some r := H
        have A9 := Aside0.mk A90
        clear A90
        obtain rfl := Option.some.inj H
        go_wp2_with (first | ((with_reducible refine gate_callee (f := 20) rfl ?_); refine goesL_ (some 19) rfl rfl Try.func20 (by kernel_rfl) rfl #[] rfl (by (try simp only [List.map_toArray, List.map_cons, List.map_nil]); first | done | rfl | (simp only [List.length_drop, List.length_take]; rfl)) ?_; (with_reducible refine (bywashlaw3_alive.calls kj2  t186 _ A9.out).mono ?_); rintro e w10 ⟨rfl, hb⟩; refine ⟨_, rfl, ?_⟩; have n0_ := Aside0.mk (below_step (by repeat (first | (with_reducible first | exact HB.out | apply below_alloc | apply pw_below_drewN | apply below_drew1) | exact HB.out)) hb); clear HB; have HB := n0_; clear n0_; (try clear hb); (try clear hb2); (try clear hk); (try clear hi)))
        go_ret
        exact ⟨by first | rfl | (simp [errW_none, errW_some] <;> rfl) | (simp [*, errW_none, errW_some] <;> rfl), by repeat (first | (with_reducible first | exact HB.out | apply below_alloc | apply pw_below_drewN | apply below_drew1) | exact HB.out)⟩
      · replace c8 := Bool.eq_false_iff.mpr c8
        subst c8
        have H1 : (bywashlaw3_SqueezeJoins.l0 kj2 a0 a1 0 0) = some r := by rw [if_neg (show ¬ (false = true) by decide)] at H; exact H
        clear H
        have H := H1
        clear H1
        have H' := Aside0.mk H
        clear H
        go_wp2
        go_loopg [5, 6] kj2 (fun kq v5 v6 w' => ∃ (x5_2 : Int) (x6_2 : Int), v5 = .int .i64 x5_2 ∧ v6 = .int .i64 x6_2 ∧ Aside0 (bywashlaw3_SqueezeJoins.l0 kq a0 a1 x5_2 x6_2 = some r) ∧ Aside0 (kq ≤ kj2) ∧ Aside0 (Below w.heap.size w w'))
        case atStart => exact ⟨(0), (0), (by first | rfl | (simp; done) | (simp [*]; done)), (by first | rfl | (simp; done) | (simp [*]; done)), H', ⟨Nat.le_refl _⟩, ⟨by repeat (first | (with_reducible first | exact HB.out | apply below_alloc | apply pw_below_drewN | apply below_drew1) | exact HB.out)⟩⟩
        case round =>
          clear H'
          try clear c1
          try clear c2
          try clear p2
          try clear c4
          try clear c4b0
          try clear c4b1
          try clear c5
          try clear c5b0
          try clear c5b1
          try clear c8
          try clear p2
          obtain ⟨x5_2, x6_2, rfl, rfl, HA, HK2, HB⟩ := hrel
          cases gk with
          | zero => exact absurd HA.out (by simp [bywashlaw3_SqueezeJoins.l0])
          | succ k2 =>
            have H := HA.out
            clear HA
            simp only [bywashlaw3_SqueezeJoins.l0] at H
            by_cases c11 : a0.size + a1.size ≤ 9223372036854775807
            · rw [if_pos c11] at H
              have c11b0 := eq_true c11
              have c11b1 : decide (a0.size + a1.size ≤ 9223372036854775807) = true := decide_eq_true c11
              try have c11b2 : (9223372036854775807 < a0.size + a1.size) = False := eq_false (Nat.not_lt.2 c11)
              by_cases c12 : x6_2 < ((a0 ++ a1).size : Int)
              · rw [if_pos c12] at H
                have c12b0 : decide (x6_2 < ((a0 ++ a1).size : Int)) = true := decide_eq_true c12
                try (have c12m0 := c12b0; simp only [ByteArray.size_append, Int.natCast_add] at c12m0)
                clear c12
                by_cases c13 : 0 ≤ x6_2
                · rw [if_pos c13] at H
                  have c13b0 : decide (0 ≤ x6_2) = true := decide_eq_true c13
                  clear c13
                  replace H := Option.bind_eq_some_iff.mp H
                  obtain ⟨t187, A150, H⟩ := H
                  replace H : (bywashlaw3_SqueezeJoins.l0 k2 a0 a1 (wrap64 (x5_2 + t187)) (wrap64 (x6_2 + 1))) = some r := H
                  have A15 := Aside0.mk A150
                  clear A150
                  have H' := Aside0.mk H
                  clear H
                  have p14 : 0 ≤ (x6_2 : Int) := of_decide_eq_true (by first | (with_reducible assumption) | assumption)
                  have q14 : x6_2 < ((a0 ++ a1).size : Int) := of_decide_eq_true (by first | (with_reducible assumption) | assumption)
                  have q14m : (x6_2 < (a0.size : Int) + (a1.size : Int)) = True := eq_true (by have z_ := q14; simp only [ByteArray.size_append, Int.natCast_add] at z_; exact z_)
                  have hx14 := bt_at (a0 ++ a1) x6_2
                  replace p14 := eq_true p14
                  replace q14 := eq_true q14
                  go_wp2_with (first | ((with_reducible refine gate_callee (f := 26) rfl ?_); refine goesL_ (some 34) rfl rfl Try.func26 (by kernel_rfl) rfl #[.int .u8 (bt (a0 ++ a1) x6_2)] rfl (by (try simp only [List.map_toArray, List.map_cons, List.map_nil]); first | done | rfl | (simp only [List.length_drop, List.length_take]; rfl)) ?_; (with_reducible refine (squeeze_Bits.calls k2 (bt (a0 ++ a1) x6_2) t187 _ A15.out).mono ?_); rintro e w' ⟨rfl, ⟨nd, rfl⟩⟩; refine ⟨_, rfl, ?_⟩))
                  go_roundg k2
                  case measure => have := HJ2.out; have := HK2.out; omega
                  case rel => exact ⟨(wrap64 (x5_2 + t187)), (wrap64 (x6_2 + 1)), (by first | rfl | (simp; done) | (simp [*]; done)), (by first | rfl | (simp; done) | (simp [*]; done)), H', ⟨by have := HJ2.out; have := HK2.out; omega⟩, ⟨by repeat (first | (with_reducible first | exact HB.out | apply below_alloc | apply pw_below_drewN | apply below_drew1) | exact HB.out)⟩⟩
                · rw [if_neg c13] at H
                  exact absurd H (by simp)
              · rw [if_neg c12] at H
                have c12b0 : decide (x6_2 < ((a0 ++ a1).size : Int)) = false := decide_eq_false c12
                try (have c12m0 := c12b0; simp only [ByteArray.size_append, Int.natCast_add] at c12m0)
                clear c12
                replace H := Option.bind_eq_some_iff.mp H
                obtain ⟨t188, A160, H⟩ := H
                replace H : (if t188 = (wrap64 (Int.tdiv (wrap64 (x5_2 + 7)) 8)) then ((squeeze_Len.f k2 (a0 ++ a1)).bind fun t189 => ((squeeze_Len.f k2 a0).bind fun t190 => ((squeeze_Len.f k2 a1).bind fun t191 => (some (decide (t189 ≤ (wrap64 (t190 + t191)))))))) else (some false)) = some r := H
                have A16 := Aside0.mk A160
                clear A160
                by_cases c17 : t188 = (wrap64 (Int.tdiv (wrap64 (x5_2 + 7)) 8))
                · rw [if_pos c17] at H
                  have c17b0 : (t188 == (wrap64 (Int.tdiv (wrap64 (x5_2 + 7)) 8))) = true := beq_iff_eq.mpr c17
                  have c17b1 : (t188 != (wrap64 (Int.tdiv (wrap64 (x5_2 + 7)) 8))) = false := bne_eq_false_iff_eq.mpr c17
                  clear c17
                  replace H := Option.bind_eq_some_iff.mp H
                  obtain ⟨t189, A180, H⟩ := H
                  replace H : ((squeeze_Len.f k2 a0).bind fun t190 => ((squeeze_Len.f k2 a1).bind fun t191 => (some (decide (t189 ≤ (wrap64 (t190 + t191))))))) = some r := H
                  have A18 := Aside0.mk A180
                  clear A180
                  replace H := Option.bind_eq_some_iff.mp H
                  obtain ⟨t190, A190, H⟩ := H
                  replace H : ((squeeze_Len.f k2 a1).bind fun t191 => (some (decide (t189 ≤ (wrap64 (t190 + t191)))))) = some r := H
                  have A19 := Aside0.mk A190
                  clear A190
                  replace H := Option.bind_eq_some_iff.mp H
                  obtain ⟨t191, A200, H⟩ := H
                  replace H : (some (decide (t189 ≤ (wrap64 (t190 + t191))))) = some r := H
                  have A20 := Aside0.mk A200
                  clear A200
                  obtain rfl := Option.some.inj H
                  go_wp2_with (first | ((with_reducible refine gate_callee (f := 25) rfl ?_); refine goesL_ (some 39) rfl rfl Try.func25 (by kernel_rfl) rfl #[.string (a0 ++ a1)] rfl (by (try simp only [List.map_toArray, List.map_cons, List.map_nil]); first | done | rfl | (simp only [List.length_drop, List.length_take]; rfl)) ?_; (with_reducible refine (squeeze_Len.calls k2 (a0 ++ a1) t188 _ A16.out).mono ?_); rintro e w' ⟨rfl, ⟨nd, rfl⟩⟩; refine ⟨_, rfl, ?_⟩) | (go_at_call 25; (with_reducible refine (squeeze_Len.calls k2 (a0 ++ a1) t189 _ A18.out).mono ?_); rintro e w' ⟨rfl, ⟨nd, rfl⟩⟩) | (go_at_call 25; (with_reducible refine (squeeze_Len.calls k2 a0 t190 _ A19.out).mono ?_); rintro e w' ⟨rfl, ⟨nd, rfl⟩⟩) | (go_at_call 25; (with_reducible refine (squeeze_Len.calls k2 a1 t191 _ A20.out).mono ?_); rintro e w' ⟨rfl, ⟨nd, rfl⟩⟩))
                  go_ret
                  exact ⟨by first | rfl | (simp [errW_none, errW_some] <;> rfl) | (simp [*, errW_none, errW_some] <;> rfl), by repeat (first | (with_reducible first | exact HB.out | apply below_alloc | apply pw_below_drewN | apply below_drew1) | exact HB.out)⟩
                · rw [if_neg c17] at H
                  have c17b0 : (t188 == (wrap64 (Int.tdiv (wrap64 (x5_2 + 7)) 8))) = false := beq_eq_false_iff_ne.mpr c17
                  have c17b1 : (t188 != (wrap64 (Int.tdiv (wrap64 (x5_2 + 7)) 8))) = true := bne_iff_ne.mpr c17
                  obtain rfl := Option.some.inj H
                  go_wp2_with (first | ((with_reducible refine gate_callee (f := 25) rfl ?_); refine goesL_ (some 39) rfl rfl Try.func25 (by kernel_rfl) rfl #[.string (a0 ++ a1)] rfl (by (try simp only [List.map_toArray, List.map_cons, List.map_nil]); first | done | rfl | (simp only [List.length_drop, List.length_take]; rfl)) ?_; (with_reducible refine (squeeze_Len.calls k2 (a0 ++ a1) t188 _ A16.out).mono ?_); rintro e w' ⟨rfl, ⟨nd, rfl⟩⟩; refine ⟨_, rfl, ?_⟩))
                  go_ret
                  exact ⟨by first | rfl | (simp [errW_none, errW_some] <;> rfl) | (simp [*, errW_none, errW_some] <;> rfl), by repeat (first | (with_reducible first | exact HB.out | apply below_alloc | apply pw_below_drewN | apply below_drew1) | exact HB.out)⟩
            · rw [if_neg c11] at H
              exact absurd H (by simp)

/-- THE ONE PURE STATEMENT of bywashlaw3_SqueezeJoins: yours. -/
def bywashlaw3_SqueezeJoins.Pure : Prop := ∀ (a0 : ByteArray) (a1 : ByteArray), a0.size ≤ 140737488351232 → a1.size ≤ 140737488351232 → ∃ k, bywashlaw3_SqueezeJoins.f k a0 a1 = some true
theorem bywashlaw3_SqueezeJoins.walk (P : bywashlaw3_SqueezeJoins.Pure) (a0 : ByteArray) (a1 : ByteArray) (w : World) (w0 : a0.size ≤ 140737488351232) (w1 : a1.size ≤ 140737488351232) :
    Calls Try.prog 11 #[.string a0, .string a1] w fun e w' => e = .returned (.bool true) ∧ Below w.heap.size w w' := by
  obtain ⟨k, h⟩ := P a0 a1 w0 w1
  refine (bywashlaw3_SqueezeJoins.calls k a0 a1 true w h).mono ?_
  rintro e w' ⟨rfl, hd⟩
  exact ⟨rfl, hd⟩

end Go.Proofs.Ytmglfnphkngfdaa.XSq
