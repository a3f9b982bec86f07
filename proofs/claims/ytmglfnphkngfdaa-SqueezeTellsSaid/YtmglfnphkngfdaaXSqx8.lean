-- Printed by wip/tools/xprint.py of this claim's session: the kit's print over contracts of its own.
import Derived.Test.YtmglfnphkngfdaaXSqx0
import Derived.Test.YtmglfnphkngfdaaXSqx3
namespace Go.Proofs.Ytmglfnphkngfdaa.XSq
open Go.RowKit Go.Proofs.YtmglfnphkngfdaaW.PrintWords Go.Proofs.YtmglfnphkngfdaaW.PrintLast Go.Proofs.YtmglfnphkngfdaaW.PrintMore
attribute [local go_sem] max2_int min2_int max_two min_two max_three min_three max_four min_four   -- for this text's walks alone
set_option linter.unusedVariables false
set_option linter.unusedSimpArgs false

/-! ### bywashlaw3_SqueezeShort: function 14 -/
def bywashlaw3_SqueezeShort.j0 : Nat → ByteArray → Bool → Option (Bool)
  | 0, _, _ => none
  | k + 1, x0, x10 => if x10 = true then ((bywashlaw3_alive.f k).bind fun t204 => (some t204)) else ((squeeze_Len.f k x0).bind fun t205 => (if t205 ≥ (wrap64 (Int.tdiv (wrap64 ((wrap64 (5 * (x0.size : Int))) + 7)) 8)) then (if t205 ≤ (wrap64 (Int.tdiv (wrap64 ((wrap64 (10 * (x0.size : Int))) + 7)) 8)) then (some ((t205 == 0) == (x0.toList == ([] : List UInt8)))) else (some false)) else (some false)))
def bywashlaw3_SqueezeShort.f (k : Nat) (a0 : ByteArray) : Option (Bool) := if (a0.size : Int) > 200 then (bywashlaw3_SqueezeShort.j0 k a0 true) else ((bywashlaw3_alive.f k).bind fun t203 => (bywashlaw3_SqueezeShort.j0 k a0 (!t203)))
theorem bywashlaw3_SqueezeShort.mono_l : ∀ k, (∀ y0 y1, LeO (bywashlaw3_SqueezeShort.j0 k y0 y1) (bywashlaw3_SqueezeShort.j0 (k + 1) y0 y1))
  | 0 => fun _ _ r h => by simp [bywashlaw3_SqueezeShort.j0] at h
  | k + 1 => by
    have ih0 := bywashlaw3_SqueezeShort.mono_l k
    · intro y0 y1
      unfold bywashlaw3_SqueezeShort.j0
      repeat' first
      | (with_reducible exact ih0 _ _)
      | (with_reducible exact bywashlaw3_alive.mono _)
      | (with_reducible exact squeeze_Len.mono _ _)
      | (with_reducible exact LeO.refl _)
      | (with_reducible exact LeO.none _)
      | (with_reducible refine LeO.ite ?_ ?_)
      | (with_reducible refine LeO.bind ?_ (fun _ => ?_))
      | exact ih0 _ _
      | exact bywashlaw3_alive.mono _
      | exact squeeze_Len.mono _ _
      | exact LeO.none _
      | refine LeO.ite ?_ ?_
      | refine LeO.bind ?_ (fun _ => ?_)
theorem bywashlaw3_SqueezeShort.mono : ∀ a0 k, LeO (bywashlaw3_SqueezeShort.f k a0) (bywashlaw3_SqueezeShort.f (k + 1) a0) := by
  intro a0 k
  have ih0 := bywashlaw3_SqueezeShort.mono_l k
  unfold bywashlaw3_SqueezeShort.f
  repeat' first
      | (with_reducible exact ih0 _ _)
      | (with_reducible exact bywashlaw3_alive.mono _)
      | (with_reducible exact squeeze_Len.mono _ _)
      | (with_reducible exact LeO.refl _)
      | (with_reducible exact LeO.none _)
      | (with_reducible refine LeO.ite ?_ ?_)
      | (with_reducible refine LeO.bind ?_ (fun _ => ?_))
      | exact ih0 _ _
      | exact bywashlaw3_alive.mono _
      | exact squeeze_Len.mono _ _
      | exact LeO.none _
      | refine LeO.ite ?_ ?_
      | refine LeO.bind ?_ (fun _ => ?_)
set_option maxHeartbeats 8000000 in
set_option maxRecDepth 100000 in
theorem bywashlaw3_SqueezeShort.calls (k : Nat) (a0 : ByteArray) (r : Bool) (w : World) (h : bywashlaw3_SqueezeShort.f k a0 = some r) :
    Calls Try.prog 14 #[.string a0] w fun e w' => e = .returned (.bool r) ∧ Below w.heap.size w w' := by
  have HB := Aside0.mk (Below.refl w.heap.size w)
  have H : (if (a0.size : Int) > 200 then (bywashlaw3_SqueezeShort.j0 k a0 true) else ((bywashlaw3_alive.f k).bind fun t203 => (bywashlaw3_SqueezeShort.j0 k a0 (!t203)))) = some r := h
  clear h
  have HC2 := Aside0.mk H
  clear H
  go_enter Try.func14, Try.ntmps14
  go_upto_region 1 with (fail)
  go_cut [10] (fun v10 wc => ∃ (kq : Nat) (x10_1 : Bool), v10 = .bool x10_1 ∧ Aside0 (bywashlaw3_SqueezeShort.j0 kq a0 x10_1 = some r) ∧ Aside0 (kq ≤ k) ∧ Aside0 (Below w.heap.size w wc))
  case first =>
    have H := HC2.out
    clear HC2
    by_cases c3 : (a0.size : Int) > 200
    · rw [if_pos c3] at H
      have c3b0 : decide (200 < (a0.size : Int)) = true := decide_eq_true c3
      have c3b1 : decide (200 < a0.size) = true := decide_eq_true (by omega)
      clear c3
      (first | rw [c3b0] | (simp only [i64_w, i32_w]; rw [c3b0]) | skip)
      have H' := Aside0.mk H
      clear H
      go_wp2
      go_meet
      case rel => exact ⟨_, (true), (by first | rfl | (simp; done) | (simp [*]; done)), H', ⟨by first | omega | exact Nat.le_refl _⟩, ⟨by repeat (first | (with_reducible first | exact HB.out | apply below_alloc | apply pw_below_drewN | apply below_drew1) | exact HB.out)⟩⟩
    · rw [if_neg c3] at H
      have c3b0 : decide (200 < (a0.size : Int)) = false := decide_eq_false c3
      have c3b1 : decide (200 < a0.size) = false := decide_eq_false (by omega)
      clear c3
      (first | rw [c3b0] | (simp only [i64_w, i32_w]; rw [c3b0]) | skip)
      replace H := Option.bind_eq_some_iff.mp H
      obtain ⟨t203, A40, H⟩ := H
      replace H : (bywashlaw3_SqueezeShort.j0 k a0 (!t203)) = some r := H
      have A4 := Aside0.mk A40
      clear A40
      have H' := Aside0.mk H
      clear H
      go_wp2_with (first | (go_at_call 20; (with_reducible refine (bywashlaw3_alive.calls k  t203 _ A4.out).mono ?_); rintro e w5 ⟨rfl, hb⟩; have n0_ := Aside0.mk (below_step (by repeat (first | (with_reducible first | exact HB.out | apply below_alloc | apply pw_below_drewN | apply below_drew1) | exact HB.out)) hb); clear HB; have HB := n0_; clear n0_; (try clear hb); (try clear hb2); (try clear hk); (try clear hi)))
      go_meet
      case rel => exact ⟨_, (!t203), (by first | rfl | (simp; done) | (simp [*]; done)), H', ⟨by first | omega | exact Nat.le_refl _⟩, ⟨by repeat (first | (with_reducible first | exact HB.out | apply below_alloc | apply pw_below_drewN | apply below_drew1) | exact HB.out)⟩⟩
  case rest =>
    clear HC2
    try clear c1
    try clear p2
    try clear c3
    try clear c3b0
    try clear c3b1
    obtain ⟨kq, x10_1, rfl, HA, HJ1, HB⟩ := hcut
    cases kq with
    | zero => exact absurd HA.out (by simp [bywashlaw3_SqueezeShort.j0])
    | succ kj1 =>
      have H := HA.out
      clear HA
      simp only [bywashlaw3_SqueezeShort.j0] at H
      by_cases c6 : x10_1 = true
      · subst c6
        have H1 : ((bywashlaw3_alive.f kj1).bind fun t204 => (some t204)) = some r := by rw [if_pos rfl] at H; exact H
        clear H
        have H := H1
        clear H1
        replace H := Option.bind_eq_some_iff.mp H
        obtain ⟨t204, A70, H⟩ := H
        replace H : (some t204) = some r := H
        have A7 := Aside0.mk A70
        clear A70
        obtain rfl := Option.some.inj H
        go_wp2_with (first | ((with_reducible refine gate_callee (f := 20) rfl ?_); refine goesL_ (some 11) rfl rfl Try.func20 (by kernel_rfl) rfl #[] rfl (by (try simp only [List.map_toArray, List.map_cons, List.map_nil]); first | done | rfl | (simp only [List.length_drop, List.length_take]; rfl)) ?_; (with_reducible refine (bywashlaw3_alive.calls kj1  t204 _ A7.out).mono ?_); rintro e w8 ⟨rfl, hb⟩; refine ⟨_, rfl, ?_⟩; have n0_ := Aside0.mk (below_step (by repeat (first | (with_reducible first | exact HB.out | apply below_alloc | apply pw_below_drewN | apply below_drew1) | exact HB.out)) hb); clear HB; have HB := n0_; clear n0_; (try clear hb); (try clear hb2); (try clear hk); (try clear hi)))
        go_ret
        exact ⟨by first | rfl | (simp [errW_none, errW_some] <;> rfl) | (simp [*, errW_none, errW_some] <;> rfl), by repeat (first | (with_reducible first | exact HB.out | apply below_alloc | apply pw_below_drewN | apply below_drew1) | exact HB.out)⟩
      · replace c6 := Bool.eq_false_iff.mpr c6
        subst c6
        have H1 : ((squeeze_Len.f kj1 a0).bind fun t205 => (if t205 ≥ (wrap64 (Int.tdiv (wrap64 ((wrap64 (5 * (a0.size : Int))) + 7)) 8)) then (if t205 ≤ (wrap64 (Int.tdiv (wrap64 ((wrap64 (10 * (a0.size : Int))) + 7)) 8)) then (some ((t205 == 0) == (a0.toList == ([] : List UInt8)))) else (some false)) else (some false))) = some r := by rw [if_neg (show ¬ (false = true) by decide)] at H; exact H
        clear H
        have H := H1
        clear H1
        replace H := Option.bind_eq_some_iff.mp H
        obtain ⟨t205, A90, H⟩ := H
        replace H : (if t205 ≥ (wrap64 (Int.tdiv (wrap64 ((wrap64 (5 * (a0.size : Int))) + 7)) 8)) then (if t205 ≤ (wrap64 (Int.tdiv (wrap64 ((wrap64 (10 * (a0.size : Int))) + 7)) 8)) then (some ((t205 == 0) == (a0.toList == ([] : List UInt8)))) else (some false)) else (some false)) = some r := H
        have A9 := Aside0.mk A90
        clear A90
        by_cases c10 : t205 ≥ (wrap64 (Int.tdiv (wrap64 ((wrap64 (5 * (a0.size : Int))) + 7)) 8))
        · rw [if_pos c10] at H
          have c10b0 : decide ((wrap64 (Int.tdiv (wrap64 ((wrap64 (5 * (a0.size : Int))) + 7)) 8)) ≤ t205) = true := decide_eq_true c10
          clear c10
          by_cases c11 : t205 ≤ (wrap64 (Int.tdiv (wrap64 ((wrap64 (10 * (a0.size : Int))) + 7)) 8))
          · rw [if_pos c11] at H
            have c11b0 : decide (t205 ≤ (wrap64 (Int.tdiv (wrap64 ((wrap64 (10 * (a0.size : Int))) + 7)) 8))) = true := decide_eq_true c11
            clear c11
            obtain rfl := Option.some.inj H
            go_wp2_with (first | ((with_reducible refine gate_callee (f := 25) rfl ?_); refine goesL_ (some 13) rfl rfl Try.func25 (by kernel_rfl) rfl #[.string a0] rfl (by (try simp only [List.map_toArray, List.map_cons, List.map_nil]); first | done | rfl | (simp only [List.length_drop, List.length_take]; rfl)) ?_; (with_reducible refine (squeeze_Len.calls kj1 a0 t205 _ A9.out).mono ?_); rintro e w' ⟨rfl, ⟨nd, rfl⟩⟩; refine ⟨_, rfl, ?_⟩))
            go_ret
            exact ⟨by first | rfl | (simp [errW_none, errW_some] <;> rfl) | (simp [*, errW_none, errW_some] <;> rfl), by repeat (first | (with_reducible first | exact HB.out | apply below_alloc | apply pw_below_drewN | apply below_drew1) | exact HB.out)⟩
          · rw [if_neg c11] at H
            have c11b0 : decide (t205 ≤ (wrap64 (Int.tdiv (wrap64 ((wrap64 (10 * (a0.size : Int))) + 7)) 8))) = false := decide_eq_false c11
            clear c11
            obtain rfl := Option.some.inj H
            go_wp2_with (first | ((with_reducible refine gate_callee (f := 25) rfl ?_); refine goesL_ (some 13) rfl rfl Try.func25 (by kernel_rfl) rfl #[.string a0] rfl (by (try simp only [List.map_toArray, List.map_cons, List.map_nil]); first | done | rfl | (simp only [List.length_drop, List.length_take]; rfl)) ?_; (with_reducible refine (squeeze_Len.calls kj1 a0 t205 _ A9.out).mono ?_); rintro e w' ⟨rfl, ⟨nd, rfl⟩⟩; refine ⟨_, rfl, ?_⟩))
            go_ret
            exact ⟨by first | rfl | (simp [errW_none, errW_some] <;> rfl) | (simp [*, errW_none, errW_some] <;> rfl), by repeat (first | (with_reducible first | exact HB.out | apply below_alloc | apply pw_below_drewN | apply below_drew1) | exact HB.out)⟩
        · rw [if_neg c10] at H
          have c10b0 : decide ((wrap64 (Int.tdiv (wrap64 ((wrap64 (5 * (a0.size : Int))) + 7)) 8)) ≤ t205) = false := decide_eq_false c10
          clear c10
          obtain rfl := Option.some.inj H
          go_wp2_with (first | ((with_reducible refine gate_callee (f := 25) rfl ?_); refine goesL_ (some 13) rfl rfl Try.func25 (by kernel_rfl) rfl #[.string a0] rfl (by (try simp only [List.map_toArray, List.map_cons, List.map_nil]); first | done | rfl | (simp only [List.length_drop, List.length_take]; rfl)) ?_; (with_reducible refine (squeeze_Len.calls kj1 a0 t205 _ A9.out).mono ?_); rintro e w' ⟨rfl, ⟨nd, rfl⟩⟩; refine ⟨_, rfl, ?_⟩))
          go_ret
          exact ⟨by first | rfl | (simp [errW_none, errW_some] <;> rfl) | (simp [*, errW_none, errW_some] <;> rfl), by repeat (first | (with_reducible first | exact HB.out | apply below_alloc | apply pw_below_drewN | apply below_drew1) | exact HB.out)⟩

/-- THE ONE PURE STATEMENT of bywashlaw3_SqueezeShort: yours. -/
def bywashlaw3_SqueezeShort.Pure : Prop := ∀ (a0 : ByteArray), a0.size ≤ 140737488351232 → ∃ k, bywashlaw3_SqueezeShort.f k a0 = some true
theorem bywashlaw3_SqueezeShort.walk (P : bywashlaw3_SqueezeShort.Pure) (a0 : ByteArray) (w : World) (w0 : a0.size ≤ 140737488351232) :
    Calls Try.prog 14 #[.string a0] w fun e w' => e = .returned (.bool true) ∧ Below w.heap.size w w' := by
  obtain ⟨k, h⟩ := P a0 w0
  refine (bywashlaw3_SqueezeShort.calls k a0 true w h).mono ?_
  rintro e w' ⟨rfl, hd⟩
  exact ⟨rfl, hd⟩

end Go.Proofs.Ytmglfnphkngfdaa.XSq
