-- PRINTED BY print.sh 35421559b90ae4d0a3588c463048766b98c2df88dd9212a6774a882060cdf62d: not written by this session
import Derived.Test.YtmglfnphkngfdaaPVarintFirstx0
import Derived.Test.YtmglfnphkngfdaaPVarintFirstx1
namespace Go.Proofs.Ytmglfnphkngfdaa.PVarintFirst
open Go.RowKit Go.Proofs.YtmglfnphkngfdaaW.PrintWords Go.Proofs.YtmglfnphkngfdaaW.PrintLast Go.Proofs.YtmglfnphkngfdaaW.PrintMore
attribute [local go_sem] max2_int min2_int max_two min_two max_three min_three max_four min_four   -- for this text's walks alone
set_option linter.unusedVariables false
set_option linter.unusedSimpArgs false

/-! ### bywashlaw2_VarintFirst: function 6 -/
def bywashlaw2_VarintFirst.j0 : Nat → Int → Int → Int → ByteArray → ByteArray → Bool → Bool → Option (Bool)
  | 0, _, _, _, _, _, _, _ => none
  | k + 1, x0, x1, x2, x7, x9, x10, x32 => if x32 = true then ((bywashlaw2_alive.f k).bind fun t126 => (some t126)) else (if x10 = true then (if (x7.size : Int) = (x9.size : Int) then (if x7.toList = ([] : List UInt8) then (some false) else ((varint_Get.f k x7 x1).bind fun bt127 => (if 0 < (x7.size : Int) then (if 0 < (x9.size : Int) then (if (bt x7 0) = (Go.bits .or .u8 (bt x9 0) x0) then (if 1 ≤ (x7.size : Int) then (if 1 ≤ (x9.size : Int) then (if (x7.extract 1 x7.size).toList = (x9.extract 1 x9.size).toList then (if bt127.1 = x2 then (if bt127.2.1 = (x7.size : Int) then (some (bt127.2.2 == 0)) else (some false)) else (some false)) else (some false)) else (none)) else (none)) else (some false)) else (none)) else (none)))) else (some false)) else (some false))
def bywashlaw2_VarintFirst.f (k : Nat) (a0 : Int) (a1 : Int) (a2 : Int) : Option (Bool) := (varint_Put.f k a0 a1 a2).bind fun bt121 => ((varint_Put.f k 0 a1 a2).bind fun bt123 => (if bt121.2 = true then ((bywashlaw2_alive.f k).bind fun t125 => (bywashlaw2_VarintFirst.j0 k a0 a1 a2 bt121.1 bt123.1 bt123.2 (!t125))) else (bywashlaw2_VarintFirst.j0 k a0 a1 a2 bt121.1 bt123.1 bt123.2 true)))
theorem bywashlaw2_VarintFirst.mono_l : ∀ k, (∀ y0 y1 y2 y3 y4 y5 y6, LeO (bywashlaw2_VarintFirst.j0 k y0 y1 y2 y3 y4 y5 y6) (bywashlaw2_VarintFirst.j0 (k + 1) y0 y1 y2 y3 y4 y5 y6))
  | 0 => fun _ _ _ _ _ _ _ r h => by simp [bywashlaw2_VarintFirst.j0] at h
  | k + 1 => by
    have ih0 := bywashlaw2_VarintFirst.mono_l k
    · intro y0 y1 y2 y3 y4 y5 y6
      unfold bywashlaw2_VarintFirst.j0
      repeat' first
      | (with_reducible exact ih0 _ _ _ _ _ _ _)
      | (with_reducible exact bywashlaw2_alive.mono _)
      | (with_reducible exact varint_Get.mono _ _ _)
      | (with_reducible exact varint_Put.mono _ _ _ _)
      | (with_reducible exact LeO.refl _)
      | (with_reducible exact LeO.none _)
      | (with_reducible refine LeO.ite ?_ ?_)
      | (with_reducible refine LeO.bind ?_ (fun _ => ?_))
      | exact ih0 _ _ _ _ _ _ _
      | exact bywashlaw2_alive.mono _
      | exact varint_Get.mono _ _ _
      | exact varint_Put.mono _ _ _ _
      | exact LeO.none _
      | refine LeO.ite ?_ ?_
      | refine LeO.bind ?_ (fun _ => ?_)
theorem bywashlaw2_VarintFirst.mono : ∀ a0 a1 a2 k, LeO (bywashlaw2_VarintFirst.f k a0 a1 a2) (bywashlaw2_VarintFirst.f (k + 1) a0 a1 a2) := by
  intro a0 a1 a2 k
  have ih0 := bywashlaw2_VarintFirst.mono_l k
  unfold bywashlaw2_VarintFirst.f
  repeat' first
      | (with_reducible exact ih0 _ _ _ _ _ _ _)
      | (with_reducible exact bywashlaw2_alive.mono _)
      | (with_reducible exact varint_Get.mono _ _ _)
      | (with_reducible exact varint_Put.mono _ _ _ _)
      | (with_reducible exact LeO.refl _)
      | (with_reducible exact LeO.none _)
      | (with_reducible refine LeO.ite ?_ ?_)
      | (with_reducible refine LeO.bind ?_ (fun _ => ?_))
      | exact ih0 _ _ _ _ _ _ _
      | exact bywashlaw2_alive.mono _
      | exact varint_Get.mono _ _ _
      | exact varint_Put.mono _ _ _ _
      | exact LeO.none _
      | refine LeO.ite ?_ ?_
      | refine LeO.bind ?_ (fun _ => ?_)
set_option maxHeartbeats 8000000 in
set_option maxRecDepth 100000 in
theorem bywashlaw2_VarintFirst.calls (k : Nat) (a0 : Int) (a1 : Int) (a2 : Int) (r : Bool) (w : World) (h : bywashlaw2_VarintFirst.f k a0 a1 a2 = some r) :
    Calls Try.prog 6 #[.int .u8 a0, .int .i64 a1, .int .i64 a2] w fun e w' => e = .returned (.bool r) ∧ Below w.heap.size w w' := by
  have HB := Aside0.mk (Below.refl w.heap.size w)
  have H : ((varint_Put.f k a0 a1 a2).bind fun bt121 => ((varint_Put.f k 0 a1 a2).bind fun bt123 => (if bt121.2 = true then ((bywashlaw2_alive.f k).bind fun t125 => (bywashlaw2_VarintFirst.j0 k a0 a1 a2 bt121.1 bt123.1 bt123.2 (!t125))) else (bywashlaw2_VarintFirst.j0 k a0 a1 a2 bt121.1 bt123.1 bt123.2 true)))) = some r := h
  clear h
  replace H := Option.bind_eq_some_iff.mp H
  obtain ⟨⟨t121, t122⟩, A40, H⟩ := H
  replace H : ((varint_Put.f k 0 a1 a2).bind fun bt123 => (if t122 = true then ((bywashlaw2_alive.f k).bind fun t125 => (bywashlaw2_VarintFirst.j0 k a0 a1 a2 t121 bt123.1 bt123.2 (!t125))) else (bywashlaw2_VarintFirst.j0 k a0 a1 a2 t121 bt123.1 bt123.2 true))) = some r := H
  have A4 := Aside0.mk A40
  clear A40
  replace H := Option.bind_eq_some_iff.mp H
  obtain ⟨⟨t123, t124⟩, A50, H⟩ := H
  replace H : (if t122 = true then ((bywashlaw2_alive.f k).bind fun t125 => (bywashlaw2_VarintFirst.j0 k a0 a1 a2 t121 t123 t124 (!t125))) else (bywashlaw2_VarintFirst.j0 k a0 a1 a2 t121 t123 t124 true)) = some r := H
  have A5 := Aside0.mk A50
  clear A50
  have HC6 := Aside0.mk H
  clear H
  go_enter Try.func6, Try.ntmps6
  go_upto_region 3 with (first | (go_at_call 16; (with_reducible refine (varint_Put.calls k a0 a1 a2 t121 t122 _ A4.out).mono ?_); rintro e w7 ⟨rfl, hb⟩; have n0_ := Aside0.mk (below_step (by repeat (first | (with_reducible first | exact HB.out | apply below_alloc | apply pw_below_drewN | apply below_drew1) | exact HB.out)) hb); clear HB; have HB := n0_; clear n0_; (try clear hb); (try clear hb2); (try clear hk); (try clear hi)) | (go_at_call 16; (with_reducible refine (varint_Put.calls k 0 a1 a2 t123 t124 _ A5.out).mono ?_); rintro e w8 ⟨rfl, hb⟩; have n0_ := Aside0.mk (below_step (by repeat (first | (with_reducible first | exact HB.out | apply below_alloc | apply pw_below_drewN | apply below_drew1) | exact HB.out)) hb); clear HB; have HB := n0_; clear n0_; (try clear hb); (try clear hb2); (try clear hk); (try clear hi)))
  repeat (go_quiet (first | (go_at_call 16; (with_reducible refine (varint_Put.calls k a0 a1 a2 t121 t122 _ A4.out).mono ?_); rintro e w7 ⟨rfl, hb⟩; have n0_ := Aside0.mk (below_step (by repeat (first | (with_reducible first | exact HB.out | apply below_alloc | apply pw_below_drewN | apply below_drew1) | exact HB.out)) hb); clear HB; have HB := n0_; clear n0_; (try clear hb); (try clear hb2); (try clear hk); (try clear hi)) | (go_at_call 16; (with_reducible refine (varint_Put.calls k 0 a1 a2 t123 t124 _ A5.out).mono ?_); rintro e w8 ⟨rfl, hb⟩; have n0_ := Aside0.mk (below_step (by repeat (first | (with_reducible first | exact HB.out | apply below_alloc | apply pw_below_drewN | apply below_drew1) | exact HB.out)) hb); clear HB; have HB := n0_; clear n0_; (try clear hb); (try clear hb2); (try clear hk); (try clear hi))); go_upto_region 3 with (first | (go_at_call 16; (with_reducible refine (varint_Put.calls k a0 a1 a2 t121 t122 _ A4.out).mono ?_); rintro e w7 ⟨rfl, hb⟩; have n0_ := Aside0.mk (below_step (by repeat (first | (with_reducible first | exact HB.out | apply below_alloc | apply pw_below_drewN | apply below_drew1) | exact HB.out)) hb); clear HB; have HB := n0_; clear n0_; (try clear hb); (try clear hb2); (try clear hk); (try clear hi)) | (go_at_call 16; (with_reducible refine (varint_Put.calls k 0 a1 a2 t123 t124 _ A5.out).mono ?_); rintro e w8 ⟨rfl, hb⟩; have n0_ := Aside0.mk (below_step (by repeat (first | (with_reducible first | exact HB.out | apply below_alloc | apply pw_below_drewN | apply below_drew1) | exact HB.out)) hb); clear HB; have HB := n0_; clear n0_; (try clear hb); (try clear hb2); (try clear hk); (try clear hi))))
  (try simp only [Act.put, List.setIfInBounds_toArray, List.set_cons_zero, List.set_cons_succ])
  go_cut [32] (fun v32 wc => ∃ (kq : Nat) (x32_5 : Bool), v32 = .bool x32_5 ∧ Aside0 (bywashlaw2_VarintFirst.j0 kq a0 a1 a2 t121 t123 t124 x32_5 = some r) ∧ Aside0 (kq ≤ k) ∧ Aside0 (Below w.heap.size w wc))
  case first =>
    have H := HC6.out
    clear HC6
    by_cases c9 : t122 = true
    · subst c9
      have H1 : ((bywashlaw2_alive.f k).bind fun t125 => (bywashlaw2_VarintFirst.j0 k a0 a1 a2 t121 t123 t124 (!t125))) = some r := by rw [if_pos rfl] at H; exact H
      clear H
      have H := H1
      clear H1
      replace H := Option.bind_eq_some_iff.mp H
      obtain ⟨t125, A100, H⟩ := H
      replace H : (bywashlaw2_VarintFirst.j0 k a0 a1 a2 t121 t123 t124 (!t125)) = some r := H
      have A10 := Aside0.mk A100
      clear A100
      have H' := Aside0.mk H
      clear H
      go_wp2_with (first | (go_at_call 15; (with_reducible refine (bywashlaw2_alive.calls k  t125 _ A10.out).mono ?_); rintro e w11 ⟨rfl, hb⟩; have n0_ := Aside0.mk (below_step (by repeat (first | (with_reducible first | exact HB.out | apply below_alloc | apply pw_below_drewN | apply below_drew1) | exact HB.out)) hb); clear HB; have HB := n0_; clear n0_; (try clear hb); (try clear hb2); (try clear hk); (try clear hi)))
      repeat (go_quiet (first | (go_at_call 15; (with_reducible refine (bywashlaw2_alive.calls k  t125 _ A10.out).mono ?_); rintro e w11 ⟨rfl, hb⟩; have n0_ := Aside0.mk (below_step (by repeat (first | (with_reducible first | exact HB.out | apply below_alloc | apply pw_below_drewN | apply below_drew1) | exact HB.out)) hb); clear HB; have HB := n0_; clear n0_; (try clear hb); (try clear hb2); (try clear hk); (try clear hi))); try go_wp2_with (first | (go_at_call 15; (with_reducible refine (bywashlaw2_alive.calls k  t125 _ A10.out).mono ?_); rintro e w11 ⟨rfl, hb⟩; have n0_ := Aside0.mk (below_step (by repeat (first | (with_reducible first | exact HB.out | apply below_alloc | apply pw_below_drewN | apply below_drew1) | exact HB.out)) hb); clear HB; have HB := n0_; clear n0_; (try clear hb); (try clear hb2); (try clear hk); (try clear hi))))
      go_meet
      case rel => exact ⟨_, (!t125), (by first | rfl | (simp; done) | (simp [*]; done)), H', ⟨by first | omega | exact Nat.le_refl _⟩, ⟨by repeat (first | (with_reducible first | exact HB.out | apply below_alloc | apply pw_below_drewN | apply below_drew1) | exact HB.out)⟩⟩
    · replace c9 := Bool.eq_false_iff.mpr c9
      subst c9
      have H1 : (bywashlaw2_VarintFirst.j0 k a0 a1 a2 t121 t123 t124 true) = some r := by rw [if_neg (show ¬ (false = true) by decide)] at H; exact H
      clear H
      have H := H1
      clear H1
      have H' := Aside0.mk H
      clear H
      go_wp2
      repeat (go_quiet (fail); try go_wp2)
      go_meet
      case rel => exact ⟨_, (true), (by first | rfl | (simp; done) | (simp [*]; done)), H', ⟨by first | omega | exact Nat.le_refl _⟩, ⟨by repeat (first | (with_reducible first | exact HB.out | apply below_alloc | apply pw_below_drewN | apply below_drew1) | exact HB.out)⟩⟩
  case rest =>
    clear HC6
    try clear p2
    try clear c6
    try clear c9
    obtain ⟨kq, x32_5, rfl, HA, HJ5, HB⟩ := hcut
    cases kq with
    | zero => exact absurd HA.out (by simp [bywashlaw2_VarintFirst.j0])
    | succ kj5 =>
      have H := HA.out
      clear HA
      simp only [bywashlaw2_VarintFirst.j0] at H
      by_cases c12 : x32_5 = true
      · subst c12
        have H1 : ((bywashlaw2_alive.f kj5).bind fun t126 => (some t126)) = some r := by rw [if_pos rfl] at H; exact H
        clear H
        have H := H1
        clear H1
        replace H := Option.bind_eq_some_iff.mp H
        obtain ⟨t126, A130, H⟩ := H
        replace H : (some t126) = some r := H
        have A13 := Aside0.mk A130
        clear A130
        obtain rfl := Option.some.inj H
        go_wp2_with (first | (go_at_call 15; (with_reducible refine (bywashlaw2_alive.calls kj5  t126 _ A13.out).mono ?_); rintro e w14 ⟨rfl, hb⟩; have n0_ := Aside0.mk (below_step (by repeat (first | (with_reducible first | exact HB.out | apply below_alloc | apply pw_below_drewN | apply below_drew1) | exact HB.out)) hb); clear HB; have HB := n0_; clear n0_; (try clear hb); (try clear hb2); (try clear hk); (try clear hi)))
        repeat (go_quiet (first | (go_at_call 15; (with_reducible refine (bywashlaw2_alive.calls kj5  t126 _ A13.out).mono ?_); rintro e w14 ⟨rfl, hb⟩; have n0_ := Aside0.mk (below_step (by repeat (first | (with_reducible first | exact HB.out | apply below_alloc | apply pw_below_drewN | apply below_drew1) | exact HB.out)) hb); clear HB; have HB := n0_; clear n0_; (try clear hb); (try clear hb2); (try clear hk); (try clear hi))); try go_wp2_with (first | (go_at_call 15; (with_reducible refine (bywashlaw2_alive.calls kj5  t126 _ A13.out).mono ?_); rintro e w14 ⟨rfl, hb⟩; have n0_ := Aside0.mk (below_step (by repeat (first | (with_reducible first | exact HB.out | apply below_alloc | apply pw_below_drewN | apply below_drew1) | exact HB.out)) hb); clear HB; have HB := n0_; clear n0_; (try clear hb); (try clear hb2); (try clear hk); (try clear hi))))
        go_ret
        exact ⟨by first | rfl | (simp [errW_none, errW_some] <;> rfl) | (simp [*, errW_none, errW_some] <;> rfl), by repeat (first | (with_reducible first | exact HB.out | apply below_alloc | apply pw_below_drewN | apply below_drew1) | exact HB.out)⟩
      · replace c12 := Bool.eq_false_iff.mpr c12
        subst c12
        have H1 : (if t124 = true then (if (t121.size : Int) = (t123.size : Int) then (if t121.toList = ([] : List UInt8) then (some false) else ((varint_Get.f kj5 t121 a1).bind fun bt127 => (if 0 < (t121.size : Int) then (if 0 < (t123.size : Int) then (if (bt t121 0) = (Go.bits .or .u8 (bt t123 0) a0) then (if 1 ≤ (t121.size : Int) then (if 1 ≤ (t123.size : Int) then (if (t121.extract 1 t121.size).toList = (t123.extract 1 t123.size).toList then (if bt127.1 = a2 then (if bt127.2.1 = (t121.size : Int) then (some (bt127.2.2 == 0)) else (some false)) else (some false)) else (some false)) else (none)) else (none)) else (some false)) else (none)) else (none)))) else (some false)) else (some false)) = some r := by rw [if_neg (show ¬ (false = true) by decide)] at H; exact H
        clear H
        have H := H1
        clear H1
        by_cases c15 : t124 = true
        · subst c15
          have H1 : (if (t121.size : Int) = (t123.size : Int) then (if t121.toList = ([] : List UInt8) then (some false) else ((varint_Get.f kj5 t121 a1).bind fun bt127 => (if 0 < (t121.size : Int) then (if 0 < (t123.size : Int) then (if (bt t121 0) = (Go.bits .or .u8 (bt t123 0) a0) then (if 1 ≤ (t121.size : Int) then (if 1 ≤ (t123.size : Int) then (if (t121.extract 1 t121.size).toList = (t123.extract 1 t123.size).toList then (if bt127.1 = a2 then (if bt127.2.1 = (t121.size : Int) then (some (bt127.2.2 == 0)) else (some false)) else (some false)) else (some false)) else (none)) else (none)) else (some false)) else (none)) else (none)))) else (some false)) = some r := by rw [if_pos rfl] at H; exact H
          clear H
          have H := H1
          clear H1
          by_cases c16 : (t121.size : Int) = (t123.size : Int)
          · rw [if_pos c16] at H
            have c16b0 : ((t121.size : Int) == (t123.size : Int)) = true := beq_iff_eq.mpr c16
            have c16b1 : ((t121.size : Int) != (t123.size : Int)) = false := bne_eq_false_iff_eq.mpr c16
            have c16b2 : (t121.size == t123.size) = true := by first | simpa using c16 | (simp at c16 ⊢; omega)
            clear c16
            by_cases c17 : t121.toList = ([] : List UInt8)
            · rw [if_pos c17] at H
              have c17b0 : (t121.toList == ([] : List UInt8)) = true := beq_iff_eq.mpr c17
              have c17b1 : (t121.toList != ([] : List UInt8)) = false := bne_eq_false_iff_eq.mpr c17
              clear c17
              obtain rfl := Option.some.inj H
              go_wp2
              repeat (go_quiet (fail); try go_wp2)
              go_ret
              exact ⟨by first | rfl | (simp [errW_none, errW_some] <;> rfl) | (simp [*, errW_none, errW_some] <;> rfl), by repeat (first | (with_reducible first | exact HB.out | apply below_alloc | apply pw_below_drewN | apply below_drew1) | exact HB.out)⟩
            · rw [if_neg c17] at H
              have c17b0 : (t121.toList == ([] : List UInt8)) = false := beq_eq_false_iff_ne.mpr c17
              have c17b1 : (t121.toList != ([] : List UInt8)) = true := bne_iff_ne.mpr c17
              replace H := Option.bind_eq_some_iff.mp H
              obtain ⟨⟨t127, t128, t129⟩, A180, H⟩ := H
              replace H : (if 0 < (t121.size : Int) then (if 0 < (t123.size : Int) then (if (bt t121 0) = (Go.bits .or .u8 (bt t123 0) a0) then (if 1 ≤ (t121.size : Int) then (if 1 ≤ (t123.size : Int) then (if (t121.extract 1 t121.size).toList = (t123.extract 1 t123.size).toList then (if t127 = a2 then (if t128 = (t121.size : Int) then (some (t129 == 0)) else (some false)) else (some false)) else (some false)) else (none)) else (none)) else (some false)) else (none)) else (none)) = some r := H
              have A18 := Aside0.mk A180
              clear A180
              by_cases c19 : 0 < (t121.size : Int)
              · rw [if_pos c19] at H
                have c19b0 : decide (0 < (t121.size : Int)) = true := decide_eq_true c19
                have c19b1 : decide (0 < t121.size) = true := decide_eq_true (by omega)
                clear c19
                by_cases c21 : 0 < (t123.size : Int)
                · rw [if_pos c21] at H
                  have c21b0 : decide (0 < (t123.size : Int)) = true := decide_eq_true c21
                  have c21b1 : decide (0 < t123.size) = true := decide_eq_true (by omega)
                  clear c21
                  by_cases c23 : (bt t121 0) = (Go.bits .or .u8 (bt t123 0) a0)
                  · rw [if_pos c23] at H
                    have c23b0 : ((bt t121 0) == (Go.bits .or .u8 (bt t123 0) a0)) = true := beq_iff_eq.mpr c23
                    have c23b1 : ((bt t121 0) != (Go.bits .or .u8 (bt t123 0) a0)) = false := bne_eq_false_iff_eq.mpr c23
                    clear c23
                    by_cases c24 : 1 ≤ (t121.size : Int)
                    · rw [if_pos c24] at H
                      have c24b0 := eq_true c24
                      have c24b1 : decide (1 ≤ (t121.size : Int)) = true := decide_eq_true c24
                      clear c24
                      by_cases c25 : 1 ≤ (t123.size : Int)
                      · rw [if_pos c25] at H
                        have c25b0 := eq_true c25
                        have c25b1 : decide (1 ≤ (t123.size : Int)) = true := decide_eq_true c25
                        clear c25
                        by_cases c26 : (t121.extract 1 t121.size).toList = (t123.extract 1 t123.size).toList
                        · rw [if_pos c26] at H
                          have c26b0 : ((t121.extract 1 t121.size).toList == (t123.extract 1 t123.size).toList) = true := beq_iff_eq.mpr c26
                          have c26b1 : ((t121.extract 1 t121.size).toList != (t123.extract 1 t123.size).toList) = false := bne_eq_false_iff_eq.mpr c26
                          clear c26
                          by_cases c27 : t127 = a2
                          · rw [if_pos c27] at H
                            have c27b0 : (t127 == a2) = true := beq_iff_eq.mpr c27
                            have c27b1 : (t127 != a2) = false := bne_eq_false_iff_eq.mpr c27
                            clear c27
                            by_cases c28 : t128 = (t121.size : Int)
                            · rw [if_pos c28] at H
                              have c28b0 : (t128 == (t121.size : Int)) = true := beq_iff_eq.mpr c28
                              have c28b1 : (t128 != (t121.size : Int)) = false := bne_eq_false_iff_eq.mpr c28
                              clear c28
                              obtain rfl := Option.some.inj H
                              go_wp2_with (first | (go_at_call 18; (with_reducible refine (varint_Get.calls kj5 t121 a1 t127 t128 t129 _ A18.out).mono ?_); rintro e w' ⟨rfl, ⟨nd, rfl⟩⟩; (try first | exact ⟨rfl, _, World.drewN_drewN _ _ _⟩ | exact ⟨rfl, _, Eq.trans (World.drewN_drewN _ _ _) (congrArg (World.drewN _) (Nat.add_assoc _ _ _))⟩); have p20 : 0 ≤ (0 : Int) := (by omega); have q20 : 0 < t121.size := (by have : (0 : Int) < (t121.size : Int) := of_decide_eq_true (by first | (with_reducible assumption) | assumption); omega); have hx20 : ∀ h : 0 < t121.size, ((t121[0]'h).toNat : Int) = bt t121 0 := bt_at t121 0; clear p20; have qi20 : (0 < (t121.size : Int)) = True := eq_true (of_decide_eq_true (by first | (with_reducible assumption) | assumption)); replace q20 := eq_true q20; have p22 : 0 ≤ (0 : Int) := (by omega); have q22 : 0 < t123.size := (by have : (0 : Int) < (t123.size : Int) := of_decide_eq_true (by first | (with_reducible assumption) | assumption); omega); have hx22 : ∀ h : 0 < t123.size, ((t123[0]'h).toNat : Int) = bt t123 0 := bt_at t123 0; clear p22; have qi22 : (0 < (t123.size : Int)) = True := eq_true (of_decide_eq_true (by first | (with_reducible assumption) | assumption)); replace q22 := eq_true q22))
                              repeat (go_quiet (first | (go_at_call 18; (with_reducible refine (varint_Get.calls kj5 t121 a1 t127 t128 t129 _ A18.out).mono ?_); rintro e w' ⟨rfl, ⟨nd, rfl⟩⟩; (try first | exact ⟨rfl, _, World.drewN_drewN _ _ _⟩ | exact ⟨rfl, _, Eq.trans (World.drewN_drewN _ _ _) (congrArg (World.drewN _) (Nat.add_assoc _ _ _))⟩); have p20 : 0 ≤ (0 : Int) := (by omega); have q20 : 0 < t121.size := (by have : (0 : Int) < (t121.size : Int) := of_decide_eq_true (by first | (with_reducible assumption) | assumption); omega); have hx20 : ∀ h : 0 < t121.size, ((t121[0]'h).toNat : Int) = bt t121 0 := bt_at t121 0; clear p20; have qi20 : (0 < (t121.size : Int)) = True := eq_true (of_decide_eq_true (by first | (with_reducible assumption) | assumption)); replace q20 := eq_true q20; have p22 : 0 ≤ (0 : Int) := (by omega); have q22 : 0 < t123.size := (by have : (0 : Int) < (t123.size : Int) := of_decide_eq_true (by first | (with_reducible assumption) | assumption); omega); have hx22 : ∀ h : 0 < t123.size, ((t123[0]'h).toNat : Int) = bt t123 0 := bt_at t123 0; clear p22; have qi22 : (0 < (t123.size : Int)) = True := eq_true (of_decide_eq_true (by first | (with_reducible assumption) | assumption)); replace q22 := eq_true q22)); try go_wp2_with (first | (go_at_call 18; (with_reducible refine (varint_Get.calls kj5 t121 a1 t127 t128 t129 _ A18.out).mono ?_); rintro e w' ⟨rfl, ⟨nd, rfl⟩⟩; (try first | exact ⟨rfl, _, World.drewN_drewN _ _ _⟩ | exact ⟨rfl, _, Eq.trans (World.drewN_drewN _ _ _) (congrArg (World.drewN _) (Nat.add_assoc _ _ _))⟩); have p20 : 0 ≤ (0 : Int) := (by omega); have q20 : 0 < t121.size := (by have : (0 : Int) < (t121.size : Int) := of_decide_eq_true (by first | (with_reducible assumption) | assumption); omega); have hx20 : ∀ h : 0 < t121.size, ((t121[0]'h).toNat : Int) = bt t121 0 := bt_at t121 0; clear p20; have qi20 : (0 < (t121.size : Int)) = True := eq_true (of_decide_eq_true (by first | (with_reducible assumption) | assumption)); replace q20 := eq_true q20; have p22 : 0 ≤ (0 : Int) := (by omega); have q22 : 0 < t123.size := (by have : (0 : Int) < (t123.size : Int) := of_decide_eq_true (by first | (with_reducible assumption) | assumption); omega); have hx22 : ∀ h : 0 < t123.size, ((t123[0]'h).toNat : Int) = bt t123 0 := bt_at t123 0; clear p22; have qi22 : (0 < (t123.size : Int)) = True := eq_true (of_decide_eq_true (by first | (with_reducible assumption) | assumption)); replace q22 := eq_true q22)))
                              go_ret
                              exact ⟨by first | rfl | (simp [errW_none, errW_some] <;> rfl) | (simp [*, errW_none, errW_some] <;> rfl), by repeat (first | (with_reducible first | exact HB.out | apply below_alloc | apply pw_below_drewN | apply below_drew1) | exact HB.out)⟩
                            · rw [if_neg c28] at H
                              have c28b0 : (t128 == (t121.size : Int)) = false := beq_eq_false_iff_ne.mpr c28
                              have c28b1 : (t128 != (t121.size : Int)) = true := bne_iff_ne.mpr c28
                              obtain rfl := Option.some.inj H
                              go_wp2_with (first | (go_at_call 18; (with_reducible refine (varint_Get.calls kj5 t121 a1 t127 t128 t129 _ A18.out).mono ?_); rintro e w' ⟨rfl, ⟨nd, rfl⟩⟩; (try first | exact ⟨rfl, _, World.drewN_drewN _ _ _⟩ | exact ⟨rfl, _, Eq.trans (World.drewN_drewN _ _ _) (congrArg (World.drewN _) (Nat.add_assoc _ _ _))⟩); have p20 : 0 ≤ (0 : Int) := (by omega); have q20 : 0 < t121.size := (by have : (0 : Int) < (t121.size : Int) := of_decide_eq_true (by first | (with_reducible assumption) | assumption); omega); have hx20 : ∀ h : 0 < t121.size, ((t121[0]'h).toNat : Int) = bt t121 0 := bt_at t121 0; clear p20; have qi20 : (0 < (t121.size : Int)) = True := eq_true (of_decide_eq_true (by first | (with_reducible assumption) | assumption)); replace q20 := eq_true q20; have p22 : 0 ≤ (0 : Int) := (by omega); have q22 : 0 < t123.size := (by have : (0 : Int) < (t123.size : Int) := of_decide_eq_true (by first | (with_reducible assumption) | assumption); omega); have hx22 : ∀ h : 0 < t123.size, ((t123[0]'h).toNat : Int) = bt t123 0 := bt_at t123 0; clear p22; have qi22 : (0 < (t123.size : Int)) = True := eq_true (of_decide_eq_true (by first | (with_reducible assumption) | assumption)); replace q22 := eq_true q22))
                              repeat (go_quiet (first | (go_at_call 18; (with_reducible refine (varint_Get.calls kj5 t121 a1 t127 t128 t129 _ A18.out).mono ?_); rintro e w' ⟨rfl, ⟨nd, rfl⟩⟩; (try first | exact ⟨rfl, _, World.drewN_drewN _ _ _⟩ | exact ⟨rfl, _, Eq.trans (World.drewN_drewN _ _ _) (congrArg (World.drewN _) (Nat.add_assoc _ _ _))⟩); have p20 : 0 ≤ (0 : Int) := (by omega); have q20 : 0 < t121.size := (by have : (0 : Int) < (t121.size : Int) := of_decide_eq_true (by first | (with_reducible assumption) | assumption); omega); have hx20 : ∀ h : 0 < t121.size, ((t121[0]'h).toNat : Int) = bt t121 0 := bt_at t121 0; clear p20; have qi20 : (0 < (t121.size : Int)) = True := eq_true (of_decide_eq_true (by first | (with_reducible assumption) | assumption)); replace q20 := eq_true q20; have p22 : 0 ≤ (0 : Int) := (by omega); have q22 : 0 < t123.size := (by have : (0 : Int) < (t123.size : Int) := of_decide_eq_true (by first | (with_reducible assumption) | assumption); omega); have hx22 : ∀ h : 0 < t123.size, ((t123[0]'h).toNat : Int) = bt t123 0 := bt_at t123 0; clear p22; have qi22 : (0 < (t123.size : Int)) = True := eq_true (of_decide_eq_true (by first | (with_reducible assumption) | assumption)); replace q22 := eq_true q22)); try go_wp2_with (first | (go_at_call 18; (with_reducible refine (varint_Get.calls kj5 t121 a1 t127 t128 t129 _ A18.out).mono ?_); rintro e w' ⟨rfl, ⟨nd, rfl⟩⟩; (try first | exact ⟨rfl, _, World.drewN_drewN _ _ _⟩ | exact ⟨rfl, _, Eq.trans (World.drewN_drewN _ _ _) (congrArg (World.drewN _) (Nat.add_assoc _ _ _))⟩); have p20 : 0 ≤ (0 : Int) := (by omega); have q20 : 0 < t121.size := (by have : (0 : Int) < (t121.size : Int) := of_decide_eq_true (by first | (with_reducible assumption) | assumption); omega); have hx20 : ∀ h : 0 < t121.size, ((t121[0]'h).toNat : Int) = bt t121 0 := bt_at t121 0; clear p20; have qi20 : (0 < (t121.size : Int)) = True := eq_true (of_decide_eq_true (by first | (with_reducible assumption) | assumption)); replace q20 := eq_true q20; have p22 : 0 ≤ (0 : Int) := (by omega); have q22 : 0 < t123.size := (by have : (0 : Int) < (t123.size : Int) := of_decide_eq_true (by first | (with_reducible assumption) | assumption); omega); have hx22 : ∀ h : 0 < t123.size, ((t123[0]'h).toNat : Int) = bt t123 0 := bt_at t123 0; clear p22; have qi22 : (0 < (t123.size : Int)) = True := eq_true (of_decide_eq_true (by first | (with_reducible assumption) | assumption)); replace q22 := eq_true q22)))
                              go_ret
                              exact ⟨by first | rfl | (simp [errW_none, errW_some] <;> rfl) | (simp [*, errW_none, errW_some] <;> rfl), by repeat (first | (with_reducible first | exact HB.out | apply below_alloc | apply pw_below_drewN | apply below_drew1) | exact HB.out)⟩
                          · rw [if_neg c27] at H
                            have c27b0 : (t127 == a2) = false := beq_eq_false_iff_ne.mpr c27
                            have c27b1 : (t127 != a2) = true := bne_iff_ne.mpr c27
                            obtain rfl := Option.some.inj H
                            go_wp2_with (first | (go_at_call 18; (with_reducible refine (varint_Get.calls kj5 t121 a1 t127 t128 t129 _ A18.out).mono ?_); rintro e w' ⟨rfl, ⟨nd, rfl⟩⟩; (try first | exact ⟨rfl, _, World.drewN_drewN _ _ _⟩ | exact ⟨rfl, _, Eq.trans (World.drewN_drewN _ _ _) (congrArg (World.drewN _) (Nat.add_assoc _ _ _))⟩); have p20 : 0 ≤ (0 : Int) := (by omega); have q20 : 0 < t121.size := (by have : (0 : Int) < (t121.size : Int) := of_decide_eq_true (by first | (with_reducible assumption) | assumption); omega); have hx20 : ∀ h : 0 < t121.size, ((t121[0]'h).toNat : Int) = bt t121 0 := bt_at t121 0; clear p20; have qi20 : (0 < (t121.size : Int)) = True := eq_true (of_decide_eq_true (by first | (with_reducible assumption) | assumption)); replace q20 := eq_true q20; have p22 : 0 ≤ (0 : Int) := (by omega); have q22 : 0 < t123.size := (by have : (0 : Int) < (t123.size : Int) := of_decide_eq_true (by first | (with_reducible assumption) | assumption); omega); have hx22 : ∀ h : 0 < t123.size, ((t123[0]'h).toNat : Int) = bt t123 0 := bt_at t123 0; clear p22; have qi22 : (0 < (t123.size : Int)) = True := eq_true (of_decide_eq_true (by first | (with_reducible assumption) | assumption)); replace q22 := eq_true q22))
                            repeat (go_quiet (first | (go_at_call 18; (with_reducible refine (varint_Get.calls kj5 t121 a1 t127 t128 t129 _ A18.out).mono ?_); rintro e w' ⟨rfl, ⟨nd, rfl⟩⟩; (try first | exact ⟨rfl, _, World.drewN_drewN _ _ _⟩ | exact ⟨rfl, _, Eq.trans (World.drewN_drewN _ _ _) (congrArg (World.drewN _) (Nat.add_assoc _ _ _))⟩); have p20 : 0 ≤ (0 : Int) := (by omega); have q20 : 0 < t121.size := (by have : (0 : Int) < (t121.size : Int) := of_decide_eq_true (by first | (with_reducible assumption) | assumption); omega); have hx20 : ∀ h : 0 < t121.size, ((t121[0]'h).toNat : Int) = bt t121 0 := bt_at t121 0; clear p20; have qi20 : (0 < (t121.size : Int)) = True := eq_true (of_decide_eq_true (by first | (with_reducible assumption) | assumption)); replace q20 := eq_true q20; have p22 : 0 ≤ (0 : Int) := (by omega); have q22 : 0 < t123.size := (by have : (0 : Int) < (t123.size : Int) := of_decide_eq_true (by first | (with_reducible assumption) | assumption); omega); have hx22 : ∀ h : 0 < t123.size, ((t123[0]'h).toNat : Int) = bt t123 0 := bt_at t123 0; clear p22; have qi22 : (0 < (t123.size : Int)) = True := eq_true (of_decide_eq_true (by first | (with_reducible assumption) | assumption)); replace q22 := eq_true q22)); try go_wp2_with (first | (go_at_call 18; (with_reducible refine (varint_Get.calls kj5 t121 a1 t127 t128 t129 _ A18.out).mono ?_); rintro e w' ⟨rfl, ⟨nd, rfl⟩⟩; (try first | exact ⟨rfl, _, World.drewN_drewN _ _ _⟩ | exact ⟨rfl, _, Eq.trans (World.drewN_drewN _ _ _) (congrArg (World.drewN _) (Nat.add_assoc _ _ _))⟩); have p20 : 0 ≤ (0 : Int) := (by omega); have q20 : 0 < t121.size := (by have : (0 : Int) < (t121.size : Int) := of_decide_eq_true (by first | (with_reducible assumption) | assumption); omega); have hx20 : ∀ h : 0 < t121.size, ((t121[0]'h).toNat : Int) = bt t121 0 := bt_at t121 0; clear p20; have qi20 : (0 < (t121.size : Int)) = True := eq_true (of_decide_eq_true (by first | (with_reducible assumption) | assumption)); replace q20 := eq_true q20; have p22 : 0 ≤ (0 : Int) := (by omega); have q22 : 0 < t123.size := (by have : (0 : Int) < (t123.size : Int) := of_decide_eq_true (by first | (with_reducible assumption) | assumption); omega); have hx22 : ∀ h : 0 < t123.size, ((t123[0]'h).toNat : Int) = bt t123 0 := bt_at t123 0; clear p22; have qi22 : (0 < (t123.size : Int)) = True := eq_true (of_decide_eq_true (by first | (with_reducible assumption) | assumption)); replace q22 := eq_true q22)))
                            go_ret
                            exact ⟨by first | rfl | (simp [errW_none, errW_some] <;> rfl) | (simp [*, errW_none, errW_some] <;> rfl), by repeat (first | (with_reducible first | exact HB.out | apply below_alloc | apply pw_below_drewN | apply below_drew1) | exact HB.out)⟩
                        · rw [if_neg c26] at H
                          have c26b0 : ((t121.extract 1 t121.size).toList == (t123.extract 1 t123.size).toList) = false := beq_eq_false_iff_ne.mpr c26
                          have c26b1 : ((t121.extract 1 t121.size).toList != (t123.extract 1 t123.size).toList) = true := bne_iff_ne.mpr c26
                          obtain rfl := Option.some.inj H
                          go_wp2_with (first | (go_at_call 18; (with_reducible refine (varint_Get.calls kj5 t121 a1 t127 t128 t129 _ A18.out).mono ?_); rintro e w' ⟨rfl, ⟨nd, rfl⟩⟩; (try first | exact ⟨rfl, _, World.drewN_drewN _ _ _⟩ | exact ⟨rfl, _, Eq.trans (World.drewN_drewN _ _ _) (congrArg (World.drewN _) (Nat.add_assoc _ _ _))⟩); have p20 : 0 ≤ (0 : Int) := (by omega); have q20 : 0 < t121.size := (by have : (0 : Int) < (t121.size : Int) := of_decide_eq_true (by first | (with_reducible assumption) | assumption); omega); have hx20 : ∀ h : 0 < t121.size, ((t121[0]'h).toNat : Int) = bt t121 0 := bt_at t121 0; clear p20; have qi20 : (0 < (t121.size : Int)) = True := eq_true (of_decide_eq_true (by first | (with_reducible assumption) | assumption)); replace q20 := eq_true q20; have p22 : 0 ≤ (0 : Int) := (by omega); have q22 : 0 < t123.size := (by have : (0 : Int) < (t123.size : Int) := of_decide_eq_true (by first | (with_reducible assumption) | assumption); omega); have hx22 : ∀ h : 0 < t123.size, ((t123[0]'h).toNat : Int) = bt t123 0 := bt_at t123 0; clear p22; have qi22 : (0 < (t123.size : Int)) = True := eq_true (of_decide_eq_true (by first | (with_reducible assumption) | assumption)); replace q22 := eq_true q22))
                          repeat (go_quiet (first | (go_at_call 18; (with_reducible refine (varint_Get.calls kj5 t121 a1 t127 t128 t129 _ A18.out).mono ?_); rintro e w' ⟨rfl, ⟨nd, rfl⟩⟩; (try first | exact ⟨rfl, _, World.drewN_drewN _ _ _⟩ | exact ⟨rfl, _, Eq.trans (World.drewN_drewN _ _ _) (congrArg (World.drewN _) (Nat.add_assoc _ _ _))⟩); have p20 : 0 ≤ (0 : Int) := (by omega); have q20 : 0 < t121.size := (by have : (0 : Int) < (t121.size : Int) := of_decide_eq_true (by first | (with_reducible assumption) | assumption); omega); have hx20 : ∀ h : 0 < t121.size, ((t121[0]'h).toNat : Int) = bt t121 0 := bt_at t121 0; clear p20; have qi20 : (0 < (t121.size : Int)) = True := eq_true (of_decide_eq_true (by first | (with_reducible assumption) | assumption)); replace q20 := eq_true q20; have p22 : 0 ≤ (0 : Int) := (by omega); have q22 : 0 < t123.size := (by have : (0 : Int) < (t123.size : Int) := of_decide_eq_true (by first | (with_reducible assumption) | assumption); omega); have hx22 : ∀ h : 0 < t123.size, ((t123[0]'h).toNat : Int) = bt t123 0 := bt_at t123 0; clear p22; have qi22 : (0 < (t123.size : Int)) = True := eq_true (of_decide_eq_true (by first | (with_reducible assumption) | assumption)); replace q22 := eq_true q22)); try go_wp2_with (first | (go_at_call 18; (with_reducible refine (varint_Get.calls kj5 t121 a1 t127 t128 t129 _ A18.out).mono ?_); rintro e w' ⟨rfl, ⟨nd, rfl⟩⟩; (try first | exact ⟨rfl, _, World.drewN_drewN _ _ _⟩ | exact ⟨rfl, _, Eq.trans (World.drewN_drewN _ _ _) (congrArg (World.drewN _) (Nat.add_assoc _ _ _))⟩); have p20 : 0 ≤ (0 : Int) := (by omega); have q20 : 0 < t121.size := (by have : (0 : Int) < (t121.size : Int) := of_decide_eq_true (by first | (with_reducible assumption) | assumption); omega); have hx20 : ∀ h : 0 < t121.size, ((t121[0]'h).toNat : Int) = bt t121 0 := bt_at t121 0; clear p20; have qi20 : (0 < (t121.size : Int)) = True := eq_true (of_decide_eq_true (by first | (with_reducible assumption) | assumption)); replace q20 := eq_true q20; have p22 : 0 ≤ (0 : Int) := (by omega); have q22 : 0 < t123.size := (by have : (0 : Int) < (t123.size : Int) := of_decide_eq_true (by first | (with_reducible assumption) | assumption); omega); have hx22 : ∀ h : 0 < t123.size, ((t123[0]'h).toNat : Int) = bt t123 0 := bt_at t123 0; clear p22; have qi22 : (0 < (t123.size : Int)) = True := eq_true (of_decide_eq_true (by first | (with_reducible assumption) | assumption)); replace q22 := eq_true q22)))
                          go_ret
                          exact ⟨by first | rfl | (simp [errW_none, errW_some] <;> rfl) | (simp [*, errW_none, errW_some] <;> rfl), by repeat (first | (with_reducible first | exact HB.out | apply below_alloc | apply pw_below_drewN | apply below_drew1) | exact HB.out)⟩
                      · rw [if_neg c25] at H
                        exact absurd H (by simp)
                    · rw [if_neg c24] at H
                      exact absurd H (by simp)
                  · rw [if_neg c23] at H
                    have c23b0 : ((bt t121 0) == (Go.bits .or .u8 (bt t123 0) a0)) = false := beq_eq_false_iff_ne.mpr c23
                    have c23b1 : ((bt t121 0) != (Go.bits .or .u8 (bt t123 0) a0)) = true := bne_iff_ne.mpr c23
                    obtain rfl := Option.some.inj H
                    go_wp2_with (first | (go_at_call 18; (with_reducible refine (varint_Get.calls kj5 t121 a1 t127 t128 t129 _ A18.out).mono ?_); rintro e w' ⟨rfl, ⟨nd, rfl⟩⟩; (try first | exact ⟨rfl, _, World.drewN_drewN _ _ _⟩ | exact ⟨rfl, _, Eq.trans (World.drewN_drewN _ _ _) (congrArg (World.drewN _) (Nat.add_assoc _ _ _))⟩); have p20 : 0 ≤ (0 : Int) := (by omega); have q20 : 0 < t121.size := (by have : (0 : Int) < (t121.size : Int) := of_decide_eq_true (by first | (with_reducible assumption) | assumption); omega); have hx20 : ∀ h : 0 < t121.size, ((t121[0]'h).toNat : Int) = bt t121 0 := bt_at t121 0; clear p20; have qi20 : (0 < (t121.size : Int)) = True := eq_true (of_decide_eq_true (by first | (with_reducible assumption) | assumption)); replace q20 := eq_true q20; have p22 : 0 ≤ (0 : Int) := (by omega); have q22 : 0 < t123.size := (by have : (0 : Int) < (t123.size : Int) := of_decide_eq_true (by first | (with_reducible assumption) | assumption); omega); have hx22 : ∀ h : 0 < t123.size, ((t123[0]'h).toNat : Int) = bt t123 0 := bt_at t123 0; clear p22; have qi22 : (0 < (t123.size : Int)) = True := eq_true (of_decide_eq_true (by first | (with_reducible assumption) | assumption)); replace q22 := eq_true q22))
                    repeat (go_quiet (first | (go_at_call 18; (with_reducible refine (varint_Get.calls kj5 t121 a1 t127 t128 t129 _ A18.out).mono ?_); rintro e w' ⟨rfl, ⟨nd, rfl⟩⟩; (try first | exact ⟨rfl, _, World.drewN_drewN _ _ _⟩ | exact ⟨rfl, _, Eq.trans (World.drewN_drewN _ _ _) (congrArg (World.drewN _) (Nat.add_assoc _ _ _))⟩); have p20 : 0 ≤ (0 : Int) := (by omega); have q20 : 0 < t121.size := (by have : (0 : Int) < (t121.size : Int) := of_decide_eq_true (by first | (with_reducible assumption) | assumption); omega); have hx20 : ∀ h : 0 < t121.size, ((t121[0]'h).toNat : Int) = bt t121 0 := bt_at t121 0; clear p20; have qi20 : (0 < (t121.size : Int)) = True := eq_true (of_decide_eq_true (by first | (with_reducible assumption) | assumption)); replace q20 := eq_true q20; have p22 : 0 ≤ (0 : Int) := (by omega); have q22 : 0 < t123.size := (by have : (0 : Int) < (t123.size : Int) := of_decide_eq_true (by first | (with_reducible assumption) | assumption); omega); have hx22 : ∀ h : 0 < t123.size, ((t123[0]'h).toNat : Int) = bt t123 0 := bt_at t123 0; clear p22; have qi22 : (0 < (t123.size : Int)) = True := eq_true (of_decide_eq_true (by first | (with_reducible assumption) | assumption)); replace q22 := eq_true q22)); try go_wp2_with (first | (go_at_call 18; (with_reducible refine (varint_Get.calls kj5 t121 a1 t127 t128 t129 _ A18.out).mono ?_); rintro e w' ⟨rfl, ⟨nd, rfl⟩⟩; (try first | exact ⟨rfl, _, World.drewN_drewN _ _ _⟩ | exact ⟨rfl, _, Eq.trans (World.drewN_drewN _ _ _) (congrArg (World.drewN _) (Nat.add_assoc _ _ _))⟩); have p20 : 0 ≤ (0 : Int) := (by omega); have q20 : 0 < t121.size := (by have : (0 : Int) < (t121.size : Int) := of_decide_eq_true (by first | (with_reducible assumption) | assumption); omega); have hx20 : ∀ h : 0 < t121.size, ((t121[0]'h).toNat : Int) = bt t121 0 := bt_at t121 0; clear p20; have qi20 : (0 < (t121.size : Int)) = True := eq_true (of_decide_eq_true (by first | (with_reducible assumption) | assumption)); replace q20 := eq_true q20; have p22 : 0 ≤ (0 : Int) := (by omega); have q22 : 0 < t123.size := (by have : (0 : Int) < (t123.size : Int) := of_decide_eq_true (by first | (with_reducible assumption) | assumption); omega); have hx22 : ∀ h : 0 < t123.size, ((t123[0]'h).toNat : Int) = bt t123 0 := bt_at t123 0; clear p22; have qi22 : (0 < (t123.size : Int)) = True := eq_true (of_decide_eq_true (by first | (with_reducible assumption) | assumption)); replace q22 := eq_true q22)))
                    go_ret
                    exact ⟨by first | rfl | (simp [errW_none, errW_some] <;> rfl) | (simp [*, errW_none, errW_some] <;> rfl), by repeat (first | (with_reducible first | exact HB.out | apply below_alloc | apply pw_below_drewN | apply below_drew1) | exact HB.out)⟩
                · rw [if_neg c21] at H
                  exact absurd H (by simp)
              · rw [if_neg c19] at H
                exact absurd H (by simp)
          · rw [if_neg c16] at H
            have c16b0 : ((t121.size : Int) == (t123.size : Int)) = false := beq_eq_false_iff_ne.mpr c16
            have c16b1 : ((t121.size : Int) != (t123.size : Int)) = true := bne_iff_ne.mpr c16
            have c16b2 : (t121.size == t123.size) = false := by first | simpa using c16 | (simp at c16 ⊢; omega)
            obtain rfl := Option.some.inj H
            go_wp2
            repeat (go_quiet (fail); try go_wp2)
            go_ret
            exact ⟨by first | rfl | (simp [errW_none, errW_some] <;> rfl) | (simp [*, errW_none, errW_some] <;> rfl), by repeat (first | (with_reducible first | exact HB.out | apply below_alloc | apply pw_below_drewN | apply below_drew1) | exact HB.out)⟩
        · replace c15 := Bool.eq_false_iff.mpr c15
          subst c15
          have H1 : (some false) = some r := by rw [if_neg (show ¬ (false = true) by decide)] at H; exact H
          clear H
          have H := H1
          clear H1
          obtain rfl := Option.some.inj H
          go_wp2
          repeat (go_quiet (fail); try go_wp2)
          go_ret
          exact ⟨by first | rfl | (simp [errW_none, errW_some] <;> rfl) | (simp [*, errW_none, errW_some] <;> rfl), by repeat (first | (with_reducible first | exact HB.out | apply below_alloc | apply pw_below_drewN | apply below_drew1) | exact HB.out)⟩

/-- THE ONE PURE STATEMENT of bywashlaw2_VarintFirst: yours. -/
def bywashlaw2_VarintFirst.Pure : Prop := ∀ (a0 : Int) (a1 : Int) (a2 : Int), (Lit.int .u8 a0).wf = true → (Lit.int .i64 a1).wf = true → (Lit.int .i64 a2).wf = true → ∃ k, bywashlaw2_VarintFirst.f k a0 a1 a2 = some true
theorem bywashlaw2_VarintFirst.walk (P : bywashlaw2_VarintFirst.Pure) (a0 : Int) (a1 : Int) (a2 : Int) (w : World) (w0 : (Lit.int .u8 a0).wf = true) (w1 : (Lit.int .i64 a1).wf = true) (w2 : (Lit.int .i64 a2).wf = true) :
    Calls Try.prog 6 #[.int .u8 a0, .int .i64 a1, .int .i64 a2] w fun e w' => e = .returned (.bool true) ∧ Below w.heap.size w w' := by
  obtain ⟨k, h⟩ := P a0 a1 a2 w0 w1 w2
  refine (bywashlaw2_VarintFirst.calls k a0 a1 a2 true w h).mono ?_
  rintro e w' ⟨rfl, hd⟩
  exact ⟨rfl, hd⟩

end Go.Proofs.Ytmglfnphkngfdaa.PVarintFirst
