-- PRINTED BY print.sh 35421559b90ae4d0a3588c463048766b98c2df88dd9212a6774a882060cdf62d: not written by this session
import Derived.Test.YtmglfnphkngfdaaPVarintCutsx0
import Derived.Test.YtmglfnphkngfdaaPVarintCutsx1
namespace Go.Proofs.Ytmglfnphkngfdaa.PVarintCuts
open Go.RowKit Go.Proofs.YtmglfnphkngfdaaW.PrintWords Go.Proofs.YtmglfnphkngfdaaW.PrintLast Go.Proofs.YtmglfnphkngfdaaW.PrintMore
attribute [local go_sem] max2_int min2_int max_two min_two max_three min_three max_four min_four   -- for this text's walks alone
set_option linter.unusedVariables false
set_option linter.unusedSimpArgs false

/-! ### bywashlaw2_VarintCuts: function 4 -/
def bywashlaw2_VarintCuts.j0 : Nat → Int → Int → ByteArray → Bool → Option (Bool)
  | 0, _, _, _, _ => none
  | k + 1, x0, x2, x7, x23 => if x23 = true then ((bywashlaw2_alive.f k).bind fun t124 => (some t124)) else (if (x7.size : Int) = 0 then (some false) else (if 0 ≤ (Int.tmod (wrap64 ((Int.tmod x2 (x7.size : Int)) + (x7.size : Int))) (x7.size : Int)) then (if (Int.tmod (wrap64 ((Int.tmod x2 (x7.size : Int)) + (x7.size : Int))) (x7.size : Int)) ≤ (x7.size : Int) then ((varint_Get.f k (x7.extract 0 ((Int.tmod (wrap64 ((Int.tmod x2 (x7.size : Int)) + (x7.size : Int))) (x7.size : Int)) : Int).toNat) x0).bind fun bt125 => (some (bt125.2.2 == 2))) else (none)) else (none)))
def bywashlaw2_VarintCuts.f (k : Nat) (a0 : Int) (a1 : Int) (a2 : Int) : Option (Bool) := (varint_Put.f k 0 a0 a1).bind fun bt121 => (if bt121.2 = true then ((bywashlaw2_alive.f k).bind fun t123 => (bywashlaw2_VarintCuts.j0 k a0 a2 bt121.1 (!t123))) else (bywashlaw2_VarintCuts.j0 k a0 a2 bt121.1 true))
theorem bywashlaw2_VarintCuts.mono_l : ∀ k, (∀ y0 y1 y2 y3, LeO (bywashlaw2_VarintCuts.j0 k y0 y1 y2 y3) (bywashlaw2_VarintCuts.j0 (k + 1) y0 y1 y2 y3))
  | 0 => fun _ _ _ _ r h => by simp [bywashlaw2_VarintCuts.j0] at h
  | k + 1 => by
    have ih0 := bywashlaw2_VarintCuts.mono_l k
    · intro y0 y1 y2 y3
      unfold bywashlaw2_VarintCuts.j0
      repeat' first
      | (with_reducible exact ih0 _ _ _ _)
      | (with_reducible exact bywashlaw2_alive.mono _)
      | (with_reducible exact varint_Get.mono _ _ _)
      | (with_reducible exact varint_Put.mono _ _ _ _)
      | (with_reducible exact LeO.refl _)
      | (with_reducible exact LeO.none _)
      | (with_reducible refine LeO.ite ?_ ?_)
      | (with_reducible refine LeO.bind ?_ (fun _ => ?_))
      | exact ih0 _ _ _ _
      | exact bywashlaw2_alive.mono _
      | exact varint_Get.mono _ _ _
      | exact varint_Put.mono _ _ _ _
      | exact LeO.none _
      | refine LeO.ite ?_ ?_
      | refine LeO.bind ?_ (fun _ => ?_)
theorem bywashlaw2_VarintCuts.mono : ∀ a0 a1 a2 k, LeO (bywashlaw2_VarintCuts.f k a0 a1 a2) (bywashlaw2_VarintCuts.f (k + 1) a0 a1 a2) := by
  intro a0 a1 a2 k
  have ih0 := bywashlaw2_VarintCuts.mono_l k
  unfold bywashlaw2_VarintCuts.f
  repeat' first
      | (with_reducible exact ih0 _ _ _ _)
      | (with_reducible exact bywashlaw2_alive.mono _)
      | (with_reducible exact varint_Get.mono _ _ _)
      | (with_reducible exact varint_Put.mono _ _ _ _)
      | (with_reducible exact LeO.refl _)
      | (with_reducible exact LeO.none _)
      | (with_reducible refine LeO.ite ?_ ?_)
      | (with_reducible refine LeO.bind ?_ (fun _ => ?_))
      | exact ih0 _ _ _ _
      | exact bywashlaw2_alive.mono _
      | exact varint_Get.mono _ _ _
      | exact varint_Put.mono _ _ _ _
      | exact LeO.none _
      | refine LeO.ite ?_ ?_
      | refine LeO.bind ?_ (fun _ => ?_)
set_option maxHeartbeats 8000000 in
set_option maxRecDepth 100000 in
theorem bywashlaw2_VarintCuts.calls (k : Nat) (a0 : Int) (a1 : Int) (a2 : Int) (r : Bool) (w : World) (h : bywashlaw2_VarintCuts.f k a0 a1 a2 = some r) :
    Calls Try.prog 4 #[.int .i64 a0, .int .i64 a1, .int .i64 a2] w fun e w' => e = .returned (.bool r) ∧ Below w.heap.size w w' := by
  have HB := Aside0.mk (Below.refl w.heap.size w)
  have H : ((varint_Put.f k 0 a0 a1).bind fun bt121 => (if bt121.2 = true then ((bywashlaw2_alive.f k).bind fun t123 => (bywashlaw2_VarintCuts.j0 k a0 a2 bt121.1 (!t123))) else (bywashlaw2_VarintCuts.j0 k a0 a2 bt121.1 true))) = some r := h
  clear h
  replace H := Option.bind_eq_some_iff.mp H
  obtain ⟨⟨t121, t122⟩, A40, H⟩ := H
  replace H : (if t122 = true then ((bywashlaw2_alive.f k).bind fun t123 => (bywashlaw2_VarintCuts.j0 k a0 a2 t121 (!t123))) else (bywashlaw2_VarintCuts.j0 k a0 a2 t121 true)) = some r := H
  have A4 := Aside0.mk A40
  clear A40
  have HC5 := Aside0.mk H
  clear H
  go_enter Try.func4, Try.ntmps4
  go_upto_region 2 with (first | ((with_reducible refine gate_callee (f := 16) rfl ?_); refine goesL_ (some 15) rfl rfl Try.func16 (by kernel_rfl) rfl #[.int .u8 0, .int .i64 a0, .int .i64 a1] rfl (by (try simp only [List.map_toArray, List.map_cons, List.map_nil]); first | done | rfl | (simp only [List.length_drop, List.length_take]; rfl)) ?_; (with_reducible refine (varint_Put.calls k 0 a0 a1 t121 t122 _ A4.out).mono ?_); rintro e w6 ⟨rfl, hb⟩; refine ⟨_, rfl, ?_⟩; have n0_ := Aside0.mk (below_step (by repeat (first | (with_reducible first | exact HB.out | apply below_alloc | apply pw_below_drewN | apply below_drew1) | exact HB.out)) hb); clear HB; have HB := n0_; clear n0_; (try clear hb); (try clear hb2); (try clear hk); (try clear hi)))
  (try simp only [Act.put, List.setIfInBounds_toArray, List.set_cons_zero, List.set_cons_succ])
  go_cut [23] (fun v23 wc => ∃ (kq : Nat) (x23_4 : Bool), v23 = .bool x23_4 ∧ Aside0 (bywashlaw2_VarintCuts.j0 kq a0 a2 t121 x23_4 = some r) ∧ Aside0 (kq ≤ k) ∧ Aside0 (Below w.heap.size w wc))
  case first =>
    have H := HC5.out
    clear HC5
    by_cases c7 : t122 = true
    · subst c7
      have H1 : ((bywashlaw2_alive.f k).bind fun t123 => (bywashlaw2_VarintCuts.j0 k a0 a2 t121 (!t123))) = some r := by rw [if_pos rfl] at H; exact H
      clear H
      have H := H1
      clear H1
      replace H := Option.bind_eq_some_iff.mp H
      obtain ⟨t123, A80, H⟩ := H
      replace H : (bywashlaw2_VarintCuts.j0 k a0 a2 t121 (!t123)) = some r := H
      have A8 := Aside0.mk A80
      clear A80
      have H' := Aside0.mk H
      clear H
      go_wp2_with (first | (go_at_call 15; (with_reducible refine (bywashlaw2_alive.calls k  t123 _ A8.out).mono ?_); rintro e w9 ⟨rfl, hb⟩; have n0_ := Aside0.mk (below_step (by repeat (first | (with_reducible first | exact HB.out | apply below_alloc | apply pw_below_drewN | apply below_drew1) | exact HB.out)) hb); clear HB; have HB := n0_; clear n0_; (try clear hb); (try clear hb2); (try clear hk); (try clear hi)))
      go_meet
      case rel => exact ⟨_, (!t123), (by first | rfl | (simp; done) | (simp [*]; done)), H', ⟨by first | omega | exact Nat.le_refl _⟩, ⟨by repeat (first | (with_reducible first | exact HB.out | apply below_alloc | apply pw_below_drewN | apply below_drew1) | exact HB.out)⟩⟩
    · replace c7 := Bool.eq_false_iff.mpr c7
      subst c7
      have H1 : (bywashlaw2_VarintCuts.j0 k a0 a2 t121 true) = some r := by rw [if_neg (show ¬ (false = true) by decide)] at H; exact H
      clear H
      have H := H1
      clear H1
      have H' := Aside0.mk H
      clear H
      go_wp2
      go_meet
      case rel => exact ⟨_, (true), (by first | rfl | (simp; done) | (simp [*]; done)), H', ⟨by first | omega | exact Nat.le_refl _⟩, ⟨by repeat (first | (with_reducible first | exact HB.out | apply below_alloc | apply pw_below_drewN | apply below_drew1) | exact HB.out)⟩⟩
  case rest =>
    clear HC5
    try clear c1
    try clear p2
    try clear c4
    try clear c7
    obtain ⟨kq, x23_4, rfl, HA, HJ4, HB⟩ := hcut
    cases kq with
    | zero => exact absurd HA.out (by simp [bywashlaw2_VarintCuts.j0])
    | succ kj4 =>
      have H := HA.out
      clear HA
      simp only [bywashlaw2_VarintCuts.j0] at H
      by_cases c10 : x23_4 = true
      · subst c10
        have H1 : ((bywashlaw2_alive.f kj4).bind fun t124 => (some t124)) = some r := by rw [if_pos rfl] at H; exact H
        clear H
        have H := H1
        clear H1
        replace H := Option.bind_eq_some_iff.mp H
        obtain ⟨t124, A110, H⟩ := H
        replace H : (some t124) = some r := H
        have A11 := Aside0.mk A110
        clear A110
        obtain rfl := Option.some.inj H
        go_wp2_with (first | ((with_reducible refine gate_callee (f := 15) rfl ?_); refine goesL_ (some 24) rfl rfl Try.func15 (by kernel_rfl) rfl #[] rfl (by (try simp only [List.map_toArray, List.map_cons, List.map_nil]); first | done | rfl | (simp only [List.length_drop, List.length_take]; rfl)) ?_; (with_reducible refine (bywashlaw2_alive.calls kj4  t124 _ A11.out).mono ?_); rintro e w12 ⟨rfl, hb⟩; refine ⟨_, rfl, ?_⟩; have n0_ := Aside0.mk (below_step (by repeat (first | (with_reducible first | exact HB.out | apply below_alloc | apply pw_below_drewN | apply below_drew1) | exact HB.out)) hb); clear HB; have HB := n0_; clear n0_; (try clear hb); (try clear hb2); (try clear hk); (try clear hi)))
        go_ret
        exact ⟨by first | rfl | (simp [errW_none, errW_some] <;> rfl) | (simp [*, errW_none, errW_some] <;> rfl), by repeat (first | (with_reducible first | exact HB.out | apply below_alloc | apply pw_below_drewN | apply below_drew1) | exact HB.out)⟩
      · replace c10 := Bool.eq_false_iff.mpr c10
        subst c10
        have H1 : (if (t121.size : Int) = 0 then (some false) else (if 0 ≤ (Int.tmod (wrap64 ((Int.tmod a2 (t121.size : Int)) + (t121.size : Int))) (t121.size : Int)) then (if (Int.tmod (wrap64 ((Int.tmod a2 (t121.size : Int)) + (t121.size : Int))) (t121.size : Int)) ≤ (t121.size : Int) then ((varint_Get.f kj4 (t121.extract 0 ((Int.tmod (wrap64 ((Int.tmod a2 (t121.size : Int)) + (t121.size : Int))) (t121.size : Int)) : Int).toNat) a0).bind fun bt125 => (some (bt125.2.2 == 2))) else (none)) else (none))) = some r := by rw [if_neg (show ¬ (false = true) by decide)] at H; exact H
        clear H
        have H := H1
        clear H1
        by_cases c13 : (t121.size : Int) = 0
        · rw [if_pos c13] at H
          have c13b0 : ((t121.size : Int) == 0) = true := beq_iff_eq.mpr c13
          have c13b1 : ((t121.size : Int) != 0) = false := bne_eq_false_iff_eq.mpr c13
          clear c13
          obtain rfl := Option.some.inj H
          go_wp2
          go_ret
          exact ⟨by first | rfl | (simp [errW_none, errW_some] <;> rfl) | (simp [*, errW_none, errW_some] <;> rfl), by repeat (first | (with_reducible first | exact HB.out | apply below_alloc | apply pw_below_drewN | apply below_drew1) | exact HB.out)⟩
        · rw [if_neg c13] at H
          have c13b0 : ((t121.size : Int) == 0) = false := beq_eq_false_iff_ne.mpr c13
          have c13b1 : ((t121.size : Int) != 0) = true := bne_iff_ne.mpr c13
          obtain ⟨ji14, hji14⟩ : ∃ j_ : Int, (Int.tmod (wrap64 ((Int.tmod a2 (t121.size : Int)) + (t121.size : Int))) (t121.size : Int)) = j_ := ⟨_, rfl⟩
          replace H : (if 0 ≤ (ji14) then (if (ji14) ≤ (t121.size : Int) then ((varint_Get.f kj4 (t121.extract 0 ((ji14) : Int).toNat) a0).bind fun bt125 => (some (bt125.2.2 == 2))) else (none)) else (none)) = some r := by first | (rw [hji14] at H; exact H) | (simp only [hji14] at H ⊢; exact H)
          by_cases c15 : 0 ≤ (ji14)
          · rw [if_pos c15] at H
            have c15b0 := eq_true c15
            have c15b1 : decide (0 ≤ (ji14)) = true := decide_eq_true c15
            clear c15
            by_cases c16 : (ji14) ≤ (t121.size : Int)
            · rw [if_pos c16] at H
              have c16b0 := eq_true c16
              have c16b1 : decide ((ji14) ≤ (t121.size : Int)) = true := decide_eq_true c16
              clear c16
              replace H := Option.bind_eq_some_iff.mp H
              obtain ⟨⟨t125, t126, t127⟩, A170, H⟩ := H
              replace H : (some (t127 == 2)) = some r := H
              have A17 := Aside0.mk A170
              clear A170
              obtain rfl := Option.some.inj H
              go_wp2_with (first | ((with_reducible refine gate_callee (f := 18) rfl ?_); refine goesL_ (some 42) rfl rfl Try.func18 (by kernel_rfl) rfl #[.string (t121.extract 0 ((ji14) : Int).toNat), .int .i64 a0] rfl (by (try simp only [List.map_toArray, List.map_cons, List.map_nil]); first | done | (simp only [hji14]; rfl) | rfl | (simp only [List.length_drop, List.length_take]; rfl)) ?_; (with_reducible refine (varint_Get.calls kj4 (t121.extract 0 ((ji14) : Int).toNat) a0 t125 t126 t127 _ A17.out).mono ?_); rintro e w' ⟨rfl, ⟨nd, rfl⟩⟩; refine ⟨_, rfl, ?_⟩))
              go_ret
              exact ⟨by first | rfl | (simp [errW_none, errW_some] <;> rfl) | (simp only [← hji14]; first | rfl | (simp [errW_none, errW_some] <;> rfl)) | (simp [*, errW_none, errW_some] <;> rfl), by repeat (first | (with_reducible first | exact HB.out | apply below_alloc | apply pw_below_drewN | apply below_drew1) | exact HB.out)⟩
            · rw [if_neg c16] at H
              exact absurd H (by simp)
          · rw [if_neg c15] at H
            exact absurd H (by simp)

/-- THE ONE PURE STATEMENT of bywashlaw2_VarintCuts: yours. -/
def bywashlaw2_VarintCuts.Pure : Prop := ∀ (a0 : Int) (a1 : Int) (a2 : Int), (Lit.int .i64 a0).wf = true → (Lit.int .i64 a1).wf = true → (Lit.int .i64 a2).wf = true → ∃ k, bywashlaw2_VarintCuts.f k a0 a1 a2 = some true
theorem bywashlaw2_VarintCuts.walk (P : bywashlaw2_VarintCuts.Pure) (a0 : Int) (a1 : Int) (a2 : Int) (w : World) (w0 : (Lit.int .i64 a0).wf = true) (w1 : (Lit.int .i64 a1).wf = true) (w2 : (Lit.int .i64 a2).wf = true) :
    Calls Try.prog 4 #[.int .i64 a0, .int .i64 a1, .int .i64 a2] w fun e w' => e = .returned (.bool true) ∧ Below w.heap.size w w' := by
  obtain ⟨k, h⟩ := P a0 a1 a2 w0 w1 w2
  refine (bywashlaw2_VarintCuts.calls k a0 a1 a2 true w h).mono ?_
  rintro e w' ⟨rfl, hd⟩
  exact ⟨rfl, hd⟩

end Go.Proofs.Ytmglfnphkngfdaa.PVarintCuts
