-- PRINTED BY print.sh 35421559b90ae4d0a3588c463048766b98c2df88dd9212a6774a882060cdf62d: not written by this session
import Derived.Test.YtmglfnphkngfdaaPVarintTellsx0
namespace Go.Proofs.Ytmglfnphkngfdaa.PVarintTells
open Go.RowKit Go.Proofs.YtmglfnphkngfdaaW.PrintWords Go.Proofs.YtmglfnphkngfdaaW.PrintLast Go.Proofs.YtmglfnphkngfdaaW.PrintMore
attribute [local go_sem] max2_int min2_int max_two min_two max_three min_three max_four min_four   -- for this text's walks alone
set_option linter.unusedVariables false
set_option linter.unusedSimpArgs false

/-! ### bywashref1_NumberPut: function 17 -/
mutual
def bywashref1_NumberPut.j0 : Nat → Int → Int → Int → Bool → Option (ByteArray × Bool)
  | 0, _, _, _, _ => none
  | k + 1, x0, x1, x2, x33 => if x33 = true then (some ((⟨#[]⟩ : ByteArray), false)) else (if 0 ≤ (IntKind.u64.wrap (x1)) then (if x2 < (wrap64 ((shl .i64 1 (IntKind.u64.wrap (x1))) - 1)) then (some (strOfNums (([Go.bits .or .u8 x0 ((x2) % 256)] : List Int)), true)) else (bywashref1_NumberPut.l0 k (wrap64 (x2 - (wrap64 ((shl .i64 1 (IntKind.u64.wrap (x1))) - 1)))) (strOfNums (([Go.bits .or .u8 x0 ((wrap64 ((shl .i64 1 (IntKind.u64.wrap (x1))) - 1)) % 256)] : List Int))))) else (none))
def bywashref1_NumberPut.l0 : Nat → Int → ByteArray → Option (ByteArray × Bool)
  | 0, _, _ => none
  | k + 1, x2, x9 => if x2 ≥ 128 then ((some (([(Go.bits .or .i64 128 (Go.bits .and .i64 x2 127)) % 256] : List Int) : List Int)).bind fun y127 => (if x9.size + (strOfNums y127).size ≤ 9223372036854775807 then (bywashref1_NumberPut.l0 k (wrap64 (Int.tdiv x2 128)) (x9 ++ (strOfNums y127))) else (none))) else ((some (([(x2) % 256] : List Int) : List Int)).bind fun y130 => (if x9.size + (strOfNums y130).size ≤ 9223372036854775807 then (some (x9 ++ (strOfNums y130), true)) else (none)))
end
def bywashref1_NumberPut.f (k : Nat) (a0 : Int) (a1 : Int) (a2 : Int) : Option (ByteArray × Bool) := if a1 < 1 then (bywashref1_NumberPut.j0 k a0 a1 a2 true) else (if a1 > 8 then (bywashref1_NumberPut.j0 k a0 a1 a2 true) else (if a2 < 0 then (bywashref1_NumberPut.j0 k a0 a1 a2 true) else (if a2 > 2147483647 then (bywashref1_NumberPut.j0 k a0 a1 a2 true) else (if 0 ≤ (IntKind.u64.wrap (a1)) then (bywashref1_NumberPut.j0 k a0 a1 a2 ((Go.bits .and .i64 (wrap64 (a0)) (wrap64 ((shl .i64 1 (IntKind.u64.wrap (a1))) - 1))) != 0)) else (none)))))
theorem bywashref1_NumberPut.mono_l : ∀ k, (∀ y0 y1 y2 y3, LeO (bywashref1_NumberPut.j0 k y0 y1 y2 y3) (bywashref1_NumberPut.j0 (k + 1) y0 y1 y2 y3)) ∧ (∀ y0 y1, LeO (bywashref1_NumberPut.l0 k y0 y1) (bywashref1_NumberPut.l0 (k + 1) y0 y1))
  | 0 => ⟨fun _ _ _ _ r h => by simp [bywashref1_NumberPut.j0] at h, fun _ _ r h => by simp [bywashref1_NumberPut.l0] at h⟩
  | k + 1 => by
    obtain ⟨ih0, ih1⟩ := bywashref1_NumberPut.mono_l k
    refine ⟨?_, ?_⟩
    · intro y0 y1 y2 y3
      unfold bywashref1_NumberPut.j0
      repeat' first
      | (with_reducible exact ih0 _ _ _ _)
      | (with_reducible exact ih1 _ _)
      | (with_reducible exact LeO.refl _)
      | (with_reducible exact LeO.none _)
      | (with_reducible refine LeO.ite ?_ ?_)
      | (with_reducible refine LeO.bind ?_ (fun _ => ?_))
      | exact ih0 _ _ _ _
      | exact ih1 _ _
      | exact LeO.none _
      | refine LeO.ite ?_ ?_
      | refine LeO.bind ?_ (fun _ => ?_)
    · intro y0 y1
      unfold bywashref1_NumberPut.l0
      repeat' first
      | (with_reducible exact ih0 _ _ _ _)
      | (with_reducible exact ih1 _ _)
      | (with_reducible exact LeO.refl _)
      | (with_reducible exact LeO.none _)
      | (with_reducible refine LeO.ite ?_ ?_)
      | (with_reducible refine LeO.bind ?_ (fun _ => ?_))
      | exact ih0 _ _ _ _
      | exact ih1 _ _
      | exact LeO.none _
      | refine LeO.ite ?_ ?_
      | refine LeO.bind ?_ (fun _ => ?_)
theorem bywashref1_NumberPut.mono : ∀ a0 a1 a2 k, LeO (bywashref1_NumberPut.f k a0 a1 a2) (bywashref1_NumberPut.f (k + 1) a0 a1 a2) := by
  intro a0 a1 a2 k
  obtain ⟨ih0, ih1⟩ := bywashref1_NumberPut.mono_l k
  unfold bywashref1_NumberPut.f
  repeat' first
      | (with_reducible exact ih0 _ _ _ _)
      | (with_reducible exact ih1 _ _)
      | (with_reducible exact LeO.refl _)
      | (with_reducible exact LeO.none _)
      | (with_reducible refine LeO.ite ?_ ?_)
      | (with_reducible refine LeO.bind ?_ (fun _ => ?_))
      | exact ih0 _ _ _ _
      | exact ih1 _ _
      | exact LeO.none _
      | refine LeO.ite ?_ ?_
      | refine LeO.bind ?_ (fun _ => ?_)
set_option maxHeartbeats 8000000 in
set_option maxRecDepth 100000 in
theorem bywashref1_NumberPut.calls (k : Nat) (a0 : Int) (a1 : Int) (a2 : Int) (r1 : ByteArray) (r2 : Bool) (w : World) (h : bywashref1_NumberPut.f k a0 a1 a2 = some (r1, r2)) :
    Calls Try.prog 17 #[.int .u8 a0, .int .i64 a1, .int .i64 a2] w fun e w' => e = .returned (.tuple #[.string r1, .bool r2]) ∧ Below w.heap.size w w' := by
  have HB := Aside0.mk (Below.refl w.heap.size w)
  have H : (if a1 < 1 then (bywashref1_NumberPut.j0 k a0 a1 a2 true) else (if a1 > 8 then (bywashref1_NumberPut.j0 k a0 a1 a2 true) else (if a2 < 0 then (bywashref1_NumberPut.j0 k a0 a1 a2 true) else (if a2 > 2147483647 then (bywashref1_NumberPut.j0 k a0 a1 a2 true) else (if 0 ≤ (IntKind.u64.wrap (a1)) then (bywashref1_NumberPut.j0 k a0 a1 a2 ((Go.bits .and .i64 (wrap64 (a0)) (wrap64 ((shl .i64 1 (IntKind.u64.wrap (a1))) - 1))) != 0)) else (none)))))) = some (r1, r2) := h
  clear h
  have HC4 := Aside0.mk H
  clear H
  go_enter Try.func17, Try.ntmps17
  go_upto_region 1 with (fail)
  go_cut [33] (fun v33 wc => ∃ (kq : Nat) (x33_3 : Bool), v33 = .bool x33_3 ∧ Aside0 (bywashref1_NumberPut.j0 kq a0 a1 a2 x33_3 = some (r1, r2)) ∧ Aside0 (kq ≤ k) ∧ Aside0 (Below w.heap.size w wc))
  case first =>
    have H := HC4.out
    clear HC4
    by_cases c5 : a1 < 1
    · rw [if_pos c5] at H
      have c5b0 : decide (a1 < 1) = true := decide_eq_true c5
      clear c5
      (first | rw [c5b0] | (simp only [i64_w, i32_w]; rw [c5b0]) | skip)
      have H' := Aside0.mk H
      clear H
      go_wp2
      go_meet
      case rel => exact ⟨_, (true), (by first | rfl | (simp; done) | (simp [*]; done)), H', ⟨by first | omega | exact Nat.le_refl _⟩, ⟨by repeat (first | (with_reducible first | exact HB.out | apply below_alloc | apply pw_below_drewN | apply below_drew1) | exact HB.out)⟩⟩
    · rw [if_neg c5] at H
      have c5b0 : decide (a1 < 1) = false := decide_eq_false c5
      clear c5
      (first | rw [c5b0] | (simp only [i64_w, i32_w]; rw [c5b0]) | skip)
      by_cases c6 : a1 > 8
      · rw [if_pos c6] at H
        have c6b0 : decide (8 < a1) = true := decide_eq_true c6
        clear c6
        have H' := Aside0.mk H
        clear H
        go_wp2
        go_meet
        case rel => exact ⟨_, (true), (by first | rfl | (simp; done) | (simp [*]; done)), H', ⟨by first | omega | exact Nat.le_refl _⟩, ⟨by repeat (first | (with_reducible first | exact HB.out | apply below_alloc | apply pw_below_drewN | apply below_drew1) | exact HB.out)⟩⟩
      · rw [if_neg c6] at H
        have c6b0 : decide (8 < a1) = false := decide_eq_false c6
        clear c6
        by_cases c7 : a2 < 0
        · rw [if_pos c7] at H
          have c7b0 : decide (a2 < 0) = true := decide_eq_true c7
          clear c7
          have H' := Aside0.mk H
          clear H
          go_wp2
          go_meet
          case rel => exact ⟨_, (true), (by first | rfl | (simp; done) | (simp [*]; done)), H', ⟨by first | omega | exact Nat.le_refl _⟩, ⟨by repeat (first | (with_reducible first | exact HB.out | apply below_alloc | apply pw_below_drewN | apply below_drew1) | exact HB.out)⟩⟩
        · rw [if_neg c7] at H
          have c7b0 : decide (a2 < 0) = false := decide_eq_false c7
          clear c7
          by_cases c8 : a2 > 2147483647
          · rw [if_pos c8] at H
            have c8b0 : decide (2147483647 < a2) = true := decide_eq_true c8
            clear c8
            have H' := Aside0.mk H
            clear H
            go_wp2
            go_meet
            case rel => exact ⟨_, (true), (by first | rfl | (simp; done) | (simp [*]; done)), H', ⟨by first | omega | exact Nat.le_refl _⟩, ⟨by repeat (first | (with_reducible first | exact HB.out | apply below_alloc | apply pw_below_drewN | apply below_drew1) | exact HB.out)⟩⟩
          · rw [if_neg c8] at H
            have c8b0 : decide (2147483647 < a2) = false := decide_eq_false c8
            clear c8
            obtain ⟨ji9, hji9⟩ : ∃ j_ : Int, (IntKind.u64.wrap (a1)) = j_ := ⟨_, rfl⟩
            replace H : (if 0 ≤ (ji9) then (bywashref1_NumberPut.j0 k a0 a1 a2 ((Go.bits .and .i64 (wrap64 (a0)) (wrap64 ((shl .i64 1 (ji9)) - 1))) != 0)) else (none)) = some (r1, r2) := by first | (rw [hji9] at H; exact H) | (simp only [hji9] at H ⊢; exact H)
            by_cases c10 : 0 ≤ (ji9)
            · rw [if_pos c10] at H
              have c10b0 := eq_true c10
              have c10b1 : decide (0 ≤ (ji9)) = true := decide_eq_true c10
              clear c10
              obtain ⟨ji11, hji11⟩ : ∃ j_ : Int, (shl .i64 1 (ji9)) = j_ := ⟨_, rfl⟩
              replace H : (bywashref1_NumberPut.j0 k a0 a1 a2 ((Go.bits .and .i64 (wrap64 (a0)) (wrap64 ((ji11) - 1))) != 0)) = some (r1, r2) := by first | (rw [hji11] at H; exact H) | (simp only [hji11] at H ⊢; exact H)
              have hji11_ : (IntKind.i64.wrap (1 * 2 ^ min (ji9).toNat 64)) = ji11 := hji11
              have hji11z : (ji9) ≤ 64 → (IntKind.i64.wrap (1 * 2 ^ (ji9).toNat)) = ji11 := shl_small hji11
              have hji11u : (IntKind.i64.wrap (2 ^ min (ji9).toNat 64)) = ji11 := by have h_ := hji11_; rw [Int.one_mul] at h_; exact h_
              have hji11v : (ji9) ≤ 64 → (IntKind.i64.wrap (2 ^ (ji9).toNat)) = ji11 := fun hle_ => by have h_ := hji11z hle_; rw [Int.one_mul] at h_; exact h_
              have hji11y : (wrap64 (1 * 2 ^ min (ji9).toNat 64)) = ji11 := (i64_w _).symm.trans hji11_
              have hji11x : (ji9) ≤ 64 → (wrap64 (1 * 2 ^ (ji9).toNat)) = ji11 := fun h_ => (i64_w _).symm.trans (hji11z h_)
              have H' := Aside0.mk H
              clear H
              go_wp2
              go_meet
              case rel => exact ⟨_, (((Go.bits .and .i64 (wrap64 (a0)) (wrap64 ((ji11) - 1))) != 0)), (by first | rfl | (simp; done) | (simp only [← hji11] <;> (first | rfl | simp)) | (simp [*]; done)), H', ⟨by first | omega | exact Nat.le_refl _⟩, ⟨by repeat (first | (with_reducible first | exact HB.out | apply below_alloc | apply pw_below_drewN | apply below_drew1) | exact HB.out)⟩⟩
            · rw [if_neg c10] at H
              exact absurd H (by simp)
  case rest =>
    clear HC4
    try clear c1
    try clear p2
    try clear c5
    try clear c5b0
    try clear c6
    try clear c6b0
    try clear p6
    try clear c7
    try clear c7b0
    try clear c8
    try clear c8b0
    try clear c10
    try clear c10b0
    try clear c10b1
    obtain ⟨kq, x33_3, rfl, HA, HJ3, HB⟩ := hcut
    cases kq with
    | zero => exact absurd HA.out (by simp [bywashref1_NumberPut.j0])
    | succ kj3 =>
      have H := HA.out
      clear HA
      simp only [bywashref1_NumberPut.j0] at H
      by_cases c12 : x33_3 = true
      · subst c12
        have H1 : (some ((⟨#[]⟩ : ByteArray), false)) = some (r1, r2) := by rw [if_pos rfl] at H; exact H
        clear H
        have H := H1
        clear H1
        simp only [Option.some.injEq, Prod.mk.injEq] at H
        obtain ⟨rfl, rfl⟩ := H
        go_wp2
        go_ret2
        exact ⟨by first | rfl | (simp [errW_none, errW_some] <;> rfl) | (simp [*, errW_none, errW_some] <;> rfl), by repeat (first | (with_reducible first | exact HB.out | apply below_alloc | apply pw_below_drewN | apply below_drew1) | exact HB.out)⟩
      · replace c12 := Bool.eq_false_iff.mpr c12
        subst c12
        have H1 : (if 0 ≤ (IntKind.u64.wrap (a1)) then (if a2 < (wrap64 ((shl .i64 1 (IntKind.u64.wrap (a1))) - 1)) then (some (strOfNums (([Go.bits .or .u8 a0 ((a2) % 256)] : List Int)), true)) else (bywashref1_NumberPut.l0 kj3 (wrap64 (a2 - (wrap64 ((shl .i64 1 (IntKind.u64.wrap (a1))) - 1)))) (strOfNums (([Go.bits .or .u8 a0 ((wrap64 ((shl .i64 1 (IntKind.u64.wrap (a1))) - 1)) % 256)] : List Int))))) else (none)) = some (r1, r2) := by rw [if_neg (show ¬ (false = true) by decide)] at H; exact H
        clear H
        have H := H1
        clear H1
        obtain ⟨ji13, hji13⟩ : ∃ j_ : Int, (IntKind.u64.wrap (a1)) = j_ := ⟨_, rfl⟩
        replace H : (if 0 ≤ (ji13) then (if a2 < (wrap64 ((shl .i64 1 (ji13)) - 1)) then (some (strOfNums (([Go.bits .or .u8 a0 ((a2) % 256)] : List Int)), true)) else (bywashref1_NumberPut.l0 kj3 (wrap64 (a2 - (wrap64 ((shl .i64 1 (ji13)) - 1)))) (strOfNums (([Go.bits .or .u8 a0 ((wrap64 ((shl .i64 1 (ji13)) - 1)) % 256)] : List Int))))) else (none)) = some (r1, r2) := by first | (rw [hji13] at H; exact H) | (simp only [hji13] at H ⊢; exact H)
        by_cases c14 : 0 ≤ (ji13)
        · rw [if_pos c14] at H
          have c14b0 := eq_true c14
          have c14b1 : decide (0 ≤ (ji13)) = true := decide_eq_true c14
          clear c14
          obtain ⟨ji15, hji15⟩ : ∃ j_ : Int, (shl .i64 1 (ji13)) = j_ := ⟨_, rfl⟩
          replace H : (if a2 < (wrap64 ((ji15) - 1)) then (some (strOfNums (([Go.bits .or .u8 a0 ((a2) % 256)] : List Int)), true)) else (bywashref1_NumberPut.l0 kj3 (wrap64 (a2 - (wrap64 ((ji15) - 1)))) (strOfNums (([Go.bits .or .u8 a0 ((wrap64 ((ji15) - 1)) % 256)] : List Int))))) = some (r1, r2) := by first | (rw [hji15] at H; exact H) | (simp only [hji15] at H ⊢; exact H)
          have hji15_ : (IntKind.i64.wrap (1 * 2 ^ min (ji13).toNat 64)) = ji15 := hji15
          have hji15z : (ji13) ≤ 64 → (IntKind.i64.wrap (1 * 2 ^ (ji13).toNat)) = ji15 := shl_small hji15
          have hji15u : (IntKind.i64.wrap (2 ^ min (ji13).toNat 64)) = ji15 := by have h_ := hji15_; rw [Int.one_mul] at h_; exact h_
          have hji15v : (ji13) ≤ 64 → (IntKind.i64.wrap (2 ^ (ji13).toNat)) = ji15 := fun hle_ => by have h_ := hji15z hle_; rw [Int.one_mul] at h_; exact h_
          have hji15y : (wrap64 (1 * 2 ^ min (ji13).toNat 64)) = ji15 := (i64_w _).symm.trans hji15_
          have hji15x : (ji13) ≤ 64 → (wrap64 (1 * 2 ^ (ji13).toNat)) = ji15 := fun h_ => (i64_w _).symm.trans (hji15z h_)
          by_cases c16 : a2 < (wrap64 ((ji15) - 1))
          · rw [if_pos c16] at H
            have c16b0 : decide (a2 < (wrap64 ((ji15) - 1))) = true := decide_eq_true c16
            clear c16
            obtain ⟨y121, hy121⟩ : ∃ y_ : List Int, y_ = (([Go.bits .or .u8 a0 ((a2) % 256)] : List Int)) := ⟨_, rfl⟩
            replace H : (some (strOfNums y121, true)) = some (r1, r2) := by first | (rw [hy121]; with_reducible exact H) | (have H2_ := (Option.bind_some _ _).symm.trans H; rw [hy121]; with_reducible exact H2_) | (have H2_ := (Option.bind_some _ _).symm.trans H; with_reducible exact H2_) | with_reducible exact H | (rw [hy121]; exact H) | exact H
            have Ny121 := Aside0.mk hy121
            clear hy121
            simp only [Option.some.injEq, Prod.mk.injEq] at H
            obtain ⟨rfl, rfl⟩ := H
            go_wp2_with (first | ((with_reducible refine gate_dst (N := 45) rfl ?_); refine Kd.R_lit (Kd.int .u8) _ 5 ?hg (N := 45) ?hd (xs := ([Go.bits .or .u8 a0 ((a2) % 256)] : List Int)) (inner := [.int .u8 (Go.bits .or .u8 a0 ((a2) % 256))]) (ok := fun _ => True) (okp := fun _ => True) ?hr ?hp (fun _ hk => hk) trivial (Below.refl _ _) (Nat.le_refl _) (by simp) ?_; (case hd => rfl); (case hg => rfl); (case hr => first | (go_simp; done) | (go_simp; rfl)); (case hp => exact (Reps.one (show Kd.M (Kd.int .u8) _ _ _ (Go.bits .or .u8 a0 ((a2) % 256)) [.int .u8 (Go.bits .or .u8 a0 ((a2) % 256))] from rfl) (Reps.none _ _))); intro v122 w17 ho18 hb hg_ hnew_; clear hg_ hnew_; (first | rw [← Ny121.out] at ho18 | (simp only [Int.reduceToNat] at ho18; rw [← Ny121.out] at ho18)); have n0_ := Aside0.mk (Kd.R_lower ho18 (below_size (by repeat (first | (with_reducible first | exact HB.out | apply below_alloc | apply pw_below_drewN | apply below_drew1) | exact HB.out)))); have n1_ := Aside0.mk (below_step (by repeat (first | (with_reducible first | exact HB.out | apply below_alloc | apply pw_below_drewN | apply below_drew1) | exact HB.out)) hb); clear HB; have HO123 := n0_; have HB := n1_; clear n0_ n1_; clear hb ho18; have hcv19 := own_string (P := Try.prog) Try.underlying32 Try.underlying5 Try.underlying9 (Kd.own_of_R HO123.out)))
            go_ret2
            exact ⟨by first | rfl | (simp [errW_none, errW_some] <;> rfl) | (simp only [← hji13, ← hji15]; first | rfl | (simp [errW_none, errW_some] <;> rfl)) | (simp [*, errW_none, errW_some] <;> rfl), by repeat (first | (with_reducible first | exact HB.out | apply below_alloc | apply pw_below_drewN | apply below_drew1) | exact HB.out)⟩
          · rw [if_neg c16] at H
            have c16b0 : decide (a2 < (wrap64 ((ji15) - 1))) = false := decide_eq_false c16
            clear c16
            obtain ⟨y124, hy124⟩ : ∃ y_ : List Int, y_ = (([Go.bits .or .u8 a0 ((wrap64 ((ji15) - 1)) % 256)] : List Int)) := ⟨_, rfl⟩
            replace H : (bywashref1_NumberPut.l0 kj3 (wrap64 (a2 - (wrap64 ((ji15) - 1)))) (strOfNums y124)) = some (r1, r2) := by first | (rw [hy124]; with_reducible exact H) | (have H2_ := (Option.bind_some _ _).symm.trans H; rw [hy124]; with_reducible exact H2_) | (have H2_ := (Option.bind_some _ _).symm.trans H; with_reducible exact H2_) | with_reducible exact H | (rw [hy124]; exact H) | exact H
            have Ny124 := Aside0.mk hy124
            clear hy124
            have H' := Aside0.mk H
            clear H
            go_wp2_with (first | ((with_reducible refine gate_dst (N := 51) rfl ?_); refine Kd.R_lit (Kd.int .u8) _ 5 ?hg (N := 51) ?hd (xs := ([Go.bits .or .u8 a0 ((wrap64 ((ji15) - 1)) % 256)] : List Int)) (inner := [.int .u8 (Go.bits .or .u8 a0 ((wrap64 ((ji15) - 1)) % 256))]) (ok := fun _ => True) (okp := fun _ => True) ?hr ?hp (fun _ hk => hk) trivial (Below.refl _ _) (Nat.le_refl _) (by simp) ?_; (case hd => rfl); (case hg => rfl); (case hr => first | (go_simp; done) | (go_simp; rfl)); (case hp => exact (Reps.one (show Kd.M (Kd.int .u8) _ _ _ (Go.bits .or .u8 a0 ((wrap64 ((ji15) - 1)) % 256)) [.int .u8 (Go.bits .or .u8 a0 ((wrap64 ((ji15) - 1)) % 256))] from rfl) (Reps.none _ _))); intro v125 w20 ho21 hb hg_ hnew_; clear hg_ hnew_; (first | rw [← Ny124.out] at ho21 | (simp only [Int.reduceToNat] at ho21; rw [← Ny124.out] at ho21)); have n0_ := Aside0.mk (Kd.R_lower ho21 (below_size (by repeat (first | (with_reducible first | exact HB.out | apply below_alloc | apply pw_below_drewN | apply below_drew1) | exact HB.out)))); have n1_ := Aside0.mk (below_step (by repeat (first | (with_reducible first | exact HB.out | apply below_alloc | apply pw_below_drewN | apply below_drew1) | exact HB.out)) hb); clear HB; have HO126 := n0_; have HB := n1_; clear n0_ n1_; clear hb ho21; have hcv22 := own_string (P := Try.prog) Try.underlying32 Try.underlying5 Try.underlying9 (Kd.own_of_R HO126.out)))
            go_loopg [2, 9] kj3 (fun kq v2 v9 w' => ∃ (x2_2 : Int) (x9_2 : ByteArray), v2 = .int .i64 x2_2 ∧ v9 = .string x9_2 ∧ Aside0 (bywashref1_NumberPut.l0 kq x2_2 x9_2 = some (r1, r2)) ∧ Aside0 (kq ≤ kj3) ∧ Aside0 (Below w.heap.size w w'))
            case atStart => exact ⟨(wrap64 (a2 - (wrap64 ((ji15) - 1)))), (strOfNums y124), (by first | rfl | (simp; done) | (simp only [← hji15] <;> (first | rfl | simp)) | (simp [*]; done)), (by first | rfl | (simp; done) | (simp [*]; done)), H', ⟨Nat.le_refl _⟩, ⟨by repeat (first | (with_reducible first | exact HB.out | apply below_alloc | apply pw_below_drewN | apply below_drew1) | exact HB.out)⟩⟩
            case round =>
              clear H'
              try clear c1
              try clear hcv1
              try clear p2
              try clear hcv2
              try clear c5
              try clear c5b0
              try clear c6
              try clear c6b0
              try clear p6
              try clear c7
              try clear c7b0
              try clear c8
              try clear c8b0
              try clear c10
              try clear c10b0
              try clear c10b1
              try clear c12
              try clear c14
              try clear c14b0
              try clear c14b1
              try clear c16
              try clear c16b0
              try clear c17
              try clear hcv19
              try clear hcv22
              try clear p2
              try clear p6
              obtain ⟨x2_2, x9_2, rfl, rfl, HA, HK2, HB⟩ := hrel
              cases gk with
              | zero => exact absurd HA.out (by simp [bywashref1_NumberPut.l0])
              | succ k2 =>
                have H := HA.out
                clear HA
                simp only [bywashref1_NumberPut.l0] at H
                by_cases c23 : x2_2 ≥ 128
                · rw [if_pos c23] at H
                  have c23b0 : decide (128 ≤ x2_2) = true := decide_eq_true c23
                  clear c23
                  obtain ⟨y127, hy127⟩ : ∃ y_ : List Int, y_ = (([(Go.bits .or .i64 128 (Go.bits .and .i64 x2_2 127)) % 256] : List Int)) := ⟨_, rfl⟩
                  replace H : (if x9_2.size + (strOfNums y127).size ≤ 9223372036854775807 then (bywashref1_NumberPut.l0 k2 (wrap64 (Int.tdiv x2_2 128)) (x9_2 ++ (strOfNums y127))) else (none)) = some (r1, r2) := by first | (rw [hy127]; with_reducible exact H) | (have H2_ := (Option.bind_some _ _).symm.trans H; rw [hy127]; with_reducible exact H2_) | (have H2_ := (Option.bind_some _ _).symm.trans H; with_reducible exact H2_) | with_reducible exact H | (rw [hy127]; exact H) | exact H
                  have Ny127 := Aside0.mk hy127
                  clear hy127
                  by_cases c24 : x9_2.size + (strOfNums y127).size ≤ 9223372036854775807
                  · rw [if_pos c24] at H
                    have c24b0 := eq_true c24
                    have c24b1 : decide (x9_2.size + (strOfNums y127).size ≤ 9223372036854775807) = true := decide_eq_true c24
                    try have c24b2 : (9223372036854775807 < x9_2.size + (strOfNums y127).size) = False := eq_false (Nat.not_lt.2 c24)
                    have H' := Aside0.mk H
                    clear H
                    go_wp2_with (first | ((with_reducible refine gate_dst (N := 65) rfl ?_); refine Kd.R_lit (Kd.int .u8) _ 5 ?hg (N := 65) ?hd (xs := ([(Go.bits .or .i64 128 (Go.bits .and .i64 x2_2 127)) % 256] : List Int)) (inner := [.int .u8 ((Go.bits .or .i64 128 (Go.bits .and .i64 x2_2 127)) % 256)]) (ok := fun _ => True) (okp := fun _ => True) ?hr ?hp (fun _ hk => hk) trivial (Below.refl _ _) (Nat.le_refl _) (by simp) ?_; (case hd => rfl); (case hg => rfl); (case hr => first | (go_simp; done) | (go_simp; rfl)); (case hp => exact (Reps.one (show Kd.M (Kd.int .u8) _ _ _ ((Go.bits .or .i64 128 (Go.bits .and .i64 x2_2 127)) % 256) [.int .u8 ((Go.bits .or .i64 128 (Go.bits .and .i64 x2_2 127)) % 256)] from rfl) (Reps.none _ _))); intro v128 w25 ho26 hb hg_ hnew_; clear hg_ hnew_; (first | rw [← Ny127.out] at ho26 | (simp only [Int.reduceToNat] at ho26; rw [← Ny127.out] at ho26)); have n0_ := Aside0.mk (Kd.R_lower ho26 (below_size (by repeat (first | (with_reducible first | exact HB.out | apply below_alloc | apply pw_below_drewN | apply below_drew1) | exact HB.out)))); have n1_ := Aside0.mk (below_step (by repeat (first | (with_reducible first | exact HB.out | apply below_alloc | apply pw_below_drewN | apply below_drew1) | exact HB.out)) hb); clear HB; have HO129 := n0_; have HB := n1_; clear n0_ n1_; clear hb ho26; have hcv27 := own_string (P := Try.prog) Try.underlying32 Try.underlying5 Try.underlying9 (Kd.own_of_R HO129.out)))
                    go_roundg k2
                    case measure => have := HJ3.out; have := HK2.out; omega
                    case rel => exact ⟨(wrap64 (Int.tdiv x2_2 128)), (x9_2 ++ (strOfNums y127)), (by first | rfl | (simp; done) | (simp [*]; done)), (by first | rfl | (simp; done) | (simp [*]; done)), H', ⟨by have := HJ3.out; have := HK2.out; omega⟩, ⟨by repeat (first | (with_reducible first | exact HB.out | apply below_alloc | apply pw_below_drewN | apply below_drew1) | exact HB.out)⟩⟩
                  · rw [if_neg c24] at H
                    exact absurd H (by simp)
                · rw [if_neg c23] at H
                  have c23b0 : decide (128 ≤ x2_2) = false := decide_eq_false c23
                  clear c23
                  obtain ⟨y130, hy130⟩ : ∃ y_ : List Int, y_ = (([(x2_2) % 256] : List Int)) := ⟨_, rfl⟩
                  replace H : (if x9_2.size + (strOfNums y130).size ≤ 9223372036854775807 then (some (x9_2 ++ (strOfNums y130), true)) else (none)) = some (r1, r2) := by first | (rw [hy130]; with_reducible exact H) | (have H2_ := (Option.bind_some _ _).symm.trans H; rw [hy130]; with_reducible exact H2_) | (have H2_ := (Option.bind_some _ _).symm.trans H; with_reducible exact H2_) | with_reducible exact H | (rw [hy130]; exact H) | exact H
                  have Ny130 := Aside0.mk hy130
                  clear hy130
                  by_cases c28 : x9_2.size + (strOfNums y130).size ≤ 9223372036854775807
                  · rw [if_pos c28] at H
                    have c28b0 := eq_true c28
                    have c28b1 : decide (x9_2.size + (strOfNums y130).size ≤ 9223372036854775807) = true := decide_eq_true c28
                    try have c28b2 : (9223372036854775807 < x9_2.size + (strOfNums y130).size) = False := eq_false (Nat.not_lt.2 c28)
                    simp only [Option.some.injEq, Prod.mk.injEq] at H
                    obtain ⟨rfl, rfl⟩ := H
                    go_wp2_with (first | ((with_reducible refine gate_dst (N := 71) rfl ?_); refine Kd.R_lit (Kd.int .u8) _ 5 ?hg (N := 71) ?hd (xs := ([(x2_2) % 256] : List Int)) (inner := [.int .u8 ((x2_2) % 256)]) (ok := fun _ => True) (okp := fun _ => True) ?hr ?hp (fun _ hk => hk) trivial (Below.refl _ _) (Nat.le_refl _) (by simp) ?_; (case hd => rfl); (case hg => rfl); (case hr => first | (go_simp; done) | (go_simp; rfl)); (case hp => exact (Reps.one (show Kd.M (Kd.int .u8) _ _ _ ((x2_2) % 256) [.int .u8 ((x2_2) % 256)] from rfl) (Reps.none _ _))); intro v131 w29 ho30 hb hg_ hnew_; clear hg_ hnew_; (first | rw [← Ny130.out] at ho30 | (simp only [Int.reduceToNat] at ho30; rw [← Ny130.out] at ho30)); have n0_ := Aside0.mk (Kd.R_lower ho30 (below_size (by repeat (first | (with_reducible first | exact HB.out | apply below_alloc | apply pw_below_drewN | apply below_drew1) | exact HB.out)))); have n1_ := Aside0.mk (below_step (by repeat (first | (with_reducible first | exact HB.out | apply below_alloc | apply pw_below_drewN | apply below_drew1) | exact HB.out)) hb); clear HB; have HO132 := n0_; have HB := n1_; clear n0_ n1_; clear hb ho30; have hcv31 := own_string (P := Try.prog) Try.underlying32 Try.underlying5 Try.underlying9 (Kd.own_of_R HO132.out)))
                    go_ret2
                    exact ⟨by first | rfl | (simp [errW_none, errW_some] <;> rfl) | (simp only [← hji13, ← hji15]; first | rfl | (simp [errW_none, errW_some] <;> rfl)) | (simp [*, errW_none, errW_some] <;> rfl), by repeat (first | (with_reducible first | exact HB.out | apply below_alloc | apply pw_below_drewN | apply below_drew1) | exact HB.out)⟩
                  · rw [if_neg c28] at H
                    exact absurd H (by simp)
        · rw [if_neg c14] at H
          exact absurd H (by simp)

/-! ### bywashref1_NumberGet: function 19 -/
mutual
def bywashref1_NumberGet.j0 : Nat → ByteArray → Int → Bool → Option (Int × Int × Int)
  | 0, _, _, _ => none
  | k + 1, x0, x1, x15 => if x15 = true then (some (0, 0, 1)) else (if x0.toList = ([] : List UInt8) then (some (0, 0, 2)) else (if 0 ≤ (IntKind.u64.wrap (x1)) then (if 0 < (x0.size : Int) then (if (Go.bits .and .i64 (wrap64 (bt x0 0)) (wrap64 ((shl .i64 1 (IntKind.u64.wrap (x1))) - 1))) < (wrap64 ((shl .i64 1 (IntKind.u64.wrap (x1))) - 1)) then (some (Go.bits .and .i64 (wrap64 (bt x0 0)) (wrap64 ((shl .i64 1 (IntKind.u64.wrap (x1))) - 1)), 1, 0)) else (bywashref1_NumberGet.l0 k x0 (Go.bits .and .i64 (wrap64 (bt x0 0)) (wrap64 ((shl .i64 1 (IntKind.u64.wrap (x1))) - 1))) 1)) else (none)) else (none)))
def bywashref1_NumberGet.l0 : Nat → ByteArray → Int → Int → Option (Int × Int × Int)
  | 0, _, _, _ => none
  | k + 1, x0, x8, x9 => if x9 > 5 then (some (0, 0, 4)) else (if x9 = (x0.size : Int) then (some (0, 0, 2)) else (if 0 ≤ x9 then (if x9 < (x0.size : Int) then (if 0 ≤ (IntKind.u64.wrap (wrap64 (7 * (wrap64 (x9 - 1))))) then (if (wrap64 (x8 + (shl .i64 (wrap64 (Go.bits .and .u8 (bt x0 x9) 127)) (IntKind.u64.wrap (wrap64 (7 * (wrap64 (x9 - 1)))))))) > 2147483647 then (bywashref1_NumberGet.j2 k x0 (wrap64 (x8 + (shl .i64 (wrap64 (Go.bits .and .u8 (bt x0 x9) 127)) (IntKind.u64.wrap (wrap64 (7 * (wrap64 (x9 - 1)))))))) x9 true) else (if x9 = 5 then (bywashref1_NumberGet.j2 k x0 (wrap64 (x8 + (shl .i64 (wrap64 (Go.bits .and .u8 (bt x0 x9) 127)) (IntKind.u64.wrap (wrap64 (7 * (wrap64 (x9 - 1)))))))) x9 (decide ((bt x0 x9) ≥ 128))) else (bywashref1_NumberGet.j2 k x0 (wrap64 (x8 + (shl .i64 (wrap64 (Go.bits .and .u8 (bt x0 x9) 127)) (IntKind.u64.wrap (wrap64 (7 * (wrap64 (x9 - 1)))))))) x9 false))) else (none)) else (none)) else (none)))
def bywashref1_NumberGet.j2 : Nat → ByteArray → Int → Int → Bool → Option (Int × Int × Int)
  | 0, _, _, _, _ => none
  | k + 1, x0, x8, x9, x62 => if x62 = true then (some (0, 0, 4)) else (if 0 ≤ x9 then (if x9 < (x0.size : Int) then (if (bt x0 x9) < 128 then (some (x8, wrap64 (x9 + 1), 0)) else (bywashref1_NumberGet.l0 k x0 x8 (wrap64 (x9 + 1)))) else (none)) else (none))
end
def bywashref1_NumberGet.f (k : Nat) (a0 : ByteArray) (a1 : Int) : Option (Int × Int × Int) := if a1 < 1 then (bywashref1_NumberGet.j0 k a0 a1 true) else (bywashref1_NumberGet.j0 k a0 a1 (decide (a1 > 8)))
theorem bywashref1_NumberGet.mono_l : ∀ k, (∀ y0 y1 y2, LeO (bywashref1_NumberGet.j0 k y0 y1 y2) (bywashref1_NumberGet.j0 (k + 1) y0 y1 y2)) ∧ (∀ y0 y1 y2, LeO (bywashref1_NumberGet.l0 k y0 y1 y2) (bywashref1_NumberGet.l0 (k + 1) y0 y1 y2)) ∧ (∀ y0 y1 y2 y3, LeO (bywashref1_NumberGet.j2 k y0 y1 y2 y3) (bywashref1_NumberGet.j2 (k + 1) y0 y1 y2 y3))
  | 0 => ⟨fun _ _ _ r h => by simp [bywashref1_NumberGet.j0] at h, fun _ _ _ r h => by simp [bywashref1_NumberGet.l0] at h, fun _ _ _ _ r h => by simp [bywashref1_NumberGet.j2] at h⟩
  | k + 1 => by
    obtain ⟨ih0, ih1, ih2⟩ := bywashref1_NumberGet.mono_l k
    refine ⟨?_, ?_, ?_⟩
    · intro y0 y1 y2
      unfold bywashref1_NumberGet.j0
      repeat' first
      | (with_reducible exact ih0 _ _ _)
      | (with_reducible exact ih1 _ _ _)
      | (with_reducible exact ih2 _ _ _ _)
      | (with_reducible exact LeO.refl _)
      | (with_reducible exact LeO.none _)
      | (with_reducible refine LeO.ite ?_ ?_)
      | (with_reducible refine LeO.bind ?_ (fun _ => ?_))
      | exact ih0 _ _ _
      | exact ih1 _ _ _
      | exact ih2 _ _ _ _
      | exact LeO.none _
      | refine LeO.ite ?_ ?_
      | refine LeO.bind ?_ (fun _ => ?_)
    · intro y0 y1 y2
      unfold bywashref1_NumberGet.l0
      repeat' first
      | (with_reducible exact ih0 _ _ _)
      | (with_reducible exact ih1 _ _ _)
      | (with_reducible exact ih2 _ _ _ _)
      | (with_reducible exact LeO.refl _)
      | (with_reducible exact LeO.none _)
      | (with_reducible refine LeO.ite ?_ ?_)
      | (with_reducible refine LeO.bind ?_ (fun _ => ?_))
      | exact ih0 _ _ _
      | exact ih1 _ _ _
      | exact ih2 _ _ _ _
      | exact LeO.none _
      | refine LeO.ite ?_ ?_
      | refine LeO.bind ?_ (fun _ => ?_)
    · intro y0 y1 y2 y3
      unfold bywashref1_NumberGet.j2
      repeat' first
      | (with_reducible exact ih0 _ _ _)
      | (with_reducible exact ih1 _ _ _)
      | (with_reducible exact ih2 _ _ _ _)
      | (with_reducible exact LeO.refl _)
      | (with_reducible exact LeO.none _)
      | (with_reducible refine LeO.ite ?_ ?_)
      | (with_reducible refine LeO.bind ?_ (fun _ => ?_))
      | exact ih0 _ _ _
      | exact ih1 _ _ _
      | exact ih2 _ _ _ _
      | exact LeO.none _
      | refine LeO.ite ?_ ?_
      | refine LeO.bind ?_ (fun _ => ?_)
theorem bywashref1_NumberGet.mono : ∀ a0 a1 k, LeO (bywashref1_NumberGet.f k a0 a1) (bywashref1_NumberGet.f (k + 1) a0 a1) := by
  intro a0 a1 k
  obtain ⟨ih0, ih1, ih2⟩ := bywashref1_NumberGet.mono_l k
  unfold bywashref1_NumberGet.f
  repeat' first
      | (with_reducible exact ih0 _ _ _)
      | (with_reducible exact ih1 _ _ _)
      | (with_reducible exact ih2 _ _ _ _)
      | (with_reducible exact LeO.refl _)
      | (with_reducible exact LeO.none _)
      | (with_reducible refine LeO.ite ?_ ?_)
      | (with_reducible refine LeO.bind ?_ (fun _ => ?_))
      | exact ih0 _ _ _
      | exact ih1 _ _ _
      | exact ih2 _ _ _ _
      | exact LeO.none _
      | refine LeO.ite ?_ ?_
      | refine LeO.bind ?_ (fun _ => ?_)
set_option maxHeartbeats 8000000 in
set_option maxRecDepth 100000 in
theorem bywashref1_NumberGet.calls (k : Nat) (a0 : ByteArray) (a1 : Int) (r1 : Int) (r2 : Int) (r3 : Int) (w : World) (h : bywashref1_NumberGet.f k a0 a1 = some (r1, r2, r3)) :
    Calls Try.prog 19 #[.string a0, .int .i64 a1] w fun e w' => e = .returned (.tuple #[.int .i64 r1, .int .i64 r2, .int .i64 r3]) ∧ Drawn0 w w' := by
  have H : (if a1 < 1 then (bywashref1_NumberGet.j0 k a0 a1 true) else (bywashref1_NumberGet.j0 k a0 a1 (decide (a1 > 8)))) = some (r1, r2, r3) := h
  clear h
  have HC3 := Aside0.mk H
  clear H
  go_enter Try.func19, Try.ntmps19
  go_upto_region 1 with (fail)
  go_cut [15] (fun v15 wc => ∃ (kq : Nat) (x15_2 : Bool), v15 = .bool x15_2 ∧ Aside0 (bywashref1_NumberGet.j0 kq a0 a1 x15_2 = some (r1, r2, r3)) ∧ Aside0 (kq ≤ k) ∧ Drawn0 w wc)
  case first =>
    have H := HC3.out
    clear HC3
    by_cases c4 : a1 < 1
    · rw [if_pos c4] at H
      have c4b0 : decide (a1 < 1) = true := decide_eq_true c4
      clear c4
      (first | rw [c4b0] | (simp only [i64_w, i32_w]; rw [c4b0]) | skip)
      have H' := Aside0.mk H
      clear H
      go_wp2
      go_meet
      case rel => exact ⟨_, (true), (by first | rfl | (simp; done) | (simp [*]; done)), H', ⟨by first | omega | exact Nat.le_refl _⟩, by repeat (first | exact Drawn0.refl _ | apply Drawn0.step)⟩
    · rw [if_neg c4] at H
      have c4b0 : decide (a1 < 1) = false := decide_eq_false c4
      clear c4
      (first | rw [c4b0] | (simp only [i64_w, i32_w]; rw [c4b0]) | skip)
      have H' := Aside0.mk H
      clear H
      go_wp2
      go_meet
      case rel => exact ⟨_, (decide (a1 > 8)), (by first | rfl | (simp; done) | (simp [*]; done)), H', ⟨by first | omega | exact Nat.le_refl _⟩, by repeat (first | exact Drawn0.refl _ | apply Drawn0.step)⟩
  case rest =>
    clear HC3
    try clear c1
    try clear p2
    try clear c4
    try clear c4b0
    obtain ⟨kq, x15_2, rfl, HA, HJ2, ⟨mc2, rfl⟩⟩ := hcut
    cases kq with
    | zero => exact absurd HA.out (by simp [bywashref1_NumberGet.j0])
    | succ kj2 =>
      have H := HA.out
      clear HA
      simp only [bywashref1_NumberGet.j0] at H
      by_cases c5 : x15_2 = true
      · subst c5
        have H1 : (some (0, 0, 1)) = some (r1, r2, r3) := by rw [if_pos rfl] at H; exact H
        clear H
        have H := H1
        clear H1
        simp only [Option.some.injEq, Prod.mk.injEq] at H
        obtain ⟨rfl, rfl, rfl⟩ := H
        go_wp2
        go_ret3
        exact ⟨by first | rfl | (simp; done) | (simp [*]; done), by repeat (first | exact Drawn0.refl _ | apply Drawn0.step)⟩
      · replace c5 := Bool.eq_false_iff.mpr c5
        subst c5
        have H1 : (if a0.toList = ([] : List UInt8) then (some (0, 0, 2)) else (if 0 ≤ (IntKind.u64.wrap (a1)) then (if 0 < (a0.size : Int) then (if (Go.bits .and .i64 (wrap64 (bt a0 0)) (wrap64 ((shl .i64 1 (IntKind.u64.wrap (a1))) - 1))) < (wrap64 ((shl .i64 1 (IntKind.u64.wrap (a1))) - 1)) then (some (Go.bits .and .i64 (wrap64 (bt a0 0)) (wrap64 ((shl .i64 1 (IntKind.u64.wrap (a1))) - 1)), 1, 0)) else (bywashref1_NumberGet.l0 kj2 a0 (Go.bits .and .i64 (wrap64 (bt a0 0)) (wrap64 ((shl .i64 1 (IntKind.u64.wrap (a1))) - 1))) 1)) else (none)) else (none))) = some (r1, r2, r3) := by rw [if_neg (show ¬ (false = true) by decide)] at H; exact H
        clear H
        have H := H1
        clear H1
        by_cases c6 : a0.toList = ([] : List UInt8)
        · rw [if_pos c6] at H
          have c6b0 : (a0.toList == ([] : List UInt8)) = true := beq_iff_eq.mpr c6
          have c6b1 : (a0.toList != ([] : List UInt8)) = false := bne_eq_false_iff_eq.mpr c6
          clear c6
          simp only [Option.some.injEq, Prod.mk.injEq] at H
          obtain ⟨rfl, rfl, rfl⟩ := H
          go_wp2
          go_ret3
          exact ⟨by first | rfl | (simp; done) | (simp [*]; done), by repeat (first | exact Drawn0.refl _ | apply Drawn0.step)⟩
        · rw [if_neg c6] at H
          have c6b0 : (a0.toList == ([] : List UInt8)) = false := beq_eq_false_iff_ne.mpr c6
          have c6b1 : (a0.toList != ([] : List UInt8)) = true := bne_iff_ne.mpr c6
          obtain ⟨ji7, hji7⟩ : ∃ j_ : Int, (IntKind.u64.wrap (a1)) = j_ := ⟨_, rfl⟩
          replace H : (if 0 ≤ (ji7) then (if 0 < (a0.size : Int) then (if (Go.bits .and .i64 (wrap64 (bt a0 0)) (wrap64 ((shl .i64 1 (ji7)) - 1))) < (wrap64 ((shl .i64 1 (ji7)) - 1)) then (some (Go.bits .and .i64 (wrap64 (bt a0 0)) (wrap64 ((shl .i64 1 (ji7)) - 1)), 1, 0)) else (bywashref1_NumberGet.l0 kj2 a0 (Go.bits .and .i64 (wrap64 (bt a0 0)) (wrap64 ((shl .i64 1 (ji7)) - 1))) 1)) else (none)) else (none)) = some (r1, r2, r3) := by first | (rw [hji7] at H; exact H) | (simp only [hji7] at H ⊢; exact H)
          by_cases c8 : 0 ≤ (ji7)
          · rw [if_pos c8] at H
            have c8b0 := eq_true c8
            have c8b1 : decide (0 ≤ (ji7)) = true := decide_eq_true c8
            clear c8
            obtain ⟨ji9, hji9⟩ : ∃ j_ : Int, (shl .i64 1 (ji7)) = j_ := ⟨_, rfl⟩
            replace H : (if 0 < (a0.size : Int) then (if (Go.bits .and .i64 (wrap64 (bt a0 0)) (wrap64 ((ji9) - 1))) < (wrap64 ((ji9) - 1)) then (some (Go.bits .and .i64 (wrap64 (bt a0 0)) (wrap64 ((ji9) - 1)), 1, 0)) else (bywashref1_NumberGet.l0 kj2 a0 (Go.bits .and .i64 (wrap64 (bt a0 0)) (wrap64 ((ji9) - 1))) 1)) else (none)) = some (r1, r2, r3) := by first | (rw [hji9] at H; exact H) | (simp only [hji9] at H ⊢; exact H)
            have hji9_ : (IntKind.i64.wrap (1 * 2 ^ min (ji7).toNat 64)) = ji9 := hji9
            have hji9z : (ji7) ≤ 64 → (IntKind.i64.wrap (1 * 2 ^ (ji7).toNat)) = ji9 := shl_small hji9
            have hji9u : (IntKind.i64.wrap (2 ^ min (ji7).toNat 64)) = ji9 := by have h_ := hji9_; rw [Int.one_mul] at h_; exact h_
            have hji9v : (ji7) ≤ 64 → (IntKind.i64.wrap (2 ^ (ji7).toNat)) = ji9 := fun hle_ => by have h_ := hji9z hle_; rw [Int.one_mul] at h_; exact h_
            have hji9y : (wrap64 (1 * 2 ^ min (ji7).toNat 64)) = ji9 := (i64_w _).symm.trans hji9_
            have hji9x : (ji7) ≤ 64 → (wrap64 (1 * 2 ^ (ji7).toNat)) = ji9 := fun h_ => (i64_w _).symm.trans (hji9z h_)
            by_cases c10 : 0 < (a0.size : Int)
            · rw [if_pos c10] at H
              have c10b0 : decide (0 < (a0.size : Int)) = true := decide_eq_true c10
              have c10b1 : decide (0 < a0.size) = true := decide_eq_true (by omega)
              clear c10
              by_cases c12 : (Go.bits .and .i64 (wrap64 (bt a0 0)) (wrap64 ((ji9) - 1))) < (wrap64 ((ji9) - 1))
              · rw [if_pos c12] at H
                have c12b0 : decide ((Go.bits .and .i64 (wrap64 (bt a0 0)) (wrap64 ((ji9) - 1))) < (wrap64 ((ji9) - 1))) = true := decide_eq_true c12
                clear c12
                simp only [Option.some.injEq, Prod.mk.injEq] at H
                obtain ⟨rfl, rfl, rfl⟩ := H
                have p11 : 0 ≤ (0 : Int) := (by omega)
                have q11 : 0 < a0.size := (by have : (0 : Int) < (a0.size : Int) := of_decide_eq_true (by first | (with_reducible assumption) | assumption); omega)
                have hx11 : ∀ h : 0 < a0.size, ((a0[0]'h).toNat : Int) = bt a0 0 := bt_at a0 0
                clear p11
                have qi11 : (0 < (a0.size : Int)) = True := eq_true (of_decide_eq_true (by first | (with_reducible assumption) | assumption))
                replace q11 := eq_true q11
                go_wp2
                go_ret3
                exact ⟨by first | rfl | (simp; done) | (simp only [← hji7, ← hji9] <;> (first | rfl | simp)) | (simp [*]; done), by repeat (first | exact Drawn0.refl _ | apply Drawn0.step)⟩
              · rw [if_neg c12] at H
                have c12b0 : decide ((Go.bits .and .i64 (wrap64 (bt a0 0)) (wrap64 ((ji9) - 1))) < (wrap64 ((ji9) - 1))) = false := decide_eq_false c12
                clear c12
                have H' := Aside0.mk H
                clear H
                have p11 : 0 ≤ (0 : Int) := (by omega)
                have q11 : 0 < a0.size := (by have : (0 : Int) < (a0.size : Int) := of_decide_eq_true (by first | (with_reducible assumption) | assumption); omega)
                have hx11 : ∀ h : 0 < a0.size, ((a0[0]'h).toNat : Int) = bt a0 0 := bt_at a0 0
                clear p11
                have qi11 : (0 < (a0.size : Int)) = True := eq_true (of_decide_eq_true (by first | (with_reducible assumption) | assumption))
                replace q11 := eq_true q11
                go_wp2
                go_loopg [8, 9] kj2 (fun kq v8 v9 w' => ∃ (x8_2 : Int) (x9_2 : Int), v8 = .int .i64 x8_2 ∧ v9 = .int .i64 x9_2 ∧ Aside0 (bywashref1_NumberGet.l0 kq a0 x8_2 x9_2 = some (r1, r2, r3)) ∧ Aside0 (kq ≤ kj2) ∧ Drawn0 w w')
                case atStart => exact ⟨(Go.bits .and .i64 (wrap64 (bt a0 0)) (wrap64 ((ji9) - 1))), (1), (by first | rfl | (simp; done) | (simp only [← hji9] <;> (first | rfl | simp)) | (simp [*]; done)), (by first | rfl | (simp; done) | (simp [*]; done)), H', ⟨Nat.le_refl _⟩, by repeat (first | exact Drawn0.refl _ | apply Drawn0.step)⟩
                case round =>
                  clear H'
                  try clear c1
                  try clear p1
                  try clear q1
                  try clear hx1
                  try clear qi1
                  try clear c2
                  try clear p2
                  try clear c4
                  try clear c4b0
                  try clear c5
                  try clear c6
                  try clear c6b0
                  try clear c6b1
                  try clear p6
                  try clear c8
                  try clear c8b0
                  try clear c8b1
                  try clear c10
                  try clear c10b0
                  try clear c10b1
                  try clear p11
                  try clear q11
                  try clear hx11
                  try clear qi11
                  try clear c12
                  try clear c12b0
                  try clear p11
                  try clear p2
                  try clear q11
                  obtain ⟨x8_2, x9_2, rfl, rfl, HA, HK2, ⟨m2, rfl⟩⟩ := hrel
                  cases gk with
                  | zero => exact absurd HA.out (by simp [bywashref1_NumberGet.l0])
                  | succ k2 =>
                    have H := HA.out
                    clear HA
                    simp only [bywashref1_NumberGet.l0] at H
                    by_cases c13 : x9_2 > 5
                    · rw [if_pos c13] at H
                      have c13b0 : decide (5 < x9_2) = true := decide_eq_true c13
                      clear c13
                      simp only [Option.some.injEq, Prod.mk.injEq] at H
                      obtain ⟨rfl, rfl, rfl⟩ := H
                      go_wp2
                      go_ret3
                      exact ⟨by first | rfl | (simp; done) | (simp only [← hji7, ← hji9] <;> (first | rfl | simp)) | (simp [*]; done), by repeat (first | exact Drawn0.refl _ | apply Drawn0.step)⟩
                    · rw [if_neg c13] at H
                      have c13b0 : decide (5 < x9_2) = false := decide_eq_false c13
                      clear c13
                      by_cases c14 : x9_2 = (a0.size : Int)
                      · rw [if_pos c14] at H
                        have c14b0 : (x9_2 == (a0.size : Int)) = true := beq_iff_eq.mpr c14
                        have c14b1 : (x9_2 != (a0.size : Int)) = false := bne_eq_false_iff_eq.mpr c14
                        clear c14
                        simp only [Option.some.injEq, Prod.mk.injEq] at H
                        obtain ⟨rfl, rfl, rfl⟩ := H
                        go_wp2
                        go_ret3
                        exact ⟨by first | rfl | (simp; done) | (simp only [← hji7, ← hji9] <;> (first | rfl | simp)) | (simp [*]; done), by repeat (first | exact Drawn0.refl _ | apply Drawn0.step)⟩
                      · rw [if_neg c14] at H
                        have c14b0 : (x9_2 == (a0.size : Int)) = false := beq_eq_false_iff_ne.mpr c14
                        have c14b1 : (x9_2 != (a0.size : Int)) = true := bne_iff_ne.mpr c14
                        by_cases c15 : 0 ≤ x9_2
                        · rw [if_pos c15] at H
                          have c15b0 : decide (0 ≤ x9_2) = true := decide_eq_true c15
                          clear c15
                          by_cases c16 : x9_2 < (a0.size : Int)
                          · rw [if_pos c16] at H
                            have c16b0 : decide (x9_2 < (a0.size : Int)) = true := decide_eq_true c16
                            clear c16
                            obtain ⟨ji18, hji18⟩ : ∃ j_ : Int, (IntKind.u64.wrap (wrap64 (7 * (wrap64 (x9_2 - 1))))) = j_ := ⟨_, rfl⟩
                            replace H : (if 0 ≤ (ji18) then (if (wrap64 (x8_2 + (shl .i64 (wrap64 (Go.bits .and .u8 (bt a0 x9_2) 127)) (ji18)))) > 2147483647 then (bywashref1_NumberGet.j2 k2 a0 (wrap64 (x8_2 + (shl .i64 (wrap64 (Go.bits .and .u8 (bt a0 x9_2) 127)) (ji18)))) x9_2 true) else (if x9_2 = 5 then (bywashref1_NumberGet.j2 k2 a0 (wrap64 (x8_2 + (shl .i64 (wrap64 (Go.bits .and .u8 (bt a0 x9_2) 127)) (ji18)))) x9_2 (decide ((bt a0 x9_2) ≥ 128))) else (bywashref1_NumberGet.j2 k2 a0 (wrap64 (x8_2 + (shl .i64 (wrap64 (Go.bits .and .u8 (bt a0 x9_2) 127)) (ji18)))) x9_2 false))) else (none)) = some (r1, r2, r3) := by first | (rw [hji18] at H; exact H) | (simp only [hji18] at H ⊢; exact H)
                            by_cases c19 : 0 ≤ (ji18)
                            · rw [if_pos c19] at H
                              have c19b0 := eq_true c19
                              have c19b1 : decide (0 ≤ (ji18)) = true := decide_eq_true c19
                              clear c19
                              obtain ⟨ji20, hji20⟩ : ∃ j_ : Int, (shl .i64 (wrap64 (Go.bits .and .u8 (bt a0 x9_2) 127)) (ji18)) = j_ := ⟨_, rfl⟩
                              replace H : (if (wrap64 (x8_2 + (ji20))) > 2147483647 then (bywashref1_NumberGet.j2 k2 a0 (wrap64 (x8_2 + (ji20))) x9_2 true) else (if x9_2 = 5 then (bywashref1_NumberGet.j2 k2 a0 (wrap64 (x8_2 + (ji20))) x9_2 (decide ((bt a0 x9_2) ≥ 128))) else (bywashref1_NumberGet.j2 k2 a0 (wrap64 (x8_2 + (ji20))) x9_2 false))) = some (r1, r2, r3) := by first | (rw [hji20] at H; exact H) | (simp only [hji20] at H ⊢; exact H)
                              have hji20_ : (IntKind.i64.wrap ((wrap64 (Go.bits .and .u8 (bt a0 x9_2) 127)) * 2 ^ min (ji18).toNat 64)) = ji20 := hji20
                              have hji20z : (ji18) ≤ 64 → (IntKind.i64.wrap ((wrap64 (Go.bits .and .u8 (bt a0 x9_2) 127)) * 2 ^ (ji18).toNat)) = ji20 := shl_small hji20
                              have hji20y : (wrap64 ((wrap64 (Go.bits .and .u8 (bt a0 x9_2) 127)) * 2 ^ min (ji18).toNat 64)) = ji20 := (i64_w _).symm.trans hji20_
                              have hji20x : (ji18) ≤ 64 → (wrap64 ((wrap64 (Go.bits .and .u8 (bt a0 x9_2) 127)) * 2 ^ (ji18).toNat)) = ji20 := fun h_ => (i64_w _).symm.trans (hji20z h_)
                              have HC21 := Aside0.mk H
                              clear H
                              have p17 : 0 ≤ (x9_2 : Int) := of_decide_eq_true (by first | (with_reducible assumption) | assumption)
                              have q17 : x9_2 < (a0.size : Int) := of_decide_eq_true (by first | (with_reducible assumption) | assumption)
                              have hx17 := bt_at a0 x9_2
                              replace p17 := eq_true p17
                              replace q17 := eq_true q17
                              go_upto_region 16 with (fail)
                              go_cut [62] (fun v62 wc => ∃ (kq : Nat) (x62_20 : Bool), v62 = .bool x62_20 ∧ Aside0 (bywashref1_NumberGet.j2 kq a0 (wrap64 (x8_2 + (ji20))) x9_2 x62_20 = some (r1, r2, r3)) ∧ Aside0 (kq ≤ k2) ∧ Drawn0 w wc)
                              case first =>
                                have H := HC21.out
                                clear HC21
                                by_cases c22 : (wrap64 (x8_2 + (ji20))) > 2147483647
                                · rw [if_pos c22] at H
                                  have c22b0 : decide (2147483647 < (wrap64 (x8_2 + (ji20)))) = true := decide_eq_true c22
                                  clear c22
                                  (first | rw [c22b0] | (simp only [i64_w, i32_w]; rw [c22b0]) | skip)
                                  have H' := Aside0.mk H
                                  clear H
                                  go_wp2
                                  go_meet
                                  case rel => exact ⟨_, (true), (by first | rfl | (simp; done) | (simp [*]; done)), H', ⟨by have := HJ2.out; have := HK2.out; first | omega | exact Nat.le_refl _⟩, by repeat (first | exact Drawn0.refl _ | apply Drawn0.step)⟩
                                · rw [if_neg c22] at H
                                  have c22b0 : decide (2147483647 < (wrap64 (x8_2 + (ji20)))) = false := decide_eq_false c22
                                  clear c22
                                  (first | rw [c22b0] | (simp only [i64_w, i32_w]; rw [c22b0]) | skip)
                                  by_cases c23 : x9_2 = 5
                                  · rw [if_pos c23] at H
                                    have c23b0 : (x9_2 == 5) = true := beq_iff_eq.mpr c23
                                    have c23b1 : (x9_2 != 5) = false := bne_eq_false_iff_eq.mpr c23
                                    clear c23
                                    have H' := Aside0.mk H
                                    clear H
                                    have p24 : 0 ≤ (x9_2 : Int) := of_decide_eq_true (by first | (with_reducible assumption) | assumption)
                                    have q24 : x9_2 < (a0.size : Int) := of_decide_eq_true (by first | (with_reducible assumption) | assumption)
                                    have hx24 := bt_at a0 x9_2
                                    replace p24 := eq_true p24
                                    replace q24 := eq_true q24
                                    go_wp2
                                    go_meet
                                    case rel => exact ⟨_, (decide ((bt a0 x9_2) ≥ 128)), (by first | rfl | (simp; done) | (simp [*]; done)), H', ⟨by have := HJ2.out; have := HK2.out; first | omega | exact Nat.le_refl _⟩, by repeat (first | exact Drawn0.refl _ | apply Drawn0.step)⟩
                                  · rw [if_neg c23] at H
                                    have c23b0 : (x9_2 == 5) = false := beq_eq_false_iff_ne.mpr c23
                                    have c23b1 : (x9_2 != 5) = true := bne_iff_ne.mpr c23
                                    have H' := Aside0.mk H
                                    clear H
                                    go_wp2
                                    go_meet
                                    case rel => exact ⟨_, (false), (by first | rfl | (simp; done) | (simp [*]; done)), H', ⟨by have := HJ2.out; have := HK2.out; first | omega | exact Nat.le_refl _⟩, by repeat (first | exact Drawn0.refl _ | apply Drawn0.step)⟩
                              case rest =>
                                clear HC21
                                try clear c1
                                try clear p1
                                try clear q1
                                try clear hx1
                                try clear qi1
                                try clear c2
                                try clear p2
                                try clear q2
                                try clear hx2
                                try clear c4
                                try clear c4b0
                                try clear c5
                                try clear c6
                                try clear c6b0
                                try clear c6b1
                                try clear p6
                                try clear c8
                                try clear c8b0
                                try clear c8b1
                                try clear c10
                                try clear c10b0
                                try clear c10b1
                                try clear p11
                                try clear q11
                                try clear hx11
                                try clear qi11
                                try clear c12
                                try clear c12b0
                                try clear c13
                                try clear c13b0
                                try clear c14
                                try clear c14b0
                                try clear c14b1
                                try clear c15
                                try clear c15b0
                                try clear c16
                                try clear c16b0
                                try clear p17
                                try clear q17
                                try clear hx17
                                try clear c19
                                try clear c19b0
                                try clear c19b1
                                try clear c22
                                try clear c22b0
                                try clear c23
                                try clear c23b0
                                try clear c23b1
                                try clear p24
                                try clear q24
                                try clear hx24
                                try clear p1
                                try clear p11
                                try clear p17
                                try clear p2
                                try clear p24
                                try clear p6
                                try clear q1
                                try clear q11
                                try clear q17
                                try clear q24
                                obtain ⟨kq, x62_20, rfl, HA, HJ20, ⟨mc20, rfl⟩⟩ := hcut
                                cases kq with
                                | zero => exact absurd HA.out (by simp [bywashref1_NumberGet.j2])
                                | succ kj20 =>
                                  have H := HA.out
                                  clear HA
                                  simp only [bywashref1_NumberGet.j2] at H
                                  by_cases c25 : x62_20 = true
                                  · subst c25
                                    have H1 : (some (0, 0, 4)) = some (r1, r2, r3) := by rw [if_pos rfl] at H; exact H
                                    clear H
                                    have H := H1
                                    clear H1
                                    simp only [Option.some.injEq, Prod.mk.injEq] at H
                                    obtain ⟨rfl, rfl, rfl⟩ := H
                                    go_wp2
                                    go_ret3
                                    exact ⟨by first | rfl | (simp; done) | (simp only [← hji7, ← hji9, ← hji18, ← hji20] <;> (first | rfl | simp)) | (simp [*]; done), by repeat (first | exact Drawn0.refl _ | apply Drawn0.step)⟩
                                  · replace c25 := Bool.eq_false_iff.mpr c25
                                    subst c25
                                    have H1 : (if 0 ≤ x9_2 then (if x9_2 < (a0.size : Int) then (if (bt a0 x9_2) < 128 then (some ((wrap64 (x8_2 + (ji20))), wrap64 (x9_2 + 1), 0)) else (bywashref1_NumberGet.l0 kj20 a0 (wrap64 (x8_2 + (ji20))) (wrap64 (x9_2 + 1)))) else (none)) else (none)) = some (r1, r2, r3) := by rw [if_neg (show ¬ (false = true) by decide)] at H; exact H
                                    clear H
                                    have H := H1
                                    clear H1
                                    by_cases c26 : 0 ≤ x9_2
                                    · rw [if_pos c26] at H
                                      have c26b0 : decide (0 ≤ x9_2) = true := decide_eq_true c26
                                      clear c26
                                      by_cases c27 : x9_2 < (a0.size : Int)
                                      · rw [if_pos c27] at H
                                        have c27b0 : decide (x9_2 < (a0.size : Int)) = true := decide_eq_true c27
                                        clear c27
                                        by_cases c29 : (bt a0 x9_2) < 128
                                        · rw [if_pos c29] at H
                                          have c29b0 : decide ((bt a0 x9_2) < 128) = true := decide_eq_true c29
                                          clear c29
                                          simp only [Option.some.injEq, Prod.mk.injEq] at H
                                          obtain ⟨rfl, rfl, rfl⟩ := H
                                          have p28 : 0 ≤ (x9_2 : Int) := of_decide_eq_true (by first | (with_reducible assumption) | assumption)
                                          have q28 : x9_2 < (a0.size : Int) := of_decide_eq_true (by first | (with_reducible assumption) | assumption)
                                          have hx28 := bt_at a0 x9_2
                                          replace p28 := eq_true p28
                                          replace q28 := eq_true q28
                                          go_wp2
                                          go_ret3
                                          exact ⟨by first | rfl | (simp; done) | (simp only [← hji7, ← hji9, ← hji18, ← hji20] <;> (first | rfl | simp)) | (simp [*]; done), by repeat (first | exact Drawn0.refl _ | apply Drawn0.step)⟩
                                        · rw [if_neg c29] at H
                                          have c29b0 : decide ((bt a0 x9_2) < 128) = false := decide_eq_false c29
                                          clear c29
                                          have H' := Aside0.mk H
                                          clear H
                                          have p28 : 0 ≤ (x9_2 : Int) := of_decide_eq_true (by first | (with_reducible assumption) | assumption)
                                          have q28 : x9_2 < (a0.size : Int) := of_decide_eq_true (by first | (with_reducible assumption) | assumption)
                                          have hx28 := bt_at a0 x9_2
                                          replace p28 := eq_true p28
                                          replace q28 := eq_true q28
                                          go_wp2
                                          go_roundg kj20
                                          case measure => have := HJ2.out; have := HK2.out; have := HJ20.out; omega
                                          case rel => exact ⟨((wrap64 (x8_2 + (ji20)))), (wrap64 (x9_2 + 1)), (by first | rfl | (simp; done) | (simp only [← hji20] <;> (first | rfl | simp)) | (simp [*]; done)), (by first | rfl | (simp; done) | (simp [*]; done)), H', ⟨by have := HJ2.out; have := HK2.out; have := HJ20.out; omega⟩, by repeat (first | exact Drawn0.refl _ | apply Drawn0.step)⟩
                                      · rw [if_neg c27] at H
                                        exact absurd H (by simp)
                                    · rw [if_neg c26] at H
                                      exact absurd H (by simp)
                            · rw [if_neg c19] at H
                              exact absurd H (by simp)
                          · rw [if_neg c16] at H
                            exact absurd H (by simp)
                        · rw [if_neg c15] at H
                          exact absurd H (by simp)
            · rw [if_neg c10] at H
              exact absurd H (by simp)
          · rw [if_neg c8] at H
            exact absurd H (by simp)

end Go.Proofs.Ytmglfnphkngfdaa.PVarintTells
