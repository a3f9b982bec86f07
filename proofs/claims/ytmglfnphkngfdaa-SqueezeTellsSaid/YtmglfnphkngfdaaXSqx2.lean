-- Printed by wip/tools/xprint.py of this claim's session: the kit's print over contracts of its own.
import Derived.Test.YtmglfnphkngfdaaXSqx0
import Derived.Test.YtmglfnphkngfdaaXSqx1
namespace Go.Proofs.Ytmglfnphkngfdaa.XSq
open Go.RowKit Go.Proofs.YtmglfnphkngfdaaW.PrintWords Go.Proofs.YtmglfnphkngfdaaW.PrintLast Go.Proofs.YtmglfnphkngfdaaW.PrintMore
attribute [local go_sem] max2_int min2_int max_two min_two max_three min_three max_four min_four   -- for this text's walks alone
set_option linter.unusedVariables false
set_option linter.unusedSimpArgs false

/-! ### squeeze_next: function 29 -/
mutual
def squeeze_next.j0 : Nat → ByteArray → Int → Int → Bool → Option (Int × Int)
  | 0, _, _, _, _ => none
  | k + 1, x0, x1, x6, x23 => if x23 = true then (if 0 ≤ x6 then (if x6 < 16 then (some (bt (⟨#[48, 49, 50, 51, 52, 53, 54, 55, 56, 57, 97, 101, 105, 111, 115, 116]⟩ : ByteArray) x6, 5)) else (none)) else (none)) else ((squeeze_look.f k x0 x1 7).bind fun bt114 => (if bt114.2 = true then (if bt114.1 ≥ 64 then (squeeze_next.j1 k x0 x1 bt114.1 (decide (bt114.1 < 96))) else (squeeze_next.j1 k x0 x1 bt114.1 false)) else (squeeze_next.j1 k x0 x1 bt114.1 false)))
def squeeze_next.j1 : Nat → ByteArray → Int → Int → Bool → Option (Int × Int)
  | 0, _, _, _, _ => none
  | k + 1, x0, x1, x8, x40 => if x40 = true then (if 0 ≤ (wrap64 (x8 - 64)) then (if (wrap64 (x8 - 64)) < 32 then (some (bt (⟨#[32, 33, 37, 38, 40, 41, 42, 43, 44, 45, 46, 47, 58, 59, 61, 63, 64, 95, 98, 99, 100, 102, 103, 104, 108, 109, 110, 112, 114, 117, 118, 119]⟩ : ByteArray) (wrap64 (x8 - 64)), 7)) else (none)) else (none)) else ((squeeze_look.f k x0 x1 10).bind fun bt116 => (if bt116.2 = true then (squeeze_next.j2 k bt116.1 (decide (bt116.1 < 768))) else (squeeze_next.j2 k bt116.1 true)))
def squeeze_next.j2 : Nat → Int → Bool → Option (Int × Int)
  | 0, _, _ => none
  | k + 1, x10, x55 => if x55 = true then (some (0, 0)) else (squeeze_next.l0 k x10 0)
def squeeze_next.l0 : Nat → Int → Int → Option (Int × Int)
  | 0, _, _ => none
  | k + 1, x10, x56 => if x56 < 256 then ((strings_IndexByte.f (⟨#[48, 49, 50, 51, 52, 53, 54, 55, 56, 57, 97, 101, 105, 111, 115, 116]⟩ : ByteArray) ((x56) % 256)).bind fun t118 => (if t118 ≥ 0 then (squeeze_next.j4 k x10 x56 x56 true) else ((strings_IndexByte.f (⟨#[32, 33, 37, 38, 40, 41, 42, 43, 44, 45, 46, 47, 58, 59, 61, 63, 64, 95, 98, 99, 100, 102, 103, 104, 108, 109, 110, 112, 114, 117, 118, 119]⟩ : ByteArray) ((x56) % 256)).bind fun t119 => (squeeze_next.j4 k x10 x56 x56 (decide (t119 ≥ 0)))))) else (some (0, 0))
def squeeze_next.j4 : Nat → Int → Int → Int → Bool → Option (Int × Int)
  | 0, _, _, _, _ => none
  | k + 1, x10, x12, x56, x68 => if x68 = true then (squeeze_next.l0 k x10 (wrap64 (x56 + 1))) else (if x10 = 768 then (some ((x12) % 256, 10)) else (squeeze_next.l0 k (wrap64 (x10 - 1)) (wrap64 (x56 + 1))))
end
def squeeze_next.f (k : Nat) (a0 : ByteArray) (a1 : Int) : Option (Int × Int) := (squeeze_look.f k a0 a1 5).bind fun bt112 => (if bt112.2 = true then (squeeze_next.j0 k a0 a1 bt112.1 (decide (bt112.1 < 16))) else (squeeze_next.j0 k a0 a1 bt112.1 false))
theorem squeeze_next.mono_l : ∀ k, (∀ y0 y1 y2 y3, LeO (squeeze_next.j0 k y0 y1 y2 y3) (squeeze_next.j0 (k + 1) y0 y1 y2 y3)) ∧ (∀ y0 y1 y2 y3, LeO (squeeze_next.j1 k y0 y1 y2 y3) (squeeze_next.j1 (k + 1) y0 y1 y2 y3)) ∧ (∀ y0 y1, LeO (squeeze_next.j2 k y0 y1) (squeeze_next.j2 (k + 1) y0 y1)) ∧ (∀ y0 y1, LeO (squeeze_next.l0 k y0 y1) (squeeze_next.l0 (k + 1) y0 y1)) ∧ (∀ y0 y1 y2 y3, LeO (squeeze_next.j4 k y0 y1 y2 y3) (squeeze_next.j4 (k + 1) y0 y1 y2 y3))
  | 0 => ⟨fun _ _ _ _ r h => by simp [squeeze_next.j0] at h, fun _ _ _ _ r h => by simp [squeeze_next.j1] at h, fun _ _ r h => by simp [squeeze_next.j2] at h, fun _ _ r h => by simp [squeeze_next.l0] at h, fun _ _ _ _ r h => by simp [squeeze_next.j4] at h⟩
  | k + 1 => by
    obtain ⟨ih0, ih1, ih2, ih3, ih4⟩ := squeeze_next.mono_l k
    refine ⟨?_, ?_, ?_, ?_, ?_⟩
    · intro y0 y1 y2 y3
      unfold squeeze_next.j0
      repeat' first
      | (with_reducible exact ih0 _ _ _ _)
      | (with_reducible exact ih1 _ _ _ _)
      | (with_reducible exact ih2 _ _)
      | (with_reducible exact ih3 _ _)
      | (with_reducible exact ih4 _ _ _ _)
      | (with_reducible exact squeeze_look.mono _ _ _ _)
      | (with_reducible exact LeO.refl _)
      | (with_reducible exact LeO.none _)
      | (with_reducible refine LeO.ite ?_ ?_)
      | (with_reducible refine LeO.bind ?_ (fun _ => ?_))
      | exact ih0 _ _ _ _
      | exact ih1 _ _ _ _
      | exact ih2 _ _
      | exact ih3 _ _
      | exact ih4 _ _ _ _
      | exact squeeze_look.mono _ _ _ _
      | exact LeO.none _
      | refine LeO.ite ?_ ?_
      | refine LeO.bind ?_ (fun _ => ?_)
    · intro y0 y1 y2 y3
      unfold squeeze_next.j1
      repeat' first
      | (with_reducible exact ih0 _ _ _ _)
      | (with_reducible exact ih1 _ _ _ _)
      | (with_reducible exact ih2 _ _)
      | (with_reducible exact ih3 _ _)
      | (with_reducible exact ih4 _ _ _ _)
      | (with_reducible exact squeeze_look.mono _ _ _ _)
      | (with_reducible exact LeO.refl _)
      | (with_reducible exact LeO.none _)
      | (with_reducible refine LeO.ite ?_ ?_)
      | (with_reducible refine LeO.bind ?_ (fun _ => ?_))
      | exact ih0 _ _ _ _
      | exact ih1 _ _ _ _
      | exact ih2 _ _
      | exact ih3 _ _
      | exact ih4 _ _ _ _
      | exact squeeze_look.mono _ _ _ _
      | exact LeO.none _
      | refine LeO.ite ?_ ?_
      | refine LeO.bind ?_ (fun _ => ?_)
    · intro y0 y1
      unfold squeeze_next.j2
      repeat' first
      | (with_reducible exact ih0 _ _ _ _)
      | (with_reducible exact ih1 _ _ _ _)
      | (with_reducible exact ih2 _ _)
      | (with_reducible exact ih3 _ _)
      | (with_reducible exact ih4 _ _ _ _)
      | (with_reducible exact squeeze_look.mono _ _ _ _)
      | (with_reducible exact LeO.refl _)
      | (with_reducible exact LeO.none _)
      | (with_reducible refine LeO.ite ?_ ?_)
      | (with_reducible refine LeO.bind ?_ (fun _ => ?_))
      | exact ih0 _ _ _ _
      | exact ih1 _ _ _ _
      | exact ih2 _ _
      | exact ih3 _ _
      | exact ih4 _ _ _ _
      | exact squeeze_look.mono _ _ _ _
      | exact LeO.none _
      | refine LeO.ite ?_ ?_
      | refine LeO.bind ?_ (fun _ => ?_)
    · intro y0 y1
      unfold squeeze_next.l0
      repeat' first
      | (with_reducible exact ih0 _ _ _ _)
      | (with_reducible exact ih1 _ _ _ _)
      | (with_reducible exact ih2 _ _)
      | (with_reducible exact ih3 _ _)
      | (with_reducible exact ih4 _ _ _ _)
      | (with_reducible exact squeeze_look.mono _ _ _ _)
      | (with_reducible exact LeO.refl _)
      | (with_reducible exact LeO.none _)
      | (with_reducible refine LeO.ite ?_ ?_)
      | (with_reducible refine LeO.bind ?_ (fun _ => ?_))
      | exact ih0 _ _ _ _
      | exact ih1 _ _ _ _
      | exact ih2 _ _
      | exact ih3 _ _
      | exact ih4 _ _ _ _
      | exact squeeze_look.mono _ _ _ _
      | exact LeO.none _
      | refine LeO.ite ?_ ?_
      | refine LeO.bind ?_ (fun _ => ?_)
    · intro y0 y1 y2 y3
      unfold squeeze_next.j4
      repeat' first
      | (with_reducible exact ih0 _ _ _ _)
      | (with_reducible exact ih1 _ _ _ _)
      | (with_reducible exact ih2 _ _)
      | (with_reducible exact ih3 _ _)
      | (with_reducible exact ih4 _ _ _ _)
      | (with_reducible exact squeeze_look.mono _ _ _ _)
      | (with_reducible exact LeO.refl _)
      | (with_reducible exact LeO.none _)
      | (with_reducible refine LeO.ite ?_ ?_)
      | (with_reducible refine LeO.bind ?_ (fun _ => ?_))
      | exact ih0 _ _ _ _
      | exact ih1 _ _ _ _
      | exact ih2 _ _
      | exact ih3 _ _
      | exact ih4 _ _ _ _
      | exact squeeze_look.mono _ _ _ _
      | exact LeO.none _
      | refine LeO.ite ?_ ?_
      | refine LeO.bind ?_ (fun _ => ?_)
theorem squeeze_next.mono : ∀ a0 a1 k, LeO (squeeze_next.f k a0 a1) (squeeze_next.f (k + 1) a0 a1) := by
  intro a0 a1 k
  obtain ⟨ih0, ih1, ih2, ih3, ih4⟩ := squeeze_next.mono_l k
  unfold squeeze_next.f
  repeat' first
      | (with_reducible exact ih0 _ _ _ _)
      | (with_reducible exact ih1 _ _ _ _)
      | (with_reducible exact ih2 _ _)
      | (with_reducible exact ih3 _ _)
      | (with_reducible exact ih4 _ _ _ _)
      | (with_reducible exact squeeze_look.mono _ _ _ _)
      | (with_reducible exact LeO.refl _)
      | (with_reducible exact LeO.none _)
      | (with_reducible refine LeO.ite ?_ ?_)
      | (with_reducible refine LeO.bind ?_ (fun _ => ?_))
      | exact ih0 _ _ _ _
      | exact ih1 _ _ _ _
      | exact ih2 _ _
      | exact ih3 _ _
      | exact ih4 _ _ _ _
      | exact squeeze_look.mono _ _ _ _
      | exact LeO.none _
      | refine LeO.ite ?_ ?_
      | refine LeO.bind ?_ (fun _ => ?_)
set_option maxHeartbeats 8000000 in
set_option maxRecDepth 100000 in
theorem squeeze_next.calls (k : Nat) (a0 : ByteArray) (a1 : Int) (r1 : Int) (r2 : Int) (w : World) (h : squeeze_next.f k a0 a1 = some (r1, r2)) :
    Calls Try.prog 29 #[.string a0, .int .i64 a1] w fun e w' => e = .returned (.tuple #[.int .u8 r1, .int .i64 r2]) ∧ Drawn0 w w' := by
  have H : ((squeeze_look.f k a0 a1 5).bind fun bt112 => (if bt112.2 = true then (squeeze_next.j0 k a0 a1 bt112.1 (decide (bt112.1 < 16))) else (squeeze_next.j0 k a0 a1 bt112.1 false))) = some (r1, r2) := h
  clear h
  replace H := Option.bind_eq_some_iff.mp H
  obtain ⟨⟨t112, t113⟩, A30, H⟩ := H
  replace H : (if t113 = true then (squeeze_next.j0 k a0 a1 t112 (decide (t112 < 16))) else (squeeze_next.j0 k a0 a1 t112 false)) = some (r1, r2) := H
  have A3 := Aside0.mk A30
  clear A30
  have HC4 := Aside0.mk H
  clear H
  go_enter Try.func29, Try.ntmps29
  go_upto_region 2 with (first | ((with_reducible refine gate_callee (f := 30) rfl ?_); refine goesL_ (some 16) rfl rfl Try.func30 (by kernel_rfl) rfl #[.string a0, .int .i64 a1, .int .i64 5] rfl (by (try simp only [List.map_toArray, List.map_cons, List.map_nil]); first | done | rfl | (simp only [List.length_drop, List.length_take]; rfl)) ?_; (with_reducible refine (squeeze_look.calls k a0 a1 5 t112 t113 _ A3.out).mono ?_); rintro e w' ⟨rfl, ⟨nd, rfl⟩⟩; refine ⟨_, rfl, ?_⟩))
  (try simp only [Act.put, List.setIfInBounds_toArray, List.set_cons_zero, List.set_cons_succ])
  go_cut [23] (fun v23 wc => ∃ (kq : Nat) (x23_3 : Bool), v23 = .bool x23_3 ∧ Aside0 (squeeze_next.j0 kq a0 a1 t112 x23_3 = some (r1, r2)) ∧ Aside0 (kq ≤ k) ∧ Drawn0 w wc)
  case first =>
    have H := HC4.out
    clear HC4
    by_cases c5 : t113 = true
    · subst c5
      have H1 : (squeeze_next.j0 k a0 a1 t112 (decide (t112 < 16))) = some (r1, r2) := by rw [if_pos rfl] at H; exact H
      clear H
      have H := H1
      clear H1
      have H' := Aside0.mk H
      clear H
      go_wp2
      go_meet
      case rel => exact ⟨_, (decide (t112 < 16)), (by first | rfl | (simp; done) | (simp [*]; done)), H', ⟨by first | omega | exact Nat.le_refl _⟩, by repeat (first | exact Drawn0.refl _ | apply Drawn0.step)⟩
    · replace c5 := Bool.eq_false_iff.mpr c5
      subst c5
      have H1 : (squeeze_next.j0 k a0 a1 t112 false) = some (r1, r2) := by rw [if_neg (show ¬ (false = true) by decide)] at H; exact H
      clear H
      have H := H1
      clear H1
      have H' := Aside0.mk H
      clear H
      go_wp2
      go_meet
      case rel => exact ⟨_, (false), (by first | rfl | (simp; done) | (simp [*]; done)), H', ⟨by first | omega | exact Nat.le_refl _⟩, by repeat (first | exact Drawn0.refl _ | apply Drawn0.step)⟩
  case rest =>
    clear HC4
    try clear c2
    try clear p2
    try clear c3
    try clear c5
    obtain ⟨kq, x23_3, rfl, HA, HJ3, ⟨mc3, rfl⟩⟩ := hcut
    cases kq with
    | zero => exact absurd HA.out (by simp [squeeze_next.j0])
    | succ kj3 =>
      have H := HA.out
      clear HA
      simp only [squeeze_next.j0] at H
      by_cases c6 : x23_3 = true
      · subst c6
        have H1 : (if 0 ≤ t112 then (if t112 < 16 then (some (bt (⟨#[48, 49, 50, 51, 52, 53, 54, 55, 56, 57, 97, 101, 105, 111, 115, 116]⟩ : ByteArray) t112, 5)) else (none)) else (none)) = some (r1, r2) := by rw [if_pos rfl] at H; exact H
        clear H
        have H := H1
        clear H1
        by_cases c7 : 0 ≤ t112
        · rw [if_pos c7] at H
          have c7b0 : decide (0 ≤ t112) = true := decide_eq_true c7
          clear c7
          by_cases c8 : t112 < 16
          · rw [if_pos c8] at H
            have c8b0 : decide (t112 < 16) = true := decide_eq_true c8
            clear c8
            simp only [Option.some.injEq, Prod.mk.injEq] at H
            obtain ⟨rfl, rfl⟩ := H
            have p9 : 0 ≤ (t112 : Int) := of_decide_eq_true (by first | (with_reducible assumption) | assumption)
            have q9 : t112 < (16 : Int) := of_decide_eq_true (by first | (with_reducible assumption) | assumption)
            have hx9 := bt_at (⟨#[48, 49, 50, 51, 52, 53, 54, 55, 56, 57, 97, 101, 105, 111, 115, 116]⟩ : ByteArray) t112
            replace p9 := eq_true p9
            replace q9 := eq_true q9
            go_wp2
            go_ret2
            exact ⟨by first | rfl | (simp; done) | (simp [*]; done), by repeat (first | exact Drawn0.refl _ | apply Drawn0.step)⟩
          · rw [if_neg c8] at H
            exact absurd H (by simp)
        · rw [if_neg c7] at H
          exact absurd H (by simp)
      · replace c6 := Bool.eq_false_iff.mpr c6
        subst c6
        have H1 : ((squeeze_look.f kj3 a0 a1 7).bind fun bt114 => (if bt114.2 = true then (if bt114.1 ≥ 64 then (squeeze_next.j1 kj3 a0 a1 bt114.1 (decide (bt114.1 < 96))) else (squeeze_next.j1 kj3 a0 a1 bt114.1 false)) else (squeeze_next.j1 kj3 a0 a1 bt114.1 false))) = some (r1, r2) := by rw [if_neg (show ¬ (false = true) by decide)] at H; exact H
        clear H
        have H := H1
        clear H1
        replace H := Option.bind_eq_some_iff.mp H
        obtain ⟨⟨t114, t115⟩, A100, H⟩ := H
        replace H : (if t115 = true then (if t114 ≥ 64 then (squeeze_next.j1 kj3 a0 a1 t114 (decide (t114 < 96))) else (squeeze_next.j1 kj3 a0 a1 t114 false)) else (squeeze_next.j1 kj3 a0 a1 t114 false)) = some (r1, r2) := H
        have A10 := Aside0.mk A100
        clear A100
        have HC11 := Aside0.mk H
        clear H
        go_upto_region 5 with (first | ((with_reducible refine gate_callee (f := 30) rfl ?_); refine goesL_ (some 29) rfl rfl Try.func30 (by kernel_rfl) rfl #[.string a0, .int .i64 a1, .int .i64 7] rfl (by (try simp only [List.map_toArray, List.map_cons, List.map_nil]); first | done | rfl | (simp only [List.length_drop, List.length_take]; rfl)) ?_; (with_reducible refine (squeeze_look.calls kj3 a0 a1 7 t114 t115 _ A10.out).mono ?_); rintro e w' ⟨rfl, ⟨nd, rfl⟩⟩; refine ⟨_, rfl, ?_⟩))
        (try simp only [Act.put, List.setIfInBounds_toArray, List.set_cons_zero, List.set_cons_succ])
        go_cut [40] (fun v40 wc => ∃ (kq : Nat) (x40_10 : Bool), v40 = .bool x40_10 ∧ Aside0 (squeeze_next.j1 kq a0 a1 t114 x40_10 = some (r1, r2)) ∧ Aside0 (kq ≤ kj3) ∧ Drawn0 w wc)
        case first =>
          have H := HC11.out
          clear HC11
          by_cases c12 : t115 = true
          · subst c12
            have H1 : (if t114 ≥ 64 then (squeeze_next.j1 kj3 a0 a1 t114 (decide (t114 < 96))) else (squeeze_next.j1 kj3 a0 a1 t114 false)) = some (r1, r2) := by rw [if_pos rfl] at H; exact H
            clear H
            have H := H1
            clear H1
            by_cases c13 : t114 ≥ 64
            · rw [if_pos c13] at H
              have c13b0 : decide (64 ≤ t114) = true := decide_eq_true c13
              clear c13
              (first | rw [c13b0] | (simp only [i64_w, i32_w]; rw [c13b0]) | skip)
              have H' := Aside0.mk H
              clear H
              go_wp2
              go_meet
              case rel => exact ⟨_, (decide (t114 < 96)), (by first | rfl | (simp; done) | (simp [*]; done)), H', ⟨by have := HJ3.out; first | omega | exact Nat.le_refl _⟩, by repeat (first | exact Drawn0.refl _ | apply Drawn0.step)⟩
            · rw [if_neg c13] at H
              have c13b0 : decide (64 ≤ t114) = false := decide_eq_false c13
              clear c13
              (first | rw [c13b0] | (simp only [i64_w, i32_w]; rw [c13b0]) | skip)
              have H' := Aside0.mk H
              clear H
              go_wp2
              go_meet
              case rel => exact ⟨_, (false), (by first | rfl | (simp; done) | (simp [*]; done)), H', ⟨by have := HJ3.out; first | omega | exact Nat.le_refl _⟩, by repeat (first | exact Drawn0.refl _ | apply Drawn0.step)⟩
          · replace c12 := Bool.eq_false_iff.mpr c12
            subst c12
            have H1 : (squeeze_next.j1 kj3 a0 a1 t114 false) = some (r1, r2) := by rw [if_neg (show ¬ (false = true) by decide)] at H; exact H
            clear H
            have H := H1
            clear H1
            have H' := Aside0.mk H
            clear H
            go_wp2
            go_meet
            case rel => exact ⟨_, (false), (by first | rfl | (simp; done) | (simp [*]; done)), H', ⟨by have := HJ3.out; first | omega | exact Nat.le_refl _⟩, by repeat (first | exact Drawn0.refl _ | apply Drawn0.step)⟩
        case rest =>
          clear HC11
          try clear c1
          try clear c2
          try clear p2
          try clear c3
          try clear c5
          try clear c6
          try clear c7
          try clear c7b0
          try clear c8
          try clear c8b0
          try clear p9
          try clear q9
          try clear hx9
          try clear c12
          try clear c13
          try clear c13b0
          try clear p2
          try clear p9
          try clear q9
          obtain ⟨kq, x40_10, rfl, HA, HJ10, ⟨mc10, rfl⟩⟩ := hcut
          cases kq with
          | zero => exact absurd HA.out (by simp [squeeze_next.j1])
          | succ kj10 =>
            have H := HA.out
            clear HA
            simp only [squeeze_next.j1] at H
            by_cases c14 : x40_10 = true
            · subst c14
              have H1 : (if 0 ≤ (wrap64 (t114 - 64)) then (if (wrap64 (t114 - 64)) < 32 then (some (bt (⟨#[32, 33, 37, 38, 40, 41, 42, 43, 44, 45, 46, 47, 58, 59, 61, 63, 64, 95, 98, 99, 100, 102, 103, 104, 108, 109, 110, 112, 114, 117, 118, 119]⟩ : ByteArray) (wrap64 (t114 - 64)), 7)) else (none)) else (none)) = some (r1, r2) := by rw [if_pos rfl] at H; exact H
              clear H
              have H := H1
              clear H1
              obtain ⟨ji15, hji15⟩ : ∃ j_ : Int, (wrap64 (t114 - 64)) = j_ := ⟨_, rfl⟩
              replace H : (if 0 ≤ (ji15) then (if (ji15) < 32 then (some (bt (⟨#[32, 33, 37, 38, 40, 41, 42, 43, 44, 45, 46, 47, 58, 59, 61, 63, 64, 95, 98, 99, 100, 102, 103, 104, 108, 109, 110, 112, 114, 117, 118, 119]⟩ : ByteArray) (ji15), 7)) else (none)) else (none)) = some (r1, r2) := by first | (rw [hji15] at H; exact H) | (simp only [hji15] at H ⊢; exact H)
              have hji15w : (IntKind.i64.wrap (t114 - 64)) = ji15 := (i64_w _).trans hji15
              by_cases c16 : 0 ≤ (ji15)
              · rw [if_pos c16] at H
                have c16b0 : decide (0 ≤ (ji15)) = true := decide_eq_true c16
                clear c16
                by_cases c17 : (ji15) < 32
                · rw [if_pos c17] at H
                  have c17b0 : decide ((ji15) < 32) = true := decide_eq_true c17
                  clear c17
                  simp only [Option.some.injEq, Prod.mk.injEq] at H
                  obtain ⟨rfl, rfl⟩ := H
                  have p18 : 0 ≤ ((ji15) : Int) := of_decide_eq_true (by first | (with_reducible assumption) | assumption)
                  have q18 : (ji15) < (32 : Int) := of_decide_eq_true (by first | (with_reducible assumption) | assumption)
                  have hx18 := bt_at (⟨#[32, 33, 37, 38, 40, 41, 42, 43, 44, 45, 46, 47, 58, 59, 61, 63, 64, 95, 98, 99, 100, 102, 103, 104, 108, 109, 110, 112, 114, 117, 118, 119]⟩ : ByteArray) (ji15)
                  replace p18 := eq_true p18
                  replace q18 := eq_true q18
                  go_wp2
                  go_ret2
                  exact ⟨by first | rfl | (simp; done) | (simp only [← hji15] <;> (first | rfl | simp)) | (simp [*]; done), by repeat (first | exact Drawn0.refl _ | apply Drawn0.step)⟩
                · rw [if_neg c17] at H
                  exact absurd H (by simp)
              · rw [if_neg c16] at H
                exact absurd H (by simp)
            · replace c14 := Bool.eq_false_iff.mpr c14
              subst c14
              have H1 : ((squeeze_look.f kj10 a0 a1 10).bind fun bt116 => (if bt116.2 = true then (squeeze_next.j2 kj10 bt116.1 (decide (bt116.1 < 768))) else (squeeze_next.j2 kj10 bt116.1 true))) = some (r1, r2) := by rw [if_neg (show ¬ (false = true) by decide)] at H; exact H
              clear H
              have H := H1
              clear H1
              replace H := Option.bind_eq_some_iff.mp H
              obtain ⟨⟨t116, t117⟩, A190, H⟩ := H
              replace H : (if t117 = true then (squeeze_next.j2 kj10 t116 (decide (t116 < 768))) else (squeeze_next.j2 kj10 t116 true)) = some (r1, r2) := H
              have A19 := Aside0.mk A190
              clear A190
              have HC20 := Aside0.mk H
              clear H
              go_upto_region 8 with (first | ((with_reducible refine gate_callee (f := 30) rfl ?_); refine goesL_ (some 47) rfl rfl Try.func30 (by kernel_rfl) rfl #[.string a0, .int .i64 a1, .int .i64 10] rfl (by (try simp only [List.map_toArray, List.map_cons, List.map_nil]); first | done | rfl | (simp only [List.length_drop, List.length_take]; rfl)) ?_; (with_reducible refine (squeeze_look.calls kj10 a0 a1 10 t116 t117 _ A19.out).mono ?_); rintro e w' ⟨rfl, ⟨nd, rfl⟩⟩; refine ⟨_, rfl, ?_⟩))
              (try simp only [Act.put, List.setIfInBounds_toArray, List.set_cons_zero, List.set_cons_succ])
              go_cut [55] (fun v55 wc => ∃ (kq : Nat) (x55_19 : Bool), v55 = .bool x55_19 ∧ Aside0 (squeeze_next.j2 kq t116 x55_19 = some (r1, r2)) ∧ Aside0 (kq ≤ kj10) ∧ Drawn0 w wc)
              case first =>
                have H := HC20.out
                clear HC20
                by_cases c21 : t117 = true
                · subst c21
                  have H1 : (squeeze_next.j2 kj10 t116 (decide (t116 < 768))) = some (r1, r2) := by rw [if_pos rfl] at H; exact H
                  clear H
                  have H := H1
                  clear H1
                  have H' := Aside0.mk H
                  clear H
                  go_wp2
                  go_meet
                  case rel => exact ⟨_, (decide (t116 < 768)), (by first | rfl | (simp; done) | (simp [*]; done)), H', ⟨by have := HJ3.out; have := HJ10.out; first | omega | exact Nat.le_refl _⟩, by repeat (first | exact Drawn0.refl _ | apply Drawn0.step)⟩
                · replace c21 := Bool.eq_false_iff.mpr c21
                  subst c21
                  have H1 : (squeeze_next.j2 kj10 t116 true) = some (r1, r2) := by rw [if_neg (show ¬ (false = true) by decide)] at H; exact H
                  clear H
                  have H := H1
                  clear H1
                  have H' := Aside0.mk H
                  clear H
                  go_wp2
                  go_meet
                  case rel => exact ⟨_, (true), (by first | rfl | (simp; done) | (simp [*]; done)), H', ⟨by have := HJ3.out; have := HJ10.out; first | omega | exact Nat.le_refl _⟩, by repeat (first | exact Drawn0.refl _ | apply Drawn0.step)⟩
              case rest =>
                clear HC20
                try clear c1
                try clear p1
                try clear q1
                try clear hx1
                try clear c2
                try clear p2
                try clear c3
                try clear c5
                try clear c6
                try clear p6
                try clear c7
                try clear c7b0
                try clear c8
                try clear c8b0
                try clear p9
                try clear q9
                try clear hx9
                try clear c10
                try clear c12
                try clear c13
                try clear c13b0
                try clear c14
                try clear c16
                try clear c16b0
                try clear c17
                try clear c17b0
                try clear p18
                try clear q18
                try clear hx18
                try clear c21
                try clear p18
                try clear p2
                try clear p9
                try clear q18
                try clear q9
                obtain ⟨kq, x55_19, rfl, HA, HJ19, ⟨mc19, rfl⟩⟩ := hcut
                cases kq with
                | zero => exact absurd HA.out (by simp [squeeze_next.j2])
                | succ kj19 =>
                  have H := HA.out
                  clear HA
                  simp only [squeeze_next.j2] at H
                  by_cases c22 : x55_19 = true
                  · subst c22
                    have H1 : (some (0, 0)) = some (r1, r2) := by rw [if_pos rfl] at H; exact H
                    clear H
                    have H := H1
                    clear H1
                    simp only [Option.some.injEq, Prod.mk.injEq] at H
                    obtain ⟨rfl, rfl⟩ := H
                    go_wp2
                    go_ret2
                    exact ⟨by first | rfl | (simp; done) | (simp [*]; done), by repeat (first | exact Drawn0.refl _ | apply Drawn0.step)⟩
                  · replace c22 := Bool.eq_false_iff.mpr c22
                    subst c22
                    have H1 : (squeeze_next.l0 kj19 t116 0) = some (r1, r2) := by rw [if_neg (show ¬ (false = true) by decide)] at H; exact H
                    clear H
                    have H := H1
                    clear H1
                    have H' := Aside0.mk H
                    clear H
                    go_wp2
                    go_loopg [10, 56] kj19 (fun kq v10 v56 w' => ∃ (x10_4 : Int) (x56_4 : Int), v10 = .int .i64 x10_4 ∧ v56 = .int .i64 x56_4 ∧ Aside0 (squeeze_next.l0 kq x10_4 x56_4 = some (r1, r2)) ∧ Aside0 (kq ≤ kj19) ∧ Drawn0 w w')
                    case atStart => exact ⟨(t116), (0), (by first | rfl | (simp; done) | (simp [*]; done)), (by first | rfl | (simp; done) | (simp [*]; done)), H', ⟨Nat.le_refl _⟩, by repeat (first | exact Drawn0.refl _ | apply Drawn0.step)⟩
                    case round =>
                      clear H'
                      try clear c1
                      try clear p1
                      try clear q1
                      try clear hx1
                      try clear c2
                      try clear p2
                      try clear c3
                      try clear c5
                      try clear c6
                      try clear p6
                      try clear c7
                      try clear c7b0
                      try clear c8
                      try clear c8b0
                      try clear p9
                      try clear q9
                      try clear hx9
                      try clear c10
                      try clear c12
                      try clear c13
                      try clear c13b0
                      try clear c14
                      try clear c16
                      try clear c16b0
                      try clear c17
                      try clear c17b0
                      try clear p18
                      try clear q18
                      try clear hx18
                      try clear c19
                      try clear c21
                      try clear c22
                      try clear p1
                      try clear p18
                      try clear p2
                      try clear p6
                      try clear p9
                      try clear q1
                      try clear q18
                      try clear q9
                      obtain ⟨x10_4, x56_4, rfl, rfl, HA, HK4, ⟨m4, rfl⟩⟩ := hrel
                      cases gk with
                      | zero => exact absurd HA.out (by simp [squeeze_next.l0])
                      | succ k4 =>
                        have H := HA.out
                        clear HA
                        simp only [squeeze_next.l0] at H
                        by_cases c23 : x56_4 < 256
                        · rw [if_pos c23] at H
                          have c23b0 : decide (x56_4 < 256) = true := decide_eq_true c23
                          clear c23
                          have HC24 := Aside0.mk H
                          clear H
                          go_upto_region 13 with (fail)
                          go_cut [68] (fun v68 wc => ∃ (kq : Nat) (x68_23 : Bool), v68 = .bool x68_23 ∧ Aside0 (squeeze_next.j4 kq x10_4 x56_4 x56_4 x68_23 = some (r1, r2)) ∧ Aside0 (kq ≤ k4) ∧ Drawn0 w wc)
                          case first =>
                            have H := HC24.out
                            clear HC24
                            replace H := Option.bind_eq_some_iff.mp H
                            obtain ⟨t118, A250, H⟩ := H
                            replace H : (if t118 ≥ 0 then (squeeze_next.j4 k4 x10_4 x56_4 x56_4 true) else ((strings_IndexByte.f (⟨#[32, 33, 37, 38, 40, 41, 42, 43, 44, 45, 46, 47, 58, 59, 61, 63, 64, 95, 98, 99, 100, 102, 103, 104, 108, 109, 110, 112, 114, 117, 118, 119]⟩ : ByteArray) ((x56_4) % 256)).bind fun t119 => (squeeze_next.j4 k4 x10_4 x56_4 x56_4 (decide (t119 ≥ 0))))) = some (r1, r2) := H
                            have A25 := Aside0.mk A250
                            clear A250
                            by_cases c26 : t118 ≥ 0
                            · rw [if_pos c26] at H
                              have c26b0 : decide (0 ≤ t118) = true := decide_eq_true c26
                              clear c26
                              (first | rw [c26b0] | (simp only [i64_w, i32_w]; rw [c26b0]) | skip)
                              have H' := Aside0.mk H
                              clear H
                              go_wp2_with (first | ((with_reducible refine gate_callee (f := 33) rfl ?_); refine goesL_ (some 61) rfl rfl Try.func33 (by kernel_rfl) rfl #[.string (⟨#[48, 49, 50, 51, 52, 53, 54, 55, 56, 57, 97, 101, 105, 111, 115, 116]⟩ : ByteArray), .int .u8 ((x56_4) % 256)] rfl (by (try simp only [List.map_toArray, List.map_cons, List.map_nil]); first | done | rfl | (simp only [List.length_drop, List.length_take]; rfl)) ?_; (with_reducible refine (strings_IndexByte.calls (⟨#[48, 49, 50, 51, 52, 53, 54, 55, 56, 57, 97, 101, 105, 111, 115, 116]⟩ : ByteArray) ((x56_4) % 256) t118 _ A25.out).mono ?_); rintro e w' ⟨rfl, ⟨nd, rfl⟩⟩; refine ⟨_, rfl, ?_⟩))
                              go_meet
                              case rel => exact ⟨_, (true), (by first | rfl | (simp; done) | (simp [*]; done)), H', ⟨by have := HJ3.out; have := HJ10.out; have := HJ19.out; have := HK4.out; first | omega | exact Nat.le_refl _⟩, by repeat (first | exact Drawn0.refl _ | apply Drawn0.step)⟩
                            · rw [if_neg c26] at H
                              have c26b0 : decide (0 ≤ t118) = false := decide_eq_false c26
                              clear c26
                              (first | rw [c26b0] | (simp only [i64_w, i32_w]; rw [c26b0]) | skip)
                              replace H := Option.bind_eq_some_iff.mp H
                              obtain ⟨t119, A270, H⟩ := H
                              replace H : (squeeze_next.j4 k4 x10_4 x56_4 x56_4 (decide (t119 ≥ 0))) = some (r1, r2) := H
                              have A27 := Aside0.mk A270
                              clear A270
                              have H' := Aside0.mk H
                              clear H
                              go_wp2_with (first | ((with_reducible refine gate_callee (f := 33) rfl ?_); refine goesL_ (some 61) rfl rfl Try.func33 (by kernel_rfl) rfl #[.string (⟨#[48, 49, 50, 51, 52, 53, 54, 55, 56, 57, 97, 101, 105, 111, 115, 116]⟩ : ByteArray), .int .u8 ((x56_4) % 256)] rfl (by (try simp only [List.map_toArray, List.map_cons, List.map_nil]); first | done | rfl | (simp only [List.length_drop, List.length_take]; rfl)) ?_; (with_reducible refine (strings_IndexByte.calls (⟨#[48, 49, 50, 51, 52, 53, 54, 55, 56, 57, 97, 101, 105, 111, 115, 116]⟩ : ByteArray) ((x56_4) % 256) t118 _ A25.out).mono ?_); rintro e w' ⟨rfl, ⟨nd, rfl⟩⟩; refine ⟨_, rfl, ?_⟩) | (go_at_call 33; (with_reducible refine (strings_IndexByte.calls (⟨#[32, 33, 37, 38, 40, 41, 42, 43, 44, 45, 46, 47, 58, 59, 61, 63, 64, 95, 98, 99, 100, 102, 103, 104, 108, 109, 110, 112, 114, 117, 118, 119]⟩ : ByteArray) ((x56_4) % 256) t119 _ A27.out).mono ?_); rintro e w' ⟨rfl, ⟨nd, rfl⟩⟩))
                              go_meet
                              case rel => exact ⟨_, (decide (t119 ≥ 0)), (by first | rfl | (simp; done) | (simp [*]; done)), H', ⟨by have := HJ3.out; have := HJ10.out; have := HJ19.out; have := HK4.out; first | omega | exact Nat.le_refl _⟩, by repeat (first | exact Drawn0.refl _ | apply Drawn0.step)⟩
                          case rest =>
                            clear HC24
                            try clear c1
                            try clear p1
                            try clear q1
                            try clear hx1
                            try clear c2
                            try clear p2
                            try clear c3
                            try clear c5
                            try clear c6
                            try clear p6
                            try clear c7
                            try clear c7b0
                            try clear c8
                            try clear c8b0
                            try clear p9
                            try clear q9
                            try clear hx9
                            try clear c10
                            try clear c12
                            try clear c13
                            try clear c13b0
                            try clear c14
                            try clear c16
                            try clear c16b0
                            try clear c17
                            try clear c17b0
                            try clear p18
                            try clear q18
                            try clear hx18
                            try clear c19
                            try clear c21
                            try clear c22
                            try clear c23
                            try clear c23b0
                            try clear c26
                            try clear c26b0
                            try clear p1
                            try clear p18
                            try clear p2
                            try clear p6
                            try clear p9
                            try clear q1
                            try clear q18
                            try clear q9
                            obtain ⟨kq, x68_23, rfl, HA, HJ23, ⟨mc23, rfl⟩⟩ := hcut
                            cases kq with
                            | zero => exact absurd HA.out (by simp [squeeze_next.j4])
                            | succ kj23 =>
                              have H := HA.out
                              clear HA
                              simp only [squeeze_next.j4] at H
                              by_cases c28 : x68_23 = true
                              · subst c28
                                have H1 : (squeeze_next.l0 kj23 x10_4 (wrap64 (x56_4 + 1))) = some (r1, r2) := by rw [if_pos rfl] at H; exact H
                                clear H
                                have H := H1
                                clear H1
                                have H' := Aside0.mk H
                                clear H
                                go_wp2
                                go_roundg kj23
                                case measure => have := HJ3.out; have := HJ10.out; have := HJ19.out; have := HK4.out; have := HJ23.out; omega
                                case rel => exact ⟨(x10_4), (wrap64 (x56_4 + 1)), (by first | rfl | (simp; done) | (simp [*]; done)), (by first | rfl | (simp; done) | (simp [*]; done)), H', ⟨by have := HJ3.out; have := HJ10.out; have := HJ19.out; have := HK4.out; have := HJ23.out; omega⟩, by repeat (first | exact Drawn0.refl _ | apply Drawn0.step)⟩
                              · replace c28 := Bool.eq_false_iff.mpr c28
                                subst c28
                                have H1 : (if x10_4 = 768 then (some ((x56_4) % 256, 10)) else (squeeze_next.l0 kj23 (wrap64 (x10_4 - 1)) (wrap64 (x56_4 + 1)))) = some (r1, r2) := by rw [if_neg (show ¬ (false = true) by decide)] at H; exact H
                                clear H
                                have H := H1
                                clear H1
                                by_cases c29 : x10_4 = 768
                                · rw [if_pos c29] at H
                                  have c29b0 : (x10_4 == 768) = true := beq_iff_eq.mpr c29
                                  have c29b1 : (x10_4 != 768) = false := bne_eq_false_iff_eq.mpr c29
                                  clear c29
                                  simp only [Option.some.injEq, Prod.mk.injEq] at H
                                  obtain ⟨rfl, rfl⟩ := H
                                  go_wp2
                                  go_ret2
                                  exact ⟨by first | rfl | (simp; done) | (simp [*]; done), by repeat (first | exact Drawn0.refl _ | apply Drawn0.step)⟩
                                · rw [if_neg c29] at H
                                  have c29b0 : (x10_4 == 768) = false := beq_eq_false_iff_ne.mpr c29
                                  have c29b1 : (x10_4 != 768) = true := bne_iff_ne.mpr c29
                                  have H' := Aside0.mk H
                                  clear H
                                  go_wp2
                                  go_roundg kj23
                                  case measure => have := HJ3.out; have := HJ10.out; have := HJ19.out; have := HK4.out; have := HJ23.out; omega
                                  case rel => exact ⟨(wrap64 (x10_4 - 1)), (wrap64 (x56_4 + 1)), (by first | rfl | (simp; done) | (simp [*]; done)), (by first | rfl | (simp; done) | (simp [*]; done)), H', ⟨by have := HJ3.out; have := HJ10.out; have := HJ19.out; have := HK4.out; have := HJ23.out; omega⟩, by repeat (first | exact Drawn0.refl _ | apply Drawn0.step)⟩
                        · rw [if_neg c23] at H
                          have c23b0 : decide (x56_4 < 256) = false := decide_eq_false c23
                          clear c23
                          simp only [Option.some.injEq, Prod.mk.injEq] at H
                          obtain ⟨rfl, rfl⟩ := H
                          go_wp2
                          go_ret2
                          exact ⟨by first | rfl | (simp; done) | (simp [*]; done), by repeat (first | exact Drawn0.refl _ | apply Drawn0.step)⟩

/-! ### squeeze_Get: function 22 -/
def squeeze_Get.l0 : Nat → ByteArray → List Int → Int → Option (ByteArray × Int)
  | 0, _, _, _ => none
  | k + 1, x0, x4, x5 => (squeeze_next.f k x0 x5).bind fun bt120 => (if bt120.2 = 0 then ((squeeze_look.f k x0 x5 (wrap64 ((wrap64 (8 * (x0.size : Int))) - x5))).bind fun bt122 => (if (wrap64 ((wrap64 (8 * (x0.size : Int))) - x5)) ≥ 8 then (some ((⟨#[]⟩ : ByteArray), 3)) else (if 0 ≤ (wrap64 ((wrap64 (8 * (x0.size : Int))) - x5)) then (if bt122.1 = (wrap64 ((shl .i64 1 (wrap64 ((wrap64 (8 * (x0.size : Int))) - x5))) - 1)) then (some (strOfNums x4, 0)) else (some ((⟨#[]⟩ : ByteArray), 3))) else (none)))) else (if x4.length < 140737488355328 then (squeeze_Get.l0 k x0 (x4 ++ [bt120.1]) (wrap64 (x5 + bt120.2))) else (none)))
def squeeze_Get.f (k : Nat) (a0 : ByteArray) : Option (ByteArray × Int) := squeeze_Get.l0 k a0 ([] : List Int) 0
theorem squeeze_Get.mono_l : ∀ k, (∀ y0 y1 y2, LeO (squeeze_Get.l0 k y0 y1 y2) (squeeze_Get.l0 (k + 1) y0 y1 y2))
  | 0 => fun _ _ _ r h => by simp [squeeze_Get.l0] at h
  | k + 1 => by
    have ih0 := squeeze_Get.mono_l k
    · intro y0 y1 y2
      unfold squeeze_Get.l0
      repeat' first
      | (with_reducible exact ih0 _ _ _)
      | (with_reducible exact squeeze_look.mono _ _ _ _)
      | (with_reducible exact squeeze_next.mono _ _ _)
      | (with_reducible exact LeO.refl _)
      | (with_reducible exact LeO.none _)
      | (with_reducible refine LeO.ite ?_ ?_)
      | (with_reducible refine LeO.bind ?_ (fun _ => ?_))
      | exact ih0 _ _ _
      | exact squeeze_look.mono _ _ _ _
      | exact squeeze_next.mono _ _ _
      | exact LeO.none _
      | refine LeO.ite ?_ ?_
      | refine LeO.bind ?_ (fun _ => ?_)
theorem squeeze_Get.mono : ∀ a0 k, LeO (squeeze_Get.f k a0) (squeeze_Get.f (k + 1) a0) := by
  intro a0 k
  have ih0 := squeeze_Get.mono_l k
  unfold squeeze_Get.f
  repeat' first
      | (with_reducible exact ih0 _ _ _)
      | (with_reducible exact squeeze_look.mono _ _ _ _)
      | (with_reducible exact squeeze_next.mono _ _ _)
      | (with_reducible exact LeO.refl _)
      | (with_reducible exact LeO.none _)
      | (with_reducible refine LeO.ite ?_ ?_)
      | (with_reducible refine LeO.bind ?_ (fun _ => ?_))
      | exact ih0 _ _ _
      | exact squeeze_look.mono _ _ _ _
      | exact squeeze_next.mono _ _ _
      | exact LeO.none _
      | refine LeO.ite ?_ ?_
      | refine LeO.bind ?_ (fun _ => ?_)
set_option maxHeartbeats 8000000 in
set_option maxRecDepth 100000 in
theorem squeeze_Get.calls (k : Nat) (a0 : ByteArray) (r1 : ByteArray) (r2 : Int) (w : World) (h : squeeze_Get.f k a0 = some (r1, r2)) :
    Calls Try.prog 22 #[.string a0] w fun e w' => e = .returned (.tuple #[.string r1, .int .i64 r2]) ∧ Below w.heap.size w w' := by
  have HB := Aside0.mk (Below.refl w.heap.size w)
  have H : (squeeze_Get.l0 k a0 ([] : List Int) 0) = some (r1, r2) := h
  clear h
  have H' := Aside0.mk H
  clear H
  go_enter Try.func22, Try.ntmps22
  go_wp2
  go_loopg [4, 5] k (fun kq v4 v5 w' => ∃ (x4_1 : List Int) (x5_1 : Int), v5 = .int .i64 x5_1 ∧ Aside0 (squeeze_Get.l0 kq a0 x4_1 x5_1 = some (r1, r2)) ∧ Aside0 (kq ≤ k) ∧ Aside0 (Kd.R (Kd.int .u8) 5 w' w.heap.size (fun _ => True) v4 x4_1) ∧ Aside0 (Below w.heap.size w w'))
  case atStart => exact ⟨(([] : List Int)), (0), (by first | rfl | (simp; done) | (simp [*]; done)), H', ⟨Nat.le_refl _⟩, ⟨by first | exact Kd.R_nil _ _ _ _ _ | exact Kd.N_nil _ _ _ _ _ | exact Kd.V_nil _ _ _ _ _ | exact Kd.Q_nil _ _ _ _ _ | exact Kd.S_nil _ _ _ _ _⟩, ⟨by repeat (first | (with_reducible first | exact HB.out | apply below_alloc | apply pw_below_drewN | apply below_drew1) | exact HB.out)⟩⟩
  case round =>
    clear H'
    obtain ⟨x4_1, x5_1, rfl, HA, HK1, HO_4, HB⟩ := hrel
    cases gk with
    | zero => exact absurd HA.out (by simp [squeeze_Get.l0])
    | succ k1 =>
      have H := HA.out
      clear HA
      simp only [squeeze_Get.l0] at H
      replace H := Option.bind_eq_some_iff.mp H
      obtain ⟨⟨t120, t121⟩, A20, H⟩ := H
      replace H : (if t121 = 0 then ((squeeze_look.f k1 a0 x5_1 (wrap64 ((wrap64 (8 * (a0.size : Int))) - x5_1))).bind fun bt122 => (if (wrap64 ((wrap64 (8 * (a0.size : Int))) - x5_1)) ≥ 8 then (some ((⟨#[]⟩ : ByteArray), 3)) else (if 0 ≤ (wrap64 ((wrap64 (8 * (a0.size : Int))) - x5_1)) then (if bt122.1 = (wrap64 ((shl .i64 1 (wrap64 ((wrap64 (8 * (a0.size : Int))) - x5_1))) - 1)) then (some (strOfNums x4_1, 0)) else (some ((⟨#[]⟩ : ByteArray), 3))) else (none)))) else (if x4_1.length < 140737488355328 then (squeeze_Get.l0 k1 a0 (x4_1 ++ [t120]) (wrap64 (x5_1 + t121))) else (none))) = some (r1, r2) := H
      have A2 := Aside0.mk A20
      clear A20
      by_cases c3 : t121 = 0
      · rw [if_pos c3] at H
        have c3b0 : (t121 == 0) = true := beq_iff_eq.mpr c3
        have c3b1 : (t121 != 0) = false := bne_eq_false_iff_eq.mpr c3
        clear c3
        replace H := Option.bind_eq_some_iff.mp H
        obtain ⟨⟨t122, t123⟩, A40, H⟩ := H
        replace H : (if (wrap64 ((wrap64 (8 * (a0.size : Int))) - x5_1)) ≥ 8 then (some ((⟨#[]⟩ : ByteArray), 3)) else (if 0 ≤ (wrap64 ((wrap64 (8 * (a0.size : Int))) - x5_1)) then (if t122 = (wrap64 ((shl .i64 1 (wrap64 ((wrap64 (8 * (a0.size : Int))) - x5_1))) - 1)) then (some (strOfNums x4_1, 0)) else (some ((⟨#[]⟩ : ByteArray), 3))) else (none))) = some (r1, r2) := H
        have A4 := Aside0.mk A40
        clear A40
        by_cases c5 : (wrap64 ((wrap64 (8 * (a0.size : Int))) - x5_1)) ≥ 8
        · rw [if_pos c5] at H
          have c5b0 : decide (8 ≤ (wrap64 ((wrap64 (8 * (a0.size : Int))) - x5_1))) = true := decide_eq_true c5
          clear c5
          simp only [Option.some.injEq, Prod.mk.injEq] at H
          obtain ⟨rfl, rfl⟩ := H
          go_wp2_with (first | ((with_reducible refine gate_callee (f := 29) rfl ?_); refine goesL_ (some 14) rfl rfl Try.func29 (by kernel_rfl) rfl #[.string a0, .int .i64 x5_1] rfl (by (try simp only [List.map_toArray, List.map_cons, List.map_nil]); first | done | rfl | (simp only [List.length_drop, List.length_take]; rfl)) ?_; (with_reducible refine (squeeze_next.calls k1 a0 x5_1 t120 t121 _ A2.out).mono ?_); rintro e w' ⟨rfl, ⟨nd, rfl⟩⟩; refine ⟨_, rfl, ?_⟩) | ((with_reducible refine gate_callee (f := 30) rfl ?_); refine goesL_ (some 35) rfl rfl Try.func30 (by kernel_rfl) rfl #[.string a0, .int .i64 x5_1, .int .i64 (wrap64 ((wrap64 (8 * (a0.size : Int))) - x5_1))] rfl (by (try simp only [List.map_toArray, List.map_cons, List.map_nil]); first | done | rfl | (simp only [List.length_drop, List.length_take]; rfl)) ?_; (with_reducible refine (squeeze_look.calls k1 a0 x5_1 (wrap64 ((wrap64 (8 * (a0.size : Int))) - x5_1)) t122 t123 _ A4.out).mono ?_); rintro e w' ⟨rfl, ⟨nd, rfl⟩⟩; refine ⟨_, rfl, ?_⟩))
          go_ret2
          exact ⟨by first | rfl | (simp [errW_none, errW_some] <;> rfl) | (simp [*, errW_none, errW_some] <;> rfl), by repeat (first | (with_reducible first | exact HB.out | apply below_alloc | apply pw_below_drewN | apply below_drew1) | exact HB.out)⟩
        · rw [if_neg c5] at H
          have c5b0 : decide (8 ≤ (wrap64 ((wrap64 (8 * (a0.size : Int))) - x5_1))) = false := decide_eq_false c5
          clear c5
          obtain ⟨ji6, hji6⟩ : ∃ j_ : Int, (wrap64 ((wrap64 (8 * (a0.size : Int))) - x5_1)) = j_ := ⟨_, rfl⟩
          replace H : (if 0 ≤ (ji6) then (if t122 = (wrap64 ((shl .i64 1 (ji6)) - 1)) then (some (strOfNums x4_1, 0)) else (some ((⟨#[]⟩ : ByteArray), 3))) else (none)) = some (r1, r2) := by first | (rw [hji6] at H; exact H) | (simp only [hji6] at H ⊢; exact H)
          (try rw [hji6] at c5b0)
          (try rw [hji6] at A2)
          (try rw [hji6] at A4)
          have hji6w : (IntKind.i64.wrap ((wrap64 (8 * (a0.size : Int))) - x5_1)) = ji6 := (i64_w _).trans hji6
          by_cases c7 : 0 ≤ (ji6)
          · rw [if_pos c7] at H
            have c7b0 := eq_true c7
            have c7b1 : decide (0 ≤ (ji6)) = true := decide_eq_true c7
            clear c7
            obtain ⟨ji8, hji8⟩ : ∃ j_ : Int, (shl .i64 1 (ji6)) = j_ := ⟨_, rfl⟩
            replace H : (if t122 = (wrap64 ((ji8) - 1)) then (some (strOfNums x4_1, 0)) else (some ((⟨#[]⟩ : ByteArray), 3))) = some (r1, r2) := by first | (rw [hji8] at H; exact H) | (simp only [hji8] at H ⊢; exact H)
            (try rw [hji8] at A2)
            (try rw [hji8] at A4)
            have hji8_ : (IntKind.i64.wrap (1 * 2 ^ min (ji6).toNat 64)) = ji8 := hji8
            have hji8z : (ji6) ≤ 64 → (IntKind.i64.wrap (1 * 2 ^ (ji6).toNat)) = ji8 := shl_small hji8
            have hji8u : (IntKind.i64.wrap (2 ^ min (ji6).toNat 64)) = ji8 := by have h_ := hji8_; rw [Int.one_mul] at h_; exact h_
            have hji8v : (ji6) ≤ 64 → (IntKind.i64.wrap (2 ^ (ji6).toNat)) = ji8 := fun hle_ => by have h_ := hji8z hle_; rw [Int.one_mul] at h_; exact h_
            have hji8y : (wrap64 (1 * 2 ^ min (ji6).toNat 64)) = ji8 := (i64_w _).symm.trans hji8_
            have hji8x : (ji6) ≤ 64 → (wrap64 (1 * 2 ^ (ji6).toNat)) = ji8 := fun h_ => (i64_w _).symm.trans (hji8z h_)
            by_cases c9 : t122 = (wrap64 ((ji8) - 1))
            · rw [if_pos c9] at H
              have c9b0 : (t122 == (wrap64 ((ji8) - 1))) = true := beq_iff_eq.mpr c9
              have c9b1 : (t122 != (wrap64 ((ji8) - 1))) = false := bne_eq_false_iff_eq.mpr c9
              clear c9
              simp only [Option.some.injEq, Prod.mk.injEq] at H
              obtain ⟨rfl, rfl⟩ := H
              go_wp2_with (first | ((with_reducible refine gate_callee (f := 29) rfl ?_); refine goesL_ (some 14) rfl rfl Try.func29 (by kernel_rfl) rfl #[.string a0, .int .i64 x5_1] rfl (by (try simp only [List.map_toArray, List.map_cons, List.map_nil]); first | done | rfl | (simp only [List.length_drop, List.length_take]; rfl)) ?_; (with_reducible refine (squeeze_next.calls k1 a0 x5_1 t120 t121 _ A2.out).mono ?_); rintro e w' ⟨rfl, ⟨nd, rfl⟩⟩; refine ⟨_, rfl, ?_⟩) | ((with_reducible refine gate_callee (f := 30) rfl ?_); refine goesL_ (some 35) rfl rfl Try.func30 (by kernel_rfl) rfl #[.string a0, .int .i64 x5_1, .int .i64 ji6] rfl (by (try simp only [List.map_toArray, List.map_cons, List.map_nil]); first | done | (simp only [hji6]; rfl) | rfl | (simp only [List.length_drop, List.length_take]; rfl)) ?_; (with_reducible refine (squeeze_look.calls k1 a0 x5_1 ji6 t122 t123 _ A4.out).mono ?_); rintro e w' ⟨rfl, ⟨nd, rfl⟩⟩; refine ⟨_, rfl, ?_⟩; have hcv10 := own_string (P := Try.prog) Try.underlying32 Try.underlying5 Try.underlying9 (Kd.own_of_R HO_4.out); have hcv11 := fun n_ => own_string (P := Try.prog) Try.underlying32 Try.underlying5 Try.underlying9 (Kd.own_of_R (Kd.R_drewN HO_4.out n_))))
              go_ret2
              exact ⟨by first | rfl | (simp [errW_none, errW_some] <;> rfl) | (simp only [← hji6, ← hji8]; first | rfl | (simp [errW_none, errW_some] <;> rfl)) | (simp [*, errW_none, errW_some] <;> rfl), by repeat (first | (with_reducible first | exact HB.out | apply below_alloc | apply pw_below_drewN | apply below_drew1) | exact HB.out)⟩
            · rw [if_neg c9] at H
              have c9b0 : (t122 == (wrap64 ((ji8) - 1))) = false := beq_eq_false_iff_ne.mpr c9
              have c9b1 : (t122 != (wrap64 ((ji8) - 1))) = true := bne_iff_ne.mpr c9
              simp only [Option.some.injEq, Prod.mk.injEq] at H
              obtain ⟨rfl, rfl⟩ := H
              go_wp2_with (first | ((with_reducible refine gate_callee (f := 29) rfl ?_); refine goesL_ (some 14) rfl rfl Try.func29 (by kernel_rfl) rfl #[.string a0, .int .i64 x5_1] rfl (by (try simp only [List.map_toArray, List.map_cons, List.map_nil]); first | done | rfl | (simp only [List.length_drop, List.length_take]; rfl)) ?_; (with_reducible refine (squeeze_next.calls k1 a0 x5_1 t120 t121 _ A2.out).mono ?_); rintro e w' ⟨rfl, ⟨nd, rfl⟩⟩; refine ⟨_, rfl, ?_⟩) | ((with_reducible refine gate_callee (f := 30) rfl ?_); refine goesL_ (some 35) rfl rfl Try.func30 (by kernel_rfl) rfl #[.string a0, .int .i64 x5_1, .int .i64 ji6] rfl (by (try simp only [List.map_toArray, List.map_cons, List.map_nil]); first | done | (simp only [hji6]; rfl) | rfl | (simp only [List.length_drop, List.length_take]; rfl)) ?_; (with_reducible refine (squeeze_look.calls k1 a0 x5_1 ji6 t122 t123 _ A4.out).mono ?_); rintro e w' ⟨rfl, ⟨nd, rfl⟩⟩; refine ⟨_, rfl, ?_⟩))
              go_ret2
              exact ⟨by first | rfl | (simp [errW_none, errW_some] <;> rfl) | (simp only [← hji6, ← hji8]; first | rfl | (simp [errW_none, errW_some] <;> rfl)) | (simp [*, errW_none, errW_some] <;> rfl), by repeat (first | (with_reducible first | exact HB.out | apply below_alloc | apply pw_below_drewN | apply below_drew1) | exact HB.out)⟩
          · rw [if_neg c7] at H
            exact absurd H (by simp)
      · rw [if_neg c3] at H
        have c3b0 : (t121 == 0) = false := beq_eq_false_iff_ne.mpr c3
        have c3b1 : (t121 != 0) = true := bne_iff_ne.mpr c3
        by_cases c12 : x4_1.length < 140737488355328
        · rw [if_pos c12] at H
          have LMc12 := Aside0.mk c12
          clear c12
          obtain ⟨y124, hy124⟩ : ∃ y_ : List Int, y_ = (x4_1 ++ [t120]) := ⟨_, rfl⟩
          replace H : (squeeze_Get.l0 k1 a0 y124 (wrap64 (x5_1 + t121))) = some (r1, r2) := by first | (rw [hy124]; with_reducible exact H) | (have H2_ := (Option.bind_some _ _).symm.trans H; rw [hy124]; with_reducible exact H2_) | (have H2_ := (Option.bind_some _ _).symm.trans H; with_reducible exact H2_) | with_reducible exact H | (rw [hy124]; exact H) | exact H
          have Ny124 := Aside0.mk hy124
          clear hy124
          have H' := Aside0.mk H
          clear H
          go_wp2_with (first | ((with_reducible refine gate_callee (f := 29) rfl ?_); refine goesL_ (some 14) rfl rfl Try.func29 (by kernel_rfl) rfl #[.string a0, .int .i64 x5_1] rfl (by (try simp only [List.map_toArray, List.map_cons, List.map_nil]); first | done | rfl | (simp only [List.length_drop, List.length_take]; rfl)) ?_; (with_reducible refine (squeeze_next.calls k1 a0 x5_1 t120 t121 _ A2.out).mono ?_); rintro e w' ⟨rfl, ⟨nd, rfl⟩⟩; refine ⟨_, rfl, ?_⟩) | ((with_reducible refine gate_builtin (b := .append) (xs := #[.tmp 19, .tmp 21]) rfl ?_); at_builtin; refine Kd.R_append (Kd.int .u8) (w0 := w) w.heap.size rfl (.tmp 19) (.tmp 21) 32 5 (.int .u8 0) 1 rfl Try.underlying32 info5 rfl (by decide) (by omega) u4 x4_1 t120 [.int .u8 t120] (fun _ => True) (fun _ => False) rfl rfl ?aP (fun _ hk => hk.elim) ?aF ?aO ?aB ?aS ?aL ?_; (case aP => exact rfl); (case aB => exact (by repeat (first | (with_reducible first | exact HB.out | apply below_alloc | apply pw_below_drewN | apply below_drew1) | exact HB.out))); (case aF => exact (fun _ _ => trivial)); (case aO => exact (by (with_reducible repeat (first | apply Kd.R_alloc | apply Kd.R_drewN | apply Kd.R_drew)); exact HO_4.out)); (case aS => exact (below_size (by repeat (first | (with_reducible first | exact HB.out | apply below_alloc | apply pw_below_drewN | apply below_drew1) | exact HB.out)))); (case aL => have := LMc12.out; omega); intro v125 w13 ho hb hg hat; rw [← Ny124.out] at ho; have n0_ := Aside0.mk (hb); have n1_ := Aside0.mk (ho); clear HB; clear HO_4; have HB := n0_; have HO126 := n1_; clear n0_ n1_; clear ho hb hg hat))
          go_roundg k1
          case measure => have := HK1.out; omega
          case rel => exact ⟨(y124), (wrap64 (x5_1 + t121)), (by first | rfl | (simp; done) | (simp [*]; done)), H', ⟨by have := HK1.out; omega⟩, ⟨by (with_reducible repeat (first | apply Kd.R_alloc | apply Kd.R_drewN | apply Kd.R_drew)); exact HO126.out⟩, ⟨by repeat (first | (with_reducible first | exact HB.out | apply below_alloc | apply pw_below_drewN | apply below_drew1) | exact HB.out)⟩⟩
        · rw [if_neg c12] at H
          exact absurd H (by simp)

/-! ### squeeze_Bits: function 26 -/
def squeeze_Bits.f (k : Nat) (a0 : Int) : Option (Int) := (squeeze_code.f k a0).bind fun bt127 => (some bt127.2)
theorem squeeze_Bits.mono : ∀ a0 k, LeO (squeeze_Bits.f k a0) (squeeze_Bits.f (k + 1) a0) := by
  intro a0 k
  unfold squeeze_Bits.f
  repeat' first
      | (with_reducible exact squeeze_code.mono _ _)
      | (with_reducible exact LeO.refl _)
      | (with_reducible exact LeO.none _)
      | (with_reducible refine LeO.ite ?_ ?_)
      | (with_reducible refine LeO.bind ?_ (fun _ => ?_))
      | exact squeeze_code.mono _ _
      | exact LeO.none _
      | refine LeO.ite ?_ ?_
      | refine LeO.bind ?_ (fun _ => ?_)
set_option maxHeartbeats 8000000 in
set_option maxRecDepth 100000 in
theorem squeeze_Bits.calls (k : Nat) (a0 : Int) (r : Int) (w : World) (h : squeeze_Bits.f k a0 = some r) :
    Calls Try.prog 26 #[.int .u8 a0] w fun e w' => e = .returned (.int .i64 r) ∧ Drawn0 w w' := by
  have H : ((squeeze_code.f k a0).bind fun bt127 => (some bt127.2)) = some r := h
  clear h
  replace H := Option.bind_eq_some_iff.mp H
  obtain ⟨⟨t127, t128⟩, A20, H⟩ := H
  replace H : (some t128) = some r := H
  have A2 := Aside0.mk A20
  clear A20
  obtain rfl := Option.some.inj H
  go_enter Try.func26, Try.ntmps26
  go_wp2_with (first | ((with_reducible refine gate_callee (f := 28) rfl ?_); refine goesL_ (some 7) rfl rfl Try.func28 (by kernel_rfl) rfl #[.int .u8 a0] rfl (by (try simp only [List.map_toArray, List.map_cons, List.map_nil]); first | done | rfl | (simp only [List.length_drop, List.length_take]; rfl)) ?_; (with_reducible refine (squeeze_code.calls k a0 t127 t128 _ A2.out).mono ?_); rintro e w' ⟨rfl, ⟨nd, rfl⟩⟩; refine ⟨_, rfl, ?_⟩))
  go_ret
  exact ⟨by first | rfl | (simp; done) | (simp [*]; done), by repeat (first | exact Drawn0.refl _ | apply Drawn0.step)⟩

end Go.Proofs.Ytmglfnphkngfdaa.XSq
