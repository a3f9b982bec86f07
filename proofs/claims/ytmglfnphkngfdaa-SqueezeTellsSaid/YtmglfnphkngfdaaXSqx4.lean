-- Printed by wip/tools/xprint.py of this claim's session: the kit's print over contracts of its own.
import Derived.Test.YtmglfnphkngfdaaXSqx0
import Derived.Test.YtmglfnphkngfdaaXSqx3
namespace Go.Proofs.Ytmglfnphkngfdaa.XSq
open Go.RowKit Go.Proofs.YtmglfnphkngfdaaW.PrintWords Go.Proofs.YtmglfnphkngfdaaW.PrintLast Go.Proofs.YtmglfnphkngfdaaW.PrintMore
attribute [local go_sem] max2_int min2_int max_two min_two max_three min_three max_four min_four   -- for this text's walks alone
set_option linter.unusedVariables false
set_option linter.unusedSimpArgs false

/-! ### bywashref1_Unsqueeze: function 23 -/
mutual
def bywashref1_Unsqueeze.l0 : Nat → ByteArray → Int → List Int → Int → Option (ByteArray × Int)
  | 0, _, _, _, _ => none
  | k + 1, x0, x4, x5, x6 => if x6 < x4 then (if 0 ≤ (wrap64 (Int.tdiv x6 8)) then (if (wrap64 (Int.tdiv x6 8)) < (x0.size : Int) then (if 0 ≤ (IntKind.u64.wrap (wrap64 (7 - (Int.tmod x6 8)))) then (if 0 ≤ x6 then (if x6 < (x5.length : Int) then (bywashref1_Unsqueeze.l0 k x0 x4 (x5.set (x6 : Int).toNat (Go.bits .and .i64 (shr .i64 (wrap64 (bt x0 (wrap64 (Int.tdiv x6 8)))) (IntKind.u64.wrap (wrap64 (7 - (Int.tmod x6 8))))) 1)) (wrap64 (x6 + 1))) else (none)) else (none)) else (none)) else (none)) else (none)) else (bywashref1_Unsqueeze.l1 k x4 x5 ([] : List Int) 0)
def bywashref1_Unsqueeze.l1 : Nat → Int → List Int → List Int → Int → Option (ByteArray × Int)
  | 0, _, _, _, _ => none
  | k + 1, x4, x5, x7, x8 => if x8 < x4 then (bywashref1_Unsqueeze.l2 k x4 x5 x7 x8 0 false 1) else (some (strOfNums x7, 0))
def bywashref1_Unsqueeze.l2 : Nat → Int → List Int → List Int → Int → Int → Bool → Int → Option (ByteArray × Int)
  | 0, _, _, _, _, _, _, _ => none
  | k + 1, x4, x5, x7, x8, x9, x10, x11 => if x11 ≤ 10 then (if (wrap64 (x8 + x11)) ≤ x4 then (bywashref1_Unsqueeze.j3 k x4 x5 x7 x8 x9 x10 x11 (!x10)) else (bywashref1_Unsqueeze.j3 k x4 x5 x7 x8 x9 x10 x11 false)) else (bywashref1_Unsqueeze.j3 k x4 x5 x7 x8 x9 x10 x11 false)
def bywashref1_Unsqueeze.j3 : Nat → Int → List Int → List Int → Int → Int → Bool → Int → Bool → Option (ByteArray × Int)
  | 0, _, _, _, _, _, _, _, _ => none
  | k + 1, x4, x5, x7, x8, x9, x10, x11, x51 => if x51 = true then (if 0 ≤ (wrap64 ((wrap64 (x8 + x11)) - 1)) then (if (wrap64 ((wrap64 (x8 + x11)) - 1)) < (x5.length : Int) then (if x11 = 5 then (bywashref1_Unsqueeze.j4 k x4 x5 x7 x8 (wrap64 ((wrap64 (x9 * 2)) + (rd x5 (wrap64 ((wrap64 (x8 + x11)) - 1))))) x10 x11 (decide ((wrap64 ((wrap64 (x9 * 2)) + (rd x5 (wrap64 ((wrap64 (x8 + x11)) - 1))))) < 16))) else (bywashref1_Unsqueeze.j4 k x4 x5 x7 x8 (wrap64 ((wrap64 (x9 * 2)) + (rd x5 (wrap64 ((wrap64 (x8 + x11)) - 1))))) x10 x11 false)) else (none)) else (none)) else (if x10 = true then (bywashref1_Unsqueeze.l1 k x4 x5 x7 x8) else (if (wrap64 (x4 - x8)) ≥ 8 then (some ((⟨#[]⟩ : ByteArray), 3)) else (bywashref1_Unsqueeze.l3 k x4 x5 x7 x8)))
def bywashref1_Unsqueeze.j4 : Nat → Int → List Int → List Int → Int → Int → Bool → Int → Bool → Option (ByteArray × Int)
  | 0, _, _, _, _, _, _, _, _ => none
  | k + 1, x4, x5, x7, x8, x9, x10, x11, x64 => if x64 = true then (if 0 ≤ x9 then (if x9 < 16 then (if x7.length < 140737488355328 then (bywashref1_Unsqueeze.l2 k x4 x5 (x7 ++ [bt (⟨#[48, 49, 50, 51, 52, 53, 54, 55, 56, 57, 97, 101, 105, 111, 115, 116]⟩ : ByteArray) x9]) (wrap64 (x8 + x11)) x9 true (wrap64 (x11 + 1))) else (none)) else (none)) else (none)) else (if x11 = 7 then (if x9 ≥ 64 then (bywashref1_Unsqueeze.j5 k x4 x5 x7 x8 x9 x10 x11 (decide (x9 < 96))) else (bywashref1_Unsqueeze.j5 k x4 x5 x7 x8 x9 x10 x11 false)) else (bywashref1_Unsqueeze.j5 k x4 x5 x7 x8 x9 x10 x11 false))
def bywashref1_Unsqueeze.j5 : Nat → Int → List Int → List Int → Int → Int → Bool → Int → Bool → Option (ByteArray × Int)
  | 0, _, _, _, _, _, _, _, _ => none
  | k + 1, x4, x5, x7, x8, x9, x10, x11, x76 => if x76 = true then (if 0 ≤ (wrap64 (x9 - 64)) then (if (wrap64 (x9 - 64)) < 32 then (if x7.length < 140737488355328 then (bywashref1_Unsqueeze.l2 k x4 x5 (x7 ++ [bt (⟨#[32, 33, 37, 38, 40, 41, 42, 43, 44, 45, 46, 47, 58, 59, 61, 63, 64, 95, 98, 99, 100, 102, 103, 104, 108, 109, 110, 112, 114, 117, 118, 119]⟩ : ByteArray) (wrap64 (x9 - 64))]) (wrap64 (x8 + x11)) x9 true (wrap64 (x11 + 1))) else (none)) else (none)) else (none)) else (if x11 = 10 then (if x9 ≥ 768 then (bywashref1_Unsqueeze.j6 k x4 x5 x7 x8 x9 x10 x11 (decide (x9 < 976))) else (bywashref1_Unsqueeze.j6 k x4 x5 x7 x8 x9 x10 x11 false)) else (bywashref1_Unsqueeze.j6 k x4 x5 x7 x8 x9 x10 x11 false))
def bywashref1_Unsqueeze.j6 : Nat → Int → List Int → List Int → Int → Int → Bool → Int → Bool → Option (ByteArray × Int)
  | 0, _, _, _, _, _, _, _, _ => none
  | k + 1, x4, x5, x7, x8, x9, x10, x11, x93 => if x93 = true then ((bywashref1_rare.f k x9).bind fun t150 => (if x7.length < 140737488355328 then (bywashref1_Unsqueeze.l2 k x4 x5 (x7 ++ [t150]) (wrap64 (x8 + x11)) x9 true (wrap64 (x11 + 1))) else (none))) else (if x10 = true then (bywashref1_Unsqueeze.l2 k x4 x5 x7 (wrap64 (x8 + x11)) x9 x10 (wrap64 (x11 + 1))) else (bywashref1_Unsqueeze.l2 k x4 x5 x7 x8 x9 x10 (wrap64 (x11 + 1))))
def bywashref1_Unsqueeze.l3 : Nat → Int → List Int → List Int → Int → Option (ByteArray × Int)
  | 0, _, _, _, _ => none
  | k + 1, x4, x5, x7, x8 => if x8 < x4 then (if 0 ≤ x8 then (if x8 < (x5.length : Int) then (if (rd x5 x8) = 1 then (bywashref1_Unsqueeze.l3 k x4 x5 x7 (wrap64 (x8 + 1))) else (some ((⟨#[]⟩ : ByteArray), 3))) else (none)) else (none)) else (bywashref1_Unsqueeze.l1 k x4 x5 x7 x8)
end
def bywashref1_Unsqueeze.f (k : Nat) (a0 : ByteArray) : Option (ByteArray × Int) := if 0 ≤ (wrap64 (8 * (a0.size : Int))) then (if (wrap64 (8 * (a0.size : Int)) : Int).toNat ≤ 35184372088832 then (bywashref1_Unsqueeze.l0 k a0 (wrap64 (8 * (a0.size : Int))) (List.replicate (wrap64 (8 * (a0.size : Int)) : Int).toNat 0) 0) else (none)) else (none)
theorem bywashref1_Unsqueeze.mono_l : ∀ k, (∀ y0 y1 y2 y3, LeO (bywashref1_Unsqueeze.l0 k y0 y1 y2 y3) (bywashref1_Unsqueeze.l0 (k + 1) y0 y1 y2 y3)) ∧ (∀ y0 y1 y2 y3, LeO (bywashref1_Unsqueeze.l1 k y0 y1 y2 y3) (bywashref1_Unsqueeze.l1 (k + 1) y0 y1 y2 y3)) ∧ (∀ y0 y1 y2 y3 y4 y5 y6, LeO (bywashref1_Unsqueeze.l2 k y0 y1 y2 y3 y4 y5 y6) (bywashref1_Unsqueeze.l2 (k + 1) y0 y1 y2 y3 y4 y5 y6)) ∧ (∀ y0 y1 y2 y3 y4 y5 y6 y7, LeO (bywashref1_Unsqueeze.j3 k y0 y1 y2 y3 y4 y5 y6 y7) (bywashref1_Unsqueeze.j3 (k + 1) y0 y1 y2 y3 y4 y5 y6 y7)) ∧ (∀ y0 y1 y2 y3 y4 y5 y6 y7, LeO (bywashref1_Unsqueeze.j4 k y0 y1 y2 y3 y4 y5 y6 y7) (bywashref1_Unsqueeze.j4 (k + 1) y0 y1 y2 y3 y4 y5 y6 y7)) ∧ (∀ y0 y1 y2 y3 y4 y5 y6 y7, LeO (bywashref1_Unsqueeze.j5 k y0 y1 y2 y3 y4 y5 y6 y7) (bywashref1_Unsqueeze.j5 (k + 1) y0 y1 y2 y3 y4 y5 y6 y7)) ∧ (∀ y0 y1 y2 y3 y4 y5 y6 y7, LeO (bywashref1_Unsqueeze.j6 k y0 y1 y2 y3 y4 y5 y6 y7) (bywashref1_Unsqueeze.j6 (k + 1) y0 y1 y2 y3 y4 y5 y6 y7)) ∧ (∀ y0 y1 y2 y3, LeO (bywashref1_Unsqueeze.l3 k y0 y1 y2 y3) (bywashref1_Unsqueeze.l3 (k + 1) y0 y1 y2 y3))
  | 0 => ⟨fun _ _ _ _ r h => by simp [bywashref1_Unsqueeze.l0] at h, fun _ _ _ _ r h => by simp [bywashref1_Unsqueeze.l1] at h, fun _ _ _ _ _ _ _ r h => by simp [bywashref1_Unsqueeze.l2] at h, fun _ _ _ _ _ _ _ _ r h => by simp [bywashref1_Unsqueeze.j3] at h, fun _ _ _ _ _ _ _ _ r h => by simp [bywashref1_Unsqueeze.j4] at h, fun _ _ _ _ _ _ _ _ r h => by simp [bywashref1_Unsqueeze.j5] at h, fun _ _ _ _ _ _ _ _ r h => by simp [bywashref1_Unsqueeze.j6] at h, fun _ _ _ _ r h => by simp [bywashref1_Unsqueeze.l3] at h⟩
  | k + 1 => by
    obtain ⟨ih0, ih1, ih2, ih3, ih4, ih5, ih6, ih7⟩ := bywashref1_Unsqueeze.mono_l k
    refine ⟨?_, ?_, ?_, ?_, ?_, ?_, ?_, ?_⟩
    · intro y0 y1 y2 y3
      unfold bywashref1_Unsqueeze.l0
      repeat' first
      | (with_reducible exact ih0 _ _ _ _)
      | (with_reducible exact ih1 _ _ _ _)
      | (with_reducible exact ih2 _ _ _ _ _ _ _)
      | (with_reducible exact ih3 _ _ _ _ _ _ _ _)
      | (with_reducible exact ih4 _ _ _ _ _ _ _ _)
      | (with_reducible exact ih5 _ _ _ _ _ _ _ _)
      | (with_reducible exact ih6 _ _ _ _ _ _ _ _)
      | (with_reducible exact ih7 _ _ _ _)
      | (with_reducible exact bywashref1_rare.mono _ _)
      | (with_reducible exact LeO.refl _)
      | (with_reducible exact LeO.none _)
      | (with_reducible refine LeO.ite ?_ ?_)
      | (with_reducible refine LeO.bind ?_ (fun _ => ?_))
      | exact ih0 _ _ _ _
      | exact ih1 _ _ _ _
      | exact ih2 _ _ _ _ _ _ _
      | exact ih3 _ _ _ _ _ _ _ _
      | exact ih4 _ _ _ _ _ _ _ _
      | exact ih5 _ _ _ _ _ _ _ _
      | exact ih6 _ _ _ _ _ _ _ _
      | exact ih7 _ _ _ _
      | exact bywashref1_rare.mono _ _
      | exact LeO.none _
      | refine LeO.ite ?_ ?_
      | refine LeO.bind ?_ (fun _ => ?_)
    · intro y0 y1 y2 y3
      unfold bywashref1_Unsqueeze.l1
      repeat' first
      | (with_reducible exact ih0 _ _ _ _)
      | (with_reducible exact ih1 _ _ _ _)
      | (with_reducible exact ih2 _ _ _ _ _ _ _)
      | (with_reducible exact ih3 _ _ _ _ _ _ _ _)
      | (with_reducible exact ih4 _ _ _ _ _ _ _ _)
      | (with_reducible exact ih5 _ _ _ _ _ _ _ _)
      | (with_reducible exact ih6 _ _ _ _ _ _ _ _)
      | (with_reducible exact ih7 _ _ _ _)
      | (with_reducible exact bywashref1_rare.mono _ _)
      | (with_reducible exact LeO.refl _)
      | (with_reducible exact LeO.none _)
      | (with_reducible refine LeO.ite ?_ ?_)
      | (with_reducible refine LeO.bind ?_ (fun _ => ?_))
      | exact ih0 _ _ _ _
      | exact ih1 _ _ _ _
      | exact ih2 _ _ _ _ _ _ _
      | exact ih3 _ _ _ _ _ _ _ _
      | exact ih4 _ _ _ _ _ _ _ _
      | exact ih5 _ _ _ _ _ _ _ _
      | exact ih6 _ _ _ _ _ _ _ _
      | exact ih7 _ _ _ _
      | exact bywashref1_rare.mono _ _
      | exact LeO.none _
      | refine LeO.ite ?_ ?_
      | refine LeO.bind ?_ (fun _ => ?_)
    · intro y0 y1 y2 y3 y4 y5 y6
      unfold bywashref1_Unsqueeze.l2
      repeat' first
      | (with_reducible exact ih0 _ _ _ _)
      | (with_reducible exact ih1 _ _ _ _)
      | (with_reducible exact ih2 _ _ _ _ _ _ _)
      | (with_reducible exact ih3 _ _ _ _ _ _ _ _)
      | (with_reducible exact ih4 _ _ _ _ _ _ _ _)
      | (with_reducible exact ih5 _ _ _ _ _ _ _ _)
      | (with_reducible exact ih6 _ _ _ _ _ _ _ _)
      | (with_reducible exact ih7 _ _ _ _)
      | (with_reducible exact bywashref1_rare.mono _ _)
      | (with_reducible exact LeO.refl _)
      | (with_reducible exact LeO.none _)
      | (with_reducible refine LeO.ite ?_ ?_)
      | (with_reducible refine LeO.bind ?_ (fun _ => ?_))
      | exact ih0 _ _ _ _
      | exact ih1 _ _ _ _
      | exact ih2 _ _ _ _ _ _ _
      | exact ih3 _ _ _ _ _ _ _ _
      | exact ih4 _ _ _ _ _ _ _ _
      | exact ih5 _ _ _ _ _ _ _ _
      | exact ih6 _ _ _ _ _ _ _ _
      | exact ih7 _ _ _ _
      | exact bywashref1_rare.mono _ _
      | exact LeO.none _
      | refine LeO.ite ?_ ?_
      | refine LeO.bind ?_ (fun _ => ?_)
    · intro y0 y1 y2 y3 y4 y5 y6 y7
      unfold bywashref1_Unsqueeze.j3
      repeat' first
      | (with_reducible exact ih0 _ _ _ _)
      | (with_reducible exact ih1 _ _ _ _)
      | (with_reducible exact ih2 _ _ _ _ _ _ _)
      | (with_reducible exact ih3 _ _ _ _ _ _ _ _)
      | (with_reducible exact ih4 _ _ _ _ _ _ _ _)
      | (with_reducible exact ih5 _ _ _ _ _ _ _ _)
      | (with_reducible exact ih6 _ _ _ _ _ _ _ _)
      | (with_reducible exact ih7 _ _ _ _)
      | (with_reducible exact bywashref1_rare.mono _ _)
      | (with_reducible exact LeO.refl _)
      | (with_reducible exact LeO.none _)
      | (with_reducible refine LeO.ite ?_ ?_)
      | (with_reducible refine LeO.bind ?_ (fun _ => ?_))
      | exact ih0 _ _ _ _
      | exact ih1 _ _ _ _
      | exact ih2 _ _ _ _ _ _ _
      | exact ih3 _ _ _ _ _ _ _ _
      | exact ih4 _ _ _ _ _ _ _ _
      | exact ih5 _ _ _ _ _ _ _ _
      | exact ih6 _ _ _ _ _ _ _ _
      | exact ih7 _ _ _ _
      | exact bywashref1_rare.mono _ _
      | exact LeO.none _
      | refine LeO.ite ?_ ?_
      | refine LeO.bind ?_ (fun _ => ?_)
    · intro y0 y1 y2 y3 y4 y5 y6 y7
      unfold bywashref1_Unsqueeze.j4
      repeat' first
      | (with_reducible exact ih0 _ _ _ _)
      | (with_reducible exact ih1 _ _ _ _)
      | (with_reducible exact ih2 _ _ _ _ _ _ _)
      | (with_reducible exact ih3 _ _ _ _ _ _ _ _)
      | (with_reducible exact ih4 _ _ _ _ _ _ _ _)
      | (with_reducible exact ih5 _ _ _ _ _ _ _ _)
      | (with_reducible exact ih6 _ _ _ _ _ _ _ _)
      | (with_reducible exact ih7 _ _ _ _)
      | (with_reducible exact bywashref1_rare.mono _ _)
      | (with_reducible exact LeO.refl _)
      | (with_reducible exact LeO.none _)
      | (with_reducible refine LeO.ite ?_ ?_)
      | (with_reducible refine LeO.bind ?_ (fun _ => ?_))
      | exact ih0 _ _ _ _
      | exact ih1 _ _ _ _
      | exact ih2 _ _ _ _ _ _ _
      | exact ih3 _ _ _ _ _ _ _ _
      | exact ih4 _ _ _ _ _ _ _ _
      | exact ih5 _ _ _ _ _ _ _ _
      | exact ih6 _ _ _ _ _ _ _ _
      | exact ih7 _ _ _ _
      | exact bywashref1_rare.mono _ _
      | exact LeO.none _
      | refine LeO.ite ?_ ?_
      | refine LeO.bind ?_ (fun _ => ?_)
    · intro y0 y1 y2 y3 y4 y5 y6 y7
      unfold bywashref1_Unsqueeze.j5
      repeat' first
      | (with_reducible exact ih0 _ _ _ _)
      | (with_reducible exact ih1 _ _ _ _)
      | (with_reducible exact ih2 _ _ _ _ _ _ _)
      | (with_reducible exact ih3 _ _ _ _ _ _ _ _)
      | (with_reducible exact ih4 _ _ _ _ _ _ _ _)
      | (with_reducible exact ih5 _ _ _ _ _ _ _ _)
      | (with_reducible exact ih6 _ _ _ _ _ _ _ _)
      | (with_reducible exact ih7 _ _ _ _)
      | (with_reducible exact bywashref1_rare.mono _ _)
      | (with_reducible exact LeO.refl _)
      | (with_reducible exact LeO.none _)
      | (with_reducible refine LeO.ite ?_ ?_)
      | (with_reducible refine LeO.bind ?_ (fun _ => ?_))
      | exact ih0 _ _ _ _
      | exact ih1 _ _ _ _
      | exact ih2 _ _ _ _ _ _ _
      | exact ih3 _ _ _ _ _ _ _ _
      | exact ih4 _ _ _ _ _ _ _ _
      | exact ih5 _ _ _ _ _ _ _ _
      | exact ih6 _ _ _ _ _ _ _ _
      | exact ih7 _ _ _ _
      | exact bywashref1_rare.mono _ _
      | exact LeO.none _
      | refine LeO.ite ?_ ?_
      | refine LeO.bind ?_ (fun _ => ?_)
    · intro y0 y1 y2 y3 y4 y5 y6 y7
      unfold bywashref1_Unsqueeze.j6
      repeat' first
      | (with_reducible exact ih0 _ _ _ _)
      | (with_reducible exact ih1 _ _ _ _)
      | (with_reducible exact ih2 _ _ _ _ _ _ _)
      | (with_reducible exact ih3 _ _ _ _ _ _ _ _)
      | (with_reducible exact ih4 _ _ _ _ _ _ _ _)
      | (with_reducible exact ih5 _ _ _ _ _ _ _ _)
      | (with_reducible exact ih6 _ _ _ _ _ _ _ _)
      | (with_reducible exact ih7 _ _ _ _)
      | (with_reducible exact bywashref1_rare.mono _ _)
      | (with_reducible exact LeO.refl _)
      | (with_reducible exact LeO.none _)
      | (with_reducible refine LeO.ite ?_ ?_)
      | (with_reducible refine LeO.bind ?_ (fun _ => ?_))
      | exact ih0 _ _ _ _
      | exact ih1 _ _ _ _
      | exact ih2 _ _ _ _ _ _ _
      | exact ih3 _ _ _ _ _ _ _ _
      | exact ih4 _ _ _ _ _ _ _ _
      | exact ih5 _ _ _ _ _ _ _ _
      | exact ih6 _ _ _ _ _ _ _ _
      | exact ih7 _ _ _ _
      | exact bywashref1_rare.mono _ _
      | exact LeO.none _
      | refine LeO.ite ?_ ?_
      | refine LeO.bind ?_ (fun _ => ?_)
    · intro y0 y1 y2 y3
      unfold bywashref1_Unsqueeze.l3
      repeat' first
      | (with_reducible exact ih0 _ _ _ _)
      | (with_reducible exact ih1 _ _ _ _)
      | (with_reducible exact ih2 _ _ _ _ _ _ _)
      | (with_reducible exact ih3 _ _ _ _ _ _ _ _)
      | (with_reducible exact ih4 _ _ _ _ _ _ _ _)
      | (with_reducible exact ih5 _ _ _ _ _ _ _ _)
      | (with_reducible exact ih6 _ _ _ _ _ _ _ _)
      | (with_reducible exact ih7 _ _ _ _)
      | (with_reducible exact bywashref1_rare.mono _ _)
      | (with_reducible exact LeO.refl _)
      | (with_reducible exact LeO.none _)
      | (with_reducible refine LeO.ite ?_ ?_)
      | (with_reducible refine LeO.bind ?_ (fun _ => ?_))
      | exact ih0 _ _ _ _
      | exact ih1 _ _ _ _
      | exact ih2 _ _ _ _ _ _ _
      | exact ih3 _ _ _ _ _ _ _ _
      | exact ih4 _ _ _ _ _ _ _ _
      | exact ih5 _ _ _ _ _ _ _ _
      | exact ih6 _ _ _ _ _ _ _ _
      | exact ih7 _ _ _ _
      | exact bywashref1_rare.mono _ _
      | exact LeO.none _
      | refine LeO.ite ?_ ?_
      | refine LeO.bind ?_ (fun _ => ?_)
theorem bywashref1_Unsqueeze.mono : ∀ a0 k, LeO (bywashref1_Unsqueeze.f k a0) (bywashref1_Unsqueeze.f (k + 1) a0) := by
  intro a0 k
  obtain ⟨ih0, ih1, ih2, ih3, ih4, ih5, ih6, ih7⟩ := bywashref1_Unsqueeze.mono_l k
  unfold bywashref1_Unsqueeze.f
  repeat' first
      | (with_reducible exact ih0 _ _ _ _)
      | (with_reducible exact ih1 _ _ _ _)
      | (with_reducible exact ih2 _ _ _ _ _ _ _)
      | (with_reducible exact ih3 _ _ _ _ _ _ _ _)
      | (with_reducible exact ih4 _ _ _ _ _ _ _ _)
      | (with_reducible exact ih5 _ _ _ _ _ _ _ _)
      | (with_reducible exact ih6 _ _ _ _ _ _ _ _)
      | (with_reducible exact ih7 _ _ _ _)
      | (with_reducible exact bywashref1_rare.mono _ _)
      | (with_reducible exact LeO.refl _)
      | (with_reducible exact LeO.none _)
      | (with_reducible refine LeO.ite ?_ ?_)
      | (with_reducible refine LeO.bind ?_ (fun _ => ?_))
      | exact ih0 _ _ _ _
      | exact ih1 _ _ _ _
      | exact ih2 _ _ _ _ _ _ _
      | exact ih3 _ _ _ _ _ _ _ _
      | exact ih4 _ _ _ _ _ _ _ _
      | exact ih5 _ _ _ _ _ _ _ _
      | exact ih6 _ _ _ _ _ _ _ _
      | exact ih7 _ _ _ _
      | exact bywashref1_rare.mono _ _
      | exact LeO.none _
      | refine LeO.ite ?_ ?_
      | refine LeO.bind ?_ (fun _ => ?_)
set_option maxHeartbeats 8000000 in
set_option maxRecDepth 100000 in
theorem bywashref1_Unsqueeze.calls (k : Nat) (a0 : ByteArray) (r1 : ByteArray) (r2 : Int) (w : World) (h : bywashref1_Unsqueeze.f k a0 = some (r1, r2)) :
    Calls Try.prog 23 #[.string a0] w fun e w' => e = .returned (.tuple #[.string r1, .int .i64 r2]) ∧ Below w.heap.size w w' := by
  have HB := Aside0.mk (Below.refl w.heap.size w)
  have H : (if 0 ≤ (wrap64 (8 * (a0.size : Int))) then (if (wrap64 (8 * (a0.size : Int)) : Int).toNat ≤ 35184372088832 then (bywashref1_Unsqueeze.l0 k a0 (wrap64 (8 * (a0.size : Int))) (List.replicate (wrap64 (8 * (a0.size : Int)) : Int).toNat 0) 0) else (none)) else (none)) = some (r1, r2) := h
  clear h
  obtain ⟨ji2, hji2⟩ : ∃ j_ : Int, (wrap64 (8 * (a0.size : Int))) = j_ := ⟨_, rfl⟩
  replace H : (if 0 ≤ (ji2) then (if (ji2 : Int).toNat ≤ 35184372088832 then (bywashref1_Unsqueeze.l0 k a0 ji2 (List.replicate (ji2 : Int).toNat 0) 0) else (none)) else (none)) = some (r1, r2) := by first | (rw [hji2] at H; exact H) | (simp only [hji2] at H ⊢; exact H)
  have hji2w : (IntKind.i64.wrap (8 * (a0.size : Int))) = ji2 := (i64_w _).trans hji2
  by_cases c3 : 0 ≤ (ji2)
  · rw [if_pos c3] at H
    have c3b0 := eq_true c3
    have c3b1 : decide (0 ≤ (ji2)) = true := decide_eq_true c3
    clear c3
    by_cases c4 : (ji2 : Int).toNat ≤ 35184372088832
    · rw [if_pos c4] at H
      have c4b0 := eq_true c4
      have c4b1 : decide ((ji2 : Int).toNat ≤ 35184372088832) = true := decide_eq_true c4
      clear c4
      obtain ⟨y139, hy139⟩ : ∃ y_ : List Int, y_ = (List.replicate (ji2 : Int).toNat 0) := ⟨_, rfl⟩
      replace H : (bywashref1_Unsqueeze.l0 k a0 ji2 y139 0) = some (r1, r2) := by first | (rw [hy139]; with_reducible exact H) | (have H2_ := (Option.bind_some _ _).symm.trans H; rw [hy139]; with_reducible exact H2_) | (have H2_ := (Option.bind_some _ _).symm.trans H; with_reducible exact H2_) | with_reducible exact H | (rw [hy139]; exact H) | exact H
      have Ny139 := Aside0.mk hy139
      clear hy139
      have H' := Aside0.mk H
      clear H
      go_enter Try.func23, Try.ntmps23
      go_wp2_with (first | ((with_reducible refine gate_dst (N := 16) rfl ?_); refine Kd.R_make (Kd.int .i64) _ 3 rfl (N := 16) rfl 51 _ _ rfl ji2 rfl rfl Try.underlying51 (.int .i64 0) 8 info3 rfl (by decide) (by omega) 0 (ok := fun _ => True) (okp := fun _ => True) rfl (fun _ hk => hk) trivial (of_decide_eq_true (by first | (with_reducible assumption) | assumption)) (Nat.le_trans (Nat.mul_le_mul_right _ (of_decide_eq_true (by first | (with_reducible assumption) | assumption) : ji2.toNat ≤ 35184372088832)) (by omega)) (Below.refl _ _) (Nat.le_refl _) ?_; intro v140 w5 ho6 hb hg_ hnew_; clear hg_ hnew_; (first | rw [← Ny139.out] at ho6 | (simp only [Int.reduceToNat] at ho6; rw [← Ny139.out] at ho6)); have n0_ := Aside0.mk (Kd.R_lower ho6 (below_size (by repeat (first | (with_reducible first | exact HB.out | apply below_alloc | apply pw_below_drewN | apply below_drew1) | exact HB.out)))); have n1_ := Aside0.mk (below_step (by repeat (first | (with_reducible first | exact HB.out | apply below_alloc | apply pw_below_drewN | apply below_drew1) | exact HB.out)) hb); clear HB; have HO141 := n0_; have HB := n1_; clear n0_ n1_; clear hb ho6))
      go_loopg [6] k (fun kq v6 w' => ∃ (x5_1 : List Int) (x6_1 : Int), v6 = .int .i64 x6_1 ∧ Aside0 (bywashref1_Unsqueeze.l0 kq a0 ji2 x5_1 x6_1 = some (r1, r2)) ∧ Aside0 (kq ≤ k) ∧ Aside0 (Kd.R (Kd.int .i64) 3 w' w.heap.size (fun _ => True) v140 x5_1) ∧ Aside0 (Below w.heap.size w w'))
      case atStart => exact ⟨(y139), (0), (by first | rfl | (simp; done) | (simp [*]; done)), H', ⟨Nat.le_refl _⟩, ⟨by (with_reducible repeat (first | apply Kd.R_alloc | apply Kd.R_drewN | apply Kd.R_drew)); exact HO141.out⟩, ⟨by repeat (first | (with_reducible first | exact HB.out | apply below_alloc | apply pw_below_drewN | apply below_drew1) | exact HB.out)⟩⟩
      case round =>
        clear H'
        try clear c2
        try clear p2
        try clear c3
        try clear c3b0
        try clear c3b1
        try clear c4
        try clear c4b0
        try clear c4b1
        try clear p6
        obtain ⟨x5_1, x6_1, rfl, HA, HK1, HO_5, HB⟩ := hrel
        cases gk with
        | zero => exact absurd HA.out (by simp [bywashref1_Unsqueeze.l0])
        | succ k1 =>
          have H := HA.out
          clear HA
          simp only [bywashref1_Unsqueeze.l0] at H
          by_cases c7 : x6_1 < ji2
          · rw [if_pos c7] at H
            have c7b0 : decide (x6_1 < ji2) = true := decide_eq_true c7
            clear c7
            obtain ⟨ji8, hji8⟩ : ∃ j_ : Int, (wrap64 (Int.tdiv x6_1 8)) = j_ := ⟨_, rfl⟩
            replace H : (if 0 ≤ (ji8) then (if (ji8) < (a0.size : Int) then (if 0 ≤ (IntKind.u64.wrap (wrap64 (7 - (Int.tmod x6_1 8)))) then (if 0 ≤ x6_1 then (if x6_1 < (x5_1.length : Int) then (bywashref1_Unsqueeze.l0 k1 a0 ji2 (x5_1.set (x6_1 : Int).toNat (Go.bits .and .i64 (shr .i64 (wrap64 (bt a0 (ji8))) (IntKind.u64.wrap (wrap64 (7 - (Int.tmod x6_1 8))))) 1)) (wrap64 (x6_1 + 1))) else (none)) else (none)) else (none)) else (none)) else (none)) = some (r1, r2) := by first | (rw [hji8] at H; exact H) | (simp only [hji8] at H ⊢; exact H)
            have hji8w : (IntKind.i64.wrap (Int.tdiv x6_1 8)) = ji8 := (i64_w _).trans hji8
            by_cases c9 : 0 ≤ (ji8)
            · rw [if_pos c9] at H
              have c9b0 : decide (0 ≤ (ji8)) = true := decide_eq_true c9
              clear c9
              by_cases c10 : (ji8) < (a0.size : Int)
              · rw [if_pos c10] at H
                have c10b0 : decide ((ji8) < (a0.size : Int)) = true := decide_eq_true c10
                clear c10
                obtain ⟨ji12, hji12⟩ : ∃ j_ : Int, (IntKind.u64.wrap (wrap64 (7 - (Int.tmod x6_1 8)))) = j_ := ⟨_, rfl⟩
                replace H : (if 0 ≤ (ji12) then (if 0 ≤ x6_1 then (if x6_1 < (x5_1.length : Int) then (bywashref1_Unsqueeze.l0 k1 a0 ji2 (x5_1.set (x6_1 : Int).toNat (Go.bits .and .i64 (shr .i64 (wrap64 (bt a0 (ji8))) (ji12)) 1)) (wrap64 (x6_1 + 1))) else (none)) else (none)) else (none)) = some (r1, r2) := by first | (rw [hji12] at H; exact H) | (simp only [hji12] at H ⊢; exact H)
                by_cases c13 : 0 ≤ (ji12)
                · rw [if_pos c13] at H
                  have c13b0 := eq_true c13
                  have c13b1 : decide (0 ≤ (ji12)) = true := decide_eq_true c13
                  clear c13
                  obtain ⟨ji14, hji14⟩ : ∃ j_ : Int, (shr .i64 (wrap64 (bt a0 (ji8))) (ji12)) = j_ := ⟨_, rfl⟩
                  replace H : (if 0 ≤ x6_1 then (if x6_1 < (x5_1.length : Int) then (bywashref1_Unsqueeze.l0 k1 a0 ji2 (x5_1.set (x6_1 : Int).toNat (Go.bits .and .i64 (ji14) 1)) (wrap64 (x6_1 + 1))) else (none)) else (none)) = some (r1, r2) := by first | (rw [hji14] at H; exact H) | (simp only [hji14] at H ⊢; exact H)
                  have hji14_ : ((wrap64 (bt a0 (ji8))) / 2 ^ min (ji12).toNat 64) = ji14 := hji14
                  have hji14z : (ji12) ≤ 64 → ((wrap64 (bt a0 (ji8))) / 2 ^ (ji12).toNat) = ji14 := shr_small hji14
                  by_cases c15 : 0 ≤ x6_1
                  · rw [if_pos c15] at H
                    have c15b0 : decide (0 ≤ x6_1) = true := decide_eq_true c15
                    clear c15
                    by_cases c16 : x6_1 < (x5_1.length : Int)
                    · rw [if_pos c16] at H
                      have c16b0 : decide (x6_1 < (x5_1.length : Int)) = true := decide_eq_true c16
                      clear c16
                      obtain ⟨y142, hy142⟩ : ∃ y_ : List Int, y_ = (x5_1.set (x6_1 : Int).toNat (Go.bits .and .i64 (ji14) 1)) := ⟨_, rfl⟩
                      replace H : (bywashref1_Unsqueeze.l0 k1 a0 ji2 y142 (wrap64 (x6_1 + 1))) = some (r1, r2) := by first | (rw [hy142]; with_reducible exact H) | (have H2_ := (Option.bind_some _ _).symm.trans H; rw [hy142]; with_reducible exact H2_) | (have H2_ := (Option.bind_some _ _).symm.trans H; with_reducible exact H2_) | with_reducible exact H | (rw [hy142]; exact H) | exact H
                      have Ny142 := Aside0.mk hy142
                      clear hy142
                      have H' := Aside0.mk H
                      clear H
                      have p11 : 0 ≤ ((ji8) : Int) := of_decide_eq_true (by first | (with_reducible assumption) | assumption)
                      have q11 : (ji8) < (a0.size : Int) := of_decide_eq_true (by first | (with_reducible assumption) | assumption)
                      have hx11 := bt_at a0 (ji8)
                      replace p11 := eq_true p11
                      replace q11 := eq_true q11
                      have p17 : 0 ≤ (x6_1 : Int) := of_decide_eq_true (by first | (with_reducible assumption) | assumption)
                      have q17 : (x6_1 : Int) < ((x5_1.length : Int) : Int) := of_decide_eq_true (by first | (with_reducible assumption) | assumption)
                      obtain ⟨go17, co17, eo17, gb17, gl17, cl17, HG17⟩ := Kd.R_form HO_5.out (by omega)
                      (first | cases eo17 | (injection eo17 with ea_ en_ ec_; (first | subst ea_ | (injection ea_ with ea_; subst ea_)); subst ec_; clear en_))
                      have GB17 := Aside0.mk gb17
                      have GG17 := Aside0.mk HG17
                      clear gb17 gl17 HG17
                      obtain ⟨hx17_0, hf17_0⟩ := Kd.R_celln 0 HO_5.out (x6_1 : Int) p17 q17
                      replace p17 := eq_true p17
                      replace q17 := eq_true q17
                      have HP18 := Kd.R_putg HO_5.out (x6_1 : Int) (Go.bits .and .i64 (ji14) 1)
                      go_wp2_with (first | ((with_reducible refine gate_store (t := 3) (p := 35) rfl ?_); refine store_event (t := 3) (p := 35) (v := ?vo_w19) (w1 := (wr.setCell ⟨go17, (x6_1 : Int).toNat, none⟩ (.int .i64 (Go.bits .and .i64 (ji14) 1)))) ?hg ?ho ?hn ?hr ?_; (case ho => rfl); (case hg => rfl); (case hn => rfl); (case hr => first | (go_simp; done) | (go_simp; rfl)); intro w19 hw; have hg : wr.grownBy w19 (some go17) := (by rw [hw]; exact HP18.2); have hp_ : Kd.R (Kd.int .i64) 3 w19 w.heap.size (fun _ => True) (.slice (some ⟨go17, 0, none⟩) x5_1.length co17) y142 := (by rw [hw, Ny142.out]; exact HP18.1); clear HP18; have n0_ := Aside0.mk (hp_); have n1_ := Aside0.mk ((by rw [hw]; exact below_set (HB.out) GB17.out : Below w.heap.size w w19)); clear HO_5; clear HB; have HO_5 := n0_; have HB := n1_; clear n0_ n1_; clear hg hw hp_))
                      go_roundg k1
                      case measure => have := HK1.out; omega
                      case rel => exact ⟨(y142), (wrap64 (x6_1 + 1)), (by first | rfl | (simp; done) | (simp [*]; done)), H', ⟨by have := HK1.out; omega⟩, ⟨by (with_reducible repeat (first | apply Kd.R_alloc | apply Kd.R_drewN | apply Kd.R_drew)); exact HO_5.out⟩, ⟨by repeat (first | (with_reducible first | exact HB.out | apply below_alloc | apply pw_below_drewN | apply below_drew1) | exact HB.out)⟩⟩
                    · rw [if_neg c16] at H
                      exact absurd H (by simp)
                  · rw [if_neg c15] at H
                    exact absurd H (by simp)
                · rw [if_neg c13] at H
                  exact absurd H (by simp)
              · rw [if_neg c10] at H
                exact absurd H (by simp)
            · rw [if_neg c9] at H
              exact absurd H (by simp)
          · rw [if_neg c7] at H
            have c7b0 : decide (x6_1 < ji2) = false := decide_eq_false c7
            clear c7
            have H' := Aside0.mk H
            clear H
            go_wp2
            go_loopg [7, 8] k1 (fun kq v7 v8 w' => ∃ (x7_2 : List Int) (x8_2 : Int), v8 = .int .i64 x8_2 ∧ Aside0 (bywashref1_Unsqueeze.l1 kq ji2 x5_1 x7_2 x8_2 = some (r1, r2)) ∧ Aside0 (kq ≤ k1) ∧ Aside0 (Kd.R (Kd.int .i64) 3 w' w.heap.size (fun _ => True) v140 x5_1) ∧ Aside0 (Kd.R (Kd.int .u8) 5 w' w.heap.size (fun _ => True) v7 x7_2) ∧ Aside0 (Below w.heap.size w w'))
            case atStart => exact ⟨(([] : List Int)), (0), (by first | rfl | (simp; done) | (simp [*]; done)), H', ⟨Nat.le_refl _⟩, ⟨by (with_reducible repeat (first | apply Kd.R_alloc | apply Kd.R_drewN | apply Kd.R_drew)); exact HO_5.out⟩, ⟨by first | exact Kd.R_nil _ _ _ _ _ | exact Kd.N_nil _ _ _ _ _ | exact Kd.V_nil _ _ _ _ _ | exact Kd.Q_nil _ _ _ _ _ | exact Kd.S_nil _ _ _ _ _⟩, ⟨by repeat (first | (with_reducible first | exact HB.out | apply below_alloc | apply pw_below_drewN | apply below_drew1) | exact HB.out)⟩⟩
            case round =>
              clear H'
              try clear c1
              try clear p1
              try clear q1
              try clear hx1
              try clear hf1
              try clear c2
              try clear p2
              try clear c3
              try clear c3b0
              try clear c3b1
              try clear c4
              try clear c4b0
              try clear c4b1
              try clear p6
              try clear c7
              try clear c7b0
              try clear c9
              try clear c9b0
              try clear c10
              try clear c10b0
              try clear p11
              try clear q11
              try clear hx11
              try clear c13
              try clear c13b0
              try clear c13b1
              try clear c15
              try clear c15b0
              try clear c16
              try clear c16b0
              try clear p17
              try clear q17
              try clear hx17
              try clear hf17
              try clear hx17_0
              try clear p11
              try clear p17
              try clear p2
              try clear p6
              try clear q11
              try clear q17
              obtain ⟨x7_2, x8_2, rfl, HA, HK2, HO_5, HO_7, HB⟩ := hrel
              cases gk with
              | zero => exact absurd HA.out (by simp [bywashref1_Unsqueeze.l1])
              | succ k2 =>
                have H := HA.out
                clear HA
                simp only [bywashref1_Unsqueeze.l1] at H
                by_cases c20 : x8_2 < ji2
                · rw [if_pos c20] at H
                  have c20b0 : decide (x8_2 < ji2) = true := decide_eq_true c20
                  clear c20
                  have H' := Aside0.mk H
                  clear H
                  go_wp2
                  go_loopg [7, 8, 9, 10, 11] k2 (fun kq v7 v8 v9 v10 v11 w' => ∃ (x7_3 : List Int) (x8_3 : Int) (x9_3 : Int) (x10_3 : Bool) (x11_3 : Int), v8 = .int .i64 x8_3 ∧ v9 = .int .i64 x9_3 ∧ v10 = .bool x10_3 ∧ v11 = .int .i64 x11_3 ∧ Aside0 (bywashref1_Unsqueeze.l2 kq ji2 x5_1 x7_3 x8_3 x9_3 x10_3 x11_3 = some (r1, r2)) ∧ Aside0 (kq ≤ k2) ∧ Aside0 (Kd.R (Kd.int .i64) 3 w' w.heap.size (fun _ => True) v140 x5_1) ∧ Aside0 (Kd.R (Kd.int .u8) 5 w' w.heap.size (fun _ => True) v7 x7_3) ∧ Aside0 (Below w.heap.size w w'))
                  case atStart => exact ⟨(x7_2), (x8_2), (0), (false), (1), (by first | rfl | (simp; done) | (simp [*]; done)), (by first | rfl | (simp; done) | (simp [*]; done)), (by first | rfl | (simp; done) | (simp [*]; done)), (by first | rfl | (simp; done) | (simp [*]; done)), H', ⟨Nat.le_refl _⟩, ⟨by (with_reducible repeat (first | apply Kd.R_alloc | apply Kd.R_drewN | apply Kd.R_drew)); exact HO_5.out⟩, ⟨by (with_reducible repeat (first | apply Kd.R_alloc | apply Kd.R_drewN | apply Kd.R_drew)); exact HO_7.out⟩, ⟨by repeat (first | (with_reducible first | exact HB.out | apply below_alloc | apply pw_below_drewN | apply below_drew1) | exact HB.out)⟩⟩
                  case round =>
                    clear H'
                    try clear c1
                    try clear p1
                    try clear q1
                    try clear hx1
                    try clear hf1
                    try clear c2
                    try clear p2
                    try clear c3
                    try clear c3b0
                    try clear c3b1
                    try clear c4
                    try clear c4b0
                    try clear c4b1
                    try clear p6
                    try clear c7
                    try clear c7b0
                    try clear c9
                    try clear c9b0
                    try clear c10
                    try clear c10b0
                    try clear p11
                    try clear q11
                    try clear hx11
                    try clear c13
                    try clear c13b0
                    try clear c13b1
                    try clear c15
                    try clear c15b0
                    try clear c16
                    try clear c16b0
                    try clear p17
                    try clear q17
                    try clear hx17
                    try clear hf17
                    try clear c20
                    try clear c20b0
                    try clear hx17_0
                    try clear p1
                    try clear p11
                    try clear p17
                    try clear p2
                    try clear p6
                    try clear q1
                    try clear q11
                    try clear q17
                    obtain ⟨x7_3, x8_3, x9_3, x10_3, x11_3, rfl, rfl, rfl, rfl, HA, HK3, HO_5, HO_7, HB⟩ := hrel
                    cases gk with
                    | zero => exact absurd HA.out (by simp [bywashref1_Unsqueeze.l2])
                    | succ k3 =>
                      have H := HA.out
                      clear HA
                      simp only [bywashref1_Unsqueeze.l2] at H
                      have HC21 := Aside0.mk H
                      clear H
                      go_upto_region 12 with (fail)
                      go_cut [51] (fun v51 wc => ∃ (kq : Nat) (x51_20 : Bool), v51 = .bool x51_20 ∧ Aside0 (bywashref1_Unsqueeze.j3 kq ji2 x5_1 x7_3 x8_3 x9_3 x10_3 x11_3 x51_20 = some (r1, r2)) ∧ Aside0 (kq ≤ k3) ∧ Aside0 (Kd.R (Kd.int .i64) 3 wc w.heap.size (fun _ => True) v140 x5_1) ∧ Aside0 (Kd.R (Kd.int .u8) 5 wc w.heap.size (fun _ => True) u7 x7_3) ∧ Aside0 (Below w.heap.size w wc))
                      case first =>
                        have H := HC21.out
                        clear HC21
                        by_cases c22 : x11_3 ≤ 10
                        · rw [if_pos c22] at H
                          have c22b0 : decide (x11_3 ≤ 10) = true := decide_eq_true c22
                          clear c22
                          (first | rw [c22b0] | (simp only [i64_w, i32_w]; rw [c22b0]) | skip)
                          by_cases c23 : (wrap64 (x8_3 + x11_3)) ≤ ji2
                          · rw [if_pos c23] at H
                            have c23b0 : decide ((wrap64 (x8_3 + x11_3)) ≤ ji2) = true := decide_eq_true c23
                            clear c23
                            have H' := Aside0.mk H
                            clear H
                            go_wp2
                            go_meet
                            case rel => exact ⟨_, (!x10_3), (by first | rfl | (simp; done) | (simp [*]; done)), H', ⟨by have := HK1.out; have := HK2.out; have := HK3.out; first | omega | exact Nat.le_refl _⟩, ⟨by (with_reducible repeat (first | apply Kd.R_alloc | apply Kd.R_drewN | apply Kd.R_drew)); exact HO_5.out⟩, ⟨by (with_reducible repeat (first | apply Kd.R_alloc | apply Kd.R_drewN | apply Kd.R_drew)); exact HO_7.out⟩, ⟨by repeat (first | (with_reducible first | exact HB.out | apply below_alloc | apply pw_below_drewN | apply below_drew1) | exact HB.out)⟩⟩
                          · rw [if_neg c23] at H
                            have c23b0 : decide ((wrap64 (x8_3 + x11_3)) ≤ ji2) = false := decide_eq_false c23
                            clear c23
                            have H' := Aside0.mk H
                            clear H
                            go_wp2
                            go_meet
                            case rel => exact ⟨_, (false), (by first | rfl | (simp; done) | (simp [*]; done)), H', ⟨by have := HK1.out; have := HK2.out; have := HK3.out; first | omega | exact Nat.le_refl _⟩, ⟨by (with_reducible repeat (first | apply Kd.R_alloc | apply Kd.R_drewN | apply Kd.R_drew)); exact HO_5.out⟩, ⟨by (with_reducible repeat (first | apply Kd.R_alloc | apply Kd.R_drewN | apply Kd.R_drew)); exact HO_7.out⟩, ⟨by repeat (first | (with_reducible first | exact HB.out | apply below_alloc | apply pw_below_drewN | apply below_drew1) | exact HB.out)⟩⟩
                        · rw [if_neg c22] at H
                          have c22b0 : decide (x11_3 ≤ 10) = false := decide_eq_false c22
                          clear c22
                          (first | rw [c22b0] | (simp only [i64_w, i32_w]; rw [c22b0]) | skip)
                          have H' := Aside0.mk H
                          clear H
                          go_wp2
                          go_meet
                          case rel => exact ⟨_, (false), (by first | rfl | (simp; done) | (simp [*]; done)), H', ⟨by have := HK1.out; have := HK2.out; have := HK3.out; first | omega | exact Nat.le_refl _⟩, ⟨by (with_reducible repeat (first | apply Kd.R_alloc | apply Kd.R_drewN | apply Kd.R_drew)); exact HO_5.out⟩, ⟨by (with_reducible repeat (first | apply Kd.R_alloc | apply Kd.R_drewN | apply Kd.R_drew)); exact HO_7.out⟩, ⟨by repeat (first | (with_reducible first | exact HB.out | apply below_alloc | apply pw_below_drewN | apply below_drew1) | exact HB.out)⟩⟩
                      case rest =>
                        clear HC21
                        try clear c1
                        try clear p1
                        try clear q1
                        try clear hx1
                        try clear hf1
                        try clear c2
                        try clear p2
                        try clear c3
                        try clear c3b0
                        try clear c3b1
                        try clear c4
                        try clear c4b0
                        try clear c4b1
                        try clear p6
                        try clear c7
                        try clear c7b0
                        try clear c9
                        try clear c9b0
                        try clear c10
                        try clear c10b0
                        try clear p11
                        try clear q11
                        try clear hx11
                        try clear c13
                        try clear c13b0
                        try clear c13b1
                        try clear c15
                        try clear c15b0
                        try clear c16
                        try clear c16b0
                        try clear p17
                        try clear q17
                        try clear hx17
                        try clear hf17
                        try clear c20
                        try clear c20b0
                        try clear c22
                        try clear c22b0
                        try clear c23
                        try clear c23b0
                        try clear hx17_0
                        try clear p1
                        try clear p11
                        try clear p17
                        try clear p2
                        try clear p6
                        try clear q1
                        try clear q11
                        try clear q17
                        obtain ⟨kq, x51_20, rfl, HA, HJ20, HO_5, HO_7, HB⟩ := hcut
                        cases kq with
                        | zero => exact absurd HA.out (by simp [bywashref1_Unsqueeze.j3])
                        | succ kj20 =>
                          have H := HA.out
                          clear HA
                          simp only [bywashref1_Unsqueeze.j3] at H
                          by_cases c24 : x51_20 = true
                          · subst c24
                            have H1 : (if 0 ≤ (wrap64 ((wrap64 (x8_3 + x11_3)) - 1)) then (if (wrap64 ((wrap64 (x8_3 + x11_3)) - 1)) < (x5_1.length : Int) then (if x11_3 = 5 then (bywashref1_Unsqueeze.j4 kj20 ji2 x5_1 x7_3 x8_3 (wrap64 ((wrap64 (x9_3 * 2)) + (rd x5_1 (wrap64 ((wrap64 (x8_3 + x11_3)) - 1))))) x10_3 x11_3 (decide ((wrap64 ((wrap64 (x9_3 * 2)) + (rd x5_1 (wrap64 ((wrap64 (x8_3 + x11_3)) - 1))))) < 16))) else (bywashref1_Unsqueeze.j4 kj20 ji2 x5_1 x7_3 x8_3 (wrap64 ((wrap64 (x9_3 * 2)) + (rd x5_1 (wrap64 ((wrap64 (x8_3 + x11_3)) - 1))))) x10_3 x11_3 false)) else (none)) else (none)) = some (r1, r2) := by rw [if_pos rfl] at H; exact H
                            clear H
                            have H := H1
                            clear H1
                            obtain ⟨ji25, hji25⟩ : ∃ j_ : Int, (wrap64 ((wrap64 (x8_3 + x11_3)) - 1)) = j_ := ⟨_, rfl⟩
                            replace H : (if 0 ≤ (ji25) then (if (ji25) < (x5_1.length : Int) then (if x11_3 = 5 then (bywashref1_Unsqueeze.j4 kj20 ji2 x5_1 x7_3 x8_3 (wrap64 ((wrap64 (x9_3 * 2)) + (rd x5_1 (ji25)))) x10_3 x11_3 (decide ((wrap64 ((wrap64 (x9_3 * 2)) + (rd x5_1 (ji25)))) < 16))) else (bywashref1_Unsqueeze.j4 kj20 ji2 x5_1 x7_3 x8_3 (wrap64 ((wrap64 (x9_3 * 2)) + (rd x5_1 (ji25)))) x10_3 x11_3 false)) else (none)) else (none)) = some (r1, r2) := by first | (rw [hji25] at H; exact H) | (simp only [hji25] at H ⊢; exact H)
                            have hji25w : (IntKind.i64.wrap ((wrap64 (x8_3 + x11_3)) - 1)) = ji25 := (i64_w _).trans hji25
                            by_cases c26 : 0 ≤ (ji25)
                            · rw [if_pos c26] at H
                              have c26b0 : decide (0 ≤ (ji25)) = true := decide_eq_true c26
                              clear c26
                              by_cases c27 : (ji25) < (x5_1.length : Int)
                              · rw [if_pos c27] at H
                                have c27b0 : decide ((ji25) < (x5_1.length : Int)) = true := decide_eq_true c27
                                clear c27
                                have HC28 := Aside0.mk H
                                clear H
                                obtain ⟨Ao29, co29, eo29⟩ := Kd.R_slice HO_5.out
                                subst eo29
                                have p143 : 0 ≤ ((ji25) : Int) := of_decide_eq_true (by first | (with_reducible assumption) | assumption)
                                have q143 : (ji25) < (x5_1.length : Int) := of_decide_eq_true (by first | (with_reducible assumption) | assumption)
                                obtain ⟨ad143, e143, hx143_0⟩ := Kd.at_int (Kd.R_reads' HO_5.out).2.2 (ji25) p143 q143
                                cases e143
                                replace p143 := eq_true p143
                                replace q143 := eq_true q143
                                go_upto_region 15 with (fail)
                                go_cut [64] (fun v64 wc => ∃ (kq : Nat) (x64_27 : Bool), v64 = .bool x64_27 ∧ Aside0 (bywashref1_Unsqueeze.j4 kq ji2 x5_1 x7_3 x8_3 (wrap64 ((wrap64 (x9_3 * 2)) + (rd x5_1 (ji25)))) x10_3 x11_3 x64_27 = some (r1, r2)) ∧ Aside0 (kq ≤ kj20) ∧ Aside0 (Kd.R (Kd.int .i64) 3 wc w.heap.size (fun _ => True) (.slice (some ad143) x5_1.length co29) x5_1) ∧ Aside0 (Kd.R (Kd.int .u8) 5 wc w.heap.size (fun _ => True) u7 x7_3) ∧ Aside0 (Below w.heap.size w wc))
                                case first =>
                                  have H := HC28.out
                                  clear HC28
                                  by_cases c30 : x11_3 = 5
                                  · rw [if_pos c30] at H
                                    have c30b0 : (x11_3 == 5) = true := beq_iff_eq.mpr c30
                                    have c30b1 : (x11_3 != 5) = false := bne_eq_false_iff_eq.mpr c30
                                    clear c30
                                    (first | rw [c30b0] | (simp only [i64_w, i32_w]; rw [c30b0]) | skip)
                                    have H' := Aside0.mk H
                                    clear H
                                    go_wp2
                                    go_meet
                                    case rel => exact ⟨_, (decide ((wrap64 ((wrap64 (x9_3 * 2)) + (rd x5_1 (ji25)))) < 16)), (by first | rfl | (simp; done) | (simp only [← hji25] <;> (first | rfl | simp)) | (simp [*]; done)), H', ⟨by have := HK1.out; have := HK2.out; have := HK3.out; have := HJ20.out; first | omega | exact Nat.le_refl _⟩, ⟨by (with_reducible repeat (first | apply Kd.R_alloc | apply Kd.R_drewN | apply Kd.R_drew)); exact HO_5.out⟩, ⟨by (with_reducible repeat (first | apply Kd.R_alloc | apply Kd.R_drewN | apply Kd.R_drew)); exact HO_7.out⟩, ⟨by repeat (first | (with_reducible first | exact HB.out | apply below_alloc | apply pw_below_drewN | apply below_drew1) | exact HB.out)⟩⟩
                                  · rw [if_neg c30] at H
                                    have c30b0 : (x11_3 == 5) = false := beq_eq_false_iff_ne.mpr c30
                                    have c30b1 : (x11_3 != 5) = true := bne_iff_ne.mpr c30
                                    (first | rw [c30b0] | (simp only [i64_w, i32_w]; rw [c30b0]) | skip)
                                    have H' := Aside0.mk H
                                    clear H
                                    go_wp2
                                    go_meet
                                    case rel => exact ⟨_, (false), (by first | rfl | (simp; done) | (simp [*]; done)), H', ⟨by have := HK1.out; have := HK2.out; have := HK3.out; have := HJ20.out; first | omega | exact Nat.le_refl _⟩, ⟨by (with_reducible repeat (first | apply Kd.R_alloc | apply Kd.R_drewN | apply Kd.R_drew)); exact HO_5.out⟩, ⟨by (with_reducible repeat (first | apply Kd.R_alloc | apply Kd.R_drewN | apply Kd.R_drew)); exact HO_7.out⟩, ⟨by repeat (first | (with_reducible first | exact HB.out | apply below_alloc | apply pw_below_drewN | apply below_drew1) | exact HB.out)⟩⟩
                                case rest =>
                                  clear HC28
                                  try clear c1
                                  try clear p1
                                  try clear q1
                                  try clear hx1
                                  try clear hf1
                                  try clear c2
                                  try clear p2
                                  try clear c3
                                  try clear c3b0
                                  try clear c3b1
                                  try clear c4
                                  try clear c4b0
                                  try clear c4b1
                                  try clear p6
                                  try clear c7
                                  try clear c7b0
                                  try clear c9
                                  try clear c9b0
                                  try clear c10
                                  try clear c10b0
                                  try clear p11
                                  try clear q11
                                  try clear hx11
                                  try clear c13
                                  try clear c13b0
                                  try clear c13b1
                                  try clear p14
                                  try clear q14
                                  try clear hx14
                                  try clear c15
                                  try clear c15b0
                                  try clear c16
                                  try clear c16b0
                                  try clear p17
                                  try clear q17
                                  try clear hx17
                                  try clear hf17
                                  try clear c20
                                  try clear c20b0
                                  try clear c22
                                  try clear c22b0
                                  try clear c23
                                  try clear c23b0
                                  try clear c24
                                  try clear c26
                                  try clear c26b0
                                  try clear c27
                                  try clear c27b0
                                  try clear c30
                                  try clear c30b0
                                  try clear c30b1
                                  try clear hx143_0
                                  try clear hx17_0
                                  try clear p1
                                  try clear p11
                                  try clear p143
                                  try clear p17
                                  try clear p2
                                  try clear p6
                                  try clear q1
                                  try clear q11
                                  try clear q143
                                  try clear q17
                                  obtain ⟨kq, x64_27, rfl, HA, HJ27, HO_5, HO_7, HB⟩ := hcut
                                  cases kq with
                                  | zero => exact absurd HA.out (by simp [bywashref1_Unsqueeze.j4])
                                  | succ kj27 =>
                                    have H := HA.out
                                    clear HA
                                    simp only [bywashref1_Unsqueeze.j4] at H
                                    by_cases c31 : x64_27 = true
                                    · subst c31
                                      have H1 : (if 0 ≤ (wrap64 ((wrap64 (x9_3 * 2)) + (rd x5_1 (ji25)))) then (if (wrap64 ((wrap64 (x9_3 * 2)) + (rd x5_1 (ji25)))) < 16 then (if x7_3.length < 140737488355328 then (bywashref1_Unsqueeze.l2 kj27 ji2 x5_1 (x7_3 ++ [bt (⟨#[48, 49, 50, 51, 52, 53, 54, 55, 56, 57, 97, 101, 105, 111, 115, 116]⟩ : ByteArray) (wrap64 ((wrap64 (x9_3 * 2)) + (rd x5_1 (ji25))))]) (wrap64 (x8_3 + x11_3)) (wrap64 ((wrap64 (x9_3 * 2)) + (rd x5_1 (ji25)))) true (wrap64 (x11_3 + 1))) else (none)) else (none)) else (none)) = some (r1, r2) := by rw [if_pos rfl] at H; exact H
                                      clear H
                                      have H := H1
                                      clear H1
                                      obtain ⟨ji32, hji32⟩ : ∃ j_ : Int, (wrap64 ((wrap64 (x9_3 * 2)) + (rd x5_1 (ji25)))) = j_ := ⟨_, rfl⟩
                                      replace H : (if 0 ≤ (ji32) then (if (ji32) < 16 then (if x7_3.length < 140737488355328 then (bywashref1_Unsqueeze.l2 kj27 ji2 x5_1 (x7_3 ++ [bt (⟨#[48, 49, 50, 51, 52, 53, 54, 55, 56, 57, 97, 101, 105, 111, 115, 116]⟩ : ByteArray) (ji32)]) (wrap64 (x8_3 + x11_3)) (ji32) true (wrap64 (x11_3 + 1))) else (none)) else (none)) else (none)) = some (r1, r2) := by first | (rw [hji32] at H; exact H) | (simp only [hji32] at H ⊢; exact H)
                                      have hji32w : (IntKind.i64.wrap ((wrap64 (x9_3 * 2)) + (rd x5_1 (ji25)))) = ji32 := (i64_w _).trans hji32
                                      by_cases c33 : 0 ≤ (ji32)
                                      · rw [if_pos c33] at H
                                        have c33b0 : decide (0 ≤ (ji32)) = true := decide_eq_true c33
                                        clear c33
                                        by_cases c34 : (ji32) < 16
                                        · rw [if_pos c34] at H
                                          have c34b0 : decide ((ji32) < 16) = true := decide_eq_true c34
                                          clear c34
                                          by_cases c36 : x7_3.length < 140737488355328
                                          · rw [if_pos c36] at H
                                            have LMc36 := Aside0.mk c36
                                            clear c36
                                            obtain ⟨y144, hy144⟩ : ∃ y_ : List Int, y_ = (x7_3 ++ [bt (⟨#[48, 49, 50, 51, 52, 53, 54, 55, 56, 57, 97, 101, 105, 111, 115, 116]⟩ : ByteArray) (ji32)]) := ⟨_, rfl⟩
                                            replace H : (bywashref1_Unsqueeze.l2 kj27 ji2 x5_1 y144 (wrap64 (x8_3 + x11_3)) (ji32) true (wrap64 (x11_3 + 1))) = some (r1, r2) := by first | (rw [hy144]; with_reducible exact H) | (have H2_ := (Option.bind_some _ _).symm.trans H; rw [hy144]; with_reducible exact H2_) | (have H2_ := (Option.bind_some _ _).symm.trans H; with_reducible exact H2_) | with_reducible exact H | (rw [hy144]; exact H) | exact H
                                            have Ny144 := Aside0.mk hy144
                                            clear hy144
                                            have H' := Aside0.mk H
                                            clear H
                                            have p35 : 0 ≤ ((ji32) : Int) := of_decide_eq_true (by first | (with_reducible assumption) | assumption)
                                            have q35 : (ji32) < (16 : Int) := of_decide_eq_true (by first | (with_reducible assumption) | assumption)
                                            have hx35 := bt_at (⟨#[48, 49, 50, 51, 52, 53, 54, 55, 56, 57, 97, 101, 105, 111, 115, 116]⟩ : ByteArray) (ji32)
                                            replace p35 := eq_true p35
                                            replace q35 := eq_true q35
                                            go_wp2_with (first | ((with_reducible refine gate_builtin (b := .append) (xs := #[.tmp 71, .tmp 74]) rfl ?_); at_builtin; refine Kd.R_append (Kd.int .u8) (w0 := w) w.heap.size rfl (.tmp 71) (.tmp 74) 32 5 (.int .u8 0) 1 rfl Try.underlying32 info5 rfl (by decide) (by omega) u7 x7_3 (bt (⟨#[48, 49, 50, 51, 52, 53, 54, 55, 56, 57, 97, 101, 105, 111, 115, 116]⟩ : ByteArray) (ji32)) [.int .u8 (bt (⟨#[48, 49, 50, 51, 52, 53, 54, 55, 56, 57, 97, 101, 105, 111, 115, 116]⟩ : ByteArray) (ji32))] (fun _ => True) (fun _ => False) rfl rfl ?aP (fun _ hk => hk.elim) ?aF ?aO ?aB ?aS ?aL ?_; (case aP => exact rfl); (case aB => exact (by repeat (first | (with_reducible first | exact HB.out | apply below_alloc | apply pw_below_drewN | apply below_drew1) | exact HB.out))); (case aF => exact (fun _ _ => trivial)); (case aO => exact (by (with_reducible repeat (first | apply Kd.R_alloc | apply Kd.R_drewN | apply Kd.R_drew)); exact HO_7.out)); (case aS => exact (below_size (by repeat (first | (with_reducible first | exact HB.out | apply below_alloc | apply pw_below_drewN | apply below_drew1) | exact HB.out)))); (case aL => have := LMc36.out; omega); intro v145 w37 ho hb hg hat; rw [← Ny144.out] at ho; have n0_ := Aside0.mk (Kd.R_over' (by (with_reducible repeat (first | apply Kd.R_alloc | apply Kd.R_drewN | apply Kd.R_drew)); exact HO_5.out) (Kd.R_typed (by (with_reducible repeat (first | apply Kd.R_alloc | apply Kd.R_drewN | apply Kd.R_drew)); exact HO_7.out)) (by decide) hg); have n1_ := Aside0.mk (hb); have n2_ := Aside0.mk (ho); clear HO_5; clear HB; clear HO_7; have HO_5 := n0_; have HB := n1_; have HO146 := n2_; clear n0_ n1_ n2_; clear ho hb hg hat))
                                            go_roundg kj27
                                            case measure => have := HK1.out; have := HK2.out; have := HK3.out; have := HJ20.out; have := HJ27.out; omega
                                            case rel => exact ⟨(y144), (wrap64 (x8_3 + x11_3)), ((ji32)), (true), (wrap64 (x11_3 + 1)), (by first | rfl | (simp; done) | (simp [*]; done)), (by first | rfl | (simp; done) | (simp only [← hji32] <;> (first | rfl | simp)) | (simp [*]; done)), (by first | rfl | (simp; done) | (simp [*]; done)), (by first | rfl | (simp; done) | (simp [*]; done)), H', ⟨by have := HK1.out; have := HK2.out; have := HK3.out; have := HJ20.out; have := HJ27.out; omega⟩, ⟨by (with_reducible repeat (first | apply Kd.R_alloc | apply Kd.R_drewN | apply Kd.R_drew)); exact HO_5.out⟩, ⟨by (with_reducible repeat (first | apply Kd.R_alloc | apply Kd.R_drewN | apply Kd.R_drew)); exact HO146.out⟩, ⟨by repeat (first | (with_reducible first | exact HB.out | apply below_alloc | apply pw_below_drewN | apply below_drew1) | exact HB.out)⟩⟩
                                          · rw [if_neg c36] at H
                                            exact absurd H (by simp)
                                        · rw [if_neg c34] at H
                                          exact absurd H (by simp)
                                      · rw [if_neg c33] at H
                                        exact absurd H (by simp)
                                    · replace c31 := Bool.eq_false_iff.mpr c31
                                      subst c31
                                      have H1 : (if x11_3 = 7 then (if (wrap64 ((wrap64 (x9_3 * 2)) + (rd x5_1 (ji25)))) ≥ 64 then (bywashref1_Unsqueeze.j5 kj27 ji2 x5_1 x7_3 x8_3 (wrap64 ((wrap64 (x9_3 * 2)) + (rd x5_1 (ji25)))) x10_3 x11_3 (decide ((wrap64 ((wrap64 (x9_3 * 2)) + (rd x5_1 (ji25)))) < 96))) else (bywashref1_Unsqueeze.j5 kj27 ji2 x5_1 x7_3 x8_3 (wrap64 ((wrap64 (x9_3 * 2)) + (rd x5_1 (ji25)))) x10_3 x11_3 false)) else (bywashref1_Unsqueeze.j5 kj27 ji2 x5_1 x7_3 x8_3 (wrap64 ((wrap64 (x9_3 * 2)) + (rd x5_1 (ji25)))) x10_3 x11_3 false)) = some (r1, r2) := by rw [if_neg (show ¬ (false = true) by decide)] at H; exact H
                                      clear H
                                      have H := H1
                                      clear H1
                                      have HC38 := Aside0.mk H
                                      clear H
                                      go_upto_region 18 with (fail)
                                      go_cut [76] (fun v76 wc => ∃ (kq : Nat) (x76_37 : Bool), v76 = .bool x76_37 ∧ Aside0 (bywashref1_Unsqueeze.j5 kq ji2 x5_1 x7_3 x8_3 (wrap64 ((wrap64 (x9_3 * 2)) + (rd x5_1 (ji25)))) x10_3 x11_3 x76_37 = some (r1, r2)) ∧ Aside0 (kq ≤ kj27) ∧ Aside0 (Kd.R (Kd.int .i64) 3 wc w.heap.size (fun _ => True) (.slice (some ad143) x5_1.length co29) x5_1) ∧ Aside0 (Kd.R (Kd.int .u8) 5 wc w.heap.size (fun _ => True) u7 x7_3) ∧ Aside0 (Below w.heap.size w wc))
                                      case first =>
                                        have H := HC38.out
                                        clear HC38
                                        by_cases c39 : x11_3 = 7
                                        · rw [if_pos c39] at H
                                          have c39b0 : (x11_3 == 7) = true := beq_iff_eq.mpr c39
                                          have c39b1 : (x11_3 != 7) = false := bne_eq_false_iff_eq.mpr c39
                                          clear c39
                                          (first | rw [c39b0] | (simp only [i64_w, i32_w]; rw [c39b0]) | skip)
                                          by_cases c40 : (wrap64 ((wrap64 (x9_3 * 2)) + (rd x5_1 (ji25)))) ≥ 64
                                          · rw [if_pos c40] at H
                                            have c40b0 : decide (64 ≤ (wrap64 ((wrap64 (x9_3 * 2)) + (rd x5_1 (ji25))))) = true := decide_eq_true c40
                                            clear c40
                                            have H' := Aside0.mk H
                                            clear H
                                            go_wp2
                                            go_meet
                                            case rel => exact ⟨_, (decide ((wrap64 ((wrap64 (x9_3 * 2)) + (rd x5_1 (ji25)))) < 96)), (by first | rfl | (simp; done) | (simp only [← hji25] <;> (first | rfl | simp)) | (simp [*]; done)), H', ⟨by have := HK1.out; have := HK2.out; have := HK3.out; have := HJ20.out; have := HJ27.out; first | omega | exact Nat.le_refl _⟩, ⟨by (with_reducible repeat (first | apply Kd.R_alloc | apply Kd.R_drewN | apply Kd.R_drew)); exact HO_5.out⟩, ⟨by (with_reducible repeat (first | apply Kd.R_alloc | apply Kd.R_drewN | apply Kd.R_drew)); exact HO_7.out⟩, ⟨by repeat (first | (with_reducible first | exact HB.out | apply below_alloc | apply pw_below_drewN | apply below_drew1) | exact HB.out)⟩⟩
                                          · rw [if_neg c40] at H
                                            have c40b0 : decide (64 ≤ (wrap64 ((wrap64 (x9_3 * 2)) + (rd x5_1 (ji25))))) = false := decide_eq_false c40
                                            clear c40
                                            have H' := Aside0.mk H
                                            clear H
                                            go_wp2
                                            go_meet
                                            case rel => exact ⟨_, (false), (by first | rfl | (simp; done) | (simp [*]; done)), H', ⟨by have := HK1.out; have := HK2.out; have := HK3.out; have := HJ20.out; have := HJ27.out; first | omega | exact Nat.le_refl _⟩, ⟨by (with_reducible repeat (first | apply Kd.R_alloc | apply Kd.R_drewN | apply Kd.R_drew)); exact HO_5.out⟩, ⟨by (with_reducible repeat (first | apply Kd.R_alloc | apply Kd.R_drewN | apply Kd.R_drew)); exact HO_7.out⟩, ⟨by repeat (first | (with_reducible first | exact HB.out | apply below_alloc | apply pw_below_drewN | apply below_drew1) | exact HB.out)⟩⟩
                                        · rw [if_neg c39] at H
                                          have c39b0 : (x11_3 == 7) = false := beq_eq_false_iff_ne.mpr c39
                                          have c39b1 : (x11_3 != 7) = true := bne_iff_ne.mpr c39
                                          (first | rw [c39b0] | (simp only [i64_w, i32_w]; rw [c39b0]) | skip)
                                          have H' := Aside0.mk H
                                          clear H
                                          go_wp2
                                          go_meet
                                          case rel => exact ⟨_, (false), (by first | rfl | (simp; done) | (simp [*]; done)), H', ⟨by have := HK1.out; have := HK2.out; have := HK3.out; have := HJ20.out; have := HJ27.out; first | omega | exact Nat.le_refl _⟩, ⟨by (with_reducible repeat (first | apply Kd.R_alloc | apply Kd.R_drewN | apply Kd.R_drew)); exact HO_5.out⟩, ⟨by (with_reducible repeat (first | apply Kd.R_alloc | apply Kd.R_drewN | apply Kd.R_drew)); exact HO_7.out⟩, ⟨by repeat (first | (with_reducible first | exact HB.out | apply below_alloc | apply pw_below_drewN | apply below_drew1) | exact HB.out)⟩⟩
                                      case rest =>
                                        clear HC38
                                        try clear c1
                                        try clear p1
                                        try clear q1
                                        try clear hx1
                                        try clear hf1
                                        try clear c2
                                        try clear p2
                                        try clear c3
                                        try clear c3b0
                                        try clear c3b1
                                        try clear p3
                                        try clear q3
                                        try clear hx3
                                        try clear c4
                                        try clear c4b0
                                        try clear c4b1
                                        try clear p6
                                        try clear c7
                                        try clear c7b0
                                        try clear c9
                                        try clear c9b0
                                        try clear c10
                                        try clear c10b0
                                        try clear p11
                                        try clear q11
                                        try clear hx11
                                        try clear c13
                                        try clear c13b0
                                        try clear c13b1
                                        try clear p14
                                        try clear q14
                                        try clear hx14
                                        try clear c15
                                        try clear c15b0
                                        try clear c16
                                        try clear c16b0
                                        try clear p17
                                        try clear q17
                                        try clear hx17
                                        try clear hf17
                                        try clear c20
                                        try clear c20b0
                                        try clear c22
                                        try clear c22b0
                                        try clear c23
                                        try clear c23b0
                                        try clear c24
                                        try clear c26
                                        try clear c26b0
                                        try clear c27
                                        try clear c27b0
                                        try clear c30
                                        try clear c30b0
                                        try clear c30b1
                                        try clear c31
                                        try clear c33
                                        try clear c33b0
                                        try clear c34
                                        try clear c34b0
                                        try clear p35
                                        try clear q35
                                        try clear hx35
                                        try clear c36
                                        try clear c39
                                        try clear c39b0
                                        try clear c39b1
                                        try clear c40
                                        try clear c40b0
                                        try clear hx143_0
                                        try clear hx17_0
                                        try clear p1
                                        try clear p11
                                        try clear p14
                                        try clear p143
                                        try clear p17
                                        try clear p2
                                        try clear p35
                                        try clear p6
                                        try clear q1
                                        try clear q11
                                        try clear q14
                                        try clear q143
                                        try clear q17
                                        try clear q35
                                        obtain ⟨kq, x76_37, rfl, HA, HJ37, HO_5, HO_7, HB⟩ := hcut
                                        cases kq with
                                        | zero => exact absurd HA.out (by simp [bywashref1_Unsqueeze.j5])
                                        | succ kj37 =>
                                          have H := HA.out
                                          clear HA
                                          simp only [bywashref1_Unsqueeze.j5] at H
                                          by_cases c41 : x76_37 = true
                                          · subst c41
                                            have H1 : (if 0 ≤ (wrap64 ((wrap64 ((wrap64 (x9_3 * 2)) + (rd x5_1 (ji25)))) - 64)) then (if (wrap64 ((wrap64 ((wrap64 (x9_3 * 2)) + (rd x5_1 (ji25)))) - 64)) < 32 then (if x7_3.length < 140737488355328 then (bywashref1_Unsqueeze.l2 kj37 ji2 x5_1 (x7_3 ++ [bt (⟨#[32, 33, 37, 38, 40, 41, 42, 43, 44, 45, 46, 47, 58, 59, 61, 63, 64, 95, 98, 99, 100, 102, 103, 104, 108, 109, 110, 112, 114, 117, 118, 119]⟩ : ByteArray) (wrap64 ((wrap64 ((wrap64 (x9_3 * 2)) + (rd x5_1 (ji25)))) - 64))]) (wrap64 (x8_3 + x11_3)) (wrap64 ((wrap64 (x9_3 * 2)) + (rd x5_1 (ji25)))) true (wrap64 (x11_3 + 1))) else (none)) else (none)) else (none)) = some (r1, r2) := by rw [if_pos rfl] at H; exact H
                                            clear H
                                            have H := H1
                                            clear H1
                                            obtain ⟨ji42, hji42⟩ : ∃ j_ : Int, (wrap64 ((wrap64 ((wrap64 (x9_3 * 2)) + (rd x5_1 (ji25)))) - 64)) = j_ := ⟨_, rfl⟩
                                            replace H : (if 0 ≤ (ji42) then (if (ji42) < 32 then (if x7_3.length < 140737488355328 then (bywashref1_Unsqueeze.l2 kj37 ji2 x5_1 (x7_3 ++ [bt (⟨#[32, 33, 37, 38, 40, 41, 42, 43, 44, 45, 46, 47, 58, 59, 61, 63, 64, 95, 98, 99, 100, 102, 103, 104, 108, 109, 110, 112, 114, 117, 118, 119]⟩ : ByteArray) (ji42)]) (wrap64 (x8_3 + x11_3)) (wrap64 ((wrap64 (x9_3 * 2)) + (rd x5_1 (ji25)))) true (wrap64 (x11_3 + 1))) else (none)) else (none)) else (none)) = some (r1, r2) := by first | (rw [hji42] at H; exact H) | (simp only [hji42] at H ⊢; exact H)
                                            have hji42w : (IntKind.i64.wrap ((wrap64 ((wrap64 (x9_3 * 2)) + (rd x5_1 (ji25)))) - 64)) = ji42 := (i64_w _).trans hji42
                                            by_cases c43 : 0 ≤ (ji42)
                                            · rw [if_pos c43] at H
                                              have c43b0 : decide (0 ≤ (ji42)) = true := decide_eq_true c43
                                              clear c43
                                              by_cases c44 : (ji42) < 32
                                              · rw [if_pos c44] at H
                                                have c44b0 : decide ((ji42) < 32) = true := decide_eq_true c44
                                                clear c44
                                                by_cases c46 : x7_3.length < 140737488355328
                                                · rw [if_pos c46] at H
                                                  have LMc46 := Aside0.mk c46
                                                  clear c46
                                                  obtain ⟨y147, hy147⟩ : ∃ y_ : List Int, y_ = (x7_3 ++ [bt (⟨#[32, 33, 37, 38, 40, 41, 42, 43, 44, 45, 46, 47, 58, 59, 61, 63, 64, 95, 98, 99, 100, 102, 103, 104, 108, 109, 110, 112, 114, 117, 118, 119]⟩ : ByteArray) (ji42)]) := ⟨_, rfl⟩
                                                  replace H : (bywashref1_Unsqueeze.l2 kj37 ji2 x5_1 y147 (wrap64 (x8_3 + x11_3)) (wrap64 ((wrap64 (x9_3 * 2)) + (rd x5_1 (ji25)))) true (wrap64 (x11_3 + 1))) = some (r1, r2) := by first | (rw [hy147]; with_reducible exact H) | (have H2_ := (Option.bind_some _ _).symm.trans H; rw [hy147]; with_reducible exact H2_) | (have H2_ := (Option.bind_some _ _).symm.trans H; with_reducible exact H2_) | with_reducible exact H | (rw [hy147]; exact H) | exact H
                                                  have Ny147 := Aside0.mk hy147
                                                  clear hy147
                                                  have H' := Aside0.mk H
                                                  clear H
                                                  have p45 : 0 ≤ ((ji42) : Int) := of_decide_eq_true (by first | (with_reducible assumption) | assumption)
                                                  have q45 : (ji42) < (32 : Int) := of_decide_eq_true (by first | (with_reducible assumption) | assumption)
                                                  have hx45 := bt_at (⟨#[32, 33, 37, 38, 40, 41, 42, 43, 44, 45, 46, 47, 58, 59, 61, 63, 64, 95, 98, 99, 100, 102, 103, 104, 108, 109, 110, 112, 114, 117, 118, 119]⟩ : ByteArray) (ji42)
                                                  replace p45 := eq_true p45
                                                  replace q45 := eq_true q45
                                                  go_wp2_with (first | ((with_reducible refine gate_builtin (b := .append) (xs := #[.tmp 87, .tmp 91]) rfl ?_); at_builtin; refine Kd.R_append (Kd.int .u8) (w0 := w) w.heap.size rfl (.tmp 87) (.tmp 91) 32 5 (.int .u8 0) 1 rfl Try.underlying32 info5 rfl (by decide) (by omega) u7 x7_3 (bt (⟨#[32, 33, 37, 38, 40, 41, 42, 43, 44, 45, 46, 47, 58, 59, 61, 63, 64, 95, 98, 99, 100, 102, 103, 104, 108, 109, 110, 112, 114, 117, 118, 119]⟩ : ByteArray) (ji42)) [.int .u8 (bt (⟨#[32, 33, 37, 38, 40, 41, 42, 43, 44, 45, 46, 47, 58, 59, 61, 63, 64, 95, 98, 99, 100, 102, 103, 104, 108, 109, 110, 112, 114, 117, 118, 119]⟩ : ByteArray) (ji42))] (fun _ => True) (fun _ => False) rfl rfl ?aP (fun _ hk => hk.elim) ?aF ?aO ?aB ?aS ?aL ?_; (case aP => exact rfl); (case aB => exact (by repeat (first | (with_reducible first | exact HB.out | apply below_alloc | apply pw_below_drewN | apply below_drew1) | exact HB.out))); (case aF => exact (fun _ _ => trivial)); (case aO => exact (by (with_reducible repeat (first | apply Kd.R_alloc | apply Kd.R_drewN | apply Kd.R_drew)); exact HO_7.out)); (case aS => exact (below_size (by repeat (first | (with_reducible first | exact HB.out | apply below_alloc | apply pw_below_drewN | apply below_drew1) | exact HB.out)))); (case aL => have := LMc46.out; omega); intro v148 w47 ho hb hg hat; rw [← Ny147.out] at ho; have n0_ := Aside0.mk (Kd.R_over' (by (with_reducible repeat (first | apply Kd.R_alloc | apply Kd.R_drewN | apply Kd.R_drew)); exact HO_5.out) (Kd.R_typed (by (with_reducible repeat (first | apply Kd.R_alloc | apply Kd.R_drewN | apply Kd.R_drew)); exact HO_7.out)) (by decide) hg); have n1_ := Aside0.mk (hb); have n2_ := Aside0.mk (ho); clear HO_5; clear HB; clear HO_7; have HO_5 := n0_; have HB := n1_; have HO149 := n2_; clear n0_ n1_ n2_; clear ho hb hg hat))
                                                  go_roundg kj37
                                                  case measure => have := HK1.out; have := HK2.out; have := HK3.out; have := HJ20.out; have := HJ27.out; have := HJ37.out; omega
                                                  case rel => exact ⟨(y147), (wrap64 (x8_3 + x11_3)), ((wrap64 ((wrap64 (x9_3 * 2)) + (rd x5_1 (ji25))))), (true), (wrap64 (x11_3 + 1)), (by first | rfl | (simp; done) | (simp [*]; done)), (by first | rfl | (simp; done) | (simp only [← hji25] <;> (first | rfl | simp)) | (simp [*]; done)), (by first | rfl | (simp; done) | (simp [*]; done)), (by first | rfl | (simp; done) | (simp [*]; done)), H', ⟨by have := HK1.out; have := HK2.out; have := HK3.out; have := HJ20.out; have := HJ27.out; have := HJ37.out; omega⟩, ⟨by (with_reducible repeat (first | apply Kd.R_alloc | apply Kd.R_drewN | apply Kd.R_drew)); exact HO_5.out⟩, ⟨by (with_reducible repeat (first | apply Kd.R_alloc | apply Kd.R_drewN | apply Kd.R_drew)); exact HO149.out⟩, ⟨by repeat (first | (with_reducible first | exact HB.out | apply below_alloc | apply pw_below_drewN | apply below_drew1) | exact HB.out)⟩⟩
                                                · rw [if_neg c46] at H
                                                  exact absurd H (by simp)
                                              · rw [if_neg c44] at H
                                                exact absurd H (by simp)
                                            · rw [if_neg c43] at H
                                              exact absurd H (by simp)
                                          · replace c41 := Bool.eq_false_iff.mpr c41
                                            subst c41
                                            have H1 : (if x11_3 = 10 then (if (wrap64 ((wrap64 (x9_3 * 2)) + (rd x5_1 (ji25)))) ≥ 768 then (bywashref1_Unsqueeze.j6 kj37 ji2 x5_1 x7_3 x8_3 (wrap64 ((wrap64 (x9_3 * 2)) + (rd x5_1 (ji25)))) x10_3 x11_3 (decide ((wrap64 ((wrap64 (x9_3 * 2)) + (rd x5_1 (ji25)))) < 976))) else (bywashref1_Unsqueeze.j6 kj37 ji2 x5_1 x7_3 x8_3 (wrap64 ((wrap64 (x9_3 * 2)) + (rd x5_1 (ji25)))) x10_3 x11_3 false)) else (bywashref1_Unsqueeze.j6 kj37 ji2 x5_1 x7_3 x8_3 (wrap64 ((wrap64 (x9_3 * 2)) + (rd x5_1 (ji25)))) x10_3 x11_3 false)) = some (r1, r2) := by rw [if_neg (show ¬ (false = true) by decide)] at H; exact H
                                            clear H
                                            have H := H1
                                            clear H1
                                            have HC48 := Aside0.mk H
                                            clear H
                                            go_upto_region 21 with (fail)
                                            go_cut [93] (fun v93 wc => ∃ (kq : Nat) (x93_47 : Bool), v93 = .bool x93_47 ∧ Aside0 (bywashref1_Unsqueeze.j6 kq ji2 x5_1 x7_3 x8_3 (wrap64 ((wrap64 (x9_3 * 2)) + (rd x5_1 (ji25)))) x10_3 x11_3 x93_47 = some (r1, r2)) ∧ Aside0 (kq ≤ kj37) ∧ Aside0 (Kd.R (Kd.int .i64) 3 wc w.heap.size (fun _ => True) (.slice (some ad143) x5_1.length co29) x5_1) ∧ Aside0 (Kd.R (Kd.int .u8) 5 wc w.heap.size (fun _ => True) u7 x7_3) ∧ Aside0 (Below w.heap.size w wc))
                                            case first =>
                                              have H := HC48.out
                                              clear HC48
                                              by_cases c49 : x11_3 = 10
                                              · rw [if_pos c49] at H
                                                have c49b0 : (x11_3 == 10) = true := beq_iff_eq.mpr c49
                                                have c49b1 : (x11_3 != 10) = false := bne_eq_false_iff_eq.mpr c49
                                                clear c49
                                                (first | rw [c49b0] | (simp only [i64_w, i32_w]; rw [c49b0]) | skip)
                                                by_cases c50 : (wrap64 ((wrap64 (x9_3 * 2)) + (rd x5_1 (ji25)))) ≥ 768
                                                · rw [if_pos c50] at H
                                                  have c50b0 : decide (768 ≤ (wrap64 ((wrap64 (x9_3 * 2)) + (rd x5_1 (ji25))))) = true := decide_eq_true c50
                                                  clear c50
                                                  have H' := Aside0.mk H
                                                  clear H
                                                  go_wp2
                                                  go_meet
                                                  case rel => exact ⟨_, (decide ((wrap64 ((wrap64 (x9_3 * 2)) + (rd x5_1 (ji25)))) < 976)), (by first | rfl | (simp; done) | (simp only [← hji25] <;> (first | rfl | simp)) | (simp [*]; done)), H', ⟨by have := HK1.out; have := HK2.out; have := HK3.out; have := HJ20.out; have := HJ27.out; have := HJ37.out; first | omega | exact Nat.le_refl _⟩, ⟨by (with_reducible repeat (first | apply Kd.R_alloc | apply Kd.R_drewN | apply Kd.R_drew)); exact HO_5.out⟩, ⟨by (with_reducible repeat (first | apply Kd.R_alloc | apply Kd.R_drewN | apply Kd.R_drew)); exact HO_7.out⟩, ⟨by repeat (first | (with_reducible first | exact HB.out | apply below_alloc | apply pw_below_drewN | apply below_drew1) | exact HB.out)⟩⟩
                                                · rw [if_neg c50] at H
                                                  have c50b0 : decide (768 ≤ (wrap64 ((wrap64 (x9_3 * 2)) + (rd x5_1 (ji25))))) = false := decide_eq_false c50
                                                  clear c50
                                                  have H' := Aside0.mk H
                                                  clear H
                                                  go_wp2
                                                  go_meet
                                                  case rel => exact ⟨_, (false), (by first | rfl | (simp; done) | (simp [*]; done)), H', ⟨by have := HK1.out; have := HK2.out; have := HK3.out; have := HJ20.out; have := HJ27.out; have := HJ37.out; first | omega | exact Nat.le_refl _⟩, ⟨by (with_reducible repeat (first | apply Kd.R_alloc | apply Kd.R_drewN | apply Kd.R_drew)); exact HO_5.out⟩, ⟨by (with_reducible repeat (first | apply Kd.R_alloc | apply Kd.R_drewN | apply Kd.R_drew)); exact HO_7.out⟩, ⟨by repeat (first | (with_reducible first | exact HB.out | apply below_alloc | apply pw_below_drewN | apply below_drew1) | exact HB.out)⟩⟩
                                              · rw [if_neg c49] at H
                                                have c49b0 : (x11_3 == 10) = false := beq_eq_false_iff_ne.mpr c49
                                                have c49b1 : (x11_3 != 10) = true := bne_iff_ne.mpr c49
                                                (first | rw [c49b0] | (simp only [i64_w, i32_w]; rw [c49b0]) | skip)
                                                have H' := Aside0.mk H
                                                clear H
                                                go_wp2
                                                go_meet
                                                case rel => exact ⟨_, (false), (by first | rfl | (simp; done) | (simp [*]; done)), H', ⟨by have := HK1.out; have := HK2.out; have := HK3.out; have := HJ20.out; have := HJ27.out; have := HJ37.out; first | omega | exact Nat.le_refl _⟩, ⟨by (with_reducible repeat (first | apply Kd.R_alloc | apply Kd.R_drewN | apply Kd.R_drew)); exact HO_5.out⟩, ⟨by (with_reducible repeat (first | apply Kd.R_alloc | apply Kd.R_drewN | apply Kd.R_drew)); exact HO_7.out⟩, ⟨by repeat (first | (with_reducible first | exact HB.out | apply below_alloc | apply pw_below_drewN | apply below_drew1) | exact HB.out)⟩⟩
                                            case rest =>
                                              clear HC48
                                              try clear c1
                                              try clear p1
                                              try clear q1
                                              try clear hx1
                                              try clear hf1
                                              try clear c2
                                              try clear p2
                                              try clear c3
                                              try clear c3b0
                                              try clear c3b1
                                              try clear p3
                                              try clear q3
                                              try clear hx3
                                              try clear c4
                                              try clear c4b0
                                              try clear c4b1
                                              try clear p4
                                              try clear q4
                                              try clear hx4
                                              try clear c5
                                              try clear p6
                                              try clear c7
                                              try clear c7b0
                                              try clear c9
                                              try clear c9b0
                                              try clear c10
                                              try clear c10b0
                                              try clear p11
                                              try clear q11
                                              try clear hx11
                                              try clear c13
                                              try clear c13b0
                                              try clear c13b1
                                              try clear p14
                                              try clear q14
                                              try clear hx14
                                              try clear c15
                                              try clear c15b0
                                              try clear c16
                                              try clear c16b0
                                              try clear p17
                                              try clear q17
                                              try clear hx17
                                              try clear hf17
                                              try clear c20
                                              try clear c20b0
                                              try clear c22
                                              try clear c22b0
                                              try clear c23
                                              try clear c23b0
                                              try clear c24
                                              try clear c26
                                              try clear c26b0
                                              try clear c27
                                              try clear c27b0
                                              try clear c30
                                              try clear c30b0
                                              try clear c30b1
                                              try clear c31
                                              try clear c33
                                              try clear c33b0
                                              try clear c34
                                              try clear c34b0
                                              try clear p35
                                              try clear q35
                                              try clear hx35
                                              try clear c36
                                              try clear c39
                                              try clear c39b0
                                              try clear c39b1
                                              try clear c40
                                              try clear c40b0
                                              try clear c41
                                              try clear c43
                                              try clear c43b0
                                              try clear c44
                                              try clear c44b0
                                              try clear p45
                                              try clear q45
                                              try clear hx45
                                              try clear c46
                                              try clear c49
                                              try clear c49b0
                                              try clear c49b1
                                              try clear c50
                                              try clear c50b0
                                              try clear hx143_0
                                              try clear hx17_0
                                              try clear p1
                                              try clear p11
                                              try clear p14
                                              try clear p143
                                              try clear p17
                                              try clear p2
                                              try clear p3
                                              try clear p35
                                              try clear p45
                                              try clear p6
                                              try clear q1
                                              try clear q11
                                              try clear q14
                                              try clear q143
                                              try clear q17
                                              try clear q3
                                              try clear q35
                                              try clear q45
                                              obtain ⟨kq, x93_47, rfl, HA, HJ47, HO_5, HO_7, HB⟩ := hcut
                                              cases kq with
                                              | zero => exact absurd HA.out (by simp [bywashref1_Unsqueeze.j6])
                                              | succ kj47 =>
                                                have H := HA.out
                                                clear HA
                                                simp only [bywashref1_Unsqueeze.j6] at H
                                                by_cases c51 : x93_47 = true
                                                · subst c51
                                                  have H1 : ((bywashref1_rare.f kj47 (wrap64 ((wrap64 (x9_3 * 2)) + (rd x5_1 (ji25))))).bind fun t150 => (if x7_3.length < 140737488355328 then (bywashref1_Unsqueeze.l2 kj47 ji2 x5_1 (x7_3 ++ [t150]) (wrap64 (x8_3 + x11_3)) (wrap64 ((wrap64 (x9_3 * 2)) + (rd x5_1 (ji25)))) true (wrap64 (x11_3 + 1))) else (none))) = some (r1, r2) := by rw [if_pos rfl] at H; exact H
                                                  clear H
                                                  have H := H1
                                                  clear H1
                                                  replace H := Option.bind_eq_some_iff.mp H
                                                  obtain ⟨t150, A520, H⟩ := H
                                                  replace H : (if x7_3.length < 140737488355328 then (bywashref1_Unsqueeze.l2 kj47 ji2 x5_1 (x7_3 ++ [t150]) (wrap64 (x8_3 + x11_3)) (wrap64 ((wrap64 (x9_3 * 2)) + (rd x5_1 (ji25)))) true (wrap64 (x11_3 + 1))) else (none)) = some (r1, r2) := H
                                                  have A52 := Aside0.mk A520
                                                  clear A520
                                                  by_cases c53 : x7_3.length < 140737488355328
                                                  · rw [if_pos c53] at H
                                                    have LMc53 := Aside0.mk c53
                                                    clear c53
                                                    obtain ⟨y151, hy151⟩ : ∃ y_ : List Int, y_ = (x7_3 ++ [t150]) := ⟨_, rfl⟩
                                                    replace H : (bywashref1_Unsqueeze.l2 kj47 ji2 x5_1 y151 (wrap64 (x8_3 + x11_3)) (wrap64 ((wrap64 (x9_3 * 2)) + (rd x5_1 (ji25)))) true (wrap64 (x11_3 + 1))) = some (r1, r2) := by first | (rw [hy151]; with_reducible exact H) | (have H2_ := (Option.bind_some _ _).symm.trans H; rw [hy151]; with_reducible exact H2_) | (have H2_ := (Option.bind_some _ _).symm.trans H; with_reducible exact H2_) | with_reducible exact H | (rw [hy151]; exact H) | exact H
                                                    have Ny151 := Aside0.mk hy151
                                                    clear hy151
                                                    have H' := Aside0.mk H
                                                    clear H
                                                    go_wp2_with (first | ((with_reducible refine gate_callee (f := 31) rfl ?_); refine goesL_ (some 106) rfl rfl Try.func31 (by kernel_rfl) rfl #[.int .i64 (wrap64 ((wrap64 (x9_3 * 2)) + (rd x5_1 (ji25))))] rfl (by (try simp only [List.map_toArray, List.map_cons, List.map_nil]); first | done | (simp only [hji25]; rfl) | rfl | (simp only [List.length_drop, List.length_take]; rfl)) ?_; (with_reducible refine (bywashref1_rare.calls kj47 (wrap64 ((wrap64 (x9_3 * 2)) + (rd x5_1 (ji25)))) t150 _ A52.out).mono ?_); rintro e w' ⟨rfl, ⟨nd, rfl⟩⟩; refine ⟨_, rfl, ?_⟩) | ((with_reducible refine gate_builtin (b := .append) (xs := #[.tmp 104, .tmp 107]) rfl ?_); at_builtin; refine Kd.R_append (Kd.int .u8) (w0 := w) w.heap.size rfl (.tmp 104) (.tmp 107) 32 5 (.int .u8 0) 1 rfl Try.underlying32 info5 rfl (by decide) (by omega) u7 x7_3 t150 [.int .u8 t150] (fun _ => True) (fun _ => False) rfl rfl ?aP (fun _ hk => hk.elim) ?aF ?aO ?aB ?aS ?aL ?_; (case aP => exact rfl); (case aB => exact (by repeat (first | (with_reducible first | exact HB.out | apply below_alloc | apply pw_below_drewN | apply below_drew1) | exact HB.out))); (case aF => exact (fun _ _ => trivial)); (case aO => exact (by (with_reducible repeat (first | apply Kd.R_alloc | apply Kd.R_drewN | apply Kd.R_drew)); exact HO_7.out)); (case aS => exact (below_size (by repeat (first | (with_reducible first | exact HB.out | apply below_alloc | apply pw_below_drewN | apply below_drew1) | exact HB.out)))); (case aL => have := LMc53.out; omega); intro v152 w54 ho hb hg hat; rw [← Ny151.out] at ho; have n0_ := Aside0.mk (Kd.R_over' (by (with_reducible repeat (first | apply Kd.R_alloc | apply Kd.R_drewN | apply Kd.R_drew)); exact HO_5.out) (Kd.R_typed (by (with_reducible repeat (first | apply Kd.R_alloc | apply Kd.R_drewN | apply Kd.R_drew)); exact HO_7.out)) (by decide) hg); have n1_ := Aside0.mk (hb); have n2_ := Aside0.mk (ho); clear HO_5; clear HB; clear HO_7; have HO_5 := n0_; have HB := n1_; have HO153 := n2_; clear n0_ n1_ n2_; clear ho hb hg hat))
                                                    go_roundg kj47
                                                    case measure => have := HK1.out; have := HK2.out; have := HK3.out; have := HJ20.out; have := HJ27.out; have := HJ37.out; have := HJ47.out; omega
                                                    case rel => exact ⟨(y151), (wrap64 (x8_3 + x11_3)), ((wrap64 ((wrap64 (x9_3 * 2)) + (rd x5_1 (ji25))))), (true), (wrap64 (x11_3 + 1)), (by first | rfl | (simp; done) | (simp [*]; done)), (by first | rfl | (simp; done) | (simp only [← hji25] <;> (first | rfl | simp)) | (simp [*]; done)), (by first | rfl | (simp; done) | (simp [*]; done)), (by first | rfl | (simp; done) | (simp [*]; done)), H', ⟨by have := HK1.out; have := HK2.out; have := HK3.out; have := HJ20.out; have := HJ27.out; have := HJ37.out; have := HJ47.out; omega⟩, ⟨by (with_reducible repeat (first | apply Kd.R_alloc | apply Kd.R_drewN | apply Kd.R_drew)); exact HO_5.out⟩, ⟨by (with_reducible repeat (first | apply Kd.R_alloc | apply Kd.R_drewN | apply Kd.R_drew)); exact HO153.out⟩, ⟨by repeat (first | (with_reducible first | exact HB.out | apply below_alloc | apply pw_below_drewN | apply below_drew1) | exact HB.out)⟩⟩
                                                  · rw [if_neg c53] at H
                                                    exact absurd H (by simp)
                                                · replace c51 := Bool.eq_false_iff.mpr c51
                                                  subst c51
                                                  have H1 : (if x10_3 = true then (bywashref1_Unsqueeze.l2 kj47 ji2 x5_1 x7_3 (wrap64 (x8_3 + x11_3)) (wrap64 ((wrap64 (x9_3 * 2)) + (rd x5_1 (ji25)))) x10_3 (wrap64 (x11_3 + 1))) else (bywashref1_Unsqueeze.l2 kj47 ji2 x5_1 x7_3 x8_3 (wrap64 ((wrap64 (x9_3 * 2)) + (rd x5_1 (ji25)))) x10_3 (wrap64 (x11_3 + 1)))) = some (r1, r2) := by rw [if_neg (show ¬ (false = true) by decide)] at H; exact H
                                                  clear H
                                                  have H := H1
                                                  clear H1
                                                  by_cases c55 : x10_3 = true
                                                  · subst c55
                                                    have H1 : (bywashref1_Unsqueeze.l2 kj47 ji2 x5_1 x7_3 (wrap64 (x8_3 + x11_3)) (wrap64 ((wrap64 (x9_3 * 2)) + (rd x5_1 (ji25)))) true (wrap64 (x11_3 + 1))) = some (r1, r2) := by rw [if_pos rfl] at H; exact H
                                                    clear H
                                                    have H := H1
                                                    clear H1
                                                    have H' := Aside0.mk H
                                                    clear H
                                                    go_wp2
                                                    go_roundg kj47
                                                    case measure => have := HK1.out; have := HK2.out; have := HK3.out; have := HJ20.out; have := HJ27.out; have := HJ37.out; have := HJ47.out; omega
                                                    case rel => exact ⟨(x7_3), (wrap64 (x8_3 + x11_3)), ((wrap64 ((wrap64 (x9_3 * 2)) + (rd x5_1 (ji25))))), (true), (wrap64 (x11_3 + 1)), (by first | rfl | (simp; done) | (simp [*]; done)), (by first | rfl | (simp; done) | (simp only [← hji25] <;> (first | rfl | simp)) | (simp [*]; done)), (by first | rfl | (simp; done) | (simp [*]; done)), (by first | rfl | (simp; done) | (simp [*]; done)), H', ⟨by have := HK1.out; have := HK2.out; have := HK3.out; have := HJ20.out; have := HJ27.out; have := HJ37.out; have := HJ47.out; omega⟩, ⟨by (with_reducible repeat (first | apply Kd.R_alloc | apply Kd.R_drewN | apply Kd.R_drew)); exact HO_5.out⟩, ⟨by (with_reducible repeat (first | apply Kd.R_alloc | apply Kd.R_drewN | apply Kd.R_drew)); exact HO_7.out⟩, ⟨by repeat (first | (with_reducible first | exact HB.out | apply below_alloc | apply pw_below_drewN | apply below_drew1) | exact HB.out)⟩⟩
                                                  · replace c55 := Bool.eq_false_iff.mpr c55
                                                    subst c55
                                                    have H1 : (bywashref1_Unsqueeze.l2 kj47 ji2 x5_1 x7_3 x8_3 (wrap64 ((wrap64 (x9_3 * 2)) + (rd x5_1 (ji25)))) false (wrap64 (x11_3 + 1))) = some (r1, r2) := by rw [if_neg (show ¬ (false = true) by decide)] at H; exact H
                                                    clear H
                                                    have H := H1
                                                    clear H1
                                                    have H' := Aside0.mk H
                                                    clear H
                                                    go_wp2
                                                    go_roundg kj47
                                                    case measure => have := HK1.out; have := HK2.out; have := HK3.out; have := HJ20.out; have := HJ27.out; have := HJ37.out; have := HJ47.out; omega
                                                    case rel => exact ⟨(x7_3), (x8_3), ((wrap64 ((wrap64 (x9_3 * 2)) + (rd x5_1 (ji25))))), (false), (wrap64 (x11_3 + 1)), (by first | rfl | (simp; done) | (simp [*]; done)), (by first | rfl | (simp; done) | (simp only [← hji25] <;> (first | rfl | simp)) | (simp [*]; done)), (by first | rfl | (simp; done) | (simp [*]; done)), (by first | rfl | (simp; done) | (simp [*]; done)), H', ⟨by have := HK1.out; have := HK2.out; have := HK3.out; have := HJ20.out; have := HJ27.out; have := HJ37.out; have := HJ47.out; omega⟩, ⟨by (with_reducible repeat (first | apply Kd.R_alloc | apply Kd.R_drewN | apply Kd.R_drew)); exact HO_5.out⟩, ⟨by (with_reducible repeat (first | apply Kd.R_alloc | apply Kd.R_drewN | apply Kd.R_drew)); exact HO_7.out⟩, ⟨by repeat (first | (with_reducible first | exact HB.out | apply below_alloc | apply pw_below_drewN | apply below_drew1) | exact HB.out)⟩⟩
                              · rw [if_neg c27] at H
                                exact absurd H (by simp)
                            · rw [if_neg c26] at H
                              exact absurd H (by simp)
                          · replace c24 := Bool.eq_false_iff.mpr c24
                            subst c24
                            have H1 : (if x10_3 = true then (bywashref1_Unsqueeze.l1 kj20 ji2 x5_1 x7_3 x8_3) else (if (wrap64 (ji2 - x8_3)) ≥ 8 then (some ((⟨#[]⟩ : ByteArray), 3)) else (bywashref1_Unsqueeze.l3 kj20 ji2 x5_1 x7_3 x8_3))) = some (r1, r2) := by rw [if_neg (show ¬ (false = true) by decide)] at H; exact H
                            clear H
                            have H := H1
                            clear H1
                            by_cases c56 : x10_3 = true
                            · subst c56
                              have H1 : (bywashref1_Unsqueeze.l1 kj20 ji2 x5_1 x7_3 x8_3) = some (r1, r2) := by rw [if_pos rfl] at H; exact H
                              clear H
                              have H := H1
                              clear H1
                              have H' := Aside0.mk H
                              clear H
                              go_wp2
                              go_roundg kj20
                              case measure => have := HK1.out; have := HK2.out; have := HK3.out; have := HJ20.out; omega
                              case rel => exact ⟨(x7_3), (x8_3), (by first | rfl | (simp; done) | (simp [*]; done)), H', ⟨by have := HK1.out; have := HK2.out; have := HK3.out; have := HJ20.out; omega⟩, ⟨by (with_reducible repeat (first | apply Kd.R_alloc | apply Kd.R_drewN | apply Kd.R_drew)); exact HO_5.out⟩, ⟨by (with_reducible repeat (first | apply Kd.R_alloc | apply Kd.R_drewN | apply Kd.R_drew)); exact HO_7.out⟩, ⟨by repeat (first | (with_reducible first | exact HB.out | apply below_alloc | apply pw_below_drewN | apply below_drew1) | exact HB.out)⟩⟩
                            · replace c56 := Bool.eq_false_iff.mpr c56
                              subst c56
                              have H1 : (if (wrap64 (ji2 - x8_3)) ≥ 8 then (some ((⟨#[]⟩ : ByteArray), 3)) else (bywashref1_Unsqueeze.l3 kj20 ji2 x5_1 x7_3 x8_3)) = some (r1, r2) := by rw [if_neg (show ¬ (false = true) by decide)] at H; exact H
                              clear H
                              have H := H1
                              clear H1
                              by_cases c57 : (wrap64 (ji2 - x8_3)) ≥ 8
                              · rw [if_pos c57] at H
                                have c57b0 : decide (8 ≤ (wrap64 (ji2 - x8_3))) = true := decide_eq_true c57
                                clear c57
                                simp only [Option.some.injEq, Prod.mk.injEq] at H
                                obtain ⟨rfl, rfl⟩ := H
                                go_wp2
                                go_ret2
                                exact ⟨by first | rfl | (simp [errW_none, errW_some] <;> rfl) | (simp only [← hji2]; first | rfl | (simp [errW_none, errW_some] <;> rfl)) | (simp [*, errW_none, errW_some] <;> rfl), by repeat (first | (with_reducible first | exact HB.out | apply below_alloc | apply pw_below_drewN | apply below_drew1) | exact HB.out)⟩
                              · rw [if_neg c57] at H
                                have c57b0 : decide (8 ≤ (wrap64 (ji2 - x8_3))) = false := decide_eq_false c57
                                clear c57
                                have H' := Aside0.mk H
                                clear H
                                go_wp2
                                go_loopg [8] kj20 (fun kq v8 w' => ∃ (x8_5 : Int), v8 = .int .i64 x8_5 ∧ Aside0 (bywashref1_Unsqueeze.l3 kq ji2 x5_1 x7_3 x8_5 = some (r1, r2)) ∧ Aside0 (kq ≤ kj20) ∧ Aside0 (Kd.R (Kd.int .i64) 3 w' w.heap.size (fun _ => True) v140 x5_1) ∧ Aside0 (Kd.R (Kd.int .u8) 5 w' w.heap.size (fun _ => True) u7 x7_3) ∧ Aside0 (Below w.heap.size w w'))
                                case atStart => exact ⟨(x8_3), (by first | rfl | (simp; done) | (simp [*]; done)), H', ⟨Nat.le_refl _⟩, ⟨by (with_reducible repeat (first | apply Kd.R_alloc | apply Kd.R_drewN | apply Kd.R_drew)); exact HO_5.out⟩, ⟨by (with_reducible repeat (first | apply Kd.R_alloc | apply Kd.R_drewN | apply Kd.R_drew)); exact HO_7.out⟩, ⟨by repeat (first | (with_reducible first | exact HB.out | apply below_alloc | apply pw_below_drewN | apply below_drew1) | exact HB.out)⟩⟩
                                case round =>
                                  clear H'
                                  try clear c1
                                  try clear p1
                                  try clear q1
                                  try clear hx1
                                  try clear hf1
                                  try clear c2
                                  try clear p2
                                  try clear c3
                                  try clear c3b0
                                  try clear c3b1
                                  try clear p3
                                  try clear q3
                                  try clear hx3
                                  try clear c4
                                  try clear c4b0
                                  try clear c4b1
                                  try clear p4
                                  try clear q4
                                  try clear hx4
                                  try clear c5
                                  try clear p6
                                  try clear c7
                                  try clear c7b0
                                  try clear c9
                                  try clear c9b0
                                  try clear c10
                                  try clear c10b0
                                  try clear p11
                                  try clear q11
                                  try clear hx11
                                  try clear c13
                                  try clear c13b0
                                  try clear c13b1
                                  try clear p14
                                  try clear q14
                                  try clear hx14
                                  try clear c15
                                  try clear c15b0
                                  try clear c16
                                  try clear c16b0
                                  try clear p17
                                  try clear q17
                                  try clear hx17
                                  try clear hf17
                                  try clear c20
                                  try clear c20b0
                                  try clear c22
                                  try clear c22b0
                                  try clear c23
                                  try clear c23b0
                                  try clear c24
                                  try clear c26
                                  try clear c26b0
                                  try clear c27
                                  try clear c27b0
                                  try clear c30
                                  try clear c30b0
                                  try clear c30b1
                                  try clear c31
                                  try clear c33
                                  try clear c33b0
                                  try clear c34
                                  try clear c34b0
                                  try clear p35
                                  try clear q35
                                  try clear hx35
                                  try clear c36
                                  try clear c39
                                  try clear c39b0
                                  try clear c39b1
                                  try clear c40
                                  try clear c40b0
                                  try clear c41
                                  try clear c43
                                  try clear c43b0
                                  try clear c44
                                  try clear c44b0
                                  try clear p45
                                  try clear q45
                                  try clear hx45
                                  try clear c46
                                  try clear c49
                                  try clear c49b0
                                  try clear c49b1
                                  try clear c50
                                  try clear c50b0
                                  try clear c51
                                  try clear c53
                                  try clear c55
                                  try clear c56
                                  try clear c57
                                  try clear c57b0
                                  try clear hx143_0
                                  try clear hx17_0
                                  try clear p1
                                  try clear p11
                                  try clear p14
                                  try clear p143
                                  try clear p17
                                  try clear p2
                                  try clear p3
                                  try clear p35
                                  try clear p4
                                  try clear p45
                                  try clear p6
                                  try clear q1
                                  try clear q11
                                  try clear q14
                                  try clear q143
                                  try clear q17
                                  try clear q3
                                  try clear q35
                                  try clear q4
                                  try clear q45
                                  obtain ⟨x8_5, rfl, HA, HK5, HO_5, HO_7, HB⟩ := hrel
                                  cases gk with
                                  | zero => exact absurd HA.out (by simp [bywashref1_Unsqueeze.l3])
                                  | succ k5 =>
                                    have H := HA.out
                                    clear HA
                                    simp only [bywashref1_Unsqueeze.l3] at H
                                    by_cases c58 : x8_5 < ji2
                                    · rw [if_pos c58] at H
                                      have c58b0 : decide (x8_5 < ji2) = true := decide_eq_true c58
                                      clear c58
                                      by_cases c59 : 0 ≤ x8_5
                                      · rw [if_pos c59] at H
                                        have c59b0 : decide (0 ≤ x8_5) = true := decide_eq_true c59
                                        clear c59
                                        by_cases c60 : x8_5 < (x5_1.length : Int)
                                        · rw [if_pos c60] at H
                                          have c60b0 : decide (x8_5 < (x5_1.length : Int)) = true := decide_eq_true c60
                                          clear c60
                                          by_cases c61 : (rd x5_1 x8_5) = 1
                                          · rw [if_pos c61] at H
                                            have c61b0 : ((rd x5_1 x8_5) == 1) = true := beq_iff_eq.mpr c61
                                            have c61b1 : ((rd x5_1 x8_5) != 1) = false := bne_eq_false_iff_eq.mpr c61
                                            clear c61
                                            have H' := Aside0.mk H
                                            clear H
                                            obtain ⟨Ao62, co62, eo62⟩ := Kd.R_slice HO_5.out
                                            subst eo62
                                            have p154 : 0 ≤ (x8_5 : Int) := of_decide_eq_true (by first | (with_reducible assumption) | assumption)
                                            have q154 : x8_5 < (x5_1.length : Int) := of_decide_eq_true (by first | (with_reducible assumption) | assumption)
                                            obtain ⟨ad154, e154, hx154_0⟩ := Kd.at_int (Kd.R_reads' HO_5.out).2.2 x8_5 p154 q154
                                            cases e154
                                            replace p154 := eq_true p154
                                            replace q154 := eq_true q154
                                            go_wp2
                                            go_roundg k5
                                            case measure => have := HK1.out; have := HK2.out; have := HK3.out; have := HJ20.out; have := HK5.out; omega
                                            case rel => exact ⟨(wrap64 (x8_5 + 1)), (by first | rfl | (simp; done) | (simp [*]; done)), H', ⟨by have := HK1.out; have := HK2.out; have := HK3.out; have := HJ20.out; have := HK5.out; omega⟩, ⟨by (with_reducible repeat (first | apply Kd.R_alloc | apply Kd.R_drewN | apply Kd.R_drew)); exact HO_5.out⟩, ⟨by (with_reducible repeat (first | apply Kd.R_alloc | apply Kd.R_drewN | apply Kd.R_drew)); exact HO_7.out⟩, ⟨by repeat (first | (with_reducible first | exact HB.out | apply below_alloc | apply pw_below_drewN | apply below_drew1) | exact HB.out)⟩⟩
                                          · rw [if_neg c61] at H
                                            have c61b0 : ((rd x5_1 x8_5) == 1) = false := beq_eq_false_iff_ne.mpr c61
                                            have c61b1 : ((rd x5_1 x8_5) != 1) = true := bne_iff_ne.mpr c61
                                            simp only [Option.some.injEq, Prod.mk.injEq] at H
                                            obtain ⟨rfl, rfl⟩ := H
                                            obtain ⟨Ao63, co63, eo63⟩ := Kd.R_slice HO_5.out
                                            subst eo63
                                            have p154 : 0 ≤ (x8_5 : Int) := of_decide_eq_true (by first | (with_reducible assumption) | assumption)
                                            have q154 : x8_5 < (x5_1.length : Int) := of_decide_eq_true (by first | (with_reducible assumption) | assumption)
                                            obtain ⟨ad154, e154, hx154_0⟩ := Kd.at_int (Kd.R_reads' HO_5.out).2.2 x8_5 p154 q154
                                            cases e154
                                            replace p154 := eq_true p154
                                            replace q154 := eq_true q154
                                            go_wp2
                                            go_ret2
                                            exact ⟨by first | rfl | (simp [errW_none, errW_some] <;> rfl) | (simp only [← hji2]; first | rfl | (simp [errW_none, errW_some] <;> rfl)) | (simp [*, errW_none, errW_some] <;> rfl), by repeat (first | (with_reducible first | exact HB.out | apply below_alloc | apply pw_below_drewN | apply below_drew1) | exact HB.out)⟩
                                        · rw [if_neg c60] at H
                                          exact absurd H (by simp)
                                      · rw [if_neg c59] at H
                                        exact absurd H (by simp)
                                    · rw [if_neg c58] at H
                                      have c58b0 : decide (x8_5 < ji2) = false := decide_eq_false c58
                                      clear c58
                                      have H' := Aside0.mk H
                                      clear H
                                      go_wp2
                                      go_roundg k5
                                      case measure => have := HK1.out; have := HK2.out; have := HK3.out; have := HJ20.out; have := HK5.out; omega
                                      case rel => exact ⟨(x7_3), (x8_5), (by first | rfl | (simp; done) | (simp [*]; done)), H', ⟨by have := HK1.out; have := HK2.out; have := HK3.out; have := HJ20.out; have := HK5.out; omega⟩, ⟨by (with_reducible repeat (first | apply Kd.R_alloc | apply Kd.R_drewN | apply Kd.R_drew)); exact HO_5.out⟩, ⟨by (with_reducible repeat (first | apply Kd.R_alloc | apply Kd.R_drewN | apply Kd.R_drew)); exact HO_7.out⟩, ⟨by repeat (first | (with_reducible first | exact HB.out | apply below_alloc | apply pw_below_drewN | apply below_drew1) | exact HB.out)⟩⟩
                · rw [if_neg c20] at H
                  have c20b0 : decide (x8_2 < ji2) = false := decide_eq_false c20
                  clear c20
                  simp only [Option.some.injEq, Prod.mk.injEq] at H
                  obtain ⟨rfl, rfl⟩ := H
                  have hcv64 := own_string (P := Try.prog) Try.underlying32 Try.underlying5 Try.underlying9 (Kd.own_of_R HO_7.out)
                  have hcv65 := fun n_ => own_string (P := Try.prog) Try.underlying32 Try.underlying5 Try.underlying9 (Kd.own_of_R (Kd.R_drewN HO_7.out n_))
                  go_wp2
                  go_ret2
                  exact ⟨by first | rfl | (simp [errW_none, errW_some] <;> rfl) | (simp only [← hji2]; first | rfl | (simp [errW_none, errW_some] <;> rfl)) | (simp [*, errW_none, errW_some] <;> rfl), by repeat (first | (with_reducible first | exact HB.out | apply below_alloc | apply pw_below_drewN | apply below_drew1) | exact HB.out)⟩
    · rw [if_neg c4] at H
      exact absurd H (by simp)
  · rw [if_neg c3] at H
    exact absurd H (by simp)

end Go.Proofs.Ytmglfnphkngfdaa.XSq
