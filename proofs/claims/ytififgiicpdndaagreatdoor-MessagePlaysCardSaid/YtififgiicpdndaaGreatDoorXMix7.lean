-- Printed by wip/tools/xprint.py of this claim's session: the kit's print over contracts of its own.
import Derived.Test.YtififgiicpdndaaGreatDoorXMix0
import Derived.Test.YtififgiicpdndaaGreatDoorXMix6
namespace Go.Proofs.YtififgiicpdndaaGreatDoor.XMi
open Go.RowKit Go.Proofs.YtififgiicpdndaaGreatDoorW.PrintWords Go.Proofs.YtififgiicpdndaaGreatDoorW.PrintLast Go.Proofs.YtififgiicpdndaaGreatDoorW.PrintMore
attribute [local go_sem] max2_int min2_int max_two min_two max_three min_three max_four min_four   -- for this text's walks alone
set_option linter.unusedVariables false
set_option linter.unusedSimpArgs false

/-! ### bywashref1_fields: function 75 -/
mutual
def bywashref1_fields.l0 : Nat → List (S61) → List ByteArray → Bool → List Bool → Int → Option (Int)
  | 0, _, _, _, _, _ => none
  | k + 1, x0, x1, x5, x6, x7 => if x7 < (x0.length : Int) then (if 0 ≤ x7 then (bywashref1_fields.l1 k x0 x1 x5 x6 x7 (-1) 0 ((rd_T61 x0 x7).f0) ((rd_T61 x0 x7).f1)) else (none)) else (some 0)
def bywashref1_fields.l1 : Nat → List (S61) → List ByteArray → Bool → List Bool → Int → Int → Int → ByteArray → ByteArray → Option (Int)
  | 0, _, _, _, _, _, _, _, _, _ => none
  | k + 1, x0, x1, x5, x6, x7, x9, x10, x167000, x167001 => if x10 < (x1.length : Int) then (if 0 ≤ x10 then (if (rdOf ByteArray.empty x1 x10).toList = x167000.toList then (bywashref1_fields.l1 k x0 x1 x5 x6 x7 x10 (wrap64 (x10 + 1)) x167000 x167001) else (bywashref1_fields.l1 k x0 x1 x5 x6 x7 x9 (wrap64 (x10 + 1)) x167000 x167001)) else (none)) else (if x9 < 0 then ((bywashref1_Name.f k x167000).bind fun t168 => (if t168 = true then (if x167000.toList = ([99, 111, 110, 110, 101, 99, 116, 105, 111, 110] : List UInt8) then (bywashref1_fields.j2 k x0 x1 x5 x6 x7 x9 true x167000 x167001) else (if x167000.toList = ([116, 114, 97, 110, 115, 102, 101, 114, 45, 101, 110, 99, 111, 100, 105, 110, 103] : List UInt8) then (bywashref1_fields.j2 k x0 x1 x5 x6 x7 x9 true x167000 x167001) else (if x167000.toList = ([117, 112, 103, 114, 97, 100, 101] : List UInt8) then (bywashref1_fields.j2 k x0 x1 x5 x6 x7 x9 true x167000 x167001) else (if x167000.toList = ([107, 101, 101, 112, 45, 97, 108, 105, 118, 101] : List UInt8) then (bywashref1_fields.j2 k x0 x1 x5 x6 x7 x9 true x167000 x167001) else (if x167000.toList = ([116, 101] : List UInt8) then (bywashref1_fields.j2 k x0 x1 x5 x6 x7 x9 (x167001.toList != ([116, 114, 97, 105, 108, 101, 114, 115] : List UInt8)) x167000 x167001) else (bywashref1_fields.j2 k x0 x1 x5 x6 x7 x9 false x167000 x167001)))))) else (bywashref1_fields.j2 k x0 x1 x5 x6 x7 x9 true x167000 x167001))) else (if x167000.toList = ([99, 111, 110, 110, 101, 99, 116, 105, 111, 110] : List UInt8) then (bywashref1_fields.j2 k x0 x1 x5 x6 x7 x9 true x167000 x167001) else (if x167000.toList = ([116, 114, 97, 110, 115, 102, 101, 114, 45, 101, 110, 99, 111, 100, 105, 110, 103] : List UInt8) then (bywashref1_fields.j2 k x0 x1 x5 x6 x7 x9 true x167000 x167001) else (if x167000.toList = ([117, 112, 103, 114, 97, 100, 101] : List UInt8) then (bywashref1_fields.j2 k x0 x1 x5 x6 x7 x9 true x167000 x167001) else (if x167000.toList = ([107, 101, 101, 112, 45, 97, 108, 105, 118, 101] : List UInt8) then (bywashref1_fields.j2 k x0 x1 x5 x6 x7 x9 true x167000 x167001) else (if x167000.toList = ([116, 101] : List UInt8) then (bywashref1_fields.j2 k x0 x1 x5 x6 x7 x9 (x167001.toList != ([116, 114, 97, 105, 108, 101, 114, 115] : List UInt8)) x167000 x167001) else (bywashref1_fields.j2 k x0 x1 x5 x6 x7 x9 false x167000 x167001)))))))
def bywashref1_fields.j2 : Nat → List (S61) → List ByteArray → Bool → List Bool → Int → Int → Bool → ByteArray → ByteArray → Option (Int)
  | 0, _, _, _, _, _, _, _, _, _ => none
  | k + 1, x0, x1, x5, x6, x7, x9, x75, x167000, x167001 => if x75 = true then (some 6) else ((bywashref1_Value.f k x167001).bind fun t169 => (if t169 = true then (if x9 < 0 then (bywashref1_fields.l0 k x0 x1 true x6 (wrap64 (x7 + 1))) else (if x5 = true then (some 7) else (if 0 ≤ x9 then (if x9 < (x6.length : Int) then (if rdOf false x6 x9 = true then (some 7) else (bywashref1_fields.l0 k x0 x1 x5 (x6.set (x9 : Int).toNat true) (wrap64 (x7 + 1)))) else (none)) else (none)))) else (some 3)))
end
def bywashref1_fields.f (k : Nat) (l0 : List (S61)) (l1 : List ByteArray) : Option (Int) := if 0 ≤ (l1.length : Int) then (if ((l1.length : Int) : Int).toNat ≤ 281474976710656 then (bywashref1_fields.l0 k l0 l1 false (List.replicate ((l1.length : Int) : Int).toNat false) 0) else (none)) else (none)
theorem bywashref1_fields.mono_l : ∀ k, (∀ y0 y1 y2 y3 y4, LeO (bywashref1_fields.l0 k y0 y1 y2 y3 y4) (bywashref1_fields.l0 (k + 1) y0 y1 y2 y3 y4)) ∧ (∀ y0 y1 y2 y3 y4 y5 y6 y7 y8, LeO (bywashref1_fields.l1 k y0 y1 y2 y3 y4 y5 y6 y7 y8) (bywashref1_fields.l1 (k + 1) y0 y1 y2 y3 y4 y5 y6 y7 y8)) ∧ (∀ y0 y1 y2 y3 y4 y5 y6 y7 y8, LeO (bywashref1_fields.j2 k y0 y1 y2 y3 y4 y5 y6 y7 y8) (bywashref1_fields.j2 (k + 1) y0 y1 y2 y3 y4 y5 y6 y7 y8))
  | 0 => ⟨fun _ _ _ _ _ r h => by simp [bywashref1_fields.l0] at h, fun _ _ _ _ _ _ _ _ _ r h => by simp [bywashref1_fields.l1] at h, fun _ _ _ _ _ _ _ _ _ r h => by simp [bywashref1_fields.j2] at h⟩
  | k + 1 => by
    obtain ⟨ih0, ih1, ih2⟩ := bywashref1_fields.mono_l k
    refine ⟨?_, ?_, ?_⟩
    · intro y0 y1 y2 y3 y4
      unfold bywashref1_fields.l0
      repeat' first
      | (with_reducible exact ih0 _ _ _ _ _)
      | (with_reducible exact ih1 _ _ _ _ _ _ _ _ _)
      | (with_reducible exact ih2 _ _ _ _ _ _ _ _ _)
      | (with_reducible exact bywashref1_Name.mono _ _)
      | (with_reducible exact bywashref1_Value.mono _ _)
      | (with_reducible exact LeO.refl _)
      | (with_reducible exact LeO.none _)
      | (with_reducible refine LeO.ite ?_ ?_)
      | (with_reducible refine LeO.bind ?_ (fun _ => ?_))
      | exact ih0 _ _ _ _ _
      | exact ih1 _ _ _ _ _ _ _ _ _
      | exact ih2 _ _ _ _ _ _ _ _ _
      | exact bywashref1_Name.mono _ _
      | exact bywashref1_Value.mono _ _
      | exact LeO.none _
      | refine LeO.ite ?_ ?_
      | refine LeO.bind ?_ (fun _ => ?_)
    · intro y0 y1 y2 y3 y4 y5 y6 y7 y8
      unfold bywashref1_fields.l1
      repeat' first
      | (with_reducible exact ih0 _ _ _ _ _)
      | (with_reducible exact ih1 _ _ _ _ _ _ _ _ _)
      | (with_reducible exact ih2 _ _ _ _ _ _ _ _ _)
      | (with_reducible exact bywashref1_Name.mono _ _)
      | (with_reducible exact bywashref1_Value.mono _ _)
      | (with_reducible exact LeO.refl _)
      | (with_reducible exact LeO.none _)
      | (with_reducible refine LeO.ite ?_ ?_)
      | (with_reducible refine LeO.bind ?_ (fun _ => ?_))
      | exact ih0 _ _ _ _ _
      | exact ih1 _ _ _ _ _ _ _ _ _
      | exact ih2 _ _ _ _ _ _ _ _ _
      | exact bywashref1_Name.mono _ _
      | exact bywashref1_Value.mono _ _
      | exact LeO.none _
      | refine LeO.ite ?_ ?_
      | refine LeO.bind ?_ (fun _ => ?_)
    · intro y0 y1 y2 y3 y4 y5 y6 y7 y8
      unfold bywashref1_fields.j2
      repeat' first
      | (with_reducible exact ih0 _ _ _ _ _)
      | (with_reducible exact ih1 _ _ _ _ _ _ _ _ _)
      | (with_reducible exact ih2 _ _ _ _ _ _ _ _ _)
      | (with_reducible exact bywashref1_Name.mono _ _)
      | (with_reducible exact bywashref1_Value.mono _ _)
      | (with_reducible exact LeO.refl _)
      | (with_reducible exact LeO.none _)
      | (with_reducible refine LeO.ite ?_ ?_)
      | (with_reducible refine LeO.bind ?_ (fun _ => ?_))
      | exact ih0 _ _ _ _ _
      | exact ih1 _ _ _ _ _ _ _ _ _
      | exact ih2 _ _ _ _ _ _ _ _ _
      | exact bywashref1_Name.mono _ _
      | exact bywashref1_Value.mono _ _
      | exact LeO.none _
      | refine LeO.ite ?_ ?_
      | refine LeO.bind ?_ (fun _ => ?_)
theorem bywashref1_fields.mono : ∀ a0 a1 k, LeO (bywashref1_fields.f k a0 a1) (bywashref1_fields.f (k + 1) a0 a1) := by
  intro a0 a1 k
  obtain ⟨ih0, ih1, ih2⟩ := bywashref1_fields.mono_l k
  unfold bywashref1_fields.f
  repeat' first
      | (with_reducible exact ih0 _ _ _ _ _)
      | (with_reducible exact ih1 _ _ _ _ _ _ _ _ _)
      | (with_reducible exact ih2 _ _ _ _ _ _ _ _ _)
      | (with_reducible exact bywashref1_Name.mono _ _)
      | (with_reducible exact bywashref1_Value.mono _ _)
      | (with_reducible exact LeO.refl _)
      | (with_reducible exact LeO.none _)
      | (with_reducible refine LeO.ite ?_ ?_)
      | (with_reducible refine LeO.bind ?_ (fun _ => ?_))
      | exact ih0 _ _ _ _ _
      | exact ih1 _ _ _ _ _ _ _ _ _
      | exact ih2 _ _ _ _ _ _ _ _ _
      | exact bywashref1_Name.mono _ _
      | exact bywashref1_Value.mono _ _
      | exact LeO.none _
      | refine LeO.ite ?_ ?_
      | refine LeO.bind ?_ (fun _ => ?_)
set_option maxHeartbeats 8000000 in
set_option maxRecDepth 100000 in
theorem bywashref1_fields.calls (k : Nat) (A0 : Option Addr) (c0 : Nat) (l0 : List (S61)) (A1 : Option Addr) (c1 : Nat) (l1 : List ByteArray) (r : Int) (w : World) (hr0 : Kd.C k61 w A0 l0.length l0) (hc0 : l0.length ≤ c0) (hr1 : Kd.C Kd.string w A1 l1.length l1) (hc1 : l1.length ≤ c1) (h : bywashref1_fields.f k l0 l1 = some r) :
    Calls Tryz.prog 75 #[.slice A0 l0.length c0, .slice A1 l1.length c1] w fun e w' => e = .returned (.int .i64 r) ∧ Below w.heap.size w w' := by
  have hu61 := Tryz.underlying61
  have HR0 := Aside0.mk hr0
  have HC0 := Aside0.mk hc0
  clear hr0 hc0
  have HR1 := Aside0.mk hr1
  have HC1 := Aside0.mk hc1
  clear hr1 hc1
  have HB := Aside0.mk (Below.refl w.heap.size w)
  have H : (if 0 ≤ (l1.length : Int) then (if ((l1.length : Int) : Int).toNat ≤ 281474976710656 then (bywashref1_fields.l0 k l0 l1 false (List.replicate ((l1.length : Int) : Int).toNat false) 0) else (none)) else (none)) = some r := h
  clear h
  by_cases c3 : 0 ≤ (l1.length : Int)
  · rw [if_pos c3] at H
    have c3b0 := eq_true c3
    have c3b1 : decide (0 ≤ (l1.length : Int)) = true := decide_eq_true c3
    clear c3
    by_cases c4 : ((l1.length : Int) : Int).toNat ≤ 281474976710656
    · rw [if_pos c4] at H
      have c4b0 := eq_true c4
      have c4b1 : decide (((l1.length : Int) : Int).toNat ≤ 281474976710656) = true := decide_eq_true c4
      clear c4
      obtain ⟨y162, hy162⟩ : ∃ y_ : List Bool, y_ = (List.replicate ((l1.length : Int) : Int).toNat false) := ⟨_, rfl⟩
      replace H : (bywashref1_fields.l0 k l0 l1 false y162 0) = some r := by first | (rw [hy162]; with_reducible exact H) | (have H2_ := (Option.bind_some _ _).symm.trans H; rw [hy162]; with_reducible exact H2_) | (have H2_ := (Option.bind_some _ _).symm.trans H; with_reducible exact H2_) | with_reducible exact H | (rw [hy162]; exact H) | exact H
      have Ny162 := Aside0.mk hy162
      clear hy162
      have H' := Aside0.mk H
      clear H
      go_enter Tryz.func75, Tryz.ntmps75
      go_wp2_with (first | ((with_reducible refine gate_dst (N := 13) rfl ?_); refine Kd.R_make Kd.bool _ 4 rfl (N := 13) rfl 124 _ _ rfl (l1.length : Int) rfl rfl Tryz.underlying124 (.bool false) 1 info4 rfl (by decide) (by omega) false (ok := fun _ => True) (okp := fun _ => True) rfl (fun _ hk => hk) trivial (of_decide_eq_true (by first | (with_reducible assumption) | assumption)) (Nat.le_trans (Nat.mul_le_mul_right _ (of_decide_eq_true (by first | (with_reducible assumption) | assumption) : (l1.length : Int).toNat ≤ 281474976710656)) (by omega)) (Below.refl _ _) (Nat.le_refl _) ?_; intro v163 w5 ho6 hb hg_ hnew_; clear hg_ hnew_; (first | rw [← Ny162.out] at ho6 | (simp only [Int.reduceToNat] at ho6; rw [← Ny162.out] at ho6)); have n0_ := Aside0.mk (Kd.R_lower ho6 (below_size (by repeat (first | (with_reducible first | exact HB.out | apply below_alloc | apply pw_below_drewN | apply below_drew1) | exact HB.out)))); have n1_ := Aside0.mk (below_step (by repeat (first | (with_reducible first | exact HB.out | apply below_alloc | apply pw_below_drewN | apply below_drew1) | exact HB.out)) hb); clear HB; have HO164 := n0_; have HB := n1_; clear n0_ n1_; clear hb ho6))
      repeat (go_quiet (first | ((with_reducible refine gate_dst (N := 13) rfl ?_); refine Kd.R_make Kd.bool _ 4 rfl (N := 13) rfl 124 _ _ rfl (l1.length : Int) rfl rfl Tryz.underlying124 (.bool false) 1 info4 rfl (by decide) (by omega) false (ok := fun _ => True) (okp := fun _ => True) rfl (fun _ hk => hk) trivial (of_decide_eq_true (by first | (with_reducible assumption) | assumption)) (Nat.le_trans (Nat.mul_le_mul_right _ (of_decide_eq_true (by first | (with_reducible assumption) | assumption) : (l1.length : Int).toNat ≤ 281474976710656)) (by omega)) (Below.refl _ _) (Nat.le_refl _) ?_; intro v163 w5 ho6 hb hg_ hnew_; clear hg_ hnew_; (first | rw [← Ny162.out] at ho6 | (simp only [Int.reduceToNat] at ho6; rw [← Ny162.out] at ho6)); have n0_ := Aside0.mk (Kd.R_lower ho6 (below_size (by repeat (first | (with_reducible first | exact HB.out | apply below_alloc | apply pw_below_drewN | apply below_drew1) | exact HB.out)))); have n1_ := Aside0.mk (below_step (by repeat (first | (with_reducible first | exact HB.out | apply below_alloc | apply pw_below_drewN | apply below_drew1) | exact HB.out)) hb); clear HB; have HO164 := n0_; have HB := n1_; clear n0_ n1_; clear hb ho6)); try go_wp2_with (first | ((with_reducible refine gate_dst (N := 13) rfl ?_); refine Kd.R_make Kd.bool _ 4 rfl (N := 13) rfl 124 _ _ rfl (l1.length : Int) rfl rfl Tryz.underlying124 (.bool false) 1 info4 rfl (by decide) (by omega) false (ok := fun _ => True) (okp := fun _ => True) rfl (fun _ hk => hk) trivial (of_decide_eq_true (by first | (with_reducible assumption) | assumption)) (Nat.le_trans (Nat.mul_le_mul_right _ (of_decide_eq_true (by first | (with_reducible assumption) | assumption) : (l1.length : Int).toNat ≤ 281474976710656)) (by omega)) (Below.refl _ _) (Nat.le_refl _) ?_; intro v163 w5 ho6 hb hg_ hnew_; clear hg_ hnew_; (first | rw [← Ny162.out] at ho6 | (simp only [Int.reduceToNat] at ho6; rw [← Ny162.out] at ho6)); have n0_ := Aside0.mk (Kd.R_lower ho6 (below_size (by repeat (first | (with_reducible first | exact HB.out | apply below_alloc | apply pw_below_drewN | apply below_drew1) | exact HB.out)))); have n1_ := Aside0.mk (below_step (by repeat (first | (with_reducible first | exact HB.out | apply below_alloc | apply pw_below_drewN | apply below_drew1) | exact HB.out)) hb); clear HB; have HO164 := n0_; have HB := n1_; clear n0_ n1_; clear hb ho6)))
      go_loopg [5, 7] k (fun kq v5 v7 w' => ∃ (x5_1 : Bool) (x6_1 : List Bool) (x7_1 : Int), v5 = .bool x5_1 ∧ v7 = .int .i64 x7_1 ∧ Aside0 (bywashref1_fields.l0 kq l0 l1 x5_1 x6_1 x7_1 = some r) ∧ Aside0 (kq ≤ k) ∧ Aside0 (Kd.R Kd.bool 4 w' w.heap.size (fun _ => True) v163 x6_1) ∧ Aside0 (Below w.heap.size w w'))
      case atStart => exact ⟨(false), (y162), (0), (by first | rfl | (simp; done) | (simp [*]; done)), (by first | rfl | (simp; done) | (simp [*]; done)), H', ⟨Nat.le_refl _⟩, ⟨by (with_reducible repeat (first | apply Kd.R_alloc | apply Kd.R_drewN | apply Kd.R_drew)); exact HO164.out⟩, ⟨by repeat (first | (with_reducible first | exact HB.out | apply below_alloc | apply pw_below_drewN | apply below_drew1) | exact HB.out)⟩⟩
      case round =>
        clear H'
        try clear c1
        try clear p2
        try clear c3
        try clear c3b0
        try clear c3b1
        try clear c4
        try clear c4b0
        try clear c4b1
        obtain ⟨x5_1, x6_1, x7_1, rfl, rfl, HA, HK1, HO_6, HB⟩ := hrel
        cases gk with
        | zero => exact absurd HA.out (by simp [bywashref1_fields.l0])
        | succ k1 =>
          have H := HA.out
          clear HA
          simp only [bywashref1_fields.l0] at H
          by_cases c7 : x7_1 < (l0.length : Int)
          · rw [if_pos c7] at H
            have c7b0 : decide (x7_1 < (l0.length : Int)) = true := decide_eq_true c7
            clear c7
            by_cases c8 : 0 ≤ x7_1
            · rw [if_pos c8] at H
              have c8b0 : decide (0 ≤ x7_1) = true := decide_eq_true c8
              clear c8
              have H' := Aside0.mk H
              clear H
              have p165 : 0 ≤ (x7_1 : Int) := of_decide_eq_true (by first | (with_reducible assumption) | assumption)
              have q165 : x7_1 < (l0.length : Int) := of_decide_eq_true (by first | (with_reducible assumption) | assumption)
              obtain ⟨ad165, e165, hx165_0, hx165_1⟩ := at_T61 HR0.out x7_1 p165 q165
              cases e165
              replace hx165_0 := (HB.out.cell (World.block_lt_of_cell? w _ hx165_0)).trans hx165_0
              replace hx165_1 := (HB.out.cell (World.block_lt_of_cell? w _ hx165_1)).trans hx165_1
              replace p165 := eq_true p165
              replace q165 := eq_true q165
              go_wp2_with (first | ((with_reducible refine gate_dst (N := 8) rfl ?_); refine box_event ?hg (N := 8) ?hd (cs := #[.string (⟨#[]⟩ : ByteArray), .string (⟨#[]⟩ : ByteArray)]) (t := 61) ?hr ?_; (case hd => rfl); (case hg => rfl); (case hr => first | (go_simp; done) | (go_simp; rfl)); intro gb166 hg w9 hbox hb; have n0_ := Aside0.mk (Kd.R_below (by (with_reducible repeat (first | apply Kd.R_alloc | apply Kd.R_drewN | apply Kd.R_drew)); exact HO_6.out) hb); have n1_ := Aside0.mk (below_step (by repeat (first | (with_reducible first | exact HB.out | apply below_alloc | apply pw_below_drewN | apply below_drew1) | exact HB.out)) hb); have n2_ := Aside0.mk (hbox); have n3_ := Aside0.mk ((by rw [hg]; exact (below_size (by repeat (first | (with_reducible first | exact HB.out | apply below_alloc | apply pw_below_drewN | apply below_drew1) | exact HB.out))) : w.heap.size ≤ gb166)); have n4_ := Aside0.mk ((by rw [hg]; exact (below_size (by repeat (first | (with_reducible first | exact HB.out | apply below_alloc | apply pw_below_drewN | apply below_drew1) | exact HB.out))) : w.heap.size ≤ gb166)); clear HO_6; clear HB; have HO_6 := n0_; have HB := n1_; have BK166 := n2_; have GW166 := n3_; have GE166 := n4_; clear n0_ n1_ n2_ n3_ n4_; clear hb hbox hg; have hcz10_0 : w9.cell? ⟨gb166, 0, none⟩ = some (.string (⟨#[]⟩ : ByteArray)) := (blk_cell BK166.out 0).trans rfl; have hcz10_1 : w9.cell? ⟨gb166, 1, none⟩ = some (.string (⟨#[]⟩ : ByteArray)) := (blk_cell BK166.out 1).trans rfl; have hfz10_0 := blk_frozen BK166.out 0; have hfz10_1 := blk_frozen BK166.out 1))
              repeat (go_quiet (first | ((with_reducible refine gate_dst (N := 8) rfl ?_); refine box_event ?hg (N := 8) ?hd (cs := #[.string (⟨#[]⟩ : ByteArray), .string (⟨#[]⟩ : ByteArray)]) (t := 61) ?hr ?_; (case hd => rfl); (case hg => rfl); (case hr => first | (go_simp; done) | (go_simp; rfl)); intro gb166 hg w9 hbox hb; have n0_ := Aside0.mk (Kd.R_below (by (with_reducible repeat (first | apply Kd.R_alloc | apply Kd.R_drewN | apply Kd.R_drew)); exact HO_6.out) hb); have n1_ := Aside0.mk (below_step (by repeat (first | (with_reducible first | exact HB.out | apply below_alloc | apply pw_below_drewN | apply below_drew1) | exact HB.out)) hb); have n2_ := Aside0.mk (hbox); have n3_ := Aside0.mk ((by rw [hg]; exact (below_size (by repeat (first | (with_reducible first | exact HB.out | apply below_alloc | apply pw_below_drewN | apply below_drew1) | exact HB.out))) : w.heap.size ≤ gb166)); have n4_ := Aside0.mk ((by rw [hg]; exact (below_size (by repeat (first | (with_reducible first | exact HB.out | apply below_alloc | apply pw_below_drewN | apply below_drew1) | exact HB.out))) : w.heap.size ≤ gb166)); clear HO_6; clear HB; have HO_6 := n0_; have HB := n1_; have BK166 := n2_; have GW166 := n3_; have GE166 := n4_; clear n0_ n1_ n2_ n3_ n4_; clear hb hbox hg; have hcz10_0 : w9.cell? ⟨gb166, 0, none⟩ = some (.string (⟨#[]⟩ : ByteArray)) := (blk_cell BK166.out 0).trans rfl; have hcz10_1 : w9.cell? ⟨gb166, 1, none⟩ = some (.string (⟨#[]⟩ : ByteArray)) := (blk_cell BK166.out 1).trans rfl; have hfz10_0 := blk_frozen BK166.out 0; have hfz10_1 := blk_frozen BK166.out 1)); try go_wp2_with (first | ((with_reducible refine gate_dst (N := 8) rfl ?_); refine box_event ?hg (N := 8) ?hd (cs := #[.string (⟨#[]⟩ : ByteArray), .string (⟨#[]⟩ : ByteArray)]) (t := 61) ?hr ?_; (case hd => rfl); (case hg => rfl); (case hr => first | (go_simp; done) | (go_simp; rfl)); intro gb166 hg w9 hbox hb; have n0_ := Aside0.mk (Kd.R_below (by (with_reducible repeat (first | apply Kd.R_alloc | apply Kd.R_drewN | apply Kd.R_drew)); exact HO_6.out) hb); have n1_ := Aside0.mk (below_step (by repeat (first | (with_reducible first | exact HB.out | apply below_alloc | apply pw_below_drewN | apply below_drew1) | exact HB.out)) hb); have n2_ := Aside0.mk (hbox); have n3_ := Aside0.mk ((by rw [hg]; exact (below_size (by repeat (first | (with_reducible first | exact HB.out | apply below_alloc | apply pw_below_drewN | apply below_drew1) | exact HB.out))) : w.heap.size ≤ gb166)); have n4_ := Aside0.mk ((by rw [hg]; exact (below_size (by repeat (first | (with_reducible first | exact HB.out | apply below_alloc | apply pw_below_drewN | apply below_drew1) | exact HB.out))) : w.heap.size ≤ gb166)); clear HO_6; clear HB; have HO_6 := n0_; have HB := n1_; have BK166 := n2_; have GW166 := n3_; have GE166 := n4_; clear n0_ n1_ n2_ n3_ n4_; clear hb hbox hg; have hcz10_0 : w9.cell? ⟨gb166, 0, none⟩ = some (.string (⟨#[]⟩ : ByteArray)) := (blk_cell BK166.out 0).trans rfl; have hcz10_1 : w9.cell? ⟨gb166, 1, none⟩ = some (.string (⟨#[]⟩ : ByteArray)) := (blk_cell BK166.out 1).trans rfl; have hfz10_0 := blk_frozen BK166.out 0; have hfz10_1 := blk_frozen BK166.out 1)))
              go_loopg [9, 10] k1 (fun kq v9 v10 w' => ∃ (x9_2 : Int) (x10_2 : Int), v9 = .int .i64 x9_2 ∧ v10 = .int .i64 x10_2 ∧ Aside0 (bywashref1_fields.l1 kq l0 l1 x5_1 x6_1 x7_1 x9_2 x10_2 ((rd_T61 l0 x7_1).f0) ((rd_T61 l0 x7_1).f1) = some r) ∧ Aside0 (kq ≤ k1) ∧ Aside0 (Kd.R Kd.bool 4 w' w.heap.size (fun _ => True) v163 x6_1) ∧ Aside0 (w'.heap[gb166]? = some (.cells #[.string ((rd_T61 l0 x7_1).f0), .string ((rd_T61 l0 x7_1).f1)] 61 (0, 0))) ∧ Aside0 (Below w.heap.size w w'))
              case atStart => exact ⟨((-1)), (0), (by first | rfl | (simp; done) | (simp [*]; done)), (by first | rfl | (simp; done) | (simp [*]; done)), H', ⟨Nat.le_refl _⟩, ⟨by (with_reducible repeat (first | apply Kd.R_alloc | apply Kd.R_drewN | apply Kd.R_drew)); exact Kd.R_mono (Kd.R_far (p := ⟨gb166, 1, none⟩) (Kd.R_far (p := ⟨gb166, 0, none⟩) (Kd.R_types HO_6.out BK166.out (by decide)) (fun _ hk => hk.2) (.string ((rd_T61 l0 x7_1).f0))) (fun _ hk => hk.2) (.string ((rd_T61 l0 x7_1).f1))) (fun _ hk => trivial)⟩, ⟨by (with_reducible repeat (first | refine blk_drewN ?_ _ | refine blk_drew ?_ | refine blk_alloc ?_ _)); refine blk_put (cs := #[.string ((rd_T61 l0 x7_1).f0), .string (⟨#[]⟩ : ByteArray)]) ?_ 1 _ rfl; (with_reducible repeat (first | refine blk_drewN ?_ _ | refine blk_drew ?_ | refine blk_alloc ?_ _)); refine blk_put (cs := #[.string (⟨#[]⟩ : ByteArray), .string (⟨#[]⟩ : ByteArray)]) ?_ 0 _ rfl; (with_reducible repeat (first | refine blk_drewN ?_ _ | refine blk_drew ?_ | refine blk_alloc ?_ _)); exact BK166.out⟩, ⟨by repeat (first | (with_reducible first | exact HB.out | apply below_alloc | apply pw_below_drewN | apply below_drew1 | refine below_set ?_ GE166.out) | exact HB.out)⟩⟩
              case round =>
                clear H'
                try clear c1
                try clear p1
                try clear q1
                try clear hx1
                try clear p2
                try clear c3
                try clear c3b0
                try clear c3b1
                try clear c4
                try clear c4b0
                try clear c4b1
                try clear c7
                try clear c7b0
                try clear c8
                try clear c8b0
                try clear hcz10_0
                try clear hcz10_1
                try clear hfz10_0
                try clear hfz10_1
                try clear hx165_0
                try clear hx165_1
                try clear p165
                try clear p2
                try clear q165
                obtain ⟨x9_2, x10_2, rfl, rfl, HA, HK2, HO_6, BK166, HB⟩ := hrel
                cases gk with
                | zero => exact absurd HA.out (by simp [bywashref1_fields.l1])
                | succ k2 =>
                  have H := HA.out
                  clear HA
                  simp only [bywashref1_fields.l1] at H
                  by_cases c11 : x10_2 < (l1.length : Int)
                  · rw [if_pos c11] at H
                    have c11b0 : decide (x10_2 < (l1.length : Int)) = true := decide_eq_true c11
                    clear c11
                    by_cases c12 : 0 ≤ x10_2
                    · rw [if_pos c12] at H
                      have c12b0 : decide (0 ≤ x10_2) = true := decide_eq_true c12
                      clear c12
                      by_cases c13 : (rdOf ByteArray.empty l1 x10_2).toList = ((rd_T61 l0 x7_1).f0).toList
                      · rw [if_pos c13] at H
                        have c13b0 : ((rdOf ByteArray.empty l1 x10_2).toList == ((rd_T61 l0 x7_1).f0).toList) = true := beq_iff_eq.mpr c13
                        have c13b1 : ((rdOf ByteArray.empty l1 x10_2).toList != ((rd_T61 l0 x7_1).f0).toList) = false := bne_eq_false_iff_eq.mpr c13
                        clear c13
                        have H' := Aside0.mk H
                        clear H
                        have p167 : 0 ≤ (x10_2 : Int) := of_decide_eq_true (by first | (with_reducible assumption) | assumption)
                        have q167 : x10_2 < (l1.length : Int) := of_decide_eq_true (by first | (with_reducible assumption) | assumption)
                        obtain ⟨ad167, e167, hx167_0⟩ := Kd.at_string HR1.out x10_2 p167 q167
                        cases e167
                        replace hx167_0 := (HB.out.cell (World.block_lt_of_cell? w _ hx167_0)).trans hx167_0
                        replace p167 := eq_true p167
                        replace q167 := eq_true q167
                        have hcz14_0 : wr.cell? ⟨gb166, 0, none⟩ = some (.string ((rd_T61 l0 x7_1).f0)) := (blk_cell BK166.out 0).trans rfl
                        have hcz14_1 : wr.cell? ⟨gb166, 1, none⟩ = some (.string ((rd_T61 l0 x7_1).f1)) := (blk_cell BK166.out 1).trans rfl
                        have hfz14_0 := blk_frozen BK166.out 0
                        have hfz14_1 := blk_frozen BK166.out 1
                        go_wp2
                        repeat (go_quiet (fail); try go_wp2)
                        go_roundg k2
                        case measure => have := HK1.out; have := HK2.out; omega
                        case rel => exact ⟨(x10_2), (wrap64 (x10_2 + 1)), (by first | rfl | (simp; done) | (simp [*]; done)), (by first | rfl | (simp; done) | (simp [*]; done)), H', ⟨by have := HK1.out; have := HK2.out; omega⟩, ⟨by (with_reducible repeat (first | apply Kd.R_alloc | apply Kd.R_drewN | apply Kd.R_drew)); exact HO_6.out⟩, ⟨by (with_reducible repeat (first | refine blk_drewN ?_ _ | refine blk_drew ?_ | refine blk_alloc ?_ _)); exact BK166.out⟩, ⟨by repeat (first | (with_reducible first | exact HB.out | apply below_alloc | apply pw_below_drewN | apply below_drew1 | refine below_set ?_ GE166.out) | exact HB.out)⟩⟩
                      · rw [if_neg c13] at H
                        have c13b0 : ((rdOf ByteArray.empty l1 x10_2).toList == ((rd_T61 l0 x7_1).f0).toList) = false := beq_eq_false_iff_ne.mpr c13
                        have c13b1 : ((rdOf ByteArray.empty l1 x10_2).toList != ((rd_T61 l0 x7_1).f0).toList) = true := bne_iff_ne.mpr c13
                        have H' := Aside0.mk H
                        clear H
                        have p167 : 0 ≤ (x10_2 : Int) := of_decide_eq_true (by first | (with_reducible assumption) | assumption)
                        have q167 : x10_2 < (l1.length : Int) := of_decide_eq_true (by first | (with_reducible assumption) | assumption)
                        obtain ⟨ad167, e167, hx167_0⟩ := Kd.at_string HR1.out x10_2 p167 q167
                        cases e167
                        replace hx167_0 := (HB.out.cell (World.block_lt_of_cell? w _ hx167_0)).trans hx167_0
                        replace p167 := eq_true p167
                        replace q167 := eq_true q167
                        have hcz15_0 : wr.cell? ⟨gb166, 0, none⟩ = some (.string ((rd_T61 l0 x7_1).f0)) := (blk_cell BK166.out 0).trans rfl
                        have hcz15_1 : wr.cell? ⟨gb166, 1, none⟩ = some (.string ((rd_T61 l0 x7_1).f1)) := (blk_cell BK166.out 1).trans rfl
                        have hfz15_0 := blk_frozen BK166.out 0
                        have hfz15_1 := blk_frozen BK166.out 1
                        go_wp2
                        repeat (go_quiet (fail); try go_wp2)
                        go_roundg k2
                        case measure => have := HK1.out; have := HK2.out; omega
                        case rel => exact ⟨(x9_2), (wrap64 (x10_2 + 1)), (by first | rfl | (simp; done) | (simp [*]; done)), (by first | rfl | (simp; done) | (simp [*]; done)), H', ⟨by have := HK1.out; have := HK2.out; omega⟩, ⟨by (with_reducible repeat (first | apply Kd.R_alloc | apply Kd.R_drewN | apply Kd.R_drew)); exact HO_6.out⟩, ⟨by (with_reducible repeat (first | refine blk_drewN ?_ _ | refine blk_drew ?_ | refine blk_alloc ?_ _)); exact BK166.out⟩, ⟨by repeat (first | (with_reducible first | exact HB.out | apply below_alloc | apply pw_below_drewN | apply below_drew1 | refine below_set ?_ GE166.out) | exact HB.out)⟩⟩
                    · rw [if_neg c12] at H
                      exact absurd H (by simp)
                  · rw [if_neg c11] at H
                    have c11b0 : decide (x10_2 < (l1.length : Int)) = false := decide_eq_false c11
                    clear c11
                    have HC16 := Aside0.mk H
                    clear H
                    go_upto_region 13 with (fail)
                    repeat (go_quiet (fail); go_upto_region 13 with (fail))
                    go_cut [75] (fun v75 wc => ∃ (kq : Nat) (x75_15 : Bool), v75 = .bool x75_15 ∧ Aside0 (bywashref1_fields.j2 kq l0 l1 x5_1 x6_1 x7_1 x9_2 x75_15 ((rd_T61 l0 x7_1).f0) ((rd_T61 l0 x7_1).f1) = some r) ∧ Aside0 (kq ≤ k2) ∧ Aside0 (Kd.R Kd.bool 4 wc w.heap.size (fun _ => True) v163 x6_1) ∧ Aside0 (wc.heap[gb166]? = some (.cells #[.string ((rd_T61 l0 x7_1).f0), .string ((rd_T61 l0 x7_1).f1)] 61 (0, 0))) ∧ Aside0 (Below w.heap.size w wc))
                    case first =>
                      have H := HC16.out
                      clear HC16
                      by_cases c17 : x9_2 < 0
                      · rw [if_pos c17] at H
                        have c17b0 : decide (x9_2 < 0) = true := decide_eq_true c17
                        clear c17
                        (first | rw [c17b0] | (simp only [i64_w, i32_w]; rw [c17b0]) | skip)
                        replace H := Option.bind_eq_some_iff.mp H
                        obtain ⟨t168, A180, H⟩ := H
                        replace H : (if t168 = true then (if ((rd_T61 l0 x7_1).f0).toList = ([99, 111, 110, 110, 101, 99, 116, 105, 111, 110] : List UInt8) then (bywashref1_fields.j2 k2 l0 l1 x5_1 x6_1 x7_1 x9_2 true ((rd_T61 l0 x7_1).f0) ((rd_T61 l0 x7_1).f1)) else (if ((rd_T61 l0 x7_1).f0).toList = ([116, 114, 97, 110, 115, 102, 101, 114, 45, 101, 110, 99, 111, 100, 105, 110, 103] : List UInt8) then (bywashref1_fields.j2 k2 l0 l1 x5_1 x6_1 x7_1 x9_2 true ((rd_T61 l0 x7_1).f0) ((rd_T61 l0 x7_1).f1)) else (if ((rd_T61 l0 x7_1).f0).toList = ([117, 112, 103, 114, 97, 100, 101] : List UInt8) then (bywashref1_fields.j2 k2 l0 l1 x5_1 x6_1 x7_1 x9_2 true ((rd_T61 l0 x7_1).f0) ((rd_T61 l0 x7_1).f1)) else (if ((rd_T61 l0 x7_1).f0).toList = ([107, 101, 101, 112, 45, 97, 108, 105, 118, 101] : List UInt8) then (bywashref1_fields.j2 k2 l0 l1 x5_1 x6_1 x7_1 x9_2 true ((rd_T61 l0 x7_1).f0) ((rd_T61 l0 x7_1).f1)) else (if ((rd_T61 l0 x7_1).f0).toList = ([116, 101] : List UInt8) then (bywashref1_fields.j2 k2 l0 l1 x5_1 x6_1 x7_1 x9_2 (((rd_T61 l0 x7_1).f1).toList != ([116, 114, 97, 105, 108, 101, 114, 115] : List UInt8)) ((rd_T61 l0 x7_1).f0) ((rd_T61 l0 x7_1).f1)) else (bywashref1_fields.j2 k2 l0 l1 x5_1 x6_1 x7_1 x9_2 false ((rd_T61 l0 x7_1).f0) ((rd_T61 l0 x7_1).f1))))))) else (bywashref1_fields.j2 k2 l0 l1 x5_1 x6_1 x7_1 x9_2 true ((rd_T61 l0 x7_1).f0) ((rd_T61 l0 x7_1).f1))) = some r := H
                        have A18 := Aside0.mk A180
                        clear A180
                        by_cases c19 : t168 = true
                        · subst c19
                          have H1 : (if ((rd_T61 l0 x7_1).f0).toList = ([99, 111, 110, 110, 101, 99, 116, 105, 111, 110] : List UInt8) then (bywashref1_fields.j2 k2 l0 l1 x5_1 x6_1 x7_1 x9_2 true ((rd_T61 l0 x7_1).f0) ((rd_T61 l0 x7_1).f1)) else (if ((rd_T61 l0 x7_1).f0).toList = ([116, 114, 97, 110, 115, 102, 101, 114, 45, 101, 110, 99, 111, 100, 105, 110, 103] : List UInt8) then (bywashref1_fields.j2 k2 l0 l1 x5_1 x6_1 x7_1 x9_2 true ((rd_T61 l0 x7_1).f0) ((rd_T61 l0 x7_1).f1)) else (if ((rd_T61 l0 x7_1).f0).toList = ([117, 112, 103, 114, 97, 100, 101] : List UInt8) then (bywashref1_fields.j2 k2 l0 l1 x5_1 x6_1 x7_1 x9_2 true ((rd_T61 l0 x7_1).f0) ((rd_T61 l0 x7_1).f1)) else (if ((rd_T61 l0 x7_1).f0).toList = ([107, 101, 101, 112, 45, 97, 108, 105, 118, 101] : List UInt8) then (bywashref1_fields.j2 k2 l0 l1 x5_1 x6_1 x7_1 x9_2 true ((rd_T61 l0 x7_1).f0) ((rd_T61 l0 x7_1).f1)) else (if ((rd_T61 l0 x7_1).f0).toList = ([116, 101] : List UInt8) then (bywashref1_fields.j2 k2 l0 l1 x5_1 x6_1 x7_1 x9_2 (((rd_T61 l0 x7_1).f1).toList != ([116, 114, 97, 105, 108, 101, 114, 115] : List UInt8)) ((rd_T61 l0 x7_1).f0) ((rd_T61 l0 x7_1).f1)) else (bywashref1_fields.j2 k2 l0 l1 x5_1 x6_1 x7_1 x9_2 false ((rd_T61 l0 x7_1).f0) ((rd_T61 l0 x7_1).f1))))))) = some r := by rw [if_pos rfl] at H; exact H
                          clear H
                          have H := H1
                          clear H1
                          by_cases c20 : ((rd_T61 l0 x7_1).f0).toList = ([99, 111, 110, 110, 101, 99, 116, 105, 111, 110] : List UInt8)
                          · rw [if_pos c20] at H
                            have c20b0 : (((rd_T61 l0 x7_1).f0).toList == ([99, 111, 110, 110, 101, 99, 116, 105, 111, 110] : List UInt8)) = true := beq_iff_eq.mpr c20
                            have c20b1 : (((rd_T61 l0 x7_1).f0).toList != ([99, 111, 110, 110, 101, 99, 116, 105, 111, 110] : List UInt8)) = false := bne_eq_false_iff_eq.mpr c20
                            clear c20
                            have H' := Aside0.mk H
                            clear H
                            have hcz21_0 : wr.cell? ⟨gb166, 0, none⟩ = some (.string ((rd_T61 l0 x7_1).f0)) := (blk_cell BK166.out 0).trans rfl
                            have hcz21_1 : wr.cell? ⟨gb166, 1, none⟩ = some (.string ((rd_T61 l0 x7_1).f1)) := (blk_cell BK166.out 1).trans rfl
                            have hfz21_0 := blk_frozen BK166.out 0
                            have hfz21_1 := blk_frozen BK166.out 1
                            go_wp2_with (first | (go_at_call 100; (with_reducible refine (bywashref1_Name.calls k2 ((rd_T61 l0 x7_1).f0) true _ A18.out).mono ?_); rintro e w' ⟨rfl, ⟨nd, rfl⟩⟩; (try first | exact ⟨rfl, _, World.drewN_drewN _ _ _⟩ | exact ⟨rfl, _, Eq.trans (World.drewN_drewN _ _ _) (congrArg (World.drewN _) (Nat.add_assoc _ _ _))⟩)))
                            repeat (go_quiet (first | (go_at_call 100; (with_reducible refine (bywashref1_Name.calls k2 ((rd_T61 l0 x7_1).f0) true _ A18.out).mono ?_); rintro e w' ⟨rfl, ⟨nd, rfl⟩⟩; (try first | exact ⟨rfl, _, World.drewN_drewN _ _ _⟩ | exact ⟨rfl, _, Eq.trans (World.drewN_drewN _ _ _) (congrArg (World.drewN _) (Nat.add_assoc _ _ _))⟩))); try go_wp2_with (first | (go_at_call 100; (with_reducible refine (bywashref1_Name.calls k2 ((rd_T61 l0 x7_1).f0) true _ A18.out).mono ?_); rintro e w' ⟨rfl, ⟨nd, rfl⟩⟩; (try first | exact ⟨rfl, _, World.drewN_drewN _ _ _⟩ | exact ⟨rfl, _, Eq.trans (World.drewN_drewN _ _ _) (congrArg (World.drewN _) (Nat.add_assoc _ _ _))⟩))))
                            go_meet
                            case rel => exact ⟨_, (true), (by first | rfl | (simp; done) | (simp [*]; done)), H', ⟨by have := HK1.out; have := HK2.out; first | omega | exact Nat.le_refl _⟩, ⟨by (with_reducible repeat (first | apply Kd.R_alloc | apply Kd.R_drewN | apply Kd.R_drew)); exact HO_6.out⟩, ⟨by (with_reducible repeat (first | refine blk_drewN ?_ _ | refine blk_drew ?_ | refine blk_alloc ?_ _)); exact BK166.out⟩, ⟨by repeat (first | (with_reducible first | exact HB.out | apply below_alloc | apply pw_below_drewN | apply below_drew1 | refine below_set ?_ GE166.out) | exact HB.out)⟩⟩
                          · rw [if_neg c20] at H
                            have c20b0 : (((rd_T61 l0 x7_1).f0).toList == ([99, 111, 110, 110, 101, 99, 116, 105, 111, 110] : List UInt8)) = false := beq_eq_false_iff_ne.mpr c20
                            have c20b1 : (((rd_T61 l0 x7_1).f0).toList != ([99, 111, 110, 110, 101, 99, 116, 105, 111, 110] : List UInt8)) = true := bne_iff_ne.mpr c20
                            by_cases c22 : ((rd_T61 l0 x7_1).f0).toList = ([116, 114, 97, 110, 115, 102, 101, 114, 45, 101, 110, 99, 111, 100, 105, 110, 103] : List UInt8)
                            · rw [if_pos c22] at H
                              have c22b0 : (((rd_T61 l0 x7_1).f0).toList == ([116, 114, 97, 110, 115, 102, 101, 114, 45, 101, 110, 99, 111, 100, 105, 110, 103] : List UInt8)) = true := beq_iff_eq.mpr c22
                              have c22b1 : (((rd_T61 l0 x7_1).f0).toList != ([116, 114, 97, 110, 115, 102, 101, 114, 45, 101, 110, 99, 111, 100, 105, 110, 103] : List UInt8)) = false := bne_eq_false_iff_eq.mpr c22
                              clear c22
                              have H' := Aside0.mk H
                              clear H
                              have hcz23_0 : wr.cell? ⟨gb166, 0, none⟩ = some (.string ((rd_T61 l0 x7_1).f0)) := (blk_cell BK166.out 0).trans rfl
                              have hcz23_1 : wr.cell? ⟨gb166, 1, none⟩ = some (.string ((rd_T61 l0 x7_1).f1)) := (blk_cell BK166.out 1).trans rfl
                              have hfz23_0 := blk_frozen BK166.out 0
                              have hfz23_1 := blk_frozen BK166.out 1
                              go_wp2_with (first | (go_at_call 100; (with_reducible refine (bywashref1_Name.calls k2 ((rd_T61 l0 x7_1).f0) true _ A18.out).mono ?_); rintro e w' ⟨rfl, ⟨nd, rfl⟩⟩; (try first | exact ⟨rfl, _, World.drewN_drewN _ _ _⟩ | exact ⟨rfl, _, Eq.trans (World.drewN_drewN _ _ _) (congrArg (World.drewN _) (Nat.add_assoc _ _ _))⟩)))
                              repeat (go_quiet (first | (go_at_call 100; (with_reducible refine (bywashref1_Name.calls k2 ((rd_T61 l0 x7_1).f0) true _ A18.out).mono ?_); rintro e w' ⟨rfl, ⟨nd, rfl⟩⟩; (try first | exact ⟨rfl, _, World.drewN_drewN _ _ _⟩ | exact ⟨rfl, _, Eq.trans (World.drewN_drewN _ _ _) (congrArg (World.drewN _) (Nat.add_assoc _ _ _))⟩))); try go_wp2_with (first | (go_at_call 100; (with_reducible refine (bywashref1_Name.calls k2 ((rd_T61 l0 x7_1).f0) true _ A18.out).mono ?_); rintro e w' ⟨rfl, ⟨nd, rfl⟩⟩; (try first | exact ⟨rfl, _, World.drewN_drewN _ _ _⟩ | exact ⟨rfl, _, Eq.trans (World.drewN_drewN _ _ _) (congrArg (World.drewN _) (Nat.add_assoc _ _ _))⟩))))
                              go_meet
                              case rel => exact ⟨_, (true), (by first | rfl | (simp; done) | (simp [*]; done)), H', ⟨by have := HK1.out; have := HK2.out; first | omega | exact Nat.le_refl _⟩, ⟨by (with_reducible repeat (first | apply Kd.R_alloc | apply Kd.R_drewN | apply Kd.R_drew)); exact HO_6.out⟩, ⟨by (with_reducible repeat (first | refine blk_drewN ?_ _ | refine blk_drew ?_ | refine blk_alloc ?_ _)); exact BK166.out⟩, ⟨by repeat (first | (with_reducible first | exact HB.out | apply below_alloc | apply pw_below_drewN | apply below_drew1 | refine below_set ?_ GE166.out) | exact HB.out)⟩⟩
                            · rw [if_neg c22] at H
                              have c22b0 : (((rd_T61 l0 x7_1).f0).toList == ([116, 114, 97, 110, 115, 102, 101, 114, 45, 101, 110, 99, 111, 100, 105, 110, 103] : List UInt8)) = false := beq_eq_false_iff_ne.mpr c22
                              have c22b1 : (((rd_T61 l0 x7_1).f0).toList != ([116, 114, 97, 110, 115, 102, 101, 114, 45, 101, 110, 99, 111, 100, 105, 110, 103] : List UInt8)) = true := bne_iff_ne.mpr c22
                              by_cases c24 : ((rd_T61 l0 x7_1).f0).toList = ([117, 112, 103, 114, 97, 100, 101] : List UInt8)
                              · rw [if_pos c24] at H
                                have c24b0 : (((rd_T61 l0 x7_1).f0).toList == ([117, 112, 103, 114, 97, 100, 101] : List UInt8)) = true := beq_iff_eq.mpr c24
                                have c24b1 : (((rd_T61 l0 x7_1).f0).toList != ([117, 112, 103, 114, 97, 100, 101] : List UInt8)) = false := bne_eq_false_iff_eq.mpr c24
                                clear c24
                                have H' := Aside0.mk H
                                clear H
                                have hcz25_0 : wr.cell? ⟨gb166, 0, none⟩ = some (.string ((rd_T61 l0 x7_1).f0)) := (blk_cell BK166.out 0).trans rfl
                                have hcz25_1 : wr.cell? ⟨gb166, 1, none⟩ = some (.string ((rd_T61 l0 x7_1).f1)) := (blk_cell BK166.out 1).trans rfl
                                have hfz25_0 := blk_frozen BK166.out 0
                                have hfz25_1 := blk_frozen BK166.out 1
                                go_wp2_with (first | (go_at_call 100; (with_reducible refine (bywashref1_Name.calls k2 ((rd_T61 l0 x7_1).f0) true _ A18.out).mono ?_); rintro e w' ⟨rfl, ⟨nd, rfl⟩⟩; (try first | exact ⟨rfl, _, World.drewN_drewN _ _ _⟩ | exact ⟨rfl, _, Eq.trans (World.drewN_drewN _ _ _) (congrArg (World.drewN _) (Nat.add_assoc _ _ _))⟩)))
                                repeat (go_quiet (first | (go_at_call 100; (with_reducible refine (bywashref1_Name.calls k2 ((rd_T61 l0 x7_1).f0) true _ A18.out).mono ?_); rintro e w' ⟨rfl, ⟨nd, rfl⟩⟩; (try first | exact ⟨rfl, _, World.drewN_drewN _ _ _⟩ | exact ⟨rfl, _, Eq.trans (World.drewN_drewN _ _ _) (congrArg (World.drewN _) (Nat.add_assoc _ _ _))⟩))); try go_wp2_with (first | (go_at_call 100; (with_reducible refine (bywashref1_Name.calls k2 ((rd_T61 l0 x7_1).f0) true _ A18.out).mono ?_); rintro e w' ⟨rfl, ⟨nd, rfl⟩⟩; (try first | exact ⟨rfl, _, World.drewN_drewN _ _ _⟩ | exact ⟨rfl, _, Eq.trans (World.drewN_drewN _ _ _) (congrArg (World.drewN _) (Nat.add_assoc _ _ _))⟩))))
                                go_meet
                                case rel => exact ⟨_, (true), (by first | rfl | (simp; done) | (simp [*]; done)), H', ⟨by have := HK1.out; have := HK2.out; first | omega | exact Nat.le_refl _⟩, ⟨by (with_reducible repeat (first | apply Kd.R_alloc | apply Kd.R_drewN | apply Kd.R_drew)); exact HO_6.out⟩, ⟨by (with_reducible repeat (first | refine blk_drewN ?_ _ | refine blk_drew ?_ | refine blk_alloc ?_ _)); exact BK166.out⟩, ⟨by repeat (first | (with_reducible first | exact HB.out | apply below_alloc | apply pw_below_drewN | apply below_drew1 | refine below_set ?_ GE166.out) | exact HB.out)⟩⟩
                              · rw [if_neg c24] at H
                                have c24b0 : (((rd_T61 l0 x7_1).f0).toList == ([117, 112, 103, 114, 97, 100, 101] : List UInt8)) = false := beq_eq_false_iff_ne.mpr c24
                                have c24b1 : (((rd_T61 l0 x7_1).f0).toList != ([117, 112, 103, 114, 97, 100, 101] : List UInt8)) = true := bne_iff_ne.mpr c24
                                by_cases c26 : ((rd_T61 l0 x7_1).f0).toList = ([107, 101, 101, 112, 45, 97, 108, 105, 118, 101] : List UInt8)
                                · rw [if_pos c26] at H
                                  have c26b0 : (((rd_T61 l0 x7_1).f0).toList == ([107, 101, 101, 112, 45, 97, 108, 105, 118, 101] : List UInt8)) = true := beq_iff_eq.mpr c26
                                  have c26b1 : (((rd_T61 l0 x7_1).f0).toList != ([107, 101, 101, 112, 45, 97, 108, 105, 118, 101] : List UInt8)) = false := bne_eq_false_iff_eq.mpr c26
                                  clear c26
                                  have H' := Aside0.mk H
                                  clear H
                                  have hcz27_0 : wr.cell? ⟨gb166, 0, none⟩ = some (.string ((rd_T61 l0 x7_1).f0)) := (blk_cell BK166.out 0).trans rfl
                                  have hcz27_1 : wr.cell? ⟨gb166, 1, none⟩ = some (.string ((rd_T61 l0 x7_1).f1)) := (blk_cell BK166.out 1).trans rfl
                                  have hfz27_0 := blk_frozen BK166.out 0
                                  have hfz27_1 := blk_frozen BK166.out 1
                                  go_wp2_with (first | (go_at_call 100; (with_reducible refine (bywashref1_Name.calls k2 ((rd_T61 l0 x7_1).f0) true _ A18.out).mono ?_); rintro e w' ⟨rfl, ⟨nd, rfl⟩⟩; (try first | exact ⟨rfl, _, World.drewN_drewN _ _ _⟩ | exact ⟨rfl, _, Eq.trans (World.drewN_drewN _ _ _) (congrArg (World.drewN _) (Nat.add_assoc _ _ _))⟩)))
                                  repeat (go_quiet (first | (go_at_call 100; (with_reducible refine (bywashref1_Name.calls k2 ((rd_T61 l0 x7_1).f0) true _ A18.out).mono ?_); rintro e w' ⟨rfl, ⟨nd, rfl⟩⟩; (try first | exact ⟨rfl, _, World.drewN_drewN _ _ _⟩ | exact ⟨rfl, _, Eq.trans (World.drewN_drewN _ _ _) (congrArg (World.drewN _) (Nat.add_assoc _ _ _))⟩))); try go_wp2_with (first | (go_at_call 100; (with_reducible refine (bywashref1_Name.calls k2 ((rd_T61 l0 x7_1).f0) true _ A18.out).mono ?_); rintro e w' ⟨rfl, ⟨nd, rfl⟩⟩; (try first | exact ⟨rfl, _, World.drewN_drewN _ _ _⟩ | exact ⟨rfl, _, Eq.trans (World.drewN_drewN _ _ _) (congrArg (World.drewN _) (Nat.add_assoc _ _ _))⟩))))
                                  go_meet
                                  case rel => exact ⟨_, (true), (by first | rfl | (simp; done) | (simp [*]; done)), H', ⟨by have := HK1.out; have := HK2.out; first | omega | exact Nat.le_refl _⟩, ⟨by (with_reducible repeat (first | apply Kd.R_alloc | apply Kd.R_drewN | apply Kd.R_drew)); exact HO_6.out⟩, ⟨by (with_reducible repeat (first | refine blk_drewN ?_ _ | refine blk_drew ?_ | refine blk_alloc ?_ _)); exact BK166.out⟩, ⟨by repeat (first | (with_reducible first | exact HB.out | apply below_alloc | apply pw_below_drewN | apply below_drew1 | refine below_set ?_ GE166.out) | exact HB.out)⟩⟩
                                · rw [if_neg c26] at H
                                  have c26b0 : (((rd_T61 l0 x7_1).f0).toList == ([107, 101, 101, 112, 45, 97, 108, 105, 118, 101] : List UInt8)) = false := beq_eq_false_iff_ne.mpr c26
                                  have c26b1 : (((rd_T61 l0 x7_1).f0).toList != ([107, 101, 101, 112, 45, 97, 108, 105, 118, 101] : List UInt8)) = true := bne_iff_ne.mpr c26
                                  by_cases c28 : ((rd_T61 l0 x7_1).f0).toList = ([116, 101] : List UInt8)
                                  · rw [if_pos c28] at H
                                    have c28b0 : (((rd_T61 l0 x7_1).f0).toList == ([116, 101] : List UInt8)) = true := beq_iff_eq.mpr c28
                                    have c28b1 : (((rd_T61 l0 x7_1).f0).toList != ([116, 101] : List UInt8)) = false := bne_eq_false_iff_eq.mpr c28
                                    clear c28
                                    have H' := Aside0.mk H
                                    clear H
                                    have hcz29_0 : wr.cell? ⟨gb166, 0, none⟩ = some (.string ((rd_T61 l0 x7_1).f0)) := (blk_cell BK166.out 0).trans rfl
                                    have hcz29_1 : wr.cell? ⟨gb166, 1, none⟩ = some (.string ((rd_T61 l0 x7_1).f1)) := (blk_cell BK166.out 1).trans rfl
                                    have hfz29_0 := blk_frozen BK166.out 0
                                    have hfz29_1 := blk_frozen BK166.out 1
                                    go_wp2_with (first | (go_at_call 100; (with_reducible refine (bywashref1_Name.calls k2 ((rd_T61 l0 x7_1).f0) true _ A18.out).mono ?_); rintro e w' ⟨rfl, ⟨nd, rfl⟩⟩; (try first | exact ⟨rfl, _, World.drewN_drewN _ _ _⟩ | exact ⟨rfl, _, Eq.trans (World.drewN_drewN _ _ _) (congrArg (World.drewN _) (Nat.add_assoc _ _ _))⟩)))
                                    repeat (go_quiet (first | (go_at_call 100; (with_reducible refine (bywashref1_Name.calls k2 ((rd_T61 l0 x7_1).f0) true _ A18.out).mono ?_); rintro e w' ⟨rfl, ⟨nd, rfl⟩⟩; (try first | exact ⟨rfl, _, World.drewN_drewN _ _ _⟩ | exact ⟨rfl, _, Eq.trans (World.drewN_drewN _ _ _) (congrArg (World.drewN _) (Nat.add_assoc _ _ _))⟩))); try go_wp2_with (first | (go_at_call 100; (with_reducible refine (bywashref1_Name.calls k2 ((rd_T61 l0 x7_1).f0) true _ A18.out).mono ?_); rintro e w' ⟨rfl, ⟨nd, rfl⟩⟩; (try first | exact ⟨rfl, _, World.drewN_drewN _ _ _⟩ | exact ⟨rfl, _, Eq.trans (World.drewN_drewN _ _ _) (congrArg (World.drewN _) (Nat.add_assoc _ _ _))⟩))))
                                    go_meet
                                    case rel => exact ⟨_, ((((rd_T61 l0 x7_1).f1).toList != ([116, 114, 97, 105, 108, 101, 114, 115] : List UInt8))), (by first | rfl | (simp; done) | (simp [*]; done)), H', ⟨by have := HK1.out; have := HK2.out; first | omega | exact Nat.le_refl _⟩, ⟨by (with_reducible repeat (first | apply Kd.R_alloc | apply Kd.R_drewN | apply Kd.R_drew)); exact HO_6.out⟩, ⟨by (with_reducible repeat (first | refine blk_drewN ?_ _ | refine blk_drew ?_ | refine blk_alloc ?_ _)); exact BK166.out⟩, ⟨by repeat (first | (with_reducible first | exact HB.out | apply below_alloc | apply pw_below_drewN | apply below_drew1 | refine below_set ?_ GE166.out) | exact HB.out)⟩⟩
                                  · rw [if_neg c28] at H
                                    have c28b0 : (((rd_T61 l0 x7_1).f0).toList == ([116, 101] : List UInt8)) = false := beq_eq_false_iff_ne.mpr c28
                                    have c28b1 : (((rd_T61 l0 x7_1).f0).toList != ([116, 101] : List UInt8)) = true := bne_iff_ne.mpr c28
                                    have H' := Aside0.mk H
                                    clear H
                                    have hcz30_0 : wr.cell? ⟨gb166, 0, none⟩ = some (.string ((rd_T61 l0 x7_1).f0)) := (blk_cell BK166.out 0).trans rfl
                                    have hcz30_1 : wr.cell? ⟨gb166, 1, none⟩ = some (.string ((rd_T61 l0 x7_1).f1)) := (blk_cell BK166.out 1).trans rfl
                                    have hfz30_0 := blk_frozen BK166.out 0
                                    have hfz30_1 := blk_frozen BK166.out 1
                                    go_wp2_with (first | (go_at_call 100; (with_reducible refine (bywashref1_Name.calls k2 ((rd_T61 l0 x7_1).f0) true _ A18.out).mono ?_); rintro e w' ⟨rfl, ⟨nd, rfl⟩⟩; (try first | exact ⟨rfl, _, World.drewN_drewN _ _ _⟩ | exact ⟨rfl, _, Eq.trans (World.drewN_drewN _ _ _) (congrArg (World.drewN _) (Nat.add_assoc _ _ _))⟩)))
                                    repeat (go_quiet (first | (go_at_call 100; (with_reducible refine (bywashref1_Name.calls k2 ((rd_T61 l0 x7_1).f0) true _ A18.out).mono ?_); rintro e w' ⟨rfl, ⟨nd, rfl⟩⟩; (try first | exact ⟨rfl, _, World.drewN_drewN _ _ _⟩ | exact ⟨rfl, _, Eq.trans (World.drewN_drewN _ _ _) (congrArg (World.drewN _) (Nat.add_assoc _ _ _))⟩))); try go_wp2_with (first | (go_at_call 100; (with_reducible refine (bywashref1_Name.calls k2 ((rd_T61 l0 x7_1).f0) true _ A18.out).mono ?_); rintro e w' ⟨rfl, ⟨nd, rfl⟩⟩; (try first | exact ⟨rfl, _, World.drewN_drewN _ _ _⟩ | exact ⟨rfl, _, Eq.trans (World.drewN_drewN _ _ _) (congrArg (World.drewN _) (Nat.add_assoc _ _ _))⟩))))
                                    go_meet
                                    case rel => exact ⟨_, (false), (by first | rfl | (simp; done) | (simp [*]; done)), H', ⟨by have := HK1.out; have := HK2.out; first | omega | exact Nat.le_refl _⟩, ⟨by (with_reducible repeat (first | apply Kd.R_alloc | apply Kd.R_drewN | apply Kd.R_drew)); exact HO_6.out⟩, ⟨by (with_reducible repeat (first | refine blk_drewN ?_ _ | refine blk_drew ?_ | refine blk_alloc ?_ _)); exact BK166.out⟩, ⟨by repeat (first | (with_reducible first | exact HB.out | apply below_alloc | apply pw_below_drewN | apply below_drew1 | refine below_set ?_ GE166.out) | exact HB.out)⟩⟩
                        · replace c19 := Bool.eq_false_iff.mpr c19
                          subst c19
                          have H1 : (bywashref1_fields.j2 k2 l0 l1 x5_1 x6_1 x7_1 x9_2 true ((rd_T61 l0 x7_1).f0) ((rd_T61 l0 x7_1).f1)) = some r := by rw [if_neg (show ¬ (false = true) by decide)] at H; exact H
                          clear H
                          have H := H1
                          clear H1
                          have H' := Aside0.mk H
                          clear H
                          have hcz31_0 : wr.cell? ⟨gb166, 0, none⟩ = some (.string ((rd_T61 l0 x7_1).f0)) := (blk_cell BK166.out 0).trans rfl
                          have hcz31_1 : wr.cell? ⟨gb166, 1, none⟩ = some (.string ((rd_T61 l0 x7_1).f1)) := (blk_cell BK166.out 1).trans rfl
                          have hfz31_0 := blk_frozen BK166.out 0
                          have hfz31_1 := blk_frozen BK166.out 1
                          go_wp2_with (first | (go_at_call 100; (with_reducible refine (bywashref1_Name.calls k2 ((rd_T61 l0 x7_1).f0) false _ A18.out).mono ?_); rintro e w' ⟨rfl, ⟨nd, rfl⟩⟩; (try first | exact ⟨rfl, _, World.drewN_drewN _ _ _⟩ | exact ⟨rfl, _, Eq.trans (World.drewN_drewN _ _ _) (congrArg (World.drewN _) (Nat.add_assoc _ _ _))⟩)))
                          repeat (go_quiet (first | (go_at_call 100; (with_reducible refine (bywashref1_Name.calls k2 ((rd_T61 l0 x7_1).f0) false _ A18.out).mono ?_); rintro e w' ⟨rfl, ⟨nd, rfl⟩⟩; (try first | exact ⟨rfl, _, World.drewN_drewN _ _ _⟩ | exact ⟨rfl, _, Eq.trans (World.drewN_drewN _ _ _) (congrArg (World.drewN _) (Nat.add_assoc _ _ _))⟩))); try go_wp2_with (first | (go_at_call 100; (with_reducible refine (bywashref1_Name.calls k2 ((rd_T61 l0 x7_1).f0) false _ A18.out).mono ?_); rintro e w' ⟨rfl, ⟨nd, rfl⟩⟩; (try first | exact ⟨rfl, _, World.drewN_drewN _ _ _⟩ | exact ⟨rfl, _, Eq.trans (World.drewN_drewN _ _ _) (congrArg (World.drewN _) (Nat.add_assoc _ _ _))⟩))))
                          go_meet
                          case rel => exact ⟨_, (true), (by first | rfl | (simp; done) | (simp [*]; done)), H', ⟨by have := HK1.out; have := HK2.out; first | omega | exact Nat.le_refl _⟩, ⟨by (with_reducible repeat (first | apply Kd.R_alloc | apply Kd.R_drewN | apply Kd.R_drew)); exact HO_6.out⟩, ⟨by (with_reducible repeat (first | refine blk_drewN ?_ _ | refine blk_drew ?_ | refine blk_alloc ?_ _)); exact BK166.out⟩, ⟨by repeat (first | (with_reducible first | exact HB.out | apply below_alloc | apply pw_below_drewN | apply below_drew1 | refine below_set ?_ GE166.out) | exact HB.out)⟩⟩
                      · rw [if_neg c17] at H
                        have c17b0 : decide (x9_2 < 0) = false := decide_eq_false c17
                        clear c17
                        (first | rw [c17b0] | (simp only [i64_w, i32_w]; rw [c17b0]) | skip)
                        by_cases c32 : ((rd_T61 l0 x7_1).f0).toList = ([99, 111, 110, 110, 101, 99, 116, 105, 111, 110] : List UInt8)
                        · rw [if_pos c32] at H
                          have c32b0 : (((rd_T61 l0 x7_1).f0).toList == ([99, 111, 110, 110, 101, 99, 116, 105, 111, 110] : List UInt8)) = true := beq_iff_eq.mpr c32
                          have c32b1 : (((rd_T61 l0 x7_1).f0).toList != ([99, 111, 110, 110, 101, 99, 116, 105, 111, 110] : List UInt8)) = false := bne_eq_false_iff_eq.mpr c32
                          clear c32
                          have H' := Aside0.mk H
                          clear H
                          have hcz33_0 : wr.cell? ⟨gb166, 0, none⟩ = some (.string ((rd_T61 l0 x7_1).f0)) := (blk_cell BK166.out 0).trans rfl
                          have hcz33_1 : wr.cell? ⟨gb166, 1, none⟩ = some (.string ((rd_T61 l0 x7_1).f1)) := (blk_cell BK166.out 1).trans rfl
                          have hfz33_0 := blk_frozen BK166.out 0
                          have hfz33_1 := blk_frozen BK166.out 1
                          go_wp2
                          repeat (go_quiet (fail); try go_wp2)
                          go_meet
                          case rel => exact ⟨_, (true), (by first | rfl | (simp; done) | (simp [*]; done)), H', ⟨by have := HK1.out; have := HK2.out; first | omega | exact Nat.le_refl _⟩, ⟨by (with_reducible repeat (first | apply Kd.R_alloc | apply Kd.R_drewN | apply Kd.R_drew)); exact HO_6.out⟩, ⟨by (with_reducible repeat (first | refine blk_drewN ?_ _ | refine blk_drew ?_ | refine blk_alloc ?_ _)); exact BK166.out⟩, ⟨by repeat (first | (with_reducible first | exact HB.out | apply below_alloc | apply pw_below_drewN | apply below_drew1 | refine below_set ?_ GE166.out) | exact HB.out)⟩⟩
                        · rw [if_neg c32] at H
                          have c32b0 : (((rd_T61 l0 x7_1).f0).toList == ([99, 111, 110, 110, 101, 99, 116, 105, 111, 110] : List UInt8)) = false := beq_eq_false_iff_ne.mpr c32
                          have c32b1 : (((rd_T61 l0 x7_1).f0).toList != ([99, 111, 110, 110, 101, 99, 116, 105, 111, 110] : List UInt8)) = true := bne_iff_ne.mpr c32
                          by_cases c34 : ((rd_T61 l0 x7_1).f0).toList = ([116, 114, 97, 110, 115, 102, 101, 114, 45, 101, 110, 99, 111, 100, 105, 110, 103] : List UInt8)
                          · rw [if_pos c34] at H
                            have c34b0 : (((rd_T61 l0 x7_1).f0).toList == ([116, 114, 97, 110, 115, 102, 101, 114, 45, 101, 110, 99, 111, 100, 105, 110, 103] : List UInt8)) = true := beq_iff_eq.mpr c34
                            have c34b1 : (((rd_T61 l0 x7_1).f0).toList != ([116, 114, 97, 110, 115, 102, 101, 114, 45, 101, 110, 99, 111, 100, 105, 110, 103] : List UInt8)) = false := bne_eq_false_iff_eq.mpr c34
                            clear c34
                            have H' := Aside0.mk H
                            clear H
                            have hcz35_0 : wr.cell? ⟨gb166, 0, none⟩ = some (.string ((rd_T61 l0 x7_1).f0)) := (blk_cell BK166.out 0).trans rfl
                            have hcz35_1 : wr.cell? ⟨gb166, 1, none⟩ = some (.string ((rd_T61 l0 x7_1).f1)) := (blk_cell BK166.out 1).trans rfl
                            have hfz35_0 := blk_frozen BK166.out 0
                            have hfz35_1 := blk_frozen BK166.out 1
                            go_wp2
                            repeat (go_quiet (fail); try go_wp2)
                            go_meet
                            case rel => exact ⟨_, (true), (by first | rfl | (simp; done) | (simp [*]; done)), H', ⟨by have := HK1.out; have := HK2.out; first | omega | exact Nat.le_refl _⟩, ⟨by (with_reducible repeat (first | apply Kd.R_alloc | apply Kd.R_drewN | apply Kd.R_drew)); exact HO_6.out⟩, ⟨by (with_reducible repeat (first | refine blk_drewN ?_ _ | refine blk_drew ?_ | refine blk_alloc ?_ _)); exact BK166.out⟩, ⟨by repeat (first | (with_reducible first | exact HB.out | apply below_alloc | apply pw_below_drewN | apply below_drew1 | refine below_set ?_ GE166.out) | exact HB.out)⟩⟩
                          · rw [if_neg c34] at H
                            have c34b0 : (((rd_T61 l0 x7_1).f0).toList == ([116, 114, 97, 110, 115, 102, 101, 114, 45, 101, 110, 99, 111, 100, 105, 110, 103] : List UInt8)) = false := beq_eq_false_iff_ne.mpr c34
                            have c34b1 : (((rd_T61 l0 x7_1).f0).toList != ([116, 114, 97, 110, 115, 102, 101, 114, 45, 101, 110, 99, 111, 100, 105, 110, 103] : List UInt8)) = true := bne_iff_ne.mpr c34
                            by_cases c36 : ((rd_T61 l0 x7_1).f0).toList = ([117, 112, 103, 114, 97, 100, 101] : List UInt8)
                            · rw [if_pos c36] at H
                              have c36b0 : (((rd_T61 l0 x7_1).f0).toList == ([117, 112, 103, 114, 97, 100, 101] : List UInt8)) = true := beq_iff_eq.mpr c36
                              have c36b1 : (((rd_T61 l0 x7_1).f0).toList != ([117, 112, 103, 114, 97, 100, 101] : List UInt8)) = false := bne_eq_false_iff_eq.mpr c36
                              clear c36
                              have H' := Aside0.mk H
                              clear H
                              have hcz37_0 : wr.cell? ⟨gb166, 0, none⟩ = some (.string ((rd_T61 l0 x7_1).f0)) := (blk_cell BK166.out 0).trans rfl
                              have hcz37_1 : wr.cell? ⟨gb166, 1, none⟩ = some (.string ((rd_T61 l0 x7_1).f1)) := (blk_cell BK166.out 1).trans rfl
                              have hfz37_0 := blk_frozen BK166.out 0
                              have hfz37_1 := blk_frozen BK166.out 1
                              go_wp2
                              repeat (go_quiet (fail); try go_wp2)
                              go_meet
                              case rel => exact ⟨_, (true), (by first | rfl | (simp; done) | (simp [*]; done)), H', ⟨by have := HK1.out; have := HK2.out; first | omega | exact Nat.le_refl _⟩, ⟨by (with_reducible repeat (first | apply Kd.R_alloc | apply Kd.R_drewN | apply Kd.R_drew)); exact HO_6.out⟩, ⟨by (with_reducible repeat (first | refine blk_drewN ?_ _ | refine blk_drew ?_ | refine blk_alloc ?_ _)); exact BK166.out⟩, ⟨by repeat (first | (with_reducible first | exact HB.out | apply below_alloc | apply pw_below_drewN | apply below_drew1 | refine below_set ?_ GE166.out) | exact HB.out)⟩⟩
                            · rw [if_neg c36] at H
                              have c36b0 : (((rd_T61 l0 x7_1).f0).toList == ([117, 112, 103, 114, 97, 100, 101] : List UInt8)) = false := beq_eq_false_iff_ne.mpr c36
                              have c36b1 : (((rd_T61 l0 x7_1).f0).toList != ([117, 112, 103, 114, 97, 100, 101] : List UInt8)) = true := bne_iff_ne.mpr c36
                              by_cases c38 : ((rd_T61 l0 x7_1).f0).toList = ([107, 101, 101, 112, 45, 97, 108, 105, 118, 101] : List UInt8)
                              · rw [if_pos c38] at H
                                have c38b0 : (((rd_T61 l0 x7_1).f0).toList == ([107, 101, 101, 112, 45, 97, 108, 105, 118, 101] : List UInt8)) = true := beq_iff_eq.mpr c38
                                have c38b1 : (((rd_T61 l0 x7_1).f0).toList != ([107, 101, 101, 112, 45, 97, 108, 105, 118, 101] : List UInt8)) = false := bne_eq_false_iff_eq.mpr c38
                                clear c38
                                have H' := Aside0.mk H
                                clear H
                                have hcz39_0 : wr.cell? ⟨gb166, 0, none⟩ = some (.string ((rd_T61 l0 x7_1).f0)) := (blk_cell BK166.out 0).trans rfl
                                have hcz39_1 : wr.cell? ⟨gb166, 1, none⟩ = some (.string ((rd_T61 l0 x7_1).f1)) := (blk_cell BK166.out 1).trans rfl
                                have hfz39_0 := blk_frozen BK166.out 0
                                have hfz39_1 := blk_frozen BK166.out 1
                                go_wp2
                                repeat (go_quiet (fail); try go_wp2)
                                go_meet
                                case rel => exact ⟨_, (true), (by first | rfl | (simp; done) | (simp [*]; done)), H', ⟨by have := HK1.out; have := HK2.out; first | omega | exact Nat.le_refl _⟩, ⟨by (with_reducible repeat (first | apply Kd.R_alloc | apply Kd.R_drewN | apply Kd.R_drew)); exact HO_6.out⟩, ⟨by (with_reducible repeat (first | refine blk_drewN ?_ _ | refine blk_drew ?_ | refine blk_alloc ?_ _)); exact BK166.out⟩, ⟨by repeat (first | (with_reducible first | exact HB.out | apply below_alloc | apply pw_below_drewN | apply below_drew1 | refine below_set ?_ GE166.out) | exact HB.out)⟩⟩
                              · rw [if_neg c38] at H
                                have c38b0 : (((rd_T61 l0 x7_1).f0).toList == ([107, 101, 101, 112, 45, 97, 108, 105, 118, 101] : List UInt8)) = false := beq_eq_false_iff_ne.mpr c38
                                have c38b1 : (((rd_T61 l0 x7_1).f0).toList != ([107, 101, 101, 112, 45, 97, 108, 105, 118, 101] : List UInt8)) = true := bne_iff_ne.mpr c38
                                by_cases c40 : ((rd_T61 l0 x7_1).f0).toList = ([116, 101] : List UInt8)
                                · rw [if_pos c40] at H
                                  have c40b0 : (((rd_T61 l0 x7_1).f0).toList == ([116, 101] : List UInt8)) = true := beq_iff_eq.mpr c40
                                  have c40b1 : (((rd_T61 l0 x7_1).f0).toList != ([116, 101] : List UInt8)) = false := bne_eq_false_iff_eq.mpr c40
                                  clear c40
                                  have H' := Aside0.mk H
                                  clear H
                                  have hcz41_0 : wr.cell? ⟨gb166, 0, none⟩ = some (.string ((rd_T61 l0 x7_1).f0)) := (blk_cell BK166.out 0).trans rfl
                                  have hcz41_1 : wr.cell? ⟨gb166, 1, none⟩ = some (.string ((rd_T61 l0 x7_1).f1)) := (blk_cell BK166.out 1).trans rfl
                                  have hfz41_0 := blk_frozen BK166.out 0
                                  have hfz41_1 := blk_frozen BK166.out 1
                                  go_wp2
                                  repeat (go_quiet (fail); try go_wp2)
                                  go_meet
                                  case rel => exact ⟨_, ((((rd_T61 l0 x7_1).f1).toList != ([116, 114, 97, 105, 108, 101, 114, 115] : List UInt8))), (by first | rfl | (simp; done) | (simp [*]; done)), H', ⟨by have := HK1.out; have := HK2.out; first | omega | exact Nat.le_refl _⟩, ⟨by (with_reducible repeat (first | apply Kd.R_alloc | apply Kd.R_drewN | apply Kd.R_drew)); exact HO_6.out⟩, ⟨by (with_reducible repeat (first | refine blk_drewN ?_ _ | refine blk_drew ?_ | refine blk_alloc ?_ _)); exact BK166.out⟩, ⟨by repeat (first | (with_reducible first | exact HB.out | apply below_alloc | apply pw_below_drewN | apply below_drew1 | refine below_set ?_ GE166.out) | exact HB.out)⟩⟩
                                · rw [if_neg c40] at H
                                  have c40b0 : (((rd_T61 l0 x7_1).f0).toList == ([116, 101] : List UInt8)) = false := beq_eq_false_iff_ne.mpr c40
                                  have c40b1 : (((rd_T61 l0 x7_1).f0).toList != ([116, 101] : List UInt8)) = true := bne_iff_ne.mpr c40
                                  have H' := Aside0.mk H
                                  clear H
                                  have hcz42_0 : wr.cell? ⟨gb166, 0, none⟩ = some (.string ((rd_T61 l0 x7_1).f0)) := (blk_cell BK166.out 0).trans rfl
                                  have hcz42_1 : wr.cell? ⟨gb166, 1, none⟩ = some (.string ((rd_T61 l0 x7_1).f1)) := (blk_cell BK166.out 1).trans rfl
                                  have hfz42_0 := blk_frozen BK166.out 0
                                  have hfz42_1 := blk_frozen BK166.out 1
                                  go_wp2
                                  repeat (go_quiet (fail); try go_wp2)
                                  go_meet
                                  case rel => exact ⟨_, (false), (by first | rfl | (simp; done) | (simp [*]; done)), H', ⟨by have := HK1.out; have := HK2.out; first | omega | exact Nat.le_refl _⟩, ⟨by (with_reducible repeat (first | apply Kd.R_alloc | apply Kd.R_drewN | apply Kd.R_drew)); exact HO_6.out⟩, ⟨by (with_reducible repeat (first | refine blk_drewN ?_ _ | refine blk_drew ?_ | refine blk_alloc ?_ _)); exact BK166.out⟩, ⟨by repeat (first | (with_reducible first | exact HB.out | apply below_alloc | apply pw_below_drewN | apply below_drew1 | refine below_set ?_ GE166.out) | exact HB.out)⟩⟩
                    case rest =>
                      clear HC16
                      try clear c1
                      try clear p1
                      try clear q1
                      try clear hx1
                      try clear c2
                      try clear p2
                      try clear c3
                      try clear c3b0
                      try clear c3b1
                      try clear c4
                      try clear c4b0
                      try clear c4b1
                      try clear p6
                      try clear c7
                      try clear c7b0
                      try clear c8
                      try clear c8b0
                      try clear c11
                      try clear c11b0
                      try clear c12
                      try clear c12b0
                      try clear c13
                      try clear c13b0
                      try clear c13b1
                      try clear p16
                      try clear q16
                      try clear hx16
                      try clear c17
                      try clear c17b0
                      try clear c19
                      try clear c20
                      try clear c20b0
                      try clear c20b1
                      try clear c22
                      try clear c22b0
                      try clear c22b1
                      try clear c24
                      try clear c24b0
                      try clear c24b1
                      try clear c26
                      try clear c26b0
                      try clear c26b1
                      try clear c28
                      try clear c28b0
                      try clear c28b1
                      try clear c32
                      try clear c32b0
                      try clear c32b1
                      try clear c34
                      try clear c34b0
                      try clear c34b1
                      try clear c36
                      try clear c36b0
                      try clear c36b1
                      try clear c38
                      try clear c38b0
                      try clear c38b1
                      try clear c40
                      try clear c40b0
                      try clear c40b1
                      try clear hcz10_0
                      try clear hcz10_1
                      try clear hcz14_0
                      try clear hcz14_1
                      try clear hcz15_0
                      try clear hcz15_1
                      try clear hcz21_0
                      try clear hcz21_1
                      try clear hcz23_0
                      try clear hcz23_1
                      try clear hcz25_0
                      try clear hcz25_1
                      try clear hcz27_0
                      try clear hcz27_1
                      try clear hcz29_0
                      try clear hcz29_1
                      try clear hcz30_0
                      try clear hcz30_1
                      try clear hcz31_0
                      try clear hcz31_1
                      try clear hcz33_0
                      try clear hcz33_1
                      try clear hcz35_0
                      try clear hcz35_1
                      try clear hcz37_0
                      try clear hcz37_1
                      try clear hcz39_0
                      try clear hcz39_1
                      try clear hcz41_0
                      try clear hcz41_1
                      try clear hcz42_0
                      try clear hcz42_1
                      try clear hfz10_0
                      try clear hfz10_1
                      try clear hfz14_0
                      try clear hfz14_1
                      try clear hfz15_0
                      try clear hfz15_1
                      try clear hfz21_0
                      try clear hfz21_1
                      try clear hfz23_0
                      try clear hfz23_1
                      try clear hfz25_0
                      try clear hfz25_1
                      try clear hfz27_0
                      try clear hfz27_1
                      try clear hfz29_0
                      try clear hfz29_1
                      try clear hfz30_0
                      try clear hfz30_1
                      try clear hfz31_0
                      try clear hfz31_1
                      try clear hfz33_0
                      try clear hfz33_1
                      try clear hfz35_0
                      try clear hfz35_1
                      try clear hfz37_0
                      try clear hfz37_1
                      try clear hfz39_0
                      try clear hfz39_1
                      try clear hfz41_0
                      try clear hfz41_1
                      try clear hfz42_0
                      try clear hfz42_1
                      try clear hx165_0
                      try clear hx165_1
                      try clear hx167_0
                      try clear p1
                      try clear p165
                      try clear p167
                      try clear p2
                      try clear q1
                      try clear q165
                      try clear q167
                      obtain ⟨kq, x75_15, rfl, HA, HJ15, HO_6, BK166, HB⟩ := hcut
                      cases kq with
                      | zero => exact absurd HA.out (by simp [bywashref1_fields.j2])
                      | succ kj15 =>
                        have H := HA.out
                        clear HA
                        simp only [bywashref1_fields.j2] at H
                        by_cases c43 : x75_15 = true
                        · subst c43
                          have H1 : (some 6) = some r := by rw [if_pos rfl] at H; exact H
                          clear H
                          have H := H1
                          clear H1
                          obtain rfl := Option.some.inj H
                          go_wp2
                          repeat (go_quiet (fail); try go_wp2)
                          go_ret
                          exact ⟨by first | rfl | (simp [errW_none, errW_some] <;> rfl) | (simp [*, errW_none, errW_some] <;> rfl), by repeat (first | (with_reducible first | exact HB.out | apply below_alloc | apply pw_below_drewN | apply below_drew1 | refine below_set ?_ GE166.out) | exact HB.out)⟩
                        · replace c43 := Bool.eq_false_iff.mpr c43
                          subst c43
                          have H1 : ((bywashref1_Value.f kj15 ((rd_T61 l0 x7_1).f1)).bind fun t169 => (if t169 = true then (if x9_2 < 0 then (bywashref1_fields.l0 kj15 l0 l1 true x6_1 (wrap64 (x7_1 + 1))) else (if x5_1 = true then (some 7) else (if 0 ≤ x9_2 then (if x9_2 < (x6_1.length : Int) then (if rdOf false x6_1 x9_2 = true then (some 7) else (bywashref1_fields.l0 kj15 l0 l1 x5_1 (x6_1.set (x9_2 : Int).toNat true) (wrap64 (x7_1 + 1)))) else (none)) else (none)))) else (some 3))) = some r := by rw [if_neg (show ¬ (false = true) by decide)] at H; exact H
                          clear H
                          have H := H1
                          clear H1
                          replace H := Option.bind_eq_some_iff.mp H
                          obtain ⟨t169, A440, H⟩ := H
                          replace H : (if t169 = true then (if x9_2 < 0 then (bywashref1_fields.l0 kj15 l0 l1 true x6_1 (wrap64 (x7_1 + 1))) else (if x5_1 = true then (some 7) else (if 0 ≤ x9_2 then (if x9_2 < (x6_1.length : Int) then (if rdOf false x6_1 x9_2 = true then (some 7) else (bywashref1_fields.l0 kj15 l0 l1 x5_1 (x6_1.set (x9_2 : Int).toNat true) (wrap64 (x7_1 + 1)))) else (none)) else (none)))) else (some 3)) = some r := H
                          have A44 := Aside0.mk A440
                          clear A440
                          by_cases c45 : t169 = true
                          · subst c45
                            have H1 : (if x9_2 < 0 then (bywashref1_fields.l0 kj15 l0 l1 true x6_1 (wrap64 (x7_1 + 1))) else (if x5_1 = true then (some 7) else (if 0 ≤ x9_2 then (if x9_2 < (x6_1.length : Int) then (if rdOf false x6_1 x9_2 = true then (some 7) else (bywashref1_fields.l0 kj15 l0 l1 x5_1 (x6_1.set (x9_2 : Int).toNat true) (wrap64 (x7_1 + 1)))) else (none)) else (none)))) = some r := by rw [if_pos rfl] at H; exact H
                            clear H
                            have H := H1
                            clear H1
                            by_cases c46 : x9_2 < 0
                            · rw [if_pos c46] at H
                              have c46b0 : decide (x9_2 < 0) = true := decide_eq_true c46
                              clear c46
                              have H' := Aside0.mk H
                              clear H
                              have hcz47_0 : wc.cell? ⟨gb166, 0, none⟩ = some (.string ((rd_T61 l0 x7_1).f0)) := (blk_cell BK166.out 0).trans rfl
                              have hcz47_1 : wc.cell? ⟨gb166, 1, none⟩ = some (.string ((rd_T61 l0 x7_1).f1)) := (blk_cell BK166.out 1).trans rfl
                              have hfz47_0 := blk_frozen BK166.out 0
                              have hfz47_1 := blk_frozen BK166.out 1
                              go_wp2_with (first | (go_at_call 101; (with_reducible refine (bywashref1_Value.calls kj15 ((rd_T61 l0 x7_1).f1) true _ A44.out).mono ?_); rintro e w' ⟨rfl, ⟨nd, rfl⟩⟩; (try first | exact ⟨rfl, _, World.drewN_drewN _ _ _⟩ | exact ⟨rfl, _, Eq.trans (World.drewN_drewN _ _ _) (congrArg (World.drewN _) (Nat.add_assoc _ _ _))⟩)))
                              repeat (go_quiet (first | (go_at_call 101; (with_reducible refine (bywashref1_Value.calls kj15 ((rd_T61 l0 x7_1).f1) true _ A44.out).mono ?_); rintro e w' ⟨rfl, ⟨nd, rfl⟩⟩; (try first | exact ⟨rfl, _, World.drewN_drewN _ _ _⟩ | exact ⟨rfl, _, Eq.trans (World.drewN_drewN _ _ _) (congrArg (World.drewN _) (Nat.add_assoc _ _ _))⟩))); try go_wp2_with (first | (go_at_call 101; (with_reducible refine (bywashref1_Value.calls kj15 ((rd_T61 l0 x7_1).f1) true _ A44.out).mono ?_); rintro e w' ⟨rfl, ⟨nd, rfl⟩⟩; (try first | exact ⟨rfl, _, World.drewN_drewN _ _ _⟩ | exact ⟨rfl, _, Eq.trans (World.drewN_drewN _ _ _) (congrArg (World.drewN _) (Nat.add_assoc _ _ _))⟩))))
                              go_roundg kj15
                              case measure => have := HK1.out; have := HK2.out; have := HJ15.out; omega
                              case rel => exact ⟨(true), (x6_1), (wrap64 (x7_1 + 1)), (by first | rfl | (simp; done) | (simp [*]; done)), (by first | rfl | (simp; done) | (simp [*]; done)), H', ⟨by have := HK1.out; have := HK2.out; have := HJ15.out; omega⟩, ⟨by (with_reducible repeat (first | apply Kd.R_alloc | apply Kd.R_drewN | apply Kd.R_drew)); exact HO_6.out⟩, ⟨by repeat (first | (with_reducible first | exact HB.out | apply below_alloc | apply pw_below_drewN | apply below_drew1 | refine below_set ?_ GE166.out) | exact HB.out)⟩⟩
                            · rw [if_neg c46] at H
                              have c46b0 : decide (x9_2 < 0) = false := decide_eq_false c46
                              clear c46
                              by_cases c48 : x5_1 = true
                              · subst c48
                                have H1 : (some 7) = some r := by rw [if_pos rfl] at H; exact H
                                clear H
                                have H := H1
                                clear H1
                                obtain rfl := Option.some.inj H
                                have hcz49_0 : wc.cell? ⟨gb166, 0, none⟩ = some (.string ((rd_T61 l0 x7_1).f0)) := (blk_cell BK166.out 0).trans rfl
                                have hcz49_1 : wc.cell? ⟨gb166, 1, none⟩ = some (.string ((rd_T61 l0 x7_1).f1)) := (blk_cell BK166.out 1).trans rfl
                                have hfz49_0 := blk_frozen BK166.out 0
                                have hfz49_1 := blk_frozen BK166.out 1
                                go_wp2_with (first | (go_at_call 101; (with_reducible refine (bywashref1_Value.calls kj15 ((rd_T61 l0 x7_1).f1) true _ A44.out).mono ?_); rintro e w' ⟨rfl, ⟨nd, rfl⟩⟩; (try first | exact ⟨rfl, _, World.drewN_drewN _ _ _⟩ | exact ⟨rfl, _, Eq.trans (World.drewN_drewN _ _ _) (congrArg (World.drewN _) (Nat.add_assoc _ _ _))⟩)))
                                repeat (go_quiet (first | (go_at_call 101; (with_reducible refine (bywashref1_Value.calls kj15 ((rd_T61 l0 x7_1).f1) true _ A44.out).mono ?_); rintro e w' ⟨rfl, ⟨nd, rfl⟩⟩; (try first | exact ⟨rfl, _, World.drewN_drewN _ _ _⟩ | exact ⟨rfl, _, Eq.trans (World.drewN_drewN _ _ _) (congrArg (World.drewN _) (Nat.add_assoc _ _ _))⟩))); try go_wp2_with (first | (go_at_call 101; (with_reducible refine (bywashref1_Value.calls kj15 ((rd_T61 l0 x7_1).f1) true _ A44.out).mono ?_); rintro e w' ⟨rfl, ⟨nd, rfl⟩⟩; (try first | exact ⟨rfl, _, World.drewN_drewN _ _ _⟩ | exact ⟨rfl, _, Eq.trans (World.drewN_drewN _ _ _) (congrArg (World.drewN _) (Nat.add_assoc _ _ _))⟩))))
                                go_ret
                                exact ⟨by first | rfl | (simp [errW_none, errW_some] <;> rfl) | (simp [*, errW_none, errW_some] <;> rfl), by repeat (first | (with_reducible first | exact HB.out | apply below_alloc | apply pw_below_drewN | apply below_drew1 | refine below_set ?_ GE166.out) | exact HB.out)⟩
                              · replace c48 := Bool.eq_false_iff.mpr c48
                                subst c48
                                have H1 : (if 0 ≤ x9_2 then (if x9_2 < (x6_1.length : Int) then (if rdOf false x6_1 x9_2 = true then (some 7) else (bywashref1_fields.l0 kj15 l0 l1 false (x6_1.set (x9_2 : Int).toNat true) (wrap64 (x7_1 + 1)))) else (none)) else (none)) = some r := by rw [if_neg (show ¬ (false = true) by decide)] at H; exact H
                                clear H
                                have H := H1
                                clear H1
                                by_cases c50 : 0 ≤ x9_2
                                · rw [if_pos c50] at H
                                  have c50b0 : decide (0 ≤ x9_2) = true := decide_eq_true c50
                                  clear c50
                                  by_cases c51 : x9_2 < (x6_1.length : Int)
                                  · rw [if_pos c51] at H
                                    have c51b0 : decide (x9_2 < (x6_1.length : Int)) = true := decide_eq_true c51
                                    clear c51
                                    obtain ⟨bq52, hbq52⟩ : ∃ b_ : Bool, b_ = (rdOf false x6_1 x9_2) := ⟨_, rfl⟩
                                    replace H : (if bq52 = true then (some 7) else (bywashref1_fields.l0 kj15 l0 l1 false (x6_1.set (x9_2 : Int).toNat true) (wrap64 (x7_1 + 1)))) = some r := by rw [← hbq52] at H; exact H
                                    have Nbq52 := Aside0.mk hbq52
                                    clear hbq52
                                    by_cases c53 : bq52 = true
                                    · subst c53
                                      have H1 : (some 7) = some r := by rw [if_pos rfl] at H; exact H
                                      clear H
                                      have H := H1
                                      clear H1
                                      obtain rfl := Option.some.inj H
                                      have hcz54_0 : wc.cell? ⟨gb166, 0, none⟩ = some (.string ((rd_T61 l0 x7_1).f0)) := (blk_cell BK166.out 0).trans rfl
                                      have hcz54_1 : wc.cell? ⟨gb166, 1, none⟩ = some (.string ((rd_T61 l0 x7_1).f1)) := (blk_cell BK166.out 1).trans rfl
                                      have hfz54_0 := blk_frozen BK166.out 0
                                      have hfz54_1 := blk_frozen BK166.out 1
                                      go_wp2_with (first | (go_at_call 101; (with_reducible refine (bywashref1_Value.calls kj15 ((rd_T61 l0 x7_1).f1) true _ A44.out).mono ?_); rintro e w' ⟨rfl, ⟨nd, rfl⟩⟩; (try first | exact ⟨rfl, _, World.drewN_drewN _ _ _⟩ | exact ⟨rfl, _, Eq.trans (World.drewN_drewN _ _ _) (congrArg (World.drewN _) (Nat.add_assoc _ _ _))⟩); obtain ⟨Ao55, co55, eo55⟩ := Kd.R_slice HO_6.out; subst eo55; have p170 : 0 ≤ (x9_2 : Int) := of_decide_eq_true (by first | (with_reducible assumption) | assumption); have q170 : x9_2 < (x6_1.length : Int) := of_decide_eq_true (by first | (with_reducible assumption) | assumption); obtain ⟨ad170, e170, hx170_0⟩ := Kd.at_bool (Kd.R_reads' HO_6.out).2.2 x9_2 p170 q170; (try rw [← Nbq52.out] at hx170_0); cases e170; replace p170 := eq_true p170; replace q170 := eq_true q170))
                                      repeat (go_quiet (first | (go_at_call 101; (with_reducible refine (bywashref1_Value.calls kj15 ((rd_T61 l0 x7_1).f1) true _ A44.out).mono ?_); rintro e w' ⟨rfl, ⟨nd, rfl⟩⟩; (try first | exact ⟨rfl, _, World.drewN_drewN _ _ _⟩ | exact ⟨rfl, _, Eq.trans (World.drewN_drewN _ _ _) (congrArg (World.drewN _) (Nat.add_assoc _ _ _))⟩); obtain ⟨Ao55, co55, eo55⟩ := Kd.R_slice HO_6.out; subst eo55; have p170 : 0 ≤ (x9_2 : Int) := of_decide_eq_true (by first | (with_reducible assumption) | assumption); have q170 : x9_2 < (x6_1.length : Int) := of_decide_eq_true (by first | (with_reducible assumption) | assumption); obtain ⟨ad170, e170, hx170_0⟩ := Kd.at_bool (Kd.R_reads' HO_6.out).2.2 x9_2 p170 q170; (try rw [← Nbq52.out] at hx170_0); cases e170; replace p170 := eq_true p170; replace q170 := eq_true q170)); try go_wp2_with (first | (go_at_call 101; (with_reducible refine (bywashref1_Value.calls kj15 ((rd_T61 l0 x7_1).f1) true _ A44.out).mono ?_); rintro e w' ⟨rfl, ⟨nd, rfl⟩⟩; (try first | exact ⟨rfl, _, World.drewN_drewN _ _ _⟩ | exact ⟨rfl, _, Eq.trans (World.drewN_drewN _ _ _) (congrArg (World.drewN _) (Nat.add_assoc _ _ _))⟩); obtain ⟨Ao55, co55, eo55⟩ := Kd.R_slice HO_6.out; subst eo55; have p170 : 0 ≤ (x9_2 : Int) := of_decide_eq_true (by first | (with_reducible assumption) | assumption); have q170 : x9_2 < (x6_1.length : Int) := of_decide_eq_true (by first | (with_reducible assumption) | assumption); obtain ⟨ad170, e170, hx170_0⟩ := Kd.at_bool (Kd.R_reads' HO_6.out).2.2 x9_2 p170 q170; (try rw [← Nbq52.out] at hx170_0); cases e170; replace p170 := eq_true p170; replace q170 := eq_true q170)))
                                      go_ret
                                      exact ⟨by first | rfl | (simp [errW_none, errW_some] <;> rfl) | (simp [*, errW_none, errW_some] <;> rfl), by repeat (first | (with_reducible first | exact HB.out | apply below_alloc | apply pw_below_drewN | apply below_drew1 | refine below_set ?_ GE166.out) | exact HB.out)⟩
                                    · replace c53 := Bool.eq_false_iff.mpr c53
                                      subst c53
                                      have H1 : (bywashref1_fields.l0 kj15 l0 l1 false (x6_1.set (x9_2 : Int).toNat true) (wrap64 (x7_1 + 1))) = some r := by rw [if_neg (show ¬ (false = true) by decide)] at H; exact H
                                      clear H
                                      have H := H1
                                      clear H1
                                      obtain ⟨y171, hy171⟩ : ∃ y_ : List Bool, y_ = (x6_1.set (x9_2 : Int).toNat true) := ⟨_, rfl⟩
                                      replace H : (bywashref1_fields.l0 kj15 l0 l1 false y171 (wrap64 (x7_1 + 1))) = some r := by first | (rw [hy171]; with_reducible exact H) | (have H2_ := (Option.bind_some _ _).symm.trans H; rw [hy171]; with_reducible exact H2_) | (have H2_ := (Option.bind_some _ _).symm.trans H; with_reducible exact H2_) | with_reducible exact H | (rw [hy171]; exact H) | exact H
                                      have Ny171 := Aside0.mk hy171
                                      clear hy171
                                      have H' := Aside0.mk H
                                      clear H
                                      have hcz57_0 : wc.cell? ⟨gb166, 0, none⟩ = some (.string ((rd_T61 l0 x7_1).f0)) := (blk_cell BK166.out 0).trans rfl
                                      have hcz57_1 : wc.cell? ⟨gb166, 1, none⟩ = some (.string ((rd_T61 l0 x7_1).f1)) := (blk_cell BK166.out 1).trans rfl
                                      have hfz57_0 := blk_frozen BK166.out 0
                                      have hfz57_1 := blk_frozen BK166.out 1
                                      go_wp2_with (first | (go_at_call 101; (with_reducible refine (bywashref1_Value.calls kj15 ((rd_T61 l0 x7_1).f1) true _ A44.out).mono ?_); rintro e w' ⟨rfl, ⟨nd, rfl⟩⟩; (try first | exact ⟨rfl, _, World.drewN_drewN _ _ _⟩ | exact ⟨rfl, _, Eq.trans (World.drewN_drewN _ _ _) (congrArg (World.drewN _) (Nat.add_assoc _ _ _))⟩); obtain ⟨Ao58, co58, eo58⟩ := Kd.R_slice HO_6.out; subst eo58; have p170 : 0 ≤ (x9_2 : Int) := of_decide_eq_true (by first | (with_reducible assumption) | assumption); have q170 : x9_2 < (x6_1.length : Int) := of_decide_eq_true (by first | (with_reducible assumption) | assumption); obtain ⟨ad170, e170, hx170_0⟩ := Kd.at_bool (Kd.R_reads' HO_6.out).2.2 x9_2 p170 q170; (try rw [← Nbq52.out] at hx170_0); cases e170; replace p170 := eq_true p170; replace q170 := eq_true q170; have p56 : 0 ≤ (x9_2 : Int) := of_decide_eq_true (by first | (with_reducible assumption) | assumption); have q56 : (x9_2 : Int) < ((x6_1.length : Int) : Int) := of_decide_eq_true (by first | (with_reducible assumption) | assumption); obtain ⟨go56, co56, eo56, gb56, gl56, cl56, HG56⟩ := Kd.R_form HO_6.out (by omega); (first | cases eo56 | (injection eo56 with ea_ en_ ec_; (first | subst ea_ | (injection ea_ with ea_; subst ea_)); subst ec_; clear en_)); have GB56 := Aside0.mk gb56; have GG56 := Aside0.mk HG56; clear gb56 gl56 HG56; (first | simp only [add_plain] at hx170_0 | skip); obtain ⟨hx56_0, hf56_0⟩ := Kd.R_celln false HO_6.out (x9_2 : Int) p56 q56; replace p56 := eq_true p56; replace q56 := eq_true q56; obtain ⟨hy59_, hz59_⟩ := Kd.R_celln false HO_6.out (x9_2 : Int) (of_decide_eq_true (by first | (with_reducible assumption) | assumption)) (of_decide_eq_true (by first | (with_reducible assumption) | assumption)); have HP59 := Kd.R_putg HO_6.out (x9_2 : Int) true) | ((with_reducible refine gate_store (t := 4) (p := 91) rfl ?_); (try (rw [drewN_self wc]; generalize hq_ : World.drewN wc _ = wc; have n0_ := Aside0.mk (Kd.R_at hq_ HO_6.out); have n1_ := Aside0.mk (blk_at hq_ BK166.out); have n2_ := Aside0.mk (below_at hq_ HB.out); clear hq_ HO_6 BK166 HB; have HO_6 := n0_; have BK166 := n1_; have HB := n2_; clear n0_ n1_ n2_; (try (obtain ⟨hy59_, hz59_⟩ := Kd.R_celln false HO_6.out (x9_2 : Int) (of_decide_eq_true (by first | (with_reducible assumption) | assumption)) (of_decide_eq_true (by first | (with_reducible assumption) | assumption)))); (try (have HP59 := Kd.R_putg HO_6.out (x9_2 : Int) true)))); refine store_event (t := 4) (p := 91) (v := ?vo_w60) (w1 := (wc.setCell ⟨go56, (x9_2 : Int).toNat, none⟩ (.bool true))) ?hg ?ho ?hn ?hr ?_; (case ho => rfl); (case hg => rfl); (case hn => rfl); (case hr => first | (go_simp; done) | (go_simp; rfl)); intro w60 hw; have hg : wc.grownBy w60 (some go56) := (by rw [hw]; exact HP59.2); have hp_ : Kd.R Kd.bool 4 w60 w.heap.size (fun _ => True) (.slice (some ⟨go56, 0, none⟩) x6_1.length co58) y171 := (by rw [hw, Ny171.out]; exact HP59.1); clear HP59; have n0_ := Aside0.mk (hp_); have n1_ := Aside0.mk (blk_grown (g := gb166) (o := .cells #[.string ((rd_T61 l0 x7_1).f0), .string ((rd_T61 l0 x7_1).f1)] 61 (0, 0)) (by (with_reducible repeat (first | refine blk_drewN ?_ _ | refine blk_drew ?_ | refine blk_alloc ?_ _)); exact BK166.out) hg (Kd.R_ne HO_6.out BK166.out (by decide))); have n2_ := Aside0.mk ((by rw [hw]; exact below_set (HB.out) GB56.out : Below w.heap.size w w60)); clear HO_6; clear BK166; clear HB; have HO_6 := n0_; have BK166 := n1_; have HB := n2_; clear n0_ n1_ n2_; clear hg hw hp_))
                                      repeat (go_quiet (first | (go_at_call 101; (with_reducible refine (bywashref1_Value.calls kj15 ((rd_T61 l0 x7_1).f1) true _ A44.out).mono ?_); rintro e w' ⟨rfl, ⟨nd, rfl⟩⟩; (try first | exact ⟨rfl, _, World.drewN_drewN _ _ _⟩ | exact ⟨rfl, _, Eq.trans (World.drewN_drewN _ _ _) (congrArg (World.drewN _) (Nat.add_assoc _ _ _))⟩); obtain ⟨Ao58, co58, eo58⟩ := Kd.R_slice HO_6.out; subst eo58; have p170 : 0 ≤ (x9_2 : Int) := of_decide_eq_true (by first | (with_reducible assumption) | assumption); have q170 : x9_2 < (x6_1.length : Int) := of_decide_eq_true (by first | (with_reducible assumption) | assumption); obtain ⟨ad170, e170, hx170_0⟩ := Kd.at_bool (Kd.R_reads' HO_6.out).2.2 x9_2 p170 q170; (try rw [← Nbq52.out] at hx170_0); cases e170; replace p170 := eq_true p170; replace q170 := eq_true q170; have p56 : 0 ≤ (x9_2 : Int) := of_decide_eq_true (by first | (with_reducible assumption) | assumption); have q56 : (x9_2 : Int) < ((x6_1.length : Int) : Int) := of_decide_eq_true (by first | (with_reducible assumption) | assumption); obtain ⟨go56, co56, eo56, gb56, gl56, cl56, HG56⟩ := Kd.R_form HO_6.out (by omega); (first | cases eo56 | (injection eo56 with ea_ en_ ec_; (first | subst ea_ | (injection ea_ with ea_; subst ea_)); subst ec_; clear en_)); have GB56 := Aside0.mk gb56; have GG56 := Aside0.mk HG56; clear gb56 gl56 HG56; (first | simp only [add_plain] at hx170_0 | skip); obtain ⟨hx56_0, hf56_0⟩ := Kd.R_celln false HO_6.out (x9_2 : Int) p56 q56; replace p56 := eq_true p56; replace q56 := eq_true q56; obtain ⟨hy59_, hz59_⟩ := Kd.R_celln false HO_6.out (x9_2 : Int) (of_decide_eq_true (by first | (with_reducible assumption) | assumption)) (of_decide_eq_true (by first | (with_reducible assumption) | assumption)); have HP59 := Kd.R_putg HO_6.out (x9_2 : Int) true) | ((with_reducible refine gate_store (t := 4) (p := 91) rfl ?_); (try (rw [drewN_self wc]; generalize hq_ : World.drewN wc _ = wc; have n0_ := Aside0.mk (Kd.R_at hq_ HO_6.out); have n1_ := Aside0.mk (blk_at hq_ BK166.out); have n2_ := Aside0.mk (below_at hq_ HB.out); clear hq_ HO_6 BK166 HB; have HO_6 := n0_; have BK166 := n1_; have HB := n2_; clear n0_ n1_ n2_; (try (obtain ⟨hy59_, hz59_⟩ := Kd.R_celln false HO_6.out (x9_2 : Int) (of_decide_eq_true (by first | (with_reducible assumption) | assumption)) (of_decide_eq_true (by first | (with_reducible assumption) | assumption)))); (try (have HP59 := Kd.R_putg HO_6.out (x9_2 : Int) true)))); refine store_event (t := 4) (p := 91) (v := ?vo_w60) (w1 := (wc.setCell ⟨go56, (x9_2 : Int).toNat, none⟩ (.bool true))) ?hg ?ho ?hn ?hr ?_; (case ho => rfl); (case hg => rfl); (case hn => rfl); (case hr => first | (go_simp; done) | (go_simp; rfl)); intro w60 hw; have hg : wc.grownBy w60 (some go56) := (by rw [hw]; exact HP59.2); have hp_ : Kd.R Kd.bool 4 w60 w.heap.size (fun _ => True) (.slice (some ⟨go56, 0, none⟩) x6_1.length co58) y171 := (by rw [hw, Ny171.out]; exact HP59.1); clear HP59; have n0_ := Aside0.mk (hp_); have n1_ := Aside0.mk (blk_grown (g := gb166) (o := .cells #[.string ((rd_T61 l0 x7_1).f0), .string ((rd_T61 l0 x7_1).f1)] 61 (0, 0)) (by (with_reducible repeat (first | refine blk_drewN ?_ _ | refine blk_drew ?_ | refine blk_alloc ?_ _)); exact BK166.out) hg (Kd.R_ne HO_6.out BK166.out (by decide))); have n2_ := Aside0.mk ((by rw [hw]; exact below_set (HB.out) GB56.out : Below w.heap.size w w60)); clear HO_6; clear BK166; clear HB; have HO_6 := n0_; have BK166 := n1_; have HB := n2_; clear n0_ n1_ n2_; clear hg hw hp_)); try go_wp2_with (first | (go_at_call 101; (with_reducible refine (bywashref1_Value.calls kj15 ((rd_T61 l0 x7_1).f1) true _ A44.out).mono ?_); rintro e w' ⟨rfl, ⟨nd, rfl⟩⟩; (try first | exact ⟨rfl, _, World.drewN_drewN _ _ _⟩ | exact ⟨rfl, _, Eq.trans (World.drewN_drewN _ _ _) (congrArg (World.drewN _) (Nat.add_assoc _ _ _))⟩); obtain ⟨Ao58, co58, eo58⟩ := Kd.R_slice HO_6.out; subst eo58; have p170 : 0 ≤ (x9_2 : Int) := of_decide_eq_true (by first | (with_reducible assumption) | assumption); have q170 : x9_2 < (x6_1.length : Int) := of_decide_eq_true (by first | (with_reducible assumption) | assumption); obtain ⟨ad170, e170, hx170_0⟩ := Kd.at_bool (Kd.R_reads' HO_6.out).2.2 x9_2 p170 q170; (try rw [← Nbq52.out] at hx170_0); cases e170; replace p170 := eq_true p170; replace q170 := eq_true q170; have p56 : 0 ≤ (x9_2 : Int) := of_decide_eq_true (by first | (with_reducible assumption) | assumption); have q56 : (x9_2 : Int) < ((x6_1.length : Int) : Int) := of_decide_eq_true (by first | (with_reducible assumption) | assumption); obtain ⟨go56, co56, eo56, gb56, gl56, cl56, HG56⟩ := Kd.R_form HO_6.out (by omega); (first | cases eo56 | (injection eo56 with ea_ en_ ec_; (first | subst ea_ | (injection ea_ with ea_; subst ea_)); subst ec_; clear en_)); have GB56 := Aside0.mk gb56; have GG56 := Aside0.mk HG56; clear gb56 gl56 HG56; (first | simp only [add_plain] at hx170_0 | skip); obtain ⟨hx56_0, hf56_0⟩ := Kd.R_celln false HO_6.out (x9_2 : Int) p56 q56; replace p56 := eq_true p56; replace q56 := eq_true q56; obtain ⟨hy59_, hz59_⟩ := Kd.R_celln false HO_6.out (x9_2 : Int) (of_decide_eq_true (by first | (with_reducible assumption) | assumption)) (of_decide_eq_true (by first | (with_reducible assumption) | assumption)); have HP59 := Kd.R_putg HO_6.out (x9_2 : Int) true) | ((with_reducible refine gate_store (t := 4) (p := 91) rfl ?_); (try (rw [drewN_self wc]; generalize hq_ : World.drewN wc _ = wc; have n0_ := Aside0.mk (Kd.R_at hq_ HO_6.out); have n1_ := Aside0.mk (blk_at hq_ BK166.out); have n2_ := Aside0.mk (below_at hq_ HB.out); clear hq_ HO_6 BK166 HB; have HO_6 := n0_; have BK166 := n1_; have HB := n2_; clear n0_ n1_ n2_; (try (obtain ⟨hy59_, hz59_⟩ := Kd.R_celln false HO_6.out (x9_2 : Int) (of_decide_eq_true (by first | (with_reducible assumption) | assumption)) (of_decide_eq_true (by first | (with_reducible assumption) | assumption)))); (try (have HP59 := Kd.R_putg HO_6.out (x9_2 : Int) true)))); refine store_event (t := 4) (p := 91) (v := ?vo_w60) (w1 := (wc.setCell ⟨go56, (x9_2 : Int).toNat, none⟩ (.bool true))) ?hg ?ho ?hn ?hr ?_; (case ho => rfl); (case hg => rfl); (case hn => rfl); (case hr => first | (go_simp; done) | (go_simp; rfl)); intro w60 hw; have hg : wc.grownBy w60 (some go56) := (by rw [hw]; exact HP59.2); have hp_ : Kd.R Kd.bool 4 w60 w.heap.size (fun _ => True) (.slice (some ⟨go56, 0, none⟩) x6_1.length co58) y171 := (by rw [hw, Ny171.out]; exact HP59.1); clear HP59; have n0_ := Aside0.mk (hp_); have n1_ := Aside0.mk (blk_grown (g := gb166) (o := .cells #[.string ((rd_T61 l0 x7_1).f0), .string ((rd_T61 l0 x7_1).f1)] 61 (0, 0)) (by (with_reducible repeat (first | refine blk_drewN ?_ _ | refine blk_drew ?_ | refine blk_alloc ?_ _)); exact BK166.out) hg (Kd.R_ne HO_6.out BK166.out (by decide))); have n2_ := Aside0.mk ((by rw [hw]; exact below_set (HB.out) GB56.out : Below w.heap.size w w60)); clear HO_6; clear BK166; clear HB; have HO_6 := n0_; have BK166 := n1_; have HB := n2_; clear n0_ n1_ n2_; clear hg hw hp_)))
                                      go_roundg kj15
                                      case measure => have := HK1.out; have := HK2.out; have := HJ15.out; omega
                                      case rel => exact ⟨(false), (y171), (wrap64 (x7_1 + 1)), (by first | rfl | (simp; done) | (simp [*]; done)), (by first | rfl | (simp; done) | (simp [*]; done)), H', ⟨by have := HK1.out; have := HK2.out; have := HJ15.out; omega⟩, ⟨by (with_reducible repeat (first | apply Kd.R_alloc | apply Kd.R_drewN | apply Kd.R_drew)); exact HO_6.out⟩, ⟨by repeat (first | (with_reducible first | exact HB.out | apply below_alloc | apply pw_below_drewN | apply below_drew1 | refine below_set ?_ GE166.out) | exact HB.out)⟩⟩
                                  · rw [if_neg c51] at H
                                    exact absurd H (by simp)
                                · rw [if_neg c50] at H
                                  exact absurd H (by simp)
                          · replace c45 := Bool.eq_false_iff.mpr c45
                            subst c45
                            have H1 : (some 3) = some r := by rw [if_neg (show ¬ (false = true) by decide)] at H; exact H
                            clear H
                            have H := H1
                            clear H1
                            obtain rfl := Option.some.inj H
                            have hcz61_0 : wc.cell? ⟨gb166, 0, none⟩ = some (.string ((rd_T61 l0 x7_1).f0)) := (blk_cell BK166.out 0).trans rfl
                            have hcz61_1 : wc.cell? ⟨gb166, 1, none⟩ = some (.string ((rd_T61 l0 x7_1).f1)) := (blk_cell BK166.out 1).trans rfl
                            have hfz61_0 := blk_frozen BK166.out 0
                            have hfz61_1 := blk_frozen BK166.out 1
                            go_wp2_with (first | (go_at_call 101; (with_reducible refine (bywashref1_Value.calls kj15 ((rd_T61 l0 x7_1).f1) false _ A44.out).mono ?_); rintro e w' ⟨rfl, ⟨nd, rfl⟩⟩; (try first | exact ⟨rfl, _, World.drewN_drewN _ _ _⟩ | exact ⟨rfl, _, Eq.trans (World.drewN_drewN _ _ _) (congrArg (World.drewN _) (Nat.add_assoc _ _ _))⟩)))
                            repeat (go_quiet (first | (go_at_call 101; (with_reducible refine (bywashref1_Value.calls kj15 ((rd_T61 l0 x7_1).f1) false _ A44.out).mono ?_); rintro e w' ⟨rfl, ⟨nd, rfl⟩⟩; (try first | exact ⟨rfl, _, World.drewN_drewN _ _ _⟩ | exact ⟨rfl, _, Eq.trans (World.drewN_drewN _ _ _) (congrArg (World.drewN _) (Nat.add_assoc _ _ _))⟩))); try go_wp2_with (first | (go_at_call 101; (with_reducible refine (bywashref1_Value.calls kj15 ((rd_T61 l0 x7_1).f1) false _ A44.out).mono ?_); rintro e w' ⟨rfl, ⟨nd, rfl⟩⟩; (try first | exact ⟨rfl, _, World.drewN_drewN _ _ _⟩ | exact ⟨rfl, _, Eq.trans (World.drewN_drewN _ _ _) (congrArg (World.drewN _) (Nat.add_assoc _ _ _))⟩))))
                            go_ret
                            exact ⟨by first | rfl | (simp [errW_none, errW_some] <;> rfl) | (simp [*, errW_none, errW_some] <;> rfl), by repeat (first | (with_reducible first | exact HB.out | apply below_alloc | apply pw_below_drewN | apply below_drew1 | refine below_set ?_ GE166.out) | exact HB.out)⟩
            · rw [if_neg c8] at H
              exact absurd H (by simp)
          · rw [if_neg c7] at H
            have c7b0 : decide (x7_1 < (l0.length : Int)) = false := decide_eq_false c7
            clear c7
            obtain rfl := Option.some.inj H
            go_wp2
            repeat (go_quiet (fail); try go_wp2)
            go_ret
            exact ⟨by first | rfl | (simp [errW_none, errW_some] <;> rfl) | (simp [*, errW_none, errW_some] <;> rfl), by repeat (first | (with_reducible first | exact HB.out | apply below_alloc | apply pw_below_drewN | apply below_drew1) | exact HB.out)⟩
    · rw [if_neg c4] at H
      exact absurd H (by simp)
  · rw [if_neg c3] at H
    exact absurd H (by simp)

/-! ### bywashref1_TrailerFields: function 33 -/
def bywashref1_TrailerFields.f (k : Nat) (l0 : List (S61)) : Option (Int) := (bywashref1_fields.f k l0 ([] : List ByteArray)).bind fun t172 => (some t172)
theorem bywashref1_TrailerFields.mono : ∀ a0 k, LeO (bywashref1_TrailerFields.f k a0) (bywashref1_TrailerFields.f (k + 1) a0) := by
  intro a0 k
  unfold bywashref1_TrailerFields.f
  repeat' first
      | (with_reducible exact bywashref1_fields.mono _ _ _)
      | (with_reducible exact LeO.refl _)
      | (with_reducible exact LeO.none _)
      | (with_reducible refine LeO.ite ?_ ?_)
      | (with_reducible refine LeO.bind ?_ (fun _ => ?_))
      | exact bywashref1_fields.mono _ _ _
      | exact LeO.none _
      | refine LeO.ite ?_ ?_
      | refine LeO.bind ?_ (fun _ => ?_)
set_option maxHeartbeats 8000000 in
set_option maxRecDepth 100000 in
theorem bywashref1_TrailerFields.calls (k : Nat) (A0 : Option Addr) (c0 : Nat) (l0 : List (S61)) (r : Int) (w : World) (hr0 : Kd.C k61 w A0 l0.length l0) (hc0 : l0.length ≤ c0) (h : bywashref1_TrailerFields.f k l0 = some r) :
    Calls Tryz.prog 33 #[.slice A0 l0.length c0] w fun e w' => e = .returned (.int .i64 r) ∧ Below w.heap.size w w' := by
  have HR0 := Aside0.mk hr0
  have HC0 := Aside0.mk hc0
  clear hr0 hc0
  have HB := Aside0.mk (Below.refl w.heap.size w)
  have H : ((bywashref1_fields.f k l0 ([] : List ByteArray)).bind fun t172 => (some t172)) = some r := h
  clear h
  replace H := Option.bind_eq_some_iff.mp H
  obtain ⟨t172, A20, H⟩ := H
  replace H : (some t172) = some r := H
  have A2 := Aside0.mk A20
  clear A20
  obtain rfl := Option.some.inj H
  go_enter Tryz.func33, Tryz.ntmps33
  go_wp2_with (first | ((with_reducible refine gate_callee (f := 75) rfl ?_); refine goesL_ (some 4) rfl rfl Tryz.func75 (by kernel_rfl) rfl #[.slice A0 l0.length c0, .slice none 0 0] rfl (by (try simp only [List.map_toArray, List.map_cons, List.map_nil]); first | done | rfl | (simp only [List.length_drop, List.length_take]; rfl)) ?_; (refine (bywashref1_fields.calls k _ _ l0 _ _ ([] : List ByteArray) t172 _ ?side1 ?side2 ?side3 ?side4 A2.out).mono ?_); (case side1 => repeat (first | exact HR0.out | (with_reducible refine Kd.C_alloc ?_ _) | (with_reducible refine Kd.C_drewN ?_ _) | (with_reducible refine Kd.C_drew ?_))); (case side2 => exact HC0.out); (case side3 => exact Kd.C_nil _ _); (case side4 => exact Nat.le_refl _); rintro e w3 ⟨rfl, hb⟩; refine ⟨_, rfl, ?_⟩; have n0_ := Aside0.mk (below_step (by repeat (first | (with_reducible first | exact HB.out | apply below_alloc | apply pw_below_drewN | apply below_drew1) | exact HB.out)) hb); clear HB; have HB := n0_; clear n0_; (try clear hb); (try clear hb2); (try clear hk); (try clear hi)))
  go_ret
  exact ⟨by first | rfl | (simp [errW_none, errW_some] <;> rfl) | (simp [*, errW_none, errW_some] <;> rfl), by repeat (first | (with_reducible first | exact HB.out | apply below_alloc | apply pw_below_drewN | apply below_drew1) | exact HB.out)⟩

/-! ### bywashref1_Cost: function 76 -/
def bywashref1_Cost.f (a0_0 : ByteArray) (a0_1 : ByteArray) : Option (Int) := some (wrap64 ((wrap64 ((a0_0.size : Int) + (a0_1.size : Int))) + 32))
set_option maxHeartbeats 8000000 in
set_option maxRecDepth 100000 in
theorem bywashref1_Cost.calls (a0_0 : ByteArray) (a0_1 : ByteArray) (r : Int) (w : World) (h : bywashref1_Cost.f a0_0 a0_1 = some r) :
    Calls Tryz.prog 76 #[.agg #[.string a0_0, .string a0_1]] w fun e w' => e = .returned (.int .i64 r) ∧ Below w.heap.size w w' := by
  have hu61 := Tryz.underlying61
  have HB := Aside0.mk (Below.refl w.heap.size w)
  have H : (some (wrap64 ((wrap64 ((a0_0.size : Int) + (a0_1.size : Int))) + 32))) = some r := h
  clear h
  obtain rfl := Option.some.inj H
  go_enter Tryz.func76, Tryz.ntmps76
  go_wp2_with (first | ((with_reducible refine gate_dst (N := 1) rfl ?_); refine box_event ?hg (N := 1) ?hd (cs := #[.string a0_0, .string a0_1]) (t := 61) ?hr ?_; (case hd => rfl); (case hg => rfl); (case hr => first | (go_simp; done) | (go_simp; rfl)); intro gb173 hg w2 hbox hb; have n0_ := Aside0.mk (below_step (by repeat (first | (with_reducible first | exact HB.out | apply below_alloc | apply pw_below_drewN | apply below_drew1) | exact HB.out)) hb); have n1_ := Aside0.mk (hbox); have n2_ := Aside0.mk ((by rw [hg]; exact (below_size (by repeat (first | (with_reducible first | exact HB.out | apply below_alloc | apply pw_below_drewN | apply below_drew1) | exact HB.out))) : w.heap.size ≤ gb173)); have n3_ := Aside0.mk ((by rw [hg]; exact (below_size (by repeat (first | (with_reducible first | exact HB.out | apply below_alloc | apply pw_below_drewN | apply below_drew1) | exact HB.out))) : w.heap.size ≤ gb173)); clear HB; have HB := n0_; have BK173 := n1_; have GW173 := n2_; have GE173 := n3_; clear n0_ n1_ n2_ n3_; clear hb hbox hg; have hcz3_0 : w2.cell? ⟨gb173, 0, none⟩ = some (.string a0_0) := (blk_cell BK173.out 0).trans rfl; have hcz3_1 : w2.cell? ⟨gb173, 1, none⟩ = some (.string a0_1) := (blk_cell BK173.out 1).trans rfl; have hfz3_0 := blk_frozen BK173.out 0; have hfz3_1 := blk_frozen BK173.out 1))
  go_ret
  exact ⟨by first | rfl | (simp [errW_none, errW_some] <;> rfl) | (simp [*, errW_none, errW_some] <;> rfl), by repeat (first | (with_reducible first | exact HB.out | apply below_alloc | apply pw_below_drewN | apply below_drew1 | refine below_set ?_ GE173.out) | exact HB.out)⟩

end Go.Proofs.YtififgiicpdndaaGreatDoor.XMi
