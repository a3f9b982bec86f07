-- Printed by wip/tools/xprint.py of this claim's session: the kit's print over contracts of its own.
import Derived.Test.YtififgiicpdndaaGreatDoorXMix0
import Derived.Test.YtififgiicpdndaaGreatDoorXMix10
namespace Go.Proofs.YtififgiicpdndaaGreatDoor.XMi
open Go.RowKit Go.Proofs.YtififgiicpdndaaGreatDoorW.PrintWords Go.Proofs.YtififgiicpdndaaGreatDoorW.PrintLast Go.Proofs.YtififgiicpdndaaGreatDoorW.PrintMore
attribute [local go_sem] max2_int min2_int max_two min_two max_three min_three max_four min_four   -- for this text's walks alone
set_option linter.unusedVariables false
set_option linter.unusedSimpArgs false

/-! ### bywashbook_markFields: function 85 -/
def bywashbook_markFields.l0 : Nat → Int → Int → Int → List (S61) → Int → Option ((List (S61)))
  | 0, _, _, _, _, _ => none
  | k + 1, x0, x1, x2, x7, x8 => if x8 < (wrap64 (x1 + x2)) then ((bywashbook_name.f x0 x8).bind fun t262 => (if x7.length < 4398046511104 then (bywashbook_markFields.l0 k x0 x1 x2 (x7 ++ [(⟨t262, (⟨#[]⟩ : ByteArray)⟩ : S61)]) (wrap64 (x8 + 1))) else (none))) else (some x7)
def bywashbook_markFields.f (k : Nat) (a0 : Int) (a1 : Int) (a2 : Int) : Option ((List (S61))) := bywashbook_markFields.l0 k a0 a1 a2 ([] : List (S61)) a1
theorem bywashbook_markFields.mono_l : ∀ k, (∀ y0 y1 y2 y3 y4, LeO (bywashbook_markFields.l0 k y0 y1 y2 y3 y4) (bywashbook_markFields.l0 (k + 1) y0 y1 y2 y3 y4))
  | 0 => fun _ _ _ _ _ r h => by simp [bywashbook_markFields.l0] at h
  | k + 1 => by
    have ih0 := bywashbook_markFields.mono_l k
    · intro y0 y1 y2 y3 y4
      unfold bywashbook_markFields.l0
      repeat' first
      | (with_reducible exact ih0 _ _ _ _ _)
      | (with_reducible exact LeO.refl _)
      | (with_reducible exact LeO.none _)
      | (with_reducible refine LeO.ite ?_ ?_)
      | (with_reducible refine LeO.bind ?_ (fun _ => ?_))
      | exact ih0 _ _ _ _ _
      | exact LeO.none _
      | refine LeO.ite ?_ ?_
      | refine LeO.bind ?_ (fun _ => ?_)
theorem bywashbook_markFields.mono : ∀ a0 a1 a2 k, LeO (bywashbook_markFields.f k a0 a1 a2) (bywashbook_markFields.f (k + 1) a0 a1 a2) := by
  intro a0 a1 a2 k
  have ih0 := bywashbook_markFields.mono_l k
  unfold bywashbook_markFields.f
  repeat' first
      | (with_reducible exact ih0 _ _ _ _ _)
      | (with_reducible exact LeO.refl _)
      | (with_reducible exact LeO.none _)
      | (with_reducible refine LeO.ite ?_ ?_)
      | (with_reducible refine LeO.bind ?_ (fun _ => ?_))
      | exact ih0 _ _ _ _ _
      | exact LeO.none _
      | refine LeO.ite ?_ ?_
      | refine LeO.bind ?_ (fun _ => ?_)
set_option maxHeartbeats 8000000 in
set_option maxRecDepth 100000 in
theorem bywashbook_markFields.calls (k : Nat) (a0 : Int) (a1 : Int) (a2 : Int) (r : List (S61)) (w : World) (h : bywashbook_markFields.f k a0 a1 a2 = some r) :
    Calls Tryz.prog 85 #[.int .i64 a0, .int .i64 a1, .int .i64 a2] w fun e w' => ∃ v0_ : Value, e = .returned (v0_) ∧ Kd.R k61 61 w' w.heap.size (fun _ => True) v0_ r ∧ Below w.heap.size w w' := by
  have hu61 := Tryz.underlying61
  have HB := Aside0.mk (Below.refl w.heap.size w)
  have H : (bywashbook_markFields.l0 k a0 a1 a2 ([] : List (S61)) a1) = some r := h
  clear h
  have H' := Aside0.mk H
  clear H
  go_enter Tryz.func85, Tryz.ntmps85
  go_wp2
  go_loopg [7, 8] k (fun kq v7 v8 w' => ∃ (x7_1 : List (S61)) (x8_1 : Int), v8 = .int .i64 x8_1 ∧ Aside0 (bywashbook_markFields.l0 kq a0 a1 a2 x7_1 x8_1 = some r) ∧ Aside0 (kq ≤ k) ∧ Aside0 (Kd.R k61 61 w' w.heap.size (fun _ => True) v7 x7_1) ∧ Aside0 (Below w.heap.size w w'))
  case atStart => exact ⟨(([] : List (S61))), (a1), (by first | rfl | (simp; done) | (simp [*]; done)), H', ⟨Nat.le_refl _⟩, ⟨by first | exact Kd.R_nil _ _ _ _ _ | exact Kd.N_nil _ _ _ _ _ | exact Kd.V_nil _ _ _ _ _ | exact Kd.Q_nil _ _ _ _ _ | exact Kd.S_nil _ _ _ _ _⟩, ⟨by repeat (first | (with_reducible first | exact HB.out | apply below_alloc | apply pw_below_drewN | apply below_drew1) | exact HB.out)⟩⟩
  case round =>
    clear H'
    try clear p2
    obtain ⟨x7_1, x8_1, rfl, HA, HK1, HO_7, HB⟩ := hrel
    cases gk with
    | zero => exact absurd HA.out (by simp [bywashbook_markFields.l0])
    | succ k1 =>
      have H := HA.out
      clear HA
      simp only [bywashbook_markFields.l0] at H
      by_cases c4 : x8_1 < (wrap64 (a1 + a2))
      · rw [if_pos c4] at H
        have c4b0 : decide (x8_1 < (wrap64 (a1 + a2))) = true := decide_eq_true c4
        clear c4
        replace H := Option.bind_eq_some_iff.mp H
        obtain ⟨t262, A50, H⟩ := H
        replace H : (if x7_1.length < 4398046511104 then (bywashbook_markFields.l0 k1 a0 a1 a2 (x7_1 ++ [(⟨t262, (⟨#[]⟩ : ByteArray)⟩ : S61)]) (wrap64 (x8_1 + 1))) else (none)) = some r := H
        have A5 := Aside0.mk A50
        clear A50
        by_cases c6 : x7_1.length < 4398046511104
        · rw [if_pos c6] at H
          have LMc6 := Aside0.mk c6
          clear c6
          obtain ⟨y263, hy263⟩ : ∃ y_ : List (S61), y_ = (x7_1 ++ [(⟨t262, (⟨#[]⟩ : ByteArray)⟩ : S61)]) := ⟨_, rfl⟩
          replace H : (bywashbook_markFields.l0 k1 a0 a1 a2 y263 (wrap64 (x8_1 + 1))) = some r := by first | (rw [hy263]; with_reducible exact H) | (have H2_ := (Option.bind_some _ _).symm.trans H; rw [hy263]; with_reducible exact H2_) | (have H2_ := (Option.bind_some _ _).symm.trans H; with_reducible exact H2_) | with_reducible exact H | (rw [hy263]; exact H) | exact H
          have Ny263 := Aside0.mk hy263
          clear hy263
          have H' := Aside0.mk H
          clear H
          go_wp2_with (first | ((with_reducible refine gate_callee (f := 102) rfl ?_); refine goesL_ (some 20) rfl rfl Tryz.func102 (by kernel_rfl) rfl #[.int .i64 a0, .int .i64 x8_1] rfl (by (try simp only [List.map_toArray, List.map_cons, List.map_nil]); first | done | rfl | (simp only [List.length_drop, List.length_take]; rfl)) ?_; (with_reducible refine (bywashbook_name.calls a0 x8_1 t262 _ A5.out).mono ?_); rintro e w7 ⟨rfl, hb⟩; refine ⟨_, rfl, ?_⟩; have n0_ := Aside0.mk (Kd.R_below (by (with_reducible repeat (first | apply Kd.R_alloc | apply Kd.R_drewN | apply Kd.R_drew)); exact HO_7.out) hb); have n1_ := Aside0.mk (below_step (by repeat (first | (with_reducible first | exact HB.out | apply below_alloc | apply pw_below_drewN | apply below_drew1) | exact HB.out)) hb); clear HO_7; clear HB; have HO_7 := n0_; have HB := n1_; clear n0_ n1_; (try clear hb); (try clear hb2); (try clear hk); (try clear hi)) | ((with_reducible refine gate_builtin (b := .append) (xs := #[.tmp 17, .tmp 22]) rfl ?_); at_builtin; refine Kd.R_append k61 (w0 := w) w.heap.size rfl (.tmp 17) (.tmp 22) 22 61 (.agg #[(.string ⟨#[]⟩), (.string ⟨#[]⟩)]) 32 rfl Tryz.underlying22 info61 rfl (by decide) (by omega) u7 x7_1 (⟨t262, (⟨#[]⟩ : ByteArray)⟩ : S61) [.string t262, .string (⟨#[]⟩ : ByteArray)] (fun _ => True) (fun _ => False) rfl rfl ?aP (fun _ hk => hk.elim) ?aF ?aO ?aB ?aS ?aL ?_; (case aP => exact k61_mkM _ _ _ (⟨t262, (⟨#[]⟩ : ByteArray)⟩ : S61)); (case aB => exact (by repeat (first | (with_reducible first | exact HB.out | apply below_alloc | apply pw_below_drewN | apply below_drew1) | exact HB.out))); (case aF => exact (fun _ _ => trivial)); (case aO => exact (by (with_reducible repeat (first | apply Kd.R_alloc | apply Kd.R_drewN | apply Kd.R_drew)); exact HO_7.out)); (case aS => exact (below_size (by repeat (first | (with_reducible first | exact HB.out | apply below_alloc | apply pw_below_drewN | apply below_drew1) | exact HB.out)))); (case aL => have := LMc6.out; omega); intro v264 w8 ho hb hg hat; rw [← Ny263.out] at ho; have n0_ := Aside0.mk (hb); have n1_ := Aside0.mk (ho); clear HB; clear HO_7; have HB := n0_; have HO265 := n1_; clear n0_ n1_; clear ho hb hg hat))
          go_roundg k1
          case measure => have := HK1.out; omega
          case rel => exact ⟨(y263), (wrap64 (x8_1 + 1)), (by first | rfl | (simp; done) | (simp [*]; done)), H', ⟨by have := HK1.out; omega⟩, ⟨by (with_reducible repeat (first | apply Kd.R_alloc | apply Kd.R_drewN | apply Kd.R_drew)); exact HO265.out⟩, ⟨by repeat (first | (with_reducible first | exact HB.out | apply below_alloc | apply pw_below_drewN | apply below_drew1) | exact HB.out)⟩⟩
        · rw [if_neg c6] at H
          exact absurd H (by simp)
      · rw [if_neg c4] at H
        have c4b0 : decide (x8_1 < (wrap64 (a1 + a2))) = false := decide_eq_false c4
        clear c4
        obtain rfl := Option.some.inj H
        go_wp2
        go_ret
        exact ⟨_, by first | rfl | (simp [errW_none, errW_some] <;> rfl) | (simp [*, errW_none, errW_some] <;> rfl), by (with_reducible repeat (first | apply Kd.R_alloc | apply Kd.R_drewN | apply Kd.R_drew)); exact HO_7.out, by repeat (first | (with_reducible first | exact HB.out | apply below_alloc | apply pw_below_drewN | apply below_drew1) | exact HB.out)⟩

-- NOT PRINTED: function 46 (bywashbook_Book_putFields)

-- NOT PRINTED: function 47 (bywashbook_Book_putFrames)

-- NOT PRINTED: function 48 (bywashbook_Book_putPrefs)

-- NOT PRINTED: function 49 (bywashbook_Book_growInts)

-- NOT PRINTED: function 50 (bywashbook_Book_growTexts)

-- NOT PRINTED: function 51 (bywashbook_Book_growFields)

-- NOT PRINTED: function 52 (bywashbook_Book_growFrames)

-- NOT PRINTED: function 53 (bywashbook_Book_growPrefs)


end Go.Proofs.YtififgiicpdndaaGreatDoor.XMi
