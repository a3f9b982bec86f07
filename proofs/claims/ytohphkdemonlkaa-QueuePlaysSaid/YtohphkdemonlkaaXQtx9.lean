-- Printed by wip/tools/xprint.py of this claim's session: the kit's print over contracts of its own.
import Derived.Test.YtohphkdemonlkaaXQtx0
import Derived.Test.YtohphkdemonlkaaXQtx1
namespace Go.Proofs.Ytohphkdemonlkaa.XQt
open Go.RowKit Go.Proofs.YtohphkdemonlkaaW.PrintWords Go.Proofs.YtohphkdemonlkaaW.PrintLast Go.Proofs.YtohphkdemonlkaaW.PrintMore
attribute [local go_sem] max2_int min2_int max_two min_two max_three min_three max_four min_four   -- for this text's walks alone
set_option linter.unusedVariables false
set_option linter.unusedSimpArgs false

attribute [local go_sem high] eqA54
-- NOT PRINTED: function 5 (bywashlaw22_QueueOrder)

-- NOT PRINTED: function 6 (bywashlaw22_QueueFull)

/-! ### table_may: function 69 -/
def table_may.f (a0 : Int) : Option (Bool) := if a0 ≥ 0 then (some (decide (a0 ≤ 512))) else (some false)
set_option maxHeartbeats 8000000 in
set_option maxRecDepth 100000 in
theorem table_may.calls (a0 : Int) (r : Bool) (w : World) (h : table_may.f a0 = some r) :
    Calls Try.prog 69 #[.int .i64 a0] w fun e w' => e = .returned (.bool r) ∧ Drawn0 w w' := by
  have H : (if a0 ≥ 0 then (some (decide (a0 ≤ 512))) else (some false)) = some r := h
  clear h
  by_cases c2 : a0 ≥ 0
  · rw [if_pos c2] at H
    have c2b0 : decide (0 ≤ a0) = true := decide_eq_true c2
    clear c2
    obtain rfl := Option.some.inj H
    go_enter Try.func69, Try.ntmps69
    go_wp2
    go_ret
    exact ⟨by first | rfl | (simp; done) | (simp [*]; done), by repeat (first | exact Drawn0.refl _ | apply Drawn0.step)⟩
  · rw [if_neg c2] at H
    have c2b0 : decide (0 ≤ a0) = false := decide_eq_false c2
    clear c2
    obtain rfl := Option.some.inj H
    go_enter Try.func69, Try.ntmps69
    go_wp2
    go_ret
    exact ⟨by first | rfl | (simp; done) | (simp [*]; done), by repeat (first | exact Drawn0.refl _ | apply Drawn0.step)⟩

-- NOT PRINTED: function 26 (table_New)

/-! ### table_Cost: function 30 -/
def table_Cost.f (a0_0 : ByteArray) (a0_1 : ByteArray) : Option (Int) := some (wrap64 ((wrap64 ((a0_0.size : Int) + (a0_1.size : Int))) + 32))
set_option maxHeartbeats 8000000 in
set_option maxRecDepth 100000 in
theorem table_Cost.calls (a0_0 : ByteArray) (a0_1 : ByteArray) (r : Int) (w : World) (h : table_Cost.f a0_0 a0_1 = some r) :
    Calls Try.prog 30 #[.agg #[.string a0_0, .string a0_1]] w fun e w' => e = .returned (.int .i64 r) ∧ Below w.heap.size w w' := by
  have hu54 := Try.underlying54
  have HB := Aside0.mk (Below.refl w.heap.size w)
  have H : (some (wrap64 ((wrap64 ((a0_0.size : Int) + (a0_1.size : Int))) + 32))) = some r := h
  clear h
  obtain rfl := Option.some.inj H
  go_enter Try.func30, Try.ntmps30
  go_wp2_with (first | ((with_reducible refine gate_dst (N := 1) rfl ?_); refine box_event ?hg (N := 1) ?hd (cs := #[.string a0_0, .string a0_1]) (t := 54) ?hr ?_; (case hd => rfl); (case hg => rfl); (case hr => first | (go_simp; done) | (go_simp; rfl)); intro gb230 hg w2 hbox hb; have n0_ := Aside0.mk (below_step (by repeat (first | (with_reducible first | exact HB.out | apply below_alloc | apply pw_below_drewN | apply below_drew1) | exact HB.out)) hb); have n1_ := Aside0.mk (hbox); have n2_ := Aside0.mk ((by rw [hg]; exact (below_size (by repeat (first | (with_reducible first | exact HB.out | apply below_alloc | apply pw_below_drewN | apply below_drew1) | exact HB.out))) : w.heap.size ≤ gb230)); have n3_ := Aside0.mk ((by rw [hg]; exact (below_size (by repeat (first | (with_reducible first | exact HB.out | apply below_alloc | apply pw_below_drewN | apply below_drew1) | exact HB.out))) : w.heap.size ≤ gb230)); clear HB; have HB := n0_; have BK230 := n1_; have GW230 := n2_; have GE230 := n3_; clear n0_ n1_ n2_ n3_; clear hb hbox hg; have hcz3_0 : w2.cell? ⟨gb230, 0, none⟩ = some (.string a0_0) := (blk_cell BK230.out 0).trans rfl; have hcz3_1 : w2.cell? ⟨gb230, 1, none⟩ = some (.string a0_1) := (blk_cell BK230.out 1).trans rfl; have hfz3_0 := blk_frozen BK230.out 0; have hfz3_1 := blk_frozen BK230.out 1))
  go_ret
  exact ⟨by first | rfl | (simp [errW_none, errW_some] <;> rfl) | (simp [*, errW_none, errW_some] <;> rfl), by repeat (first | (with_reducible first | exact HB.out | apply below_alloc | apply pw_below_drewN | apply below_drew1 | refine below_set ?_ GE230.out) | exact HB.out)⟩

-- NOT PRINTED: function 70 (table_Table_shrink)

-- NOT PRINTED: function 91 (api_Field_91)

-- NOT PRINTED: function 96 (api_Field_96)

-- NOT PRINTED: function 92 (api_Field_92)

-- NOT PRINTED: function 71 (api_Field_71)

-- NOT PRINTED: function 27 (table_Table_Add)

-- NOT PRINTED: function 29 (table_Table_Used)

-- NOT PRINTED: function 72 (api_Field_72)

-- NOT PRINTED: function 28 (table_Table_All)

/-! ### table_always: function 93 -/
def table_always.f  : Option ((List (S54))) := some (([(⟨(⟨#[58, 97, 117, 116, 104, 111, 114, 105, 116, 121]⟩ : ByteArray), (⟨#[]⟩ : ByteArray)⟩ : S54), (⟨(⟨#[58, 109, 101, 116, 104, 111, 100]⟩ : ByteArray), (⟨#[71, 69, 84]⟩ : ByteArray)⟩ : S54), (⟨(⟨#[58, 109, 101, 116, 104, 111, 100]⟩ : ByteArray), (⟨#[80, 79, 83, 84]⟩ : ByteArray)⟩ : S54), (⟨(⟨#[58, 112, 97, 116, 104]⟩ : ByteArray), (⟨#[47]⟩ : ByteArray)⟩ : S54), (⟨(⟨#[58, 115, 99, 104, 101, 109, 101]⟩ : ByteArray), (⟨#[104, 116, 116, 112]⟩ : ByteArray)⟩ : S54), (⟨(⟨#[58, 115, 99, 104, 101, 109, 101]⟩ : ByteArray), (⟨#[104, 116, 116, 112, 115]⟩ : ByteArray)⟩ : S54), (⟨(⟨#[58, 115, 116, 97, 116, 117, 115]⟩ : ByteArray), (⟨#[50, 48, 48]⟩ : ByteArray)⟩ : S54), (⟨(⟨#[58, 115, 116, 97, 116, 117, 115]⟩ : ByteArray), (⟨#[50, 48, 52]⟩ : ByteArray)⟩ : S54), (⟨(⟨#[58, 115, 116, 97, 116, 117, 115]⟩ : ByteArray), (⟨#[52, 48, 52]⟩ : ByteArray)⟩ : S54), (⟨(⟨#[58, 115, 116, 97, 116, 117, 115]⟩ : ByteArray), (⟨#[53, 48, 48]⟩ : ByteArray)⟩ : S54), (⟨(⟨#[97, 99, 99, 101, 112, 116]⟩ : ByteArray), (⟨#[]⟩ : ByteArray)⟩ : S54), (⟨(⟨#[99, 111, 110, 116, 101, 110, 116, 45, 108, 101, 110, 103, 116, 104]⟩ : ByteArray), (⟨#[]⟩ : ByteArray)⟩ : S54), (⟨(⟨#[99, 111, 110, 116, 101, 110, 116, 45, 116, 121, 112, 101]⟩ : ByteArray), (⟨#[]⟩ : ByteArray)⟩ : S54), (⟨(⟨#[99, 111, 111, 107, 105, 101]⟩ : ByteArray), (⟨#[]⟩ : ByteArray)⟩ : S54), (⟨(⟨#[100, 97, 116, 101]⟩ : ByteArray), (⟨#[]⟩ : ByteArray)⟩ : S54), (⟨(⟨#[117, 115, 101, 114, 45, 97, 103, 101, 110, 116]⟩ : ByteArray), (⟨#[]⟩ : ByteArray)⟩ : S54)] : List (S54)))
set_option maxHeartbeats 8000000 in
set_option maxRecDepth 100000 in
theorem table_always.calls  (r : List (S54)) (w : World) (h : table_always.f  = some r) :
    Calls Try.prog 93 #[] w fun e w' => ∃ v0_ : Value, e = .returned (v0_) ∧ Kd.R k54 54 w' w.heap.size (fun _ => True) v0_ r ∧ Below w.heap.size w w' := by
  have hu54 := Try.underlying54
  have HB := Aside0.mk (Below.refl w.heap.size w)
  have H : (some (([(⟨(⟨#[58, 97, 117, 116, 104, 111, 114, 105, 116, 121]⟩ : ByteArray), (⟨#[]⟩ : ByteArray)⟩ : S54), (⟨(⟨#[58, 109, 101, 116, 104, 111, 100]⟩ : ByteArray), (⟨#[71, 69, 84]⟩ : ByteArray)⟩ : S54), (⟨(⟨#[58, 109, 101, 116, 104, 111, 100]⟩ : ByteArray), (⟨#[80, 79, 83, 84]⟩ : ByteArray)⟩ : S54), (⟨(⟨#[58, 112, 97, 116, 104]⟩ : ByteArray), (⟨#[47]⟩ : ByteArray)⟩ : S54), (⟨(⟨#[58, 115, 99, 104, 101, 109, 101]⟩ : ByteArray), (⟨#[104, 116, 116, 112]⟩ : ByteArray)⟩ : S54), (⟨(⟨#[58, 115, 99, 104, 101, 109, 101]⟩ : ByteArray), (⟨#[104, 116, 116, 112, 115]⟩ : ByteArray)⟩ : S54), (⟨(⟨#[58, 115, 116, 97, 116, 117, 115]⟩ : ByteArray), (⟨#[50, 48, 48]⟩ : ByteArray)⟩ : S54), (⟨(⟨#[58, 115, 116, 97, 116, 117, 115]⟩ : ByteArray), (⟨#[50, 48, 52]⟩ : ByteArray)⟩ : S54), (⟨(⟨#[58, 115, 116, 97, 116, 117, 115]⟩ : ByteArray), (⟨#[52, 48, 52]⟩ : ByteArray)⟩ : S54), (⟨(⟨#[58, 115, 116, 97, 116, 117, 115]⟩ : ByteArray), (⟨#[53, 48, 48]⟩ : ByteArray)⟩ : S54), (⟨(⟨#[97, 99, 99, 101, 112, 116]⟩ : ByteArray), (⟨#[]⟩ : ByteArray)⟩ : S54), (⟨(⟨#[99, 111, 110, 116, 101, 110, 116, 45, 108, 101, 110, 103, 116, 104]⟩ : ByteArray), (⟨#[]⟩ : ByteArray)⟩ : S54), (⟨(⟨#[99, 111, 110, 116, 101, 110, 116, 45, 116, 121, 112, 101]⟩ : ByteArray), (⟨#[]⟩ : ByteArray)⟩ : S54), (⟨(⟨#[99, 111, 111, 107, 105, 101]⟩ : ByteArray), (⟨#[]⟩ : ByteArray)⟩ : S54), (⟨(⟨#[100, 97, 116, 101]⟩ : ByteArray), (⟨#[]⟩ : ByteArray)⟩ : S54), (⟨(⟨#[117, 115, 101, 114, 45, 97, 103, 101, 110, 116]⟩ : ByteArray), (⟨#[]⟩ : ByteArray)⟩ : S54)] : List (S54)))) = some r := h
  clear h
  obtain ⟨y249, hy249⟩ : ∃ y_ : List (S54), y_ = (([(⟨(⟨#[58, 97, 117, 116, 104, 111, 114, 105, 116, 121]⟩ : ByteArray), (⟨#[]⟩ : ByteArray)⟩ : S54), (⟨(⟨#[58, 109, 101, 116, 104, 111, 100]⟩ : ByteArray), (⟨#[71, 69, 84]⟩ : ByteArray)⟩ : S54), (⟨(⟨#[58, 109, 101, 116, 104, 111, 100]⟩ : ByteArray), (⟨#[80, 79, 83, 84]⟩ : ByteArray)⟩ : S54), (⟨(⟨#[58, 112, 97, 116, 104]⟩ : ByteArray), (⟨#[47]⟩ : ByteArray)⟩ : S54), (⟨(⟨#[58, 115, 99, 104, 101, 109, 101]⟩ : ByteArray), (⟨#[104, 116, 116, 112]⟩ : ByteArray)⟩ : S54), (⟨(⟨#[58, 115, 99, 104, 101, 109, 101]⟩ : ByteArray), (⟨#[104, 116, 116, 112, 115]⟩ : ByteArray)⟩ : S54), (⟨(⟨#[58, 115, 116, 97, 116, 117, 115]⟩ : ByteArray), (⟨#[50, 48, 48]⟩ : ByteArray)⟩ : S54), (⟨(⟨#[58, 115, 116, 97, 116, 117, 115]⟩ : ByteArray), (⟨#[50, 48, 52]⟩ : ByteArray)⟩ : S54), (⟨(⟨#[58, 115, 116, 97, 116, 117, 115]⟩ : ByteArray), (⟨#[52, 48, 52]⟩ : ByteArray)⟩ : S54), (⟨(⟨#[58, 115, 116, 97, 116, 117, 115]⟩ : ByteArray), (⟨#[53, 48, 48]⟩ : ByteArray)⟩ : S54), (⟨(⟨#[97, 99, 99, 101, 112, 116]⟩ : ByteArray), (⟨#[]⟩ : ByteArray)⟩ : S54), (⟨(⟨#[99, 111, 110, 116, 101, 110, 116, 45, 108, 101, 110, 103, 116, 104]⟩ : ByteArray), (⟨#[]⟩ : ByteArray)⟩ : S54), (⟨(⟨#[99, 111, 110, 116, 101, 110, 116, 45, 116, 121, 112, 101]⟩ : ByteArray), (⟨#[]⟩ : ByteArray)⟩ : S54), (⟨(⟨#[99, 111, 111, 107, 105, 101]⟩ : ByteArray), (⟨#[]⟩ : ByteArray)⟩ : S54), (⟨(⟨#[100, 97, 116, 101]⟩ : ByteArray), (⟨#[]⟩ : ByteArray)⟩ : S54), (⟨(⟨#[117, 115, 101, 114, 45, 97, 103, 101, 110, 116]⟩ : ByteArray), (⟨#[]⟩ : ByteArray)⟩ : S54)] : List (S54))) := ⟨_, rfl⟩
  replace H : (some y249) = some r := by first | (rw [hy249]; with_reducible exact H) | (have H2_ := (Option.bind_some _ _).symm.trans H; rw [hy249]; with_reducible exact H2_) | (have H2_ := (Option.bind_some _ _).symm.trans H; with_reducible exact H2_) | with_reducible exact H | (rw [hy249]; exact H) | exact H
  have Ny249 := Aside0.mk hy249
  clear hy249
  obtain rfl := Option.some.inj H
  go_enter Try.func93, Try.ntmps93
  go_wp2_with (first | ((with_reducible refine gate_dst (N := 17) rfl ?_); refine Kd.R_lit k54 _ 54 ?hg (N := 17) ?hd (xs := ([(⟨(⟨#[58, 97, 117, 116, 104, 111, 114, 105, 116, 121]⟩ : ByteArray), (⟨#[]⟩ : ByteArray)⟩ : S54), (⟨(⟨#[58, 109, 101, 116, 104, 111, 100]⟩ : ByteArray), (⟨#[71, 69, 84]⟩ : ByteArray)⟩ : S54), (⟨(⟨#[58, 109, 101, 116, 104, 111, 100]⟩ : ByteArray), (⟨#[80, 79, 83, 84]⟩ : ByteArray)⟩ : S54), (⟨(⟨#[58, 112, 97, 116, 104]⟩ : ByteArray), (⟨#[47]⟩ : ByteArray)⟩ : S54), (⟨(⟨#[58, 115, 99, 104, 101, 109, 101]⟩ : ByteArray), (⟨#[104, 116, 116, 112]⟩ : ByteArray)⟩ : S54), (⟨(⟨#[58, 115, 99, 104, 101, 109, 101]⟩ : ByteArray), (⟨#[104, 116, 116, 112, 115]⟩ : ByteArray)⟩ : S54), (⟨(⟨#[58, 115, 116, 97, 116, 117, 115]⟩ : ByteArray), (⟨#[50, 48, 48]⟩ : ByteArray)⟩ : S54), (⟨(⟨#[58, 115, 116, 97, 116, 117, 115]⟩ : ByteArray), (⟨#[50, 48, 52]⟩ : ByteArray)⟩ : S54), (⟨(⟨#[58, 115, 116, 97, 116, 117, 115]⟩ : ByteArray), (⟨#[52, 48, 52]⟩ : ByteArray)⟩ : S54), (⟨(⟨#[58, 115, 116, 97, 116, 117, 115]⟩ : ByteArray), (⟨#[53, 48, 48]⟩ : ByteArray)⟩ : S54), (⟨(⟨#[97, 99, 99, 101, 112, 116]⟩ : ByteArray), (⟨#[]⟩ : ByteArray)⟩ : S54), (⟨(⟨#[99, 111, 110, 116, 101, 110, 116, 45, 108, 101, 110, 103, 116, 104]⟩ : ByteArray), (⟨#[]⟩ : ByteArray)⟩ : S54), (⟨(⟨#[99, 111, 110, 116, 101, 110, 116, 45, 116, 121, 112, 101]⟩ : ByteArray), (⟨#[]⟩ : ByteArray)⟩ : S54), (⟨(⟨#[99, 111, 111, 107, 105, 101]⟩ : ByteArray), (⟨#[]⟩ : ByteArray)⟩ : S54), (⟨(⟨#[100, 97, 116, 101]⟩ : ByteArray), (⟨#[]⟩ : ByteArray)⟩ : S54), (⟨(⟨#[117, 115, 101, 114, 45, 97, 103, 101, 110, 116]⟩ : ByteArray), (⟨#[]⟩ : ByteArray)⟩ : S54)] : List (S54))) (inner := [.string (⟨#[58, 97, 117, 116, 104, 111, 114, 105, 116, 121]⟩ : ByteArray), .string (⟨#[]⟩ : ByteArray), .string (⟨#[58, 109, 101, 116, 104, 111, 100]⟩ : ByteArray), .string (⟨#[71, 69, 84]⟩ : ByteArray), .string (⟨#[58, 109, 101, 116, 104, 111, 100]⟩ : ByteArray), .string (⟨#[80, 79, 83, 84]⟩ : ByteArray), .string (⟨#[58, 112, 97, 116, 104]⟩ : ByteArray), .string (⟨#[47]⟩ : ByteArray), .string (⟨#[58, 115, 99, 104, 101, 109, 101]⟩ : ByteArray), .string (⟨#[104, 116, 116, 112]⟩ : ByteArray), .string (⟨#[58, 115, 99, 104, 101, 109, 101]⟩ : ByteArray), .string (⟨#[104, 116, 116, 112, 115]⟩ : ByteArray), .string (⟨#[58, 115, 116, 97, 116, 117, 115]⟩ : ByteArray), .string (⟨#[50, 48, 48]⟩ : ByteArray), .string (⟨#[58, 115, 116, 97, 116, 117, 115]⟩ : ByteArray), .string (⟨#[50, 48, 52]⟩ : ByteArray), .string (⟨#[58, 115, 116, 97, 116, 117, 115]⟩ : ByteArray), .string (⟨#[52, 48, 52]⟩ : ByteArray), .string (⟨#[58, 115, 116, 97, 116, 117, 115]⟩ : ByteArray), .string (⟨#[53, 48, 48]⟩ : ByteArray), .string (⟨#[97, 99, 99, 101, 112, 116]⟩ : ByteArray), .string (⟨#[]⟩ : ByteArray), .string (⟨#[99, 111, 110, 116, 101, 110, 116, 45, 108, 101, 110, 103, 116, 104]⟩ : ByteArray), .string (⟨#[]⟩ : ByteArray), .string (⟨#[99, 111, 110, 116, 101, 110, 116, 45, 116, 121, 112, 101]⟩ : ByteArray), .string (⟨#[]⟩ : ByteArray), .string (⟨#[99, 111, 111, 107, 105, 101]⟩ : ByteArray), .string (⟨#[]⟩ : ByteArray), .string (⟨#[100, 97, 116, 101]⟩ : ByteArray), .string (⟨#[]⟩ : ByteArray), .string (⟨#[117, 115, 101, 114, 45, 97, 103, 101, 110, 116]⟩ : ByteArray), .string (⟨#[]⟩ : ByteArray)]) (ok := fun _ => True) (okp := fun _ => True) ?hr ?hp (fun _ hk => hk) trivial (Below.refl _ _) (Nat.le_refl _) (by simp) ?_; (case hd => rfl); (case hg => rfl); (case hr => first | (go_simp; done) | (go_simp; rfl)); (case hp => exact (Reps.c2 (show Kd.M k54 _ _ _ (⟨(⟨#[58, 97, 117, 116, 104, 111, 114, 105, 116, 121]⟩ : ByteArray), (⟨#[]⟩ : ByteArray)⟩ : S54) [.string (⟨#[58, 97, 117, 116, 104, 111, 114, 105, 116, 121]⟩ : ByteArray), .string (⟨#[]⟩ : ByteArray)] from (k54_mkM _ _ _ (⟨(⟨#[58, 97, 117, 116, 104, 111, 114, 105, 116, 121]⟩ : ByteArray), (⟨#[]⟩ : ByteArray)⟩ : S54) )) (Reps.c2 (show Kd.M k54 _ _ _ (⟨(⟨#[58, 109, 101, 116, 104, 111, 100]⟩ : ByteArray), (⟨#[71, 69, 84]⟩ : ByteArray)⟩ : S54) [.string (⟨#[58, 109, 101, 116, 104, 111, 100]⟩ : ByteArray), .string (⟨#[71, 69, 84]⟩ : ByteArray)] from (k54_mkM _ _ _ (⟨(⟨#[58, 109, 101, 116, 104, 111, 100]⟩ : ByteArray), (⟨#[71, 69, 84]⟩ : ByteArray)⟩ : S54) )) (Reps.c2 (show Kd.M k54 _ _ _ (⟨(⟨#[58, 109, 101, 116, 104, 111, 100]⟩ : ByteArray), (⟨#[80, 79, 83, 84]⟩ : ByteArray)⟩ : S54) [.string (⟨#[58, 109, 101, 116, 104, 111, 100]⟩ : ByteArray), .string (⟨#[80, 79, 83, 84]⟩ : ByteArray)] from (k54_mkM _ _ _ (⟨(⟨#[58, 109, 101, 116, 104, 111, 100]⟩ : ByteArray), (⟨#[80, 79, 83, 84]⟩ : ByteArray)⟩ : S54) )) (Reps.c2 (show Kd.M k54 _ _ _ (⟨(⟨#[58, 112, 97, 116, 104]⟩ : ByteArray), (⟨#[47]⟩ : ByteArray)⟩ : S54) [.string (⟨#[58, 112, 97, 116, 104]⟩ : ByteArray), .string (⟨#[47]⟩ : ByteArray)] from (k54_mkM _ _ _ (⟨(⟨#[58, 112, 97, 116, 104]⟩ : ByteArray), (⟨#[47]⟩ : ByteArray)⟩ : S54) )) (Reps.c2 (show Kd.M k54 _ _ _ (⟨(⟨#[58, 115, 99, 104, 101, 109, 101]⟩ : ByteArray), (⟨#[104, 116, 116, 112]⟩ : ByteArray)⟩ : S54) [.string (⟨#[58, 115, 99, 104, 101, 109, 101]⟩ : ByteArray), .string (⟨#[104, 116, 116, 112]⟩ : ByteArray)] from (k54_mkM _ _ _ (⟨(⟨#[58, 115, 99, 104, 101, 109, 101]⟩ : ByteArray), (⟨#[104, 116, 116, 112]⟩ : ByteArray)⟩ : S54) )) (Reps.c2 (show Kd.M k54 _ _ _ (⟨(⟨#[58, 115, 99, 104, 101, 109, 101]⟩ : ByteArray), (⟨#[104, 116, 116, 112, 115]⟩ : ByteArray)⟩ : S54) [.string (⟨#[58, 115, 99, 104, 101, 109, 101]⟩ : ByteArray), .string (⟨#[104, 116, 116, 112, 115]⟩ : ByteArray)] from (k54_mkM _ _ _ (⟨(⟨#[58, 115, 99, 104, 101, 109, 101]⟩ : ByteArray), (⟨#[104, 116, 116, 112, 115]⟩ : ByteArray)⟩ : S54) )) (Reps.c2 (show Kd.M k54 _ _ _ (⟨(⟨#[58, 115, 116, 97, 116, 117, 115]⟩ : ByteArray), (⟨#[50, 48, 48]⟩ : ByteArray)⟩ : S54) [.string (⟨#[58, 115, 116, 97, 116, 117, 115]⟩ : ByteArray), .string (⟨#[50, 48, 48]⟩ : ByteArray)] from (k54_mkM _ _ _ (⟨(⟨#[58, 115, 116, 97, 116, 117, 115]⟩ : ByteArray), (⟨#[50, 48, 48]⟩ : ByteArray)⟩ : S54) )) (Reps.c2 (show Kd.M k54 _ _ _ (⟨(⟨#[58, 115, 116, 97, 116, 117, 115]⟩ : ByteArray), (⟨#[50, 48, 52]⟩ : ByteArray)⟩ : S54) [.string (⟨#[58, 115, 116, 97, 116, 117, 115]⟩ : ByteArray), .string (⟨#[50, 48, 52]⟩ : ByteArray)] from (k54_mkM _ _ _ (⟨(⟨#[58, 115, 116, 97, 116, 117, 115]⟩ : ByteArray), (⟨#[50, 48, 52]⟩ : ByteArray)⟩ : S54) )) (Reps.c2 (show Kd.M k54 _ _ _ (⟨(⟨#[58, 115, 116, 97, 116, 117, 115]⟩ : ByteArray), (⟨#[52, 48, 52]⟩ : ByteArray)⟩ : S54) [.string (⟨#[58, 115, 116, 97, 116, 117, 115]⟩ : ByteArray), .string (⟨#[52, 48, 52]⟩ : ByteArray)] from (k54_mkM _ _ _ (⟨(⟨#[58, 115, 116, 97, 116, 117, 115]⟩ : ByteArray), (⟨#[52, 48, 52]⟩ : ByteArray)⟩ : S54) )) (Reps.c2 (show Kd.M k54 _ _ _ (⟨(⟨#[58, 115, 116, 97, 116, 117, 115]⟩ : ByteArray), (⟨#[53, 48, 48]⟩ : ByteArray)⟩ : S54) [.string (⟨#[58, 115, 116, 97, 116, 117, 115]⟩ : ByteArray), .string (⟨#[53, 48, 48]⟩ : ByteArray)] from (k54_mkM _ _ _ (⟨(⟨#[58, 115, 116, 97, 116, 117, 115]⟩ : ByteArray), (⟨#[53, 48, 48]⟩ : ByteArray)⟩ : S54) )) (Reps.c2 (show Kd.M k54 _ _ _ (⟨(⟨#[97, 99, 99, 101, 112, 116]⟩ : ByteArray), (⟨#[]⟩ : ByteArray)⟩ : S54) [.string (⟨#[97, 99, 99, 101, 112, 116]⟩ : ByteArray), .string (⟨#[]⟩ : ByteArray)] from (k54_mkM _ _ _ (⟨(⟨#[97, 99, 99, 101, 112, 116]⟩ : ByteArray), (⟨#[]⟩ : ByteArray)⟩ : S54) )) (Reps.c2 (show Kd.M k54 _ _ _ (⟨(⟨#[99, 111, 110, 116, 101, 110, 116, 45, 108, 101, 110, 103, 116, 104]⟩ : ByteArray), (⟨#[]⟩ : ByteArray)⟩ : S54) [.string (⟨#[99, 111, 110, 116, 101, 110, 116, 45, 108, 101, 110, 103, 116, 104]⟩ : ByteArray), .string (⟨#[]⟩ : ByteArray)] from (k54_mkM _ _ _ (⟨(⟨#[99, 111, 110, 116, 101, 110, 116, 45, 108, 101, 110, 103, 116, 104]⟩ : ByteArray), (⟨#[]⟩ : ByteArray)⟩ : S54) )) (Reps.c2 (show Kd.M k54 _ _ _ (⟨(⟨#[99, 111, 110, 116, 101, 110, 116, 45, 116, 121, 112, 101]⟩ : ByteArray), (⟨#[]⟩ : ByteArray)⟩ : S54) [.string (⟨#[99, 111, 110, 116, 101, 110, 116, 45, 116, 121, 112, 101]⟩ : ByteArray), .string (⟨#[]⟩ : ByteArray)] from (k54_mkM _ _ _ (⟨(⟨#[99, 111, 110, 116, 101, 110, 116, 45, 116, 121, 112, 101]⟩ : ByteArray), (⟨#[]⟩ : ByteArray)⟩ : S54) )) (Reps.c2 (show Kd.M k54 _ _ _ (⟨(⟨#[99, 111, 111, 107, 105, 101]⟩ : ByteArray), (⟨#[]⟩ : ByteArray)⟩ : S54) [.string (⟨#[99, 111, 111, 107, 105, 101]⟩ : ByteArray), .string (⟨#[]⟩ : ByteArray)] from (k54_mkM _ _ _ (⟨(⟨#[99, 111, 111, 107, 105, 101]⟩ : ByteArray), (⟨#[]⟩ : ByteArray)⟩ : S54) )) (Reps.c2 (show Kd.M k54 _ _ _ (⟨(⟨#[100, 97, 116, 101]⟩ : ByteArray), (⟨#[]⟩ : ByteArray)⟩ : S54) [.string (⟨#[100, 97, 116, 101]⟩ : ByteArray), .string (⟨#[]⟩ : ByteArray)] from (k54_mkM _ _ _ (⟨(⟨#[100, 97, 116, 101]⟩ : ByteArray), (⟨#[]⟩ : ByteArray)⟩ : S54) )) (Reps.c2 (show Kd.M k54 _ _ _ (⟨(⟨#[117, 115, 101, 114, 45, 97, 103, 101, 110, 116]⟩ : ByteArray), (⟨#[]⟩ : ByteArray)⟩ : S54) [.string (⟨#[117, 115, 101, 114, 45, 97, 103, 101, 110, 116]⟩ : ByteArray), .string (⟨#[]⟩ : ByteArray)] from (k54_mkM _ _ _ (⟨(⟨#[117, 115, 101, 114, 45, 97, 103, 101, 110, 116]⟩ : ByteArray), (⟨#[]⟩ : ByteArray)⟩ : S54) )) (Reps.none _ _)))))))))))))))))); intro v250 w1 ho2 hb hg_ hnew_; clear hg_ hnew_; (first | rw [← Ny249.out] at ho2 | (simp only [Int.reduceToNat] at ho2; rw [← Ny249.out] at ho2)); have n0_ := Aside0.mk (Kd.R_lower ho2 (below_size (by repeat (first | (with_reducible first | exact HB.out | apply below_alloc | apply pw_below_drewN | apply below_drew1) | exact HB.out)))); have n1_ := Aside0.mk (below_step (by repeat (first | (with_reducible first | exact HB.out | apply below_alloc | apply pw_below_drewN | apply below_drew1) | exact HB.out)) hb); clear HB; have HO251 := n0_; have HB := n1_; clear n0_ n1_; clear hb ho2))
  go_ret
  exact ⟨_, by first | rfl | (simp [errW_none, errW_some] <;> rfl) | (simp [*, errW_none, errW_some] <;> rfl), by (with_reducible repeat (first | apply Kd.R_alloc | apply Kd.R_drewN | apply Kd.R_drew)); exact HO251.out, by repeat (first | (with_reducible first | exact HB.out | apply below_alloc | apply pw_below_drewN | apply below_drew1) | exact HB.out)⟩

-- NOT PRINTED: function 73 (table_Table_whole)

-- NOT PRINTED: function 31 (table_Table_At)

/-! ### api_Field_74: function 74 -/
def api_Field_74.l0 : Nat → List (S54) → Int → Int → ByteArray → ByteArray → Option (Int)
  | 0, _, _, _, _, _ => none
  | k + 1, x0, x7, x8, x257000, x257001 => if x8 < x7 then (if 0 ≤ x8 then (if x8 < (x0.length : Int) then (if (x257000.toList == (((rd_T54 x0 x8).f0).toList) && (x257001.toList == (((rd_T54 x0 x8).f1).toList))) = true then (some x8) else (api_Field_74.l0 k x0 x7 (wrap64 (x8 + 1)) x257000 x257001)) else (none)) else (none)) else (some (-1))
def api_Field_74.f (k : Nat) (l0 : List (S54)) (a1_0 : ByteArray) (a1_1 : ByteArray) : Option (Int) := api_Field_74.l0 k l0 (l0.length : Int) 0 a1_0 a1_1
theorem api_Field_74.mono_l : ∀ k, (∀ y0 y1 y2 y3 y4, LeO (api_Field_74.l0 k y0 y1 y2 y3 y4) (api_Field_74.l0 (k + 1) y0 y1 y2 y3 y4))
  | 0 => fun _ _ _ _ _ r h => by simp [api_Field_74.l0] at h
  | k + 1 => by
    have ih0 := api_Field_74.mono_l k
    · intro y0 y1 y2 y3 y4
      unfold api_Field_74.l0
      repeat' first
      | (with_reducible exact ih0 _ _ _ _ _)
      | (with_reducible exact LeO.refl _)
      | (with_reducible exact LeO.none _)
      | (with_reducible refine LeO.ite ?_ ?_)
      | (with_reducible refine LeO.bind ?_ (fun _ => ?_))
      | exact ih0 _ _ _ _ _
      | exact LeO.none _
      | refine LeO.ite ?_ ?_
      | refine LeO.bind ?_ (fun _ => ?_)
theorem api_Field_74.mono : ∀ a0 a1 a2 k, LeO (api_Field_74.f k a0 a1 a2) (api_Field_74.f (k + 1) a0 a1 a2) := by
  intro a0 a1 a2 k
  have ih0 := api_Field_74.mono_l k
  unfold api_Field_74.f
  repeat' first
      | (with_reducible exact ih0 _ _ _ _ _)
      | (with_reducible exact LeO.refl _)
      | (with_reducible exact LeO.none _)
      | (with_reducible refine LeO.ite ?_ ?_)
      | (with_reducible refine LeO.bind ?_ (fun _ => ?_))
      | exact ih0 _ _ _ _ _
      | exact LeO.none _
      | refine LeO.ite ?_ ?_
      | refine LeO.bind ?_ (fun _ => ?_)
set_option maxHeartbeats 8000000 in
set_option maxRecDepth 100000 in
theorem api_Field_74.calls (k : Nat) (A0 : Option Addr) (c0 : Nat) (l0 : List (S54)) (a1_0 : ByteArray) (a1_1 : ByteArray) (r : Int) (w : World) (hr0 : Kd.C k54 w A0 l0.length l0) (hc0 : l0.length ≤ c0) (h : api_Field_74.f k l0 a1_0 a1_1 = some r) :
    Calls Try.prog 74 #[.slice A0 l0.length c0, .agg #[.string a1_0, .string a1_1]] w fun e w' => e = .returned (.int .i64 r) ∧ Below w.heap.size w w' := by
  have hu54 := Try.underlying54
  have HR0 := Aside0.mk hr0
  have HC0 := Aside0.mk hc0
  clear hr0 hc0
  have HB := Aside0.mk (Below.refl w.heap.size w)
  have H : (api_Field_74.l0 k l0 (l0.length : Int) 0 a1_0 a1_1) = some r := h
  clear h
  have H' := Aside0.mk H
  clear H
  go_enter Try.func74, Try.ntmps74
  go_wp2_with (first | ((with_reducible refine gate_dst (N := 3) rfl ?_); refine box_event ?hg (N := 3) ?hd (cs := #[.string a1_0, .string a1_1]) (t := 54) ?hr ?_; (case hd => rfl); (case hg => rfl); (case hr => first | (go_simp; done) | (go_simp; rfl)); intro gb256 hg w3 hbox hb; have n0_ := Aside0.mk (below_step (by repeat (first | (with_reducible first | exact HB.out | apply below_alloc | apply pw_below_drewN | apply below_drew1) | exact HB.out)) hb); have n1_ := Aside0.mk (hbox); have n2_ := Aside0.mk ((by rw [hg]; exact (below_size (by repeat (first | (with_reducible first | exact HB.out | apply below_alloc | apply pw_below_drewN | apply below_drew1) | exact HB.out))) : w.heap.size ≤ gb256)); have n3_ := Aside0.mk ((by rw [hg]; exact (below_size (by repeat (first | (with_reducible first | exact HB.out | apply below_alloc | apply pw_below_drewN | apply below_drew1) | exact HB.out))) : w.heap.size ≤ gb256)); clear HB; have HB := n0_; have BK256 := n1_; have GW256 := n2_; have GE256 := n3_; clear n0_ n1_ n2_ n3_; clear hb hbox hg))
  repeat (go_quiet (first | ((with_reducible refine gate_dst (N := 3) rfl ?_); refine box_event ?hg (N := 3) ?hd (cs := #[.string a1_0, .string a1_1]) (t := 54) ?hr ?_; (case hd => rfl); (case hg => rfl); (case hr => first | (go_simp; done) | (go_simp; rfl)); intro gb256 hg w3 hbox hb; have n0_ := Aside0.mk (below_step (by repeat (first | (with_reducible first | exact HB.out | apply below_alloc | apply pw_below_drewN | apply below_drew1) | exact HB.out)) hb); have n1_ := Aside0.mk (hbox); have n2_ := Aside0.mk ((by rw [hg]; exact (below_size (by repeat (first | (with_reducible first | exact HB.out | apply below_alloc | apply pw_below_drewN | apply below_drew1) | exact HB.out))) : w.heap.size ≤ gb256)); have n3_ := Aside0.mk ((by rw [hg]; exact (below_size (by repeat (first | (with_reducible first | exact HB.out | apply below_alloc | apply pw_below_drewN | apply below_drew1) | exact HB.out))) : w.heap.size ≤ gb256)); clear HB; have HB := n0_; have BK256 := n1_; have GW256 := n2_; have GE256 := n3_; clear n0_ n1_ n2_ n3_; clear hb hbox hg)); try go_wp2_with (first | ((with_reducible refine gate_dst (N := 3) rfl ?_); refine box_event ?hg (N := 3) ?hd (cs := #[.string a1_0, .string a1_1]) (t := 54) ?hr ?_; (case hd => rfl); (case hg => rfl); (case hr => first | (go_simp; done) | (go_simp; rfl)); intro gb256 hg w3 hbox hb; have n0_ := Aside0.mk (below_step (by repeat (first | (with_reducible first | exact HB.out | apply below_alloc | apply pw_below_drewN | apply below_drew1) | exact HB.out)) hb); have n1_ := Aside0.mk (hbox); have n2_ := Aside0.mk ((by rw [hg]; exact (below_size (by repeat (first | (with_reducible first | exact HB.out | apply below_alloc | apply pw_below_drewN | apply below_drew1) | exact HB.out))) : w.heap.size ≤ gb256)); have n3_ := Aside0.mk ((by rw [hg]; exact (below_size (by repeat (first | (with_reducible first | exact HB.out | apply below_alloc | apply pw_below_drewN | apply below_drew1) | exact HB.out))) : w.heap.size ≤ gb256)); clear HB; have HB := n0_; have BK256 := n1_; have GW256 := n2_; have GE256 := n3_; clear n0_ n1_ n2_ n3_; clear hb hbox hg)))
  go_loopg [8] k (fun kq v8 w' => ∃ (x8_1 : Int), v8 = .int .i64 x8_1 ∧ Aside0 (api_Field_74.l0 kq l0 (l0.length : Int) x8_1 a1_0 a1_1 = some r) ∧ Aside0 (kq ≤ k) ∧ Aside0 (w'.heap[gb256]? = some (.cells #[.string a1_0, .string a1_1] 54 (0, 0))) ∧ Aside0 (Below w.heap.size w w'))
  case atStart => exact ⟨(0), (by first | rfl | (simp; done) | (simp [*]; done)), H', ⟨Nat.le_refl _⟩, ⟨by (with_reducible repeat (first | refine blk_drewN ?_ _ | refine blk_drew ?_ | refine blk_alloc ?_ _)); exact BK256.out⟩, ⟨by repeat (first | (with_reducible first | exact HB.out | apply below_alloc | apply pw_below_drewN | apply below_drew1 | refine below_set ?_ GE256.out) | exact HB.out)⟩⟩
  case round =>
    clear H'
    try clear p2
    obtain ⟨x8_1, rfl, HA, HK1, BK256, HB⟩ := hrel
    cases gk with
    | zero => exact absurd HA.out (by simp [api_Field_74.l0])
    | succ k1 =>
      have H := HA.out
      clear HA
      simp only [api_Field_74.l0] at H
      by_cases c4 : x8_1 < (l0.length : Int)
      · rw [if_pos c4] at H
        have c4b0 : decide (x8_1 < (l0.length : Int)) = true := decide_eq_true c4
        clear c4
        by_cases c5 : 0 ≤ x8_1
        · rw [if_pos c5] at H
          have c5b0 : decide (0 ≤ x8_1) = true := decide_eq_true c5
          clear c5
          by_cases c6 : x8_1 < (l0.length : Int)
          · rw [if_pos c6] at H
            have c6b0 : decide (x8_1 < (l0.length : Int)) = true := decide_eq_true c6
            clear c6
            by_cases c7 : (a1_0.toList == (((rd_T54 l0 x8_1).f0).toList) && (a1_1.toList == (((rd_T54 l0 x8_1).f1).toList))) = true
            · rw [if_pos c7] at H
              have c7b0 : (a1_0.toList == (((rd_T54 l0 x8_1).f0).toList) && (a1_1.toList == (((rd_T54 l0 x8_1).f1).toList))) = true := c7
              (try (have c7b1 : decide (a1_0.toList = (((rd_T54 l0 x8_1).f0).toList) && (a1_1.toList == (((rd_T54 l0 x8_1).f1).toList))) = true := by simpa using c7))
              (try (have c7b2 : (a1_0.toList == (((rd_T54 l0 x8_1).f0).toList) && (a1_1.toList == (((rd_T54 l0 x8_1).f1).toList))) = true := by simpa using c7))
              clear c7
              obtain rfl := Option.some.inj H
              have hcz8_0 : wr.cell? ⟨gb256, 0, none⟩ = some (.string a1_0) := (blk_cell BK256.out 0).trans rfl
              have hcz8_1 : wr.cell? ⟨gb256, 1, none⟩ = some (.string a1_1) := (blk_cell BK256.out 1).trans rfl
              have hfz8_0 := blk_frozen BK256.out 0
              have hfz8_1 := blk_frozen BK256.out 1
              have p257 : 0 ≤ (x8_1 : Int) := of_decide_eq_true (by first | (with_reducible assumption) | assumption)
              have q257 : x8_1 < (l0.length : Int) := of_decide_eq_true (by first | (with_reducible assumption) | assumption)
              obtain ⟨ad257, e257, hx257_0, hx257_1⟩ := at_T54 HR0.out x8_1 p257 q257
              cases e257
              replace hx257_0 := (HB.out.cell (World.block_lt_of_cell? w _ hx257_0)).trans hx257_0
              replace hx257_1 := (HB.out.cell (World.block_lt_of_cell? w _ hx257_1)).trans hx257_1
              replace p257 := eq_true p257
              replace q257 := eq_true q257
              go_wp2
              repeat (go_quiet (fail); try go_wp2)
              go_ret
              exact ⟨by first | rfl | (simp [errW_none, errW_some] <;> rfl) | (simp [*, errW_none, errW_some] <;> rfl), by repeat (first | (with_reducible first | exact HB.out | apply below_alloc | apply pw_below_drewN | apply below_drew1 | refine below_set ?_ GE256.out) | exact HB.out)⟩
            · rw [if_neg c7] at H
              have c7b0 : (a1_0.toList == (((rd_T54 l0 x8_1).f0).toList) && (a1_1.toList == (((rd_T54 l0 x8_1).f1).toList))) = false := by simpa using c7
              (try (have c7b1 : decide (a1_0.toList = (((rd_T54 l0 x8_1).f0).toList) && (a1_1.toList == (((rd_T54 l0 x8_1).f1).toList))) = false := by simpa using c7))
              (try (have c7b2 : (a1_0.toList == (((rd_T54 l0 x8_1).f0).toList) && (a1_1.toList == (((rd_T54 l0 x8_1).f1).toList))) = false := by simpa using c7))
              (try (have c7b3 : ¬ (a1_0.toList = (((rd_T54 l0 x8_1).f0).toList) && (a1_1.toList == (((rd_T54 l0 x8_1).f1).toList))) := by simpa using c7))
              clear c7
              have H' := Aside0.mk H
              clear H
              have hcz9_0 : wr.cell? ⟨gb256, 0, none⟩ = some (.string a1_0) := (blk_cell BK256.out 0).trans rfl
              have hcz9_1 : wr.cell? ⟨gb256, 1, none⟩ = some (.string a1_1) := (blk_cell BK256.out 1).trans rfl
              have hfz9_0 := blk_frozen BK256.out 0
              have hfz9_1 := blk_frozen BK256.out 1
              have p257 : 0 ≤ (x8_1 : Int) := of_decide_eq_true (by first | (with_reducible assumption) | assumption)
              have q257 : x8_1 < (l0.length : Int) := of_decide_eq_true (by first | (with_reducible assumption) | assumption)
              obtain ⟨ad257, e257, hx257_0, hx257_1⟩ := at_T54 HR0.out x8_1 p257 q257
              cases e257
              replace hx257_0 := (HB.out.cell (World.block_lt_of_cell? w _ hx257_0)).trans hx257_0
              replace hx257_1 := (HB.out.cell (World.block_lt_of_cell? w _ hx257_1)).trans hx257_1
              replace p257 := eq_true p257
              replace q257 := eq_true q257
              go_wp2
              repeat (go_quiet (fail); try go_wp2)
              go_roundg k1
              case measure => have := HK1.out; omega
              case rel => exact ⟨(wrap64 (x8_1 + 1)), (by first | rfl | (simp; done) | (simp [*]; done)), H', ⟨by have := HK1.out; omega⟩, ⟨by (with_reducible repeat (first | refine blk_drewN ?_ _ | refine blk_drew ?_ | refine blk_alloc ?_ _)); exact BK256.out⟩, ⟨by repeat (first | (with_reducible first | exact HB.out | apply below_alloc | apply pw_below_drewN | apply below_drew1 | refine below_set ?_ GE256.out) | exact HB.out)⟩⟩
          · rw [if_neg c6] at H
            exact absurd H (by simp)
        · rw [if_neg c5] at H
          exact absurd H (by simp)
      · rw [if_neg c4] at H
        have c4b0 : decide (x8_1 < (l0.length : Int)) = false := decide_eq_false c4
        clear c4
        obtain rfl := Option.some.inj H
        go_wp2
        repeat (go_quiet (fail); try go_wp2)
        go_ret
        exact ⟨by first | rfl | (simp [errW_none, errW_some] <;> rfl) | (simp [*, errW_none, errW_some] <;> rfl), by repeat (first | (with_reducible first | exact HB.out | apply below_alloc | apply pw_below_drewN | apply below_drew1 | refine below_set ?_ GE256.out) | exact HB.out)⟩

-- NOT PRINTED: function 75 (api_Field_75)

-- NOT PRINTED: function 32 (table_Table_Find)

-- NOT PRINTED: function 34 (table_Table_Size)

-- NOT PRINTED: function 25 (bywashlaw4_alive)

-- NOT PRINTED: function 7 (bywashlaw4_TableRoom)

-- NOT PRINTED: function 8 (bywashlaw4_TableFixed)

-- NOT PRINTED: function 9 (bywashlaw4_TableFinds)

-- NOT PRINTED: function 10 (bywashlaw4_TableCosts)

-- NOT PRINTED: function 11 (bywashlaw4_TableGreat)

-- NOT PRINTED: function 33 (table_Table_Resize)

/-! ### bywashref1_Cost: function 42 -/
def bywashref1_Cost.f (a0_0 : ByteArray) (a0_1 : ByteArray) : Option (Int) := some (wrap64 ((wrap64 ((a0_0.size : Int) + (a0_1.size : Int))) + 32))
set_option maxHeartbeats 8000000 in
set_option maxRecDepth 100000 in
theorem bywashref1_Cost.calls (a0_0 : ByteArray) (a0_1 : ByteArray) (r : Int) (w : World) (h : bywashref1_Cost.f a0_0 a0_1 = some r) :
    Calls Try.prog 42 #[.agg #[.string a0_0, .string a0_1]] w fun e w' => e = .returned (.int .i64 r) ∧ Below w.heap.size w w' := by
  have hu54 := Try.underlying54
  have HB := Aside0.mk (Below.refl w.heap.size w)
  have H : (some (wrap64 ((wrap64 ((a0_0.size : Int) + (a0_1.size : Int))) + 32))) = some r := h
  clear h
  obtain rfl := Option.some.inj H
  go_enter Try.func42, Try.ntmps42
  go_wp2_with (first | ((with_reducible refine gate_dst (N := 1) rfl ?_); refine box_event ?hg (N := 1) ?hd (cs := #[.string a0_0, .string a0_1]) (t := 54) ?hr ?_; (case hd => rfl); (case hg => rfl); (case hr => first | (go_simp; done) | (go_simp; rfl)); intro gb260 hg w2 hbox hb; have n0_ := Aside0.mk (below_step (by repeat (first | (with_reducible first | exact HB.out | apply below_alloc | apply pw_below_drewN | apply below_drew1) | exact HB.out)) hb); have n1_ := Aside0.mk (hbox); have n2_ := Aside0.mk ((by rw [hg]; exact (below_size (by repeat (first | (with_reducible first | exact HB.out | apply below_alloc | apply pw_below_drewN | apply below_drew1) | exact HB.out))) : w.heap.size ≤ gb260)); have n3_ := Aside0.mk ((by rw [hg]; exact (below_size (by repeat (first | (with_reducible first | exact HB.out | apply below_alloc | apply pw_below_drewN | apply below_drew1) | exact HB.out))) : w.heap.size ≤ gb260)); clear HB; have HB := n0_; have BK260 := n1_; have GW260 := n2_; have GE260 := n3_; clear n0_ n1_ n2_ n3_; clear hb hbox hg; have hcz3_0 : w2.cell? ⟨gb260, 0, none⟩ = some (.string a0_0) := (blk_cell BK260.out 0).trans rfl; have hcz3_1 : w2.cell? ⟨gb260, 1, none⟩ = some (.string a0_1) := (blk_cell BK260.out 1).trans rfl; have hfz3_0 := blk_frozen BK260.out 0; have hfz3_1 := blk_frozen BK260.out 1))
  go_ret
  exact ⟨by first | rfl | (simp [errW_none, errW_some] <;> rfl) | (simp [*, errW_none, errW_some] <;> rfl), by repeat (first | (with_reducible first | exact HB.out | apply below_alloc | apply pw_below_drewN | apply below_drew1 | refine below_set ?_ GE260.out) | exact HB.out)⟩

/-! ### bywashref1_Sum: function 40 -/
def bywashref1_Sum.l0 : Nat → List (S54) → Int → Int → Option (Int)
  | 0, _, _, _ => none
  | k + 1, x0, x3, x4 => if x4 < (x0.length : Int) then (if 0 ≤ x4 then ((bywashref1_Cost.f ((rd_T54 x0 x4).f0) ((rd_T54 x0 x4).f1)).bind fun t262 => (bywashref1_Sum.l0 k x0 (wrap64 (x3 + t262)) (wrap64 (x4 + 1)))) else (none)) else (some x3)
def bywashref1_Sum.f (k : Nat) (l0 : List (S54)) : Option (Int) := bywashref1_Sum.l0 k l0 0 0
theorem bywashref1_Sum.mono_l : ∀ k, (∀ y0 y1 y2, LeO (bywashref1_Sum.l0 k y0 y1 y2) (bywashref1_Sum.l0 (k + 1) y0 y1 y2))
  | 0 => fun _ _ _ r h => by simp [bywashref1_Sum.l0] at h
  | k + 1 => by
    have ih0 := bywashref1_Sum.mono_l k
    · intro y0 y1 y2
      unfold bywashref1_Sum.l0
      repeat' first
      | (with_reducible exact ih0 _ _ _)
      | (with_reducible exact LeO.refl _)
      | (with_reducible exact LeO.none _)
      | (with_reducible refine LeO.ite ?_ ?_)
      | (with_reducible refine LeO.bind ?_ (fun _ => ?_))
      | exact ih0 _ _ _
      | exact LeO.none _
      | refine LeO.ite ?_ ?_
      | refine LeO.bind ?_ (fun _ => ?_)
theorem bywashref1_Sum.mono : ∀ a0 k, LeO (bywashref1_Sum.f k a0) (bywashref1_Sum.f (k + 1) a0) := by
  intro a0 k
  have ih0 := bywashref1_Sum.mono_l k
  unfold bywashref1_Sum.f
  repeat' first
      | (with_reducible exact ih0 _ _ _)
      | (with_reducible exact LeO.refl _)
      | (with_reducible exact LeO.none _)
      | (with_reducible refine LeO.ite ?_ ?_)
      | (with_reducible refine LeO.bind ?_ (fun _ => ?_))
      | exact ih0 _ _ _
      | exact LeO.none _
      | refine LeO.ite ?_ ?_
      | refine LeO.bind ?_ (fun _ => ?_)
set_option maxHeartbeats 8000000 in
set_option maxRecDepth 100000 in
theorem bywashref1_Sum.calls (k : Nat) (A0 : Option Addr) (c0 : Nat) (l0 : List (S54)) (r : Int) (w : World) (hr0 : Kd.C k54 w A0 l0.length l0) (hc0 : l0.length ≤ c0) (h : bywashref1_Sum.f k l0 = some r) :
    Calls Try.prog 40 #[.slice A0 l0.length c0] w fun e w' => e = .returned (.int .i64 r) ∧ Below w.heap.size w w' := by
  have hu54 := Try.underlying54
  have HR0 := Aside0.mk hr0
  have HC0 := Aside0.mk hc0
  clear hr0 hc0
  have HB := Aside0.mk (Below.refl w.heap.size w)
  have H : (bywashref1_Sum.l0 k l0 0 0) = some r := h
  clear h
  have H' := Aside0.mk H
  clear H
  go_enter Try.func40, Try.ntmps40
  go_wp2
  go_loopg [3, 4] k (fun kq v3 v4 w' => ∃ (x3_1 : Int) (x4_1 : Int), v3 = .int .i64 x3_1 ∧ v4 = .int .i64 x4_1 ∧ Aside0 (bywashref1_Sum.l0 kq l0 x3_1 x4_1 = some r) ∧ Aside0 (kq ≤ k) ∧ Aside0 (Below w.heap.size w w'))
  case atStart => exact ⟨(0), (0), (by first | rfl | (simp; done) | (simp [*]; done)), (by first | rfl | (simp; done) | (simp [*]; done)), H', ⟨Nat.le_refl _⟩, ⟨by repeat (first | (with_reducible first | exact HB.out | apply below_alloc | apply pw_below_drewN | apply below_drew1) | exact HB.out)⟩⟩
  case round =>
    clear H'
    obtain ⟨x3_1, x4_1, rfl, rfl, HA, HK1, HB⟩ := hrel
    cases gk with
    | zero => exact absurd HA.out (by simp [bywashref1_Sum.l0])
    | succ k1 =>
      have H := HA.out
      clear HA
      simp only [bywashref1_Sum.l0] at H
      by_cases c2 : x4_1 < (l0.length : Int)
      · rw [if_pos c2] at H
        have c2b0 : decide (x4_1 < (l0.length : Int)) = true := decide_eq_true c2
        clear c2
        by_cases c3 : 0 ≤ x4_1
        · rw [if_pos c3] at H
          have c3b0 : decide (0 ≤ x4_1) = true := decide_eq_true c3
          clear c3
          replace H := Option.bind_eq_some_iff.mp H
          obtain ⟨t262, A40, H⟩ := H
          replace H : (bywashref1_Sum.l0 k1 l0 (wrap64 (x3_1 + t262)) (wrap64 (x4_1 + 1))) = some r := H
          have A4 := Aside0.mk A40
          clear A40
          have H' := Aside0.mk H
          clear H
          have p261 : 0 ≤ (x4_1 : Int) := of_decide_eq_true (by first | (with_reducible assumption) | assumption)
          have q261 : x4_1 < (l0.length : Int) := of_decide_eq_true (by first | (with_reducible assumption) | assumption)
          obtain ⟨ad261, e261, hx261_0, hx261_1⟩ := at_T54 HR0.out x4_1 p261 q261
          cases e261
          replace hx261_0 := (HB.out.cell (World.block_lt_of_cell? w _ hx261_0)).trans hx261_0
          replace hx261_1 := (HB.out.cell (World.block_lt_of_cell? w _ hx261_1)).trans hx261_1
          replace p261 := eq_true p261
          replace q261 := eq_true q261
          go_wp2_with (first | ((with_reducible refine gate_callee (f := 42) rfl ?_); refine goesL_ (some 16) rfl rfl Try.func42 (by kernel_rfl) rfl #[.agg #[.string ((rd_T54 l0 x4_1).f0), .string ((rd_T54 l0 x4_1).f1)]] rfl (by (try simp only [List.map_toArray, List.map_cons, List.map_nil]); first | done | rfl | (simp only [List.length_drop, List.length_take]; rfl)) ?_; (with_reducible refine (bywashref1_Cost.calls ((rd_T54 l0 x4_1).f0) ((rd_T54 l0 x4_1).f1) t262 _ A4.out).mono ?_); rintro e w5 ⟨rfl, hb⟩; refine ⟨_, rfl, ?_⟩; have n0_ := Aside0.mk (below_step (by repeat (first | (with_reducible first | exact HB.out | apply below_alloc | apply pw_below_drewN | apply below_drew1) | exact HB.out)) hb); clear HB; have HB := n0_; clear n0_; (try clear hb); (try clear hb2); (try clear hk); (try clear hi)))
          go_roundg k1
          case measure => have := HK1.out; omega
          case rel => exact ⟨(wrap64 (x3_1 + t262)), (wrap64 (x4_1 + 1)), (by first | rfl | (simp; done) | (simp [*]; done)), (by first | rfl | (simp; done) | (simp [*]; done)), H', ⟨by have := HK1.out; omega⟩, ⟨by repeat (first | (with_reducible first | exact HB.out | apply below_alloc | apply pw_below_drewN | apply below_drew1) | exact HB.out)⟩⟩
        · rw [if_neg c3] at H
          exact absurd H (by simp)
      · rw [if_neg c2] at H
        have c2b0 : decide (x4_1 < (l0.length : Int)) = false := decide_eq_false c2
        clear c2
        obtain rfl := Option.some.inj H
        go_wp2
        go_ret
        exact ⟨by first | rfl | (simp [errW_none, errW_some] <;> rfl) | (simp [*, errW_none, errW_some] <;> rfl), by repeat (first | (with_reducible first | exact HB.out | apply below_alloc | apply pw_below_drewN | apply below_drew1) | exact HB.out)⟩

-- NOT PRINTED: function 77 (bywashref1_Table_shrink)

-- NOT PRINTED: function 35 (bywashref1_Table_Add)

-- NOT PRINTED: function 36 (bywashref1_Table_Resize)

/-! ### bywashref1_fixed: function 78 -/
def bywashref1_fixed.f  : Option ((List (S54))) := some (([(⟨(⟨#[58, 97, 117, 116, 104, 111, 114, 105, 116, 121]⟩ : ByteArray), (⟨#[]⟩ : ByteArray)⟩ : S54), (⟨(⟨#[58, 109, 101, 116, 104, 111, 100]⟩ : ByteArray), (⟨#[71, 69, 84]⟩ : ByteArray)⟩ : S54), (⟨(⟨#[58, 109, 101, 116, 104, 111, 100]⟩ : ByteArray), (⟨#[80, 79, 83, 84]⟩ : ByteArray)⟩ : S54), (⟨(⟨#[58, 112, 97, 116, 104]⟩ : ByteArray), (⟨#[47]⟩ : ByteArray)⟩ : S54), (⟨(⟨#[58, 115, 99, 104, 101, 109, 101]⟩ : ByteArray), (⟨#[104, 116, 116, 112]⟩ : ByteArray)⟩ : S54), (⟨(⟨#[58, 115, 99, 104, 101, 109, 101]⟩ : ByteArray), (⟨#[104, 116, 116, 112, 115]⟩ : ByteArray)⟩ : S54), (⟨(⟨#[58, 115, 116, 97, 116, 117, 115]⟩ : ByteArray), (⟨#[50, 48, 48]⟩ : ByteArray)⟩ : S54), (⟨(⟨#[58, 115, 116, 97, 116, 117, 115]⟩ : ByteArray), (⟨#[50, 48, 52]⟩ : ByteArray)⟩ : S54), (⟨(⟨#[58, 115, 116, 97, 116, 117, 115]⟩ : ByteArray), (⟨#[52, 48, 52]⟩ : ByteArray)⟩ : S54), (⟨(⟨#[58, 115, 116, 97, 116, 117, 115]⟩ : ByteArray), (⟨#[53, 48, 48]⟩ : ByteArray)⟩ : S54), (⟨(⟨#[97, 99, 99, 101, 112, 116]⟩ : ByteArray), (⟨#[]⟩ : ByteArray)⟩ : S54), (⟨(⟨#[99, 111, 110, 116, 101, 110, 116, 45, 108, 101, 110, 103, 116, 104]⟩ : ByteArray), (⟨#[]⟩ : ByteArray)⟩ : S54), (⟨(⟨#[99, 111, 110, 116, 101, 110, 116, 45, 116, 121, 112, 101]⟩ : ByteArray), (⟨#[]⟩ : ByteArray)⟩ : S54), (⟨(⟨#[99, 111, 111, 107, 105, 101]⟩ : ByteArray), (⟨#[]⟩ : ByteArray)⟩ : S54), (⟨(⟨#[100, 97, 116, 101]⟩ : ByteArray), (⟨#[]⟩ : ByteArray)⟩ : S54), (⟨(⟨#[117, 115, 101, 114, 45, 97, 103, 101, 110, 116]⟩ : ByteArray), (⟨#[]⟩ : ByteArray)⟩ : S54)] : List (S54)))
set_option maxHeartbeats 8000000 in
set_option maxRecDepth 100000 in
theorem bywashref1_fixed.calls  (r : List (S54)) (w : World) (h : bywashref1_fixed.f  = some r) :
    Calls Try.prog 78 #[] w fun e w' => ∃ v0_ : Value, e = .returned (v0_) ∧ Kd.R k54 54 w' w.heap.size (fun _ => True) v0_ r ∧ Below w.heap.size w w' := by
  have hu54 := Try.underlying54
  have HB := Aside0.mk (Below.refl w.heap.size w)
  have H : (some (([(⟨(⟨#[58, 97, 117, 116, 104, 111, 114, 105, 116, 121]⟩ : ByteArray), (⟨#[]⟩ : ByteArray)⟩ : S54), (⟨(⟨#[58, 109, 101, 116, 104, 111, 100]⟩ : ByteArray), (⟨#[71, 69, 84]⟩ : ByteArray)⟩ : S54), (⟨(⟨#[58, 109, 101, 116, 104, 111, 100]⟩ : ByteArray), (⟨#[80, 79, 83, 84]⟩ : ByteArray)⟩ : S54), (⟨(⟨#[58, 112, 97, 116, 104]⟩ : ByteArray), (⟨#[47]⟩ : ByteArray)⟩ : S54), (⟨(⟨#[58, 115, 99, 104, 101, 109, 101]⟩ : ByteArray), (⟨#[104, 116, 116, 112]⟩ : ByteArray)⟩ : S54), (⟨(⟨#[58, 115, 99, 104, 101, 109, 101]⟩ : ByteArray), (⟨#[104, 116, 116, 112, 115]⟩ : ByteArray)⟩ : S54), (⟨(⟨#[58, 115, 116, 97, 116, 117, 115]⟩ : ByteArray), (⟨#[50, 48, 48]⟩ : ByteArray)⟩ : S54), (⟨(⟨#[58, 115, 116, 97, 116, 117, 115]⟩ : ByteArray), (⟨#[50, 48, 52]⟩ : ByteArray)⟩ : S54), (⟨(⟨#[58, 115, 116, 97, 116, 117, 115]⟩ : ByteArray), (⟨#[52, 48, 52]⟩ : ByteArray)⟩ : S54), (⟨(⟨#[58, 115, 116, 97, 116, 117, 115]⟩ : ByteArray), (⟨#[53, 48, 48]⟩ : ByteArray)⟩ : S54), (⟨(⟨#[97, 99, 99, 101, 112, 116]⟩ : ByteArray), (⟨#[]⟩ : ByteArray)⟩ : S54), (⟨(⟨#[99, 111, 110, 116, 101, 110, 116, 45, 108, 101, 110, 103, 116, 104]⟩ : ByteArray), (⟨#[]⟩ : ByteArray)⟩ : S54), (⟨(⟨#[99, 111, 110, 116, 101, 110, 116, 45, 116, 121, 112, 101]⟩ : ByteArray), (⟨#[]⟩ : ByteArray)⟩ : S54), (⟨(⟨#[99, 111, 111, 107, 105, 101]⟩ : ByteArray), (⟨#[]⟩ : ByteArray)⟩ : S54), (⟨(⟨#[100, 97, 116, 101]⟩ : ByteArray), (⟨#[]⟩ : ByteArray)⟩ : S54), (⟨(⟨#[117, 115, 101, 114, 45, 97, 103, 101, 110, 116]⟩ : ByteArray), (⟨#[]⟩ : ByteArray)⟩ : S54)] : List (S54)))) = some r := h
  clear h
  obtain ⟨y266, hy266⟩ : ∃ y_ : List (S54), y_ = (([(⟨(⟨#[58, 97, 117, 116, 104, 111, 114, 105, 116, 121]⟩ : ByteArray), (⟨#[]⟩ : ByteArray)⟩ : S54), (⟨(⟨#[58, 109, 101, 116, 104, 111, 100]⟩ : ByteArray), (⟨#[71, 69, 84]⟩ : ByteArray)⟩ : S54), (⟨(⟨#[58, 109, 101, 116, 104, 111, 100]⟩ : ByteArray), (⟨#[80, 79, 83, 84]⟩ : ByteArray)⟩ : S54), (⟨(⟨#[58, 112, 97, 116, 104]⟩ : ByteArray), (⟨#[47]⟩ : ByteArray)⟩ : S54), (⟨(⟨#[58, 115, 99, 104, 101, 109, 101]⟩ : ByteArray), (⟨#[104, 116, 116, 112]⟩ : ByteArray)⟩ : S54), (⟨(⟨#[58, 115, 99, 104, 101, 109, 101]⟩ : ByteArray), (⟨#[104, 116, 116, 112, 115]⟩ : ByteArray)⟩ : S54), (⟨(⟨#[58, 115, 116, 97, 116, 117, 115]⟩ : ByteArray), (⟨#[50, 48, 48]⟩ : ByteArray)⟩ : S54), (⟨(⟨#[58, 115, 116, 97, 116, 117, 115]⟩ : ByteArray), (⟨#[50, 48, 52]⟩ : ByteArray)⟩ : S54), (⟨(⟨#[58, 115, 116, 97, 116, 117, 115]⟩ : ByteArray), (⟨#[52, 48, 52]⟩ : ByteArray)⟩ : S54), (⟨(⟨#[58, 115, 116, 97, 116, 117, 115]⟩ : ByteArray), (⟨#[53, 48, 48]⟩ : ByteArray)⟩ : S54), (⟨(⟨#[97, 99, 99, 101, 112, 116]⟩ : ByteArray), (⟨#[]⟩ : ByteArray)⟩ : S54), (⟨(⟨#[99, 111, 110, 116, 101, 110, 116, 45, 108, 101, 110, 103, 116, 104]⟩ : ByteArray), (⟨#[]⟩ : ByteArray)⟩ : S54), (⟨(⟨#[99, 111, 110, 116, 101, 110, 116, 45, 116, 121, 112, 101]⟩ : ByteArray), (⟨#[]⟩ : ByteArray)⟩ : S54), (⟨(⟨#[99, 111, 111, 107, 105, 101]⟩ : ByteArray), (⟨#[]⟩ : ByteArray)⟩ : S54), (⟨(⟨#[100, 97, 116, 101]⟩ : ByteArray), (⟨#[]⟩ : ByteArray)⟩ : S54), (⟨(⟨#[117, 115, 101, 114, 45, 97, 103, 101, 110, 116]⟩ : ByteArray), (⟨#[]⟩ : ByteArray)⟩ : S54)] : List (S54))) := ⟨_, rfl⟩
  replace H : (some y266) = some r := by first | (rw [hy266]; with_reducible exact H) | (have H2_ := (Option.bind_some _ _).symm.trans H; rw [hy266]; with_reducible exact H2_) | (have H2_ := (Option.bind_some _ _).symm.trans H; with_reducible exact H2_) | with_reducible exact H | (rw [hy266]; exact H) | exact H
  have Ny266 := Aside0.mk hy266
  clear hy266
  obtain rfl := Option.some.inj H
  go_enter Try.func78, Try.ntmps78
  go_wp2_with (first | ((with_reducible refine gate_dst (N := 17) rfl ?_); refine Kd.R_lit k54 _ 54 ?hg (N := 17) ?hd (xs := ([(⟨(⟨#[58, 97, 117, 116, 104, 111, 114, 105, 116, 121]⟩ : ByteArray), (⟨#[]⟩ : ByteArray)⟩ : S54), (⟨(⟨#[58, 109, 101, 116, 104, 111, 100]⟩ : ByteArray), (⟨#[71, 69, 84]⟩ : ByteArray)⟩ : S54), (⟨(⟨#[58, 109, 101, 116, 104, 111, 100]⟩ : ByteArray), (⟨#[80, 79, 83, 84]⟩ : ByteArray)⟩ : S54), (⟨(⟨#[58, 112, 97, 116, 104]⟩ : ByteArray), (⟨#[47]⟩ : ByteArray)⟩ : S54), (⟨(⟨#[58, 115, 99, 104, 101, 109, 101]⟩ : ByteArray), (⟨#[104, 116, 116, 112]⟩ : ByteArray)⟩ : S54), (⟨(⟨#[58, 115, 99, 104, 101, 109, 101]⟩ : ByteArray), (⟨#[104, 116, 116, 112, 115]⟩ : ByteArray)⟩ : S54), (⟨(⟨#[58, 115, 116, 97, 116, 117, 115]⟩ : ByteArray), (⟨#[50, 48, 48]⟩ : ByteArray)⟩ : S54), (⟨(⟨#[58, 115, 116, 97, 116, 117, 115]⟩ : ByteArray), (⟨#[50, 48, 52]⟩ : ByteArray)⟩ : S54), (⟨(⟨#[58, 115, 116, 97, 116, 117, 115]⟩ : ByteArray), (⟨#[52, 48, 52]⟩ : ByteArray)⟩ : S54), (⟨(⟨#[58, 115, 116, 97, 116, 117, 115]⟩ : ByteArray), (⟨#[53, 48, 48]⟩ : ByteArray)⟩ : S54), (⟨(⟨#[97, 99, 99, 101, 112, 116]⟩ : ByteArray), (⟨#[]⟩ : ByteArray)⟩ : S54), (⟨(⟨#[99, 111, 110, 116, 101, 110, 116, 45, 108, 101, 110, 103, 116, 104]⟩ : ByteArray), (⟨#[]⟩ : ByteArray)⟩ : S54), (⟨(⟨#[99, 111, 110, 116, 101, 110, 116, 45, 116, 121, 112, 101]⟩ : ByteArray), (⟨#[]⟩ : ByteArray)⟩ : S54), (⟨(⟨#[99, 111, 111, 107, 105, 101]⟩ : ByteArray), (⟨#[]⟩ : ByteArray)⟩ : S54), (⟨(⟨#[100, 97, 116, 101]⟩ : ByteArray), (⟨#[]⟩ : ByteArray)⟩ : S54), (⟨(⟨#[117, 115, 101, 114, 45, 97, 103, 101, 110, 116]⟩ : ByteArray), (⟨#[]⟩ : ByteArray)⟩ : S54)] : List (S54))) (inner := [.string (⟨#[58, 97, 117, 116, 104, 111, 114, 105, 116, 121]⟩ : ByteArray), .string (⟨#[]⟩ : ByteArray), .string (⟨#[58, 109, 101, 116, 104, 111, 100]⟩ : ByteArray), .string (⟨#[71, 69, 84]⟩ : ByteArray), .string (⟨#[58, 109, 101, 116, 104, 111, 100]⟩ : ByteArray), .string (⟨#[80, 79, 83, 84]⟩ : ByteArray), .string (⟨#[58, 112, 97, 116, 104]⟩ : ByteArray), .string (⟨#[47]⟩ : ByteArray), .string (⟨#[58, 115, 99, 104, 101, 109, 101]⟩ : ByteArray), .string (⟨#[104, 116, 116, 112]⟩ : ByteArray), .string (⟨#[58, 115, 99, 104, 101, 109, 101]⟩ : ByteArray), .string (⟨#[104, 116, 116, 112, 115]⟩ : ByteArray), .string (⟨#[58, 115, 116, 97, 116, 117, 115]⟩ : ByteArray), .string (⟨#[50, 48, 48]⟩ : ByteArray), .string (⟨#[58, 115, 116, 97, 116, 117, 115]⟩ : ByteArray), .string (⟨#[50, 48, 52]⟩ : ByteArray), .string (⟨#[58, 115, 116, 97, 116, 117, 115]⟩ : ByteArray), .string (⟨#[52, 48, 52]⟩ : ByteArray), .string (⟨#[58, 115, 116, 97, 116, 117, 115]⟩ : ByteArray), .string (⟨#[53, 48, 48]⟩ : ByteArray), .string (⟨#[97, 99, 99, 101, 112, 116]⟩ : ByteArray), .string (⟨#[]⟩ : ByteArray), .string (⟨#[99, 111, 110, 116, 101, 110, 116, 45, 108, 101, 110, 103, 116, 104]⟩ : ByteArray), .string (⟨#[]⟩ : ByteArray), .string (⟨#[99, 111, 110, 116, 101, 110, 116, 45, 116, 121, 112, 101]⟩ : ByteArray), .string (⟨#[]⟩ : ByteArray), .string (⟨#[99, 111, 111, 107, 105, 101]⟩ : ByteArray), .string (⟨#[]⟩ : ByteArray), .string (⟨#[100, 97, 116, 101]⟩ : ByteArray), .string (⟨#[]⟩ : ByteArray), .string (⟨#[117, 115, 101, 114, 45, 97, 103, 101, 110, 116]⟩ : ByteArray), .string (⟨#[]⟩ : ByteArray)]) (ok := fun _ => True) (okp := fun _ => True) ?hr ?hp (fun _ hk => hk) trivial (Below.refl _ _) (Nat.le_refl _) (by simp) ?_; (case hd => rfl); (case hg => rfl); (case hr => first | (go_simp; done) | (go_simp; rfl)); (case hp => exact (Reps.c2 (show Kd.M k54 _ _ _ (⟨(⟨#[58, 97, 117, 116, 104, 111, 114, 105, 116, 121]⟩ : ByteArray), (⟨#[]⟩ : ByteArray)⟩ : S54) [.string (⟨#[58, 97, 117, 116, 104, 111, 114, 105, 116, 121]⟩ : ByteArray), .string (⟨#[]⟩ : ByteArray)] from (k54_mkM _ _ _ (⟨(⟨#[58, 97, 117, 116, 104, 111, 114, 105, 116, 121]⟩ : ByteArray), (⟨#[]⟩ : ByteArray)⟩ : S54) )) (Reps.c2 (show Kd.M k54 _ _ _ (⟨(⟨#[58, 109, 101, 116, 104, 111, 100]⟩ : ByteArray), (⟨#[71, 69, 84]⟩ : ByteArray)⟩ : S54) [.string (⟨#[58, 109, 101, 116, 104, 111, 100]⟩ : ByteArray), .string (⟨#[71, 69, 84]⟩ : ByteArray)] from (k54_mkM _ _ _ (⟨(⟨#[58, 109, 101, 116, 104, 111, 100]⟩ : ByteArray), (⟨#[71, 69, 84]⟩ : ByteArray)⟩ : S54) )) (Reps.c2 (show Kd.M k54 _ _ _ (⟨(⟨#[58, 109, 101, 116, 104, 111, 100]⟩ : ByteArray), (⟨#[80, 79, 83, 84]⟩ : ByteArray)⟩ : S54) [.string (⟨#[58, 109, 101, 116, 104, 111, 100]⟩ : ByteArray), .string (⟨#[80, 79, 83, 84]⟩ : ByteArray)] from (k54_mkM _ _ _ (⟨(⟨#[58, 109, 101, 116, 104, 111, 100]⟩ : ByteArray), (⟨#[80, 79, 83, 84]⟩ : ByteArray)⟩ : S54) )) (Reps.c2 (show Kd.M k54 _ _ _ (⟨(⟨#[58, 112, 97, 116, 104]⟩ : ByteArray), (⟨#[47]⟩ : ByteArray)⟩ : S54) [.string (⟨#[58, 112, 97, 116, 104]⟩ : ByteArray), .string (⟨#[47]⟩ : ByteArray)] from (k54_mkM _ _ _ (⟨(⟨#[58, 112, 97, 116, 104]⟩ : ByteArray), (⟨#[47]⟩ : ByteArray)⟩ : S54) )) (Reps.c2 (show Kd.M k54 _ _ _ (⟨(⟨#[58, 115, 99, 104, 101, 109, 101]⟩ : ByteArray), (⟨#[104, 116, 116, 112]⟩ : ByteArray)⟩ : S54) [.string (⟨#[58, 115, 99, 104, 101, 109, 101]⟩ : ByteArray), .string (⟨#[104, 116, 116, 112]⟩ : ByteArray)] from (k54_mkM _ _ _ (⟨(⟨#[58, 115, 99, 104, 101, 109, 101]⟩ : ByteArray), (⟨#[104, 116, 116, 112]⟩ : ByteArray)⟩ : S54) )) (Reps.c2 (show Kd.M k54 _ _ _ (⟨(⟨#[58, 115, 99, 104, 101, 109, 101]⟩ : ByteArray), (⟨#[104, 116, 116, 112, 115]⟩ : ByteArray)⟩ : S54) [.string (⟨#[58, 115, 99, 104, 101, 109, 101]⟩ : ByteArray), .string (⟨#[104, 116, 116, 112, 115]⟩ : ByteArray)] from (k54_mkM _ _ _ (⟨(⟨#[58, 115, 99, 104, 101, 109, 101]⟩ : ByteArray), (⟨#[104, 116, 116, 112, 115]⟩ : ByteArray)⟩ : S54) )) (Reps.c2 (show Kd.M k54 _ _ _ (⟨(⟨#[58, 115, 116, 97, 116, 117, 115]⟩ : ByteArray), (⟨#[50, 48, 48]⟩ : ByteArray)⟩ : S54) [.string (⟨#[58, 115, 116, 97, 116, 117, 115]⟩ : ByteArray), .string (⟨#[50, 48, 48]⟩ : ByteArray)] from (k54_mkM _ _ _ (⟨(⟨#[58, 115, 116, 97, 116, 117, 115]⟩ : ByteArray), (⟨#[50, 48, 48]⟩ : ByteArray)⟩ : S54) )) (Reps.c2 (show Kd.M k54 _ _ _ (⟨(⟨#[58, 115, 116, 97, 116, 117, 115]⟩ : ByteArray), (⟨#[50, 48, 52]⟩ : ByteArray)⟩ : S54) [.string (⟨#[58, 115, 116, 97, 116, 117, 115]⟩ : ByteArray), .string (⟨#[50, 48, 52]⟩ : ByteArray)] from (k54_mkM _ _ _ (⟨(⟨#[58, 115, 116, 97, 116, 117, 115]⟩ : ByteArray), (⟨#[50, 48, 52]⟩ : ByteArray)⟩ : S54) )) (Reps.c2 (show Kd.M k54 _ _ _ (⟨(⟨#[58, 115, 116, 97, 116, 117, 115]⟩ : ByteArray), (⟨#[52, 48, 52]⟩ : ByteArray)⟩ : S54) [.string (⟨#[58, 115, 116, 97, 116, 117, 115]⟩ : ByteArray), .string (⟨#[52, 48, 52]⟩ : ByteArray)] from (k54_mkM _ _ _ (⟨(⟨#[58, 115, 116, 97, 116, 117, 115]⟩ : ByteArray), (⟨#[52, 48, 52]⟩ : ByteArray)⟩ : S54) )) (Reps.c2 (show Kd.M k54 _ _ _ (⟨(⟨#[58, 115, 116, 97, 116, 117, 115]⟩ : ByteArray), (⟨#[53, 48, 48]⟩ : ByteArray)⟩ : S54) [.string (⟨#[58, 115, 116, 97, 116, 117, 115]⟩ : ByteArray), .string (⟨#[53, 48, 48]⟩ : ByteArray)] from (k54_mkM _ _ _ (⟨(⟨#[58, 115, 116, 97, 116, 117, 115]⟩ : ByteArray), (⟨#[53, 48, 48]⟩ : ByteArray)⟩ : S54) )) (Reps.c2 (show Kd.M k54 _ _ _ (⟨(⟨#[97, 99, 99, 101, 112, 116]⟩ : ByteArray), (⟨#[]⟩ : ByteArray)⟩ : S54) [.string (⟨#[97, 99, 99, 101, 112, 116]⟩ : ByteArray), .string (⟨#[]⟩ : ByteArray)] from (k54_mkM _ _ _ (⟨(⟨#[97, 99, 99, 101, 112, 116]⟩ : ByteArray), (⟨#[]⟩ : ByteArray)⟩ : S54) )) (Reps.c2 (show Kd.M k54 _ _ _ (⟨(⟨#[99, 111, 110, 116, 101, 110, 116, 45, 108, 101, 110, 103, 116, 104]⟩ : ByteArray), (⟨#[]⟩ : ByteArray)⟩ : S54) [.string (⟨#[99, 111, 110, 116, 101, 110, 116, 45, 108, 101, 110, 103, 116, 104]⟩ : ByteArray), .string (⟨#[]⟩ : ByteArray)] from (k54_mkM _ _ _ (⟨(⟨#[99, 111, 110, 116, 101, 110, 116, 45, 108, 101, 110, 103, 116, 104]⟩ : ByteArray), (⟨#[]⟩ : ByteArray)⟩ : S54) )) (Reps.c2 (show Kd.M k54 _ _ _ (⟨(⟨#[99, 111, 110, 116, 101, 110, 116, 45, 116, 121, 112, 101]⟩ : ByteArray), (⟨#[]⟩ : ByteArray)⟩ : S54) [.string (⟨#[99, 111, 110, 116, 101, 110, 116, 45, 116, 121, 112, 101]⟩ : ByteArray), .string (⟨#[]⟩ : ByteArray)] from (k54_mkM _ _ _ (⟨(⟨#[99, 111, 110, 116, 101, 110, 116, 45, 116, 121, 112, 101]⟩ : ByteArray), (⟨#[]⟩ : ByteArray)⟩ : S54) )) (Reps.c2 (show Kd.M k54 _ _ _ (⟨(⟨#[99, 111, 111, 107, 105, 101]⟩ : ByteArray), (⟨#[]⟩ : ByteArray)⟩ : S54) [.string (⟨#[99, 111, 111, 107, 105, 101]⟩ : ByteArray), .string (⟨#[]⟩ : ByteArray)] from (k54_mkM _ _ _ (⟨(⟨#[99, 111, 111, 107, 105, 101]⟩ : ByteArray), (⟨#[]⟩ : ByteArray)⟩ : S54) )) (Reps.c2 (show Kd.M k54 _ _ _ (⟨(⟨#[100, 97, 116, 101]⟩ : ByteArray), (⟨#[]⟩ : ByteArray)⟩ : S54) [.string (⟨#[100, 97, 116, 101]⟩ : ByteArray), .string (⟨#[]⟩ : ByteArray)] from (k54_mkM _ _ _ (⟨(⟨#[100, 97, 116, 101]⟩ : ByteArray), (⟨#[]⟩ : ByteArray)⟩ : S54) )) (Reps.c2 (show Kd.M k54 _ _ _ (⟨(⟨#[117, 115, 101, 114, 45, 97, 103, 101, 110, 116]⟩ : ByteArray), (⟨#[]⟩ : ByteArray)⟩ : S54) [.string (⟨#[117, 115, 101, 114, 45, 97, 103, 101, 110, 116]⟩ : ByteArray), .string (⟨#[]⟩ : ByteArray)] from (k54_mkM _ _ _ (⟨(⟨#[117, 115, 101, 114, 45, 97, 103, 101, 110, 116]⟩ : ByteArray), (⟨#[]⟩ : ByteArray)⟩ : S54) )) (Reps.none _ _)))))))))))))))))); intro v267 w1 ho2 hb hg_ hnew_; clear hg_ hnew_; (first | rw [← Ny266.out] at ho2 | (simp only [Int.reduceToNat] at ho2; rw [← Ny266.out] at ho2)); have n0_ := Aside0.mk (Kd.R_lower ho2 (below_size (by repeat (first | (with_reducible first | exact HB.out | apply below_alloc | apply pw_below_drewN | apply below_drew1) | exact HB.out)))); have n1_ := Aside0.mk (below_step (by repeat (first | (with_reducible first | exact HB.out | apply below_alloc | apply pw_below_drewN | apply below_drew1) | exact HB.out)) hb); clear HB; have HO268 := n0_; have HB := n1_; clear n0_ n1_; clear hb ho2))
  go_ret
  exact ⟨_, by first | rfl | (simp [errW_none, errW_some] <;> rfl) | (simp [*, errW_none, errW_some] <;> rfl), by (with_reducible repeat (first | apply Kd.R_alloc | apply Kd.R_drewN | apply Kd.R_drew)); exact HO268.out, by repeat (first | (with_reducible first | exact HB.out | apply below_alloc | apply pw_below_drewN | apply below_drew1) | exact HB.out)⟩

-- NOT PRINTED: function 37 (bywashref1_Table_At)

-- NOT PRINTED: function 38 (bywashref1_Table_Find)

-- NOT PRINTED: function 79 (bywashbook_copyFields)

-- NOT PRINTED: function 39 (bywashbook_Book_Fields)

-- NOT PRINTED: function 12 (bywashlaw4_TablePlays)

-- NOT PRINTED: function 13 (bywashlaw4_TableShrinks)

end Go.Proofs.Ytohphkdemonlkaa.XQt
