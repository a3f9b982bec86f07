/- MessageEarly. -/
import Derived.Test.YtififgiicpdndaaDoorMsgA
namespace Go.Proofs.YtififgiicpdndaaDoor.Fw
open Go.RowKit Go.Proofs.YtififgiicpdndaaDoor.XMi Go.Proofs.YtififgiicpdndaaDoorW.PrintWords Go.Proofs.YtififgiicpdndaaDoorW.PrintLast Go.Proofs.YtififgiicpdndaaDoorW.PrintMore Go.Proofs.YtififgiicpdndaaDoor.Ms Go.Proofs.YtififgiicpdndaaDoor.Ob
def new0 : MS := newP ⟨#[71, 69, 84]⟩
def al103 : List S30 := [⟨colStatus, ⟨#[49, 48, 51]⟩⟩]
def brk0 : MS := { new0 with broken := true }
theorem ea_more : headP new0 false al103 = (0, new0) := by kernel_rfl
theorem ea_end : headP new0 true al103 = (11, brk0) := by kernel_rfl
theorem ea_over : headP brk0 true al200 = (8, brk0) := by kernel_rfl
theorem ea_data : dataP new0 0 true = (11, brk0) := by kernel_rfl
theorem ea_last : headP new0 true al200 = (0, alS) := by kernel_rfl
theorem Rd.other {w w' : World} {g k : Nat} {m : ByteArray} (h : Rd w g (newP m) none 0 none 0) (hs : Stay (fun b => b = k) w w') (hg : g ≠ k) : Rd w' g (newP m) none 0 none 0 := ⟨(hs.block g (blk_lt h.hp) hg).trans h.hp, Row.nil _ _, Row.nil _ _⟩
theorem stay_b {w w1 w' : World} {g : Nat} (hs : Stay (fun k => k = g) w1 w') (hb : Below w.heap.size w w1) (hg : w.heap.size ≤ g) : Below w.heap.size w w' := hs.below hb (fun _ hk => hk ▸ hg)
set_option maxHeartbeats 1600000 in
set_option maxRecDepth 20000 in
theorem early_calls (n : Int) (en : Bool) (w : World) : Calls Tryd.prog 7 #[.int .i64 n, .bool en] w fun e w' => e = .returned (.bool true) ∧ Below w.heap.size w w' := by
  have HB := Aside0.mk (Below.refl w.heap.size w)
  by_cases hn : n < 0
  · have e1 : decide (n < 0) = true := decide_eq_true hn
    clear hn
    go_enter Tryd.func7, Tryd.ntmps7
    go_wp2_with (first
      | (go_at_call 10; refine (alive_c _).mono ?_; rintro e w1 ⟨rfl, hb⟩; have HB2 := Aside0.mk (below_step HB.out hb); clear hb))
    go_ret
    exact ⟨rfl, HB2.out⟩
  have e1 : decide (n < 0) = false := decide_eq_false hn
  by_cases hg : n > 10
  · have e2 : decide (n > 10) = true := decide_eq_true hg
    clear hn hg
    go_enter Tryd.func7, Tryd.ntmps7
    go_wp2_with (first
      | (go_at_call 10; refine (alive_c _).mono ?_; rintro e w1 ⟨rfl, hb⟩; have HB2 := Aside0.mk (below_step HB.out hb); clear hb))
    go_ret
    exact ⟨rfl, HB2.out⟩
  have e2 : decide (n > 10) = false := decide_eq_false hg
  obtain ⟨m, rfl⟩ : ∃ m : Nat, n = (m : Int) := ⟨n.toNat, by omega⟩
  have HM : Aside0 (m ≤ 10) := ⟨by omega⟩
  clear hn hg
  go_enter Tryd.func7, Tryd.ntmps7
  go_wp2_with (first
    | (go_at_call 10; refine (alive_c _).mono ?_; rintro e w1 ⟨rfl, hb⟩; have HB1 := Aside0.mk (below_step HB.out hb); clear hb HB)
    | (go_at_call 12; refine (new_c ⟨#[71, 69, 84]⟩ _).mono ?_; rintro e w2 ⟨rfl, hr, hb⟩; have hg1 := HB1.out.size; have HR2 := Aside0.mk hr; have HB2 := Aside0.mk (below_step HB1.out hb); clear hr hb HB1))
  generalize w1.heap.size = g at HR2 hg1 ⊢
  have HG : Aside0 (w.heap.size ≤ g) := ⟨hg1⟩
  clear e1 e2 hg1
  go_loopg [6] (m + 1) (fun kq v6 w' => ∃ (j : Nat) (Af At : Option Addr) (cf ct : Nat), v6 = .int .i64 j ∧ Aside0 (j + kq = m + 1 ∧ 1 ≤ kq) ∧ Aside0 (Rd w' g new0 Af cf At ct) ∧ Aside0 (Below w.heap.size w w'))
  case atStart => exact ⟨0, none, none, 0, 0, rfl, ⟨by omega, by omega⟩, HR2, HB2⟩
  case round =>
    obtain ⟨j, Af, At, cf, ct, rfl, HJ, HR, HW⟩ := hrel
    by_cases hj : j < m
    · have q : decide ((j : Int) < (m : Int)) = true := decide_eq_true (by omega)
      have q2 : decide (j < m) = true := decide_eq_true hj
      have hw : wrap64 ((j : Int) + 1) = ((j + 1 : Nat) : Int) := by rw [w64_in ((j : Int) + 1) (by have := HM.out; omega)]; omega
      have HV := Aside0.mk hw
      have HJ2 := Aside0.mk hj
      clear hw hj
      go_wp2_with (first
        | (go_at_call 13; refine (head_to (HR.out.below (below_alloc (Below.refl _ _) _)) ea_more (sized_lit (l := al103) (by kernel_rfl)) (lit1 wr colStatus ⟨#[49, 48, 51]⟩) (Nat.le_refl 1)).mono ?_; rintro e w3 ⟨rfl, ⟨Cf, cf3, Ct, ct3, hr⟩, hs⟩; have HR3 := Aside0.mk hr; have HB3 := Aside0.mk (stay_b hs (below_alloc HW.out _) HG.out); clear hr hs HR HW)
        | (go_at_call 21; refine (status_c HR3.out).mono ?_; rintro e w5 ⟨rfl, hb⟩; have HR4 := Aside0.mk (HR3.out.below hb); have HB4 := Aside0.mk (below_step HB3.out hb); clear hb HR3 HB3))
      go_roundg (gk - 1)
      case measure => have := HJ.out; have := HJ2.out; omega
      case rel => exact ⟨j + 1, Cf, Ct, cf3, ct3, congrArg (Value.int .i64) HV.out, ⟨by have := HJ.out; omega, by have := HJ.out; have := HJ2.out; omega⟩, HR4, HB4⟩
    · have q : decide ((j : Int) < (m : Int)) = false := decide_eq_false (by omega)
      have q2 : decide (j < m) = false := decide_eq_false hj
      clear hj
      cases en with
      | true =>
        go_wp2_with (first
          | (go_at_call 13; refine (head_to (HR.out.below (below_alloc (Below.refl _ _) _)) ea_end (sized_lit (l := al103) (by kernel_rfl)) (lit1 wr colStatus ⟨#[49, 48, 51]⟩) (Nat.le_refl 1)).mono ?_; rintro e w3 ⟨rfl, ⟨Cf, cf3, Ct, ct3, hr⟩, hs⟩; have HR3 := Aside0.mk hr; have HB3 := Aside0.mk (stay_b hs (below_alloc HW.out _) HG.out); clear hr hs HR HW)
          | (go_at_call 13; refine (head_to (HR3.out.below (below_alloc (Below.refl _ _) _)) ea_over (sized_lit (l := al200) (by kernel_rfl)) (lit1 w3 colStatus ⟨#[50, 48, 48]⟩) (Nat.le_refl 1)).mono ?_; rintro e w4 ⟨rfl, ⟨Cf4, cf4, Ct4, ct4, hr⟩, hs⟩; have HR4 := Aside0.mk hr; have HB4 := Aside0.mk (stay_b hs (below_alloc HB3.out _) HG.out); clear hr hs HR3 HB3)
          | (go_at_call 14; refine (done_c HR4.out).mono ?_; rintro e w5 ⟨rfl, hb⟩; have HB5 := Aside0.mk (below_step HB4.out hb); clear hb HR4 HB4))
        go_ret
        exact ⟨rfl, HB5.out⟩
      | false =>
        go_wp2_with (first
          | (go_at_call 12; refine (new_c ⟨#[71, 69, 84]⟩ _).mono ?_; rintro e w2 ⟨rfl, hx, hb⟩; have HL := Aside0.mk (blk_lt HR.out.hp); have HR2 := Aside0.mk (HR.out.below hb); have HX2 := Aside0.mk hx; have HY := Aside0.mk HW.out.size; have HB2 := Aside0.mk (below_step HW.out hb); clear hx hb HR HW)
          | (go_at_call 13; refine (head_to (HR2.out.below (below_alloc (Below.refl _ _) _)) ea_last (sized_lit (l := al200) (by kernel_rfl)) (lit1 w2 colStatus ⟨#[50, 48, 48]⟩) (Nat.le_refl 1)).mono ?_; rintro e w3 ⟨rfl, ⟨Cf, cf3, Ct, ct3, hr⟩, hs⟩; have HX3 := Aside0.mk ((HX2.out.below (below_alloc (Below.refl _ _) _)).other hs (Nat.ne_of_gt HL.out)); have HR3 := Aside0.mk hr; have HB3 := Aside0.mk (stay_b hs (below_alloc HB2.out _) HG.out); clear hr hs HR2 HB2 HX2)
          | (go_at_call 14; refine (done_c HR3.out).mono ?_; rintro e w5 ⟨rfl, hb⟩; have HX5 := Aside0.mk (HX3.out.below hb); have HB5 := Aside0.mk (below_step HB3.out hb); clear hb HR3 HB3 HX3)
          | (go_at_call 20; refine (data_to HX5.out ea_data (by decide)).mono ?_; rintro e w6 ⟨rfl, ⟨Df, df, Dt, dt, hr⟩, hs⟩; have HX6 := Aside0.mk hr; have HB6 := Aside0.mk (stay_b hs HB5.out HY.out); clear hr hs HB5 HX5)
          | (go_at_call 14; refine (done_c HX6.out).mono ?_; rintro e w7 ⟨rfl, hb⟩; have HB7 := Aside0.mk (below_step HB6.out hb); clear hb HX6 HB6))
        go_ret
        exact ⟨rfl, HB7.out⟩
end Go.Proofs.YtififgiicpdndaaDoor.Fw
