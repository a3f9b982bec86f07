/- MessageBroken. -/
import Derived.Test.YtififgiicpdndaaDoorMsgO
namespace Go.Proofs.YtififgiicpdndaaDoor.Fw
open Go.RowKit Go.Proofs.YtififgiicpdndaaDoor.XMi Go.Proofs.YtififgiicpdndaaDoorW.PrintWords Go.Proofs.YtififgiicpdndaaDoorW.PrintLast Go.Proofs.YtififgiicpdndaaDoorW.PrintMore Go.Proofs.YtififgiicpdndaaDoor.Ms Go.Proofs.YtififgiicpdndaaDoor.Ob
/-- What comes of an operation that is no error: how many bytes have come. -/
theorem told_err_is {s : MS} {a : MA} {fin : Bool} {e r : Int} {s' : MS} (h : toldP s a fin e = (r, s')) (hr : r ≠ 0) : s' = { s with broken := true } := by
  unfold toldP at h
  by_cases h1 : e ≠ 0
  · rw [if_pos h1] at h
    exact (congrArg Prod.snd h).symm
  · rw [if_neg h1] at h
    by_cases h2 : longP s.method a fin = true
    · rw [if_pos h2] at h
      exact absurd (congrArg Prod.fst h).symm hr
    · rw [if_neg h2] at h
      exact (congrArg Prod.snd h).symm
theorem told_came {s : MS} {a : MA} {fin : Bool} {e r : Int} {s' : MS} (h : toldP s a fin e = (r, s')) : s'.a.came = s.a.came ∨ s'.a.came = a.came := by
  unfold toldP at h
  by_cases h1 : e ≠ 0
  · rw [if_pos h1] at h
    cases h
    exact .inl rfl
  · rw [if_neg h1] at h
    by_cases h2 : longP s.method a fin = true
    · rw [if_pos h2] at h
      cases h
      exact .inr rfl
    · rw [if_neg h2] at h
      cases h
      exact .inl rfl
def Stopped (s s' : MS) : Prop := s'.a.status = s.a.status ∧ s'.a.done = s.a.done ∧ overP s' = true
theorem stopped_told {s : MS} {a : MA} {fin : Bool} {e r : Int} {s' : MS} (h : toldP s a fin e = (r, s')) (hr : r ≠ 0) : Stopped s s' := by
  rw [told_err_is h hr]
  exact ⟨rfl, rfl, by unfold overP; rfl⟩
theorem head_stop {s : MS} {fin : Bool} {l : List S30} {r : Int} {s' : MS} (h : headP s fin l = (r, s')) (hr : r ≠ 0) : Stopped s s' := by
  unfold headP at h
  by_cases h1 : overP s = true
  · rw [if_pos h1] at h
    cases h
    exact ⟨rfl, rfl, h1⟩
  · rw [if_neg h1] at h
    by_cases h2 : s.a.status > 0
    · rw [if_pos h2] at h
      exact stopped_told h hr
    · rw [if_neg h2] at h
      by_cases h3 : respQ l ≠ 0
      · rw [if_pos h3] at h
        exact stopped_told h hr
      · rw [if_neg h3] at h
        by_cases h4 : statNum l < 200
        · rw [if_pos h4] at h
          cases fin with
          | true =>
            rw [if_pos rfl] at h
            exact stopped_told h hr
          | false =>
            rw [if_neg Bool.false_ne_true] at h
            exact absurd (congrArg Prod.fst h).symm hr
        · rw [if_neg h4] at h
          exact stopped_told h hr
theorem data_stop {s : MS} {n : Int} {fin : Bool} {r : Int} {s' : MS} (h : dataP s n fin = (r, s')) (hr : r ≠ 0) : Stopped s s' := by
  unfold dataP at h
  by_cases h1 : overP s = true
  · rw [if_pos h1] at h
    cases h
    exact ⟨rfl, rfl, h1⟩
  · rw [if_neg h1] at h
    by_cases h2 : s.a.status = 0
    · rw [if_pos h2] at h
      exact stopped_told h hr
    · rw [if_neg h2] at h
      by_cases h3 : n < 0
      · rw [if_pos h3] at h
        exact stopped_told h hr
      · rw [if_neg h3] at h
        exact stopped_told h hr
theorem head_came {s : MS} {fin : Bool} {l : List S30} {r : Int} {s' : MS} (h : headP s fin l = (r, s')) : s'.a.came = s.a.came := by
  unfold headP at h
  by_cases h1 : overP s = true
  · rw [if_pos h1] at h
    cases h
    rfl
  · rw [if_neg h1] at h
    by_cases h2 : s.a.status > 0
    · rw [if_pos h2] at h
      rcases told_came h with h | h <;> exact h
    · rw [if_neg h2] at h
      by_cases h3 : respQ l ≠ 0
      · rw [if_pos h3] at h
        rcases told_came h with h | h <;> exact h
      · rw [if_neg h3] at h
        by_cases h4 : statNum l < 200
        · rw [if_pos h4] at h
          cases fin with
          | true =>
            rw [if_pos rfl] at h
            rcases told_came h with h | h <;> exact h
          | false =>
            rw [if_neg Bool.false_ne_true] at h
            cases h
            rfl
        · rw [if_neg h4] at h
          rcases told_came h with h | h <;> exact h
theorem data_came {s : MS} {n : Int} {fin : Bool} {r : Int} {s' : MS} (h : dataP s n fin = (r, s')) : s'.a.came = s.a.came ∨ (0 ≤ n ∧ s'.a.came = s.a.came + n) := by
  unfold dataP at h
  by_cases h1 : overP s = true
  · rw [if_pos h1] at h
    cases h
    exact .inl rfl
  · rw [if_neg h1] at h
    by_cases h2 : s.a.status = 0
    · rw [if_pos h2] at h
      rcases told_came h with h | h <;> exact .inl h
    · rw [if_neg h2] at h
      by_cases h3 : n < 0
      · rw [if_pos h3] at h
        rcases told_came h with h | h <;> exact .inl h
      · rw [if_neg h3] at h
        rcases told_came h with h | h
        · exact .inl h
        · exact .inr ⟨by omega, h⟩
theorem over_data {s : MS} (h : overP s = true) (n : Int) (fin : Bool) : dataP s n fin = (8, s) := if_pos h
theorem over_head {s : MS} (h : overP s = true) (fin : Bool) (l : List S30) : headP s fin l = (8, s) := if_pos h
set_option maxHeartbeats 12800000 in
set_option maxRecDepth 20000 in
theorem broken_calls (A : Option Addr) (os : List OP) (c : Nat) (n : Int) (en : Bool) (w : World) (hO : Ops w A os) :
    Calls Tryd.prog 8 #[.slice A os.length c, .int .i64 n, .bool en] w fun e w' => e = .returned (.bool true) ∧ Below w.heap.size w w' := by
  have HB := Aside0.mk (Below.refl w.heap.size w)
  have HO := Aside0.mk hO
  clear hO
  by_cases hg : 30 < os.length ∨ n < 0 ∨ 1000 < n
  · have hc : (decide (os.length > 30) = true ∧ decide ((os.length : Int) > 30) = true ∧ decide (30 < os.length) = true) ∨ (decide (os.length > 30) = false ∧ decide ((os.length : Int) > 30) = false ∧ decide (30 < os.length) = false ∧ decide (n < 0) = true) ∨ (decide (os.length > 30) = false ∧ decide ((os.length : Int) > 30) = false ∧ decide (30 < os.length) = false ∧ decide (n < 0) = false ∧ decide (n > 1000) = true ∧ decide (1000 < n) = true) := by
      simp only [decide_eq_true_eq, decide_eq_false_iff_not]
      omega
    clear hg
    rcases hc with ⟨e1, e2, e3⟩ | ⟨e1, e2, e3, e4⟩ | ⟨e1, e2, e3, e4, e5, e6⟩
    all_goals
      go_enter Tryd.func8, Tryd.ntmps8
      go_wp2_with (first
        | (go_at_call 10; refine (alive_c _).mono ?_; rintro e w1 ⟨rfl, hb⟩; have HB1 := Aside0.mk (below_step HB.out hb); clear hb))
      go_ret
      exact ⟨rfl, HB1.out⟩
  have e1 : decide (os.length > 30) = false := decide_eq_false (by omega)
  have e2 : decide ((os.length : Int) > 30) = false := decide_eq_false (by omega)
  have e3 : decide (30 < os.length) = false := decide_eq_false (by omega)
  have e4 : decide (n < 0) = false := decide_eq_false (by omega)
  have e5 : decide (n > 1000) = false := decide_eq_false (by omega)
  have e6 : decide (1000 < n) = false := decide_eq_false (by omega)
  have HL : Aside0 (os.length ≤ 30 ∧ 0 ≤ n ∧ n ≤ 1000) := ⟨by omega⟩
  clear hg
  go_enter Tryd.func8, Tryd.ntmps8
  go_wp2_with (first
    | (go_at_call 10; refine (alive_c _).mono ?_; rintro e w1 ⟨rfl, hb⟩; have HB1 := Aside0.mk (below_step HB.out hb); clear hb)
    | (go_at_call 12; refine (new_c ⟨#[71, 69, 84]⟩ _).mono ?_; rintro e w2 ⟨rfl, hr, hb⟩; have HY := Aside0.mk HB1.out.size; have HR2 := Aside0.mk hr; have HB2 := Aside0.mk (below_step HB1.out hb); clear hr hb HB1))
  clear e1 e2 e3 e4 e5 e6 HB
  generalize w1.heap.size = g at HR2 HY ⊢
  go_loopg [34] (os.length + 1) (fun kq v34 w' => ∃ (j : Nat) (s : MS) (Af At : Option Addr) (cf ct : Nat), v34 = .int .i64 j ∧ Aside0 (j + kq = os.length + 1 ∧ 1 ≤ kq) ∧ Aside0 (0 ≤ s.a.came ∧ s.a.came ≤ j * 1099511627776) ∧ Aside0 (Rd w' g s Af cf At ct) ∧ Aside0 (Below w.heap.size w w'))
  case atStart => exact ⟨0, newP ⟨#[71, 69, 84]⟩, none, none, 0, 0, rfl, ⟨by omega, by omega⟩, ⟨Int.le_refl 0, Int.le_refl 0⟩, HR2, HB2⟩
  case round =>
    obtain ⟨j, s, Af, At, cf, ct, rfl, HJ, HCm, HR, HW⟩ := hrel
    by_cases hj : j < os.length
    · have q1 : decide ((j : Int) < (os.length : Int)) = true := decide_eq_true (by omega)
      have q2 : decide (j < os.length) = true := decide_eq_true hj
      obtain ⟨hok, ad, hA, hat⟩ := HO.out.2 j os[j] (List.getElem?_eq_getElem hj)
      have hat2 := op_below hat HW.out
      generalize os[j] = o at hok hat2
      obtain ⟨kd, on, fi, oA, oc, ol⟩ := o
      obtain ⟨k0, k1, k2, k3⟩ := hat2
      dsimp only at k0 k1 k2 k3
      have hsm := hok.small
      have hcc := hok.c
      have hrn := hok.rn
      dsimp only at hsm hcc hrn
      have HOk := Aside0.mk (And.intro hsm.cap (And.intro hcc hrn))
      have hr := reachBytes_lt
      have HFw := Aside0.mk (fun (W : World) (hb : Below w.heap.size w W) => few_c (Kd.C_below hcc hb) hsm.cap (by have := hsm.len; omega) hsm.sz)
      have p1 : (0 : Int) ≤ (j : Int) := by omega
      have p2 : (j : Int) < (os.length : Int) := by omega
      have hwj : wrap64 ((j : Int) + 1) = ((j + 1 : Nat) : Int) := w64_next j (by have := HL.out; omega)
      have HWJ := Aside0.mk hwj
      have HJ3 := Aside0.mk hj
      have HFe := Aside0.mk (fun (h : fewP ol = true) => (few_sized h).1)
      subst hA
      clear hok hat hsm hcc hrn hr hj
      generalize fewP ol = fe at HFw HFe
      cases fe with
      | false =>
        go_wp2_with (first
          | (go_at_call 22; refine (HFw.out _ (below_alloc HW.out _)).mono ?_; rintro e w3 ⟨rfl, hb⟩; have HB3 := Aside0.mk (below_step (below_alloc HW.out _) hb); clear hb))
        go_ret
        exact ⟨rfl, HB3.out⟩
      | true =>
        by_cases hn : on > 1099511627776
        · have q3 : decide (on > 1099511627776) = true := decide_eq_true hn
          have q4 : decide (1099511627776 < on) = true := decide_eq_true hn
          clear hn
          go_wp2_with (first
            | (go_at_call 22; refine (HFw.out _ (below_alloc HW.out _)).mono ?_; rintro e w3 ⟨rfl, hb⟩; have hbk := (hb.block _ (blk_lt (heap_alloc_new wr _))).trans (heap_alloc_new wr (.cells #[.int .i64 kd, .int .i64 on, .bool fi, .slice oA ol.length oc] 48)); have b1 := cells_of_heap hbk 1 _ rfl; have HB3 := Aside0.mk (below_step (below_alloc HW.out _) hb); clear hb hbk))
          go_ret
          exact ⟨rfl, HB3.out⟩
        have q3 : decide (on > 1099511627776) = false := decide_eq_false hn
        have q4 : decide (1099511627776 < on) = false := decide_eq_false hn
        have HN := Aside0.mk hn
        have HSz := Aside0.mk (HFe.out rfl)
        clear hn HFe
        by_cases hk : kd = 1
        · have q5 : decide (kd = 1) = true := decide_eq_true hk
          have q6 : (kd == 1) = true := beq_iff_eq.2 hk
          obtain ⟨r, s', hE⟩ : ∃ r s', headP s fi ol = (r, s') := ⟨_, _, rfl⟩
          have HCa : Aside0 (0 ≤ s'.a.came ∧ s'.a.came ≤ s.a.came + 1099511627776) := ⟨by have := head_came hE; have := HCm.out; omega⟩
          have HE := Aside0.mk hE
          clear hk
          by_cases hr : r = 0
          · subst hr
            clear hE
            go_wp2_with (first
              | (go_at_call 22; refine (HFw.out _ (below_alloc HW.out _)).mono ?_; rintro e w3 ⟨rfl, hb⟩; have hbk := (hb.block _ (blk_lt (heap_alloc_new wr _))).trans (heap_alloc_new wr (.cells #[.int .i64 kd, .int .i64 on, .bool fi, .slice oA ol.length oc] 48)); have b0 := cells_of_heap hbk 0 _ rfl; have b1 := cells_of_heap hbk 1 _ rfl; have b2 := cells_of_heap hbk 2 _ rfl; have b3 := cells_of_heap hbk 3 _ rfl; have HBK3 := Aside0.mk hbk; have HB3 := Aside0.mk (below_step (below_alloc HW.out _) hb); have HR3 := Aside0.mk ((HR.out.below (below_alloc (Below.refl _ _) _)).below hb); clear hb hbk HFw HW HR)
              | (go_at_call 21; refine (status_c HR3.out).mono ?_; rintro e w4 ⟨rfl, hb⟩; have hbk := (hb.block _ (blk_lt HBK3.out)).trans HBK3.out; have HBK4 := Aside0.mk hbk; have HB4 := Aside0.mk (below_step HB3.out hb); have HR4 := Aside0.mk (HR3.out.below hb); clear hb hbk HBK3 HB3 HR3)
              | (go_at_call 14; refine (done_c HR4.out).mono ?_; rintro e w5 ⟨rfl, hb⟩; have hbk := (hb.block _ (blk_lt HBK4.out)).trans HBK4.out; clear b0 b1 b2 b3; have b0 := cells_of_heap hbk 0 _ rfl; have b1 := cells_of_heap hbk 1 _ rfl; have b2 := cells_of_heap hbk 2 _ rfl; have b3 := cells_of_heap hbk 3 _ rfl; have HB5 := Aside0.mk (below_step HB4.out hb); have HR5 := Aside0.mk (HR4.out.below hb); clear hb hbk HBK4 HB4 HR4)
              | (go_at_call 13; refine (head_to HR5.out HE.out HSz.out (Kd.C_below HOk.out.2.1 HB5.out) HOk.out.1).mono ?_; rintro e w6 ⟨rfl, ⟨Df, df, Dt, dt, hr⟩, hs⟩; have HR6 := Aside0.mk hr; have HB6 := Aside0.mk (stay_b hs HB5.out HY.out); clear hr hs HR5 HB5))
            go_roundg (gk - 1)
            case measure => have := HJ.out; have := HJ3.out; omega
            case rel => exact ⟨j + 1, s', Df, Dt, df, dt, congrArg (Value.int .i64) HWJ.out, ⟨by have := HJ.out; omega, by have := HJ.out; have := HJ3.out; omega⟩, ⟨HCa.out.1, by have := HCa.out; have := HCm.out; omega⟩, HR6, HB6⟩
          · have HSt := Aside0.mk (head_stop hE hr)
            have q7 : decide (r = 0) = false := decide_eq_false hr
            have q8 : (r == 0) = false := beq_eq_false_iff_ne.2 hr
            have HSc : Aside0 (0 ≤ s'.a.came ∧ s'.a.came ≤ 34084860461056) := ⟨by have := HCa.out; have := HCm.out; have := HL.out; have := HJ3.out; omega⟩
            clear hE hr
            go_wp2_with (first
              | (go_at_call 22; refine (HFw.out _ (below_alloc HW.out _)).mono ?_; rintro e w3 ⟨rfl, hb⟩; have hbk := (hb.block _ (blk_lt (heap_alloc_new wr _))).trans (heap_alloc_new wr (.cells #[.int .i64 kd, .int .i64 on, .bool fi, .slice oA ol.length oc] 48)); have b0 := cells_of_heap hbk 0 _ rfl; have b1 := cells_of_heap hbk 1 _ rfl; have b2 := cells_of_heap hbk 2 _ rfl; have b3 := cells_of_heap hbk 3 _ rfl; have HBK3 := Aside0.mk hbk; have HB3 := Aside0.mk (below_step (below_alloc HW.out _) hb); have HR3 := Aside0.mk ((HR.out.below (below_alloc (Below.refl _ _) _)).below hb); clear hb hbk HFw HW HR)
              | (go_at_call 21; refine (status_c HR3.out).mono ?_; rintro e w4 ⟨rfl, hb⟩; have hbk := (hb.block _ (blk_lt HBK3.out)).trans HBK3.out; have HBK4 := Aside0.mk hbk; have HB4 := Aside0.mk (below_step HB3.out hb); have HR4 := Aside0.mk (HR3.out.below hb); clear hb hbk HBK3 HB3 HR3)
              | (go_at_call 14; refine (done_c HR4.out).mono ?_; rintro e w5 ⟨rfl, hb⟩; have hbk := (hb.block _ (blk_lt HBK4.out)).trans HBK4.out; clear b0 b1 b2 b3; have b0 := cells_of_heap hbk 0 _ rfl; have b1 := cells_of_heap hbk 1 _ rfl; have b2 := cells_of_heap hbk 2 _ rfl; have b3 := cells_of_heap hbk 3 _ rfl; have HB5 := Aside0.mk (below_step HB4.out hb); have HR5 := Aside0.mk (HR4.out.below hb); clear hb hbk HBK4 HB4 HR4)
              | (go_at_call 13; refine (head_to HR5.out HE.out HSz.out (Kd.C_below HOk.out.2.1 HB5.out) HOk.out.1).mono ?_; rintro e w6 ⟨rfl, ⟨Df, df, Dt, dt, hr⟩, hs⟩; have HR6 := Aside0.mk hr; have HB6 := Aside0.mk (stay_b hs HB5.out HY.out); clear hr hs HR5 HB5)
              | (go_at_call 21; refine (status_c HR6.out).mono ?_; rintro e w7 ⟨rfl, hb⟩; rw [HSt.out.1]; have HB7 := Aside0.mk (below_step HB6.out hb); have HR7 := Aside0.mk (HR6.out.below hb); clear hb HB6 HR6)
              | (go_at_call 14; refine (done_c HR7.out).mono ?_; rintro e w8 ⟨rfl, hb⟩; rw [HSt.out.2.1]; have HB8 := Aside0.mk (below_step HB7.out hb); have HR8 := Aside0.mk (HR7.out.below hb); clear hb HB7 HR7)
              | (go_at_call 20; refine (data_to HR8.out (over_data HSt.out.2.2 n en) (by have := HL.out; have := HSc.out; omega)).mono ?_; rintro e w9 ⟨rfl, ⟨Ef, ef, Et, et, hr⟩, hs⟩; have HR9 := Aside0.mk hr; have HB9 := Aside0.mk (stay_b hs HB8.out HY.out); clear hr hs HR8 HB8)
              | (go_at_call 13; refine (head_to (HR9.out.below (below_alloc (Below.refl _ _) _)) (over_head HSt.out.2.2 en al200) (sized_lit (l := al200) (by kernel_rfl)) (lit1 w9 colStatus ⟨#[50, 48, 48]⟩) (Nat.le_refl 1)).mono ?_; rintro e w10 ⟨rfl, ⟨Ff, ff, Ft, ft, hr⟩, hs⟩; have HR10 := Aside0.mk hr; have HB10 := Aside0.mk (stay_b hs (below_alloc HB9.out _) HY.out); clear hr hs HR9 HB9)
              | (go_at_call 21; refine (status_c HR10.out).mono ?_; rintro e w11 ⟨rfl, hb⟩; rw [HSt.out.1]; have HB11 := Aside0.mk (below_step HB10.out hb); clear hb HB10 HR10))
            go_ret
            exact ⟨rfl, HB11.out⟩
        · have q5 : decide (kd = 1) = false := decide_eq_false hk
          have q6 : (kd == 1) = false := beq_eq_false_iff_ne.2 hk
          obtain ⟨r, s', hE⟩ : ∃ r s', dataP s on fi = (r, s') := ⟨_, _, rfl⟩
          have HCa : Aside0 (0 ≤ s'.a.came ∧ s'.a.came ≤ s.a.came + 1099511627776) := ⟨by have := data_came hE; have := HCm.out; have := HN.out; omega⟩
          have HE := Aside0.mk hE
          clear hk
          by_cases hr : r = 0
          · subst hr
            clear hE
            go_wp2_with (first
              | (go_at_call 22; refine (HFw.out _ (below_alloc HW.out _)).mono ?_; rintro e w3 ⟨rfl, hb⟩; have hbk := (hb.block _ (blk_lt (heap_alloc_new wr _))).trans (heap_alloc_new wr (.cells #[.int .i64 kd, .int .i64 on, .bool fi, .slice oA ol.length oc] 48)); have b0 := cells_of_heap hbk 0 _ rfl; have b1 := cells_of_heap hbk 1 _ rfl; have b2 := cells_of_heap hbk 2 _ rfl; have b3 := cells_of_heap hbk 3 _ rfl; have HBK3 := Aside0.mk hbk; have HB3 := Aside0.mk (below_step (below_alloc HW.out _) hb); have HR3 := Aside0.mk ((HR.out.below (below_alloc (Below.refl _ _) _)).below hb); clear hb hbk HFw HW HR)
              | (go_at_call 21; refine (status_c HR3.out).mono ?_; rintro e w4 ⟨rfl, hb⟩; have hbk := (hb.block _ (blk_lt HBK3.out)).trans HBK3.out; have HBK4 := Aside0.mk hbk; have HB4 := Aside0.mk (below_step HB3.out hb); have HR4 := Aside0.mk (HR3.out.below hb); clear hb hbk HBK3 HB3 HR3)
              | (go_at_call 14; refine (done_c HR4.out).mono ?_; rintro e w5 ⟨rfl, hb⟩; have hbk := (hb.block _ (blk_lt HBK4.out)).trans HBK4.out; clear b0 b1 b2 b3; have b0 := cells_of_heap hbk 0 _ rfl; have b1 := cells_of_heap hbk 1 _ rfl; have b2 := cells_of_heap hbk 2 _ rfl; have b3 := cells_of_heap hbk 3 _ rfl; have HB5 := Aside0.mk (below_step HB4.out hb); have HR5 := Aside0.mk (HR4.out.below hb); clear hb hbk HBK4 HB4 HR4)
              | (go_at_call 20; refine (data_to HR5.out HE.out (by have := HCm.out; have := HOk.out.2.2; have := HN.out; have := HL.out; have := HJ3.out; omega)).mono ?_; rintro e w6 ⟨rfl, ⟨Df, df, Dt, dt, hr⟩, hs⟩; have HR6 := Aside0.mk hr; have HB6 := Aside0.mk (stay_b hs HB5.out HY.out); clear hr hs HR5 HB5))
            go_roundg (gk - 1)
            case measure => have := HJ.out; have := HJ3.out; omega
            case rel => exact ⟨j + 1, s', Df, Dt, df, dt, congrArg (Value.int .i64) HWJ.out, ⟨by have := HJ.out; omega, by have := HJ.out; have := HJ3.out; omega⟩, ⟨HCa.out.1, by have := HCa.out; have := HCm.out; omega⟩, HR6, HB6⟩
          · have HSt := Aside0.mk (data_stop hE hr)
            have q7 : decide (r = 0) = false := decide_eq_false hr
            have q8 : (r == 0) = false := beq_eq_false_iff_ne.2 hr
            have HSc : Aside0 (0 ≤ s'.a.came ∧ s'.a.came ≤ 34084860461056) := ⟨by have := HCa.out; have := HCm.out; have := HL.out; have := HJ3.out; omega⟩
            clear hE hr
            go_wp2_with (first
              | (go_at_call 22; refine (HFw.out _ (below_alloc HW.out _)).mono ?_; rintro e w3 ⟨rfl, hb⟩; have hbk := (hb.block _ (blk_lt (heap_alloc_new wr _))).trans (heap_alloc_new wr (.cells #[.int .i64 kd, .int .i64 on, .bool fi, .slice oA ol.length oc] 48)); have b0 := cells_of_heap hbk 0 _ rfl; have b1 := cells_of_heap hbk 1 _ rfl; have b2 := cells_of_heap hbk 2 _ rfl; have b3 := cells_of_heap hbk 3 _ rfl; have HBK3 := Aside0.mk hbk; have HB3 := Aside0.mk (below_step (below_alloc HW.out _) hb); have HR3 := Aside0.mk ((HR.out.below (below_alloc (Below.refl _ _) _)).below hb); clear hb hbk HFw HW HR)
              | (go_at_call 21; refine (status_c HR3.out).mono ?_; rintro e w4 ⟨rfl, hb⟩; have hbk := (hb.block _ (blk_lt HBK3.out)).trans HBK3.out; have HBK4 := Aside0.mk hbk; have HB4 := Aside0.mk (below_step HB3.out hb); have HR4 := Aside0.mk (HR3.out.below hb); clear hb hbk HBK3 HB3 HR3)
              | (go_at_call 14; refine (done_c HR4.out).mono ?_; rintro e w5 ⟨rfl, hb⟩; have hbk := (hb.block _ (blk_lt HBK4.out)).trans HBK4.out; clear b0 b1 b2 b3; have b0 := cells_of_heap hbk 0 _ rfl; have b1 := cells_of_heap hbk 1 _ rfl; have b2 := cells_of_heap hbk 2 _ rfl; have b3 := cells_of_heap hbk 3 _ rfl; have HB5 := Aside0.mk (below_step HB4.out hb); have HR5 := Aside0.mk (HR4.out.below hb); clear hb hbk HBK4 HB4 HR4)
              | (go_at_call 20; refine (data_to HR5.out HE.out (by have := HCm.out; have := HOk.out.2.2; have := HN.out; have := HL.out; have := HJ3.out; omega)).mono ?_; rintro e w6 ⟨rfl, ⟨Df, df, Dt, dt, hr⟩, hs⟩; have HR6 := Aside0.mk hr; have HB6 := Aside0.mk (stay_b hs HB5.out HY.out); clear hr hs HR5 HB5)
              | (go_at_call 21; refine (status_c HR6.out).mono ?_; rintro e w7 ⟨rfl, hb⟩; rw [HSt.out.1]; have HB7 := Aside0.mk (below_step HB6.out hb); have HR7 := Aside0.mk (HR6.out.below hb); clear hb HB6 HR6)
              | (go_at_call 14; refine (done_c HR7.out).mono ?_; rintro e w8 ⟨rfl, hb⟩; rw [HSt.out.2.1]; have HB8 := Aside0.mk (below_step HB7.out hb); have HR8 := Aside0.mk (HR7.out.below hb); clear hb HB7 HR7)
              | (go_at_call 20; refine (data_to HR8.out (over_data HSt.out.2.2 n en) (by have := HL.out; have := HSc.out; omega)).mono ?_; rintro e w9 ⟨rfl, ⟨Ef, ef, Et, et, hr⟩, hs⟩; have HR9 := Aside0.mk hr; have HB9 := Aside0.mk (stay_b hs HB8.out HY.out); clear hr hs HR8 HB8)
              | (go_at_call 13; refine (head_to (HR9.out.below (below_alloc (Below.refl _ _) _)) (over_head HSt.out.2.2 en al200) (sized_lit (l := al200) (by kernel_rfl)) (lit1 w9 colStatus ⟨#[50, 48, 48]⟩) (Nat.le_refl 1)).mono ?_; rintro e w10 ⟨rfl, ⟨Ff, ff, Ft, ft, hr⟩, hs⟩; have HR10 := Aside0.mk hr; have HB10 := Aside0.mk (stay_b hs (below_alloc HB9.out _) HY.out); clear hr hs HR9 HB9)
              | (go_at_call 21; refine (status_c HR10.out).mono ?_; rintro e w11 ⟨rfl, hb⟩; rw [HSt.out.1]; have HB11 := Aside0.mk (below_step HB10.out hb); clear hb HB10 HR10))
            go_ret
            exact ⟨rfl, HB11.out⟩
    · have q1 : decide ((j : Int) < (os.length : Int)) = false := decide_eq_false (by omega)
      have q2 : decide (j < os.length) = false := decide_eq_false hj
      clear hj
      go_wp2
      go_ret
      exact ⟨rfl, HW.out⟩
end Go.Proofs.YtififgiicpdndaaDoor.Fw
