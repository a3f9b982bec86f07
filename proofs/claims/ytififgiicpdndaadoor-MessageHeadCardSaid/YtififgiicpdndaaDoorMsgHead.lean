/- MessageHead. -/
import Derived.Test.YtififgiicpdndaaDoorMsgDig
namespace Go.Proofs.YtififgiicpdndaaDoor.Fw
open Go.RowKit Go.Proofs.YtififgiicpdndaaDoor.XMi Go.Proofs.YtififgiicpdndaaDoorW.PrintWords Go.Proofs.YtififgiicpdndaaDoorW.PrintLast Go.Proofs.YtififgiicpdndaaDoorW.PrintMore Go.Proofs.YtififgiicpdndaaDoor.Ms Go.Proofs.YtififgiicpdndaaDoor.Ob
theorem head_msgI (method : ByteArray) (st said : Int) (h : 200 ≤ st ∧ st ≤ 599) (h1 : 1 ≤ said) (h2 : said ≤ 100000) :
    headP (newP method) true [stF st.toNat, clF said.toNat] = if noBody method st then (0, ⟨method, ⟨st, others [stF st.toNat, clF said.toNat], [], said, 0, true⟩, false⟩) else (22, ⟨method, ⟨0, [], [], 0, 0, false⟩, true⟩) := by
  obtain ⟨a, rfl⟩ : ∃ m : Nat, st = (m : Int) := ⟨st.toNat, by omega⟩
  obtain ⟨b, rfl⟩ : ∃ m : Nat, said = (m : Int) := ⟨said.toNat, by omega⟩
  exact head_msg method a b (by omega) (by omega) (by omega)
theorem head_msgG (method : ByteArray) (st said : Int) (h : 200 ≤ st ∧ st ≤ 599) (h1 : 1 ≤ said) (h2 : said ≤ 100000) (nb : Bool) (hn : noBody method st = nb) :
    ∃ (a b : ByteArray) (s : MS), s.a.done = nb ∧ (∀ w, Calls Tryd.prog 11 #[.int .i64 st] w fun e w' => e = .returned (.string a) ∧ Below w.heap.size w w') ∧ (∀ w, Calls Tryd.prog 11 #[.int .i64 said] w fun e w' => e = .returned (.string b) ∧ Below w.heap.size w w') ∧ Sized [⟨colStatus, a⟩, ⟨lenB, b⟩] ∧ headP (newP method) true [⟨colStatus, a⟩, ⟨lenB, b⟩] = (if nb then 0 else 22, s) := by
  have hh := head_msgI method st said h h1 h2
  rw [hn] at hh
  cases nb with
  | true => exact ⟨digT st.toNat, digT said.toNat, _, rfl, fun w => dig_i st (by omega) w, fun w => dig_i said (by omega) w, stcl_sized _ _, hh⟩
  | false => exact ⟨digT st.toNat, digT said.toNat, _, rfl, fun w => dig_i st (by omega) w, fun w => dig_i said (by omega) w, stcl_sized _ _, hh⟩
set_option maxHeartbeats 3200000 in
set_option maxRecDepth 20000 in
theorem headL_calls (method : ByteArray) (st said : Int) (w : World) : Calls Tryd.prog 3 #[.string method, .int .i64 st, .int .i64 said] w fun e w' => e = .returned (.bool true) ∧ Below w.heap.size w w' := by
  have HB := Aside0.mk (Below.refl w.heap.size w)
  by_cases h0 : 20 < method.size
  · have e0_0 : decide ((method.size : Int) > 20) = true := decide_eq_true (by omega)
    have e0_1 : decide (20 < method.size) = true := decide_eq_true (by omega)
    have e0_2 : decide (method.size > 20) = true := decide_eq_true (by omega)
    have e0_3 : decide ((20 : Int) < method.size) = true := decide_eq_true (by omega)
    clear h0
    go_enter Tryd.func3, Tryd.ntmps3
    go_wp2_with (first
      | (go_at_call 10; refine (alive_c _).mono ?_; rintro e w1 ⟨rfl, hb⟩; have HB2 := Aside0.mk (below_step HB.out hb); clear hb))
    go_ret
    exact ⟨rfl, HB2.out⟩
  by_cases h1 : said < 1
  · have e0_0 : decide ((method.size : Int) > 20) = false := decide_eq_false (by omega)
    have e0_1 : decide (20 < method.size) = false := decide_eq_false (by omega)
    have e0_2 : decide (method.size > 20) = false := decide_eq_false (by omega)
    have e0_3 : decide ((20 : Int) < method.size) = false := decide_eq_false (by omega)
    have e1_0 : decide (said < 1) = true := decide_eq_true (by omega)
    clear h0 h1
    go_enter Tryd.func3, Tryd.ntmps3
    go_wp2_with (first
      | (go_at_call 10; refine (alive_c _).mono ?_; rintro e w1 ⟨rfl, hb⟩; have HB2 := Aside0.mk (below_step HB.out hb); clear hb))
    go_ret
    exact ⟨rfl, HB2.out⟩
  by_cases h2 : 100000 < said
  · have e0_0 : decide ((method.size : Int) > 20) = false := decide_eq_false (by omega)
    have e0_1 : decide (20 < method.size) = false := decide_eq_false (by omega)
    have e0_2 : decide (method.size > 20) = false := decide_eq_false (by omega)
    have e0_3 : decide ((20 : Int) < method.size) = false := decide_eq_false (by omega)
    have e1_0 : decide (said < 1) = false := decide_eq_false (by omega)
    have e2_0 : decide (said > 100000) = true := decide_eq_true (by omega)
    have e2_1 : decide (100000 < said) = true := decide_eq_true (by omega)
    clear h0 h1 h2
    go_enter Tryd.func3, Tryd.ntmps3
    go_wp2_with (first
      | (go_at_call 10; refine (alive_c _).mono ?_; rintro e w1 ⟨rfl, hb⟩; have HB2 := Aside0.mk (below_step HB.out hb); clear hb))
    go_ret
    exact ⟨rfl, HB2.out⟩
  by_cases h3 : st < 200
  · have e0_0 : decide ((method.size : Int) > 20) = false := decide_eq_false (by omega)
    have e0_1 : decide (20 < method.size) = false := decide_eq_false (by omega)
    have e0_2 : decide (method.size > 20) = false := decide_eq_false (by omega)
    have e0_3 : decide ((20 : Int) < method.size) = false := decide_eq_false (by omega)
    have e1_0 : decide (said < 1) = false := decide_eq_false (by omega)
    have e2_0 : decide (said > 100000) = false := decide_eq_false (by omega)
    have e2_1 : decide (100000 < said) = false := decide_eq_false (by omega)
    have e3_0 : decide (st < 200) = true := decide_eq_true (by omega)
    clear h0 h1 h2 h3
    go_enter Tryd.func3, Tryd.ntmps3
    go_wp2_with (first
      | (go_at_call 10; refine (alive_c _).mono ?_; rintro e w1 ⟨rfl, hb⟩; have HB2 := Aside0.mk (below_step HB.out hb); clear hb))
    go_ret
    exact ⟨rfl, HB2.out⟩
  by_cases h4 : 599 < st
  · have e0_0 : decide ((method.size : Int) > 20) = false := decide_eq_false (by omega)
    have e0_1 : decide (20 < method.size) = false := decide_eq_false (by omega)
    have e0_2 : decide (method.size > 20) = false := decide_eq_false (by omega)
    have e0_3 : decide ((20 : Int) < method.size) = false := decide_eq_false (by omega)
    have e1_0 : decide (said < 1) = false := decide_eq_false (by omega)
    have e2_0 : decide (said > 100000) = false := decide_eq_false (by omega)
    have e2_1 : decide (100000 < said) = false := decide_eq_false (by omega)
    have e3_0 : decide (st < 200) = false := decide_eq_false (by omega)
    have e4_0 : decide (st > 599) = true := decide_eq_true (by omega)
    have e4_1 : decide (599 < st) = true := decide_eq_true (by omega)
    clear h0 h1 h2 h3 h4
    go_enter Tryd.func3, Tryd.ntmps3
    go_wp2_with (first
      | (go_at_call 10; refine (alive_c _).mono ?_; rintro e w1 ⟨rfl, hb⟩; have HB2 := Aside0.mk (below_step HB.out hb); clear hb))
    go_ret
    exact ⟨rfl, HB2.out⟩
  have HG : Aside0 ((200 ≤ st ∧ st ≤ 599) ∧ 1 ≤ said ∧ said ≤ 100000) := ⟨by omega⟩
  have e0_0 : decide ((method.size : Int) > 20) = false := decide_eq_false (by omega)
  have e0_1 : decide (20 < method.size) = false := decide_eq_false (by omega)
  have e0_2 : decide (method.size > 20) = false := decide_eq_false (by omega)
  have e0_3 : decide ((20 : Int) < method.size) = false := decide_eq_false (by omega)
  have e1_0 : decide (said < 1) = false := decide_eq_false (by omega)
  have e2_0 : decide (said > 100000) = false := decide_eq_false (by omega)
  have e2_1 : decide (100000 < said) = false := decide_eq_false (by omega)
  have e3_0 : decide (st < 200) = false := decide_eq_false (by omega)
  have e4_0 : decide (st > 599) = false := decide_eq_false (by omega)
  have e4_1 : decide (599 < st) = false := decide_eq_false (by omega)
  clear h0 h1 h2 h3 h4
  by_cases hm : method.toList = [72, 69, 65, 68]
  · have q : (method.toList == [72, 69, 65, 68]) = true := beq_iff_eq.2 hm
    have q2 : decide (method.toList = [72, 69, 65, 68]) = true := decide_eq_true hm
    have nb : noBody method st = true := by unfold noBody; rw [head_list, q, Bool.or_true]
    obtain ⟨da, db, s, hN, hD1, hD2, hZ, hH⟩ := head_msgG method st said HG.out.1 HG.out.2.1 HG.out.2.2 true nb
    have HN := Aside0.mk hN
    have HD1 := Aside0.mk hD1
    have HD2 := Aside0.mk hD2
    have HZ := Aside0.mk hZ
    have HH : Aside0 (headP (newP method) true [⟨colStatus, da⟩, ⟨lenB, db⟩] = (0, s)) := ⟨hH⟩
    clear nb hN hD1 hD2 hZ hH
    go_enter Tryd.func3, Tryd.ntmps3
    go_wp2_with (first
      | (go_at_call 10; refine (alive_c _).mono ?_; rintro e w1 ⟨rfl, hb⟩; have HB1 := Aside0.mk (below_step HB.out hb); clear hb)
      | (go_at_call 12; refine (new_c method _).mono ?_; rintro e w2 ⟨rfl, hr, hb⟩; have HY := Aside0.mk HB1.out.size; have HR2 := Aside0.mk hr; have HB2 := Aside0.mk (below_step HB1.out hb); clear hr hb HB1)
      | (go_at_call 11; (with_reducible refine (HD1.out _).mono ?_); rintro e w3 ⟨rfl, hb⟩; have HR3 := Aside0.mk (HR2.out.below hb); have HB3 := Aside0.mk (below_step HB2.out hb); clear hb HR2 HB2 HD1)
      | (go_at_call 11; (with_reducible refine (HD2.out _).mono ?_); rintro e w4 ⟨rfl, hb⟩; have HR4 := Aside0.mk (HR3.out.below hb); have HB4 := Aside0.mk (below_step HB3.out hb); clear hb HR3 HB3 HD2)
      | (go_at_call 13; refine (head_to (HR4.out.below (below_alloc (Below.refl _ _) _)) HH.out HZ.out (lit2 w4 colStatus da lenB db) (Nat.le_refl 2)).mono ?_; rintro e w5 ⟨rfl, ⟨Cf, cf3, Ct, ct3, hr⟩, hs⟩; have HR5 := Aside0.mk hr; have HB5 := Aside0.mk (stay_b hs (below_alloc HB4.out _) HY.out); clear hr hs HR4 HB4)
      | (go_at_call 14; refine (done_c HR5.out).mono ?_; rintro e w6 ⟨rfl, hb⟩; rw [HN.out]; have HB6 := Aside0.mk (below_step HB5.out hb); clear hb HR5 HB5))
    go_ret
    exact ⟨rfl, HB6.out⟩
  have q : (method.toList == [72, 69, 65, 68]) = false := beq_eq_false_iff_ne.2 hm
  have q2 : decide (method.toList = [72, 69, 65, 68]) = false := decide_eq_false hm
  have hc : st = 204 ∨ (st ≠ 204 ∧ st = 304) ∨ (st ≠ 204 ∧ st ≠ 304) := by omega
  rcases hc with h1 | ⟨h1, h2⟩ | ⟨h1, h2⟩
  · have q3 : decide (st = 204) = true := decide_eq_true h1
    have q3b : (st == 204) = true := beq_iff_eq.2 h1
    have nb : noBody method st = true := by rw [h1]; rfl
    clear h1
    obtain ⟨da, db, s, hN, hD1, hD2, hZ, hH⟩ := head_msgG method st said HG.out.1 HG.out.2.1 HG.out.2.2 true nb
    have HN := Aside0.mk hN
    have HD1 := Aside0.mk hD1
    have HD2 := Aside0.mk hD2
    have HZ := Aside0.mk hZ
    have HH : Aside0 (headP (newP method) true [⟨colStatus, da⟩, ⟨lenB, db⟩] = (0, s)) := ⟨hH⟩
    clear nb hN hD1 hD2 hZ hH
    go_enter Tryd.func3, Tryd.ntmps3
    go_wp2_with (first
      | (go_at_call 10; refine (alive_c _).mono ?_; rintro e w1 ⟨rfl, hb⟩; have HB1 := Aside0.mk (below_step HB.out hb); clear hb)
      | (go_at_call 12; refine (new_c method _).mono ?_; rintro e w2 ⟨rfl, hr, hb⟩; have HY := Aside0.mk HB1.out.size; have HR2 := Aside0.mk hr; have HB2 := Aside0.mk (below_step HB1.out hb); clear hr hb HB1)
      | (go_at_call 11; (with_reducible refine (HD1.out _).mono ?_); rintro e w3 ⟨rfl, hb⟩; have HR3 := Aside0.mk (HR2.out.below hb); have HB3 := Aside0.mk (below_step HB2.out hb); clear hb HR2 HB2 HD1)
      | (go_at_call 11; (with_reducible refine (HD2.out _).mono ?_); rintro e w4 ⟨rfl, hb⟩; have HR4 := Aside0.mk (HR3.out.below hb); have HB4 := Aside0.mk (below_step HB3.out hb); clear hb HR3 HB3 HD2)
      | (go_at_call 13; refine (head_to (HR4.out.below (below_alloc (Below.refl _ _) _)) HH.out HZ.out (lit2 w4 colStatus da lenB db) (Nat.le_refl 2)).mono ?_; rintro e w5 ⟨rfl, ⟨Cf, cf3, Ct, ct3, hr⟩, hs⟩; have HR5 := Aside0.mk hr; have HB5 := Aside0.mk (stay_b hs (below_alloc HB4.out _) HY.out); clear hr hs HR4 HB4)
      | (go_at_call 14; refine (done_c HR5.out).mono ?_; rintro e w6 ⟨rfl, hb⟩; rw [HN.out]; have HB6 := Aside0.mk (below_step HB5.out hb); clear hb HR5 HB5))
    go_ret
    exact ⟨rfl, HB6.out⟩
  · have q3 : decide (st = 204) = false := decide_eq_false h1
    have q3b : (st == 204) = false := beq_eq_false_iff_ne.2 h1
    have q4 : decide (st = 304) = true := decide_eq_true h2
    have q4b : (st == 304) = true := beq_iff_eq.2 h2
    have nb : noBody method st = true := by rw [h2]; rfl
    clear h1 h2
    obtain ⟨da, db, s, hN, hD1, hD2, hZ, hH⟩ := head_msgG method st said HG.out.1 HG.out.2.1 HG.out.2.2 true nb
    have HN := Aside0.mk hN
    have HD1 := Aside0.mk hD1
    have HD2 := Aside0.mk hD2
    have HZ := Aside0.mk hZ
    have HH : Aside0 (headP (newP method) true [⟨colStatus, da⟩, ⟨lenB, db⟩] = (0, s)) := ⟨hH⟩
    clear nb hN hD1 hD2 hZ hH
    go_enter Tryd.func3, Tryd.ntmps3
    go_wp2_with (first
      | (go_at_call 10; refine (alive_c _).mono ?_; rintro e w1 ⟨rfl, hb⟩; have HB1 := Aside0.mk (below_step HB.out hb); clear hb)
      | (go_at_call 12; refine (new_c method _).mono ?_; rintro e w2 ⟨rfl, hr, hb⟩; have HY := Aside0.mk HB1.out.size; have HR2 := Aside0.mk hr; have HB2 := Aside0.mk (below_step HB1.out hb); clear hr hb HB1)
      | (go_at_call 11; (with_reducible refine (HD1.out _).mono ?_); rintro e w3 ⟨rfl, hb⟩; have HR3 := Aside0.mk (HR2.out.below hb); have HB3 := Aside0.mk (below_step HB2.out hb); clear hb HR2 HB2 HD1)
      | (go_at_call 11; (with_reducible refine (HD2.out _).mono ?_); rintro e w4 ⟨rfl, hb⟩; have HR4 := Aside0.mk (HR3.out.below hb); have HB4 := Aside0.mk (below_step HB3.out hb); clear hb HR3 HB3 HD2)
      | (go_at_call 13; refine (head_to (HR4.out.below (below_alloc (Below.refl _ _) _)) HH.out HZ.out (lit2 w4 colStatus da lenB db) (Nat.le_refl 2)).mono ?_; rintro e w5 ⟨rfl, ⟨Cf, cf3, Ct, ct3, hr⟩, hs⟩; have HR5 := Aside0.mk hr; have HB5 := Aside0.mk (stay_b hs (below_alloc HB4.out _) HY.out); clear hr hs HR4 HB4)
      | (go_at_call 14; refine (done_c HR5.out).mono ?_; rintro e w6 ⟨rfl, hb⟩; rw [HN.out]; have HB6 := Aside0.mk (below_step HB5.out hb); clear hb HR5 HB5))
    go_ret
    exact ⟨rfl, HB6.out⟩
  · have q3 : decide (st = 204) = false := decide_eq_false h1
    have q4 : decide (st = 304) = false := decide_eq_false h2
    have q3b : (st == 204) = false := beq_eq_false_iff_ne.2 h1
    have q4b : (st == 304) = false := beq_eq_false_iff_ne.2 h2
    have nb : noBody method st = false := by unfold noBody; rw [head_list, q, q3b, q4b]; rfl
    clear h1 h2
    obtain ⟨da, db, s, hN, hD1, hD2, hZ, hH⟩ := head_msgG method st said HG.out.1 HG.out.2.1 HG.out.2.2 false nb
    have HN := Aside0.mk hN
    have HD1 := Aside0.mk hD1
    have HD2 := Aside0.mk hD2
    have HZ := Aside0.mk hZ
    have HH : Aside0 (headP (newP method) true [⟨colStatus, da⟩, ⟨lenB, db⟩] = (22, s)) := ⟨hH⟩
    clear nb hN hD1 hD2 hZ hH
    go_enter Tryd.func3, Tryd.ntmps3
    go_wp2_with (first
      | (go_at_call 10; refine (alive_c _).mono ?_; rintro e w1 ⟨rfl, hb⟩; have HB1 := Aside0.mk (below_step HB.out hb); clear hb)
      | (go_at_call 12; refine (new_c method _).mono ?_; rintro e w2 ⟨rfl, hr, hb⟩; have HY := Aside0.mk HB1.out.size; have HR2 := Aside0.mk hr; have HB2 := Aside0.mk (below_step HB1.out hb); clear hr hb HB1)
      | (go_at_call 11; (with_reducible refine (HD1.out _).mono ?_); rintro e w3 ⟨rfl, hb⟩; have HR3 := Aside0.mk (HR2.out.below hb); have HB3 := Aside0.mk (below_step HB2.out hb); clear hb HR2 HB2 HD1)
      | (go_at_call 11; (with_reducible refine (HD2.out _).mono ?_); rintro e w4 ⟨rfl, hb⟩; have HR4 := Aside0.mk (HR3.out.below hb); have HB4 := Aside0.mk (below_step HB3.out hb); clear hb HR3 HB3 HD2)
      | (go_at_call 13; refine (head_to (HR4.out.below (below_alloc (Below.refl _ _) _)) HH.out HZ.out (lit2 w4 colStatus da lenB db) (Nat.le_refl 2)).mono ?_; rintro e w5 ⟨rfl, ⟨Cf, cf3, Ct, ct3, hr⟩, hs⟩; have HR5 := Aside0.mk hr; have HB5 := Aside0.mk (stay_b hs (below_alloc HB4.out _) HY.out); clear hr hs HR4 HB4)
      | (go_at_call 14; refine (done_c HR5.out).mono ?_; rintro e w6 ⟨rfl, hb⟩; rw [HN.out]; have HB6 := Aside0.mk (below_step HB5.out hb); clear hb HR5 HB5))
    go_ret
    exact ⟨rfl, HB6.out⟩
theorem headR_calls (method : ByteArray) (st said : Int) (w : World) (_ : method.size ≤ reachBytes) : Calls Tryd.prog 3 #[.string method, .int .i64 st, .int .i64 said] w fun e w' => e = .returned (.bool true) ∧ Below w.heap.size w w' := headL_calls method st said w
end Go.Proofs.YtififgiicpdndaaDoor.Fw
