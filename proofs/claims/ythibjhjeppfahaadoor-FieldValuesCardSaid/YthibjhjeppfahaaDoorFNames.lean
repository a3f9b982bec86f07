/- FieldNames. -/
import Derived.Test.YthibjhjeppfahaaDoorFAlive
namespace Go.Proofs.YthibjhjeppfahaaDoor.Fw
open Go.RowKit Go.Proofs.YthibjhjeppfahaaDoor.XFi Go.Proofs.YthibjhjeppfahaaDoorW.PrintWords Go.Proofs.YthibjhjeppfahaaDoorW.PrintLast Go.Proofs.YthibjhjeppfahaaDoorW.PrintMore Go.Proofs.YthibjhjeppfahaaDoor.Ms
theorem toList_app (s t : ByteArray) : (s ++ t).toList = s.toList ++ t.toList := by
  rw [Go.Lib.toList_data, Go.Lib.toList_data, Go.Lib.toList_data, ByteArray.data_append, Array.toList_append]
theorem name_app (s t : ByteArray) : nameP (s ++ t) = ((nameP s || s.toList == []) && (nameP t || t.toList == []) && !((s ++ t).toList == []) && decide ((s.size : Int) + t.size ≤ 40)) := by
  unfold nameP
  rw [toList_app, List.all_append, ByteArray.size_append, size_list s, size_list t]
  generalize s.toList = l
  generalize t.toList = m
  have e : decide ((l.length : Int) + m.length ≤ 40) = decide (l.length + m.length ≤ 40) := decide_eq_decide.2 (by omega)
  rw [e]
  by_cases h : l.length + m.length ≤ 40
  · rw [decide_eq_true h, decide_eq_true (p := l.length ≤ 40) (by omega), decide_eq_true (p := m.length ≤ 40) (by omega)]
    cases l <;> cases m <;> simp
  · rw [decide_eq_false h]
    simp
theorem name_no (s t : ByteArray) (c : UInt8) (hc : letterP c = false) : nameP (s ++ ⟨#[c]⟩ ++ t) = false := by
  unfold nameP
  rw [toList_app, toList_app, show (⟨#[c]⟩ : ByteArray).toList = [c] from toList_mk [c], List.all_append, List.all_append, List.all_cons, hc]
  simp
set_option maxHeartbeats 3200000 in
set_option maxRecDepth 20000 in
theorem names_calls (s t : ByteArray) (w : World) (hs : s.size ≤ reachBytes) (ht : t.size ≤ reachBytes) : Calls Tryd.prog 3 #[.string s, .string t] w fun e w' => e = .returned (.bool true) ∧ Below w.heap.size w w' := by
  have hr := reachBytes_lt
  have hw : wrap64 ((s.size : Int) + t.size) = (s.size : Int) + t.size := w64_in ((s.size : Int) + t.size) (by omega)
  by_cases h : (s.size : Int) + t.size > 100
  · have e1 : decide ((s.size : Int) + t.size > 100) = true := decide_eq_true h
    clear h hs ht hr
    go_enter Tryd.func3, Tryd.ntmps3
    go_wp2_with (first
      | (go_at_call 11; refine (alive_c _).mono ?_; rintro e w1 ⟨rfl, hb⟩; have HB := Aside0.mk hb; clear hb))
    go_ret
    exact ⟨rfl, HB.out⟩
  · have e1 : decide ((s.size : Int) + t.size > 100) = false := decide_eq_false h
    have HS : Aside0 (s.size + t.size ≤ 100) := ⟨by omega⟩
    have HA : Aside0 (∀ w, Calls Tryd.prog 12 #[.string s] w fun e w' => e = .returned (.bool (nameP s)) ∧ Below w.heap.size w w') := ⟨name_c s (by omega)⟩
    have HT : Aside0 (∀ w, Calls Tryd.prog 12 #[.string t] w fun e w' => e = .returned (.bool (nameP t)) ∧ Below w.heap.size w w') := ⟨name_c t (by omega)⟩
    have HST : Aside0 (∀ w, Calls Tryd.prog 12 #[.string (s ++ t)] w fun e w' => e = .returned (.bool (nameP (s ++ t))) ∧ Below w.heap.size w w') := ⟨name_c (s ++ t) (by rw [ByteArray.size_append]; omega)⟩
    have h1 : (⟨#[58]⟩ : ByteArray).size = 1 := rfl
    have h2 : (⟨#[65]⟩ : ByteArray).size = 1 := rfl
    have HC : Aside0 (∀ w, Calls Tryd.prog 12 #[.string (s ++ ⟨#[58]⟩ ++ t)] w fun e w' => e = .returned (.bool false) ∧ Below w.heap.size w w') := ⟨fun w => by rw [← name_no s t 58 (by decide)]; exact name_c _ (by rw [ByteArray.size_append, ByteArray.size_append, h1]; omega) w⟩
    have HD : Aside0 (∀ w, Calls Tryd.prog 12 #[.string (s ++ ⟨#[65]⟩ ++ t)] w fun e w' => e = .returned (.bool false) ∧ Below w.heap.size w w') := ⟨fun w => by rw [← name_no s t 65 (by decide)]; exact name_c _ (by rw [ByteArray.size_append, ByteArray.size_append, h2]; omega) w⟩
    have l1 : ¬ 9223372036854775807 < s.size + t.size := by omega
    have l2 : ¬ 9223372036854775807 < s.size + 1 := by omega
    have l3 : ¬ 9223372036854775807 < s.size + 1 + t.size := by omega
    have hN := name_app s t
    clear h hs ht hr h1 h2
    generalize nameP (s ++ t) = n at HST hN
    generalize nameP s = a at HA hN
    generalize nameP t = b at HT hN
    generalize hp : (s.toList == []) = p at hN
    generalize hq : (t.toList == []) = q at hN
    generalize hpq : ((s ++ t).toList == []) = pq at hN
    have hpq1 : ((s ++ t).toList != []) = !pq := by rw [bne, hpq]
    generalize hL : decide ((s.size : Int) + t.size ≤ 40) = L at hN
    subst hN
    cases a <;> cases b <;> cases p <;> cases q <;> cases pq <;> cases L
    all_goals
      go_enter Tryd.func3, Tryd.ntmps3
      go_wp2_with (first
        | (go_at_call 11; refine (alive_c _).mono ?_; rintro e w1 ⟨rfl, hb⟩; have HB := Aside0.mk hb; clear hb)
        | (go_at_call 12; (with_reducible refine (HA.out _).mono ?_); rintro e w2 ⟨rfl, hb⟩; have HB2 := Aside0.mk (below_step HB.out hb); clear hb HB HA)
        | (go_at_call 12; (with_reducible refine (HT.out _).mono ?_); rintro e w3 ⟨rfl, hb⟩; have HB3 := Aside0.mk (below_step HB2.out hb); clear hb HB2 HT)
        | (go_at_call 12; (with_reducible refine (HST.out _).mono ?_); rintro e w4 ⟨rfl, hb⟩; have HB4 := Aside0.mk (below_step HB3.out hb); clear hb HB3 HST)
        | (go_at_call 12; (with_reducible refine (HC.out _).mono ?_); rintro e w5 ⟨rfl, hb⟩; have HB5 := Aside0.mk (below_step HB4.out hb); clear hb HB4 HC)
        | (go_at_call 12; (with_reducible refine (HD.out _).mono ?_); rintro e w6 ⟨rfl, hb⟩; have HB6 := Aside0.mk (below_step HB5.out hb); clear hb HB5 HD))
      go_ret
      exact ⟨rfl, HB6.out⟩
end Go.Proofs.YthibjhjeppfahaaDoor.Fw
