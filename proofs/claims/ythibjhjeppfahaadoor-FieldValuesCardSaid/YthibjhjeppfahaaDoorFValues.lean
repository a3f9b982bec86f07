/- FieldValues. -/
import Derived.Test.YthibjhjeppfahaaDoorFFew
import Derived.Test.YthibjhjeppfahaaDoorFAlive
import Derived.Test.YthibjhjeppfahaaDoorFOpen
import Derived.Test.YthibjhjeppfahaaDoorFNames
namespace Go.Proofs.YthibjhjeppfahaaDoor.Fw
open Go.RowKit Go.Proofs.YthibjhjeppfahaaDoor.XFi Go.Proofs.YthibjhjeppfahaaDoorW.PrintWords Go.Proofs.YthibjhjeppfahaaDoorW.PrintLast Go.Proofs.YthibjhjeppfahaaDoorW.PrintMore Go.Proofs.YthibjhjeppfahaaDoor.Ms
theorem one_l (c : UInt8) : (⟨#[c]⟩ : ByteArray).toList = [c] := toList_mk [c]
theorem value_in {s : ByteArray} (hs : s.size ≤ 150) : valueP (⟨#[97]⟩ ++ s ++ ⟨#[97]⟩) = s.toList.all okB := by
  unfold valueP
  rw [toList_app, toList_app, one_l, ByteArray.size_append, ByteArray.size_append, show (⟨#[97]⟩ : ByteArray).size = 1 from rfl]
  rw [decide_eq_true (p := 1 + s.size + 1 ≤ 200) (by omega), List.all_append, List.all_append]
  have h97 : ([97] : List UInt8).all okB = true := by decide
  rw [h97]
  have he : endsB ([97] ++ s.toList ++ [97]) = true := by
    unfold endsB
    rw [List.getLast?_append]
    simp
  rw [he]
  simp
theorem value_left {s : ByteArray} (h : valueP (⟨#[97]⟩ ++ s) = true) : s.toList.all okB = true := by
  unfold valueP at h
  rw [Bool.and_eq_true, toList_app, List.all_append, Bool.and_eq_true] at h
  exact h.1.2
theorem value_good {s : ByteArray} (h : valueP s = true) : s.toList.all okB = true := by
  unfold valueP at h
  rw [Bool.and_eq_true] at h
  exact h.1
theorem value_b1 (s : ByteArray) : valueP (⟨#[32]⟩ ++ s) = false := by
  unfold valueP endsB
  rw [toList_app, one_l]
  simp
theorem value_b2 (s : ByteArray) : valueP (s ++ ⟨#[32]⟩) = false := by
  unfold valueP endsB
  rw [toList_app, one_l, List.getLast?_append]
  simp
theorem value_hi : valueP ⟨#[128, 255]⟩ = true := by kernel_rfl
set_option maxHeartbeats 3200000 in
set_option maxRecDepth 20000 in
theorem values_calls (s : ByteArray) (w : World) (_ : s.size ≤ reachBytes) : Calls Tryd.prog 6 #[.string s] w fun e w' => e = .returned (.bool true) ∧ Below w.heap.size w w' := by
  have HB := Aside0.mk (Below.refl w.heap.size w)
  by_cases h : (s.size : Int) > 150
  · have e1 : decide ((s.size : Int) > 150) = true := decide_eq_true h
    clear h
    go_enter Tryd.func6, Tryd.ntmps6
    go_wp2_with (first
      | (go_at_call 11; refine (alive_c _).mono ?_; rintro e w1 ⟨rfl, hb⟩; have HB2 := Aside0.mk hb; clear hb))
    go_ret
    exact ⟨rfl, HB2.out⟩
  · have e1 : decide ((s.size : Int) > 150) = false := decide_eq_false h
    have e2 : decide ((s.size : Int) ≤ 198) = true := decide_eq_true (by omega)
    have h1 : (⟨#[97]⟩ : ByteArray).size = 1 := rfl
    have h2 : (⟨#[32]⟩ : ByteArray).size = 1 := rfl
    have HV := Aside0.mk (value_c s (by omega))
    have HI := Aside0.mk (inner_c s (by omega))
    have HA := Aside0.mk (value_c (⟨#[97]⟩ ++ s) (by rw [ByteArray.size_append]; omega))
    have HAA := Aside0.mk (value_c (⟨#[97]⟩ ++ s ++ ⟨#[97]⟩) (by rw [ByteArray.size_append, ByteArray.size_append]; omega))
    have HL := Aside0.mk (value_c (⟨#[32]⟩ ++ s) (by rw [ByteArray.size_append]; omega))
    have HR := Aside0.mk (value_c (s ++ ⟨#[32]⟩) (by rw [ByteArray.size_append]; omega))
    have HH := Aside0.mk (value_c ⟨#[128, 255]⟩ (by decide))
    rw [value_in (by omega)] at HAA
    rw [value_b1] at HL
    rw [value_b2] at HR
    rw [value_hi] at HH
    have l1 : ¬ 9223372036854775807 < 1 + s.size := by omega
    have l2 : ¬ 9223372036854775807 < 1 + s.size + 1 := by omega
    have l3 : ¬ 9223372036854775807 < s.size + 1 := by omega
    have hx : valueP (⟨#[97]⟩ ++ s) = true → s.toList.all okB = true := value_left
    have hg : valueP s = true → s.toList.all okB = true := value_good
    generalize valueP (⟨#[97]⟩ ++ s) = X at HA hx
    generalize valueP s = G at HV hg
    generalize s.toList.all okB = I at HI HAA hx hg
    clear h h1 h2
    cases I <;> cases X <;> cases G
    all_goals first
      | (exact absurd (hx rfl) Bool.false_ne_true)
      | (exact absurd (hg rfl) Bool.false_ne_true)
      | skip
    all_goals
      clear hx hg
      go_enter Tryd.func6, Tryd.ntmps6
      go_wp2_with (first
        | (go_at_call 11; refine (alive_c _).mono ?_; rintro e w1 ⟨rfl, hb⟩; clear HB; have HB := Aside0.mk hb; clear hb)
        | (go_at_call 16; (with_reducible refine (HV.out _).mono ?_); rintro e w2 ⟨rfl, hb⟩; have hb2 := below_step HB.out hb; clear HB; have HB := Aside0.mk hb2; clear hb hb2)
        | (go_at_call 16; (with_reducible refine (HAA.out _).mono ?_); rintro e w2 ⟨rfl, hb⟩; have hb2 := below_step HB.out hb; clear HB; have HB := Aside0.mk hb2; clear hb hb2)
        | (go_at_call 16; (with_reducible refine (HA.out _).mono ?_); rintro e w2 ⟨rfl, hb⟩; have hb2 := below_step HB.out hb; clear HB; have HB := Aside0.mk hb2; clear hb hb2)
        | (go_at_call 16; (with_reducible refine (HL.out _).mono ?_); rintro e w2 ⟨rfl, hb⟩; have hb2 := below_step HB.out hb; clear HB; have HB := Aside0.mk hb2; clear hb hb2)
        | (go_at_call 16; (with_reducible refine (HR.out _).mono ?_); rintro e w2 ⟨rfl, hb⟩; have hb2 := below_step HB.out hb; clear HB; have HB := Aside0.mk hb2; clear hb hb2)
        | (go_at_call 16; (with_reducible refine (HH.out _).mono ?_); rintro e w2 ⟨rfl, hb⟩; have hb2 := below_step HB.out hb; clear HB; have HB := Aside0.mk hb2; clear hb hb2)
        | (go_at_call 17; (with_reducible refine (HI.out _).mono ?_); rintro e w2 ⟨rfl, hb⟩; have hb2 := below_step HB.out hb; clear HB; have HB := Aside0.mk hb2; clear hb hb2))
      go_ret
      exact ⟨rfl, HB.out⟩
end Go.Proofs.YthibjhjeppfahaaDoor.Fw
