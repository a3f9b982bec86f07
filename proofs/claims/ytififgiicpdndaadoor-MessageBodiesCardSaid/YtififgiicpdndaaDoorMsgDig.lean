/- MessageHead's digits. -/
import Derived.Test.YtififgiicpdndaaDoorMsgEarly
namespace Go.Proofs.YtififgiicpdndaaDoor.Fw
open Go.RowKit Go.Proofs.YtififgiicpdndaaDoor.XMi Go.Proofs.YtififgiicpdndaaDoorW.PrintWords Go.Proofs.YtififgiicpdndaaDoorW.PrintLast Go.Proofs.YtififgiicpdndaaDoorW.PrintMore Go.Proofs.YtififgiicpdndaaDoor.Ms Go.Proofs.YtififgiicpdndaaDoor.Ob
set_option maxHeartbeats 1600000 in
set_option maxRecDepth 20000 in
theorem dig_c (m : Nat) (h : m ≤ 100000) (w : World) : Calls Tryd.prog 11 #[.int .i64 m] w fun e w' => e = .returned (.string (digT m)) ∧ Below w.heap.size w w' := by
  have HM : Aside0 (m ≤ 100000) := ⟨h⟩
  have HB3 := Aside0.mk (Below.refl w.heap.size w)
  clear h
  go_enter Tryd.func11, Tryd.ntmps11
  go_wp2
  go_loopg [0, 3] 7 (fun kq v6 v5 w' => ∃ (v : Nat) (d : List UInt8), v5 = .string ⟨d.toArray⟩ ∧ v6 = .int .i64 v ∧ Aside0 (1 ≤ kq ∧ v < 10 ^ (kq - 1) ∧ (d = [] → kq = 7) ∧ d.length + kq ≤ 7 ∧ fin (kq - 1) v d = digsF 6 m) ∧ Aside0 (Below w.heap.size w w'))
  case atStart => exact ⟨m, [], rfl, rfl, ⟨by omega, by have := HM.out; omega, fun _ => rfl, by simp, by simp [fin]⟩, HB3⟩
  case round =>
    obtain ⟨v, d, rfl, rfl, HJ, HW⟩ := hrel
    by_cases hv : v = 0 ∧ d ≠ []
    · obtain ⟨rfl, hd⟩ := hv
      have hd2 : d = digsF 6 m := by
        have := HJ.out.2.2.2.2
        unfold fin at this
        rw [if_pos ⟨rfl, hd⟩] at this
        exact this
      subst hd2
      have hde : ((⟨(digsF 6 m).toArray⟩ : ByteArray).toList == []) = false := by
        rw [toList_mk]
        exact beq_eq_false_iff_ne.2 hd
      have hde2 : ¬ (⟨(digsF 6 m).toArray⟩ : ByteArray).toList = [] := by
        rw [toList_mk]
        exact hd
      clear hd HJ
      generalize hds : (⟨(digsF 6 m).toArray⟩ : ByteArray) = ds at hde hde2 ⊢
      have HE := Aside0.mk hds
      clear hds
      go_wp2
      go_ret
      exact ⟨congrArg (fun x => Ending.returned (.string x)) HE.out.symm, HW.out⟩
    · have HV := Aside0.mk hv
      have hz : ¬ (10 : Int) = 0 := by decide
      have hlen : d.length ≤ 6 := by have := HJ.out; omega
      have HR := Aside0.mk (round_dig HV.out HJ.out)
      by_cases h0 : v = 0
      · subst h0
        obtain rfl : d = [] := Classical.byContradiction fun h => HV.out ⟨rfl, h⟩
        have hcv : ∀ W : World, (convert 23 9 (.slice (some ⟨W.heap.size, 0, none⟩) 1 1)).run Tryd.prog (W.alloc (.cells #[.int .u8 48] 5)) = .ok (.string ⟨#[digC 0]⟩) (W.alloc (.cells #[.int .u8 48] 5)) := fun W => conv_digit W 0
        clear hv
        go_wp2
        go_roundg (gk - 1)
        case measure => have := HJ.out; omega
        case rel =>
          exact ⟨0, [digC 0], congrArg Value.string (cat_digit 0 []), rfl, HR, ⟨below_alloc HW.out _⟩⟩
      · have hcv : ∀ W : World, (convert 23 9 (.slice (some ⟨W.heap.size, 0, none⟩) 1 1)).run Tryd.prog (W.alloc (.cells #[.int .u8 (48 + (v : Int) % 10)] 5)) = .ok (.string ⟨#[digC v]⟩) (W.alloc (.cells #[.int .u8 (48 + (v : Int) % 10)] 5)) := fun W => conv_digit W v
        have ht1 : ((v : Int)).tmod 10 = (v : Int) % 10 := Int.tmod_eq_emod_of_nonneg (by omega)
        have ht2 : ((v : Int)).tdiv 10 = ((v / 10 : Nat) : Int) := by rw [Int.tdiv_eq_ediv_of_nonneg (by omega)]; omega
        have hp : decide (0 < v) = true := decide_eq_true (by omega)
        have hsz : ¬ 9223372036854775807 < 1 + d.length := by omega
        have HWR : Aside0 (wrap64 ((v : Int) / 10) = ((v / 10 : Nat) : Int)) := ⟨by rw [w64_in ((v : Int) / 10) (by have := HJ.out.2.1; have h9 : (10 : Nat) ^ (gk - 1) ≤ 10 ^ 6 := Nat.pow_le_pow_right (by decide) (by have := HJ.out; omega); omega)]; omega⟩
        have H0 := Aside0.mk h0
        clear hv h0 hlen
        go_wp2
        go_roundg (gk - 1)
        case measure => have := HJ.out; omega
        case rel =>
          exact ⟨v / 10, digC v :: d, congrArg Value.string (cat_digit v d), congrArg (Value.int .i64) HWR.out, HR, ⟨below_alloc HW.out _⟩⟩
theorem dig_i (n : Int) (h : 0 ≤ n ∧ n ≤ 100000) (w : World) : Calls Tryd.prog 11 #[.int .i64 n] w fun e w' => e = .returned (.string (digT n.toNat)) ∧ Below w.heap.size w w' := by
  obtain ⟨m, rfl⟩ : ∃ m : Nat, n = (m : Int) := ⟨n.toNat, by omega⟩
  exact dig_c m (by omega) w
theorem lit2 (w : World) (a b c d : ByteArray) : k30.C (w.alloc (.cells #[.string a, .string b, .string c, .string d] 30)) (some ⟨w.heap.size, 0, none⟩) 2 [⟨a, b⟩, ⟨c, d⟩] := flds_of (heap_alloc_new w _) [] [⟨a, b⟩, ⟨c, d⟩] [] rfl (by simp)
end Go.Proofs.YtififgiicpdndaaDoor.Fw
