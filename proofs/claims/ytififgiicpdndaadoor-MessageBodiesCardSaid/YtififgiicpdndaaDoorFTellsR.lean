/- FieldTells, the plain part: a response's status, a length. -/
import Derived.Test.YtififgiicpdndaaDoorFTellsP
namespace Go.Proofs.YtififgiicpdndaaDoor.Fw
open Go.RowKit Go.Proofs.YtififgiicpdndaaDoor.XMi Go.Proofs.YtififgiicpdndaaDoorW.PrintWords Go.Proofs.YtififgiicpdndaaDoorW.PrintLast Go.Proofs.YtififgiicpdndaaDoorW.PrintMore Go.Proofs.YtififgiicpdndaaDoor.Ms
def lessP (l : List UInt8) : Bool := !(Op.bytesLess l [49, 48, 48]) && (Op.bytesLess l [53, 57, 57] || l == [53, 57, 57])
theorem less_all : ∀ i, i < 10 → ∀ j, j < 10 → ∀ q, q < 10 → lessP [UInt8.ofNat (48 + i), UInt8.ofNat (48 + j), UInt8.ofNat (48 + q)] = decide (100 ≤ 100 * i + 10 * j + q ∧ 100 * i + 10 * j + q ≤ 599) := by decide +kernel
theorem dig_nat {c : UInt8} (h : isDig c = true) : ∃ i, i < 10 ∧ c = UInt8.ofNat (48 + i) ∧ c.toNat = 48 + i := by
  rw [isDig_iff] at h
  refine ⟨c.toNat - 48, by omega, ?_, by omega⟩
  rw [show 48 + (c.toNat - 48) = c.toNat by omega]
  exact (UInt8.ofNat_toNat).symm
theorem dig_not {c : UInt8} (h : isDig c = false) : c.toNat < 48 ∨ 57 < c.toNat := by
  rcases Nat.lt_or_ge c.toNat 48 with h1 | h1
  · exact .inl h1
  · rcases Nat.lt_or_ge 57 c.toNat with h2 | h2
    · exact .inr h2
    · exact absurd ((isDig_iff c).2 ⟨h1, h2⟩) (by rw [h]; decide)
theorem dig_round (c : UInt8) (X : Option Int) : (if (c.toNat : Int) < 48 then (some (0 : Int)) else (if (c.toNat : Int) > 57 then (some 0) else X)) = if isDig c = true then X else some 0 := by
  cases h : isDig c with
  | true =>
    rw [isDig_iff] at h
    rw [if_neg (by omega), if_neg (by omega), if_pos (Eq.refl true)]
  | false =>
    rw [if_neg Bool.false_ne_true]
    rcases dig_not h with h | h
    · rw [if_pos (by omega)]
    · rw [if_neg (by omega), if_pos (by omega)]
theorem three_of {v : ByteArray} (h : v.size = 3) : ∃ a b c, v.toList = [a, b, c] := by
  have hl : v.toList.length = 3 := by rw [← size_list]; exact h
  generalize v.toList = l at hl
  match l, hl with
  | [a, b, c], _ => exact ⟨a, b, c, rfl⟩
theorem num_app (l : List UInt8) (c : UInt8) : numD (l ++ [c]) = numD l * 10 + (c.toNat - 48) := by
  unfold numD
  rw [List.foldl_append]
  rfl
theorem num_lt : ∀ (l : List UInt8) (acc : Nat), l.all isDig = true → l.foldl (fun a c => a * 10 + (c.toNat - 48)) acc < (acc + 1) * 10 ^ l.length
  | [], acc, _ => by simp
  | c :: l, acc, h => by
    rw [List.all_cons, Bool.and_eq_true, isDig_iff] at h
    have ih := num_lt l (acc * 10 + (c.toNat - 48)) h.2
    rw [List.foldl_cons, List.length_cons, Nat.pow_succ]
    refine Nat.lt_of_lt_of_le ih ?_
    have : acc * 10 + (c.toNat - 48) + 1 ≤ (acc + 1) * 10 := by omega
    calc _ ≤ (acc + 1) * 10 * 10 ^ l.length := Nat.mul_le_mul_right _ this
      _ = _ := by rw [Nat.mul_assoc, Nat.mul_comm 10]
end Go.Proofs.YtififgiicpdndaaDoor.Fw
