/- FieldTells, the plain part: a response's status, a length. -/
import Derived.Test.YtififgiicpdndaaGreatDoorFTellsP
namespace Go.Proofs.YtififgiicpdndaaGreatDoor.Fw
open Go.RowKit Go.Proofs.YtififgiicpdndaaGreatDoor.XMi Go.Proofs.YtififgiicpdndaaGreatDoorW.PrintWords Go.Proofs.YtififgiicpdndaaGreatDoorW.PrintLast Go.Proofs.YtififgiicpdndaaGreatDoorW.PrintMore Go.Proofs.YtififgiicpdndaaGreatDoor.Ms
theorem dig_not {c : UInt8} (h : isDig c = false) : c.toNat < 48 ∨ 57 < c.toNat := by
  rcases Nat.lt_or_ge c.toNat 48 with h1 | h1
  · exact .inl h1
  · rcases Nat.lt_or_ge 57 c.toNat with h2 | h2
    · exact .inr h2
    · exact absurd ((isDig_iff c).2 ⟨h1, h2⟩) (by rw [h]; decide)
theorem rlen_l0 (l : List S61) (hl : l.length ≤ 1000000) (s : ByteArray) (m : Nat) : ∀ (rest pre : List S61), l = pre ++ rest → bywashref1_Length.l0 (rest.length + (m + 1)) l s (pre.length : Int) = if rest.any (otherB s) then some (-1, 3) else bywashref1_Length.l1 m s 0 0
  | [], pre, e => by
    rw [List.append_nil] at e
    subst e
    rw [List.length_nil, Nat.zero_add]
    unfold bywashref1_Length.l0
    rw [if_neg (by omega)]
    rfl
  | f :: rest, pre, e => by
    have hp : pre.length < l.length := by rw [e]; simp
    rw [show (f :: rest).length + (m + 1) = (rest.length + (m + 1)) + 1 by simp; omega]
    have ih := rlen_l0 l hl s m rest (pre ++ [f]) (by rw [e]; simp)
    rw [List.length_append, List.length_singleton] at ih
    conv => lhs; unfold bywashref1_Length.l0
    rw [if_pos (by omega), if_pos (by omega), rd_at e, w64_next _ (by omega), List.any_cons]
    unfold otherB at ih ⊢
    by_cases h1 : f.f0.toList = [99, 111, 110, 116, 101, 110, 116, 45, 108, 101, 110, 103, 116, 104]
    · rw [if_pos h1, h1, beq_self_eq_true, Bool.true_and]
      by_cases h2 : f.f1.toList = s.toList
      · rw [if_pos h2, show (f.f1.toList != s.toList) = false by rw [h2]; simp, Bool.false_or]
        exact ih
      · rw [if_neg h2, show (f.f1.toList != s.toList) = true from bne_iff_ne.2 h2, Bool.true_or]
        rfl
    · rw [if_neg h1, beq_eq_false_iff_ne.2 h1, Bool.false_and, Bool.false_or]
      exact ih
theorem num_app (l : List UInt8) (c : UInt8) : numD (l ++ [c]) = numD l * 10 + (c.toNat - 48) := by
  unfold numD
  rw [List.foldl_append]
  rfl
theorem num_lt : ∀ (l : List UInt8) (acc : Nat), l.all isDig = true → l.foldl (fun a c => a * 10 + (c.toNat - 48)) acc < (acc + 1) * 10 ^ l.length
  | [], acc, _ => by simp
  | c :: l, acc, h => by
    rw [List.all_cons, Bool.and_eq_true, isDig_iff] at h
    have ih := num_lt l (acc * 10 + (c.toNat - 48)) h.2
    rw [List.foldl_cons, List.length_cons, Nat.pow_succ]
    refine Nat.lt_of_lt_of_le ih ?_
    have : acc * 10 + (c.toNat - 48) + 1 ≤ (acc + 1) * 10 := by omega
    calc _ ≤ (acc + 1) * 10 * 10 ^ l.length := Nat.mul_le_mul_right _ this
      _ = _ := by rw [Nat.mul_assoc, Nat.mul_comm 10]
theorem rlen_l1 (s : ByteArray) (hs : s.size ≤ 1000000) : ∀ (rest pre : List UInt8) (k : Nat), s.toList = pre ++ rest → rest.length * 2 + 1 ≤ k → pre.all isDig = true → pre.length ≤ 9 →
    bywashref1_Length.l1 k s ((numD pre : Nat) : Int) (pre.length : Int) = some (if rest.all isDig && decide (pre.length + rest.length ≤ 9) && !(s.toList == []) then (((numD s.toList : Nat) : Int), 0) else (-1, 3))
  | [], pre, k, e, hk, _, h9 => by
    obtain ⟨k, rfl⟩ : ∃ m, k = m + 1 := ⟨k - 1, by omega⟩
    have hp : pre.length = s.size := by rw [size_list, e, List.append_nil]
    unfold bywashref1_Length.l1
    rw [if_neg (by omega), List.all_nil, Bool.true_and, List.length_nil, decide_eq_true (p := pre.length + 0 ≤ 9) (by omega), Bool.true_and]
    by_cases h : s.toList = []
    · rw [if_pos h, h]
      rfl
    · rw [if_neg h, beq_eq_false_iff_ne.2 h, e, List.append_nil]
      rfl
  | c :: rest, pre, k, e, hk, hd, h9 => by
    rw [List.length_cons] at hk
    obtain ⟨k, rfl⟩ : ∃ m, k = m + 1 + 1 := ⟨k - 2, by omega⟩
    have hp : pre.length < s.size := by rw [size_list, e]; simp
    have hnum : numD pre < 10 ^ pre.length := by
      have := num_lt pre 0 hd
      rw [Nat.zero_add, Nat.one_mul] at this
      exact this
    have h109 : (10 : Nat) ^ pre.length ≤ 10 ^ 9 := Nat.pow_le_pow_right (by decide) h9
    conv => lhs; unfold bywashref1_Length.l1
    rw [if_pos (by omega), if_pos (by omega), bt_at e]
    have hj : ∀ b : Bool, bywashref1_Length.j2 (k + 1) s ((numD pre : Nat) : Int) (pre.length : Int) b = if b = true then some (-1, 3) else (if (pre.length : Int) ≥ 9 then (some ((-1), 3)) else (bywashref1_Length.l1 k s (wrap64 ((wrap64 (10 * ((numD pre : Nat) : Int))) + (((c.toNat : Int) - 48) % 256))) (wrap64 ((pre.length : Int) + 1)))) := fun b => by
      conv => lhs; unfold bywashref1_Length.j2
      rw [bt_at e]
      by_cases hb : b = true
      · rw [if_pos hb, if_pos hb]
      · rw [if_neg hb, if_neg hb, if_pos (by omega), if_pos (by omega)]
    rw [hj, hj]
    rw [List.all_cons]
    cases hc : isDig c with
    | false =>
      rw [Bool.false_and, Bool.false_and, Bool.false_and, if_neg Bool.false_ne_true]
      rcases dig_not hc with h | h
      · rw [if_pos (by omega), if_pos (Eq.refl true)]
      · rw [if_neg (by omega), decide_eq_true (p := (c.toNat : Int) > 57) (by omega), if_pos (Eq.refl true)]
    | true =>
      have hc' := (isDig_iff c).1 hc
      rw [if_neg (by omega), decide_eq_false (p := (c.toNat : Int) > 57) (by omega), if_neg Bool.false_ne_true, Bool.true_and, List.length_cons]
      by_cases h : 9 ≤ pre.length
      · rw [if_pos (by omega), decide_eq_false (p := pre.length + (rest.length + 1) ≤ 9) (by omega), Bool.and_false, Bool.false_and, if_neg Bool.false_ne_true]
      · rw [if_neg (by omega), w64_next _ (by omega)]
        have x1 : wrap64 (10 * ((numD pre : Nat) : Int)) = 10 * ((numD pre : Nat) : Int) := w64_in (10 * ((numD pre : Nat) : Int)) (by omega)
        have x2 : wrap64 (10 * ((numD pre : Nat) : Int) + (((c.toNat : Int) - 48) % 256)) = ((numD (pre ++ [c]) : Nat) : Int) := by
          rw [w64_in (10 * ((numD pre : Nat) : Int) + (((c.toNat : Int) - 48) % 256)) (by omega), num_app]
          omega
        rw [x1, x2]
        clear x1 x2 hj
        have ih := rlen_l1 s hs rest (pre ++ [c]) k (by rw [e]; simp) (by omega) (by rw [List.all_append, hd, List.all_cons, hc]; rfl) (by simp; omega)
        rw [List.length_append, List.length_singleton] at ih
        rw [ih, show pre.length + 1 + rest.length = pre.length + (rest.length + 1) by omega]
theorem len_ref (k : Nat) (l : List S61) (hS : Sized l) (hk : l.length * 8 + 300000 ≤ k) : bywashref1_Length.f k l = some (lenQ l) := by
  have hll := hS.len
  unfold bywashref1_Length.f
  rw [show (⟨#[99, 111, 110, 116, 101, 110, 116, 45, 108, 101, 110, 103, 116, 104]⟩ : ByteArray) = lenB from rfl, rfield_eq k lenB l (by omega) (by omega), Option.bind_some]
  unfold lenQ
  cases h : getP lenB l with
  | none => rfl
  | some s =>
    show (if true = true then bywashref1_Length.l0 k l s 0 else _) = some (if l.any (otherB s) || !digP s || decide ((s.size : Int) > 9) then (-1, 3) else (((numD s.toList : Nat) : Int), 0))
    obtain ⟨f, hf, hfs⟩ := getP_mem h
    have hsz : s.size ≤ 100000 := hfs ▸ (hS.sz f hf).2
    obtain ⟨m, rfl⟩ : ∃ m, k = l.length + (m + 1) := ⟨k - l.length - 1, by omega⟩
    have h1 := rlen_l0 l (by omega) s m l [] rfl
    rw [show (([] : List S61).length : Int) = 0 from rfl] at h1
    rw [if_pos (Eq.refl true), h1]
    have hb := size_list s
    have h2 := rlen_l1 s (by omega) s.toList [] m rfl (by omega) rfl (by decide)
    rw [show (([] : List UInt8).length : Int) = 0 from rfl, show ((numD [] : Nat) : Int) = 0 from rfl, List.length_nil, Nat.zero_add, ← hb] at h2
    rw [h2]
    cases l.any (otherB s)
    · unfold digP
      rw [if_neg Bool.false_ne_true, Bool.false_or]
      by_cases h9 : s.size ≤ 9
      · rw [decide_eq_true h9, decide_eq_false (p := (s.size : Int) > 9) (by omega)]
        cases s.toList.all isDig <;> cases (s.toList == []) <;> rfl
      · rw [decide_eq_false h9, decide_eq_true (p := (s.size : Int) > 9) (by omega)]
        cases s.toList.all isDig <;> cases (s.toList == []) <;> rfl
    · rfl
end Go.Proofs.YtififgiicpdndaaGreatDoor.Fw
