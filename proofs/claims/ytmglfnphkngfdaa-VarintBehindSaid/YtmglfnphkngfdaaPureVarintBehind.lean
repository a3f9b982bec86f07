/- What stands behind a number does not matter, for every number of bits, number and text; no condition. -/
import Derived.Test.YtmglfnphkngfdaaPVarintBehindx2
import Derived.Test.YtmglfnphkngfdaaVmath
namespace Go.Proofs.Ytmglfnphkngfdaa.Pure
open Go.RowKit Go.Proofs.Ytmglfnphkngfdaa.PVarintBehind Go.Proofs.YtmglfnphkngfdaaW.PrintWords Go.Proofs.YtmglfnphkngfdaaW.PrintLast Go.Proofs.YtmglfnphkngfdaaW.PrintMore
open Go.Proofs.Ytmglfnphkngfdaa.Vm

theorem put_l0 : ∀ (f k : Nat) (acc : List Int) (r : Nat), r < 128 ^ (f + 1) → r ≤ 2147483647 → f < k → acc.length + f + 1 < 140737488355328 →
    varint_Put.l0 k acc (r : Int) = some (strOfNums (acc ++ (leb f r).map fun (n : Nat) => (n : Int)), true)
  | 0, k, acc, r, hr, hm, hk, hl => by
    obtain ⟨k, rfl⟩ : ∃ m, k = m + 1 := ⟨k - 1, by omega⟩
    simp at hr
    simp only [varint_Put.l0]
    rw [if_neg (by omega), if_pos (by omega)]
    have e : (r : Int) % 256 = r := by omega
    rw [e]; rfl
  | f + 1, k, acc, r, hr, hm, hk, hl => by
    obtain ⟨k, rfl⟩ : ∃ m, k = m + 1 := ⟨k - 1, by omega⟩
    simp only [varint_Put.l0]
    unfold leb
    by_cases h : r ≥ 128
    · rw [if_pos (by omega), if_pos (by omega), if_pos h]
      have e1 : Int.tmod (r : Int) 128 % 256 = ((r % 128 : Nat) : Int) := by
        rw [Int.tmod_eq_emod_of_nonneg (by omega)]; omega
      have e2 : wrap64 (Int.tdiv (r : Int) 128) = ((r / 128 : Nat) : Int) := by
        rw [Int.tdiv_eq_ediv_of_nonneg (by omega)]; unfold wrap64; omega
      have e3 : Go.bits .or .u8 128 ((r % 128 : Nat) : Int) = ((128 + r % 128 : Nat) : Int) := by
        have := or_u8 128 (r % 128) (by omega) (by omega)
        rw [or_add 128 7 (r % 128) (by decide) (by omega)] at this
        exact this
      rw [e1, e2, e3]
      have hlt : r / 128 < 128 ^ (f + 1) := by
        have : 128 ^ (f + 1 + 1) = 128 * 128 ^ (f + 1) := by rw [Nat.pow_succ]; omega
        omega
      rw [put_l0 f k _ (r / 128) hlt (by omega) (by omega) (by simp; omega)]
      simp
    · rw [if_neg (by omega), if_pos (by omega), if_neg h]
      have e : (r : Int) % 256 = r := by omega
      rw [e]; rfl

theorem put_yes (F j n k : Nat) (h1 : 1 ≤ j) (h8 : j ≤ 8) (hF : F < 256) (hd : F % 2 ^ j = 0) (hn : n ≤ 2147483647) (hk : 6 < k) :
    varint_Put.f k F j n = some (strOfNums ((enc F j n).map fun (n : Nat) => (n : Int)), true) := by
  obtain ⟨k, rfl⟩ : ∃ m, k = m + 1 := ⟨k - 1, by omega⟩
  obtain ⟨j', hj', _, _, hp2, hp8⟩ := bits18 (j : Int) (by omega) (by omega)
  obtain rfl : j = j' := by omega
  have hm := mask j h8 hp2 hp8
  have hand : Go.bits .and .i64 (wrap64 (F : Int)) (((2 ^ j - 1 : Nat) : Int)) = 0 := by
    rw [wrap64_small _ (by omega) (by omega), and_i64 _ _ (by omega) (by omega), Nat.and_two_pow_sub_one_eq_mod, hd]; rfl
  unfold varint_Put.f
  rw [if_neg (by omega), if_neg (by omega), if_neg (by omega)]
  rw [show decide ((n : Int) > 2147483647) = false from by simp; omega]
  simp only [varint_Put.j0]
  rw [if_neg (by decide), if_pos (by omega), hm, if_pos hand]
  unfold enc
  by_cases hlt : n < 2 ^ j - 1
  · rw [if_pos (by omega), if_pos hlt]
    have e : (n : Int) % 256 = (n : Int) := by omega
    rw [e, or_u8 F n hF (by omega), or_add F j n hd (by omega)]
    simp
  · rw [if_neg (by omega), if_neg hlt]
    have e : (((2 ^ j - 1 : Nat) : Int)) % 256 = ((2 ^ j - 1 : Nat) : Int) := by omega
    have e2 : wrap64 ((n : Int) - ((2 ^ j - 1 : Nat) : Int)) = ((n - (2 ^ j - 1) : Nat) : Int) := by unfold wrap64; omega
    rw [e, e2, or_u8 F _ hF (by omega), or_add F j _ hd (by omega)]
    rw [put_l0 4 k _ _ (lt_leb hn _) (by omega) (by omega) (by simp)]
    simp

theorem put_no (first bits n : Int) (k : Nat) (hf0 : 0 ≤ first) (hf : first < 256) (hk : 6 < k)
    (h : bits < 1 ∨ bits > 8 ∨ n < 0 ∨ n > 2147483647 ∨ first.toNat % 2 ^ bits.toNat ≠ 0) :
    varint_Put.f k first bits n = some ((⟨#[]⟩ : ByteArray), false) := by
  obtain ⟨k, rfl⟩ : ∃ m, k = m + 1 := ⟨k - 1, by omega⟩
  unfold varint_Put.f
  simp only [varint_Put.j0]
  by_cases g1 : bits < 1
  · rw [if_pos g1]; rfl
  rw [if_neg g1]
  by_cases g2 : bits > 8
  · rw [if_pos g2]; rfl
  rw [if_neg g2]
  by_cases g3 : n < 0
  · rw [if_pos g3]; rfl
  rw [if_neg g3]
  by_cases g4 : n > 2147483647
  · rw [if_pos (by simpa using g4)]
  rw [if_neg (by simpa using g4)]
  obtain ⟨j, rfl, h1, h8, hp2, hp8⟩ := bits18 bits (by omega) (by omega)
  rw [if_pos (by omega)]
  rw [mask j h8 hp2 hp8]
  obtain ⟨F, rfl⟩ := Int.eq_ofNat_of_zero_le hf0
  rw [wrap64_small _ (by omega) (by omega), and_i64 _ _ (by omega) (by omega), Nat.and_two_pow_sub_one_eq_mod]
  rw [if_neg]
  simp only [Int.toNat_natCast] at h
  omega

/-- Either a number may be put so, or it may not. -/
theorem put_any (first bits n : Int) (hf0 : 0 ≤ first) (hf : first < 256) :
    (∃ F j N : Nat, first = F ∧ bits = j ∧ n = N ∧ 1 ≤ j ∧ j ≤ 8 ∧ F < 256 ∧ F % 2 ^ j = 0 ∧ N ≤ 2147483647) ∨
    (bits < 1 ∨ bits > 8 ∨ n < 0 ∨ n > 2147483647 ∨ first.toNat % 2 ^ bits.toNat ≠ 0) := by
  by_cases g1 : bits < 1
  · exact .inr (.inl g1)
  by_cases g2 : bits > 8
  · exact .inr (.inr (.inl g2))
  by_cases g3 : n < 0
  · exact .inr (.inr (.inr (.inl g3)))
  by_cases g4 : n > 2147483647
  · exact .inr (.inr (.inr (.inr (.inl g4))))
  by_cases g5 : first.toNat % 2 ^ bits.toNat ≠ 0
  · exact .inr (.inr (.inr (.inr (.inr g5))))
  exact .inl ⟨first.toNat, bits.toNat, n.toNat, by omega, by omega, by omega, by omega, by omega, by omega, by omega, by omega⟩

theorem round_get (c i n : Nat) (l : List Nat) (h5 : i ≤ 5) : ∃ p : Nat, p ≤ 34091302912 ∧
    shl .i64 ((c % 128 : Nat) : Int) ((7 * (i - 1) : Nat) : Int) = (p : Int) ∧
    getL (c :: l) i n = (if n + p > 2147483647 ∨ c ≥ 128 ∧ i = 5 then (0, 0, 4) else if c < 128 then (n + p, i + 1, 0) else getL l (i + 1) (n + p)) := by
  have hp : 2 ^ (7 * (i - 1)) ≤ 268435456 := by
    calc 2 ^ (7 * (i - 1)) ≤ 2 ^ 28 := Nat.pow_le_pow_right (by omega) (by omega)
      _ = 268435456 := rfl
  have hm : c % 128 ≤ 127 := Nat.le_of_lt_succ (Nat.mod_lt _ (by decide))
  have hprod := small_mul _ _ hm hp
  refine ⟨c % 128 * 2 ^ (7 * (i - 1)), hprod, shl_i64 _ _ (by omega) ?_, rfl⟩
  exact Nat.lt_of_le_of_lt hprod (by decide)

theorem get_l0 (b : ByteArray) (_ : b.size ≤ 4611686018427387904) : ∀ (d k i n : Nat), b.size - i = d → i ≤ b.size → 1 ≤ i → i ≤ 5 → n ≤ 2147483647 → 2 * d < k →
    varint_Get.l0 k b (n : Int) (i : Int) = some (ii (getL ((nats b).drop i) i n)) := by
  intro d
  induction d with
  | zero =>
    intro k i n hd hi h1 h5 hn hk
    obtain ⟨k, rfl⟩ : ∃ m, k = m + 1 := ⟨k - 1, by omega⟩
    simp only [varint_Get.l0]
    rw [if_neg (by omega)]
    rw [List.drop_of_length_le (by rw [nats_length]; omega)]
    rfl
  | succ d ih =>
    intro k i n hd hi h1 h5 hn hk
    obtain ⟨k, rfl⟩ : ∃ m, k = m + 1 + 1 := ⟨k - 2, by omega⟩
    have hlt : i < b.size := by omega
    rw [nats_drop b i hlt]
    have hc := by_lt b i
    generalize hC : by_ b i = c at hc ⊢
    have hbt : bt b (i : Int) = (c : Int) := by rw [bt_nat, hC]
    have e1 : wrap64 (7 * wrap64 ((i : Int) - 1)) = ((7 * (i - 1) : Nat) : Int) := by unfold wrap64; omega
    have e2 : wrap64 (Int.tmod (c : Int) 128) = ((c % 128 : Nat) : Int) := by
      rw [Int.tmod_eq_emod_of_nonneg (by omega)]; unfold wrap64; omega
    obtain ⟨p, hp34, e3, hg⟩ := round_get c i n ((nats b).drop (i + 1)) h5
    simp only [varint_Get.l0, varint_Get.j2]
    rw [hbt, e1, e2, e3, hg]
    clear hg e1 e2 e3 hbt
    rw [if_pos (by omega), if_pos (by omega), if_pos (by omega)]
    have e4 : wrap64 ((n : Int) + (p : Int)) = ((n + p : Nat) : Int) := by unfold wrap64; omega
    rw [e4]; clear e4
    by_cases g : n + p > 2147483647
    · rw [if_pos (by omega), if_pos trivial, if_pos (.inl g)]; rfl
    · have e5 : wrap64 ((i : Int) + 1) = ((i + 1 : Nat) : Int) := by unfold wrap64; omega
      rw [e5]; clear e5
      rw [if_neg (by omega)]
      by_cases gc : c ≥ 128
      · rw [if_pos (by omega)]
        by_cases g5 : i = 5
        · rw [if_pos (by subst g5; rfl), if_pos (.inr ⟨gc, g5⟩)]; rfl
        · rw [if_neg (by simp; omega), if_pos (by omega), if_pos (by omega), if_neg (by omega), if_neg (by omega), if_neg (by omega)]
          exact ih k (i + 1) (n + p) (by omega) (by omega) (by omega) (by omega) (by omega) (by omega)
      · rw [if_neg (by omega), if_neg Bool.false_ne_true, if_pos (by omega), if_pos (by omega), if_pos (by omega), if_neg (by omega), if_pos (by omega)]
        rfl

theorem get_yes (b : ByteArray) (hb : b.size ≤ 4611686018427387904) (j k : Nat) (h1 : 1 ≤ j) (h8 : j ≤ 8) (hk : 2 * b.size + 3 < k) :
    varint_Get.f k b (j : Int) = some (ii (getA j (nats b))) := by
  obtain ⟨k, rfl⟩ : ∃ m, k = m + 1 := ⟨k - 1, by omega⟩
  obtain ⟨j', hj', _, _, hp2, hp8⟩ := bits18 (j : Int) (by omega) (by omega)
  obtain rfl : j = j' := by omega
  unfold varint_Get.f
  rw [if_neg (by omega), show decide ((j : Int) > 8) = false from by simp; omega]
  simp only [varint_Get.j0]
  rw [if_neg (by decide), mask j h8 hp2 hp8]
  by_cases h : b.toList = []
  · rw [if_pos h, (nats_nil b).mpr h]; rfl
  · rw [if_neg h, if_pos (by omega)]
    have hs : 0 < b.size := by
      rcases Nat.eq_zero_or_pos b.size with e | e
      · exact absurd ((nats_nil b).mp (List.eq_nil_of_length_eq_zero (by rw [nats_length]; exact e))) h
      · exact e
    rw [if_pos (by omega)]
    have hd := nats_drop b 0 hs
    rw [List.drop_zero] at hd
    have hc := by_lt b 0
    have hbt : bt b 0 = (by_ b 0 : Int) := bt_nat b 0
    rw [hd, hbt]
    generalize by_ b 0 = c at hc ⊢
    rw [wrap64_small _ (by omega) (by omega), and_i64 _ _ (by omega) (by omega), Nat.and_two_pow_sub_one_eq_mod]
    simp only [getA]
    by_cases g : c % 2 ^ j < 2 ^ j - 1
    · rw [if_pos (by omega), if_pos g]; rfl
    · rw [if_neg (by omega), if_neg g]
      have hle : c % 2 ^ j ≤ c := Nat.mod_le ..
      exact get_l0 b hb (b.size - 1) k 1 _ (by omega) (by omega) (by omega) (by omega) (by omega) (by omega)

theorem get_no (b : ByteArray) (bits : Int) (k : Nat) (h : bits < 1 ∨ bits > 8) (hk : 3 < k) : varint_Get.f k b bits = some (0, 0, 1) := by
  obtain ⟨k, rfl⟩ : ∃ m, k = m + 1 := ⟨k - 1, by omega⟩
  unfold varint_Get.f
  simp only [varint_Get.j0]
  by_cases g : bits < 1
  · rw [if_pos g]; rfl
  · rw [if_neg g, if_pos (by simp; omega)]

theorem alive_20 : bywashlaw2_alive.f 20 = some true := by decide +kernel
theorem alive_any (k : Nat) (hk : 20 ≤ k) : bywashlaw2_alive.f k = some true :=
  at_rounds (g := fun k => bywashlaw2_alive.f k) (fun k => bywashlaw2_alive.mono k) hk alive_20

theorem enc_str (F j n : Nat) (h1 : 1 ≤ j) (h8 : j ≤ 8) (hF : F < 256) (hd : F % 2 ^ j = 0) (hn : n ≤ 2147483647) :
    nats (strOfNums ((enc F j n).map fun (n : Nat) => (n : Int))) = enc F j n := by
  obtain ⟨j', hj', _, _, hp2, hp8⟩ := bits18 (j : Int) (by omega) (by omega)
  obtain rfl : j = j' := by omega
  exact nats_ofNums _ (enc_lt F j n (by omega) hd hF hp8 (dvd256 j h8) hn)
theorem str_size (l : List Nat) : (strOfNums (l.map fun (n : Nat) => (n : Int))).size = l.length := by rw [strOfNums_size, List.length_map]
theorem two_le (j : Nat) (h1 : 1 ≤ j) (h8 : j ≤ 8) : 2 ≤ 2 ^ j ∧ 2 ^ j ≤ 256 := by
  obtain ⟨j', hj', _, _, hp2, hp8⟩ := bits18 (j : Int) (by omega) (by omega)
  obtain rfl : j = j' := by omega
  exact ⟨hp2, hp8⟩
theorem byte_wf (x : Int) (h : (Lit.int .u8 x).wf = true) : 0 ≤ x ∧ x < 256 := by
  simp only [Lit.wf, IntKind.min, IntKind.max, IntKind.signed, IntKind.bits, Bool.and_eq_true] at h
  simp at h
  omega

theorem VarintBehind : bywashlaw2_VarintBehind.Pure := by
  intro bits n more _ _ hmore
  refine ⟨60000 + 2 * more.size, ?_⟩
  unfold bywashlaw2_VarintBehind.f
  obtain ⟨k, hk⟩ : ∃ k, 60000 + 2 * more.size = k + 1 := ⟨60000 + 2 * more.size - 1, by omega⟩
  have hk40 : 59999 + 2 * more.size ≤ k := by omega
  rw [hk]; clear hk
  simp only [bywashlaw2_VarintBehind.j0]
  rw [alive_any (k + 1) (by omega), alive_any k (by omega)]
  rcases put_any 0 bits n (by omega) (by omega) with ⟨F, j, N, hF, rfl, rfl, h1, h8, hF', hd, hN⟩ | h
  · obtain rfl : F = 0 := by omega
    have hp := put_yes 0 j N (k + 1) h1 h8 hF' hd hN (by omega)
    have hs := enc_str 0 j N h1 h8 hF' hd hN
    have hz := str_size (enc 0 j N)
    have hl := enc_len 0 j N
    obtain ⟨hp2, hp8⟩ := two_le j h1 h8
    rw [show (0 : Int) = ((0 : Nat) : Int) from rfl, hp]
    simp only [Option.bind_some, if_true]
    generalize strOfNums ((enc 0 j N).map fun (n : Nat) => (n : Int)) = s at hs hz ⊢
    by_cases g : (more.size : Int) > 60
    · rw [if_pos g]
    · rw [if_neg g]
      simp only [Bool.not_true]
      rw [if_neg Bool.false_ne_true, if_pos (by omega)]
      have hsz : (s ++ more).size = s.size + more.size := by rw [← nats_length, nats_append, List.length_append, nats_length, nats_length]
      rw [get_yes (s ++ more) (by omega) j k h1 h8 (by omega), nats_append, hs, getA_enc 0 j N (nats more) (by omega) hd hN]
      simp only [ii, Option.bind_some]
      rw [if_pos trivial, if_pos (by omega)]
      rfl
  · rw [put_no 0 bits n (k + 1) (by omega) (by omega) (by omega) h]
    simp

end Go.Proofs.Ytmglfnphkngfdaa.Pure
