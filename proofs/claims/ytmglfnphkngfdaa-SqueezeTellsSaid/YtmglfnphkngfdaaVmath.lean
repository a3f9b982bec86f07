/- Plain facts on numbers, bytes and the prefix code of chapter 2: no program stands here. -/
import Derived.Test.YtmglfnphkngfdaaWMore
namespace Go.Proofs.Ytmglfnphkngfdaa.Vm
open Go.RowKit Go.Proofs.YtmglfnphkngfdaaW.PrintWords Go.Proofs.YtmglfnphkngfdaaW.PrintLast Go.Proofs.YtmglfnphkngfdaaW.PrintMore

theorem wrap_i64 (n : Int) (h0 : 0 ≤ n) (h : n < 9223372036854775808) : IntKind.wrap .i64 n = n := by
  have e : n % 18446744073709551616 = n := by omega
  have h2 : ¬ (n ≥ 9223372036854775808) := by omega
  simp [IntKind.wrap, IntKind.bits, IntKind.signed, e, h2]

theorem wrap_u8 (n : Int) (h0 : 0 ≤ n) (h : n < 256) : IntKind.wrap .u8 n = n := by
  have e : n % 256 = n := by omega
  simp [IntKind.wrap, IntKind.bits, IntKind.signed, e]

theorem wrap_u64 (n : Int) (h0 : 0 ≤ n) (h : n < 18446744073709551616) : IntKind.wrap .u64 n = n := by
  have e : n % 18446744073709551616 = n := by omega
  simp [IntKind.wrap, IntKind.bits, IntKind.signed, e]

theorem wrap64_small (n : Int) (h0 : -9223372036854775808 ≤ n) (h : n < 9223372036854775808) : wrap64 n = n := by
  unfold wrap64; omega

theorem and_i64 (a b : Nat) (ha : a < 9223372036854775808) (hb : b < 9223372036854775808) : Go.bits .and .i64 (a : Int) (b : Int) = ((a &&& b : Nat) : Int) := by
  have hle : a &&& b ≤ a := Nat.and_le_left
  have e : ((BitVec.ofInt 64 (a : Int)) &&& (BitVec.ofInt 64 (b : Int))).toNat = a &&& b := by
    simp only [BitVec.toNat_and, BitVec.ofInt_natCast, BitVec.toNat_ofNat]
    rw [Nat.mod_eq_of_lt (by omega), Nat.mod_eq_of_lt (by omega)]
  show IntKind.wrap .i64 (((BitVec.ofInt 64 (a : Int)) &&& (BitVec.ofInt 64 (b : Int))).toNat : Int) = _
  rw [e]
  exact wrap_i64 _ (by omega) (by omega)

theorem and_u8 (a b : Nat) (ha : a < 256) (hb : b < 256) : Go.bits .and .u8 (a : Int) (b : Int) = ((a &&& b : Nat) : Int) := by
  have hle : a &&& b ≤ a := Nat.and_le_left
  have e : ((BitVec.ofInt 8 (a : Int)) &&& (BitVec.ofInt 8 (b : Int))).toNat = a &&& b := by
    simp only [BitVec.toNat_and, BitVec.ofInt_natCast, BitVec.toNat_ofNat]
    rw [Nat.mod_eq_of_lt (by omega), Nat.mod_eq_of_lt (by omega)]
  show IntKind.wrap .u8 (((BitVec.ofInt 8 (a : Int)) &&& (BitVec.ofInt 8 (b : Int))).toNat : Int) = _
  rw [e]
  exact wrap_u8 _ (by omega) (by omega)

theorem or_u8 (a b : Nat) (ha : a < 256) (hb : b < 256) : Go.bits .or .u8 (a : Int) (b : Int) = ((a ||| b : Nat) : Int) := by
  have hle : a ||| b < 2 ^ 8 := Nat.or_lt_two_pow (by omega) (by omega)
  have e : ((BitVec.ofInt 8 (a : Int)) ||| (BitVec.ofInt 8 (b : Int))).toNat = a ||| b := by
    simp only [BitVec.toNat_or, BitVec.ofInt_natCast, BitVec.toNat_ofNat]
    rw [Nat.mod_eq_of_lt (by omega), Nat.mod_eq_of_lt (by omega)]
  show IntKind.wrap .u8 (((BitVec.ofInt 8 (a : Int)) ||| (BitVec.ofInt 8 (b : Int))).toNat : Int) = _
  rw [e]
  exact wrap_u8 _ (by omega) (by omega)

theorem or_i64 (a b : Nat) (ha : a < 256) (hb : b < 256) : Go.bits .or .i64 (a : Int) (b : Int) = ((a ||| b : Nat) : Int) := by
  have hle : a ||| b < 2 ^ 8 := Nat.or_lt_two_pow (by omega) (by omega)
  have e : ((BitVec.ofInt 64 (a : Int)) ||| (BitVec.ofInt 64 (b : Int))).toNat = a ||| b := by
    simp only [BitVec.toNat_or, BitVec.ofInt_natCast, BitVec.toNat_ofNat]
    rw [Nat.mod_eq_of_lt (by omega), Nat.mod_eq_of_lt (by omega)]
  show IntKind.wrap .i64 (((BitVec.ofInt 64 (a : Int)) ||| (BitVec.ofInt 64 (b : Int))).toNat : Int) = _
  rw [e]
  exact wrap_i64 _ (by omega) (by omega)

/-- The number of bits, of which there are one to eight. -/
theorem bits18 (b : Int) (h1 : 1 ≤ b) (h8 : b ≤ 8) : ∃ j : Nat, b = (j : Int) ∧ 1 ≤ j ∧ j ≤ 8 ∧ 2 ≤ 2 ^ j ∧ 2 ^ j ≤ 256 := by
  refine ⟨b.toNat, by omega, by omega, by omega, ?_, ?_⟩
  · calc 2 = 2 ^ 1 := rfl
      _ ≤ 2 ^ b.toNat := Nat.pow_le_pow_right (by omega) (by omega)
  · calc 2 ^ b.toNat ≤ 2 ^ 8 := Nat.pow_le_pow_right (by omega) (by omega)
      _ = 256 := rfl

theorem shl_i64 (x j : Nat) (hj : j ≤ 62) (hx : x * 2 ^ j < 9223372036854775808) : shl .i64 (x : Int) (j : Int) = ((x * 2 ^ j : Nat) : Int) := by
  unfold shl
  have e : min ((j : Int).toNat) (IntKind.bits .i64) = j := by simp only [IntKind.bits]; omega
  rw [e]
  have e2 : (x : Int) * 2 ^ j = ((x * 2 ^ j : Nat) : Int) := by push_cast; rfl
  rw [e2]
  exact wrap_i64 _ (by omega) (by omega)

theorem mask (j : Nat) (h8 : j ≤ 8) (h2 : 2 ≤ 2 ^ j) (h256 : 2 ^ j ≤ 256) : wrap64 (shl .i64 1 (j : Int) - 1) = ((2 ^ j - 1 : Nat) : Int) := by
  have := shl_i64 1 j (by omega) (by omega)
  rw [show ((1 : Nat) : Int) = 1 from rfl] at this
  rw [this, Nat.one_mul]
  rw [wrap64_small _ (by omega) (by omega)]
  omega

theorem u64_nat (j : Nat) (h : j ≤ 64) : IntKind.wrap .u64 (j : Int) = (j : Int) := wrap_u64 _ (by omega) (by omega)

/-- A byte of a text. -/
def by_ (s : ByteArray) (i : Nat) : Nat := (s.data.toList.getD i 0).toNat
theorem by_lt (s : ByteArray) (i : Nat) : by_ s i < 256 := (s.data.toList.getD i 0).toNat_lt
theorem bt_nat (s : ByteArray) (i : Nat) : bt s (i : Int) = (by_ s i : Int) := by
  unfold bt by_
  by_cases h : i < s.size
  · have h' : ((i : Int).toNat) < s.size := by simpa using h
    rw [dif_pos h']
    have hl : i < s.data.toList.length := by simpa using h
    simp [List.getD, List.getElem?_eq_getElem hl]
    rfl
  · have h' : ¬ ((i : Int).toNat) < s.size := by simpa using h
    rw [dif_neg h']
    have hl : s.data.toList.length ≤ i := by simpa using h
    simp [List.getD, List.getElem?_eq_none hl]

/-- The bytes of a text, as numbers. -/
def nats (s : ByteArray) : List Nat := s.data.toList.map (·.toNat)
theorem nats_length (s : ByteArray) : (nats s).length = s.size := by
  unfold nats
  rw [List.length_map, Array.length_toList]
  rfl
theorem nats_append (s t : ByteArray) : nats (s ++ t) = nats s ++ nats t := by
  unfold nats
  rw [ByteArray.data_append, Array.toList_append, List.map_append]
theorem nats_lt (s : ByteArray) : ∀ n ∈ nats s, n < 256 := by
  intro n hn
  unfold nats at hn
  obtain ⟨c, _, rfl⟩ := List.mem_map.mp hn
  exact c.toNat_lt
theorem nats_drop (s : ByteArray) (i : Nat) (h : i < s.size) : (nats s).drop i = by_ s i :: (nats s).drop (i + 1) := by
  have hl : i < (nats s).length := by rw [nats_length]; exact h
  rw [List.drop_eq_getElem_cons hl]
  congr 1
  have hd : i < s.data.toList.length := by rw [Array.length_toList]; exact h
  simp [nats, by_, List.getD, List.getElem?_eq_getElem hd]
theorem nats_take (s : ByteArray) (t : Nat) : nats (s.extract 0 t) = (nats s).take t := by
  unfold nats
  rw [ByteArray.data_extract, Array.toList_extract, List.extract_eq_take_drop, List.drop_zero, Nat.sub_zero, List.map_take]

theorem nats_ofNums (l : List Nat) (h : ∀ n ∈ l, n < 256) : nats (strOfNums (l.map fun (n : Nat) => (n : Int))) = l := by
  unfold nats
  rw [strOfNums_data, List.map_map, List.map_map]
  conv => rhs; rw [← List.map_id l]
  refine List.map_congr_left fun n hn => ?_
  have := h n hn
  simp
  omega
theorem nats_nil (s : ByteArray) : nats s = [] ↔ s.toList = [] := by
  rw [ByteArray.toList_eq]
  unfold nats
  simp
theorem nats_inj {s t : ByteArray} (h : nats s = nats t) : s = t := by
  have h2 : s.data.toList = t.data.toList := by
    unfold nats at h
    exact (List.map_inj_right (fun a b hab => UInt8.toNat_inj.mp hab)).mp h
  cases s; cases t
  simpa using h2

/-- The bytes behind the prefix: seven bits each, the least first. -/
def leb : Nat → Nat → List Nat
  | 0, r => [r]
  | f + 1, r => if r ≥ 128 then (128 + r % 128) :: leb f (r / 128) else [r]

theorem leb_lt : ∀ (f r : Nat), r < 128 ^ (f + 1) → ∀ n ∈ leb f r, n < 256
  | 0, r, h, n, hn => by
    simp only [leb, List.mem_singleton] at hn
    simp at h
    omega
  | f + 1, r, h, n, hn => by
    unfold leb at hn
    by_cases hr : r ≥ 128
    · rw [if_pos hr] at hn
      rcases List.mem_cons.mp hn with e | e
      · omega
      · refine leb_lt f (r / 128) ?_ n e
        have : 128 ^ (f + 1 + 1) = 128 * 128 ^ (f + 1) := by rw [Nat.pow_succ]; omega
        omega
    · rw [if_neg hr] at hn
      simp only [List.mem_singleton] at hn
      omega
theorem leb_len : ∀ (f r : Nat), 1 ≤ (leb f r).length ∧ (leb f r).length ≤ f + 1
  | 0, r => by simp [leb]
  | f + 1, r => by
    unfold leb
    have := leb_len f (r / 128)
    by_cases hr : r ≥ 128
    · rw [if_pos hr]; simp; omega
    · rw [if_neg hr]; simp
theorem leb_mono : ∀ (f r s : Nat), r ≤ s → (leb f r).length ≤ (leb f s).length
  | 0, r, s, h => by simp [leb]
  | f + 1, r, s, h => by
    have := leb_mono f (r / 128) (s / 128) (by omega)
    have h1 := leb_len f (s / 128)
    unfold leb
    by_cases hr : r ≥ 128
    · rw [if_pos hr, if_pos (by omega)]; simp; omega
    · rw [if_neg hr]
      by_cases hs : s ≥ 128
      · rw [if_pos hs]; simp
      · rw [if_neg hs]; simp

/-- What is read behind the prefix. -/
def getL : List Nat → Nat → Nat → Nat × Nat × Nat
  | [], _, _ => (0, 0, 2)
  | c :: l, i, n =>
    if n + c % 128 * 2 ^ (7 * (i - 1)) > 2147483647 ∨ c ≥ 128 ∧ i = 5 then (0, 0, 4)
    else if c < 128 then (n + c % 128 * 2 ^ (7 * (i - 1)), i + 1, 0)
    else getL l (i + 1) (n + c % 128 * 2 ^ (7 * (i - 1)))

/-- A number that was put is read again, whatever stands behind it. -/
theorem getL_leb : ∀ (f r i n : Nat) (rest : List Nat), r < 128 ^ (f + 1) → 1 ≤ i → i ≤ 5 → n + r * 2 ^ (7 * (i - 1)) ≤ 2147483647 →
    getL (leb f r ++ rest) i n = (n + r * 2 ^ (7 * (i - 1)), i + (leb f r).length, 0)
  | 0, r, i, n, rest, h, h1, h5, hn => by
    simp at h
    have e : r % 128 = r := by omega
    simp only [leb, List.cons_append, List.nil_append, getL, e]
    rw [if_neg (by omega), if_pos (by omega)]
    simp
  | f + 1, r, i, n, rest, h, h1, h5, hn => by
    unfold leb
    by_cases hr : r ≥ 128
    · rw [if_pos hr]
      simp only [List.cons_append, getL]
      have e : (128 + r % 128) % 128 = r % 128 := by omega
      rw [e]
      have hp : 2 ^ (7 * (i + 1 - 1)) = 128 * 2 ^ (7 * (i - 1)) := by
        rw [show 7 * (i + 1 - 1) = 7 * (i - 1) + 7 from by omega, Nat.pow_add]; omega
      have hpos : 1 ≤ 2 ^ (7 * (i - 1)) := Nat.one_le_two_pow
      have hsum : r % 128 * 2 ^ (7 * (i - 1)) + r / 128 * (128 * 2 ^ (7 * (i - 1))) = r * 2 ^ (7 * (i - 1)) := by
        rw [← Nat.mul_assoc, ← Nat.add_mul]; congr 1; omega
      have hle : r % 128 * 2 ^ (7 * (i - 1)) ≤ r * 2 ^ (7 * (i - 1)) := by rw [← hsum]; omega
      have h5' : i ≠ 5 := by
        rintro rfl
        have : r * 2 ^ (7 * (5 - 1)) ≥ 128 * 2 ^ (7 * (5 - 1)) := Nat.mul_le_mul_right _ hr
        simp at this hn
        omega
      rw [if_neg (by omega), if_neg (by omega)]
      have hlt : r / 128 < 128 ^ (f + 1) := by
        have : 128 ^ (f + 1 + 1) = 128 * 128 ^ (f + 1) := by rw [Nat.pow_succ]; omega
        omega
      rw [getL_leb f (r / 128) (i + 1) _ rest hlt (by omega) (by omega) (by rw [hp]; omega)]
      rw [hp]
      simp only [List.length_cons]
      refine Prod.ext ?_ (Prod.ext ?_ rfl)
      · show n + _ + _ = n + _
        omega
      · show i + 1 + _ = i + (_ + 1)
        omega
    · rw [if_neg hr]
      have e : r % 128 = r := by omega
      simp only [List.cons_append, List.nil_append, getL, e]
      rw [if_neg (by omega), if_pos (by omega)]
      simp

/-- Bytes that end ahead of a number's end are too few. -/
theorem getL_cut : ∀ (f r i n t : Nat), r < 128 ^ (f + 1) → 1 ≤ i → i ≤ 5 → n + r * 2 ^ (7 * (i - 1)) ≤ 2147483647 → t < (leb f r).length →
    getL ((leb f r).take t) i n = (0, 0, 2)
  | 0, r, i, n, t, h, h1, h5, hn, ht => by
    simp only [leb, List.length_singleton] at ht
    obtain rfl : t = 0 := by omega
    simp [getL]
  | f + 1, r, i, n, t, h, h1, h5, hn, ht => by
    unfold leb at ht ⊢
    by_cases hr : r ≥ 128
    · rw [if_pos hr] at ht ⊢
      cases t with
      | zero => simp [getL]
      | succ t =>
        simp only [List.take_succ_cons, getL]
        have e : (128 + r % 128) % 128 = r % 128 := by omega
        rw [e]
        have hp : 2 ^ (7 * (i + 1 - 1)) = 128 * 2 ^ (7 * (i - 1)) := by
          rw [show 7 * (i + 1 - 1) = 7 * (i - 1) + 7 from by omega, Nat.pow_add]; omega
        have hpos : 1 ≤ 2 ^ (7 * (i - 1)) := Nat.one_le_two_pow
        have hsum : r % 128 * 2 ^ (7 * (i - 1)) + r / 128 * (128 * 2 ^ (7 * (i - 1))) = r * 2 ^ (7 * (i - 1)) := by
          rw [← Nat.mul_assoc, ← Nat.add_mul]; congr 1; omega
        have hle : r % 128 * 2 ^ (7 * (i - 1)) ≤ r * 2 ^ (7 * (i - 1)) := by rw [← hsum]; omega
        have h5' : i ≠ 5 := by
          rintro rfl
          have : r * 2 ^ (7 * (5 - 1)) ≥ 128 * 2 ^ (7 * (5 - 1)) := Nat.mul_le_mul_right _ hr
          simp at this hn
          omega
        rw [if_neg (by omega), if_neg (by omega)]
        have hlt : r / 128 < 128 ^ (f + 1) := by
          have : 128 ^ (f + 1 + 1) = 128 * 128 ^ (f + 1) := by rw [Nat.pow_succ]; omega
          omega
        exact getL_cut f (r / 128) (i + 1) _ t hlt (by omega) (by omega) (by rw [hp]; omega) (by simp at ht; omega)
    · rw [if_neg hr] at ht ⊢
      simp at ht
      obtain rfl : t = 0 := by omega
      simp [getL]

/-- All bytes of a number. -/
def enc (first j n : Nat) : List Nat := if n < 2 ^ j - 1 then [first + n] else (first + (2 ^ j - 1)) :: leb 4 (n - (2 ^ j - 1))
/-- What is read of bytes. -/
def getA (j : Nat) : List Nat → Nat × Nat × Nat
  | [] => (0, 0, 2)
  | c :: l => if c % 2 ^ j < 2 ^ j - 1 then (c % 2 ^ j, 1, 0) else getL l 1 (c % 2 ^ j)

theorem lt_leb {n : Nat} (h : n ≤ 2147483647) (m : Nat) : n - m < 128 ^ (4 + 1) := by
  have : (128 : Nat) ^ (4 + 1) = 34359738368 := by decide
  omega
theorem enc_len (first j n : Nat) : 1 ≤ (enc first j n).length ∧ (enc first j n).length ≤ 6 := by
  unfold enc
  have := leb_len 4 (n - (2 ^ j - 1))
  by_cases h : n < 2 ^ j - 1
  · rw [if_pos h]; simp
  · rw [if_neg h]; simp; omega
theorem enc_one (first j n : Nat) : (enc first j n).length = 1 ↔ n < 2 ^ j - 1 := by
  unfold enc
  have := leb_len 4 (n - (2 ^ j - 1))
  by_cases h : n < 2 ^ j - 1
  · rw [if_pos h]; simp [h]
  · rw [if_neg h]
    simp only [List.length_cons]
    constructor <;> intro h' <;> omega
theorem enc_mono (first j n m : Nat) (h : n ≤ m) : (enc first j n).length ≤ (enc first j m).length := by
  have := leb_mono 4 (n - (2 ^ j - 1)) (m - (2 ^ j - 1)) (by omega)
  have := enc_len first j m
  unfold enc at *
  by_cases hn : n < 2 ^ j - 1
  · rw [if_pos hn]; simpa using this.1
  · rw [if_neg hn, if_neg (by omega)]; simp; omega
theorem enc_lt (first j n : Nat) (hj : 1 ≤ 2 ^ j) (hd : first % 2 ^ j = 0) (hf : first < 256) (h8 : 2 ^ j ≤ 256) (hdv : 256 % 2 ^ j = 0) (hn : n ≤ 2147483647) : ∀ c ∈ enc first j n, c < 256 := by
  have hb : first + (2 ^ j - 1) < 256 := by
    obtain ⟨q, hq⟩ : ∃ q, first = 2 ^ j * q := ⟨first / 2 ^ j, by have := Nat.div_add_mod first (2 ^ j); omega⟩
    obtain ⟨p, hp⟩ : ∃ p, 256 = 2 ^ j * p := ⟨256 / 2 ^ j, by have := Nat.div_add_mod 256 (2 ^ j); omega⟩
    have hqp : q < p := by
      rcases Nat.lt_or_ge q p with h | h
      · exact h
      · have := Nat.mul_le_mul_left (2 ^ j) h; omega
    have := Nat.mul_le_mul_left (2 ^ j) (show q + 1 ≤ p from hqp)
    rw [Nat.mul_add] at this
    omega
  intro c hc
  unfold enc at hc
  by_cases h : n < 2 ^ j - 1
  · rw [if_pos h] at hc
    simp only [List.mem_singleton] at hc
    omega
  · rw [if_neg h] at hc
    rcases List.mem_cons.mp hc with e | e
    · omega
    · exact leb_lt 4 _ (lt_leb hn _) c e
theorem pow_mul_le (x : Nat) : x * 2 ^ (7 * (1 - 1)) = x := by simp
theorem getA_enc (first j n : Nat) (rest : List Nat) (hj : 1 ≤ 2 ^ j) (hd : first % 2 ^ j = 0) (hn : n ≤ 2147483647) :
    getA j (enc first j n ++ rest) = (n, (enc first j n).length, 0) := by
  unfold enc
  by_cases h : n < 2 ^ j - 1
  · rw [if_pos h]
    have e : (first + n) % 2 ^ j = n := by rw [Nat.add_mod, hd, Nat.zero_add, Nat.mod_mod, Nat.mod_eq_of_lt (by omega)]
    simp only [List.cons_append, List.nil_append, getA, e]
    rw [if_pos h]; simp
  · rw [if_neg h]
    have e : (first + (2 ^ j - 1)) % 2 ^ j = 2 ^ j - 1 := by rw [Nat.add_mod, hd, Nat.zero_add, Nat.mod_mod, Nat.mod_eq_of_lt (by omega)]
    simp only [List.cons_append, getA, e]
    rw [if_neg (by omega)]
    rw [getL_leb 4 _ 1 _ rest (lt_leb hn _) (by omega) (by omega) (by rw [pow_mul_le]; omega)]
    rw [pow_mul_le]
    simp only [List.length_cons]
    rw [show 2 ^ j - 1 + (n - (2 ^ j - 1)) = n from by omega, Nat.add_comm 1]
theorem getA_cut (first j n t : Nat) (hj : 1 ≤ 2 ^ j) (hd : first % 2 ^ j = 0) (hn : n ≤ 2147483647) (ht : t < (enc first j n).length) :
    getA j ((enc first j n).take t) = (0, 0, 2) := by
  unfold enc at ht ⊢
  by_cases h : n < 2 ^ j - 1
  · rw [if_pos h] at ht ⊢
    simp at ht
    obtain rfl : t = 0 := by omega
    simp [getA]
  · rw [if_neg h] at ht ⊢
    have e : (first + (2 ^ j - 1)) % 2 ^ j = 2 ^ j - 1 := by rw [Nat.add_mod, hd, Nat.zero_add, Nat.mod_mod, Nat.mod_eq_of_lt (by omega)]
    cases t with
    | zero => simp [getA]
    | succ t =>
      simp only [List.take_succ_cons, getA, e]
      rw [if_neg (by omega)]
      exact getL_cut 4 _ 1 _ t (lt_leb hn _) (by omega) (by omega) (by rw [pow_mul_le]; omega) (by simp at ht; omega)

/-- A byte's bits above the prefix, and those of a number in it. -/
theorem or_add (first j n : Nat) (hd : first % 2 ^ j = 0) (hn : n < 2 ^ j) : first ||| n = first + n := by
  obtain ⟨q, hq⟩ : ∃ q, first = 2 ^ j * q := ⟨first / 2 ^ j, by have := Nat.div_add_mod first (2 ^ j); omega⟩
  rw [hq]
  exact (Nat.two_pow_add_eq_or_of_lt hn q).symm
theorem dvd256 (j : Nat) (h : j ≤ 8) : 256 % 2 ^ j = 0 := by
  have : (256 : Nat) = 2 ^ (8 - j) * 2 ^ j := by rw [← Nat.pow_add, show 8 - j + j = 8 from by omega]
  rw [this]; exact Nat.mul_mod_left ..

theorem small_mul (c q : Nat) (hc : c ≤ 127) (hq : q ≤ 268435456) : c * q ≤ 34091302912 := by
  have := Nat.mul_le_mul_right q hc
  omega
def ii (t : Nat × Nat × Nat) : Int × Int × Int := ((t.1 : Int), (t.2.1 : Int), (t.2.2 : Int))
end Go.Proofs.Ytmglfnphkngfdaa.Vm
