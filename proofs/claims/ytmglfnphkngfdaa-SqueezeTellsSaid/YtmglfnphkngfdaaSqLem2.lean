/- What the printed functions of chapter 3 compute, further: reading, lengths, and the document's own. -/
import Derived.Test.YtmglfnphkngfdaaSqLem
namespace Go.Proofs.Ytmglfnphkngfdaa.SqL
open Go.RowKit Go.Proofs.Ytmglfnphkngfdaa.XSq Go.Proofs.YtmglfnphkngfdaaW.PrintWords Go.Proofs.YtmglfnphkngfdaaW.PrintLast Go.Proofs.YtmglfnphkngfdaaW.PrintMore
open Go.Proofs.Ytmglfnphkngfdaa.Vm Go.Proofs.Ytmglfnphkngfdaa.Sm

/-! ### bits -/
theorem by_getD (b : ByteArray) (i : Nat) : by_ b i = (nats b).getD i 0 := by
  unfold by_ nats
  simp only [List.getD, List.getElem?_map]
  cases b.data.toList[i]? <;> rfl
/-- A bit of bytes. -/
theorem bit_at (b : ByteArray) (p : Nat) (hp : p < 8 * b.size) : by_ b (p / 8) / 2 ^ (7 - p % 8) % 2 = fld (big (nats b)) (8 * b.size) p 1 := by
  have := bit_of (nats b) (nats_lt b) p (by rw [nats_length]; exact hp)
  rw [nats_length] at this
  rw [by_getD]; exact this
theorem tdiv8 (p : Nat) (h : p ≤ 1000000000000) : wrap64 (Int.tdiv (p : Int) 8) = ((p / 8 : Nat) : Int) := by
  rw [Int.tdiv_eq_ediv_of_nonneg (by omega)]; unfold wrap64; omega
theorem sub7 (p : Nat) : wrap64 (7 - Int.tmod (p : Int) 8) = ((7 - p % 8 : Nat) : Int) := by
  rw [Int.tmod_eq_emod_of_nonneg (by omega)]; unfold wrap64; omega
theorem bit_word (b : ByteArray) (p : Nat) (hp : p < 8 * b.size) (hb : b.size ≤ 100000000000) :
    Go.bits .and .i64 (wrap64 (shr .u8 (bt b (wrap64 (Int.tdiv (p : Int) 8))) (wrap64 (7 - Int.tmod (p : Int) 8)))) 1 = ((fld (big (nats b)) (8 * b.size) p 1 : Nat) : Int) := by
  rw [tdiv8 p (by omega), sub7, bt_nat, shr_byte _ _ (by omega)]
  have h256 := by_lt b (p / 8)
  have hle : by_ b (p / 8) / 2 ^ (7 - p % 8) ≤ by_ b (p / 8) := Nat.div_le_self _ _
  have hbit := bit_at b p hp
  generalize by_ b (p / 8) / 2 ^ (7 - p % 8) = q at hle hbit ⊢
  rw [wrap64_small _ (by omega) (by omega)]
  have := and_mask q 1 (by omega) (by decide)
  rw [show ((2 ^ 1 - 1 : Nat) : Int) = 1 from rfl] at this
  rw [this, ← hbit]
theorem fld_le (X L p n m : Nat) (h : n ≤ m) : fld X L p n < 2 ^ m := Nat.lt_of_lt_of_le (fld_lt X L p n) (pow_le h)

theorem look_l0 (b : ByteArray) (hb : b.size ≤ 100000000000) (p0 : Nat) : ∀ (m j k : Nat), p0 + j + m ≤ 8 * b.size → j + m ≤ 60 → m < k →
    squeeze_look.l0 k b ((p0 + j : Nat) : Int) (m : Int) ((fld (big (nats b)) (8 * b.size) p0 j : Nat) : Int) = some (((fld (big (nats b)) (8 * b.size) p0 (j + m) : Nat) : Int), true) := by
  intro m
  induction m with
  | zero =>
    intro j k h1 h2 hk
    obtain ⟨k, rfl⟩ : ∃ m, k = m + 1 := ⟨k - 1, by omega⟩
    simp only [squeeze_look.l0]
    rw [if_neg (by omega)]; rfl
  | succ m ih =>
    intro j k h1 h2 hk
    obtain ⟨k, rfl⟩ : ∃ m, k = m + 1 := ⟨k - 1, by omega⟩
    simp only [squeeze_look.l0]
    have hw := bit_word b (p0 + j) (by omega) hb
    rw [hw]
    have e0 : wrap64 (Int.tdiv ((p0 + j : Nat) : Int) 8) = (((p0 + j) / 8 : Nat) : Int) := tdiv8 _ (by omega)
    have e1 : wrap64 (7 - Int.tmod ((p0 + j : Nat) : Int) 8) = ((7 - (p0 + j) % 8 : Nat) : Int) := sub7 _
    rw [e0, e1]
    clear hw e0 e1
    have e2 : wrap64 (((p0 + j : Nat) : Int) + 1) = ((p0 + (j + 1) : Nat) : Int) := by unfold wrap64; omega
    have e3 : wrap64 (((m + 1 : Nat) : Int) - 1) = (m : Int) := by unfold wrap64; omega
    have hf := fld_le (big (nats b)) (8 * b.size) p0 j 59 (by omega)
    have h1b := fld_lt (big (nats b)) (8 * b.size) (p0 + j) 1
    have hs := fld_succ (big (nats b)) (8 * b.size) p0 j (by omega)
    have e4 : wrap64 (((fld (big (nats b)) (8 * b.size) p0 j : Nat) : Int) * 2) = ((fld (big (nats b)) (8 * b.size) p0 j * 2 ^ 1 : Nat) : Int) := by unfold wrap64; omega
    have e5 := or_low (fld (big (nats b)) (8 * b.size) p0 j) (fld (big (nats b)) (8 * b.size) (p0 + j) 1) 1 h1b (by omega) (by omega)
    rw [e2, e3, e4, e5]
    clear e2 e3 e4 e5
    rw [if_pos (by omega), if_pos (by omega), if_pos (by omega), if_pos (by omega), Nat.pow_one, ← hs]
    have := ih (j + 1) k (by omega) (by omega) (by omega)
    rw [this, show j + 1 + m = j + (m + 1) from by omega]
/-- However many bits: there is some answer. -/
theorem look_some (b : ByteArray) (hb : b.size ≤ 100000000000) : ∀ (m p k : Nat) (v : Int), p + m ≤ 8 * b.size → m < k →
    ∃ r, squeeze_look.l0 k b (p : Int) (m : Int) v = some (r, true) := by
  intro m
  induction m with
  | zero =>
    intro p k v h1 hk
    obtain ⟨k, rfl⟩ : ∃ m, k = m + 1 := ⟨k - 1, by omega⟩
    exact ⟨v, by simp only [squeeze_look.l0]; rw [if_neg (by omega)]⟩
  | succ m ih =>
    intro p k v h1 hk
    obtain ⟨k, rfl⟩ : ∃ m, k = m + 1 := ⟨k - 1, by omega⟩
    simp only [squeeze_look.l0]
    rw [tdiv8 p (by omega), sub7]
    have e2 : wrap64 ((p : Int) + 1) = ((p + 1 : Nat) : Int) := by unfold wrap64; omega
    have e3 : wrap64 (((m + 1 : Nat) : Int) - 1) = (m : Int) := by unfold wrap64; omega
    rw [e2, e3]
    clear e2 e3
    rw [if_pos (by omega), if_pos (by omega), if_pos (by omega), if_pos (by omega)]
    exact ih (p + 1) k _ (by omega) (by omega)
theorem look_yes (b : ByteArray) (hb : b.size ≤ 100000000000) (p m k : Nat) (h : p + m ≤ 8 * b.size) (hm : m ≤ 60) (hk : m < k) :
    squeeze_look.f k b (p : Int) (m : Int) = some (((fld (big (nats b)) (8 * b.size) p m : Nat) : Int), true) := by
  unfold squeeze_look.f
  have e1 : wrap64 ((p : Int) + (m : Int)) = ((p + m : Nat) : Int) := by unfold wrap64; omega
  have e2 : wrap64 (8 * (b.size : Int)) = ((8 * b.size : Nat) : Int) := by unfold wrap64; omega
  rw [e1, e2, if_neg (by omega)]
  have := look_l0 b hb p m 0 k (by omega) (by omega) hk
  rw [fld_zero, Nat.add_zero, Nat.zero_add] at this
  exact this
theorem look_no (b : ByteArray) (hb : b.size ≤ 100000000000) (p m k : Nat) (h : ¬ p + m ≤ 8 * b.size) (hp : p + m ≤ 10000000000000) :
    squeeze_look.f k b (p : Int) (m : Int) = some (0, false) := by
  unfold squeeze_look.f
  have e1 : wrap64 ((p : Int) + (m : Int)) = ((p + m : Nat) : Int) := by unfold wrap64; omega
  have e2 : wrap64 (8 * (b.size : Int)) = ((8 * b.size : Nat) : Int) := by unfold wrap64; omega
  rw [e1, e2, if_pos (by omega)]

/-! ### one byte -/
theorem idx5 : ∀ c : Fin 256, decide (Lib.indexByte (⟨#[48, 49, 50, 51, 52, 53, 54, 55, 56, 57, 97, 101, 105, 111, 115, 116]⟩ : ByteArray).data.toList ((c.val : Int)).toNat.toUInt8 ≥ 0) = fives.contains c.val := by decide +kernel
theorem idx7 : ∀ c : Fin 256, decide (Lib.indexByte (⟨#[32, 33, 37, 38, 40, 41, 42, 43, 44, 45, 46, 47, 58, 59, 61, 63, 64, 95, 98, 99, 100, 102, 103, 104, 108, 109, 110, 112, 114, 117, 118, 119]⟩ : ByteArray).data.toList ((c.val : Int)).toNat.toUInt8 ≥ 0) = sevens.contains c.val := by decide +kernel
theorem next_rare : ∀ (n c m k : Nat), c + n = 256 → m ≤ 1000 → 2 * n < k →
    squeeze_next.l0 k ((768 + m : Nat) : Int) (c : Int) = some (if m < (rs n c).length then (((rs n c).getD m 0 : Nat) : Int) else 0, if m < (rs n c).length then 10 else 0) := by
  intro n
  induction n with
  | zero =>
    intro c m k h hm hk
    obtain ⟨k, rfl⟩ : ∃ m, k = m + 1 := ⟨k - 1, by omega⟩
    simp only [squeeze_next.l0]
    rw [if_neg (by omega)]
    simp [rs]
  | succ n ih =>
    intro c m k h hm hk
    obtain ⟨k, rfl⟩ : ∃ m, k = m + 2 := ⟨k - 2, by omega⟩
    have hc256 : c < 256 := by omega
    have i5 := idx5 ⟨c, hc256⟩
    have i7 := idx7 ⟨c, hc256⟩
    simp only at i5 i7
    have e : (c : Int) % 256 = (c : Int) := by omega
    have e2 : wrap64 ((c : Int) + 1) = ((c + 1 : Nat) : Int) := by unfold wrap64; omega
    simp only [squeeze_next.l0, squeeze_next.j4, strings_IndexByte.f]
    rw [if_pos (by omega), e]
    simp only [Option.bind_some]
    rw [e2]
    clear e e2
    cases h5 : fives.contains c with
    | true =>
      rw [h5] at i5
      have hc : common c = true := by unfold common; rw [h5]; rfl
      rw [if_pos (of_decide_eq_true i5), rs_yes n c hc]
      simp only [if_true]
      exact ih (c + 1) m k (by omega) hm (by omega)
    | false =>
      rw [h5] at i5
      rw [if_neg (of_decide_eq_false i5)]
      cases h7 : sevens.contains c with
      | true =>
        rw [h7] at i7
        have hc : common c = true := by unfold common; rw [h7, Bool.or_true]
        rw [i7, rs_yes n c hc]
        simp only [if_true]
        exact ih (c + 1) m k (by omega) hm (by omega)
      | false =>
        rw [h7] at i7
        have hc : common c = false := by unfold common; rw [h5, h7]; rfl
        rw [i7, rs_no n c hc]
        rw [if_neg Bool.false_ne_true]
        by_cases hm0 : m = 0
        · subst hm0
          rw [if_pos (by omega)]
          simp
        · obtain ⟨q, rfl⟩ : ∃ q, m = q + 1 := ⟨m - 1, by omega⟩
          have e3 : wrap64 (((768 + (q + 1) : Nat) : Int) - 1) = ((768 + q : Nat) : Int) := by unfold wrap64; omega
          rw [if_neg (by omega), e3]
          clear e3
          rw [ih (c + 1) q k (by omega) (by omega) (by omega)]
          simp

theorem fives_bt : ∀ v : Fin 16, bt (⟨#[48, 49, 50, 51, 52, 53, 54, 55, 56, 57, 97, 101, 105, 111, 115, 116]⟩ : ByteArray) ((v.val : Nat) : Int) = ((fives.getD v.val 0 : Nat) : Int) := by decide +kernel
theorem sevens_bt : ∀ v : Fin 32, bt (⟨#[32, 33, 37, 38, 40, 41, 42, 43, 44, 45, 46, 47, 58, 59, 61, 63, 64, 95, 98, 99, 100, 102, 103, 104, 108, 109, 110, 112, 114, 117, 118, 119]⟩ : ByteArray) ((v.val : Nat) : Int) = ((sevens.getD v.val 0 : Nat) : Int) := by decide +kernel

def zz (t : Nat × Nat) : Int × Int := ((t.1 : Int), (t.2 : Int))
theorem zz_mk (a b : Nat) : zz (a, b) = ((a : Int), (b : Int)) := rfl
section
variable (b : ByteArray) (p X L : Nat) (hb : b.size ≤ 100000000000) (hp : p ≤ 8 * b.size) (hX : big (nats b) = X) (hL : 8 * b.size = L)
include hb hX hL
theorem ly (m k : Nat) (h1 : p + m ≤ L) (h2 : m ≤ 60) (h3 : m < k) : squeeze_look.f k b (p : Int) (m : Int) = some (((fld X L p m : Nat) : Int), true) := by
  subst hX; subst hL; exact look_yes b hb p m k h1 h2 h3
omit hX in
include hp in
theorem ln (m k : Nat) (h1 : ¬ p + m ≤ L) (h2 : m ≤ 60) : squeeze_look.f k b (p : Int) (m : Int) = some (0, false) := by
  subst hL; exact look_no b hb p m k h1 (by omega)
def d10 (X L p : Nat) : Nat × Nat := if p + 10 ≤ L ∧ 768 ≤ fld X L p 10 ∧ fld X L p 10 < 976 then (rares.getD (fld X L p 10 - 768) 0, 10) else (0, 0)
def d7 (X L p : Nat) : Nat × Nat := if p + 7 ≤ L ∧ 64 ≤ fld X L p 7 ∧ fld X L p 7 < 96 then (sevens.getD (fld X L p 7 - 64) 0, 7) else d10 X L p
omit hb hX hL in
theorem dec_d7 : dec X L p = if p + 5 ≤ L ∧ fld X L p 5 < 16 then (fives.getD (fld X L p 5) 0, 5) else d7 X L p := by unfold dec d7 d10; rfl
include hp in
theorem next_j1 (k : Nat) (v : Int) (hk : 545 < k) : squeeze_next.j1 k b (p : Int) v false = some (zz (d10 X L p)) := by
  obtain ⟨k, rfl⟩ : ∃ m, k = m + 1 + 1 := ⟨k - 2, by omega⟩
  simp only [squeeze_next.j1]
  rw [if_neg Bool.false_ne_true]
  have e10 : (10 : Int) = ((10 : Nat) : Int) := rfl
  rw [e10]
  unfold d10
  by_cases g : p + 10 ≤ L
  · have hf := fld_lt X L p 10
    rw [ly b p X L hb hX hL 10 (k + 1) g (by omega) (by omega)]
    simp only [Option.bind_some, if_true, squeeze_next.j2]
    by_cases g2 : fld X L p 10 < 768
    · rw [if_pos (by simp; omega), if_neg (by omega), zz_mk]; rfl
    · rw [if_neg (by simp; omega)]
      obtain ⟨m, hm⟩ : ∃ m, fld X L p 10 = 768 + m := ⟨fld X L p 10 - 768, by omega⟩
      have hz := next_rare 256 0 m k (by omega) (by omega) (by omega)
      rw [rs_all, rares_length] at hz
      rw [hm]
      rw [Int.natCast_zero] at hz
      rw [hz]
      by_cases g3 : m < 208
      · rw [if_pos g3, if_pos g3, if_pos ⟨g, by omega, by omega⟩, Nat.add_sub_cancel_left, zz_mk]; rfl
      · rw [if_neg g3, if_neg g3, if_neg (by omega), zz_mk]; rfl
  · rw [ln b p L hb hp hL 10 (k + 1) g (by omega)]
    simp only [Option.bind_some, Bool.false_eq_true, if_false, squeeze_next.j2, if_true]
    rw [if_neg (by omega), zz_mk]; rfl
include hp in
theorem next_j0 (k : Nat) (v : Int) (hk : 550 < k) : squeeze_next.j0 k b (p : Int) v false = some (zz (d7 X L p)) := by
  obtain ⟨k, rfl⟩ : ∃ m, k = m + 1 + 1 := ⟨k - 2, by omega⟩
  have hj := fun v => next_j1 b p X L hb hp hX hL (k + 1) v (by omega)
  unfold d7
  generalize d10 X L p = D at hj ⊢
  simp only [squeeze_next.j0]
  rw [if_neg Bool.false_ne_true]
  have e7 : (7 : Int) = ((7 : Nat) : Int) := rfl
  rw [e7]
  by_cases g : p + 7 ≤ L
  · have hf := fld_lt X L p 7
    rw [ly b p X L hb hX hL 7 (k + 1) g (by omega) (by omega)]
    simp only [Option.bind_some, if_true]
    by_cases g2 : 64 ≤ fld X L p 7
    · rw [if_pos (by omega)]
      by_cases g3 : fld X L p 7 < 96
      · rw [show decide (((fld X L p 7 : Nat) : Int) < 96) = true from by simp; omega, if_pos ⟨g, g2, g3⟩]
        simp only [squeeze_next.j1, if_true]
        obtain ⟨m, hm⟩ : ∃ m, fld X L p 7 = 64 + m := ⟨fld X L p 7 - 64, by omega⟩
        have hm32 : m < 32 := by omega
        have e : wrap64 (((64 + m : Nat) : Int) - 64) = (m : Int) := by unfold wrap64; omega
        rw [hm, e]
        clear e
        rw [if_pos (by omega), if_pos (by omega), Nat.add_sub_cancel_left, zz_mk]
        have hs := sevens_bt ⟨m, hm32⟩
        simp only at hs
        rw [hs]; rfl
      · rw [show decide (((fld X L p 7 : Nat) : Int) < 96) = false from by simp; omega, if_neg (by omega)]
        exact hj _
    · rw [if_neg (by omega), if_neg (by omega : ¬ (p + 7 ≤ L ∧ 64 ≤ fld X L p 7 ∧ fld X L p 7 < 96))]
      exact hj _
  · rw [ln b p L hb hp hL 7 (k + 1) g (by omega)]
    rw [Option.bind_some, if_neg (show ¬ ((0 : Int), false).2 = true from Bool.false_ne_true)]
    rw [if_neg (fun h => g h.1)]
    exact hj _
include hp in
theorem next_fX (k : Nat) (hk : 600 < k) : squeeze_next.f k b (p : Int) = some (zz (dec X L p)) := by
  obtain ⟨k, rfl⟩ : ∃ m, k = m + 1 := ⟨k - 1, by omega⟩
  have hj := fun v => next_j0 b p X L hb hp hX hL (k + 1) v (by omega)
  unfold squeeze_next.f
  rw [dec_d7]
  have e5 : (5 : Int) = ((5 : Nat) : Int) := rfl
  rw [e5]
  generalize d7 X L p = D at hj ⊢
  by_cases g : p + 5 ≤ L
  · have hf := fld_lt X L p 5
    rw [ly b p X L hb hX hL 5 (k + 1) g (by omega) (by omega)]
    simp only [Option.bind_some, if_true]
    by_cases g2 : fld X L p 5 < 16
    · rw [show decide (((fld X L p 5 : Nat) : Int) < 16) = true from by simp; omega, if_pos ⟨g, g2⟩]
      simp only [squeeze_next.j0, if_true]
      rw [if_pos (by omega), if_pos (by omega), zz_mk]
      have hs := fives_bt ⟨fld X L p 5, g2⟩
      simp only at hs
      rw [hs]; rfl
    · rw [show decide (((fld X L p 5 : Nat) : Int) < 16) = false from by simp; omega, if_neg (by omega)]
      exact hj _
  · rw [ln b p L hb hp hL 5 (k + 1) g (by omega)]
    rw [Option.bind_some, if_neg (show ¬ ((0 : Int), false).2 = true from Bool.false_ne_true)]
    rw [if_neg (fun h => g h.1)]
    exact hj _
end
theorem next_f (b : ByteArray) (hb : b.size ≤ 100000000000) (p k : Nat) (hp : p ≤ 8 * b.size) (hk : 600 < k) :
    squeeze_next.f k b (p : Int) = some (zz (dec (big (nats b)) (8 * b.size) p)) := next_fX b p _ _ hb hp rfl rfl k hk

/-! ### Get -/
theorem bind_pair {α β γ : Type} (a : α) (b : β) (f : α × β → Option γ) : (some (a, b)).bind f = f (a, b) := rfl
def got : Option (List Nat) → ByteArray × Int
  | some l => (strOfNums (ints l), 0)
  | none => ((⟨#[]⟩ : ByteArray), 3)
theorem got_some (l : List Nat) : got (some l) = (strOfNums (ints l), 0) := rfl
theorem got_none : got none = ((⟨#[]⟩ : ByteArray), 3) := rfl
theorem dec_bd (X L p : Nat) (h : (dec X L p).2 ≠ 0) : 5 ≤ (dec X L p).2 ∧ p + (dec X L p).2 ≤ L := by
  obtain ⟨h1, h2, h3, _⟩ := dec_sound X L p h
  have := len_bd _ h1
  omega
theorem get_l0 (b : ByteArray) (hb : b.size ≤ 1000000000) : ∀ (f p : Nat) (acc : List Nat) (k : Nat), 8 * b.size < p + 5 * f → p ≤ 8 * b.size → 5 * acc.length ≤ p → f + 8 * b.size + 700 < k →
    squeeze_Get.l0 k b (ints acc) (p : Int) = some (got (unsq (big (nats b)) (8 * b.size) f p acc)) := by
  intro f
  induction f with
  | zero => intro p acc k h1 h2 _ _; omega
  | succ f ih =>
    intro p acc k h1 h2 ha hk
    obtain ⟨k, rfl⟩ : ∃ m, k = m + 1 := ⟨k - 1, by omega⟩
    simp only [squeeze_Get.l0]
    rw [next_f b (by omega) p k h2 (by omega)]
    simp only [Option.bind_some, zz]
    unfold unsq
    by_cases hd : (dec (big (nats b)) (8 * b.size) p).2 = 0
    · rw [if_pos (by omega), if_pos hd]
      have e1 : wrap64 (wrap64 (8 * (b.size : Int)) - (p : Int)) = ((8 * b.size - p : Nat) : Int) := by unfold wrap64; omega
      rw [e1]
      clear e1
      by_cases g : 8 * b.size - p < 8
      · rw [look_yes b (by omega) p (8 * b.size - p) k (by omega) (by omega) (by omega)]
        simp only [Option.bind_some]
        rw [if_neg (by omega), if_pos (by omega), shl_one _ (by omega)]
        by_cases g2 : fld (big (nats b)) (8 * b.size) p (8 * b.size - p) = 2 ^ (8 * b.size - p) - 1
        · rw [if_pos (by rw [g2]), if_pos ⟨g, g2⟩]; rfl
        · rw [if_neg (fun e => g2 (Int.ofNat_inj.mp e)), if_neg (fun e => g2 e.2)]; rfl
      · have hr : ∃ r, squeeze_look.f k b (p : Int) ((8 * b.size - p : Nat) : Int) = some (r, true) := by
          obtain ⟨r, hr⟩ := look_some b (by omega) (8 * b.size - p) p k 0 (by omega) (by omega)
          refine ⟨r, ?_⟩
          unfold squeeze_look.f
          have e1 : wrap64 ((p : Int) + ((8 * b.size - p : Nat) : Int)) = ((8 * b.size : Nat) : Int) := by unfold wrap64; omega
          have e2 : wrap64 (8 * (b.size : Int)) = ((8 * b.size : Nat) : Int) := by unfold wrap64; omega
          rw [e1, e2, if_neg (by omega)]
          exact hr
        obtain ⟨r, hr⟩ := hr
        rw [hr]
        simp only [Option.bind_some]
        rw [if_pos (by omega), if_neg (fun e => g e.1)]; rfl
    · obtain ⟨hd5, hdL⟩ := dec_bd _ _ _ hd
      rw [if_neg (by omega), if_neg hd, if_pos (by rw [ints_length]; omega)]
      have e1 : wrap64 ((p : Int) + ((dec (big (nats b)) (8 * b.size) p).2 : Int)) = ((p + (dec (big (nats b)) (8 * b.size) p).2 : Nat) : Int) := by unfold wrap64; omega
      rw [e1]
      clear e1
      have := ih (p + (dec (big (nats b)) (8 * b.size) p).2) (acc ++ [(dec (big (nats b)) (8 * b.size) p).1]) k (by omega) hdL (by simp; omega) (by omega)
      rw [ints_append] at this
      exact this
/-- What is read of bytes. -/
def unp (b : ByteArray) : Option (List Nat) := unsq (big (nats b)) (8 * b.size) (8 * b.size + 1) 0 []
theorem get_f (b : ByteArray) (hb : b.size ≤ 1000000000) (k : Nat) (hk : 16 * b.size + 800 < k) : squeeze_Get.f k b = some (got (unp b)) :=
  get_l0 b hb (8 * b.size + 1) 0 [] k (by omega) (by omega) (by simp) (by omega)
/-- A text that was packed is read again. -/
theorem unp_packed (s : ByteArray) (o : List Nat) (p : Nat) (hp : Packed (nats s) o p) (hb : nats (strOfNums (ints o)) = o) : unp (strOfNums (ints o)) = some (nats s) := by
  unfold unp
  have hz : (strOfNums (ints o)).size = o.length := by rw [← nats_length, hb]
  rw [hb, hz]
  have hs := hp.size
  have ht := tot_bd (nats s) (nats_lt s)
  exact unsq_packed (nats s) o p (nats_lt s) hp (nats s) [] (8 * o.length + 1) rfl (by omega)
theorem ofNums_nats (s : ByteArray) : strOfNums (ints (nats s)) = s := by
  refine nats_inj ?_
  exact nats_ofNums (nats s) (nats_lt s)
theorem nats_ints (l : List Nat) (h : ∀ c ∈ l, c < 256) : nats (strOfNums (ints l)) = l := nats_ofNums l h

/-! ### Len -/
theorem len_l0 (s : ByteArray) (hs : s.size ≤ 1000000000) : ∀ (rest pre : List Nat) (k : Nat), nats s = pre ++ rest → rest.length + 61 < k →
    squeeze_Len.l0 k s (tot pre : Int) (s.size : Int) (pre.length : Int) = some (((tot (nats s) + 7) / 8 : Nat) : Int) := by
  have hlt := nats_lt s
  have hlen := nats_length s
  intro rest
  induction rest with
  | nil =>
    intro pre k e hk
    obtain ⟨k, rfl⟩ : ∃ m, k = m + 1 := ⟨k - 1, by omega⟩
    rw [List.append_nil] at e
    have ht := tot_bd (nats s) hlt
    rw [e] at ht hlen ⊢
    simp only [squeeze_Len.l0]
    rw [if_neg (by omega)]
    have e1 : wrap64 ((tot pre : Int) + 7) = ((tot pre + 7 : Nat) : Int) := by unfold wrap64; omega
    rw [e1, Int.tdiv_eq_ediv_of_nonneg (by omega), wrap64_small _ (by omega) (by omega)]
    rfl
  | cons c rest ih =>
    intro pre k e hk
    obtain ⟨k, rfl⟩ : ∃ m, k = m + 1 := ⟨k - 1, by omega⟩
    have hc : c < 256 := hlt c (by rw [e]; simp)
    have hcl := len_bd c hc
    have hpl : pre.length + 1 + rest.length = s.size := by rw [← hlen, e]; simp; omega
    have hby : bt s (pre.length : Int) = (c : Int) := by
      have hd := nats_drop s pre.length (by omega)
      rw [e, List.drop_left] at hd
      rw [bt_nat, (List.cons.inj hd).1]
    have ht := tot_bd pre (fun d hd => hlt d (by rw [e]; exact List.mem_append_left _ hd))
    simp only [squeeze_Len.l0]
    simp only [List.length_cons] at hk
    rw [if_pos (by omega), if_pos (by omega), if_pos (by omega), hby, bits_any c k hc (by omega)]
    simp only [Option.bind_some]
    have e1 : wrap64 ((tot pre : Int) + (len c : Int)) = ((tot (pre ++ [c]) : Nat) : Int) := by rw [tot_snoc]; unfold wrap64; omega
    have e2 : wrap64 ((pre.length : Int) + 1) = (((pre ++ [c]).length : Nat) : Int) := by simp only [List.length_append, List.length_singleton]; unfold wrap64; omega
    rw [e1, e2]
    exact ih (pre ++ [c]) k (by rw [e]; simp) (by omega)
theorem len_f (s : ByteArray) (hs : s.size ≤ 1000000000) (k : Nat) (hk : s.size + 61 < k) : squeeze_Len.f k s = some (((tot (nats s) + 7) / 8 : Nat) : Int) :=
  len_l0 s hs (nats s) [] k rfl (by rw [nats_length]; exact hk)

theorem alive_ok : bywashlaw3_alive.f 900 = some true := by decide +kernel
theorem alive_any (k : Nat) (hk : 900 ≤ k) : bywashlaw3_alive.f k = some true :=
  at_rounds (g := fun k => bywashlaw3_alive.f k) (fun k => bywashlaw3_alive.mono k) hk alive_ok
theorem byte_wf (x : Int) (h : (Lit.int .u8 x).wf = true) : 0 ≤ x ∧ x < 256 := by
  simp only [Lit.wf, IntKind.min, IntKind.max, IntKind.signed, IntKind.bits, Bool.and_eq_true] at h
  simp at h
  omega
end Go.Proofs.Ytmglfnphkngfdaa.SqL
