/- Plain facts on numbers, bytes and the codes of chapter 3: no program stands here. -/
import Derived.Test.YtmglfnphkngfdaaVmath
namespace Go.Proofs.Ytmglfnphkngfdaa.Sm
open Go.RowKit Go.Proofs.YtmglfnphkngfdaaW.PrintWords Go.Proofs.YtmglfnphkngfdaaW.PrintLast Go.Proofs.YtmglfnphkngfdaaW.PrintMore
open Go.Proofs.Ytmglfnphkngfdaa.Vm

/-! ### a number out of bytes -/
def big (l : List Nat) : Nat := l.foldl (fun v c => v * 256 + c) 0
theorem big_foldl : ∀ (m : List Nat) (v : Nat), m.foldl (fun v c => v * 256 + c) v = v * 2 ^ (8 * m.length) + big m
  | [], v => by simp [big]
  | c :: m, v => by
    unfold big
    simp only [List.foldl_cons]
    rw [big_foldl m (v * 256 + c), big_foldl m (0 * 256 + c)]
    rw [show 8 * (c :: m).length = 8 * m.length + 8 from by simp; omega, Nat.pow_add]
    rw [Nat.add_mul, Nat.zero_mul, Nat.zero_add, Nat.add_assoc, Nat.mul_assoc, Nat.mul_comm (2 ^ (8 * m.length)) (2 ^ 8)]
theorem big_append (l m : List Nat) : big (l ++ m) = big l * 2 ^ (8 * m.length) + big m := by
  show (l ++ m).foldl _ 0 = _
  rw [List.foldl_append, big_foldl]; rfl
theorem big_snoc (l : List Nat) (c : Nat) : big (l ++ [c]) = big l * 256 + c := by
  rw [big_append]; simp [big]
theorem big_lt : ∀ (l : List Nat), (∀ c ∈ l, c < 256) → big l < 2 ^ (8 * l.length)
  | [], _ => by simp [big]
  | c :: m, h => by
    have hm := big_lt m (fun d hd => h d (List.mem_cons_of_mem _ hd))
    have hc := h c List.mem_cons_self
    have := big_append [c] m
    simp only [List.cons_append, List.nil_append] at this
    rw [this, show big [c] = c from by simp [big]]
    rw [show 8 * (c :: m).length = 8 * m.length + 8 from by simp; omega, Nat.pow_add]
    have h2 := Nat.mul_le_mul_right (2 ^ (8 * m.length)) (show c + 1 ≤ 256 from hc)
    rw [Nat.add_mul, Nat.one_mul] at h2
    rw [show (2 : Nat) ^ 8 = 256 from rfl, Nat.mul_comm _ 256]
    omega
theorem big_inj : ∀ (l m : List Nat), (∀ c ∈ l, c < 256) → (∀ c ∈ m, c < 256) → l.length = m.length → big l = big m → l = m
  | [], [], _, _, _, _ => rfl
  | [], _ :: _, _, _, h, _ => by simp at h
  | _ :: _, [], _, _, h, _ => by simp at h
  | c :: l, d :: m, hl, hm, h, hb => by
    have hl' := fun x hx => hl x (List.mem_cons_of_mem c hx)
    have hm' := fun x hx => hm x (List.mem_cons_of_mem d hx)
    have h' : l.length = m.length := by simpa using h
    have e1 := big_append [c] l
    have e2 := big_append [d] m
    simp only [List.cons_append, List.nil_append] at e1 e2
    rw [show big [c] = c from by simp [big]] at e1
    rw [show big [d] = d from by simp [big]] at e2
    rw [e1, e2, h'] at hb
    have b1 := big_lt l hl'
    have b2 := big_lt m hm'
    rw [h'] at b1
    have hcd : c = d := by
      have k1 : (c * 2 ^ (8 * m.length) + big l) / 2 ^ (8 * m.length) = c := by
        rw [Nat.mul_comm, Nat.mul_add_div (Nat.two_pow_pos _), Nat.div_eq_of_lt b1, Nat.add_zero]
      have k2 : (d * 2 ^ (8 * m.length) + big m) / 2 ^ (8 * m.length) = d := by
        rw [Nat.mul_comm, Nat.mul_add_div (Nat.two_pow_pos _), Nat.div_eq_of_lt b2, Nat.add_zero]
      rw [← k1, hb, k2]
    subst hcd
    rw [big_inj l m hl' hm' h' (by omega)]

/-- Some bits of a number of L bits: n of them, from place p on. -/
def fld (X L p n : Nat) : Nat := X / 2 ^ (L - p - n) % 2 ^ n
theorem fld_lt (X L p n : Nat) : fld X L p n < 2 ^ n := Nat.mod_lt _ (Nat.two_pow_pos _)
theorem fld_succ (X L p n : Nat) (h : p + n + 1 ≤ L) : fld X L p (n + 1) = fld X L p n * 2 + fld X L (p + n) 1 := by
  unfold fld
  have e1 : L - p - n = (L - p - (n + 1)) + 1 := by omega
  have e2 : L - (p + n) - 1 = L - p - (n + 1) := by omega
  rw [e1, e2, Nat.pow_succ 2 (L - p - (n + 1)), ← Nat.div_div_eq_div_mul, Nat.pow_succ 2 n, Nat.mul_comm (2 ^ n) 2]
  generalize X / 2 ^ (L - p - (n + 1)) = Y
  rw [Nat.mod_mul, Nat.pow_one]
  omega
theorem fld_zero (X L p : Nat) : fld X L p 0 = 0 := by unfold fld; rw [Nat.pow_zero, Nat.mod_one]
/-- The first bits of some. -/
theorem fld_top (X L p n m : Nat) (h : p + n + m ≤ L) : fld X L p (n + m) / 2 ^ m = fld X L p n := by
  unfold fld
  have e1 : L - p - n = (L - p - (n + m)) + m := by omega
  rw [e1, Nat.pow_add 2 (L - p - (n + m)) m, ← Nat.div_div_eq_div_mul]
  generalize X / 2 ^ (L - p - (n + m)) = Y
  rw [Nat.pow_add, Nat.mul_comm (2 ^ n), Nat.mod_mul_right_div_self]

theorem bit_of (l : List Nat) (hl : ∀ c ∈ l, c < 256) (i : Nat) (hi : i < 8 * l.length) :
    l.getD (i / 8) 0 / 2 ^ (7 - i % 8) % 2 = fld (big l) (8 * l.length) i 1 := by
  have hq : i / 8 < l.length := by omega
  have hsplit : l = l.take (i / 8) ++ [l.getD (i / 8) 0] ++ l.drop (i / 8 + 1) := by
    have h1 : l.getD (i / 8) 0 = l[i / 8] := by simp [List.getD, hq]
    rw [h1, List.append_assoc]
    rw [List.singleton_append, ← List.drop_eq_getElem_cons hq, List.take_append_drop]
  have hdrop : big (l.drop (i / 8 + 1)) < 2 ^ (8 * (l.length - (i / 8 + 1))) := by
    have := big_lt (l.drop (i / 8 + 1)) (fun c hc => hl c (List.mem_of_mem_drop hc))
    rw [List.length_drop] at this
    exact this
  unfold fld
  generalize hc : l.getD (i / 8) 0 = c at hsplit ⊢
  have hb : big l = (big (l.take (i / 8)) * 256 + c) * 2 ^ (8 * (l.length - (i / 8 + 1))) + big (l.drop (i / 8 + 1)) := by
    conv => lhs; rw [hsplit]
    rw [big_append, big_snoc, List.length_drop]
  rw [hb]
  have e1 : 8 * l.length - i - 1 = 8 * (l.length - (i / 8 + 1)) + (7 - i % 8) := by omega
  rw [e1, Nat.pow_add, ← Nat.div_div_eq_div_mul]
  rw [Nat.mul_comm _ (2 ^ (8 * (l.length - (i / 8 + 1)))), Nat.mul_add_div (Nat.two_pow_pos _), Nat.div_eq_of_lt hdrop, Nat.add_zero]
  have e2 : 256 = 2 ^ (7 - i % 8) * (2 * 2 ^ (i % 8)) := by
    have : 2 ^ (7 - i % 8) * (2 * 2 ^ (i % 8)) = 2 ^ ((7 - i % 8) + 1 + i % 8) := by rw [Nat.pow_add, Nat.pow_succ]; rw [Nat.mul_assoc]
    rw [this, show (7 - i % 8) + 1 + i % 8 = 8 from by omega]
  rw [e2, Nat.mul_left_comm, Nat.mul_add_div (Nat.two_pow_pos _), Nat.pow_one]
  rw [Nat.mul_left_comm, Nat.mul_add_mod]

/-! ### the codes -/
def fives : List Nat := [48, 49, 50, 51, 52, 53, 54, 55, 56, 57, 97, 101, 105, 111, 115, 116]
def sevens : List Nat := [32, 33, 37, 38, 40, 41, 42, 43, 44, 45, 46, 47, 58, 59, 61, 63, 64, 95, 98, 99, 100, 102, 103, 104, 108, 109, 110, 112, 114, 117, 118, 119]
def common (c : Nat) : Bool := fives.contains c || sevens.contains c
def rares : List Nat := (List.range 256).filter fun c => !common c
def cod (c : Nat) : Nat × Nat :=
  if fives.contains c then (fives.idxOf c, 5) else if sevens.contains c then (64 + sevens.idxOf c, 7) else (768 + rares.idxOf c, 10)
def val (c : Nat) : Nat := (cod c).1
def len (c : Nat) : Nat := (cod c).2
theorem rares_length : rares.length = 208 := by decide +kernel
theorem cod_all : ∀ c : Fin 256, (len c.val = 5 ∧ val c.val < 16 ∧ fives.getD (val c.val) 0 = c.val) ∨
    (len c.val = 7 ∧ 64 ≤ val c.val ∧ val c.val < 96 ∧ sevens.getD (val c.val - 64) 0 = c.val) ∨
    (len c.val = 10 ∧ 768 ≤ val c.val ∧ val c.val < 976 ∧ rares.getD (val c.val - 768) 0 = c.val) := by decide +kernel
theorem cod_any (c : Nat) (h : c < 256) : (len c = 5 ∧ val c < 16 ∧ fives.getD (val c) 0 = c) ∨
    (len c = 7 ∧ 64 ≤ val c ∧ val c < 96 ∧ sevens.getD (val c - 64) 0 = c) ∨
    (len c = 10 ∧ 768 ≤ val c ∧ val c < 976 ∧ rares.getD (val c - 768) 0 = c) := cod_all ⟨c, h⟩
theorem five_all : ∀ v : Fin 16, val (fives.getD v.val 0) = v.val ∧ len (fives.getD v.val 0) = 5 ∧ fives.getD v.val 0 < 256 := by decide +kernel
theorem seven_all : ∀ v : Fin 32, val (sevens.getD v.val 0) = 64 + v.val ∧ len (sevens.getD v.val 0) = 7 ∧ sevens.getD v.val 0 < 256 := by decide +kernel
theorem rare_all : ∀ v : Fin 208, val (rares.getD v.val 0) = 768 + v.val ∧ len (rares.getD v.val 0) = 10 ∧ rares.getD v.val 0 < 256 := by decide +kernel
/-- The bytes from c on that have ten bits. -/
def rs (n c : Nat) : List Nat := (List.range' c n).filter fun c => !common c
theorem rs_all : rs 256 0 = rares := by
  unfold rs rares; rw [List.range_eq_range']
theorem rs_yes (n c : Nat) (h : common c = true) : rs (n + 1) c = rs n (c + 1) := by
  unfold rs; rw [List.range'_succ, List.filter_cons]; simp [h]
theorem rs_no (n c : Nat) (h : common c = false) : rs (n + 1) c = c :: rs n (c + 1) := by
  unfold rs; rw [List.range'_succ, List.filter_cons]; simp [h]
attribute [irreducible] rares
theorem len_bd (c : Nat) (h : c < 256) : 5 ≤ len c ∧ len c ≤ 10 := by
  rcases cod_any c h with ⟨h, _⟩ | ⟨h, _⟩ | ⟨h, _⟩ <;> omega
theorem val_lt (c : Nat) (h : c < 256) : val c < 2 ^ len c := by
  rcases cod_any c h with ⟨h, h2, _⟩ | ⟨h, _, h2, _⟩ | ⟨h, _, h2, _⟩ <;> rw [h] <;> omega

/-- A text's bits, as a number, and how many they are. -/
def cat (l : List Nat) : Nat := l.foldl (fun v c => v * 2 ^ len c + val c) 0
def tot (l : List Nat) : Nat := (l.map len).sum
theorem cat_snoc (l : List Nat) (c : Nat) : cat (l ++ [c]) = cat l * 2 ^ len c + val c := by
  unfold cat; rw [List.foldl_append]; rfl
theorem tot_snoc (l : List Nat) (c : Nat) : tot (l ++ [c]) = tot l + len c := by
  unfold tot; rw [List.map_append, List.sum_append]; simp
theorem tot_append (l m : List Nat) : tot (l ++ m) = tot l + tot m := by
  unfold tot; rw [List.map_append, List.sum_append]
theorem tot_bd (l : List Nat) (h : ∀ c ∈ l, c < 256) : 5 * l.length ≤ tot l ∧ tot l ≤ 10 * l.length := by
  induction l with
  | nil => simp [tot]
  | cons c l ih =>
    have := ih (fun d hd => h d (List.mem_cons_of_mem _ hd))
    have hc := len_bd c (h c List.mem_cons_self)
    have e : tot (c :: l) = len c + tot l := rfl
    rw [e]; simp only [List.length_cons]; omega
theorem cat_append : ∀ (l m : List Nat), cat (l ++ m) = cat l * 2 ^ tot m + cat m := by
  have gen : ∀ (m : List Nat) (v : Nat), m.foldl (fun v c => v * 2 ^ len c + val c) v = v * 2 ^ tot m + cat m := by
    intro m
    induction m with
    | nil => intro v; simp [tot, cat]
    | cons c m ih =>
      intro v
      unfold cat
      simp only [List.foldl_cons]
      rw [ih (v * 2 ^ len c + val c), ih (0 * 2 ^ len c + val c)]
      rw [show tot (c :: m) = len c + tot m from rfl, Nat.pow_add, Nat.add_mul, Nat.zero_mul, Nat.zero_add, Nat.mul_assoc]
      omega
  intro l m
  show (l ++ m).foldl _ 0 = _
  rw [List.foldl_append, gen]; rfl
theorem cat_lt (l : List Nat) (h : ∀ c ∈ l, c < 256) : cat l < 2 ^ tot l := by
  induction l with
  | nil => simp [cat, tot]
  | cons c l ih =>
    have := ih (fun d hd => h d (List.mem_cons_of_mem _ hd))
    have hc := val_lt c (h c List.mem_cons_self)
    have e := cat_append [c] l
    simp only [List.cons_append, List.nil_append] at e
    rw [e, show tot (c :: l) = len c + tot l from rfl, Nat.pow_add, show cat [c] = val c from by simp [cat]]
    have h2 := Nat.mul_le_mul_right (2 ^ tot l) (show val c + 1 ≤ 2 ^ len c from hc)
    rw [Nat.add_mul, Nat.one_mul] at h2
    omega

/-- What a text is, packed: its bytes, and how many ones stand at its end. -/
structure Packed (l out : List Nat) (p : Nat) : Prop where
  lt : ∀ c ∈ out, c < 256
  pad : p < 8
  size : 8 * out.length = tot l + p
  bits : big out = cat l * 2 ^ p + (2 ^ p - 1)
theorem Packed.same {l out out' : List Nat} {p p' : Nat} (h : Packed l out p) (h' : Packed l out' p') : out = out' := by
  have e1 := h.size
  have e2 := h'.size
  have e3 := h.pad
  have e4 := h'.pad
  obtain rfl : p = p' := by omega
  exact big_inj out out' h.lt h'.lt (by omega) (by rw [h.bits, h'.bits])

/-- One byte goes out of the bits that are there. -/
theorem emit (A W n : Nat) : (A * 256 + W / 2 ^ n % 256) * 2 ^ n + W % 2 ^ n = A * 2 ^ (n + 8) + W % 2 ^ (n + 8) := by
  have e : W % 2 ^ (n + 8) = W % 2 ^ n + 2 ^ n * (W / 2 ^ n % 256) := by rw [Nat.pow_add, Nat.mod_mul]
  rw [e, Nat.pow_add, Nat.add_mul, Nat.mul_assoc, Nat.mul_comm 256]
  rw [show (2 : Nat) ^ 8 = 256 from rfl, Nat.mul_comm (W / 2 ^ n % 256)]
  omega

/-! ### reading -/
/-- The byte whose code stands at a place, and how many bits it has. -/
def dec (X L p : Nat) : Nat × Nat :=
  if p + 5 ≤ L ∧ fld X L p 5 < 16 then (fives.getD (fld X L p 5) 0, 5)
  else if p + 7 ≤ L ∧ 64 ≤ fld X L p 7 ∧ fld X L p 7 < 96 then (sevens.getD (fld X L p 7 - 64) 0, 7)
  else if p + 10 ≤ L ∧ 768 ≤ fld X L p 10 ∧ fld X L p 10 < 976 then (rares.getD (fld X L p 10 - 768) 0, 10)
  else (0, 0)
/-- What is read is a byte with just these bits. -/
theorem dec_sound (X L p : Nat) (h : (dec X L p).2 ≠ 0) :
    (dec X L p).1 < 256 ∧ (dec X L p).2 = len (dec X L p).1 ∧ p + (dec X L p).2 ≤ L ∧ fld X L p (len (dec X L p).1) = val (dec X L p).1 := by
  unfold dec at h ⊢
  split
  · rename_i g
    obtain ⟨a, b, c⟩ := five_all ⟨fld X L p 5, g.2⟩
    simp only at a b c
    exact ⟨c, b.symm, g.1, by simp only [a, b]⟩
  · split
    · rename_i g
      obtain ⟨a, b, c⟩ := seven_all ⟨fld X L p 7 - 64, by omega⟩
      simp only at a b c
      exact ⟨c, b.symm, g.1, by simp only [a, b]; omega⟩
    · split
      · rename_i g
        obtain ⟨a, b, c⟩ := rare_all ⟨fld X L p 10 - 768, by omega⟩
        simp only at a b c
        exact ⟨c, b.symm, g.1, by simp only [a, b]; omega⟩
      · rename_i h1 h2 h3
        rw [if_neg h1, if_neg h2, if_neg h3] at h
        exact absurd rfl h
/-- A code that stands there is read. -/
theorem dec_code (X L p c : Nat) (hc : c < 256) (hp : p + len c ≤ L) (hf : fld X L p (len c) = val c) : dec X L p = (c, len c) := by
  unfold dec
  rcases cod_any c hc with ⟨hl, hv, ht⟩ | ⟨hl, h1, h2, ht⟩ | ⟨hl, h1, h2, ht⟩
  · rw [hl] at hp hf
    rw [if_pos ⟨hp, by omega⟩, hf, ht, hl]
  · rw [hl] at hp hf
    have t5 := fld_top X L p 5 2 (by omega)
    rw [show 5 + 2 = 7 from rfl, hf] at t5
    rw [if_neg (by omega), if_pos ⟨hp, by omega, by omega⟩, hf, ht, hl]
  · rw [hl] at hp hf
    have t5 := fld_top X L p 5 5 (by omega)
    have t7 := fld_top X L p 7 3 (by omega)
    rw [show 5 + 5 = 10 from rfl, hf] at t5
    rw [show 7 + 3 = 10 from rfl, hf] at t7
    rw [if_neg (by omega), if_neg (by omega), if_pos ⟨hp, by omega, by omega⟩, hf, ht, hl]
/-- Among fewer than eight ones there is no code. -/
theorem fld_ones (X L p m n : Nat) (hL : L = p + m) (hX : X % 2 ^ m = 2 ^ m - 1) (hn : n ≤ m) : fld X L p n = 2 ^ n - 1 := by
  unfold fld
  have e : L - p - n = m - n := by omega
  rw [e]
  have h2 : 2 ^ m = 2 ^ (m - n) * 2 ^ n := by rw [← Nat.pow_add]; congr 1; omega
  have h3 : X / 2 ^ (m - n) % 2 ^ n = X % 2 ^ m / 2 ^ (m - n) := by rw [h2, Nat.mod_mul_right_div_self]
  rw [h3, hX]
  have hp := Nat.two_pow_pos (m - n)
  have hq := Nat.two_pow_pos n
  apply Nat.div_eq_of_lt_le
  · rw [Nat.sub_mul, Nat.one_mul, Nat.mul_comm, ← h2]; omega
  · rw [Nat.sub_add_cancel hq, Nat.mul_comm, ← h2]
    have := Nat.two_pow_pos m
    omega
theorem dec_pad (X L p m : Nat) (hL : L = p + m) (hm : m < 8) (hX : X % 2 ^ m = 2 ^ m - 1) : dec X L p = (0, 0) := by
  unfold dec
  rw [if_neg, if_neg, if_neg]
  · omega
  · rintro ⟨h1, _, h3⟩
    rw [fld_ones X L p m 7 hL hX (by omega)] at h3
    omega
  · rintro ⟨h1, h2⟩
    rw [fld_ones X L p m 5 hL hX (by omega)] at h2
    omega

/-- What bytes are, unpacked: none, where they are no text's. -/
def unsq (X L : Nat) : Nat → Nat → List Nat → Option (List Nat)
  | 0, _, _ => none
  | f + 1, p, acc =>
    if (dec X L p).2 = 0 then (if L - p < 8 ∧ fld X L p (L - p) = 2 ^ (L - p) - 1 then some acc else none)
    else unsq X L f (p + (dec X L p).2) (acc ++ [(dec X L p).1])

/-- How it stands when some bytes have been read. -/
structure Read (X L p : Nat) (acc : List Nat) : Prop where
  lt : ∀ c ∈ acc, c < 256
  pl : p ≤ L
  tot : tot acc = p
  cat : X / 2 ^ (L - p) = cat acc
theorem read_step {X L p : Nat} {acc : List Nat} (h : Read X L p acc) (hd : (dec X L p).2 ≠ 0) : Read X L (p + (dec X L p).2) (acc ++ [(dec X L p).1]) := by
  obtain ⟨h1, h2, h3, h4⟩ := dec_sound X L p hd
  refine ⟨fun c hc => ?_, h3, ?_, ?_⟩
  · rcases List.mem_append.mp hc with g | g
    · exact h.lt c g
    · rw [List.mem_singleton] at g; rw [g]; exact h1
  · rw [tot_snoc, h.tot, ← h2]
  · rw [cat_snoc, ← h.cat, ← h2, ← h4, ← h2]
    unfold fld
    have e : L - p = (L - p - (dec X L p).2) + (dec X L p).2 := by omega
    rw [show L - (p + (dec X L p).2) = L - p - (dec X L p).2 from by omega]
    conv => rhs; rw [e]
    rw [Nat.pow_add, ← Nat.div_div_eq_div_mul, Nat.add_sub_cancel]
    rw [Nat.mul_comm]
    exact (Nat.div_add_mod _ _).symm
theorem unsq_sound (X L : Nat) (hX : X < 2 ^ L) : ∀ (f p : Nat) (acc : List Nat) (l : List Nat), Read X L p acc → unsq X L f p acc = some l →
    ∃ q, Read X L q l ∧ L - q < 8 ∧ X % 2 ^ (L - q) = 2 ^ (L - q) - 1
  | 0, _, _, _, _, h => by simp [unsq] at h
  | f + 1, p, acc, l, hr, h => by
    unfold unsq at h
    by_cases hd : (dec X L p).2 = 0
    · rw [if_pos hd] at h
      by_cases hc : L - p < 8 ∧ fld X L p (L - p) = 2 ^ (L - p) - 1
      · rw [if_pos hc] at h
        obtain rfl := Option.some.inj h
        refine ⟨p, hr, hc.1, ?_⟩
        have := hc.2
        unfold fld at this
        rw [Nat.sub_self, Nat.pow_zero, Nat.div_one] at this
        exact this
      · rw [if_neg hc] at h; simp at h
    · rw [if_neg hd] at h
      exact unsq_sound X L hX f _ _ l (read_step hr hd) h
/-- More rounds tell the same. -/
theorem unsq_len {X L : Nat} : ∀ (f p : Nat) (acc l : List Nat), unsq X L f p acc = some l → acc.length ≤ l.length
  | 0, _, _, _, h => by simp [unsq] at h
  | f + 1, p, acc, l, h => by
    unfold unsq at h
    by_cases hd : (dec X L p).2 = 0
    · rw [if_pos hd] at h
      split at h
      · obtain rfl := Option.some.inj h; exact Nat.le_refl _
      · simp at h
    · rw [if_neg hd] at h
      have := unsq_len f _ _ l h
      simp at this; omega

/-- What was packed is read again. -/
theorem unsq_packed (l out : List Nat) (p : Nat) (hl : ∀ c ∈ l, c < 256) (hp : Packed l out p) : ∀ (rest acc : List Nat) (f : Nat), l = acc ++ rest → rest.length < f →
    unsq (big out) (8 * out.length) f (tot acc) acc = some l := by
  intro rest
  induction rest with
  | nil =>
    intro acc f e hf
    obtain ⟨f, rfl⟩ : ∃ g, f = g + 1 := ⟨f - 1, by simp at hf; omega⟩
    simp only [List.append_nil] at e
    subst e
    have hs := hp.size
    have hpd := hp.pad
    have hmod : big out % 2 ^ p = 2 ^ p - 1 := by
      rw [hp.bits, Nat.mul_comm, Nat.mul_add_mod, Nat.mod_eq_of_lt]
      have := Nat.two_pow_pos p
      omega
    have hd := dec_pad (big out) (8 * out.length) (tot l) p hs hpd hmod
    unfold unsq
    rw [hd, if_pos rfl, if_pos]
    refine ⟨by omega, ?_⟩
    rw [show 8 * out.length - tot l = p from by omega]
    exact fld_ones _ _ _ p p hs hmod (Nat.le_refl _)
  | cons c rest ih =>
    intro acc f e hf
    obtain ⟨f, rfl⟩ : ∃ g, f = g + 1 := ⟨f - 1, by simp at hf; omega⟩
    have hc : c < 256 := hl c (by rw [e]; simp)
    have hb := len_bd c hc
    have hs := hp.size
    have htot : tot l = tot acc + len c + tot rest := by
      rw [e, tot_append]
      have : tot (c :: rest) = len c + tot rest := rfl
      omega
    have hd : dec (big out) (8 * out.length) (tot acc) = (c, len c) := by
      refine dec_code _ _ _ c hc (by omega) ?_
      unfold fld
      rw [hp.bits]
      have e2 : 8 * out.length - tot acc - len c = tot rest + p := by omega
      rw [e2]
      have hcat : cat l = (cat acc * 2 ^ len c + val c) * 2 ^ tot rest + cat rest := by
        rw [e, show acc ++ c :: rest = (acc ++ [c]) ++ rest from by simp, cat_append, cat_snoc]
      have hrest := cat_lt rest (fun d hd => hl d (by rw [e]; simp [hd]))
      have hv := val_lt c hc
      have hbig : cat l * 2 ^ p + (2 ^ p - 1) = 2 ^ (tot rest + p) * (cat acc * 2 ^ len c + val c) + (cat rest * 2 ^ p + (2 ^ p - 1)) := by
        rw [hcat, Nat.pow_add, Nat.add_mul, Nat.add_assoc]
        congr 1
        rw [Nat.mul_assoc, Nat.mul_comm]
      have hlow : cat rest * 2 ^ p + (2 ^ p - 1) < 2 ^ (tot rest + p) := by
        rw [Nat.pow_add]
        have h2 := Nat.mul_le_mul_right (2 ^ p) (show cat rest + 1 ≤ 2 ^ tot rest from hrest)
        rw [Nat.add_mul, Nat.one_mul] at h2
        have := Nat.two_pow_pos p
        omega
      rw [hbig, Nat.mul_add_div (Nat.two_pow_pos _), Nat.div_eq_of_lt hlow, Nat.add_zero, Nat.mul_comm (cat acc), Nat.mul_add_mod, Nat.mod_eq_of_lt hv]
    unfold unsq
    rw [hd, if_neg (by show ¬ len c = 0; omega)]
    show unsq _ _ f (tot acc + len c) (acc ++ [c]) = _
    rw [← tot_snoc]
    exact ih (acc ++ [c]) f (by rw [e]; simp) (by simp at hf; omega)
/-- What is read, packed again, is what was there. -/
theorem packed_unsq (b l : List Nat) (f : Nat) (hb : ∀ c ∈ b, c < 256) (h : unsq (big b) (8 * b.length) f 0 [] = some l) : ∃ p, Packed l b p ∧ ∀ c ∈ l, c < 256 := by
  have hX := big_lt b hb
  have h0 : Read (big b) (8 * b.length) 0 [] := by
    refine ⟨by simp, by omega, rfl, ?_⟩
    rw [Nat.sub_zero, Nat.div_eq_of_lt hX]; rfl
  obtain ⟨q, hr, h8, hm⟩ := unsq_sound _ _ hX f 0 [] l h0 h
  have hq := hr.pl
  refine ⟨8 * b.length - q, ⟨hb, h8, ?_, ?_⟩, hr.lt⟩
  · rw [hr.tot]; omega
  · rw [← hr.cat, ← hm, Nat.mul_comm]
    exact (Nat.div_add_mod _ _).symm
end Go.Proofs.Ytmglfnphkngfdaa.Sm
