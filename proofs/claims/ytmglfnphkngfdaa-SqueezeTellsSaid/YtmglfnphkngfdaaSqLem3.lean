/- What the document's own functions of chapter 3 compute: in the same words. -/
import Derived.Test.YtmglfnphkngfdaaSqLem2
namespace Go.Proofs.Ytmglfnphkngfdaa.SqL
open Go.RowKit Go.Proofs.Ytmglfnphkngfdaa.XSq Go.Proofs.YtmglfnphkngfdaaW.PrintWords Go.Proofs.YtmglfnphkngfdaaW.PrintLast Go.Proofs.YtmglfnphkngfdaaW.PrintMore
open Go.Proofs.Ytmglfnphkngfdaa.Vm Go.Proofs.Ytmglfnphkngfdaa.Sm

/-! ### Squeeze -/
theorem rput_l1 (s : ByteArray) (i : Nat) (pre : List Nat) (hi : i < 140737488355328) (hpre : ∀ c ∈ pre, c < 256) (hpl : pre.length ≤ 1000000000) (R : ByteArray) :
    ∀ (d n W : Nat) (out : List Nat), n < 8 + 8 * d → n ≤ 17 → W < 2 ^ n → Half pre out W n →
    (∀ out' W' n', Half pre out' W' n' → n' < 8 → W' < 2 ^ n' → ∃ K, ∀ k, K ≤ k → bywashref1_Squeeze.l0 k s (ints out') (W' : Int) (n' : Int) ((i + 1 : Nat) : Int) = some R) →
    ∃ K, ∀ k, K ≤ k → bywashref1_Squeeze.l1 k s (ints out) (W : Int) (n : Int) (i : Int) = some R := by
  intro d
  induction d with
  | zero =>
    intro n W out hn _ hW h next
    obtain ⟨K, hK⟩ := next out W n h (by omega) hW
    refine ⟨K + 1, fun k hk => ?_⟩
    obtain ⟨k, rfl⟩ : ∃ m, k = m + 1 := ⟨k - 1, by omega⟩
    simp only [bywashref1_Squeeze.l1]
    have e : wrap64 ((i : Int) + 1) = ((i + 1 : Nat) : Int) := by unfold wrap64; omega
    rw [if_neg (by omega), e]
    exact hK k (by omega)
  | succ d ih =>
    intro n W out hn h17 hW h next
    by_cases g : n < 8
    · obtain ⟨K, hK⟩ := next out W n h (by omega) hW
      refine ⟨K + 1, fun k hk => ?_⟩
      obtain ⟨k, rfl⟩ : ∃ m, k = m + 1 := ⟨k - 1, by omega⟩
      simp only [bywashref1_Squeeze.l1]
      have e : wrap64 ((i : Int) + 1) = ((i + 1 : Nat) : Int) := by unfold wrap64; omega
      rw [if_neg (by omega), e]
      exact hK k (by omega)
    · obtain ⟨m, rfl⟩ : ∃ m, n = m + 8 := ⟨n - 8, by omega⟩
      obtain ⟨K, hK⟩ := ih m (W % 2 ^ m) (out ++ [W / 2 ^ m % 256]) (by omega) (by omega) (Nat.mod_lt _ (Nat.two_pow_pos m)) h.emit.mask next
      refine ⟨K + 1, fun k hk => ?_⟩
      obtain ⟨k, rfl⟩ : ∃ m, k = m + 1 := ⟨k - 1, by omega⟩
      have hol := h.out_len hpre
      have hW17 : W < 131072 := Nat.lt_of_lt_of_le hW (show 2 ^ (m + 8) ≤ 2 ^ 17 from pow_le h17)
      have hpm : 2 ^ m ≤ 2 ^ 9 := pow_le (by omega)
      simp only [bywashref1_Squeeze.l1]
      have e : wrap64 (((m + 8 : Nat) : Int) - 8) = (m : Int) := by unfold wrap64; omega
      rw [e]
      clear e
      rw [u64_nat m (by omega), if_pos (by omega), if_pos (by omega), if_pos (by rw [ints_length]; omega), shr_nat W m (by omega), shl_one m (by omega), and_mask W m (by omega) (by omega)]
      have := hK k (by omega)
      rw [ints_append] at this
      have e2 : ((W / 2 ^ m : Nat) : Int) % 256 = ((W / 2 ^ m % 256 : Nat) : Int) := by omega
      rw [e2]
      exact this

theorem rput_l0 (s : ByteArray) (hs : s.size ≤ 1000000000) (P : List Nat) (hP : nats s = P) : ∀ (rest pre out : List Nat) (W n : Nat), P = pre ++ rest → Half pre out W n → n < 8 → W < 2 ^ n →
    ∃ o p, Packed P o p ∧ ∃ K, ∀ k, K ≤ k → bywashref1_Squeeze.l0 k s (ints out) (W : Int) (n : Int) (pre.length : Int) = some (strOfNums (ints o)) := by
  have hlt := nats_lt s
  have hlen := nats_length s
  rw [hP] at hlt hlen
  intro rest
  induction rest with
  | nil =>
    intro pre out W n e h h8 hW
    rw [List.append_nil] at e
    subst e
    have hol := h.out_len hlt
    by_cases g : n = 0
    · subst g
      refine ⟨out, 0, h.whole, 1, fun k hk => ?_⟩
      obtain ⟨k, rfl⟩ : ∃ m, k = m + 1 := ⟨k - 1, by omega⟩
      simp only [bywashref1_Squeeze.l0]
      rw [if_neg (by omega), if_neg (by omega)]
    · refine ⟨_, _, h.last hW (by omega) h8, 1, fun k hk => ?_⟩
      obtain ⟨k, rfl⟩ : ∃ m, k = m + 1 := ⟨k - 1, by omega⟩
      simp only [bywashref1_Squeeze.l0]
      have e : wrap64 (8 - (n : Int)) = ((8 - n : Nat) : Int) := by unfold wrap64; omega
      rw [if_neg (by omega), if_pos (by omega), e]
      clear e
      rw [u64_nat (8 - n) (by omega), if_pos (by omega), if_pos (by rw [ints_length]; omega), shl_one (8 - n) (by omega), last_byte W n hW (by omega) h8, ints_append]
      rfl
  | cons c rest ih =>
    intro pre out W n e h h8 hW
    have hc : c < 256 := hlt c (by rw [e]; simp)
    have hb := len_bd c hc
    have hv := val_lt c hc
    have hpl : pre.length + 1 + rest.length = s.size := by rw [← hlen, e]; simp; omega
    have hby : bt s (pre.length : Int) = (c : Int) := by
      have hd := nats_drop s pre.length (by omega)
      rw [hP, e, List.drop_left] at hd
      rw [bt_nat, (List.cons.inj hd).1]
    have hpre' : ∀ d ∈ pre ++ [c], d < 256 := fun d hd => hlt d (by rw [e]; rcases List.mem_append.mp hd with g | g; exact List.mem_append_left _ g; rw [List.mem_singleton] at g; subst g; simp)
    have hWl : W * 2 ^ len c < 131072 := by
      have h1 : 2 ^ n ≤ 2 ^ 7 := pow_le (by omega)
      have h2 : 2 ^ len c ≤ 2 ^ 10 := pow_le (by omega)
      have h3 : W * 2 ^ len c ≤ 127 * 2 ^ len c := Nat.mul_le_mul_right _ (by omega)
      omega
    have hv2 : val c < 131072 := by
      have h2 : 2 ^ len c ≤ 2 ^ 10 := pow_le (by omega)
      omega
    have hW' : W * 2 ^ len c + val c < 2 ^ (n + len c) := by
      rw [Nat.pow_add]
      have h2 := Nat.mul_le_mul_right (2 ^ len c) (show W + 1 ≤ 2 ^ n from hW)
      rw [Nat.add_mul, Nat.one_mul] at h2
      omega
    have key := ih (pre ++ [c])
    rw [List.append_assoc, List.singleton_append] at key
    have hadd := h.add hW hc
    obtain ⟨o, p, hpk⟩ : ∃ o p, Packed P o p := by
      obtain ⟨o, p, hpk, _⟩ := put_f s hs
      rw [hP] at hpk
      exact ⟨o, p, hpk⟩
    refine ⟨o, p, hpk, ?_⟩
    obtain ⟨K, hK⟩ := rput_l1 s pre.length (pre ++ [c]) (by omega) hpre' (by simp; omega) (strOfNums (ints o)) 2 (n + len c) (W * 2 ^ len c + val c) out (by omega) (by omega) hW' hadd
      (fun out' W' n' a b d => by
        obtain ⟨o', p', hpk', hk⟩ := key out' W' n' e a b d
        obtain rfl := hpk.same hpk'
        simpa using hk)
    refine ⟨K + 61, fun k hk => ?_⟩
    obtain ⟨k, rfl⟩ : ∃ m, k = m + 1 := ⟨k - 1, by omega⟩
    simp only [bywashref1_Squeeze.l0]
    rw [if_pos (by omega), if_pos (by omega), hby, rcode_any c k hc (by omega)]
    simp only [Option.bind_some]
    rw [u64_nat (len c) (by omega), if_pos (by omega), shl_i64 W (len c) (by omega) (by omega), or_low W (val c) (len c) hv (by omega) (by omega)]
    have e3 : wrap64 ((n : Int) + (len c : Int)) = ((n + len c : Nat) : Int) := by unfold wrap64; omega
    rw [e3]
    exact hK k (by omega)
theorem rput_f (s : ByteArray) (hs : s.size ≤ 1000000000) : ∃ o p, Packed (nats s) o p ∧ ∃ K, ∀ k, K ≤ k → bywashref1_Squeeze.f k s = some (strOfNums (ints o)) := by
  obtain ⟨o, p, hp, K, hK⟩ := rput_l0 s hs (nats s) rfl (nats s) [] [] 0 0 rfl half_nil (by omega) (by omega)
  exact ⟨o, p, hp, K, fun k hk => hK k hk⟩

/-! ### Unsqueeze: the bits -/
/-- All bits of a number of L bits. -/
def bitsOf (X L n : Nat) : List Int := (List.range n).map fun (i : Nat) => ((fld X L i 1 : Nat) : Int)
theorem bitsOf_length (X L n : Nat) : (bitsOf X L n).length = n := by unfold bitsOf; simp
theorem bitsOf_succ (X L n : Nat) : bitsOf X L (n + 1) = bitsOf X L n ++ [((fld X L n 1 : Nat) : Int)] := by
  unfold bitsOf; rw [List.range_succ, List.map_append]; rfl
theorem bitsOf_rd (X L n i : Nat) (h : i < n) : rd (bitsOf X L n) (i : Int) = ((fld X L i 1 : Nat) : Int) := by
  unfold rd bitsOf
  simp [List.getD, h]
theorem set_mid (a : List Int) (n : Nat) (v : Int) : (a ++ List.replicate (n + 1) 0).set a.length v = a ++ [v] ++ List.replicate n 0 := by
  rw [List.replicate_succ, List.set_append_right _ _ (Nat.le_refl _), Nat.sub_self]
  simp

theorem uns_l0 (b : ByteArray) (hb : b.size ≤ 1000000000) (X L : Nat) (hX : big (nats b) = X) (hL : 8 * b.size = L) (R : ByteArray × Int)
    (next : ∃ K, ∀ k, K ≤ k → bywashref1_Unsqueeze.l1 k (L : Int) (bitsOf X L L) [] 0 = some R) : ∀ (d i : Nat), i + d = L →
    ∃ K, ∀ k, K ≤ k → bywashref1_Unsqueeze.l0 k b (L : Int) (bitsOf X L i ++ List.replicate d 0) (i : Int) = some R := by
  intro d
  induction d with
  | zero =>
    intro i hi
    obtain ⟨K, hK⟩ := next
    refine ⟨K + 1, fun k hk => ?_⟩
    obtain ⟨k, rfl⟩ : ∃ m, k = m + 1 := ⟨k - 1, by omega⟩
    simp only [bywashref1_Unsqueeze.l0]
    rw [if_neg (by omega), List.replicate_zero, List.append_nil]
    have e : i = L := by omega
    rw [e]
    exact hK k (by omega)
  | succ d ih =>
    intro i hi
    obtain ⟨K, hK⟩ := ih (i + 1) (by omega)
    refine ⟨K + 1, fun k hk => ?_⟩
    obtain ⟨k, rfl⟩ : ∃ m, k = m + 1 := ⟨k - 1, by omega⟩
    simp only [bywashref1_Unsqueeze.l0]
    have e0 : IntKind.wrap .u64 (((7 - i % 8 : Nat) : Int)) = ((7 - i % 8 : Nat) : Int) := u64_nat _ (by omega)
    rw [tdiv8 i (by omega), sub7, e0, bt_nat]
    clear e0
    have h256 := by_lt b (i / 8)
    rw [wrap64_small _ (by omega) (by omega), shr_nat _ _ (by omega)]
    have hbit := bit_at b i (by omega)
    have hle : by_ b (i / 8) / 2 ^ (7 - i % 8) ≤ by_ b (i / 8) := Nat.div_le_self _ _
    rw [hX, hL] at hbit
    generalize by_ b (i / 8) / 2 ^ (7 - i % 8) = q at hbit hle ⊢
    have hand := and_mask q 1 (by omega) (by decide)
    rw [show ((2 ^ 1 - 1 : Nat) : Int) = 1 from rfl, Nat.pow_one, hbit] at hand
    rw [hand]
    clear hand
    have e2 : wrap64 ((i : Int) + 1) = ((i + 1 : Nat) : Int) := by unfold wrap64; omega
    rw [e2]
    clear e2
    rw [if_pos (by omega), if_pos (by omega), if_pos (by omega), if_pos (by omega), if_pos (by omega), if_pos (by rw [List.length_append, bitsOf_length, List.length_replicate]; omega)]
    rw [Int.toNat_natCast]
    have hset := set_mid (bitsOf X L i) d ((fld X L i 1 : Nat) : Int)
    rw [bitsOf_length, ← bitsOf_succ] at hset
    rw [hset]
    exact hK k (by omega)

/-! ### Unsqueeze: a byte -/
theorem at5 : ∀ c : Fin 256, (bywashref1_at.f 60 (⟨#[48, 49, 50, 51, 52, 53, 54, 55, 56, 57, 97, 101, 105, 111, 115, 116]⟩ : ByteArray) ((c.val : Nat) : Int)).map (fun t => decide (t ≥ 0)) = some (fives.contains c.val) := by decide +kernel
theorem at7 : ∀ c : Fin 256, (bywashref1_at.f 60 (⟨#[32, 33, 37, 38, 40, 41, 42, 43, 44, 45, 46, 47, 58, 59, 61, 63, 64, 95, 98, 99, 100, 102, 103, 104, 108, 109, 110, 112, 114, 117, 118, 119]⟩ : ByteArray) ((c.val : Nat) : Int)).map (fun t => decide (t ≥ 0)) = some (sevens.contains c.val) := by decide +kernel
theorem at_any (s : ByteArray) (c : Int) (d : Bool) (h : (bywashref1_at.f 60 s c).map (fun t => decide (t ≥ 0)) = some d) : ∃ t, decide (t ≥ 0) = d ∧ ∀ k, 60 ≤ k → bywashref1_at.f k s c = some t := by
  obtain ⟨t, h1, h2⟩ := Option.map_eq_some_iff.mp h
  exact ⟨t, h2, fun k hk => at_rounds (g := fun k => bywashref1_at.f k s c) (fun k => bywashref1_at.mono _ _ k) hk h1⟩
theorem rare_l0 : ∀ (q c n m k : Nat), c + q = 256 → n + m ≤ 1000 → 60 + 2 * q < k →
    bywashref1_rare.l0 k ((768 + n + m : Nat) : Int) ((768 + n : Nat) : Int) (c : Int) = some (if m < (rs q c).length then (((rs q c).getD m 0 : Nat) : Int) else 0) := by
  intro q
  induction q with
  | zero =>
    intro c n m k h hm hk
    obtain ⟨k, rfl⟩ : ∃ m, k = m + 1 := ⟨k - 1, by omega⟩
    simp only [bywashref1_rare.l0]
    rw [if_neg (by omega)]
    simp [rs]
  | succ q ih =>
    intro c n m k h hm hk
    obtain ⟨k, rfl⟩ : ∃ m, k = m + 2 := ⟨k - 2, by omega⟩
    have hc256 : c < 256 := by omega
    obtain ⟨t5, d5, a5⟩ := at_any _ _ _ (at5 ⟨c, hc256⟩)
    obtain ⟨t7, d7, a7⟩ := at_any _ _ _ (at7 ⟨c, hc256⟩)
    simp only at d5 a5 d7 a7
    have e : (c : Int) % 256 = (c : Int) := by omega
    have e2 : wrap64 ((c : Int) + 1) = ((c + 1 : Nat) : Int) := by unfold wrap64; omega
    simp only [bywashref1_rare.l0, bywashref1_rare.j1]
    rw [if_pos (by omega), e, e2, a5 (k + 1) (by omega)]
    clear e e2
    simp only [Option.bind_some]
    cases h5 : fives.contains c with
    | true =>
      rw [h5] at d5
      have hc : common c = true := by unfold common; rw [h5]; rfl
      rw [if_pos (of_decide_eq_true d5), rs_yes q c hc]
      simp only [if_true]
      exact ih (c + 1) n m k (by omega) hm (by omega)
    | false =>
      rw [h5] at d5
      rw [if_neg (of_decide_eq_false d5), a7 (k + 1) (by omega)]
      simp only [Option.bind_some]
      cases h7 : sevens.contains c with
      | true =>
        rw [h7] at d7
        have hc : common c = true := by unfold common; rw [h7, Bool.or_true]
        rw [d7, rs_yes q c hc]
        simp only [if_true]
        exact ih (c + 1) n m k (by omega) hm (by omega)
      | false =>
        rw [h7] at d7
        have hc : common c = false := by unfold common; rw [h5, h7]; rfl
        rw [d7, rs_no q c hc, if_neg Bool.false_ne_true]
        by_cases hm0 : m = 0
        · subst hm0
          rw [if_pos (by omega)]
          simp
        · obtain ⟨m, rfl⟩ : ∃ q, m = q + 1 := ⟨m - 1, by omega⟩
          have e3 : wrap64 (((768 + n : Nat) : Int) + 1) = ((768 + (n + 1) : Nat) : Int) := by unfold wrap64; omega
          rw [if_neg (by omega), e3, show 768 + n + (m + 1) = 768 + (n + 1) + m from by omega]
          clear e3
          rw [ih (c + 1) (n + 1) m k (by omega) (by omega) (by omega)]
          simp
theorem rare_f (m k : Nat) (hm : m < 208) (hk : 600 < k) : bywashref1_rare.f k ((768 + m : Nat) : Int) = some ((rares.getD m 0 : Nat) : Int) := by
  unfold bywashref1_rare.f
  have h := rare_l0 256 0 0 m k (by omega) (by omega) (by omega)
  rw [rs_all, rares_length, if_pos hm] at h
  rw [Nat.add_zero, Int.natCast_zero] at h
  exact h

theorem fld_split (X L p n m : Nat) (h : p + n + m ≤ L) : fld X L p (n + m) = fld X L p n * 2 ^ m + fld X L (p + n) m := by
  have h1 := fld_top X L p n m h
  have h2 : fld X L p (n + m) % 2 ^ m = fld X L (p + n) m := by
    unfold fld
    rw [show L - (p + n) - m = L - p - (n + m) from by omega, Nat.mod_mod_of_dvd _ (Nat.pow_dvd_pow 2 (by omega))]
  rw [← h1, ← h2, Nat.mul_comm]
  exact (Nat.div_add_mod _ _).symm

theorem add_nat (a b : Nat) (h : a + b < 9223372036854775808) : wrap64 ((a : Int) + (b : Int)) = ((a + b : Nat) : Int) := by unfold wrap64; omega
theorem two_nat (v r : Nat) (h : v < 1024) (h2 : r < 2) : wrap64 (wrap64 ((v : Int) * 2) + (r : Int)) = ((v * 2 + r : Nat) : Int) := by unfold wrap64; omega
theorem less_one (p kk : Nat) (h : 1 ≤ kk) (hb : p + kk < 9223372036854775808) : wrap64 (((p + kk : Nat) : Int) - 1) = ((p + (kk - 1) : Nat) : Int) := by unfold wrap64; omega
/-- A loop's answer, from some number of rounds on. -/
def Tells (g : Nat → Option (ByteArray × Int)) (R : ByteArray × Int) : Prop := ∃ K, ∀ k, K ≤ k → g k = some R
theorem Tells.step {g h : Nat → Option (ByteArray × Int)} {R : ByteArray × Int} (e : ∀ k, g (k + 1) = h k) (t : Tells h R) : Tells g R := by
  obtain ⟨K, hK⟩ := t
  refine ⟨K + 1, fun k hk => ?_⟩
  obtain ⟨k, rfl⟩ : ∃ m, k = m + 1 := ⟨k - 1, by omega⟩
  rw [e]; exact hK k (by omega)
theorem Tells.late {g h : Nat → Option (ByteArray × Int)} {R : ByteArray × Int} (n : Nat) (e : ∀ k, n ≤ k → g (k + 1) = h k) (t : Tells h R) : Tells g R := by
  obtain ⟨K, hK⟩ := t
  refine ⟨K + n + 1, fun k hk => ?_⟩
  obtain ⟨k, rfl⟩ : ∃ m, k = m + 1 := ⟨k - 1, by omega⟩
  rw [e k (by omega)]; exact hK k (by omega)
theorem Tells.now {g : Nat → Option (ByteArray × Int)} {R : ByteArray × Int} (e : ∀ k, g (k + 1) = some R) : Tells g R :=
  ⟨1, fun k hk => by obtain ⟨k, rfl⟩ : ∃ m, k = m + 1 := ⟨k - 1, by omega⟩; exact e k⟩

section
variable (X L p : Nat) (acc : List Nat) (R : ByteArray × Int)

theorem uns_l1_end (v : List Int) (x : List Int) : Tells (fun k => bywashref1_Unsqueeze.l1 k (L : Int) v x (L : Int)) (strOfNums x, 0) :=
  Tells.now fun k => by simp only [bywashref1_Unsqueeze.l1]; rw [if_neg (by omega)]

theorem uns_l3 (hL : L ≤ 8000000000) (x : List Int) : ∀ (m i : Nat), i + m = L →
    Tells (fun k => bywashref1_Unsqueeze.l3 k (L : Int) (bitsOf X L L) x (i : Int)) (if fld X L i m = 2 ^ m - 1 then (strOfNums x, 0) else ((⟨#[]⟩ : ByteArray), 3)) := by
  intro m
  induction m with
  | zero =>
    intro i hi
    rw [fld_zero, if_pos (by simp)]
    have e : i = L := by omega
    rw [e]
    refine Tells.step (h := fun k => bywashref1_Unsqueeze.l1 k (L : Int) (bitsOf X L L) x (L : Int)) (fun k => ?_) (uns_l1_end L _ x)
    simp only [bywashref1_Unsqueeze.l3]
    rw [if_neg (by omega)]
  | succ m ih =>
    intro i hi
    have hs := fld_split X L i 1 m (by omega)
    have h1 := fld_lt X L i 1
    have h2 := fld_lt X L (i + 1) m
    have hp := Nat.two_pow_pos m
    have hp2 : 2 ^ (m + 1) = 2 * 2 ^ m := by rw [Nat.pow_succ, Nat.mul_comm]
    rw [Nat.add_comm 1 m] at hs
    have hr := bitsOf_rd X L L i (by omega)
    by_cases g : fld X L i 1 = 1
    · have hiff : (fld X L i (m + 1) = 2 ^ (m + 1) - 1) = (fld X L (i + 1) m = 2 ^ m - 1) := by
        rw [hs, g, Nat.one_mul, hp2]
        exact propext ⟨fun h => by omega, fun h => by omega⟩
      simp only [hiff]
      refine Tells.step (h := fun k => bywashref1_Unsqueeze.l3 k (L : Int) (bitsOf X L L) x ((i + 1 : Nat) : Int)) (fun k => ?_) (ih (i + 1) (by omega))
      simp only [bywashref1_Unsqueeze.l3]
      have e : wrap64 ((i : Int) + 1) = ((i + 1 : Nat) : Int) := by unfold wrap64; omega
      rw [hr, e]
      clear e
      rw [if_pos (by omega), if_pos (by omega), if_pos (by rw [bitsOf_length]; omega), if_pos (by omega)]
    · have hne : ¬ fld X L i (m + 1) = 2 ^ (m + 1) - 1 := by
        have g0 : fld X L i 1 = 0 := by omega
        rw [hs, g0, Nat.zero_mul, Nat.zero_add, hp2]
        omega
      rw [if_neg hne]
      refine Tells.now fun k => ?_
      simp only [bywashref1_Unsqueeze.l3]
      rw [hr, if_pos (by omega), if_pos (by omega), if_pos (by rw [bitsOf_length]; omega), if_neg (by omega)]

theorem uns_fail (hL : L ≤ 8000000000) (hp : p ≤ L) (v kk : Int) (acc : List Nat) :
    Tells (fun k => bywashref1_Unsqueeze.j3 k (L : Int) (bitsOf X L L) (ints acc) (p : Int) v false kk false) (got (if L - p < 8 ∧ fld X L p (L - p) = 2 ^ (L - p) - 1 then some acc else none)) := by
  have e : wrap64 ((L : Int) - (p : Int)) = ((L - p : Nat) : Int) := by unfold wrap64; omega
  by_cases g : L - p < 8
  · have h3 := uns_l3 X L hL (ints acc) (L - p) p (by omega)
    have hr : got (if L - p < 8 ∧ fld X L p (L - p) = 2 ^ (L - p) - 1 then some acc else none) = (if fld X L p (L - p) = 2 ^ (L - p) - 1 then (strOfNums (ints acc), 0) else ((⟨#[]⟩ : ByteArray), 3)) := by
      by_cases g2 : fld X L p (L - p) = 2 ^ (L - p) - 1
      · rw [if_pos ⟨g, g2⟩, if_pos g2]; rfl
      · rw [if_neg (fun h => g2 h.2), if_neg g2]; rfl
    rw [hr]
    refine Tells.step (h := fun k => bywashref1_Unsqueeze.l3 k (L : Int) (bitsOf X L L) (ints acc) (p : Int)) (fun k => ?_) h3
    simp only [bywashref1_Unsqueeze.j3]
    rw [if_neg Bool.false_ne_true, if_neg Bool.false_ne_true, e, if_neg (by omega)]
  · rw [if_neg (fun h => g h.1), got_none]
    refine Tells.now fun k => ?_
    simp only [bywashref1_Unsqueeze.j3]
    rw [if_neg Bool.false_ne_true, if_neg Bool.false_ne_true, e, if_pos (by omega)]

/-- Behind a byte that was found. -/
theorem uns_found (x : List Int) (q v kk : Int) (t : Tells (fun k => bywashref1_Unsqueeze.l1 k (L : Int) (bitsOf X L L) x q) R) :
    Tells (fun k => bywashref1_Unsqueeze.l2 k (L : Int) (bitsOf X L L) x q v true kk) R := by
  have h3 : Tells (fun k => bywashref1_Unsqueeze.j3 k (L : Int) (bitsOf X L L) x q v true kk false) R :=
    Tells.step (fun k => by simp only [bywashref1_Unsqueeze.j3]; rw [if_neg Bool.false_ne_true, if_pos trivial]) t
  refine Tells.step (fun k => ?_) h3
  simp only [bywashref1_Unsqueeze.l2, Bool.not_true, ite_self]

/-- A bit more. -/
theorem uns_bit (hL : L ≤ 8000000000) (kk : Nat) (h1 : 1 ≤ kk) (h10 : kk ≤ 10) (hpk : p + kk ≤ L) (x : List Int)
    (t : Tells (fun k => if kk = 5 then bywashref1_Unsqueeze.j4 k (L : Int) (bitsOf X L L) x (p : Int) ((fld X L p kk : Nat) : Int) false (kk : Int) (decide (((fld X L p kk : Nat) : Int) < 16)) else bywashref1_Unsqueeze.j4 k (L : Int) (bitsOf X L L) x (p : Int) ((fld X L p kk : Nat) : Int) false (kk : Int) false) R) :
    Tells (fun k => bywashref1_Unsqueeze.l2 k (L : Int) (bitsOf X L L) x (p : Int) ((fld X L p (kk - 1) : Nat) : Int) false (kk : Int)) R := by
  have hs := fld_succ X L p (kk - 1) (by omega)
  rw [show kk - 1 + 1 = kk from by omega] at hs
  have hr := bitsOf_rd X L L (p + (kk - 1)) (by omega)
  have hf := fld_le X L p (kk - 1) 10 (by omega)
  have hf1 := fld_lt X L (p + (kk - 1)) 1
  have h3 : Tells (fun k => bywashref1_Unsqueeze.j3 k (L : Int) (bitsOf X L L) x (p : Int) ((fld X L p (kk - 1) : Nat) : Int) false (kk : Int) true) R := by
    refine Tells.step (fun k => ?_) t
    simp only [bywashref1_Unsqueeze.j3]
    rw [add_nat p kk (by omega), less_one p kk h1 (by omega), hr, two_nat _ _ hf (by omega), ← hs]
    rw [if_pos trivial, if_pos (by omega), if_pos (by rw [bitsOf_length]; omega)]
    by_cases g : kk = 5
    · rw [if_pos (by omega), if_pos g]
    · rw [if_neg (by omega), if_neg g]
  refine Tells.step (fun k => ?_) h3
  simp only [bywashref1_Unsqueeze.l2]
  rw [add_nat p kk (by omega), if_pos (by omega), if_pos (by omega)]
  rfl
/-- No code of so many bits stands there. -/
structure NoHit (X L p j : Nat) : Prop where
  five : j = 5 → ¬ fld X L p 5 < 16
  seven : j = 7 → ¬ (64 ≤ fld X L p 7 ∧ fld X L p 7 < 96)
  ten : j = 10 → ¬ (768 ≤ fld X L p 10 ∧ fld X L p 10 < 976)
theorem uns_j6 (kk : Nat) (v : Int) (x : List Int) (h10 : kk ≤ 10)
    (t : Tells (fun k => bywashref1_Unsqueeze.l2 k (L : Int) (bitsOf X L L) x (p : Int) v false ((kk + 1 : Nat) : Int)) R) :
    Tells (fun k => bywashref1_Unsqueeze.j6 k (L : Int) (bitsOf X L L) x (p : Int) v false (kk : Int) false) R := by
  refine Tells.step (fun k => ?_) t
  have e : wrap64 ((kk : Int) + 1) = ((kk + 1 : Nat) : Int) := by unfold wrap64; omega
  simp only [bywashref1_Unsqueeze.j6]
  rw [if_neg Bool.false_ne_true, if_neg Bool.false_ne_true, e]
theorem uns_step (hL : L ≤ 8000000000) (kk : Nat) (h1 : 1 ≤ kk) (h10 : kk ≤ 10) (hpk : p + kk ≤ L) (hn : NoHit X L p kk) (x : List Int)
    (t : Tells (fun k => bywashref1_Unsqueeze.l2 k (L : Int) (bitsOf X L L) x (p : Int) ((fld X L p kk : Nat) : Int) false ((kk + 1 : Nat) : Int)) R) :
    Tells (fun k => bywashref1_Unsqueeze.l2 k (L : Int) (bitsOf X L L) x (p : Int) ((fld X L p (kk - 1) : Nat) : Int) false (kk : Int)) R := by
  have h6 := uns_j6 X L p R kk _ x h10 t
  have h5 : Tells (fun k => bywashref1_Unsqueeze.j5 k (L : Int) (bitsOf X L L) x (p : Int) ((fld X L p kk : Nat) : Int) false (kk : Int) false) R := by
    refine Tells.step (fun k => ?_) h6
    simp only [bywashref1_Unsqueeze.j5]
    rw [if_neg Bool.false_ne_true]
    by_cases g : kk = 10
    · subst g
      have := hn.ten rfl
      rw [if_pos (by omega)]
      by_cases g2 : 768 ≤ fld X L p 10
      · rw [if_pos (by omega), show decide (((fld X L p 10 : Nat) : Int) < 976) = false from by simp; omega]
      · rw [if_neg (by omega)]
    · rw [if_neg (by omega)]
  have h4 : Tells (fun k => bywashref1_Unsqueeze.j4 k (L : Int) (bitsOf X L L) x (p : Int) ((fld X L p kk : Nat) : Int) false (kk : Int) false) R := by
    refine Tells.step (fun k => ?_) h5
    simp only [bywashref1_Unsqueeze.j4]
    rw [if_neg Bool.false_ne_true]
    by_cases g : kk = 7
    · subst g
      have := hn.seven rfl
      rw [if_pos (by omega)]
      by_cases g2 : 64 ≤ fld X L p 7
      · rw [if_pos (by omega), show decide (((fld X L p 7 : Nat) : Int) < 96) = false from by simp; omega]
      · rw [if_neg (by omega)]
    · rw [if_neg (by omega)]
  refine uns_bit X L p R hL kk h1 h10 hpk x ?_
  by_cases g : kk = 5
  · subst g
    have := hn.five rfl
    rw [show decide (((fld X L p 5 : Nat) : Int) < 16) = false from by simp; omega]
    simp only [if_true]
    exact h4
  · simp only [g, if_false]
    exact h4
theorem uns_chain (hL : L ≤ 8000000000) (x : List Int) : ∀ (n kk : Nat), 1 ≤ kk → (∀ j, kk ≤ j → j < kk + n → j ≤ 10 ∧ p + j ≤ L ∧ NoHit X L p j) →
    Tells (fun k => bywashref1_Unsqueeze.l2 k (L : Int) (bitsOf X L L) x (p : Int) ((fld X L p (kk + n - 1) : Nat) : Int) false ((kk + n : Nat) : Int)) R →
    Tells (fun k => bywashref1_Unsqueeze.l2 k (L : Int) (bitsOf X L L) x (p : Int) ((fld X L p (kk - 1) : Nat) : Int) false (kk : Int)) R := by
  intro n
  induction n with
  | zero => intro kk _ _ t; exact t
  | succ n ih =>
    intro kk h1 h t
    obtain ⟨a, b, c⟩ := h kk (Nat.le_refl _) (by omega)
    refine uns_step X L p R hL kk h1 a b c x ?_
    have := ih (kk + 1) (by omega) (fun j hj hj2 => h j (by omega) (by omega))
    rw [show kk + 1 + n = kk + (n + 1) from by omega, show kk + 1 - 1 = kk from by omega] at this
    exact this t

/-- One byte, or the end. -/
theorem uns_byte (hL : L ≤ 8000000000) (hp : p < L) (ha : 5 * acc.length ≤ p)
    (hyes : (dec X L p).2 ≠ 0 → Tells (fun k => bywashref1_Unsqueeze.l1 k (L : Int) (bitsOf X L L) (ints (acc ++ [(dec X L p).1])) ((p + (dec X L p).2 : Nat) : Int)) R)
    (hno : (dec X L p).2 = 0 → R = got (if L - p < 8 ∧ fld X L p (L - p) = 2 ^ (L - p) - 1 then some acc else none)) :
    Tells (fun k => bywashref1_Unsqueeze.l1 k (L : Int) (bitsOf X L L) (ints acc) (p : Int)) R := by
  suffices h : Tells (fun k => bywashref1_Unsqueeze.l2 k (L : Int) (bitsOf X L L) (ints acc) (p : Int) ((fld X L p (1 - 1) : Nat) : Int) false ((1 : Nat) : Int)) R by
    refine Tells.step (fun k => ?_) h
    simp only [bywashref1_Unsqueeze.l1]
    rw [if_pos (by omega), show 1 - 1 = 0 from rfl, fld_zero]
    rfl
  have hlen : (ints acc).length < 140737488355328 := by rw [ints_length]; omega
  unfold dec at hyes hno
  by_cases g5 : p + 5 ≤ L ∧ fld X L p 5 < 16
  · rw [if_pos g5] at hyes
    have hy := hyes (Nat.succ_ne_zero _)
    refine uns_chain X L p R hL (ints acc) 4 1 (by omega) (fun j h1 h2 => ⟨by omega, by omega, ⟨fun e => by omega, fun e => by omega, fun e => by omega⟩⟩) ?_
    refine uns_bit X L p R hL 5 (by omega) (by omega) g5.1 (ints acc) ?_
    rw [show decide (((fld X L p 5 : Nat) : Int) < 16) = true from by simp; omega]
    simp only [if_true]
    have hfd := uns_found X L R _ _ ((fld X L p 5 : Nat) : Int) 6 hy
    refine Tells.step (fun k => ?_) hfd
    simp only [bywashref1_Unsqueeze.j4]
    have hs : bt (⟨#[48, 49, 50, 51, 52, 53, 54, 55, 56, 57, 97, 101, 105, 111, 115, 116]⟩ : ByteArray) ((fld X L p 5 : Nat) : Int) = ((fives.getD (fld X L p 5) 0 : Nat) : Int) := fives_bt ⟨fld X L p 5, g5.2⟩
    rw [hs]
    clear hs
    rw [add_nat p 5 (by omega), if_pos trivial, if_pos (by omega), if_pos (by omega), if_pos hlen, ints_append, show wrap64 (((5 : Nat) : Int) + 1) = 6 from by decide +kernel]
    rfl
  rw [if_neg g5] at hyes hno
  by_cases g7 : p + 7 ≤ L ∧ 64 ≤ fld X L p 7 ∧ fld X L p 7 < 96
  · rw [if_pos g7] at hyes
    have hy := hyes (Nat.succ_ne_zero _)
    refine uns_chain X L p R hL (ints acc) 6 1 (by omega) (fun j h1 h2 => ⟨by omega, by omega, ⟨fun e h => g5 ⟨by omega, h⟩, fun e => by omega, fun e => by omega⟩⟩) ?_
    refine uns_bit X L p R hL 7 (by omega) (by omega) g7.1 (ints acc) ?_
    simp only [show ¬ (7 = 5) from by decide, if_false]
    have hfd := uns_found X L R _ _ ((fld X L p 7 : Nat) : Int) 8 hy
    have h5 : Tells (fun k => bywashref1_Unsqueeze.j5 k (L : Int) (bitsOf X L L) (ints acc) (p : Int) ((fld X L p 7 : Nat) : Int) false ((7 : Nat) : Int) true) R := by
      refine Tells.step (fun k => ?_) hfd
      simp only [bywashref1_Unsqueeze.j5]
      obtain ⟨m, hm⟩ : ∃ m, fld X L p 7 = 64 + m := ⟨fld X L p 7 - 64, by omega⟩
      have hm32 : m < 32 := by omega
      have hs : bt (⟨#[32, 33, 37, 38, 40, 41, 42, 43, 44, 45, 46, 47, 58, 59, 61, 63, 64, 95, 98, 99, 100, 102, 103, 104, 108, 109, 110, 112, 114, 117, 118, 119]⟩ : ByteArray) (m : Int) = ((sevens.getD m 0 : Nat) : Int) := sevens_bt ⟨m, hm32⟩
      have e2 : wrap64 (((64 + m : Nat) : Int) - 64) = (m : Int) := by clear hs; unfold wrap64; omega
      rw [hm, e2, hs]
      clear e2 hs
      rw [add_nat p 7 (by omega)]
      rw [if_pos trivial, if_pos (by omega), if_pos (by omega), if_pos hlen, ints_append, Nat.add_sub_cancel_left, show wrap64 (((7 : Nat) : Int) + 1) = 8 from by decide +kernel]
      rfl
    refine Tells.step (fun k => ?_) h5
    simp only [bywashref1_Unsqueeze.j4]
    rw [if_neg Bool.false_ne_true, if_pos (by rfl), if_pos (by omega), show decide (((fld X L p 7 : Nat) : Int) < 96) = true from by simp; omega]
  rw [if_neg g7] at hyes hno
  by_cases g10 : p + 10 ≤ L ∧ 768 ≤ fld X L p 10 ∧ fld X L p 10 < 976
  · rw [if_pos g10] at hyes
    have hy := hyes (Nat.succ_ne_zero _)
    refine uns_chain X L p R hL (ints acc) 9 1 (by omega) (fun j h1 h2 => ⟨by omega, by omega, ⟨fun e h => g5 ⟨by omega, h⟩, fun e h => g7 ⟨by omega, h⟩, fun e => by omega⟩⟩) ?_
    refine uns_bit X L p R hL 10 (by omega) (by omega) g10.1 (ints acc) ?_
    simp only [show ¬ (10 = 5) from by decide, if_false]
    have hfd := uns_found X L R _ _ ((fld X L p 10 : Nat) : Int) 11 hy
    have h6 : Tells (fun k => bywashref1_Unsqueeze.j6 k (L : Int) (bitsOf X L L) (ints acc) (p : Int) ((fld X L p 10 : Nat) : Int) false ((10 : Nat) : Int) true) R := by
      refine Tells.late 601 (fun k hk => ?_) hfd
      simp only [bywashref1_Unsqueeze.j6]
      obtain ⟨m, hm⟩ : ∃ m, fld X L p 10 = 768 + m := ⟨fld X L p 10 - 768, by omega⟩
      rw [hm, add_nat p 10 (by omega)]
      rw [if_pos trivial, rare_f m k (by omega) (by omega), Option.bind_some, if_pos hlen, ints_append, Nat.add_sub_cancel_left, show wrap64 (((10 : Nat) : Int) + 1) = 11 from by decide +kernel]
      rfl
    have h5 : Tells (fun k => bywashref1_Unsqueeze.j5 k (L : Int) (bitsOf X L L) (ints acc) (p : Int) ((fld X L p 10 : Nat) : Int) false ((10 : Nat) : Int) false) R := by
      refine Tells.step (fun k => ?_) h6
      simp only [bywashref1_Unsqueeze.j5]
      rw [if_neg Bool.false_ne_true, if_pos (by rfl), if_pos (by omega), show decide (((fld X L p 10 : Nat) : Int) < 976) = true from by simp; omega]
    refine Tells.step (fun k => ?_) h5
    simp only [bywashref1_Unsqueeze.j4]
    rw [if_neg Bool.false_ne_true, if_neg (by decide)]
  rw [if_neg g10] at hyes hno
  have hR := hno rfl
  have hfail : ∀ kk : Nat, (kk = 11 ∨ L < p + kk) → kk ≤ 11 → Tells (fun k => bywashref1_Unsqueeze.l2 k (L : Int) (bitsOf X L L) (ints acc) (p : Int) ((fld X L p (kk - 1) : Nat) : Int) false (kk : Int)) R := by
    intro kk hk h11
    rw [hR]
    have hf := uns_fail X L p hL (by omega) ((fld X L p (kk - 1) : Nat) : Int) (kk : Int) acc
    refine Tells.step (fun k => ?_) hf
    simp only [bywashref1_Unsqueeze.l2]
    rw [add_nat p kk (by omega)]
    by_cases g : kk = 11
    · rw [if_neg (by omega)]
    · rw [if_pos (by omega), if_neg (by omega)]
  obtain ⟨n, hn⟩ : ∃ n, n = min 10 (L - p) := ⟨_, rfl⟩
  refine uns_chain X L p R hL (ints acc) n 1 (by omega) (fun j h1 h2 => ⟨by omega, by omega, ⟨fun e h => g5 ⟨by omega, h⟩, fun e h => g7 ⟨by omega, h⟩, fun e h => g10 ⟨by omega, h⟩⟩⟩) ?_
  exact hfail (1 + n) (by omega) (by omega)
end

theorem uns_l1 (X L : Nat) (hL : L ≤ 8000000000) : ∀ (f p : Nat) (acc : List Nat), L < p + 5 * f → p ≤ L → 5 * acc.length ≤ p →
    Tells (fun k => bywashref1_Unsqueeze.l1 k (L : Int) (bitsOf X L L) (ints acc) (p : Int)) (got (unsq X L f p acc)) := by
  intro f
  induction f with
  | zero => intro p acc h1 h2 _; omega
  | succ f ih =>
    intro p acc h1 h2 ha
    unfold unsq
    by_cases hp : p = L
    · subst hp
      have hd : dec X p p = (0, 0) := by unfold dec; rw [if_neg (by omega), if_neg (by omega), if_neg (by omega)]
      rw [hd, if_pos rfl, Nat.sub_self, fld_zero, if_pos ⟨by omega, by decide⟩, got_some]
      exact uns_l1_end p _ (ints acc)
    · refine uns_byte X L p acc _ hL (by omega) ha (fun hd => ?_) (fun hd => ?_)
      · obtain ⟨hd5, hdL⟩ := dec_bd _ _ _ hd
        rw [if_neg hd]
        exact ih _ _ (by omega) hdL (by simp; omega)
      · rw [if_pos hd]

theorem uns_f (b : ByteArray) (hb : b.size ≤ 1000000000) : ∃ K, ∀ k, K ≤ k → bywashref1_Unsqueeze.f k b = some (got (unp b)) := by
  have h1 := uns_l1 (big (nats b)) (8 * b.size) (by omega) (8 * b.size + 1) 0 [] (by omega) (by omega) (by simp)
  obtain ⟨K, hK⟩ := uns_l0 b hb (big (nats b)) (8 * b.size) rfl rfl (got (unp b)) h1 (8 * b.size) 0 (by omega)
  refine ⟨K, fun k hk => ?_⟩
  unfold bywashref1_Unsqueeze.f
  have e : wrap64 (8 * (b.size : Int)) = ((8 * b.size : Nat) : Int) := by unfold wrap64; omega
  rw [e]
  clear e
  rw [if_pos (by omega), Int.toNat_natCast, if_pos (by omega)]
  exact hK k hk
end Go.Proofs.Ytmglfnphkngfdaa.SqL
