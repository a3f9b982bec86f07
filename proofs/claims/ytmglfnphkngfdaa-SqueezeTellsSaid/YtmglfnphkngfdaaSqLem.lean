/- What the printed functions of chapter 3 compute: in words of Sqmath. -/
import Derived.Test.YtmglfnphkngfdaaXSqx
import Derived.Test.YtmglfnphkngfdaaSqmath
namespace Go.Proofs.Ytmglfnphkngfdaa.SqL
open Go.RowKit Go.Proofs.Ytmglfnphkngfdaa.XSq Go.Proofs.YtmglfnphkngfdaaW.PrintWords Go.Proofs.YtmglfnphkngfdaaW.PrintLast Go.Proofs.YtmglfnphkngfdaaW.PrintMore
open Go.Proofs.Ytmglfnphkngfdaa.Vm Go.Proofs.Ytmglfnphkngfdaa.Sm

/-- Bytes as the printed functions have them. -/
def ints (l : List Nat) : List Int := l.map fun (n : Nat) => (n : Int)
theorem ints_append (l m : List Nat) : ints (l ++ m) = ints l ++ ints m := by unfold ints; rw [List.map_append]
theorem ints_length (l : List Nat) : (ints l).length = l.length := by unfold ints; rw [List.length_map]

theorem or_big (a b : Nat) (ha : a < 4611686018427387904) (hb : b < 4611686018427387904) : Go.bits .or .i64 (a : Int) (b : Int) = ((a ||| b : Nat) : Int) := by
  have hle : a ||| b < 2 ^ 62 := Nat.or_lt_two_pow (by omega) (by omega)
  have e : ((BitVec.ofInt 64 (a : Int)) ||| (BitVec.ofInt 64 (b : Int))).toNat = a ||| b := by
    simp only [BitVec.toNat_or, BitVec.ofInt_natCast, BitVec.toNat_ofNat]
    rw [Nat.mod_eq_of_lt (by omega), Nat.mod_eq_of_lt (by omega)]
  show IntKind.wrap .i64 (((BitVec.ofInt 64 (a : Int)) ||| (BitVec.ofInt 64 (b : Int))).toNat : Int) = _
  rw [e]
  exact wrap_i64 _ (by omega) (by omega)
theorem or_low (a b n : Nat) (hb : b < 2 ^ n) (ha : a * 2 ^ n < 4611686018427387904) (hb2 : b < 4611686018427387904) : Go.bits .or .i64 ((a * 2 ^ n : Nat) : Int) (b : Int) = ((a * 2 ^ n + b : Nat) : Int) := by
  rw [or_big _ _ ha hb2, or_add (a * 2 ^ n) n b (Nat.mul_mod_left ..) hb]
theorem and_mask (a n : Nat) (ha : a < 9223372036854775808) (hn : 2 ^ n < 9223372036854775808) : Go.bits .and .i64 (a : Int) ((2 ^ n - 1 : Nat) : Int) = ((a % 2 ^ n : Nat) : Int) := by
  have := Nat.two_pow_pos n
  rw [and_i64 _ _ ha (by omega), Nat.and_two_pow_sub_one_eq_mod]
theorem pow_le {m n : Nat} (h : m ≤ n) : 2 ^ m ≤ 2 ^ n := Nat.pow_le_pow_right (by omega) h
theorem shl_one (n : Nat) (h : n ≤ 60) : wrap64 (shl .i64 1 (n : Int) - 1) = ((2 ^ n - 1 : Nat) : Int) := by
  have h1 : 2 ^ n ≤ 2 ^ 60 := pow_le h
  have h2 := shl_i64 1 n (by omega) (by omega)
  have h3 := Nat.two_pow_pos n
  rw [show ((1 : Nat) : Int) = 1 from rfl] at h2
  rw [h2, Nat.one_mul, wrap64_small _ (by omega) (by omega)]
  omega
theorem shr_nat (W n : Nat) (h : n ≤ 64) : shr .i64 (W : Int) (n : Int) = ((W / 2 ^ n : Nat) : Int) := by
  unfold shr
  rw [show min ((n : Int).toNat) (IntKind.bits .i64) = n from by simp only [IntKind.bits]; omega]
  push_cast; rfl
theorem shr_byte (c n : Nat) (h : n ≤ 8) : shr .u8 (c : Int) (n : Int) = ((c / 2 ^ n : Nat) : Int) := by
  unfold shr
  rw [show min ((n : Int).toNat) (IntKind.bits .u8) = n from by simp only [IntKind.bits]; omega]
  push_cast; rfl

/-! ### codes -/
theorem code_tab : ∀ c : Fin 256, squeeze_code.f 60 ((c.val : Nat) : Int) = some (((val c.val : Nat) : Int), ((len c.val : Nat) : Int)) := by decide +kernel
theorem code_any (c k : Nat) (hc : c < 256) (hk : 60 ≤ k) : squeeze_code.f k (c : Int) = some ((val c : Int), (len c : Int)) :=
  at_rounds (g := fun k => squeeze_code.f k (c : Int)) (fun k => squeeze_code.mono _ k) hk (code_tab ⟨c, hc⟩)
theorem bits_any (c k : Nat) (hc : c < 256) (hk : 60 ≤ k) : squeeze_Bits.f k (c : Int) = some (len c : Int) := by
  unfold squeeze_Bits.f; rw [code_any c k hc hk]; rfl
theorem rcode_tab : ∀ c : Fin 256, bywashref1_code.f 60 ((c.val : Nat) : Int) = some (((val c.val : Nat) : Int), ((len c.val : Nat) : Int)) := by decide +kernel
theorem rcode_any (c k : Nat) (hc : c < 256) (hk : 60 ≤ k) : bywashref1_code.f k (c : Int) = some ((val c : Int), (len c : Int)) :=
  at_rounds (g := fun k => bywashref1_code.f k (c : Int)) (fun k => bywashref1_code.mono _ k) hk (rcode_tab ⟨c, hc⟩)
theorem rbits_any (c k : Nat) (hc : c < 256) (hk : 60 ≤ k) : bywashref1_Bits.f k (c : Int) = some (len c : Int) := by
  unfold bywashref1_Bits.f; rw [rcode_any c k hc hk]; rfl

/-! ### Put -/
/-- What stands when some bytes have been packed: the bytes that are out, n bits that are not. -/
structure Half (pre out : List Nat) (W n : Nat) : Prop where
  lt : ∀ c ∈ out, c < 256
  size : 8 * out.length + n = tot pre
  bits : big out * 2 ^ n + W % 2 ^ n = cat pre
theorem Half.emit {pre out : List Nat} {W n : Nat} (h : Half pre out W (n + 8)) : Half pre (out ++ [W / 2 ^ n % 256]) W n := by
  refine ⟨fun c hc => ?_, ?_, ?_⟩
  · rcases List.mem_append.mp hc with g | g
    · exact h.lt c g
    · rw [List.mem_singleton] at g; omega
  · have := h.size; simp; omega
  · rw [big_snoc, Sm.emit, h.bits]
theorem Half.add {pre out : List Nat} {W n c : Nat} (h : Half pre out W n) (hW : W < 2 ^ n) (hc : c < 256) : Half (pre ++ [c]) out (W * 2 ^ len c + val c) (n + len c) := by
  refine ⟨h.lt, ?_, ?_⟩
  · have := h.size; rw [tot_snoc]; omega
  · have hv := val_lt c hc
    have hb := h.bits
    rw [Nat.mod_eq_of_lt hW] at hb
    have hlt : W * 2 ^ len c + val c < 2 ^ (n + len c) := by
      rw [Nat.pow_add]
      have h2 := Nat.mul_le_mul_right (2 ^ len c) (show W + 1 ≤ 2 ^ n from hW)
      rw [Nat.add_mul, Nat.one_mul] at h2
      omega
    rw [Nat.mod_eq_of_lt hlt, cat_snoc, ← hb, Nat.pow_add, Nat.add_mul, Nat.mul_assoc]
    omega
theorem Half.mask {pre out : List Nat} {W n : Nat} (h : Half pre out W n) : Half pre out (W % 2 ^ n) n :=
  ⟨h.lt, h.size, by rw [Nat.mod_mod]; exact h.bits⟩
theorem Half.out_len {pre out : List Nat} {W n : Nat} (h : Half pre out W n) (hp : ∀ c ∈ pre, c < 256) : 8 * out.length ≤ 10 * pre.length := by
  have := h.size
  have := tot_bd pre hp
  omega
theorem Half.last {l out : List Nat} {W n : Nat} (h : Half l out W n) (hW : W < 2 ^ n) (h0 : 0 < n) (h8 : n < 8) : Packed l (out ++ [W * 2 ^ (8 - n) + (2 ^ (8 - n) - 1)]) (8 - n) := by
  have hb := h.bits
  rw [Nat.mod_eq_of_lt hW] at hb
  have hlt : W * 2 ^ (8 - n) + (2 ^ (8 - n) - 1) < 256 := by
    have h2 := Nat.mul_le_mul_right (2 ^ (8 - n)) (show W + 1 ≤ 2 ^ n from hW)
    rw [Nat.add_mul, Nat.one_mul, ← Nat.pow_add, show n + (8 - n) = 8 from by omega] at h2
    have := Nat.two_pow_pos (8 - n)
    omega
  refine ⟨fun c hc => ?_, by omega, ?_, ?_⟩
  · rcases List.mem_append.mp hc with g | g
    · exact h.lt c g
    · rw [List.mem_singleton] at g; omega
  · have := h.size; simp; omega
  · rw [big_snoc, ← hb, Nat.add_mul, Nat.mul_assoc, ← Nat.pow_add, show n + (8 - n) = 8 from by omega]
    omega
theorem Half.whole {l out : List Nat} {W : Nat} (h : Half l out W 0) : Packed l out 0 := by
  refine ⟨h.lt, by omega, by have := h.size; omega, ?_⟩
  have := h.bits
  rw [Nat.pow_zero, Nat.mod_one] at this
  omega

theorem last_byte (W n : Nat) (hW : W < 2 ^ n) (h0 : 0 < n) (h8 : n < 8) :
    (Go.bits .or .i64 (shl .i64 (W : Int) ((8 - n : Nat) : Int)) ((2 ^ (8 - n) - 1 : Nat) : Int)) % 256 = ((W * 2 ^ (8 - n) + (2 ^ (8 - n) - 1) : Nat) : Int) := by
  have hlt : W * 2 ^ (8 - n) + 2 ^ (8 - n) ≤ 256 := by
    have h2 := Nat.mul_le_mul_right (2 ^ (8 - n)) (show W + 1 ≤ 2 ^ n from hW)
    rw [Nat.add_mul, Nat.one_mul, ← Nat.pow_add, show n + (8 - n) = 8 from by omega] at h2
    omega
  have hp := Nat.two_pow_pos (8 - n)
  rw [shl_i64 W (8 - n) (by omega) (by omega), or_low W (2 ^ (8 - n) - 1) (8 - n) (by omega) (by omega) (by omega)]
  omega

/-- The inner loop: whole bytes go out. -/
theorem put_l1 (s : ByteArray) (i : Nat) (pre : List Nat) (hi : i < 140737488355328) (hpre : ∀ c ∈ pre, c < 256) (hpl : pre.length ≤ 1000000000) (R : ByteArray) :
    ∀ (d n W : Nat) (out : List Nat), n < 8 + 8 * d → n ≤ 17 → W < 131072 → Half pre out W n →
    (∀ out' W' n', Half pre out' W' n' → n' < 8 → W' < 2 ^ n' → ∃ K, ∀ k, K ≤ k → squeeze_Put.l0 k s (ints out') (W' : Int) (n' : Int) (s.size : Int) ((i + 1 : Nat) : Int) = some R) →
    ∃ K, ∀ k, K ≤ k → squeeze_Put.l1 k s (ints out) (W : Int) (n : Int) (s.size : Int) (i : Int) = some R := by
  intro d
  induction d with
  | zero =>
    intro n W out hn _ hW h next
    obtain ⟨K, hK⟩ := next out (W % 2 ^ n) n h.mask (by omega) (Nat.mod_lt _ (Nat.two_pow_pos n))
    refine ⟨K + 1, fun k hk => ?_⟩
    obtain ⟨k, rfl⟩ : ∃ m, k = m + 1 := ⟨k - 1, by omega⟩
    simp only [squeeze_Put.l1]
    rw [if_neg (by omega), if_pos (by omega), shl_one n (by omega)]
    have h2 : 2 ^ n ≤ 2 ^ 8 := pow_le (by omega)
    rw [and_mask W n (by omega) (by omega)]
    have e : wrap64 ((i : Int) + 1) = ((i + 1 : Nat) : Int) := by unfold wrap64; omega
    rw [e]
    exact hK k (by omega)
  | succ d ih =>
    intro n W out hn h17 hW h next
    by_cases g : n < 8
    · obtain ⟨K, hK⟩ := next out (W % 2 ^ n) n h.mask (by omega) (Nat.mod_lt _ (Nat.two_pow_pos n))
      refine ⟨K + 1, fun k hk => ?_⟩
      obtain ⟨k, rfl⟩ : ∃ m, k = m + 1 := ⟨k - 1, by omega⟩
      simp only [squeeze_Put.l1]
      rw [if_neg (by omega), if_pos (by omega), shl_one n (by omega)]
      have h2 : 2 ^ n ≤ 2 ^ 8 := pow_le (by omega)
      rw [and_mask W n (by omega) (by omega)]
      have e : wrap64 ((i : Int) + 1) = ((i + 1 : Nat) : Int) := by unfold wrap64; omega
      rw [e]
      exact hK k (by omega)
    · obtain ⟨m, rfl⟩ : ∃ m, n = m + 8 := ⟨n - 8, by omega⟩
      obtain ⟨K, hK⟩ := ih m W (out ++ [W / 2 ^ m % 256]) (by omega) (by omega) hW h.emit next
      refine ⟨K + 1, fun k hk => ?_⟩
      obtain ⟨k, rfl⟩ : ∃ m, k = m + 1 := ⟨k - 1, by omega⟩
      have hol := h.out_len hpre
      simp only [squeeze_Put.l1]
      have e : wrap64 (((m + 8 : Nat) : Int) - 8) = (m : Int) := by unfold wrap64; omega
      rw [e, if_pos (by omega), if_pos (by omega), if_pos (by rw [ints_length]; omega), shr_nat W m (by omega)]
      have := hK k (by omega)
      rw [ints_append] at this
      have e2 : ((W / 2 ^ m : Nat) : Int) % 256 = ((W / 2 ^ m % 256 : Nat) : Int) := by omega
      rw [e2]
      exact this

theorem put_l0 (s : ByteArray) (hs : s.size ≤ 1000000000) (P : List Nat) (hP : nats s = P) : ∀ (rest pre out : List Nat) (W n : Nat), P = pre ++ rest → Half pre out W n → n < 8 → W < 2 ^ n →
    ∃ o p, Packed P o p ∧ ∃ K, ∀ k, K ≤ k → squeeze_Put.l0 k s (ints out) (W : Int) (n : Int) (s.size : Int) (pre.length : Int) = some (strOfNums (ints o)) := by
  have hlt := nats_lt s
  have hlen := nats_length s
  rw [hP] at hlt hlen
  intro rest
  induction rest with
  | nil =>
    intro pre out W n e h h8 hW
    rw [List.append_nil] at e
    subst e
    have hol := h.out_len hlt
    by_cases g : n = 0
    · subst g
      refine ⟨out, 0, h.whole, 1, fun k hk => ?_⟩
      obtain ⟨k, rfl⟩ : ∃ m, k = m + 1 := ⟨k - 1, by omega⟩
      simp only [squeeze_Put.l0]
      rw [if_neg (by omega), if_neg (by omega)]
    · refine ⟨_, _, h.last hW (by omega) h8, 1, fun k hk => ?_⟩
      obtain ⟨k, rfl⟩ : ∃ m, k = m + 1 := ⟨k - 1, by omega⟩
      simp only [squeeze_Put.l0]
      have e : wrap64 (8 - (n : Int)) = ((8 - n : Nat) : Int) := by unfold wrap64; omega
      rw [if_neg (by omega), if_pos (by omega), e, if_pos (by omega), if_pos (by rw [ints_length]; omega), shl_one (8 - n) (by omega), last_byte W n hW (by omega) h8, ints_append]
      rfl
  | cons c rest ih =>
    intro pre out W n e h h8 hW
    have hc : c < 256 := hlt c (by rw [e]; simp)
    have hb := len_bd c hc
    have hv := val_lt c hc
    have hpl : pre.length + 1 + rest.length = s.size := by rw [← hlen, e]; simp; omega
    have hby : bt s (pre.length : Int) = (c : Int) := by
      have hd := nats_drop s pre.length (by omega)
      rw [hP, e, List.drop_left] at hd
      rw [bt_nat, (List.cons.inj hd).1]
    have hpre' : ∀ d ∈ pre ++ [c], d < 256 := fun d hd => hlt d (by rw [e]; rcases List.mem_append.mp hd with g | g; exact List.mem_append_left _ g; rw [List.mem_singleton] at g; subst g; simp)
    have hW17 : W * 2 ^ len c + val c < 131072 := by
      have h1 : 2 ^ n ≤ 2 ^ 7 := pow_le (by omega)
      have h2 : 2 ^ len c ≤ 2 ^ 10 := pow_le (by omega)
      have h3 : W * 2 ^ len c ≤ 127 * 2 ^ len c := Nat.mul_le_mul_right _ (by omega)
      omega
    have hWl : W * 2 ^ len c < 131072 := by omega
    have hv2 : val c < 131072 := by omega
    have key := ih (pre ++ [c])
    rw [List.append_assoc, List.singleton_append] at key
    -- the result hangs on what follows: it is the same for all ways
    have hadd := h.add hW hc
    obtain ⟨o, p, hpk⟩ : ∃ o p, Packed P o p := by
      obtain ⟨m, hm⟩ : ∃ m, m = n + len c := ⟨_, rfl⟩
      have : ∃ out' W' n', Half (pre ++ [c]) out' W' n' ∧ n' < 8 ∧ W' < 2 ^ n' := by
        have step : ∀ d n W out, n < 8 + 8 * d → Half (pre ++ [c]) out W n → ∃ out' W' n', Half (pre ++ [c]) out' W' n' ∧ n' < 8 ∧ W' < 2 ^ n' := by
          intro d
          induction d with
          | zero => intro n W out hn h; exact ⟨out, W % 2 ^ n, n, h.mask, by omega, Nat.mod_lt _ (Nat.two_pow_pos n)⟩
          | succ d ihd =>
            intro n W out hn h
            by_cases g : n < 8
            · exact ⟨out, W % 2 ^ n, n, h.mask, g, Nat.mod_lt _ (Nat.two_pow_pos n)⟩
            · obtain ⟨m, rfl⟩ : ∃ m, n = m + 8 := ⟨n - 8, by omega⟩
              exact ihd m W _ (by omega) h.emit
        exact step 2 _ _ _ (by omega) hadd
      obtain ⟨out', W', n', a, b, d⟩ := this
      obtain ⟨o, p, hpk, _⟩ := key out' W' n' e a b d
      exact ⟨o, p, hpk⟩
    refine ⟨o, p, hpk, ?_⟩
    obtain ⟨K, hK⟩ := put_l1 s pre.length (pre ++ [c]) (by omega) hpre' (by simp; omega) (strOfNums (ints o)) 2 (n + len c) (W * 2 ^ len c + val c) out (by omega) (by omega) hW17 hadd
      (fun out' W' n' a b d => by
        obtain ⟨o', p', hpk', hk⟩ := key out' W' n' e a b d
        obtain rfl := hpk.same hpk'
        simpa using hk)
    refine ⟨K + 61, fun k hk => ?_⟩
    obtain ⟨k, rfl⟩ : ∃ m, k = m + 1 := ⟨k - 1, by omega⟩
    simp only [squeeze_Put.l0]
    rw [if_pos (by omega), if_pos (by omega), if_pos (by omega), hby, code_any c k hc (by omega)]
    simp only [Option.bind_some]
    rw [if_pos (by omega), shl_i64 W (len c) (by omega) (by omega), or_low W (val c) (len c) hv (by omega) (by omega)]
    have e3 : wrap64 ((n : Int) + (len c : Int)) = ((n + len c : Nat) : Int) := by unfold wrap64; omega
    rw [e3]
    exact hK k (by omega)

theorem half_nil : Half [] [] 0 0 := ⟨by simp, rfl, by simp [big, cat]⟩
/-- A text, packed. -/
theorem put_f (s : ByteArray) (hs : s.size ≤ 1000000000) : ∃ o p, Packed (nats s) o p ∧ ∃ K, ∀ k, K ≤ k → squeeze_Put.f k s = some (strOfNums (ints o)) := by
  obtain ⟨o, p, hp, K, hK⟩ := put_l0 s hs (nats s) rfl (nats s) [] [] 0 0 rfl half_nil (by omega) (by omega)
  exact ⟨o, p, hp, K, fun k hk => hK k hk⟩
end Go.Proofs.Ytmglfnphkngfdaa.SqL
