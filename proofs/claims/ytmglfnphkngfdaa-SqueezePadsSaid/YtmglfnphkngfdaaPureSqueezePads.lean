/- A whole byte of ones behind a text is none, nor is anything turned in the ones at its end, for every text within the law's length and every bit; no further condition. -/
import Derived.Test.YtmglfnphkngfdaaSqLem2
namespace Go.Proofs.Ytmglfnphkngfdaa.Pure
open Go.RowKit Go.Proofs.Ytmglfnphkngfdaa.XSq Go.Proofs.YtmglfnphkngfdaaW.PrintWords Go.Proofs.YtmglfnphkngfdaaW.PrintLast Go.Proofs.YtmglfnphkngfdaaW.PrintMore
open Go.Proofs.Ytmglfnphkngfdaa.Vm Go.Proofs.Ytmglfnphkngfdaa.Sm Go.Proofs.Ytmglfnphkngfdaa.SqL

/-- Bytes whose bits begin with a text's are read so far. -/
theorem unsq_run (X L : Nat) (l : List Nat) (hl : ∀ c ∈ l, c < 256) (hL : tot l ≤ L) (hX : X / 2 ^ (L - tot l) = cat l) : ∀ (rest acc : List Nat) (f : Nat), l = acc ++ rest →
    unsq X L (f + rest.length) (tot acc) acc = unsq X L f (tot l) l := by
  intro rest
  induction rest with
  | nil => intro acc f e; rw [List.append_nil] at e; subst e; rfl
  | cons c rest ih =>
    intro acc f e
    have hc : c < 256 := hl c (by rw [e]; simp)
    have hb := len_bd c hc
    have htot : tot l = tot acc + len c + tot rest := by
      rw [e, tot_append]
      have : tot (c :: rest) = len c + tot rest := rfl
      omega
    have hcat : cat l = (cat acc * 2 ^ len c + val c) * 2 ^ tot rest + cat rest := by
      rw [e, show acc ++ c :: rest = (acc ++ [c]) ++ rest from by simp, cat_append, cat_snoc]
    have hrest := cat_lt rest (fun d hd => hl d (by rw [e]; simp [hd]))
    have hv := val_lt c hc
    have hd : dec X L (tot acc) = (c, len c) := by
      refine dec_code _ _ _ c hc (by omega) ?_
      unfold fld
      have e2 : L - tot acc - len c = (L - tot l) + tot rest := by omega
      rw [e2, Nat.pow_add, ← Nat.div_div_eq_div_mul, hX, hcat, Nat.mul_comm _ (2 ^ tot rest), Nat.mul_add_div (Nat.two_pow_pos _), Nat.div_eq_of_lt hrest, Nat.add_zero, Nat.mul_comm (cat acc), Nat.mul_add_mod, Nat.mod_eq_of_lt hv]
    rw [List.length_cons, ← Nat.add_assoc]
    rw [unsq, hd, if_neg (by show ¬ len c = 0; omega)]
    show unsq _ _ (f + rest.length) (tot acc + len c) (acc ++ [c]) = _
    rw [← tot_snoc]
    exact ih (acc ++ [c]) f (by rw [e]; simp)
/-- Among ones there is no code. -/
theorem dec_ones (X L p m : Nat) (hL : L = p + m) (hX : X % 2 ^ m = 2 ^ m - 1) : dec X L p = (0, 0) := by
  unfold dec
  rw [if_neg, if_neg, if_neg]
  · rintro ⟨h1, _, h3⟩
    rw [fld_ones X L p m 10 hL hX (by omega)] at h3
    omega
  · rintro ⟨h1, _, h3⟩
    rw [fld_ones X L p m 7 hL hX (by omega)] at h3
    omega
  · rintro ⟨h1, h2⟩
    rw [fld_ones X L p m 5 hL hX (by omega)] at h2
    omega
/-- A whole byte of ones behind a text. -/
theorem unp_more (s : ByteArray) (o : List Nat) (p : Nat) (hp : Packed (nats s) o p) : unp (strOfNums (ints o) ++ ⟨#[255]⟩) = none := by
  have no := nats_ints o hp.lt
  have hn : nats (strOfNums (ints o) ++ ⟨#[255]⟩) = o ++ [255] := by rw [nats_append, no]; rfl
  have hz : (strOfNums (ints o) ++ ⟨#[255]⟩).size = o.length + 1 := by rw [← nats_length, hn]; simp
  have hs := hp.size
  have ht := tot_bd (nats s) (nats_lt s)
  unfold unp
  rw [hn, hz]
  have hbig : big (o ++ [255]) = 2 ^ (p + 8) * cat (nats s) + (2 ^ (p + 8) - 1) := by
    have e : 2 ^ (p + 8) = 256 * 2 ^ p := by rw [Nat.pow_add, Nat.mul_comm]
    have hp1 := Nat.two_pow_pos p
    rw [big_snoc, hp.bits, e, Nat.add_mul, Nat.mul_assoc, Nat.mul_comm (2 ^ p) 256, Nat.mul_comm (cat (nats s))]
    omega
  have hlow : 2 ^ (p + 8) - 1 < 2 ^ (p + 8) := by have := Nat.two_pow_pos (p + 8); omega
  have hX : big (o ++ [255]) / 2 ^ (8 * (o.length + 1) - tot (nats s)) = cat (nats s) := by
    rw [show 8 * (o.length + 1) - tot (nats s) = p + 8 from by omega, hbig, Nat.mul_add_div (Nat.two_pow_pos _), Nat.div_eq_of_lt hlow, Nat.add_zero]
  obtain ⟨f, hf⟩ : ∃ f, 8 * (o.length + 1) + 1 = f + 1 + (nats s).length := ⟨8 * (o.length + 1) - (nats s).length, by omega⟩
  rw [hf]
  have := unsq_run (big (o ++ [255])) (8 * (o.length + 1)) (nats s) (nats_lt s) (by omega) hX (nats s) [] (f + 1) rfl
  rw [show tot [] = 0 from rfl] at this
  rw [this, unsq, dec_ones _ _ _ (p + 8) (by omega) (by rw [hbig, Nat.mul_add_mod, Nat.mod_eq_of_lt hlow]), if_pos rfl, if_neg (by omega)]

theorem pad_index (k n : Int) (hn : 0 < n) (hm : n ≤ 7) :
    ∃ t : Nat, Int.tmod (wrap64 (Int.tmod k n + n)) n = (t : Int) ∧ (t : Int) < n := by
  have h1 := Int.tmod_lt_of_pos k hn
  have h2 := Int.lt_tmod_of_pos k hn
  rw [wrap64_small _ (by omega) (by omega)]
  have h3 : 0 ≤ Int.tmod (Int.tmod k n + n) n := Int.tmod_nonneg _ (by omega)
  have h4 := Int.tmod_lt_of_pos (Int.tmod k n + n) hn
  exact ⟨(Int.tmod (Int.tmod k n + n) n).toNat, by omega, by omega⟩
theorem xor_u8 (a b : Nat) (ha : a < 256) (hb : b < 256) : Go.bits .xor .u8 (a : Int) (b : Int) = ((a ^^^ b : Nat) : Int) := by
  have hle : a ^^^ b < 2 ^ 8 := Nat.xor_lt_two_pow (by omega) (by omega)
  have e : ((BitVec.ofInt 8 (a : Int)) ^^^ (BitVec.ofInt 8 (b : Int))).toNat = a ^^^ b := by
    simp only [BitVec.toNat_xor, BitVec.ofInt_natCast, BitVec.toNat_ofNat]
    rw [Nat.mod_eq_of_lt (by omega), Nat.mod_eq_of_lt (by omega)]
  show IntKind.wrap .u8 (((BitVec.ofInt 8 (a : Int)) ^^^ (BitVec.ofInt 8 (b : Int))).toNat : Int) = _
  rw [e]
  exact wrap_u8 _ (by omega) (by omega)
theorem shl_bit : ∀ j : Fin 8, shl .u8 1 ((j.val : Nat) : Int) = ((2 ^ j.val : Nat) : Int) := by decide +kernel

/-- The end of the law, behind the count of bits. -/
theorem pads_end (s : ByteArray) (bit : Int) (o : List Nat) (p : Nat) (hs : s.size ≤ 100) (hs0 : s.size ≠ 0) (hp : Packed (nats s) o p) (k : Nat) (hk : 10000 < k) :
    bywashlaw3_SqueezePads.l0 k s bit (strOfNums (ints o)) (tot (nats s) : Int) (s.size : Int) = some true := by
  have no := nats_ints o hp.lt
  have zo : (strOfNums (ints o)).size = o.length := by rw [← nats_length, no]
  have hsz := hp.size
  have hpd := hp.pad
  have ht := tot_bd (nats s) (nats_lt s)
  rw [nats_length] at ht
  have hm := unp_more s o p hp
  obtain ⟨k, rfl⟩ : ∃ m, k = m + 1 + 1 := ⟨k - 2, by omega⟩
  have hz : (strOfNums (ints o) ++ ⟨#[255]⟩).size = o.length + 1 := by rw [← nats_length, nats_append, no]; simp [nats]
  simp only [bywashlaw3_SqueezePads.l0]
  rw [if_neg (by omega), if_neg (by omega), if_pos (by omega), get_f _ (by omega) (k + 1) (by omega), hm, got_none, Option.bind_some, if_pos (show ((⟨#[]⟩ : ByteArray), (3 : Int)).2 = 3 from rfl)]
  have e1 : wrap64 (wrap64 (8 * ((strOfNums (ints o)).size : Int)) - (tot (nats s) : Int)) = (p : Int) := by unfold wrap64; omega
  rw [e1]
  clear e1
  rw [if_neg (by omega), show decide ((p : Int) > 7) = false from by simp; omega]
  simp only [bywashlaw3_SqueezePads.j2]
  rw [if_neg Bool.false_ne_true]
  by_cases hp0 : p = 0
  · rw [if_pos (by omega)]
  rw [if_neg (by omega)]
  obtain ⟨t, ht, htp⟩ := pad_index bit p (by omega) (by omega)
  have e2 : wrap64 (((strOfNums (ints o)).size : Int) - 1) = ((o.length - 1 : Nat) : Int) := by unfold wrap64; omega
  have ht8 : t < 8 := by omega
  have hsh : shl .u8 1 (t : Int) = ((2 ^ t : Nat) : Int) := shl_bit ⟨t, ht8⟩
  rw [e2, ht, u64_nat t (by omega), hsh]
  clear e2 ht hsh
  rw [if_pos (by omega), if_pos (by omega), if_pos (by omega), if_pos (by omega), bt_nat]
  have hby := by_lt (strOfNums (ints o)) (o.length - 1)
  have hby2 : by_ (strOfNums (ints o)) (o.length - 1) = o.getD (o.length - 1) 0 := by rw [by_getD, no]
  have hpow : 2 ^ t < 256 := Nat.pow_lt_pow_right (by omega) (show t < 8 from ht8)
  rw [xor_u8 _ _ hby hpow]
  generalize hx : by_ (strOfNums (ints o)) (o.length - 1) ^^^ 2 ^ t = x
  have hxlt : x < 256 := by rw [← hx]; exact Nat.xor_lt_two_pow (n := 8) hby hpow
  have hxne : x ≠ o.getD (o.length - 1) 0 := by
    rw [← hby2, ← hx]
    intro h
    have h3 := congrArg (fun z => by_ (strOfNums (ints o)) (o.length - 1) ^^^ z) h
    rw [← Nat.xor_assoc, Nat.xor_self, Nat.zero_xor] at h3
    have := Nat.two_pow_pos t
    omega
  rw [Option.bind_some]
  have n1 : nats (strOfNums [(x : Int)]) = [x] := nats_ints [x] (by intro c hc; rw [List.mem_singleton] at hc; omega)
  rw [Int.toNat_natCast]
  have hb' : nats ((strOfNums (ints o)).extract 0 (o.length - 1) ++ strOfNums [(x : Int)]) = o.take (o.length - 1) ++ [x] := by
    rw [nats_append, nats_take, no, n1]
  have hz' : ((strOfNums (ints o)).extract 0 (o.length - 1) ++ strOfNums [(x : Int)]).size = o.length := by
    rw [← nats_length, hb']; simp; omega
  have hze : ((strOfNums (ints o)).extract 0 (o.length - 1)).size = o.length - 1 := by
    rw [← nats_length, nats_take, no]; simp
  have hz1 : (strOfNums [(x : Int)]).size = 1 := by rw [strOfNums_size]; rfl
  rw [if_pos (by omega), get_f _ (by omega) k (by omega)]
  generalize hB : (strOfNums (ints o)).extract 0 (o.length - 1) ++ strOfNums [(x : Int)] = B at hb' hz' ⊢
  cases hu : unp B with
  | none =>
    rw [got_none, Option.bind_some, if_neg (show ¬ ((⟨#[]⟩ : ByteArray), (3 : Int)).2 = 0 from by decide)]
  | some l =>
    rw [got_some, Option.bind_some, if_pos (show (strOfNums (ints l), (0 : Int)).2 = 0 from rfl)]
    congr 1
    rw [bne_iff_ne]
    intro he
    have he : (strOfNums (ints l)).toList = s.toList := he
    obtain ⟨q, hq, hl⟩ := packed_unsq (nats B) l _ (nats_lt B) (by rw [nats_length]; exact hu)
    have hls : l = nats s := by
      rw [← nats_ints l hl]
      rw [ByteArray.toList_eq, ByteArray.toList_eq] at he
      unfold nats; rw [he]
    rw [hls] at hq
    have := hp.same hq
    rw [hb'] at this
    refine hxne ?_
    rw [this]
    simp [List.getD]

theorem pads_l0 (s : ByteArray) (bit : Int) (o : List Nat) (p : Nat) (hs : s.size ≤ 100) (hs0 : s.size ≠ 0) (hp : Packed (nats s) o p) :
    ∀ (rest pre : List Nat) (k : Nat), nats s = pre ++ rest → rest.length + 10000 < k →
    bywashlaw3_SqueezePads.l0 k s bit (strOfNums (ints o)) (tot pre : Int) (pre.length : Int) = some true := by
  have hlt := nats_lt s
  have hlen := nats_length s
  intro rest
  induction rest with
  | nil =>
    intro pre k e hk
    rw [List.append_nil] at e
    rw [← e, hlen]
    exact pads_end s bit o p hs hs0 hp k (by simp at hk; omega)
  | cons c rest ih =>
    intro pre k e hk
    obtain ⟨k, rfl⟩ : ∃ m, k = m + 1 := ⟨k - 1, by omega⟩
    have hc : c < 256 := hlt c (by rw [e]; simp)
    have hcl := len_bd c hc
    have hpl : pre.length + 1 + rest.length = s.size := by rw [← hlen, e]; simp; omega
    have hby : bt s (pre.length : Int) = (c : Int) := by
      have hd := nats_drop s pre.length (by omega)
      rw [e, List.drop_left] at hd
      rw [bt_nat, (List.cons.inj hd).1]
    have h2 := tot_bd pre (fun d hd => hlt d (by rw [e]; exact List.mem_append_left _ hd))
    simp only [bywashlaw3_SqueezePads.l0]
    simp only [List.length_cons] at hk
    rw [if_pos (by omega), if_pos (by omega), hby, bits_any c k hc (by omega), Option.bind_some]
    have e1 : wrap64 ((tot pre : Int) + (len c : Int)) = ((tot (pre ++ [c]) : Nat) : Int) := by rw [tot_snoc]; unfold wrap64; omega
    have e2 : wrap64 ((pre.length : Int) + 1) = (((pre ++ [c]).length : Nat) : Int) := by simp only [List.length_append, List.length_singleton]; unfold wrap64; omega
    rw [e1, e2]
    exact ih (pre ++ [c]) k (by rw [e]; simp) (by omega)

theorem SqueezePads : bywashlaw3_SqueezePads.Pure := by
  intro s bit _ _
  obtain ⟨k0, hk0⟩ : ∃ k, k = 2000 := ⟨_, rfl⟩
  by_cases g : (s.size : Int) > 100
  · refine ⟨k0 + 1, ?_⟩
    unfold bywashlaw3_SqueezePads.f
    rw [if_pos g]
    simp only [bywashlaw3_SqueezePads.j0]
    rw [if_pos trivial, alive_any k0 (by omega), Option.bind_some]
  by_cases g0 : s.toList = []
  · refine ⟨k0 + 1, ?_⟩
    unfold bywashlaw3_SqueezePads.f
    rw [if_neg g, if_pos g0]
    simp only [bywashlaw3_SqueezePads.j0]
    rw [if_pos trivial, alive_any k0 (by omega), Option.bind_some]
  have hs0 : s.size ≠ 0 := by
    intro h; exact g0 ((nats_nil s).mp (List.eq_nil_of_length_eq_zero (by rw [nats_length]; exact h)))
  obtain ⟨o, p, hp, K, hK⟩ := put_f s (by omega)
  obtain ⟨k, hk⟩ : ∃ k, k = 20000 + K := ⟨_, rfl⟩
  refine ⟨k + 1, ?_⟩
  unfold bywashlaw3_SqueezePads.f
  rw [if_neg g, if_neg g0, alive_any (k + 1) (by omega), Option.bind_some]
  simp only [bywashlaw3_SqueezePads.j0]
  rw [if_neg (show ¬ (!true) = true from Bool.false_ne_true), hK k (by omega), Option.bind_some]
  exact pads_l0 s bit o p (by omega) hs0 hp (nats s) [] k rfl (by rw [nats_length]; omega)

end Go.Proofs.Ytmglfnphkngfdaa.Pure
