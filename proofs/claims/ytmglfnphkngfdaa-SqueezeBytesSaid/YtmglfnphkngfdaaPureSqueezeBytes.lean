/- Each byte's code is its own and is read as itself, for every two bytes; no condition. -/
import Derived.Test.YtmglfnphkngfdaaSqLem2
namespace Go.Proofs.Ytmglfnphkngfdaa.Pure
open Go.RowKit Go.Proofs.Ytmglfnphkngfdaa.XSq Go.Proofs.YtmglfnphkngfdaaW.PrintWords Go.Proofs.YtmglfnphkngfdaaW.PrintLast Go.Proofs.YtmglfnphkngfdaaW.PrintMore
open Go.Proofs.Ytmglfnphkngfdaa.Vm Go.Proofs.Ytmglfnphkngfdaa.Sm Go.Proofs.Ytmglfnphkngfdaa.SqL

theorem one_nats (a : Nat) (h : a < 256) : nats (strOfNums [(a : Int)]) = [a] := nats_ints [a] (by intro c hc; rw [List.mem_singleton] at hc; omega)
theorem tot_one (a : Nat) : tot [a] = len a := by simp [tot]

theorem up8 (n : Nat) (h : n ≤ 10) : wrap64 (Int.tdiv (wrap64 ((n : Int) + 7)) 8) = (((n + 7) / 8 : Nat) : Int) := by
  have h1 : wrap64 ((n : Int) + 7) = ((n + 7 : Nat) : Int) := by unfold wrap64; omega
  rw [h1, Int.tdiv_eq_ediv_of_nonneg (by omega)]; clear h1; unfold wrap64; omega
theorem SqueezeBytes : bywashlaw3_SqueezeBytes.Pure := by
  intro a b ha hb
  obtain ⟨ha0, ha8⟩ := byte_wf a ha
  obtain ⟨hb0, hb8⟩ := byte_wf b hb
  obtain ⟨a, rfl⟩ := Int.eq_ofNat_of_zero_le ha0
  obtain ⟨b, rfl⟩ := Int.eq_ofNat_of_zero_le hb0
  have ha' : a < 256 := by omega
  have hb' : b < 256 := by omega
  have na := one_nats a ha'
  have nb := one_nats b hb'
  have za : (strOfNums [(a : Int)]).size = 1 := by rw [← nats_length, na]; rfl
  have zb : (strOfNums [(b : Int)]).size = 1 := by rw [← nats_length, nb]; rfl
  obtain ⟨o, p, hp, K, hK⟩ := put_f (strOfNums [(a : Int)]) (by omega)
  obtain ⟨q, r, hq, K', hK'⟩ := put_f (strOfNums [(b : Int)]) (by omega)
  rw [na] at hp
  rw [nb] at hq
  have no := nats_ints o hp.lt
  have nq := nats_ints q hq.lt
  have zo : (strOfNums (ints o)).size = o.length := by rw [← nats_length, no]
  have hsz := hp.size
  have hpd := hp.pad
  rw [tot_one] at hsz
  have hla : len a = 5 ∨ len a = 7 ∨ len a = 10 := by
    rcases cod_any a ha' with ⟨h, _⟩ | ⟨h, _⟩ | ⟨h, _⟩
    · exact .inl h
    · exact .inr (.inl h)
    · exact .inr (.inr h)
  have hu := unp_packed (strOfNums [(a : Int)]) o p (by rw [na]; exact hp) no
  obtain ⟨k, hk⟩ : ∃ k, k = 5000 + K + K' := ⟨_, rfl⟩
  refine ⟨k + 1, ?_⟩
  have hbitsle : len a ≤ 10 := (len_bd a ha').2
  unfold bywashlaw3_SqueezeBytes.f
  rw [alive_any (k + 1) (by omega), hK (k + 1) (by omega), hK' (k + 1) (by omega), bits_any a (k + 1) ha' (by omega)]
  rw [Option.bind_some, if_pos (Eq.refl true), Option.bind_some, Option.bind_some, get_f _ (by omega) (k + 1) (by omega), hu, got_some, Option.bind_some, Option.bind_some]
  have heq : (((strOfNums (ints o)).toList == (strOfNums (ints q)).toList) == ((a : Int) == (b : Int))) = true := by
    rw [beq_iff_eq, Bool.eq_iff_iff, beq_iff_eq, beq_iff_eq]
    constructor
    · intro h
      have h2 : strOfNums (ints o) = strOfNums (ints q) := by
        rw [ByteArray.toList_eq, ByteArray.toList_eq] at h
        refine nats_inj ?_
        unfold nats; rw [h]
      have h3 : o = q := by rw [← no, ← nq, h2]
      subst h3
      have u2 := unp_packed (strOfNums [(b : Int)]) o r (by rw [nb]; exact hq) no
      rw [hu] at u2
      have := Option.some.inj u2
      rw [na, nb] at this
      have h4 := (List.cons.inj this).1
      omega
    · intro h
      have h' : a = b := by omega
      subst h'
      rw [hp.same hq]
  rw [if_pos heq, if_pos (show (strOfNums (ints (nats (strOfNums [(a : Int)]))), (0 : Int)).2 = 0 from rfl), if_pos (show (strOfNums (ints (nats (strOfNums [(a : Int)]))), (0 : Int)).1.toList = (strOfNums [(a : Int)]).toList from by rw [ofNums_nats])]
  have e1 := up8 (len a) hbitsle
  rw [e1]
  clear e1
  have hfin : ((((strOfNums (ints o)).size : Nat) : Int) == (((len a + 7) / 8 : Nat) : Int)) = true := by
    rw [beq_iff_eq]; omega
  rw [hfin]
  have hj : bywashlaw3_SqueezeBytes.j0 (k + 1) true = some true := by simp only [bywashlaw3_SqueezeBytes.j0]
  rw [hj]
  clear hj hfin heq
  by_cases g5 : len a = 5
  · rw [if_pos (by omega)]
  · rw [if_neg (by omega)]
    by_cases g7 : len a = 7
    · rw [if_pos (by omega)]
    · rw [if_neg (by omega), if_pos (by omega)]

end Go.Proofs.Ytmglfnphkngfdaa.Pure
