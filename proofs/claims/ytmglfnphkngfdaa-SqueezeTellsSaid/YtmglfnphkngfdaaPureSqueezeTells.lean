/- The program's and the document's packed texts, unpacked bytes and lengths are the same, and each text is read back, for every text, bytes and byte within the law's lengths; no further condition. -/
import Derived.Test.YtmglfnphkngfdaaSqLem3
namespace Go.Proofs.Ytmglfnphkngfdaa.Pure
open Go.RowKit Go.Proofs.Ytmglfnphkngfdaa.XSq Go.Proofs.YtmglfnphkngfdaaW.PrintWords Go.Proofs.YtmglfnphkngfdaaW.PrintLast Go.Proofs.YtmglfnphkngfdaaW.PrintMore
open Go.Proofs.Ytmglfnphkngfdaa.Vm Go.Proofs.Ytmglfnphkngfdaa.Sm Go.Proofs.Ytmglfnphkngfdaa.SqL

-- needs SqLem3
theorem SqueezeTells : bywashlaw3_SqueezeTells.Pure := by
  intro s b c _ _ hc
  obtain ⟨hc0, hc8⟩ := byte_wf c hc
  obtain ⟨c, rfl⟩ := Int.eq_ofNat_of_zero_le hc0
  have hc' : c < 256 := by omega
  obtain ⟨k0, hk0⟩ : ∃ k, k = 2000 := ⟨_, rfl⟩
  by_cases g : (s.size : Int) > 200
  · refine ⟨k0 + 1, ?_⟩
    unfold bywashlaw3_SqueezeTells.f
    rw [if_pos g]
    simp only [bywashlaw3_SqueezeTells.j0]
    rw [if_pos trivial, alive_any k0 (by omega), Option.bind_some]
  by_cases g2 : (b.size : Int) > 120
  · refine ⟨k0 + 1, ?_⟩
    unfold bywashlaw3_SqueezeTells.f
    rw [if_neg g, if_pos g2]
    simp only [bywashlaw3_SqueezeTells.j0]
    rw [if_pos trivial, alive_any k0 (by omega), Option.bind_some]
  obtain ⟨o, p, hp, K, hK⟩ := put_f s (by omega)
  obtain ⟨o', p', hp', K', hK'⟩ := rput_f s (by omega)
  obtain rfl := hp.same hp'
  obtain ⟨K2, hK2⟩ := uns_f b (by omega)
  have no := nats_ints o hp.lt
  have zo : (strOfNums (ints o)).size = o.length := by rw [← nats_length, no]
  have hu := unp_packed s o p hp no
  have hsz := hp.size
  have hpd := hp.pad
  have ht := tot_bd (nats s) (nats_lt s)
  rw [nats_length] at ht
  obtain ⟨k, hk⟩ : ∃ k, k = 20000 + K + K' + K2 := ⟨_, rfl⟩
  refine ⟨k + 1, ?_⟩
  unfold bywashlaw3_SqueezeTells.f
  rw [if_neg g, if_neg g2, alive_any (k + 1) (by omega), Option.bind_some]
  simp only [bywashlaw3_SqueezeTells.j0]
  rw [if_neg (show ¬ (!true) = true from Bool.false_ne_true), hK k (by omega), Option.bind_some, get_f _ (by omega) k (by omega), hu, got_some, Option.bind_some, get_f b (by omega) k (by omega), Option.bind_some, hK2 k (by omega), Option.bind_some, hK' k (by omega), Option.bind_some]
  rw [if_pos rfl, len_f s (by omega) k (by omega), Option.bind_some]
  rw [if_pos (show (((tot (nats s) + 7) / 8 : Nat) : Int) = ((strOfNums (ints o)).size : Int) from by omega)]
  rw [if_pos (show (strOfNums (ints (nats s)), (0 : Int)).1.toList = s.toList from by rw [ofNums_nats])]
  rw [if_pos (show (strOfNums (ints (nats s)), (0 : Int)).2 = 0 from rfl), if_pos rfl, if_pos rfl]
  rw [bits_any c k hc' (by omega), Option.bind_some, rbits_any c k hc' (by omega), Option.bind_some, beq_self_eq_true]

end Go.Proofs.Ytmglfnphkngfdaa.Pure
