/- Bytes that are some text's are just that text's, for every bytes within the law's length; no further condition. -/
import Derived.Test.YtmglfnphkngfdaaSqLem2
namespace Go.Proofs.Ytmglfnphkngfdaa.Pure
open Go.RowKit Go.Proofs.Ytmglfnphkngfdaa.XSq Go.Proofs.YtmglfnphkngfdaaW.PrintWords Go.Proofs.YtmglfnphkngfdaaW.PrintLast Go.Proofs.YtmglfnphkngfdaaW.PrintMore
open Go.Proofs.Ytmglfnphkngfdaa.Vm Go.Proofs.Ytmglfnphkngfdaa.Sm Go.Proofs.Ytmglfnphkngfdaa.SqL

theorem SqueezeOnce : bywashlaw3_SqueezeOnce.Pure := by
  intro b _
  by_cases g : (b.size : Int) > 120
  · obtain ⟨k, hk⟩ : ∃ k, k = 2000 := ⟨_, rfl⟩
    refine ⟨k + 1, ?_⟩
    unfold bywashlaw3_SqueezeOnce.f
    rw [if_pos g]
    simp only [bywashlaw3_SqueezeOnce.j0]
    rw [if_pos trivial, alive_any k (by omega), Option.bind_some]
  cases hu : unp b with
  | none =>
    obtain ⟨k, hk⟩ : ∃ k, k = 5000 := ⟨_, rfl⟩
    refine ⟨k + 1, ?_⟩
    unfold bywashlaw3_SqueezeOnce.f
    rw [alive_any (k + 1) (by omega), if_neg g, Option.bind_some]
    simp only [bywashlaw3_SqueezeOnce.j0]
    rw [if_neg (show ¬ (!true) = true from Bool.false_ne_true), get_f b (by omega) k (by omega), hu, got_none, Option.bind_some]
    rw [if_neg (show ¬ ((⟨#[]⟩ : ByteArray), (3 : Int)).2 = 0 from by decide), if_pos (show ((⟨#[]⟩ : ByteArray), (3 : Int)).1.toList = [] from by rw [← nats_nil]; rfl)]
  | some l =>
    obtain ⟨p, hp, hl⟩ := packed_unsq (nats b) l _ (nats_lt b) (by rw [nats_length]; exact hu)
    have hn := nats_ints l hl
    have hbd := tot_bd l hl
    have hsz := hp.size
    have hpd := hp.pad
    rw [nats_length] at hsz
    have hz : (strOfNums (ints l)).size = l.length := by rw [← nats_length, hn]
    obtain ⟨o, q, hq, K, hK⟩ := put_f (strOfNums (ints l)) (by omega)
    rw [hn] at hq
    obtain rfl := hp.same hq
    refine ⟨5000 + K, ?_⟩
    obtain ⟨k, hk⟩ : ∃ k, 5000 + K = k + 1 := ⟨4999 + K, by omega⟩
    rw [hk]
    unfold bywashlaw3_SqueezeOnce.f
    rw [alive_any (k + 1) (by omega), if_neg g, Option.bind_some]
    simp only [bywashlaw3_SqueezeOnce.j0]
    rw [if_neg (show ¬ (!true) = true from Bool.false_ne_true), get_f b (by omega) k (by omega), hu, got_some, Option.bind_some]
    rw [if_pos (show (strOfNums (ints l), (0 : Int)).2 = 0 from rfl)]
    show ((squeeze_Put.f k (strOfNums (ints l))).bind fun t184 => some (t184.toList == b.toList)) = some true
    rw [hK k (by omega), Option.bind_some, ofNums_nats, beq_self_eq_true]

end Go.Proofs.Ytmglfnphkngfdaa.Pure
