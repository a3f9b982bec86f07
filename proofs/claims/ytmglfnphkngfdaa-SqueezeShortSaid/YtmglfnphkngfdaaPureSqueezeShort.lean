/- A text takes five to ten bits a byte, for every text within the law's length; no further condition. -/
import Derived.Test.YtmglfnphkngfdaaSqLem2
namespace Go.Proofs.Ytmglfnphkngfdaa.Pure
open Go.RowKit Go.Proofs.Ytmglfnphkngfdaa.XSq Go.Proofs.YtmglfnphkngfdaaW.PrintWords Go.Proofs.YtmglfnphkngfdaaW.PrintLast Go.Proofs.YtmglfnphkngfdaaW.PrintMore
open Go.Proofs.Ytmglfnphkngfdaa.Vm Go.Proofs.Ytmglfnphkngfdaa.Sm Go.Proofs.Ytmglfnphkngfdaa.SqL

theorem SqueezeShort : bywashlaw3_SqueezeShort.Pure := by
  intro s _
  refine ⟨2000, ?_⟩
  unfold bywashlaw3_SqueezeShort.f
  simp only [bywashlaw3_SqueezeShort.j0]
  rw [alive_any 2000 (by omega), alive_any 1999 (by omega)]
  by_cases g : (s.size : Int) > 200
  · rw [if_pos g]; rfl
  rw [if_neg g]
  simp only [Option.bind_some, Bool.not_true]
  rw [if_neg Bool.false_ne_true, len_f s (by omega) 1999 (by omega)]
  rw [Option.bind_some]
  have ht := tot_bd (nats s) (nats_lt s)
  rw [nats_length] at ht
  generalize tot (nats s) = t at ht ⊢
  have e1 : wrap64 (Int.tdiv (wrap64 (wrap64 (5 * (s.size : Int)) + 7)) 8) = (((5 * s.size + 7) / 8 : Nat) : Int) := by
    have h1 : wrap64 (5 * (s.size : Int)) = ((5 * s.size : Nat) : Int) := by unfold wrap64; omega
    have h2 : wrap64 (((5 * s.size : Nat) : Int) + 7) = ((5 * s.size + 7 : Nat) : Int) := by unfold wrap64; omega
    rw [h1, h2, Int.tdiv_eq_ediv_of_nonneg (by omega)]; unfold wrap64; omega
  have e2 : wrap64 (Int.tdiv (wrap64 (wrap64 (10 * (s.size : Int)) + 7)) 8) = (((10 * s.size + 7) / 8 : Nat) : Int) := by
    have h1 : wrap64 (10 * (s.size : Int)) = ((10 * s.size : Nat) : Int) := by unfold wrap64; omega
    have h2 : wrap64 (((10 * s.size : Nat) : Int) + 7) = ((10 * s.size + 7 : Nat) : Int) := by unfold wrap64; omega
    rw [h1, h2, Int.tdiv_eq_ediv_of_nonneg (by omega)]; unfold wrap64; omega
  rw [e1, e2]
  clear e1 e2
  rw [if_pos (by omega), if_pos (by omega)]
  have hn : s.toList = [] ↔ s.size = 0 := by
    rw [← nats_nil, ← nats_length]; exact List.length_eq_zero_iff.symm
  congr 1
  rw [beq_iff_eq, Bool.eq_iff_iff, beq_iff_eq, beq_iff_eq, hn]
  omega

end Go.Proofs.Ytmglfnphkngfdaa.Pure
