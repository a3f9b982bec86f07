/- Texts together take as many bits as each by itself, for every two texts within the law's length; no further condition. -/
import Derived.Test.YtmglfnphkngfdaaSqLem2
namespace Go.Proofs.Ytmglfnphkngfdaa.Pure
open Go.RowKit Go.Proofs.Ytmglfnphkngfdaa.XSq Go.Proofs.YtmglfnphkngfdaaW.PrintWords Go.Proofs.YtmglfnphkngfdaaW.PrintLast Go.Proofs.YtmglfnphkngfdaaW.PrintMore
open Go.Proofs.Ytmglfnphkngfdaa.Vm Go.Proofs.Ytmglfnphkngfdaa.Sm Go.Proofs.Ytmglfnphkngfdaa.SqL

theorem joins_l0 (s t : ByteArray) (hs : s.size ≤ 100) (ht : t.size ≤ 100) : ∀ (rest pre : List Nat) (k : Nat), nats s ++ nats t = pre ++ rest → rest.length + 1000 < k →
    bywashlaw3_SqueezeJoins.l0 k s t (tot pre : Int) (pre.length : Int) = some true := by
  have hsz : (s ++ t).size = s.size + t.size := by rw [← nats_length, nats_append, List.length_append, nats_length, nats_length]
  have hlt : ∀ c ∈ nats s ++ nats t, c < 256 := fun c hc => by
    rcases List.mem_append.mp hc with g | g
    · exact nats_lt s c g
    · exact nats_lt t c g
  have hlen : (nats s ++ nats t).length = s.size + t.size := by rw [List.length_append, nats_length, nats_length]
  intro rest
  induction rest with
  | nil =>
    intro pre k e hk
    obtain ⟨k, rfl⟩ : ∃ m, k = m + 1 := ⟨k - 1, by omega⟩
    simp only [bywashlaw3_SqueezeJoins.l0]
    rw [List.append_nil] at e
    have hpl : pre.length = s.size + t.size := by rw [← e, hlen]
    have h2 := tot_bd pre (fun c hc => hlt c (by rw [e]; exact hc))
    rw [if_pos (by omega), if_neg (by rw [hsz]; omega)]
    rw [len_f (s ++ t) (by omega) k (by omega), Option.bind_some]
    have e1 : wrap64 ((tot pre : Int) + 7) = ((tot pre + 7 : Nat) : Int) := by unfold wrap64; omega
    rw [e1, Int.tdiv_eq_ediv_of_nonneg (by omega), wrap64_small _ (by omega) (by omega)]
    clear e1
    rw [nats_append, e]
    rw [if_pos (by omega), len_f s (by omega) k (by omega), Option.bind_some, Option.bind_some, len_f t (by omega) k (by omega), Option.bind_some]
    have e3 := tot_append (nats s) (nats t)
    rw [e] at e3
    have hs1 := tot_bd (nats s) (nats_lt s)
    have ht1 := tot_bd (nats t) (nats_lt t)
    rw [nats_length] at hs1 ht1
    rw [wrap64_small _ (by omega) (by omega)]
    congr 1
    rw [decide_eq_true_eq]
    omega
  | cons c rest ih =>
    intro pre k e hk
    obtain ⟨k, rfl⟩ : ∃ m, k = m + 1 := ⟨k - 1, by omega⟩
    have hc : c < 256 := hlt c (by rw [e]; simp)
    have hcl := len_bd c hc
    have hpl : pre.length + 1 + rest.length = s.size + t.size := by rw [← hlen, e]; simp; omega
    have hby : bt (s ++ t) (pre.length : Int) = (c : Int) := by
      have hd := nats_drop (s ++ t) pre.length (by omega)
      rw [nats_append, e, List.drop_left] at hd
      rw [bt_nat, (List.cons.inj hd).1]
    have h2 := tot_bd pre (fun d hd => hlt d (by rw [e]; exact List.mem_append_left _ hd))
    simp only [bywashlaw3_SqueezeJoins.l0]
    simp only [List.length_cons] at hk
    rw [if_pos (by omega), if_pos (by rw [hsz]; omega), if_pos (by omega), hby, bits_any c k hc (by omega), Option.bind_some]
    have e1 : wrap64 ((tot pre : Int) + (len c : Int)) = ((tot (pre ++ [c]) : Nat) : Int) := by rw [tot_snoc]; unfold wrap64; omega
    have e2 : wrap64 ((pre.length : Int) + 1) = (((pre ++ [c]).length : Nat) : Int) := by simp only [List.length_append, List.length_singleton]; unfold wrap64; omega
    rw [e1, e2]
    exact ih (pre ++ [c]) k (by rw [e]; simp) (by omega)

theorem SqueezeJoins : bywashlaw3_SqueezeJoins.Pure := by
  intro s t _ _
  refine ⟨2000, ?_⟩
  unfold bywashlaw3_SqueezeJoins.f
  simp only [bywashlaw3_SqueezeJoins.j0]
  rw [alive_any 2000 (by omega), alive_any 1999 (by omega)]
  by_cases g : (s.size : Int) > 100
  · rw [if_pos g]; rfl
  rw [if_neg g]
  by_cases g2 : (t.size : Int) > 100
  · rw [if_pos g2]; rfl
  rw [if_neg g2]
  simp only [Option.bind_some, Bool.not_true]
  rw [if_neg Bool.false_ne_true]
  exact joins_l0 s t (by omega) (by omega) (nats s ++ nats t) [] 1999 rfl (by rw [List.length_append, nats_length, nats_length]; omega)

end Go.Proofs.Ytmglfnphkngfdaa.Pure
