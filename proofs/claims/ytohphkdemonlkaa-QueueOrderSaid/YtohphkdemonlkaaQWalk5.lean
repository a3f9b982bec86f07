/- The queue's Back and All; what is answered of no queue. -/
import Derived.Test.YtohphkdemonlkaaQWalk4
namespace Go.Proofs.Ytohphkdemonlkaa.Qw
open Go.RowKit Go.Proofs.Ytohphkdemonlkaa.XQt Go.Proofs.YtohphkdemonlkaaW.PrintWords Go.Proofs.YtohphkdemonlkaaW.PrintLast Go.Proofs.YtohphkdemonlkaaW.PrintMore Go.Proofs.Ytohphkdemonlkaa.Ob

/-- A call waits ahead of all others. -/
def backQ (q : List Int × Int) (id : Int) : List Int × Int := if mayC q id = 0 then (id :: q.1, q.2) else q

set_option maxHeartbeats 800000 in
theorem back_calls (q : List Int × Int) (id : Int) (w : World) (g : Nat) (base : Nat) (ok : Nat → Prop) (hb : base ≤ w.heap.size) (hl : q.1.length ≤ 1000000000)
    (hq : QK.M w base ok q [.pointer (some ⟨g, 0, none⟩)]) (hnew : ∀ k, w.heap.size ≤ k → ¬ ok k) :
    Calls Try.prog 20 #[.pointer (some ⟨g, 0, none⟩), .int .i64 id] w fun e w' => e = .returned (.int .i64 (mayC q id)) ∧
      QK.M w' base (fun k => ok k ∨ w.heap.size ≤ k) (backQ q id) [.pointer (some ⟨g, 0, none⟩)] ∧ Stay ok w w' := by
  obtain ⟨g', A, c, he, hbg, hok, hg, hc, hQ⟩ := qk_open hq
  obtain rfl : g = g' := by simpa using he
  have HM := Aside0.mk (may_calls q id w g A c base _ hg hc (by omega) hQ)
  by_cases hz : mayC q id = 0
  · have HZ := Aside0.mk hz
    have HP : Aside0 (backQ q id = (id :: q.1, q.2)) := ⟨by unfold backQ; rw [if_pos hz]⟩
    have HG := Aside0.mk hg
    have HO := Aside0.mk hok
    have HBG := Aside0.mk hbg
    have h0 : w.cell? ⟨g, 0, none⟩ = some (.slice A q.1.length c) := by simp [World.cell?, hg]
    have hgl := blk_lt hg
    have HI : ∀ nd, Aside0 (Calls Try.prog 46 #[.slice A q.1.length c, .int .i64 0, .slice (some ⟨w.heap.size, 0, none⟩) 1 1] ((w.drewN nd).alloc (.cells #[.int .i64 id] 3)) fun e w1 => ∃ A1 c1, e = .returned (.slice A1 (q.1.length + 1) c1) ∧
        w1.cell? ⟨g, 0, none⟩ = some (.slice A q.1.length c) ∧ w1.frozen? ⟨g, 0, none⟩ = false ∧ Aside0 (w1.heap[g]? = some (.cells #[.slice A q.1.length c, .int .i64 q.2] 80 (0, 0)) ∧
        (Kd.int .i64).Q 3 w1 base (fun k => (ok k ∨ w.heap.size ≤ k) ∧ k ≠ g) (.slice A1 (q.1.length + 1) c1) (id :: q.1) ∧ Stay ok w w1)) := fun nd => by
      have hsz : ((w.drewN nd).alloc (.cells #[.int .i64 id] 3)).heap.size = w.heap.size + 1 := by simp
      refine ⟨(insert_calls (Kd.Q_below (Kd.Q_drewN hQ nd) (below_alloc (Below.refl _ _) _)) (by omega) hl id w.heap.size (heap_alloc_new (w.drewN nd) _) (fun h => hnew _ (Nat.le_refl _) h.1)).mono ?_⟩
      rintro e w1 ⟨A1, c1, rfl, hQ1, hS1⟩
      have hbk := (hS1.block g (by omega) (fun h => h.2 rfl)).trans (((below_alloc (pw_below_drewN (Below.refl w.heap.size w) nd) (.cells #[.int .i64 id] 3)).block g hgl).trans hg)
      refine ⟨A1, c1, rfl, by simp [World.cell?, hbk], by simp [World.frozen?, hbk], hbk, Kd.Q_mono hQ1 (fun k hk => ?_), (((Stay.refl ok w).drewN nd).alloc _).trans hS1 (fun k _ hk => hk.1)⟩
      rw [hsz] at hk
      rcases hk with hk | hk
      · exact ⟨.inl hk.1, hk.2⟩
      · exact ⟨.inr (by omega), by omega⟩
    clear hz hQ hg hc he hq hok hbg
    go_enter Try.func20, Try.ntmps20
    go_wp2_with (first
      | (go_at_call 43; refine HM.out.mono ?_; rintro e w' ⟨rfl, ⟨nd, rfl⟩⟩; rw [HZ.out])
      | (go_at_call 46; refine (HI _).out.mono ?_; rintro e w1 ⟨A1, c1, rfl, k0, f0, HK⟩))
    go_ret
    refine ⟨by rw [HZ.out]; rfl, ?_, ?_⟩
    · rw [HP.out]
      exact qk_mk HBG.out (.inl HO.out) (blk_put HK.out.1 0 _ rfl) (Kd.Q_far (p := ⟨g, 0, none⟩) HK.out.2.1 (fun k hk => hk.2) _)
    · exact HK.out.2.2.setCell (.inl HO.out) _
  · have HZ : Aside0 ((mayC q id == 0) = false) := ⟨beq_eq_false_iff_ne.2 hz⟩
    have HP : Aside0 (backQ q id = q) := ⟨by unfold backQ; rw [if_neg hz]⟩
    have HQ := Aside0.mk hq
    generalize mayC q id = m at HM HZ ⊢
    clear hz hQ hg hc he hq hok hbg
    have hz := HZ.out
    go_enter Try.func20, Try.ntmps20
    go_wp2_with (go_at_call 43; refine HM.out.mono ?_; rintro e w' ⟨rfl, ⟨nd, rfl⟩⟩)
    go_ret
    exact ⟨rfl, by rw [HP.out]; exact Kd.M_drewN (QK.M_mono (fun k hk => .inl hk) HQ.out) nd, (Stay.refl ok w).drewN nd⟩
end Go.Proofs.Ytohphkdemonlkaa.Qw
