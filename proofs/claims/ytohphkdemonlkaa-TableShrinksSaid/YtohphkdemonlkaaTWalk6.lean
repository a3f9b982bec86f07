/- Contracts of the table's methods: Add. -/
import Derived.Test.YtohphkdemonlkaaTWalk5
import Derived.Deep.RegionHeld3
namespace Go.Proofs.Ytohphkdemonlkaa.Tw
open Go.RowKit Go.Lib Go.Proofs.Ytohphkdemonlkaa.XQt Go.Proofs.YtohphkdemonlkaaW.PrintWords Go.Proofs.YtohphkdemonlkaaW.PrintLast Go.Proofs.YtohphkdemonlkaaW.PrintMore Go.Proofs.Ytohphkdemonlkaa.Ob

/-- What a table has, behind one more. -/
def addL (s : Int) (l : List S54) (x : S54) : List S54 := if cost x ≤ s then x :: l.take (shr (s - cost x) l l.length) else l.take (shr (s - cost x) l l.length)

theorem stay_okay {ok : Nat → Prop} {w w1 w2 : World} (h : Stay ok w w1) (hb : Below w1.heap.size w1 w2) : Stay ok w w2 :=
  h.trans (Stay.of_below (ok := fun _ => False) hb) (fun _ _ e => e.elim)
theorem cells_of_heap {w : World} {g : Nat} {cs : Array Value} {t : TypeId} (h : w.heap[g]? = some (.cells cs t (0, 0))) : ∀ j v, cs[j]? = some v → w.cell? ⟨g, j, none⟩ = some v := by
  intro j v hj
  simp only [World.cell?, h]
  simpa using hj

set_option maxHeartbeats 3200000 in
theorem add_calls (l : List S54) (s : Int) (x : S54) (w : World) (g : Nat) (base : Nat) (ok : Nat → Prop) (_ : base ≤ w.heap.size) (hl : total l ≤ 1000000000) (hx : cost x ≤ 1000000000) (hs : 0 ≤ s ∧ s ≤ 512) (hnew : ∀ k, w.heap.size ≤ k → ¬ ok k)
    (hq : TK.M w base ok (l, s, total l) [.pointer (some ⟨g, 0, none⟩)]) :
    Calls Try.prog 27 #[.pointer (some ⟨g, 0, none⟩), fv x] w fun e w' => e = .returned (.tuple #[]) ∧
      TK.M w' base (fun k => ok k ∨ w.heap.size ≤ k) (addL s l x, s, total (addL s l x)) [.pointer (some ⟨g, 0, none⟩)] ∧ Stay ok w w' := by
  obtain ⟨g', A, c, he, hbg, hok, hg, hc, hQ⟩ := tk_open hq
  obtain rfl : g = g' := by simpa using he
  replace hg : w.heap[g]? = some (.cells #[.slice A l.length c, .int .i64 s, .int .i64 (total l)] 96 (0, 0)) := hg
  replace hc : l.length ≤ c := hc
  replace hQ : k54.R 54 w base (fun k => ok k ∧ k ≠ g) (.slice A l.length c) l := hQ
  have hgl := blk_lt hg
  have HCst : ∀ W, Aside0 (Calls Try.prog 30 #[.agg #[.string x.f0, .string x.f1]] W fun e w' => e = .returned (.int .i64 (cost x)) ∧ Below W.heap.size W w') := fun W => ⟨cost_calls x (by omega) W⟩
  have HShr : ∀ W, W.heap[g]? = some (.cells #[.slice A l.length c, .int .i64 s, .int .i64 (total l)] 96 (0, 0)) → Stay (fun k => k = g) w W → Aside0 (Calls Try.prog 70 #[.pointer (some ⟨g, 0, none⟩), .int .i64 (s - cost x)] W fun e w' => e = .returned (.tuple #[]) ∧
      w'.heap[g]? = some (.cells #[.slice A (shr (s - cost x) l l.length) c, .int .i64 s, .int .i64 (total (l.take (shr (s - cost x) l l.length)))] 96 (0, 0)) ∧ Stay (fun k => k = g) W w') :=
    fun W hW hst => ⟨shrink_raw l s (s - cost x) W g base ok A c (by omega) hW hc (Kd.R_step hQ (fun k hk hlt => hst.block k hlt hk.2))⟩
  have hw1 : IntKind.i64.wrap (s - cost x) = s - cost x := by rw [IntKind.wrap_i64]; have := cost_pos x; omega
  have hsl := shr_le (s - cost x) l l.length
  have htt := total_take_le l (shr (s - cost x) l l.length)
  have htn := total_nonneg (l.take (shr (s - cost x) l l.length))
  unfold addL fv
  generalize shr (s - cost x) l l.length = n at HShr hsl htt htn ⊢
  have HIns : ∀ W W2, W2 = W.drew.alloc (.cells #[.string x.f0, .string x.f1] 54) → W.heap[g]? = some (.cells #[.slice A n c, .int .i64 s, .int .i64 (total (l.take n))] 96 (0, 0)) → W.heap[w.heap.size]? = some (.cells #[.string x.f0, .string x.f1] 54 (0, 0)) → Stay (fun k => k = g) w W →
      Aside0 (Calls Try.prog 71 #[.slice A n c, .int .i64 0, .slice (some ⟨W.heap.size, 0, none⟩) 1 1] W2 fun e w' => ∃ A1 c1, e = .returned (.slice A1 (n + 1) c1) ∧
        w'.heap[g]? = some (.cells #[.slice A n c, .int .i64 s, .int .i64 (total (l.take n))] 96 (0, 0)) ∧ w'.heap[w.heap.size]? = some (.cells #[.string x.f0, .string x.f1] 54 (0, 0)) ∧
        k54.R 54 w' base (fun k => (ok k ∨ w.heap.size ≤ k) ∧ k ≠ g) (.slice A1 (n + 1) c1) (x :: l.take n) ∧ Stay ok w w') := fun W W2 hW2 hg1 hb1 hst => by
    subst hW2
    have hWs := hst.size
    have hR := Kd.R_take (m := n) (Kd.R_step hQ (fun k hk hlt => hst.block k hlt hk.2)) hsl
    have hBl : Below W.heap.size W (W.drew.alloc (.cells #[.string x.f0, .string x.f1] 54)) := below_alloc (pw_below_drewN (Below.refl _ _) 1) _
    have hR2 := Kd.R_below hR hBl
    have hsz : (W.drew.alloc (.cells #[.string x.f0, .string x.f1] 54)).heap.size = W.heap.size + 1 := by simp
    refine ⟨(insert_calls hR2 (by omega) (by omega) x W.heap.size (heap_alloc_new W.drew _) (fun h => hnew _ hWs h.1)).mono ?_⟩
    rintro e w' ⟨A1, c1, rfl, hR3, hs3⟩
    refine ⟨A1, c1, rfl, ?_, ?_, ?_, ?_⟩
    · exact (hs3.block g (by have := blk_lt hg1; omega) (fun h => h.2 rfl)).trans ((hBl.block g (blk_lt hg1)).trans hg1)
    · exact (hs3.block _ (by have := blk_lt hb1; omega) (fun h => hnew _ (Nat.le_refl _) h.1)).trans ((hBl.block _ (blk_lt hb1)).trans hb1)
    · refine Kd.R_mono hR3 (fun k hk => ?_)
      rcases hk with hk | hk
      · exact ⟨.inl hk.1, hk.2⟩
      · exact ⟨.inr (by omega), by omega⟩
    · exact (stay_okay (hst.mono (fun k e => e ▸ hok)) hBl).trans hs3 (fun k _ h => h.1)
  have HG := Aside0.mk hg
  have HO := Aside0.mk hok
  have HBG := Aside0.mk hbg
  have HQ := Aside0.mk hQ
  have HN := Aside0.mk (And.intro hsl (And.intro htt (And.intro htn (And.intro hl (And.intro hx hs)))))
  have hw2 : IntKind.i64.wrap (total (l.take n) + cost x) = total (l.take n) + cost x := by rw [IntKind.wrap_i64]; have := cost_pos x; omega
  have mixed : Try.prog.follows Departure.mixedOrders = true := by kernel_rfl
  obtain ⟨W1, hW1⟩ : ∃ W1, W1 = w.alloc (.cells #[.string x.f0, .string x.f1] 54) := ⟨_, rfl⟩
  have hS1 : Stay (fun k => k = g) w W1 := by rw [hW1]; exact (Stay.refl _ w).alloc _
  have hbx : W1.heap[w.heap.size]? = some (.cells #[.string x.f0, .string x.f1] 54 (0, 0)) := by rw [hW1]; exact heap_alloc_new w _
  have hgx : W1.heap[g]? = some (.cells #[.slice A l.length c, .int .i64 s, .int .i64 (total l)] 96 (0, 0)) := by rw [hW1]; exact (Below.heap_alloc w _ g hgl).trans hg
  have HBK := Aside0.mk hgx
  have HBX := Aside0.mk hbx
  have HS := Aside0.mk hS1
  have k1 : W1.cell? ⟨g, 1, none⟩ = some (.int .i64 s) := cells_of_heap hgx 1 _ rfl
  have b0 : W1.cell? ⟨w.heap.size, 0, none⟩ = some (.string x.f0) := cells_of_heap hbx 0 _ rfl
  have b1 : W1.cell? ⟨w.heap.size, 1, none⟩ = some (.string x.f1) := cells_of_heap hbx 1 _ rfl
  clear hq he hok hbg hg hc hQ hsl htt htn hl hx hs hS1 hbx hgx
  by_cases hcs : cost x ≤ s
  · rw [if_pos hcs]
    have d1 : decide (cost x ≤ s) = true := decide_eq_true hcs
    have HCS := Aside0.mk hcs
    clear hcs
    go_enter Try.func27, Try.ntmps27
    go_wp2
    rw [← hW1]
    clear hW1
    go_region_held3 (fun w' => w'.cell? ⟨g, 1, none⟩ = some (.int .i64 s) ∧ w'.cell? ⟨w.heap.size, 0, none⟩ = some (.string x.f0) ∧ w'.cell? ⟨w.heap.size, 1, none⟩ = some (.string x.f1))
      (first | go_keep | assumption | simp [*])
      (first
        | (go_at_call 30; refine (HCst _).out.mono ?_; rintro e w2 ⟨rfl, hb1⟩; have hbk := (hb1.block g (blk_lt HBK.out)).trans HBK.out; have hbx := (hb1.block _ (blk_lt HBX.out)).trans HBX.out; have hst := stay_one (w1 := W1.drew) (Stay.drewN HS.out 1) hb1; have k1 : w2.cell? ⟨g, 1, none⟩ = some (.int .i64 s) := cells_of_heap hbk 1 _ rfl; have b0 : w2.cell? ⟨w.heap.size, 0, none⟩ = some (.string x.f0) := cells_of_heap hbx 0 _ rfl; have b1 : w2.cell? ⟨w.heap.size, 1, none⟩ = some (.string x.f1) := cells_of_heap hbx 1 _ rfl; clear HBK HBX HS; have HBK := Aside0.mk hbk; have HBX := Aside0.mk hbx; have HS := Aside0.mk hst; clear hb1 hbk hbx hst)
        | (go_at_call 70; refine (HShr _ HBK.out HS.out).out.mono ?_; rintro e w3 ⟨rfl, hbk, hst1⟩; have hbx := (hst1.block _ (blk_lt HBX.out) (by omega)).trans HBX.out; have hst := (Stay.trans HS.out hst1 (fun _ _ e => e)); have k0 : w3.cell? ⟨g, 0, none⟩ = some (.slice A n c) := cells_of_heap hbk 0 _ rfl; have k1 : w3.cell? ⟨g, 1, none⟩ = some (.int .i64 s) := cells_of_heap hbk 1 _ rfl; have k2 : w3.cell? ⟨g, 2, none⟩ = some (.int .i64 (total (l.take n))) := cells_of_heap hbk 2 _ rfl; have b0 : w3.cell? ⟨w.heap.size, 0, none⟩ = some (.string x.f0) := cells_of_heap hbx 0 _ rfl; have b1 : w3.cell? ⟨w.heap.size, 1, none⟩ = some (.string x.f1) := cells_of_heap hbx 1 _ rfl; clear HBK HBX HS; have HBK := Aside0.mk hbk; have HBX := Aside0.mk hbx; have HS := Aside0.mk hst; clear hst1 hbk hbx hst))
    go_wp2
    go_region_held3 (fun w' => w'.cell? ⟨g, 1, none⟩ = some (.int .i64 s) ∧ w'.cell? ⟨w.heap.size, 0, none⟩ = some (.string x.f0) ∧ w'.cell? ⟨w.heap.size, 1, none⟩ = some (.string x.f1))
      (first | go_keep | assumption | simp [*])
      (first | (go_at_call 30; refine (HCst _).out.mono ?_; rintro e w4 ⟨rfl, hb1⟩; have hbk := (hb1.block g (blk_lt HBK.out)).trans HBK.out; have hbx := (hb1.block _ (blk_lt HBX.out)).trans HBX.out; have hst := stay_okay (Stay.drewN HS.out 1) hb1; have k0 : w4.cell? ⟨g, 0, none⟩ = some (.slice A n c) := cells_of_heap hbk 0 _ rfl; have k1 : w4.cell? ⟨g, 1, none⟩ = some (.int .i64 s) := cells_of_heap hbk 1 _ rfl; have k2 : w4.cell? ⟨g, 2, none⟩ = some (.int .i64 (total (l.take n))) := cells_of_heap hbk 2 _ rfl; have b0 : w4.cell? ⟨w.heap.size, 0, none⟩ = some (.string x.f0) := cells_of_heap hbx 0 _ rfl; have b1 : w4.cell? ⟨w.heap.size, 1, none⟩ = some (.string x.f1) := cells_of_heap hbx 1 _ rfl; clear HBK HBX HS; have HBK := Aside0.mk hbk; have HBX := Aside0.mk hbx; have HS := Aside0.mk hst; clear hb1 hbk hbx hst))
    go_wp2
    have ka0 : (w4.alloc (.cells #[.string x.f0, .string x.f1] 54)).cell? ⟨g, 0, none⟩ = some (.slice A n c) := cells_of_heap ((Below.heap_alloc w4 _ g (blk_lt HBK.out)).trans HBK.out) 0 _ rfl
    have ka1 : (w4.alloc (.cells #[.string x.f0, .string x.f1] 54)).cell? ⟨w.heap.size, 0, none⟩ = some (.string x.f0) := cells_of_heap ((Below.heap_alloc w4 _ _ (blk_lt HBX.out)).trans HBX.out) 0 _ rfl
    have ka2 : (w4.alloc (.cells #[.string x.f0, .string x.f1] 54)).cell? ⟨w.heap.size, 1, none⟩ = some (.string x.f1) := cells_of_heap ((Below.heap_alloc w4 _ _ (blk_lt HBX.out)).trans HBX.out) 1 _ rfl
    have hgb : ¬ (w.heap.size = g) := by omega
    have hgb' : ¬ (g = w.heap.size) := by omega
    go_region_with (first
      | (go_at_call 71; refine (HIns w4 _ (by first | rfl | (simp; done)) HBK.out HBX.out HS.out).out.mono ?_; rintro e w5 ⟨A1, c1, rfl, hbk, hbx, hR5, hs5⟩; have k0 : w5.cell? ⟨g, 0, none⟩ = some (.slice A n c) := cells_of_heap hbk 0 _ rfl; have k2 : w5.cell? ⟨g, 2, none⟩ = some (.int .i64 (total (l.take n))) := cells_of_heap hbk 2 _ rfl; have b0 : w5.cell? ⟨w.heap.size, 0, none⟩ = some (.string x.f0) := cells_of_heap hbx 0 _ rfl; have b1 : w5.cell? ⟨w.heap.size, 1, none⟩ = some (.string x.f1) := cells_of_heap hbx 1 _ rfl; have f0 : ∀ j, w5.frozen? ⟨g, j, none⟩ = false := (fun j => by simp [World.frozen?, hbk]); clear HBK HBX HS; have HBK := Aside0.mk hbk; have HBX := Aside0.mk hbx; have HS := Aside0.mk hs5; have HR5 := Aside0.mk hR5; clear hbk hbx hR5 hs5))
    all_goals
      have hbk6 := blk_put HBK.out 0 (Value.slice A1 (n + 1) c1) rfl
      have hbx6 := (Below.heap_setCell w5 ⟨g, 0, none⟩ (Value.slice A1 (n + 1) c1) w.heap.size hgb).trans HBX.out
      have hs6 := Stay.setCell HS.out (p := ⟨g, 0, none⟩) (.inl HO.out) (Value.slice A1 (n + 1) c1)
      have hr6 := Kd.R_far (p := ⟨g, 0, none⟩) HR5.out (fun k hk => hk.2) (Value.slice A1 (n + 1) c1)
      clear HBK HBX HS HR5
      generalize w5.setCell ⟨g, 0, none⟩ (Value.slice A1 (n + 1) c1) = w6 at hbk6 hbx6 hs6 hr6 ⊢
      have k2 : w6.cell? ⟨g, 2, none⟩ = some (.int .i64 (total (l.take n))) := cells_of_heap hbk6 2 _ rfl
      have b0 : w6.cell? ⟨w.heap.size, 0, none⟩ = some (.string x.f0) := cells_of_heap hbx6 0 _ rfl
      have b1 : w6.cell? ⟨w.heap.size, 1, none⟩ = some (.string x.f1) := cells_of_heap hbx6 1 _ rfl
      have HBK := Aside0.mk hbk6
      have HBX := Aside0.mk hbx6
      have HS := Aside0.mk hs6
      have HR := Aside0.mk hr6
      clear hbk6 hbx6 hs6 hr6
      go_wp2
      go_region_with (first
        | (go_at_call 30; refine (HCst _).out.mono ?_; rintro e w7 ⟨rfl, hb1⟩; have hbk := (hb1.block g (blk_lt HBK.out)).trans HBK.out; have hbx := (hb1.block _ (blk_lt HBX.out)).trans HBX.out; have hst := stay_okay (Stay.drewN HS.out 1) hb1; have hr := Kd.R_below (Kd.R_drewN HR.out 1) hb1; have k2 : w7.cell? ⟨g, 2, none⟩ = some (.int .i64 (total (l.take n))) := cells_of_heap hbk 2 _ rfl; have b0 : w7.cell? ⟨w.heap.size, 0, none⟩ = some (.string x.f0) := cells_of_heap hbx 0 _ rfl; have b1 : w7.cell? ⟨w.heap.size, 1, none⟩ = some (.string x.f1) := cells_of_heap hbx 1 _ rfl; have f0 : ∀ j, w7.frozen? ⟨g, j, none⟩ = false := (fun j => by simp [World.frozen?, hbk]); clear HBK HBX HS HR; have HBK := Aside0.mk hbk; have HBX := Aside0.mk hbx; have HS := Aside0.mk hst; have HR := Aside0.mk hr; clear hb1 hbk hbx hst hr))
      all_goals
        go_wp2
        first | go_end0 | ((try simp only [Exit.inBlock, Exit.then]); refine bodyPost_ret (results_none rfl _ _ _) rfl ?_)
        rw [show total (x :: l.take n) = total (l.take n) + cost x from Int.add_comm _ _]
        exact ⟨rfl, tk_mk HBG.out (.inl HO.out) (blk_put HBK.out 2 _ rfl) (Kd.R_far (p := ⟨g, 2, none⟩) HR.out (fun k hk => hk.2) _), Stay.setCell HS.out (p := ⟨g, 2, none⟩) (.inl HO.out) _⟩
  · rw [if_neg hcs]
    have d1 : decide (cost x ≤ s) = false := decide_eq_false hcs
    clear hcs
    go_enter Try.func27, Try.ntmps27
    go_wp2
    rw [← hW1]
    clear hW1
    go_region_held3 (fun w' => w'.cell? ⟨g, 1, none⟩ = some (.int .i64 s) ∧ w'.cell? ⟨w.heap.size, 0, none⟩ = some (.string x.f0) ∧ w'.cell? ⟨w.heap.size, 1, none⟩ = some (.string x.f1))
      (first | go_keep | assumption | simp [*])
      (first
        | (go_at_call 30; refine (HCst _).out.mono ?_; rintro e w2 ⟨rfl, hb1⟩; have hbk := (hb1.block g (blk_lt HBK.out)).trans HBK.out; have hbx := (hb1.block _ (blk_lt HBX.out)).trans HBX.out; have hst := stay_one (w1 := W1.drew) (Stay.drewN HS.out 1) hb1; have k1 : w2.cell? ⟨g, 1, none⟩ = some (.int .i64 s) := cells_of_heap hbk 1 _ rfl; have b0 : w2.cell? ⟨w.heap.size, 0, none⟩ = some (.string x.f0) := cells_of_heap hbx 0 _ rfl; have b1 : w2.cell? ⟨w.heap.size, 1, none⟩ = some (.string x.f1) := cells_of_heap hbx 1 _ rfl; clear HBK HBX HS; have HBK := Aside0.mk hbk; have HBX := Aside0.mk hbx; have HS := Aside0.mk hst; clear hb1 hbk hbx hst)
        | (go_at_call 70; refine (HShr _ HBK.out HS.out).out.mono ?_; rintro e w3 ⟨rfl, hbk, hst1⟩; have hbx := (hst1.block _ (blk_lt HBX.out) (by omega)).trans HBX.out; have hst := (Stay.trans HS.out hst1 (fun _ _ e => e)); have k0 : w3.cell? ⟨g, 0, none⟩ = some (.slice A n c) := cells_of_heap hbk 0 _ rfl; have k1 : w3.cell? ⟨g, 1, none⟩ = some (.int .i64 s) := cells_of_heap hbk 1 _ rfl; have k2 : w3.cell? ⟨g, 2, none⟩ = some (.int .i64 (total (l.take n))) := cells_of_heap hbk 2 _ rfl; have b0 : w3.cell? ⟨w.heap.size, 0, none⟩ = some (.string x.f0) := cells_of_heap hbx 0 _ rfl; have b1 : w3.cell? ⟨w.heap.size, 1, none⟩ = some (.string x.f1) := cells_of_heap hbx 1 _ rfl; clear HBK HBX HS; have HBK := Aside0.mk hbk; have HBX := Aside0.mk hbx; have HS := Aside0.mk hst; clear hst1 hbk hbx hst))
    go_wp2
    go_region_held3 (fun w' => w'.cell? ⟨g, 1, none⟩ = some (.int .i64 s) ∧ w'.cell? ⟨w.heap.size, 0, none⟩ = some (.string x.f0) ∧ w'.cell? ⟨w.heap.size, 1, none⟩ = some (.string x.f1))
      (first | go_keep | assumption | simp [*])
      (first | (go_at_call 30; refine (HCst _).out.mono ?_; rintro e w4 ⟨rfl, hb1⟩; have hbk := (hb1.block g (blk_lt HBK.out)).trans HBK.out; have hbx := (hb1.block _ (blk_lt HBX.out)).trans HBX.out; have hst := stay_okay (Stay.drewN HS.out 1) hb1; have k0 : w4.cell? ⟨g, 0, none⟩ = some (.slice A n c) := cells_of_heap hbk 0 _ rfl; have k1 : w4.cell? ⟨g, 1, none⟩ = some (.int .i64 s) := cells_of_heap hbk 1 _ rfl; have k2 : w4.cell? ⟨g, 2, none⟩ = some (.int .i64 (total (l.take n))) := cells_of_heap hbk 2 _ rfl; have b0 : w4.cell? ⟨w.heap.size, 0, none⟩ = some (.string x.f0) := cells_of_heap hbx 0 _ rfl; have b1 : w4.cell? ⟨w.heap.size, 1, none⟩ = some (.string x.f1) := cells_of_heap hbx 1 _ rfl; clear HBK HBX HS; have HBK := Aside0.mk hbk; have HBX := Aside0.mk hbx; have HS := Aside0.mk hst; clear hb1 hbk hbx hst))
    go_wp2
    first | go_end0 | ((try simp only [Exit.inBlock, Exit.then]); refine bodyPost_ret (results_none rfl _ _ _) rfl ?_)
    exact ⟨rfl, TK.M_mono (fun _ h => .inl h) (tk_mk HBG.out HO.out HBK.out (Kd.R_take (Kd.R_step HQ.out (fun k hk hlt => HS.out.block k hlt hk.2)) HN.out.1)), HS.out.mono (fun k e => e ▸ HO.out)⟩
end Go.Proofs.Ytohphkdemonlkaa.Tw
