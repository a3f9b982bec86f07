/- The queue's All. -/
import Derived.Test.YtohphkdemonlkaaQWalk6
namespace Go.Proofs.Ytohphkdemonlkaa.Qw
open Go.RowKit Go.Proofs.Ytohphkdemonlkaa.XQt Go.Proofs.YtohphkdemonlkaaW.PrintWords Go.Proofs.YtohphkdemonlkaaW.PrintLast Go.Proofs.YtohphkdemonlkaaW.PrintMore Go.Proofs.Ytohphkdemonlkaa.Ob

/-- slices.Clone of a row of one's own. -/
theorem clone_calls {w : World} {base : Nat} {ok : Nat → Prop} {A : Option Addr} {n c : Nat} {l : List Int} (h : (Kd.int .i64).Q 3 w base ok (.slice A n c) l) (hl : n ≤ 1000000000) :
    Calls Try.prog 47 #[.slice A n c] w fun e w' => ∃ A1 c1, e = .returned (.slice A1 n c1) ∧ (Kd.int .i64).R 3 w' w.heap.size (fun k => w.heap.size ≤ k) (.slice A1 n c1) l ∧ Below w.heap.size w w' := by
  have hln : n = l.length := (Kd.Q_reads' h).1
  cases A with
  | none =>
    have hn : n = 0 := by
      rcases Nat.eq_zero_or_pos n with h0 | h0
      · exact h0
      · obtain ⟨_, _, e⟩ := q_addr h h0
        cases e
    subst hn
    obtain rfl : l = [] := List.eq_nil_of_length_eq_zero hln.symm
    refine (Try.slices_Clone_int_nil 0 c w).mono ?_
    rintro e w' ⟨rfl, rfl⟩
    exact ⟨none, 0, rfl, Kd.R_nil _ _ _ _ _, Below.refl _ _⟩
  | some a =>
    have hfin : ∀ e w', (∃ v', e = Ending.returned v' ∧ w'.ownsRow w.heap.size 3 1 v' n (l.map (Value.int .i64)) ∧ v' ≠ .slice none 0 0 ∧ Below w.heap.size w w') → ∃ A1 c1, e = .returned (.slice A1 n c1) ∧ (Kd.int .i64).R 3 w' w.heap.size (fun k => w.heap.size ≤ k) (.slice A1 n c1) l ∧ Below w.heap.size w w' := by
      rintro e w' ⟨v, rfl, ho, _, hb⟩
      have hr : (Kd.int .i64).R 3 w' w.heap.size (fun k => w.heap.size ≤ k) v l := Kd.R_of_own (by rw [← hln]; exact ho) (fun k hk => by
        obtain ⟨_, h2⟩ := ho
        rcases h2 with ⟨rfl, _⟩ | ⟨g, cap, cur, rfl, hg, _⟩
        · cases hk
        · cases hk
          exact hg)
      obtain ⟨A1, c1, rfl⟩ := Kd.R_slice hr
      rw [← hln] at hr ⊢
      exact ⟨A1, c1, rfl, hr, hb⟩
    rcases Nat.eq_zero_or_pos n with rfl | hp
    · obtain rfl : l = [] := List.eq_nil_of_length_eq_zero hln.symm
      exact (Try.slices_Clone_int_zero a c w).mono hfin
    · obtain ⟨b, o, e⟩ := q_addr h hp
      obtain rfl := Option.some.inj e
      obtain ⟨hc, _⟩ := q_cells_of h hp
      refine (Try.slices_Clone_int b o n c l w (by omega) (by omega) hc).mono ?_
      rw [hln, List.take_length, ← hln]
      exact hfin
/-- All that wait. -/
theorem all_calls (q : List Int × Int) (w : World) (g : Nat) (base : Nat) (ok : Nat → Prop) (hl : q.1.length ≤ 1000000000)
    (hq : QK.M w base ok q [.pointer (some ⟨g, 0, none⟩)]) :
    Calls Try.prog 21 #[.pointer (some ⟨g, 0, none⟩)] w fun e w' => ∃ A1 c1, e = .returned (.slice A1 q.1.length c1) ∧ (Kd.int .i64).R 3 w' w.heap.size (fun k => w.heap.size ≤ k) (.slice A1 q.1.length c1) q.1 ∧ Below w.heap.size w w' := by
  obtain ⟨g', A, c, he, hbg, hok, hg, hc, hQ⟩ := qk_open hq
  obtain rfl : g = g' := by simpa using he
  have h0 : w.cell? ⟨g, 0, none⟩ = some (.slice A q.1.length c) := by simp [World.cell?, hg]
  have HQ := Aside0.mk (clone_calls hQ hl)
  clear hQ hg hc he hq hok hbg
  go_enter Try.func21, Try.ntmps21
  go_wp2_with (go_at_call 47; refine HQ.out.mono ?_; rintro e w' ⟨A1, c1, rfl, hR, hB⟩)
  go_ret
  exact ⟨A1, c1, rfl, hR, hB⟩
theorem all_own {w0 w : World} {q : List Int × Int} {g : Nat} (h : Own w0 w q g) (hl : q.1.length ≤ 1000000000) :
    Calls Try.prog 21 #[.pointer (some ⟨g, 0, none⟩)] w fun e w' => ∃ A1 c1, e = .returned (.slice A1 q.1.length c1) ∧ Aside0 ((Kd.int .i64).R 3 w' w.heap.size (fun k => w.heap.size ≤ k) (.slice A1 q.1.length c1) q.1) ∧ Own w0 w' q g := by
  refine (all_calls q w g _ _ hl h.m).mono ?_
  rintro e w' ⟨A1, c1, rfl, hR, hB⟩
  exact ⟨A1, c1, rfl, ⟨hR⟩, own_of h (Stay.of_below hB) (M_stay h.m (Stay.of_below (ok := fun _ => False) hB) (fun _ _ e => e))⟩
end Go.Proofs.Ytohphkdemonlkaa.Qw
