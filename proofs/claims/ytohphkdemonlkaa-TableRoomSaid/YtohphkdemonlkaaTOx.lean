/- A table behind w0, and what else lies behind w0: the table's contracts keep it. -/
import Derived.Test.YtohphkdemonlkaaTCosts
import Derived.Test.YtohphkdemonlkaaTGreat
namespace Go.Proofs.Ytohphkdemonlkaa.Tw
open Go.RowKit Go.Lib Go.Proofs.Ytohphkdemonlkaa.XQt Go.Proofs.YtohphkdemonlkaaW.PrintWords Go.Proofs.YtohphkdemonlkaaW.PrintLast Go.Proofs.YtohphkdemonlkaaW.PrintMore Go.Proofs.Ytohphkdemonlkaa.Ob

def TOx (w0 w : World) (l : List S54) (s : Int) (g : Nat) : Prop := ∃ ok, TOn w ok l s g ∧ Below w0.heap.size w0 w ∧ ∀ k, ok k → w0.heap.size ≤ k
section
variable {w0 w w1 : World} {l : List S54} {s : Int} {g : Nat}
theorem TOx.below (h : TOx w0 w l s g) : Below w0.heap.size w0 w := by obtain ⟨_, _, h, _⟩ := h; exact h
theorem TOx.room (h : TOx w0 w l s g) : total l ≤ s := by obtain ⟨_, h, _⟩ := h; exact h.room
theorem TOx.below_ (h : TOx w0 w l s g) (hb : Below w.heap.size w w1) : TOx w0 w1 l s g := by
  obtain ⟨ok, h, hb0, ho⟩ := h
  exact ⟨ok, h.below_ hb, (Stay.of_below (ok := fun _ => False) hb).below hb0 (fun _ e => e.elim), ho⟩
theorem tox_new (hb : Below w0.heap.size w0 w) (s : Int) (hs : 0 ≤ s ∧ s ≤ 512) : Calls Try.prog 26 #[.int .i64 s] w fun e w' => ∃ g, e = .returned (.pointer (some ⟨g, 0, none⟩)) ∧ TOx w0 w' [] s g := by
  refine (new_on s hs w).mono ?_
  rintro e w' ⟨g, rfl, ht, hb2⟩
  exact ⟨g, rfl, _, ht, (Stay.of_below (ok := fun _ => False) hb2).below hb (fun _ e => e.elim), fun k hk => Nat.le_trans hb.size hk.1⟩
/-- One is added that lies in a variable: the variable stays. -/
theorem tox_add (h : TOx w0 w l s g) (x : S54) (hx : cost x ≤ 1000000000) :
    Calls Try.prog 27 #[.pointer (some ⟨g, 0, none⟩), fv x] (w.alloc (.cells #[.string x.f0, .string x.f1] 54)) fun e w' => e = .returned (.tuple #[]) ∧ TOx w0 w' (addL s l x) s g ∧ w'.heap[w.heap.size]? = some (.cells #[.string x.f0, .string x.f1] 54 (0, 0)) := by
  obtain ⟨ok, h, hb0, ho⟩ := h
  have hb1 : Below w.heap.size w (w.alloc (.cells #[.string x.f0, .string x.f1] 54)) := below_alloc (Below.refl _ _) _
  refine (add_on (h.below_ hb1) x hx).mono ?_
  rintro e w' ⟨rfl, ht, hs⟩
  refine ⟨rfl, ⟨_, ht, hs.below ((Stay.of_below (ok := fun _ => False) hb1).below hb0 (fun _ e => e.elim)) ho, fun k hk => ?_⟩, (hs.block w.heap.size (by rw [World.size_alloc]; omega) (fun hk => by have := h.old _ hk; omega)).trans (heap_alloc_new w _)⟩
  rcases hk.1 with hk | hk
  · exact ho k hk
  · exact Nat.le_trans hb0.size (Nat.le_trans hb1.size hk)
theorem tox_all (h : TOx w0 w l s g) : Calls Try.prog 28 #[.pointer (some ⟨g, 0, none⟩)] w fun e w' => ∃ A1 c1, e = .returned (.slice A1 l.length c1) ∧ Aside0 (k54.C w' A1 l.length l) ∧ Below w.heap.size w w' := by
  obtain ⟨ok, h, _⟩ := h
  refine (all_calls (l, s, total l) w g _ _ (by have := h.len; show l.length ≤ _; omega) h.m).mono ?_
  rintro e w' ⟨A1, c1, rfl, hR, hb⟩
  exact ⟨A1, c1, rfl, ⟨(Kd.R_reads' hR).2.2⟩, hb⟩
theorem tox_used (h : TOx w0 w l s g) : Calls Try.prog 29 #[.pointer (some ⟨g, 0, none⟩)] w fun e w' => e = .returned (.int .i64 (total l)) ∧ Below w.heap.size w w' := by
  obtain ⟨ok, h, _⟩ := h
  exact used_on h
end
end Go.Proofs.Ytohphkdemonlkaa.Tw
