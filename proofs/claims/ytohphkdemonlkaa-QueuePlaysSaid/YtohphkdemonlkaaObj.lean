/- Words of this session: an object behind a pointer, told as a kind of the print's words; which blocks a call may turn. -/
import Derived.Test.YtohphkdemonlkaaWMore
namespace Go.Proofs.Ytohphkdemonlkaa.Ob
open Go.RowKit Go.Proofs.YtohphkdemonlkaaW.PrintWords Go.Proofs.YtohphkdemonlkaaW.PrintLast Go.Proofs.YtohphkdemonlkaaW.PrintMore

/-- A pointer to a block of type t whose cells are of kind d; the block, and what lies in it, is one's own. -/
def ptr {α : Type} (t : Nat) (d : Kd α) : Kd α where
  sz := 1
  E := t :: d.E
  K := fun w x cs => ∃ g cells, cs = [.pointer (some ⟨g, 0, none⟩)] ∧ w.heap[g]? = some (.cells cells t (0, 0)) ∧ d.K w x cells.toList
  M := fun w base ok x cs => ∃ g cells, cs = [.pointer (some ⟨g, 0, none⟩)] ∧ base ≤ g ∧ ok g ∧ w.heap[g]? = some (.cells cells t (0, 0)) ∧ d.M w base (fun k => ok k ∧ k ≠ g) x cells.toList
  K_len := by
    rintro w x cs ⟨g, cells, rfl, _⟩
    rfl
  K_one := by
    rintro w x cs ⟨g, cells, rfl, _⟩ u hu
    rw [List.mem_singleton.1 hu]
    rfl
  K_below := by
    rintro w w1 x cs hb ⟨g, cells, rfl, hg, hk⟩
    exact ⟨g, cells, rfl, (hb.block g (blk_lt hg)).trans hg, d.K_below hb hk⟩
  K_of_M := by
    rintro w base ok x cs ⟨g, cells, rfl, _, _, hg, hm⟩
    exact ⟨g, cells, rfl, hg, d.K_of_M hm⟩
  M_mono := by
    rintro w base ok ok' x cs hok ⟨g, cells, rfl, hb, ho, hg, hm⟩
    exact ⟨g, cells, rfl, hb, hok g ho, hg, d.M_mono (fun k hk => ⟨hok k hk.1, hk.2⟩) hm⟩
  M_bound := by
    rintro w base ok x cs ⟨g, cells, rfl, hb, ho, hg, hm⟩
    refine ⟨g, cells, rfl, hb, ⟨ho, hb, blk_lt hg, t, List.mem_cons_self, cells, hg⟩, hg, d.M_mono (fun k hk => ?_) (d.M_bound hm)⟩
    obtain ⟨⟨h1, h2⟩, h3, h4, q, hq, hc⟩ := hk
    exact ⟨⟨h1, h3, h4, q, List.mem_cons_of_mem _ hq, hc⟩, h2⟩
  M_move := by
    rintro w w1 base ok x cs hmv ⟨g, cells, rfl, hb, ho, hg, hm⟩
    exact ⟨g, cells, rfl, hb, ho, (hmv g ho).trans hg, d.M_move (fun k hk => hmv k hk.1) hm⟩
  M_lower := by
    rintro w base base' ok x cs hbb ⟨g, cells, rfl, hb, ho, hg, hm⟩
    exact ⟨g, cells, rfl, Nat.le_trans hbb hb, ho, hg, d.M_lower hbb hm⟩

/-- A slice of one's own that may begin inside its block. -/
def qslice {α : Type} (e : Nat) (d : Kd α) : Kd (List α) where
  sz := 1
  E := e :: d.E
  K := fun w xs cs => ∃ A c, cs = [.slice A xs.length c] ∧ xs.length ≤ c ∧ d.C w A xs.length xs
  M := fun w base ok xs cs => ∃ v, cs = [v] ∧ d.Q e w base ok v xs
  K_len := by
    rintro w x cs ⟨A, c, rfl, _⟩
    rfl
  K_one := by
    rintro w x cs ⟨A, c, rfl, _⟩ u hu
    rw [List.mem_singleton.1 hu]
    rfl
  K_below := by
    rintro w w1 x cs hb ⟨A, c, rfl, hl, hr⟩
    exact ⟨A, c, rfl, hl, Kd.C_below hr hb⟩
  K_of_M := by
    rintro w base ok x cs ⟨v, rfl, h⟩
    obtain ⟨A, c, rfl, hl, hr⟩ := Kd.Q_reads h
    exact ⟨A, c, rfl, hl, hr⟩
  M_mono := by
    rintro w base ok ok' x cs hok ⟨v, rfl, h⟩
    exact ⟨v, rfl, Kd.Q_mono h hok⟩
  M_bound := by
    rintro w base ok x cs ⟨v, rfl, h⟩
    exact ⟨v, rfl, Kd.Q_bound h⟩
  M_move := by
    rintro w w1 base ok x cs hm ⟨v, rfl, h⟩
    exact ⟨v, rfl, Kd.Q_move h hm⟩
  M_lower := by
    rintro w base base' ok x cs hb ⟨v, rfl, h⟩
    exact ⟨v, rfl, Kd.Q_lower h hb⟩

/-- What a call may turn: the blocks that are ok, and new ones. -/
structure Stay (ok : Nat → Prop) (w w1 : World) : Prop where
  os : w1.os = w.os
  tape : w1.tape = w.tape
  output : w1.output = w.output
  size : w.heap.size ≤ w1.heap.size
  block : ∀ k, k < w.heap.size → ¬ ok k → w1.heap[k]? = w.heap[k]?
section
variable {ok ok' : Nat → Prop} {w w1 w2 : World}
theorem Stay.refl (ok : Nat → Prop) (w : World) : Stay ok w w := ⟨rfl, rfl, rfl, Nat.le_refl _, fun _ _ _ => rfl⟩
theorem Stay.trans (h : Stay ok w w1) (h' : Stay ok' w1 w2) (hok : ∀ k, k < w.heap.size → ok' k → ok k) : Stay ok w w2 :=
  ⟨h'.os.trans h.os, h'.tape.trans h.tape, h'.output.trans h.output, Nat.le_trans h.size h'.size, fun k hk hn => (h'.block k (Nat.lt_of_lt_of_le hk h.size) (fun e => hn (hok k hk e))).trans (h.block k hk hn)⟩
theorem Stay.mono (h : Stay ok w w1) (hok : ∀ k, ok k → ok' k) : Stay ok' w w1 := ⟨h.os, h.tape, h.output, h.size, fun k hk hn => h.block k hk (fun e => hn (hok k e))⟩
theorem Stay.of_below (h : Below w.heap.size w w1) : Stay ok w w1 := ⟨h.os, h.tape, h.output, h.size, fun k hk _ => h.block k hk⟩
theorem Stay.below (h : Stay ok w w1) {w0 : World} (hb : Below w0.heap.size w0 w) (hok : ∀ k, ok k → w0.heap.size ≤ k) : Below w0.heap.size w0 w1 :=
  ⟨h.os.trans hb.os, h.tape.trans hb.tape, h.output.trans hb.output, Nat.le_trans hb.size h.size, fun k hk => (h.block k (Nat.lt_of_lt_of_le hk hb.size) (fun e => Nat.not_lt.2 (hok k e) hk)).trans (hb.block k hk)⟩
theorem Stay.setCell (h : Stay ok w w1) {p : Addr} (hp : ok p.block ∨ w.heap.size ≤ p.block) (u : Value) : Stay ok w (w1.setCell p u) :=
  ⟨h.os, h.tape, h.output, by simpa [World.setCell] using h.size, fun k hk hn => (Below.heap_setCell w1 p u k (by rintro rfl; rcases hp with hp | hp; exact hn hp; omega)).trans (h.block k hk hn)⟩
theorem Stay.grown (h : Stay ok w w1) {row : Option Nat} (hg : w1.grownBy w2 row) (hr : ∀ k, row = some k → ok k ∨ w.heap.size ≤ k) : Stay ok w w2 :=
  ⟨hg.os.trans h.os, hg.tape.trans h.tape, hg.output.trans h.output, Nat.le_trans h.size hg.size, fun k hk hn => (hg.block k (Nat.lt_of_lt_of_le hk h.size) (by rintro rfl; rcases hr k rfl with hr | hr; exact hn hr; omega)).trans (h.block k hk hn)⟩
theorem Stay.alloc (h : Stay ok w w1) (o : Obj) : Stay ok w (w1.alloc o) := h.trans (Stay.of_below (ok := fun _ => False) (below_alloc (Below.refl _ _) o)) (fun _ _ e => e.elim)
theorem Stay.drewN (h : Stay ok w w1) (n : Nat) : Stay ok w (w1.drewN n) := h.trans (Stay.of_below (ok := fun _ => False) (pw_below_drewN (Below.refl _ _) n)) (fun _ _ e => e.elim)
/-- What is another's lives on. -/
theorem M_stay {α : Type} {d : Kd α} {base : Nat} {okx : Nat → Prop} {x : α} {cs : List Value} (h : d.M w base okx x cs) (hs : Stay ok w w1) (hn : ∀ k, okx k → ¬ ok k) : d.M w1 base okx x cs :=
  Kd.M_step h (fun k hk hlt => hs.block k hlt (hn k hk))
end
end Go.Proofs.Ytohphkdemonlkaa.Ob
