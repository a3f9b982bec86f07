/- Words of this session: an object behind a pointer, told as a kind of the print's words; which blocks a call may turn. -/
import Derived.Test.YtififgiicpdndaaGreatDoorWMore
namespace Go.Proofs.YtififgiicpdndaaGreatDoor.Ob
open Go.RowKit Go.Proofs.YtififgiicpdndaaGreatDoorW.PrintWords Go.Proofs.YtififgiicpdndaaGreatDoorW.PrintLast Go.Proofs.YtififgiicpdndaaGreatDoorW.PrintMore

/-- What a call may turn: the blocks that are ok, and new ones. -/
structure Stay (ok : Nat → Prop) (w w1 : World) : Prop where
  os : w1.os = w.os
  tape : w1.tape = w.tape
  output : w1.output = w.output
  size : w.heap.size ≤ w1.heap.size
  block : ∀ k, k < w.heap.size → ¬ ok k → w1.heap[k]? = w.heap[k]?
section
variable {ok ok' : Nat → Prop} {w w1 w2 : World}
theorem Stay.refl (ok : Nat → Prop) (w : World) : Stay ok w w := ⟨rfl, rfl, rfl, Nat.le_refl _, fun _ _ _ => rfl⟩
theorem Stay.trans (h : Stay ok w w1) (h' : Stay ok' w1 w2) (hok : ∀ k, k < w.heap.size → ok' k → ok k) : Stay ok w w2 :=
  ⟨h'.os.trans h.os, h'.tape.trans h.tape, h'.output.trans h.output, Nat.le_trans h.size h'.size, fun k hk hn => (h'.block k (Nat.lt_of_lt_of_le hk h.size) (fun e => hn (hok k hk e))).trans (h.block k hk hn)⟩
theorem Stay.mono (h : Stay ok w w1) (hok : ∀ k, ok k → ok' k) : Stay ok' w w1 := ⟨h.os, h.tape, h.output, h.size, fun k hk hn => h.block k hk (fun e => hn (hok k e))⟩
theorem Stay.of_below (h : Below w.heap.size w w1) : Stay ok w w1 := ⟨h.os, h.tape, h.output, h.size, fun k hk _ => h.block k hk⟩
theorem Stay.below (h : Stay ok w w1) {w0 : World} (hb : Below w0.heap.size w0 w) (hok : ∀ k, ok k → w0.heap.size ≤ k) : Below w0.heap.size w0 w1 :=
  ⟨h.os.trans hb.os, h.tape.trans hb.tape, h.output.trans hb.output, Nat.le_trans hb.size h.size, fun k hk => (h.block k (Nat.lt_of_lt_of_le hk hb.size) (fun e => Nat.not_lt.2 (hok k e) hk)).trans (hb.block k hk)⟩
theorem Stay.setCell (h : Stay ok w w1) {p : Addr} (hp : ok p.block ∨ w.heap.size ≤ p.block) (u : Value) : Stay ok w (w1.setCell p u) :=
  ⟨h.os, h.tape, h.output, by simpa [World.setCell] using h.size, fun k hk hn => (Below.heap_setCell w1 p u k (by rintro rfl; rcases hp with hp | hp; exact hn hp; omega)).trans (h.block k hk hn)⟩
theorem Stay.grown (h : Stay ok w w1) {row : Option Nat} (hg : w1.grownBy w2 row) (hr : ∀ k, row = some k → ok k ∨ w.heap.size ≤ k) : Stay ok w w2 :=
  ⟨hg.os.trans h.os, hg.tape.trans h.tape, hg.output.trans h.output, Nat.le_trans h.size hg.size, fun k hk hn => (hg.block k (Nat.lt_of_lt_of_le hk h.size) (by rintro rfl; rcases hr k rfl with hr | hr; exact hn hr; omega)).trans (h.block k hk hn)⟩
theorem Stay.alloc (h : Stay ok w w1) (o : Obj) : Stay ok w (w1.alloc o) := h.trans (Stay.of_below (ok := fun _ => False) (below_alloc (Below.refl _ _) o)) (fun _ _ e => e.elim)
theorem Stay.drewN (h : Stay ok w w1) (n : Nat) : Stay ok w (w1.drewN n) := h.trans (Stay.of_below (ok := fun _ => False) (pw_below_drewN (Below.refl _ _) n)) (fun _ _ e => e.elim)
end
end Go.Proofs.YtififgiicpdndaaGreatDoor.Ob
