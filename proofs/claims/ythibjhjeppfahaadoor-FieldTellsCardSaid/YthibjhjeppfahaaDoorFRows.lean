/- Rows of fields in memory: a literal, a part of it. -/
import Derived.Test.YthibjhjeppfahaaDoorFCalls
namespace Go.Proofs.YthibjhjeppfahaaDoor.Fw
open Go.RowKit Go.Proofs.YthibjhjeppfahaaDoor.XFi Go.Proofs.YthibjhjeppfahaaDoorW.PrintWords Go.Proofs.YthibjhjeppfahaaDoorW.PrintLast Go.Proofs.YthibjhjeppfahaaDoorW.PrintMore Go.Proofs.YthibjhjeppfahaaDoor.Ms
def fcells : List S26 → List Value
  | [] => []
  | x :: l => .string x.f0 :: .string x.f1 :: fcells l
theorem fcells_len : ∀ l : List S26, (fcells l).length = l.length * 2
  | [] => rfl
  | x :: l => by simp [fcells, fcells_len l]; omega
theorem fcells_get : ∀ (l : List S26) (j : Nat) (p : S26), l[j]? = some p → (fcells l)[j * 2]? = some (.string p.f0) ∧ (fcells l)[j * 2 + 1]? = some (.string p.f1)
  | [], j, p, h => by simp at h
  | x :: l, 0, p, h => by
    obtain rfl := Option.some.inj h
    exact ⟨rfl, rfl⟩
  | x :: l, j + 1, p, h => by
    have := fcells_get l j p (by simpa using h)
    rw [show (j + 1) * 2 = j * 2 + 1 + 1 by omega]
    simpa [fcells] using this
theorem fcells_append : ∀ a b : List S26, fcells (a ++ b) = fcells a ++ fcells b
  | [], _ => rfl
  | x :: a, b => by simp [fcells, fcells_append a b]
/-- A row of fields that lies in a block. -/
theorem flds_of {w : World} {b : Nat} {cs : Array Value} {t : TypeId} {fr : Nat × Nat} (hh : w.heap[b]? = some (.cells cs t fr)) (pre : List Value) (l : List S26) (post : List Value) (e : cs.toList = pre ++ (fcells l ++ post)) (hl : l.length ≤ 1000000000) : k26.C w (some ⟨b, pre.length, none⟩) l.length l := by
  refine ⟨rfl, by omega, fun _ => ⟨_, rfl, fun j p hp => ⟨[.string p.f0, .string p.f1], rfl, k26_mk w p, fun i u hu => ?_⟩⟩⟩
  have hj : j < l.length := (List.getElem?_eq_some_iff.1 hp).1
  have hcell : ∀ n, n < l.length * 2 → w.cell? ((⟨b, pre.length, none⟩ : Addr).add n) = (fcells l)[n]? := fun n hn => by
    have e2 : (⟨b, pre.length, none⟩ : Addr).add n = ⟨b, pre.length + n, none⟩ := by
      unfold Addr.add
      split
      · next h => rw [h, Nat.add_zero]
      · rfl
    rw [e2]
    unfold World.cell?
    rw [show (⟨b, pre.length + n, none⟩ : Addr).block = b from rfl, hh]
    show cs[pre.length + n]? = _
    rw [← Array.getElem?_toList, e, List.getElem?_append_right (by omega), List.getElem?_append_left (by rw [fcells_len]; omega)]
    congr 1
    omega
  obtain ⟨h0, h1⟩ := fcells_get l j p hp
  have hsz : j * k26.sz = j * 2 := rfl
  rw [hsz, hcell _ (by
    rcases i with _ | _ | i
    · omega
    · omega
    · cases hu)]
  rcases i with _ | _ | i
  · obtain rfl := Option.some.inj hu
    exact h0
  · obtain rfl := Option.some.inj hu
    exact h1
  · cases hu
/-- A literal row. -/
theorem flds_lit (w : World) (l : List S26) (hl : l.length ≤ 1000000000) : k26.C (w.alloc (.cells (fcells l).toArray 26)) (some ⟨w.heap.size, 0, none⟩) l.length l :=
  flds_of (heap_alloc_new w _) [] l [] (by simp) hl
theorem sized_lit {l : List S26} (h : (decide (l.length ≤ 100000) && l.all (fun f => decide (f.f0.size ≤ 100000) && decide (f.f1.size ≤ 100000))) = true) : Sized l := by
  rw [Bool.and_eq_true, List.all_eq_true] at h
  refine ⟨of_decide_eq_true h.1, fun f hf => ?_⟩
  have := h.2 f hf
  rw [Bool.and_eq_true] at this
  exact ⟨of_decide_eq_true this.1, of_decide_eq_true this.2⟩
end Go.Proofs.YthibjhjeppfahaaDoor.Fw
