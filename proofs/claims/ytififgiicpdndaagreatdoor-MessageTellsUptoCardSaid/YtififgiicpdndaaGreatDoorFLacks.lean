/- FieldLacks. -/
import Derived.Test.YtififgiicpdndaaGreatDoorFOne
import Derived.Deep.RegionHeldLaw
namespace Go.Proofs.YtififgiicpdndaaGreatDoor.Fw
open Go.RowKit Go.Proofs.YtififgiicpdndaaGreatDoor.XMi Go.Proofs.YtififgiicpdndaaGreatDoorW.PrintWords Go.Proofs.YtififgiicpdndaaGreatDoorW.PrintLast Go.Proofs.YtififgiicpdndaaGreatDoorW.PrintMore Go.Proofs.YtififgiicpdndaaGreatDoor.Ms
theorem FR.some {w : World} {base n c : Nat} {A : Option Addr} {l : List S61} (h : FR w base A n c l) (hn : 0 < n) : ∃ g cur, A = Option.some ⟨g, 0, none⟩ ∧ base ≤ g ∧ w.heap[g]? = Option.some (.cells cur 61 (0, 0)) ∧ n ≤ c ∧ c ≤ maxLen ∧ cur.size = c * 2 ∧ cur.toList.take (n * 2) = fcells l := by
  obtain ⟨rfl, h1, h2⟩ := h
  rcases h2 with ⟨e, h0⟩ | ⟨g, cap, cur, e, hb, hh, hnc, hcm, hcs, ht⟩
  · omega
  · injection e with e1 e2 e3
    subst e1; subst e3
    exact ⟨g, cur, rfl, hb, hh, hnc, hcm, hcs, ht⟩
theorem heap_put {w : World} {g : Nat} {cur : Array Value} {t : TypeId} {fr : Nat × Nat} (h : w.heap[g]? = some (.cells cur t fr)) (i : Nat) (v : Value) (hi : i < cur.size) : (w.setCell ⟨g, i, none⟩ v).heap[g]? = some (.cells (cur.set i v hi) t fr) := by
  simp only [World.setCell, Array.getElem?_modify, if_pos, h]
  simp [Array.setIfInBounds, hi]
theorem fcells_set : ∀ (l : List S61) (k : Nat) (x : S61) (v : ByteArray), l[k]? = some x → (fcells l).set (k * 2 + 1) (.string v) = fcells (l.set k ⟨x.f0, v⟩)
  | [], k, x, v, h => by simp at h
  | y :: l, 0, x, v, h => by
    obtain rfl := Option.some.inj h
    rfl
  | y :: l, k + 1, x, v, h => by
    have := fcells_set l k x v (by simpa using h)
    rw [show (k + 1) * 2 + 1 = k * 2 + 1 + 1 + 1 by omega]
    simp [fcells, this]
theorem FR.put1 {w : World} {base n c g : Nat} {l : List S61} (h : FR w base (Option.some ⟨g, 0, none⟩) n c l) (k : Nat) (x : S61) (hk : l[k]? = Option.some x) (v : ByteArray) : FR (w.setCell ⟨g, k * 2 + 1, none⟩ (.string v)) base (Option.some ⟨g, 0, none⟩) n c (l.set k ⟨x.f0, v⟩) := by
  have hkl : k < l.length := (List.getElem?_eq_some_iff.1 hk).1
  have hn := h.1
  obtain ⟨g', cur, e, hb, hh, hnc, hcm, hcs, ht⟩ := h.some (by omega)
  obtain rfl : g = g' := by injection e with e; injection e
  have hi : k * 2 + 1 < cur.size := by rw [hcs]; omega
  refine ⟨by rw [List.length_set]; exact hn, by rw [fcells_len, List.length_set, hn], .inr ⟨g, c, _, rfl, hb, heap_put hh _ _ hi, hnc, hcm, by rw [Array.size_set]; exact hcs, ?_⟩⟩
  rw [Array.toList_set, List.take_set, ht]
  exact fcells_set l k x v hk
theorem cell_own {w : World} {g i : Nat} {cur : Array Value} {t : TypeId} (h : w.heap[g]? = some (.cells cur t (0, 0))) (hi : i < cur.size) : ∃ u, w.cell? ⟨g, i, none⟩ = some u ∧ w.frozen? ⟨g, i, none⟩ = false := by
  refine ⟨cur[i], cells_of_heap h i _ (Array.getElem?_eq_getElem hi), ?_⟩
  simp [World.frozen?, h]
theorem first_below {w w4 w5 : World} (h : Below w.heap.size w w4) (hb : Below w4.drew.heap.size w4.drew w5) : Below w.heap.size w w5 := below_step (below_drew h) hb
end Go.Proofs.YtififgiicpdndaaGreatDoor.Fw

