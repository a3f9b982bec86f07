/- What a table has, behind many; what the laws' loops ask. -/
import Derived.Test.YtohphkdemonlkaaTAlive
import Derived.Test.YtohphkdemonlkaaTOpen
namespace Go.Proofs.Ytohphkdemonlkaa.Tw
open Go.RowKit Go.Lib Go.Proofs.Ytohphkdemonlkaa.XQt Go.Proofs.YtohphkdemonlkaaW.PrintWords Go.Proofs.YtohphkdemonlkaaW.PrintLast Go.Proofs.YtohphkdemonlkaaW.PrintMore Go.Proofs.Ytohphkdemonlkaa.Ob
def adds (s : Int) (l : List S54) : List S54 := l.foldl (addL s) []
theorem adds_snoc (s : Int) (l : List S54) (n : Nat) (hn : n < l.length) : adds s (l.take (n + 1)) = addL s (adds s (l.take n)) l[n] := by
  rw [List.take_succ_eq_append_getElem hn]
  unfold adds
  rw [List.foldl_append]
  rfl
/-- What every field that came in has. -/
def Small (l : List S54) : Prop := ∀ y ∈ l, y.f0.size ≤ reachBytes ∧ y.f1.size ≤ reachBytes
theorem small_at {l : List S54} (h : Small l) (n : Nat) (hn : n < l.length) : (l[n].f0.size : Int) + l[n].f1.size ≤ 281474976710656 := by
  have := h l[n] (List.getElem_mem hn)
  have h2 := reachBytes_lt
  omega
theorem rd_in (l : List S54) (n : Nat) (hn : n < l.length) : rd_T54 l (n : Int) = l[n] := by simp [rd_T54, hn]
/-- A field of a row that came in, as the loops read it. -/
theorem elem_at {w0 w : World} {A : Option Addr} {l : List S54} (hC : k54.C w0 A l.length l) (hb : Below w0.heap.size w0 w) (n : Nat) (hn : n < l.length) :
    ∃ ad, A = some ad ∧ w.cell? (ad.add (n * 2)) = some (.string l[n].f0) ∧ w.cell? ⟨(ad.add (n * 2)).block, (ad.add (n * 2)).off + 1, none⟩ = some (.string l[n].f1) := by
  obtain ⟨ad, e, h0, h1⟩ := at_T54 (Kd.C_below hC hb) (n : Int) (by omega) (by omega)
  rw [Int.toNat_natCast, rd_in l n hn] at h0 h1
  exact ⟨ad, e, h0, h1⟩
end Go.Proofs.Ytohphkdemonlkaa.Tw
