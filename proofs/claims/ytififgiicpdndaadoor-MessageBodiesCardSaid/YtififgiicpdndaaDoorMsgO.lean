/- A slice of operations that came in: opened. -/
import Derived.Test.YtififgiicpdndaaDoorMsgEarly
namespace Go.Proofs.YtififgiicpdndaaDoor.Fw
open Go.ChangeShapes Go.WideShapes Go.RowKit Go.Proofs.YtififgiicpdndaaDoor.XMi Go.Proofs.YtififgiicpdndaaDoorW.PrintWords Go.Proofs.YtififgiicpdndaaDoorW.PrintLast Go.Proofs.YtififgiicpdndaaDoorW.PrintMore Go.Proofs.YtififgiicpdndaaDoor.Ms Go.Proofs.YtififgiicpdndaaDoor.Ob
section
variable {H : Type} {enc : TypeId × Value → H} {w : World} {base : Nat} {spare : Nat → Bool} {held : Bool}
theorem open_fieldsW {fuel : Nat} {cs : List Value} {x : DataW H × List MemPlace} (hsz : ∀ n ∈ x.1.weights Tryd.prog 32, n ≤ reachBytes) (h : DataW.trod enc Tryd.prog w base spare held fuel 32 cs = some x) :
    ∃ (A : Option Addr) (cap : Nat) (l : List S30), cs = [.slice A l.length cap] ∧ k30.C w A l.length l ∧ Small l cap := by
  have hall : (DataW.weightsEach Tryd.prog [32] [x.1]).all (· ≤ reachBytes) = true := by
    rw [List.all_eq_true]
    intro n hn
    simp only [DataW.weightsEach, List.append_nil] at hn
    exact decide_eq_true (hsz n hn)
  obtain ⟨A, cap, l, h1, _, h2, h3⟩ := open_fields hall (j := 0) rfl rfl h
  exact ⟨A, cap, l, h1, h2, h3⟩
structure OP where
  kind : Int
  n : Int
  fin : Bool
  A : Option Addr
  c : Nat
  l : List S30
/-- An operation that can be read. -/
structure OpOk (w : World) (o : OP) : Prop where
  small : Small o.l o.c
  c : k30.C w o.A o.l.length o.l
  rk : -9223372036854775808 ≤ o.kind ∧ o.kind ≤ 9223372036854775807
  rn : -9223372036854775808 ≤ o.n ∧ o.n ≤ 9223372036854775807
def opAt (w : World) (ad : Addr) (o : OP) : Prop := w.cell? ad = some (.int .i64 o.kind) ∧ w.cell? ⟨ad.block, ad.off + 1, none⟩ = some (.int .i64 o.n) ∧ w.cell? ⟨ad.block, ad.off + 2, none⟩ = some (.bool o.fin) ∧ w.cell? ⟨ad.block, ad.off + 3, none⟩ = some (.slice o.A o.l.length o.c)
def Ops (w : World) (A : Option Addr) (os : List OP) : Prop := os.length ≤ 1000000000000000000 ∧ ∀ (j : Nat) (o : OP), os[j]? = some o → OpOk w o ∧ ∃ ad : Addr, A = some ad ∧ opAt w (ad.add (j * 4)) o
theorem cell_lt {w : World} {a : Addr} {v : Value} (h : w.cell? a = some v) : a.block < w.heap.size := by
  unfold World.cell? at h
  rcases hh : w.heap[a.block]? with _ | o
  · rw [hh] at h; simp at h
  · exact blk_lt hh
theorem op_below {w w' : World} {ad : Addr} {o : OP} (h : opAt w ad o) (hb : Below w.heap.size w w') : opAt w' ad o := by
  have hk : ∀ (a : Addr) (v : Value), w.cell? a = some v → w'.cell? a = some v := fun a v hv => (Below.cell hb (cell_lt hv)).trans hv
  exact ⟨hk _ _ h.1, hk _ _ h.2.1, hk _ _ h.2.2.1, hk _ _ h.2.2.2⟩
theorem op_weights (d0 d1 d2 d3 : DataW H) : ∀ n ∈ d3.weights Tryd.prog 32, n ∈ (DataW.agg [d0, d1, d2, d3] : DataW H).weights Tryd.prog 48 := by
  intro n hn
  simp only [DataW.weights, Tryd.underlying48]
  simp only [DataW.weightsEach, List.map_cons, List.map_nil, List.mem_append]
  exact .inr (.inr (.inr (.inl hn)))
theorem add_off (a : Addr) (i q : Nat) (hq : 0 < q) : a.add (i + q) = ⟨(a.add i).block, (a.add i).off + q, none⟩ := by
  unfold Addr.add
  repeat' split
  all_goals first | rfl | omega | (simp_all; done) | (simp_all; omega)
theorem wf_in {n : Int} (h : (Lit.int .i64 n).wf = true) : -9223372036854775808 ≤ n ∧ n ≤ 9223372036854775807 := by
  simp [Lit.wf] at h
  exact ⟨Int.le_trans (by decide) h.1, h.2⟩
theorem bytes48 : Tryd.prog.bytesOf 48 = 40 + 8 := by kernel_rfl
set_option maxRecDepth 20000 in
theorem open_ops {fuel j : Nat} {cs : List Value} {x : DataW H × List MemPlace} {ts : List TypeId} {ds : List (DataW H)} (hsz : (DataW.weightsEach Tryd.prog ts ds).all (· ≤ reachBytes) = true) (htj : ts[j]? = some 46) (hdj : ds[j]? = some x.1)
    (h : DataW.trod enc Tryd.prog w base spare held fuel 46 cs = some x) : ∃ (A : Option Addr) (cap : Nat) (os : List OP), cs = [.slice A os.length cap] ∧ os.length ≤ cap ∧ Ops w A os := by
  rcases Go.Deep.open_slice (P := Tryd.prog) Tryd.underlying46 h with ⟨rfl, rfl⟩ | ⟨a, len, cap, m, n, D, Pl, rfl, hb, hl, hm, hmm, rfl, hx⟩
  · exact ⟨none, 0, [], rfl, Nat.le_refl _, by simp, fun j o h => by simp at h⟩
  · have hlm : len ≤ m := by rw [hmm]; split <;> omega
    have hcells : Tryd.prog.cellsOf 48 = 4 := by kernel_rfl
    have each : ∀ i, i < len → ∃ o : OP, OpOk w o ∧ opAt w (a.add (i * 4)) o := by
      intro i hi
      obtain ⟨cs', h1, h2⟩ := hx i (by omega)
      rw [hcells] at h1
      obtain ⟨_, hlen, hcell⟩ := World.cells?_some h1
      obtain ⟨xs, k, hk, hxy, _, hxl, hf⟩ := DataW.trod_struct Tryd.underlying48 h2
      match xs, hxl, cs', hlen with
      | [y0, y1, y2, y3], _, [v0, v1, v2, v3], _ =>
        have g0 := hf 0 _ rfl
        have g1 := hf 1 _ rfl
        have g2 := hf 2 _ rfl
        have g3 := hf 3 _ rfl
        have c3 : Tryd.prog.cellsOf 3 = 1 := by kernel_rfl
        have c4 : Tryd.prog.cellsOf 4 = 1 := by kernel_rfl
        have c32 : Tryd.prog.cellsOf 32 = 1 := by kernel_rfl
        simp [c3, c4, c32] at g0 g1 g2 g3
        have e0 := hcell 0 (by omega)
        have e1 := hcell 1 (by omega)
        have e2 := hcell 2 (by omega)
        have e3 := hcell 3 (by omega)
        rw [Go.Deep.add_add] at e0 e1 e2 e3
        obtain ⟨z0, q0, _, r0⟩ := DataW.trod_int (by exact Tryd.underlying3) g0
        obtain ⟨z1, q1, _, r1⟩ := DataW.trod_int (by exact Tryd.underlying3) g1
        obtain ⟨z2, q2, _⟩ := DataW.trod_bool (by exact Tryd.underlying4) g2
        simp only [Prod.mk.injEq] at hxy
        have hD : D i = .agg [y0.1, y1.1, y2.1, y3.1] := by simpa using hxy.1
        have hmem : ∀ n ∈ y3.1.weights Tryd.prog 32, n ≤ reachBytes := by
          intro n hn
          have hw := weights_all (P := Tryd.prog) (e := 48) (ds := (List.range len).map D) (List.mem_map.2 ⟨i, List.mem_range.2 hi, rfl⟩) n (by rw [hD]; exact op_weights _ _ _ _ n hn)
          have := List.all_eq_true.1 hsz n (DataW.weights_mem_each htj hdj n (by simp only [DataW.weights, Tryd.underlying46]; simp only [List.mem_cons, List.mem_append]; exact .inr (.inl hw)))
          simpa using this
        obtain ⟨B, cap', l, q3, hC, hS⟩ := open_fieldsW hmem g3
        obtain rfl : v0 = .int .i64 z0 := by simpa using q0
        obtain rfl : v1 = .int .i64 z1 := by simpa using q1
        obtain rfl : v2 = .bool z2 := by simpa using q2
        obtain rfl : v3 = .slice B l.length cap' := by simpa using q3
        refine ⟨⟨z0, z1, z2, B, cap', l⟩, ⟨hS, hC, wf_in r0, wf_in r1⟩, ?_, ?_, ?_, ?_⟩
        · simpa using e0
        · rw [← add_off a (i * 4) 1 (by decide)]
          simpa using e1
        · rw [← add_off a (i * 4) 2 (by decide)]
          simpa using e2
        · rw [← add_off a (i * 4) 3 (by decide)]
          simpa using e3
    have : Inhabited OP := ⟨⟨0, 0, false, none, 0, []⟩⟩
    obtain ⟨Y, hY⟩ := Go.Deep.choose_lt each
    have hlen : ((List.range len).map Y).length = len := by simp
    refine ⟨some a, cap, (List.range len).map Y, by rw [hlen], by rw [hlen]; exact hl, ?_, fun j o ho => ?_⟩
    · have := List.all_eq_true.1 hsz _ (DataW.weights_mem_each htj hdj _ (by simp only [DataW.weights, Tryd.underlying46]; exact List.mem_cons_self))
      have h2 := of_decide_eq_true this
      rw [bytes48, List.length_map, List.length_range] at h2
      rw [hlen]
      unfold maxLen at hm
      have hr := reachBytes_lt
      omega
    · have hi : j < len := by rw [← hlen]; exact (List.getElem?_eq_some_iff.1 ho).1
      rw [List.getElem?_map, List.getElem?_range hi] at ho
      obtain rfl := Option.some.inj ho
      exact ⟨(hY j hi).1, a, rfl, (hY j hi).2⟩
end
end Go.Proofs.YtififgiicpdndaaDoor.Fw
