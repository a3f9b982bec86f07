/- A request that came in: opened; message.Right, Light: contracts. -/
import Derived.Test.YtififgiicpdndaaDoorMsgO
import Derived.Test.YtififgiicpdndaaDoorRows
namespace Go.Proofs.YtififgiicpdndaaDoor.Fw
open Go.ChangeShapes Go.WideShapes Go.RowKit Go.Proofs.YtififgiicpdndaaDoor.XMi Go.Proofs.YtififgiicpdndaaDoorW.PrintWords Go.Proofs.YtififgiicpdndaaDoorW.PrintLast Go.Proofs.YtififgiicpdndaaDoorW.PrintMore Go.Proofs.YtififgiicpdndaaDoor.Ms Go.Proofs.YtififgiicpdndaaDoor.Ob
section
variable {H : Type} {enc : TypeId × Value → H} {w : World} {base : Nat} {spare : Nat → Bool} {held : Bool}
theorem bulk_one (d : DataW H) : 1 ≤ Rows.uptoBulk d := by
  cases d with
  | lit l => cases l <;> simp [Rows.uptoBulk]
  | nil => simp [Rows.uptoBulk]
  | ptr d => simp [Rows.uptoBulk]
  | slice elems spare => simp [Rows.uptoBulk]
  | agg parts => simp [Rows.uptoBulk]
  | iface t d => simp [Rows.uptoBulk]
  | map entries => simp [Rows.uptoBulk]
  | held h => simp [Rows.uptoBulk]
theorem bulk_at {ds : List (DataW H)} {j : Nat} {d : DataW H} (h : Rows.uptoSmall H ds = true) (hd : ds[j]? = some d) : Rows.uptoBulk d ≤ 1048576 := by
  have hk : Rows.uptoBulkAll ds ≤ 1048576 := of_decide_eq_true h
  have hm : ∀ (l : List (DataW H)) (i : Nat), l[i]? = some d → Rows.uptoBulk d ≤ Rows.uptoBulkAll l := by
    intro l
    induction l with
    | nil => intro i h; simp at h
    | cons x l ih =>
      intro i h
      cases i with
      | zero =>
        obtain rfl := Option.some.inj h
        simp only [Rows.uptoBulkAll]
        omega
      | succ i =>
        have := ih i (by simpa using h)
        simp only [Rows.uptoBulkAll]
        omega
  exact Nat.le_trans (hm ds j hd) hk
theorem bulk_fields : ∀ (l : List S30) (D : List (DataW H)), D = l.map (fun y => DataW.agg [.lit (.string y.f0.data.toList), .lit (.string y.f1.data.toList)]) → 3 * l.length + tot l ≤ Rows.uptoBulkAll D
  | [], D, h => by simp [tot]
  | y :: l, D, h => by
    subst h
    have ih := bulk_fields l _ rfl
    simp only [List.map_cons, Rows.uptoBulkAll, Rows.uptoBulk, tot, List.length_cons, Array.length_toList] at ih ⊢
    have e0 : y.f0.data.size = y.f0.size := rfl
    have e1 : y.f1.data.size = y.f1.size := rfl
    omega
/-- A slice of fields with its bulk. -/
theorem open_fieldsB {fuel : Nat} {cs : List Value} {x : DataW H × List MemPlace} (hsz : ∀ n ∈ x.1.weights Tryd.prog 32, n ≤ reachBytes) (h : DataW.trod enc Tryd.prog w base spare held fuel 32 cs = some x) :
    ∃ (A : Option Addr) (cap : Nat) (l : List S30), cs = [.slice A l.length cap] ∧ k30.C w A l.length l ∧ Small l cap ∧ 3 * l.length + tot l ≤ Rows.uptoBulk x.1 := by
  obtain ⟨A, cap, l, hcs, hC, hS⟩ := open_fieldsW hsz h
  refine ⟨A, cap, l, hcs, hC, hS, ?_⟩
  rcases Go.Deep.open_slice_pairs (P := Tryd.prog) Tryd.underlying32 Tryd.underlying30 (by kernel_rfl) rfl rfl (by kernel_rfl) (by kernel_rfl) h with ⟨rfl, rfl⟩ | ⟨a, len, cap', m, n, V0, V1, D0, D1, P0, P1, rfl, hb, hl, hm, hmm, rfl, hx⟩
  · obtain ⟨_, rfl, _⟩ : A = none ∧ l = [] ∧ cap = 0 := by simpa using hcs.symm
    simp [tot]
  · have hlm : len ≤ m := by rw [hmm]; split <;> omega
    have e : some a = A ∧ len = l.length ∧ cap' = cap := by simpa using hcs
    obtain ⟨rfl, rfl, rfl⟩ := e
    have hd : (List.range l.length).map (fun i => DataW.agg [D0 i, D1 i]) = l.map (fun y => DataW.agg [.lit (.string y.f0.data.toList), .lit (.string y.f1.data.toList)]) := by
      apply List.ext_getElem
      · simp
      · intro i h1 h2
        have hi : i < l.length := by simpa using h2
        simp only [List.getElem_map, List.getElem_range]
        obtain ⟨c0, c1, h0, h1'⟩ := hx i (by omega)
        obtain ⟨s0, e0, g0, _⟩ := DataW.trod_string (by exact Tryd.underlying9) h0
        obtain ⟨s1, e1, g1, _⟩ := DataW.trod_string (by exact Tryd.underlying9) h1'
        have e0' : V0 i = .string s0 := by simpa using e0
        have e1' : V1 i = .string s1 := by simpa using e1
        have g0' : D0 i = .lit (.string s0.data.toList) := by simpa using congrArg Prod.fst g0
        have g1' : D1 i = .lit (.string s1.data.toList) := by simpa using congrArg Prod.fst g1
        obtain ⟨ad, ea, k0, k1⟩ := elem_at hC (Below.refl _ _) i hi
        cases ea
        rw [e0', k0] at c0
        have hz : a.add (i * 2 + 1) = ⟨(a.add (i * 2)).block, (a.add (i * 2)).off + 1, none⟩ := add_off a (i * 2) 1 (by decide)
        rw [hz, k1, e1'] at c1
        have q0 : l[i].f0 = s0 := by simpa using c0
        have q1 : l[i].f1 = s1 := by simpa using c1
        rw [g0', g1', q0, q1]
    have := bulk_fields l _ rfl (H := H)
    rw [← hd] at this
    simp only [Rows.uptoBulk]
    omega
theorem array7 {α : Type} {cs : Array α} (h : cs.size = 7) : ∃ c0 c1 c2 c3 c4 c5 c6, cs = #[c0, c1, c2, c3, c4, c5, c6] := by
  obtain ⟨l⟩ := cs
  match l, h with
  | [c0, c1, c2, c3, c4, c5, c6], _ => exact ⟨c0, c1, c2, c3, c4, c5, c6, rfl⟩
theorem rq_weights4 (d0 d1 d2 d3 d4 d5 d6 : DataW H) : ∀ n ∈ d4.weights Tryd.prog 32, n ∈ (DataW.agg [d0, d1, d2, d3, d4, d5, d6] : DataW H).weights Tryd.prog 34 := by
  intro n hn
  simp only [DataW.weights, Tryd.underlying34]
  simp only [DataW.weightsEach, List.map_cons, List.map_nil, List.mem_append]
  exact .inr (.inr (.inr (.inr (.inl hn))))
theorem rq_weights6 (d0 d1 d2 d3 d4 d5 d6 : DataW H) : ∀ n ∈ d6.weights Tryd.prog 32, n ∈ (DataW.agg [d0, d1, d2, d3, d4, d5, d6] : DataW H).weights Tryd.prog 34 := by
  intro n hn
  simp only [DataW.weights, Tryd.underlying34]
  simp only [DataW.weightsEach, List.map_cons, List.map_nil, List.mem_append]
  exact .inr (.inr (.inr (.inr (.inr (.inr (.inl hn))))))
/-- What the bulk of a request leaves. -/
structure RqOk (w : World) (q : RQ) (Bf : Option Addr) (bf : Nat) (Bt : Option Addr) (bt : Nat) : Prop where
  cf : k30.C w Bf q.fs.length q.fs
  ct : k30.C w Bt q.ts.length q.ts
  lf : q.fs.length ≤ bf
  lt : q.ts.length ≤ bt
  all : q.m.size + q.sc.size + q.au.size + q.pa.size + q.body.size + (3 * q.fs.length + tot q.fs) + (3 * q.ts.length + tot q.ts) ≤ 1048576
set_option maxRecDepth 20000 in
theorem open_request {r : Reach} {b0 j : Nat} {v : Value} {d : DataW H} {p : List MemPlace} {ts : List TypeId} {ds : List (DataW H)} (hsz : (DataW.weightsEach Tryd.prog ts ds).all (· ≤ reachBytes) = true) (htj : ts[j]? = some 34) (hdj : ds[j]? = some d)
    (hk : Rows.uptoBulk d ≤ 1048576) (hv : Value.okWide Tryd.prog w r b0 34 v) (h : DataW.Trod enc Tryd.prog w base spare held 34 v d p) :
    ∃ (q : RQ) (Bf : Option Addr) (bf : Nat) (Bt : Option Addr) (bt : Nat), v = rqV q Bf bf Bt bt ∧ RqOk w q Bf bf Bt bt := by
  obtain ⟨cs, rfl, hcs⟩ := okWide_struct Tryd.underlying34 hv
  have c34 : Tryd.prog.cellsOf 34 = 7 := by kernel_rfl
  rw [c34] at hcs
  obtain ⟨c0, c1, c2, c3, c4, c5, c6, rfl⟩ := array7 hcs
  obtain ⟨fuel, hf⟩ := h
  obtain ⟨xs, k, _, hxy, _, hxl, hg⟩ := DataW.trod_struct Tryd.underlying34 hf
  match xs, hxl with
  | [y0, y1, y2, y3, y4, y5, y6], _ =>
    have g0 := hg 0 _ rfl
    have g1 := hg 1 _ rfl
    have g2 := hg 2 _ rfl
    have g3 := hg 3 _ rfl
    have g4 := hg 4 _ rfl
    have g5 := hg 5 _ rfl
    have g6 := hg 6 _ rfl
    have c9 : Tryd.prog.cellsOf 9 = 1 := by kernel_rfl
    have c32 : Tryd.prog.cellsOf 32 = 1 := by kernel_rfl
    simp [c9, c32, Value.cells] at g0 g1 g2 g3 g4 g5 g6
    obtain ⟨s0, q0, z0, _⟩ := DataW.trod_string (by exact Tryd.underlying9) g0
    obtain ⟨s1, q1, z1, _⟩ := DataW.trod_string (by exact Tryd.underlying9) g1
    obtain ⟨s2, q2, z2, _⟩ := DataW.trod_string (by exact Tryd.underlying9) g2
    obtain ⟨s3, q3, z3, _⟩ := DataW.trod_string (by exact Tryd.underlying9) g3
    obtain ⟨s5, q5, z5, _⟩ := DataW.trod_string (by exact Tryd.underlying9) g5
    simp only [Prod.mk.injEq] at hxy
    have hD : d = .agg [y0.1, y1.1, y2.1, y3.1, y4.1, y5.1, y6.1] := by simpa using hxy.1
    have hmem : ∀ n ∈ d.weights Tryd.prog 34, n ≤ reachBytes := fun n hn => by
      have := List.all_eq_true.1 hsz n (DataW.weights_mem_each htj hdj n hn)
      simpa using this
    rw [hD] at hmem
    obtain ⟨Bf, bf, fs, q4, hC4, hS4, hk4⟩ := open_fieldsB (fun n hn => hmem n (rq_weights4 _ _ _ _ _ _ _ n hn)) g4
    obtain ⟨Bt, bt, tl, q6, hC6, hS6, hk6⟩ := open_fieldsB (fun n hn => hmem n (rq_weights6 _ _ _ _ _ _ _ n hn)) g6
    obtain rfl : c0 = .string s0 := by simpa using q0
    obtain rfl : c1 = .string s1 := by simpa using q1
    obtain rfl : c2 = .string s2 := by simpa using q2
    obtain rfl : c3 = .string s3 := by simpa using q3
    obtain rfl : c5 = .string s5 := by simpa using q5
    obtain rfl : c4 = .slice Bf fs.length bf := by simpa using q4
    obtain rfl : c6 = .slice Bt tl.length bt := by simpa using q6
    refine ⟨⟨s0, s1, s2, s3, fs, s5, tl⟩, Bf, bf, Bt, bt, rfl, hC4, hC6, hS4.cap, hS6.cap, ?_⟩
    rw [hD, z0, z1, z2, z3, z5] at hk
    simp only [Rows.uptoBulk, Rows.uptoBulkAll, Array.length_toList] at hk
    have e0 : s0.data.size = s0.size := rfl
    have e1 : s1.data.size = s1.size := rfl
    have e2 : s2.data.size = s2.size := rfl
    have e3 : s3.data.size = s3.size := rfl
    have e5 : s5.data.size = s5.size := rfl
    show s0.size + s1.size + s2.size + s3.size + s5.size + (3 * fs.length + tot fs) + (3 * tl.length + tot tl) ≤ 1048576
    omega
end
end Go.Proofs.YtififgiicpdndaaDoor.Fw
