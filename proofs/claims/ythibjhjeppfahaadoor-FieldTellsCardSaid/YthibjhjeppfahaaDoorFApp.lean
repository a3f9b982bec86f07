/- A row of fields of one's own, and what is appended to it. -/
import Derived.Test.YthibjhjeppfahaaDoorFRows
import Derived.Maps.AppendAt
import Derived.Deep.AppendLies
import Derived.Laws.Append
namespace Go.Proofs.YthibjhjeppfahaaDoor.Fw
open Go.RowKit Go.Proofs.YthibjhjeppfahaaDoor.XFi Go.Proofs.YthibjhjeppfahaaDoorW.PrintWords Go.Proofs.YthibjhjeppfahaaDoorW.PrintLast Go.Proofs.YthibjhjeppfahaaDoorW.PrintMore Go.Proofs.YthibjhjeppfahaaDoor.Ms
theorem cells_of_heap {w : World} {g : Nat} {cs : Array Value} {t : TypeId} (h : w.heap[g]? = some (.cells cs t (0, 0))) (i : Nat) (v : Value) (hv : cs[i]? = some v) : w.cell? ⟨g, i, none⟩ = some v := by
  unfold World.cell?
  rw [show (⟨g, i, none⟩ : Addr).block = g from rfl, h]
  exact hv
/-- A row of fields of one's own: it begins at its block's start, and the block is not below 'base'. -/
def FR (w : World) (base : Nat) (A : Option Addr) (n c : Nat) (l : List S26) : Prop := n = l.length ∧ w.ownsRow base 26 2 (.slice A n c) n (fcells l)
theorem FR.nil (w : World) (base : Nat) : FR w base none 0 0 [] := ⟨rfl, World.ownsRow_nil w base 26 2⟩
theorem FR.c {w : World} {base n c : Nat} {A : Option Addr} {l : List S26} (h : FR w base A n c l) (hl : l.length ≤ 1000000000) : k26.C w A n l ∧ n ≤ c := by
  obtain ⟨rfl, h1, h2⟩ := h
  rcases h2 with ⟨e, h0⟩ | ⟨g, cap, cur, e, hb, hh, hnc, hcm, hcs, ht⟩
  · injection e with e1 e2 e3
    subst e1; subst e3
    obtain rfl : l = [] := List.eq_nil_of_length_eq_zero h0
    exact ⟨⟨rfl, Nat.zero_le _, fun h => absurd h (Nat.lt_irrefl _)⟩, Nat.zero_le _⟩
  · injection e with e1 e2 e3
    subst e1; subst e3
    exact ⟨flds_of hh [] l (cur.toList.drop (l.length * 2)) (by rw [← ht]; simp [List.take_append_drop]) hl, hnc⟩
theorem FR.step {w w' : World} {base n c : Nat} {A : Option Addr} {l : List S26} (h : FR w base A n c l) (hb : Below w.heap.size w w') : FR w' base A n c l := by
  obtain ⟨rfl, h1, h2⟩ := h
  refine ⟨rfl, h1, ?_⟩
  rcases h2 with h2 | ⟨g, cap, cur, e, hbg, hh, hr⟩
  · exact .inl h2
  · exact .inr ⟨g, cap, cur, e, hbg, (hb.block g (blk_lt hh)).trans hh, hr⟩
theorem FR.alloc {w : World} {base n c : Nat} {A : Option Addr} {l : List S26} (h : FR w base A n c l) (o : Obj) : FR (w.alloc o) base A n c l := h.step (Below.alloc (Below.refl _ _) (Nat.le_refl _) o)
theorem FR.drew {w : World} {base n c : Nat} {A : Option Addr} {l : List S26} (h : FR w base A n c l) : FR w.drew base A n c l := h
theorem fcells_one : ∀ l : List S26, ∀ v ∈ fcells l, v.oneCell' = true
  | [], v, h => by cases h
  | x :: l, v, h => by
    simp only [fcells, List.mem_cons] at h
    rcases h with rfl | rfl | h
    · rfl
    · rfl
    · exact fcells_one l v h
theorem fcells_at : ∀ (l : List S26) (j : Nat) (u : Value), (fcells l)[j]? = some u → ∃ (q : Nat) (x : S26), l[q]? = some x ∧ (j = q * 2 ∧ u = .string x.f0 ∨ j = q * 2 + 1 ∧ u = .string x.f1)
  | [], j, u, h => by simp [fcells] at h
  | x :: l, 0, u, h => by
    obtain rfl := Option.some.inj h
    exact ⟨0, x, rfl, .inl ⟨rfl, rfl⟩⟩
  | x :: l, 1, u, h => by
    obtain rfl := Option.some.inj h
    exact ⟨0, x, rfl, .inr ⟨rfl, rfl⟩⟩
  | x :: l, j + 2, u, h => by
    obtain ⟨q, y, h1, h2⟩ := fcells_at l j u (by simpa [fcells] using h)
    refine ⟨q + 1, y, by simpa using h1, ?_⟩
    rcases h2 with ⟨rfl, h2⟩ | ⟨rfl, h2⟩
    · exact .inl ⟨by omega, h2⟩
    · exact .inr ⟨by omega, h2⟩
theorem c_cells {w : World} {ad : Addr} {m : Nat} {k : List S26} (hC : k26.C w (some ad) m k) : ∀ j u, (fcells k)[j]? = some u → w.cell? (ad.add j) = some u := by
  intro j u hj
  obtain ⟨q, x, hq, hu⟩ := fcells_at k j u hj
  have hql : q < k.length := (List.getElem?_eq_some_iff.1 hq).1
  have hm : m = k.length := hC.1.symm
  obtain ⟨ad', e, h0, h1⟩ := at_T26 hC (q : Int) (by omega) (by omega)
  obtain rfl := Option.some.inj e
  have hx : rd_T26 k (q : Int) = x := by simp [rd_T26, hq]
  rw [hx, Int.toNat_natCast] at h0 h1
  rcases hu with ⟨rfl, rfl⟩ | ⟨rfl, rfl⟩
  · exact h0
  · rw [← h1]
    congr 1
    unfold Addr.add
    repeat' split
    all_goals first | rfl | omega | (simp_all; done) | (simp_all; omega)
theorem app_run {w w0 : World} {base : Nat} {A B : Option Addr} {n c m d : Nat} {l k : List S26} (ty : TypeId) (h : FR w base A n c l) (hC : k26.C w B m k) (hl : l.length + k.length ≤ 1000000) (hbase : base ≤ w.heap.size) (hb : Below base w0 w) :
    ∃ A' c' w', (Builtin.append_ #[27, 27] ty #[.slice A n c, .slice B m d]).run Tryd.prog w = .ok (.slice A' (n + m) c') w' ∧ FR w' base A' (n + m) c' (l ++ k) ∧ Below base w0 w' ∧ w.grownBy w' (Value.ownBlock (.slice A n c)) := by
  obtain ⟨i, hi, hz, hs, hby⟩ := info_parts info26
  have hm : m = k.length := hC.1.symm
  subst hm
  obtain ⟨rfl, hown⟩ := h
  cases B with
  | none =>
    have hk : k = [] := by
      rcases Nat.eq_zero_or_pos k.length with h | h
      · exact List.eq_nil_of_length_eq_zero h
      · obtain ⟨ad, e, _⟩ := hC.2.2 h
        cases e
    subst hk
    have hn : (Builtin.append_ #[27, 27] ty #[.slice A l.length c, .slice none 0 d]).run Tryd.prog w = .ok (.slice A l.length c) w := by
      have hle : l.length ≤ c := (FR.c ⟨rfl, hown⟩ (by omega)).2
      cases A <;> simp [Builtin.append_, run_underlying Tryd.underlying27, sizeOf, typeInfo, hi, Builtin.lenOf, Builtin.firstCells, loadCells, storeCells, hle]
    exact ⟨A, c, w, hn, ⟨by simp, by simpa using hown⟩, hb, rfl, rfl, rfl, Nat.le_refl _, fun _ _ _ => rfl⟩
  | some ad =>
    have hmx : maxLen = 9223372036854775807 := rfl
    obtain ⟨v', w', hr, ho, hg, hnil, hat⟩ := run_append_own_at (P := Tryd.prog) w base 27 ty 26 i (.agg #[.string ⟨#[]⟩, .string ⟨#[]⟩]) 2 32 Tryd.underlying27 hi hz hs hby rfl (by decide) (.slice A l.length c) l.length (fcells l) hown ad k.length d (fcells k) (fcells_len k) (c_cells hC) (fcells_one k) (by omega) (by omega) hbase
    obtain ⟨A', c', rfl⟩ : ∃ A' c', v' = .slice A' (l.length + k.length) c' := by
      rcases ho.2 with ⟨rfl, h0⟩ | ⟨g, cap, cur, rfl, _⟩
      · exact ⟨none, 0, by rw [h0]⟩
      · exact ⟨_, _, rfl⟩
    refine ⟨A', c', w', hr, ⟨by simp, by rw [fcells_append]; exact ho⟩, hb.grown hg hbase fun g hg => ?_, hg⟩
    rcases hown.2 with ⟨e, _⟩ | ⟨g', cap, cur, e, hbg, _⟩
    · rw [e] at hg; cases hg
    · rw [e] at hg
      obtain rfl : g' = g := by simpa [Value.ownBlock] using hg
      exact hbg
theorem wp_app {o : Oper} {a : Act} {K : Act → World → Prop} {Q : Exit → Act → World → Prop} {w : World} (s x : Operand) (ho : o.op = .call { callee := .builtin .append, args := #[s, x], argTypes := #[27, 27] })
    (w0 : World) (base : Nat) (A B : Option Addr) (n c m d : Nat) (l k : List S26) (hs : a.eval s = .slice A n c) (hx : a.eval x = .slice B m d) (h : FR w base A n c l) (hC : k26.C w B m k) (hl : l.length + k.length ≤ 1000000) (hbase : base ≤ w.heap.size) (hb : Below base w0 w)
    (hK : ∀ A' c' w', FR w' base A' (n + m) c' (l ++ k) → Below base w0 w' → w.grownBy w' (Value.ownBlock (.slice A n c)) → K (a.put o.dst (.slice A' (n + m) c')) w') : o.wp Tryd.prog a w K Q := by
  obtain ⟨A', c', w', hr, h1, h2, h3⟩ := app_run o.type h hC (d := d) hl hbase hb
  unfold Oper.wp execOp
  simp only [ho, resolve, invoke, builtin, Sem.run_bind, Sem.run_pure, Result.andThen_ok, List.map_toArray, List.map_cons, List.map_nil, hs, hx, hr]
  exact hK A' c' w' h1 h2 h3
/-- At a plain region's list. -/
theorem list_app {ops : Array Oper} {rest : List Oper} {o : Oper} {a : Act} {Q : Exit → Act → World → Prop} {w : World} (hgd : o.guard = none) (s x : Operand) (ho : o.op = .call { callee := .builtin .append, args := #[s, x], argTypes := #[27, 27] })
    (w0 : World) (base : Nat) (A B : Option Addr) (n c m d : Nat) (l k : List S26) (hs : a.eval s = .slice A n c) (hx : a.eval x = .slice B m d) (h : FR w base A n c l) (hC : k26.C w B m k) (hl : l.length + k.length ≤ 1000000) (hbase : base ≤ w.heap.size) (hb : Below base w0 w)
    (hK : ∀ A' c' w', FR w' base A' (n + m) c' (l ++ k) → Below base w0 w' → w.grownBy w' (Value.ownBlock (.slice A n c)) → wpList Tryd.prog ops Q rest (a.put o.dst (.slice A' (n + m) c')) w') : wpList Tryd.prog ops Q (o :: rest) a w :=
  wpList_plain hgd fun _ hp => wp_app s x ho w0 base A B n c m d l k hs hx h hC hl hbase hb fun A' c' w' h1 h2 h3 => hp _ _ (hK A' c' w' h1 h2 h3)
/-- At a plain region's list, an operation that a guard lets through. -/
theorem print_app_g {ops : Array Oper} {rest : List Oper} {o : Oper} {a : Act} {Q : Exit → Act → World → Prop} {w : World} (hw : Region.wanted o (yielded ops a.tmps) = true) (s x : Operand) (ho : o.op = .call { callee := .builtin .append, args := #[s, x], argTypes := #[27, 27] })
    (w0 : World) (base : Nat) (A B : Option Addr) (n c m d : Nat) (l k : List S26) (hs : a.eval s = .slice A n c) (hx : a.eval x = .slice B m d) (h : FR w base A n c l) (hC : k26.C w B m k) (hl : l.length + k.length ≤ 1000000) (hbase : base ≤ w.heap.size) (hb : Below base w0 w)
    (hK : ∀ A' c' w', FR w' base A' (n + m) c' (l ++ k) → Below base w0 w' → w.grownBy w' (Value.ownBlock (.slice A n c)) → wpList Tryd.prog ops Q rest (a.put o.dst (.slice A' (n + m) c')) w') : wpList Tryd.prog ops Q (o :: rest) a w := by
  refine wpList_step fun K hp => ?_
  rw [if_pos hw]
  exact wp_app s x ho w0 base A B n c m d l k hs hx h hC hl hbase hb fun A' c' w' h1 h2 h3 => hp _ _ (hK A' c' w' h1 h2 h3)
/-- At a step of a region that draws. -/
theorem step_app {ops : Array Oper} {o : Oper} {a : Act} {K : Act → World → Prop} {Q : Exit → Act → World → Prop} {E : Prop} {w : World} (hw : Region.wanted o (yielded ops a.tmps) = true) (s x : Operand) (ho : o.op = .call { callee := .builtin .append, args := #[s, x], argTypes := #[27, 27] })
    (w0 : World) (base : Nat) (A B : Option Addr) (n c m d : Nat) (l k : List S26) (hs : a.eval s = .slice A n c) (hx : a.eval x = .slice B m d) (h : FR w base A n c l) (hC : k26.C w B m k) (hl : l.length + k.length ≤ 1000000) (hbase : base ≤ w.heap.size) (hb : Below base w0 w)
    (hK : ∀ A' c' w', FR w' base A' (n + m) c' (l ++ k) → Below base w0 w' → w.grownBy w' (Value.ownBlock (.slice A n c)) → K (a.put o.dst (.slice A' (n + m) c')) w') :
    if Region.wanted o (yielded ops a.tmps) = true then Oper.wp Tryd.prog o a w K Q else E := by
  rw [if_pos hw]
  exact wp_app s x ho w0 base A B n c m d l k hs hx h hC hl hbase hb hK
theorem c_grown {w w' : World} {row : Option Nat} {b : Nat} {cs : Array Value} {l : List S26} (hh : w.heap[b]? = some (.cells cs 26 (0, 0))) (hg : w.grownBy w' row) (hr : row ≠ some b) (hl : l.length ≤ 1000000000) (e : cs.toList = fcells l) : k26.C w' (some ⟨b, 0, none⟩) l.length l :=
  flds_of ((hg.block b (blk_lt hh) (fun h => hr h.symm)).trans hh) [] l [] (by rw [e]; simp) hl
end Go.Proofs.YthibjhjeppfahaaDoor.Fw
