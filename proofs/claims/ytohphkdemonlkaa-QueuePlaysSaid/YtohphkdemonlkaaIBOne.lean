/- Merged: BiA BiN BiB BiS BiF BiG BiP BiW BiX BiY BiK. -/
import Derived.Test.YtohphkdemonlkaaXQtx
import Derived.Test.YtohphkdemonlkaaObj
import Derived.Maps.AppendAt
import Derived.Deep.AppendLies
import Derived.Laws.Append
import Derived.Laws.OwnMore
import Derived.Deep.RegionLaw
/- The Book's memory: rows of ints, rows of rows of ints; what an append leaves. -/
namespace Go.Proofs.Ytohphkdemonlkaa.Bi
open Go.RowKit Go.Proofs.Ytohphkdemonlkaa.XQt Go.Proofs.YtohphkdemonlkaaW.PrintWords Go.Proofs.YtohphkdemonlkaaW.PrintLast Go.Proofs.YtohphkdemonlkaaW.PrintMore Go.Proofs.Ytohphkdemonlkaa.Ob
theorem infoFd : (Try.prog.info? 3).map (fun i => (i.zero, i.size, i.bytes)) = some (some (.int .i64 0), 1, 8) := by kernel_rfl
theorem infoRow : (Try.prog.info? 33).map (fun i => (i.zero, i.size, i.bytes)) = some (some (.slice none 0 0), 1, 24) := by kernel_rfl
theorem cells_of_heap {w : World} {g : Nat} {cs : Array Value} {t : TypeId} (h : w.heap[g]? = some (.cells cs t (0, 0))) (i : Nat) (v : Value) (hv : cs[i]? = some v) : w.cell? ⟨g, i, none⟩ = some v := by
  unfold World.cell?
  rw [show (⟨g, i, none⟩ : Addr).block = g from rfl, h]
  exact hv
theorem heap_put {w : World} {g : Nat} {cur : Array Value} {t : TypeId} {fr : Nat × Nat} (h : w.heap[g]? = some (.cells cur t fr)) (i : Nat) (v : Value) (hi : i < cur.size) : (w.setCell ⟨g, i, none⟩ v).heap[g]? = some (.cells (cur.set i v hi) t fr) := by
  simp only [World.setCell, Array.getElem?_modify, if_pos, h]
  simp [Array.setIfInBounds, hi]
theorem cell_own {w : World} {g i : Nat} {cur : Array Value} {t : TypeId} (h : w.heap[g]? = some (.cells cur t (0, 0))) (hi : i < cur.size) : ∃ u, w.cell? ⟨g, i, none⟩ = some u ∧ w.frozen? ⟨g, i, none⟩ = false := by
  refine ⟨cur[i], cells_of_heap h i _ (Array.getElem?_eq_getElem hi), ?_⟩
  simp [World.frozen?, h]
abbrev kI : Kd Int := Kd.int .i64
def icells (l : List Int) : List Value := l.map fun x => .int .i64 x
theorem icells_len (l : List Int) : (icells l).length = l.length * 1 := by simp [icells]
theorem icells_get (l : List Int) (j : Nat) (p : Int) (h : l[j]? = some p) : (icells l)[j * 1]? = some (.int .i64 p) := by
  rw [Nat.mul_one]
  unfold icells
  rw [List.getElem?_map, h]
  rfl
theorem icells_append (a b : List Int) : icells (a ++ b) = icells a ++ icells b := by simp [icells]
theorem icells_take (l : List Int) (i : Nat) : (icells l).take (i * 1) = icells (l.take i) := by simp [icells, List.map_take]
theorem icells_set (l : List Int) (k : Nat) (x : Int) : (icells l).set (k * 1) (.int .i64 x) = icells (l.set k x) := by simp [icells, List.map_set]
theorem icells_one (l : List Int) : ∀ v ∈ icells l, v.oneCell' = true := fun v h => by
  unfold icells at h
  obtain ⟨x, _, rfl⟩ := List.mem_map.1 h
  rfl
theorem icells_at (l : List Int) (j : Nat) (u : Value) (h : (icells l)[j]? = some u) : ∃ x : Int, l[j]? = some x ∧ u = .int .i64 x := by
  unfold icells at h
  rw [List.getElem?_map] at h
  cases hx : l[j]? with
  | none => rw [hx] at h; cases h
  | some x =>
    rw [hx] at h
    exact ⟨x, rfl, (Option.some.inj h).symm⟩
/-- A row of ints that lies in a block. -/
theorem flds_of {w : World} {b : Nat} {cs : Array Value} {t : TypeId} {fr : Nat × Nat} (hh : w.heap[b]? = some (.cells cs t fr)) (pre : List Value) (l : List Int) (post : List Value) (e : cs.toList = pre ++ (icells l ++ post)) (hl : l.length ≤ 1000000000) : kI.C w (some ⟨b, pre.length, none⟩) l.length l := by
  refine ⟨rfl, by omega, fun _ => ⟨_, rfl, fun j p hp => ⟨[.int .i64 p], rfl, rfl, fun i u hu => ?_⟩⟩⟩
  have hj : j < l.length := (List.getElem?_eq_some_iff.1 hp).1
  cases i with
  | succ i => simp at hu
  | zero =>
    obtain rfl := Option.some.inj hu
    have h0 := icells_get l j p hp
    have e2 : (⟨b, pre.length, none⟩ : Addr).add (j * 1 + 0) = ⟨b, pre.length + j * 1, none⟩ := by
      rw [Nat.add_zero]
      unfold Addr.add
      split
      · next h => rw [h, Nat.add_zero]
      · rfl
    show w.cell? ((⟨b, pre.length, none⟩ : Addr).add (j * 1 + 0)) = _
    rw [e2]
    unfold World.cell?
    rw [show (⟨b, pre.length + j * 1, none⟩ : Addr).block = b from rfl, hh]
    show cs[pre.length + j * 1]? = _
    rw [← Array.getElem?_toList, e, List.getElem?_append_right (by omega), List.getElem?_append_left (by rw [icells_len]; omega), ← h0]
    congr 1
    omega
/-- A row of ints of one's own: it begins at its block's start. -/
def FR (w : World) (A : Option Addr) (n c : Nat) (l : List Int) : Prop := n = l.length ∧ w.ownsRow 0 3 1 (.slice A n c) n (icells l)
/-- A row of ints that is read: it begins at its block's start. -/
def CR (w : World) (A : Option Addr) (n : Nat) (l : List Int) : Prop := n = l.length ∧ (n = 0 ∨ ∃ (g : Nat) (cs : Array Value), A = some ⟨g, 0, none⟩ ∧ w.heap[g]? = some (.cells cs 3 (0, 0)) ∧ cs.toList.take (n * 1) = icells l)
theorem CR.c {w : World} {A : Option Addr} {n : Nat} {l : List Int} (h : CR w A n l) (hl : l.length ≤ 1000000000) : kI.C w A n l := by
  obtain ⟨rfl, h0 | ⟨g, cs, rfl, hh, ht⟩⟩ := h
  · obtain rfl := List.eq_nil_of_length_eq_zero h0
    exact ⟨rfl, Nat.zero_le _, fun h => absurd h (Nat.lt_irrefl _)⟩
  · exact flds_of hh [] l (cs.toList.drop (l.length * 1)) (by rw [← ht]; simp [List.take_append_drop]) hl
theorem CR.keep {w w' : World} {A : Option Addr} {n : Nat} {l : List Int} (h : CR w A n l) (hk : ∀ g : Nat, A = some ⟨g, 0, none⟩ → g < w.heap.size → w'.heap[g]? = w.heap[g]?) : CR w' A n l := by
  obtain ⟨h1, h0 | ⟨g, cs, e, hh, ht⟩⟩ := h
  · exact ⟨h1, .inl h0⟩
  · exact ⟨h1, .inr ⟨g, cs, e, (hk g e (blk_lt hh)).trans hh, ht⟩⟩
theorem FR.nil (w : World) : FR w none 0 0 [] := ⟨rfl, World.ownsRow_nil w 0 3 1⟩
theorem FR.cases {w : World} {A : Option Addr} {n c : Nat} {l : List Int} (h : FR w A n c l) : (A = none ∧ l = [] ∧ n = 0 ∧ c = 0) ∨ ∃ (g : Nat) (cur : Array Value), A = some ⟨g, 0, none⟩ ∧ w.heap[g]? = some (.cells cur 3 (0, 0)) ∧ n ≤ c ∧ c ≤ maxLen ∧ cur.size = c * 1 ∧ cur.toList.take (n * 1) = icells l := by
  obtain ⟨rfl, h1, h2⟩ := h
  rcases h2 with ⟨e, h0⟩ | ⟨g, cap, cur, e, hb, hh, hnc, hcm, hcs, ht⟩
  · injection e with e1 e2 e3
    exact .inl ⟨e1, List.eq_nil_of_length_eq_zero h0, h0, e3⟩
  · injection e with e1 e2 e3
    subst e3
    exact .inr ⟨g, cur, e1, hh, hnc, hcm, hcs, ht⟩
theorem FR.room {w : World} {A : Option Addr} {n c : Nat} {l : List Int} (h : FR w A n c l) : n ≤ c := by
  rcases h.cases with ⟨_, _, h1, h2⟩ | ⟨_, _, _, _, h1, _⟩
  · omega
  · exact h1
theorem FR.take {w : World} {A : Option Addr} {n c : Nat} {l : List Int} (h : FR w A n c l) (k : Nat) (hk : k ≤ n) : CR w A k (l.take k) := by
  have hn := h.1
  refine ⟨by rw [List.length_take]; omega, ?_⟩
  rcases h.cases with ⟨_, _, h1, h2⟩ | ⟨g, cur, e, hh, hnc, hcm, hcs, ht⟩
  · exact .inl (by omega)
  · refine .inr ⟨g, cur, e, hh, ?_⟩
    rw [← icells_take, ← ht, List.take_take, Nat.min_eq_left (by omega)]
theorem FR.cr {w : World} {A : Option Addr} {n c : Nat} {l : List Int} (h : FR w A n c l) : CR w A n l := by
  have := h.take n (Nat.le_refl _)
  rw [h.1, List.take_length] at this
  rw [h.1]
  exact this
theorem FR.lt {w : World} {A : Option Addr} {n c : Nat} {l : List Int} (h : FR w A n c l) : ∀ g : Nat, A = some ⟨g, 0, none⟩ → g < w.heap.size := by
  intro g e
  rcases h.cases with ⟨e2, _⟩ | ⟨g', cur, e2, hh, _⟩
  · rw [e2] at e; cases e
  · rw [e2] at e
    injection e with e
    injection e with e
    subst e
    exact blk_lt hh
theorem FR.keep {w w' : World} {A : Option Addr} {n c : Nat} {l : List Int} (h : FR w A n c l) (hk : ∀ g : Nat, A = some ⟨g, 0, none⟩ → w'.heap[g]? = w.heap[g]?) : FR w' A n c l := by
  obtain ⟨rfl, h1, h2⟩ := h
  refine ⟨rfl, h1, ?_⟩
  rcases h2 with h2 | ⟨g, cap, cur, e, hbg, hh, hr⟩
  · exact .inl h2
  · refine .inr ⟨g, cap, cur, e, hbg, ?_, hr⟩
    injection e with e1 _ _
    exact (hk g e1).trans hh
theorem FR.put {w : World} {n c g : Nat} {l : List Int} (h : FR w (some ⟨g, 0, none⟩) n c l) (k : Nat) (hkl : k < l.length) (v : Int) : FR (w.setCell ⟨g, k * 1, none⟩ (.int .i64 v)) (some ⟨g, 0, none⟩) n c (l.set k v) := by
  have hn := h.1
  rcases h.cases with ⟨e, _⟩ | ⟨g', cur, e, hh, hnc, hcm, hcs, ht⟩
  · cases e
  · obtain rfl : g = g' := by injection e with e; injection e
    have hi : k * 1 < cur.size := by rw [hcs]; omega
    refine ⟨by rw [List.length_set]; exact hn, by rw [icells_len, List.length_set, hn], .inr ⟨g, c, _, rfl, Nat.zero_le _, heap_put hh _ _ hi, hnc, hcm, by rw [Array.size_set]; exact hcs, ?_⟩⟩
    rw [Array.toList_set, List.take_set, ht]
    exact icells_set l k v
theorem c_cells {w : World} {ad : Addr} {m : Nat} {k : List Int} (hC : kI.C w (some ad) m k) : ∀ j u, (icells k)[j]? = some u → w.cell? (ad.add j) = some u := by
  intro j u hj
  obtain ⟨x, hq, rfl⟩ := icells_at k j u hj
  have hql : j < k.length := (List.getElem?_eq_some_iff.1 hq).1
  have hm : m = k.length := hC.1.symm
  obtain ⟨ad', e, hx⟩ := hC.2.2 (by omega)
  obtain rfl := Option.some.inj e
  obtain ⟨cs, h1, h2, h3⟩ := hx j x hq
  obtain rfl : cs = [Value.int .i64 x] := h2
  have := h3 0 _ rfl
  rw [show j * kI.sz + 0 = j by show j * 1 + 0 = j; omega] at this
  exact this
/-- An append of ints: they fit, or the row is a new one and all else stays. -/
theorem app_run {w : World} {A B : Option Addr} {n c m d : Nat} {l k : List Int} (ty : TypeId) (h : FR w A n c l) (hC : kI.C w B m k) (hl : l.length + k.length ≤ 2000000) :
    ∃ A' c' w', (Builtin.append_ #[33, 33] ty #[.slice A n c, .slice B m d]).run Try.prog w = .ok (.slice A' (n + m) c') w' ∧ FR w' A' (n + m) c' (l ++ k) ∧ ((A' = A ∧ Stay (fun g => A = some ⟨g, 0, none⟩) w w') ∨ (A' = some ⟨w.heap.size, 0, none⟩ ∧ Below w.heap.size w w')) := by
  obtain ⟨i, hi, hz, hs, hby⟩ := info_parts infoFd
  have hmx : maxLen = 9223372036854775807 := rfl
  have hm : m = k.length := hC.1.symm
  subst hm
  have hrm := h.room
  have hcs := h.cases
  obtain ⟨rfl, hown⟩ := h
  cases B with
  | none =>
    have hk : k = [] := by
      rcases Nat.eq_zero_or_pos k.length with h | h
      · exact List.eq_nil_of_length_eq_zero h
      · obtain ⟨ad, e, _⟩ := hC.2.2 h
        cases e
    subst hk
    have hn : (Builtin.append_ #[33, 33] ty #[.slice A l.length c, .slice none 0 d]).run Try.prog w = .ok (.slice A l.length c) w := by
      cases A <;> simp [Builtin.append_, run_underlying Try.underlying33, sizeOf, typeInfo, hi, Builtin.lenOf, Builtin.firstCells, loadCells, storeCells, hrm]
    exact ⟨A, c, w, hn, ⟨by simp, by simpa using hown⟩, .inl ⟨rfl, Stay.refl _ _⟩⟩
  | some ad =>
    obtain ⟨v', w', hr, ho, hg, hnil, hat⟩ := run_append_own_at (P := Try.prog) w 0 33 ty 3 i (.int .i64 0) 1 8 Try.underlying33 hi hz hs hby rfl (by decide) (.slice A l.length c) l.length (icells l) hown ad k.length d (icells k) (icells_len k) (c_cells hC) (icells_one k) (by omega) (by omega) (Nat.zero_le _)
    obtain ⟨A', c', rfl⟩ : ∃ A' c', v' = .slice A' (l.length + k.length) c' := by
      rcases ho.2 with ⟨rfl, h0⟩ | ⟨g, cap, cur, rfl, _⟩
      · exact ⟨none, 0, by rw [h0]⟩
      · exact ⟨_, _, rfl⟩
    have hF : FR w' A' (l.length + k.length) c' (l ++ k) := ⟨by simp, by rw [icells_append]; exact ho⟩
    refine ⟨A', c', w', hr, hF, ?_⟩
    rcases hcs with ⟨rfl, rfl, _, rfl⟩ | ⟨g, cur, rfl, hh, hnc, hcm, hsz, ht⟩
    · rcases Nat.eq_zero_or_pos k.length with h0 | h0
      · have hk : k = [] := List.eq_nil_of_length_eq_zero h0
        subst hk
        have hn : (Builtin.append_ #[33, 33] ty #[.slice none ([] : List Int).length 0, .slice (some ad) ([] : List Int).length d]).run Try.prog w = .ok (.slice none 0 0) w := by
          have hf := run_firstCells_some (P := Try.prog) w i.size 0 ad 0 d [] (by simp) (fun j v h => by cases h)
          simp [Builtin.append_, run_underlying Try.underlying33, sizeOf, typeInfo, hi, Builtin.lenOf, hf]
        rw [hn] at hr
        injection hr with e1 e2
        injection e1 with e1 _ _
        subst e1; subst e2
        exact .inl ⟨rfl, Stay.refl _ _⟩
      · have hn := run_append_nil (P := Try.prog) w 33 ty 3 i (.int .i64 0) Try.underlying33 hi hz ad k.length d (icells k) (by rw [hs]; exact icells_len k) (c_cells hC) h0 (by simp at hl; omega) (by rw [hby]; simp at hl; omega)
        rw [show ([] : List Int).length = 0 from rfl, hn] at hr
        injection hr with e1 e2
        injection e1 with e1 _ _
        subst e1; subst e2
        exact .inr ⟨rfl, below_alloc (below_drew (Below.refl _ _)) _⟩
    · rcases Nat.lt_or_ge c (l.length + k.length) with hlt | hge
      · have hn := run_append_grow (P := Try.prog) w 33 ty 3 i (.int .i64 0) Try.underlying33 hi hz ⟨g, 0, none⟩ l.length c (icells l) (by rw [hs]; exact icells_len l) (c_cells (CR.c (FR.cr ⟨rfl, hown⟩) (by omega))) ad k.length d (icells k) (by rw [hs]; exact icells_len k) (c_cells hC) hlt (by omega) (by rw [hby]; exact growslice_fits (by omega) (by omega))
        rw [hn] at hr
        injection hr with e1 e2
        injection e1 with e1 _ _
        subst e1; subst e2
        exact .inr ⟨rfl, below_alloc (below_drew (Below.refl _ _)) _⟩
      · obtain ⟨w2, hn, ho2, hg2⟩ := run_append_fits (P := Try.prog) w 0 33 ty 3 i 1 Try.underlying33 hi hs g l.length c (icells l) hown ad k.length d (icells k) (icells_len k) (c_cells hC) (icells_one k) hge
        rw [hn] at hr
        injection hr with e1 e2
        injection e1 with e1 _ _
        subst e1; subst e2
        exact .inl ⟨rfl, (Stay.refl (fun b => some (⟨g, 0, none⟩ : Addr) = some ⟨b, 0, none⟩) w).grown hg2 (fun b hb => .inl (by cases hb; rfl))⟩
/-- A row of rows of one's own. -/
def SR (w : World) (O : Option Addr) (n c : Nat) (vs : List Value) : Prop := n = vs.length ∧ w.ownsRow 0 33 1 (.slice O n c) n vs ∧ ∀ v ∈ vs, v.oneCell' = true
theorem SR.nil (w : World) : SR w none 0 0 [] := ⟨rfl, World.ownsRow_nil w 0 33 1, fun _ h => by cases h⟩
theorem SR.cases {w : World} {O : Option Addr} {n c : Nat} {vs : List Value} (h : SR w O n c vs) : (O = none ∧ vs = [] ∧ n = 0 ∧ c = 0) ∨ ∃ (g : Nat) (cur : Array Value), O = some ⟨g, 0, none⟩ ∧ w.heap[g]? = some (.cells cur 33 (0, 0)) ∧ n ≤ c ∧ c ≤ maxLen ∧ cur.size = c * 1 ∧ cur.toList.take (n * 1) = vs := by
  obtain ⟨rfl, ⟨h1, h2⟩, _⟩ := h
  rcases h2 with ⟨e, h0⟩ | ⟨g, cap, cur, e, hb, hh, hnc, hcm, hcs, ht⟩
  · injection e with e1 e2 e3
    exact .inl ⟨e1, List.eq_nil_of_length_eq_zero h0, h0, e3⟩
  · injection e with e1 e2 e3
    subst e3
    exact .inr ⟨g, cur, e1, hh, hnc, hcm, hcs, ht⟩
theorem SR.room {w : World} {O : Option Addr} {n c : Nat} {vs : List Value} (h : SR w O n c vs) : n ≤ c := by
  rcases h.cases with ⟨_, _, h1, h2⟩ | ⟨_, _, _, _, h1, _⟩
  · omega
  · exact h1
theorem SR.cell {w : World} {O : Option Addr} {n c : Nat} {vs : List Value} (h : SR w O n c vs) (i : Nat) (v : Value) (hv : vs[i]? = some v) : ∃ g : Nat, O = some ⟨g, 0, none⟩ ∧ g < w.heap.size ∧ w.cell? ⟨g, i, none⟩ = some v := by
  have hi : i < vs.length := (List.getElem?_eq_some_iff.1 hv).1
  have hn := h.1
  rcases h.cases with ⟨_, e, _⟩ | ⟨g, cur, e, hh, hnc, _, hcs, ht⟩
  · rw [e] at hi; cases hi
  · refine ⟨g, e, blk_lt hh, cells_of_heap hh i v ?_⟩
    rw [← Array.getElem?_toList, ← hv, ← ht, List.getElem?_take, if_pos (by omega)]
theorem SR.keep {w w' : World} {O : Option Addr} {n c : Nat} {vs : List Value} (h : SR w O n c vs) (hk : ∀ g : Nat, O = some ⟨g, 0, none⟩ → w'.heap[g]? = w.heap[g]?) : SR w' O n c vs := by
  obtain ⟨rfl, ⟨h1, h2⟩, h3⟩ := h
  refine ⟨rfl, ⟨h1, ?_⟩, h3⟩
  rcases h2 with h2 | ⟨g, cap, cur, e, hbg, hh, hr⟩
  · exact .inl h2
  · refine .inr ⟨g, cap, cur, e, hbg, ?_, hr⟩
    injection e with e1 _ _
    exact (hk g e1).trans hh
theorem SR.lt {w : World} {O : Option Addr} {n c : Nat} {vs : List Value} (h : SR w O n c vs) : ∀ g : Nat, O = some ⟨g, 0, none⟩ → g < w.heap.size := by
  intro g e
  rcases h.cases with ⟨e2, _⟩ | ⟨g', cur, e2, hh, _⟩
  · rw [e2] at e; cases e
  · rw [e2] at e
    injection e with e
    injection e with e
    subst e
    exact blk_lt hh
theorem sr_run {w : World} {O : Option Addr} {n c d : Nat} {vs : List Value} {ad : Addr} {v : Value} (ty : TypeId) (h : SR w O n c vs) (hc : w.cell? ad = some v) (h1 : v.oneCell' = true) (hl : vs.length ≤ 1000000) :
    ∃ O' c' w', (Builtin.append_ #[36, 36] ty #[.slice O n c, .slice (some ad) 1 d]).run Try.prog w = .ok (.slice O' (n + 1) c') w' ∧ SR w' O' (n + 1) c' (vs ++ [v]) ∧ Stay (fun g => O = some ⟨g, 0, none⟩) w w' ∧ (O' = O ∨ O' = some ⟨w.heap.size, 0, none⟩) := by
  obtain ⟨i, hi, hz, hs, hby⟩ := info_parts infoRow
  have hmx : maxLen = 9223372036854775807 := rfl
  have hcs := h.cases
  obtain ⟨rfl, hown, hone⟩ := h
  have had : ∀ j u, [v][j]? = some u → w.cell? (ad.add j) = some u := fun j u hj => by
    cases j with
    | zero =>
      obtain rfl := Option.some.inj hj
      exact hc
    | succ j => simp at hj
  obtain ⟨v', w', hr, ho, hg, hnil, hat⟩ := run_append_own_at (P := Try.prog) w 0 36 ty 33 i (.slice none 0 0) 1 24 Try.underlying36 hi hz hs hby rfl (by decide) (.slice O vs.length c) vs.length vs hown ad 1 d [v] rfl had (fun u hu => by rw [List.mem_singleton.1 hu]; exact h1) (by omega) (by omega) (Nat.zero_le _)
  obtain ⟨O', c', g', rfl, hO⟩ : ∃ O' c' g', v' = .slice O' (vs.length + 1) c' ∧ O' = some (⟨g', 0, none⟩ : Addr) := by
    rcases ho.2 with ⟨rfl, h0⟩ | ⟨g, cap, cur, rfl, _⟩
    · omega
    · exact ⟨_, _, _, rfl, rfl⟩
  subst hO
  refine ⟨_, c', w', hr, ⟨by simp, ho, fun u hu => ?_⟩, ?_, ?_⟩
  · rcases List.mem_append.1 hu with hu | hu
    · exact hone u hu
    · rw [List.mem_singleton.1 hu]; exact h1
  · refine (Stay.refl (fun b => O = some ⟨b, 0, none⟩) w).grown hg (fun b hb => .inl ?_)
    rcases hcs with ⟨rfl, _⟩ | ⟨g, cur, rfl, _⟩
    · cases hb
    · simp [Value.ownBlock] at hb
      rw [hb]
  · rcases hat with hat | hat
    · rcases hcs with ⟨rfl, _⟩ | ⟨g, cur, rfl, _⟩
      · cases hat
      · simp [Value.ownBlock] at hat
        rw [hat]
        exact .inl rfl
    · simp [Value.ownBlock] at hat
      rw [hat]
      exact .inr rfl
/-! ### at an append's operation -/
section
variable {o : Oper} {a : Act} {K : Act → World → Prop} {Q : Exit → Act → World → Prop} {w w' : World} {v' : Value} {t : TypeId}
theorem wp_app_of (s x : Operand) (ho : o.op = .call { callee := .builtin .append, args := #[s, x], argTypes := #[t, t] }) (hr : (Builtin.append_ #[t, t] o.type #[a.eval s, a.eval x]).run Try.prog w = .ok v' w') (hK : K (a.put o.dst v') w') : o.wp Try.prog a w K Q := by
  unfold Oper.wp execOp
  simp only [ho, resolve, invoke, builtin, Sem.run_bind, Sem.run_pure, Result.andThen_ok, List.map_toArray, List.map_cons, List.map_nil, hr]
  exact hK
theorem list_app_of {ops : Array Oper} {rest : List Oper} (hgd : o.guard = none) (s x : Operand) (ho : o.op = .call { callee := .builtin .append, args := #[s, x], argTypes := #[t, t] }) (hr : (Builtin.append_ #[t, t] o.type #[a.eval s, a.eval x]).run Try.prog w = .ok v' w') (hK : wpList Try.prog ops Q rest (a.put o.dst v') w') : wpList Try.prog ops Q (o :: rest) a w :=
  wpList_plain hgd fun _ hp => wp_app_of s x ho hr (hp _ _ hK)
theorem step_app_of {ops : Array Oper} {E : Prop} (hw : Region.wanted o (yielded ops a.tmps) = true) (s x : Operand) (ho : o.op = .call { callee := .builtin .append, args := #[s, x], argTypes := #[t, t] }) (hr : (Builtin.append_ #[t, t] o.type #[a.eval s, a.eval x]).run Try.prog w = .ok v' w') (hK : K (a.put o.dst v') w') :
    if Region.wanted o (yielded ops a.tmps) = true then Oper.wp Try.prog o a w K Q else E := by
  rw [if_pos hw]
  exact wp_app_of s x ho hr hK
end
end Go.Proofs.Ytohphkdemonlkaa.Bi
/- The Book of ints: the kinds that are not used. -/
namespace Go.Proofs.Ytohphkdemonlkaa.Bi
open Go.RowKit Go.Proofs.Ytohphkdemonlkaa.XQt Go.Proofs.YtohphkdemonlkaaW.PrintWords Go.Proofs.YtohphkdemonlkaaW.PrintLast Go.Proofs.YtohphkdemonlkaaW.PrintMore Go.Proofs.Ytohphkdemonlkaa.Ob
theorem stillTexts_c {w : World} {b : Nat} {cs : Array Value} (hb : w.heap[b]? = some (.cells cs 42 (0, 0))) (hc : cs[2]? = some (.slice none 0 0)) : Calls Try.prog 50 #[.pointer (some ⟨b, 0, none⟩)] w fun e w' => e = .returned (.bool true) ∧ Below w.heap.size w w' := by
  have k0 := cells_of_heap hb 2 _ hc
  clear hb hc
  go_enter Try.func50, Try.ntmps50
  go_wp2
  go_loopg [3] 1 (fun kq v3 w' => v3 = .int .i64 0 ∧ w' = w)
  case atStart => exact ⟨rfl, rfl⟩
  case round =>
    obtain ⟨rfl, rfl⟩ := hrel
    go_wp2
    go_ret
    exact ⟨rfl, Below.refl _ _⟩
theorem putTexts_c {w : World} {b : Nat} {cs : Array Value} (hb : w.heap[b]? = some (.cells cs 42 (0, 0))) (hc : cs[2]? = some (.slice none 0 0)) : Calls Try.prog 55 #[.pointer (some ⟨b, 0, none⟩)] w fun e w' => e = .returned (.tuple #[]) ∧ Below w.heap.size w w' := by
  have k0 := cells_of_heap hb 2 _ hc
  clear hb hc
  go_enter Try.func55, Try.ntmps55
  go_wp2
  go_loopg [2] 1 (fun kq v2 w' => v2 = .int .i64 0 ∧ w' = w)
  case atStart => exact ⟨rfl, rfl⟩
  case round =>
    obtain ⟨rfl, rfl⟩ := hrel
    go_wp2
    first | go_end0 | ((try simp only [Exit.inBlock, Exit.then]); refine bodyPost_ret (results_none rfl _ _ _) rfl ?_)
    exact ⟨rfl, Below.refl _ _⟩
theorem growTexts_c {w : World} {b : Nat} {cs : Array Value} (hb : w.heap[b]? = some (.cells cs 42 (0, 0))) (hc : cs[2]? = some (.slice none 0 0)) : Calls Try.prog 60 #[.pointer (some ⟨b, 0, none⟩)] w fun e w' => e = .returned (.slice none 0 0) ∧ Below w.heap.size w w' := by
  have k0 := cells_of_heap hb 2 _ hc
  clear hb hc
  go_enter Try.func60, Try.ntmps60
  go_wp2
  go_loopg [3, 4] 1 (fun kq v3 v4 w' => v3 = .slice none 0 0 ∧ v4 = .int .i64 0 ∧ w' = w)
  case atStart => exact ⟨rfl, rfl, rfl⟩
  case round =>
    obtain ⟨rfl, rfl, rfl⟩ := hrel
    go_wp2
    go_ret
    exact ⟨rfl, Below.refl _ _⟩
theorem markedTexts_c (w : World) : Calls Try.prog 65 #[.slice none 0 0] w fun e w' => e = .returned (.bool true) ∧ Below w.heap.size w w' := by
  go_enter Try.func65, Try.ntmps65
  go_wp2
  go_loopg [3] 1 (fun kq v3 w' => v3 = .int .i64 0 ∧ w' = w)
  case atStart => exact ⟨rfl, rfl⟩
  case round =>
    obtain ⟨rfl, rfl⟩ := hrel
    go_wp2
    go_ret
    exact ⟨rfl, Below.refl _ _⟩
theorem stillFields_c {w : World} {b : Nat} {cs : Array Value} (hb : w.heap[b]? = some (.cells cs 42 (0, 0))) (hc : cs[4]? = some (.slice none 0 0)) : Calls Try.prog 51 #[.pointer (some ⟨b, 0, none⟩)] w fun e w' => e = .returned (.bool true) ∧ Below w.heap.size w w' := by
  have k0 := cells_of_heap hb 4 _ hc
  clear hb hc
  go_enter Try.func51, Try.ntmps51
  go_wp2
  go_loopg [3] 1 (fun kq v3 w' => v3 = .int .i64 0 ∧ w' = w)
  case atStart => exact ⟨rfl, rfl⟩
  case round =>
    obtain ⟨rfl, rfl⟩ := hrel
    go_wp2
    go_ret
    exact ⟨rfl, Below.refl _ _⟩
theorem putFields_c {w : World} {b : Nat} {cs : Array Value} (hb : w.heap[b]? = some (.cells cs 42 (0, 0))) (hc : cs[4]? = some (.slice none 0 0)) : Calls Try.prog 56 #[.pointer (some ⟨b, 0, none⟩)] w fun e w' => e = .returned (.tuple #[]) ∧ Below w.heap.size w w' := by
  have k0 := cells_of_heap hb 4 _ hc
  clear hb hc
  go_enter Try.func56, Try.ntmps56
  go_wp2
  go_loopg [2] 1 (fun kq v2 w' => v2 = .int .i64 0 ∧ w' = w)
  case atStart => exact ⟨rfl, rfl⟩
  case round =>
    obtain ⟨rfl, rfl⟩ := hrel
    go_wp2
    first | go_end0 | ((try simp only [Exit.inBlock, Exit.then]); refine bodyPost_ret (results_none rfl _ _ _) rfl ?_)
    exact ⟨rfl, Below.refl _ _⟩
theorem growFields_c {w : World} {b : Nat} {cs : Array Value} (hb : w.heap[b]? = some (.cells cs 42 (0, 0))) (hc : cs[4]? = some (.slice none 0 0)) : Calls Try.prog 61 #[.pointer (some ⟨b, 0, none⟩)] w fun e w' => e = .returned (.slice none 0 0) ∧ Below w.heap.size w w' := by
  have k0 := cells_of_heap hb 4 _ hc
  clear hb hc
  go_enter Try.func61, Try.ntmps61
  go_wp2
  go_loopg [3, 4] 1 (fun kq v3 v4 w' => v3 = .slice none 0 0 ∧ v4 = .int .i64 0 ∧ w' = w)
  case atStart => exact ⟨rfl, rfl, rfl⟩
  case round =>
    obtain ⟨rfl, rfl, rfl⟩ := hrel
    go_wp2
    go_ret
    exact ⟨rfl, Below.refl _ _⟩
theorem markedFields_c (w : World) : Calls Try.prog 66 #[.slice none 0 0] w fun e w' => e = .returned (.bool true) ∧ Below w.heap.size w w' := by
  go_enter Try.func66, Try.ntmps66
  go_wp2
  go_loopg [3] 1 (fun kq v3 w' => v3 = .int .i64 0 ∧ w' = w)
  case atStart => exact ⟨rfl, rfl⟩
  case round =>
    obtain ⟨rfl, rfl⟩ := hrel
    go_wp2
    go_ret
    exact ⟨rfl, Below.refl _ _⟩
theorem stillFrames_c {w : World} {b : Nat} {cs : Array Value} (hb : w.heap[b]? = some (.cells cs 42 (0, 0))) (hc : cs[6]? = some (.slice none 0 0)) : Calls Try.prog 52 #[.pointer (some ⟨b, 0, none⟩)] w fun e w' => e = .returned (.bool true) ∧ Below w.heap.size w w' := by
  have k0 := cells_of_heap hb 6 _ hc
  clear hb hc
  go_enter Try.func52, Try.ntmps52
  go_wp2
  go_loopg [3] 1 (fun kq v3 w' => v3 = .int .i64 0 ∧ w' = w)
  case atStart => exact ⟨rfl, rfl⟩
  case round =>
    obtain ⟨rfl, rfl⟩ := hrel
    go_wp2
    go_ret
    exact ⟨rfl, Below.refl _ _⟩
theorem putFrames_c {w : World} {b : Nat} {cs : Array Value} (hb : w.heap[b]? = some (.cells cs 42 (0, 0))) (hc : cs[6]? = some (.slice none 0 0)) : Calls Try.prog 57 #[.pointer (some ⟨b, 0, none⟩)] w fun e w' => e = .returned (.tuple #[]) ∧ Below w.heap.size w w' := by
  have k0 := cells_of_heap hb 6 _ hc
  clear hb hc
  go_enter Try.func57, Try.ntmps57
  go_wp2
  go_loopg [2] 1 (fun kq v2 w' => v2 = .int .i64 0 ∧ w' = w)
  case atStart => exact ⟨rfl, rfl⟩
  case round =>
    obtain ⟨rfl, rfl⟩ := hrel
    go_wp2
    first | go_end0 | ((try simp only [Exit.inBlock, Exit.then]); refine bodyPost_ret (results_none rfl _ _ _) rfl ?_)
    exact ⟨rfl, Below.refl _ _⟩
theorem growFrames_c {w : World} {b : Nat} {cs : Array Value} (hb : w.heap[b]? = some (.cells cs 42 (0, 0))) (hc : cs[6]? = some (.slice none 0 0)) : Calls Try.prog 62 #[.pointer (some ⟨b, 0, none⟩)] w fun e w' => e = .returned (.slice none 0 0) ∧ Below w.heap.size w w' := by
  have k0 := cells_of_heap hb 6 _ hc
  clear hb hc
  go_enter Try.func62, Try.ntmps62
  go_wp2
  go_loopg [3, 4] 1 (fun kq v3 v4 w' => v3 = .slice none 0 0 ∧ v4 = .int .i64 0 ∧ w' = w)
  case atStart => exact ⟨rfl, rfl, rfl⟩
  case round =>
    obtain ⟨rfl, rfl, rfl⟩ := hrel
    go_wp2
    go_ret
    exact ⟨rfl, Below.refl _ _⟩
theorem markedFrames_c (w : World) : Calls Try.prog 67 #[.slice none 0 0] w fun e w' => e = .returned (.bool true) ∧ Below w.heap.size w w' := by
  go_enter Try.func67, Try.ntmps67
  go_wp2
  go_loopg [3] 1 (fun kq v3 w' => v3 = .int .i64 0 ∧ w' = w)
  case atStart => exact ⟨rfl, rfl⟩
  case round =>
    obtain ⟨rfl, rfl⟩ := hrel
    go_wp2
    go_ret
    exact ⟨rfl, Below.refl _ _⟩
theorem stillPrefs_c {w : World} {b : Nat} {cs : Array Value} (hb : w.heap[b]? = some (.cells cs 42 (0, 0))) (hc : cs[8]? = some (.slice none 0 0)) : Calls Try.prog 53 #[.pointer (some ⟨b, 0, none⟩)] w fun e w' => e = .returned (.bool true) ∧ Below w.heap.size w w' := by
  have k0 := cells_of_heap hb 8 _ hc
  clear hb hc
  go_enter Try.func53, Try.ntmps53
  go_wp2
  go_loopg [3] 1 (fun kq v3 w' => v3 = .int .i64 0 ∧ w' = w)
  case atStart => exact ⟨rfl, rfl⟩
  case round =>
    obtain ⟨rfl, rfl⟩ := hrel
    go_wp2
    go_ret
    exact ⟨rfl, Below.refl _ _⟩
theorem putPrefs_c {w : World} {b : Nat} {cs : Array Value} (hb : w.heap[b]? = some (.cells cs 42 (0, 0))) (hc : cs[8]? = some (.slice none 0 0)) : Calls Try.prog 58 #[.pointer (some ⟨b, 0, none⟩)] w fun e w' => e = .returned (.tuple #[]) ∧ Below w.heap.size w w' := by
  have k0 := cells_of_heap hb 8 _ hc
  clear hb hc
  go_enter Try.func58, Try.ntmps58
  go_wp2
  go_loopg [2] 1 (fun kq v2 w' => v2 = .int .i64 0 ∧ w' = w)
  case atStart => exact ⟨rfl, rfl⟩
  case round =>
    obtain ⟨rfl, rfl⟩ := hrel
    go_wp2
    first | go_end0 | ((try simp only [Exit.inBlock, Exit.then]); refine bodyPost_ret (results_none rfl _ _ _) rfl ?_)
    exact ⟨rfl, Below.refl _ _⟩
theorem growPrefs_c {w : World} {b : Nat} {cs : Array Value} (hb : w.heap[b]? = some (.cells cs 42 (0, 0))) (hc : cs[8]? = some (.slice none 0 0)) : Calls Try.prog 63 #[.pointer (some ⟨b, 0, none⟩)] w fun e w' => e = .returned (.slice none 0 0) ∧ Below w.heap.size w w' := by
  have k0 := cells_of_heap hb 8 _ hc
  clear hb hc
  go_enter Try.func63, Try.ntmps63
  go_wp2
  go_loopg [3, 4] 1 (fun kq v3 v4 w' => v3 = .slice none 0 0 ∧ v4 = .int .i64 0 ∧ w' = w)
  case atStart => exact ⟨rfl, rfl, rfl⟩
  case round =>
    obtain ⟨rfl, rfl, rfl⟩ := hrel
    go_wp2
    go_ret
    exact ⟨rfl, Below.refl _ _⟩
theorem markedPrefs_c (w : World) : Calls Try.prog 68 #[.slice none 0 0] w fun e w' => e = .returned (.bool true) ∧ Below w.heap.size w w' := by
  go_enter Try.func68, Try.ntmps68
  go_wp2
  go_loopg [3] 1 (fun kq v3 w' => v3 = .int .i64 0 ∧ w' = w)
  case atStart => exact ⟨rfl, rfl⟩
  case round =>
    obtain ⟨rfl, rfl⟩ := hrel
    go_wp2
    go_ret
    exact ⟨rfl, Below.refl _ _⟩
end Go.Proofs.Ytohphkdemonlkaa.Bi
/- The Book: marks; its rows; two rows that are the same. -/
namespace Go.Proofs.Ytohphkdemonlkaa.Bi
open Go.RowKit Go.Proofs.Ytohphkdemonlkaa.XQt Go.Proofs.YtohphkdemonlkaaW.PrintWords Go.Proofs.YtohphkdemonlkaaW.PrintLast Go.Proofs.YtohphkdemonlkaaW.PrintMore Go.Proofs.Ytohphkdemonlkaa.Ob
theorem w64_in (n : Int) (h : -9223372036854775808 ≤ n ∧ n ≤ 9223372036854775807) : wrap64 n = n := by
  unfold wrap64
  omega
theorem w64_next (n : Nat) (h : n < 9223372036854775807) : wrap64 ((n : Int) + 1) = ((n + 1 : Nat) : Int) := by
  rw [w64_in ((n : Int) + 1) (by omega)]
  omega
def nm (i k : Nat) : Int := wrap64 (wrap64 (wrap64 (-1000000 * (i : Int)) - (k : Int)) - 7)
theorem nm_eq (i k : Nat) : wrap64 (wrap64 (wrap64 (-1000000 * (i : Int)) - (k : Int)) - 7) = nm i k := rfl
/-- The marks of row i, from the j-th, m of them. -/
def mk (i j m : Nat) : List Int := (List.range' j m).map (nm i)
theorem mk_len (i j m : Nat) : (mk i j m).length = m := by simp [mk]
theorem mk_app (i n m : Nat) : mk i 0 n ++ mk i n m = mk i 0 (n + m) := by
  unfold mk
  rw [← List.map_append]
  congr 1
  have := @List.range'_append 0 n m 1
  simpa using this
theorem mk_take (i n k : Nat) (h : k ≤ n) : (mk i 0 n).take k = mk i 0 k := by
  unfold mk
  rw [← List.map_take, List.take_range'_of_length_ge (by omega)]
theorem mk_succ (i j m : Nat) : mk i j (m + 1) = nm i j :: mk i (j + 1) m := by
  simp [mk, List.range'_succ]
theorem mark_l0 (i F N : Nat) (h : F + N ≤ 3000000) : ∀ (m j k : Nat) (acc : List Int), j + m = F + N → m + 1 ≤ k → acc.length + m ≤ 3000000 → bywashbook_markInts.l0 k i F N acc j = some (acc ++ mk i j m)
  | 0, j, k, acc, hj, hk, ha => by
    obtain ⟨k, rfl⟩ : ∃ q, k = q + 1 := ⟨k - 1, by omega⟩
    have hw : wrap64 ((F : Int) + (N : Int)) = ((F + N : Nat) : Int) := by rw [w64_in ((F : Int) + (N : Int)) (by omega)]; omega
    unfold bywashbook_markInts.l0
    rw [hw, if_neg (by omega)]
    simp [mk]
  | m + 1, j, k, acc, hj, hk, ha => by
    obtain ⟨k, rfl⟩ : ∃ q, k = q + 1 := ⟨k - 1, by omega⟩
    have hw : wrap64 ((F : Int) + (N : Int)) = ((F + N : Nat) : Int) := by rw [w64_in ((F : Int) + (N : Int)) (by omega)]; omega
    unfold bywashbook_markInts.l0
    rw [hw, if_pos (by omega), nm_eq, if_pos (by omega), w64_next j (by omega)]
    rw [mark_l0 i F N h m (j + 1) k (acc ++ [nm i j]) (by omega) (by omega) (by simp; omega), mk_succ, List.append_assoc]
    rfl
theorem mark_eq (i F N k : Nat) (h : F + N ≤ 3000000) (hk : N + 1 ≤ k) : bywashbook_markInts.f k i F N = some (mk i F N) := by
  unfold bywashbook_markInts.f
  rw [mark_l0 i F N h N F k [] rfl hk (by simp; omega)]
  rfl
theorem mark_c (i F N : Nat) (h : F + N ≤ 3000000) (w : World) : Calls Try.prog 86 #[.int .i64 i, .int .i64 F, .int .i64 N] w fun e w' => ∃ A c, e = .returned (.slice A N c) ∧ Aside0 (kI.C w' A N (mk i F N)) ∧ Below w.heap.size w w' := by
  obtain ⟨k, hk⟩ : ∃ k, k = N + 1 := ⟨_, rfl⟩
  refine (bywashbook_markInts.calls k i F N (mk i F N) w (mark_eq i F N k h (by omega))).mono ?_
  rintro e w' ⟨v, rfl, hR, hb⟩
  obtain ⟨A, c, rfl, _, hC⟩ := Kd.R_reads hR
  rw [mk_len] at hC
  refine ⟨A, c, by rw [mk_len], ⟨hC⟩, hb⟩
theorem same_l0 (l : List Int) (hl : l.length ≤ 3000000) : ∀ (rest pre : List Int) (k : Nat), l = pre ++ rest → rest.length + 1 ≤ k → bywashbook_SameInts.l0 k l l (pre.length : Int) = some true
  | [], pre, k, e, hk => by
    obtain ⟨k, rfl⟩ : ∃ m, k = m + 1 := ⟨k - 1, by simp at hk; omega⟩
    unfold bywashbook_SameInts.l0
    rw [if_neg (by rw [e, List.append_nil]; omega)]
  | f :: rest, pre, k, e, hk => by
    obtain ⟨k, rfl⟩ : ∃ m, k = m + 1 := ⟨k - 1, by omega⟩
    have hp : pre.length < l.length := by rw [e]; simp
    have ih := same_l0 l hl rest (pre ++ [f]) k (by rw [e]; simp) (by simp at hk; omega)
    rw [List.length_append, List.length_singleton] at ih
    unfold bywashbook_SameInts.l0
    rw [if_pos (by omega), if_pos (by omega), if_pos (by omega), if_pos rfl, w64_next _ (by omega)]
    exact ih
theorem same_eq (l : List Int) (hl : l.length ≤ 3000000) (k : Nat) (hk : l.length + 1 ≤ k) : bywashbook_SameInts.f k l l = some true := by
  unfold bywashbook_SameInts.f
  rw [if_pos rfl]
  exact same_l0 l hl l [] _ rfl hk
theorem same_c {A B : Option Addr} {l : List Int} {c d : Nat} {w : World} (h1 : kI.C w A l.length l) (hc : l.length ≤ c) (h2 : kI.C w B l.length l) (hd : l.length ≤ d) (hl : l.length ≤ 3000000) : Calls Try.prog 23 #[.slice A l.length c, .slice B l.length d] w fun e w' => e = .returned (.bool true) ∧ Below w.heap.size w w' := by
  obtain ⟨k, hk⟩ : ∃ k, k = l.length + 1 := ⟨_, rfl⟩
  exact (bywashbook_SameInts.calls k A c l B d l true w h1 hc h2 hd (same_eq l hl k (by omega))).mono fun e w' h => ⟨h.1, h.2.below⟩
theorem marked_l0 (ls : List (List Int)) (hn : ls.length ≤ 1000000) (hm : ∀ j r, ls[j]? = some r → r = mk j 0 r.length ∧ r.length ≤ 2000000) (K : Nat) (hK : 2000001 ≤ K) : ∀ (m j k : Nat), j + m = ls.length → m + K ≤ k → bywashbook_markedInts.l0 k ls j = some true
  | 0, j, k, hj, hk => by
    obtain ⟨k, rfl⟩ : ∃ q, k = q + 1 := ⟨k - 1, by omega⟩
    unfold bywashbook_markedInts.l0
    rw [if_neg (by omega)]
  | m + 1, j, k, hj, hk => by
    obtain ⟨k, rfl⟩ : ∃ q, k = q + 1 := ⟨k - 1, by omega⟩
    have hjl : j < ls.length := by omega
    obtain ⟨h1, h2⟩ := hm j ls[j] (List.getElem?_eq_getElem hjl)
    have hr : rd_L1 ls (j : Int) = ls[j] := by simp [rd_L1, hjl]
    have e1 : bywashbook_markInts.f k (j : Int) 0 ((ls[j].length : Nat) : Int) = some ls[j] := (mark_eq j 0 ls[j].length k (by omega) (by omega)).trans (congrArg some h1.symm)
    unfold bywashbook_markedInts.l0
    rw [if_pos (by omega), if_pos (by omega), hr, e1, Option.bind_some, same_eq ls[j] (by omega) k (by omega), Option.bind_some, if_pos (Eq.refl true), w64_next j (by omega)]
    exact marked_l0 ls hn hm K hK m (j + 1) k (by omega) (by omega)
/-! ### the Book -/
structure RV where
  A : Option Addr
  c : Nat
  l : List Int
def RV.v (r : RV) : Value := .slice r.A r.l.length r.c
def bkCells (O : Option Addr) (n oc : Nat) (P : Option Addr) (m pc : Nat) : Array Value := #[.slice O n oc, .slice P m pc, .slice none 0 0, .slice none 0 0, .slice none 0 0, .slice none 0 0, .slice none 0 0, .slice none 0 0, .slice none 0 0, .slice none 0 0]
/-- The Book's own block and its two rows of rows; ρ tells each block's part (0: none of the Book's). -/
structure Bo (w : World) (ρ : Nat → Nat) (b : Nat) (O : Option Addr) (n oc : Nat) (P : Option Addr) (m pc : Nat) (vs us : List Value) : Prop where
  hb : w.heap[b]? = some (.cells (bkCells O n oc P m pc) 42 (0, 0))
  rb : ρ b = 4
  so : SR w O n oc vs
  ro : ∀ g : Nat, O = some ⟨g, 0, none⟩ → ρ g = 2
  sp : SR w P m pc us
  rp : ∀ g : Nat, P = some ⟨g, 0, none⟩ → ρ g = 3
def Rows (w : World) (ρ : Nat → Nat) (rs : List RV) : Prop := ∀ (i : Nat) (r : RV), rs[i]? = some r → FR w r.A r.l.length r.c r.l ∧ r.l.length ≤ 1000000 ∧ ∀ g : Nat, r.A = some ⟨g, 0, none⟩ → ρ g = 5 + i
def Was (w : World) (ρ : Nat → Nat) (rs us : List RV) : Prop := us.length = rs.length ∧ ∀ (i : Nat) (u r : RV), us[i]? = some u → rs[i]? = some r → u.l = r.l ∧ FR w u.A u.l.length u.c u.l ∧ ∀ g : Nat, u.A = some ⟨g, 0, none⟩ → ρ g = 1
def Book (w : World) (ρ : Nat → Nat) (b : Nat) : Prop := ∃ O oc P pc rs us, Bo w ρ b O rs.length oc P us.length pc (rs.map RV.v) (us.map RV.v) ∧ Rows w ρ rs ∧ Was w ρ rs us ∧ rs.length ≤ 250
section
variable {w w' : World} {ρ : Nat → Nat} {b : Nat}
theorem Bo.keep {O P : Option Addr} {n oc m pc : Nat} {vs us : List Value} (h : Bo w ρ b O n oc P m pc vs us) (hk : ∀ k, ρ k = 2 ∨ ρ k = 3 ∨ ρ k = 4 → k < w.heap.size → w'.heap[k]? = w.heap[k]?) : Bo w' ρ b O n oc P m pc vs us :=
  ⟨(hk b (.inr (.inr h.rb)) (blk_lt h.hb)).trans h.hb, h.rb, h.so.keep fun g e => hk g (.inl (h.ro g e)) (h.so.lt g e), h.ro, h.sp.keep fun g e => hk g (.inr (.inl (h.rp g e))) (h.sp.lt g e), h.rp⟩
theorem Rows.keep {rs : List RV} (h : Rows w ρ rs) (hk : ∀ k, 5 ≤ ρ k → k < w.heap.size → w'.heap[k]? = w.heap[k]?) : Rows w' ρ rs := fun i r hr => by
  obtain ⟨h1, h2, h3⟩ := h i r hr
  exact ⟨h1.keep fun g e => hk g (by rw [h3 g e]; omega) (h1.lt g e), h2, h3⟩
theorem Was.keep {rs us : List RV} (h : Was w ρ rs us) (hk : ∀ k, ρ k = 1 → k < w.heap.size → w'.heap[k]? = w.heap[k]?) : Was w' ρ rs us := ⟨h.1, fun i u r hu hr => by
  obtain ⟨h1, h3, h4⟩ := h.2 i u r hu hr
  exact ⟨h1, h3.keep fun g e => hk g (h4 g e) (h3.lt g e), h4⟩⟩
theorem Book.keep (h : Book w ρ b) (hk : ∀ k, ρ k ≠ 0 → k < w.heap.size → w'.heap[k]? = w.heap[k]?) : Book w' ρ b := by
  obtain ⟨O, oc, P, pc, rs, us, h1, h2, h3, h4⟩ := h
  exact ⟨O, oc, P, pc, rs, us, h1.keep fun k e => hk k (by omega), h2.keep fun k e => hk k (by omega), h3.keep fun k e => hk k (by omega), h4⟩
theorem Book.below (h : Book w ρ b) (hb : Below w.heap.size w w') : Book w' ρ b := h.keep fun k _ hl => hb.block k hl
theorem Book.stay {ok : Nat → Prop} (h : Book w ρ b) (hs : Stay ok w w') (hn : ∀ k, ok k → ρ k = 0) : Book w' ρ b := h.keep fun k hr hl => hs.block k hl fun e => hr (hn k e)
theorem Book.lt (h : Book w ρ b) : b < w.heap.size := by
  obtain ⟨O, oc, P, pc, rs, us, h1, _⟩ := h
  exact blk_lt h1.hb
theorem Book.role (h : Book w ρ b) : ρ b = 4 := by
  obtain ⟨O, oc, P, pc, rs, us, h1, _⟩ := h
  exact h1.rb
theorem book_new (w : World) : Book (w.alloc (.cells #[.slice none 0 0, .slice none 0 0, .slice none 0 0, .slice none 0 0, .slice none 0 0, .slice none 0 0, .slice none 0 0, .slice none 0 0, .slice none 0 0, .slice none 0 0] 42)) (fun k => if k = w.heap.size then 4 else 0) w.heap.size :=
  ⟨none, 0, none, 0, [], [], ⟨heap_alloc_new w _, if_pos rfl, SR.nil _, (fun _ e => by cases e), SR.nil _, (fun _ e => by cases e)⟩, (fun i r h => by simp at h), ⟨rfl, fun i u r h => by simp at h⟩, by decide⟩
end
end Go.Proofs.Ytohphkdemonlkaa.Bi
/- The Book: is each list what it was? -/
namespace Go.Proofs.Ytohphkdemonlkaa.Bi
open Go.RowKit Go.Proofs.Ytohphkdemonlkaa.XQt Go.Proofs.YtohphkdemonlkaaW.PrintWords Go.Proofs.YtohphkdemonlkaaW.PrintLast Go.Proofs.YtohphkdemonlkaaW.PrintMore Go.Proofs.Ytohphkdemonlkaa.Ob
theorem bk_cell {w : World} {b : Nat} {O : Option Addr} {n oc : Nat} {P : Option Addr} {m pc : Nat} (h : w.heap[b]? = some (.cells (bkCells O n oc P m pc) 42 (0, 0))) : w.cell? ⟨b, 0, none⟩ = some (.slice O n oc) ∧ w.cell? ⟨b, 1, none⟩ = some (.slice P m pc) := ⟨cells_of_heap h 0 _ rfl, cells_of_heap h 1 _ rfl⟩
theorem row_at {w : World} {O : Option Addr} {n oc : Nat} {rs : List RV} (h : SR w O n oc (rs.map RV.v)) (j : Nat) (hj : j < rs.length) : ∃ g : Nat, O = some ⟨g, 0, none⟩ ∧ g < w.heap.size ∧ w.cell? ⟨g, j, none⟩ = some (.slice rs[j].A rs[j].l.length rs[j].c) := by
  obtain ⟨g, e, hl, hc⟩ := h.cell j rs[j].v (by rw [List.getElem?_map, List.getElem?_eq_getElem hj]; rfl)
  exact ⟨g, e, hl, hc⟩
set_option maxHeartbeats 1600000 in
theorem still_c {w : World} {ρ : Nat → Nat} {b : Nat} {O P : Option Addr} {oc pc : Nat} {rs us : List RV} (hB : Bo w ρ b O rs.length oc P us.length pc (rs.map RV.v) (us.map RV.v)) (hR : Rows w ρ rs) (hW : Was w ρ rs us) (hl : rs.length ≤ 250) : Calls Try.prog 49 #[.pointer (some ⟨b, 0, none⟩)] w fun e w' => e = .returned (.bool true) ∧ Below w.heap.size w w' := by
  have HB := Aside0.mk hB
  have HR := Aside0.mk hR
  have HW := Aside0.mk hW
  have HL := Aside0.mk hl
  clear hB hR hW hl
  go_enter Try.func49, Try.ntmps49
  go_wp2
  go_loopg [3] (rs.length + 1) (fun kq v3 w' => ∃ j : Nat, v3 = .int .i64 j ∧ Aside0 (j + kq = rs.length + 1 ∧ 1 ≤ kq) ∧ Aside0 (Below w.heap.size w w'))
  case atStart => exact ⟨0, rfl, ⟨by omega, by omega⟩, ⟨Below.refl _ _⟩⟩
  case round =>
    obtain ⟨j, rfl, HJ, HBl⟩ := hrel
    have hb2 := HB.out.keep (w' := wr) fun k _ hk => HBl.out.block k hk
    obtain ⟨k4, k5⟩ := bk_cell hb2.hb
    by_cases hj : j < rs.length
    · have e1 : decide ((j : Int) < (rs.length : Int)) = true := decide_eq_true (by omega)
      have e1n : decide (j < rs.length) = true := decide_eq_true hj
      have hju : j < us.length := by rw [HW.out.1]; exact hj
      obtain ⟨gO, hO, _, c4⟩ := row_at hb2.so j hj
      obtain ⟨gP, hP, _, c5⟩ := row_at hb2.sp j hju
      obtain ⟨hf, hfl, hf3⟩ := HR.out j rs[j] (List.getElem?_eq_getElem hj)
      obtain ⟨hu1, hu3, hu4⟩ := HW.out.2 j us[j] rs[j] (List.getElem?_eq_getElem hju) (List.getElem?_eq_getElem hj)
      have HS : Aside0 (∀ W, Below wr.heap.size wr W → Calls Try.prog 23 #[.slice rs[j].A rs[j].l.length rs[j].c, .slice us[j].A us[j].l.length us[j].c] W fun e w' => e = .returned (.bool true) ∧ Below W.heap.size W w') := ⟨fun W hb => by
        have hbw := below_step HBl.out hb
        have h1 := Kd.C_below (hf.cr.c (by omega)) hbw
        have h2 := Kd.C_below (hu3.cr.c (by rw [hu1]; omega)) hbw
        have hu2 := hu3.room
        rw [hu1] at h2 hu2 ⊢
        exact same_c h1 hf.room h2 hu2 (by omega)⟩
      have p1 : (0 : Int) ≤ (j : Int) := by omega
      have p2 : (j : Int) < (rs.length : Int) := by omega
      have p2u : (j : Int) < (us.length : Int) := by omega
      have hwj : wrap64 ((j : Int) + 1) = ((j + 1 : Nat) : Int) := w64_next j (by have := HL.out; omega)
      have HWJ := Aside0.mk hwj
      have HJ2 := Aside0.mk hj
      subst hO
      subst hP
      clear hb2 hf hfl hu1 hu3 hf3 hu4
      generalize rs[j] = r at c4 HS
      generalize us[j] = u at c5 HS
      obtain ⟨rA, rc, rl⟩ := r
      obtain ⟨uA, uc, ul⟩ := u
      clear hj hju
      dsimp only at c4 c5 HS
      go_wp2
      go_region_with (first
        | (go_at_call 23; refine (HS.out _ ?hb).mono ?_; (case hb => (repeat' first | exact Below.refl _ _ | (with_reducible refine below_drew ?_))); rintro e w2 ⟨rfl, hb⟩; have HB2 := Aside0.mk (below_step (below_drew HBl.out) hb); clear hb HS))
      all_goals
        go_wp2
        go_roundg (gk - 1)
      all_goals first
        | (have := HJ.out; have := HJ2.out; omega)
        | exact ⟨j + 1, congrArg (Value.int .i64) HWJ.out, ⟨by have := HJ.out; omega, by have := HJ.out; have := HJ2.out; omega⟩, HB2⟩
    · have e1 : decide ((j : Int) < (rs.length : Int)) = false := decide_eq_false (by omega)
      have e1n : decide (j < rs.length) = false := decide_eq_false hj
      clear hb2 hj
      go_wp2
      go_ret
      exact ⟨rfl, HBl.out⟩
end Go.Proofs.Ytohphkdemonlkaa.Bi
/- The Book: one more list. -/
namespace Go.Proofs.Ytohphkdemonlkaa.Bi
open Go.RowKit Go.Proofs.Ytohphkdemonlkaa.XQt Go.Proofs.YtohphkdemonlkaaW.PrintWords Go.Proofs.YtohphkdemonlkaaW.PrintLast Go.Proofs.YtohphkdemonlkaaW.PrintMore Go.Proofs.Ytohphkdemonlkaa.Ob
theorem stay_none {w w' : World} (h : Stay (fun g => (none : Option Addr) = some ⟨g, 0, none⟩) w w') : Below w.heap.size w w' := h.below (Below.refl _ _) (fun _ e => by cases e)
theorem stay_of_one {w w' : World} {A : Option Addr} {ok : Nat → Prop} (h : Stay (fun g => A = some ⟨g, 0, none⟩) w w') (ha : ∀ g : Nat, A = some ⟨g, 0, none⟩ → ok g) : Stay ok w w' := h.mono ha
set_option maxHeartbeats 800000 in
theorem copy_c {w : World} {A : Option Addr} {l : List Int} {c : Nat} (hC : kI.C w A l.length l) (hl : l.length ≤ 1000000) : Calls Try.prog 48 #[.slice A l.length c] w fun e w' => ∃ A' c', e = .returned (.slice A' l.length c') ∧ FR w' A' l.length c' l ∧ (∀ g : Nat, A' = some ⟨g, 0, none⟩ → w.heap.size ≤ g) ∧ Below w.heap.size w w' := by
  have HC := Aside0.mk hC
  have HL := Aside0.mk hl
  clear hC hl
  go_enter Try.func48, Try.ntmps48
  go_wp2_with (first
    | ((with_reducible refine gate_builtin (b := .append) (xs := #[.const (.slice none 0 0), .tmp 3]) rfl ?_); at_builtin; obtain ⟨A6, c6, w6, hr, hF, hw⟩ := app_run (A := none) (n := 0) (c := 0) (l := []) (d := c) 33 (FR.nil w) HC.out (by have := HL.out; simp; omega); refine list_app_of rfl (.const (.slice none 0 0)) (.tmp 3) rfl hr ?_; rw [Nat.zero_add, List.nil_append] at hF; rw [Nat.zero_add]; have HF6 := Aside0.mk hF; have HW6 := Aside0.mk hw; clear hF hw hr))
  go_ret
  refine ⟨A6, c6, rfl, HF6.out, ?_, ?_⟩
  · intro g e
    rcases HW6.out with ⟨h1, _⟩ | ⟨h1, _⟩
    · rw [h1] at e; cases e
    · rw [h1] at e
      injection e with e
      injection e with e
      omega
  · rcases HW6.out with ⟨_, h1⟩ | ⟨_, h1⟩
    · exact stay_none h1
    · exact h1
def ext (s : Nat) (ρ : Nat → Nat) (X : Option Addr) (x : Nat) (Y : Option Addr) (y : Nat) (k : Nat) : Nat := if k < s then ρ k else if X = some ⟨k, 0, none⟩ then x else if Y = some ⟨k, 0, none⟩ then y else 0
theorem ext_lt {s : Nat} {ρ : Nat → Nat} {X Y : Option Addr} {x y k : Nat} (h : k < s) : ext s ρ X x Y y k = ρ k := if_pos h
section
variable {w w2 w4 : World} {ρ : Nat → Nat} {b n oc m pc : Nat} {O P O' P' : Option Addr} {vs us : List Value} {oc' pc' : Nat} {v : Value} {o : Obj}
theorem bo_O (h : Bo w ρ b O n oc P m pc vs us) (so : SR w2 O' (n + 1) oc' (vs ++ [v])) (hs : Stay (fun g => O = some ⟨g, 0, none⟩) (w.alloc o) w2) (ho : O' = O ∨ O' = some ⟨(w.alloc o).heap.size, 0, none⟩) :
    Bo (w2.setCell ⟨b, 0, none⟩ (.slice O' (n + 1) oc')) (ext w.heap.size ρ O' 2 none 0) b O' (n + 1) oc' P m pc (vs ++ [v]) us ∧ Stay (fun k => ρ k = 2 ∨ ρ k = 4) w (w2.setCell ⟨b, 0, none⟩ (.slice O' (n + 1) oc')) := by
  have hbl := blk_lt h.hb
  have hsz : w.heap.size < (w.alloc o).heap.size := by simp
  have hst : Stay (fun k => ρ k = 2 ∨ ρ k = 4) w w2 := ((Stay.refl _ w).alloc o).trans (stay_of_one hs (ok := fun k => ρ k = 2 ∨ ρ k = 4) fun g e => .inl (h.ro g e)) (fun k _ e => e)
  have hO' : ∀ g : Nat, O' = some ⟨g, 0, none⟩ → (g < w.heap.size ∧ ρ g = 2) ∨ w.heap.size < g := fun g e => by
    rcases ho with rfl | rfl
    · exact .inl ⟨h.so.lt g e, h.ro g e⟩
    · injection e with e
      injection e with e
      subst e
      exact .inr hsz
  have hb2 : w2.heap[b]? = some (.cells (bkCells O n oc P m pc) 42 (0, 0)) := by
    have h1 : ¬ (O = some ⟨b, 0, none⟩) := fun e => by have := h.ro b e; rw [h.rb] at this; omega
    exact (hs.block b (Nat.lt_trans hbl hsz) h1).trans ((heap_alloc_old w o hbl).trans h.hb)
  refine ⟨⟨?_, (ext_lt hbl).trans h.rb, so.keep fun g e => ?_, fun g e => ?_, ?_, fun g e => ?_⟩, hst.setCell (p := ⟨b, 0, none⟩) (.inl (.inr h.rb)) _⟩
  · exact heap_put hb2 0 _ (by simp [bkCells])
  · refine Below.heap_setCell w2 ⟨b, 0, none⟩ _ g ?_
    show g ≠ b
    rintro rfl
    rcases hO' g e with ⟨_, h2⟩ | h2
    · rw [h.rb] at h2; omega
    · omega
  · rcases hO' g e with ⟨h1, h2⟩ | h2
    · rw [ext_lt h1]; exact h2
    · unfold ext
      rw [if_neg (by omega), if_pos e]
  · refine h.sp.keep fun g e => ?_
    have hg := h.sp.lt g e
    have hr := h.rp g e
    refine (hst.setCell (p := ⟨b, 0, none⟩) (.inl (.inr h.rb)) _).block g hg ?_
    rintro (h2 | h2) <;> omega
  · rw [ext_lt (h.sp.lt g e)]
    exact h.rp g e
theorem bo_P {U : Option Addr} (h : Bo w ρ b O n oc P m pc vs us) (hb4 : Below w.heap.size w w4) (sp : SR w2 P' (m + 1) pc' (us ++ [v])) (hs : Stay (fun g => P = some ⟨g, 0, none⟩) (w4.alloc o) w2) (hp : P' = P ∨ P' = some ⟨(w4.alloc o).heap.size, 0, none⟩) :
    Bo (w2.setCell ⟨b, 1, none⟩ (.slice P' (m + 1) pc')) (ext w.heap.size ρ P' 3 U 1) b O n oc P' (m + 1) pc' vs (us ++ [v]) ∧ Stay (fun k => ρ k = 3 ∨ ρ k = 4) w (w2.setCell ⟨b, 1, none⟩ (.slice P' (m + 1) pc')) := by
  have hbl := blk_lt h.hb
  have hsz : w4.heap.size < (w4.alloc o).heap.size := by simp
  have hsz4 : w.heap.size ≤ w4.heap.size := hb4.size
  have hst : Stay (fun k => ρ k = 3 ∨ ρ k = 4) w w2 := ((Stay.of_below hb4).alloc o).trans (stay_of_one hs (ok := fun k => ρ k = 3 ∨ ρ k = 4) fun g e => .inl (h.rp g e)) (fun k _ e => e)
  have hP' : ∀ g : Nat, P' = some ⟨g, 0, none⟩ → (g < w.heap.size ∧ ρ g = 3) ∨ w.heap.size < g := fun g e => by
    rcases hp with rfl | rfl
    · exact .inl ⟨h.sp.lt g e, h.rp g e⟩
    · injection e with e
      injection e with e
      subst e
      exact .inr (by omega)
  have hb2 : w2.heap[b]? = some (.cells (bkCells O n oc P m pc) 42 (0, 0)) := by
    have h1 : ¬ (P = some ⟨b, 0, none⟩) := fun e => by have := h.rp b e; rw [h.rb] at this; omega
    exact (hs.block b (by omega) h1).trans ((heap_alloc_old w4 o (by omega)).trans ((hb4.block b hbl).trans h.hb))
  refine ⟨⟨?_, (ext_lt hbl).trans h.rb, h.so.keep fun g e => ?_, fun g e => ?_, sp.keep fun g e => ?_, fun g e => ?_⟩, hst.setCell (p := ⟨b, 1, none⟩) (.inl (.inr h.rb)) _⟩
  · exact heap_put hb2 1 _ (by simp [bkCells])
  · have hg := h.so.lt g e
    have hr := h.ro g e
    refine (hst.setCell (p := ⟨b, 1, none⟩) (.inl (.inr h.rb)) _).block g hg ?_
    rintro (h2 | h2) <;> omega
  · rw [ext_lt (h.so.lt g e)]
    exact h.ro g e
  · refine Below.heap_setCell w2 ⟨b, 1, none⟩ _ g ?_
    show g ≠ b
    rintro rfl
    rcases hP' g e with ⟨_, h2⟩ | h2
    · rw [h.rb] at h2; omega
    · omega
  · rcases hP' g e with ⟨h1, h2⟩ | h2
    · rw [ext_lt h1]; exact h2
    · unfold ext
      rw [if_neg (by omega), if_pos e]
theorem Rows.roles {ρ' : Nat → Nat} {rs : List RV} (h : Rows w ρ rs) (hr : ∀ k, k < w.heap.size → 5 ≤ ρ k → ρ' k = ρ k) : Rows w ρ' rs := fun i r hi => by
  obtain ⟨h1, h2, h3⟩ := h i r hi
  exact ⟨h1, h2, fun g e => (hr g (h1.lt g e) (by rw [h3 g e]; omega)).trans (h3 g e)⟩
theorem Was.roles {ρ' : Nat → Nat} {rs us : List RV} (h : Was w ρ rs us) (hr : ∀ k, k < w.heap.size → ρ k = 1 → ρ' k = ρ k) : Was w ρ' rs us := ⟨h.1, fun i u r hu hi => by
  obtain ⟨h1, h2, h3⟩ := h.2 i u r hu hi
  exact ⟨h1, h2, fun g e => (hr g (h2.lt g e) (h3 g e)).trans (h3 g e)⟩⟩
theorem Rows.snoc {rs : List RV} (h : Rows w ρ rs) {r : RV} (hF : FR w r.A r.l.length r.c r.l) (hl : r.l.length ≤ 1000000) (hr : ∀ g : Nat, r.A = some ⟨g, 0, none⟩ → ρ g = 5 + rs.length) : Rows w ρ (rs ++ [r]) := fun i x hi => by
  rcases Nat.lt_or_ge i rs.length with hlt | hge
  · rw [List.getElem?_append_left hlt] at hi
    exact h i x hi
  · rw [List.getElem?_append_right hge] at hi
    have hi0 : i - rs.length = 0 := by
      have := (List.getElem?_eq_some_iff.1 hi).1
      simp at this
      omega
    rw [hi0] at hi
    obtain rfl := Option.some.inj hi
    obtain rfl : i = rs.length := by omega
    exact ⟨hF, hl, hr⟩
theorem Was.snoc {rs us : List RV} (h : Was w ρ rs us) {r u : RV} (hl : u.l = r.l) (hF : FR w u.A u.l.length u.c u.l) (hr : ∀ g : Nat, u.A = some ⟨g, 0, none⟩ → ρ g = 1) : Was w ρ (rs ++ [r]) (us ++ [u]) := ⟨by simp [h.1], fun i x y hx hy => by
  rcases Nat.lt_or_ge i rs.length with hlt | hge
  · rw [List.getElem?_append_left hlt] at hy
    rw [List.getElem?_append_left (by rw [h.1]; exact hlt)] at hx
    exact h.2 i x y hx hy
  · rw [List.getElem?_append_right hge] at hy
    rw [List.getElem?_append_right (by rw [h.1]; exact hge), h.1] at hx
    have hi0 : i - rs.length = 0 := by
      have := (List.getElem?_eq_some_iff.1 hy).1
      simp at this
      omega
    rw [hi0] at hy hx
    obtain rfl := Option.some.inj hy
    obtain rfl := Option.some.inj hx
    exact ⟨hl, hF, hr⟩⟩
theorem CR.lt {A : Option Addr} {n : Nat} {l : List Int} (h : CR w A n l) (h0 : n ≠ 0) : ∀ g : Nat, A = some ⟨g, 0, none⟩ → g < w.heap.size := by
  intro g e
  obtain ⟨_, h1 | ⟨g', cs, e2, hh, _⟩⟩ := h
  · exact absurd h1 h0
  · rw [e2] at e
    injection e with e
    injection e with e
    subst e
    exact blk_lt hh
end
end Go.Proofs.Ytohphkdemonlkaa.Bi
/- The Book's method Fields, walked. -/
namespace Go.Proofs.Ytohphkdemonlkaa.Bi
open Go.RowKit Go.Proofs.Ytohphkdemonlkaa.XQt Go.Proofs.YtohphkdemonlkaaW.PrintWords Go.Proofs.YtohphkdemonlkaaW.PrintLast Go.Proofs.YtohphkdemonlkaaW.PrintMore Go.Proofs.Ytohphkdemonlkaa.Ob
theorem fz_of {w : World} {b : Nat} {cs : Array Value} {t : TypeId} (h : w.heap[b]? = some (.cells cs t (0, 0))) (j : Nat) : w.frozen? ⟨b, j, none⟩ = false := by simp [World.frozen?, h]
theorem first_below {w w5 : World} (hb : Below w.drew.heap.size w.drew w5) : Below w.heap.size w w5 := below_step (below_drew (Below.refl _ _)) hb
/-- What the method leaves, put together. -/
theorem fin_add {w w3 w4 w6 : World} {ρ : Nat → Nat} {b n m oc' pc uc : Nat} {O' P P' U A : Option Addr} {vs us : List Value} {l : List Int} {c : Nat} {o : Obj} {x : Value}
    (h3 : Bo w3 (ext w.heap.size ρ O' 2 none 0) b O' n oc' P m pc vs us) (hS3 : Stay (fun k => ρ k = 2 ∨ ρ k = 4) w w3) (hF3 : FR w3 A l.length c l) (hA : ∀ g : Nat, A = some ⟨g, 0, none⟩ → g < w.heap.size ∧ ρ g = 0)
    (hF4 : FR w4 U l.length uc l) (hU : ∀ g : Nat, U = some ⟨g, 0, none⟩ → w3.heap.size ≤ g) (hs6 : Stay (fun g => P = some ⟨g, 0, none⟩) (w4.alloc o) w6) (hp6 : P' = P ∨ P' = some ⟨(w4.alloc o).heap.size, 0, none⟩)
    (hS7 : Stay (fun k => ext w.heap.size ρ O' 2 none 0 k = 3 ∨ ext w.heap.size ρ O' 2 none 0 k = 4) w3 (w6.setCell ⟨b, 1, none⟩ x)) :
    FR (w6.setCell ⟨b, 1, none⟩ x) A l.length c l ∧ FR (w6.setCell ⟨b, 1, none⟩ x) U l.length uc l ∧ (∀ g : Nat, U = some ⟨g, 0, none⟩ → ext w3.heap.size (ext w.heap.size ρ O' 2 none 0) P' 3 U 1 g = 1) ∧
      (∀ k, k < w.heap.size → ext w3.heap.size (ext w.heap.size ρ O' 2 none 0) P' 3 U 1 k = ρ k) ∧ Stay (fun k => ρ k = 2 ∨ ρ k = 3 ∨ ρ k = 4) w (w6.setCell ⟨b, 1, none⟩ x) := by
  have hsz := hS3.size
  have hb3 : b < w3.heap.size := blk_lt h3.hb
  refine ⟨hF3.keep fun g e => hS7.block g (hF3.lt g e) ?_, hF4.keep fun g e => ?_, fun g e => ?_, fun k hk => ?_, ?_⟩
  · obtain ⟨h1, h2⟩ := hA g e
    rw [ext_lt h1]
    omega
  · have h1 := hU g e
    have h2 := hF4.lt g e
    have h3' : (w6.setCell ⟨b, 1, none⟩ x).heap[g]? = w6.heap[g]? := Below.heap_setCell w6 ⟨b, 1, none⟩ x g (by show g ≠ b; omega)
    exact h3'.trans ((hs6.block g (by simp; omega) (fun e2 => by have := h3.sp.lt g e2; omega)).trans (heap_alloc_old w4 o h2))
  · have h1 := hU g e
    have h2 := hF4.lt g e
    have hp : ¬ P' = some ⟨g, 0, none⟩ := by
      rcases hp6 with rfl | rfl
      · intro e2
        have := h3.sp.lt g e2
        omega
      · intro e2
        injection e2 with e2
        injection e2 with e2
        simp at e2
        omega
    unfold ext
    rw [if_neg (by omega), if_neg hp, if_pos e]
  · rw [ext_lt (by omega), ext_lt hk]
  · refine (hS3.mono fun k hk => by omega).trans hS7 fun k hk h => ?_
    rw [ext_lt hk] at h
    omega
set_option maxHeartbeats 3200000 in
set_option maxRecDepth 20000 in
theorem fields_add {w : World} {ρ : Nat → Nat} {b : Nat} {O P : Option Addr} {oc pc : Nat} {rs us : List RV} (hB : Bo w ρ b O rs.length oc P us.length pc (rs.map RV.v) (us.map RV.v)) (hW : us.length = rs.length) (hl : rs.length < 250) {A : Option Addr} {l : List Int} {c : Nat} (hF : FR w A l.length c l) (hll : l.length ≤ 1000000) (hr : ∀ g : Nat, A = some ⟨g, 0, none⟩ → ρ g = 0) :
    Calls Try.prog 22 #[.pointer (some ⟨b, 0, none⟩), .slice A l.length c] w fun e w' => e = .returned (.tuple #[]) ∧ ∃ (O' P' U : Option Addr) (oc' pc' uc : Nat) (ρ' : Nat → Nat), Bo w' ρ' b O' (rs.length + 1) oc' P' (us.length + 1) pc' (rs.map RV.v ++ [.slice A l.length c]) (us.map RV.v ++ [.slice U l.length uc]) ∧
      FR w' A l.length c l ∧ FR w' U l.length uc l ∧ (∀ g : Nat, U = some ⟨g, 0, none⟩ → ρ' g = 1) ∧ (∀ k, k < w.heap.size → ρ' k = ρ k) ∧ Stay (fun k => ρ k = 2 ∨ ρ k = 3 ∨ ρ k = 4) w w' := by
  have hvs : (rs.map RV.v).length = rs.length := List.length_map _
  have hus : (us.map RV.v).length = us.length := List.length_map _
  -- the first half
  have hso1 : SR (w.alloc (.cells #[.slice A l.length c] 33)) O rs.length oc (rs.map RV.v) := hB.so.keep fun g e => heap_alloc_old w _ (hB.so.lt g e)
  obtain ⟨O', oc', w2, hr2, so2, hs2, ho2⟩ := sr_run (d := 1) 36 hso1 (cells_of_heap (heap_alloc_new w (.cells #[.slice A l.length c] 33)) 0 (.slice A l.length c) rfl) rfl (by omega)
  obtain ⟨hB3, hS3⟩ := bo_O hB so2 hs2 ho2
  obtain ⟨k4, k5⟩ := bk_cell hB.hb
  have hbl := blk_lt hB.hb
  have hb2 : w2.heap[b]? = some (.cells (bkCells O rs.length oc P us.length pc) 42 (0, 0)) := by
    have h1 : ¬ (O = some ⟨b, 0, none⟩) := fun e => by have := hB.ro b e; rw [hB.rb] at this; omega
    exact (hs2.block b (by simp; omega) h1).trans ((heap_alloc_old w _ hbl).trans hB.hb)
  obtain ⟨q4, q5⟩ := bk_cell hb2
  have f2 : ∀ j, w2.frozen? ⟨b, j, none⟩ = false := fz_of hb2
  have hF3 : FR (w2.setCell ⟨b, 0, none⟩ (.slice O' (rs.length + 1) oc')) A l.length c l := hF.keep fun g e => hS3.block g (hF.lt g e) (by rw [hr g e]; omega)
  have HCp := Aside0.mk (fun (W : World) (hb : Below (w2.setCell ⟨b, 0, none⟩ (.slice O' (rs.length + 1) oc')).heap.size (w2.setCell ⟨b, 0, none⟩ (.slice O' (rs.length + 1) oc')) W) => copy_c (c := c) (Kd.C_below (hF3.cr.c (by omega)) hb) hll)
  obtain ⟨_, k5'⟩ := bk_cell hB3.hb
  have e1 : decide ((rs.length : Int) < 250) = true := decide_eq_true (by omega)
  have e1n : decide (rs.length < 250) = true := decide_eq_true hl
  have HB := Aside0.mk hB
  have HB3 := Aside0.mk hB3
  have HS3 := Aside0.mk hS3
  have HF3 := Aside0.mk hF3
  have HL := Aside0.mk (And.intro hl (And.intro hll (And.intro hW (And.intro hus hbl))))
  have HR := Aside0.mk (fun (g : Nat) (e : A = some ⟨g, 0, none⟩) => And.intro (hF.lt g e) (hr g e))
  clear hB hB3 hS3 hF3 hF hso1 so2 hs2 ho2 hb2 hvs hus hW hl hll hr
  go_enter Try.func22, Try.ntmps22
  go_wp2_with (first
    | ((with_reducible refine gate_builtin (b := .append) (xs := #[.tmp 14, .tmp 16]) rfl ?_); at_builtin; refine list_app_of rfl (.tmp 14) (.tmp 16) rfl hr2 ?_; clear hr2))
  generalize w2.setCell ⟨b, 0, none⟩ (.slice O' (rs.length + 1) oc') = w3 at HB3 HS3 HF3 HCp k5' ⊢
  clear k4 k5 q4 q5 f2 e1 e1n
  have mixed : Try.prog.follows Departure.mixedOrders = true := by kernel_rfl
  go_region_law (first
    | (refine step_app_of (by first | rfl | (simp [Region.wanted]; done)) (.tmp 24) (.tmp 27) rfl hr6 ?_; clear hr6)
    | (go_simp; go_wp2_with (first
      | (go_at_call 48; refine (HCp.out _ ?hb).mono ?_; (case hb => (repeat' first | exact Below.refl _ _ | (with_reducible refine below_drew ?_))); rintro e w4 ⟨U, uc, rfl, hF, hU, hb⟩; have hb34 := first_below hb; have hbo4 := HB3.out.keep (w' := w4) (fun k _ hk => hb34.block k hk); obtain ⟨P', pc', w6, hr6, sp6, hs6, hp6⟩ := sr_run (d := 1) (w := w4.alloc (.cells #[.slice U l.length uc] 33)) 36 (hbo4.sp.keep fun g e => heap_alloc_old w4 _ (hbo4.sp.lt g e)) (cells_of_heap (heap_alloc_new w4 (.cells #[.slice U l.length uc] 33)) 0 (.slice U l.length uc) rfl) rfl (by have := HL.out; omega); obtain ⟨hB7, hS7⟩ := bo_P (U := U) HB3.out hb34 sp6 hs6 hp6; have hbl6 := (hs6.block b (by have := hbo4.hb; have := blk_lt hbo4.hb; simp; omega) (fun e => by have := hbo4.rp b e; rw [hbo4.rb] at this; omega)).trans ((heap_alloc_old w4 _ (blk_lt hbo4.hb)).trans hbo4.hb); have f6 : ∀ j, w6.frozen? ⟨b, j, none⟩ = false := fz_of hbl6; have k6 := (bk_cell hbl6).2; have k4 := (bk_cell hbo4.hb).2; have k4a := (bk_cell ((heap_alloc_old w4 (.cells #[.slice U l.length uc] 33) (blk_lt hbo4.hb)).trans hbo4.hb)).2; have HK6 := Aside0.mk k6; have HK4 := Aside0.mk k4; have HB4 := Aside0.mk hb34; have HF4 := Aside0.mk hF; have HB7 := Aside0.mk hB7; have HS7 := Aside0.mk hS7; have HQ := Aside0.mk (And.intro hs6 (And.intro hp6 hU)); clear hb hF hb34 hbo4 sp6 hs6 hp6 hB7 hS7 hbl6 HCp))))
  all_goals
    first | go_end0 | ((try simp only [Exit.inBlock, Exit.then]); refine bodyPost_ret (results_none rfl _ _ _) rfl ?_)
    exact ⟨rfl, O', P', U, oc', pc', uc, _, HB7.out, fin_add HB3.out HS3.out HF3.out HR.out HF4.out HQ.out.2.2 HQ.out.1 HQ.out.2.1 HS7.out⟩
set_option maxHeartbeats 800000 in
theorem fields_full {w : World} {b : Nat} {O P : Option Addr} {n oc m pc : Nat} (hb : w.heap[b]? = some (.cells (bkCells O n oc P m pc) 42 (0, 0))) (hn : 250 ≤ n) (v : Value) : Calls Try.prog 22 #[.pointer (some ⟨b, 0, none⟩), v] w fun e w' => e = .returned (.tuple #[]) ∧ w' = w := by
  obtain ⟨k4, _⟩ := bk_cell hb
  have e1 : decide ((n : Int) < 250) = false := decide_eq_false (by omega)
  have e1n : decide (n < 250) = false := decide_eq_false (by omega)
  clear hb hn
  go_enter Try.func22, Try.ntmps22
  go_wp2
  first | go_end0 | ((try simp only [Exit.inBlock, Exit.then]); refine bodyPost_ret (results_none rfl _ _ _) rfl ?_)
  exact ⟨rfl, rfl⟩
/-- One more list: the row that is handed in is the Book's from now on. -/
theorem fields_c {w : World} {ρ : Nat → Nat} {b : Nat} (hK : Book w ρ b) {A : Option Addr} {l : List Int} {c : Nat} (hF : FR w A l.length c l) (hl : l.length ≤ 1000000) (hr : ∀ g : Nat, A = some ⟨g, 0, none⟩ → ρ g = 0) :
    Calls Try.prog 22 #[.pointer (some ⟨b, 0, none⟩), .slice A l.length c] w fun e w' => e = .returned (.tuple #[]) ∧ Stay (fun k => ρ k = 2 ∨ ρ k = 3 ∨ ρ k = 4) w w' ∧ ∃ ρ', Book w' ρ' b ∧ (∀ k, k < w.heap.size → A ≠ some ⟨k, 0, none⟩ → ρ' k = ρ k) ∧ ∀ g : Nat, A = some ⟨g, 0, none⟩ → ρ' g = 0 ∨ 5 ≤ ρ' g := by
  obtain ⟨O, oc, P, pc, rs, us, hB, hR, hW, hn⟩ := hK
  rcases Nat.lt_or_ge rs.length 250 with hlt | hge
  · refine (fields_add hB hW.1 hlt hF hl hr).mono ?_
    rintro e w' ⟨rfl, O', P', U, oc', pc', uc, ρ', hB', hA', hU', hu, hro, hs⟩
    refine ⟨rfl, hs, fun k => if A = some ⟨k, 0, none⟩ then 5 + rs.length else ρ' k, ?_, fun k hk hne => ?_, fun g e => .inr ?_⟩
    · have hkeep : ∀ k, k < w.heap.size → ¬ (ρ k = 2 ∨ ρ k = 3 ∨ ρ k = 4) → w'.heap[k]? = w.heap[k]? := fun k hk h => hs.block k hk h
      have hAr : ∀ k, k < w.heap.size → ρ k ≠ 0 → (if A = some ⟨k, 0, none⟩ then 5 + rs.length else ρ' k) = ρ k := fun k hk h => by
        rw [if_neg (fun e => h (hr k e)), hro k hk]
      have hw : w.heap.size ≤ w'.heap.size := hs.size
      have hlt' : ∀ (k : Nat) (X : Option Addr), ρ' k ≠ 0 → (if A = some ⟨k, 0, none⟩ then 5 + rs.length else ρ' k) = ρ' k := fun k _ h => by
        by_cases e : A = some ⟨k, 0, none⟩
        · have := hro k (hF.lt k e)
          rw [hr k e] at this
          exact absurd this h
        · rw [if_neg e]
      refine ⟨O', oc', P', pc', rs ++ [⟨A, c, l⟩], us ++ [⟨U, uc, l⟩], ?_, ?_, ?_, by simp; omega⟩
      · have e1 : (rs ++ [(⟨A, c, l⟩ : RV)]).map RV.v = rs.map RV.v ++ [.slice A l.length c] := by simp [RV.v]
        have e2 : (us ++ [(⟨U, uc, l⟩ : RV)]).map RV.v = us.map RV.v ++ [.slice U l.length uc] := by simp [RV.v]
        rw [e1, e2, List.length_append, List.length_append]
        exact ⟨hB'.hb, (hlt' b none (by rw [hB'.rb]; decide)).trans hB'.rb, hB'.so, fun g e => (hlt' g none (by rw [hB'.ro g e]; decide)).trans (hB'.ro g e), hB'.sp, fun g e => (hlt' g none (by rw [hB'.rp g e]; decide)).trans (hB'.rp g e)⟩
      · refine Rows.snoc ?_ hA' hl (fun g e => if_pos e)
        intro i r hi
        obtain ⟨h1, h2, h3⟩ := hR i r hi
        exact ⟨h1.keep fun g e => hkeep g (h1.lt g e) (by rw [h3 g e]; omega), h2, fun g e => (hAr g (h1.lt g e) (by rw [h3 g e]; omega)).trans (h3 g e)⟩
      · refine Was.snoc ?_ rfl hU' (fun g e => (hlt' g none (by rw [hu g e]; decide)).trans (hu g e))
        refine ⟨hW.1, fun i u r hu hi => ?_⟩
        obtain ⟨h1, h2, h3⟩ := hW.2 i u r hu hi
        exact ⟨h1, h2.keep fun g e => hkeep g (h2.lt g e) (by rw [h3 g e]; omega), fun g e => (hAr g (h2.lt g e) (by rw [h3 g e]; decide)).trans (h3 g e)⟩
    · show (if A = some ⟨k, 0, none⟩ then _ else _) = _
      rw [if_neg hne]
      exact hro k hk
    · show 5 ≤ (if A = some ⟨g, 0, none⟩ then _ else _)
      rw [if_pos e]
      omega
  · refine (fields_full hB.hb hge _).mono ?_
    rintro e w' ⟨rfl, rfl⟩
    exact ⟨rfl, Stay.refl _ _, ρ, ⟨O, oc, P, pc, rs, us, hB, hR, hW, hn⟩, fun _ _ _ => rfl, fun g e => .inl (hr g e)⟩
end Go.Proofs.Ytohphkdemonlkaa.Bi
/- The Book: each list is marked. -/
namespace Go.Proofs.Ytohphkdemonlkaa.Bi
open Go.RowKit Go.Proofs.Ytohphkdemonlkaa.XQt Go.Proofs.YtohphkdemonlkaaW.PrintWords Go.Proofs.YtohphkdemonlkaaW.PrintLast Go.Proofs.YtohphkdemonlkaaW.PrintMore Go.Proofs.Ytohphkdemonlkaa.Ob
theorem reps_icells {R : Int → List Value → Prop} (hR : ∀ p c, R p c → c = [.int .i64 p]) : ∀ (l : List Int) (cs : List Value), Reps R 1 l cs → cs = icells l
  | [], cs, h => List.eq_nil_of_length_eq_zero (by simpa using h.1)
  | x :: l, cs, h => by
    have hl := h.1
    rw [List.length_cons] at hl
    match cs, hl, h with
    | [], hl, _ => exact absurd hl (by simp)
    | a :: r, hl, h =>
      have h0 := hR _ _ (h.2 0 x rfl)
      simp at h0
      subst h0
      have := reps_icells hR l r ⟨by simp only [List.length_cons] at hl; omega, fun j p hj => by
        have := h.2 (j + 1) p (by simpa using hj)
        rw [show (j + 1) * 1 = j * 1 + 1 by omega] at this
        simpa using this⟩
      rw [this]
      rfl
theorem fr_of_R {w : World} {base : Nat} {ok : Nat → Prop} {v : Value} {l : List Int} (h : kI.R 3 w base ok v l) : ∃ A c, v = .slice A l.length c ∧ FR w A l.length c l ∧ ∀ g : Nat, A = some ⟨g, 0, none⟩ → base ≤ g := by
  obtain ⟨h0, inner, ⟨h1, hr⟩, hreps⟩ := h
  obtain rfl := reps_icells (fun p c hp => hp) l inner hreps
  rcases hr with ⟨rfl, h2⟩ | ⟨g, cap, cur, rfl, hb, hh, hrest⟩
  · obtain rfl := List.eq_nil_of_length_eq_zero h2
    exact ⟨none, 0, rfl, FR.nil _, fun g e => by cases e⟩
  · refine ⟨_, cap, rfl, ⟨rfl, h1, .inr ⟨g, cap, cur, rfl, Nat.zero_le _, hh, hrest⟩⟩, fun g' e => ?_⟩
    injection e with e
    injection e with e
    omega
theorem mark_f (i F N : Nat) (h : F + N ≤ 3000000) (w : World) : Calls Try.prog 86 #[.int .i64 i, .int .i64 F, .int .i64 N] w fun e w' => ∃ A c, e = .returned (.slice A N c) ∧ FR w' A N c (mk i F N) ∧ (∀ g : Nat, A = some ⟨g, 0, none⟩ → w.heap.size ≤ g) ∧ Below w.heap.size w w' := by
  obtain ⟨k, hk⟩ : ∃ k, k = N + 1 := ⟨_, rfl⟩
  refine (bywashbook_markInts.calls k i F N (mk i F N) w (mark_eq i F N k h (by omega))).mono ?_
  rintro e w' ⟨v, rfl, hR, hb⟩
  obtain ⟨A, c, rfl, hF, hg⟩ := fr_of_R hR
  have hn := mk_len i F N
  rw [hn] at hF ⊢
  exact ⟨A, c, rfl, hF, hg, hb⟩
theorem fr_elem {w : World} {A : Option Addr} {n c : Nat} {l : List Int} (h : FR w A n c l) (j : Nat) (x : Int) (hj : l[j]? = some x) : ∃ g : Nat, A = some ⟨g, 0, none⟩ ∧ g < w.heap.size ∧ w.cell? ⟨g, j, none⟩ = some (.int .i64 x) ∧ ∀ i, w.frozen? ⟨g, i, none⟩ = false := by
  have hl := (List.getElem?_eq_some_iff.1 hj).1
  have hn := h.1
  rcases h.cases with ⟨_, e, _⟩ | ⟨g, cur, e, hh, hnc, _, hcs, ht⟩
  · rw [e] at hl; cases hl
  · have h0 := icells_get l j x hj
    rw [← ht, List.getElem?_take, if_pos (by omega), Array.getElem?_toList, Nat.mul_one] at h0
    exact ⟨g, e, blk_lt hh, cells_of_heap hh _ _ h0, fz_of hh⟩
theorem rows_put {w : World} {ρ : Nat → Nat} {rs : List RV} {i g k : Nat} {r : RV} {x : Int} (h : Rows w ρ rs) (hi : rs[i]? = some r) (hA : r.A = some ⟨g, 0, none⟩) (hk : k < r.l.length) :
    Rows (w.setCell ⟨g, k, none⟩ (.int .i64 x)) ρ (rs.set i ⟨r.A, r.c, r.l.set k x⟩) := fun j s hs => by
  obtain ⟨h1, h2, h3⟩ := h i r hi
  have hil : i < rs.length := (List.getElem?_eq_some_iff.1 hi).1
  by_cases hij : i = j
  · subst hij
    rw [List.getElem?_set_self hil] at hs
    obtain rfl := Option.some.inj hs
    refine ⟨?_, by rw [List.length_set]; exact h2, h3⟩
    show FR _ r.A (r.l.set k x).length r.c (r.l.set k x)
    rw [List.length_set]
    rw [hA] at h1 ⊢
    have := h1.put k hk x
    rw [Nat.mul_one] at this
    exact this
  · rw [List.getElem?_set_ne hij] at hs
    obtain ⟨q1, q2, q3⟩ := h j s hs
    refine ⟨q1.keep fun g' e => ?_, q2, q3⟩
    have hne : g' ≠ g := by
      rintro rfl
      have := q3 _ e
      have := h3 _ hA
      omega
    exact Below.heap_setCell _ ⟨g, k, none⟩ _ g' hne
theorem rows_v {rs rs' : List RV} (h : rs'.map RV.v = rs.map RV.v) {i : Nat} {r : RV} (hi : rs'[i]? = some r) : ∃ s, rs[i]? = some s ∧ r.v = s.v := by
  have h1 : (rs'.map RV.v)[i]? = (rs.map RV.v)[i]? := by rw [h]
  rw [List.getElem?_map, List.getElem?_map, hi] at h1
  cases hs : rs[i]? with
  | none => rw [hs] at h1; cases h1
  | some s =>
    rw [hs] at h1
    exact ⟨s, rfl, Option.some.inj h1⟩
theorem set_v {rs : List RV} {i k : Nat} {r : RV} {x : Int} (hi : rs[i]? = some r) : (rs.set i ⟨r.A, r.c, r.l.set k x⟩).map RV.v = rs.map RV.v := by
  rw [List.map_set]
  apply List.ext_getElem?
  intro j
  by_cases hij : i = j
  · subst hij
    have hil : i < rs.length := (List.getElem?_eq_some_iff.1 hi).1
    rw [List.getElem?_set_self (by simpa using hil), List.getElem?_map, hi]
    simp [RV.v]
  · rw [List.getElem?_set_ne hij]
theorem mk_get (i n k : Nat) (hk : k < n) : (mk i 0 n)[k]? = some (nm i k) := by
  unfold mk
  rw [List.getElem?_map, List.getElem?_range' hk]
  simp
theorem mk_snoc (i k : Nat) : mk i 0 (k + 1) = mk i 0 k ++ [nm i k] := by
  rw [← mk_app i k 1]
  rfl
theorem rows_drew {w : World} {ρ : Nat → Nat} {rs : List RV} (h : Rows w ρ rs) : Rows w.drew ρ rs := h
theorem fr_drew {w : World} {A : Option Addr} {n c : Nat} {l : List Int} (h : FR w A n c l) : FR w.drew A n c l := h
theorem stay_drew {w w' : World} {ok : Nat → Prop} (h : Stay ok w w') : Stay ok w w'.drew := h.drewN 1
theorem put_take {rq : List RV} {i k n : Nat} {A : Option Addr} {c : Nat} {l : List Int} {x : Int} (h1 : rq[i]? = some ⟨A, c, l⟩) (h2 : l.length = n) (h3 : l.take k = mk i 0 k) (hx : nm i k = x) (hk : k < n) :
    ∃ l', (rq.set i ⟨A, c, l.set k x⟩)[i]? = some ⟨A, c, l'⟩ ∧ l'.length = n ∧ l'.take (k + 1) = mk i 0 (k + 1) := by
  refine ⟨l.set k x, List.getElem?_set_self (List.getElem?_eq_some_iff.1 h1).1, by rw [List.length_set]; exact h2, ?_⟩
  rw [List.take_succ_eq_append_getElem (by rw [List.length_set]; omega), List.getElem_set_self, List.take_set_of_le (Nat.le_refl _), h3, mk_snoc, hx]
set_option maxHeartbeats 3200000 in
set_option maxRecDepth 20000 in
theorem put_c {w : World} {ρ : Nat → Nat} {b : Nat} {O P : Option Addr} {oc pc m : Nat} {us : List Value} {rs : List RV} (hB : Bo w ρ b O rs.length oc P m pc (rs.map RV.v) us) (hR : Rows w ρ rs) (hl : rs.length ≤ 250) :
    Calls Try.prog 54 #[.pointer (some ⟨b, 0, none⟩)] w fun e w' => e = .returned (.tuple #[]) ∧ Stay (fun k => 5 ≤ ρ k) w w' ∧ ∃ rs', rs'.map RV.v = rs.map RV.v ∧ Rows w' ρ rs' ∧ ∀ (i : Nat) (r : RV), rs'[i]? = some r → r.l = mk i 0 r.l.length := by
  have HB := Aside0.mk hB
  have HR := Aside0.mk hR
  have HL := Aside0.mk hl
  clear hB hR hl
  go_enter Try.func54, Try.ntmps54
  go_wp2
  go_loopg [2] (rs.length + 1) (fun kq v2 w' => ∃ (i : Nat) (rs' : List RV), v2 = .int .i64 i ∧ Aside0 (i + kq = rs.length + 1 ∧ 1 ≤ kq) ∧ Aside0 (rs'.map RV.v = rs.map RV.v) ∧ Aside0 (Rows w' ρ rs') ∧ Aside0 (∀ j r, j < i → rs'[j]? = some r → r.l = mk j 0 r.l.length) ∧ Aside0 (Stay (fun k => 5 ≤ ρ k) w w'))
  case atStart => exact ⟨0, rs, rfl, ⟨by omega, by omega⟩, ⟨rfl⟩, HR, ⟨fun j r h => absurd h (Nat.not_lt_zero _)⟩, ⟨Stay.refl _ _⟩⟩
  case round =>
    obtain ⟨i, rs', rfl, HJ, HV, HR', HM, HS⟩ := hrel
    have hlen : rs'.length = rs.length := by have := congrArg List.length HV.out; simpa using this
    have hb2 := HB.out.keep (w' := wr) fun k hk hlt => HS.out.block k hlt (by omega)
    obtain ⟨k4, k5⟩ := bk_cell hb2.hb
    by_cases hj : i < rs.length
    · have e1 : decide ((i : Int) < (rs.length : Int)) = true := decide_eq_true (by omega)
      have e1n : decide (i < rs.length) = true := decide_eq_true hj
      rw [← HV.out] at hb2
      obtain ⟨gO, hO, hgO, c4⟩ := row_at hb2.so i (by omega)
      obtain ⟨hf, hfl, hf3⟩ := HR'.out i rs'[i] (List.getElem?_eq_getElem (by omega))
      have hri : rs'[i]? = some rs'[i] := List.getElem?_eq_getElem (by omega)
      generalize rs'[i] = r at c4 hf hfl hf3 hri
      obtain ⟨rA, rc, rl⟩ := r
      dsimp only at c4 hf hfl hf3
      have HRI := Aside0.mk hri
      have HMk := Aside0.mk (fun (W : World) => mark_f i 0 rl.length (by omega) W)
      have HF := Aside0.mk (And.intro hf.lt (And.intro hfl hlen))
      have HO := Aside0.mk hgO
      have HJ2 := Aside0.mk hj
      have p1 : (0 : Int) ≤ (i : Int) := by omega
      have p2 : (i : Int) < (rs.length : Int) := by omega
      have hwj : wrap64 ((i : Int) + 1) = ((i + 1 : Nat) : Int) := w64_next i (by have := HL.out; omega)
      have HWJ := Aside0.mk hwj
      subst hO
      clear hb2 hf hfl hf3 hri hj hlen
      go_wp2_with (first
        | (go_at_call 86; refine (HMk.out _).mono ?_; rintro e w2 ⟨M, mc, rfl, hF, hM, hb⟩; have HF2 := Aside0.mk hF; have HB2 := Aside0.mk hb; have HM2 := Aside0.mk hM; clear hb hF hM HMk))
      have HNE : Aside0 (∀ g g' : Nat, rA = some ⟨g, 0, none⟩ → M = some ⟨g', 0, none⟩ → g' ≠ g) := ⟨fun g g' h1 h2 => by have := HF.out.1 g h1; have := HM2.out g' h2; omega⟩
      have HS2 : Aside0 (Stay (fun k => 5 ≤ ρ k) w w2) := ⟨HS.out.trans (Stay.of_below (ok := fun k => 5 ≤ ρ k) HB2.out) (fun _ _ e => e)⟩
      have HR2 : Aside0 (Rows w2 ρ rs') := ⟨HR'.out.keep fun k _ hk => HB2.out.block k hk⟩
      have HG : Aside0 (i + gk = rs.length + 1 ∧ 1 ≤ gk) := HJ
      have HRL := Aside0.mk (And.intro HF.out.2.1 HF.out.2.2)
      clear k4 k5 c4 HF HB2 HM2 HS HR' HJ HO hgO
      go_loopg [4] (rl.length + 1) (fun kq v4 w' => ∃ (k : Nat) (rq : List RV), v4 = .int .i64 k ∧ Aside0 (k + kq = rl.length + 1 ∧ 1 ≤ kq) ∧ Aside0 (rq.map RV.v = rs.map RV.v) ∧ Aside0 (Rows w' ρ rq) ∧ Aside0 (∀ j r, j < i → rq[j]? = some r → r.l = mk j 0 r.l.length) ∧ Aside0 (∃ l', rq[i]? = some ⟨rA, rc, l'⟩ ∧ l'.length = rl.length ∧ l'.take k = mk i 0 k) ∧ Aside0 (Stay (fun k => 5 ≤ ρ k) w w') ∧ Aside0 (FR w' M rl.length mc (mk i 0 rl.length)))
      case atStart => exact ⟨0, rs', rfl, ⟨by omega, by omega⟩, HV, HR2, HM, ⟨rl, HRI.out, rfl, by simp [mk]⟩, HS2, HF2⟩
      case round =>
        obtain ⟨k, rq, rfl, HK, HVq, HRq, HMq, HIq, HSq, HFq⟩ := hrel
        have hb2 := HB.out.keep (w' := wr) fun k hk hlt => HSq.out.block k hlt (by omega)
        obtain ⟨k4, k5⟩ := bk_cell hb2.hb
        by_cases hk : k < rl.length
        · have e2 : decide ((k : Int) < (rl.length : Int)) = true := decide_eq_true (by omega)
          have e2n : decide (k < rl.length) = true := decide_eq_true hk
          rw [← HVq.out] at hb2
          obtain ⟨l', hq1, hq2, hq3⟩ := HIq.out
          have hql : i < rq.length := (List.getElem?_eq_some_iff.1 hq1).1
          obtain ⟨gO', hO', hgO', c4⟩ := row_at hb2.so i hql
          injection hO' with hO'
          injection hO' with hO'
          subst hO'
          have hx : rq[i] = ⟨rA, rc, l'⟩ := by
            rw [List.getElem?_eq_getElem hql] at hq1
            exact Option.some.inj hq1
          rw [hx] at c4
          dsimp only at c4
          obtain ⟨hf, hfx, hfy⟩ := HRq.out i _ hq1
          dsimp only at hf
          have hkl : k < l'.length := by omega
          obtain ⟨gA, hA, hgA, s0, fz⟩ := fr_elem hf k l'[k] (List.getElem?_eq_getElem hkl)
          generalize l'[k] = u0 at s0
          obtain ⟨gM, hMe, hgM, m0, fzM⟩ := fr_elem HFq.out k (nm i k) (mk_get i rl.length k hk)
          rw [hq2] at c4
          have p3 : (0 : Int) ≤ (k : Int) := by omega
          have p4 : (k : Int) < (rl.length : Int) := by omega
          have hwk : wrap64 ((k : Int) + 1) = ((k + 1 : Nat) : Int) := w64_next k (by have := HRL.out.1; omega)
          have HWK := Aside0.mk hwk
          have HK2 := Aside0.mk hk
          have HRole : Aside0 (5 ≤ ρ gA) := ⟨by rw [hfy gA hA]; omega⟩
          have HNE2 : Aside0 (gM ≠ gA) := ⟨HNE.out gA gM hA hMe⟩
          have HQ := Aside0.mk (And.intro hq1 (And.intro hq2 hq3))
          subst hA
          subst hMe
          clear hb2 hx hq3 hf hfx hfy hkl hql hgO' hgA hgM fzM
          generalize hnm : nm i k = x at m0
          have HX := Aside0.mk hnm
          clear hnm hq1 hq2 hk
          go_wp2
          go_region_with (fail)
          all_goals
            go_wp2
            go_roundg (gk - 1)
          all_goals first
            | (have := HK.out; have := HK2.out; omega)
            | exact ⟨k + 1, rq.set i ⟨some ⟨gA, 0, none⟩, rc, l'.set k x⟩, congrArg (Value.int .i64) HWK.out, ⟨by have := HK.out; omega, by have := HK.out; have := HK2.out; omega⟩, ⟨(set_v HQ.out.1).trans HVq.out⟩, ⟨rows_drew (rows_put HRq.out HQ.out.1 rfl (by have := HK2.out; have := HQ.out.2.1; show k < l'.length; omega))⟩, ⟨fun j r hj hr => by rw [List.getElem?_set_ne (by omega)] at hr; exact HMq.out j r hj hr⟩, ⟨put_take HQ.out.1 HQ.out.2.1 HQ.out.2.2 HX.out HK2.out⟩, ⟨stay_drew (HSq.out.setCell (p := ⟨gA, k, none⟩) (.inl HRole.out) _)⟩, ⟨fr_drew (HFq.out.keep fun g e => Below.heap_setCell _ ⟨gA, k, none⟩ _ g (HNE.out gA g rfl e))⟩⟩
        · have e2 : decide ((k : Int) < (rl.length : Int)) = false := decide_eq_false (by omega)
          have e2n : decide (k < rl.length) = false := decide_eq_false hk
          clear hb2 k4 k5
          go_wp2
          go_roundg (rs.length - i)
          case measure => have := HG.out; have := HJ2.out; omega
          case rel =>
            refine ⟨i + 1, rq, congrArg (Value.int .i64) HWJ.out, ⟨by have := HJ2.out; omega, by have := HJ2.out; omega⟩, HVq, HRq, ⟨fun j r hj hr => ?_⟩, HSq⟩
            rcases Nat.lt_or_ge j i with h1 | h1
            · exact HMq.out j r h1 hr
            · obtain rfl : j = i := by omega
              obtain ⟨l', h2, h3, h4⟩ := HIq.out
              rw [h2] at hr
              obtain rfl := Option.some.inj hr
              dsimp only
              have hkn : k = l'.length := by have := HK.out; omega
              rw [hkn, List.take_length] at h4
              exact h4
    · have e1 : decide ((i : Int) < (rs.length : Int)) = false := decide_eq_false (by omega)
      have e1n : decide (i < rs.length) = false := decide_eq_false hj
      clear hb2
      go_wp2
      first | go_end0 | ((try simp only [Exit.inBlock, Exit.then]); refine bodyPost_ret (results_none rfl _ _ _) rfl ?_)
      refine ⟨rfl, HS.out, rs', HV.out, HR'.out, fun j r hr => HM.out j r ?_ hr⟩
      have := (List.getElem?_eq_some_iff.1 hr).1
      omega
end Go.Proofs.Ytohphkdemonlkaa.Bi
/- The Book: each list is grown. -/
namespace Go.Proofs.Ytohphkdemonlkaa.Bi
open Go.RowKit Go.Proofs.Ytohphkdemonlkaa.XQt Go.Proofs.YtohphkdemonlkaaW.PrintWords Go.Proofs.YtohphkdemonlkaaW.PrintLast Go.Proofs.YtohphkdemonlkaaW.PrintMore Go.Proofs.Ytohphkdemonlkaa.Ob
theorem mark_1 (i F : Nat) (h : F + 1 ≤ 3000000) (w : World) : Calls Try.prog 86 #[.int .i64 i, .int .i64 F, .int .i64 1] w fun e w' => ∃ A c, e = .returned (.slice A 1 c) ∧ FR w' A 1 c (mk i F 1) ∧ (∀ g : Nat, A = some ⟨g, 0, none⟩ → w.heap.size ≤ g) ∧ Below w.heap.size w w' := mark_f i F 1 h w
theorem mark_60 (i F : Nat) (h : F + 60 ≤ 3000000) (w : World) : Calls Try.prog 86 #[.int .i64 i, .int .i64 F, .int .i64 60] w fun e w' => ∃ A c, e = .returned (.slice A 60 c) ∧ FR w' A 60 c (mk i F 60) ∧ (∀ g : Nat, A = some ⟨g, 0, none⟩ → w.heap.size ≤ g) ∧ Below w.heap.size w w' := mark_f i F 60 h w
/-- A row's beginning stays while the row grows; the row lies where it lay, or in a new block. -/
structure Gr (wi w : World) (rA : Option Addr) (n : Nat) (l0 : List Int) (A : Option Addr) (N c : Nat) (l : List Int) : Prop where
  fr : FR w A N c l
  cr : CR w rA n l0
  pre : n ≤ N ∧ l.take n = l0
  at_ : A = rA ∨ ∃ g : Nat, A = some ⟨g, 0, none⟩ ∧ wi.heap.size ≤ g
  st : Stay (fun k => rA = some ⟨k, 0, none⟩) wi w
theorem Gr.step {wi w w1 w2 : World} {rA A A2 : Option Addr} {n N c c2 m : Nat} {l0 l mm : List Int} (h : Gr wi w rA n l0 A N c l) (hrA : ∀ g : Nat, rA = some ⟨g, 0, none⟩ → g < wi.heap.size) (hb : Below w.heap.size w w1)
    (ho : (A2 = A ∧ Stay (fun g => A = some ⟨g, 0, none⟩) w1 w2) ∨ (A2 = some ⟨w1.heap.size, 0, none⟩ ∧ Below w1.heap.size w1 w2)) (hF : FR w2 A2 (N + m) c2 (l ++ mm)) : Gr wi w2 rA n l0 A2 (N + m) c2 (l ++ mm) := by
  have hpre : n ≤ N + m ∧ (l ++ mm).take n = l0 := ⟨Nat.le_trans h.pre.1 (Nat.le_add_right _ _), by rw [List.take_append_of_le_length (by rw [← h.fr.1]; exact h.pre.1)]; exact h.pre.2⟩
  have hs1 : Stay (fun k => rA = some ⟨k, 0, none⟩) wi w1 := h.st.trans (Stay.of_below (ok := fun k => rA = some ⟨k, 0, none⟩) hb) (fun _ _ e => e)
  have hc1 : CR w1 rA n l0 := h.cr.keep fun g _ hg => hb.block g hg
  rcases ho with ⟨rfl, hs⟩ | ⟨rfl, hb2⟩
  · rcases h.at_ with rfl | ⟨g', rfl, hg'⟩
    · exact ⟨hF, by have := hF.take n hpre.1; rw [hpre.2] at this; exact this, hpre, .inl rfl, hs1.trans hs (fun _ _ e => e)⟩
    · refine ⟨hF, hc1.keep fun g e hg => hs.block g hg fun e2 => ?_, hpre, .inr ⟨g', rfl, hg'⟩, hs1.trans hs fun k hk e => ?_⟩
      · injection e2 with e2
        injection e2 with e2
        have := hrA g e
        omega
      · injection e with e
        injection e with e
        omega
  · exact ⟨hF, hc1.keep fun g _ hg => hb2.block g hg, hpre, .inr ⟨_, rfl, hs1.size⟩, hs1.trans (Stay.of_below (ok := fun k => rA = some ⟨k, 0, none⟩) hb2) (fun _ _ e => e)⟩
/-- What is held between two rounds. -/
structure Gw (w : World) (ρ σ : Nat → Nat) (rs : List RV) (i : Nat) (G : Option Addr) (gc : Nat) (os : List RV) (w' : World) : Prop where
  sg : SR w' G i gc (os.map RV.v)
  rg : ∀ g : Nat, G = some ⟨g, 0, none⟩ → σ g = 1 ∧ w.heap.size ≤ g
  fo : ∀ (j : Nat) (o : RV), os[j]? = some o → FR w' o.A o.l.length o.c o.l ∧ o.l = Bi.mk j 0 o.l.length ∧ o.l.length ≤ 2000000 ∧ ∀ g : Nat, o.A = some ⟨g, 0, none⟩ → σ g = 5 + j
  cr : ∀ (j : Nat) (r : RV), rs[j]? = some r → CR w' r.A r.l.length r.l
  fr : ∀ (j : Nat) (r : RV), i ≤ j → rs[j]? = some r → FR w' r.A r.l.length r.c r.l
  ro : ∀ k, k < w.heap.size → σ k = ρ k
  st : Stay (fun k => 5 ≤ ρ k) w w'
theorem Gw.len {w w' : World} {ρ σ : Nat → Nat} {rs os : List RV} {i gc : Nat} {G : Option Addr} (h : Gw w ρ σ rs i G gc os w') : os.length = i := by
  have := h.sg.1
  rw [List.length_map] at this
  exact this.symm
theorem Gw.step {w wi w5 w7 : World} {ρ σ : Nat → Nat} {rs os : List RV} {i gc gc' c5 : Nat} {G G' A5 : Option Addr} {r : RV} {o : Obj} {l5 : List Int} (h : Gw w ρ σ rs i G gc os wi) (hR : Rows w ρ rs) (hi : rs[i]? = some r) (hg : Gr wi w5 r.A r.l.length r.l A5 l5.length c5 l5) (hl5 : l5 = Bi.mk i 0 l5.length) (hn5 : l5.length ≤ 2000000)
    (hs : SR w7 G' (i + 1) gc' (os.map RV.v ++ [.slice A5 l5.length c5])) (hst : Stay (fun g => G = some ⟨g, 0, none⟩) (w5.alloc o) w7) (hG : G' = G ∨ G' = some ⟨(w5.alloc o).heap.size, 0, none⟩) :
    ∃ σ', Gw w ρ σ' rs (i + 1) G' gc' (os ++ [⟨A5, c5, l5⟩]) w7 := by
  have hszi : w.heap.size ≤ wi.heap.size := h.st.size
  have hsz5 : wi.heap.size ≤ w5.heap.size := hg.st.size
  have hsz6 : w5.heap.size < (w5.alloc o).heap.size := by simp
  -- what stays from wi to w7: a block of another part than row i's and than out's
  have hkeep : ∀ g, g < wi.heap.size → σ g ≠ 5 + i → σ g ≠ 1 → w7.heap[g]? = wi.heap[g]? := fun g hg1 hg2 hg3 => by
    have h1 : ¬ r.A = some ⟨g, 0, none⟩ := fun e => by
      obtain ⟨hf, _, hro⟩ := hR i r hi
      exact hg2 ((h.ro g (hf.lt g e)).trans (hro g e))
    have h2 : ¬ G = some ⟨g, 0, none⟩ := fun e => hg3 (h.rg g e).1
    exact (hst.block g (by omega) h2).trans ((heap_alloc_old w5 o (by omega)).trans (hg.st.block g hg1 h1))
  have hrole : ∀ (j : Nat) (s : RV), rs[j]? = some s → ∀ g : Nat, s.A = some ⟨g, 0, none⟩ → g < w.heap.size ∧ σ g = 5 + j := fun j s hs g e => by
    obtain ⟨hf, _, hro⟩ := hR j s hs
    exact ⟨hf.lt g e, (h.ro g (hf.lt g e)).trans (hro g e)⟩
  -- row i's own block, and the grown row's: not out's
  have hkeep5 : ∀ g : Nat, g < w5.heap.size → (A5 = some ⟨g, 0, none⟩ ∨ r.A = some ⟨g, 0, none⟩) → w7.heap[g]? = w5.heap[g]? := fun g hg5 e => by
    have h2 : ¬ G = some ⟨g, 0, none⟩ := fun eG => by
      have h3 := h.sg.lt g eG
      have h4 := (h.rg g eG).1
      have h5 : r.A = some ⟨g, 0, none⟩ → False := fun e5 => by
        have := (hrole i r hi g e5).2
        omega
      rcases e with e | e
      · rcases hg.at_ with e2 | ⟨g', e2, hg'⟩
        · exact h5 (e2.symm.trans e)
        · rw [e2] at e
          injection e with e
          injection e with e
          omega
      · exact h5 e
    exact (hst.block g (by omega) h2).trans (heap_alloc_old w5 o hg5)
  refine ⟨fun k => if k < wi.heap.size then σ k else if k < w5.heap.size then 5 + i else 1, ?_, fun g e => ?_, fun j x hx => ?_, fun j x hx => ?_, fun j x hj hx => ?_, fun k hk => ?_, ?_⟩
  · rw [List.map_append]
    exact hs
  · rcases hG with rfl | rfl
    · have h1 := h.sg.lt g e
      show (if g < wi.heap.size then σ g else _) = 1 ∧ _
      rw [if_pos h1]
      exact h.rg g e
    · injection e with e
      injection e with e
      subst e
      show (if _ < wi.heap.size then _ else if _ < w5.heap.size then _ else 1) = 1 ∧ _
      rw [if_neg (by omega), if_neg (by omega)]
      exact ⟨rfl, by omega⟩
  · rcases Nat.lt_or_ge j os.length with hlt | hge
    · rw [List.getElem?_append_left hlt] at hx
      obtain ⟨h1, h2, h3, h4⟩ := h.fo j x hx
      have hji : j < i := by rw [← h.len]; exact hlt
      refine ⟨h1.keep fun g e => hkeep g (h1.lt g e) (by rw [h4 g e]; omega) (by rw [h4 g e]; omega), h2, h3, fun g e => ?_⟩
      show (if g < wi.heap.size then σ g else _) = _
      rw [if_pos (h1.lt g e)]
      exact h4 g e
    · rw [List.getElem?_append_right hge] at hx
      have hj0 : j - os.length = 0 := by
        have := (List.getElem?_eq_some_iff.1 hx).1
        simp at this
        omega
      rw [hj0] at hx
      obtain rfl := Option.some.inj hx
      have hji : j = i := by rw [← h.len]; omega
      subst hji
      refine ⟨hg.fr.keep fun g e => hkeep5 g (hg.fr.lt g e) (.inl e), hl5, hn5, fun g e => ?_⟩
      have h5 := hg.fr.lt g e
      show (if g < wi.heap.size then σ g else if g < w5.heap.size then 5 + j else 1) = 5 + j
      rcases hg.at_ with e2 | ⟨g', e2, hg'⟩
      · have e3 : r.A = some ⟨g, 0, none⟩ := e2.symm.trans e
        obtain ⟨h6, h7⟩ := hrole j r hi g e3
        rw [if_pos (by omega)]
        exact h7
      · have e3 : (some ⟨g, 0, none⟩ : Option Addr) = some ⟨g', 0, none⟩ := e.symm.trans e2
        injection e3 with e3
        injection e3 with e3
        rw [if_neg (by omega), if_pos h5]
  · by_cases hji : j = i
    · subst hji
      rw [hi] at hx
      obtain rfl := Option.some.inj hx
      exact hg.cr.keep fun g e hlt => hkeep5 g hlt (.inr e)
    · exact (h.cr j x hx).keep fun g e hlt => hkeep g hlt (by rw [(hrole j x hx g e).2]; omega) (by rw [(hrole j x hx g e).2]; omega)
  · exact (h.fr j x (by omega) hx).keep fun g e => hkeep g (by have := (hrole j x hx g e).1; omega) (by rw [(hrole j x hx g e).2]; omega) (by rw [(hrole j x hx g e).2]; omega)
  · show (if k < wi.heap.size then σ k else _) = _
    rw [if_pos (by omega)]
    exact h.ro k hk
  · refine ((h.st.trans hg.st fun k hk e => ?_).alloc o).trans hst fun k hk e => ?_
    · obtain ⟨hf, _, hro⟩ := hR i r hi
      rw [hro k e]
      omega
    · have := (h.rg k e).2
      omega
end Go.Proofs.Ytohphkdemonlkaa.Bi
/- The Book: the walk that grows its lists. -/
namespace Go.Proofs.Ytohphkdemonlkaa.Bi
open Go.RowKit Go.Proofs.Ytohphkdemonlkaa.XQt Go.Proofs.YtohphkdemonlkaaW.PrintWords Go.Proofs.YtohphkdemonlkaaW.PrintLast Go.Proofs.YtohphkdemonlkaaW.PrintMore Go.Proofs.Ytohphkdemonlkaa.Ob
theorem gw_start {w : World} {ρ : Nat → Nat} {rs : List RV} (hR : Rows w ρ rs) : Gw w ρ ρ rs 0 none 0 [] w :=
  ⟨SR.nil _, (fun g e => by cases e), (fun j o h => by simp at h), (fun j r h => (hR j r h).1.cr), (fun j r _ h => (hR j r h).1), (fun _ _ => rfl), Stay.refl _ _⟩
theorem gr_start {w wi : World} {ρ σ : Nat → Nat} {rs os : List RV} {i gc : Nat} {G : Option Addr} (h : Gw w ρ σ rs i G gc os wi) {r : RV} (hi : rs[i]? = some r) (hm : r.l = mk i 0 r.l.length) : Gr wi wi r.A r.l.length r.l r.A r.l.length r.c (mk i 0 r.l.length) := by
  rw [← hm]
  exact ⟨h.fr i r (Nat.le_refl _) hi, h.cr i r hi, ⟨Nat.le_refl _, List.take_length⟩, .inl rfl, Stay.refl _ _⟩
set_option maxHeartbeats 3200000 in
set_option maxRecDepth 20000 in
theorem grow_c {w : World} {ρ : Nat → Nat} {b : Nat} {O P : Option Addr} {oc pc m : Nat} {us : List Value} {rs : List RV} (hB : Bo w ρ b O rs.length oc P m pc (rs.map RV.v) us) (hR : Rows w ρ rs) (hM : ∀ (i : Nat) (r : RV), rs[i]? = some r → r.l = mk i 0 r.l.length) (hl : rs.length ≤ 250) :
    Calls Try.prog 59 #[.pointer (some ⟨b, 0, none⟩)] w fun e w' => ∃ σ G gc os, e = .returned (.slice G rs.length gc) ∧ Gw w ρ σ rs rs.length G gc os w' := by
  have HB := Aside0.mk hB
  have HR := Aside0.mk hR
  have HM := Aside0.mk hM
  have HL := Aside0.mk hl
  clear hB hR hM hl
  go_enter Try.func59, Try.ntmps59
  go_wp2
  go_loopg [3, 4] (rs.length + 1) (fun kq v3 v4 w' => ∃ (i : Nat) (G : Option Addr) (gc : Nat) (os : List RV) (σ : Nat → Nat), v3 = .slice G i gc ∧ v4 = .int .i64 i ∧ Aside0 (i + kq = rs.length + 1 ∧ 1 ≤ kq) ∧ Aside0 (Gw w ρ σ rs i G gc os w'))
  case atStart => exact ⟨0, none, 0, [], ρ, rfl, rfl, ⟨by omega, by omega⟩, ⟨gw_start HR.out⟩⟩
  case round =>
    obtain ⟨i, G, gc, os, σ, rfl, rfl, HJ, HG⟩ := hrel
    have hb2 := HB.out.keep (w' := wr) fun k hk hlt => HG.out.st.block k hlt (by omega)
    obtain ⟨k4, k5⟩ := bk_cell hb2.hb
    by_cases hj : i < rs.length
    · have e1 : decide ((i : Int) < (rs.length : Int)) = true := decide_eq_true (by omega)
      have e1n : decide (i < rs.length) = true := decide_eq_true hj
      obtain ⟨gO, hO, hgO, c4⟩ := row_at hb2.so i hj
      have hri : rs[i]? = some rs[i] := List.getElem?_eq_getElem hj
      have hgr := gr_start HG.out hri (HM.out i _ hri)
      have hrl : rs[i].l.length ≤ 1000000 := (HR.out i _ hri).2.1
      have hra : ∀ g : Nat, rs[i].A = some ⟨g, 0, none⟩ → g < wr.heap.size := hgr.fr.lt
      generalize rs[i] = r at c4 hri hgr hrl hra
      have HRI := Aside0.mk hri
      have HGR := Aside0.mk hgr
      have HRL := Aside0.mk (And.intro hrl hra)
      generalize hrA : r.A = rA at c4 HGR
      generalize hrn : r.l.length = n at c4 HGR
      generalize hrl0 : r.l = l0 at HGR
      generalize r.c = rc at c4 HGR
      have HE := Aside0.mk (And.intro hrA (And.intro hrn hrl0))
      have HJ2 := Aside0.mk hj
      have p1 : (0 : Int) ≤ (i : Int) := by omega
      have p2 : (i : Int) < (rs.length : Int) := by omega
      have hwj : wrap64 ((i : Int) + 1) = ((i + 1 : Nat) : Int) := w64_next i (by have := HL.out; omega)
      have HWJ := Aside0.mk hwj
      have HGK : Aside0 (i + gk = rs.length + 1 ∧ 1 ≤ gk) := HJ
      subst hO
      clear hb2 hgr hri hj hrA hrn hrl0 hrl hra
      go_wp2
      clear k4 k5 c4 hwj p1 p2 HJ hgO
      obtain ⟨wi, hwi⟩ : ∃ wi, wi = wr := ⟨_, rfl⟩
      have HI : Aside0 (Gr wi wr rA n l0 rA n rc (mk i 0 n)) := ⟨by rw [hwi]; exact HGR.out⟩
      rw [← hwi] at HG HRL
      clear HGR hwi
      go_loopg [5, 6] 13 (fun kq v5 v6 w' => ∃ (q N : Nat) (A' : Option Addr) (c' : Nat), v5 = .slice A' N c' ∧ v6 = .int .i64 q ∧ Aside0 (q + kq = 13 ∧ 1 ≤ kq ∧ N = n + q) ∧ Aside0 (Gr wi w' rA n l0 A' N c' (mk i 0 N)))
      case atStart => exact ⟨0, n, rA, rc, rfl, rfl, ⟨by omega, by omega, rfl⟩, HI⟩
      case round =>
        obtain ⟨q, N, A', c', rfl, rfl, HK, HH⟩ := hrel
        by_cases hq : q < 12
        · have e2 : decide ((q : Int) < 12) = true := decide_eq_true (by omega)
          have e2n : decide (q < 12) = true := decide_eq_true hq
          have hwk : wrap64 ((q : Int) + 1) = ((q + 1 : Nat) : Int) := w64_next q (by omega)
          have HWK := Aside0.mk hwk
          have HQ2 := Aside0.mk hq
          have hN : N ≤ 1000012 := by have := HK.out; have := HRL.out.1; have := HE.out.2.1; omega
          have HMk := Aside0.mk (mark_1 i N (by omega) wr)
          have HN := Aside0.mk hN
          clear hq hN
          go_wp2_with (first
            | (go_at_call 86; refine HMk.out.mono ?_; rintro e w2 ⟨M, mc, rfl, hF, _, hb⟩; have HF2 := Aside0.mk hF; have HB2 := Aside0.mk hb; clear hb hF HMk)
            | ((with_reducible refine gate_builtin (b := .append) (xs := #[.tmp 27, .tmp 31]) rfl ?_); at_builtin; obtain ⟨A2, c2, w3, hr, hF3, hw⟩ := app_run (d := mc) 33 (HH.out.fr.keep fun g e => HB2.out.block g (HH.out.fr.lt g e)) (HF2.out.cr.c (by rw [mk_len]; decide)) (by rw [mk_len, mk_len]; have := HN.out; omega); refine list_app_of rfl (.tmp 27) (.tmp 31) rfl hr ?_; rw [mk_app] at hF3; have HH3 := Aside0.mk (HH.out.step (fun g e => HRL.out.2 g (HE.out.1.trans e)) HB2.out hw (mm := mk i N 1) (by rw [mk_app]; exact hF3)); clear hr hF3 hw))
          go_roundg (gk - 1)
          case measure => have := HK.out; omega
          case rel => exact ⟨q + 1, N + 1, A2, c2, rfl, congrArg (Value.int .i64) HWK.out, ⟨by have := HK.out; omega, by have := HK.out; have := HQ2.out; omega, by have := HK.out; omega⟩, ⟨by have := HH3.out; rw [mk_app] at this; exact this⟩⟩
        · have e2 : decide ((q : Int) < 12) = false := decide_eq_false (by omega)
          have e2n : decide (q < 12) = false := decide_eq_false hq
          have hN : N = n + 12 ∧ N ≤ 1000012 := by have := HK.out; have := HRL.out.1; have := HE.out.2.1; omega
          have HMk := Aside0.mk (mark_60 i N (by omega) wr)
          have HN := Aside0.mk hN
          have HOL : Aside0 (os.length ≤ 250) := ⟨by rw [HG.out.len]; have := HJ2.out; have := HL.out; omega⟩
          clear hq hN
          go_wp2_with (first
            | (go_at_call 86; refine HMk.out.mono ?_; rintro e w2 ⟨M, mc, rfl, hF, _, hb⟩; have HF2 := Aside0.mk hF; have HB2 := Aside0.mk hb; clear hb hF HMk)
            | ((with_reducible refine gate_builtin (b := .append) (xs := #[.tmp 34, .tmp 38]) rfl ?_); at_builtin; obtain ⟨A2, c2, w3, hr, hF3, hw⟩ := app_run (d := mc) 33 (HH.out.fr.keep fun g e => HB2.out.block g (HH.out.fr.lt g e)) (HF2.out.cr.c (by rw [mk_len]; decide)) (by rw [mk_len, mk_len]; have := HN.out; omega); refine list_app_of rfl (.tmp 34) (.tmp 38) rfl hr ?_; have HH3 := Aside0.mk (HH.out.step (fun g e => HRL.out.2 g (HE.out.1.trans e)) HB2.out hw hF3); clear hr hF3 hw)
            | ((with_reducible refine gate_builtin (b := .append) (xs := #[.tmp 33, .tmp 40]) rfl ?_); at_builtin; obtain ⟨G', gc', w7, hr, hs7, hst7, hG7⟩ := sr_run (d := 1) (w := w3.alloc (.cells #[.slice A2 (N + 60) c2] 33)) 36 (HG.out.sg.keep fun g e => (heap_alloc_old w3 _ (Nat.lt_of_lt_of_le (HG.out.sg.lt g e) HH3.out.st.size)).trans (HH3.out.st.block g (HG.out.sg.lt g e) (fun e2 => by have h1 := (HR.out i _ HRI.out).2.2 g (HE.out.1.trans e2); have h2 := HG.out.rg g e; have h3 := HG.out.ro g ((HR.out i _ HRI.out).1.lt g (HE.out.1.trans e2)); omega))) (cells_of_heap (heap_alloc_new w3 (.cells #[.slice A2 (N + 60) c2] 33)) 0 (.slice A2 (N + 60) c2) rfl) rfl (by rw [List.length_map]; have := HOL.out; omega); refine list_app_of rfl (.tmp 33) (.tmp 40) rfl hr ?_; have HS7 := Aside0.mk (And.intro hs7 (And.intro hst7 hG7)); clear hr hs7 hst7 hG7))
          go_roundg (rs.length - i)
          case measure => have := HGK.out; have := HJ2.out; omega
          case rel =>
            have hH := HH3.out
            rw [mk_app] at hH
            have hN60 : (mk i 0 (N + 60)).length = N + 60 := mk_len _ _ _
            obtain ⟨e5, e6, e7⟩ := HE.out
            obtain ⟨σ', hσ⟩ := HG.out.step (r := r) (l5 := mk i 0 (N + 60)) (A5 := A2) (c5 := c2) HR.out HRI.out (by rw [hN60, e5, e6, e7]; exact hH) (by rw [hN60]) (by rw [hN60]; have := HN.out; omega) (by rw [hN60]; exact HS7.out.1) HS7.out.2.1 HS7.out.2.2
            exact ⟨i + 1, G', gc', os ++ [⟨A2, c2, mk i 0 (N + 60)⟩], σ', rfl, congrArg (Value.int .i64) HWJ.out, ⟨by have := HGK.out; have := HJ2.out; omega, by have := HJ2.out; omega⟩, ⟨hσ⟩⟩
    · have e1 : decide ((i : Int) < (rs.length : Int)) = false := decide_eq_false (by omega)
      have e1n : decide (i < rs.length) = false := decide_eq_false hj
      have HI : Aside0 (i = rs.length) := ⟨by have := HJ.out; omega⟩
      clear hb2 hj
      go_wp2
      go_ret
      rw [HI.out] at HG ⊢
      exact ⟨σ, G, gc, os, rfl, HG.out⟩
end Go.Proofs.Ytohphkdemonlkaa.Bi
/- The Book: is each list as it was, and does none share memory with another one? -/
namespace Go.Proofs.Ytohphkdemonlkaa.Bi
open Go.RowKit Go.Proofs.Ytohphkdemonlkaa.XQt Go.Proofs.YtohphkdemonlkaaW.PrintWords Go.Proofs.YtohphkdemonlkaaW.PrintLast Go.Proofs.YtohphkdemonlkaaW.PrintMore Go.Proofs.Ytohphkdemonlkaa.Ob
theorem rows_C {w : World} {O : Option Addr} {oc : Nat} {rs : List RV} (h : SR w O rs.length oc (rs.map RV.v)) (hl : rs.length ≤ 1000000) (hc : ∀ (j : Nat) (r : RV), rs[j]? = some r → CR w r.A r.l.length r.l ∧ r.l.length ≤ r.c ∧ r.l.length ≤ 1000000000) : Kd.C (Kd.slice 3 kI) w O (rs.map RV.l).length (rs.map RV.l) := by
  refine ⟨rfl, by rw [List.length_map]; omega, fun h0 => ?_⟩
  rw [List.length_map] at h0
  obtain ⟨g, rfl, _, _⟩ := row_at h 0 h0
  refine ⟨_, rfl, fun j p hp => ?_⟩
  have hj : j < rs.length := by
    have := (List.getElem?_eq_some_iff.1 hp).1
    simpa using this
  obtain ⟨g2, e2, _, h2⟩ := row_at h j hj
  injection e2 with e2
  injection e2 with e2
  subst e2
  have hp2 : p = rs[j].l := by
    rw [List.getElem?_map, List.getElem?_eq_getElem hj] at hp
    exact (Option.some.inj hp).symm
  subst hp2
  obtain ⟨h3, h4, h5⟩ := hc j rs[j] (List.getElem?_eq_getElem hj)
  refine ⟨[.slice rs[j].A rs[j].l.length rs[j].c], rfl, ⟨_, _, rfl, h4, h3.c h5⟩, fun i u hu => ?_⟩
  cases i with
  | succ i => simp at hu
  | zero =>
    obtain rfl := Option.some.inj hu
    show w.cell? ((⟨g, 0, none⟩ : Addr).add (j * 1 + 0)) = _
    rw [Nat.mul_one, Nat.add_zero, Addr.add_lit, Nat.zero_add]
    exact h2
theorem marked_c {w : World} {O : Option Addr} {oc : Nat} {rs : List RV} (h : SR w O rs.length oc (rs.map RV.v)) (hl : rs.length ≤ 1000000) (hc : ∀ (j : Nat) (r : RV), rs[j]? = some r → CR w r.A r.l.length r.l ∧ r.l.length ≤ r.c ∧ r.l = mk j 0 r.l.length ∧ r.l.length ≤ 2000000) : Calls Try.prog 64 #[.slice O rs.length oc] w fun e w' => e = .returned (.bool true) ∧ Below w.heap.size w w' := by
  obtain ⟨k, hk⟩ : ∃ k, k = rs.length + 2000001 := ⟨_, rfl⟩
  have hC := rows_C h hl (fun j r hr => by obtain ⟨h1, h2, _, h4⟩ := hc j r hr; exact ⟨h1, h2, by omega⟩)
  have hf : bywashbook_markedInts.f k (rs.map RV.l) = some true := by
    unfold bywashbook_markedInts.f
    refine marked_l0 (rs.map RV.l) (by rw [List.length_map]; exact hl) (fun j x hx => ?_) 2000001 (Nat.le_refl _) rs.length 0 k (by rw [List.length_map]; omega) (by omega)
    rw [List.getElem?_map] at hx
    cases hj : rs[j]? with
    | none => rw [hj] at hx; cases hx
    | some r =>
      rw [hj] at hx
      obtain rfl := Option.some.inj hx
      obtain ⟨_, _, h3, h4⟩ := hc j r hj
      exact ⟨h3, h4⟩
  have := bywashbook_markedInts.calls k O oc (rs.map RV.l) true w hC (by rw [List.length_map]; exact h.room) hf
  rw [List.length_map] at this
  exact this
theorem gw_out {w wg W : World} {ρ σ : Nat → Nat} {rs os : List RV} {G : Option Addr} {gc : Nat} (h : Gw w ρ σ rs rs.length G gc os wg) (hl : rs.length ≤ 250) (hb : Below wg.heap.size wg W) : Calls Try.prog 64 #[.slice G rs.length gc] W fun e w' => e = .returned (.bool true) ∧ Below W.heap.size W w' := by
  have hlen := h.len
  have hs := h.sg.keep (w' := W) fun g e => hb.block g (h.sg.lt g e)
  have := marked_c (w := W) (O := G) (oc := gc) (rs := os) (by rw [hlen]; exact hs) (by omega) (fun j o ho => by
    obtain ⟨h1, h2, h3, _⟩ := h.fo j o ho
    exact ⟨h1.cr.keep fun g _ hg => hb.block g hg, h1.room, h2, h3⟩)
  rw [hlen] at this
  exact this
theorem gw_in {w wg W : World} {ρ σ : Nat → Nat} {rs os : List RV} {G : Option Addr} {gc b m pc oc : Nat} {O P : Option Addr} {us : List Value} (h : Gw w ρ σ rs rs.length G gc os wg) (hR : Rows w ρ rs) (hM : ∀ (i : Nat) (r : RV), rs[i]? = some r → r.l = mk i 0 r.l.length) (hl : rs.length ≤ 250) (hb : Below wg.heap.size wg W) (hB : Bo W ρ b O rs.length oc P m pc (rs.map RV.v) us) : Calls Try.prog 64 #[.slice O rs.length oc] W fun e w' => e = .returned (.bool true) ∧ Below W.heap.size W w' :=
  marked_c hB.so (by omega) (fun j r hr => by
    obtain ⟨h1, h2, _⟩ := hR j r hr
    exact ⟨(h.cr j r hr).keep fun g _ hg => hb.block g hg, h1.room, hM j r hr, by omega⟩)
set_option maxHeartbeats 6400000 in
set_option maxRecDepth 20000 in
theorem apart_c {w : World} {ρ : Nat → Nat} {b : Nat} (h : Book w ρ b) : Calls Try.prog 24 #[.pointer (some ⟨b, 0, none⟩)] w fun e w' => e = .returned (.bool true) ∧ Stay (fun k => ρ k ≠ 0) w w' := by
  obtain ⟨O, oc, P, pc, rs, us, hB, hR, hW, hl⟩ := h
  have HB0 := Aside0.mk hB
  have HR0 := Aside0.mk hR
  have HW0 := Aside0.mk hW
  have HL := Aside0.mk hl
  have HS0 : Aside0 (Stay (fun k => ρ k ≠ 0) w w) := ⟨Stay.refl _ _⟩
  clear hB hR hW hl
  go_enter Try.func24, Try.ntmps24
  go_wp2_with (first
    | (go_at_call 49; refine (still_c HB0.out HR0.out HW0.out HL.out).mono ?_; rintro e w1 ⟨rfl, hb⟩; have HB1 := Aside0.mk (HB0.out.keep (w' := w1) fun k _ h => hb.block k h); have HR1 := Aside0.mk (HR0.out.keep (w' := w1) fun k _ h => hb.block k h); have HW1 := Aside0.mk (HW0.out.keep (w' := w1) fun k _ h => hb.block k h); have HS1 := Aside0.mk (HS0.out.trans (Stay.of_below (ok := fun k => ρ k ≠ 0) hb) (fun _ _ e => e)); clear hb HB0 HS0 HR0 HW0)
    | (go_at_call 50; refine (stillTexts_c HB1.out.hb rfl).mono ?_; rintro e w2 ⟨rfl, hb⟩; have HB2 := Aside0.mk (HB1.out.keep (w' := w2) fun k _ h => hb.block k h); have HR2 := Aside0.mk (HR1.out.keep (w' := w2) fun k _ h => hb.block k h); have HW2 := Aside0.mk (HW1.out.keep (w' := w2) fun k _ h => hb.block k h); have HS2 := Aside0.mk (HS1.out.trans (Stay.of_below (ok := fun k => ρ k ≠ 0) hb) (fun _ _ e => e)); clear hb HB1 HS1 HR1 HW1)
    | (go_at_call 51; refine (stillFields_c HB2.out.hb rfl).mono ?_; rintro e w3 ⟨rfl, hb⟩; have HB3 := Aside0.mk (HB2.out.keep (w' := w3) fun k _ h => hb.block k h); have HR3 := Aside0.mk (HR2.out.keep (w' := w3) fun k _ h => hb.block k h); have HW3 := Aside0.mk (HW2.out.keep (w' := w3) fun k _ h => hb.block k h); have HS3 := Aside0.mk (HS2.out.trans (Stay.of_below (ok := fun k => ρ k ≠ 0) hb) (fun _ _ e => e)); clear hb HB2 HS2 HR2 HW2)
    | (go_at_call 52; refine (stillFrames_c HB3.out.hb rfl).mono ?_; rintro e w4 ⟨rfl, hb⟩; have HB4 := Aside0.mk (HB3.out.keep (w' := w4) fun k _ h => hb.block k h); have HR4 := Aside0.mk (HR3.out.keep (w' := w4) fun k _ h => hb.block k h); have HW4 := Aside0.mk (HW3.out.keep (w' := w4) fun k _ h => hb.block k h); have HS4 := Aside0.mk (HS3.out.trans (Stay.of_below (ok := fun k => ρ k ≠ 0) hb) (fun _ _ e => e)); clear hb HB3 HS3 HR3 HW3)
    | (go_at_call 53; refine (stillPrefs_c HB4.out.hb rfl).mono ?_; rintro e w5 ⟨rfl, hb⟩; have HB5 := Aside0.mk (HB4.out.keep (w' := w5) fun k _ h => hb.block k h); have HR5 := Aside0.mk (HR4.out.keep (w' := w5) fun k _ h => hb.block k h); have HW5 := Aside0.mk (HW4.out.keep (w' := w5) fun k _ h => hb.block k h); have HS5 := Aside0.mk (HS4.out.trans (Stay.of_below (ok := fun k => ρ k ≠ 0) hb) (fun _ _ e => e)); clear hb HB4 HS4 HR4 HW4)
    | (go_at_call 54; refine (put_c HB5.out HR5.out HL.out).mono ?_; rintro e w6 ⟨rfl, hs, rs', hv, hr, hm⟩; have HB6 := Aside0.mk (HB5.out.keep (w' := w6) fun k hk h => hs.block k h (by omega)); rw [← hv] at HB6; have hlen : rs'.length = rs.length := (by have := congrArg List.length hv; simpa using this); rw [← hlen] at HB6 HL; have HR6 := Aside0.mk hr; have HM := Aside0.mk hm; have HS6 := Aside0.mk (HS5.out.trans (hs.mono (ok' := fun k => ρ k ≠ 0) (fun k hk => by omega)) (fun _ _ e => e)); clear hs hv hr hm hlen HB5 HR5 HW5 HS5)
    | (go_at_call 55; refine (putTexts_c HB6.out.hb rfl).mono ?_; rintro e w7 ⟨rfl, hb⟩; have HB7 := Aside0.mk (HB6.out.keep (w' := w7) fun k _ h => hb.block k h); have HR7 := Aside0.mk (HR6.out.keep (w' := w7) fun k _ h => hb.block k h); have HS7 := Aside0.mk (HS6.out.trans (Stay.of_below (ok := fun k => ρ k ≠ 0) hb) (fun _ _ e => e)); clear hb HB6 HS6 HR6)
    | (go_at_call 56; refine (putFields_c HB7.out.hb rfl).mono ?_; rintro e w8 ⟨rfl, hb⟩; have HB8 := Aside0.mk (HB7.out.keep (w' := w8) fun k _ h => hb.block k h); have HR8 := Aside0.mk (HR7.out.keep (w' := w8) fun k _ h => hb.block k h); have HS8 := Aside0.mk (HS7.out.trans (Stay.of_below (ok := fun k => ρ k ≠ 0) hb) (fun _ _ e => e)); clear hb HB7 HS7 HR7)
    | (go_at_call 57; refine (putFrames_c HB8.out.hb rfl).mono ?_; rintro e w9 ⟨rfl, hb⟩; have HB9 := Aside0.mk (HB8.out.keep (w' := w9) fun k _ h => hb.block k h); have HR9 := Aside0.mk (HR8.out.keep (w' := w9) fun k _ h => hb.block k h); have HS9 := Aside0.mk (HS8.out.trans (Stay.of_below (ok := fun k => ρ k ≠ 0) hb) (fun _ _ e => e)); clear hb HB8 HS8 HR8)
    | (go_at_call 58; refine (putPrefs_c HB9.out.hb rfl).mono ?_; rintro e w10 ⟨rfl, hb⟩; have HB10 := Aside0.mk (HB9.out.keep (w' := w10) fun k _ h => hb.block k h); have HR10 := Aside0.mk (HR9.out.keep (w' := w10) fun k _ h => hb.block k h); have HS10 := Aside0.mk (HS9.out.trans (Stay.of_below (ok := fun k => ρ k ≠ 0) hb) (fun _ _ e => e)); clear hb HB9 HS9 HR9)
    | (go_at_call 59; refine (grow_c HB10.out HR10.out HM.out HL.out).mono ?_; rintro e w11 ⟨σ, G, gc, os, rfl, hg⟩; have HB11 := Aside0.mk (HB10.out.keep (w' := w11) fun k hk h => hg.st.block k h (by omega)); have HG := Aside0.mk hg; have HRG := HR10; have HE11 : Aside0 (Below w11.heap.size w11 w11) := ⟨Below.refl _ _⟩; have HS11 := Aside0.mk (HS10.out.trans (hg.st.mono (ok' := fun k => ρ k ≠ 0) (fun k hk => by omega)) (fun _ _ e => e)); clear hg HB10 HR10 HS10)
    | (go_at_call 60; refine (growTexts_c HB11.out.hb rfl).mono ?_; rintro e w12 ⟨rfl, hb⟩; have HB12 := Aside0.mk (HB11.out.keep (w' := w12) fun k _ h => hb.block k h); have HE12 := Aside0.mk (below_step HE11.out hb); have HS12 := Aside0.mk (HS11.out.trans (Stay.of_below (ok := fun k => ρ k ≠ 0) hb) (fun _ _ e => e)); clear hb HB11 HS11 HE11)
    | (go_at_call 61; refine (growFields_c HB12.out.hb rfl).mono ?_; rintro e w13 ⟨rfl, hb⟩; have HB13 := Aside0.mk (HB12.out.keep (w' := w13) fun k _ h => hb.block k h); have HE13 := Aside0.mk (below_step HE12.out hb); have HS13 := Aside0.mk (HS12.out.trans (Stay.of_below (ok := fun k => ρ k ≠ 0) hb) (fun _ _ e => e)); clear hb HB12 HS12 HE12)
    | (go_at_call 62; refine (growFrames_c HB13.out.hb rfl).mono ?_; rintro e w14 ⟨rfl, hb⟩; have HB14 := Aside0.mk (HB13.out.keep (w' := w14) fun k _ h => hb.block k h); have HE14 := Aside0.mk (below_step HE13.out hb); have HS14 := Aside0.mk (HS13.out.trans (Stay.of_below (ok := fun k => ρ k ≠ 0) hb) (fun _ _ e => e)); clear hb HB13 HS13 HE13)
    | (go_at_call 63; refine (growPrefs_c HB14.out.hb rfl).mono ?_; rintro e w15 ⟨rfl, hb⟩; have HB15 := Aside0.mk (HB14.out.keep (w' := w15) fun k _ h => hb.block k h); have HE15 := Aside0.mk (below_step HE14.out hb); have HS15 := Aside0.mk (HS14.out.trans (Stay.of_below (ok := fun k => ρ k ≠ 0) hb) (fun _ _ e => e)); have c0 := cells_of_heap HB15.out.hb 0 _ rfl; have c2 := cells_of_heap HB15.out.hb 2 _ rfl; have c4 := cells_of_heap HB15.out.hb 4 _ rfl; have c6 := cells_of_heap HB15.out.hb 6 _ rfl; have c8 := cells_of_heap HB15.out.hb 8 _ rfl; clear hb HB14 HS14 HE14)
    | (go_at_call 64; refine (gw_out HG.out HL.out HE15.out).mono ?_; rintro e w16 ⟨rfl, hb⟩; have HB16 := Aside0.mk (HB15.out.keep (w' := w16) fun k _ h => hb.block k h); have HE16 := Aside0.mk (below_step HE15.out hb); have HS16 := Aside0.mk (HS15.out.trans (Stay.of_below (ok := fun k => ρ k ≠ 0) hb) (fun _ _ e => e)); have c0 := cells_of_heap HB16.out.hb 0 _ rfl; have c2 := cells_of_heap HB16.out.hb 2 _ rfl; have c4 := cells_of_heap HB16.out.hb 4 _ rfl; have c6 := cells_of_heap HB16.out.hb 6 _ rfl; have c8 := cells_of_heap HB16.out.hb 8 _ rfl; clear hb HB15 HS15 HE15)
    | (go_at_call 64; refine (gw_in HG.out HRG.out HM.out HL.out HE16.out HB16.out).mono ?_; rintro e w17 ⟨rfl, hb⟩; have HB17 := Aside0.mk (HB16.out.keep (w' := w17) fun k _ h => hb.block k h); have HE17 := Aside0.mk (below_step HE16.out hb); have HS17 := Aside0.mk (HS16.out.trans (Stay.of_below (ok := fun k => ρ k ≠ 0) hb) (fun _ _ e => e)); have c0 := cells_of_heap HB17.out.hb 0 _ rfl; have c2 := cells_of_heap HB17.out.hb 2 _ rfl; have c4 := cells_of_heap HB17.out.hb 4 _ rfl; have c6 := cells_of_heap HB17.out.hb 6 _ rfl; have c8 := cells_of_heap HB17.out.hb 8 _ rfl; clear hb HB16 HS16 HE16)
    | (go_at_call 65; refine (markedTexts_c _).mono ?_; rintro e w18 ⟨rfl, hb⟩; have HB18 := Aside0.mk (HB17.out.keep (w' := w18) fun k _ h => hb.block k h); have HE18 := Aside0.mk (below_step HE17.out hb); have HS18 := Aside0.mk (HS17.out.trans (Stay.of_below (ok := fun k => ρ k ≠ 0) hb) (fun _ _ e => e)); have c0 := cells_of_heap HB18.out.hb 0 _ rfl; have c2 := cells_of_heap HB18.out.hb 2 _ rfl; have c4 := cells_of_heap HB18.out.hb 4 _ rfl; have c6 := cells_of_heap HB18.out.hb 6 _ rfl; have c8 := cells_of_heap HB18.out.hb 8 _ rfl; clear hb HB17 HS17 HE17)
    | (go_at_call 65; refine (markedTexts_c _).mono ?_; rintro e w19 ⟨rfl, hb⟩; have HB19 := Aside0.mk (HB18.out.keep (w' := w19) fun k _ h => hb.block k h); have HE19 := Aside0.mk (below_step HE18.out hb); have HS19 := Aside0.mk (HS18.out.trans (Stay.of_below (ok := fun k => ρ k ≠ 0) hb) (fun _ _ e => e)); have c0 := cells_of_heap HB19.out.hb 0 _ rfl; have c2 := cells_of_heap HB19.out.hb 2 _ rfl; have c4 := cells_of_heap HB19.out.hb 4 _ rfl; have c6 := cells_of_heap HB19.out.hb 6 _ rfl; have c8 := cells_of_heap HB19.out.hb 8 _ rfl; clear hb HB18 HS18 HE18)
    | (go_at_call 66; refine (markedFields_c _).mono ?_; rintro e w20 ⟨rfl, hb⟩; have HB20 := Aside0.mk (HB19.out.keep (w' := w20) fun k _ h => hb.block k h); have HE20 := Aside0.mk (below_step HE19.out hb); have HS20 := Aside0.mk (HS19.out.trans (Stay.of_below (ok := fun k => ρ k ≠ 0) hb) (fun _ _ e => e)); have c0 := cells_of_heap HB20.out.hb 0 _ rfl; have c2 := cells_of_heap HB20.out.hb 2 _ rfl; have c4 := cells_of_heap HB20.out.hb 4 _ rfl; have c6 := cells_of_heap HB20.out.hb 6 _ rfl; have c8 := cells_of_heap HB20.out.hb 8 _ rfl; clear hb HB19 HS19 HE19)
    | (go_at_call 66; refine (markedFields_c _).mono ?_; rintro e w21 ⟨rfl, hb⟩; have HB21 := Aside0.mk (HB20.out.keep (w' := w21) fun k _ h => hb.block k h); have HE21 := Aside0.mk (below_step HE20.out hb); have HS21 := Aside0.mk (HS20.out.trans (Stay.of_below (ok := fun k => ρ k ≠ 0) hb) (fun _ _ e => e)); have c0 := cells_of_heap HB21.out.hb 0 _ rfl; have c2 := cells_of_heap HB21.out.hb 2 _ rfl; have c4 := cells_of_heap HB21.out.hb 4 _ rfl; have c6 := cells_of_heap HB21.out.hb 6 _ rfl; have c8 := cells_of_heap HB21.out.hb 8 _ rfl; clear hb HB20 HS20 HE20)
    | (go_at_call 67; refine (markedFrames_c _).mono ?_; rintro e w22 ⟨rfl, hb⟩; have HB22 := Aside0.mk (HB21.out.keep (w' := w22) fun k _ h => hb.block k h); have HE22 := Aside0.mk (below_step HE21.out hb); have HS22 := Aside0.mk (HS21.out.trans (Stay.of_below (ok := fun k => ρ k ≠ 0) hb) (fun _ _ e => e)); have c0 := cells_of_heap HB22.out.hb 0 _ rfl; have c2 := cells_of_heap HB22.out.hb 2 _ rfl; have c4 := cells_of_heap HB22.out.hb 4 _ rfl; have c6 := cells_of_heap HB22.out.hb 6 _ rfl; have c8 := cells_of_heap HB22.out.hb 8 _ rfl; clear hb HB21 HS21 HE21)
    | (go_at_call 67; refine (markedFrames_c _).mono ?_; rintro e w23 ⟨rfl, hb⟩; have HB23 := Aside0.mk (HB22.out.keep (w' := w23) fun k _ h => hb.block k h); have HE23 := Aside0.mk (below_step HE22.out hb); have HS23 := Aside0.mk (HS22.out.trans (Stay.of_below (ok := fun k => ρ k ≠ 0) hb) (fun _ _ e => e)); have c0 := cells_of_heap HB23.out.hb 0 _ rfl; have c2 := cells_of_heap HB23.out.hb 2 _ rfl; have c4 := cells_of_heap HB23.out.hb 4 _ rfl; have c6 := cells_of_heap HB23.out.hb 6 _ rfl; have c8 := cells_of_heap HB23.out.hb 8 _ rfl; clear hb HB22 HS22 HE22)
    | (go_at_call 68; refine (markedPrefs_c _).mono ?_; rintro e w24 ⟨rfl, hb⟩; have HB24 := Aside0.mk (HB23.out.keep (w' := w24) fun k _ h => hb.block k h); have HE24 := Aside0.mk (below_step HE23.out hb); have HS24 := Aside0.mk (HS23.out.trans (Stay.of_below (ok := fun k => ρ k ≠ 0) hb) (fun _ _ e => e)); have c0 := cells_of_heap HB24.out.hb 0 _ rfl; have c2 := cells_of_heap HB24.out.hb 2 _ rfl; have c4 := cells_of_heap HB24.out.hb 4 _ rfl; have c6 := cells_of_heap HB24.out.hb 6 _ rfl; have c8 := cells_of_heap HB24.out.hb 8 _ rfl; clear hb HB23 HS23 HE23)
    | (go_at_call 68; refine (markedPrefs_c _).mono ?_; rintro e w25 ⟨rfl, hb⟩; have HB25 := Aside0.mk (HB24.out.keep (w' := w25) fun k _ h => hb.block k h); have HE25 := Aside0.mk (below_step HE24.out hb); have HS25 := Aside0.mk (HS24.out.trans (Stay.of_below (ok := fun k => ρ k ≠ 0) hb) (fun _ _ e => e)); have c0 := cells_of_heap HB25.out.hb 0 _ rfl; have c2 := cells_of_heap HB25.out.hb 2 _ rfl; have c4 := cells_of_heap HB25.out.hb 4 _ rfl; have c6 := cells_of_heap HB25.out.hb 6 _ rfl; have c8 := cells_of_heap HB25.out.hb 8 _ rfl; clear hb HB24 HS24 HE24))
  go_ret
  exact ⟨rfl, HS25.out⟩
end Go.Proofs.Ytohphkdemonlkaa.Bi
/- The Book, in short: which blocks are none of its. -/
namespace Go.Proofs.Ytohphkdemonlkaa.Bi
open Go.RowKit Go.Proofs.Ytohphkdemonlkaa.XQt Go.Proofs.YtohphkdemonlkaaW.PrintWords Go.Proofs.YtohphkdemonlkaaW.PrintLast Go.Proofs.YtohphkdemonlkaaW.PrintMore Go.Proofs.Ytohphkdemonlkaa.Ob
theorem Book.trim {w : World} {ρ : Nat → Nat} {b : Nat} (h : Book w ρ b) : Book w (fun k => if k < w.heap.size then ρ k else 0) b := by
  obtain ⟨O, oc, P, pc, rs, us, h1, h2, h3, h4⟩ := h
  have e : ∀ k, k < w.heap.size → (if k < w.heap.size then ρ k else 0) = ρ k := fun k hk => if_pos hk
  exact ⟨O, oc, P, pc, rs, us, ⟨h1.hb, (e b (blk_lt h1.hb)).trans h1.rb, h1.so, fun g q => (e g (h1.so.lt g q)).trans (h1.ro g q), h1.sp, fun g q => (e g (h1.sp.lt g q)).trans (h1.rp g q)⟩, h2.roles fun k hk _ => e k hk, h3.roles fun k hk _ => e k hk, h4⟩
/-- The Book at b: nothing of it lies below n; the blocks z are none of its; what lies in the blocks y it leaves alone till the end. -/
def Kp (n : Nat) (z y : Nat → Prop) (w : World) (b : Nat) : Prop := ∃ ρ : Nat → Nat, Book w ρ b ∧ (∀ k, k < n → ρ k = 0) ∧ (∀ k, z k → k < w.heap.size ∧ ρ k = 0) ∧ ∀ k, y k → k < w.heap.size ∧ (ρ k = 0 ∨ 5 ≤ ρ k)
section
variable {n b : Nat} {z y : Nat → Prop} {w w' : World}
theorem Kp.mono {z' y' : Nat → Prop} (h : Kp n z y w b) (hz : ∀ k, z' k → z k) (hy : ∀ k, y' k → y k) : Kp n z' y' w b := by
  obtain ⟨ρ, h1, h2, h3, h4⟩ := h
  exact ⟨ρ, h1, h2, fun k hk => h3 k (hz k hk), fun k hk => h4 k (hy k hk)⟩
theorem Kp.le (h : Kp n z y w b) : n ≤ w.heap.size := by
  obtain ⟨ρ, h1, h2, _⟩ := h
  have h5 := h1.role
  have h6 := h1.lt
  rcases Nat.lt_or_ge b n with h7 | h7
  · rw [h2 b h7] at h5; cases h5
  · omega
theorem Kp.stay {ok : Nat → Prop} (h : Kp n z y w b) (hs : Stay ok w w') (hok : ∀ k, k < w.heap.size → ok k → k < n ∨ z k) : Kp n (fun k => z k ∨ (w.heap.size ≤ k ∧ k < w'.heap.size)) y w' b := by
  have hle := h.le
  obtain ⟨ρ, h1, h2, h3, h4⟩ := h
  have hsz := hs.size
  refine ⟨fun k => if k < w.heap.size then ρ k else 0, h1.trim.keep fun k hk hl => hs.block k hl fun e => hk ?_, fun k hk => ?_, fun k hk => ?_, fun k hk => ?_⟩
  · show (if k < w.heap.size then ρ k else 0) = 0
    rw [if_pos hl]
    rcases hok k hl e with h5 | h5
    · exact h2 k h5
    · exact (h3 k h5).2
  · show (if k < w.heap.size then ρ k else 0) = 0
    rw [if_pos (by omega)]
    exact h2 k hk
  · show _ ∧ (if k < w.heap.size then ρ k else 0) = 0
    rcases hk with hk | ⟨h5, h6⟩
    · have := h3 k hk
      rw [if_pos this.1]
      exact ⟨by omega, this.2⟩
    · rw [if_neg (by omega)]
      exact ⟨h6, rfl⟩
  · have := h4 k hk
    show _ ∧ ((if k < w.heap.size then ρ k else 0) = 0 ∨ 5 ≤ (if k < w.heap.size then ρ k else 0))
    rw [if_pos this.1]
    exact ⟨by omega, this.2⟩
theorem Kp.below (h : Kp n z y w b) (hb : Below w.heap.size w w') : Kp n (fun k => z k ∨ (w.heap.size ≤ k ∧ k < w'.heap.size)) y w' b :=
  h.stay (Stay.of_below (ok := fun _ => False) hb) (fun _ _ e => e.elim)
theorem Kp.below' (h : Kp n z y w b) (hb : Below w.heap.size w w') : Kp n z y w' b := (h.below hb).mono (fun _ hk => .inl hk) (fun _ hk => hk)
theorem Kp.alone (h : Kp n z y w b) (hs : Stay (fun k => k < n ∨ z k) w w') : Kp n (fun k => z k ∨ (w.heap.size ≤ k ∧ k < w'.heap.size)) y w' b := h.stay hs (fun _ _ e => e)
theorem Kp.new (w : World) (n : Nat) (h : n ≤ w.heap.size) : Kp n (fun k => k < w.heap.size) (fun _ => False) (w.alloc (.cells #[.slice none 0 0, .slice none 0 0, .slice none 0 0, .slice none 0 0, .slice none 0 0, .slice none 0 0, .slice none 0 0, .slice none 0 0, .slice none 0 0, .slice none 0 0] 42)) w.heap.size :=
  ⟨_, book_new w, fun k hk => if_neg (by omega), fun k hk => ⟨by simp; omega, if_neg (by omega)⟩, fun k hk => hk.elim⟩
theorem Kp.fields (h : Kp n z y w b) {A : Option Addr} {l : List Int} {c : Nat} (hF : FR w A l.length c l) (hl : l.length ≤ 1000000) (hA : ∀ g : Nat, A = some ⟨g, 0, none⟩ → n ≤ g ∧ z g) :
    Calls Try.prog 22 #[.pointer (some ⟨b, 0, none⟩), .slice A l.length c] w fun e w' => e = .returned (.tuple #[]) ∧ Stay (fun k => n ≤ k ∧ ¬ z k ∧ ¬ y k) w w' ∧ Kp n (fun k => z k ∧ A ≠ some ⟨k, 0, none⟩) (fun k => y k ∨ z k) w' b := by
  have hle := h.le
  obtain ⟨ρ, h1, h2, h3, h4⟩ := h
  refine (fields_c h1 hF hl fun g e => (h3 g (hA g e).2).2).mono ?_
  rintro e w' ⟨rfl, hs, ρ', k1, k2, k3⟩
  have hsz := hs.size
  refine ⟨rfl, hs.mono fun k hk => ⟨?_, fun e => ?_, fun e => ?_⟩, ρ', k1, fun k hk => ?_, fun k hk => ?_, fun k hk => ?_⟩
  · rcases Nat.lt_or_ge k n with h5 | h5
    · have := h2 k h5; omega
    · exact h5
  · have := (h3 k e).2; omega
  · have := (h4 k e).2; omega
  · rw [k2 k (by omega) (fun e => by have := (hA k e).1; omega)]
    exact h2 k hk
  · obtain ⟨h5, h6⟩ := h3 k hk.1
    exact ⟨by omega, (k2 k h5 hk.2).trans h6⟩
  · have hk2 : k < w.heap.size ∧ (ρ k = 0 ∨ 5 ≤ ρ k) := by
      rcases hk with hk | hk
      · exact h4 k hk
      · exact ⟨(h3 k hk).1, .inl (h3 k hk).2⟩
    refine ⟨by omega, ?_⟩
    by_cases e : A = some ⟨k, 0, none⟩
    · exact k3 k e
    · rw [k2 k hk2.1 e]
      exact hk2.2
theorem Kp.apart (h : Kp n z y w b) : Calls Try.prog 24 #[.pointer (some ⟨b, 0, none⟩)] w fun e w' => e = .returned (.bool true) ∧ Stay (fun k => n ≤ k) w w' := by
  obtain ⟨ρ, h1, h2, _⟩ := h
  refine (apart_c h1).mono ?_
  rintro e w' ⟨rfl, hs⟩
  exact ⟨rfl, hs.mono fun k hk => Nat.le_of_not_lt fun h => hk (h2 k h)⟩
end
end Go.Proofs.Ytohphkdemonlkaa.Bi
