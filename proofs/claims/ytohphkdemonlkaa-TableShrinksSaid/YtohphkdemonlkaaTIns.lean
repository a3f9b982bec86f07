/- slices.Insert of one field at the front of a row of one's own (it begins at its block's start). -/
import Derived.Test.YtohphkdemonlkaaXQtx9
import Derived.Test.YtohphkdemonlkaaObj
import Derived.Shelf.Spec.SlicesInsertGrow
namespace Go.Proofs.Ytohphkdemonlkaa.Tw
open Go.RowKit Go.Lib Go.Proofs.Ytohphkdemonlkaa.XQt Go.Proofs.YtohphkdemonlkaaW.PrintWords Go.Proofs.YtohphkdemonlkaaW.PrintLast Go.Proofs.YtohphkdemonlkaaW.PrintMore Go.Proofs.Ytohphkdemonlkaa.Ob

/-- 'copy' of elements of two cells into a row. -/
theorem run_copy_row2 {P : Program} (w : World) (dT sT ty elem : TypeId) (g o dLen dCap : Nat) (a : Addr) (sLen sCap n : Nat) (cur : Array Value) (t : TypeId) (cs : List Value)
    (hu : P.underlying dT = some (.slice elem)) (hs : (P.info? elem).map (·.size) = some 2)
    (hg : w.heap[g]? = some (.cells cur t (0, 0))) (hn : n = Nat.min sLen dLen) (hl : cs.length = n * 2)
    (hsrc : ∀ j v, cs[j]? = some v → w.cell? (a.add j) = some v) (hfit : o + cs.length ≤ cur.size) (h1 : ∀ v ∈ cs, v.oneCell' = true) :
    (Builtin.copy_ #[dT, sT] ty #[.slice (some ⟨g, o, none⟩) dLen dCap, .slice (some a) sLen sCap]).run P w =
      .ok (goInt n) (w.setRow g (cur.toList.take o ++ cs ++ cur.toList.drop (o + cs.length)).toArray) := by
  have hld := run_loadCells_list (P := P) w a cs hsrc
  have hst := run_storeCells_at P g o t cs 0 cur w hg (by simpa using hfit) h1
  rw [hl] at hld
  cases hq : P.info? elem with
  | none => simp [hq] at hs
  | some i =>
    have hi : i.size = 2 := by simpa [hq] using hs
    simp [Builtin.copy_, run_underlying hu, Builtin.lenOf, Builtin.firstCells, sizeOf, typeInfo, hq, hi, ← hn, hld, hst]

theorem stay_setRow {ok : Nat → Prop} {w w1 : World} (h : Stay ok w w1) {g : Nat} (hg : ok g ∨ w.heap.size ≤ g) (X : Array Value) : Stay ok w (w1.setRow g X) :=
  h.grown (row := some g) ⟨rfl, rfl, rfl, by simp, fun k _ hk => setRow_other w1 g k X (fun e => hk (by simp [e]))⟩ (fun k e => by cases e; exact hg)
theorem stay_fresh {w w1 : World} (h : Stay (fun k => w.heap.size ≤ k) w w1) : Stay (fun _ => False) w w1 :=
  ⟨h.os, h.tape, h.output, h.size, fun k hk _ => h.block k hk (fun e => absurd hk (Nat.not_lt.2 e))⟩
theorem info54 : (Try.prog.info? 54).map (fun i => (i.zero, i.size, i.bytes)) = some (some (.agg #[.string ⟨#[]⟩, .string ⟨#[]⟩]), 2, 32) := by kernel_rfl
theorem size54 : (Try.prog.info? 54).map (·.size) = some 2 := by kernel_rfl

set_option maxHeartbeats 4000000 in
set_option maxRecDepth 100000 in
/-- There is room: all are shifted. -/
theorem ins_shift (g n c vb : Nat) (cur : Array Value) (x : S54) (cs : List Value) (w : World) (hn : 0 < n) (hroom : n + 1 ≤ c) (hc63 : c ≤ 9223372036854775807) (hvb : vb ≠ g)
    (hg : w.heap[g]? = some (.cells cur 54 (0, 0))) (hcs : cs = cur.toList.take (n * 2)) (hsz : cur.size = c * 2)
    (hv : w.heap[vb]? = some (.cells #[.string x.f0, .string x.f1] 54 (0, 0))) (h1c : ∀ v ∈ cs, v.oneCell' = true) :
    Calls Try.prog 71 #[.slice (some ⟨g, 0, none⟩) n c, .int .i64 0, .slice (some ⟨vb, 0, none⟩) 1 1] w fun e w' =>
      e = .returned (.slice (some ⟨g, 0, none⟩) (n + 1) c) ∧ ∃ cur', w'.heap[g]? = some (.cells cur' 54 (0, 0)) ∧ cur'.size = c * 2 ∧ cur'.toList.take ((n + 1) * 2) = [.string x.f0, .string x.f1] ++ cs ∧ Stay (fun k => k = g) w w' := by
  have hz2 : ¬ ((0 : Int) = (n : Int)) := by omega
  have hov : ∀ lb cb, (callFunc 91 #[.slice (some ⟨vb, 0, none⟩) 1 1, .slice (some ⟨g, 2, none⟩) lb cb]).run Try.prog w = .ok (.value (.bool false)) w := fun lb cb => by
    rw [run_callFunc_extern Try.func91 (by kernel_rfl) (by kernel_rfl) (by kernel_rfl) (e := Extern.SlicesOverlaps.overlaps #[50, 50] #[4]) (by kernel_rfl),
      Lib.run_overlaps_apart w 50 4 54 Try.underlying50 2 Try.sizeOf54 ⟨vb, 0, none⟩ ⟨g, 2, none⟩ 1 1 lb cb hvb 54 54 2 cur.size (by simp [World.shape?, hv]) (by simp [World.shape?, hg]) (by omega) (by simp [World.frozen?, hv]) (by simp [World.frozen?, hv])]
    rfl
  have hcl : cs.length = n * 2 := by rw [hcs, List.length_take, Array.length_toList, hsz]; omega
  have hb2 : ¬ (c = 1) := by omega
  have hb4 : ¬ (c = 0) := by omega
  have u50 := run_underlying Try.underlying50
  have mixed : Try.prog.follows Departure.mixedOrders = true := by kernel_rfl
  have hb5 : (1 : Int) ≤ (n : Int) + 1 := by omega
  have hb6 : (0 : Int) ≤ (n : Int) + 1 := by omega
  have hb7 : (0 : Int) ≤ (n : Int) := by omega
  have hw1 : IntKind.i64.wrap 1 = 1 := rfl
  have htn : (1 : Int).toNat = 1 := rfl
  have h0 : ∀ j v, cs[j]? = some v → w.cell? ⟨g, j, none⟩ = some v := fun j v hj => by
    have hjl := (List.getElem?_eq_some_iff.1 hj).1
    rw [hcs, List.getElem?_take, if_pos (by omega)] at hj
    simp only [World.cell?, hg]
    simpa using hj
  have hcp1 : ∀ ty dl dc sl sc, n = Nat.min sl dl → (Builtin.copy_ #[50, 50] ty #[.slice (some ⟨g, 2, none⟩) dl dc, .slice (some ⟨g, 0, none⟩) sl sc]).run Try.prog w.drew = .ok (goInt n) (w.drew.setRow g (cur.toList.take 2 ++ cs ++ cur.toList.drop (2 + cs.length)).toArray) := fun ty dl dc sl sc hm =>
    run_copy_row2 w.drew 50 50 ty 54 g 2 dl dc ⟨g, 0, none⟩ sl sc n cur 54 cs Try.underlying50 size54 hg hm hcl (fun j v hj => by rw [Addr.add_lit, Nat.zero_add]; exact h0 j v hj) (by omega) h1c
  obtain ⟨CUR1, hCUR1⟩ : ∃ X : Array Value, X = (cur.toList.take 2 ++ cs ++ cur.toList.drop (2 + cs.length)).toArray := ⟨_, rfl⟩
  rw [← hCUR1] at hcp1
  have ht1 : CUR1.toList.drop 2 = cs ++ cur.toList.drop (2 + cs.length) := by
    rw [hCUR1, List.append_assoc, List.drop_left' (by rw [List.length_take, Array.length_toList]; omega)]
  have hs1 : CUR1.size = c * 2 := by
    rw [hCUR1]
    simp only [List.size_toArray, List.length_append, List.length_take, List.length_drop, Array.length_toList]
    omega
  have hg1 : (w.drew.setRow g CUR1).heap[g]? = some (.cells CUR1 54 (0, 0)) := setRow_heap w.drew g cur CUR1 54 _ hg
  have hv1 : (w.drew.setRow g CUR1).heap[vb]? = some (.cells #[.string x.f0, .string x.f1] 54 (0, 0)) := (setRow_other w.drew g vb CUR1 hvb).trans hv
  have hcp2 : ∀ (W : World), (∀ k : Nat, W.heap[k]? = (w.drew.setRow g CUR1).heap[k]?) → ∀ ty dl dc sl sc, 1 = Nat.min sl dl → (Builtin.copy_ #[50, 50] ty #[.slice (some ⟨g, 0, none⟩) dl dc, .slice (some ⟨vb, 0, none⟩) sl sc]).run Try.prog W = .ok (goInt 1) (W.setRow g (CUR1.toList.take 0 ++ [Value.string x.f0, .string x.f1] ++ CUR1.toList.drop (0 + 2)).toArray) := fun W hW ty dl dc sl sc hm =>
    run_copy_row2 W 50 50 ty 54 g 0 dl dc ⟨vb, 0, none⟩ sl sc 1 CUR1 54 [.string x.f0, .string x.f1] Try.underlying50 size54 ((hW g).trans hg1) hm rfl (fun j v hj => by
      simp only [Addr.add_lit, World.cell?, hW vb, hv1]
      rcases j with _ | _ | j
      · simpa using hj
      · simpa using hj
      · cases hj) (by rw [hs1]; simp; omega) (fun v hv => by simp at hv; rcases hv with rfl | rfl <;> rfl)
  obtain ⟨CUR2, hCUR2⟩ : ∃ X : Array Value, X = (CUR1.toList.take 0 ++ [Value.string x.f0, .string x.f1] ++ CUR1.toList.drop (0 + 2)).toArray := ⟨_, rfl⟩
  rw [← hCUR2] at hcp2
  have hs2 : CUR2.size = c * 2 := by
    rw [hCUR2]
    simp only [List.size_toArray, List.length_append, List.length_take, List.length_drop, Array.length_toList, List.length_cons, List.length_nil]
    omega
  have ht2 : CUR2.toList.take ((n + 1) * 2) = [.string x.f0, .string x.f1] ++ cs := by
    rw [hCUR2, Nat.zero_add, ht1, List.take_zero, List.nil_append, show (n + 1) * 2 = cs.length + 2 by omega]
    simp
  have HF := Aside0.mk (And.intro hs2 (And.intro ht2 (And.intro hg1 hg)))
  clear hs1 hs2 ht1 ht2 hCUR1 hCUR2 hg1 hv1 hcs hg h0 hv h1c hsz
  go_enter Try.func71, Try.ntmps71
  go_wp2_with (simp only [hov])
  go_region_law_o (refine step_copy_runI rfl _ _ 50 50 rfl _ _ (by simp [Act.eval, Act.put]) (by simp [Act.eval, Act.put]) (hcp1 _ _ _ _ _ (by first | rfl | (simp [Nat.min_def]; try omega))) ?_)
  go_wp2_with (at_builtin; refine wpList_copy_runI _ rfl _ _ 50 50 rfl _ _ rfl rfl (hcp2 _ (fun _ => rfl) _ _ _ _ _ (by first | rfl | (simp [Nat.min_def]; try omega))) ?_)
  go_ret
  exact ⟨rfl, CUR2, setRow_heap _ g CUR1 CUR2 54 _ HF.out.2.2.1, HF.out.1, HF.out.2.1, stay_setRow (ok := fun k => k = g) (g := g) (stay_setRow (g := g) (w1 := w.drew) ((Stay.refl (fun k => k = g) w).drewN 1) (.inl (Eq.refl g)) CUR1) (.inl (Eq.refl g)) CUR2⟩

set_option maxHeartbeats 4000000 in
set_option maxRecDepth 100000 in
/-- No room: a new row. -/
theorem ins_grow (g n vb : Nat) (cur : Array Value) (x : S54) (cs : List Value) (w : World) (hn : 0 < n) (hc63 : n ≤ 1000000000)
    (hg : w.heap[g]? = some (.cells cur 54 (0, 0))) (hcs : cs = cur.toList.take (n * 2)) (hsz : cur.size = n * 2)
    (hv : w.heap[vb]? = some (.cells #[.string x.f0, .string x.f1] 54 (0, 0))) (h1c : ∀ v ∈ cs, v.oneCell' = true) :
    Calls Try.prog 71 #[.slice (some ⟨g, 0, none⟩) n n, .int .i64 0, .slice (some ⟨vb, 0, none⟩) 1 1] w fun e w' =>
      ∃ c1, e = .returned (.slice (some ⟨w.heap.size, 0, none⟩) (n + 1) c1) ∧ n + 1 ≤ c1 ∧ c1 ≤ maxLen ∧ ∃ cur', w'.heap[w.heap.size]? = some (.cells cur' 54 (0, 0)) ∧ cur'.size = c1 * 2 ∧ cur'.toList.take ((n + 1) * 2) = [.string x.f0, .string x.f1] ++ cs ∧ Stay (fun _ => False) w w' := by
  have hz2 : ¬ ((0 : Int) = (n : Int)) := by omega
  have hz3 : (n : Int) < (n : Int) + 1 := by omega
  have hcl : cs.length = n * 2 := by rw [hcs, List.length_take, Array.length_toList, hsz]; omega
  have u50 := run_underlying Try.underlying50
  have u3 := run_underlying Try.underlying3
  have mixed : Try.prog.follows Departure.mixedOrders = true := by kernel_rfl
  have hb5 : (1 : Int) ≤ (n : Int) + 1 := by omega
  have hb6 : (0 : Int) ≤ (n : Int) + 1 := by omega
  have hb7 : (0 : Int) ≤ (n : Int) := by omega
  have hw1 : IntKind.i64.wrap 1 = 1 := rfl
  have htn : (1 : Int).toNat = 1 := rfl
  have hbw : g < w.heap.size := blk_lt hg
  have hvw : vb < w.heap.size := blk_lt hv
  have h0 : ∀ j v, cs[j]? = some v → w.cell? ⟨g, j, none⟩ = some v := fun j v hj => by
    have hjl := (List.getElem?_eq_some_iff.1 hj).1
    rw [hcs, List.getElem?_take, if_pos (by omega)] at hj
    simp only [World.cell?, hg]
    simpa using hj
  obtain ⟨i0, hi0, hz0, hzs, hzb⟩ := info_parts info54
  have hold : (Builtin.firstCells i0.size 0 (.slice (some ⟨g, 0, none⟩) 0 n)).run Try.prog w.drew = .ok ([] : List Value).toArray w.drew := by
    rw [hzs]
    exact run_firstCells_some w.drew 2 0 ⟨g, 0, none⟩ 0 n [] rfl (fun j v hj => by cases hj)
  have hmx : maxLen = 9223372036854775807 := rfl
  have hrz : ∀ ty, (Builtin.append_ #[50, 3] ty #[.slice (some ⟨g, 0, none⟩) 0 n, .int .i64 ((n : Int) + 1)]).run Try.prog w =
      .ok (.slice (some ⟨w.heap.size, 0, none⟩) (n + 1) (grownCap w (n + 1) n 54)) (w.drew.alloc (.cells (#[] ++ Builtin.zeroCells (Value.agg #[.string ⟨#[]⟩, .string ⟨#[]⟩]).cells (n + 1) ++ Builtin.zeroCells (Value.agg #[.string ⟨#[]⟩, .string ⟨#[]⟩]).cells (grownCap w (n + 1) n 54 - (n + 1))) 54)) := fun ty => by
    have h := Lib.run_append_grow_zeros w 50 3 ty 54 i0 _ .i64 .i64 Try.underlying50 Try.underlying3 hi0 hz0 (some ⟨g, 0, none⟩) 0 n [] hold (n + 1) (by omega) (by omega) (by omega) (by omega) (by rw [hzb]; omega) (by rw [hzb, Nat.zero_add]; exact growslice_fits (by omega) (by omega))
    rw [Nat.zero_add] at h
    exact h
  obtain ⟨G, hG⟩ : ∃ G, G = grownCap w (n + 1) n 54 := ⟨_, rfl⟩
  have hGn : n + 1 ≤ G := by rw [hG]; exact grownCap_ge w _ _ _
  have hG63 : G ≤ maxLen := by rw [hG]; exact grownCap_le_maxLen w (n + 1) n 54 (by omega)
  obtain ⟨ROW, hROW⟩ : ∃ ROW : Array Value, ROW = #[] ++ Builtin.zeroCells (Value.agg #[.string ⟨#[]⟩, .string ⟨#[]⟩]).cells (n + 1) ++ Builtin.zeroCells (Value.agg #[.string ⟨#[]⟩, .string ⟨#[]⟩]).cells (G - (n + 1)) := ⟨_, rfl⟩
  rw [← hG] at hrz
  rw [← hROW] at hrz
  have hRs : ROW.size = G * 2 := by
    rw [hROW, Array.size_append, Array.size_append, size_zeroCells, size_zeroCells]
    show 0 + (n + 1) * 2 + (G - (n + 1)) * 2 = _
    omega
  obtain ⟨W1, hW1⟩ : ∃ W1, W1 = w.drew.alloc (.cells ROW 54) := ⟨_, rfl⟩
  have hS1 : Stay (fun _ => False) w W1 := by rw [hW1]; exact ((Stay.refl _ w).drewN 1).alloc _
  have hn1 : W1.heap[w.heap.size]? = some (.cells ROW 54 (0, 0)) := by rw [hW1]; exact heap_alloc_new w.drew _
  have hg1 : W1.heap[g]? = some (.cells cur 54 (0, 0)) := (hS1.block g hbw (fun e => e)).trans hg
  have hv1 : W1.heap[vb]? = some (.cells #[.string x.f0, .string x.f1] 54 (0, 0)) := (hS1.block vb hvw (fun e => e)).trans hv
  rw [← hW1] at hrz
  obtain ⟨CUR1, hCUR1⟩ : ∃ X : Array Value, X = (ROW.toList.take 0 ++ [Value.string x.f0, .string x.f1] ++ ROW.toList.drop (0 + 2)).toArray := ⟨_, rfl⟩
  have hcp1 : ∀ (W : World), (∀ k : Nat, W.heap[k]? = W1.heap[k]?) → ∀ ty dl dc sl sc, 1 = Nat.min sl dl → (Builtin.copy_ #[50, 50] ty #[.slice (some ⟨w.heap.size, 0, none⟩) dl dc, .slice (some ⟨vb, 0, none⟩) sl sc]).run Try.prog W = .ok (goInt 1) (W.setRow w.heap.size CUR1) := fun W hW ty dl dc sl sc hm => by
    rw [hCUR1]
    exact run_copy_row2 W 50 50 ty 54 w.heap.size 0 dl dc ⟨vb, 0, none⟩ sl sc 1 ROW 54 [.string x.f0, .string x.f1] Try.underlying50 size54 ((hW _).trans hn1) hm rfl (fun j v hj => by
      simp only [Addr.add_lit, World.cell?, hW vb, hv1]
      rcases j with _ | _ | j
      · simpa using hj
      · simpa using hj
      · cases hj) (by rw [hRs]; simp; omega) (fun v hv => by simp at hv; rcases hv with rfl | rfl <;> rfl)
  have hs1 : CUR1.size = G * 2 := by
    rw [hCUR1]
    simp only [List.size_toArray, List.length_append, List.length_take, List.length_drop, Array.length_toList, List.length_cons, List.length_nil]
    omega
  have ht1 : CUR1.toList.take 2 = [.string x.f0, .string x.f1] := by
    rw [hCUR1]
    simp
  have hn2 : (W1.setRow w.heap.size CUR1).heap[w.heap.size]? = some (.cells CUR1 54 (0, 0)) := setRow_heap W1 _ ROW CUR1 54 _ hn1
  have hg2 : (W1.setRow w.heap.size CUR1).heap[g]? = some (.cells cur 54 (0, 0)) := (setRow_other W1 _ g CUR1 (by omega)).trans hg1
  obtain ⟨CUR2, hCUR2⟩ : ∃ X : Array Value, X = (CUR1.toList.take 2 ++ cs ++ CUR1.toList.drop (2 + cs.length)).toArray := ⟨_, rfl⟩
  have hcp2 : ∀ (W : World), (∀ k : Nat, W.heap[k]? = (W1.setRow w.heap.size CUR1).heap[k]?) → ∀ ty dl dc sl sc, n = Nat.min sl dl → (Builtin.copy_ #[50, 50] ty #[.slice (some ⟨w.heap.size, 2, none⟩) dl dc, .slice (some ⟨g, 0, none⟩) sl sc]).run Try.prog W = .ok (goInt n) (W.setRow w.heap.size CUR2) := fun W hW ty dl dc sl sc hm => by
    rw [hCUR2]
    exact run_copy_row2 W 50 50 ty 54 w.heap.size 2 dl dc ⟨g, 0, none⟩ sl sc n CUR1 54 cs Try.underlying50 size54 ((hW _).trans hn2) hm hcl (fun j v hj => by
      rw [Addr.add_lit, Nat.zero_add, ← h0 j v hj]
      simp only [World.cell?, hW g, hg2, hg]) (by omega) h1c
  have hs2 : CUR2.size = G * 2 := by
    rw [hCUR2]
    simp only [List.size_toArray, List.length_append, List.length_take, List.length_drop, Array.length_toList]
    omega
  have ht2 : CUR2.toList.take ((n + 1) * 2) = [.string x.f0, .string x.f1] ++ cs := by
    rw [hCUR2, ht1, show (n + 1) * 2 = cs.length + 2 by omega]
    simp
  have HF := Aside0.mk (And.intro hs2 (And.intro ht2 (And.intro hn2 (And.intro hGn (And.intro hG63 hS1)))))
  have hGi : ¬ (G = 0) := by omega
  have hGim : ¬ (G = 1) := by omega
  have hci : ¬ (n = 0) := by omega
  clear hs1 hs2 ht1 ht2 hCUR1 hCUR2 hg1 hv1 hcs hg h0 hv h1c hsz hold hROW hRs hS1 hn1 hg2 hn2 hi0 hz0 hzs hzb hG hG63 hmx hW1
  go_enter Try.func71, Try.ntmps71
  go_wp2_with (first
    | (at_builtin; refine Lib.wpList_append_run _ rfl _ _ _ _ rfl _ _ rfl rfl _ _ (hrz _) ?_)
    | (at_builtin; refine wpList_copy_runI _ rfl _ _ 50 50 rfl _ _ rfl rfl (hcp1 _ (fun _ => rfl) _ _ _ _ _ (by first | rfl | (simp [Nat.min_def]; try omega))) ?_))
  go_region_law_o (refine step_copy_runI rfl _ _ 50 50 rfl (.slice (some ⟨w.heap.size, 2, none⟩) n (G - 1)) (.slice (some ⟨g, 0, none⟩) n n) (by simp [Act.eval, Act.put]) (by simp [Act.eval, Act.put]) (hcp2 (W1.setRow w.heap.size CUR1).drew (fun _ => rfl) 3 n (G - 1) n n (by simp)) ?_)
  go_wp2
  go_ret
  exact ⟨G, rfl, HF.out.2.2.2.1, HF.out.2.2.2.2.1, CUR2, setRow_heap _ _ CUR1 CUR2 54 _ HF.out.2.2.1, HF.out.1, HF.out.2.1, stay_fresh (stay_setRow (ok := fun k => w.heap.size ≤ k) (g := w.heap.size) ((stay_setRow (ok := fun k => w.heap.size ≤ k) (g := w.heap.size) (HF.out.2.2.2.2.2.mono (fun _ e => e.elim)) (.inr (Nat.le_refl _)) CUR1).drewN 1) (.inr (Nat.le_refl _)) CUR2)⟩

theorem lit_reads {w : World} {vb : Nat} {x : S54} (hv : w.heap[vb]? = some (.cells #[.string x.f0, .string x.f1] 54 (0, 0))) : ∀ j u, ([Value.string x.f0, .string x.f1] : List Value)[j]? = some u → w.cell? ((⟨vb, 0, none⟩ : Addr).add j) = some u := by
  intro j v hj
  simp only [Addr.add_lit, World.cell?, hv]
  rcases j with _ | _ | j
  · simpa using hj
  · simpa using hj
  · cases hj
theorem lit_one (x : S54) : ∀ u ∈ ([Value.string x.f0, .string x.f1] : List Value), u.oneCell' = true := by
  intro v hv
  simp at hv
  rcases hv with rfl | rfl <;> rfl
set_option maxHeartbeats 4000000 in
set_option maxRecDepth 100000 in
/-- Nothing is there, there is room. -/
theorem ins_end_room (g c vb : Nat) (cur : Array Value) (x : S54) (w : World) (hroom : 1 ≤ c)
    (hg : w.heap[g]? = some (.cells cur 54 (0, 0))) (hsz : cur.size = c * 2)
    (hv : w.heap[vb]? = some (.cells #[.string x.f0, .string x.f1] 54 (0, 0))) :
    Calls Try.prog 71 #[.slice (some ⟨g, 0, none⟩) 0 c, .int .i64 0, .slice (some ⟨vb, 0, none⟩) 1 1] w fun e w' =>
      e = .returned (.slice (some ⟨g, 0, none⟩) 1 c) ∧ ∃ cur', w'.heap[g]? = some (.cells cur' 54 (0, 0)) ∧ cur'.size = c * 2 ∧ cur'.toList.take 2 = [.string x.f0, .string x.f1] ∧ Stay (fun k => k = g) w w' := by
  obtain ⟨i0, hi0, hz0, hzs, hzb⟩ := info_parts info54
  have hrun : ∀ ty, (Builtin.append_ #[50, 50] ty #[.slice (some ⟨g, 0, none⟩) 0 c, .slice (some ⟨vb, 0, none⟩) 1 1]).run Try.prog w = _ := fun ty =>
    run_append_room (P := Try.prog) w 50 ty 54 i0 Try.underlying50 hi0 g 0 c cur hg ⟨vb, 0, none⟩ 1 1 [.string x.f0, .string x.f1] (by rw [hzs]; rfl) (lit_reads hv) (lit_one x) (by omega) (by rw [hsz]; simp; omega)
  obtain ⟨CUR1, hCUR1⟩ : ∃ X : Array Value, X = (cur.toList.take (0 * i0.size) ++ [Value.string x.f0, .string x.f1] ++ cur.toList.drop (0 * i0.size + [Value.string x.f0, .string x.f1].length)).toArray := ⟨_, rfl⟩
  rw [← hCUR1] at hrun
  have hs1 : CUR1.size = c * 2 := by
    rw [hCUR1, Nat.zero_mul]
    simp only [List.size_toArray, List.length_append, List.length_take, List.length_drop, Array.length_toList, List.length_cons, List.length_nil]
    omega
  have ht1 : CUR1.toList.take 2 = [.string x.f0, .string x.f1] := by
    rw [hCUR1, Nat.zero_mul]
    simp
  have HF := Aside0.mk (And.intro hs1 (And.intro ht1 (setRow_heap w g cur CUR1 54 _ hg)))
  clear hs1 ht1 hCUR1 hg hv hsz hi0 hz0 hzs hzb
  go_enter Try.func71, Try.ntmps71
  go_wp2_with (at_builtin; refine Lib.wpList_append_run _ rfl _ _ _ _ rfl _ _ rfl rfl _ _ (hrun _) ?_)
  go_ret
  exact ⟨rfl, CUR1, HF.out.2.2, HF.out.1, HF.out.2.1, stay_setRow (ok := fun k => k = g) (g := g) (Stay.refl (fun k => k = g) w) (.inl (Eq.refl g)) CUR1⟩

set_option maxHeartbeats 4000000 in
set_option maxRecDepth 100000 in
/-- Nothing is there, no room. -/
theorem ins_end_grow (A : Option Addr) (vb : Nat) (x : S54) (w : World)
    (hv : w.heap[vb]? = some (.cells #[.string x.f0, .string x.f1] 54 (0, 0))) :
    Calls Try.prog 71 #[.slice A 0 0, .int .i64 0, .slice (some ⟨vb, 0, none⟩) 1 1] w fun e w' =>
      ∃ c1, e = .returned (.slice (some ⟨w.heap.size, 0, none⟩) 1 c1) ∧ 1 ≤ c1 ∧ c1 ≤ maxLen ∧ ∃ cur', w'.heap[w.heap.size]? = some (.cells cur' 54 (0, 0)) ∧ cur'.size = c1 * 2 ∧ cur'.toList.take 2 = [.string x.f0, .string x.f1] ∧ Stay (fun _ => False) w w' := by
  obtain ⟨i0, hi0, hz0, hzs, hzb⟩ := info_parts info54
  have hmx : maxLen = 9223372036854775807 := rfl
  have hsrc : Src Try.prog i0.size 50 (.slice (some ⟨vb, 0, none⟩) 1 1) 1 [.string x.f0, .string x.f1] w := by
    rw [hzs]
    exact Src.ofSlice w Try.underlying50 ⟨vb, 0, none⟩ 1 1 [.string x.f0, .string x.f1] rfl (lit_reads hv) (lit_one x)
  have hold : (Builtin.firstCells i0.size 0 (.slice A 0 0)).run Try.prog w.drew = .ok ([] : List Value).toArray w.drew := by
    rw [hzs]
    cases A with
    | none => exact run_firstCells_none w.drew 2 0 0 0
    | some a => exact run_firstCells_some w.drew 2 0 a 0 0 [] rfl (fun j v hj => by cases hj)
  have hrun : ∀ ty, (Builtin.append_ #[50, 50] ty #[.slice A 0 0, .slice (some ⟨vb, 0, none⟩) 1 1]).run Try.prog w = _ := fun ty =>
    run_append_grow_src w 50 50 ty 54 i0 _ Try.underlying50 hi0 hz0 A 0 0 [] hold _ 1 [.string x.f0, .string x.f1] hsrc (by omega) (by omega) (by rw [hzb]; exact growslice_fits (by omega) (by omega))
  obtain ⟨G, hG⟩ : ∃ G, G = grownCap w (0 + 1) 0 54 := ⟨_, rfl⟩
  have hGn : 1 ≤ G := by rw [hG]; exact grownCap_ge w (0 + 1) _ _
  have hG63 : G ≤ maxLen := by rw [hG]; exact grownCap_le_maxLen w (0 + 1) 0 54 (by omega)
  rw [← hG] at hrun
  obtain ⟨ROW, hROW⟩ : ∃ ROW : Array Value, ROW = ([] ++ [Value.string x.f0, .string x.f1]).toArray ++ Builtin.zeroCells (Value.agg #[.string ⟨#[]⟩, .string ⟨#[]⟩]).cells (G - (0 + 1)) := ⟨_, rfl⟩
  rw [← hROW] at hrun
  have hRs : ROW.size = G * 2 := by
    rw [hROW, Array.size_append, size_zeroCells]
    show 2 + (G - (0 + 1)) * 2 = _
    omega
  have ht1 : ROW.toList.take 2 = [.string x.f0, .string x.f1] := by
    rw [hROW]
    simp
  have HF := Aside0.mk (And.intro hRs (And.intro ht1 (And.intro hGn hG63)))
  clear hRs ht1 hROW hv hsrc hold hG63 hGn hG hi0 hz0 hzs hzb hmx
  go_enter Try.func71, Try.ntmps71
  cases A with
  | none =>
    go_wp2_with (at_builtin; refine Lib.wpList_append_run _ rfl _ _ _ _ rfl _ _ rfl rfl _ _ (hrun _) ?_)
    go_ret
    exact ⟨G, rfl, HF.out.2.2.1, HF.out.2.2.2, ROW, heap_alloc_new w.drew _, HF.out.1, HF.out.2.1, ((Stay.refl _ w).drewN 1).alloc _⟩
  | some a =>
    go_wp2_with (at_builtin; refine Lib.wpList_append_run _ rfl _ _ _ _ rfl _ _ rfl rfl _ _ (hrun _) ?_)
    all_goals (go_ret; exact ⟨G, rfl, HF.out.2.2.1, HF.out.2.2.2, ROW, heap_alloc_new w.drew _, HF.out.1, HF.out.2.1, ((Stay.refl _ w).drewN 1).alloc _⟩)
end Go.Proofs.Ytohphkdemonlkaa.Tw
