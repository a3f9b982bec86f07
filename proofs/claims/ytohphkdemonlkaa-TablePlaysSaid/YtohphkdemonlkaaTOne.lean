/- Merged: TIns TRow TWalk1 TWalk2 TShelf TWalk3 TWalk4 TWalk5 TWalk6 TWalk7. -/
import Derived.Test.YtohphkdemonlkaaXQtx9
import Derived.Test.YtohphkdemonlkaaObj
import Derived.Shelf.Spec.SlicesInsertGrow
import Derived.Shelf.SlicesE.Clone
import Derived.Shelf.SlicesQ.IndexFunc
import Derived.Test.YtohphkdemonlkaaProg
import Derived.Deep.RegionHeld3
/- slices.Insert of one field at the front of a row of one's own (it begins at its block's start). -/
namespace Go.Proofs.Ytohphkdemonlkaa.Tw
open Go.RowKit Go.Lib Go.Proofs.Ytohphkdemonlkaa.XQt Go.Proofs.YtohphkdemonlkaaW.PrintWords Go.Proofs.YtohphkdemonlkaaW.PrintLast Go.Proofs.YtohphkdemonlkaaW.PrintMore Go.Proofs.Ytohphkdemonlkaa.Ob

/-- 'copy' of elements of two cells into a row. -/
theorem run_copy_row2 {P : Program} (w : World) (dT sT ty elem : TypeId) (g o dLen dCap : Nat) (a : Addr) (sLen sCap n : Nat) (cur : Array Value) (t : TypeId) (cs : List Value)
    (hu : P.underlying dT = some (.slice elem)) (hs : (P.info? elem).map (·.size) = some 2)
    (hg : w.heap[g]? = some (.cells cur t (0, 0))) (hn : n = Nat.min sLen dLen) (hl : cs.length = n * 2)
    (hsrc : ∀ j v, cs[j]? = some v → w.cell? (a.add j) = some v) (hfit : o + cs.length ≤ cur.size) (h1 : ∀ v ∈ cs, v.oneCell' = true) :
    (Builtin.copy_ #[dT, sT] ty #[.slice (some ⟨g, o, none⟩) dLen dCap, .slice (some a) sLen sCap]).run P w =
      .ok (goInt n) (w.setRow g (cur.toList.take o ++ cs ++ cur.toList.drop (o + cs.length)).toArray) := by
  have hld := run_loadCells_list (P := P) w a cs hsrc
  have hst := run_storeCells_at P g o t cs 0 cur w hg (by simpa using hfit) h1
  rw [hl] at hld
  cases hq : P.info? elem with
  | none => simp [hq] at hs
  | some i =>
    have hi : i.size = 2 := by simpa [hq] using hs
    simp [Builtin.copy_, run_underlying hu, Builtin.lenOf, Builtin.firstCells, sizeOf, typeInfo, hq, hi, ← hn, hld, hst]

theorem stay_setRow {ok : Nat → Prop} {w w1 : World} (h : Stay ok w w1) {g : Nat} (hg : ok g ∨ w.heap.size ≤ g) (X : Array Value) : Stay ok w (w1.setRow g X) :=
  h.grown (row := some g) ⟨rfl, rfl, rfl, by simp, fun k _ hk => setRow_other w1 g k X (fun e => hk (by simp [e]))⟩ (fun k e => by cases e; exact hg)
theorem stay_fresh {w w1 : World} (h : Stay (fun k => w.heap.size ≤ k) w w1) : Stay (fun _ => False) w w1 :=
  ⟨h.os, h.tape, h.output, h.size, fun k hk _ => h.block k hk (fun e => absurd hk (Nat.not_lt.2 e))⟩
theorem info54 : (Try.prog.info? 54).map (fun i => (i.zero, i.size, i.bytes)) = some (some (.agg #[.string ⟨#[]⟩, .string ⟨#[]⟩]), 2, 32) := by kernel_rfl
theorem size54 : (Try.prog.info? 54).map (·.size) = some 2 := by kernel_rfl

set_option maxHeartbeats 4000000 in
set_option maxRecDepth 100000 in
/-- There is room: all are shifted. -/
theorem ins_shift (g n c vb : Nat) (cur : Array Value) (x : S54) (cs : List Value) (w : World) (hn : 0 < n) (hroom : n + 1 ≤ c) (hc63 : c ≤ 9223372036854775807) (hvb : vb ≠ g)
    (hg : w.heap[g]? = some (.cells cur 54 (0, 0))) (hcs : cs = cur.toList.take (n * 2)) (hsz : cur.size = c * 2)
    (hv : w.heap[vb]? = some (.cells #[.string x.f0, .string x.f1] 54 (0, 0))) (h1c : ∀ v ∈ cs, v.oneCell' = true) :
    Calls Try.prog 71 #[.slice (some ⟨g, 0, none⟩) n c, .int .i64 0, .slice (some ⟨vb, 0, none⟩) 1 1] w fun e w' =>
      e = .returned (.slice (some ⟨g, 0, none⟩) (n + 1) c) ∧ ∃ cur', w'.heap[g]? = some (.cells cur' 54 (0, 0)) ∧ cur'.size = c * 2 ∧ cur'.toList.take ((n + 1) * 2) = [.string x.f0, .string x.f1] ++ cs ∧ Stay (fun k => k = g) w w' := by
  have hz2 : ¬ ((0 : Int) = (n : Int)) := by omega
  have hov : ∀ lb cb, (callFunc 91 #[.slice (some ⟨vb, 0, none⟩) 1 1, .slice (some ⟨g, 2, none⟩) lb cb]).run Try.prog w = .ok (.value (.bool false)) w := fun lb cb => by
    rw [run_callFunc_extern Try.func91 (by kernel_rfl) (by kernel_rfl) (by kernel_rfl) (e := Extern.SlicesOverlaps.overlaps #[50, 50] #[4]) (by kernel_rfl),
      Lib.run_overlaps_apart w 50 4 54 Try.underlying50 2 Try.sizeOf54 ⟨vb, 0, none⟩ ⟨g, 2, none⟩ 1 1 lb cb hvb 54 54 2 cur.size (by simp [World.shape?, hv]) (by simp [World.shape?, hg]) (by omega) (by simp [World.frozen?, hv]) (by simp [World.frozen?, hv])]
    rfl
  have hcl : cs.length = n * 2 := by rw [hcs, List.length_take, Array.length_toList, hsz]; omega
  have hb2 : ¬ (c = 1) := by omega
  have hb4 : ¬ (c = 0) := by omega
  have u50 := run_underlying Try.underlying50
  have mixed : Try.prog.follows Departure.mixedOrders = true := by kernel_rfl
  have hb5 : (1 : Int) ≤ (n : Int) + 1 := by omega
  have hb6 : (0 : Int) ≤ (n : Int) + 1 := by omega
  have hb7 : (0 : Int) ≤ (n : Int) := by omega
  have hw1 : IntKind.i64.wrap 1 = 1 := rfl
  have htn : (1 : Int).toNat = 1 := rfl
  have h0 : ∀ j v, cs[j]? = some v → w.cell? ⟨g, j, none⟩ = some v := fun j v hj => by
    have hjl := (List.getElem?_eq_some_iff.1 hj).1
    rw [hcs, List.getElem?_take, if_pos (by omega)] at hj
    simp only [World.cell?, hg]
    simpa using hj
  have hcp1 : ∀ ty dl dc sl sc, n = Nat.min sl dl → (Builtin.copy_ #[50, 50] ty #[.slice (some ⟨g, 2, none⟩) dl dc, .slice (some ⟨g, 0, none⟩) sl sc]).run Try.prog w.drew = .ok (goInt n) (w.drew.setRow g (cur.toList.take 2 ++ cs ++ cur.toList.drop (2 + cs.length)).toArray) := fun ty dl dc sl sc hm =>
    run_copy_row2 w.drew 50 50 ty 54 g 2 dl dc ⟨g, 0, none⟩ sl sc n cur 54 cs Try.underlying50 size54 hg hm hcl (fun j v hj => by rw [Addr.add_lit, Nat.zero_add]; exact h0 j v hj) (by omega) h1c
  obtain ⟨CUR1, hCUR1⟩ : ∃ X : Array Value, X = (cur.toList.take 2 ++ cs ++ cur.toList.drop (2 + cs.length)).toArray := ⟨_, rfl⟩
  rw [← hCUR1] at hcp1
  have ht1 : CUR1.toList.drop 2 = cs ++ cur.toList.drop (2 + cs.length) := by
    rw [hCUR1, List.append_assoc, List.drop_left' (by rw [List.length_take, Array.length_toList]; omega)]
  have hs1 : CUR1.size = c * 2 := by
    rw [hCUR1]
    simp only [List.size_toArray, List.length_append, List.length_take, List.length_drop, Array.length_toList]
    omega
  have hg1 : (w.drew.setRow g CUR1).heap[g]? = some (.cells CUR1 54 (0, 0)) := setRow_heap w.drew g cur CUR1 54 _ hg
  have hv1 : (w.drew.setRow g CUR1).heap[vb]? = some (.cells #[.string x.f0, .string x.f1] 54 (0, 0)) := (setRow_other w.drew g vb CUR1 hvb).trans hv
  have hcp2 : ∀ (W : World), (∀ k : Nat, W.heap[k]? = (w.drew.setRow g CUR1).heap[k]?) → ∀ ty dl dc sl sc, 1 = Nat.min sl dl → (Builtin.copy_ #[50, 50] ty #[.slice (some ⟨g, 0, none⟩) dl dc, .slice (some ⟨vb, 0, none⟩) sl sc]).run Try.prog W = .ok (goInt 1) (W.setRow g (CUR1.toList.take 0 ++ [Value.string x.f0, .string x.f1] ++ CUR1.toList.drop (0 + 2)).toArray) := fun W hW ty dl dc sl sc hm =>
    run_copy_row2 W 50 50 ty 54 g 0 dl dc ⟨vb, 0, none⟩ sl sc 1 CUR1 54 [.string x.f0, .string x.f1] Try.underlying50 size54 ((hW g).trans hg1) hm rfl (fun j v hj => by
      simp only [Addr.add_lit, World.cell?, hW vb, hv1]
      rcases j with _ | _ | j
      · simpa using hj
      · simpa using hj
      · cases hj) (by rw [hs1]; simp; omega) (fun v hv => by simp at hv; rcases hv with rfl | rfl <;> rfl)
  obtain ⟨CUR2, hCUR2⟩ : ∃ X : Array Value, X = (CUR1.toList.take 0 ++ [Value.string x.f0, .string x.f1] ++ CUR1.toList.drop (0 + 2)).toArray := ⟨_, rfl⟩
  rw [← hCUR2] at hcp2
  have hs2 : CUR2.size = c * 2 := by
    rw [hCUR2]
    simp only [List.size_toArray, List.length_append, List.length_take, List.length_drop, Array.length_toList, List.length_cons, List.length_nil]
    omega
  have ht2 : CUR2.toList.take ((n + 1) * 2) = [.string x.f0, .string x.f1] ++ cs := by
    rw [hCUR2, Nat.zero_add, ht1, List.take_zero, List.nil_append, show (n + 1) * 2 = cs.length + 2 by omega]
    simp
  have HF := Aside0.mk (And.intro hs2 (And.intro ht2 (And.intro hg1 hg)))
  clear hs1 hs2 ht1 ht2 hCUR1 hCUR2 hg1 hv1 hcs hg h0 hv h1c hsz
  go_enter Try.func71, Try.ntmps71
  go_wp2_with (simp only [hov])
  go_region_law_o (refine step_copy_runI rfl _ _ 50 50 rfl _ _ (by simp [Act.eval, Act.put]) (by simp [Act.eval, Act.put]) (hcp1 _ _ _ _ _ (by first | rfl | (simp [Nat.min_def]; try omega))) ?_)
  go_wp2_with (at_builtin; refine wpList_copy_runI _ rfl _ _ 50 50 rfl _ _ rfl rfl (hcp2 _ (fun _ => rfl) _ _ _ _ _ (by first | rfl | (simp [Nat.min_def]; try omega))) ?_)
  go_ret
  exact ⟨rfl, CUR2, setRow_heap _ g CUR1 CUR2 54 _ HF.out.2.2.1, HF.out.1, HF.out.2.1, stay_setRow (ok := fun k => k = g) (g := g) (stay_setRow (g := g) (w1 := w.drew) ((Stay.refl (fun k => k = g) w).drewN 1) (.inl (Eq.refl g)) CUR1) (.inl (Eq.refl g)) CUR2⟩

set_option maxHeartbeats 4000000 in
set_option maxRecDepth 100000 in
/-- No room: a new row. -/
theorem ins_grow (g n vb : Nat) (cur : Array Value) (x : S54) (cs : List Value) (w : World) (hn : 0 < n) (hc63 : n ≤ 1000000000)
    (hg : w.heap[g]? = some (.cells cur 54 (0, 0))) (hcs : cs = cur.toList.take (n * 2)) (hsz : cur.size = n * 2)
    (hv : w.heap[vb]? = some (.cells #[.string x.f0, .string x.f1] 54 (0, 0))) (h1c : ∀ v ∈ cs, v.oneCell' = true) :
    Calls Try.prog 71 #[.slice (some ⟨g, 0, none⟩) n n, .int .i64 0, .slice (some ⟨vb, 0, none⟩) 1 1] w fun e w' =>
      ∃ c1, e = .returned (.slice (some ⟨w.heap.size, 0, none⟩) (n + 1) c1) ∧ n + 1 ≤ c1 ∧ c1 ≤ maxLen ∧ ∃ cur', w'.heap[w.heap.size]? = some (.cells cur' 54 (0, 0)) ∧ cur'.size = c1 * 2 ∧ cur'.toList.take ((n + 1) * 2) = [.string x.f0, .string x.f1] ++ cs ∧ Stay (fun _ => False) w w' := by
  have hz2 : ¬ ((0 : Int) = (n : Int)) := by omega
  have hz3 : (n : Int) < (n : Int) + 1 := by omega
  have hcl : cs.length = n * 2 := by rw [hcs, List.length_take, Array.length_toList, hsz]; omega
  have u50 := run_underlying Try.underlying50
  have u3 := run_underlying Try.underlying3
  have mixed : Try.prog.follows Departure.mixedOrders = true := by kernel_rfl
  have hb5 : (1 : Int) ≤ (n : Int) + 1 := by omega
  have hb6 : (0 : Int) ≤ (n : Int) + 1 := by omega
  have hb7 : (0 : Int) ≤ (n : Int) := by omega
  have hw1 : IntKind.i64.wrap 1 = 1 := rfl
  have htn : (1 : Int).toNat = 1 := rfl
  have hbw : g < w.heap.size := blk_lt hg
  have hvw : vb < w.heap.size := blk_lt hv
  have h0 : ∀ j v, cs[j]? = some v → w.cell? ⟨g, j, none⟩ = some v := fun j v hj => by
    have hjl := (List.getElem?_eq_some_iff.1 hj).1
    rw [hcs, List.getElem?_take, if_pos (by omega)] at hj
    simp only [World.cell?, hg]
    simpa using hj
  obtain ⟨i0, hi0, hz0, hzs, hzb⟩ := info_parts info54
  have hold : (Builtin.firstCells i0.size 0 (.slice (some ⟨g, 0, none⟩) 0 n)).run Try.prog w.drew = .ok ([] : List Value).toArray w.drew := by
    rw [hzs]
    exact run_firstCells_some w.drew 2 0 ⟨g, 0, none⟩ 0 n [] rfl (fun j v hj => by cases hj)
  have hmx : maxLen = 9223372036854775807 := rfl
  have hrz : ∀ ty, (Builtin.append_ #[50, 3] ty #[.slice (some ⟨g, 0, none⟩) 0 n, .int .i64 ((n : Int) + 1)]).run Try.prog w =
      .ok (.slice (some ⟨w.heap.size, 0, none⟩) (n + 1) (grownCap w (n + 1) n 54)) (w.drew.alloc (.cells (#[] ++ Builtin.zeroCells (Value.agg #[.string ⟨#[]⟩, .string ⟨#[]⟩]).cells (n + 1) ++ Builtin.zeroCells (Value.agg #[.string ⟨#[]⟩, .string ⟨#[]⟩]).cells (grownCap w (n + 1) n 54 - (n + 1))) 54)) := fun ty => by
    have h := Lib.run_append_grow_zeros w 50 3 ty 54 i0 _ .i64 .i64 Try.underlying50 Try.underlying3 hi0 hz0 (some ⟨g, 0, none⟩) 0 n [] hold (n + 1) (by omega) (by omega) (by omega) (by omega) (by rw [hzb]; omega) (by rw [hzb, Nat.zero_add]; exact growslice_fits (by omega) (by omega))
    rw [Nat.zero_add] at h
    exact h
  obtain ⟨G, hG⟩ : ∃ G, G = grownCap w (n + 1) n 54 := ⟨_, rfl⟩
  have hGn : n + 1 ≤ G := by rw [hG]; exact grownCap_ge w _ _ _
  have hG63 : G ≤ maxLen := by rw [hG]; exact grownCap_le_maxLen w (n + 1) n 54 (by omega)
  obtain ⟨ROW, hROW⟩ : ∃ ROW : Array Value, ROW = #[] ++ Builtin.zeroCells (Value.agg #[.string ⟨#[]⟩, .string ⟨#[]⟩]).cells (n + 1) ++ Builtin.zeroCells (Value.agg #[.string ⟨#[]⟩, .string ⟨#[]⟩]).cells (G - (n + 1)) := ⟨_, rfl⟩
  rw [← hG] at hrz
  rw [← hROW] at hrz
  have hRs : ROW.size = G * 2 := by
    rw [hROW, Array.size_append, Array.size_append, size_zeroCells, size_zeroCells]
    show 0 + (n + 1) * 2 + (G - (n + 1)) * 2 = _
    omega
  obtain ⟨W1, hW1⟩ : ∃ W1, W1 = w.drew.alloc (.cells ROW 54) := ⟨_, rfl⟩
  have hS1 : Stay (fun _ => False) w W1 := by rw [hW1]; exact ((Stay.refl _ w).drewN 1).alloc _
  have hn1 : W1.heap[w.heap.size]? = some (.cells ROW 54 (0, 0)) := by rw [hW1]; exact heap_alloc_new w.drew _
  have hg1 : W1.heap[g]? = some (.cells cur 54 (0, 0)) := (hS1.block g hbw (fun e => e)).trans hg
  have hv1 : W1.heap[vb]? = some (.cells #[.string x.f0, .string x.f1] 54 (0, 0)) := (hS1.block vb hvw (fun e => e)).trans hv
  rw [← hW1] at hrz
  obtain ⟨CUR1, hCUR1⟩ : ∃ X : Array Value, X = (ROW.toList.take 0 ++ [Value.string x.f0, .string x.f1] ++ ROW.toList.drop (0 + 2)).toArray := ⟨_, rfl⟩
  have hcp1 : ∀ (W : World), (∀ k : Nat, W.heap[k]? = W1.heap[k]?) → ∀ ty dl dc sl sc, 1 = Nat.min sl dl → (Builtin.copy_ #[50, 50] ty #[.slice (some ⟨w.heap.size, 0, none⟩) dl dc, .slice (some ⟨vb, 0, none⟩) sl sc]).run Try.prog W = .ok (goInt 1) (W.setRow w.heap.size CUR1) := fun W hW ty dl dc sl sc hm => by
    rw [hCUR1]
    exact run_copy_row2 W 50 50 ty 54 w.heap.size 0 dl dc ⟨vb, 0, none⟩ sl sc 1 ROW 54 [.string x.f0, .string x.f1] Try.underlying50 size54 ((hW _).trans hn1) hm rfl (fun j v hj => by
      simp only [Addr.add_lit, World.cell?, hW vb, hv1]
      rcases j with _ | _ | j
      · simpa using hj
      · simpa using hj
      · cases hj) (by rw [hRs]; simp; omega) (fun v hv => by simp at hv; rcases hv with rfl | rfl <;> rfl)
  have hs1 : CUR1.size = G * 2 := by
    rw [hCUR1]
    simp only [List.size_toArray, List.length_append, List.length_take, List.length_drop, Array.length_toList, List.length_cons, List.length_nil]
    omega
  have ht1 : CUR1.toList.take 2 = [.string x.f0, .string x.f1] := by
    rw [hCUR1]
    simp
  have hn2 : (W1.setRow w.heap.size CUR1).heap[w.heap.size]? = some (.cells CUR1 54 (0, 0)) := setRow_heap W1 _ ROW CUR1 54 _ hn1
  have hg2 : (W1.setRow w.heap.size CUR1).heap[g]? = some (.cells cur 54 (0, 0)) := (setRow_other W1 _ g CUR1 (by omega)).trans hg1
  obtain ⟨CUR2, hCUR2⟩ : ∃ X : Array Value, X = (CUR1.toList.take 2 ++ cs ++ CUR1.toList.drop (2 + cs.length)).toArray := ⟨_, rfl⟩
  have hcp2 : ∀ (W : World), (∀ k : Nat, W.heap[k]? = (W1.setRow w.heap.size CUR1).heap[k]?) → ∀ ty dl dc sl sc, n = Nat.min sl dl → (Builtin.copy_ #[50, 50] ty #[.slice (some ⟨w.heap.size, 2, none⟩) dl dc, .slice (some ⟨g, 0, none⟩) sl sc]).run Try.prog W = .ok (goInt n) (W.setRow w.heap.size CUR2) := fun W hW ty dl dc sl sc hm => by
    rw [hCUR2]
    exact run_copy_row2 W 50 50 ty 54 w.heap.size 2 dl dc ⟨g, 0, none⟩ sl sc n CUR1 54 cs Try.underlying50 size54 ((hW _).trans hn2) hm hcl (fun j v hj => by
      rw [Addr.add_lit, Nat.zero_add, ← h0 j v hj]
      simp only [World.cell?, hW g, hg2, hg]) (by omega) h1c
  have hs2 : CUR2.size = G * 2 := by
    rw [hCUR2]
    simp only [List.size_toArray, List.length_append, List.length_take, List.length_drop, Array.length_toList]
    omega
  have ht2 : CUR2.toList.take ((n + 1) * 2) = [.string x.f0, .string x.f1] ++ cs := by
    rw [hCUR2, ht1, show (n + 1) * 2 = cs.length + 2 by omega]
    simp
  have HF := Aside0.mk (And.intro hs2 (And.intro ht2 (And.intro hn2 (And.intro hGn (And.intro hG63 hS1)))))
  have hGi : ¬ (G = 0) := by omega
  have hGim : ¬ (G = 1) := by omega
  have hci : ¬ (n = 0) := by omega
  clear hs1 hs2 ht1 ht2 hCUR1 hCUR2 hg1 hv1 hcs hg h0 hv h1c hsz hold hROW hRs hS1 hn1 hg2 hn2 hi0 hz0 hzs hzb hG hG63 hmx hW1
  go_enter Try.func71, Try.ntmps71
  go_wp2_with (first
    | (at_builtin; refine Lib.wpList_append_run _ rfl _ _ _ _ rfl _ _ rfl rfl _ _ (hrz _) ?_)
    | (at_builtin; refine wpList_copy_runI _ rfl _ _ 50 50 rfl _ _ rfl rfl (hcp1 _ (fun _ => rfl) _ _ _ _ _ (by first | rfl | (simp [Nat.min_def]; try omega))) ?_))
  go_region_law_o (refine step_copy_runI rfl _ _ 50 50 rfl (.slice (some ⟨w.heap.size, 2, none⟩) n (G - 1)) (.slice (some ⟨g, 0, none⟩) n n) (by simp [Act.eval, Act.put]) (by simp [Act.eval, Act.put]) (hcp2 (W1.setRow w.heap.size CUR1).drew (fun _ => rfl) 3 n (G - 1) n n (by simp)) ?_)
  go_wp2
  go_ret
  exact ⟨G, rfl, HF.out.2.2.2.1, HF.out.2.2.2.2.1, CUR2, setRow_heap _ _ CUR1 CUR2 54 _ HF.out.2.2.1, HF.out.1, HF.out.2.1, stay_fresh (stay_setRow (ok := fun k => w.heap.size ≤ k) (g := w.heap.size) ((stay_setRow (ok := fun k => w.heap.size ≤ k) (g := w.heap.size) (HF.out.2.2.2.2.2.mono (fun _ e => e.elim)) (.inr (Nat.le_refl _)) CUR1).drewN 1) (.inr (Nat.le_refl _)) CUR2)⟩

theorem lit_reads {w : World} {vb : Nat} {x : S54} (hv : w.heap[vb]? = some (.cells #[.string x.f0, .string x.f1] 54 (0, 0))) : ∀ j u, ([Value.string x.f0, .string x.f1] : List Value)[j]? = some u → w.cell? ((⟨vb, 0, none⟩ : Addr).add j) = some u := by
  intro j v hj
  simp only [Addr.add_lit, World.cell?, hv]
  rcases j with _ | _ | j
  · simpa using hj
  · simpa using hj
  · cases hj
theorem lit_one (x : S54) : ∀ u ∈ ([Value.string x.f0, .string x.f1] : List Value), u.oneCell' = true := by
  intro v hv
  simp at hv
  rcases hv with rfl | rfl <;> rfl
set_option maxHeartbeats 4000000 in
set_option maxRecDepth 100000 in
/-- Nothing is there, there is room. -/
theorem ins_end_room (g c vb : Nat) (cur : Array Value) (x : S54) (w : World) (hroom : 1 ≤ c)
    (hg : w.heap[g]? = some (.cells cur 54 (0, 0))) (hsz : cur.size = c * 2)
    (hv : w.heap[vb]? = some (.cells #[.string x.f0, .string x.f1] 54 (0, 0))) :
    Calls Try.prog 71 #[.slice (some ⟨g, 0, none⟩) 0 c, .int .i64 0, .slice (some ⟨vb, 0, none⟩) 1 1] w fun e w' =>
      e = .returned (.slice (some ⟨g, 0, none⟩) 1 c) ∧ ∃ cur', w'.heap[g]? = some (.cells cur' 54 (0, 0)) ∧ cur'.size = c * 2 ∧ cur'.toList.take 2 = [.string x.f0, .string x.f1] ∧ Stay (fun k => k = g) w w' := by
  obtain ⟨i0, hi0, hz0, hzs, hzb⟩ := info_parts info54
  have hrun : ∀ ty, (Builtin.append_ #[50, 50] ty #[.slice (some ⟨g, 0, none⟩) 0 c, .slice (some ⟨vb, 0, none⟩) 1 1]).run Try.prog w = _ := fun ty =>
    run_append_room (P := Try.prog) w 50 ty 54 i0 Try.underlying50 hi0 g 0 c cur hg ⟨vb, 0, none⟩ 1 1 [.string x.f0, .string x.f1] (by rw [hzs]; rfl) (lit_reads hv) (lit_one x) (by omega) (by rw [hsz]; simp; omega)
  obtain ⟨CUR1, hCUR1⟩ : ∃ X : Array Value, X = (cur.toList.take (0 * i0.size) ++ [Value.string x.f0, .string x.f1] ++ cur.toList.drop (0 * i0.size + [Value.string x.f0, .string x.f1].length)).toArray := ⟨_, rfl⟩
  rw [← hCUR1] at hrun
  have hs1 : CUR1.size = c * 2 := by
    rw [hCUR1, Nat.zero_mul]
    simp only [List.size_toArray, List.length_append, List.length_take, List.length_drop, Array.length_toList, List.length_cons, List.length_nil]
    omega
  have ht1 : CUR1.toList.take 2 = [.string x.f0, .string x.f1] := by
    rw [hCUR1, Nat.zero_mul]
    simp
  have HF := Aside0.mk (And.intro hs1 (And.intro ht1 (setRow_heap w g cur CUR1 54 _ hg)))
  clear hs1 ht1 hCUR1 hg hv hsz hi0 hz0 hzs hzb
  go_enter Try.func71, Try.ntmps71
  go_wp2_with (at_builtin; refine Lib.wpList_append_run _ rfl _ _ _ _ rfl _ _ rfl rfl _ _ (hrun _) ?_)
  go_ret
  exact ⟨rfl, CUR1, HF.out.2.2, HF.out.1, HF.out.2.1, stay_setRow (ok := fun k => k = g) (g := g) (Stay.refl (fun k => k = g) w) (.inl (Eq.refl g)) CUR1⟩

set_option maxHeartbeats 4000000 in
set_option maxRecDepth 100000 in
/-- Nothing is there, no room. -/
theorem ins_end_grow (A : Option Addr) (vb : Nat) (x : S54) (w : World)
    (hv : w.heap[vb]? = some (.cells #[.string x.f0, .string x.f1] 54 (0, 0))) :
    Calls Try.prog 71 #[.slice A 0 0, .int .i64 0, .slice (some ⟨vb, 0, none⟩) 1 1] w fun e w' =>
      ∃ c1, e = .returned (.slice (some ⟨w.heap.size, 0, none⟩) 1 c1) ∧ 1 ≤ c1 ∧ c1 ≤ maxLen ∧ ∃ cur', w'.heap[w.heap.size]? = some (.cells cur' 54 (0, 0)) ∧ cur'.size = c1 * 2 ∧ cur'.toList.take 2 = [.string x.f0, .string x.f1] ∧ Stay (fun _ => False) w w' := by
  obtain ⟨i0, hi0, hz0, hzs, hzb⟩ := info_parts info54
  have hmx : maxLen = 9223372036854775807 := rfl
  have hsrc : Src Try.prog i0.size 50 (.slice (some ⟨vb, 0, none⟩) 1 1) 1 [.string x.f0, .string x.f1] w := by
    rw [hzs]
    exact Src.ofSlice w Try.underlying50 ⟨vb, 0, none⟩ 1 1 [.string x.f0, .string x.f1] rfl (lit_reads hv) (lit_one x)
  have hold : (Builtin.firstCells i0.size 0 (.slice A 0 0)).run Try.prog w.drew = .ok ([] : List Value).toArray w.drew := by
    rw [hzs]
    cases A with
    | none => exact run_firstCells_none w.drew 2 0 0 0
    | some a => exact run_firstCells_some w.drew 2 0 a 0 0 [] rfl (fun j v hj => by cases hj)
  have hrun : ∀ ty, (Builtin.append_ #[50, 50] ty #[.slice A 0 0, .slice (some ⟨vb, 0, none⟩) 1 1]).run Try.prog w = _ := fun ty =>
    run_append_grow_src w 50 50 ty 54 i0 _ Try.underlying50 hi0 hz0 A 0 0 [] hold _ 1 [.string x.f0, .string x.f1] hsrc (by omega) (by omega) (by rw [hzb]; exact growslice_fits (by omega) (by omega))
  obtain ⟨G, hG⟩ : ∃ G, G = grownCap w (0 + 1) 0 54 := ⟨_, rfl⟩
  have hGn : 1 ≤ G := by rw [hG]; exact grownCap_ge w (0 + 1) _ _
  have hG63 : G ≤ maxLen := by rw [hG]; exact grownCap_le_maxLen w (0 + 1) 0 54 (by omega)
  rw [← hG] at hrun
  obtain ⟨ROW, hROW⟩ : ∃ ROW : Array Value, ROW = ([] ++ [Value.string x.f0, .string x.f1]).toArray ++ Builtin.zeroCells (Value.agg #[.string ⟨#[]⟩, .string ⟨#[]⟩]).cells (G - (0 + 1)) := ⟨_, rfl⟩
  rw [← hROW] at hrun
  have hRs : ROW.size = G * 2 := by
    rw [hROW, Array.size_append, size_zeroCells]
    show 2 + (G - (0 + 1)) * 2 = _
    omega
  have ht1 : ROW.toList.take 2 = [.string x.f0, .string x.f1] := by
    rw [hROW]
    simp
  have HF := Aside0.mk (And.intro hRs (And.intro ht1 (And.intro hGn hG63)))
  clear hRs ht1 hROW hv hsrc hold hG63 hGn hG hi0 hz0 hzs hzb hmx
  go_enter Try.func71, Try.ntmps71
  cases A with
  | none =>
    go_wp2_with (at_builtin; refine Lib.wpList_append_run _ rfl _ _ _ _ rfl _ _ rfl rfl _ _ (hrun _) ?_)
    go_ret
    exact ⟨G, rfl, HF.out.2.2.1, HF.out.2.2.2, ROW, heap_alloc_new w.drew _, HF.out.1, HF.out.2.1, ((Stay.refl _ w).drewN 1).alloc _⟩
  | some a =>
    go_wp2_with (at_builtin; refine Lib.wpList_append_run _ rfl _ _ _ _ rfl _ _ rfl rfl _ _ (hrun _) ?_)
    all_goals (go_ret; exact ⟨G, rfl, HF.out.2.2.1, HF.out.2.2.2, ROW, heap_alloc_new w.drew _, HF.out.1, HF.out.2.1, ((Stay.refl _ w).drewN 1).alloc _⟩)
end Go.Proofs.Ytohphkdemonlkaa.Tw
/- Rows of fields of one's own: opened, made; slices.Insert at the front as a mover of such a row. -/
namespace Go.Proofs.Ytohphkdemonlkaa.Tw
open Go.RowKit Go.Lib Go.Proofs.Ytohphkdemonlkaa.XQt Go.Proofs.YtohphkdemonlkaaW.PrintWords Go.Proofs.YtohphkdemonlkaaW.PrintLast Go.Proofs.YtohphkdemonlkaaW.PrintMore Go.Proofs.Ytohphkdemonlkaa.Ob

/-- The cells of fields, one behind the other. -/
def fcells : List S54 → List Value
  | [] => []
  | x :: l => .string x.f0 :: .string x.f1 :: fcells l
theorem fcells_len : ∀ l : List S54, (fcells l).length = l.length * 2
  | [] => rfl
  | x :: l => by simp only [fcells, List.length_cons, fcells_len l]; omega
theorem fcells_one : ∀ l : List S54, ∀ v ∈ fcells l, v.oneCell' = true
  | [], v, h => by cases h
  | x :: l, v, h => by
    simp only [fcells, List.mem_cons] at h
    rcases h with rfl | rfl | h
    · rfl
    · rfl
    · exact fcells_one l v h
theorem reps_fcells {R : S54 → List Value → Prop} (hR : ∀ p c, R p c → c = [.string p.f0, .string p.f1]) : ∀ (l : List S54) (cs : List Value), Reps R 2 l cs → cs = fcells l
  | [], cs, h => List.eq_nil_of_length_eq_zero (by simpa using h.1)
  | x :: l, cs, h => by
    have hl := h.1
    rw [List.length_cons] at hl
    match cs, hl, h with
    | [], hl, _ => exact absurd hl (by simp)
    | [_], hl, _ => exact absurd hl (by simp only [List.length_cons, List.length_nil]; omega)
    | a :: b :: r, hl, h =>
      have h0 := hR _ _ (h.2 0 x rfl)
      simp at h0
      obtain ⟨rfl, rfl⟩ := h0
      have := reps_fcells hR l r ⟨by simp only [List.length_cons] at hl; omega, fun j p hj => by
        have := h.2 (j + 1) p (by simpa using hj)
        rw [show (j + 1) * 2 = j * 2 + 1 + 1 by omega] at this
        simpa using this⟩
      rw [fcells, this]
theorem fcells_reps {R : S54 → List Value → Prop} (hR : ∀ p : S54, R p [.string p.f0, .string p.f1]) : ∀ l : List S54, Reps R 2 l (fcells l)
  | [] => Reps.none R 2
  | x :: l => by
    have ih := fcells_reps hR l
    refine ⟨fcells_len _, fun j p hj => ?_⟩
    cases j with
    | zero => 
      obtain rfl : x = p := by simpa using hj
      exact hR x
    | succ j =>
      have := ih.2 j p (by simpa using hj)
      rw [show (j + 1) * 2 = j * 2 + 1 + 1 by omega]
      simpa [fcells] using this
theorem r_open {w : World} {base : Nat} {ok : Nat → Prop} {v : Value} {l : List S54} (h : k54.R 54 w base ok v l) :
    (v = .slice none 0 0 ∧ l = []) ∨ ∃ g c cur, v = .slice (some ⟨g, 0, none⟩) l.length c ∧ base ≤ g ∧ ok g ∧ w.heap[g]? = some (.cells cur 54 (0, 0)) ∧ l.length ≤ c ∧ c ≤ maxLen ∧ cur.size = c * 2 ∧ cur.toList.take (l.length * 2) = fcells l := by
  obtain ⟨h0, inner, ⟨_, hr⟩, hreps⟩ := h
  rcases hr with ⟨rfl, h1⟩ | ⟨g, cap, cur, rfl, hb, hh, hnc, hcm, hcs, ht⟩
  · exact .inl ⟨rfl, List.eq_nil_of_length_eq_zero h1⟩
  · exact .inr ⟨g, cap, cur, rfl, hb, h0 g rfl, hh, hnc, hcm, hcs, ht.trans (reps_fcells (fun p c hp => k54_openM hp) l inner hreps)⟩
theorem r_make {w : World} {base : Nat} {ok : Nat → Prop} {g n c : Nat} {cur : Array Value} {l : List S54} (hb : base ≤ g) (ho : ok g) (hh : w.heap[g]? = some (.cells cur 54 (0, 0))) (hl : l.length = n) (hnc : n ≤ c) (hcm : c ≤ maxLen) (hcs : cur.size = c * 2)
    (ht : cur.toList.take (n * 2) = fcells l) : k54.R 54 w base ok (.slice (some ⟨g, 0, none⟩) n c) l := by
  subst hl
  exact ⟨fun k hk => by cases hk; exact ho, fcells l, ⟨fcells_len l, .inr ⟨g, c, cur, rfl, hb, hh, hnc, hcm, hcs, ht⟩⟩, fcells_reps (fun p => k54_mkM _ _ _ p) l⟩

/-- slices.Insert of one at the front, of a row of one's own. -/
theorem insert_calls {w : World} {base : Nat} {ok : Nat → Prop} {A : Option Addr} {n c : Nat} {l : List S54} (h : k54.R 54 w base ok (.slice A n c) l) (hbs : base ≤ w.heap.size) (hl9 : l.length ≤ 1000000000) (x : S54) (vb : Nat)
    (hv : w.heap[vb]? = some (.cells #[.string x.f0, .string x.f1] 54 (0, 0))) (hnv : ¬ ok vb) :
    Calls Try.prog 71 #[.slice A n c, .int .i64 0, .slice (some ⟨vb, 0, none⟩) 1 1] w fun e w' => ∃ A1 c1, e = .returned (.slice A1 (n + 1) c1) ∧
      k54.R 54 w' base (fun k => ok k ∨ w.heap.size ≤ k) (.slice A1 (n + 1) c1) (x :: l) ∧ Stay ok w w' := by
  have hn : n = l.length := (Kd.R_reads' h).1
  subst hn
  have hmx : maxLen = 9223372036854775807 := rfl
  rcases r_open h with ⟨hv0, rfl⟩ | ⟨g, c', cur, hv0, hb, hok, hh, hnc, hcm, hcs, ht⟩
  · injection hv0 with h1 h2 h3
    subst h1; subst h3
    refine (ins_end_grow none vb x w hv).mono ?_
    rintro e w' ⟨c1, rfl, h1, h2, cur', h3, h4, h5, h6⟩
    exact ⟨_, c1, rfl, r_make hbs (.inr (Nat.le_refl _)) h3 rfl h1 h2 h4 h5, h6.mono (fun _ e => e.elim)⟩
  · injection hv0 with h1 h2 h3
    subst h1; subst h3
    rcases Nat.eq_zero_or_pos l.length with hz | hp
    · obtain rfl : l = [] := List.eq_nil_of_length_eq_zero hz
      rcases Nat.eq_zero_or_pos c with rfl | hc
      · refine (ins_end_grow (some ⟨g, 0, none⟩) vb x w hv).mono ?_
        rintro e w' ⟨c1, rfl, h1, h2, cur', h3, h4, h5, h6⟩
        exact ⟨_, c1, rfl, r_make hbs (.inr (Nat.le_refl _)) h3 rfl h1 h2 h4 h5, h6.mono (fun _ e => e.elim)⟩
      · refine (ins_end_room g c vb cur x w hc hh hcs hv).mono ?_
        rintro e w' ⟨rfl, cur', h3, h4, h5, h6⟩
        exact ⟨_, c, rfl, r_make hb (.inl hok) h3 rfl hc hcm h4 h5, h6.mono (fun k e => e ▸ hok)⟩
    · rcases Nat.lt_or_ge l.length c with hroom | hroom
      · refine (ins_shift g l.length c vb cur x (fcells l) w hp hroom (by omega) (fun e => hnv (e ▸ hok)) hh ht.symm hcs hv (fcells_one l)).mono ?_
        rintro e w' ⟨rfl, cur', h3, h4, h5, h6⟩
        exact ⟨_, c, rfl, r_make hb (.inl hok) h3 rfl hroom hcm h4 h5, h6.mono (fun k e => e ▸ hok)⟩
      · obtain rfl : c = l.length := by omega
        refine (ins_grow g l.length vb cur x (fcells l) w hp hl9 hh ht.symm hcs hv (fcells_one l)).mono ?_
        rintro e w' ⟨c1, rfl, h1, h2, cur', h3, h4, h5, h6⟩
        exact ⟨_, c1, rfl, r_make hbs (.inr (Nat.le_refl _)) h3 rfl h1 h2 h4 h5, h6.mono (fun _ e => e.elim)⟩
end Go.Proofs.Ytohphkdemonlkaa.Tw
/- Contracts of the table's methods: New, Used, Size, Cost, All, shrink. -/
namespace Go.Proofs.Ytohphkdemonlkaa.Tw
open Go.RowKit Go.Lib Go.Proofs.Ytohphkdemonlkaa.XQt Go.Proofs.YtohphkdemonlkaaW.PrintWords Go.Proofs.YtohphkdemonlkaaW.PrintLast Go.Proofs.YtohphkdemonlkaaW.PrintMore Go.Proofs.Ytohphkdemonlkaa.Ob

theorem w64_in (n : Int) (h : -9223372036854775808 ≤ n ∧ n ≤ 9223372036854775807) : wrap64 n = n := by unfold wrap64; omega
/-- What a field counts. -/
def cost (x : S54) : Int := (x.f0.size : Int) + x.f1.size + 32
def total : List S54 → Int
  | [] => 0
  | x :: l => cost x + total l
theorem cost_pos (x : S54) : 32 ≤ cost x := by unfold cost; omega
theorem total_nonneg : ∀ l : List S54, 32 * (l.length : Int) ≤ total l
  | [] => by simp [total]
  | x :: l => by
    have := total_nonneg l
    have := cost_pos x
    simp only [total, List.length_cons]
    omega
theorem total_append : ∀ (a b : List S54), total (a ++ b) = total a + total b
  | [], b => by simp [total]
  | x :: a, b => by
    have := total_append a b
    simp only [List.cons_append, total]
    omega
theorem cost_f (x : S54) (h : cost x ≤ 4611686018427387904) : table_Cost.f x.f0 x.f1 = some (cost x) := by
  unfold cost at h
  unfold table_Cost.f cost
  rw [w64_in ((x.f0.size : Int) + x.f1.size) (by omega), w64_in _ (by omega)]
theorem cost_calls (x : S54) (h : cost x ≤ 4611686018427387904) (w : World) :
    Calls Try.prog 30 #[.agg #[.string x.f0, .string x.f1]] w fun e w' => e = .returned (.int .i64 (cost x)) ∧ Below w.heap.size w w' := table_Cost.calls _ _ _ w (cost_f x h)

/-! ### the table in memory -/
/-- A table: the fields that were added, how much may be used, how much is. -/
abbrev TK : Kd (List S54 × (Int × Int)) := ptr 96 (Kd.pair (Kd.slice 54 k54) (Kd.pair (Kd.int .i64) (Kd.int .i64)))
theorem tk_open {w : World} {base : Nat} {ok : Nat → Prop} {q : List S54 × (Int × Int)} {cs : List Value} (h : TK.M w base ok q cs) :
    ∃ g A c, cs = [.pointer (some ⟨g, 0, none⟩)] ∧ base ≤ g ∧ ok g ∧ w.heap[g]? = some (.cells #[.slice A q.1.length c, .int .i64 q.2.1, .int .i64 q.2.2] 96 (0, 0)) ∧ q.1.length ≤ c ∧
      k54.R 54 w base (fun k => ok k ∧ k ≠ g) (.slice A q.1.length c) q.1 := by
  obtain ⟨g, cells, rfl, hb, ho, hg, c0, c1, hc, ⟨v, rfl, hq⟩, c2, c3, hc1, h2, h3⟩ := h
  have h2' : c2 = [Value.int .i64 q.2.1] := h2
  have h3' : c3 = [Value.int .i64 q.2.2] := h3
  subst h2'; subst h3'; subst hc1
  obtain ⟨A, c, rfl, hl, _⟩ := Kd.R_reads hq
  have hcells : cells = #[.slice A q.1.length c, .int .i64 q.2.1, .int .i64 q.2.2] := by
    cases cells
    simpa using hc
  subst hcells
  exact ⟨g, A, c, rfl, hb, ho, hg, hl, hq⟩
theorem tk_mk {w : World} {base : Nat} {ok : Nat → Prop} {l : List S54} {s u : Int} {g : Nat} {v : Value} (hb : base ≤ g) (ho : ok g) (hg : w.heap[g]? = some (.cells #[v, .int .i64 s, .int .i64 u] 96 (0, 0)))
    (hq : k54.R 54 w base (fun k => ok k ∧ k ≠ g) v l) : TK.M w base ok (l, s, u) [.pointer (some ⟨g, 0, none⟩)] :=
  ⟨g, _, rfl, hb, ho, hg, [v], [.int .i64 s, .int .i64 u], rfl, ⟨v, rfl, hq⟩, [.int .i64 s], [.int .i64 u], rfl, rfl, rfl⟩

/-- A new table. -/
theorem new_calls (size : Int) (hs : 0 ≤ size ∧ size ≤ 512) (w : World) (base : Nat) (hb : base ≤ w.heap.size) :
    Calls Try.prog 26 #[.int .i64 size] w fun e w' => ∃ g, e = .returned (.pointer (some ⟨g, 0, none⟩)) ∧ w.heap.size ≤ g ∧
      TK.M w' base (fun k => w.heap.size ≤ k) ([], size, 0) [.pointer (some ⟨g, 0, none⟩)] ∧ Below w.heap.size w w' := by
  have HM : ∀ w, Aside0 (Calls Try.prog 69 #[.int .i64 size] w fun e w' => e = .returned (.bool true) ∧ Drawn0 w w') := fun w => ⟨table_may.calls size true w (by unfold table_may.f; rw [if_pos (by omega), decide_eq_true hs.2])⟩
  clear hs
  go_enter Try.func26, Try.ntmps26
  go_wp2_with (go_at_call 69; refine (HM _).out.mono ?_; rintro e w' ⟨rfl, ⟨nd, rfl⟩⟩)
  go_ret
  have hsz : (w.drewN nd).heap.size = w.heap.size := rfl
  refine ⟨w.heap.size, rfl, Nat.le_refl _, ?_, below_alloc (pw_below_drewN (Below.refl _ _) _) _⟩
  exact tk_mk hb (Nat.le_refl _) (heap_alloc_new (w.drewN nd) _) (Kd.R_nil _ _ _ _ _)
theorem new_none (size : Int) (hs : ¬ (0 ≤ size ∧ size ≤ 512)) (w : World) :
    Calls Try.prog 26 #[.int .i64 size] w fun e w' => e = .returned (.pointer none) ∧ Below w.heap.size w w' := by
  have HM : ∀ w, Aside0 (Calls Try.prog 69 #[.int .i64 size] w fun e w' => e = .returned (.bool false) ∧ Drawn0 w w') := fun w => ⟨table_may.calls size false w (by
    unfold table_may.f
    by_cases h : size ≥ 0
    · rw [if_pos h, decide_eq_false (fun e => hs ⟨h, e⟩)]
    · rw [if_neg h])⟩
  clear hs
  go_enter Try.func26, Try.ntmps26
  go_wp2_with (go_at_call 69; refine (HM _).out.mono ?_; rintro e w' ⟨rfl, ⟨nd, rfl⟩⟩)
  go_ret
  exact ⟨rfl, pw_below_drewN (Below.refl _ _) _⟩
theorem used_calls (q : List S54 × (Int × Int)) (w : World) (g : Nat) (base : Nat) (ok : Nat → Prop) (hq : TK.M w base ok q [.pointer (some ⟨g, 0, none⟩)]) :
    Calls Try.prog 29 #[.pointer (some ⟨g, 0, none⟩)] w fun e w' => e = .returned (.int .i64 q.2.2) ∧ Below w.heap.size w w' := by
  obtain ⟨g', A, c, he, hbg, hok, hg, hc, hQ⟩ := tk_open hq
  obtain rfl : g = g' := by simpa using he
  have h0 : w.cell? ⟨g, 2, none⟩ = some (.int .i64 q.2.2) := by simp [World.cell?, hg]
  clear hQ hg hc he hq hok hbg
  go_enter Try.func29, Try.ntmps29
  go_wp2
  go_ret
  exact ⟨rfl, by repeat (first | exact Below.refl _ _ | apply below_drew1 | apply pw_below_drewN)⟩
theorem size_calls (q : List S54 × (Int × Int)) (w : World) (g : Nat) (base : Nat) (ok : Nat → Prop) (hq : TK.M w base ok q [.pointer (some ⟨g, 0, none⟩)]) :
    Calls Try.prog 34 #[.pointer (some ⟨g, 0, none⟩)] w fun e w' => e = .returned (.int .i64 q.2.1) ∧ Below w.heap.size w w' := by
  obtain ⟨g', A, c, he, hbg, hok, hg, hc, hQ⟩ := tk_open hq
  obtain rfl : g = g' := by simpa using he
  have h0 : w.cell? ⟨g, 1, none⟩ = some (.int .i64 q.2.1) := by simp [World.cell?, hg]
  clear hQ hg hc he hq hok hbg
  go_enter Try.func34, Try.ntmps34
  go_wp2
  go_ret
  exact ⟨rfl, by repeat (first | exact Below.refl _ _ | apply below_drew1 | apply pw_below_drewN)⟩
end Go.Proofs.Ytohphkdemonlkaa.Tw
/- Contracts of the table's methods: shrink. -/
namespace Go.Proofs.Ytohphkdemonlkaa.Tw
open Go.RowKit Go.Lib Go.Proofs.Ytohphkdemonlkaa.XQt Go.Proofs.YtohphkdemonlkaaW.PrintWords Go.Proofs.YtohphkdemonlkaaW.PrintLast Go.Proofs.YtohphkdemonlkaaW.PrintMore Go.Proofs.Ytohphkdemonlkaa.Ob

/-- How many stay, of the first n, where so much may be used. -/
def shr (most : Int) (l : List S54) : Nat → Nat
  | 0 => 0
  | n + 1 => if total (l.take (n + 1)) > most then shr most l n else n + 1
theorem shr_le (most : Int) (l : List S54) : ∀ n, shr most l n ≤ n
  | 0 => Nat.le_refl _
  | n + 1 => by
    unfold shr
    split
    · exact Nat.le_succ_of_le (shr_le most l n)
    · exact Nat.le_refl _
theorem total_take_succ (l : List S54) (m : Nat) (hm : m < l.length) : total (l.take (m + 1)) = total (l.take m) + cost l[m] := by
  rw [List.take_succ_eq_append_getElem hm, total_append]
  simp [total]
theorem total_take_le (l : List S54) (m : Nat) : total (l.take m) ≤ total l := by
  have h := total_append (l.take m) (l.drop m)
  rw [List.take_append_drop] at h
  have := total_nonneg (l.drop m)
  omega
theorem stay_one {w w1 w2 : World} {g : Nat} (h : Stay (fun k => k = g) w w1) (hb : Below w1.heap.size w1 w2) : Stay (fun k => k = g) w w2 :=
  h.trans (Stay.of_below (ok := fun _ => False) hb) (fun _ _ e => e.elim)

set_option maxHeartbeats 1600000 in
theorem shrink_raw (l : List S54) (s most : Int) (w : World) (g : Nat) (base : Nat) (ok : Nat → Prop) (A : Option Addr) (c : Nat) (hl : total l ≤ 4611686018427387904)
    (hg : w.heap[g]? = some (.cells #[.slice A l.length c, .int .i64 s, .int .i64 (total l)] 96 (0, 0))) (hc : l.length ≤ c) (hQ : k54.R 54 w base (fun k => ok k ∧ k ≠ g) (.slice A l.length c) l) :
    Calls Try.prog 70 #[.pointer (some ⟨g, 0, none⟩), .int .i64 most] w fun e w' => e = .returned (.tuple #[]) ∧
      w'.heap[g]? = some (.cells #[.slice A (shr most l l.length) c, .int .i64 s, .int .i64 (total (l.take (shr most l l.length)))] 96 (0, 0)) ∧ Stay (fun k => k = g) w w' := by
  have HG := Aside0.mk hg
  have HQ := Aside0.mk hQ
  have HL := Aside0.mk hl
  have HC := Aside0.mk hc
  clear hg hc hQ hl
  go_enter Try.func70, Try.ntmps70
  go_wp2
  go_loopg [4] l.length (fun kq v4 w' => ∃ n : Nat, Aside0 (n ≤ l.length ∧ n ≤ kq ∧ shr most l n = shr most l l.length ∧ Stay (fun k => k = g) w w') ∧ w'.heap[g]? = some (.cells #[.slice A n c, .int .i64 s, .int .i64 (total (l.take n))] 96 (0, 0)))
  case atStart => exact ⟨l.length, ⟨Nat.le_refl _, Nat.le_refl _, rfl, Stay.refl _ _⟩, by rw [List.take_length]; exact HG.out⟩
  case round =>
    obtain ⟨n, HJ, hb⟩ := hrel
    have h0 : wr.cell? ⟨g, 0, none⟩ = some (.slice A n c) := by simp [World.cell?, hb]
    have h2 : wr.cell? ⟨g, 2, none⟩ = some (.int .i64 (total (l.take n))) := by simp [World.cell?, hb]
    have HB := Aside0.mk hb
    clear hb
    by_cases hm : total (l.take n) > most
    · cases n with
      | zero =>
        rw [List.take_zero] at h2 HB hm
        have d1 : decide (total [] > most) = true := decide_eq_true hm
        clear hm
        go_wp2
        first | go_end0 | ((try simp only [Exit.inBlock, Exit.then]); refine bodyPost_ret (results_none rfl _ _ _) rfl ?_)
        have hn : shr most l l.length = 0 := HJ.out.2.2.1.symm
        rw [hn]
        exact ⟨rfl, HB.out, HJ.out.2.2.2⟩
      | succ m =>
        have d1 : decide (total (l.take (m + 1)) > most) = true := decide_eq_true hm
        have hml : m < l.length := HJ.out.1
        have hgl := blk_lt HB.out
        have hR := Kd.R_step HQ.out (fun k hk hlt => HJ.out.2.2.2.block k hlt hk.2)
        obtain ⟨ad, hA, e0, e1⟩ := at_T54 (Kd.R_reads' hR).2.2 (m : Int) (by omega) (by omega)
        subst hA
        rw [Int.toNat_natCast] at e0 e1
        have hrd : rd_T54 l (m : Int) = l[m] := by simp [rd_T54, hml]
        rw [hrd] at e0 e1
        have htt := total_take_succ l m hml
        clear hrd
        generalize l[m] = x at e0 e1 htt
        have htl := total_take_le l (m + 1)
        have htn := total_nonneg (l.take m)
        have hcp := cost_pos x
        have HK := Aside0.mk (And.intro htt (And.intro htl (And.intro htn hcp)))
        have hsh : shr most l m = shr most l (m + 1) := by rw [shr, if_pos hm]
        have HSH := Aside0.mk hsh
        have hcs := cost_calls x (by have := HL.out; omega)
        have p1 : (0 : Int) ≤ (m : Int) := by omega
        have p2 : (m : Int) < (m : Int) + 1 := by omega
        have p3 : (m : Int) ≤ (c : Int) := by have := HC.out; omega
        have hw : wrap64 (m : Int) = (m : Int) := w64_in (m : Int) (by have := HL.out; have := total_nonneg l; omega)
        have HW2 : Aside0 (IntKind.i64.wrap (total (l.take (m + 1)) - cost x) = total (l.take m)) := ⟨by rw [IntKind.wrap_i64, htt]; have := HL.out; have := HK.out; omega⟩
        have mixed : Try.prog.follows Departure.mixedOrders = true := by kernel_rfl
        clear hm hml hR htl htn hcp hsh htt
        go_wp2
        go_region_with (first
          | (go_at_call 30; refine (hcs _).mono ?_; rintro e w2 ⟨rfl, hb1⟩; have hbk := (hb1.block g hgl).trans HB.out; have k0 : w2.cell? ⟨g, 0, none⟩ = some (.slice (some ad) (m + 1) c) := (by simp [World.cell?, hbk]); have k2 : w2.cell? ⟨g, 2, none⟩ = some (.int .i64 (total (l.take (m + 1)))) := (by simp [World.cell?, hbk]); have f0 : ∀ j, w2.frozen? ⟨g, j, none⟩ = false := (fun j => by simp [World.frozen?, hbk]); have HBK := Aside0.mk hbk; have HB1 := Aside0.mk hb1; clear hb1 hbk))
        all_goals
          rw [HW2.out]
          go_wp2
          go_roundg m
        all_goals first
          | (have := HJ.out; omega)
          | exact ⟨m, ⟨by have := HJ.out.1; omega, Nat.le_refl _, HSH.out.trans HJ.out.2.2.1, Stay.setCell (Stay.setCell (stay_one (w1 := wr.drew) (Stay.drewN HJ.out.2.2.2 1) HB1.out) (p := ⟨g, 2, none⟩) (.inl (Eq.refl g)) _) (p := ⟨g, 0, none⟩) (.inl (Eq.refl g)) _⟩, blk_put (blk_put HBK.out 2 _ rfl) 0 _ rfl⟩
    · have d1 : decide (total (l.take n) > most) = false := decide_eq_false hm
      have hn : shr most l n = n := by
        cases n with
        | zero => rfl
        | succ n => rw [shr, if_neg hm]
      have HN := Aside0.mk hn
      clear hm hn
      go_wp2
      first | go_end0 | ((try simp only [Exit.inBlock, Exit.then]); refine bodyPost_ret (results_none rfl _ _ _) rfl ?_)
      have hn : shr most l l.length = n := HJ.out.2.2.1.symm.trans HN.out
      rw [hn]
      exact ⟨rfl, HB.out, HJ.out.2.2.2⟩
theorem shrink_calls (l : List S54) (s most : Int) (w : World) (g : Nat) (base : Nat) (ok : Nat → Prop) (hl : total l ≤ 4611686018427387904)
    (hq : TK.M w base ok (l, s, total l) [.pointer (some ⟨g, 0, none⟩)]) :
    Calls Try.prog 70 #[.pointer (some ⟨g, 0, none⟩), .int .i64 most] w fun e w' => e = .returned (.tuple #[]) ∧
      TK.M w' base ok (l.take (shr most l l.length), s, total (l.take (shr most l l.length))) [.pointer (some ⟨g, 0, none⟩)] ∧ Stay (fun k => k = g) w w' := by
  obtain ⟨g', A, c, he, hbg, hok, hg, hc, hQ⟩ := tk_open hq
  obtain rfl : g = g' := by simpa using he
  refine (shrink_raw l s most w g base ok A c hl hg hc hQ).mono ?_
  rintro e w' ⟨rfl, hb, hs⟩
  exact ⟨rfl, tk_mk hbg hok hb (Kd.R_take (Kd.R_step hQ (fun k hk hlt => hs.block k hlt hk.2)) (shr_le _ _ _)), hs⟩
end Go.Proofs.Ytohphkdemonlkaa.Tw
/- The shelf's contracts of slices.Clone and slices.IndexFunc at this seat's numbers (fields), as the shelf's own tool lays them. -/
namespace Go.Proofs
open Go.Shelf
def Try.laysSlE041_f72_ren : Go.Shelf.Ren := ⟨fun | 41 => 72 | n => n, fun | 22 => 50 | 23 => 54 | 4 => 4 | n => n, fun | n => n⟩
theorem Try.laysSlE041_f72 : Go.Proofs.SlLaysE0.n41 Try.prog Try.laysSlE041_f72_ren := {
  mixed := by kernel_rfl
  f41 := ⟨Try.f72.name, by decide, Try.func72.trans (congrArg some (by kernel_rfl))⟩
  t4 := Try.underlying4
  a4 := Try.isAgg4
  z4 := Try.sizeOf4
  v4 := Try.zeroValue4
  t22 := Try.underlying50
  a22 := Try.isAgg50
  z22 := Try.sizeOf50
  v22 := Try.zeroValue50 }
def Try.laysSlH06_f75_ren : Go.Shelf.Ren := ⟨fun | 6 => 75 | n => n, fun | 0 => 0 | 3 => 3 | 4 => 4 | 22 => 50 | 23 => 54 | 25 => 65 | n => n, fun | n => n⟩
theorem Try.laysSlH06_f75 : Go.Proofs.SlLaysH0.n6 Try.prog Try.laysSlH06_f75_ren := {
  mixed := by kernel_rfl
  f6 := ⟨Try.f75.name, by decide, Try.func75.trans (congrArg some (by kernel_rfl))⟩
  t0 := Try.underlying0
  a0 := Try.isAgg0
  z0 := Try.sizeOf0
  v0 := Try.zeroValue0
  t3 := Try.underlying3
  a3 := Try.isAgg3
  z3 := Try.sizeOf3
  v3 := Try.zeroValue3
  t4 := Try.underlying4
  a4 := Try.isAgg4
  z4 := Try.sizeOf4
  v4 := Try.zeroValue4
  t22 := Try.underlying50
  a22 := Try.isAgg50
  z22 := Try.sizeOf50
  v22 := Try.zeroValue50
  t25 := Try.underlying65
  a25 := Try.isAgg65
  z25 := Try.sizeOf65
  v25 := Try.zeroValue65 }
end Go.Proofs
/- Contracts of the table's methods: All, whole, Resize. -/
namespace Go.Proofs.Ytohphkdemonlkaa.Tw
open Go.RowKit Go.Lib Go.Proofs.Ytohphkdemonlkaa.XQt Go.Proofs.YtohphkdemonlkaaW.PrintWords Go.Proofs.YtohphkdemonlkaaW.PrintLast Go.Proofs.YtohphkdemonlkaaW.PrintMore Go.Proofs.Ytohphkdemonlkaa.Ob

theorem r_of_own {w : World} {base n : Nat} {ok : Nat → Prop} {v : Value} {l : List S54} (hn : n = l.length) (ho : w.ownsRow base 54 2 v n (fcells l)) (hok : ∀ k, v.ownBlock = some k → ok k) : k54.R 54 w base ok v l := by
  subst hn
  exact ⟨hok, fcells l, ho, fcells_reps (fun p => k54_mkM _ _ _ p) l⟩
/-- slices.Clone of a row of one's own. -/
theorem clone_calls {w : World} {base : Nat} {ok : Nat → Prop} {A : Option Addr} {n c : Nat} {l : List S54} (h : k54.R 54 w base ok (.slice A n c) l) (hl : n ≤ 1000000000) :
    Calls Try.prog 72 #[.slice A n c] w fun e w' => ∃ A1 c1, e = .returned (.slice A1 n c1) ∧ k54.R 54 w' w.heap.size (fun k => w.heap.size ≤ k) (.slice A1 n c1) l ∧ Below w.heap.size w w' := by
  have hn : n = l.length := (Kd.R_reads' h).1
  subst hn
  rcases r_open h with ⟨hv0, rfl⟩ | ⟨g, c', cur, hv0, hb, hok, hh, hnc, hcm, hcs, ht⟩
  · injection hv0 with h1 h2 h3
    subst h1; subst h3
    refine (AnyE.slices_Clone_nil Try.laysSlE041_f72 0 0 w).mono ?_
    rintro e w' ⟨rfl, rfl⟩
    exact ⟨none, 0, rfl, Kd.R_nil _ _ _ _ _, Below.refl _ _⟩
  · injection hv0 with h1 h2 h3
    subst h1; subst h3
    obtain ⟨i0, hi0, hz0, hzs, hzb⟩ := info_parts info54
    have hmx : maxLen = 9223372036854775807 := rfl
    refine (AnyE.slices_Clone Try.laysSlE041_f72 i0 (.agg #[.string ⟨#[]⟩, .string ⟨#[]⟩]) 2 32 hi0 hz0 hzs hzb rfl (by omega) Try.sizeOf54 g 0 l.length c (fcells l) w (fcells_len l) (by omega) (by omega) (fun j u hj => ?_) (fcells_one l)).mono ?_
    · have hjl := (List.getElem?_eq_some_iff.1 hj).1
      rw [fcells_len] at hjl
      rw [← ht, List.getElem?_take, if_pos hjl] at hj
      simp only [World.cell?, hh, Nat.zero_add]
      simpa using hj
    · rintro e w' ⟨v, rfl, ho, _, hbl⟩
      have ho' : w'.ownsRow w.heap.size 54 2 v l.length (fcells l) := ho
      have hr : k54.R 54 w' w.heap.size (fun k => w.heap.size ≤ k) v l := r_of_own rfl ho' (fun k hk => by
        obtain ⟨_, h2⟩ := ho'
        rcases h2 with ⟨rfl, _⟩ | ⟨g, cap, cur, rfl, hg, _⟩
        · cases hk
        · cases hk
          exact hg)
      obtain ⟨A1, c1, rfl⟩ := Kd.R_slice hr
      exact ⟨A1, c1, rfl, hr, hbl⟩
/-- All that were added. -/
theorem all_calls (q : List S54 × (Int × Int)) (w : World) (g : Nat) (base : Nat) (ok : Nat → Prop) (hl : q.1.length ≤ 1000000000) (hq : TK.M w base ok q [.pointer (some ⟨g, 0, none⟩)]) :
    Calls Try.prog 28 #[.pointer (some ⟨g, 0, none⟩)] w fun e w' => ∃ A1 c1, e = .returned (.slice A1 q.1.length c1) ∧ k54.R 54 w' w.heap.size (fun k => w.heap.size ≤ k) (.slice A1 q.1.length c1) q.1 ∧ Below w.heap.size w w' := by
  obtain ⟨g', A, c, he, hbg, hok, hg, hc, hQ⟩ := tk_open hq
  obtain rfl : g = g' := by simpa using he
  have h0 : w.cell? ⟨g, 0, none⟩ = some (.slice A q.1.length c) := by simp [World.cell?, hg]
  have HQ := Aside0.mk (clone_calls hQ hl)
  clear hQ hg hc he hq hok hbg
  go_enter Try.func28, Try.ntmps28
  go_wp2_with (go_at_call 72; refine HQ.out.mono ?_; rintro e w' ⟨A1, c1, rfl, hR, hB⟩)
  go_ret
  exact ⟨A1, c1, rfl, hR, hB⟩
/-- The fields that are always there. -/
def fixedL : List S54 := (table_always.f).getD []
theorem fixed_f : table_always.f = some fixedL := rfl
theorem fixed_len : fixedL.length = 16 := rfl
/-- All fields. -/
theorem whole_calls (q : List S54 × (Int × Int)) (w : World) (g : Nat) (base : Nat) (ok : Nat → Prop) (hl : q.1.length ≤ 1000000000) (hq : TK.M w base ok q [.pointer (some ⟨g, 0, none⟩)]) :
    Calls Try.prog 73 #[.pointer (some ⟨g, 0, none⟩)] w fun e w' => ∃ A1 c1, e = .returned (.slice A1 (fixedL ++ q.1).length c1) ∧ k54.R 54 w' w.heap.size (fun k => w.heap.size ≤ k) (.slice A1 (fixedL ++ q.1).length c1) (fixedL ++ q.1) ∧ Below w.heap.size w w' := by
  have HA := Aside0.mk (table_always.calls fixedL w fixed_f)
  have HW : ∀ w1, Below w.heap.size w w1 → Aside0 (Calls Try.prog 28 #[.pointer (some ⟨g, 0, none⟩)] w1 fun e w' => ∃ A1 c1, e = .returned (.slice A1 q.1.length c1) ∧ k54.R 54 w' w1.heap.size (fun k => w1.heap.size ≤ k) (.slice A1 q.1.length c1) q.1 ∧ Below w1.heap.size w1 w') :=
    fun w1 hb => ⟨all_calls q w1 g base ok hl (Kd.M_below hq hb)⟩
  have HL := Aside0.mk hl
  clear hq hl
  go_enter Try.func73, Try.ntmps73
  go_wp2_with (first
    | (go_at_call 93; refine HA.out.mono ?_; rintro e w1 ⟨v0, rfl, hR1, hB1⟩; have HR1 := Aside0.mk hR1; have HB1 := Aside0.mk hB1; clear hR1 hB1)
    | (go_at_call 28; refine (HW _ HB1.out).out.mono ?_; rintro e w2 ⟨A1, c1, rfl, hR2, hB2⟩; have HR2 := Aside0.mk hR2; have HB2 := Aside0.mk hB2; clear hR2 hB2)
    | ((with_reducible refine gate_builtin (b := .append) (xs := #[.tmp 3, .tmp 5]) rfl ?_); at_builtin; refine Kd.R_append_rows k54 (Rr := fun x cs => cs = [Value.string x.f0, .string x.f1]) (w0 := w) w.heap.size rfl (.tmp 3) (.tmp 5) 50 54 (.agg #[.string ⟨#[]⟩, .string ⟨#[]⟩]) 32 rfl Try.underlying50 info54 rfl (by decide) (by omega) v0 fixedL q.1 A1 q.1.length c1 (fun k => w.heap.size ≤ k) (fun _ => False) rfl rfl ?aO ?aR (fun x cs h => by rw [h]; exact k54_mkM _ _ _ x) (fun _ e => e.elim) ?aF ?aB ?aS ?aL ?_; (case aO => exact Kd.R_mono (Kd.R_below (Kd.R_bound HR1.out) HB2.out) (fun k hk => hk.2.1)); (case aR => exact ReadsRow.imp_ (Kd.R_reads' HR2.out).2.2 (Below.refl _ _) (fun _ _ h => k54_open h)); (case aF => exact (fun k hk => Nat.le_trans (Nat.le_trans HB1.out.size HB2.out.size) hk)); (case aB => exact below_step HB1.out HB2.out); (case aS => exact Nat.le_trans HB1.out.size HB2.out.size); (case aL => have := HL.out; rw [fixed_len]; omega); intro v1 w3 hR3 hB3 _ _; obtain ⟨A3, c3, rfl⟩ := Kd.R_slice hR3; have HR3 := Aside0.mk hR3; clear hR3))
  go_ret
  exact ⟨A3, c3, by rw [List.length_append]; rfl, HR3.out, hB3⟩
end Go.Proofs.Ytohphkdemonlkaa.Tw
/- Contracts of the table's methods: At, Find. -/
namespace Go.Proofs.Ytohphkdemonlkaa.Tw
open Go.RowKit Go.Lib Go.Proofs.Ytohphkdemonlkaa.XQt Go.Proofs.YtohphkdemonlkaaW.PrintWords Go.Proofs.YtohphkdemonlkaaW.PrintLast Go.Proofs.YtohphkdemonlkaaW.PrintMore Go.Proofs.Ytohphkdemonlkaa.Ob

def fv (x : S54) : Value := .agg #[.string x.f0, .string x.f1]
/-- All fields of a table, those that are always there first. -/
def wholeL (l : List S54) : List S54 := fixedL ++ l
theorem whole_len (l : List S54) : (wholeL l).length = 16 + l.length := by unfold wholeL; rw [List.length_append, fixed_len]

set_option maxHeartbeats 1600000 in
theorem at_in (q : List S54 × (Int × Int)) (n : Nat) (w : World) (g : Nat) (base : Nat) (ok : Nat → Prop) (hl : q.1.length ≤ 1000000000) (hq : TK.M w base ok q [.pointer (some ⟨g, 0, none⟩)]) (hi : n < (wholeL q.1).length) :
    Calls Try.prog 31 #[.pointer (some ⟨g, 0, none⟩), .int .i64 ((n : Int) + 1)] w fun e w' => e = .returned (.tuple #[fv (rd_T54 (wholeL q.1) (n : Int)), .bool true]) ∧ Below w.heap.size w w' := by
  have HW : ∀ w1, Below w.heap.size w w1 → Aside0 (Calls Try.prog 73 #[.pointer (some ⟨g, 0, none⟩)] w1 fun e w' => ∃ A1 c1, e = .returned (.slice A1 (wholeL q.1).length c1) ∧ k54.R 54 w' w1.heap.size (fun k => w1.heap.size ≤ k) (.slice A1 (wholeL q.1).length c1) (wholeL q.1) ∧ Below w1.heap.size w1 w') :=
    fun w1 hb => ⟨whole_calls q w1 g base ok hl (Kd.M_below hq hb)⟩
  have hlen : Aside0 ((wholeL q.1).length ≤ 1000000016) := ⟨by rw [whole_len]; omega⟩
  generalize wholeL q.1 = L at HW hi hlen
  have HI := Aside0.mk hi
  have d1 : decide ((n : Int) + 1 < 1) = false := decide_eq_false (by omega)
  have d1' : decide ((n : Int) < 0) = false := decide_eq_false (by omega)
  have d2 : decide ((n : Int) + 1 > (L.length : Int)) = false := decide_eq_false (by omega)
  have p1 : (0 : Int) ≤ (n : Int) := by omega
  have p2 : (n : Int) < (L.length : Int) := by omega
  have hw : wrap64 (n : Int) = (n : Int) := w64_in (n : Int) (by have := hlen.out; omega)
  have HB := Aside0.mk (Below.refl w.heap.size w)
  clear hq hl hi
  have HC : ∀ (o : Obj) (w2 : World), Below (w.alloc o).heap.size (w.alloc o) w2 → Aside0 (∀ cells, o = .cells cells 54 (0, 0) → w2.heap[w.heap.size]? = some (.cells cells 54 (0, 0))) := fun o w2 hb => ⟨fun cells e => by rw [hb.block _ (by rw [World.size_alloc]; omega), e]; exact heap_alloc_new w _⟩
  go_enter Try.func31, Try.ntmps31
  go_wp2_with (go_at_call 73; refine (HW _ (below_alloc (Below.refl _ _) _)).out.mono ?_; rintro e w2 ⟨A1, c1, rfl, hR, hB⟩; have hbk := (HC _ w2 hB).out _ rfl; obtain ⟨ad, hA, e0, e1⟩ := at_T54 (Kd.R_reads' hR).2.2 (n : Int) p1 p2; cases hA; rw [Int.toNat_natCast] at e0 e1; have k0 : w2.cell? ⟨w.heap.size, 0, none⟩ = some (.string ⟨#[]⟩) := (by simp [World.cell?, hbk]); have k1 : w2.cell? ⟨w.heap.size, 1, none⟩ = some (.string ⟨#[]⟩) := (by simp [World.cell?, hbk]); have f0 : ∀ j, w2.frozen? ⟨w.heap.size, j, none⟩ = false := (fun j => by simp [World.frozen?, hbk]); have HB2 := Aside0.mk hB; have HBK := Aside0.mk hbk; clear hB hR hbk)
  (try simp only [Exit.inBlock, Exit.then])
  refine bodyPost_ret (results_ct rfl _ _ w.heap.size 54 #[.string (rd_T54 L (n : Int)).f0, .string (rd_T54 L (n : Int)).f1] (0, 0) _ rfl (blk_put (blk_put HBK.out 0 _ rfl) 1 _ rfl) Try.underlying54 rfl (by kernel_rfl)) rfl ?_
  exact ⟨rfl, below_set (below_set (below_step (below_alloc (Below.refl _ _) _) HB2.out) (Nat.le_refl _)) (Nat.le_refl _)⟩
set_option maxHeartbeats 1600000 in
theorem at_out (q : List S54 × (Int × Int)) (i : Int) (w : World) (g : Nat) (base : Nat) (ok : Nat → Prop) (hl : q.1.length ≤ 1000000000) (hq : TK.M w base ok q [.pointer (some ⟨g, 0, none⟩)]) (hi : ¬ (1 ≤ i ∧ i ≤ ((wholeL q.1).length : Int))) :
    Calls Try.prog 31 #[.pointer (some ⟨g, 0, none⟩), .int .i64 i] w fun e w' => e = .returned (.tuple #[fv z54, .bool false]) ∧ Below w.heap.size w w' := by
  have HW : ∀ w1, Below w.heap.size w w1 → Aside0 (Calls Try.prog 73 #[.pointer (some ⟨g, 0, none⟩)] w1 fun e w' => ∃ A1 c1, e = .returned (.slice A1 (wholeL q.1).length c1) ∧ k54.R 54 w' w1.heap.size (fun k => w1.heap.size ≤ k) (.slice A1 (wholeL q.1).length c1) (wholeL q.1) ∧ Below w1.heap.size w1 w') :=
    fun w1 hb => ⟨whole_calls q w1 g base ok hl (Kd.M_below hq hb)⟩
  generalize wholeL q.1 = L at HW hi
  have HC : ∀ (o : Obj) (w2 : World), Below (w.alloc o).heap.size (w.alloc o) w2 → Aside0 (∀ cells, o = .cells cells 54 (0, 0) → w2.heap[w.heap.size]? = some (.cells cells 54 (0, 0))) := fun o w2 hb => ⟨fun cells e => by rw [hb.block _ (by rw [World.size_alloc]; omega), e]; exact heap_alloc_new w _⟩
  clear hq hl
  by_cases h1 : i < 1
  · have d1 : decide (i < 1) = true := decide_eq_true h1
    clear hi h1
    go_enter Try.func31, Try.ntmps31
    go_wp2_with (go_at_call 73; refine (HW _ (below_alloc (Below.refl _ _) _)).out.mono ?_; rintro e w2 ⟨A1, c1, rfl, hR, hB⟩; have hbk := (HC _ w2 hB).out _ rfl; have k0 : w2.cell? ⟨w.heap.size, 0, none⟩ = some (.string ⟨#[]⟩) := (by simp [World.cell?, hbk]); have k1 : w2.cell? ⟨w.heap.size, 1, none⟩ = some (.string ⟨#[]⟩) := (by simp [World.cell?, hbk]); have f0 : ∀ j, w2.frozen? ⟨w.heap.size, j, none⟩ = false := (fun j => by simp [World.frozen?, hbk]); have HB2 := Aside0.mk hB; have HBK := Aside0.mk hbk; clear hB hR hbk)
    (try simp only [Exit.inBlock, Exit.then])
    refine bodyPost_ret (results_ct rfl _ _ w.heap.size 54 #[.string ⟨#[]⟩, .string ⟨#[]⟩] (0, 0) _ rfl (blk_put (blk_put HBK.out 0 _ rfl) 1 _ rfl) Try.underlying54 rfl (by kernel_rfl)) rfl ?_
    exact ⟨rfl, below_set (below_set (below_step (below_alloc (Below.refl _ _) _) HB2.out) (Nat.le_refl _)) (Nat.le_refl _)⟩
  · have d1 : decide (i < 1) = false := decide_eq_false h1
    have d2 : decide (i > (L.length : Int)) = true := decide_eq_true (by omega)
    clear hi h1
    go_enter Try.func31, Try.ntmps31
    go_wp2_with (go_at_call 73; refine (HW _ (below_alloc (Below.refl _ _) _)).out.mono ?_; rintro e w2 ⟨A1, c1, rfl, hR, hB⟩; have hbk := (HC _ w2 hB).out _ rfl; have k0 : w2.cell? ⟨w.heap.size, 0, none⟩ = some (.string ⟨#[]⟩) := (by simp [World.cell?, hbk]); have k1 : w2.cell? ⟨w.heap.size, 1, none⟩ = some (.string ⟨#[]⟩) := (by simp [World.cell?, hbk]); have f0 : ∀ j, w2.frozen? ⟨w.heap.size, j, none⟩ = false := (fun j => by simp [World.frozen?, hbk]); have HB2 := Aside0.mk hB; have HBK := Aside0.mk hbk; clear hB hR hbk)
    (try simp only [Exit.inBlock, Exit.then])
    refine bodyPost_ret (results_ct rfl _ _ w.heap.size 54 #[.string ⟨#[]⟩, .string ⟨#[]⟩] (0, 0) _ rfl (blk_put (blk_put HBK.out 0 _ rfl) 1 _ rfl) Try.underlying54 rfl (by kernel_rfl)) rfl ?_
    exact ⟨rfl, below_set (below_set (below_step (below_alloc (Below.refl _ _) _) HB2.out) (Nat.le_refl _)) (Nat.le_refl _)⟩
end Go.Proofs.Ytohphkdemonlkaa.Tw
/- Contracts of the table's methods: Find. -/
namespace Go.Proofs.Ytohphkdemonlkaa.Tw
open Go.RowKit Go.Lib Go.Proofs.Ytohphkdemonlkaa.XQt Go.Proofs.YtohphkdemonlkaaW.PrintWords Go.Proofs.YtohphkdemonlkaaW.PrintLast Go.Proofs.YtohphkdemonlkaaW.PrintMore Go.Proofs.Ytohphkdemonlkaa.Ob

instance : Inhabited S54 := ⟨z54⟩
/-- The first place, counted from i, at which p holds; -1 if at none. -/
def ixP (p : S54 → Bool) : List S54 → Nat → Int
  | [], _ => -1
  | y :: r, i => if p y then (i : Int) else ixP p r (i + 1)
theorem idxBy_ixP (p : S54 → Bool) (d : S54) : ∀ (l : List S54) (i : Nat), Lib.idxByFrom (fun _ y => p y) d l i = ixP p l i
  | [], _ => rfl
  | y :: r, i => by
    unfold Lib.idxByFrom ixP
    rw [idxBy_ixP p d r (i + 1)]
def same (f y : S54) : Bool := f.f0.toList == y.f0.toList && f.f1.toList == y.f1.toList
theorem index_l0 (l : List S54) (f : S54) (hl : l.length ≤ 4611686018427387904) : ∀ (rest pre : List S54) (k : Nat), l = pre ++ rest → rest.length < k →
    api_Field_74.l0 k l (l.length : Int) (pre.length : Int) f.f0 f.f1 = some (ixP (same f) rest pre.length) := by
  intro rest
  induction rest with
  | nil =>
    intro pre k e hk
    obtain ⟨k, rfl⟩ : ∃ m, k = m + 1 := ⟨k - 1, by omega⟩
    rw [List.append_nil] at e
    simp only [api_Field_74.l0]
    rw [if_neg (by rw [e]; omega)]
    rfl
  | cons c rest ih =>
    intro pre k e hk
    obtain ⟨k, rfl⟩ : ∃ m, k = m + 1 := ⟨k - 1, by omega⟩
    have hpl : pre.length < l.length := by rw [e]; simp
    have hrd : rd_T54 l (pre.length : Int) = c := by
      unfold rd_T54
      rw [e]
      simp [List.getD]
    simp only [api_Field_74.l0]
    rw [if_pos (by omega), if_pos (by omega), if_pos (by omega), hrd]
    unfold ixP same
    by_cases h : (f.f0.toList == c.f0.toList && f.f1.toList == c.f1.toList) = true
    · rw [if_pos h, if_pos h]
    · have e1 : wrap64 ((pre.length : Int) + 1) = (((pre ++ [c]).length : Nat) : Int) := by
        rw [List.length_append, List.length_singleton, w64_in ((pre.length : Int) + 1) (by omega)]
        rfl
      rw [if_neg h, if_neg h, e1]
      clear e1
      rw [ih (pre ++ [c]) k (by rw [e]; simp) (by simp at hk; omega)]
      rw [List.length_append, List.length_singleton]
      rfl
theorem index_f (l : List S54) (f : S54) (hl : l.length ≤ 4611686018427387904) : api_Field_74.f (l.length + 1) l f.f0 f.f1 = some (ixP (same f) l 0) := by
  have := index_l0 l f hl l [] (l.length + 1) rfl (by omega)
  unfold api_Field_74.f
  simpa using this
theorem ixP_cases (p : S54 → Bool) : ∀ (l : List S54) (i : Nat), (∃ k, ∃ h : k < l.length, ixP p l i = ((i + k : Nat) : Int) ∧ p l[k] = true ∧ ∀ j (hj : j < k), p (l[j]'(Nat.lt_trans hj h)) = false) ∨ (ixP p l i = -1 ∧ ∀ x ∈ l, p x = false)
  | [], i => .inr ⟨rfl, fun x hx => by cases hx⟩
  | y :: r, i => by
    unfold ixP
    by_cases h : p y = true
    · rw [if_pos h]
      exact .inl ⟨0, by simp, by simp, by simpa using h, fun j hj => absurd hj (Nat.not_lt_zero _)⟩
    · rw [if_neg h]
      have h' : p y = false := by simpa using h
      rcases ixP_cases p r (i + 1) with ⟨k, hk, e, hp, hn⟩ | ⟨e, hn⟩
      · refine .inl ⟨k + 1, by simp; omega, by rw [e]; congr 1; omega, by simpa using hp, fun j hj => ?_⟩
        cases j with
        | zero => simpa using h'
        | succ j => simpa using hn j (by omega)
      · exact .inr ⟨e, fun x hx => by
          rcases List.mem_cons.1 hx with rfl | hx
          · exact h'
          · exact hn x hx⟩
def sameName (f y : S54) : Bool := y.f0.toList == f.f0.toList

set_option maxHeartbeats 800000 in
theorem pred_calls (f x : S54) (w : World) (b : Nat) (hb : w.heap[b]? = some (.cells #[.string f.f0, .string f.f1] 54 (0, 0))) :
    Calls Try.prog 76 #[.agg #[.string x.f0, .string x.f1], .pointer (some ⟨b, 0, none⟩)] w fun e w' => e = .returned (.bool (sameName f x)) ∧ Below w.heap.size w w' := by
  have hbl := blk_lt hb
  have HB := Aside0.mk hb
  clear hb
  go_enter Try.func76, Try.ntmps76
  have k0 : (w.alloc (.cells #[.string x.f0, .string x.f1] 54)).cell? ⟨b, 0, none⟩ = some (.string f.f0) := by
    have := (Below.heap_alloc w (.cells #[.string x.f0, .string x.f1] 54) b hbl).trans HB.out
    simp [World.cell?, this]
  go_wp2
  go_ret
  exact ⟨rfl, below_alloc (Below.refl _ _) _⟩
def encL (x : S54) : List Value := [.string x.f0, .string x.f1]
theorem fcells_get : ∀ (l : List S54) (j : Nat), j < l.length → ∀ i v, (encL l[j]!)[i]? = some v → (fcells l)[j * 2 + i]? = some v
  | [], j, hj, _, _, _ => absurd hj (Nat.not_lt_zero _)
  | x :: l, 0, _, i, v, h => by
    rw [Nat.zero_mul, Nat.zero_add]
    rcases i with _ | _ | i
    · simpa [encL, fcells] using h
    · simpa [encL, fcells] using h
    · cases h
  | x :: l, j + 1, hj, i, v, h => by
    have := fcells_get l j (by simpa using hj) i v (by simpa using h)
    rw [show (j + 1) * 2 + i = (j * 2 + i) + 1 + 1 by omega]
    simpa [fcells] using this
theorem indexFunc_calls (f : S54) (w : World) (b : Nat) (hb : w.heap[b]? = some (.cells #[.string f.f0, .string f.f1] 54 (0, 0))) {base : Nat} {ok : Nat → Prop} {A : Option Addr} {n c : Nat} {l : List S54} (h : k54.R 54 w base ok (.slice A n c) l) (hn0 : 0 < l.length) (hl : l.length ≤ 1000000016) :
    Calls Try.prog 75 #[.slice A n c, .func (.func 76) #[] #[.pointer (some ⟨b, 0, none⟩)]] w fun e w' => e = .returned (.int .i64 (ixP (sameName f) l 0)) ∧ Below w.heap.size w w' := by
  have hn : n = l.length := (Kd.R_reads' h).1
  subst hn
  rcases r_open h with ⟨hv0, rfl⟩ | ⟨g, c', cur, hv0, hb', hok, hh, hnc, hcm, hcs, ht⟩
  · exact absurd hn0 (Nat.lt_irrefl 0)
  · injection hv0 with h1 h2 h3
    subst h1; subst h3
    have hp : PredBelow Try.prog 76 #[.pointer (some ⟨b, 0, none⟩)] (fun x => .agg (encL x).toArray) (sameName f) w := fun W x hW => by
      have hbW : W.heap[b]? = some (.cells #[.string f.f0, .string f.f1] 54 (0, 0)) := (hW.block b (blk_lt hb)).trans hb
      exact (pred_calls f x W b hbW).mono (fun e w' ⟨he, hb2⟩ => ⟨he, below_step hW hb2⟩)
    refine (AnyQ.slices_IndexFunc Try.laysSlH06_f75 2 Try.isAgg54 Try.sizeOf54 encL (fun _ => rfl) (sameName f) 76 #[.pointer (some ⟨b, 0, none⟩)] (enters_of Try.func76 (by kernel_rfl) rfl) g 0 l.length c l w hp (Nat.le_refl _) (by omega) (blk_lt hh) (fun j hj i v hi => ?_)).mono ?_
    · have hg := fcells_get l j hj i v hi
      have hjl := (List.getElem?_eq_some_iff.1 hg).1
      rw [fcells_len] at hjl
      rw [← ht, List.getElem?_take, if_pos hjl] at hg
      simp only [World.cell?, hh, Nat.zero_add]
      simpa using hg
    · rintro e w' ⟨rfl, hb2⟩
      refine ⟨?_, hb2⟩
      rw [List.take_length]
      congr 2
      exact idxBy_ixP _ _ _ _

/-- Where a field is, or its name. -/
def findN (L : List S54) (f : S54) : Int := if 0 ≤ ixP (same f) L 0 then ixP (same f) L 0 + 1 else 1 + ixP (sameName f) L 0
def findB (L : List S54) (f : S54) : Bool := decide (0 ≤ ixP (same f) L 0)
theorem ixP_bound (p : S54 → Bool) (l : List S54) (hl : l.length ≤ 1000000016) : -1 ≤ ixP p l 0 ∧ ixP p l 0 ≤ 1000000016 := by
  rcases ixP_cases p l 0 with ⟨k, hk, e, _⟩ | ⟨e, _⟩
  · rw [e]; omega
  · rw [e]; omega
set_option maxHeartbeats 1600000 in
theorem find_calls (q : List S54 × (Int × Int)) (f : S54) (w : World) (g : Nat) (base : Nat) (ok : Nat → Prop) (hl : q.1.length ≤ 1000000000) (hq : TK.M w base ok q [.pointer (some ⟨g, 0, none⟩)]) :
    Calls Try.prog 32 #[.pointer (some ⟨g, 0, none⟩), fv f] w fun e w' => e = .returned (.tuple #[.int .i64 (findN (wholeL q.1) f), .bool (findB (wholeL q.1) f)]) ∧ Below w.heap.size w w' := by
  have HW : ∀ w1, Below w.heap.size w w1 → Aside0 (Calls Try.prog 73 #[.pointer (some ⟨g, 0, none⟩)] w1 fun e w' => ∃ A1 c1, e = .returned (.slice A1 (wholeL q.1).length c1) ∧ k54.R 54 w' w1.heap.size (fun k => w1.heap.size ≤ k) (.slice A1 (wholeL q.1).length c1) (wholeL q.1) ∧ Below w1.heap.size w1 w') :=
    fun w1 hb => ⟨whole_calls q w1 g base ok hl (Kd.M_below hq hb)⟩
  have hlen : Aside0 ((wholeL q.1).length ≤ 1000000016 ∧ 0 < (wholeL q.1).length) := ⟨by rw [whole_len]; omega⟩
  generalize wholeL q.1 = L at HW hlen
  have HC : ∀ (o : Obj) (w2 : World), Below (w.alloc o).heap.size (w.alloc o) w2 → Aside0 (∀ cells, o = .cells cells 54 (0, 0) → w2.heap[w.heap.size]? = some (.cells cells 54 (0, 0))) := fun o w2 hb => ⟨fun cells e => by rw [hb.block _ (by rw [World.size_alloc]; omega), e]; exact heap_alloc_new w _⟩
  have HI : ∀ (w2 : World) (A1 : Option Addr) (c1 : Nat) (base : Nat) (ok : Nat → Prop), k54.R 54 w2 base ok (.slice A1 L.length c1) L → Aside0 (Calls Try.prog 74 #[.slice A1 L.length c1, .agg #[.string f.f0, .string f.f1]] w2 fun e w' => e = .returned (.int .i64 (ixP (same f) L 0)) ∧ Below w2.heap.size w2 w') :=
    fun w2 A1 c1 base ok h => ⟨api_Field_74.calls (L.length + 1) A1 c1 L f.f0 f.f1 _ w2 (Kd.R_reads' h).2.2 (Kd.R_reads' h).2.1 (index_f L f (by have := hlen.out; omega))⟩
  have HF : ∀ (w2 w3 : World) (A1 : Option Addr) (c1 : Nat) (base : Nat) (ok : Nat → Prop), k54.R 54 w2 base ok (.slice A1 L.length c1) L → Below w2.heap.size w2 w3 → w3.heap[w.heap.size]? = some (.cells #[.string f.f0, .string f.f1] 54 (0, 0)) →
      Aside0 (Calls Try.prog 75 #[.slice A1 L.length c1, .func (.func 76) #[] #[.pointer (some ⟨w.heap.size, 0, none⟩)]] w3 fun e w' => e = .returned (.int .i64 (ixP (sameName f) L 0)) ∧ Below w3.heap.size w3 w') :=
    fun w2 w3 A1 c1 base ok h hb hc => ⟨indexFunc_calls f w3 w.heap.size hc (Kd.R_below h hb) hlen.out.2 hlen.out.1⟩
  have hb1 := ixP_bound (same f) L hlen.out.1
  have hb2 := ixP_bound (sameName f) L hlen.out.1
  unfold findN findB fv
  generalize ixP (same f) L 0 = n1 at HI hb1 ⊢
  generalize ixP (sameName f) L 0 = n2 at HF hb2 ⊢
  clear hq hl
  by_cases hn : 0 ≤ n1
  · have d1 : decide (n1 ≥ 0) = true := decide_eq_true hn
    rw [if_pos hn, decide_eq_true hn]
    have hw : wrap64 (n1 + 1) = n1 + 1 := w64_in (n1 + 1) (by omega)
    clear hn hb1 hb2
    go_enter Try.func32, Try.ntmps32
    go_wp2_with (first
      | (go_at_call 73; refine (HW _ (below_alloc (Below.refl _ _) _)).out.mono ?_; rintro e w2 ⟨A1, c1, rfl, hR, hB⟩; have hbk := (HC _ w2 hB).out _ rfl; have k0 : w2.cell? ⟨w.heap.size, 0, none⟩ = some (.string f.f0) := (by simp [World.cell?, hbk]); have k1 : w2.cell? ⟨w.heap.size, 1, none⟩ = some (.string f.f1) := (by simp [World.cell?, hbk]); have HB2 := Aside0.mk hB; have HBK := Aside0.mk hbk; have HR := Aside0.mk hR; clear hB hR hbk)
      | (go_at_call 74; refine (HI _ A1 c1 _ _ HR.out).out.mono ?_; rintro e w3 ⟨rfl, hB3⟩; have HB3 := Aside0.mk hB3; clear hB3))
    go_ret2
    exact ⟨by show Ending.returned (.tuple #[.int .i64 (wrap64 (n1 + 1)), .bool true]) = _; rw [hw], below_step (below_step (below_alloc (Below.refl _ _) _) HB2.out) HB3.out⟩
  · have d1 : decide (n1 ≥ 0) = false := decide_eq_false hn
    rw [if_neg hn, decide_eq_false hn]
    have hw : wrap64 (1 + n2) = 1 + n2 := w64_in (1 + n2) (by omega)
    clear hn hb1 hb2
    go_enter Try.func32, Try.ntmps32
    go_wp2_with (first
      | (go_at_call 73; refine (HW _ (below_alloc (Below.refl _ _) _)).out.mono ?_; rintro e w2 ⟨A1, c1, rfl, hR, hB⟩; have hbk := (HC _ w2 hB).out _ rfl; have k0 : w2.cell? ⟨w.heap.size, 0, none⟩ = some (.string f.f0) := (by simp [World.cell?, hbk]); have k1 : w2.cell? ⟨w.heap.size, 1, none⟩ = some (.string f.f1) := (by simp [World.cell?, hbk]); have HB2 := Aside0.mk hB; have HBK := Aside0.mk hbk; have HR := Aside0.mk hR; clear hB hR hbk)
      | (go_at_call 74; refine (HI _ A1 c1 _ _ HR.out).out.mono ?_; rintro e w3 ⟨rfl, hB3⟩; have HB3 := Aside0.mk hB3; clear hB3)
      | (go_at_call 75; refine (HF _ w3 A1 c1 _ _ HR.out HB3.out ((HB3.out.block _ (blk_lt HBK.out)).trans HBK.out)).out.mono ?_; rintro e w4 ⟨rfl, hB4⟩; have HB4 := Aside0.mk hB4; clear hB4))
    go_ret2
    exact ⟨by show Ending.returned (.tuple #[.int .i64 (wrap64 (1 + n2)), .bool false]) = _; rw [hw], below_step (below_step (below_step (below_alloc (Below.refl _ _) _) HB2.out) HB3.out) HB4.out⟩
end Go.Proofs.Ytohphkdemonlkaa.Tw
/- Contracts of the table's methods: Add. -/
namespace Go.Proofs.Ytohphkdemonlkaa.Tw
open Go.RowKit Go.Lib Go.Proofs.Ytohphkdemonlkaa.XQt Go.Proofs.YtohphkdemonlkaaW.PrintWords Go.Proofs.YtohphkdemonlkaaW.PrintLast Go.Proofs.YtohphkdemonlkaaW.PrintMore Go.Proofs.Ytohphkdemonlkaa.Ob

/-- What a table has, behind one more. -/
def addL (s : Int) (l : List S54) (x : S54) : List S54 := if cost x ≤ s then x :: l.take (shr (s - cost x) l l.length) else l.take (shr (s - cost x) l l.length)

theorem stay_okay {ok : Nat → Prop} {w w1 w2 : World} (h : Stay ok w w1) (hb : Below w1.heap.size w1 w2) : Stay ok w w2 :=
  h.trans (Stay.of_below (ok := fun _ => False) hb) (fun _ _ e => e.elim)
theorem cells_of_heap {w : World} {g : Nat} {cs : Array Value} {t : TypeId} (h : w.heap[g]? = some (.cells cs t (0, 0))) : ∀ j v, cs[j]? = some v → w.cell? ⟨g, j, none⟩ = some v := by
  intro j v hj
  simp only [World.cell?, h]
  simpa using hj

set_option maxHeartbeats 3200000 in
theorem add_calls (l : List S54) (s : Int) (x : S54) (w : World) (g : Nat) (base : Nat) (ok : Nat → Prop) (_ : base ≤ w.heap.size) (hl : total l ≤ 1000000000) (hx : cost x ≤ 1000000000) (hs : 0 ≤ s ∧ s ≤ 512) (hnew : ∀ k, w.heap.size ≤ k → ¬ ok k)
    (hq : TK.M w base ok (l, s, total l) [.pointer (some ⟨g, 0, none⟩)]) :
    Calls Try.prog 27 #[.pointer (some ⟨g, 0, none⟩), fv x] w fun e w' => e = .returned (.tuple #[]) ∧
      TK.M w' base (fun k => ok k ∨ w.heap.size ≤ k) (addL s l x, s, total (addL s l x)) [.pointer (some ⟨g, 0, none⟩)] ∧ Stay ok w w' := by
  obtain ⟨g', A, c, he, hbg, hok, hg, hc, hQ⟩ := tk_open hq
  obtain rfl : g = g' := by simpa using he
  replace hg : w.heap[g]? = some (.cells #[.slice A l.length c, .int .i64 s, .int .i64 (total l)] 96 (0, 0)) := hg
  replace hc : l.length ≤ c := hc
  replace hQ : k54.R 54 w base (fun k => ok k ∧ k ≠ g) (.slice A l.length c) l := hQ
  have hgl := blk_lt hg
  have HCst : ∀ W, Aside0 (Calls Try.prog 30 #[.agg #[.string x.f0, .string x.f1]] W fun e w' => e = .returned (.int .i64 (cost x)) ∧ Below W.heap.size W w') := fun W => ⟨cost_calls x (by omega) W⟩
  have HShr : ∀ W, W.heap[g]? = some (.cells #[.slice A l.length c, .int .i64 s, .int .i64 (total l)] 96 (0, 0)) → Stay (fun k => k = g) w W → Aside0 (Calls Try.prog 70 #[.pointer (some ⟨g, 0, none⟩), .int .i64 (s - cost x)] W fun e w' => e = .returned (.tuple #[]) ∧
      w'.heap[g]? = some (.cells #[.slice A (shr (s - cost x) l l.length) c, .int .i64 s, .int .i64 (total (l.take (shr (s - cost x) l l.length)))] 96 (0, 0)) ∧ Stay (fun k => k = g) W w') :=
    fun W hW hst => ⟨shrink_raw l s (s - cost x) W g base ok A c (by omega) hW hc (Kd.R_step hQ (fun k hk hlt => hst.block k hlt hk.2))⟩
  have hw1 : IntKind.i64.wrap (s - cost x) = s - cost x := by rw [IntKind.wrap_i64]; have := cost_pos x; omega
  have hsl := shr_le (s - cost x) l l.length
  have htt := total_take_le l (shr (s - cost x) l l.length)
  have htn := total_nonneg (l.take (shr (s - cost x) l l.length))
  unfold addL fv
  generalize shr (s - cost x) l l.length = n at HShr hsl htt htn ⊢
  have HIns : ∀ W W2, W2 = W.drew.alloc (.cells #[.string x.f0, .string x.f1] 54) → W.heap[g]? = some (.cells #[.slice A n c, .int .i64 s, .int .i64 (total (l.take n))] 96 (0, 0)) → W.heap[w.heap.size]? = some (.cells #[.string x.f0, .string x.f1] 54 (0, 0)) → Stay (fun k => k = g) w W →
      Aside0 (Calls Try.prog 71 #[.slice A n c, .int .i64 0, .slice (some ⟨W.heap.size, 0, none⟩) 1 1] W2 fun e w' => ∃ A1 c1, e = .returned (.slice A1 (n + 1) c1) ∧
        w'.heap[g]? = some (.cells #[.slice A n c, .int .i64 s, .int .i64 (total (l.take n))] 96 (0, 0)) ∧ w'.heap[w.heap.size]? = some (.cells #[.string x.f0, .string x.f1] 54 (0, 0)) ∧
        k54.R 54 w' base (fun k => (ok k ∨ w.heap.size ≤ k) ∧ k ≠ g) (.slice A1 (n + 1) c1) (x :: l.take n) ∧ Stay ok w w') := fun W W2 hW2 hg1 hb1 hst => by
    subst hW2
    have hWs := hst.size
    have hR := Kd.R_take (m := n) (Kd.R_step hQ (fun k hk hlt => hst.block k hlt hk.2)) hsl
    have hBl : Below W.heap.size W (W.drew.alloc (.cells #[.string x.f0, .string x.f1] 54)) := below_alloc (pw_below_drewN (Below.refl _ _) 1) _
    have hR2 := Kd.R_below hR hBl
    have hsz : (W.drew.alloc (.cells #[.string x.f0, .string x.f1] 54)).heap.size = W.heap.size + 1 := by simp
    refine ⟨(insert_calls hR2 (by omega) (by omega) x W.heap.size (heap_alloc_new W.drew _) (fun h => hnew _ hWs h.1)).mono ?_⟩
    rintro e w' ⟨A1, c1, rfl, hR3, hs3⟩
    refine ⟨A1, c1, rfl, ?_, ?_, ?_, ?_⟩
    · exact (hs3.block g (by have := blk_lt hg1; omega) (fun h => h.2 rfl)).trans ((hBl.block g (blk_lt hg1)).trans hg1)
    · exact (hs3.block _ (by have := blk_lt hb1; omega) (fun h => hnew _ (Nat.le_refl _) h.1)).trans ((hBl.block _ (blk_lt hb1)).trans hb1)
    · refine Kd.R_mono hR3 (fun k hk => ?_)
      rcases hk with hk | hk
      · exact ⟨.inl hk.1, hk.2⟩
      · exact ⟨.inr (by omega), by omega⟩
    · exact (stay_okay (hst.mono (fun k e => e ▸ hok)) hBl).trans hs3 (fun k _ h => h.1)
  have HG := Aside0.mk hg
  have HO := Aside0.mk hok
  have HBG := Aside0.mk hbg
  have HQ := Aside0.mk hQ
  have HN := Aside0.mk (And.intro hsl (And.intro htt (And.intro htn (And.intro hl (And.intro hx hs)))))
  have hw2 : IntKind.i64.wrap (total (l.take n) + cost x) = total (l.take n) + cost x := by rw [IntKind.wrap_i64]; have := cost_pos x; omega
  have mixed : Try.prog.follows Departure.mixedOrders = true := by kernel_rfl
  obtain ⟨W1, hW1⟩ : ∃ W1, W1 = w.alloc (.cells #[.string x.f0, .string x.f1] 54) := ⟨_, rfl⟩
  have hS1 : Stay (fun k => k = g) w W1 := by rw [hW1]; exact (Stay.refl _ w).alloc _
  have hbx : W1.heap[w.heap.size]? = some (.cells #[.string x.f0, .string x.f1] 54 (0, 0)) := by rw [hW1]; exact heap_alloc_new w _
  have hgx : W1.heap[g]? = some (.cells #[.slice A l.length c, .int .i64 s, .int .i64 (total l)] 96 (0, 0)) := by rw [hW1]; exact (Below.heap_alloc w _ g hgl).trans hg
  have HBK := Aside0.mk hgx
  have HBX := Aside0.mk hbx
  have HS := Aside0.mk hS1
  have k1 : W1.cell? ⟨g, 1, none⟩ = some (.int .i64 s) := cells_of_heap hgx 1 _ rfl
  have b0 : W1.cell? ⟨w.heap.size, 0, none⟩ = some (.string x.f0) := cells_of_heap hbx 0 _ rfl
  have b1 : W1.cell? ⟨w.heap.size, 1, none⟩ = some (.string x.f1) := cells_of_heap hbx 1 _ rfl
  clear hq he hok hbg hg hc hQ hsl htt htn hl hx hs hS1 hbx hgx
  by_cases hcs : cost x ≤ s
  · rw [if_pos hcs]
    have d1 : decide (cost x ≤ s) = true := decide_eq_true hcs
    have HCS := Aside0.mk hcs
    clear hcs
    go_enter Try.func27, Try.ntmps27
    go_wp2
    rw [← hW1]
    clear hW1
    go_region_held3 (fun w' => w'.cell? ⟨g, 1, none⟩ = some (.int .i64 s) ∧ w'.cell? ⟨w.heap.size, 0, none⟩ = some (.string x.f0) ∧ w'.cell? ⟨w.heap.size, 1, none⟩ = some (.string x.f1))
      (first | go_keep | assumption | simp [*])
      (first
        | (go_at_call 30; refine (HCst _).out.mono ?_; rintro e w2 ⟨rfl, hb1⟩; have hbk := (hb1.block g (blk_lt HBK.out)).trans HBK.out; have hbx := (hb1.block _ (blk_lt HBX.out)).trans HBX.out; have hst := stay_one (w1 := W1.drew) (Stay.drewN HS.out 1) hb1; have k1 : w2.cell? ⟨g, 1, none⟩ = some (.int .i64 s) := cells_of_heap hbk 1 _ rfl; have b0 : w2.cell? ⟨w.heap.size, 0, none⟩ = some (.string x.f0) := cells_of_heap hbx 0 _ rfl; have b1 : w2.cell? ⟨w.heap.size, 1, none⟩ = some (.string x.f1) := cells_of_heap hbx 1 _ rfl; clear HBK HBX HS; have HBK := Aside0.mk hbk; have HBX := Aside0.mk hbx; have HS := Aside0.mk hst; clear hb1 hbk hbx hst)
        | (go_at_call 70; refine (HShr _ HBK.out HS.out).out.mono ?_; rintro e w3 ⟨rfl, hbk, hst1⟩; have hbx := (hst1.block _ (blk_lt HBX.out) (by omega)).trans HBX.out; have hst := (Stay.trans HS.out hst1 (fun _ _ e => e)); have k0 : w3.cell? ⟨g, 0, none⟩ = some (.slice A n c) := cells_of_heap hbk 0 _ rfl; have k1 : w3.cell? ⟨g, 1, none⟩ = some (.int .i64 s) := cells_of_heap hbk 1 _ rfl; have k2 : w3.cell? ⟨g, 2, none⟩ = some (.int .i64 (total (l.take n))) := cells_of_heap hbk 2 _ rfl; have b0 : w3.cell? ⟨w.heap.size, 0, none⟩ = some (.string x.f0) := cells_of_heap hbx 0 _ rfl; have b1 : w3.cell? ⟨w.heap.size, 1, none⟩ = some (.string x.f1) := cells_of_heap hbx 1 _ rfl; clear HBK HBX HS; have HBK := Aside0.mk hbk; have HBX := Aside0.mk hbx; have HS := Aside0.mk hst; clear hst1 hbk hbx hst))
    go_wp2
    go_region_held3 (fun w' => w'.cell? ⟨g, 1, none⟩ = some (.int .i64 s) ∧ w'.cell? ⟨w.heap.size, 0, none⟩ = some (.string x.f0) ∧ w'.cell? ⟨w.heap.size, 1, none⟩ = some (.string x.f1))
      (first | go_keep | assumption | simp [*])
      (first | (go_at_call 30; refine (HCst _).out.mono ?_; rintro e w4 ⟨rfl, hb1⟩; have hbk := (hb1.block g (blk_lt HBK.out)).trans HBK.out; have hbx := (hb1.block _ (blk_lt HBX.out)).trans HBX.out; have hst := stay_okay (Stay.drewN HS.out 1) hb1; have k0 : w4.cell? ⟨g, 0, none⟩ = some (.slice A n c) := cells_of_heap hbk 0 _ rfl; have k1 : w4.cell? ⟨g, 1, none⟩ = some (.int .i64 s) := cells_of_heap hbk 1 _ rfl; have k2 : w4.cell? ⟨g, 2, none⟩ = some (.int .i64 (total (l.take n))) := cells_of_heap hbk 2 _ rfl; have b0 : w4.cell? ⟨w.heap.size, 0, none⟩ = some (.string x.f0) := cells_of_heap hbx 0 _ rfl; have b1 : w4.cell? ⟨w.heap.size, 1, none⟩ = some (.string x.f1) := cells_of_heap hbx 1 _ rfl; clear HBK HBX HS; have HBK := Aside0.mk hbk; have HBX := Aside0.mk hbx; have HS := Aside0.mk hst; clear hb1 hbk hbx hst))
    go_wp2
    have ka0 : (w4.alloc (.cells #[.string x.f0, .string x.f1] 54)).cell? ⟨g, 0, none⟩ = some (.slice A n c) := cells_of_heap ((Below.heap_alloc w4 _ g (blk_lt HBK.out)).trans HBK.out) 0 _ rfl
    have ka1 : (w4.alloc (.cells #[.string x.f0, .string x.f1] 54)).cell? ⟨w.heap.size, 0, none⟩ = some (.string x.f0) := cells_of_heap ((Below.heap_alloc w4 _ _ (blk_lt HBX.out)).trans HBX.out) 0 _ rfl
    have ka2 : (w4.alloc (.cells #[.string x.f0, .string x.f1] 54)).cell? ⟨w.heap.size, 1, none⟩ = some (.string x.f1) := cells_of_heap ((Below.heap_alloc w4 _ _ (blk_lt HBX.out)).trans HBX.out) 1 _ rfl
    have hgb : ¬ (w.heap.size = g) := by omega
    have hgb' : ¬ (g = w.heap.size) := by omega
    go_region_with (first
      | (go_at_call 71; refine (HIns w4 _ (by first | rfl | (simp; done)) HBK.out HBX.out HS.out).out.mono ?_; rintro e w5 ⟨A1, c1, rfl, hbk, hbx, hR5, hs5⟩; have k0 : w5.cell? ⟨g, 0, none⟩ = some (.slice A n c) := cells_of_heap hbk 0 _ rfl; have k2 : w5.cell? ⟨g, 2, none⟩ = some (.int .i64 (total (l.take n))) := cells_of_heap hbk 2 _ rfl; have b0 : w5.cell? ⟨w.heap.size, 0, none⟩ = some (.string x.f0) := cells_of_heap hbx 0 _ rfl; have b1 : w5.cell? ⟨w.heap.size, 1, none⟩ = some (.string x.f1) := cells_of_heap hbx 1 _ rfl; have f0 : ∀ j, w5.frozen? ⟨g, j, none⟩ = false := (fun j => by simp [World.frozen?, hbk]); clear HBK HBX HS; have HBK := Aside0.mk hbk; have HBX := Aside0.mk hbx; have HS := Aside0.mk hs5; have HR5 := Aside0.mk hR5; clear hbk hbx hR5 hs5))
    all_goals
      have hbk6 := blk_put HBK.out 0 (Value.slice A1 (n + 1) c1) rfl
      have hbx6 := (Below.heap_setCell w5 ⟨g, 0, none⟩ (Value.slice A1 (n + 1) c1) w.heap.size hgb).trans HBX.out
      have hs6 := Stay.setCell HS.out (p := ⟨g, 0, none⟩) (.inl HO.out) (Value.slice A1 (n + 1) c1)
      have hr6 := Kd.R_far (p := ⟨g, 0, none⟩) HR5.out (fun k hk => hk.2) (Value.slice A1 (n + 1) c1)
      clear HBK HBX HS HR5
      generalize w5.setCell ⟨g, 0, none⟩ (Value.slice A1 (n + 1) c1) = w6 at hbk6 hbx6 hs6 hr6 ⊢
      have k2 : w6.cell? ⟨g, 2, none⟩ = some (.int .i64 (total (l.take n))) := cells_of_heap hbk6 2 _ rfl
      have b0 : w6.cell? ⟨w.heap.size, 0, none⟩ = some (.string x.f0) := cells_of_heap hbx6 0 _ rfl
      have b1 : w6.cell? ⟨w.heap.size, 1, none⟩ = some (.string x.f1) := cells_of_heap hbx6 1 _ rfl
      have HBK := Aside0.mk hbk6
      have HBX := Aside0.mk hbx6
      have HS := Aside0.mk hs6
      have HR := Aside0.mk hr6
      clear hbk6 hbx6 hs6 hr6
      go_wp2
      go_region_with (first
        | (go_at_call 30; refine (HCst _).out.mono ?_; rintro e w7 ⟨rfl, hb1⟩; have hbk := (hb1.block g (blk_lt HBK.out)).trans HBK.out; have hbx := (hb1.block _ (blk_lt HBX.out)).trans HBX.out; have hst := stay_okay (Stay.drewN HS.out 1) hb1; have hr := Kd.R_below (Kd.R_drewN HR.out 1) hb1; have k2 : w7.cell? ⟨g, 2, none⟩ = some (.int .i64 (total (l.take n))) := cells_of_heap hbk 2 _ rfl; have b0 : w7.cell? ⟨w.heap.size, 0, none⟩ = some (.string x.f0) := cells_of_heap hbx 0 _ rfl; have b1 : w7.cell? ⟨w.heap.size, 1, none⟩ = some (.string x.f1) := cells_of_heap hbx 1 _ rfl; have f0 : ∀ j, w7.frozen? ⟨g, j, none⟩ = false := (fun j => by simp [World.frozen?, hbk]); clear HBK HBX HS HR; have HBK := Aside0.mk hbk; have HBX := Aside0.mk hbx; have HS := Aside0.mk hst; have HR := Aside0.mk hr; clear hb1 hbk hbx hst hr))
      all_goals
        go_wp2
        first | go_end0 | ((try simp only [Exit.inBlock, Exit.then]); refine bodyPost_ret (results_none rfl _ _ _) rfl ?_)
        rw [show total (x :: l.take n) = total (l.take n) + cost x from Int.add_comm _ _]
        exact ⟨rfl, tk_mk HBG.out (.inl HO.out) (blk_put HBK.out 2 _ rfl) (Kd.R_far (p := ⟨g, 2, none⟩) HR.out (fun k hk => hk.2) _), Stay.setCell HS.out (p := ⟨g, 2, none⟩) (.inl HO.out) _⟩
  · rw [if_neg hcs]
    have d1 : decide (cost x ≤ s) = false := decide_eq_false hcs
    clear hcs
    go_enter Try.func27, Try.ntmps27
    go_wp2
    rw [← hW1]
    clear hW1
    go_region_held3 (fun w' => w'.cell? ⟨g, 1, none⟩ = some (.int .i64 s) ∧ w'.cell? ⟨w.heap.size, 0, none⟩ = some (.string x.f0) ∧ w'.cell? ⟨w.heap.size, 1, none⟩ = some (.string x.f1))
      (first | go_keep | assumption | simp [*])
      (first
        | (go_at_call 30; refine (HCst _).out.mono ?_; rintro e w2 ⟨rfl, hb1⟩; have hbk := (hb1.block g (blk_lt HBK.out)).trans HBK.out; have hbx := (hb1.block _ (blk_lt HBX.out)).trans HBX.out; have hst := stay_one (w1 := W1.drew) (Stay.drewN HS.out 1) hb1; have k1 : w2.cell? ⟨g, 1, none⟩ = some (.int .i64 s) := cells_of_heap hbk 1 _ rfl; have b0 : w2.cell? ⟨w.heap.size, 0, none⟩ = some (.string x.f0) := cells_of_heap hbx 0 _ rfl; have b1 : w2.cell? ⟨w.heap.size, 1, none⟩ = some (.string x.f1) := cells_of_heap hbx 1 _ rfl; clear HBK HBX HS; have HBK := Aside0.mk hbk; have HBX := Aside0.mk hbx; have HS := Aside0.mk hst; clear hb1 hbk hbx hst)
        | (go_at_call 70; refine (HShr _ HBK.out HS.out).out.mono ?_; rintro e w3 ⟨rfl, hbk, hst1⟩; have hbx := (hst1.block _ (blk_lt HBX.out) (by omega)).trans HBX.out; have hst := (Stay.trans HS.out hst1 (fun _ _ e => e)); have k0 : w3.cell? ⟨g, 0, none⟩ = some (.slice A n c) := cells_of_heap hbk 0 _ rfl; have k1 : w3.cell? ⟨g, 1, none⟩ = some (.int .i64 s) := cells_of_heap hbk 1 _ rfl; have k2 : w3.cell? ⟨g, 2, none⟩ = some (.int .i64 (total (l.take n))) := cells_of_heap hbk 2 _ rfl; have b0 : w3.cell? ⟨w.heap.size, 0, none⟩ = some (.string x.f0) := cells_of_heap hbx 0 _ rfl; have b1 : w3.cell? ⟨w.heap.size, 1, none⟩ = some (.string x.f1) := cells_of_heap hbx 1 _ rfl; clear HBK HBX HS; have HBK := Aside0.mk hbk; have HBX := Aside0.mk hbx; have HS := Aside0.mk hst; clear hst1 hbk hbx hst))
    go_wp2
    go_region_held3 (fun w' => w'.cell? ⟨g, 1, none⟩ = some (.int .i64 s) ∧ w'.cell? ⟨w.heap.size, 0, none⟩ = some (.string x.f0) ∧ w'.cell? ⟨w.heap.size, 1, none⟩ = some (.string x.f1))
      (first | go_keep | assumption | simp [*])
      (first | (go_at_call 30; refine (HCst _).out.mono ?_; rintro e w4 ⟨rfl, hb1⟩; have hbk := (hb1.block g (blk_lt HBK.out)).trans HBK.out; have hbx := (hb1.block _ (blk_lt HBX.out)).trans HBX.out; have hst := stay_okay (Stay.drewN HS.out 1) hb1; have k0 : w4.cell? ⟨g, 0, none⟩ = some (.slice A n c) := cells_of_heap hbk 0 _ rfl; have k1 : w4.cell? ⟨g, 1, none⟩ = some (.int .i64 s) := cells_of_heap hbk 1 _ rfl; have k2 : w4.cell? ⟨g, 2, none⟩ = some (.int .i64 (total (l.take n))) := cells_of_heap hbk 2 _ rfl; have b0 : w4.cell? ⟨w.heap.size, 0, none⟩ = some (.string x.f0) := cells_of_heap hbx 0 _ rfl; have b1 : w4.cell? ⟨w.heap.size, 1, none⟩ = some (.string x.f1) := cells_of_heap hbx 1 _ rfl; clear HBK HBX HS; have HBK := Aside0.mk hbk; have HBX := Aside0.mk hbx; have HS := Aside0.mk hst; clear hb1 hbk hbx hst))
    go_wp2
    first | go_end0 | ((try simp only [Exit.inBlock, Exit.then]); refine bodyPost_ret (results_none rfl _ _ _) rfl ?_)
    exact ⟨rfl, TK.M_mono (fun _ h => .inl h) (tk_mk HBG.out HO.out HBK.out (Kd.R_take (Kd.R_step HQ.out (fun k hk hlt => HS.out.block k hlt hk.2)) HN.out.1)), HS.out.mono (fun k e => e ▸ HO.out)⟩
end Go.Proofs.Ytohphkdemonlkaa.Tw
/- Contracts of the table's methods: Resize; all contracts in one shape. -/
namespace Go.Proofs.Ytohphkdemonlkaa.Tw
open Go.RowKit Go.Lib Go.Proofs.Ytohphkdemonlkaa.XQt Go.Proofs.YtohphkdemonlkaaW.PrintWords Go.Proofs.YtohphkdemonlkaaW.PrintLast Go.Proofs.YtohphkdemonlkaaW.PrintMore Go.Proofs.Ytohphkdemonlkaa.Ob

set_option maxHeartbeats 1600000 in
theorem resize_calls (l : List S54) (s s2 : Int) (w : World) (g : Nat) (base : Nat) (ok : Nat → Prop) (hl : total l ≤ 1000000000) (hs : 0 ≤ s2 ∧ s2 ≤ 512)
    (hq : TK.M w base ok (l, s, total l) [.pointer (some ⟨g, 0, none⟩)]) :
    Calls Try.prog 33 #[.pointer (some ⟨g, 0, none⟩), .int .i64 s2] w fun e w' => e = .returned (.bool true) ∧
      TK.M w' base ok (l.take (shr s2 l l.length), s2, total (l.take (shr s2 l l.length))) [.pointer (some ⟨g, 0, none⟩)] ∧ Stay (fun k => k = g) w w' := by
  obtain ⟨g', A, c, he, hbg, hok, hg, hc, hQ⟩ := tk_open hq
  obtain rfl : g = g' := by simpa using he
  replace hg : w.heap[g]? = some (.cells #[.slice A l.length c, .int .i64 s, .int .i64 (total l)] 96 (0, 0)) := hg
  replace hc : l.length ≤ c := hc
  replace hQ : k54.R 54 w base (fun k => ok k ∧ k ≠ g) (.slice A l.length c) l := hQ
  have HM : ∀ w, Aside0 (Calls Try.prog 69 #[.int .i64 s2] w fun e w' => e = .returned (.bool true) ∧ Drawn0 w w') := fun w => ⟨table_may.calls s2 true w (by unfold table_may.f; rw [if_pos (by omega), decide_eq_true hs.2])⟩
  have HShr : ∀ nd, Aside0 (Calls Try.prog 70 #[.pointer (some ⟨g, 0, none⟩), .int .i64 s2] ((w.drewN nd).setCell ⟨g, 1, none⟩ (.int .i64 s2)) fun e w' => e = .returned (.tuple #[]) ∧
      w'.heap[g]? = some (.cells #[.slice A (shr s2 l l.length) c, .int .i64 s2, .int .i64 (total (l.take (shr s2 l l.length)))] 96 (0, 0)) ∧ Stay (fun k => k = g) w w') := fun nd => by
    have hst : Stay (fun k => k = g) w ((w.drewN nd).setCell ⟨g, 1, none⟩ (.int .i64 s2)) := Stay.setCell (Stay.drewN (Stay.refl (fun k => k = g) w) nd) (p := ⟨g, 1, none⟩) (.inl (Eq.refl g)) (.int .i64 s2)
    have hgd : (w.drewN nd).heap[g]? = some (.cells #[.slice A l.length c, .int .i64 s, .int .i64 (total l)] 96 (0, 0)) := hg
    refine ⟨(shrink_raw l s2 s2 _ g base ok A c (by omega) (blk_put hgd 1 _ rfl) hc (Kd.R_step hQ (fun k hk hlt => hst.block k hlt hk.2))).mono ?_⟩
    rintro e w' ⟨rfl, h1, h2⟩
    exact ⟨rfl, h1, hst.trans h2 (fun _ _ e => e)⟩
  have hsl := shr_le s2 l l.length
  generalize shr s2 l l.length = n at HShr hsl ⊢
  have HG := Aside0.mk hg
  have HO := Aside0.mk hok
  have HBG := Aside0.mk hbg
  have HQ := Aside0.mk hQ
  have HN := Aside0.mk hsl
  have k1 : w.cell? ⟨g, 1, none⟩ = some (.int .i64 s) := cells_of_heap hg 1 _ rfl
  have f1 : ∀ j, w.frozen? ⟨g, j, none⟩ = false := fun j => by simp [World.frozen?, hg]
  clear hq he hok hbg hg hc hQ hsl hs
  go_enter Try.func33, Try.ntmps33
  go_wp2_with (first
    | (go_at_call 69; refine (HM _).out.mono ?_; rintro e w' ⟨rfl, ⟨nd, rfl⟩⟩)
    | (go_at_call 70; refine (HShr _).out.mono ?_; rintro e w3 ⟨rfl, hb3, hst⟩))
  go_ret
  exact ⟨rfl, tk_mk HBG.out HO.out hb3 (Kd.R_take (Kd.R_step HQ.out (fun k hk hlt => hst.block k hlt hk.2)) HN.out), hst⟩
theorem resize_none (s2 : Int) (w : World) (g : Nat) (hs : ¬ (0 ≤ s2 ∧ s2 ≤ 512)) :
    Calls Try.prog 33 #[.pointer (some ⟨g, 0, none⟩), .int .i64 s2] w fun e w' => e = .returned (.bool false) ∧ Below w.heap.size w w' := by
  have HM : ∀ w, Aside0 (Calls Try.prog 69 #[.int .i64 s2] w fun e w' => e = .returned (.bool false) ∧ Drawn0 w w') := fun w => ⟨table_may.calls s2 false w (by
    unfold table_may.f
    by_cases h : s2 ≥ 0
    · rw [if_pos h, decide_eq_false (fun e => hs ⟨h, e⟩)]
    · rw [if_neg h])⟩
  clear hs
  go_enter Try.func33, Try.ntmps33
  go_wp2_with (go_at_call 69; refine (HM _).out.mono ?_; rintro e w' ⟨rfl, ⟨nd, rfl⟩⟩)
  go_ret
  exact ⟨rfl, pw_below_drewN (Below.refl _ _) _⟩

/-- A table behind w0: its fields, its size. -/
structure TOwn (w0 w : World) (l : List S54) (s : Int) (g : Nat) : Prop where
  below : Below w0.heap.size w0 w
  size : 0 ≤ s ∧ s ≤ 512
  room : total l ≤ s
  m : TK.M w w0.heap.size (fun k => w0.heap.size ≤ k ∧ k < w.heap.size) (l, s, total l) [.pointer (some ⟨g, 0, none⟩)]
section
variable {w0 w w1 : World} {l : List S54} {s : Int} {g : Nat}
theorem TOwn.len (h : TOwn w0 w l s g) : l.length ≤ 16 := by
  have := total_nonneg l
  have := h.room
  have := h.size
  omega
/-- What reads alone, and makes new blocks, keeps the table. -/
theorem TOwn.below_ (h : TOwn w0 w l s g) (hb : Below w.heap.size w w1) : TOwn w0 w1 l s g :=
  ⟨(Stay.of_below (ok := fun _ => False) hb).below h.below (fun _ e => e.elim), h.size, h.room, TK.M_mono (fun _ hk => ⟨hk.1, Nat.lt_of_lt_of_le hk.2 hb.size⟩) (Kd.M_below h.m hb)⟩
theorem TOwn.back (h : TOwn w0 w l s g) : Below w0.heap.size w0 w := h.below
theorem new_own (hb : Below w0.heap.size w0 w) (s : Int) (hs : 0 ≤ s ∧ s ≤ 512) :
    Calls Try.prog 26 #[.int .i64 s] w fun e w' => ∃ g, e = .returned (.pointer (some ⟨g, 0, none⟩)) ∧ TOwn w0 w' [] s g := by
  refine (new_calls s hs w w0.heap.size hb.size).mono ?_
  rintro e w' ⟨g, rfl, hg, hm, hb2⟩
  exact ⟨g, rfl, (Stay.of_below (ok := fun _ => False) hb2).below hb (fun _ e => e.elim), hs, hs.1, TK.M_mono (fun k hk => ⟨hk.2.1, hk.2.2.1⟩) (TK.M_bound hm)⟩
theorem addL_room (hs : 0 ≤ s) (x : S54) : total (addL s l x) ≤ s := by
  have key : ∀ most n, total (l.take (shr most l n)) ≤ most ∨ shr most l n = 0 := by
    intro most n
    induction n with
    | zero => exact .inr rfl
    | succ n ih =>
      unfold shr
      split
      · exact ih
      · exact .inl (by omega)
  unfold addL
  have h := key (s - cost x) l.length
  have hc := cost_pos x
  split
  · next hcs =>
    show cost x + total _ ≤ s
    rcases h with h | h
    · omega
    · rw [h, List.take_zero]
      show cost x + 0 ≤ s
      omega
  · rcases h with h | h
    · omega
    · rw [h, List.take_zero]
      exact hs
theorem add_own (h : TOwn w0 w l s g) (x : S54) (hx : cost x ≤ 1000000000) :
    Calls Try.prog 27 #[.pointer (some ⟨g, 0, none⟩), fv x] w fun e w' => e = .returned (.tuple #[]) ∧ TOwn w0 w' (addL s l x) s g := by
  obtain ⟨hb, hs, hr, hm⟩ := h
  refine (add_calls l s x w g w0.heap.size _ hb.size (by omega) hx hs (fun k hk hn => by omega) hm).mono ?_
  rintro e w' ⟨rfl, hm', hst⟩
  have hb' := hst.below hb (fun k hk => hk.1)
  exact ⟨rfl, hb', hs, addL_room hs.1 x, TK.M_mono (fun k hk => ⟨hk.2.1, hk.2.2.1⟩) (TK.M_bound hm')⟩
theorem all_own (h : TOwn w0 w l s g) :
    Calls Try.prog 28 #[.pointer (some ⟨g, 0, none⟩)] w fun e w' => ∃ A1 c1, e = .returned (.slice A1 l.length c1) ∧ Aside0 (k54.R 54 w' w.heap.size (fun k => w.heap.size ≤ k) (.slice A1 l.length c1) l) ∧ Below w.heap.size w w' := by
  refine (all_calls (l, s, total l) w g _ _ (by have := h.len; show l.length ≤ _; omega) h.m).mono ?_
  rintro e w' ⟨A1, c1, rfl, hR, hb⟩
  exact ⟨A1, c1, rfl, ⟨hR⟩, hb⟩
theorem used_own (h : TOwn w0 w l s g) : Calls Try.prog 29 #[.pointer (some ⟨g, 0, none⟩)] w fun e w' => e = .returned (.int .i64 (total l)) ∧ Below w.heap.size w w' := used_calls (l, s, total l) w g _ _ h.m
theorem size_own (h : TOwn w0 w l s g) : Calls Try.prog 34 #[.pointer (some ⟨g, 0, none⟩)] w fun e w' => e = .returned (.int .i64 s) ∧ Below w.heap.size w w' := size_calls (l, s, total l) w g _ _ h.m
theorem at_own (h : TOwn w0 w l s g) (n : Nat) (hn : n < (wholeL l).length) :
    Calls Try.prog 31 #[.pointer (some ⟨g, 0, none⟩), .int .i64 ((n : Int) + 1)] w fun e w' => e = .returned (.tuple #[fv (rd_T54 (wholeL l) (n : Int)), .bool true]) ∧ Below w.heap.size w w' :=
  at_in (l, s, total l) n w g _ _ (by have := h.len; show l.length ≤ _; omega) h.m hn
theorem at_none (h : TOwn w0 w l s g) (i : Int) (hi : ¬ (1 ≤ i ∧ i ≤ ((wholeL l).length : Int))) :
    Calls Try.prog 31 #[.pointer (some ⟨g, 0, none⟩), .int .i64 i] w fun e w' => e = .returned (.tuple #[fv z54, .bool false]) ∧ Below w.heap.size w w' :=
  at_out (l, s, total l) i w g _ _ (by have := h.len; show l.length ≤ _; omega) h.m hi
theorem find_own (h : TOwn w0 w l s g) (f : S54) :
    Calls Try.prog 32 #[.pointer (some ⟨g, 0, none⟩), fv f] w fun e w' => e = .returned (.tuple #[.int .i64 (findN (wholeL l) f), .bool (findB (wholeL l) f)]) ∧ Below w.heap.size w w' :=
  find_calls (l, s, total l) f w g _ _ (by have := h.len; show l.length ≤ _; omega) h.m
theorem resize_own (h : TOwn w0 w l s g) (s2 : Int) (hs : 0 ≤ s2 ∧ s2 ≤ 512) :
    Calls Try.prog 33 #[.pointer (some ⟨g, 0, none⟩), .int .i64 s2] w fun e w' => e = .returned (.bool true) ∧ TOwn w0 w' (l.take (shr s2 l l.length)) s2 g ∧ Stay (fun k => k = g) w w' := by
  obtain ⟨hb, hs0, hr, hm⟩ := h
  have hg0 : w0.heap.size ≤ g ∧ g < w.heap.size := by
    obtain ⟨g', A, c, he, hbg, hok, _⟩ := tk_open hm
    obtain rfl : g = g' := by simpa using he
    exact hok
  refine (resize_calls l s s2 w g w0.heap.size _ (by omega) hs hm).mono ?_
  rintro e w' ⟨rfl, hm', hst⟩
  refine ⟨rfl, ⟨hst.below hb (fun k hk => hk ▸ hg0.1), hs, ?_, TK.M_mono (fun k hk => ⟨hk.1, Nat.lt_of_lt_of_le hk.2 hst.size⟩) hm'⟩, hst⟩
  have key : ∀ n, total (l.take (shr s2 l n)) ≤ s2 := by
    intro n
    induction n with
    | zero => exact hs.1
    | succ n ih =>
      unfold shr
      split
      · exact ih
      · omega
  exact key _
end
end Go.Proofs.Ytohphkdemonlkaa.Tw
