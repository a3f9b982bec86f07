/- FieldLacks. -/
import Derived.Test.YthibjhjeppfahaaDoorFForbids
import Derived.Deep.RegionHeldLaw
namespace Go.Proofs.YthibjhjeppfahaaDoor.Fw
open Go.RowKit Go.Proofs.YthibjhjeppfahaaDoor.XFi Go.Proofs.YthibjhjeppfahaaDoorW.PrintWords Go.Proofs.YthibjhjeppfahaaDoorW.PrintLast Go.Proofs.YthibjhjeppfahaaDoorW.PrintMore Go.Proofs.YthibjhjeppfahaaDoor.Ms
theorem FR.some {w : World} {base n c : Nat} {A : Option Addr} {l : List S26} (h : FR w base A n c l) (hn : 0 < n) : ∃ g cur, A = Option.some ⟨g, 0, none⟩ ∧ base ≤ g ∧ w.heap[g]? = Option.some (.cells cur 26 (0, 0)) ∧ n ≤ c ∧ c ≤ maxLen ∧ cur.size = c * 2 ∧ cur.toList.take (n * 2) = fcells l := by
  obtain ⟨rfl, h1, h2⟩ := h
  rcases h2 with ⟨e, h0⟩ | ⟨g, cap, cur, e, hb, hh, hnc, hcm, hcs, ht⟩
  · omega
  · injection e with e1 e2 e3
    subst e1; subst e3
    exact ⟨g, cur, rfl, hb, hh, hnc, hcm, hcs, ht⟩
theorem heap_put {w : World} {g : Nat} {cur : Array Value} {t : TypeId} {fr : Nat × Nat} (h : w.heap[g]? = some (.cells cur t fr)) (i : Nat) (v : Value) (hi : i < cur.size) : (w.setCell ⟨g, i, none⟩ v).heap[g]? = some (.cells (cur.set i v hi) t fr) := by
  simp only [World.setCell, Array.getElem?_modify, if_pos, h]
  simp [Array.setIfInBounds, hi]
theorem fcells_set : ∀ (l : List S26) (k : Nat) (x : S26) (v : ByteArray), l[k]? = some x → (fcells l).set (k * 2 + 1) (.string v) = fcells (l.set k ⟨x.f0, v⟩)
  | [], k, x, v, h => by simp at h
  | y :: l, 0, x, v, h => by
    obtain rfl := Option.some.inj h
    rfl
  | y :: l, k + 1, x, v, h => by
    have := fcells_set l k x v (by simpa using h)
    rw [show (k + 1) * 2 + 1 = k * 2 + 1 + 1 + 1 by omega]
    simp [fcells, this]
theorem FR.put1 {w : World} {base n c g : Nat} {l : List S26} (h : FR w base (Option.some ⟨g, 0, none⟩) n c l) (k : Nat) (x : S26) (hk : l[k]? = Option.some x) (v : ByteArray) : FR (w.setCell ⟨g, k * 2 + 1, none⟩ (.string v)) base (Option.some ⟨g, 0, none⟩) n c (l.set k ⟨x.f0, v⟩) := by
  have hkl : k < l.length := (List.getElem?_eq_some_iff.1 hk).1
  have hn := h.1
  obtain ⟨g', cur, e, hb, hh, hnc, hcm, hcs, ht⟩ := h.some (by omega)
  obtain rfl : g = g' := by injection e with e; injection e
  have hi : k * 2 + 1 < cur.size := by rw [hcs]; omega
  refine ⟨by rw [List.length_set]; exact hn, by rw [fcells_len, List.length_set, hn], .inr ⟨g, c, _, rfl, hb, heap_put hh _ _ hi, hnc, hcm, by rw [Array.size_set]; exact hcs, ?_⟩⟩
  rw [Array.toList_set, List.take_set, ht]
  exact fcells_set l k x v hk
theorem cell_own {w : World} {g i : Nat} {cur : Array Value} {t : TypeId} (h : w.heap[g]? = some (.cells cur t (0, 0))) (hi : i < cur.size) : ∃ u, w.cell? ⟨g, i, none⟩ = some u ∧ w.frozen? ⟨g, i, none⟩ = false := by
  refine ⟨cur[i], cells_of_heap h i _ (Array.getElem?_eq_getElem hi), ?_⟩
  simp [World.frozen?, h]
theorem lk_two0 : reqQ (aliveL ++ [⟨⟨#[58, 109, 101, 116, 104, 111, 100]⟩, ⟨#[71, 69, 84]⟩⟩]) = 7 := by kernel_rfl
theorem lk_no0 : reqQ (aliveL.set 0 ⟨⟨#[58, 109, 101, 116, 104, 111, 100]⟩, ⟨#[]⟩⟩) = 3 := by kernel_rfl
theorem lk_out0 : reqQ ([] ++ [⟨⟨#[58, 115, 99, 104, 101, 109, 101]⟩, ⟨#[104, 116, 116, 112]⟩⟩, ⟨⟨#[58, 97, 117, 116, 104, 111, 114, 105, 116, 121]⟩, ⟨#[97]⟩⟩, ⟨⟨#[58, 112, 97, 116, 104]⟩, ⟨#[47]⟩⟩]) = 3 := by kernel_rfl
theorem lk_two1 : reqQ (aliveL ++ [⟨⟨#[58, 115, 99, 104, 101, 109, 101]⟩, ⟨#[104, 116, 116, 112]⟩⟩]) = 7 := by kernel_rfl
theorem lk_no1 : reqQ (aliveL.set 1 ⟨⟨#[58, 115, 99, 104, 101, 109, 101]⟩, ⟨#[]⟩⟩) = 3 := by kernel_rfl
theorem lk_out1 : reqQ ([⟨⟨#[58, 109, 101, 116, 104, 111, 100]⟩, ⟨#[71, 69, 84]⟩⟩] ++ [⟨⟨#[58, 97, 117, 116, 104, 111, 114, 105, 116, 121]⟩, ⟨#[97]⟩⟩, ⟨⟨#[58, 112, 97, 116, 104]⟩, ⟨#[47]⟩⟩]) = 3 := by kernel_rfl
theorem lk_two2 : reqQ (aliveL ++ [⟨⟨#[58, 97, 117, 116, 104, 111, 114, 105, 116, 121]⟩, ⟨#[97]⟩⟩]) = 7 := by kernel_rfl
theorem lk_no2 : reqQ (aliveL.set 2 ⟨⟨#[58, 97, 117, 116, 104, 111, 114, 105, 116, 121]⟩, ⟨#[]⟩⟩) = 3 := by kernel_rfl
theorem lk_out2 : reqQ ([⟨⟨#[58, 109, 101, 116, 104, 111, 100]⟩, ⟨#[71, 69, 84]⟩⟩, ⟨⟨#[58, 115, 99, 104, 101, 109, 101]⟩, ⟨#[104, 116, 116, 112]⟩⟩] ++ [⟨⟨#[58, 112, 97, 116, 104]⟩, ⟨#[47]⟩⟩]) = 3 := by kernel_rfl
theorem lk_two3 : reqQ (aliveL ++ [⟨⟨#[58, 112, 97, 116, 104]⟩, ⟨#[47]⟩⟩]) = 7 := by kernel_rfl
theorem lk_no3 : reqQ (aliveL.set 3 ⟨⟨#[58, 112, 97, 116, 104]⟩, ⟨#[]⟩⟩) = 3 := by kernel_rfl
theorem lk_out3 : reqQ ([⟨⟨#[58, 109, 101, 116, 104, 111, 100]⟩, ⟨#[71, 69, 84]⟩⟩, ⟨⟨#[58, 115, 99, 104, 101, 109, 101]⟩, ⟨#[104, 116, 116, 112]⟩⟩, ⟨⟨#[58, 97, 117, 116, 104, 111, 114, 105, 116, 121]⟩, ⟨#[97]⟩⟩] ++ []) = 3 := by kernel_rfl
theorem first_below {w w4 w5 : World} (h : Below w.heap.size w w4) (hb : Below w4.drew.heap.size w4.drew w5) : Below w.heap.size w w5 := below_step (below_drew h) hb
theorem req_at {l : List S26} {r : Int} (hS : Sized l) (e : reqQ l = r) (w : World) (A : Option Addr) (n c : Nat) (hC : k26.C w A n l) : Calls Tryd.prog 13 #[.slice A n c] w fun e w' => e = .returned (.int .i64 r) ∧ Below w.heap.size w w' := by
  rw [← e]
  exact req_n hS hC
set_option maxHeartbeats 3200000 in
set_option maxRecDepth 20000 in
theorem lacks_0_false (which : Int) (w : World) (hq : (wrap64 (which.tmod 4 + 4)).tmod 4 = 0) : Calls Tryd.prog 4 #[.int .i64 which, .bool false] w fun e w' => e = .returned (.bool true) ∧ Below w.heap.size w w' := by
  have hlit : ¬ (4 : Int) = 0 := by decide
  have mixed : Tryd.prog.follows Departure.mixedOrders = true := by kernel_rfl
  have HA : Aside0 (∀ (W : World) (b : Nat), W.heap[b]? = some (.cells #[.string ⟨#[58, 109, 101, 116, 104, 111, 100]⟩, .string ⟨#[71, 69, 84]⟩, .string ⟨#[58, 115, 99, 104, 101, 109, 101]⟩, .string ⟨#[104, 116, 116, 112]⟩, .string ⟨#[58, 97, 117, 116, 104, 111, 114, 105, 116, 121]⟩, .string ⟨#[97]⟩, .string ⟨#[58, 112, 97, 116, 104]⟩, .string ⟨#[47]⟩] 26 (0, 0)) → k26.C W (some ⟨b, 0, none⟩) 4 aliveL) := ⟨fun W b h => flds_of h [] aliveL [] rfl (by decide)⟩
  have HAL := Aside0.mk (req_at (l := aliveL) (sized_lit (by kernel_rfl)) al_req)
  · have HQm := Aside0.mk (req_at (l := aliveL.set 0 ⟨⟨#[58, 109, 101, 116, 104, 111, 100]⟩, ⟨#[]⟩⟩) (sized_lit (by kernel_rfl)) lk_no0)
    have HQo := Aside0.mk (req_at (l := [] ++ [⟨⟨#[58, 115, 99, 104, 101, 109, 101]⟩, ⟨#[104, 116, 116, 112]⟩⟩, ⟨⟨#[58, 97, 117, 116, 104, 111, 114, 105, 116, 121]⟩, ⟨#[97]⟩⟩, ⟨⟨#[58, 112, 97, 116, 104]⟩, ⟨#[47]⟩⟩]) (sized_lit (by kernel_rfl)) lk_out0)
    go_enter Tryd.func4, Tryd.ntmps4
    go_wp2_with (first
      | (go_at_call 11; refine (alive_c _).mono ?_; rintro e w1 ⟨rfl, hb⟩; have HB := Aside0.mk hb; clear hb)
      | ((with_reducible refine gate_builtin (b := .append) (xs := #[.const (.slice none 0 0), .tmp 30]) rfl ?_); at_builtin; refine list_app rfl (.const (.slice none 0 0)) (.tmp 30) rfl (w1.alloc (.cells #[.string ⟨#[58, 109, 101, 116, 104, 111, 100]⟩, .string ⟨#[71, 69, 84]⟩, .string ⟨#[58, 115, 99, 104, 101, 109, 101]⟩, .string ⟨#[104, 116, 116, 112]⟩, .string ⟨#[58, 97, 117, 116, 104, 111, 114, 105, 116, 121]⟩, .string ⟨#[97]⟩, .string ⟨#[58, 112, 97, 116, 104]⟩, .string ⟨#[47]⟩] 26)) (w1.heap.size + 1) none _ 0 0 4 4 [] aliveL rfl rfl (FR.nil _ _) (HA.out _ _ (heap_alloc_new w1 _)) (by decide) (by simp) (Below.refl _ _) ?_; intro A3 c3 w3 hF hb _; rw [Nat.zero_add, List.nil_append] at hF; obtain ⟨g, cur, rfl, hg, hh, hnc, _, hcs, _⟩ := hF.some (by decide); have hbk := (hb.block w1.heap.size (Nat.lt_succ_self _)).trans (heap_alloc_new w1 _); have HB3 := Aside0.mk ((below_alloc HB.out (.cells #[.string ⟨#[58, 109, 101, 116, 104, 111, 100]⟩, .string ⟨#[71, 69, 84]⟩, .string ⟨#[58, 115, 99, 104, 101, 109, 101]⟩, .string ⟨#[104, 116, 116, 112]⟩, .string ⟨#[58, 97, 117, 116, 104, 111, 114, 105, 116, 121]⟩, .string ⟨#[97]⟩, .string ⟨#[58, 112, 97, 116, 104]⟩, .string ⟨#[47]⟩] 26)).trans (hb.mono (Nat.le_succ_of_le HB.out.size))); have HBK := Aside0.mk hbk; have HF3 := Aside0.mk hF; have HL := Aside0.mk HB.out.size; have HG := Aside0.mk (And.intro hg (blk_lt hbk)); obtain ⟨u, f0, f1⟩ := cell_own hh (i := 1) (by rw [hcs]; omega); clear hb hbk hF HB hh hcs hnc hg))
    have HF4 := Aside0.mk (HF3.out.put1 0 ⟨⟨#[58, 109, 101, 116, 104, 111, 100]⟩, ⟨#[71, 69, 84]⟩⟩ rfl ⟨#[]⟩)
    have HBK4 := Aside0.mk ((Below.heap_setCell w3 ⟨g, 1, none⟩ (.string ⟨#[]⟩) w1.heap.size (by have := HG.out.1; simp; omega)).trans HBK.out)
    have HB4 := Aside0.mk (HB3.out.setCell (p := ⟨g, 1, none⟩) (Nat.le_trans HL.out (Nat.le_trans (Nat.le_succ _) HG.out.1)) (.string ⟨#[]⟩))
    clear f0 f1 HF3 HBK HB3
    obtain ⟨i0, hi0, _, hsz0, _⟩ := info_parts info26
    have hc1 : ∀ W : World, (Instr.slice 27 (.slice (some ⟨w1.heap.size, 0, none⟩) 4 4) none (some (.int .i64 0)) none).run Tryd.prog W = .ok (.slice (some ⟨w1.heap.size, 0, none⟩) 0 4) W := cut_to (P := Tryd.prog) 27 26 .i64 Tryd.underlying27 hi0 (some ⟨w1.heap.size, 0, none⟩) 4 4 0 (by decide) (by decide) (by decide)
    have hc2 : ∀ W : World, (Instr.slice 27 (.slice (some ⟨w1.heap.size, 0, none⟩) 4 4) (some (.int .i64 1)) none none).run Tryd.prog W = .ok (.slice (some ⟨w1.heap.size, 2, none⟩) 3 3) W := cut_from (P := Tryd.prog) 27 26 .i64 Tryd.underlying27 hi0 2 hsz0 (some ⟨w1.heap.size, 0, none⟩) 4 4 1 (by decide) (by decide)
    clear hi0 hsz0
    have hs1 : IntKind.i64.wrap (0 + 1) = 1 := by decide
    have hs2 : IntKind.i64.wrap 1 = 1 := by decide
    have hs3 : wrap64 (0 + 1) = 1 := w64_in (0 + 1) (by decide)
    have hs4 : wrap64 1 = 1 := w64_in 1 (by decide)
    generalize w3.setCell ⟨g, 1, none⟩ (.string ⟨#[]⟩) = w4 at HF4 HBK4 HB4 ⊢
    go_region_held_law (fun _ => True) (trivial) (first
      | (refine step_app (by first | rfl | (simp [Region.wanted]; done)) (.const (.slice none 0 0)) (.tmp 42) rfl w5 w5.heap.size none _ 0 0 0 4 [] [] rfl rfl (FR.nil _ _) ?cC (by decide) ?cB ?cW ?_; (case cC => exact flds_of (w := w5) HBK5.out [] [] (fcells [⟨⟨#[58, 109, 101, 116, 104, 111, 100]⟩, ⟨#[71, 69, 84]⟩⟩, ⟨⟨#[58, 115, 99, 104, 101, 109, 101]⟩, ⟨#[104, 116, 116, 112]⟩⟩, ⟨⟨#[58, 97, 117, 116, 104, 111, 114, 105, 116, 121]⟩, ⟨#[97]⟩⟩, ⟨⟨#[58, 112, 97, 116, 104]⟩, ⟨#[47]⟩⟩]) rfl (by decide)); (case cB => simp); (case cW => (repeat' first | exact Below.refl _ _ | (with_reducible refine below_drew ?_))); intro A6 c6 w6 hF hb _; rw [Nat.zero_add, List.nil_append] at hF; have HF6 := Aside0.mk hF; have HBx6 := Aside0.mk hb; have HBK6 := Aside0.mk ((hb.block _ (blk_lt HBK5.out)).trans HBK5.out); clear hF hb)
      | (refine step_app (by first | rfl | (simp [Region.wanted]; done)) (.tmp 43) (.tmp 47) rfl w5 w5.heap.size A6 _ 0 c6 3 _ [] [⟨⟨#[58, 115, 99, 104, 101, 109, 101]⟩, ⟨#[104, 116, 116, 112]⟩⟩, ⟨⟨#[58, 97, 117, 116, 104, 111, 114, 105, 116, 121]⟩, ⟨#[97]⟩⟩, ⟨⟨#[58, 112, 97, 116, 104]⟩, ⟨#[47]⟩⟩] rfl rfl HF6.out ?cC (by decide) ?cB HBx6.out ?_; (case cC => exact flds_of (w := w6) HBK6.out [.string ⟨#[58, 109, 101, 116, 104, 111, 100]⟩, .string ⟨#[71, 69, 84]⟩] [⟨⟨#[58, 115, 99, 104, 101, 109, 101]⟩, ⟨#[104, 116, 116, 112]⟩⟩, ⟨⟨#[58, 97, 117, 116, 104, 111, 114, 105, 116, 121]⟩, ⟨#[97]⟩⟩, ⟨⟨#[58, 112, 97, 116, 104]⟩, ⟨#[47]⟩⟩] [] rfl (by decide)); (case cB => exact HBx6.out.size); intro A7 c7 w7 hF hb _; have HF7 := Aside0.mk hF; have HBK7 := Aside0.mk ((hb.block _ (blk_lt HBK5.out)).trans HBK5.out); have HB7 := Aside0.mk (below_step HB5.out hb); clear hF hb HF6 HBx6 HBK6 HB5 HBK5)
      | (go_at_call 13; refine (HQm.out _ _ _ _ ?hc).mono ?_; (case hc => first | exact (HF4.out.drew.c (by decide)).1 | exact (HF4.out.c (by decide)).1); rintro e w5 ⟨rfl, hb⟩; have HBK5 := Aside0.mk ((hb.block _ (blk_lt HBK4.out)).trans HBK4.out); have HB5 := Aside0.mk (first_below HB4.out hb); clear hb HF4 HBK4 HB4)
        | (go_at_call 13; refine (HQo.out _ _ _ _ (HF7.out.c (by decide)).1).mono ?_; rintro e w8 ⟨rfl, hb⟩; have HBK8 := Aside0.mk ((hb.block _ (blk_lt HBK7.out)).trans HBK7.out); have HB8 := Aside0.mk (below_step HB7.out hb); clear hb HF7 HBK7 HB7)
        | (go_at_call 13; refine (HAL.out _ _ _ _ (HA.out _ _ HBK8.out)).mono ?_; rintro e w9 ⟨rfl, hb⟩; have HB9 := Aside0.mk (below_step HB8.out hb); clear hb HBK8 HB8))
    all_goals
      go_wp2
      go_ret
      exact ⟨rfl, HB9.out⟩
set_option maxHeartbeats 3200000 in
set_option maxRecDepth 20000 in
theorem lacks_0_true (which : Int) (w : World) (hq : (wrap64 (which.tmod 4 + 4)).tmod 4 = 0) : Calls Tryd.prog 4 #[.int .i64 which, .bool true] w fun e w' => e = .returned (.bool true) ∧ Below w.heap.size w w' := by
  have hlit : ¬ (4 : Int) = 0 := by decide
  have mixed : Tryd.prog.follows Departure.mixedOrders = true := by kernel_rfl
  have HA : Aside0 (∀ (W : World) (b : Nat), W.heap[b]? = some (.cells #[.string ⟨#[58, 109, 101, 116, 104, 111, 100]⟩, .string ⟨#[71, 69, 84]⟩, .string ⟨#[58, 115, 99, 104, 101, 109, 101]⟩, .string ⟨#[104, 116, 116, 112]⟩, .string ⟨#[58, 97, 117, 116, 104, 111, 114, 105, 116, 121]⟩, .string ⟨#[97]⟩, .string ⟨#[58, 112, 97, 116, 104]⟩, .string ⟨#[47]⟩] 26 (0, 0)) → k26.C W (some ⟨b, 0, none⟩) 4 aliveL) := ⟨fun W b h => flds_of h [] aliveL [] rfl (by decide)⟩
  have HAL := Aside0.mk (req_at (l := aliveL) (sized_lit (by kernel_rfl)) al_req)
  · have HQt := Aside0.mk (req_at (l := aliveL ++ [⟨⟨#[58, 109, 101, 116, 104, 111, 100]⟩, ⟨#[71, 69, 84]⟩⟩]) (sized_lit (by kernel_rfl)) lk_two0)
    go_enter Tryd.func4, Tryd.ntmps4
    go_wp2_with (first
      | (go_at_call 11; refine (alive_c _).mono ?_; rintro e w1 ⟨rfl, hb⟩; have HB := Aside0.mk hb; clear hb))
    have hbk := heap_alloc_new w1 (.cells #[.string ⟨#[58, 109, 101, 116, 104, 111, 100]⟩, .string ⟨#[71, 69, 84]⟩, .string ⟨#[58, 115, 99, 104, 101, 109, 101]⟩, .string ⟨#[104, 116, 116, 112]⟩, .string ⟨#[58, 97, 117, 116, 104, 111, 114, 105, 116, 121]⟩, .string ⟨#[97]⟩, .string ⟨#[58, 112, 97, 116, 104]⟩, .string ⟨#[47]⟩] 26)
    have hB := below_alloc HB.out (.cells #[.string ⟨#[58, 109, 101, 116, 104, 111, 100]⟩, .string ⟨#[71, 69, 84]⟩, .string ⟨#[58, 115, 99, 104, 101, 109, 101]⟩, .string ⟨#[104, 116, 116, 112]⟩, .string ⟨#[58, 97, 117, 116, 104, 111, 114, 105, 116, 121]⟩, .string ⟨#[97]⟩, .string ⟨#[58, 112, 97, 116, 104]⟩, .string ⟨#[47]⟩] 26)
    clear HB
    generalize w1.alloc (.cells #[.string ⟨#[58, 109, 101, 116, 104, 111, 100]⟩, .string ⟨#[71, 69, 84]⟩, .string ⟨#[58, 115, 99, 104, 101, 109, 101]⟩, .string ⟨#[104, 116, 116, 112]⟩, .string ⟨#[58, 97, 117, 116, 104, 111, 114, 105, 116, 121]⟩, .string ⟨#[97]⟩, .string ⟨#[58, 112, 97, 116, 104]⟩, .string ⟨#[47]⟩] 26) = W2 at hbk hB ⊢
    have HB2 := Aside0.mk hB
    have HBK := Aside0.mk hbk
    have k0 := cells_of_heap hbk 0 (.string ⟨#[58, 109, 101, 116, 104, 111, 100]⟩) rfl
    have k1 := cells_of_heap hbk 1 (.string ⟨#[71, 69, 84]⟩) rfl
    clear hB hbk
    go_region_law_o (first
      | (refine step_app (by simp [Region.wanted]) (.const (.slice none 0 0)) (.tmp 20) rfl W2 W2.heap.size none (some ⟨w1.heap.size, 0, none⟩) 0 0 4 4 [] aliveL rfl rfl (FR.nil _ _) ?cC (by decide) ?cB ?cW ?_; (case cC => (repeat' first | exact (HA.out _ _ HBK.out) | (with_reducible refine Kd.C_alloc ?_ _) | (with_reducible refine Kd.C_drew ?_))); (case cB => simp); (case cW => (repeat' first | exact Below.refl _ _ | (with_reducible refine below_alloc ?_ _) | (with_reducible refine below_drew ?_))); intro A3 c3 w3 hF hb hg; rw [Nat.zero_add, List.nil_append] at hF; have hbk := (hb.block _ (blk_lt HBK.out)).trans HBK.out; have k0 := cells_of_heap hbk 0 (.string ⟨#[58, 109, 101, 116, 104, 111, 100]⟩) rfl; have k1 := cells_of_heap hbk 1 (.string ⟨#[71, 69, 84]⟩) rfl; have HF3 := Aside0.mk hF; have HB3 := Aside0.mk hb; have HG3 := Aside0.mk hg; clear hF hb hg hbk)
      | (refine step_app (by simp [Region.wanted]) (.tmp 21) (.tmp 26) rfl W2 W2.heap.size A3 _ 4 c3 1 1 aliveL [⟨⟨#[58, 109, 101, 116, 104, 111, 100]⟩, ⟨#[71, 69, 84]⟩⟩] rfl rfl ?cF ?cC (by decide) ?cB ?cW ?_; (case cF => (repeat' first | exact HF3.out | (with_reducible refine FR.alloc ?_ _) | (with_reducible refine FR.drew ?_))); (case cC => first | exact lit1' (by simp) _ _ | exact c_grown (w := (W2.alloc (.cells #[.string ⟨#[58, 109, 101, 116, 104, 111, 100]⟩, .string ⟨#[71, 69, 84]⟩] 26)).drew) (l := [⟨⟨#[58, 109, 101, 116, 104, 111, 100]⟩, ⟨#[71, 69, 84]⟩⟩]) (heap_alloc_new W2 _) HG3.out (fun e => by cases e) (by simp) rfl | exact c_grown (w := W2.drew.alloc (.cells #[.string ⟨#[58, 109, 101, 116, 104, 111, 100]⟩, .string ⟨#[71, 69, 84]⟩] 26)) (l := [⟨⟨#[58, 109, 101, 116, 104, 111, 100]⟩, ⟨#[71, 69, 84]⟩⟩]) (heap_alloc_new W2.drew _) HG3.out (fun e => by cases e) (by simp) rfl); (case cB => have := HB3.out.size; simp; omega); (case cW => (repeat' first | exact HB3.out | (with_reducible refine Below.alloc ?_ ?_ _) | (with_reducible refine below_drew ?_)); all_goals (have := HB3.out.size; simp; omega)); intro A4 c4 w4 hF hb _; have HF4 := Aside0.mk hF; have HB4 := Aside0.mk (below_step HB2.out hb); clear hF hb HF3 HB3 HG3)
      | (go_simp; go_wp2_with (first
        | (go_at_call 13; refine (HQt.out _ _ _ _ (HF4.out.c (by decide)).1).mono ?_; rintro e w5 ⟨rfl, hb⟩; have HB5 := Aside0.mk (below_step HB4.out hb); clear hb HF4 HB4))))
    all_goals
      go_wp2
      go_ret
      exact ⟨rfl, HB5.out⟩
set_option maxHeartbeats 3200000 in
set_option maxRecDepth 20000 in
theorem lacks_1_false (which : Int) (w : World) (hq : (wrap64 (which.tmod 4 + 4)).tmod 4 = 1) : Calls Tryd.prog 4 #[.int .i64 which, .bool false] w fun e w' => e = .returned (.bool true) ∧ Below w.heap.size w w' := by
  have hlit : ¬ (4 : Int) = 0 := by decide
  have mixed : Tryd.prog.follows Departure.mixedOrders = true := by kernel_rfl
  have HA : Aside0 (∀ (W : World) (b : Nat), W.heap[b]? = some (.cells #[.string ⟨#[58, 109, 101, 116, 104, 111, 100]⟩, .string ⟨#[71, 69, 84]⟩, .string ⟨#[58, 115, 99, 104, 101, 109, 101]⟩, .string ⟨#[104, 116, 116, 112]⟩, .string ⟨#[58, 97, 117, 116, 104, 111, 114, 105, 116, 121]⟩, .string ⟨#[97]⟩, .string ⟨#[58, 112, 97, 116, 104]⟩, .string ⟨#[47]⟩] 26 (0, 0)) → k26.C W (some ⟨b, 0, none⟩) 4 aliveL) := ⟨fun W b h => flds_of h [] aliveL [] rfl (by decide)⟩
  have HAL := Aside0.mk (req_at (l := aliveL) (sized_lit (by kernel_rfl)) al_req)
  · have HQm := Aside0.mk (req_at (l := aliveL.set 1 ⟨⟨#[58, 115, 99, 104, 101, 109, 101]⟩, ⟨#[]⟩⟩) (sized_lit (by kernel_rfl)) lk_no1)
    have HQo := Aside0.mk (req_at (l := [⟨⟨#[58, 109, 101, 116, 104, 111, 100]⟩, ⟨#[71, 69, 84]⟩⟩] ++ [⟨⟨#[58, 97, 117, 116, 104, 111, 114, 105, 116, 121]⟩, ⟨#[97]⟩⟩, ⟨⟨#[58, 112, 97, 116, 104]⟩, ⟨#[47]⟩⟩]) (sized_lit (by kernel_rfl)) lk_out1)
    go_enter Tryd.func4, Tryd.ntmps4
    go_wp2_with (first
      | (go_at_call 11; refine (alive_c _).mono ?_; rintro e w1 ⟨rfl, hb⟩; have HB := Aside0.mk hb; clear hb)
      | ((with_reducible refine gate_builtin (b := .append) (xs := #[.const (.slice none 0 0), .tmp 30]) rfl ?_); at_builtin; refine list_app rfl (.const (.slice none 0 0)) (.tmp 30) rfl (w1.alloc (.cells #[.string ⟨#[58, 109, 101, 116, 104, 111, 100]⟩, .string ⟨#[71, 69, 84]⟩, .string ⟨#[58, 115, 99, 104, 101, 109, 101]⟩, .string ⟨#[104, 116, 116, 112]⟩, .string ⟨#[58, 97, 117, 116, 104, 111, 114, 105, 116, 121]⟩, .string ⟨#[97]⟩, .string ⟨#[58, 112, 97, 116, 104]⟩, .string ⟨#[47]⟩] 26)) (w1.heap.size + 1) none _ 0 0 4 4 [] aliveL rfl rfl (FR.nil _ _) (HA.out _ _ (heap_alloc_new w1 _)) (by decide) (by simp) (Below.refl _ _) ?_; intro A3 c3 w3 hF hb _; rw [Nat.zero_add, List.nil_append] at hF; obtain ⟨g, cur, rfl, hg, hh, hnc, _, hcs, _⟩ := hF.some (by decide); have hbk := (hb.block w1.heap.size (Nat.lt_succ_self _)).trans (heap_alloc_new w1 _); have HB3 := Aside0.mk ((below_alloc HB.out (.cells #[.string ⟨#[58, 109, 101, 116, 104, 111, 100]⟩, .string ⟨#[71, 69, 84]⟩, .string ⟨#[58, 115, 99, 104, 101, 109, 101]⟩, .string ⟨#[104, 116, 116, 112]⟩, .string ⟨#[58, 97, 117, 116, 104, 111, 114, 105, 116, 121]⟩, .string ⟨#[97]⟩, .string ⟨#[58, 112, 97, 116, 104]⟩, .string ⟨#[47]⟩] 26)).trans (hb.mono (Nat.le_succ_of_le HB.out.size))); have HBK := Aside0.mk hbk; have HF3 := Aside0.mk hF; have HL := Aside0.mk HB.out.size; have HG := Aside0.mk (And.intro hg (blk_lt hbk)); obtain ⟨u, f0, f1⟩ := cell_own hh (i := 3) (by rw [hcs]; omega); clear hb hbk hF HB hh hcs hnc hg))
    have HF4 := Aside0.mk (HF3.out.put1 1 ⟨⟨#[58, 115, 99, 104, 101, 109, 101]⟩, ⟨#[104, 116, 116, 112]⟩⟩ rfl ⟨#[]⟩)
    have HBK4 := Aside0.mk ((Below.heap_setCell w3 ⟨g, 3, none⟩ (.string ⟨#[]⟩) w1.heap.size (by have := HG.out.1; simp; omega)).trans HBK.out)
    have HB4 := Aside0.mk (HB3.out.setCell (p := ⟨g, 3, none⟩) (Nat.le_trans HL.out (Nat.le_trans (Nat.le_succ _) HG.out.1)) (.string ⟨#[]⟩))
    clear f0 f1 HF3 HBK HB3
    obtain ⟨i0, hi0, _, hsz0, _⟩ := info_parts info26
    have hc1 : ∀ W : World, (Instr.slice 27 (.slice (some ⟨w1.heap.size, 0, none⟩) 4 4) none (some (.int .i64 1)) none).run Tryd.prog W = .ok (.slice (some ⟨w1.heap.size, 0, none⟩) 1 4) W := cut_to (P := Tryd.prog) 27 26 .i64 Tryd.underlying27 hi0 (some ⟨w1.heap.size, 0, none⟩) 4 4 1 (by decide) (by decide) (by decide)
    have hc2 : ∀ W : World, (Instr.slice 27 (.slice (some ⟨w1.heap.size, 0, none⟩) 4 4) (some (.int .i64 2)) none none).run Tryd.prog W = .ok (.slice (some ⟨w1.heap.size, 4, none⟩) 2 2) W := cut_from (P := Tryd.prog) 27 26 .i64 Tryd.underlying27 hi0 2 hsz0 (some ⟨w1.heap.size, 0, none⟩) 4 4 2 (by decide) (by decide)
    clear hi0 hsz0
    have hs1 : IntKind.i64.wrap (1 + 1) = 2 := by decide
    have hs2 : IntKind.i64.wrap 2 = 2 := by decide
    have hs3 : wrap64 (1 + 1) = 2 := w64_in (1 + 1) (by decide)
    have hs4 : wrap64 2 = 2 := w64_in 2 (by decide)
    generalize w3.setCell ⟨g, 3, none⟩ (.string ⟨#[]⟩) = w4 at HF4 HBK4 HB4 ⊢
    go_region_held_law (fun _ => True) (trivial) (first
      | (refine step_app (by first | rfl | (simp [Region.wanted]; done)) (.const (.slice none 0 0)) (.tmp 42) rfl w5 w5.heap.size none _ 0 0 1 4 [] [⟨⟨#[58, 109, 101, 116, 104, 111, 100]⟩, ⟨#[71, 69, 84]⟩⟩] rfl rfl (FR.nil _ _) ?cC (by decide) ?cB ?cW ?_; (case cC => exact flds_of (w := w5) HBK5.out [] [⟨⟨#[58, 109, 101, 116, 104, 111, 100]⟩, ⟨#[71, 69, 84]⟩⟩] (fcells [⟨⟨#[58, 115, 99, 104, 101, 109, 101]⟩, ⟨#[104, 116, 116, 112]⟩⟩, ⟨⟨#[58, 97, 117, 116, 104, 111, 114, 105, 116, 121]⟩, ⟨#[97]⟩⟩, ⟨⟨#[58, 112, 97, 116, 104]⟩, ⟨#[47]⟩⟩]) rfl (by decide)); (case cB => simp); (case cW => (repeat' first | exact Below.refl _ _ | (with_reducible refine below_drew ?_))); intro A6 c6 w6 hF hb _; rw [Nat.zero_add, List.nil_append] at hF; have HF6 := Aside0.mk hF; have HBx6 := Aside0.mk hb; have HBK6 := Aside0.mk ((hb.block _ (blk_lt HBK5.out)).trans HBK5.out); clear hF hb)
      | (refine step_app (by first | rfl | (simp [Region.wanted]; done)) (.tmp 43) (.tmp 47) rfl w5 w5.heap.size A6 _ 1 c6 2 _ [⟨⟨#[58, 109, 101, 116, 104, 111, 100]⟩, ⟨#[71, 69, 84]⟩⟩] [⟨⟨#[58, 97, 117, 116, 104, 111, 114, 105, 116, 121]⟩, ⟨#[97]⟩⟩, ⟨⟨#[58, 112, 97, 116, 104]⟩, ⟨#[47]⟩⟩] rfl rfl HF6.out ?cC (by decide) ?cB HBx6.out ?_; (case cC => exact flds_of (w := w6) HBK6.out [.string ⟨#[58, 109, 101, 116, 104, 111, 100]⟩, .string ⟨#[71, 69, 84]⟩, .string ⟨#[58, 115, 99, 104, 101, 109, 101]⟩, .string ⟨#[104, 116, 116, 112]⟩] [⟨⟨#[58, 97, 117, 116, 104, 111, 114, 105, 116, 121]⟩, ⟨#[97]⟩⟩, ⟨⟨#[58, 112, 97, 116, 104]⟩, ⟨#[47]⟩⟩] [] rfl (by decide)); (case cB => exact HBx6.out.size); intro A7 c7 w7 hF hb _; have HF7 := Aside0.mk hF; have HBK7 := Aside0.mk ((hb.block _ (blk_lt HBK5.out)).trans HBK5.out); have HB7 := Aside0.mk (below_step HB5.out hb); clear hF hb HF6 HBx6 HBK6 HB5 HBK5)
      | (go_at_call 13; refine (HQm.out _ _ _ _ ?hc).mono ?_; (case hc => first | exact (HF4.out.drew.c (by decide)).1 | exact (HF4.out.c (by decide)).1); rintro e w5 ⟨rfl, hb⟩; have HBK5 := Aside0.mk ((hb.block _ (blk_lt HBK4.out)).trans HBK4.out); have HB5 := Aside0.mk (first_below HB4.out hb); clear hb HF4 HBK4 HB4)
        | (go_at_call 13; refine (HQo.out _ _ _ _ (HF7.out.c (by decide)).1).mono ?_; rintro e w8 ⟨rfl, hb⟩; have HBK8 := Aside0.mk ((hb.block _ (blk_lt HBK7.out)).trans HBK7.out); have HB8 := Aside0.mk (below_step HB7.out hb); clear hb HF7 HBK7 HB7)
        | (go_at_call 13; refine (HAL.out _ _ _ _ (HA.out _ _ HBK8.out)).mono ?_; rintro e w9 ⟨rfl, hb⟩; have HB9 := Aside0.mk (below_step HB8.out hb); clear hb HBK8 HB8))
    all_goals
      go_wp2
      go_ret
      exact ⟨rfl, HB9.out⟩
set_option maxHeartbeats 3200000 in
set_option maxRecDepth 20000 in
theorem lacks_1_true (which : Int) (w : World) (hq : (wrap64 (which.tmod 4 + 4)).tmod 4 = 1) : Calls Tryd.prog 4 #[.int .i64 which, .bool true] w fun e w' => e = .returned (.bool true) ∧ Below w.heap.size w w' := by
  have hlit : ¬ (4 : Int) = 0 := by decide
  have mixed : Tryd.prog.follows Departure.mixedOrders = true := by kernel_rfl
  have HA : Aside0 (∀ (W : World) (b : Nat), W.heap[b]? = some (.cells #[.string ⟨#[58, 109, 101, 116, 104, 111, 100]⟩, .string ⟨#[71, 69, 84]⟩, .string ⟨#[58, 115, 99, 104, 101, 109, 101]⟩, .string ⟨#[104, 116, 116, 112]⟩, .string ⟨#[58, 97, 117, 116, 104, 111, 114, 105, 116, 121]⟩, .string ⟨#[97]⟩, .string ⟨#[58, 112, 97, 116, 104]⟩, .string ⟨#[47]⟩] 26 (0, 0)) → k26.C W (some ⟨b, 0, none⟩) 4 aliveL) := ⟨fun W b h => flds_of h [] aliveL [] rfl (by decide)⟩
  have HAL := Aside0.mk (req_at (l := aliveL) (sized_lit (by kernel_rfl)) al_req)
  · have HQt := Aside0.mk (req_at (l := aliveL ++ [⟨⟨#[58, 115, 99, 104, 101, 109, 101]⟩, ⟨#[104, 116, 116, 112]⟩⟩]) (sized_lit (by kernel_rfl)) lk_two1)
    go_enter Tryd.func4, Tryd.ntmps4
    go_wp2_with (first
      | (go_at_call 11; refine (alive_c _).mono ?_; rintro e w1 ⟨rfl, hb⟩; have HB := Aside0.mk hb; clear hb))
    have hbk := heap_alloc_new w1 (.cells #[.string ⟨#[58, 109, 101, 116, 104, 111, 100]⟩, .string ⟨#[71, 69, 84]⟩, .string ⟨#[58, 115, 99, 104, 101, 109, 101]⟩, .string ⟨#[104, 116, 116, 112]⟩, .string ⟨#[58, 97, 117, 116, 104, 111, 114, 105, 116, 121]⟩, .string ⟨#[97]⟩, .string ⟨#[58, 112, 97, 116, 104]⟩, .string ⟨#[47]⟩] 26)
    have hB := below_alloc HB.out (.cells #[.string ⟨#[58, 109, 101, 116, 104, 111, 100]⟩, .string ⟨#[71, 69, 84]⟩, .string ⟨#[58, 115, 99, 104, 101, 109, 101]⟩, .string ⟨#[104, 116, 116, 112]⟩, .string ⟨#[58, 97, 117, 116, 104, 111, 114, 105, 116, 121]⟩, .string ⟨#[97]⟩, .string ⟨#[58, 112, 97, 116, 104]⟩, .string ⟨#[47]⟩] 26)
    clear HB
    generalize w1.alloc (.cells #[.string ⟨#[58, 109, 101, 116, 104, 111, 100]⟩, .string ⟨#[71, 69, 84]⟩, .string ⟨#[58, 115, 99, 104, 101, 109, 101]⟩, .string ⟨#[104, 116, 116, 112]⟩, .string ⟨#[58, 97, 117, 116, 104, 111, 114, 105, 116, 121]⟩, .string ⟨#[97]⟩, .string ⟨#[58, 112, 97, 116, 104]⟩, .string ⟨#[47]⟩] 26) = W2 at hbk hB ⊢
    have HB2 := Aside0.mk hB
    have HBK := Aside0.mk hbk
    have k0 := cells_of_heap hbk 2 (.string ⟨#[58, 115, 99, 104, 101, 109, 101]⟩) rfl
    have k1 := cells_of_heap hbk 3 (.string ⟨#[104, 116, 116, 112]⟩) rfl
    clear hB hbk
    go_region_law_o (first
      | (refine step_app (by simp [Region.wanted]) (.const (.slice none 0 0)) (.tmp 20) rfl W2 W2.heap.size none (some ⟨w1.heap.size, 0, none⟩) 0 0 4 4 [] aliveL rfl rfl (FR.nil _ _) ?cC (by decide) ?cB ?cW ?_; (case cC => (repeat' first | exact (HA.out _ _ HBK.out) | (with_reducible refine Kd.C_alloc ?_ _) | (with_reducible refine Kd.C_drew ?_))); (case cB => simp); (case cW => (repeat' first | exact Below.refl _ _ | (with_reducible refine below_alloc ?_ _) | (with_reducible refine below_drew ?_))); intro A3 c3 w3 hF hb hg; rw [Nat.zero_add, List.nil_append] at hF; have hbk := (hb.block _ (blk_lt HBK.out)).trans HBK.out; have k0 := cells_of_heap hbk 2 (.string ⟨#[58, 115, 99, 104, 101, 109, 101]⟩) rfl; have k1 := cells_of_heap hbk 3 (.string ⟨#[104, 116, 116, 112]⟩) rfl; have HF3 := Aside0.mk hF; have HB3 := Aside0.mk hb; have HG3 := Aside0.mk hg; clear hF hb hg hbk)
      | (refine step_app (by simp [Region.wanted]) (.tmp 21) (.tmp 26) rfl W2 W2.heap.size A3 _ 4 c3 1 1 aliveL [⟨⟨#[58, 115, 99, 104, 101, 109, 101]⟩, ⟨#[104, 116, 116, 112]⟩⟩] rfl rfl ?cF ?cC (by decide) ?cB ?cW ?_; (case cF => (repeat' first | exact HF3.out | (with_reducible refine FR.alloc ?_ _) | (with_reducible refine FR.drew ?_))); (case cC => first | exact lit1' (by simp) _ _ | exact c_grown (w := (W2.alloc (.cells #[.string ⟨#[58, 115, 99, 104, 101, 109, 101]⟩, .string ⟨#[104, 116, 116, 112]⟩] 26)).drew) (l := [⟨⟨#[58, 115, 99, 104, 101, 109, 101]⟩, ⟨#[104, 116, 116, 112]⟩⟩]) (heap_alloc_new W2 _) HG3.out (fun e => by cases e) (by simp) rfl | exact c_grown (w := W2.drew.alloc (.cells #[.string ⟨#[58, 115, 99, 104, 101, 109, 101]⟩, .string ⟨#[104, 116, 116, 112]⟩] 26)) (l := [⟨⟨#[58, 115, 99, 104, 101, 109, 101]⟩, ⟨#[104, 116, 116, 112]⟩⟩]) (heap_alloc_new W2.drew _) HG3.out (fun e => by cases e) (by simp) rfl); (case cB => have := HB3.out.size; simp; omega); (case cW => (repeat' first | exact HB3.out | (with_reducible refine Below.alloc ?_ ?_ _) | (with_reducible refine below_drew ?_)); all_goals (have := HB3.out.size; simp; omega)); intro A4 c4 w4 hF hb _; have HF4 := Aside0.mk hF; have HB4 := Aside0.mk (below_step HB2.out hb); clear hF hb HF3 HB3 HG3)
      | (go_simp; go_wp2_with (first
        | (go_at_call 13; refine (HQt.out _ _ _ _ (HF4.out.c (by decide)).1).mono ?_; rintro e w5 ⟨rfl, hb⟩; have HB5 := Aside0.mk (below_step HB4.out hb); clear hb HF4 HB4))))
    all_goals
      go_wp2
      go_ret
      exact ⟨rfl, HB5.out⟩
set_option maxHeartbeats 3200000 in
set_option maxRecDepth 20000 in
theorem lacks_2_false (which : Int) (w : World) (hq : (wrap64 (which.tmod 4 + 4)).tmod 4 = 2) : Calls Tryd.prog 4 #[.int .i64 which, .bool false] w fun e w' => e = .returned (.bool true) ∧ Below w.heap.size w w' := by
  have hlit : ¬ (4 : Int) = 0 := by decide
  have mixed : Tryd.prog.follows Departure.mixedOrders = true := by kernel_rfl
  have HA : Aside0 (∀ (W : World) (b : Nat), W.heap[b]? = some (.cells #[.string ⟨#[58, 109, 101, 116, 104, 111, 100]⟩, .string ⟨#[71, 69, 84]⟩, .string ⟨#[58, 115, 99, 104, 101, 109, 101]⟩, .string ⟨#[104, 116, 116, 112]⟩, .string ⟨#[58, 97, 117, 116, 104, 111, 114, 105, 116, 121]⟩, .string ⟨#[97]⟩, .string ⟨#[58, 112, 97, 116, 104]⟩, .string ⟨#[47]⟩] 26 (0, 0)) → k26.C W (some ⟨b, 0, none⟩) 4 aliveL) := ⟨fun W b h => flds_of h [] aliveL [] rfl (by decide)⟩
  have HAL := Aside0.mk (req_at (l := aliveL) (sized_lit (by kernel_rfl)) al_req)
  · have HQm := Aside0.mk (req_at (l := aliveL.set 2 ⟨⟨#[58, 97, 117, 116, 104, 111, 114, 105, 116, 121]⟩, ⟨#[]⟩⟩) (sized_lit (by kernel_rfl)) lk_no2)
    have HQo := Aside0.mk (req_at (l := [⟨⟨#[58, 109, 101, 116, 104, 111, 100]⟩, ⟨#[71, 69, 84]⟩⟩, ⟨⟨#[58, 115, 99, 104, 101, 109, 101]⟩, ⟨#[104, 116, 116, 112]⟩⟩] ++ [⟨⟨#[58, 112, 97, 116, 104]⟩, ⟨#[47]⟩⟩]) (sized_lit (by kernel_rfl)) lk_out2)
    go_enter Tryd.func4, Tryd.ntmps4
    go_wp2_with (first
      | (go_at_call 11; refine (alive_c _).mono ?_; rintro e w1 ⟨rfl, hb⟩; have HB := Aside0.mk hb; clear hb)
      | ((with_reducible refine gate_builtin (b := .append) (xs := #[.const (.slice none 0 0), .tmp 30]) rfl ?_); at_builtin; refine list_app rfl (.const (.slice none 0 0)) (.tmp 30) rfl (w1.alloc (.cells #[.string ⟨#[58, 109, 101, 116, 104, 111, 100]⟩, .string ⟨#[71, 69, 84]⟩, .string ⟨#[58, 115, 99, 104, 101, 109, 101]⟩, .string ⟨#[104, 116, 116, 112]⟩, .string ⟨#[58, 97, 117, 116, 104, 111, 114, 105, 116, 121]⟩, .string ⟨#[97]⟩, .string ⟨#[58, 112, 97, 116, 104]⟩, .string ⟨#[47]⟩] 26)) (w1.heap.size + 1) none _ 0 0 4 4 [] aliveL rfl rfl (FR.nil _ _) (HA.out _ _ (heap_alloc_new w1 _)) (by decide) (by simp) (Below.refl _ _) ?_; intro A3 c3 w3 hF hb _; rw [Nat.zero_add, List.nil_append] at hF; obtain ⟨g, cur, rfl, hg, hh, hnc, _, hcs, _⟩ := hF.some (by decide); have hbk := (hb.block w1.heap.size (Nat.lt_succ_self _)).trans (heap_alloc_new w1 _); have HB3 := Aside0.mk ((below_alloc HB.out (.cells #[.string ⟨#[58, 109, 101, 116, 104, 111, 100]⟩, .string ⟨#[71, 69, 84]⟩, .string ⟨#[58, 115, 99, 104, 101, 109, 101]⟩, .string ⟨#[104, 116, 116, 112]⟩, .string ⟨#[58, 97, 117, 116, 104, 111, 114, 105, 116, 121]⟩, .string ⟨#[97]⟩, .string ⟨#[58, 112, 97, 116, 104]⟩, .string ⟨#[47]⟩] 26)).trans (hb.mono (Nat.le_succ_of_le HB.out.size))); have HBK := Aside0.mk hbk; have HF3 := Aside0.mk hF; have HL := Aside0.mk HB.out.size; have HG := Aside0.mk (And.intro hg (blk_lt hbk)); obtain ⟨u, f0, f1⟩ := cell_own hh (i := 5) (by rw [hcs]; omega); clear hb hbk hF HB hh hcs hnc hg))
    have HF4 := Aside0.mk (HF3.out.put1 2 ⟨⟨#[58, 97, 117, 116, 104, 111, 114, 105, 116, 121]⟩, ⟨#[97]⟩⟩ rfl ⟨#[]⟩)
    have HBK4 := Aside0.mk ((Below.heap_setCell w3 ⟨g, 5, none⟩ (.string ⟨#[]⟩) w1.heap.size (by have := HG.out.1; simp; omega)).trans HBK.out)
    have HB4 := Aside0.mk (HB3.out.setCell (p := ⟨g, 5, none⟩) (Nat.le_trans HL.out (Nat.le_trans (Nat.le_succ _) HG.out.1)) (.string ⟨#[]⟩))
    clear f0 f1 HF3 HBK HB3
    obtain ⟨i0, hi0, _, hsz0, _⟩ := info_parts info26
    have hc1 : ∀ W : World, (Instr.slice 27 (.slice (some ⟨w1.heap.size, 0, none⟩) 4 4) none (some (.int .i64 2)) none).run Tryd.prog W = .ok (.slice (some ⟨w1.heap.size, 0, none⟩) 2 4) W := cut_to (P := Tryd.prog) 27 26 .i64 Tryd.underlying27 hi0 (some ⟨w1.heap.size, 0, none⟩) 4 4 2 (by decide) (by decide) (by decide)
    have hc2 : ∀ W : World, (Instr.slice 27 (.slice (some ⟨w1.heap.size, 0, none⟩) 4 4) (some (.int .i64 3)) none none).run Tryd.prog W = .ok (.slice (some ⟨w1.heap.size, 6, none⟩) 1 1) W := cut_from (P := Tryd.prog) 27 26 .i64 Tryd.underlying27 hi0 2 hsz0 (some ⟨w1.heap.size, 0, none⟩) 4 4 3 (by decide) (by decide)
    clear hi0 hsz0
    have hs1 : IntKind.i64.wrap (2 + 1) = 3 := by decide
    have hs2 : IntKind.i64.wrap 3 = 3 := by decide
    have hs3 : wrap64 (2 + 1) = 3 := w64_in (2 + 1) (by decide)
    have hs4 : wrap64 3 = 3 := w64_in 3 (by decide)
    generalize w3.setCell ⟨g, 5, none⟩ (.string ⟨#[]⟩) = w4 at HF4 HBK4 HB4 ⊢
    go_region_held_law (fun _ => True) (trivial) (first
      | (refine step_app (by first | rfl | (simp [Region.wanted]; done)) (.const (.slice none 0 0)) (.tmp 42) rfl w5 w5.heap.size none _ 0 0 2 4 [] [⟨⟨#[58, 109, 101, 116, 104, 111, 100]⟩, ⟨#[71, 69, 84]⟩⟩, ⟨⟨#[58, 115, 99, 104, 101, 109, 101]⟩, ⟨#[104, 116, 116, 112]⟩⟩] rfl rfl (FR.nil _ _) ?cC (by decide) ?cB ?cW ?_; (case cC => exact flds_of (w := w5) HBK5.out [] [⟨⟨#[58, 109, 101, 116, 104, 111, 100]⟩, ⟨#[71, 69, 84]⟩⟩, ⟨⟨#[58, 115, 99, 104, 101, 109, 101]⟩, ⟨#[104, 116, 116, 112]⟩⟩] (fcells [⟨⟨#[58, 97, 117, 116, 104, 111, 114, 105, 116, 121]⟩, ⟨#[97]⟩⟩, ⟨⟨#[58, 112, 97, 116, 104]⟩, ⟨#[47]⟩⟩]) rfl (by decide)); (case cB => simp); (case cW => (repeat' first | exact Below.refl _ _ | (with_reducible refine below_drew ?_))); intro A6 c6 w6 hF hb _; rw [Nat.zero_add, List.nil_append] at hF; have HF6 := Aside0.mk hF; have HBx6 := Aside0.mk hb; have HBK6 := Aside0.mk ((hb.block _ (blk_lt HBK5.out)).trans HBK5.out); clear hF hb)
      | (refine step_app (by first | rfl | (simp [Region.wanted]; done)) (.tmp 43) (.tmp 47) rfl w5 w5.heap.size A6 _ 2 c6 1 _ [⟨⟨#[58, 109, 101, 116, 104, 111, 100]⟩, ⟨#[71, 69, 84]⟩⟩, ⟨⟨#[58, 115, 99, 104, 101, 109, 101]⟩, ⟨#[104, 116, 116, 112]⟩⟩] [⟨⟨#[58, 112, 97, 116, 104]⟩, ⟨#[47]⟩⟩] rfl rfl HF6.out ?cC (by decide) ?cB HBx6.out ?_; (case cC => exact flds_of (w := w6) HBK6.out [.string ⟨#[58, 109, 101, 116, 104, 111, 100]⟩, .string ⟨#[71, 69, 84]⟩, .string ⟨#[58, 115, 99, 104, 101, 109, 101]⟩, .string ⟨#[104, 116, 116, 112]⟩, .string ⟨#[58, 97, 117, 116, 104, 111, 114, 105, 116, 121]⟩, .string ⟨#[97]⟩] [⟨⟨#[58, 112, 97, 116, 104]⟩, ⟨#[47]⟩⟩] [] rfl (by decide)); (case cB => exact HBx6.out.size); intro A7 c7 w7 hF hb _; have HF7 := Aside0.mk hF; have HBK7 := Aside0.mk ((hb.block _ (blk_lt HBK5.out)).trans HBK5.out); have HB7 := Aside0.mk (below_step HB5.out hb); clear hF hb HF6 HBx6 HBK6 HB5 HBK5)
      | (go_at_call 13; refine (HQm.out _ _ _ _ ?hc).mono ?_; (case hc => first | exact (HF4.out.drew.c (by decide)).1 | exact (HF4.out.c (by decide)).1); rintro e w5 ⟨rfl, hb⟩; have HBK5 := Aside0.mk ((hb.block _ (blk_lt HBK4.out)).trans HBK4.out); have HB5 := Aside0.mk (first_below HB4.out hb); clear hb HF4 HBK4 HB4)
        | (go_at_call 13; refine (HQo.out _ _ _ _ (HF7.out.c (by decide)).1).mono ?_; rintro e w8 ⟨rfl, hb⟩; have HBK8 := Aside0.mk ((hb.block _ (blk_lt HBK7.out)).trans HBK7.out); have HB8 := Aside0.mk (below_step HB7.out hb); clear hb HF7 HBK7 HB7)
        | (go_at_call 13; refine (HAL.out _ _ _ _ (HA.out _ _ HBK8.out)).mono ?_; rintro e w9 ⟨rfl, hb⟩; have HB9 := Aside0.mk (below_step HB8.out hb); clear hb HBK8 HB8))
    all_goals
      go_wp2
      go_ret
      exact ⟨rfl, HB9.out⟩
set_option maxHeartbeats 3200000 in
set_option maxRecDepth 20000 in
theorem lacks_2_true (which : Int) (w : World) (hq : (wrap64 (which.tmod 4 + 4)).tmod 4 = 2) : Calls Tryd.prog 4 #[.int .i64 which, .bool true] w fun e w' => e = .returned (.bool true) ∧ Below w.heap.size w w' := by
  have hlit : ¬ (4 : Int) = 0 := by decide
  have mixed : Tryd.prog.follows Departure.mixedOrders = true := by kernel_rfl
  have HA : Aside0 (∀ (W : World) (b : Nat), W.heap[b]? = some (.cells #[.string ⟨#[58, 109, 101, 116, 104, 111, 100]⟩, .string ⟨#[71, 69, 84]⟩, .string ⟨#[58, 115, 99, 104, 101, 109, 101]⟩, .string ⟨#[104, 116, 116, 112]⟩, .string ⟨#[58, 97, 117, 116, 104, 111, 114, 105, 116, 121]⟩, .string ⟨#[97]⟩, .string ⟨#[58, 112, 97, 116, 104]⟩, .string ⟨#[47]⟩] 26 (0, 0)) → k26.C W (some ⟨b, 0, none⟩) 4 aliveL) := ⟨fun W b h => flds_of h [] aliveL [] rfl (by decide)⟩
  have HAL := Aside0.mk (req_at (l := aliveL) (sized_lit (by kernel_rfl)) al_req)
  · have HQt := Aside0.mk (req_at (l := aliveL ++ [⟨⟨#[58, 97, 117, 116, 104, 111, 114, 105, 116, 121]⟩, ⟨#[97]⟩⟩]) (sized_lit (by kernel_rfl)) lk_two2)
    go_enter Tryd.func4, Tryd.ntmps4
    go_wp2_with (first
      | (go_at_call 11; refine (alive_c _).mono ?_; rintro e w1 ⟨rfl, hb⟩; have HB := Aside0.mk hb; clear hb))
    have hbk := heap_alloc_new w1 (.cells #[.string ⟨#[58, 109, 101, 116, 104, 111, 100]⟩, .string ⟨#[71, 69, 84]⟩, .string ⟨#[58, 115, 99, 104, 101, 109, 101]⟩, .string ⟨#[104, 116, 116, 112]⟩, .string ⟨#[58, 97, 117, 116, 104, 111, 114, 105, 116, 121]⟩, .string ⟨#[97]⟩, .string ⟨#[58, 112, 97, 116, 104]⟩, .string ⟨#[47]⟩] 26)
    have hB := below_alloc HB.out (.cells #[.string ⟨#[58, 109, 101, 116, 104, 111, 100]⟩, .string ⟨#[71, 69, 84]⟩, .string ⟨#[58, 115, 99, 104, 101, 109, 101]⟩, .string ⟨#[104, 116, 116, 112]⟩, .string ⟨#[58, 97, 117, 116, 104, 111, 114, 105, 116, 121]⟩, .string ⟨#[97]⟩, .string ⟨#[58, 112, 97, 116, 104]⟩, .string ⟨#[47]⟩] 26)
    clear HB
    generalize w1.alloc (.cells #[.string ⟨#[58, 109, 101, 116, 104, 111, 100]⟩, .string ⟨#[71, 69, 84]⟩, .string ⟨#[58, 115, 99, 104, 101, 109, 101]⟩, .string ⟨#[104, 116, 116, 112]⟩, .string ⟨#[58, 97, 117, 116, 104, 111, 114, 105, 116, 121]⟩, .string ⟨#[97]⟩, .string ⟨#[58, 112, 97, 116, 104]⟩, .string ⟨#[47]⟩] 26) = W2 at hbk hB ⊢
    have HB2 := Aside0.mk hB
    have HBK := Aside0.mk hbk
    have k0 := cells_of_heap hbk 4 (.string ⟨#[58, 97, 117, 116, 104, 111, 114, 105, 116, 121]⟩) rfl
    have k1 := cells_of_heap hbk 5 (.string ⟨#[97]⟩) rfl
    clear hB hbk
    go_region_law_o (first
      | (refine step_app (by simp [Region.wanted]) (.const (.slice none 0 0)) (.tmp 20) rfl W2 W2.heap.size none (some ⟨w1.heap.size, 0, none⟩) 0 0 4 4 [] aliveL rfl rfl (FR.nil _ _) ?cC (by decide) ?cB ?cW ?_; (case cC => (repeat' first | exact (HA.out _ _ HBK.out) | (with_reducible refine Kd.C_alloc ?_ _) | (with_reducible refine Kd.C_drew ?_))); (case cB => simp); (case cW => (repeat' first | exact Below.refl _ _ | (with_reducible refine below_alloc ?_ _) | (with_reducible refine below_drew ?_))); intro A3 c3 w3 hF hb hg; rw [Nat.zero_add, List.nil_append] at hF; have hbk := (hb.block _ (blk_lt HBK.out)).trans HBK.out; have k0 := cells_of_heap hbk 4 (.string ⟨#[58, 97, 117, 116, 104, 111, 114, 105, 116, 121]⟩) rfl; have k1 := cells_of_heap hbk 5 (.string ⟨#[97]⟩) rfl; have HF3 := Aside0.mk hF; have HB3 := Aside0.mk hb; have HG3 := Aside0.mk hg; clear hF hb hg hbk)
      | (refine step_app (by simp [Region.wanted]) (.tmp 21) (.tmp 26) rfl W2 W2.heap.size A3 _ 4 c3 1 1 aliveL [⟨⟨#[58, 97, 117, 116, 104, 111, 114, 105, 116, 121]⟩, ⟨#[97]⟩⟩] rfl rfl ?cF ?cC (by decide) ?cB ?cW ?_; (case cF => (repeat' first | exact HF3.out | (with_reducible refine FR.alloc ?_ _) | (with_reducible refine FR.drew ?_))); (case cC => first | exact lit1' (by simp) _ _ | exact c_grown (w := (W2.alloc (.cells #[.string ⟨#[58, 97, 117, 116, 104, 111, 114, 105, 116, 121]⟩, .string ⟨#[97]⟩] 26)).drew) (l := [⟨⟨#[58, 97, 117, 116, 104, 111, 114, 105, 116, 121]⟩, ⟨#[97]⟩⟩]) (heap_alloc_new W2 _) HG3.out (fun e => by cases e) (by simp) rfl | exact c_grown (w := W2.drew.alloc (.cells #[.string ⟨#[58, 97, 117, 116, 104, 111, 114, 105, 116, 121]⟩, .string ⟨#[97]⟩] 26)) (l := [⟨⟨#[58, 97, 117, 116, 104, 111, 114, 105, 116, 121]⟩, ⟨#[97]⟩⟩]) (heap_alloc_new W2.drew _) HG3.out (fun e => by cases e) (by simp) rfl); (case cB => have := HB3.out.size; simp; omega); (case cW => (repeat' first | exact HB3.out | (with_reducible refine Below.alloc ?_ ?_ _) | (with_reducible refine below_drew ?_)); all_goals (have := HB3.out.size; simp; omega)); intro A4 c4 w4 hF hb _; have HF4 := Aside0.mk hF; have HB4 := Aside0.mk (below_step HB2.out hb); clear hF hb HF3 HB3 HG3)
      | (go_simp; go_wp2_with (first
        | (go_at_call 13; refine (HQt.out _ _ _ _ (HF4.out.c (by decide)).1).mono ?_; rintro e w5 ⟨rfl, hb⟩; have HB5 := Aside0.mk (below_step HB4.out hb); clear hb HF4 HB4))))
    all_goals
      go_wp2
      go_ret
      exact ⟨rfl, HB5.out⟩
set_option maxHeartbeats 3200000 in
set_option maxRecDepth 20000 in
theorem lacks_3_false (which : Int) (w : World) (hq : (wrap64 (which.tmod 4 + 4)).tmod 4 = 3) : Calls Tryd.prog 4 #[.int .i64 which, .bool false] w fun e w' => e = .returned (.bool true) ∧ Below w.heap.size w w' := by
  have hlit : ¬ (4 : Int) = 0 := by decide
  have mixed : Tryd.prog.follows Departure.mixedOrders = true := by kernel_rfl
  have HA : Aside0 (∀ (W : World) (b : Nat), W.heap[b]? = some (.cells #[.string ⟨#[58, 109, 101, 116, 104, 111, 100]⟩, .string ⟨#[71, 69, 84]⟩, .string ⟨#[58, 115, 99, 104, 101, 109, 101]⟩, .string ⟨#[104, 116, 116, 112]⟩, .string ⟨#[58, 97, 117, 116, 104, 111, 114, 105, 116, 121]⟩, .string ⟨#[97]⟩, .string ⟨#[58, 112, 97, 116, 104]⟩, .string ⟨#[47]⟩] 26 (0, 0)) → k26.C W (some ⟨b, 0, none⟩) 4 aliveL) := ⟨fun W b h => flds_of h [] aliveL [] rfl (by decide)⟩
  have HAL := Aside0.mk (req_at (l := aliveL) (sized_lit (by kernel_rfl)) al_req)
  · have HQm := Aside0.mk (req_at (l := aliveL.set 3 ⟨⟨#[58, 112, 97, 116, 104]⟩, ⟨#[]⟩⟩) (sized_lit (by kernel_rfl)) lk_no3)
    have HQo := Aside0.mk (req_at (l := [⟨⟨#[58, 109, 101, 116, 104, 111, 100]⟩, ⟨#[71, 69, 84]⟩⟩, ⟨⟨#[58, 115, 99, 104, 101, 109, 101]⟩, ⟨#[104, 116, 116, 112]⟩⟩, ⟨⟨#[58, 97, 117, 116, 104, 111, 114, 105, 116, 121]⟩, ⟨#[97]⟩⟩] ++ []) (sized_lit (by kernel_rfl)) lk_out3)
    go_enter Tryd.func4, Tryd.ntmps4
    go_wp2_with (first
      | (go_at_call 11; refine (alive_c _).mono ?_; rintro e w1 ⟨rfl, hb⟩; have HB := Aside0.mk hb; clear hb)
      | ((with_reducible refine gate_builtin (b := .append) (xs := #[.const (.slice none 0 0), .tmp 30]) rfl ?_); at_builtin; refine list_app rfl (.const (.slice none 0 0)) (.tmp 30) rfl (w1.alloc (.cells #[.string ⟨#[58, 109, 101, 116, 104, 111, 100]⟩, .string ⟨#[71, 69, 84]⟩, .string ⟨#[58, 115, 99, 104, 101, 109, 101]⟩, .string ⟨#[104, 116, 116, 112]⟩, .string ⟨#[58, 97, 117, 116, 104, 111, 114, 105, 116, 121]⟩, .string ⟨#[97]⟩, .string ⟨#[58, 112, 97, 116, 104]⟩, .string ⟨#[47]⟩] 26)) (w1.heap.size + 1) none _ 0 0 4 4 [] aliveL rfl rfl (FR.nil _ _) (HA.out _ _ (heap_alloc_new w1 _)) (by decide) (by simp) (Below.refl _ _) ?_; intro A3 c3 w3 hF hb _; rw [Nat.zero_add, List.nil_append] at hF; obtain ⟨g, cur, rfl, hg, hh, hnc, _, hcs, _⟩ := hF.some (by decide); have hbk := (hb.block w1.heap.size (Nat.lt_succ_self _)).trans (heap_alloc_new w1 _); have HB3 := Aside0.mk ((below_alloc HB.out (.cells #[.string ⟨#[58, 109, 101, 116, 104, 111, 100]⟩, .string ⟨#[71, 69, 84]⟩, .string ⟨#[58, 115, 99, 104, 101, 109, 101]⟩, .string ⟨#[104, 116, 116, 112]⟩, .string ⟨#[58, 97, 117, 116, 104, 111, 114, 105, 116, 121]⟩, .string ⟨#[97]⟩, .string ⟨#[58, 112, 97, 116, 104]⟩, .string ⟨#[47]⟩] 26)).trans (hb.mono (Nat.le_succ_of_le HB.out.size))); have HBK := Aside0.mk hbk; have HF3 := Aside0.mk hF; have HL := Aside0.mk HB.out.size; have HG := Aside0.mk (And.intro hg (blk_lt hbk)); obtain ⟨u, f0, f1⟩ := cell_own hh (i := 7) (by rw [hcs]; omega); clear hb hbk hF HB hh hcs hnc hg))
    have HF4 := Aside0.mk (HF3.out.put1 3 ⟨⟨#[58, 112, 97, 116, 104]⟩, ⟨#[47]⟩⟩ rfl ⟨#[]⟩)
    have HBK4 := Aside0.mk ((Below.heap_setCell w3 ⟨g, 7, none⟩ (.string ⟨#[]⟩) w1.heap.size (by have := HG.out.1; simp; omega)).trans HBK.out)
    have HB4 := Aside0.mk (HB3.out.setCell (p := ⟨g, 7, none⟩) (Nat.le_trans HL.out (Nat.le_trans (Nat.le_succ _) HG.out.1)) (.string ⟨#[]⟩))
    clear f0 f1 HF3 HBK HB3
    obtain ⟨i0, hi0, _, hsz0, _⟩ := info_parts info26
    have hc1 : ∀ W : World, (Instr.slice 27 (.slice (some ⟨w1.heap.size, 0, none⟩) 4 4) none (some (.int .i64 3)) none).run Tryd.prog W = .ok (.slice (some ⟨w1.heap.size, 0, none⟩) 3 4) W := cut_to (P := Tryd.prog) 27 26 .i64 Tryd.underlying27 hi0 (some ⟨w1.heap.size, 0, none⟩) 4 4 3 (by decide) (by decide) (by decide)
    have hc2 : ∀ W : World, (Instr.slice 27 (.slice (some ⟨w1.heap.size, 0, none⟩) 4 4) (some (.int .i64 4)) none none).run Tryd.prog W = .ok (.slice (some ⟨w1.heap.size, 0, none⟩) 0 0) W := cut_from (P := Tryd.prog) 27 26 .i64 Tryd.underlying27 hi0 2 hsz0 (some ⟨w1.heap.size, 0, none⟩) 4 4 4 (by decide) (by decide)
    clear hi0 hsz0
    have hs1 : IntKind.i64.wrap (3 + 1) = 4 := by decide
    have hs2 : IntKind.i64.wrap 4 = 4 := by decide
    have hs3 : wrap64 (3 + 1) = 4 := w64_in (3 + 1) (by decide)
    have hs4 : wrap64 4 = 4 := w64_in 4 (by decide)
    generalize w3.setCell ⟨g, 7, none⟩ (.string ⟨#[]⟩) = w4 at HF4 HBK4 HB4 ⊢
    go_region_held_law (fun _ => True) (trivial) (first
      | (refine step_app (by first | rfl | (simp [Region.wanted]; done)) (.const (.slice none 0 0)) (.tmp 42) rfl w5 w5.heap.size none _ 0 0 3 4 [] [⟨⟨#[58, 109, 101, 116, 104, 111, 100]⟩, ⟨#[71, 69, 84]⟩⟩, ⟨⟨#[58, 115, 99, 104, 101, 109, 101]⟩, ⟨#[104, 116, 116, 112]⟩⟩, ⟨⟨#[58, 97, 117, 116, 104, 111, 114, 105, 116, 121]⟩, ⟨#[97]⟩⟩] rfl rfl (FR.nil _ _) ?cC (by decide) ?cB ?cW ?_; (case cC => exact flds_of (w := w5) HBK5.out [] [⟨⟨#[58, 109, 101, 116, 104, 111, 100]⟩, ⟨#[71, 69, 84]⟩⟩, ⟨⟨#[58, 115, 99, 104, 101, 109, 101]⟩, ⟨#[104, 116, 116, 112]⟩⟩, ⟨⟨#[58, 97, 117, 116, 104, 111, 114, 105, 116, 121]⟩, ⟨#[97]⟩⟩] (fcells [⟨⟨#[58, 112, 97, 116, 104]⟩, ⟨#[47]⟩⟩]) rfl (by decide)); (case cB => simp); (case cW => (repeat' first | exact Below.refl _ _ | (with_reducible refine below_drew ?_))); intro A6 c6 w6 hF hb _; rw [Nat.zero_add, List.nil_append] at hF; have HF6 := Aside0.mk hF; have HBx6 := Aside0.mk hb; have HBK6 := Aside0.mk ((hb.block _ (blk_lt HBK5.out)).trans HBK5.out); clear hF hb)
      | (refine step_app (by first | rfl | (simp [Region.wanted]; done)) (.tmp 43) (.tmp 47) rfl w5 w5.heap.size A6 _ 3 c6 0 _ [⟨⟨#[58, 109, 101, 116, 104, 111, 100]⟩, ⟨#[71, 69, 84]⟩⟩, ⟨⟨#[58, 115, 99, 104, 101, 109, 101]⟩, ⟨#[104, 116, 116, 112]⟩⟩, ⟨⟨#[58, 97, 117, 116, 104, 111, 114, 105, 116, 121]⟩, ⟨#[97]⟩⟩] [] rfl rfl HF6.out ?cC (by decide) ?cB HBx6.out ?_; (case cC => exact ⟨rfl, Nat.zero_le _, fun h => absurd h (Nat.lt_irrefl _)⟩); (case cB => exact HBx6.out.size); intro A7 c7 w7 hF hb _; have HF7 := Aside0.mk hF; have HBK7 := Aside0.mk ((hb.block _ (blk_lt HBK5.out)).trans HBK5.out); have HB7 := Aside0.mk (below_step HB5.out hb); clear hF hb HF6 HBx6 HBK6 HB5 HBK5)
      | (go_at_call 13; refine (HQm.out _ _ _ _ ?hc).mono ?_; (case hc => first | exact (HF4.out.drew.c (by decide)).1 | exact (HF4.out.c (by decide)).1); rintro e w5 ⟨rfl, hb⟩; have HBK5 := Aside0.mk ((hb.block _ (blk_lt HBK4.out)).trans HBK4.out); have HB5 := Aside0.mk (first_below HB4.out hb); clear hb HF4 HBK4 HB4)
        | (go_at_call 13; refine (HQo.out _ _ _ _ (HF7.out.c (by decide)).1).mono ?_; rintro e w8 ⟨rfl, hb⟩; have HBK8 := Aside0.mk ((hb.block _ (blk_lt HBK7.out)).trans HBK7.out); have HB8 := Aside0.mk (below_step HB7.out hb); clear hb HF7 HBK7 HB7)
        | (go_at_call 13; refine (HAL.out _ _ _ _ (HA.out _ _ HBK8.out)).mono ?_; rintro e w9 ⟨rfl, hb⟩; have HB9 := Aside0.mk (below_step HB8.out hb); clear hb HBK8 HB8))
    all_goals
      go_wp2
      go_ret
      exact ⟨rfl, HB9.out⟩
set_option maxHeartbeats 3200000 in
set_option maxRecDepth 20000 in
theorem lacks_3_true (which : Int) (w : World) (hq : (wrap64 (which.tmod 4 + 4)).tmod 4 = 3) : Calls Tryd.prog 4 #[.int .i64 which, .bool true] w fun e w' => e = .returned (.bool true) ∧ Below w.heap.size w w' := by
  have hlit : ¬ (4 : Int) = 0 := by decide
  have mixed : Tryd.prog.follows Departure.mixedOrders = true := by kernel_rfl
  have HA : Aside0 (∀ (W : World) (b : Nat), W.heap[b]? = some (.cells #[.string ⟨#[58, 109, 101, 116, 104, 111, 100]⟩, .string ⟨#[71, 69, 84]⟩, .string ⟨#[58, 115, 99, 104, 101, 109, 101]⟩, .string ⟨#[104, 116, 116, 112]⟩, .string ⟨#[58, 97, 117, 116, 104, 111, 114, 105, 116, 121]⟩, .string ⟨#[97]⟩, .string ⟨#[58, 112, 97, 116, 104]⟩, .string ⟨#[47]⟩] 26 (0, 0)) → k26.C W (some ⟨b, 0, none⟩) 4 aliveL) := ⟨fun W b h => flds_of h [] aliveL [] rfl (by decide)⟩
  have HAL := Aside0.mk (req_at (l := aliveL) (sized_lit (by kernel_rfl)) al_req)
  · have HQt := Aside0.mk (req_at (l := aliveL ++ [⟨⟨#[58, 112, 97, 116, 104]⟩, ⟨#[47]⟩⟩]) (sized_lit (by kernel_rfl)) lk_two3)
    go_enter Tryd.func4, Tryd.ntmps4
    go_wp2_with (first
      | (go_at_call 11; refine (alive_c _).mono ?_; rintro e w1 ⟨rfl, hb⟩; have HB := Aside0.mk hb; clear hb))
    have hbk := heap_alloc_new w1 (.cells #[.string ⟨#[58, 109, 101, 116, 104, 111, 100]⟩, .string ⟨#[71, 69, 84]⟩, .string ⟨#[58, 115, 99, 104, 101, 109, 101]⟩, .string ⟨#[104, 116, 116, 112]⟩, .string ⟨#[58, 97, 117, 116, 104, 111, 114, 105, 116, 121]⟩, .string ⟨#[97]⟩, .string ⟨#[58, 112, 97, 116, 104]⟩, .string ⟨#[47]⟩] 26)
    have hB := below_alloc HB.out (.cells #[.string ⟨#[58, 109, 101, 116, 104, 111, 100]⟩, .string ⟨#[71, 69, 84]⟩, .string ⟨#[58, 115, 99, 104, 101, 109, 101]⟩, .string ⟨#[104, 116, 116, 112]⟩, .string ⟨#[58, 97, 117, 116, 104, 111, 114, 105, 116, 121]⟩, .string ⟨#[97]⟩, .string ⟨#[58, 112, 97, 116, 104]⟩, .string ⟨#[47]⟩] 26)
    clear HB
    generalize w1.alloc (.cells #[.string ⟨#[58, 109, 101, 116, 104, 111, 100]⟩, .string ⟨#[71, 69, 84]⟩, .string ⟨#[58, 115, 99, 104, 101, 109, 101]⟩, .string ⟨#[104, 116, 116, 112]⟩, .string ⟨#[58, 97, 117, 116, 104, 111, 114, 105, 116, 121]⟩, .string ⟨#[97]⟩, .string ⟨#[58, 112, 97, 116, 104]⟩, .string ⟨#[47]⟩] 26) = W2 at hbk hB ⊢
    have HB2 := Aside0.mk hB
    have HBK := Aside0.mk hbk
    have k0 := cells_of_heap hbk 6 (.string ⟨#[58, 112, 97, 116, 104]⟩) rfl
    have k1 := cells_of_heap hbk 7 (.string ⟨#[47]⟩) rfl
    clear hB hbk
    go_region_law_o (first
      | (refine step_app (by simp [Region.wanted]) (.const (.slice none 0 0)) (.tmp 20) rfl W2 W2.heap.size none (some ⟨w1.heap.size, 0, none⟩) 0 0 4 4 [] aliveL rfl rfl (FR.nil _ _) ?cC (by decide) ?cB ?cW ?_; (case cC => (repeat' first | exact (HA.out _ _ HBK.out) | (with_reducible refine Kd.C_alloc ?_ _) | (with_reducible refine Kd.C_drew ?_))); (case cB => simp); (case cW => (repeat' first | exact Below.refl _ _ | (with_reducible refine below_alloc ?_ _) | (with_reducible refine below_drew ?_))); intro A3 c3 w3 hF hb hg; rw [Nat.zero_add, List.nil_append] at hF; have hbk := (hb.block _ (blk_lt HBK.out)).trans HBK.out; have k0 := cells_of_heap hbk 6 (.string ⟨#[58, 112, 97, 116, 104]⟩) rfl; have k1 := cells_of_heap hbk 7 (.string ⟨#[47]⟩) rfl; have HF3 := Aside0.mk hF; have HB3 := Aside0.mk hb; have HG3 := Aside0.mk hg; clear hF hb hg hbk)
      | (refine step_app (by simp [Region.wanted]) (.tmp 21) (.tmp 26) rfl W2 W2.heap.size A3 _ 4 c3 1 1 aliveL [⟨⟨#[58, 112, 97, 116, 104]⟩, ⟨#[47]⟩⟩] rfl rfl ?cF ?cC (by decide) ?cB ?cW ?_; (case cF => (repeat' first | exact HF3.out | (with_reducible refine FR.alloc ?_ _) | (with_reducible refine FR.drew ?_))); (case cC => first | exact lit1' (by simp) _ _ | exact c_grown (w := (W2.alloc (.cells #[.string ⟨#[58, 112, 97, 116, 104]⟩, .string ⟨#[47]⟩] 26)).drew) (l := [⟨⟨#[58, 112, 97, 116, 104]⟩, ⟨#[47]⟩⟩]) (heap_alloc_new W2 _) HG3.out (fun e => by cases e) (by simp) rfl | exact c_grown (w := W2.drew.alloc (.cells #[.string ⟨#[58, 112, 97, 116, 104]⟩, .string ⟨#[47]⟩] 26)) (l := [⟨⟨#[58, 112, 97, 116, 104]⟩, ⟨#[47]⟩⟩]) (heap_alloc_new W2.drew _) HG3.out (fun e => by cases e) (by simp) rfl); (case cB => have := HB3.out.size; simp; omega); (case cW => (repeat' first | exact HB3.out | (with_reducible refine Below.alloc ?_ ?_ _) | (with_reducible refine below_drew ?_)); all_goals (have := HB3.out.size; simp; omega)); intro A4 c4 w4 hF hb _; have HF4 := Aside0.mk hF; have HB4 := Aside0.mk (below_step HB2.out hb); clear hF hb HF3 HB3 HG3)
      | (go_simp; go_wp2_with (first
        | (go_at_call 13; refine (HQt.out _ _ _ _ (HF4.out.c (by decide)).1).mono ?_; rintro e w5 ⟨rfl, hb⟩; have HB5 := Aside0.mk (below_step HB4.out hb); clear hb HF4 HB4))))
    all_goals
      go_wp2
      go_ret
      exact ⟨rfl, HB5.out⟩
theorem lacks_calls (which : Int) (twice : Bool) (w : World) : Calls Tryd.prog 4 #[.int .i64 which, .bool twice] w fun e w' => e = .returned (.bool true) ∧ Below w.heap.size w w' := by
  have hq : (wrap64 (which.tmod 4 + 4)).tmod 4 = 0 ∨ (wrap64 (which.tmod 4 + 4)).tmod 4 = 1 ∨ (wrap64 (which.tmod 4 + 4)).tmod 4 = 2 ∨ (wrap64 (which.tmod 4 + 4)).tmod 4 = 3 := by
    obtain ⟨h1, h2⟩ := tmod_b which 4 (by decide)
    rw [w64_in (which.tmod 4 + 4) (by omega), Int.tmod_eq_emod_of_nonneg (by omega)]
    omega
  rcases hq with hq | hq | hq | hq <;> cases twice
  · exact lacks_0_false which w hq
  · exact lacks_0_true which w hq
  · exact lacks_1_false which w hq
  · exact lacks_1_true which w hq
  · exact lacks_2_false which w hq
  · exact lacks_2_true which w hq
  · exact lacks_3_false which w hq
  · exact lacks_3_true which w hq
end Go.Proofs.YthibjhjeppfahaaDoor.Fw

