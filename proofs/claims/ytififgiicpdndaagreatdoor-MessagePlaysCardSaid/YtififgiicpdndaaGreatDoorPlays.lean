/- MessagePlays. -/
import Derived.Test.YtififgiicpdndaaGreatDoorROne
import Derived.Deep.RegionLaw
namespace Go.Proofs.YtififgiicpdndaaGreatDoor.Fw
set_option linter.unusedSimpArgs false
open Go.RowKit Go.Proofs.YtififgiicpdndaaGreatDoor.XMi Go.Proofs.YtififgiicpdndaaGreatDoorW.PrintWords Go.Proofs.YtififgiicpdndaaGreatDoorW.PrintLast Go.Proofs.YtififgiicpdndaaGreatDoorW.PrintMore Go.Proofs.YtififgiicpdndaaGreatDoor.Ms Go.Proofs.YtififgiicpdndaaGreatDoor.Ob
theorem lens_told {s : MS} {a : MA} (h : s.a.fields.length ≤ 1000 ∧ s.a.trails.length ≤ 1000) (ha : a.fields.length ≤ 1000 ∧ a.trails.length ≤ 1000) (fin : Bool) (e : Int) : (toldP s a fin e).2.a.fields.length ≤ 1000 ∧ (toldP s a fin e).2.a.trails.length ≤ 1000 := by
  unfold toldP
  by_cases h1 : e ≠ 0
  · rw [if_pos h1]; exact h
  · rw [if_neg h1]
    by_cases h2 : longP s.method a fin = true
    · rw [if_pos h2]; exact ha
    · rw [if_neg h2]; exact h
theorem lens_head {s : MS} (h : s.a.fields.length ≤ 1000 ∧ s.a.trails.length ≤ 1000) (fin : Bool) {l : List S61} (hl : l.length ≤ 1000) : (headP s fin l).2.a.fields.length ≤ 1000 ∧ (headP s fin l).2.a.trails.length ≤ 1000 := by
  unfold headP
  by_cases h1 : overP s = true
  · rw [if_pos h1]; exact h
  · rw [if_neg h1]
    by_cases h2 : s.a.status > 0
    · rw [if_pos h2]; refine lens_told h ?_ fin _; exact ⟨h.1, hl⟩
    · rw [if_neg h2]
      by_cases h3 : respQ l ≠ 0
      · rw [if_pos h3]; exact lens_told h h fin _
      · rw [if_neg h3]
        by_cases h4 : statNum l < 200
        · rw [if_pos h4]
          cases fin with
          | true => rw [if_pos rfl]; exact lens_told h h true _
          | false => rw [if_neg Bool.false_ne_true]; exact h
        · rw [if_neg h4]; refine lens_told h ?_ fin _; exact ⟨by have := others_len l l.length; rw [List.take_length] at this; show (others l).length ≤ 1000; omega, h.2⟩
theorem lens_data {s : MS} (h : s.a.fields.length ≤ 1000 ∧ s.a.trails.length ≤ 1000) (n : Int) (fin : Bool) : (dataP s n fin).2.a.fields.length ≤ 1000 ∧ (dataP s n fin).2.a.trails.length ≤ 1000 := by
  obtain ⟨h1, h2, _⟩ := data_same s n fin
  rw [h1, h2]
  exact h
/-- All that is known of a reader. -/
structure Al (j : Nat) (s : MS) : Prop where
  iv : Iv s
  ca : s.a.came ≤ j * 1099511627776
  ln : s.a.fields.length ≤ 1000 ∧ s.a.trails.length ≤ 1000
theorem alz_head {j : Nat} {s : MS} (h : Al j s) {fin : Bool} {l : List S61} (hl : l.length ≤ 1000) {r : Int} {s' : MS} (e : headP s fin l = (r, s')) : Al (j + 1) s' := by
  have h1 := iv_head h.iv fin l
  have h2 := came_head (s := s) fin l
  have h3 := lens_head h.ln fin hl
  rw [e] at h1 h2 h3
  exact ⟨h1, by have := h.ca; dsimp only at h2; omega, h3⟩
theorem alz_data {j : Nat} {s : MS} (h : Al j s) {n : Int} (hn : n ≤ 1099511627776) {fin : Bool} {r : Int} {s' : MS} (e : dataP s n fin = (r, s')) : Al (j + 1) s' := by
  have h1 := iv_data h.iv n fin
  have h2 := came_data (s := s) n fin
  have h3 := lens_data h.ln n fin
  rw [e] at h1 h2 h3
  exact ⟨h1, by have := h.ca; dsimp only at h2; omega, h3⟩
theorem alz_same {j : Nat} {s : MS} (h : Al j s) : Al (j + 1) s := ⟨h.iv, by have := h.ca; omega, h.ln⟩
theorem PL.lt {w0 W : World} {b g gr : Nat} {sx sr : MS} {z : Nat → Prop} (h : PL w0 W b g gr sx sr z) : g < W.heap.size ∧ gr < W.heap.size := by
  obtain ⟨a1, a2, a3, a4, h2⟩ := h.rd
  obtain ⟨c0, c1, c2, c3, c4, h3⟩ := h.rr
  exact ⟨blk_lt h2.hp, blk_lt h3.hp⟩
theorem pl_start {w0 w2 : World} {g : Nat} {m : ByteArray} (hR : Rd w2 g (newP m) none 0 none 0) (hB : Below w0.heap.size w0 w2) (hg : w0.heap.size ≤ g) :
    PL w0 ((w2.alloc (.cells #[.string m, .int .i64 0, .int .i64 0, .int .i64 0, .slice none 0 0, .slice none 0 0, .bool false, .bool false] 49)).alloc (.cells #[.slice none 0 0, .slice none 0 0, .slice none 0 0, .slice none 0 0, .slice none 0 0, .slice none 0 0, .slice none 0 0, .slice none 0 0, .slice none 0 0, .slice none 0 0] 38)) (w2.heap.size + 1) g w2.heap.size (newP m) (newP m) (fun k => k < w2.heap.size + 1) := by
  have hsz : (w2.alloc (.cells #[.string m, .int .i64 0, .int .i64 0, .int .i64 0, .slice none 0 0, .slice none 0 0, .bool false, .bool false] 49)).heap.size = w2.heap.size + 1 := by simp
  have hb1 := below_alloc (Below.refl w2.heap.size w2) (.cells #[.string m, .int .i64 0, .int .i64 0, .int .i64 0, .slice none 0 0, .slice none 0 0, .bool false, .bool false] 49)
  have hb2 := below_alloc (Below.refl (w2.alloc (.cells #[.string m, .int .i64 0, .int .i64 0, .int .i64 0, .slice none 0 0, .slice none 0 0, .bool false, .bool false] 49)).heap.size (w2.alloc (.cells #[.string m, .int .i64 0, .int .i64 0, .int .i64 0, .slice none 0 0, .slice none 0 0, .bool false, .bool false] 49))) (.cells #[.slice none 0 0, .slice none 0 0, .slice none 0 0, .slice none 0 0, .slice none 0 0, .slice none 0 0, .slice none 0 0, .slice none 0 0, .slice none 0 0, .slice none 0 0] 38)
  have hgl := blk_lt hR.hp
  refine ⟨below_alloc (below_alloc hB _) _, ⟨none, 0, none, 0, (hR.below hb1).below hb2⟩, ⟨false, none, 0, none, 0, RR.below ⟨heap_alloc_new w2 _, Row.nil _ _, Row.nil _ _, (fun h => by cases h), (fun h => by cases h), (fun _ => ⟨rfl, rfl⟩)⟩ hb2⟩, ⟨fun _ => False, ?_⟩, ⟨by omega, by omega⟩, hg, hB.size⟩
  have := Bk.Kp.new (w2.alloc (.cells #[.string m, .int .i64 0, .int .i64 0, .int .i64 0, .slice none 0 0, .slice none 0 0, .bool false, .bool false] 49)) w0.heap.size (by have := hB.size; omega)
  rw [hsz] at this
  exact this
set_option maxHeartbeats 200000000 in
set_option maxRecDepth 20000 in
theorem plays_calls (m : ByteArray) (A : Option Addr) (os : List OP) (c : Nat) (w : World) (_ : m.size ≤ reachBytes) (hO : Ops w A os) :
    Calls Tryz.prog 4 #[.string m, .slice A os.length c] w fun e w' => e = .returned (.bool true) ∧ Below w.heap.size w w' := by
  have HB := Aside0.mk (Below.refl w.heap.size w)
  have HO := Aside0.mk hO
  clear hO
  by_cases hg : 60 < m.size ∨ 40 < os.length
  · have hc : (decide (m.size > 60) = true ∧ decide ((m.size : Int) > 60) = true ∧ decide (60 < m.size) = true) ∨ (decide (m.size > 60) = false ∧ decide ((m.size : Int) > 60) = false ∧ decide (60 < m.size) = false ∧ decide (os.length > 40) = true ∧ decide ((os.length : Int) > 40) = true ∧ decide (40 < os.length) = true) := by
      simp only [decide_eq_true_eq, decide_eq_false_iff_not]
      omega
    clear hg
    rcases hc with ⟨e1, e2, e3⟩ | ⟨e1, e2, e3, e4, e5, e6⟩
    all_goals
      go_enter Tryz.func4, Tryz.ntmps4
      go_wp2_with (first
        | (go_at_call 6; refine (alive_c _).mono ?_; rintro e w1 ⟨rfl, hb⟩; have HB1 := Aside0.mk (below_step HB.out hb); clear hb))
      go_ret
      exact ⟨rfl, HB1.out⟩
  have e1 : decide (m.size > 60) = false := decide_eq_false (by omega)
  have e2 : decide ((m.size : Int) > 60) = false := decide_eq_false (by omega)
  have e3 : decide (60 < m.size) = false := decide_eq_false (by omega)
  have e4 : decide (os.length > 40) = false := decide_eq_false (by omega)
  have e5 : decide ((os.length : Int) > 40) = false := decide_eq_false (by omega)
  have e6 : decide (40 < os.length) = false := decide_eq_false (by omega)
  have HL : Aside0 (os.length ≤ 40) := ⟨by omega⟩
  clear hg
  go_enter Tryz.func4, Tryz.ntmps4
  go_wp2_with (first
    | (go_at_call 6; refine (alive_c _).mono ?_; rintro e w1 ⟨rfl, hb⟩; have HB1 := Aside0.mk (below_step HB.out hb); clear hb)
    | (go_at_call 17; refine (new_c m _).mono ?_; rintro e w2 ⟨rfl, hr, hb⟩; have HP2 := Aside0.mk (pl_start hr (below_step HB1.out hb) HB1.out.size); clear hr hb HB1))
  clear e1 e2 e3 e4 e5 e6 HB
  generalize w1.heap.size = g at HP2 ⊢
  generalize w2.heap.size = gr at HP2 ⊢
  generalize (w2.alloc (.cells #[.string m, .int .i64 0, .int .i64 0, .int .i64 0, .slice none 0 0, .slice none 0 0, .bool false, .bool false] 49)).alloc (.cells #[.slice none 0 0, .slice none 0 0, .slice none 0 0, .slice none 0 0, .slice none 0 0, .slice none 0 0, .slice none 0 0, .slice none 0 0, .slice none 0 0, .slice none 0 0] 38) = W2 at HP2 ⊢
  go_loopg [38] (os.length + 1) (fun kq v38 w' => ∃ (j : Nat) (s : MS) (z : Nat → Prop), v38 = .int .i64 j ∧ Aside0 (j + kq = os.length + 1 ∧ 1 ≤ kq) ∧ Aside0 (Al j s) ∧ Aside0 (PL w w' (gr + 1) g gr s s z))
  case atStart => exact ⟨0, newP m, _, rfl, ⟨by omega, by omega⟩, ⟨iv_new m, Int.le_refl 0, ⟨Nat.zero_le _, Nat.zero_le _⟩⟩, HP2⟩
  case round =>
    obtain ⟨j, s, z, rfl, HJ, HA, HP⟩ := hrel
    by_cases hj : j < os.length
    · have q1 : decide ((j : Int) < (os.length : Int)) = true := decide_eq_true (by omega)
      have q2 : decide (j < os.length) = true := decide_eq_true hj
      obtain ⟨hok, ad, hA, hat⟩ := HO.out.2 j os[j] (List.getElem?_eq_getElem hj)
      have hat2 := op_below hat HP.out.bel
      generalize os[j] = o at hok hat2
      obtain ⟨kd, on, fi, oA, oc, ol⟩ := o
      obtain ⟨k0, k1, k2, k3⟩ := hat2
      dsimp only at k0 k1 k2 k3
      have hsm := hok.small
      have hcc := hok.c
      have hrn := hok.rn
      dsimp only at hsm hcc hrn
      have HOk := Aside0.mk (And.intro hsm.cap (And.intro hcc hrn))
      have hr := reachBytes_lt
      have HFw := Aside0.mk (fun (W : World) (hb : Below w.heap.size w W) => few_c (Kd.C_below hcc hb) hsm.cap (by have := hsm.len; omega) hsm.sz)
      have p1 : (0 : Int) ≤ (j : Int) := by omega
      have p2 : (j : Int) < (os.length : Int) := by omega
      have hwj : wrap64 ((j : Int) + 1) = ((j + 1 : Nat) : Int) := w64_next j (by have := HL.out; omega)
      have HWJ := Aside0.mk hwj
      have HJ3 := Aside0.mk hj
      have HFe := Aside0.mk (fun (h : fewP ol = true) => few_sized h)
      subst hA
      clear hok hat hsm hcc hrn hr hj
      generalize fewP ol = fe at HFw HFe
      cases fe with
      | false =>
        go_wp2_with (first
          | (go_at_call 18; refine (HFw.out _ (below_alloc HP.out.bel _)).mono ?_; rintro e w3 ⟨rfl, hb⟩; have HB3 := Aside0.mk (below_step (below_alloc HP.out.bel _) hb); clear hb))
        go_ret
        exact ⟨rfl, HB3.out⟩
      | true =>
        by_cases hn : on > 1099511627776
        · have q3 : decide (on > 1099511627776) = true := decide_eq_true hn
          have q4 : decide (1099511627776 < on) = true := decide_eq_true hn
          clear hn
          go_wp2_with (first
            | (go_at_call 18; refine (HFw.out _ (below_alloc HP.out.bel _)).mono ?_; rintro e w3 ⟨rfl, hb⟩; have hbk := (hb.block _ (blk_lt (heap_alloc_new wr _))).trans (heap_alloc_new wr (.cells #[.int .i64 kd, .int .i64 on, .bool fi, .slice oA ol.length oc] 51)); have b1 := cells_of_heap hbk 1 _ rfl; have HB3 := Aside0.mk (below_step (below_alloc HP.out.bel _) hb); clear hb hbk))
          go_ret
          exact ⟨rfl, HB3.out⟩
        have q3 : decide (on > 1099511627776) = false := decide_eq_false hn
        have q4 : decide (1099511627776 < on) = false := decide_eq_false hn
        have HN := Aside0.mk hn
        have HSz := Aside0.mk (HFe.out rfl)
        clear hn HFe
        by_cases hk : kd = 1
        · have q5 : decide (kd = 1) = true := decide_eq_true hk
          have q6 : (kd == 1) = true := beq_iff_eq.2 hk
          have q7 : decide (kd = 2) = false := decide_eq_false (by omega)
          have q8 : (kd == 2) = false := beq_eq_false_iff_ne.2 (by omega)
          obtain ⟨r, s', hE⟩ : ∃ r s', headP s fi ol = (r, s') := ⟨_, _, rfl⟩
          have HE := Aside0.mk hE
          clear hk hE
          go_wp2_with (first
            | (go_at_call 18; refine (HFw.out _ (below_alloc HP.out.bel _)).mono ?_; rintro e w3 ⟨rfl, hb⟩; have hbk := (hb.block _ (blk_lt (heap_alloc_new wr _))).trans (heap_alloc_new wr (.cells #[.int .i64 kd, .int .i64 on, .bool fi, .slice oA ol.length oc] 51)); have b1 := cells_of_heap hbk 1 _ rfl; have b3 := cells_of_heap hbk 3 _ rfl; have HBK3 := Aside0.mk hbk; have HP3 := Aside0.mk ((HP.out.below' (below_alloc (Below.refl _ _) _)).below' hb); clear hb hbk HFw HP)
            | (go_at_call 19; refine (Bk.lent_c (c := oc) (Kd.C_below HOk.out.2.1 HP3.out.bel) (by have := HSz.out.2.1; omega)).mono ?_; rintro e w4 ⟨gm, cm, rfl, hF, _, hb⟩; have hbk := (hb.block _ (blk_lt HBK3.out)).trans HBK3.out; clear b1 b3; have b0 := cells_of_heap hbk 0 _ rfl; have b1 := cells_of_heap hbk 1 _ rfl; have b2 := cells_of_heap hbk 2 _ rfl; have b3 := cells_of_heap hbk 3 _ rfl; have HBK4 := Aside0.mk hbk; have HP4 := Aside0.mk (HP3.out.below' hb); have HM4 := Aside0.mk hF; clear hb hbk hF HP3 HBK3))
          refine rg_start (S := (fun W => W.cell? ⟨wr.heap.size, 0, none⟩ = some (.int .i64 kd) ∧ W.cell? ⟨wr.heap.size, 1, none⟩ = some (.int .i64 on) ∧ W.cell? ⟨wr.heap.size, 2, none⟩ = some (.bool fi) ∧ W.cell? ⟨wr.heap.size, 3, none⟩ = some (.slice oA ol.length oc))) (by kernel_rfl) ⟨b0, b1, b2, b3⟩ 44 #[false, false, false, false, false, false, false, false, false, false, false, false, false, false, false, false, false, false, false, false, false, false, false, false, false, false, false, false, false, false, false, false, false, false, false, false, false, false, false, false, false, false, false, false] (by kernel_rfl) (by kernel_rfl) ?_
          have HP4 := Aside0.mk (HP4.out.below' (below_drew (Below.refl w4.heap.size w4)))
          have HM4 := Aside0.mk (Bk.fr_drew HM4.out)
          have HBK4 : Aside0 (w4.drew.heap[wr.heap.size]? = some (.cells #[.int .i64 kd, .int .i64 on, .bool fi, .slice oA ol.length oc] 51)) := ⟨HBK4.out⟩
          refine rg_take (fuel := 43) 0 #[true, false, false, false, false, false, false, false, false, false, false, false, false, false, false, false, false, false, false, false, false, false, false, false, false, false, false, false, false, false, false, false, false, false, false, false, false, false, false, false, false, false, false, false] (by kernel_rfl) ?va1_0 rfl (by kernel_rfl) (by kernel_rfl) (by kernel_rfl) (fun _ _ _ h => h) (by kernel_rfl) ⟨b0, b1, b2, b3⟩ ?hya1_0 ?_
          case hya1_0 => intro w hSw; (try dsimp only at hSw); go_simp; (try with_reducible rfl)
          (try simp only [Act.put, List.setIfInBounds_toArray, List.set_cons_zero, List.set_cons_succ])
          refine rg_take (fuel := 42) 1 #[true, true, false, false, false, false, false, false, false, false, false, false, false, false, false, false, false, false, false, false, false, false, false, false, false, false, false, false, false, false, false, false, false, false, false, false, false, false, false, false, false, false, false, false] (by kernel_rfl) ?va1_1 rfl (by kernel_rfl) (by kernel_rfl) (by kernel_rfl) (fun _ _ _ h => h) (by kernel_rfl) ⟨b0, b1, b2, b3⟩ ?hya1_1 ?_
          case hya1_1 => intro w hSw; (try dsimp only at hSw); go_simp; (try with_reducible rfl)
          (try simp only [Act.put, List.setIfInBounds_toArray, List.set_cons_zero, List.set_cons_succ])
          refine rg_take (fuel := 41) 2 #[true, true, true, false, false, false, false, false, false, false, false, false, false, false, false, false, false, false, false, false, false, false, false, false, false, false, false, false, false, false, false, false, false, false, false, false, false, false, false, false, false, false, false, false] (by kernel_rfl) ?va1_2 rfl (by kernel_rfl) (by kernel_rfl) (by kernel_rfl) (fun _ _ _ h => h) (by kernel_rfl) ⟨b0, b1, b2, b3⟩ ?hya1_2 ?_
          case hya1_2 => intro w hSw; (try dsimp only at hSw); go_simp; (try with_reducible rfl)
          (try simp only [Act.put, List.setIfInBounds_toArray, List.set_cons_zero, List.set_cons_succ])
          refine rg_take (fuel := 40) 3 #[true, true, true, true, false, false, false, false, false, false, false, false, false, false, false, false, false, false, false, false, false, false, false, false, false, false, false, false, false, false, false, false, false, false, false, false, false, false, false, false, false, false, false, false] (by kernel_rfl) ?va1_3 rfl (by kernel_rfl) (by kernel_rfl) (by kernel_rfl) (fun _ _ _ h => h) (by kernel_rfl) ⟨b0, b1, b2, b3⟩ ?hya1_3 ?_
          case hya1_3 => intro w hSw; (try dsimp only at hSw); go_simp; (try with_reducible rfl)
          (try simp only [Act.put, List.setIfInBounds_toArray, List.set_cons_zero, List.set_cons_succ])
          refine rg_take (fuel := 39) 4 #[true, true, true, true, true, false, false, false, false, false, false, false, false, false, false, false, false, false, false, false, false, false, false, false, false, false, false, false, false, false, false, false, false, false, false, false, false, false, false, false, false, false, false, false] (by kernel_rfl) ?va1_4 rfl (by kernel_rfl) (by kernel_rfl) (by kernel_rfl) (fun _ _ _ h => h) (by kernel_rfl) ⟨b0, b1, b2, b3⟩ ?hya1_4 ?_
          case hya1_4 => intro w hSw; (try dsimp only at hSw); go_simp; (try with_reducible rfl)
          (try simp only [Act.put, List.setIfInBounds_toArray, List.set_cons_zero, List.set_cons_succ])
          refine rg_take (fuel := 38) 5 #[true, true, true, true, true, true, false, false, false, false, false, false, false, false, false, false, false, false, false, false, false, false, false, false, false, false, false, false, false, false, false, false, false, false, false, false, false, false, false, false, false, false, false, false] (by kernel_rfl) ?va1_5 rfl (by kernel_rfl) (by kernel_rfl) (by kernel_rfl) (fun _ _ _ h => h) (by kernel_rfl) ⟨b0, b1, b2, b3⟩ ?hya1_5 ?_
          case hya1_5 => intro w hSw; (try dsimp only at hSw); go_simp; (try with_reducible rfl)
          (try simp only [Act.put, List.setIfInBounds_toArray, List.set_cons_zero, List.set_cons_succ])
          refine rg_take (fuel := 37) 6 #[true, true, true, true, true, true, true, false, false, false, false, false, false, false, false, false, false, false, false, false, false, false, false, false, false, false, false, false, false, false, false, false, false, false, false, false, false, false, false, false, false, false, false, false] (by kernel_rfl) ?va1_6 rfl (by kernel_rfl) (by kernel_rfl) (by kernel_rfl) (fun _ _ _ h => h) (by kernel_rfl) ⟨b0, b1, b2, b3⟩ ?hya1_6 ?_
          case hya1_6 => intro w hSw; (try dsimp only at hSw); go_simp; (try with_reducible rfl)
          (try simp only [Act.put, List.setIfInBounds_toArray, List.set_cons_zero, List.set_cons_succ])
          refine rg_take (fuel := 36) 7 #[true, true, true, true, true, true, true, true, false, false, false, false, false, false, false, false, false, false, false, false, false, false, false, false, false, false, false, false, false, false, false, false, false, false, false, false, false, false, false, false, false, false, false, false] (by kernel_rfl) ?va1_7 rfl (by kernel_rfl) (by kernel_rfl) (by kernel_rfl) (fun _ _ _ h => h) (by kernel_rfl) ⟨b0, b1, b2, b3⟩ ?hya1_7 ?_
          case hya1_7 => intro w hSw; (try dsimp only at hSw); go_simp; (try with_reducible rfl)
          (try simp only [Act.put, List.setIfInBounds_toArray, List.set_cons_zero, List.set_cons_succ])
          refine rg_take (fuel := 35) 9 #[true, true, true, true, true, true, true, true, false, true, false, false, false, false, false, false, false, false, false, false, false, false, false, false, false, false, false, false, false, false, false, false, false, false, false, false, false, false, false, false, false, false, false, false] (by kernel_rfl) ?va1_9 rfl (by kernel_rfl) (by kernel_rfl) (by kernel_rfl) (fun _ _ _ h => h) (by kernel_rfl) ⟨b0, b1, b2, b3⟩ ?hya1_9 ?_
          case hya1_9 => intro w hSw; (try dsimp only at hSw); go_simp; (try with_reducible rfl)
          (try simp only [Act.put, List.setIfInBounds_toArray, List.set_cons_zero, List.set_cons_succ])
          refine rg_take (fuel := 34) 10 #[true, true, true, true, true, true, true, true, false, true, true, false, false, false, false, false, false, false, false, false, false, false, false, false, false, false, false, false, false, false, false, false, false, false, false, false, false, false, false, false, false, false, false, false] (by kernel_rfl) ?va1_10 rfl (by kernel_rfl) (by kernel_rfl) (by kernel_rfl) (fun _ _ _ h => h) (by kernel_rfl) ⟨b0, b1, b2, b3⟩ ?hya1_10 ?_
          case hya1_10 => intro w hSw; (try dsimp only at hSw); go_simp; (try with_reducible rfl)
          (try simp only [Act.put, List.setIfInBounds_toArray, List.set_cons_zero, List.set_cons_succ])
          refine rg_take (fuel := 33) 11 #[true, true, true, true, true, true, true, true, false, true, true, true, false, false, false, false, false, false, false, false, false, false, false, false, false, false, false, false, false, false, false, false, false, false, false, false, false, false, false, false, false, false, false, false] (by kernel_rfl) ?va1_11 rfl (by kernel_rfl) (by kernel_rfl) (by kernel_rfl) (fun _ _ _ h => h) (by kernel_rfl) ⟨b0, b1, b2, b3⟩ ?hya1_11 ?_
          case hya1_11 => intro w hSw; (try dsimp only at hSw); go_simp; (try with_reducible rfl)
          (try simp only [Act.put, List.setIfInBounds_toArray, List.set_cons_zero, List.set_cons_succ])
          refine rg_take (fuel := 32) 12 #[true, true, true, true, true, true, true, true, false, true, true, true, true, false, false, false, false, false, false, false, false, false, false, false, false, false, false, false, false, false, false, false, false, false, false, false, false, false, false, false, false, false, false, false] (by kernel_rfl) ?va1_12 rfl (by kernel_rfl) (by kernel_rfl) (by kernel_rfl) (fun _ _ _ h => h) (by kernel_rfl) ⟨b0, b1, b2, b3⟩ ?hya1_12 ?_
          case hya1_12 => intro w hSw; (try dsimp only at hSw); go_simp; (try with_reducible rfl)
          (try simp only [Act.put, List.setIfInBounds_toArray, List.set_cons_zero, List.set_cons_succ])
          refine rg_take (fuel := 31) 13 #[true, true, true, true, true, true, true, true, false, true, true, true, true, true, false, false, false, false, false, false, false, false, false, false, false, false, false, false, false, false, false, false, false, false, false, false, false, false, false, false, false, false, false, false] (by kernel_rfl) ?va1_13 rfl (by kernel_rfl) (by kernel_rfl) (by kernel_rfl) (fun _ _ _ h => h) (by kernel_rfl) ⟨b0, b1, b2, b3⟩ ?hya1_13 ?_
          case hya1_13 => intro w hSw; (try dsimp only at hSw); go_simp; (try with_reducible rfl)
          (try simp only [Act.put, List.setIfInBounds_toArray, List.set_cons_zero, List.set_cons_succ])
          refine rg_call (fuel := 30) 8 #[true, true, true, true, true, true, true, true, true, true, true, true, true, true, false, false, false, false, false, false, false, false, false, false, false, false, false, false, false, false, false, false, false, false, false, false, false, false, false, false, false, false, false, false] (by kernel_rfl) rfl (by kernel_rfl) (by kernel_rfl) (fun K hK => ?_)
          go_simp
          (go_at_call 20; refine (HP4.out.head HE.out HSz.out.1 (by have := HSz.out.2.1; omega) HM4.out).mono ?_; rintro e w5 ⟨rfl, hp, hf⟩; have hbk := hf _ _ _ HBK4.out (by decide) (by decide) (by decide) (by decide); clear b0 b1 b2 b3; have b0 := cells_of_heap hbk 0 _ rfl; have b1 := cells_of_heap hbk 1 _ rfl; have b2 := cells_of_heap hbk 2 _ rfl; have b3 := cells_of_heap hbk 3 _ rfl; have HBK5 := Aside0.mk hbk; have HP5 := Aside0.mk hp; have HM5 := Aside0.mk (hf.fr HM4.out); clear hbk hp hf HP4 HBK4 HM4)
          (try dsimp only)
          refine hK _ _ ⟨b0, b1, b2, b3⟩ ?_
          (try simp only [Act.put, List.setIfInBounds_toArray, List.set_cons_zero, List.set_cons_succ])
          clear hK
          refine rg_call (fuel := 29) 14 #[true, true, true, true, true, true, true, true, true, true, true, true, true, true, true, false, false, false, false, false, false, false, false, false, false, false, false, false, false, false, false, false, false, false, false, false, false, false, false, false, false, false, false, false] (by kernel_rfl) rfl (by kernel_rfl) (by kernel_rfl) (fun K hK => ?_)
          go_simp
          (go_at_call 21; refine (HP5.out.headR HA.out.iv HE.out HSz.out.1 (by have := HSz.out.2.1; omega) HOk.out.2.1 HOk.out.1).mono ?_; rintro e w6 ⟨rfl, hp, hf⟩; have hbk := hf _ _ _ HBK5.out (by decide) (by decide) (by decide) (by decide); clear b0 b1 b2 b3; have b0 := cells_of_heap hbk 0 _ rfl; have b1 := cells_of_heap hbk 1 _ rfl; have b2 := cells_of_heap hbk 2 _ rfl; have b3 := cells_of_heap hbk 3 _ rfl; have HBK6 := Aside0.mk hbk; have HP6 := Aside0.mk hp; have HM6 := Aside0.mk (hf.fr HM5.out); clear hbk hp hf HP5 HBK5 HM5)
          (try dsimp only)
          refine hK _ _ ⟨b0, b1, b2, b3⟩ ?_
          (try simp only [Act.put, List.setIfInBounds_toArray, List.set_cons_zero, List.set_cons_succ])
          clear hK
          refine rg_take (fuel := 28) 15 #[true, true, true, true, true, true, true, true, true, true, true, true, true, true, true, true, false, false, false, false, false, false, false, false, false, false, false, false, false, false, false, false, false, false, false, false, false, false, false, false, false, false, false, false] (by kernel_rfl) ?va1_15 rfl (by kernel_rfl) (by kernel_rfl) (by kernel_rfl) (fun _ _ _ h => h) (by kernel_rfl) ⟨b0, b1, b2, b3⟩ ?hya1_15 ?_
          case hya1_15 => intro w hSw; (try dsimp only at hSw); go_simp; (try with_reducible rfl)
          (try simp only [Act.put, List.setIfInBounds_toArray, List.set_cons_zero, List.set_cons_succ])
          refine rg_take (fuel := 27) 16 #[true, true, true, true, true, true, true, true, true, true, true, true, true, true, true, true, true, false, false, false, false, false, false, false, false, false, false, false, false, false, false, false, false, false, false, false, false, false, false, false, false, false, false, false] (by kernel_rfl) ?va1_16 rfl (by kernel_rfl) (by kernel_rfl) (by kernel_rfl) (fun _ _ _ h => h) (by kernel_rfl) ⟨b0, b1, b2, b3⟩ ?hya1_16 ?_
          case hya1_16 => intro w hSw; (try dsimp only at hSw); go_simp; (try with_reducible rfl)
          (try simp only [Act.put, List.setIfInBounds_toArray, List.set_cons_zero, List.set_cons_succ])
          refine rg_take (fuel := 26) 17 #[true, true, true, true, true, true, true, true, true, true, true, true, true, true, true, true, true, true, false, false, false, false, false, false, false, false, false, false, false, false, false, false, false, false, false, false, false, false, false, false, false, false, false, false] (by kernel_rfl) ?va1_17 rfl (by kernel_rfl) (by kernel_rfl) (by kernel_rfl) (fun _ _ _ h => h) (by kernel_rfl) ⟨b0, b1, b2, b3⟩ ?hya1_17 ?_
          case hya1_17 => intro w hSw; (try dsimp only at hSw); go_simp; (try with_reducible rfl)
          (try simp only [Act.put, List.setIfInBounds_toArray, List.set_cons_zero, List.set_cons_succ])
          refine rg_take (fuel := 25) 18 #[true, true, true, true, true, true, true, true, true, true, true, true, true, true, true, true, true, true, true, false, false, false, false, false, false, false, false, false, false, false, false, false, false, false, false, false, false, false, false, false, false, false, false, false] (by kernel_rfl) ?va1_18 rfl (by kernel_rfl) (by kernel_rfl) (by kernel_rfl) (fun _ _ _ h => h) (by kernel_rfl) ⟨b0, b1, b2, b3⟩ ?hya1_18 ?_
          case hya1_18 => intro w hSw; (try dsimp only at hSw); go_simp; (try with_reducible rfl)
          (try simp only [Act.put, List.setIfInBounds_toArray, List.set_cons_zero, List.set_cons_succ])
          refine rg_take (fuel := 24) 19 #[true, true, true, true, true, true, true, true, true, true, true, true, true, true, true, true, true, true, true, true, false, false, false, false, false, false, false, false, false, false, false, false, false, false, false, false, false, false, false, false, false, false, false, false] (by kernel_rfl) ?va1_19 rfl (by kernel_rfl) (by kernel_rfl) (by kernel_rfl) (fun _ _ _ h => h) (by kernel_rfl) ⟨b0, b1, b2, b3⟩ ?hya1_19 ?_
          case hya1_19 => intro w hSw; (try dsimp only at hSw); go_simp; (try with_reducible rfl)
          (try simp only [Act.put, List.setIfInBounds_toArray, List.set_cons_zero, List.set_cons_succ])
          refine rg_take (fuel := 23) 20 #[true, true, true, true, true, true, true, true, true, true, true, true, true, true, true, true, true, true, true, true, true, false, false, false, false, false, false, false, false, false, false, false, false, false, false, false, false, false, false, false, false, false, false, false] (by kernel_rfl) ?va1_20 rfl (by kernel_rfl) (by kernel_rfl) (by kernel_rfl) (fun _ _ _ h => h) (by kernel_rfl) ⟨b0, b1, b2, b3⟩ ?hya1_20 ?_
          case hya1_20 => intro w hSw; (try dsimp only at hSw); go_simp; (try with_reducible rfl)
          (try simp only [Act.put, List.setIfInBounds_toArray, List.set_cons_zero, List.set_cons_succ])
          refine rg_take (fuel := 22) 21 #[true, true, true, true, true, true, true, true, true, true, true, true, true, true, true, true, true, true, true, true, true, true, false, false, false, false, false, false, false, false, false, false, false, false, false, false, false, false, false, false, false, false, false, false] (by kernel_rfl) ?va1_21 rfl (by kernel_rfl) (by kernel_rfl) (by kernel_rfl) (fun _ _ _ h => h) (by kernel_rfl) ⟨b0, b1, b2, b3⟩ ?hya1_21 ?_
          case hya1_21 => intro w hSw; (try dsimp only at hSw); go_simp; (try with_reducible rfl)
          (try simp only [Act.put, List.setIfInBounds_toArray, List.set_cons_zero, List.set_cons_succ])
          refine rg_skip (fuel := 21) 22 #[true, true, true, true, true, true, true, true, true, true, true, true, true, true, true, true, true, true, true, true, true, true, true, false, false, false, false, false, false, false, false, false, false, false, false, false, false, false, false, false, false, false, false, false] (by kernel_rfl) rfl (by kernel_rfl) (by kernel_rfl) (by kernel_rfl) (fun _ _ _ h => h) (by kernel_rfl) ⟨b0, b1, b2, b3⟩ ?_
          (try simp only [Act.put, List.setIfInBounds_toArray, List.set_cons_zero, List.set_cons_succ])
          refine rg_skip (fuel := 20) 23 #[true, true, true, true, true, true, true, true, true, true, true, true, true, true, true, true, true, true, true, true, true, true, true, true, false, false, false, false, false, false, false, false, false, false, false, false, false, false, false, false, false, false, false, false] (by kernel_rfl) rfl (by kernel_rfl) (by kernel_rfl) (by kernel_rfl) (fun _ _ _ h => h) (by kernel_rfl) ⟨b0, b1, b2, b3⟩ ?_
          (try simp only [Act.put, List.setIfInBounds_toArray, List.set_cons_zero, List.set_cons_succ])
          refine rg_skip (fuel := 19) 24 #[true, true, true, true, true, true, true, true, true, true, true, true, true, true, true, true, true, true, true, true, true, true, true, true, true, false, false, false, false, false, false, false, false, false, false, false, false, false, false, false, false, false, false, false] (by kernel_rfl) rfl (by kernel_rfl) (by kernel_rfl) (by kernel_rfl) (fun _ _ _ h => h) (by kernel_rfl) ⟨b0, b1, b2, b3⟩ ?_
          (try simp only [Act.put, List.setIfInBounds_toArray, List.set_cons_zero, List.set_cons_succ])
          refine rg_skip (fuel := 18) 25 #[true, true, true, true, true, true, true, true, true, true, true, true, true, true, true, true, true, true, true, true, true, true, true, true, true, true, false, false, false, false, false, false, false, false, false, false, false, false, false, false, false, false, false, false] (by kernel_rfl) rfl (by kernel_rfl) (by kernel_rfl) (by kernel_rfl) (fun _ _ _ h => h) (by kernel_rfl) ⟨b0, b1, b2, b3⟩ ?_
          (try simp only [Act.put, List.setIfInBounds_toArray, List.set_cons_zero, List.set_cons_succ])
          refine rg_skip (fuel := 17) 26 #[true, true, true, true, true, true, true, true, true, true, true, true, true, true, true, true, true, true, true, true, true, true, true, true, true, true, true, false, false, false, false, false, false, false, false, false, false, false, false, false, false, false, false, false] (by kernel_rfl) rfl (by kernel_rfl) (by kernel_rfl) (by kernel_rfl) (fun _ _ _ h => h) (by kernel_rfl) ⟨b0, b1, b2, b3⟩ ?_
          (try simp only [Act.put, List.setIfInBounds_toArray, List.set_cons_zero, List.set_cons_succ])
          refine rg_skip (fuel := 16) 28 #[true, true, true, true, true, true, true, true, true, true, true, true, true, true, true, true, true, true, true, true, true, true, true, true, true, true, true, false, true, false, false, false, false, false, false, false, false, false, false, false, false, false, false, false] (by kernel_rfl) rfl (by kernel_rfl) (by kernel_rfl) (by kernel_rfl) (fun _ _ _ h => h) (by kernel_rfl) ⟨b0, b1, b2, b3⟩ ?_
          (try simp only [Act.put, List.setIfInBounds_toArray, List.set_cons_zero, List.set_cons_succ])
          refine rg_skip (fuel := 15) 29 #[true, true, true, true, true, true, true, true, true, true, true, true, true, true, true, true, true, true, true, true, true, true, true, true, true, true, true, false, true, true, false, false, false, false, false, false, false, false, false, false, false, false, false, false] (by kernel_rfl) rfl (by kernel_rfl) (by kernel_rfl) (by kernel_rfl) (fun _ _ _ h => h) (by kernel_rfl) ⟨b0, b1, b2, b3⟩ ?_
          (try simp only [Act.put, List.setIfInBounds_toArray, List.set_cons_zero, List.set_cons_succ])
          refine rg_skip (fuel := 14) 30 #[true, true, true, true, true, true, true, true, true, true, true, true, true, true, true, true, true, true, true, true, true, true, true, true, true, true, true, false, true, true, true, false, false, false, false, false, false, false, false, false, false, false, false, false] (by kernel_rfl) rfl (by kernel_rfl) (by kernel_rfl) (by kernel_rfl) (fun _ _ _ h => h) (by kernel_rfl) ⟨b0, b1, b2, b3⟩ ?_
          (try simp only [Act.put, List.setIfInBounds_toArray, List.set_cons_zero, List.set_cons_succ])
          refine rg_skip (fuel := 13) 31 #[true, true, true, true, true, true, true, true, true, true, true, true, true, true, true, true, true, true, true, true, true, true, true, true, true, true, true, false, true, true, true, true, false, false, false, false, false, false, false, false, false, false, false, false] (by kernel_rfl) rfl (by kernel_rfl) (by kernel_rfl) (by kernel_rfl) (fun _ _ _ h => h) (by kernel_rfl) ⟨b0, b1, b2, b3⟩ ?_
          (try simp only [Act.put, List.setIfInBounds_toArray, List.set_cons_zero, List.set_cons_succ])
          refine rg_skip (fuel := 12) 32 #[true, true, true, true, true, true, true, true, true, true, true, true, true, true, true, true, true, true, true, true, true, true, true, true, true, true, true, false, true, true, true, true, true, false, false, false, false, false, false, false, false, false, false, false] (by kernel_rfl) rfl (by kernel_rfl) (by kernel_rfl) (by kernel_rfl) (fun _ _ _ h => h) (by kernel_rfl) ⟨b0, b1, b2, b3⟩ ?_
          (try simp only [Act.put, List.setIfInBounds_toArray, List.set_cons_zero, List.set_cons_succ])
          refine rg_pass (fuel := 11) 27 #[true, true, true, true, true, true, true, true, true, true, true, true, true, true, true, true, true, true, true, true, true, true, true, true, true, true, true, true, true, true, true, true, true, false, false, false, false, false, false, false, false, false, false, false] (by kernel_rfl) rfl (by kernel_rfl) (by kernel_rfl) ⟨b0, b1, b2, b3⟩ ?_
          (try simp only [Act.put, List.setIfInBounds_toArray, List.set_cons_zero, List.set_cons_succ])
          refine rg_pass (fuel := 10) 33 #[true, true, true, true, true, true, true, true, true, true, true, true, true, true, true, true, true, true, true, true, true, true, true, true, true, true, true, true, true, true, true, true, true, true, false, false, false, false, false, false, false, false, false, false] (by kernel_rfl) rfl (by kernel_rfl) (by kernel_rfl) ⟨b0, b1, b2, b3⟩ ?_
          (try simp only [Act.put, List.setIfInBounds_toArray, List.set_cons_zero, List.set_cons_succ])
          refine rg_skip (fuel := 9) 34 #[true, true, true, true, true, true, true, true, true, true, true, true, true, true, true, true, true, true, true, true, true, true, true, true, true, true, true, true, true, true, true, true, true, true, true, false, false, false, false, false, false, false, false, false] (by kernel_rfl) rfl (by kernel_rfl) (by kernel_rfl) (by kernel_rfl) (fun _ _ _ h => h) (by kernel_rfl) ⟨b0, b1, b2, b3⟩ ?_
          (try simp only [Act.put, List.setIfInBounds_toArray, List.set_cons_zero, List.set_cons_succ])
          refine rg_take (fuel := 8) 35 #[true, true, true, true, true, true, true, true, true, true, true, true, true, true, true, true, true, true, true, true, true, true, true, true, true, true, true, true, true, true, true, true, true, true, true, true, false, false, false, false, false, false, false, false] (by kernel_rfl) ?va1_35 rfl (by kernel_rfl) (by kernel_rfl) (by kernel_rfl) (fun _ _ _ h => h) (by kernel_rfl) ⟨b0, b1, b2, b3⟩ ?hya1_35 ?_
          case hya1_35 => intro w hSw; (try dsimp only at hSw); go_simp; (try with_reducible rfl)
          (try simp only [Act.put, List.setIfInBounds_toArray, List.set_cons_zero, List.set_cons_succ])
          refine rg_take (fuel := 7) 36 #[true, true, true, true, true, true, true, true, true, true, true, true, true, true, true, true, true, true, true, true, true, true, true, true, true, true, true, true, true, true, true, true, true, true, true, true, true, false, false, false, false, false, false, false] (by kernel_rfl) ?va1_36 rfl (by kernel_rfl) (by kernel_rfl) (by kernel_rfl) (fun _ _ _ h => h) (by kernel_rfl) ⟨b0, b1, b2, b3⟩ ?hya1_36 ?_
          case hya1_36 => intro w hSw; (try dsimp only at hSw); go_simp; (try with_reducible rfl)
          (try simp only [Act.put, List.setIfInBounds_toArray, List.set_cons_zero, List.set_cons_succ])
          refine rg_take (fuel := 6) 37 #[true, true, true, true, true, true, true, true, true, true, true, true, true, true, true, true, true, true, true, true, true, true, true, true, true, true, true, true, true, true, true, true, true, true, true, true, true, true, false, false, false, false, false, false] (by kernel_rfl) ?va1_37 rfl (by kernel_rfl) (by kernel_rfl) (by kernel_rfl) (fun _ _ _ h => h) (by kernel_rfl) ⟨b0, b1, b2, b3⟩ ?hya1_37 ?_
          case hya1_37 => intro w hSw; (try dsimp only at hSw); go_simp; (try with_reducible rfl)
          (try simp only [Act.put, List.setIfInBounds_toArray, List.set_cons_zero, List.set_cons_succ])
          refine rg_take (fuel := 5) 38 #[true, true, true, true, true, true, true, true, true, true, true, true, true, true, true, true, true, true, true, true, true, true, true, true, true, true, true, true, true, true, true, true, true, true, true, true, true, true, true, false, false, false, false, false] (by kernel_rfl) ?va1_38 rfl (by kernel_rfl) (by kernel_rfl) (by kernel_rfl) (fun _ _ _ h => h) (by kernel_rfl) ⟨b0, b1, b2, b3⟩ ?hya1_38 ?_
          case hya1_38 => intro w hSw; (try dsimp only at hSw); go_simp; (try with_reducible rfl)
          (try simp only [Act.put, List.setIfInBounds_toArray, List.set_cons_zero, List.set_cons_succ])
          refine rg_take (fuel := 4) 39 #[true, true, true, true, true, true, true, true, true, true, true, true, true, true, true, true, true, true, true, true, true, true, true, true, true, true, true, true, true, true, true, true, true, true, true, true, true, true, true, true, false, false, false, false] (by kernel_rfl) ?va1_39 rfl (by kernel_rfl) (by kernel_rfl) (by kernel_rfl) (fun _ _ _ h => h) (by kernel_rfl) ⟨b0, b1, b2, b3⟩ ?hya1_39 ?_
          case hya1_39 => intro w hSw; (try dsimp only at hSw); go_simp; (try with_reducible rfl)
          (try simp only [Act.put, List.setIfInBounds_toArray, List.set_cons_zero, List.set_cons_succ])
          refine rg_take (fuel := 3) 40 #[true, true, true, true, true, true, true, true, true, true, true, true, true, true, true, true, true, true, true, true, true, true, true, true, true, true, true, true, true, true, true, true, true, true, true, true, true, true, true, true, true, false, false, false] (by kernel_rfl) ?va1_40 rfl (by kernel_rfl) (by kernel_rfl) (by kernel_rfl) (fun _ _ _ h => h) (by kernel_rfl) ⟨b0, b1, b2, b3⟩ ?hya1_40 ?_
          case hya1_40 => intro w hSw; (try dsimp only at hSw); go_simp; (try with_reducible rfl)
          (try simp only [Act.put, List.setIfInBounds_toArray, List.set_cons_zero, List.set_cons_succ])
          refine rg_call (fuel := 2) 41 #[true, true, true, true, true, true, true, true, true, true, true, true, true, true, true, true, true, true, true, true, true, true, true, true, true, true, true, true, true, true, true, true, true, true, true, true, true, true, true, true, true, true, false, false] (by kernel_rfl) rfl (by kernel_rfl) (by kernel_rfl) (fun K hK => ?_)
          go_simp
          (go_at_call 24; refine (Bk.stays_c (d := oc) HM6.out (Kd.C_below HOk.out.2.1 HP6.out.bel) HOk.out.1 (by have := HSz.out.2.1; omega)).mono ?_; rintro e w7 ⟨rfl, hb⟩; have HP7 := Aside0.mk (HP6.out.below' hb); have hbk := (hb.block _ (blk_lt HBK6.out)).trans HBK6.out; clear b0 b1 b2 b3; have b0 := cells_of_heap hbk 0 _ rfl; have b1 := cells_of_heap hbk 1 _ rfl; have b2 := cells_of_heap hbk 2 _ rfl; have b3 := cells_of_heap hbk 3 _ rfl; clear hb hbk HP6 HBK6 HM6)
          (try dsimp only)
          refine hK _ _ ⟨b0, b1, b2, b3⟩ ?_
          (try simp only [Act.put, List.setIfInBounds_toArray, List.set_cons_zero, List.set_cons_succ])
          clear hK
          refine rg_take (fuel := 1) 42 #[true, true, true, true, true, true, true, true, true, true, true, true, true, true, true, true, true, true, true, true, true, true, true, true, true, true, true, true, true, true, true, true, true, true, true, true, true, true, true, true, true, true, true, false] (by kernel_rfl) ?va1_42 rfl (by kernel_rfl) (by kernel_rfl) (by kernel_rfl) (fun _ _ _ h => h) (by kernel_rfl) ⟨b0, b1, b2, b3⟩ ?hya1_42 ?_
          case hya1_42 => intro w hSw; (try dsimp only at hSw); go_simp; (try with_reducible rfl)
          (try simp only [Act.put, List.setIfInBounds_toArray, List.set_cons_zero, List.set_cons_succ])
          refine rg_take (fuel := 0) 43 #[true, true, true, true, true, true, true, true, true, true, true, true, true, true, true, true, true, true, true, true, true, true, true, true, true, true, true, true, true, true, true, true, true, true, true, true, true, true, true, true, true, true, true, true] (by kernel_rfl) ?va1_43 rfl (by kernel_rfl) (by kernel_rfl) (by kernel_rfl) (fun _ _ _ h => h) (by kernel_rfl) ⟨b0, b1, b2, b3⟩ ?hya1_43 ?_
          case hya1_43 => intro w hSw; (try dsimp only at hSw); go_simp; (try with_reducible rfl)
          (try simp only [Act.put, List.setIfInBounds_toArray, List.set_cons_zero, List.set_cons_succ])
          refine wpAnyH_done (by kernel_rfl) ?_ _
          have HA7 := Aside0.mk (alz_head HA.out (by have := HSz.out.2.1; omega) HE.out)
          clear b0 b1 b2 b3
          go_wp2_with (first
            | (go_at_call 25; refine (HP7.out.fieldsM (by have := HA7.out.ln.1; omega)).mono ?_; rintro e w8 ⟨Af, cf, rfl, hF, hA, hb, hp, _⟩; have HF8 := Aside0.mk hF; have HAf := Aside0.mk (And.intro hA hF.lt); have HG7 := Aside0.mk (HP7.out.lt); have HN7 := Aside0.mk HP7.out.bel.size; have HSz7 : Aside0 (w7.heap.size ≤ w8.heap.size) := ⟨hb.size⟩; have HP8 := Aside0.mk hp; clear hF hA hb hp HP7)
            | (go_at_call 26; refine (HP8.out.trails (by have := HA7.out.ln.2; omega)).mono ?_; rintro e w9 ⟨At, ct, rfl, hF, hA, hb, hp, hf⟩; have HF9 := Aside0.mk (hf.fr HF8.out); have HT9 := Aside0.mk hF; have HAt := Aside0.mk (And.intro hA hF.lt); have HSz8 : Aside0 (w7.heap.size ≤ w8.heap.size ∧ w8.heap.size ≤ w9.heap.size) := ⟨HSz7.out, hb.size⟩; have HP9 := Aside0.mk hp; clear hF hA hb hp hf HP8 HF8)
            | (go_at_call 10; refine (HP9.out.book HF9.out (by have := HA7.out.ln.1; omega) (fun k e => by have h1 := HAf.out.1 k e; have h2 := HAf.out.2 k e; have h3 := HG7.out; have h4 := HN7.out; exact ⟨by omega, .inl (.inr ⟨h1, h2⟩), by omega, by omega⟩)).mono ?_; rintro e w10 ⟨rfl, hp, hf⟩; have HF10 := Aside0.mk (hf.fr HF9.out); have HT10 := Aside0.mk (hf.fr HT9.out); have HP10 := Aside0.mk hp; clear hp hf HP9 HF9 HT9)
            | (go_at_call 10; refine (HP10.out.book HT10.out (by have := HA7.out.ln.2; omega) (fun k e => by have h1 := HAt.out.1 k e; have h2 := HAt.out.2 k e; have h3 := HG7.out; have h4 := HN7.out; have h5 := HSz8.out; exact ⟨by omega, ⟨.inr ⟨h1, h2⟩, fun e2 => by have := HAf.out.2 k e2; omega⟩, by omega, by omega⟩)).mono ?_; rintro e w11 ⟨rfl, hp, hf⟩; have HF11 := Aside0.mk (hf.fr HF10.out); have HT11 := Aside0.mk (hf.fr HT10.out); have HP11 := Aside0.mk hp; clear hp hf HP10 HF10 HT10))
          obtain ⟨bk, Rf, rf, Rt, rt, hrr⟩ := HP11.out.rr
          have HR11 := Aside0.mk (hrr.below (below_drew (Below.refl w11.heap.size w11)))
          have HP11 := Aside0.mk (HP11.out.below' (below_drew (Below.refl w11.heap.size w11)))
          have HF11 := Aside0.mk (Bk.fr_drew HF11.out)
          have HT11 := Aside0.mk (Bk.fr_drew HT11.out)
          have c1 := cells_of_heap HR11.out.hp 1 (.int .i64 s'.a.status) rfl
          have c4 := cells_of_heap HR11.out.hp 4 (.slice Rf s'.a.fields.length rf) rfl
          have c5 := cells_of_heap HR11.out.hp 5 (.slice Rt s'.a.trails.length rt) rfl
          have c6 := cells_of_heap HR11.out.hp 6 (.bool s'.a.done) rfl
          clear hrr
          refine rg_start (S := (fun W => W.cell? ⟨gr, 1, none⟩ = some (.int .i64 s'.a.status) ∧ W.cell? ⟨gr, 4, none⟩ = some (.slice Rf s'.a.fields.length rf) ∧ W.cell? ⟨gr, 5, none⟩ = some (.slice Rt s'.a.trails.length rt) ∧ W.cell? ⟨gr, 6, none⟩ = some (.bool s'.a.done))) (by kernel_rfl) ⟨c1, c4, c5, c6⟩ 34 #[false, false, false, false, false, false, false, false, false, false, false, false, false, false, false, false, false, false, false, false, false, false, false, false, false, false, false, false, false, false, false, false, false, false] (by kernel_rfl) (by kernel_rfl) ?_
          refine rg_take (fuel := 33) 0 #[true, false, false, false, false, false, false, false, false, false, false, false, false, false, false, false, false, false, false, false, false, false, false, false, false, false, false, false, false, false, false, false, false, false] (by kernel_rfl) ?vb1_0 rfl (by kernel_rfl) (by kernel_rfl) (by kernel_rfl) (fun _ _ _ h => h) (by kernel_rfl) ⟨c1, c4, c5, c6⟩ ?hyb1_0 ?_
          case hyb1_0 => intro w hSw; (try dsimp only at hSw); go_simp; (try with_reducible rfl)
          (try simp only [Act.put, List.setIfInBounds_toArray, List.set_cons_zero, List.set_cons_succ])
          refine rg_take (fuel := 32) 2 #[true, false, true, false, false, false, false, false, false, false, false, false, false, false, false, false, false, false, false, false, false, false, false, false, false, false, false, false, false, false, false, false, false, false] (by kernel_rfl) ?vb1_2 rfl (by kernel_rfl) (by kernel_rfl) (by kernel_rfl) (fun _ _ _ h => h) (by kernel_rfl) ⟨c1, c4, c5, c6⟩ ?hyb1_2 ?_
          case hyb1_2 => intro w hSw; (try dsimp only at hSw); go_simp; (try with_reducible rfl)
          (try simp only [Act.put, List.setIfInBounds_toArray, List.set_cons_zero, List.set_cons_succ])
          refine rg_take (fuel := 31) 3 #[true, false, true, true, false, false, false, false, false, false, false, false, false, false, false, false, false, false, false, false, false, false, false, false, false, false, false, false, false, false, false, false, false, false] (by kernel_rfl) ?vb1_3 rfl (by kernel_rfl) (by kernel_rfl) (by kernel_rfl) (fun _ _ _ h => h) (by kernel_rfl) ⟨c1, c4, c5, c6⟩ ?hyb1_3 ?_
          case hyb1_3 => intro w hSw; (try dsimp only at hSw); go_simp; (try with_reducible rfl)
          (try simp only [Act.put, List.setIfInBounds_toArray, List.set_cons_zero, List.set_cons_succ])
          refine rg_take (fuel := 30) 4 #[true, false, true, true, true, false, false, false, false, false, false, false, false, false, false, false, false, false, false, false, false, false, false, false, false, false, false, false, false, false, false, false, false, false] (by kernel_rfl) ?vb1_4 rfl (by kernel_rfl) (by kernel_rfl) (by kernel_rfl) (fun _ _ _ h => h) (by kernel_rfl) ⟨c1, c4, c5, c6⟩ ?hyb1_4 ?_
          case hyb1_4 => intro w hSw; (try dsimp only at hSw); go_simp; (try with_reducible rfl)
          (try simp only [Act.put, List.setIfInBounds_toArray, List.set_cons_zero, List.set_cons_succ])
          refine rg_take (fuel := 29) 5 #[true, false, true, true, true, true, false, false, false, false, false, false, false, false, false, false, false, false, false, false, false, false, false, false, false, false, false, false, false, false, false, false, false, false] (by kernel_rfl) ?vb1_5 rfl (by kernel_rfl) (by kernel_rfl) (by kernel_rfl) (fun _ _ _ h => h) (by kernel_rfl) ⟨c1, c4, c5, c6⟩ ?hyb1_5 ?_
          case hyb1_5 => intro w hSw; (try dsimp only at hSw); go_simp; (try with_reducible rfl)
          (try simp only [Act.put, List.setIfInBounds_toArray, List.set_cons_zero, List.set_cons_succ])
          refine rg_call (fuel := 28) 1 #[true, true, true, true, true, true, false, false, false, false, false, false, false, false, false, false, false, false, false, false, false, false, false, false, false, false, false, false, false, false, false, false, false, false] (by kernel_rfl) rfl (by kernel_rfl) (by kernel_rfl) (fun K hK => ?_)
          go_simp
          (go_at_call 27; refine (HP11.out.status).mono ?_; rintro e w12 ⟨rfl, hb⟩; have HR12 := Aside0.mk (HR11.out.below hb); clear c1 c4 c5 c6; have c1 := cells_of_heap HR12.out.hp 1 (.int .i64 s'.a.status) rfl; have c4 := cells_of_heap HR12.out.hp 4 (.slice Rf s'.a.fields.length rf) rfl; have c5 := cells_of_heap HR12.out.hp 5 (.slice Rt s'.a.trails.length rt) rfl; have c6 := cells_of_heap HR12.out.hp 6 (.bool s'.a.done) rfl; have HP12 := Aside0.mk (HP11.out.below' hb); have HF12 := Aside0.mk (HF11.out.keep fun g' e => hb.block g' (HF11.out.lt g' e)); have HT12 := Aside0.mk (HT11.out.keep fun g' e => hb.block g' (HT11.out.lt g' e)); clear hb HR11 HP11 HF11 HT11)
          (try dsimp only)
          refine hK _ _ ⟨c1, c4, c5, c6⟩ ?_
          (try simp only [Act.put, List.setIfInBounds_toArray, List.set_cons_zero, List.set_cons_succ])
          clear hK
          refine rg_take (fuel := 27) 6 #[true, true, true, true, true, true, true, false, false, false, false, false, false, false, false, false, false, false, false, false, false, false, false, false, false, false, false, false, false, false, false, false, false, false] (by kernel_rfl) ?vb1_6 rfl (by kernel_rfl) (by kernel_rfl) (by kernel_rfl) (fun _ _ _ h => h) (by kernel_rfl) ⟨c1, c4, c5, c6⟩ ?hyb1_6 ?_
          case hyb1_6 => intro w hSw; (try dsimp only at hSw); go_simp; (try with_reducible rfl)
          (try simp only [Act.put, List.setIfInBounds_toArray, List.set_cons_zero, List.set_cons_succ])
          refine rg_take (fuel := 26) 7 #[true, true, true, true, true, true, true, true, false, false, false, false, false, false, false, false, false, false, false, false, false, false, false, false, false, false, false, false, false, false, false, false, false, false] (by kernel_rfl) ?vb1_7 rfl (by kernel_rfl) (by kernel_rfl) (by kernel_rfl) (fun _ _ _ h => h) (by kernel_rfl) ⟨c1, c4, c5, c6⟩ ?hyb1_7 ?_
          case hyb1_7 => intro w hSw; (try dsimp only at hSw); go_simp; (try with_reducible rfl)
          (try simp only [Act.put, List.setIfInBounds_toArray, List.set_cons_zero, List.set_cons_succ])
          refine rg_take (fuel := 25) 8 #[true, true, true, true, true, true, true, true, true, false, false, false, false, false, false, false, false, false, false, false, false, false, false, false, false, false, false, false, false, false, false, false, false, false] (by kernel_rfl) ?vb1_8 rfl (by kernel_rfl) (by kernel_rfl) (by kernel_rfl) (fun _ _ _ h => h) (by kernel_rfl) ⟨c1, c4, c5, c6⟩ ?hyb1_8 ?_
          case hyb1_8 => intro w hSw; (try dsimp only at hSw); go_simp; (try with_reducible rfl)
          (try simp only [Act.put, List.setIfInBounds_toArray, List.set_cons_zero, List.set_cons_succ])
          refine rg_take (fuel := 24) 9 #[true, true, true, true, true, true, true, true, true, true, false, false, false, false, false, false, false, false, false, false, false, false, false, false, false, false, false, false, false, false, false, false, false, false] (by kernel_rfl) ?vb1_9 rfl (by kernel_rfl) (by kernel_rfl) (by kernel_rfl) (fun _ _ _ h => h) (by kernel_rfl) ⟨c1, c4, c5, c6⟩ ?hyb1_9 ?_
          case hyb1_9 => intro w hSw; (try dsimp only at hSw); go_simp; (try with_reducible rfl)
          (try simp only [Act.put, List.setIfInBounds_toArray, List.set_cons_zero, List.set_cons_succ])
          refine rg_take (fuel := 23) 10 #[true, true, true, true, true, true, true, true, true, true, true, false, false, false, false, false, false, false, false, false, false, false, false, false, false, false, false, false, false, false, false, false, false, false] (by kernel_rfl) ?vb1_10 rfl (by kernel_rfl) (by kernel_rfl) (by kernel_rfl) (fun _ _ _ h => h) (by kernel_rfl) ⟨c1, c4, c5, c6⟩ ?hyb1_10 ?_
          case hyb1_10 => intro w hSw; (try dsimp only at hSw); go_simp; (try with_reducible rfl)
          (try simp only [Act.put, List.setIfInBounds_toArray, List.set_cons_zero, List.set_cons_succ])
          refine rg_take (fuel := 22) 11 #[true, true, true, true, true, true, true, true, true, true, true, true, false, false, false, false, false, false, false, false, false, false, false, false, false, false, false, false, false, false, false, false, false, false] (by kernel_rfl) ?vb1_11 rfl (by kernel_rfl) (by kernel_rfl) (by kernel_rfl) (fun _ _ _ h => h) (by kernel_rfl) ⟨c1, c4, c5, c6⟩ ?hyb1_11 ?_
          case hyb1_11 => intro w hSw; (try dsimp only at hSw); go_simp; (try with_reducible rfl)
          (try simp only [Act.put, List.setIfInBounds_toArray, List.set_cons_zero, List.set_cons_succ])
          refine rg_take (fuel := 21) 12 #[true, true, true, true, true, true, true, true, true, true, true, true, true, false, false, false, false, false, false, false, false, false, false, false, false, false, false, false, false, false, false, false, false, false] (by kernel_rfl) ?vb1_12 rfl (by kernel_rfl) (by kernel_rfl) (by kernel_rfl) (fun _ _ _ h => h) (by kernel_rfl) ⟨c1, c4, c5, c6⟩ ?hyb1_12 ?_
          case hyb1_12 => intro w hSw; (try dsimp only at hSw); go_simp; (try with_reducible rfl)
          (try simp only [Act.put, List.setIfInBounds_toArray, List.set_cons_zero, List.set_cons_succ])
          refine rg_call (fuel := 20) 13 #[true, true, true, true, true, true, true, true, true, true, true, true, true, true, false, false, false, false, false, false, false, false, false, false, false, false, false, false, false, false, false, false, false, false] (by kernel_rfl) rfl (by kernel_rfl) (by kernel_rfl) (fun K hK => ?_)
          go_simp
          (go_at_call 11; refine (Bk.same_c (c := cf) (d := rf) (HF12.out.cr.c (by have := HA7.out.ln.1; omega)) HF12.out.room (HR12.out.rf.c (by have := HA7.out.ln.1; omega)).1 (HR12.out.rf.c (by have := HA7.out.ln.1; omega)).2 (by have := HA7.out.ln.1; omega)).mono ?_; rintro e w13 ⟨rfl, hb⟩; have HR13 := Aside0.mk (HR12.out.below hb); clear c1 c4 c5 c6; have c1 := cells_of_heap HR13.out.hp 1 (.int .i64 s'.a.status) rfl; have c4 := cells_of_heap HR13.out.hp 4 (.slice Rf s'.a.fields.length rf) rfl; have c5 := cells_of_heap HR13.out.hp 5 (.slice Rt s'.a.trails.length rt) rfl; have c6 := cells_of_heap HR13.out.hp 6 (.bool s'.a.done) rfl; have HP13 := Aside0.mk (HP12.out.below' hb); have HF13 := Aside0.mk (HF12.out.keep fun g' e => hb.block g' (HF12.out.lt g' e)); have HT13 := Aside0.mk (HT12.out.keep fun g' e => hb.block g' (HT12.out.lt g' e)); clear hb HR12 HP12 HF12 HT12)
          (try dsimp only)
          refine hK _ _ ⟨c1, c4, c5, c6⟩ ?_
          (try simp only [Act.put, List.setIfInBounds_toArray, List.set_cons_zero, List.set_cons_succ])
          clear hK
          refine rg_take (fuel := 19) 14 #[true, true, true, true, true, true, true, true, true, true, true, true, true, true, true, false, false, false, false, false, false, false, false, false, false, false, false, false, false, false, false, false, false, false] (by kernel_rfl) ?vb1_14 rfl (by kernel_rfl) (by kernel_rfl) (by kernel_rfl) (fun _ _ _ h => h) (by kernel_rfl) ⟨c1, c4, c5, c6⟩ ?hyb1_14 ?_
          case hyb1_14 => intro w hSw; (try dsimp only at hSw); go_simp; (try with_reducible rfl)
          (try simp only [Act.put, List.setIfInBounds_toArray, List.set_cons_zero, List.set_cons_succ])
          refine rg_take (fuel := 18) 15 #[true, true, true, true, true, true, true, true, true, true, true, true, true, true, true, true, false, false, false, false, false, false, false, false, false, false, false, false, false, false, false, false, false, false] (by kernel_rfl) ?vb1_15 rfl (by kernel_rfl) (by kernel_rfl) (by kernel_rfl) (fun _ _ _ h => h) (by kernel_rfl) ⟨c1, c4, c5, c6⟩ ?hyb1_15 ?_
          case hyb1_15 => intro w hSw; (try dsimp only at hSw); go_simp; (try with_reducible rfl)
          (try simp only [Act.put, List.setIfInBounds_toArray, List.set_cons_zero, List.set_cons_succ])
          refine rg_take (fuel := 17) 16 #[true, true, true, true, true, true, true, true, true, true, true, true, true, true, true, true, true, false, false, false, false, false, false, false, false, false, false, false, false, false, false, false, false, false] (by kernel_rfl) ?vb1_16 rfl (by kernel_rfl) (by kernel_rfl) (by kernel_rfl) (fun _ _ _ h => h) (by kernel_rfl) ⟨c1, c4, c5, c6⟩ ?hyb1_16 ?_
          case hyb1_16 => intro w hSw; (try dsimp only at hSw); go_simp; (try with_reducible rfl)
          (try simp only [Act.put, List.setIfInBounds_toArray, List.set_cons_zero, List.set_cons_succ])
          refine rg_take (fuel := 16) 17 #[true, true, true, true, true, true, true, true, true, true, true, true, true, true, true, true, true, true, false, false, false, false, false, false, false, false, false, false, false, false, false, false, false, false] (by kernel_rfl) ?vb1_17 rfl (by kernel_rfl) (by kernel_rfl) (by kernel_rfl) (fun _ _ _ h => h) (by kernel_rfl) ⟨c1, c4, c5, c6⟩ ?hyb1_17 ?_
          case hyb1_17 => intro w hSw; (try dsimp only at hSw); go_simp; (try with_reducible rfl)
          (try simp only [Act.put, List.setIfInBounds_toArray, List.set_cons_zero, List.set_cons_succ])
          refine rg_take (fuel := 15) 18 #[true, true, true, true, true, true, true, true, true, true, true, true, true, true, true, true, true, true, true, false, false, false, false, false, false, false, false, false, false, false, false, false, false, false] (by kernel_rfl) ?vb1_18 rfl (by kernel_rfl) (by kernel_rfl) (by kernel_rfl) (fun _ _ _ h => h) (by kernel_rfl) ⟨c1, c4, c5, c6⟩ ?hyb1_18 ?_
          case hyb1_18 => intro w hSw; (try dsimp only at hSw); go_simp; (try with_reducible rfl)
          (try simp only [Act.put, List.setIfInBounds_toArray, List.set_cons_zero, List.set_cons_succ])
          refine rg_take (fuel := 14) 19 #[true, true, true, true, true, true, true, true, true, true, true, true, true, true, true, true, true, true, true, true, false, false, false, false, false, false, false, false, false, false, false, false, false, false] (by kernel_rfl) ?vb1_19 rfl (by kernel_rfl) (by kernel_rfl) (by kernel_rfl) (fun _ _ _ h => h) (by kernel_rfl) ⟨c1, c4, c5, c6⟩ ?hyb1_19 ?_
          case hyb1_19 => intro w hSw; (try dsimp only at hSw); go_simp; (try with_reducible rfl)
          (try simp only [Act.put, List.setIfInBounds_toArray, List.set_cons_zero, List.set_cons_succ])
          refine rg_take (fuel := 13) 20 #[true, true, true, true, true, true, true, true, true, true, true, true, true, true, true, true, true, true, true, true, true, false, false, false, false, false, false, false, false, false, false, false, false, false] (by kernel_rfl) ?vb1_20 rfl (by kernel_rfl) (by kernel_rfl) (by kernel_rfl) (fun _ _ _ h => h) (by kernel_rfl) ⟨c1, c4, c5, c6⟩ ?hyb1_20 ?_
          case hyb1_20 => intro w hSw; (try dsimp only at hSw); go_simp; (try with_reducible rfl)
          (try simp only [Act.put, List.setIfInBounds_toArray, List.set_cons_zero, List.set_cons_succ])
          refine rg_take (fuel := 12) 21 #[true, true, true, true, true, true, true, true, true, true, true, true, true, true, true, true, true, true, true, true, true, true, false, false, false, false, false, false, false, false, false, false, false, false] (by kernel_rfl) ?vb1_21 rfl (by kernel_rfl) (by kernel_rfl) (by kernel_rfl) (fun _ _ _ h => h) (by kernel_rfl) ⟨c1, c4, c5, c6⟩ ?hyb1_21 ?_
          case hyb1_21 => intro w hSw; (try dsimp only at hSw); go_simp; (try with_reducible rfl)
          (try simp only [Act.put, List.setIfInBounds_toArray, List.set_cons_zero, List.set_cons_succ])
          refine rg_call (fuel := 11) 22 #[true, true, true, true, true, true, true, true, true, true, true, true, true, true, true, true, true, true, true, true, true, true, true, false, false, false, false, false, false, false, false, false, false, false] (by kernel_rfl) rfl (by kernel_rfl) (by kernel_rfl) (fun K hK => ?_)
          go_simp
          (go_at_call 11; refine (Bk.same_c (c := ct) (d := rt) (HT13.out.cr.c (by have := HA7.out.ln.2; omega)) HT13.out.room (HR13.out.rt.c (by have := HA7.out.ln.2; omega)).1 (HR13.out.rt.c (by have := HA7.out.ln.2; omega)).2 (by have := HA7.out.ln.2; omega)).mono ?_; rintro e w14 ⟨rfl, hb⟩; have HR14 := Aside0.mk (HR13.out.below hb); clear c1 c4 c5 c6; have c1 := cells_of_heap HR14.out.hp 1 (.int .i64 s'.a.status) rfl; have c4 := cells_of_heap HR14.out.hp 4 (.slice Rf s'.a.fields.length rf) rfl; have c5 := cells_of_heap HR14.out.hp 5 (.slice Rt s'.a.trails.length rt) rfl; have c6 := cells_of_heap HR14.out.hp 6 (.bool s'.a.done) rfl; have HP14 := Aside0.mk (HP13.out.below' hb); have HF14 := Aside0.mk (HF13.out.keep fun g' e => hb.block g' (HF13.out.lt g' e)); have HT14 := Aside0.mk (HT13.out.keep fun g' e => hb.block g' (HT13.out.lt g' e)); clear hb HR13 HP13 HF13 HT13)
          (try dsimp only)
          refine hK _ _ ⟨c1, c4, c5, c6⟩ ?_
          (try simp only [Act.put, List.setIfInBounds_toArray, List.set_cons_zero, List.set_cons_succ])
          clear hK
          refine rg_take (fuel := 10) 23 #[true, true, true, true, true, true, true, true, true, true, true, true, true, true, true, true, true, true, true, true, true, true, true, true, false, false, false, false, false, false, false, false, false, false] (by kernel_rfl) ?vb1_23 rfl (by kernel_rfl) (by kernel_rfl) (by kernel_rfl) (fun _ _ _ h => h) (by kernel_rfl) ⟨c1, c4, c5, c6⟩ ?hyb1_23 ?_
          case hyb1_23 => intro w hSw; (try dsimp only at hSw); go_simp; (try with_reducible rfl)
          (try simp only [Act.put, List.setIfInBounds_toArray, List.set_cons_zero, List.set_cons_succ])
          refine rg_take (fuel := 9) 24 #[true, true, true, true, true, true, true, true, true, true, true, true, true, true, true, true, true, true, true, true, true, true, true, true, true, false, false, false, false, false, false, false, false, false] (by kernel_rfl) ?vb1_24 rfl (by kernel_rfl) (by kernel_rfl) (by kernel_rfl) (fun _ _ _ h => h) (by kernel_rfl) ⟨c1, c4, c5, c6⟩ ?hyb1_24 ?_
          case hyb1_24 => intro w hSw; (try dsimp only at hSw); go_simp; (try with_reducible rfl)
          (try simp only [Act.put, List.setIfInBounds_toArray, List.set_cons_zero, List.set_cons_succ])
          refine rg_take (fuel := 8) 25 #[true, true, true, true, true, true, true, true, true, true, true, true, true, true, true, true, true, true, true, true, true, true, true, true, true, true, false, false, false, false, false, false, false, false] (by kernel_rfl) ?vb1_25 rfl (by kernel_rfl) (by kernel_rfl) (by kernel_rfl) (fun _ _ _ h => h) (by kernel_rfl) ⟨c1, c4, c5, c6⟩ ?hyb1_25 ?_
          case hyb1_25 => intro w hSw; (try dsimp only at hSw); go_simp; (try with_reducible rfl)
          (try simp only [Act.put, List.setIfInBounds_toArray, List.set_cons_zero, List.set_cons_succ])
          refine rg_take (fuel := 7) 26 #[true, true, true, true, true, true, true, true, true, true, true, true, true, true, true, true, true, true, true, true, true, true, true, true, true, true, true, false, false, false, false, false, false, false] (by kernel_rfl) ?vb1_26 rfl (by kernel_rfl) (by kernel_rfl) (by kernel_rfl) (fun _ _ _ h => h) (by kernel_rfl) ⟨c1, c4, c5, c6⟩ ?hyb1_26 ?_
          case hyb1_26 => intro w hSw; (try dsimp only at hSw); go_simp; (try with_reducible rfl)
          (try simp only [Act.put, List.setIfInBounds_toArray, List.set_cons_zero, List.set_cons_succ])
          refine rg_take (fuel := 6) 28 #[true, true, true, true, true, true, true, true, true, true, true, true, true, true, true, true, true, true, true, true, true, true, true, true, true, true, true, false, true, false, false, false, false, false] (by kernel_rfl) ?vb1_28 rfl (by kernel_rfl) (by kernel_rfl) (by kernel_rfl) (fun _ _ _ h => h) (by kernel_rfl) ⟨c1, c4, c5, c6⟩ ?hyb1_28 ?_
          case hyb1_28 => intro w hSw; (try dsimp only at hSw); go_simp; (try with_reducible rfl)
          (try simp only [Act.put, List.setIfInBounds_toArray, List.set_cons_zero, List.set_cons_succ])
          refine rg_take (fuel := 5) 29 #[true, true, true, true, true, true, true, true, true, true, true, true, true, true, true, true, true, true, true, true, true, true, true, true, true, true, true, false, true, true, false, false, false, false] (by kernel_rfl) ?vb1_29 rfl (by kernel_rfl) (by kernel_rfl) (by kernel_rfl) (fun _ _ _ h => h) (by kernel_rfl) ⟨c1, c4, c5, c6⟩ ?hyb1_29 ?_
          case hyb1_29 => intro w hSw; (try dsimp only at hSw); go_simp; (try with_reducible rfl)
          (try simp only [Act.put, List.setIfInBounds_toArray, List.set_cons_zero, List.set_cons_succ])
          refine rg_take (fuel := 4) 30 #[true, true, true, true, true, true, true, true, true, true, true, true, true, true, true, true, true, true, true, true, true, true, true, true, true, true, true, false, true, true, true, false, false, false] (by kernel_rfl) ?vb1_30 rfl (by kernel_rfl) (by kernel_rfl) (by kernel_rfl) (fun _ _ _ h => h) (by kernel_rfl) ⟨c1, c4, c5, c6⟩ ?hyb1_30 ?_
          case hyb1_30 => intro w hSw; (try dsimp only at hSw); go_simp; (try with_reducible rfl)
          (try simp only [Act.put, List.setIfInBounds_toArray, List.set_cons_zero, List.set_cons_succ])
          refine rg_take (fuel := 3) 31 #[true, true, true, true, true, true, true, true, true, true, true, true, true, true, true, true, true, true, true, true, true, true, true, true, true, true, true, false, true, true, true, true, false, false] (by kernel_rfl) ?vb1_31 rfl (by kernel_rfl) (by kernel_rfl) (by kernel_rfl) (fun _ _ _ h => h) (by kernel_rfl) ⟨c1, c4, c5, c6⟩ ?hyb1_31 ?_
          case hyb1_31 => intro w hSw; (try dsimp only at hSw); go_simp; (try with_reducible rfl)
          (try simp only [Act.put, List.setIfInBounds_toArray, List.set_cons_zero, List.set_cons_succ])
          refine rg_call (fuel := 2) 27 #[true, true, true, true, true, true, true, true, true, true, true, true, true, true, true, true, true, true, true, true, true, true, true, true, true, true, true, true, true, true, true, true, false, false] (by kernel_rfl) rfl (by kernel_rfl) (by kernel_rfl) (fun K hK => ?_)
          go_simp
          (go_at_call 28; refine (HP14.out.done).mono ?_; rintro e w15 ⟨rfl, hb⟩; have HR15 := Aside0.mk (HR14.out.below hb); clear c1 c4 c5 c6; have c1 := cells_of_heap HR15.out.hp 1 (.int .i64 s'.a.status) rfl; have c4 := cells_of_heap HR15.out.hp 4 (.slice Rf s'.a.fields.length rf) rfl; have c5 := cells_of_heap HR15.out.hp 5 (.slice Rt s'.a.trails.length rt) rfl; have c6 := cells_of_heap HR15.out.hp 6 (.bool s'.a.done) rfl; have HP15 := Aside0.mk (HP14.out.below' hb); have HF15 := Aside0.mk (HF14.out.keep fun g' e => hb.block g' (HF14.out.lt g' e)); have HT15 := Aside0.mk (HT14.out.keep fun g' e => hb.block g' (HT14.out.lt g' e)); clear hb HR14 HP14 HF14 HT14)
          (try dsimp only)
          refine hK _ _ ⟨c1, c4, c5, c6⟩ ?_
          (try simp only [Act.put, List.setIfInBounds_toArray, List.set_cons_zero, List.set_cons_succ])
          clear hK
          refine rg_take (fuel := 1) 32 #[true, true, true, true, true, true, true, true, true, true, true, true, true, true, true, true, true, true, true, true, true, true, true, true, true, true, true, true, true, true, true, true, true, false] (by kernel_rfl) ?vb1_32 rfl (by kernel_rfl) (by kernel_rfl) (by kernel_rfl) (fun _ _ _ h => h) (by kernel_rfl) ⟨c1, c4, c5, c6⟩ ?hyb1_32 ?_
          case hyb1_32 => intro w hSw; (try dsimp only at hSw); go_simp; (try with_reducible rfl)
          (try simp only [Act.put, List.setIfInBounds_toArray, List.set_cons_zero, List.set_cons_succ])
          refine rg_take (fuel := 0) 33 #[true, true, true, true, true, true, true, true, true, true, true, true, true, true, true, true, true, true, true, true, true, true, true, true, true, true, true, true, true, true, true, true, true, true] (by kernel_rfl) ?vb1_33 rfl (by kernel_rfl) (by kernel_rfl) (by kernel_rfl) (fun _ _ _ h => h) (by kernel_rfl) ⟨c1, c4, c5, c6⟩ ?hyb1_33 ?_
          case hyb1_33 => intro w hSw; (try dsimp only at hSw); go_simp; (try with_reducible rfl)
          (try simp only [Act.put, List.setIfInBounds_toArray, List.set_cons_zero, List.set_cons_succ])
          refine wpAnyH_done (by kernel_rfl) ?_ _
          clear c1 c4 c5 c6
          go_wp2
          go_roundg (gk - 1)
          case measure => have := HJ.out; have := HJ3.out; omega
          case rel => exact ⟨j + 1, s', _, congrArg (Value.int .i64) HWJ.out, ⟨by have := HJ.out; omega, by have := HJ.out; have := HJ3.out; omega⟩, HA7, HP15⟩
        by_cases hk2 : kd = 2
        · have q5 : decide (kd = 1) = false := decide_eq_false hk
          have q6 : (kd == 1) = false := beq_eq_false_iff_ne.2 hk
          have q7 : decide (kd = 2) = true := decide_eq_true hk2
          have q8 : (kd == 2) = true := beq_iff_eq.2 hk2
          obtain ⟨r, s', hE⟩ : ∃ r s', dataP s on fi = (r, s') := ⟨_, _, rfl⟩
          have HE := Aside0.mk hE
          have HBd : Aside0 (-9223372036854775808 ≤ s.a.came + on ∧ s.a.came + on ≤ 9223372036854775807) := ⟨by have := HA.out.iv.c0; have := HA.out.ca; have := HOk.out.2.2; have := HN.out; have := HL.out; have := HJ3.out; omega⟩
          clear hk hk2 hE
          go_wp2_with (first
            | (go_at_call 18; refine (HFw.out _ (below_alloc HP.out.bel _)).mono ?_; rintro e w3 ⟨rfl, hb⟩; have hbk := (hb.block _ (blk_lt (heap_alloc_new wr _))).trans (heap_alloc_new wr (.cells #[.int .i64 kd, .int .i64 on, .bool fi, .slice oA ol.length oc] 51)); have b1 := cells_of_heap hbk 1 _ rfl; have b3 := cells_of_heap hbk 3 _ rfl; have HBK3 := Aside0.mk hbk; have HP3 := Aside0.mk ((HP.out.below' (below_alloc (Below.refl _ _) _)).below' hb); clear hb hbk HFw HP)
            | (go_at_call 19; refine (Bk.lent_c (c := oc) (Kd.C_below HOk.out.2.1 HP3.out.bel) (by have := HSz.out.2.1; omega)).mono ?_; rintro e w4 ⟨gm, cm, rfl, hF, _, hb⟩; have hbk := (hb.block _ (blk_lt HBK3.out)).trans HBK3.out; clear b1 b3; have b0 := cells_of_heap hbk 0 _ rfl; have b1 := cells_of_heap hbk 1 _ rfl; have b2 := cells_of_heap hbk 2 _ rfl; have b3 := cells_of_heap hbk 3 _ rfl; have HBK4 := Aside0.mk hbk; have HP4 := Aside0.mk (HP3.out.below' hb); have HM4 := Aside0.mk hF; clear hb hbk hF HP3 HBK3))
          refine rg_start (S := (fun W => W.cell? ⟨wr.heap.size, 0, none⟩ = some (.int .i64 kd) ∧ W.cell? ⟨wr.heap.size, 1, none⟩ = some (.int .i64 on) ∧ W.cell? ⟨wr.heap.size, 2, none⟩ = some (.bool fi) ∧ W.cell? ⟨wr.heap.size, 3, none⟩ = some (.slice oA ol.length oc))) (by kernel_rfl) ⟨b0, b1, b2, b3⟩ 44 #[false, false, false, false, false, false, false, false, false, false, false, false, false, false, false, false, false, false, false, false, false, false, false, false, false, false, false, false, false, false, false, false, false, false, false, false, false, false, false, false, false, false, false, false] (by kernel_rfl) (by kernel_rfl) ?_
          have HP4 := Aside0.mk (HP4.out.below' (below_drew (Below.refl w4.heap.size w4)))
          have HM4 := Aside0.mk (Bk.fr_drew HM4.out)
          have HBK4 : Aside0 (w4.drew.heap[wr.heap.size]? = some (.cells #[.int .i64 kd, .int .i64 on, .bool fi, .slice oA ol.length oc] 51)) := ⟨HBK4.out⟩
          refine rg_take (fuel := 43) 0 #[true, false, false, false, false, false, false, false, false, false, false, false, false, false, false, false, false, false, false, false, false, false, false, false, false, false, false, false, false, false, false, false, false, false, false, false, false, false, false, false, false, false, false, false] (by kernel_rfl) ?va2_0 rfl (by kernel_rfl) (by kernel_rfl) (by kernel_rfl) (fun _ _ _ h => h) (by kernel_rfl) ⟨b0, b1, b2, b3⟩ ?hya2_0 ?_
          case hya2_0 => intro w hSw; (try dsimp only at hSw); go_simp; (try with_reducible rfl)
          (try simp only [Act.put, List.setIfInBounds_toArray, List.set_cons_zero, List.set_cons_succ])
          refine rg_take (fuel := 42) 1 #[true, true, false, false, false, false, false, false, false, false, false, false, false, false, false, false, false, false, false, false, false, false, false, false, false, false, false, false, false, false, false, false, false, false, false, false, false, false, false, false, false, false, false, false] (by kernel_rfl) ?va2_1 rfl (by kernel_rfl) (by kernel_rfl) (by kernel_rfl) (fun _ _ _ h => h) (by kernel_rfl) ⟨b0, b1, b2, b3⟩ ?hya2_1 ?_
          case hya2_1 => intro w hSw; (try dsimp only at hSw); go_simp; (try with_reducible rfl)
          (try simp only [Act.put, List.setIfInBounds_toArray, List.set_cons_zero, List.set_cons_succ])
          refine rg_take (fuel := 41) 2 #[true, true, true, false, false, false, false, false, false, false, false, false, false, false, false, false, false, false, false, false, false, false, false, false, false, false, false, false, false, false, false, false, false, false, false, false, false, false, false, false, false, false, false, false] (by kernel_rfl) ?va2_2 rfl (by kernel_rfl) (by kernel_rfl) (by kernel_rfl) (fun _ _ _ h => h) (by kernel_rfl) ⟨b0, b1, b2, b3⟩ ?hya2_2 ?_
          case hya2_2 => intro w hSw; (try dsimp only at hSw); go_simp; (try with_reducible rfl)
          (try simp only [Act.put, List.setIfInBounds_toArray, List.set_cons_zero, List.set_cons_succ])
          refine rg_take (fuel := 40) 3 #[true, true, true, true, false, false, false, false, false, false, false, false, false, false, false, false, false, false, false, false, false, false, false, false, false, false, false, false, false, false, false, false, false, false, false, false, false, false, false, false, false, false, false, false] (by kernel_rfl) ?va2_3 rfl (by kernel_rfl) (by kernel_rfl) (by kernel_rfl) (fun _ _ _ h => h) (by kernel_rfl) ⟨b0, b1, b2, b3⟩ ?hya2_3 ?_
          case hya2_3 => intro w hSw; (try dsimp only at hSw); go_simp; (try with_reducible rfl)
          (try simp only [Act.put, List.setIfInBounds_toArray, List.set_cons_zero, List.set_cons_succ])
          refine rg_skip (fuel := 39) 4 #[true, true, true, true, true, false, false, false, false, false, false, false, false, false, false, false, false, false, false, false, false, false, false, false, false, false, false, false, false, false, false, false, false, false, false, false, false, false, false, false, false, false, false, false] (by kernel_rfl) rfl (by kernel_rfl) (by kernel_rfl) (by kernel_rfl) (fun _ _ _ h => h) (by kernel_rfl) ⟨b0, b1, b2, b3⟩ ?_
          (try simp only [Act.put, List.setIfInBounds_toArray, List.set_cons_zero, List.set_cons_succ])
          refine rg_skip (fuel := 38) 5 #[true, true, true, true, true, true, false, false, false, false, false, false, false, false, false, false, false, false, false, false, false, false, false, false, false, false, false, false, false, false, false, false, false, false, false, false, false, false, false, false, false, false, false, false] (by kernel_rfl) rfl (by kernel_rfl) (by kernel_rfl) (by kernel_rfl) (fun _ _ _ h => h) (by kernel_rfl) ⟨b0, b1, b2, b3⟩ ?_
          (try simp only [Act.put, List.setIfInBounds_toArray, List.set_cons_zero, List.set_cons_succ])
          refine rg_skip (fuel := 37) 6 #[true, true, true, true, true, true, true, false, false, false, false, false, false, false, false, false, false, false, false, false, false, false, false, false, false, false, false, false, false, false, false, false, false, false, false, false, false, false, false, false, false, false, false, false] (by kernel_rfl) rfl (by kernel_rfl) (by kernel_rfl) (by kernel_rfl) (fun _ _ _ h => h) (by kernel_rfl) ⟨b0, b1, b2, b3⟩ ?_
          (try simp only [Act.put, List.setIfInBounds_toArray, List.set_cons_zero, List.set_cons_succ])
          refine rg_skip (fuel := 36) 7 #[true, true, true, true, true, true, true, true, false, false, false, false, false, false, false, false, false, false, false, false, false, false, false, false, false, false, false, false, false, false, false, false, false, false, false, false, false, false, false, false, false, false, false, false] (by kernel_rfl) rfl (by kernel_rfl) (by kernel_rfl) (by kernel_rfl) (fun _ _ _ h => h) (by kernel_rfl) ⟨b0, b1, b2, b3⟩ ?_
          (try simp only [Act.put, List.setIfInBounds_toArray, List.set_cons_zero, List.set_cons_succ])
          refine rg_skip (fuel := 35) 9 #[true, true, true, true, true, true, true, true, false, true, false, false, false, false, false, false, false, false, false, false, false, false, false, false, false, false, false, false, false, false, false, false, false, false, false, false, false, false, false, false, false, false, false, false] (by kernel_rfl) rfl (by kernel_rfl) (by kernel_rfl) (by kernel_rfl) (fun _ _ _ h => h) (by kernel_rfl) ⟨b0, b1, b2, b3⟩ ?_
          (try simp only [Act.put, List.setIfInBounds_toArray, List.set_cons_zero, List.set_cons_succ])
          refine rg_skip (fuel := 34) 10 #[true, true, true, true, true, true, true, true, false, true, true, false, false, false, false, false, false, false, false, false, false, false, false, false, false, false, false, false, false, false, false, false, false, false, false, false, false, false, false, false, false, false, false, false] (by kernel_rfl) rfl (by kernel_rfl) (by kernel_rfl) (by kernel_rfl) (fun _ _ _ h => h) (by kernel_rfl) ⟨b0, b1, b2, b3⟩ ?_
          (try simp only [Act.put, List.setIfInBounds_toArray, List.set_cons_zero, List.set_cons_succ])
          refine rg_skip (fuel := 33) 11 #[true, true, true, true, true, true, true, true, false, true, true, true, false, false, false, false, false, false, false, false, false, false, false, false, false, false, false, false, false, false, false, false, false, false, false, false, false, false, false, false, false, false, false, false] (by kernel_rfl) rfl (by kernel_rfl) (by kernel_rfl) (by kernel_rfl) (fun _ _ _ h => h) (by kernel_rfl) ⟨b0, b1, b2, b3⟩ ?_
          (try simp only [Act.put, List.setIfInBounds_toArray, List.set_cons_zero, List.set_cons_succ])
          refine rg_skip (fuel := 32) 12 #[true, true, true, true, true, true, true, true, false, true, true, true, true, false, false, false, false, false, false, false, false, false, false, false, false, false, false, false, false, false, false, false, false, false, false, false, false, false, false, false, false, false, false, false] (by kernel_rfl) rfl (by kernel_rfl) (by kernel_rfl) (by kernel_rfl) (fun _ _ _ h => h) (by kernel_rfl) ⟨b0, b1, b2, b3⟩ ?_
          (try simp only [Act.put, List.setIfInBounds_toArray, List.set_cons_zero, List.set_cons_succ])
          refine rg_skip (fuel := 31) 13 #[true, true, true, true, true, true, true, true, false, true, true, true, true, true, false, false, false, false, false, false, false, false, false, false, false, false, false, false, false, false, false, false, false, false, false, false, false, false, false, false, false, false, false, false] (by kernel_rfl) rfl (by kernel_rfl) (by kernel_rfl) (by kernel_rfl) (fun _ _ _ h => h) (by kernel_rfl) ⟨b0, b1, b2, b3⟩ ?_
          (try simp only [Act.put, List.setIfInBounds_toArray, List.set_cons_zero, List.set_cons_succ])
          refine rg_pass (fuel := 30) 8 #[true, true, true, true, true, true, true, true, true, true, true, true, true, true, false, false, false, false, false, false, false, false, false, false, false, false, false, false, false, false, false, false, false, false, false, false, false, false, false, false, false, false, false, false] (by kernel_rfl) rfl (by kernel_rfl) (by kernel_rfl) ⟨b0, b1, b2, b3⟩ ?_
          (try simp only [Act.put, List.setIfInBounds_toArray, List.set_cons_zero, List.set_cons_succ])
          refine rg_pass (fuel := 29) 14 #[true, true, true, true, true, true, true, true, true, true, true, true, true, true, true, false, false, false, false, false, false, false, false, false, false, false, false, false, false, false, false, false, false, false, false, false, false, false, false, false, false, false, false, false] (by kernel_rfl) rfl (by kernel_rfl) (by kernel_rfl) ⟨b0, b1, b2, b3⟩ ?_
          (try simp only [Act.put, List.setIfInBounds_toArray, List.set_cons_zero, List.set_cons_succ])
          refine rg_skip (fuel := 28) 15 #[true, true, true, true, true, true, true, true, true, true, true, true, true, true, true, true, false, false, false, false, false, false, false, false, false, false, false, false, false, false, false, false, false, false, false, false, false, false, false, false, false, false, false, false] (by kernel_rfl) rfl (by kernel_rfl) (by kernel_rfl) (by kernel_rfl) (fun _ _ _ h => h) (by kernel_rfl) ⟨b0, b1, b2, b3⟩ ?_
          (try simp only [Act.put, List.setIfInBounds_toArray, List.set_cons_zero, List.set_cons_succ])
          refine rg_take (fuel := 27) 16 #[true, true, true, true, true, true, true, true, true, true, true, true, true, true, true, true, true, false, false, false, false, false, false, false, false, false, false, false, false, false, false, false, false, false, false, false, false, false, false, false, false, false, false, false] (by kernel_rfl) ?va2_16 rfl (by kernel_rfl) (by kernel_rfl) (by kernel_rfl) (fun _ _ _ h => h) (by kernel_rfl) ⟨b0, b1, b2, b3⟩ ?hya2_16 ?_
          case hya2_16 => intro w hSw; (try dsimp only at hSw); go_simp; (try with_reducible rfl)
          (try simp only [Act.put, List.setIfInBounds_toArray, List.set_cons_zero, List.set_cons_succ])
          refine rg_take (fuel := 26) 17 #[true, true, true, true, true, true, true, true, true, true, true, true, true, true, true, true, true, true, false, false, false, false, false, false, false, false, false, false, false, false, false, false, false, false, false, false, false, false, false, false, false, false, false, false] (by kernel_rfl) ?va2_17 rfl (by kernel_rfl) (by kernel_rfl) (by kernel_rfl) (fun _ _ _ h => h) (by kernel_rfl) ⟨b0, b1, b2, b3⟩ ?hya2_17 ?_
          case hya2_17 => intro w hSw; (try dsimp only at hSw); go_simp; (try with_reducible rfl)
          (try simp only [Act.put, List.setIfInBounds_toArray, List.set_cons_zero, List.set_cons_succ])
          refine rg_take (fuel := 25) 18 #[true, true, true, true, true, true, true, true, true, true, true, true, true, true, true, true, true, true, true, false, false, false, false, false, false, false, false, false, false, false, false, false, false, false, false, false, false, false, false, false, false, false, false, false] (by kernel_rfl) ?va2_18 rfl (by kernel_rfl) (by kernel_rfl) (by kernel_rfl) (fun _ _ _ h => h) (by kernel_rfl) ⟨b0, b1, b2, b3⟩ ?hya2_18 ?_
          case hya2_18 => intro w hSw; (try dsimp only at hSw); go_simp; (try with_reducible rfl)
          (try simp only [Act.put, List.setIfInBounds_toArray, List.set_cons_zero, List.set_cons_succ])
          refine rg_take (fuel := 24) 19 #[true, true, true, true, true, true, true, true, true, true, true, true, true, true, true, true, true, true, true, true, false, false, false, false, false, false, false, false, false, false, false, false, false, false, false, false, false, false, false, false, false, false, false, false] (by kernel_rfl) ?va2_19 rfl (by kernel_rfl) (by kernel_rfl) (by kernel_rfl) (fun _ _ _ h => h) (by kernel_rfl) ⟨b0, b1, b2, b3⟩ ?hya2_19 ?_
          case hya2_19 => intro w hSw; (try dsimp only at hSw); go_simp; (try with_reducible rfl)
          (try simp only [Act.put, List.setIfInBounds_toArray, List.set_cons_zero, List.set_cons_succ])
          refine rg_take (fuel := 23) 20 #[true, true, true, true, true, true, true, true, true, true, true, true, true, true, true, true, true, true, true, true, true, false, false, false, false, false, false, false, false, false, false, false, false, false, false, false, false, false, false, false, false, false, false, false] (by kernel_rfl) ?va2_20 rfl (by kernel_rfl) (by kernel_rfl) (by kernel_rfl) (fun _ _ _ h => h) (by kernel_rfl) ⟨b0, b1, b2, b3⟩ ?hya2_20 ?_
          case hya2_20 => intro w hSw; (try dsimp only at hSw); go_simp; (try with_reducible rfl)
          (try simp only [Act.put, List.setIfInBounds_toArray, List.set_cons_zero, List.set_cons_succ])
          refine rg_take (fuel := 22) 21 #[true, true, true, true, true, true, true, true, true, true, true, true, true, true, true, true, true, true, true, true, true, true, false, false, false, false, false, false, false, false, false, false, false, false, false, false, false, false, false, false, false, false, false, false] (by kernel_rfl) ?va2_21 rfl (by kernel_rfl) (by kernel_rfl) (by kernel_rfl) (fun _ _ _ h => h) (by kernel_rfl) ⟨b0, b1, b2, b3⟩ ?hya2_21 ?_
          case hya2_21 => intro w hSw; (try dsimp only at hSw); go_simp; (try with_reducible rfl)
          (try simp only [Act.put, List.setIfInBounds_toArray, List.set_cons_zero, List.set_cons_succ])
          refine rg_take (fuel := 21) 22 #[true, true, true, true, true, true, true, true, true, true, true, true, true, true, true, true, true, true, true, true, true, true, true, false, false, false, false, false, false, false, false, false, false, false, false, false, false, false, false, false, false, false, false, false] (by kernel_rfl) ?va2_22 rfl (by kernel_rfl) (by kernel_rfl) (by kernel_rfl) (fun _ _ _ h => h) (by kernel_rfl) ⟨b0, b1, b2, b3⟩ ?hya2_22 ?_
          case hya2_22 => intro w hSw; (try dsimp only at hSw); go_simp; (try with_reducible rfl)
          (try simp only [Act.put, List.setIfInBounds_toArray, List.set_cons_zero, List.set_cons_succ])
          refine rg_take (fuel := 20) 23 #[true, true, true, true, true, true, true, true, true, true, true, true, true, true, true, true, true, true, true, true, true, true, true, true, false, false, false, false, false, false, false, false, false, false, false, false, false, false, false, false, false, false, false, false] (by kernel_rfl) ?va2_23 rfl (by kernel_rfl) (by kernel_rfl) (by kernel_rfl) (fun _ _ _ h => h) (by kernel_rfl) ⟨b0, b1, b2, b3⟩ ?hya2_23 ?_
          case hya2_23 => intro w hSw; (try dsimp only at hSw); go_simp; (try with_reducible rfl)
          (try simp only [Act.put, List.setIfInBounds_toArray, List.set_cons_zero, List.set_cons_succ])
          refine rg_take (fuel := 19) 24 #[true, true, true, true, true, true, true, true, true, true, true, true, true, true, true, true, true, true, true, true, true, true, true, true, true, false, false, false, false, false, false, false, false, false, false, false, false, false, false, false, false, false, false, false] (by kernel_rfl) ?va2_24 rfl (by kernel_rfl) (by kernel_rfl) (by kernel_rfl) (fun _ _ _ h => h) (by kernel_rfl) ⟨b0, b1, b2, b3⟩ ?hya2_24 ?_
          case hya2_24 => intro w hSw; (try dsimp only at hSw); go_simp; (try with_reducible rfl)
          (try simp only [Act.put, List.setIfInBounds_toArray, List.set_cons_zero, List.set_cons_succ])
          refine rg_take (fuel := 18) 25 #[true, true, true, true, true, true, true, true, true, true, true, true, true, true, true, true, true, true, true, true, true, true, true, true, true, true, false, false, false, false, false, false, false, false, false, false, false, false, false, false, false, false, false, false] (by kernel_rfl) ?va2_25 rfl (by kernel_rfl) (by kernel_rfl) (by kernel_rfl) (fun _ _ _ h => h) (by kernel_rfl) ⟨b0, b1, b2, b3⟩ ?hya2_25 ?_
          case hya2_25 => intro w hSw; (try dsimp only at hSw); go_simp; (try with_reducible rfl)
          (try simp only [Act.put, List.setIfInBounds_toArray, List.set_cons_zero, List.set_cons_succ])
          refine rg_take (fuel := 17) 26 #[true, true, true, true, true, true, true, true, true, true, true, true, true, true, true, true, true, true, true, true, true, true, true, true, true, true, true, false, false, false, false, false, false, false, false, false, false, false, false, false, false, false, false, false] (by kernel_rfl) ?va2_26 rfl (by kernel_rfl) (by kernel_rfl) (by kernel_rfl) (fun _ _ _ h => h) (by kernel_rfl) ⟨b0, b1, b2, b3⟩ ?hya2_26 ?_
          case hya2_26 => intro w hSw; (try dsimp only at hSw); go_simp; (try with_reducible rfl)
          (try simp only [Act.put, List.setIfInBounds_toArray, List.set_cons_zero, List.set_cons_succ])
          refine rg_take (fuel := 16) 28 #[true, true, true, true, true, true, true, true, true, true, true, true, true, true, true, true, true, true, true, true, true, true, true, true, true, true, true, false, true, false, false, false, false, false, false, false, false, false, false, false, false, false, false, false] (by kernel_rfl) ?va2_28 rfl (by kernel_rfl) (by kernel_rfl) (by kernel_rfl) (fun _ _ _ h => h) (by kernel_rfl) ⟨b0, b1, b2, b3⟩ ?hya2_28 ?_
          case hya2_28 => intro w hSw; (try dsimp only at hSw); go_simp; (try with_reducible rfl)
          (try simp only [Act.put, List.setIfInBounds_toArray, List.set_cons_zero, List.set_cons_succ])
          refine rg_take (fuel := 15) 29 #[true, true, true, true, true, true, true, true, true, true, true, true, true, true, true, true, true, true, true, true, true, true, true, true, true, true, true, false, true, true, false, false, false, false, false, false, false, false, false, false, false, false, false, false] (by kernel_rfl) ?va2_29 rfl (by kernel_rfl) (by kernel_rfl) (by kernel_rfl) (fun _ _ _ h => h) (by kernel_rfl) ⟨b0, b1, b2, b3⟩ ?hya2_29 ?_
          case hya2_29 => intro w hSw; (try dsimp only at hSw); go_simp; (try with_reducible rfl)
          (try simp only [Act.put, List.setIfInBounds_toArray, List.set_cons_zero, List.set_cons_succ])
          refine rg_take (fuel := 14) 30 #[true, true, true, true, true, true, true, true, true, true, true, true, true, true, true, true, true, true, true, true, true, true, true, true, true, true, true, false, true, true, true, false, false, false, false, false, false, false, false, false, false, false, false, false] (by kernel_rfl) ?va2_30 rfl (by kernel_rfl) (by kernel_rfl) (by kernel_rfl) (fun _ _ _ h => h) (by kernel_rfl) ⟨b0, b1, b2, b3⟩ ?hya2_30 ?_
          case hya2_30 => intro w hSw; (try dsimp only at hSw); go_simp; (try with_reducible rfl)
          (try simp only [Act.put, List.setIfInBounds_toArray, List.set_cons_zero, List.set_cons_succ])
          refine rg_take (fuel := 13) 31 #[true, true, true, true, true, true, true, true, true, true, true, true, true, true, true, true, true, true, true, true, true, true, true, true, true, true, true, false, true, true, true, true, false, false, false, false, false, false, false, false, false, false, false, false] (by kernel_rfl) ?va2_31 rfl (by kernel_rfl) (by kernel_rfl) (by kernel_rfl) (fun _ _ _ h => h) (by kernel_rfl) ⟨b0, b1, b2, b3⟩ ?hya2_31 ?_
          case hya2_31 => intro w hSw; (try dsimp only at hSw); go_simp; (try with_reducible rfl)
          (try simp only [Act.put, List.setIfInBounds_toArray, List.set_cons_zero, List.set_cons_succ])
          refine rg_take (fuel := 12) 32 #[true, true, true, true, true, true, true, true, true, true, true, true, true, true, true, true, true, true, true, true, true, true, true, true, true, true, true, false, true, true, true, true, true, false, false, false, false, false, false, false, false, false, false, false] (by kernel_rfl) ?va2_32 rfl (by kernel_rfl) (by kernel_rfl) (by kernel_rfl) (fun _ _ _ h => h) (by kernel_rfl) ⟨b0, b1, b2, b3⟩ ?hya2_32 ?_
          case hya2_32 => intro w hSw; (try dsimp only at hSw); go_simp; (try with_reducible rfl)
          (try simp only [Act.put, List.setIfInBounds_toArray, List.set_cons_zero, List.set_cons_succ])
          refine rg_call (fuel := 11) 27 #[true, true, true, true, true, true, true, true, true, true, true, true, true, true, true, true, true, true, true, true, true, true, true, true, true, true, true, true, true, true, true, true, true, false, false, false, false, false, false, false, false, false, false, false] (by kernel_rfl) rfl (by kernel_rfl) (by kernel_rfl) (fun K hK => ?_)
          go_simp
          (go_at_call 22; refine (HP4.out.data HE.out HBd.out).mono ?_; rintro e w5 ⟨rfl, hp, hf⟩; have hbk := hf _ _ _ HBK4.out (by decide) (by decide) (by decide) (by decide); clear b0 b1 b2 b3; have b0 := cells_of_heap hbk 0 _ rfl; have b1 := cells_of_heap hbk 1 _ rfl; have b2 := cells_of_heap hbk 2 _ rfl; have b3 := cells_of_heap hbk 3 _ rfl; have HBK5 := Aside0.mk hbk; have HP5 := Aside0.mk hp; have HM5 := Aside0.mk (hf.fr HM4.out); clear hbk hp hf HP4 HBK4 HM4)
          (try dsimp only)
          refine hK _ _ ⟨b0, b1, b2, b3⟩ ?_
          (try simp only [Act.put, List.setIfInBounds_toArray, List.set_cons_zero, List.set_cons_succ])
          clear hK
          refine rg_call (fuel := 10) 33 #[true, true, true, true, true, true, true, true, true, true, true, true, true, true, true, true, true, true, true, true, true, true, true, true, true, true, true, true, true, true, true, true, true, true, false, false, false, false, false, false, false, false, false, false] (by kernel_rfl) rfl (by kernel_rfl) (by kernel_rfl) (fun K hK => ?_)
          go_simp
          (go_at_call 23; refine (HP5.out.dataR HA.out.iv HE.out HBd.out).mono ?_; rintro e w6 ⟨rfl, hp, hf⟩; have hbk := hf _ _ _ HBK5.out (by decide) (by decide) (by decide) (by decide); clear b0 b1 b2 b3; have b0 := cells_of_heap hbk 0 _ rfl; have b1 := cells_of_heap hbk 1 _ rfl; have b2 := cells_of_heap hbk 2 _ rfl; have b3 := cells_of_heap hbk 3 _ rfl; have HBK6 := Aside0.mk hbk; have HP6 := Aside0.mk hp; have HM6 := Aside0.mk (hf.fr HM5.out); clear hbk hp hf HP5 HBK5 HM5)
          (try dsimp only)
          refine hK _ _ ⟨b0, b1, b2, b3⟩ ?_
          (try simp only [Act.put, List.setIfInBounds_toArray, List.set_cons_zero, List.set_cons_succ])
          clear hK
          refine rg_take (fuel := 9) 34 #[true, true, true, true, true, true, true, true, true, true, true, true, true, true, true, true, true, true, true, true, true, true, true, true, true, true, true, true, true, true, true, true, true, true, true, false, false, false, false, false, false, false, false, false] (by kernel_rfl) ?va2_34 rfl (by kernel_rfl) (by kernel_rfl) (by kernel_rfl) (fun _ _ _ h => h) (by kernel_rfl) ⟨b0, b1, b2, b3⟩ ?hya2_34 ?_
          case hya2_34 => intro w hSw; (try dsimp only at hSw); go_simp; (try with_reducible rfl)
          (try simp only [Act.put, List.setIfInBounds_toArray, List.set_cons_zero, List.set_cons_succ])
          refine rg_take (fuel := 8) 35 #[true, true, true, true, true, true, true, true, true, true, true, true, true, true, true, true, true, true, true, true, true, true, true, true, true, true, true, true, true, true, true, true, true, true, true, true, false, false, false, false, false, false, false, false] (by kernel_rfl) ?va2_35 rfl (by kernel_rfl) (by kernel_rfl) (by kernel_rfl) (fun _ _ _ h => h) (by kernel_rfl) ⟨b0, b1, b2, b3⟩ ?hya2_35 ?_
          case hya2_35 => intro w hSw; (try dsimp only at hSw); go_simp; (try with_reducible rfl)
          (try simp only [Act.put, List.setIfInBounds_toArray, List.set_cons_zero, List.set_cons_succ])
          refine rg_take (fuel := 7) 36 #[true, true, true, true, true, true, true, true, true, true, true, true, true, true, true, true, true, true, true, true, true, true, true, true, true, true, true, true, true, true, true, true, true, true, true, true, true, false, false, false, false, false, false, false] (by kernel_rfl) ?va2_36 rfl (by kernel_rfl) (by kernel_rfl) (by kernel_rfl) (fun _ _ _ h => h) (by kernel_rfl) ⟨b0, b1, b2, b3⟩ ?hya2_36 ?_
          case hya2_36 => intro w hSw; (try dsimp only at hSw); go_simp; (try with_reducible rfl)
          (try simp only [Act.put, List.setIfInBounds_toArray, List.set_cons_zero, List.set_cons_succ])
          refine rg_take (fuel := 6) 37 #[true, true, true, true, true, true, true, true, true, true, true, true, true, true, true, true, true, true, true, true, true, true, true, true, true, true, true, true, true, true, true, true, true, true, true, true, true, true, false, false, false, false, false, false] (by kernel_rfl) ?va2_37 rfl (by kernel_rfl) (by kernel_rfl) (by kernel_rfl) (fun _ _ _ h => h) (by kernel_rfl) ⟨b0, b1, b2, b3⟩ ?hya2_37 ?_
          case hya2_37 => intro w hSw; (try dsimp only at hSw); go_simp; (try with_reducible rfl)
          (try simp only [Act.put, List.setIfInBounds_toArray, List.set_cons_zero, List.set_cons_succ])
          refine rg_take (fuel := 5) 38 #[true, true, true, true, true, true, true, true, true, true, true, true, true, true, true, true, true, true, true, true, true, true, true, true, true, true, true, true, true, true, true, true, true, true, true, true, true, true, true, false, false, false, false, false] (by kernel_rfl) ?va2_38 rfl (by kernel_rfl) (by kernel_rfl) (by kernel_rfl) (fun _ _ _ h => h) (by kernel_rfl) ⟨b0, b1, b2, b3⟩ ?hya2_38 ?_
          case hya2_38 => intro w hSw; (try dsimp only at hSw); go_simp; (try with_reducible rfl)
          (try simp only [Act.put, List.setIfInBounds_toArray, List.set_cons_zero, List.set_cons_succ])
          refine rg_take (fuel := 4) 39 #[true, true, true, true, true, true, true, true, true, true, true, true, true, true, true, true, true, true, true, true, true, true, true, true, true, true, true, true, true, true, true, true, true, true, true, true, true, true, true, true, false, false, false, false] (by kernel_rfl) ?va2_39 rfl (by kernel_rfl) (by kernel_rfl) (by kernel_rfl) (fun _ _ _ h => h) (by kernel_rfl) ⟨b0, b1, b2, b3⟩ ?hya2_39 ?_
          case hya2_39 => intro w hSw; (try dsimp only at hSw); go_simp; (try with_reducible rfl)
          (try simp only [Act.put, List.setIfInBounds_toArray, List.set_cons_zero, List.set_cons_succ])
          refine rg_take (fuel := 3) 40 #[true, true, true, true, true, true, true, true, true, true, true, true, true, true, true, true, true, true, true, true, true, true, true, true, true, true, true, true, true, true, true, true, true, true, true, true, true, true, true, true, true, false, false, false] (by kernel_rfl) ?va2_40 rfl (by kernel_rfl) (by kernel_rfl) (by kernel_rfl) (fun _ _ _ h => h) (by kernel_rfl) ⟨b0, b1, b2, b3⟩ ?hya2_40 ?_
          case hya2_40 => intro w hSw; (try dsimp only at hSw); go_simp; (try with_reducible rfl)
          (try simp only [Act.put, List.setIfInBounds_toArray, List.set_cons_zero, List.set_cons_succ])
          refine rg_call (fuel := 2) 41 #[true, true, true, true, true, true, true, true, true, true, true, true, true, true, true, true, true, true, true, true, true, true, true, true, true, true, true, true, true, true, true, true, true, true, true, true, true, true, true, true, true, true, false, false] (by kernel_rfl) rfl (by kernel_rfl) (by kernel_rfl) (fun K hK => ?_)
          go_simp
          (go_at_call 24; refine (Bk.stays_c (d := oc) HM6.out (Kd.C_below HOk.out.2.1 HP6.out.bel) HOk.out.1 (by have := HSz.out.2.1; omega)).mono ?_; rintro e w7 ⟨rfl, hb⟩; have HP7 := Aside0.mk (HP6.out.below' hb); have hbk := (hb.block _ (blk_lt HBK6.out)).trans HBK6.out; clear b0 b1 b2 b3; have b0 := cells_of_heap hbk 0 _ rfl; have b1 := cells_of_heap hbk 1 _ rfl; have b2 := cells_of_heap hbk 2 _ rfl; have b3 := cells_of_heap hbk 3 _ rfl; clear hb hbk HP6 HBK6 HM6)
          (try dsimp only)
          refine hK _ _ ⟨b0, b1, b2, b3⟩ ?_
          (try simp only [Act.put, List.setIfInBounds_toArray, List.set_cons_zero, List.set_cons_succ])
          clear hK
          refine rg_take (fuel := 1) 42 #[true, true, true, true, true, true, true, true, true, true, true, true, true, true, true, true, true, true, true, true, true, true, true, true, true, true, true, true, true, true, true, true, true, true, true, true, true, true, true, true, true, true, true, false] (by kernel_rfl) ?va2_42 rfl (by kernel_rfl) (by kernel_rfl) (by kernel_rfl) (fun _ _ _ h => h) (by kernel_rfl) ⟨b0, b1, b2, b3⟩ ?hya2_42 ?_
          case hya2_42 => intro w hSw; (try dsimp only at hSw); go_simp; (try with_reducible rfl)
          (try simp only [Act.put, List.setIfInBounds_toArray, List.set_cons_zero, List.set_cons_succ])
          refine rg_take (fuel := 0) 43 #[true, true, true, true, true, true, true, true, true, true, true, true, true, true, true, true, true, true, true, true, true, true, true, true, true, true, true, true, true, true, true, true, true, true, true, true, true, true, true, true, true, true, true, true] (by kernel_rfl) ?va2_43 rfl (by kernel_rfl) (by kernel_rfl) (by kernel_rfl) (fun _ _ _ h => h) (by kernel_rfl) ⟨b0, b1, b2, b3⟩ ?hya2_43 ?_
          case hya2_43 => intro w hSw; (try dsimp only at hSw); go_simp; (try with_reducible rfl)
          (try simp only [Act.put, List.setIfInBounds_toArray, List.set_cons_zero, List.set_cons_succ])
          refine wpAnyH_done (by kernel_rfl) ?_ _
          have HA7 := Aside0.mk (alz_data HA.out (by have := HN.out; omega) HE.out)
          clear b0 b1 b2 b3
          go_wp2_with (first
            | (go_at_call 25; refine (HP7.out.fieldsM (by have := HA7.out.ln.1; omega)).mono ?_; rintro e w8 ⟨Af, cf, rfl, hF, hA, hb, hp, _⟩; have HF8 := Aside0.mk hF; have HAf := Aside0.mk (And.intro hA hF.lt); have HG7 := Aside0.mk (HP7.out.lt); have HN7 := Aside0.mk HP7.out.bel.size; have HSz7 : Aside0 (w7.heap.size ≤ w8.heap.size) := ⟨hb.size⟩; have HP8 := Aside0.mk hp; clear hF hA hb hp HP7)
            | (go_at_call 26; refine (HP8.out.trails (by have := HA7.out.ln.2; omega)).mono ?_; rintro e w9 ⟨At, ct, rfl, hF, hA, hb, hp, hf⟩; have HF9 := Aside0.mk (hf.fr HF8.out); have HT9 := Aside0.mk hF; have HAt := Aside0.mk (And.intro hA hF.lt); have HSz8 : Aside0 (w7.heap.size ≤ w8.heap.size ∧ w8.heap.size ≤ w9.heap.size) := ⟨HSz7.out, hb.size⟩; have HP9 := Aside0.mk hp; clear hF hA hb hp hf HP8 HF8)
            | (go_at_call 10; refine (HP9.out.book HF9.out (by have := HA7.out.ln.1; omega) (fun k e => by have h1 := HAf.out.1 k e; have h2 := HAf.out.2 k e; have h3 := HG7.out; have h4 := HN7.out; exact ⟨by omega, .inl (.inr ⟨h1, h2⟩), by omega, by omega⟩)).mono ?_; rintro e w10 ⟨rfl, hp, hf⟩; have HF10 := Aside0.mk (hf.fr HF9.out); have HT10 := Aside0.mk (hf.fr HT9.out); have HP10 := Aside0.mk hp; clear hp hf HP9 HF9 HT9)
            | (go_at_call 10; refine (HP10.out.book HT10.out (by have := HA7.out.ln.2; omega) (fun k e => by have h1 := HAt.out.1 k e; have h2 := HAt.out.2 k e; have h3 := HG7.out; have h4 := HN7.out; have h5 := HSz8.out; exact ⟨by omega, ⟨.inr ⟨h1, h2⟩, fun e2 => by have := HAf.out.2 k e2; omega⟩, by omega, by omega⟩)).mono ?_; rintro e w11 ⟨rfl, hp, hf⟩; have HF11 := Aside0.mk (hf.fr HF10.out); have HT11 := Aside0.mk (hf.fr HT10.out); have HP11 := Aside0.mk hp; clear hp hf HP10 HF10 HT10))
          obtain ⟨bk, Rf, rf, Rt, rt, hrr⟩ := HP11.out.rr
          have HR11 := Aside0.mk (hrr.below (below_drew (Below.refl w11.heap.size w11)))
          have HP11 := Aside0.mk (HP11.out.below' (below_drew (Below.refl w11.heap.size w11)))
          have HF11 := Aside0.mk (Bk.fr_drew HF11.out)
          have HT11 := Aside0.mk (Bk.fr_drew HT11.out)
          have c1 := cells_of_heap HR11.out.hp 1 (.int .i64 s'.a.status) rfl
          have c4 := cells_of_heap HR11.out.hp 4 (.slice Rf s'.a.fields.length rf) rfl
          have c5 := cells_of_heap HR11.out.hp 5 (.slice Rt s'.a.trails.length rt) rfl
          have c6 := cells_of_heap HR11.out.hp 6 (.bool s'.a.done) rfl
          clear hrr
          refine rg_start (S := (fun W => W.cell? ⟨gr, 1, none⟩ = some (.int .i64 s'.a.status) ∧ W.cell? ⟨gr, 4, none⟩ = some (.slice Rf s'.a.fields.length rf) ∧ W.cell? ⟨gr, 5, none⟩ = some (.slice Rt s'.a.trails.length rt) ∧ W.cell? ⟨gr, 6, none⟩ = some (.bool s'.a.done))) (by kernel_rfl) ⟨c1, c4, c5, c6⟩ 34 #[false, false, false, false, false, false, false, false, false, false, false, false, false, false, false, false, false, false, false, false, false, false, false, false, false, false, false, false, false, false, false, false, false, false] (by kernel_rfl) (by kernel_rfl) ?_
          refine rg_take (fuel := 33) 0 #[true, false, false, false, false, false, false, false, false, false, false, false, false, false, false, false, false, false, false, false, false, false, false, false, false, false, false, false, false, false, false, false, false, false] (by kernel_rfl) ?vb2_0 rfl (by kernel_rfl) (by kernel_rfl) (by kernel_rfl) (fun _ _ _ h => h) (by kernel_rfl) ⟨c1, c4, c5, c6⟩ ?hyb2_0 ?_
          case hyb2_0 => intro w hSw; (try dsimp only at hSw); go_simp; (try with_reducible rfl)
          (try simp only [Act.put, List.setIfInBounds_toArray, List.set_cons_zero, List.set_cons_succ])
          refine rg_take (fuel := 32) 2 #[true, false, true, false, false, false, false, false, false, false, false, false, false, false, false, false, false, false, false, false, false, false, false, false, false, false, false, false, false, false, false, false, false, false] (by kernel_rfl) ?vb2_2 rfl (by kernel_rfl) (by kernel_rfl) (by kernel_rfl) (fun _ _ _ h => h) (by kernel_rfl) ⟨c1, c4, c5, c6⟩ ?hyb2_2 ?_
          case hyb2_2 => intro w hSw; (try dsimp only at hSw); go_simp; (try with_reducible rfl)
          (try simp only [Act.put, List.setIfInBounds_toArray, List.set_cons_zero, List.set_cons_succ])
          refine rg_take (fuel := 31) 3 #[true, false, true, true, false, false, false, false, false, false, false, false, false, false, false, false, false, false, false, false, false, false, false, false, false, false, false, false, false, false, false, false, false, false] (by kernel_rfl) ?vb2_3 rfl (by kernel_rfl) (by kernel_rfl) (by kernel_rfl) (fun _ _ _ h => h) (by kernel_rfl) ⟨c1, c4, c5, c6⟩ ?hyb2_3 ?_
          case hyb2_3 => intro w hSw; (try dsimp only at hSw); go_simp; (try with_reducible rfl)
          (try simp only [Act.put, List.setIfInBounds_toArray, List.set_cons_zero, List.set_cons_succ])
          refine rg_take (fuel := 30) 4 #[true, false, true, true, true, false, false, false, false, false, false, false, false, false, false, false, false, false, false, false, false, false, false, false, false, false, false, false, false, false, false, false, false, false] (by kernel_rfl) ?vb2_4 rfl (by kernel_rfl) (by kernel_rfl) (by kernel_rfl) (fun _ _ _ h => h) (by kernel_rfl) ⟨c1, c4, c5, c6⟩ ?hyb2_4 ?_
          case hyb2_4 => intro w hSw; (try dsimp only at hSw); go_simp; (try with_reducible rfl)
          (try simp only [Act.put, List.setIfInBounds_toArray, List.set_cons_zero, List.set_cons_succ])
          refine rg_take (fuel := 29) 5 #[true, false, true, true, true, true, false, false, false, false, false, false, false, false, false, false, false, false, false, false, false, false, false, false, false, false, false, false, false, false, false, false, false, false] (by kernel_rfl) ?vb2_5 rfl (by kernel_rfl) (by kernel_rfl) (by kernel_rfl) (fun _ _ _ h => h) (by kernel_rfl) ⟨c1, c4, c5, c6⟩ ?hyb2_5 ?_
          case hyb2_5 => intro w hSw; (try dsimp only at hSw); go_simp; (try with_reducible rfl)
          (try simp only [Act.put, List.setIfInBounds_toArray, List.set_cons_zero, List.set_cons_succ])
          refine rg_call (fuel := 28) 1 #[true, true, true, true, true, true, false, false, false, false, false, false, false, false, false, false, false, false, false, false, false, false, false, false, false, false, false, false, false, false, false, false, false, false] (by kernel_rfl) rfl (by kernel_rfl) (by kernel_rfl) (fun K hK => ?_)
          go_simp
          (go_at_call 27; refine (HP11.out.status).mono ?_; rintro e w12 ⟨rfl, hb⟩; have HR12 := Aside0.mk (HR11.out.below hb); clear c1 c4 c5 c6; have c1 := cells_of_heap HR12.out.hp 1 (.int .i64 s'.a.status) rfl; have c4 := cells_of_heap HR12.out.hp 4 (.slice Rf s'.a.fields.length rf) rfl; have c5 := cells_of_heap HR12.out.hp 5 (.slice Rt s'.a.trails.length rt) rfl; have c6 := cells_of_heap HR12.out.hp 6 (.bool s'.a.done) rfl; have HP12 := Aside0.mk (HP11.out.below' hb); have HF12 := Aside0.mk (HF11.out.keep fun g' e => hb.block g' (HF11.out.lt g' e)); have HT12 := Aside0.mk (HT11.out.keep fun g' e => hb.block g' (HT11.out.lt g' e)); clear hb HR11 HP11 HF11 HT11)
          (try dsimp only)
          refine hK _ _ ⟨c1, c4, c5, c6⟩ ?_
          (try simp only [Act.put, List.setIfInBounds_toArray, List.set_cons_zero, List.set_cons_succ])
          clear hK
          refine rg_take (fuel := 27) 6 #[true, true, true, true, true, true, true, false, false, false, false, false, false, false, false, false, false, false, false, false, false, false, false, false, false, false, false, false, false, false, false, false, false, false] (by kernel_rfl) ?vb2_6 rfl (by kernel_rfl) (by kernel_rfl) (by kernel_rfl) (fun _ _ _ h => h) (by kernel_rfl) ⟨c1, c4, c5, c6⟩ ?hyb2_6 ?_
          case hyb2_6 => intro w hSw; (try dsimp only at hSw); go_simp; (try with_reducible rfl)
          (try simp only [Act.put, List.setIfInBounds_toArray, List.set_cons_zero, List.set_cons_succ])
          refine rg_take (fuel := 26) 7 #[true, true, true, true, true, true, true, true, false, false, false, false, false, false, false, false, false, false, false, false, false, false, false, false, false, false, false, false, false, false, false, false, false, false] (by kernel_rfl) ?vb2_7 rfl (by kernel_rfl) (by kernel_rfl) (by kernel_rfl) (fun _ _ _ h => h) (by kernel_rfl) ⟨c1, c4, c5, c6⟩ ?hyb2_7 ?_
          case hyb2_7 => intro w hSw; (try dsimp only at hSw); go_simp; (try with_reducible rfl)
          (try simp only [Act.put, List.setIfInBounds_toArray, List.set_cons_zero, List.set_cons_succ])
          refine rg_take (fuel := 25) 8 #[true, true, true, true, true, true, true, true, true, false, false, false, false, false, false, false, false, false, false, false, false, false, false, false, false, false, false, false, false, false, false, false, false, false] (by kernel_rfl) ?vb2_8 rfl (by kernel_rfl) (by kernel_rfl) (by kernel_rfl) (fun _ _ _ h => h) (by kernel_rfl) ⟨c1, c4, c5, c6⟩ ?hyb2_8 ?_
          case hyb2_8 => intro w hSw; (try dsimp only at hSw); go_simp; (try with_reducible rfl)
          (try simp only [Act.put, List.setIfInBounds_toArray, List.set_cons_zero, List.set_cons_succ])
          refine rg_take (fuel := 24) 9 #[true, true, true, true, true, true, true, true, true, true, false, false, false, false, false, false, false, false, false, false, false, false, false, false, false, false, false, false, false, false, false, false, false, false] (by kernel_rfl) ?vb2_9 rfl (by kernel_rfl) (by kernel_rfl) (by kernel_rfl) (fun _ _ _ h => h) (by kernel_rfl) ⟨c1, c4, c5, c6⟩ ?hyb2_9 ?_
          case hyb2_9 => intro w hSw; (try dsimp only at hSw); go_simp; (try with_reducible rfl)
          (try simp only [Act.put, List.setIfInBounds_toArray, List.set_cons_zero, List.set_cons_succ])
          refine rg_take (fuel := 23) 10 #[true, true, true, true, true, true, true, true, true, true, true, false, false, false, false, false, false, false, false, false, false, false, false, false, false, false, false, false, false, false, false, false, false, false] (by kernel_rfl) ?vb2_10 rfl (by kernel_rfl) (by kernel_rfl) (by kernel_rfl) (fun _ _ _ h => h) (by kernel_rfl) ⟨c1, c4, c5, c6⟩ ?hyb2_10 ?_
          case hyb2_10 => intro w hSw; (try dsimp only at hSw); go_simp; (try with_reducible rfl)
          (try simp only [Act.put, List.setIfInBounds_toArray, List.set_cons_zero, List.set_cons_succ])
          refine rg_take (fuel := 22) 11 #[true, true, true, true, true, true, true, true, true, true, true, true, false, false, false, false, false, false, false, false, false, false, false, false, false, false, false, false, false, false, false, false, false, false] (by kernel_rfl) ?vb2_11 rfl (by kernel_rfl) (by kernel_rfl) (by kernel_rfl) (fun _ _ _ h => h) (by kernel_rfl) ⟨c1, c4, c5, c6⟩ ?hyb2_11 ?_
          case hyb2_11 => intro w hSw; (try dsimp only at hSw); go_simp; (try with_reducible rfl)
          (try simp only [Act.put, List.setIfInBounds_toArray, List.set_cons_zero, List.set_cons_succ])
          refine rg_take (fuel := 21) 12 #[true, true, true, true, true, true, true, true, true, true, true, true, true, false, false, false, false, false, false, false, false, false, false, false, false, false, false, false, false, false, false, false, false, false] (by kernel_rfl) ?vb2_12 rfl (by kernel_rfl) (by kernel_rfl) (by kernel_rfl) (fun _ _ _ h => h) (by kernel_rfl) ⟨c1, c4, c5, c6⟩ ?hyb2_12 ?_
          case hyb2_12 => intro w hSw; (try dsimp only at hSw); go_simp; (try with_reducible rfl)
          (try simp only [Act.put, List.setIfInBounds_toArray, List.set_cons_zero, List.set_cons_succ])
          refine rg_call (fuel := 20) 13 #[true, true, true, true, true, true, true, true, true, true, true, true, true, true, false, false, false, false, false, false, false, false, false, false, false, false, false, false, false, false, false, false, false, false] (by kernel_rfl) rfl (by kernel_rfl) (by kernel_rfl) (fun K hK => ?_)
          go_simp
          (go_at_call 11; refine (Bk.same_c (c := cf) (d := rf) (HF12.out.cr.c (by have := HA7.out.ln.1; omega)) HF12.out.room (HR12.out.rf.c (by have := HA7.out.ln.1; omega)).1 (HR12.out.rf.c (by have := HA7.out.ln.1; omega)).2 (by have := HA7.out.ln.1; omega)).mono ?_; rintro e w13 ⟨rfl, hb⟩; have HR13 := Aside0.mk (HR12.out.below hb); clear c1 c4 c5 c6; have c1 := cells_of_heap HR13.out.hp 1 (.int .i64 s'.a.status) rfl; have c4 := cells_of_heap HR13.out.hp 4 (.slice Rf s'.a.fields.length rf) rfl; have c5 := cells_of_heap HR13.out.hp 5 (.slice Rt s'.a.trails.length rt) rfl; have c6 := cells_of_heap HR13.out.hp 6 (.bool s'.a.done) rfl; have HP13 := Aside0.mk (HP12.out.below' hb); have HF13 := Aside0.mk (HF12.out.keep fun g' e => hb.block g' (HF12.out.lt g' e)); have HT13 := Aside0.mk (HT12.out.keep fun g' e => hb.block g' (HT12.out.lt g' e)); clear hb HR12 HP12 HF12 HT12)
          (try dsimp only)
          refine hK _ _ ⟨c1, c4, c5, c6⟩ ?_
          (try simp only [Act.put, List.setIfInBounds_toArray, List.set_cons_zero, List.set_cons_succ])
          clear hK
          refine rg_take (fuel := 19) 14 #[true, true, true, true, true, true, true, true, true, true, true, true, true, true, true, false, false, false, false, false, false, false, false, false, false, false, false, false, false, false, false, false, false, false] (by kernel_rfl) ?vb2_14 rfl (by kernel_rfl) (by kernel_rfl) (by kernel_rfl) (fun _ _ _ h => h) (by kernel_rfl) ⟨c1, c4, c5, c6⟩ ?hyb2_14 ?_
          case hyb2_14 => intro w hSw; (try dsimp only at hSw); go_simp; (try with_reducible rfl)
          (try simp only [Act.put, List.setIfInBounds_toArray, List.set_cons_zero, List.set_cons_succ])
          refine rg_take (fuel := 18) 15 #[true, true, true, true, true, true, true, true, true, true, true, true, true, true, true, true, false, false, false, false, false, false, false, false, false, false, false, false, false, false, false, false, false, false] (by kernel_rfl) ?vb2_15 rfl (by kernel_rfl) (by kernel_rfl) (by kernel_rfl) (fun _ _ _ h => h) (by kernel_rfl) ⟨c1, c4, c5, c6⟩ ?hyb2_15 ?_
          case hyb2_15 => intro w hSw; (try dsimp only at hSw); go_simp; (try with_reducible rfl)
          (try simp only [Act.put, List.setIfInBounds_toArray, List.set_cons_zero, List.set_cons_succ])
          refine rg_take (fuel := 17) 16 #[true, true, true, true, true, true, true, true, true, true, true, true, true, true, true, true, true, false, false, false, false, false, false, false, false, false, false, false, false, false, false, false, false, false] (by kernel_rfl) ?vb2_16 rfl (by kernel_rfl) (by kernel_rfl) (by kernel_rfl) (fun _ _ _ h => h) (by kernel_rfl) ⟨c1, c4, c5, c6⟩ ?hyb2_16 ?_
          case hyb2_16 => intro w hSw; (try dsimp only at hSw); go_simp; (try with_reducible rfl)
          (try simp only [Act.put, List.setIfInBounds_toArray, List.set_cons_zero, List.set_cons_succ])
          refine rg_take (fuel := 16) 17 #[true, true, true, true, true, true, true, true, true, true, true, true, true, true, true, true, true, true, false, false, false, false, false, false, false, false, false, false, false, false, false, false, false, false] (by kernel_rfl) ?vb2_17 rfl (by kernel_rfl) (by kernel_rfl) (by kernel_rfl) (fun _ _ _ h => h) (by kernel_rfl) ⟨c1, c4, c5, c6⟩ ?hyb2_17 ?_
          case hyb2_17 => intro w hSw; (try dsimp only at hSw); go_simp; (try with_reducible rfl)
          (try simp only [Act.put, List.setIfInBounds_toArray, List.set_cons_zero, List.set_cons_succ])
          refine rg_take (fuel := 15) 18 #[true, true, true, true, true, true, true, true, true, true, true, true, true, true, true, true, true, true, true, false, false, false, false, false, false, false, false, false, false, false, false, false, false, false] (by kernel_rfl) ?vb2_18 rfl (by kernel_rfl) (by kernel_rfl) (by kernel_rfl) (fun _ _ _ h => h) (by kernel_rfl) ⟨c1, c4, c5, c6⟩ ?hyb2_18 ?_
          case hyb2_18 => intro w hSw; (try dsimp only at hSw); go_simp; (try with_reducible rfl)
          (try simp only [Act.put, List.setIfInBounds_toArray, List.set_cons_zero, List.set_cons_succ])
          refine rg_take (fuel := 14) 19 #[true, true, true, true, true, true, true, true, true, true, true, true, true, true, true, true, true, true, true, true, false, false, false, false, false, false, false, false, false, false, false, false, false, false] (by kernel_rfl) ?vb2_19 rfl (by kernel_rfl) (by kernel_rfl) (by kernel_rfl) (fun _ _ _ h => h) (by kernel_rfl) ⟨c1, c4, c5, c6⟩ ?hyb2_19 ?_
          case hyb2_19 => intro w hSw; (try dsimp only at hSw); go_simp; (try with_reducible rfl)
          (try simp only [Act.put, List.setIfInBounds_toArray, List.set_cons_zero, List.set_cons_succ])
          refine rg_take (fuel := 13) 20 #[true, true, true, true, true, true, true, true, true, true, true, true, true, true, true, true, true, true, true, true, true, false, false, false, false, false, false, false, false, false, false, false, false, false] (by kernel_rfl) ?vb2_20 rfl (by kernel_rfl) (by kernel_rfl) (by kernel_rfl) (fun _ _ _ h => h) (by kernel_rfl) ⟨c1, c4, c5, c6⟩ ?hyb2_20 ?_
          case hyb2_20 => intro w hSw; (try dsimp only at hSw); go_simp; (try with_reducible rfl)
          (try simp only [Act.put, List.setIfInBounds_toArray, List.set_cons_zero, List.set_cons_succ])
          refine rg_take (fuel := 12) 21 #[true, true, true, true, true, true, true, true, true, true, true, true, true, true, true, true, true, true, true, true, true, true, false, false, false, false, false, false, false, false, false, false, false, false] (by kernel_rfl) ?vb2_21 rfl (by kernel_rfl) (by kernel_rfl) (by kernel_rfl) (fun _ _ _ h => h) (by kernel_rfl) ⟨c1, c4, c5, c6⟩ ?hyb2_21 ?_
          case hyb2_21 => intro w hSw; (try dsimp only at hSw); go_simp; (try with_reducible rfl)
          (try simp only [Act.put, List.setIfInBounds_toArray, List.set_cons_zero, List.set_cons_succ])
          refine rg_call (fuel := 11) 22 #[true, true, true, true, true, true, true, true, true, true, true, true, true, true, true, true, true, true, true, true, true, true, true, false, false, false, false, false, false, false, false, false, false, false] (by kernel_rfl) rfl (by kernel_rfl) (by kernel_rfl) (fun K hK => ?_)
          go_simp
          (go_at_call 11; refine (Bk.same_c (c := ct) (d := rt) (HT13.out.cr.c (by have := HA7.out.ln.2; omega)) HT13.out.room (HR13.out.rt.c (by have := HA7.out.ln.2; omega)).1 (HR13.out.rt.c (by have := HA7.out.ln.2; omega)).2 (by have := HA7.out.ln.2; omega)).mono ?_; rintro e w14 ⟨rfl, hb⟩; have HR14 := Aside0.mk (HR13.out.below hb); clear c1 c4 c5 c6; have c1 := cells_of_heap HR14.out.hp 1 (.int .i64 s'.a.status) rfl; have c4 := cells_of_heap HR14.out.hp 4 (.slice Rf s'.a.fields.length rf) rfl; have c5 := cells_of_heap HR14.out.hp 5 (.slice Rt s'.a.trails.length rt) rfl; have c6 := cells_of_heap HR14.out.hp 6 (.bool s'.a.done) rfl; have HP14 := Aside0.mk (HP13.out.below' hb); have HF14 := Aside0.mk (HF13.out.keep fun g' e => hb.block g' (HF13.out.lt g' e)); have HT14 := Aside0.mk (HT13.out.keep fun g' e => hb.block g' (HT13.out.lt g' e)); clear hb HR13 HP13 HF13 HT13)
          (try dsimp only)
          refine hK _ _ ⟨c1, c4, c5, c6⟩ ?_
          (try simp only [Act.put, List.setIfInBounds_toArray, List.set_cons_zero, List.set_cons_succ])
          clear hK
          refine rg_take (fuel := 10) 23 #[true, true, true, true, true, true, true, true, true, true, true, true, true, true, true, true, true, true, true, true, true, true, true, true, false, false, false, false, false, false, false, false, false, false] (by kernel_rfl) ?vb2_23 rfl (by kernel_rfl) (by kernel_rfl) (by kernel_rfl) (fun _ _ _ h => h) (by kernel_rfl) ⟨c1, c4, c5, c6⟩ ?hyb2_23 ?_
          case hyb2_23 => intro w hSw; (try dsimp only at hSw); go_simp; (try with_reducible rfl)
          (try simp only [Act.put, List.setIfInBounds_toArray, List.set_cons_zero, List.set_cons_succ])
          refine rg_take (fuel := 9) 24 #[true, true, true, true, true, true, true, true, true, true, true, true, true, true, true, true, true, true, true, true, true, true, true, true, true, false, false, false, false, false, false, false, false, false] (by kernel_rfl) ?vb2_24 rfl (by kernel_rfl) (by kernel_rfl) (by kernel_rfl) (fun _ _ _ h => h) (by kernel_rfl) ⟨c1, c4, c5, c6⟩ ?hyb2_24 ?_
          case hyb2_24 => intro w hSw; (try dsimp only at hSw); go_simp; (try with_reducible rfl)
          (try simp only [Act.put, List.setIfInBounds_toArray, List.set_cons_zero, List.set_cons_succ])
          refine rg_take (fuel := 8) 25 #[true, true, true, true, true, true, true, true, true, true, true, true, true, true, true, true, true, true, true, true, true, true, true, true, true, true, false, false, false, false, false, false, false, false] (by kernel_rfl) ?vb2_25 rfl (by kernel_rfl) (by kernel_rfl) (by kernel_rfl) (fun _ _ _ h => h) (by kernel_rfl) ⟨c1, c4, c5, c6⟩ ?hyb2_25 ?_
          case hyb2_25 => intro w hSw; (try dsimp only at hSw); go_simp; (try with_reducible rfl)
          (try simp only [Act.put, List.setIfInBounds_toArray, List.set_cons_zero, List.set_cons_succ])
          refine rg_take (fuel := 7) 26 #[true, true, true, true, true, true, true, true, true, true, true, true, true, true, true, true, true, true, true, true, true, true, true, true, true, true, true, false, false, false, false, false, false, false] (by kernel_rfl) ?vb2_26 rfl (by kernel_rfl) (by kernel_rfl) (by kernel_rfl) (fun _ _ _ h => h) (by kernel_rfl) ⟨c1, c4, c5, c6⟩ ?hyb2_26 ?_
          case hyb2_26 => intro w hSw; (try dsimp only at hSw); go_simp; (try with_reducible rfl)
          (try simp only [Act.put, List.setIfInBounds_toArray, List.set_cons_zero, List.set_cons_succ])
          refine rg_take (fuel := 6) 28 #[true, true, true, true, true, true, true, true, true, true, true, true, true, true, true, true, true, true, true, true, true, true, true, true, true, true, true, false, true, false, false, false, false, false] (by kernel_rfl) ?vb2_28 rfl (by kernel_rfl) (by kernel_rfl) (by kernel_rfl) (fun _ _ _ h => h) (by kernel_rfl) ⟨c1, c4, c5, c6⟩ ?hyb2_28 ?_
          case hyb2_28 => intro w hSw; (try dsimp only at hSw); go_simp; (try with_reducible rfl)
          (try simp only [Act.put, List.setIfInBounds_toArray, List.set_cons_zero, List.set_cons_succ])
          refine rg_take (fuel := 5) 29 #[true, true, true, true, true, true, true, true, true, true, true, true, true, true, true, true, true, true, true, true, true, true, true, true, true, true, true, false, true, true, false, false, false, false] (by kernel_rfl) ?vb2_29 rfl (by kernel_rfl) (by kernel_rfl) (by kernel_rfl) (fun _ _ _ h => h) (by kernel_rfl) ⟨c1, c4, c5, c6⟩ ?hyb2_29 ?_
          case hyb2_29 => intro w hSw; (try dsimp only at hSw); go_simp; (try with_reducible rfl)
          (try simp only [Act.put, List.setIfInBounds_toArray, List.set_cons_zero, List.set_cons_succ])
          refine rg_take (fuel := 4) 30 #[true, true, true, true, true, true, true, true, true, true, true, true, true, true, true, true, true, true, true, true, true, true, true, true, true, true, true, false, true, true, true, false, false, false] (by kernel_rfl) ?vb2_30 rfl (by kernel_rfl) (by kernel_rfl) (by kernel_rfl) (fun _ _ _ h => h) (by kernel_rfl) ⟨c1, c4, c5, c6⟩ ?hyb2_30 ?_
          case hyb2_30 => intro w hSw; (try dsimp only at hSw); go_simp; (try with_reducible rfl)
          (try simp only [Act.put, List.setIfInBounds_toArray, List.set_cons_zero, List.set_cons_succ])
          refine rg_take (fuel := 3) 31 #[true, true, true, true, true, true, true, true, true, true, true, true, true, true, true, true, true, true, true, true, true, true, true, true, true, true, true, false, true, true, true, true, false, false] (by kernel_rfl) ?vb2_31 rfl (by kernel_rfl) (by kernel_rfl) (by kernel_rfl) (fun _ _ _ h => h) (by kernel_rfl) ⟨c1, c4, c5, c6⟩ ?hyb2_31 ?_
          case hyb2_31 => intro w hSw; (try dsimp only at hSw); go_simp; (try with_reducible rfl)
          (try simp only [Act.put, List.setIfInBounds_toArray, List.set_cons_zero, List.set_cons_succ])
          refine rg_call (fuel := 2) 27 #[true, true, true, true, true, true, true, true, true, true, true, true, true, true, true, true, true, true, true, true, true, true, true, true, true, true, true, true, true, true, true, true, false, false] (by kernel_rfl) rfl (by kernel_rfl) (by kernel_rfl) (fun K hK => ?_)
          go_simp
          (go_at_call 28; refine (HP14.out.done).mono ?_; rintro e w15 ⟨rfl, hb⟩; have HR15 := Aside0.mk (HR14.out.below hb); clear c1 c4 c5 c6; have c1 := cells_of_heap HR15.out.hp 1 (.int .i64 s'.a.status) rfl; have c4 := cells_of_heap HR15.out.hp 4 (.slice Rf s'.a.fields.length rf) rfl; have c5 := cells_of_heap HR15.out.hp 5 (.slice Rt s'.a.trails.length rt) rfl; have c6 := cells_of_heap HR15.out.hp 6 (.bool s'.a.done) rfl; have HP15 := Aside0.mk (HP14.out.below' hb); have HF15 := Aside0.mk (HF14.out.keep fun g' e => hb.block g' (HF14.out.lt g' e)); have HT15 := Aside0.mk (HT14.out.keep fun g' e => hb.block g' (HT14.out.lt g' e)); clear hb HR14 HP14 HF14 HT14)
          (try dsimp only)
          refine hK _ _ ⟨c1, c4, c5, c6⟩ ?_
          (try simp only [Act.put, List.setIfInBounds_toArray, List.set_cons_zero, List.set_cons_succ])
          clear hK
          refine rg_take (fuel := 1) 32 #[true, true, true, true, true, true, true, true, true, true, true, true, true, true, true, true, true, true, true, true, true, true, true, true, true, true, true, true, true, true, true, true, true, false] (by kernel_rfl) ?vb2_32 rfl (by kernel_rfl) (by kernel_rfl) (by kernel_rfl) (fun _ _ _ h => h) (by kernel_rfl) ⟨c1, c4, c5, c6⟩ ?hyb2_32 ?_
          case hyb2_32 => intro w hSw; (try dsimp only at hSw); go_simp; (try with_reducible rfl)
          (try simp only [Act.put, List.setIfInBounds_toArray, List.set_cons_zero, List.set_cons_succ])
          refine rg_take (fuel := 0) 33 #[true, true, true, true, true, true, true, true, true, true, true, true, true, true, true, true, true, true, true, true, true, true, true, true, true, true, true, true, true, true, true, true, true, true] (by kernel_rfl) ?vb2_33 rfl (by kernel_rfl) (by kernel_rfl) (by kernel_rfl) (fun _ _ _ h => h) (by kernel_rfl) ⟨c1, c4, c5, c6⟩ ?hyb2_33 ?_
          case hyb2_33 => intro w hSw; (try dsimp only at hSw); go_simp; (try with_reducible rfl)
          (try simp only [Act.put, List.setIfInBounds_toArray, List.set_cons_zero, List.set_cons_succ])
          refine wpAnyH_done (by kernel_rfl) ?_ _
          clear c1 c4 c5 c6
          go_wp2
          go_roundg (gk - 1)
          case measure => have := HJ.out; have := HJ3.out; omega
          case rel => exact ⟨j + 1, s', _, congrArg (Value.int .i64) HWJ.out, ⟨by have := HJ.out; omega, by have := HJ.out; have := HJ3.out; omega⟩, HA7, HP15⟩
        · have q5 : decide (kd = 1) = false := decide_eq_false hk
          have q6 : (kd == 1) = false := beq_eq_false_iff_ne.2 hk
          have q7 : decide (kd = 2) = false := decide_eq_false hk2
          have q8 : (kd == 2) = false := beq_eq_false_iff_ne.2 hk2
          clear hk hk2
          go_wp2_with (first
            | (go_at_call 18; refine (HFw.out _ (below_alloc HP.out.bel _)).mono ?_; rintro e w3 ⟨rfl, hb⟩; have hbk := (hb.block _ (blk_lt (heap_alloc_new wr _))).trans (heap_alloc_new wr (.cells #[.int .i64 kd, .int .i64 on, .bool fi, .slice oA ol.length oc] 51)); have b1 := cells_of_heap hbk 1 _ rfl; have b3 := cells_of_heap hbk 3 _ rfl; have HBK3 := Aside0.mk hbk; have HP3 := Aside0.mk ((HP.out.below' (below_alloc (Below.refl _ _) _)).below' hb); clear hb hbk HFw HP)
            | (go_at_call 19; refine (Bk.lent_c (c := oc) (Kd.C_below HOk.out.2.1 HP3.out.bel) (by have := HSz.out.2.1; omega)).mono ?_; rintro e w4 ⟨gm, cm, rfl, hF, _, hb⟩; have hbk := (hb.block _ (blk_lt HBK3.out)).trans HBK3.out; clear b1 b3; have b0 := cells_of_heap hbk 0 _ rfl; have b1 := cells_of_heap hbk 1 _ rfl; have b2 := cells_of_heap hbk 2 _ rfl; have b3 := cells_of_heap hbk 3 _ rfl; have HBK4 := Aside0.mk hbk; have HP4 := Aside0.mk (HP3.out.below' hb); have HM4 := Aside0.mk hF; clear hb hbk hF HP3 HBK3))
          refine rg_start (S := (fun W => W.cell? ⟨wr.heap.size, 0, none⟩ = some (.int .i64 kd) ∧ W.cell? ⟨wr.heap.size, 1, none⟩ = some (.int .i64 on) ∧ W.cell? ⟨wr.heap.size, 2, none⟩ = some (.bool fi) ∧ W.cell? ⟨wr.heap.size, 3, none⟩ = some (.slice oA ol.length oc))) (by kernel_rfl) ⟨b0, b1, b2, b3⟩ 44 #[false, false, false, false, false, false, false, false, false, false, false, false, false, false, false, false, false, false, false, false, false, false, false, false, false, false, false, false, false, false, false, false, false, false, false, false, false, false, false, false, false, false, false, false] (by kernel_rfl) (by kernel_rfl) ?_
          have HP4 := Aside0.mk (HP4.out.below' (below_drew (Below.refl w4.heap.size w4)))
          have HM4 := Aside0.mk (Bk.fr_drew HM4.out)
          have HBK4 : Aside0 (w4.drew.heap[wr.heap.size]? = some (.cells #[.int .i64 kd, .int .i64 on, .bool fi, .slice oA ol.length oc] 51)) := ⟨HBK4.out⟩
          refine rg_take (fuel := 43) 0 #[true, false, false, false, false, false, false, false, false, false, false, false, false, false, false, false, false, false, false, false, false, false, false, false, false, false, false, false, false, false, false, false, false, false, false, false, false, false, false, false, false, false, false, false] (by kernel_rfl) ?va0_0 rfl (by kernel_rfl) (by kernel_rfl) (by kernel_rfl) (fun _ _ _ h => h) (by kernel_rfl) ⟨b0, b1, b2, b3⟩ ?hya0_0 ?_
          case hya0_0 => intro w hSw; (try dsimp only at hSw); go_simp; (try with_reducible rfl)
          (try simp only [Act.put, List.setIfInBounds_toArray, List.set_cons_zero, List.set_cons_succ])
          refine rg_take (fuel := 42) 1 #[true, true, false, false, false, false, false, false, false, false, false, false, false, false, false, false, false, false, false, false, false, false, false, false, false, false, false, false, false, false, false, false, false, false, false, false, false, false, false, false, false, false, false, false] (by kernel_rfl) ?va0_1 rfl (by kernel_rfl) (by kernel_rfl) (by kernel_rfl) (fun _ _ _ h => h) (by kernel_rfl) ⟨b0, b1, b2, b3⟩ ?hya0_1 ?_
          case hya0_1 => intro w hSw; (try dsimp only at hSw); go_simp; (try with_reducible rfl)
          (try simp only [Act.put, List.setIfInBounds_toArray, List.set_cons_zero, List.set_cons_succ])
          refine rg_take (fuel := 41) 2 #[true, true, true, false, false, false, false, false, false, false, false, false, false, false, false, false, false, false, false, false, false, false, false, false, false, false, false, false, false, false, false, false, false, false, false, false, false, false, false, false, false, false, false, false] (by kernel_rfl) ?va0_2 rfl (by kernel_rfl) (by kernel_rfl) (by kernel_rfl) (fun _ _ _ h => h) (by kernel_rfl) ⟨b0, b1, b2, b3⟩ ?hya0_2 ?_
          case hya0_2 => intro w hSw; (try dsimp only at hSw); go_simp; (try with_reducible rfl)
          (try simp only [Act.put, List.setIfInBounds_toArray, List.set_cons_zero, List.set_cons_succ])
          refine rg_take (fuel := 40) 3 #[true, true, true, true, false, false, false, false, false, false, false, false, false, false, false, false, false, false, false, false, false, false, false, false, false, false, false, false, false, false, false, false, false, false, false, false, false, false, false, false, false, false, false, false] (by kernel_rfl) ?va0_3 rfl (by kernel_rfl) (by kernel_rfl) (by kernel_rfl) (fun _ _ _ h => h) (by kernel_rfl) ⟨b0, b1, b2, b3⟩ ?hya0_3 ?_
          case hya0_3 => intro w hSw; (try dsimp only at hSw); go_simp; (try with_reducible rfl)
          (try simp only [Act.put, List.setIfInBounds_toArray, List.set_cons_zero, List.set_cons_succ])
          refine rg_skip (fuel := 39) 4 #[true, true, true, true, true, false, false, false, false, false, false, false, false, false, false, false, false, false, false, false, false, false, false, false, false, false, false, false, false, false, false, false, false, false, false, false, false, false, false, false, false, false, false, false] (by kernel_rfl) rfl (by kernel_rfl) (by kernel_rfl) (by kernel_rfl) (fun _ _ _ h => h) (by kernel_rfl) ⟨b0, b1, b2, b3⟩ ?_
          (try simp only [Act.put, List.setIfInBounds_toArray, List.set_cons_zero, List.set_cons_succ])
          refine rg_skip (fuel := 38) 5 #[true, true, true, true, true, true, false, false, false, false, false, false, false, false, false, false, false, false, false, false, false, false, false, false, false, false, false, false, false, false, false, false, false, false, false, false, false, false, false, false, false, false, false, false] (by kernel_rfl) rfl (by kernel_rfl) (by kernel_rfl) (by kernel_rfl) (fun _ _ _ h => h) (by kernel_rfl) ⟨b0, b1, b2, b3⟩ ?_
          (try simp only [Act.put, List.setIfInBounds_toArray, List.set_cons_zero, List.set_cons_succ])
          refine rg_skip (fuel := 37) 6 #[true, true, true, true, true, true, true, false, false, false, false, false, false, false, false, false, false, false, false, false, false, false, false, false, false, false, false, false, false, false, false, false, false, false, false, false, false, false, false, false, false, false, false, false] (by kernel_rfl) rfl (by kernel_rfl) (by kernel_rfl) (by kernel_rfl) (fun _ _ _ h => h) (by kernel_rfl) ⟨b0, b1, b2, b3⟩ ?_
          (try simp only [Act.put, List.setIfInBounds_toArray, List.set_cons_zero, List.set_cons_succ])
          refine rg_skip (fuel := 36) 7 #[true, true, true, true, true, true, true, true, false, false, false, false, false, false, false, false, false, false, false, false, false, false, false, false, false, false, false, false, false, false, false, false, false, false, false, false, false, false, false, false, false, false, false, false] (by kernel_rfl) rfl (by kernel_rfl) (by kernel_rfl) (by kernel_rfl) (fun _ _ _ h => h) (by kernel_rfl) ⟨b0, b1, b2, b3⟩ ?_
          (try simp only [Act.put, List.setIfInBounds_toArray, List.set_cons_zero, List.set_cons_succ])
          refine rg_skip (fuel := 35) 9 #[true, true, true, true, true, true, true, true, false, true, false, false, false, false, false, false, false, false, false, false, false, false, false, false, false, false, false, false, false, false, false, false, false, false, false, false, false, false, false, false, false, false, false, false] (by kernel_rfl) rfl (by kernel_rfl) (by kernel_rfl) (by kernel_rfl) (fun _ _ _ h => h) (by kernel_rfl) ⟨b0, b1, b2, b3⟩ ?_
          (try simp only [Act.put, List.setIfInBounds_toArray, List.set_cons_zero, List.set_cons_succ])
          refine rg_skip (fuel := 34) 10 #[true, true, true, true, true, true, true, true, false, true, true, false, false, false, false, false, false, false, false, false, false, false, false, false, false, false, false, false, false, false, false, false, false, false, false, false, false, false, false, false, false, false, false, false] (by kernel_rfl) rfl (by kernel_rfl) (by kernel_rfl) (by kernel_rfl) (fun _ _ _ h => h) (by kernel_rfl) ⟨b0, b1, b2, b3⟩ ?_
          (try simp only [Act.put, List.setIfInBounds_toArray, List.set_cons_zero, List.set_cons_succ])
          refine rg_skip (fuel := 33) 11 #[true, true, true, true, true, true, true, true, false, true, true, true, false, false, false, false, false, false, false, false, false, false, false, false, false, false, false, false, false, false, false, false, false, false, false, false, false, false, false, false, false, false, false, false] (by kernel_rfl) rfl (by kernel_rfl) (by kernel_rfl) (by kernel_rfl) (fun _ _ _ h => h) (by kernel_rfl) ⟨b0, b1, b2, b3⟩ ?_
          (try simp only [Act.put, List.setIfInBounds_toArray, List.set_cons_zero, List.set_cons_succ])
          refine rg_skip (fuel := 32) 12 #[true, true, true, true, true, true, true, true, false, true, true, true, true, false, false, false, false, false, false, false, false, false, false, false, false, false, false, false, false, false, false, false, false, false, false, false, false, false, false, false, false, false, false, false] (by kernel_rfl) rfl (by kernel_rfl) (by kernel_rfl) (by kernel_rfl) (fun _ _ _ h => h) (by kernel_rfl) ⟨b0, b1, b2, b3⟩ ?_
          (try simp only [Act.put, List.setIfInBounds_toArray, List.set_cons_zero, List.set_cons_succ])
          refine rg_skip (fuel := 31) 13 #[true, true, true, true, true, true, true, true, false, true, true, true, true, true, false, false, false, false, false, false, false, false, false, false, false, false, false, false, false, false, false, false, false, false, false, false, false, false, false, false, false, false, false, false] (by kernel_rfl) rfl (by kernel_rfl) (by kernel_rfl) (by kernel_rfl) (fun _ _ _ h => h) (by kernel_rfl) ⟨b0, b1, b2, b3⟩ ?_
          (try simp only [Act.put, List.setIfInBounds_toArray, List.set_cons_zero, List.set_cons_succ])
          refine rg_pass (fuel := 30) 8 #[true, true, true, true, true, true, true, true, true, true, true, true, true, true, false, false, false, false, false, false, false, false, false, false, false, false, false, false, false, false, false, false, false, false, false, false, false, false, false, false, false, false, false, false] (by kernel_rfl) rfl (by kernel_rfl) (by kernel_rfl) ⟨b0, b1, b2, b3⟩ ?_
          (try simp only [Act.put, List.setIfInBounds_toArray, List.set_cons_zero, List.set_cons_succ])
          refine rg_pass (fuel := 29) 14 #[true, true, true, true, true, true, true, true, true, true, true, true, true, true, true, false, false, false, false, false, false, false, false, false, false, false, false, false, false, false, false, false, false, false, false, false, false, false, false, false, false, false, false, false] (by kernel_rfl) rfl (by kernel_rfl) (by kernel_rfl) ⟨b0, b1, b2, b3⟩ ?_
          (try simp only [Act.put, List.setIfInBounds_toArray, List.set_cons_zero, List.set_cons_succ])
          refine rg_skip (fuel := 28) 15 #[true, true, true, true, true, true, true, true, true, true, true, true, true, true, true, true, false, false, false, false, false, false, false, false, false, false, false, false, false, false, false, false, false, false, false, false, false, false, false, false, false, false, false, false] (by kernel_rfl) rfl (by kernel_rfl) (by kernel_rfl) (by kernel_rfl) (fun _ _ _ h => h) (by kernel_rfl) ⟨b0, b1, b2, b3⟩ ?_
          (try simp only [Act.put, List.setIfInBounds_toArray, List.set_cons_zero, List.set_cons_succ])
          refine rg_take (fuel := 27) 16 #[true, true, true, true, true, true, true, true, true, true, true, true, true, true, true, true, true, false, false, false, false, false, false, false, false, false, false, false, false, false, false, false, false, false, false, false, false, false, false, false, false, false, false, false] (by kernel_rfl) ?va0_16 rfl (by kernel_rfl) (by kernel_rfl) (by kernel_rfl) (fun _ _ _ h => h) (by kernel_rfl) ⟨b0, b1, b2, b3⟩ ?hya0_16 ?_
          case hya0_16 => intro w hSw; (try dsimp only at hSw); go_simp; (try with_reducible rfl)
          (try simp only [Act.put, List.setIfInBounds_toArray, List.set_cons_zero, List.set_cons_succ])
          refine rg_take (fuel := 26) 17 #[true, true, true, true, true, true, true, true, true, true, true, true, true, true, true, true, true, true, false, false, false, false, false, false, false, false, false, false, false, false, false, false, false, false, false, false, false, false, false, false, false, false, false, false] (by kernel_rfl) ?va0_17 rfl (by kernel_rfl) (by kernel_rfl) (by kernel_rfl) (fun _ _ _ h => h) (by kernel_rfl) ⟨b0, b1, b2, b3⟩ ?hya0_17 ?_
          case hya0_17 => intro w hSw; (try dsimp only at hSw); go_simp; (try with_reducible rfl)
          (try simp only [Act.put, List.setIfInBounds_toArray, List.set_cons_zero, List.set_cons_succ])
          refine rg_take (fuel := 25) 18 #[true, true, true, true, true, true, true, true, true, true, true, true, true, true, true, true, true, true, true, false, false, false, false, false, false, false, false, false, false, false, false, false, false, false, false, false, false, false, false, false, false, false, false, false] (by kernel_rfl) ?va0_18 rfl (by kernel_rfl) (by kernel_rfl) (by kernel_rfl) (fun _ _ _ h => h) (by kernel_rfl) ⟨b0, b1, b2, b3⟩ ?hya0_18 ?_
          case hya0_18 => intro w hSw; (try dsimp only at hSw); go_simp; (try with_reducible rfl)
          (try simp only [Act.put, List.setIfInBounds_toArray, List.set_cons_zero, List.set_cons_succ])
          refine rg_take (fuel := 24) 19 #[true, true, true, true, true, true, true, true, true, true, true, true, true, true, true, true, true, true, true, true, false, false, false, false, false, false, false, false, false, false, false, false, false, false, false, false, false, false, false, false, false, false, false, false] (by kernel_rfl) ?va0_19 rfl (by kernel_rfl) (by kernel_rfl) (by kernel_rfl) (fun _ _ _ h => h) (by kernel_rfl) ⟨b0, b1, b2, b3⟩ ?hya0_19 ?_
          case hya0_19 => intro w hSw; (try dsimp only at hSw); go_simp; (try with_reducible rfl)
          (try simp only [Act.put, List.setIfInBounds_toArray, List.set_cons_zero, List.set_cons_succ])
          refine rg_take (fuel := 23) 20 #[true, true, true, true, true, true, true, true, true, true, true, true, true, true, true, true, true, true, true, true, true, false, false, false, false, false, false, false, false, false, false, false, false, false, false, false, false, false, false, false, false, false, false, false] (by kernel_rfl) ?va0_20 rfl (by kernel_rfl) (by kernel_rfl) (by kernel_rfl) (fun _ _ _ h => h) (by kernel_rfl) ⟨b0, b1, b2, b3⟩ ?hya0_20 ?_
          case hya0_20 => intro w hSw; (try dsimp only at hSw); go_simp; (try with_reducible rfl)
          (try simp only [Act.put, List.setIfInBounds_toArray, List.set_cons_zero, List.set_cons_succ])
          refine rg_take (fuel := 22) 21 #[true, true, true, true, true, true, true, true, true, true, true, true, true, true, true, true, true, true, true, true, true, true, false, false, false, false, false, false, false, false, false, false, false, false, false, false, false, false, false, false, false, false, false, false] (by kernel_rfl) ?va0_21 rfl (by kernel_rfl) (by kernel_rfl) (by kernel_rfl) (fun _ _ _ h => h) (by kernel_rfl) ⟨b0, b1, b2, b3⟩ ?hya0_21 ?_
          case hya0_21 => intro w hSw; (try dsimp only at hSw); go_simp; (try with_reducible rfl)
          (try simp only [Act.put, List.setIfInBounds_toArray, List.set_cons_zero, List.set_cons_succ])
          refine rg_skip (fuel := 21) 22 #[true, true, true, true, true, true, true, true, true, true, true, true, true, true, true, true, true, true, true, true, true, true, true, false, false, false, false, false, false, false, false, false, false, false, false, false, false, false, false, false, false, false, false, false] (by kernel_rfl) rfl (by kernel_rfl) (by kernel_rfl) (by kernel_rfl) (fun _ _ _ h => h) (by kernel_rfl) ⟨b0, b1, b2, b3⟩ ?_
          (try simp only [Act.put, List.setIfInBounds_toArray, List.set_cons_zero, List.set_cons_succ])
          refine rg_skip (fuel := 20) 23 #[true, true, true, true, true, true, true, true, true, true, true, true, true, true, true, true, true, true, true, true, true, true, true, true, false, false, false, false, false, false, false, false, false, false, false, false, false, false, false, false, false, false, false, false] (by kernel_rfl) rfl (by kernel_rfl) (by kernel_rfl) (by kernel_rfl) (fun _ _ _ h => h) (by kernel_rfl) ⟨b0, b1, b2, b3⟩ ?_
          (try simp only [Act.put, List.setIfInBounds_toArray, List.set_cons_zero, List.set_cons_succ])
          refine rg_skip (fuel := 19) 24 #[true, true, true, true, true, true, true, true, true, true, true, true, true, true, true, true, true, true, true, true, true, true, true, true, true, false, false, false, false, false, false, false, false, false, false, false, false, false, false, false, false, false, false, false] (by kernel_rfl) rfl (by kernel_rfl) (by kernel_rfl) (by kernel_rfl) (fun _ _ _ h => h) (by kernel_rfl) ⟨b0, b1, b2, b3⟩ ?_
          (try simp only [Act.put, List.setIfInBounds_toArray, List.set_cons_zero, List.set_cons_succ])
          refine rg_skip (fuel := 18) 25 #[true, true, true, true, true, true, true, true, true, true, true, true, true, true, true, true, true, true, true, true, true, true, true, true, true, true, false, false, false, false, false, false, false, false, false, false, false, false, false, false, false, false, false, false] (by kernel_rfl) rfl (by kernel_rfl) (by kernel_rfl) (by kernel_rfl) (fun _ _ _ h => h) (by kernel_rfl) ⟨b0, b1, b2, b3⟩ ?_
          (try simp only [Act.put, List.setIfInBounds_toArray, List.set_cons_zero, List.set_cons_succ])
          refine rg_skip (fuel := 17) 26 #[true, true, true, true, true, true, true, true, true, true, true, true, true, true, true, true, true, true, true, true, true, true, true, true, true, true, true, false, false, false, false, false, false, false, false, false, false, false, false, false, false, false, false, false] (by kernel_rfl) rfl (by kernel_rfl) (by kernel_rfl) (by kernel_rfl) (fun _ _ _ h => h) (by kernel_rfl) ⟨b0, b1, b2, b3⟩ ?_
          (try simp only [Act.put, List.setIfInBounds_toArray, List.set_cons_zero, List.set_cons_succ])
          refine rg_skip (fuel := 16) 28 #[true, true, true, true, true, true, true, true, true, true, true, true, true, true, true, true, true, true, true, true, true, true, true, true, true, true, true, false, true, false, false, false, false, false, false, false, false, false, false, false, false, false, false, false] (by kernel_rfl) rfl (by kernel_rfl) (by kernel_rfl) (by kernel_rfl) (fun _ _ _ h => h) (by kernel_rfl) ⟨b0, b1, b2, b3⟩ ?_
          (try simp only [Act.put, List.setIfInBounds_toArray, List.set_cons_zero, List.set_cons_succ])
          refine rg_skip (fuel := 15) 29 #[true, true, true, true, true, true, true, true, true, true, true, true, true, true, true, true, true, true, true, true, true, true, true, true, true, true, true, false, true, true, false, false, false, false, false, false, false, false, false, false, false, false, false, false] (by kernel_rfl) rfl (by kernel_rfl) (by kernel_rfl) (by kernel_rfl) (fun _ _ _ h => h) (by kernel_rfl) ⟨b0, b1, b2, b3⟩ ?_
          (try simp only [Act.put, List.setIfInBounds_toArray, List.set_cons_zero, List.set_cons_succ])
          refine rg_skip (fuel := 14) 30 #[true, true, true, true, true, true, true, true, true, true, true, true, true, true, true, true, true, true, true, true, true, true, true, true, true, true, true, false, true, true, true, false, false, false, false, false, false, false, false, false, false, false, false, false] (by kernel_rfl) rfl (by kernel_rfl) (by kernel_rfl) (by kernel_rfl) (fun _ _ _ h => h) (by kernel_rfl) ⟨b0, b1, b2, b3⟩ ?_
          (try simp only [Act.put, List.setIfInBounds_toArray, List.set_cons_zero, List.set_cons_succ])
          refine rg_skip (fuel := 13) 31 #[true, true, true, true, true, true, true, true, true, true, true, true, true, true, true, true, true, true, true, true, true, true, true, true, true, true, true, false, true, true, true, true, false, false, false, false, false, false, false, false, false, false, false, false] (by kernel_rfl) rfl (by kernel_rfl) (by kernel_rfl) (by kernel_rfl) (fun _ _ _ h => h) (by kernel_rfl) ⟨b0, b1, b2, b3⟩ ?_
          (try simp only [Act.put, List.setIfInBounds_toArray, List.set_cons_zero, List.set_cons_succ])
          refine rg_skip (fuel := 12) 32 #[true, true, true, true, true, true, true, true, true, true, true, true, true, true, true, true, true, true, true, true, true, true, true, true, true, true, true, false, true, true, true, true, true, false, false, false, false, false, false, false, false, false, false, false] (by kernel_rfl) rfl (by kernel_rfl) (by kernel_rfl) (by kernel_rfl) (fun _ _ _ h => h) (by kernel_rfl) ⟨b0, b1, b2, b3⟩ ?_
          (try simp only [Act.put, List.setIfInBounds_toArray, List.set_cons_zero, List.set_cons_succ])
          refine rg_pass (fuel := 11) 27 #[true, true, true, true, true, true, true, true, true, true, true, true, true, true, true, true, true, true, true, true, true, true, true, true, true, true, true, true, true, true, true, true, true, false, false, false, false, false, false, false, false, false, false, false] (by kernel_rfl) rfl (by kernel_rfl) (by kernel_rfl) ⟨b0, b1, b2, b3⟩ ?_
          (try simp only [Act.put, List.setIfInBounds_toArray, List.set_cons_zero, List.set_cons_succ])
          refine rg_pass (fuel := 10) 33 #[true, true, true, true, true, true, true, true, true, true, true, true, true, true, true, true, true, true, true, true, true, true, true, true, true, true, true, true, true, true, true, true, true, true, false, false, false, false, false, false, false, false, false, false] (by kernel_rfl) rfl (by kernel_rfl) (by kernel_rfl) ⟨b0, b1, b2, b3⟩ ?_
          (try simp only [Act.put, List.setIfInBounds_toArray, List.set_cons_zero, List.set_cons_succ])
          refine rg_skip (fuel := 9) 34 #[true, true, true, true, true, true, true, true, true, true, true, true, true, true, true, true, true, true, true, true, true, true, true, true, true, true, true, true, true, true, true, true, true, true, true, false, false, false, false, false, false, false, false, false] (by kernel_rfl) rfl (by kernel_rfl) (by kernel_rfl) (by kernel_rfl) (fun _ _ _ h => h) (by kernel_rfl) ⟨b0, b1, b2, b3⟩ ?_
          (try simp only [Act.put, List.setIfInBounds_toArray, List.set_cons_zero, List.set_cons_succ])
          refine rg_take (fuel := 8) 35 #[true, true, true, true, true, true, true, true, true, true, true, true, true, true, true, true, true, true, true, true, true, true, true, true, true, true, true, true, true, true, true, true, true, true, true, true, false, false, false, false, false, false, false, false] (by kernel_rfl) ?va0_35 rfl (by kernel_rfl) (by kernel_rfl) (by kernel_rfl) (fun _ _ _ h => h) (by kernel_rfl) ⟨b0, b1, b2, b3⟩ ?hya0_35 ?_
          case hya0_35 => intro w hSw; (try dsimp only at hSw); go_simp; (try with_reducible rfl)
          (try simp only [Act.put, List.setIfInBounds_toArray, List.set_cons_zero, List.set_cons_succ])
          refine rg_take (fuel := 7) 36 #[true, true, true, true, true, true, true, true, true, true, true, true, true, true, true, true, true, true, true, true, true, true, true, true, true, true, true, true, true, true, true, true, true, true, true, true, true, false, false, false, false, false, false, false] (by kernel_rfl) ?va0_36 rfl (by kernel_rfl) (by kernel_rfl) (by kernel_rfl) (fun _ _ _ h => h) (by kernel_rfl) ⟨b0, b1, b2, b3⟩ ?hya0_36 ?_
          case hya0_36 => intro w hSw; (try dsimp only at hSw); go_simp; (try with_reducible rfl)
          (try simp only [Act.put, List.setIfInBounds_toArray, List.set_cons_zero, List.set_cons_succ])
          refine rg_take (fuel := 6) 37 #[true, true, true, true, true, true, true, true, true, true, true, true, true, true, true, true, true, true, true, true, true, true, true, true, true, true, true, true, true, true, true, true, true, true, true, true, true, true, false, false, false, false, false, false] (by kernel_rfl) ?va0_37 rfl (by kernel_rfl) (by kernel_rfl) (by kernel_rfl) (fun _ _ _ h => h) (by kernel_rfl) ⟨b0, b1, b2, b3⟩ ?hya0_37 ?_
          case hya0_37 => intro w hSw; (try dsimp only at hSw); go_simp; (try with_reducible rfl)
          (try simp only [Act.put, List.setIfInBounds_toArray, List.set_cons_zero, List.set_cons_succ])
          refine rg_take (fuel := 5) 38 #[true, true, true, true, true, true, true, true, true, true, true, true, true, true, true, true, true, true, true, true, true, true, true, true, true, true, true, true, true, true, true, true, true, true, true, true, true, true, true, false, false, false, false, false] (by kernel_rfl) ?va0_38 rfl (by kernel_rfl) (by kernel_rfl) (by kernel_rfl) (fun _ _ _ h => h) (by kernel_rfl) ⟨b0, b1, b2, b3⟩ ?hya0_38 ?_
          case hya0_38 => intro w hSw; (try dsimp only at hSw); go_simp; (try with_reducible rfl)
          (try simp only [Act.put, List.setIfInBounds_toArray, List.set_cons_zero, List.set_cons_succ])
          refine rg_take (fuel := 4) 39 #[true, true, true, true, true, true, true, true, true, true, true, true, true, true, true, true, true, true, true, true, true, true, true, true, true, true, true, true, true, true, true, true, true, true, true, true, true, true, true, true, false, false, false, false] (by kernel_rfl) ?va0_39 rfl (by kernel_rfl) (by kernel_rfl) (by kernel_rfl) (fun _ _ _ h => h) (by kernel_rfl) ⟨b0, b1, b2, b3⟩ ?hya0_39 ?_
          case hya0_39 => intro w hSw; (try dsimp only at hSw); go_simp; (try with_reducible rfl)
          (try simp only [Act.put, List.setIfInBounds_toArray, List.set_cons_zero, List.set_cons_succ])
          refine rg_take (fuel := 3) 40 #[true, true, true, true, true, true, true, true, true, true, true, true, true, true, true, true, true, true, true, true, true, true, true, true, true, true, true, true, true, true, true, true, true, true, true, true, true, true, true, true, true, false, false, false] (by kernel_rfl) ?va0_40 rfl (by kernel_rfl) (by kernel_rfl) (by kernel_rfl) (fun _ _ _ h => h) (by kernel_rfl) ⟨b0, b1, b2, b3⟩ ?hya0_40 ?_
          case hya0_40 => intro w hSw; (try dsimp only at hSw); go_simp; (try with_reducible rfl)
          (try simp only [Act.put, List.setIfInBounds_toArray, List.set_cons_zero, List.set_cons_succ])
          refine rg_call (fuel := 2) 41 #[true, true, true, true, true, true, true, true, true, true, true, true, true, true, true, true, true, true, true, true, true, true, true, true, true, true, true, true, true, true, true, true, true, true, true, true, true, true, true, true, true, true, false, false] (by kernel_rfl) rfl (by kernel_rfl) (by kernel_rfl) (fun K hK => ?_)
          go_simp
          (go_at_call 24; refine (Bk.stays_c (d := oc) HM4.out (Kd.C_below HOk.out.2.1 HP4.out.bel) HOk.out.1 (by have := HSz.out.2.1; omega)).mono ?_; rintro e w7 ⟨rfl, hb⟩; have HP7 := Aside0.mk (HP4.out.below' hb); have hbk := (hb.block _ (blk_lt HBK4.out)).trans HBK4.out; clear b0 b1 b2 b3; have b0 := cells_of_heap hbk 0 _ rfl; have b1 := cells_of_heap hbk 1 _ rfl; have b2 := cells_of_heap hbk 2 _ rfl; have b3 := cells_of_heap hbk 3 _ rfl; clear hb hbk HP4 HBK4 HM4)
          (try dsimp only)
          refine hK _ _ ⟨b0, b1, b2, b3⟩ ?_
          (try simp only [Act.put, List.setIfInBounds_toArray, List.set_cons_zero, List.set_cons_succ])
          clear hK
          refine rg_take (fuel := 1) 42 #[true, true, true, true, true, true, true, true, true, true, true, true, true, true, true, true, true, true, true, true, true, true, true, true, true, true, true, true, true, true, true, true, true, true, true, true, true, true, true, true, true, true, true, false] (by kernel_rfl) ?va0_42 rfl (by kernel_rfl) (by kernel_rfl) (by kernel_rfl) (fun _ _ _ h => h) (by kernel_rfl) ⟨b0, b1, b2, b3⟩ ?hya0_42 ?_
          case hya0_42 => intro w hSw; (try dsimp only at hSw); go_simp; (try with_reducible rfl)
          (try simp only [Act.put, List.setIfInBounds_toArray, List.set_cons_zero, List.set_cons_succ])
          refine rg_take (fuel := 0) 43 #[true, true, true, true, true, true, true, true, true, true, true, true, true, true, true, true, true, true, true, true, true, true, true, true, true, true, true, true, true, true, true, true, true, true, true, true, true, true, true, true, true, true, true, true] (by kernel_rfl) ?va0_43 rfl (by kernel_rfl) (by kernel_rfl) (by kernel_rfl) (fun _ _ _ h => h) (by kernel_rfl) ⟨b0, b1, b2, b3⟩ ?hya0_43 ?_
          case hya0_43 => intro w hSw; (try dsimp only at hSw); go_simp; (try with_reducible rfl)
          (try simp only [Act.put, List.setIfInBounds_toArray, List.set_cons_zero, List.set_cons_succ])
          refine wpAnyH_done (by kernel_rfl) ?_ _
          have HA7 := Aside0.mk (alz_same HA.out)
          clear b0 b1 b2 b3
          go_wp2_with (first
            | (go_at_call 25; refine (HP7.out.fieldsM (by have := HA7.out.ln.1; omega)).mono ?_; rintro e w8 ⟨Af, cf, rfl, hF, hA, hb, hp, _⟩; have HF8 := Aside0.mk hF; have HAf := Aside0.mk (And.intro hA hF.lt); have HG7 := Aside0.mk (HP7.out.lt); have HN7 := Aside0.mk HP7.out.bel.size; have HSz7 : Aside0 (w7.heap.size ≤ w8.heap.size) := ⟨hb.size⟩; have HP8 := Aside0.mk hp; clear hF hA hb hp HP7)
            | (go_at_call 26; refine (HP8.out.trails (by have := HA7.out.ln.2; omega)).mono ?_; rintro e w9 ⟨At, ct, rfl, hF, hA, hb, hp, hf⟩; have HF9 := Aside0.mk (hf.fr HF8.out); have HT9 := Aside0.mk hF; have HAt := Aside0.mk (And.intro hA hF.lt); have HSz8 : Aside0 (w7.heap.size ≤ w8.heap.size ∧ w8.heap.size ≤ w9.heap.size) := ⟨HSz7.out, hb.size⟩; have HP9 := Aside0.mk hp; clear hF hA hb hp hf HP8 HF8)
            | (go_at_call 10; refine (HP9.out.book HF9.out (by have := HA7.out.ln.1; omega) (fun k e => by have h1 := HAf.out.1 k e; have h2 := HAf.out.2 k e; have h3 := HG7.out; have h4 := HN7.out; exact ⟨by omega, .inl (.inr ⟨h1, h2⟩), by omega, by omega⟩)).mono ?_; rintro e w10 ⟨rfl, hp, hf⟩; have HF10 := Aside0.mk (hf.fr HF9.out); have HT10 := Aside0.mk (hf.fr HT9.out); have HP10 := Aside0.mk hp; clear hp hf HP9 HF9 HT9)
            | (go_at_call 10; refine (HP10.out.book HT10.out (by have := HA7.out.ln.2; omega) (fun k e => by have h1 := HAt.out.1 k e; have h2 := HAt.out.2 k e; have h3 := HG7.out; have h4 := HN7.out; have h5 := HSz8.out; exact ⟨by omega, ⟨.inr ⟨h1, h2⟩, fun e2 => by have := HAf.out.2 k e2; omega⟩, by omega, by omega⟩)).mono ?_; rintro e w11 ⟨rfl, hp, hf⟩; have HF11 := Aside0.mk (hf.fr HF10.out); have HT11 := Aside0.mk (hf.fr HT10.out); have HP11 := Aside0.mk hp; clear hp hf HP10 HF10 HT10))
          obtain ⟨bk, Rf, rf, Rt, rt, hrr⟩ := HP11.out.rr
          have HR11 := Aside0.mk (hrr.below (below_drew (Below.refl w11.heap.size w11)))
          have HP11 := Aside0.mk (HP11.out.below' (below_drew (Below.refl w11.heap.size w11)))
          have HF11 := Aside0.mk (Bk.fr_drew HF11.out)
          have HT11 := Aside0.mk (Bk.fr_drew HT11.out)
          have c1 := cells_of_heap HR11.out.hp 1 (.int .i64 s.a.status) rfl
          have c4 := cells_of_heap HR11.out.hp 4 (.slice Rf s.a.fields.length rf) rfl
          have c5 := cells_of_heap HR11.out.hp 5 (.slice Rt s.a.trails.length rt) rfl
          have c6 := cells_of_heap HR11.out.hp 6 (.bool s.a.done) rfl
          clear hrr
          refine rg_start (S := (fun W => W.cell? ⟨gr, 1, none⟩ = some (.int .i64 s.a.status) ∧ W.cell? ⟨gr, 4, none⟩ = some (.slice Rf s.a.fields.length rf) ∧ W.cell? ⟨gr, 5, none⟩ = some (.slice Rt s.a.trails.length rt) ∧ W.cell? ⟨gr, 6, none⟩ = some (.bool s.a.done))) (by kernel_rfl) ⟨c1, c4, c5, c6⟩ 34 #[false, false, false, false, false, false, false, false, false, false, false, false, false, false, false, false, false, false, false, false, false, false, false, false, false, false, false, false, false, false, false, false, false, false] (by kernel_rfl) (by kernel_rfl) ?_
          refine rg_take (fuel := 33) 0 #[true, false, false, false, false, false, false, false, false, false, false, false, false, false, false, false, false, false, false, false, false, false, false, false, false, false, false, false, false, false, false, false, false, false] (by kernel_rfl) ?vb0_0 rfl (by kernel_rfl) (by kernel_rfl) (by kernel_rfl) (fun _ _ _ h => h) (by kernel_rfl) ⟨c1, c4, c5, c6⟩ ?hyb0_0 ?_
          case hyb0_0 => intro w hSw; (try dsimp only at hSw); go_simp; (try with_reducible rfl)
          (try simp only [Act.put, List.setIfInBounds_toArray, List.set_cons_zero, List.set_cons_succ])
          refine rg_take (fuel := 32) 2 #[true, false, true, false, false, false, false, false, false, false, false, false, false, false, false, false, false, false, false, false, false, false, false, false, false, false, false, false, false, false, false, false, false, false] (by kernel_rfl) ?vb0_2 rfl (by kernel_rfl) (by kernel_rfl) (by kernel_rfl) (fun _ _ _ h => h) (by kernel_rfl) ⟨c1, c4, c5, c6⟩ ?hyb0_2 ?_
          case hyb0_2 => intro w hSw; (try dsimp only at hSw); go_simp; (try with_reducible rfl)
          (try simp only [Act.put, List.setIfInBounds_toArray, List.set_cons_zero, List.set_cons_succ])
          refine rg_take (fuel := 31) 3 #[true, false, true, true, false, false, false, false, false, false, false, false, false, false, false, false, false, false, false, false, false, false, false, false, false, false, false, false, false, false, false, false, false, false] (by kernel_rfl) ?vb0_3 rfl (by kernel_rfl) (by kernel_rfl) (by kernel_rfl) (fun _ _ _ h => h) (by kernel_rfl) ⟨c1, c4, c5, c6⟩ ?hyb0_3 ?_
          case hyb0_3 => intro w hSw; (try dsimp only at hSw); go_simp; (try with_reducible rfl)
          (try simp only [Act.put, List.setIfInBounds_toArray, List.set_cons_zero, List.set_cons_succ])
          refine rg_take (fuel := 30) 4 #[true, false, true, true, true, false, false, false, false, false, false, false, false, false, false, false, false, false, false, false, false, false, false, false, false, false, false, false, false, false, false, false, false, false] (by kernel_rfl) ?vb0_4 rfl (by kernel_rfl) (by kernel_rfl) (by kernel_rfl) (fun _ _ _ h => h) (by kernel_rfl) ⟨c1, c4, c5, c6⟩ ?hyb0_4 ?_
          case hyb0_4 => intro w hSw; (try dsimp only at hSw); go_simp; (try with_reducible rfl)
          (try simp only [Act.put, List.setIfInBounds_toArray, List.set_cons_zero, List.set_cons_succ])
          refine rg_take (fuel := 29) 5 #[true, false, true, true, true, true, false, false, false, false, false, false, false, false, false, false, false, false, false, false, false, false, false, false, false, false, false, false, false, false, false, false, false, false] (by kernel_rfl) ?vb0_5 rfl (by kernel_rfl) (by kernel_rfl) (by kernel_rfl) (fun _ _ _ h => h) (by kernel_rfl) ⟨c1, c4, c5, c6⟩ ?hyb0_5 ?_
          case hyb0_5 => intro w hSw; (try dsimp only at hSw); go_simp; (try with_reducible rfl)
          (try simp only [Act.put, List.setIfInBounds_toArray, List.set_cons_zero, List.set_cons_succ])
          refine rg_call (fuel := 28) 1 #[true, true, true, true, true, true, false, false, false, false, false, false, false, false, false, false, false, false, false, false, false, false, false, false, false, false, false, false, false, false, false, false, false, false] (by kernel_rfl) rfl (by kernel_rfl) (by kernel_rfl) (fun K hK => ?_)
          go_simp
          (go_at_call 27; refine (HP11.out.status).mono ?_; rintro e w12 ⟨rfl, hb⟩; have HR12 := Aside0.mk (HR11.out.below hb); clear c1 c4 c5 c6; have c1 := cells_of_heap HR12.out.hp 1 (.int .i64 s.a.status) rfl; have c4 := cells_of_heap HR12.out.hp 4 (.slice Rf s.a.fields.length rf) rfl; have c5 := cells_of_heap HR12.out.hp 5 (.slice Rt s.a.trails.length rt) rfl; have c6 := cells_of_heap HR12.out.hp 6 (.bool s.a.done) rfl; have HP12 := Aside0.mk (HP11.out.below' hb); have HF12 := Aside0.mk (HF11.out.keep fun g' e => hb.block g' (HF11.out.lt g' e)); have HT12 := Aside0.mk (HT11.out.keep fun g' e => hb.block g' (HT11.out.lt g' e)); clear hb HR11 HP11 HF11 HT11)
          (try dsimp only)
          refine hK _ _ ⟨c1, c4, c5, c6⟩ ?_
          (try simp only [Act.put, List.setIfInBounds_toArray, List.set_cons_zero, List.set_cons_succ])
          clear hK
          refine rg_take (fuel := 27) 6 #[true, true, true, true, true, true, true, false, false, false, false, false, false, false, false, false, false, false, false, false, false, false, false, false, false, false, false, false, false, false, false, false, false, false] (by kernel_rfl) ?vb0_6 rfl (by kernel_rfl) (by kernel_rfl) (by kernel_rfl) (fun _ _ _ h => h) (by kernel_rfl) ⟨c1, c4, c5, c6⟩ ?hyb0_6 ?_
          case hyb0_6 => intro w hSw; (try dsimp only at hSw); go_simp; (try with_reducible rfl)
          (try simp only [Act.put, List.setIfInBounds_toArray, List.set_cons_zero, List.set_cons_succ])
          refine rg_take (fuel := 26) 7 #[true, true, true, true, true, true, true, true, false, false, false, false, false, false, false, false, false, false, false, false, false, false, false, false, false, false, false, false, false, false, false, false, false, false] (by kernel_rfl) ?vb0_7 rfl (by kernel_rfl) (by kernel_rfl) (by kernel_rfl) (fun _ _ _ h => h) (by kernel_rfl) ⟨c1, c4, c5, c6⟩ ?hyb0_7 ?_
          case hyb0_7 => intro w hSw; (try dsimp only at hSw); go_simp; (try with_reducible rfl)
          (try simp only [Act.put, List.setIfInBounds_toArray, List.set_cons_zero, List.set_cons_succ])
          refine rg_take (fuel := 25) 8 #[true, true, true, true, true, true, true, true, true, false, false, false, false, false, false, false, false, false, false, false, false, false, false, false, false, false, false, false, false, false, false, false, false, false] (by kernel_rfl) ?vb0_8 rfl (by kernel_rfl) (by kernel_rfl) (by kernel_rfl) (fun _ _ _ h => h) (by kernel_rfl) ⟨c1, c4, c5, c6⟩ ?hyb0_8 ?_
          case hyb0_8 => intro w hSw; (try dsimp only at hSw); go_simp; (try with_reducible rfl)
          (try simp only [Act.put, List.setIfInBounds_toArray, List.set_cons_zero, List.set_cons_succ])
          refine rg_take (fuel := 24) 9 #[true, true, true, true, true, true, true, true, true, true, false, false, false, false, false, false, false, false, false, false, false, false, false, false, false, false, false, false, false, false, false, false, false, false] (by kernel_rfl) ?vb0_9 rfl (by kernel_rfl) (by kernel_rfl) (by kernel_rfl) (fun _ _ _ h => h) (by kernel_rfl) ⟨c1, c4, c5, c6⟩ ?hyb0_9 ?_
          case hyb0_9 => intro w hSw; (try dsimp only at hSw); go_simp; (try with_reducible rfl)
          (try simp only [Act.put, List.setIfInBounds_toArray, List.set_cons_zero, List.set_cons_succ])
          refine rg_take (fuel := 23) 10 #[true, true, true, true, true, true, true, true, true, true, true, false, false, false, false, false, false, false, false, false, false, false, false, false, false, false, false, false, false, false, false, false, false, false] (by kernel_rfl) ?vb0_10 rfl (by kernel_rfl) (by kernel_rfl) (by kernel_rfl) (fun _ _ _ h => h) (by kernel_rfl) ⟨c1, c4, c5, c6⟩ ?hyb0_10 ?_
          case hyb0_10 => intro w hSw; (try dsimp only at hSw); go_simp; (try with_reducible rfl)
          (try simp only [Act.put, List.setIfInBounds_toArray, List.set_cons_zero, List.set_cons_succ])
          refine rg_take (fuel := 22) 11 #[true, true, true, true, true, true, true, true, true, true, true, true, false, false, false, false, false, false, false, false, false, false, false, false, false, false, false, false, false, false, false, false, false, false] (by kernel_rfl) ?vb0_11 rfl (by kernel_rfl) (by kernel_rfl) (by kernel_rfl) (fun _ _ _ h => h) (by kernel_rfl) ⟨c1, c4, c5, c6⟩ ?hyb0_11 ?_
          case hyb0_11 => intro w hSw; (try dsimp only at hSw); go_simp; (try with_reducible rfl)
          (try simp only [Act.put, List.setIfInBounds_toArray, List.set_cons_zero, List.set_cons_succ])
          refine rg_take (fuel := 21) 12 #[true, true, true, true, true, true, true, true, true, true, true, true, true, false, false, false, false, false, false, false, false, false, false, false, false, false, false, false, false, false, false, false, false, false] (by kernel_rfl) ?vb0_12 rfl (by kernel_rfl) (by kernel_rfl) (by kernel_rfl) (fun _ _ _ h => h) (by kernel_rfl) ⟨c1, c4, c5, c6⟩ ?hyb0_12 ?_
          case hyb0_12 => intro w hSw; (try dsimp only at hSw); go_simp; (try with_reducible rfl)
          (try simp only [Act.put, List.setIfInBounds_toArray, List.set_cons_zero, List.set_cons_succ])
          refine rg_call (fuel := 20) 13 #[true, true, true, true, true, true, true, true, true, true, true, true, true, true, false, false, false, false, false, false, false, false, false, false, false, false, false, false, false, false, false, false, false, false] (by kernel_rfl) rfl (by kernel_rfl) (by kernel_rfl) (fun K hK => ?_)
          go_simp
          (go_at_call 11; refine (Bk.same_c (c := cf) (d := rf) (HF12.out.cr.c (by have := HA7.out.ln.1; omega)) HF12.out.room (HR12.out.rf.c (by have := HA7.out.ln.1; omega)).1 (HR12.out.rf.c (by have := HA7.out.ln.1; omega)).2 (by have := HA7.out.ln.1; omega)).mono ?_; rintro e w13 ⟨rfl, hb⟩; have HR13 := Aside0.mk (HR12.out.below hb); clear c1 c4 c5 c6; have c1 := cells_of_heap HR13.out.hp 1 (.int .i64 s.a.status) rfl; have c4 := cells_of_heap HR13.out.hp 4 (.slice Rf s.a.fields.length rf) rfl; have c5 := cells_of_heap HR13.out.hp 5 (.slice Rt s.a.trails.length rt) rfl; have c6 := cells_of_heap HR13.out.hp 6 (.bool s.a.done) rfl; have HP13 := Aside0.mk (HP12.out.below' hb); have HF13 := Aside0.mk (HF12.out.keep fun g' e => hb.block g' (HF12.out.lt g' e)); have HT13 := Aside0.mk (HT12.out.keep fun g' e => hb.block g' (HT12.out.lt g' e)); clear hb HR12 HP12 HF12 HT12)
          (try dsimp only)
          refine hK _ _ ⟨c1, c4, c5, c6⟩ ?_
          (try simp only [Act.put, List.setIfInBounds_toArray, List.set_cons_zero, List.set_cons_succ])
          clear hK
          refine rg_take (fuel := 19) 14 #[true, true, true, true, true, true, true, true, true, true, true, true, true, true, true, false, false, false, false, false, false, false, false, false, false, false, false, false, false, false, false, false, false, false] (by kernel_rfl) ?vb0_14 rfl (by kernel_rfl) (by kernel_rfl) (by kernel_rfl) (fun _ _ _ h => h) (by kernel_rfl) ⟨c1, c4, c5, c6⟩ ?hyb0_14 ?_
          case hyb0_14 => intro w hSw; (try dsimp only at hSw); go_simp; (try with_reducible rfl)
          (try simp only [Act.put, List.setIfInBounds_toArray, List.set_cons_zero, List.set_cons_succ])
          refine rg_take (fuel := 18) 15 #[true, true, true, true, true, true, true, true, true, true, true, true, true, true, true, true, false, false, false, false, false, false, false, false, false, false, false, false, false, false, false, false, false, false] (by kernel_rfl) ?vb0_15 rfl (by kernel_rfl) (by kernel_rfl) (by kernel_rfl) (fun _ _ _ h => h) (by kernel_rfl) ⟨c1, c4, c5, c6⟩ ?hyb0_15 ?_
          case hyb0_15 => intro w hSw; (try dsimp only at hSw); go_simp; (try with_reducible rfl)
          (try simp only [Act.put, List.setIfInBounds_toArray, List.set_cons_zero, List.set_cons_succ])
          refine rg_take (fuel := 17) 16 #[true, true, true, true, true, true, true, true, true, true, true, true, true, true, true, true, true, false, false, false, false, false, false, false, false, false, false, false, false, false, false, false, false, false] (by kernel_rfl) ?vb0_16 rfl (by kernel_rfl) (by kernel_rfl) (by kernel_rfl) (fun _ _ _ h => h) (by kernel_rfl) ⟨c1, c4, c5, c6⟩ ?hyb0_16 ?_
          case hyb0_16 => intro w hSw; (try dsimp only at hSw); go_simp; (try with_reducible rfl)
          (try simp only [Act.put, List.setIfInBounds_toArray, List.set_cons_zero, List.set_cons_succ])
          refine rg_take (fuel := 16) 17 #[true, true, true, true, true, true, true, true, true, true, true, true, true, true, true, true, true, true, false, false, false, false, false, false, false, false, false, false, false, false, false, false, false, false] (by kernel_rfl) ?vb0_17 rfl (by kernel_rfl) (by kernel_rfl) (by kernel_rfl) (fun _ _ _ h => h) (by kernel_rfl) ⟨c1, c4, c5, c6⟩ ?hyb0_17 ?_
          case hyb0_17 => intro w hSw; (try dsimp only at hSw); go_simp; (try with_reducible rfl)
          (try simp only [Act.put, List.setIfInBounds_toArray, List.set_cons_zero, List.set_cons_succ])
          refine rg_take (fuel := 15) 18 #[true, true, true, true, true, true, true, true, true, true, true, true, true, true, true, true, true, true, true, false, false, false, false, false, false, false, false, false, false, false, false, false, false, false] (by kernel_rfl) ?vb0_18 rfl (by kernel_rfl) (by kernel_rfl) (by kernel_rfl) (fun _ _ _ h => h) (by kernel_rfl) ⟨c1, c4, c5, c6⟩ ?hyb0_18 ?_
          case hyb0_18 => intro w hSw; (try dsimp only at hSw); go_simp; (try with_reducible rfl)
          (try simp only [Act.put, List.setIfInBounds_toArray, List.set_cons_zero, List.set_cons_succ])
          refine rg_take (fuel := 14) 19 #[true, true, true, true, true, true, true, true, true, true, true, true, true, true, true, true, true, true, true, true, false, false, false, false, false, false, false, false, false, false, false, false, false, false] (by kernel_rfl) ?vb0_19 rfl (by kernel_rfl) (by kernel_rfl) (by kernel_rfl) (fun _ _ _ h => h) (by kernel_rfl) ⟨c1, c4, c5, c6⟩ ?hyb0_19 ?_
          case hyb0_19 => intro w hSw; (try dsimp only at hSw); go_simp; (try with_reducible rfl)
          (try simp only [Act.put, List.setIfInBounds_toArray, List.set_cons_zero, List.set_cons_succ])
          refine rg_take (fuel := 13) 20 #[true, true, true, true, true, true, true, true, true, true, true, true, true, true, true, true, true, true, true, true, true, false, false, false, false, false, false, false, false, false, false, false, false, false] (by kernel_rfl) ?vb0_20 rfl (by kernel_rfl) (by kernel_rfl) (by kernel_rfl) (fun _ _ _ h => h) (by kernel_rfl) ⟨c1, c4, c5, c6⟩ ?hyb0_20 ?_
          case hyb0_20 => intro w hSw; (try dsimp only at hSw); go_simp; (try with_reducible rfl)
          (try simp only [Act.put, List.setIfInBounds_toArray, List.set_cons_zero, List.set_cons_succ])
          refine rg_take (fuel := 12) 21 #[true, true, true, true, true, true, true, true, true, true, true, true, true, true, true, true, true, true, true, true, true, true, false, false, false, false, false, false, false, false, false, false, false, false] (by kernel_rfl) ?vb0_21 rfl (by kernel_rfl) (by kernel_rfl) (by kernel_rfl) (fun _ _ _ h => h) (by kernel_rfl) ⟨c1, c4, c5, c6⟩ ?hyb0_21 ?_
          case hyb0_21 => intro w hSw; (try dsimp only at hSw); go_simp; (try with_reducible rfl)
          (try simp only [Act.put, List.setIfInBounds_toArray, List.set_cons_zero, List.set_cons_succ])
          refine rg_call (fuel := 11) 22 #[true, true, true, true, true, true, true, true, true, true, true, true, true, true, true, true, true, true, true, true, true, true, true, false, false, false, false, false, false, false, false, false, false, false] (by kernel_rfl) rfl (by kernel_rfl) (by kernel_rfl) (fun K hK => ?_)
          go_simp
          (go_at_call 11; refine (Bk.same_c (c := ct) (d := rt) (HT13.out.cr.c (by have := HA7.out.ln.2; omega)) HT13.out.room (HR13.out.rt.c (by have := HA7.out.ln.2; omega)).1 (HR13.out.rt.c (by have := HA7.out.ln.2; omega)).2 (by have := HA7.out.ln.2; omega)).mono ?_; rintro e w14 ⟨rfl, hb⟩; have HR14 := Aside0.mk (HR13.out.below hb); clear c1 c4 c5 c6; have c1 := cells_of_heap HR14.out.hp 1 (.int .i64 s.a.status) rfl; have c4 := cells_of_heap HR14.out.hp 4 (.slice Rf s.a.fields.length rf) rfl; have c5 := cells_of_heap HR14.out.hp 5 (.slice Rt s.a.trails.length rt) rfl; have c6 := cells_of_heap HR14.out.hp 6 (.bool s.a.done) rfl; have HP14 := Aside0.mk (HP13.out.below' hb); have HF14 := Aside0.mk (HF13.out.keep fun g' e => hb.block g' (HF13.out.lt g' e)); have HT14 := Aside0.mk (HT13.out.keep fun g' e => hb.block g' (HT13.out.lt g' e)); clear hb HR13 HP13 HF13 HT13)
          (try dsimp only)
          refine hK _ _ ⟨c1, c4, c5, c6⟩ ?_
          (try simp only [Act.put, List.setIfInBounds_toArray, List.set_cons_zero, List.set_cons_succ])
          clear hK
          refine rg_take (fuel := 10) 23 #[true, true, true, true, true, true, true, true, true, true, true, true, true, true, true, true, true, true, true, true, true, true, true, true, false, false, false, false, false, false, false, false, false, false] (by kernel_rfl) ?vb0_23 rfl (by kernel_rfl) (by kernel_rfl) (by kernel_rfl) (fun _ _ _ h => h) (by kernel_rfl) ⟨c1, c4, c5, c6⟩ ?hyb0_23 ?_
          case hyb0_23 => intro w hSw; (try dsimp only at hSw); go_simp; (try with_reducible rfl)
          (try simp only [Act.put, List.setIfInBounds_toArray, List.set_cons_zero, List.set_cons_succ])
          refine rg_take (fuel := 9) 24 #[true, true, true, true, true, true, true, true, true, true, true, true, true, true, true, true, true, true, true, true, true, true, true, true, true, false, false, false, false, false, false, false, false, false] (by kernel_rfl) ?vb0_24 rfl (by kernel_rfl) (by kernel_rfl) (by kernel_rfl) (fun _ _ _ h => h) (by kernel_rfl) ⟨c1, c4, c5, c6⟩ ?hyb0_24 ?_
          case hyb0_24 => intro w hSw; (try dsimp only at hSw); go_simp; (try with_reducible rfl)
          (try simp only [Act.put, List.setIfInBounds_toArray, List.set_cons_zero, List.set_cons_succ])
          refine rg_take (fuel := 8) 25 #[true, true, true, true, true, true, true, true, true, true, true, true, true, true, true, true, true, true, true, true, true, true, true, true, true, true, false, false, false, false, false, false, false, false] (by kernel_rfl) ?vb0_25 rfl (by kernel_rfl) (by kernel_rfl) (by kernel_rfl) (fun _ _ _ h => h) (by kernel_rfl) ⟨c1, c4, c5, c6⟩ ?hyb0_25 ?_
          case hyb0_25 => intro w hSw; (try dsimp only at hSw); go_simp; (try with_reducible rfl)
          (try simp only [Act.put, List.setIfInBounds_toArray, List.set_cons_zero, List.set_cons_succ])
          refine rg_take (fuel := 7) 26 #[true, true, true, true, true, true, true, true, true, true, true, true, true, true, true, true, true, true, true, true, true, true, true, true, true, true, true, false, false, false, false, false, false, false] (by kernel_rfl) ?vb0_26 rfl (by kernel_rfl) (by kernel_rfl) (by kernel_rfl) (fun _ _ _ h => h) (by kernel_rfl) ⟨c1, c4, c5, c6⟩ ?hyb0_26 ?_
          case hyb0_26 => intro w hSw; (try dsimp only at hSw); go_simp; (try with_reducible rfl)
          (try simp only [Act.put, List.setIfInBounds_toArray, List.set_cons_zero, List.set_cons_succ])
          refine rg_take (fuel := 6) 28 #[true, true, true, true, true, true, true, true, true, true, true, true, true, true, true, true, true, true, true, true, true, true, true, true, true, true, true, false, true, false, false, false, false, false] (by kernel_rfl) ?vb0_28 rfl (by kernel_rfl) (by kernel_rfl) (by kernel_rfl) (fun _ _ _ h => h) (by kernel_rfl) ⟨c1, c4, c5, c6⟩ ?hyb0_28 ?_
          case hyb0_28 => intro w hSw; (try dsimp only at hSw); go_simp; (try with_reducible rfl)
          (try simp only [Act.put, List.setIfInBounds_toArray, List.set_cons_zero, List.set_cons_succ])
          refine rg_take (fuel := 5) 29 #[true, true, true, true, true, true, true, true, true, true, true, true, true, true, true, true, true, true, true, true, true, true, true, true, true, true, true, false, true, true, false, false, false, false] (by kernel_rfl) ?vb0_29 rfl (by kernel_rfl) (by kernel_rfl) (by kernel_rfl) (fun _ _ _ h => h) (by kernel_rfl) ⟨c1, c4, c5, c6⟩ ?hyb0_29 ?_
          case hyb0_29 => intro w hSw; (try dsimp only at hSw); go_simp; (try with_reducible rfl)
          (try simp only [Act.put, List.setIfInBounds_toArray, List.set_cons_zero, List.set_cons_succ])
          refine rg_take (fuel := 4) 30 #[true, true, true, true, true, true, true, true, true, true, true, true, true, true, true, true, true, true, true, true, true, true, true, true, true, true, true, false, true, true, true, false, false, false] (by kernel_rfl) ?vb0_30 rfl (by kernel_rfl) (by kernel_rfl) (by kernel_rfl) (fun _ _ _ h => h) (by kernel_rfl) ⟨c1, c4, c5, c6⟩ ?hyb0_30 ?_
          case hyb0_30 => intro w hSw; (try dsimp only at hSw); go_simp; (try with_reducible rfl)
          (try simp only [Act.put, List.setIfInBounds_toArray, List.set_cons_zero, List.set_cons_succ])
          refine rg_take (fuel := 3) 31 #[true, true, true, true, true, true, true, true, true, true, true, true, true, true, true, true, true, true, true, true, true, true, true, true, true, true, true, false, true, true, true, true, false, false] (by kernel_rfl) ?vb0_31 rfl (by kernel_rfl) (by kernel_rfl) (by kernel_rfl) (fun _ _ _ h => h) (by kernel_rfl) ⟨c1, c4, c5, c6⟩ ?hyb0_31 ?_
          case hyb0_31 => intro w hSw; (try dsimp only at hSw); go_simp; (try with_reducible rfl)
          (try simp only [Act.put, List.setIfInBounds_toArray, List.set_cons_zero, List.set_cons_succ])
          refine rg_call (fuel := 2) 27 #[true, true, true, true, true, true, true, true, true, true, true, true, true, true, true, true, true, true, true, true, true, true, true, true, true, true, true, true, true, true, true, true, false, false] (by kernel_rfl) rfl (by kernel_rfl) (by kernel_rfl) (fun K hK => ?_)
          go_simp
          (go_at_call 28; refine (HP14.out.done).mono ?_; rintro e w15 ⟨rfl, hb⟩; have HR15 := Aside0.mk (HR14.out.below hb); clear c1 c4 c5 c6; have c1 := cells_of_heap HR15.out.hp 1 (.int .i64 s.a.status) rfl; have c4 := cells_of_heap HR15.out.hp 4 (.slice Rf s.a.fields.length rf) rfl; have c5 := cells_of_heap HR15.out.hp 5 (.slice Rt s.a.trails.length rt) rfl; have c6 := cells_of_heap HR15.out.hp 6 (.bool s.a.done) rfl; have HP15 := Aside0.mk (HP14.out.below' hb); have HF15 := Aside0.mk (HF14.out.keep fun g' e => hb.block g' (HF14.out.lt g' e)); have HT15 := Aside0.mk (HT14.out.keep fun g' e => hb.block g' (HT14.out.lt g' e)); clear hb HR14 HP14 HF14 HT14)
          (try dsimp only)
          refine hK _ _ ⟨c1, c4, c5, c6⟩ ?_
          (try simp only [Act.put, List.setIfInBounds_toArray, List.set_cons_zero, List.set_cons_succ])
          clear hK
          refine rg_take (fuel := 1) 32 #[true, true, true, true, true, true, true, true, true, true, true, true, true, true, true, true, true, true, true, true, true, true, true, true, true, true, true, true, true, true, true, true, true, false] (by kernel_rfl) ?vb0_32 rfl (by kernel_rfl) (by kernel_rfl) (by kernel_rfl) (fun _ _ _ h => h) (by kernel_rfl) ⟨c1, c4, c5, c6⟩ ?hyb0_32 ?_
          case hyb0_32 => intro w hSw; (try dsimp only at hSw); go_simp; (try with_reducible rfl)
          (try simp only [Act.put, List.setIfInBounds_toArray, List.set_cons_zero, List.set_cons_succ])
          refine rg_take (fuel := 0) 33 #[true, true, true, true, true, true, true, true, true, true, true, true, true, true, true, true, true, true, true, true, true, true, true, true, true, true, true, true, true, true, true, true, true, true] (by kernel_rfl) ?vb0_33 rfl (by kernel_rfl) (by kernel_rfl) (by kernel_rfl) (fun _ _ _ h => h) (by kernel_rfl) ⟨c1, c4, c5, c6⟩ ?hyb0_33 ?_
          case hyb0_33 => intro w hSw; (try dsimp only at hSw); go_simp; (try with_reducible rfl)
          (try simp only [Act.put, List.setIfInBounds_toArray, List.set_cons_zero, List.set_cons_succ])
          refine wpAnyH_done (by kernel_rfl) ?_ _
          clear c1 c4 c5 c6
          go_wp2
          go_roundg (gk - 1)
          case measure => have := HJ.out; have := HJ3.out; omega
          case rel => exact ⟨j + 1, s, _, congrArg (Value.int .i64) HWJ.out, ⟨by have := HJ.out; omega, by have := HJ.out; have := HJ3.out; omega⟩, HA7, HP15⟩
    · have q1 : decide ((j : Int) < (os.length : Int)) = false := decide_eq_false (by omega)
      have q2 : decide (j < os.length) = false := decide_eq_false hj
      clear hj
      go_wp2_with (first
        | (go_at_call 20; refine (head_no _).mono ?_; rintro e w3 ⟨rfl, rfl⟩)
        | (go_at_call 22; refine (data_no _).mono ?_; rintro e w3 ⟨rfl, rfl⟩)
        | (go_at_call 27; refine (status_no _).mono ?_; rintro e w3 ⟨rfl, rfl⟩)
        | (go_at_call 28; refine (done_no _).mono ?_; rintro e w3 ⟨rfl, rfl⟩)
        | (go_at_call 25; refine (fields_no _).mono ?_; rintro e w3 ⟨rfl, rfl⟩)
        | (go_at_call 26; refine (trails_no _).mono ?_; rintro e w3 ⟨rfl, rfl⟩)
        | (go_at_call 16; refine HP.out.apart.mono ?_; rintro e w4 ⟨rfl, hb⟩; have HF := Aside0.mk hb; clear hb))
      go_ret
      exact ⟨rfl, HF.out⟩
end Go.Proofs.YtififgiicpdndaaGreatDoor.Fw
