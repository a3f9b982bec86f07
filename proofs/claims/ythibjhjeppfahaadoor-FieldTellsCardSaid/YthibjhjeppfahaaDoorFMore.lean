/- FieldMore. -/
import Derived.Test.YthibjhjeppfahaaDoorFGets
namespace Go.Proofs.YthibjhjeppfahaaDoor.Fw
open Go.RowKit Go.Proofs.YthibjhjeppfahaaDoor.XFi Go.Proofs.YthibjhjeppfahaaDoorW.PrintWords Go.Proofs.YthibjhjeppfahaaDoorW.PrintLast Go.Proofs.YthibjhjeppfahaaDoorW.PrintMore Go.Proofs.YthibjhjeppfahaaDoor.Ms
theorem mem_colon {n s : ByteArray} (hs : nameP s = true) (hn : n.toList.head? = some 58) : (s.toList == n.toList) = false := by
  refine beq_eq_false_iff_ne.2 fun e => ?_
  unfold nameP at hs
  rw [Bool.and_eq_true, e] at hs
  generalize n.toList = l at hn hs
  cases l with
  | nil => cases hn
  | cons c l =>
    obtain rfl := Option.some.inj hn
    have := hs.1
    rw [List.all_cons, Bool.and_eq_true] at this
    exact absurd this.1 (by decide)
theorem mem_no {names : List ByteArray} (hN : ∀ n ∈ names, n.toList.head? = some 58) {s : ByteArray} (hs : nameP s = true) : memP names s = false := by
  unfold memP
  rw [List.any_eq_false]
  intro n hn
  rw [mem_colon hs (hN n hn)]
  exact Bool.false_ne_true
theorem names_req : ∀ n ∈ reqNames, n.toList.head? = some 58 := by
  intro n hn
  simp only [reqNames, List.mem_cons, List.not_mem_nil, or_false] at hn
  rcases hn with rfl | rfl | rfl | rfl <;> kernel_rfl
theorem names_stat : ∀ n ∈ [colStatus], n.toList.head? = some 58 := by
  intro n hn
  obtain rfl := List.mem_singleton.1 hn
  kernel_rfl
theorem trail_one (f : S26) : trailQ [f] = if (!nameP f.f0 || forbP f) = true then 6 else if valueP f.f1 = false then 3 else 0 := by
  unfold trailQ walkQ
  rw [show memP [] f.f0 = false from rfl, Bool.not_false, Bool.true_and, Bool.false_and]
  split
  · rfl
  · split
    · rfl
    · rw [if_neg Bool.false_ne_true, if_neg Bool.false_ne_true]
      rfl
theorem one_ok {f : S26} (h : trailQ [f] = 0) : nameP f.f0 = true ∧ forbP f = false ∧ valueP f.f1 = true := by
  rw [trail_one] at h
  cases hn : nameP f.f0 <;> cases hf : forbP f <;> cases hv : valueP f.f1 <;> simp_all
theorem walk_more {names : List ByteArray} (hN : ∀ n ∈ names, n.toList.head? = some 58) {f : S26} (h : trailQ [f] = 0) : ∀ (l : List S26) (said : List (ByteArray × ByteArray)) (plain : Bool), walkQ names (l ++ [f]) said plain = walkQ names l said plain
  | [], said, plain => by
    obtain ⟨h1, h2, h3⟩ := one_ok h
    rw [List.nil_append]
    unfold walkQ
    rw [mem_no hN h1, h1, h2, h3, if_neg (by decide), if_neg (by decide), Bool.false_and, if_neg Bool.false_ne_true, if_neg Bool.false_ne_true]
    rfl
  | g :: l, said, plain => by
    rw [List.cons_append]
    unfold walkQ
    rw [walk_more hN h l, walk_more hN h l]
theorem req_more {f : S26} (h : trailQ [f] = 0) (l : List S26) : reqQ (l ++ [f]) = reqQ l := by unfold reqQ; rw [walk_more names_req h]
theorem resp_more {f : S26} (h : trailQ [f] = 0) (l : List S26) : respQ (l ++ [f]) = respQ l := by unfold respQ; rw [walk_more names_stat h]
theorem trail_more {f : S26} (h : trailQ [f] = 0) (l : List S26) : trailQ (l ++ [f]) = trailQ l := by unfold trailQ; rw [walk_more (fun n hn => by cases hn) h]
theorem trail_any (f : S26) (said : List (ByteArray × ByteArray)) (plain : Bool) : (walkQ [] [f] said plain).2 = trailQ [f] := by
  rw [trail_one]
  unfold walkQ
  rw [show memP [] f.f0 = false from rfl, Bool.not_false, Bool.true_and, Bool.false_and]
  split
  · rfl
  · split
    · rfl
    · rw [if_neg Bool.false_ne_true, if_neg Bool.false_ne_true]
      rfl
theorem trail_less (f : S26) : ∀ (l : List S26) (said : List (ByteArray × ByteArray)) (plain : Bool), (walkQ [] (l ++ [f]) said plain).2 = if (walkQ [] l said plain).2 = 0 then trailQ [f] else (walkQ [] l said plain).2
  | [], said, plain => by
    rw [List.nil_append, trail_any]
    rfl
  | g :: l, said, plain => by
    rw [List.cons_append]
    unfold walkQ
    rw [show memP [] g.f0 = false from rfl, Bool.not_false, Bool.true_and, Bool.false_and]
    split
    · rfl
    · split
      · rfl
      · rw [if_neg Bool.false_ne_true, if_neg Bool.false_ne_true, if_neg Bool.false_ne_true, if_neg Bool.false_ne_true]
        exact trail_less f l said true
theorem trail_app (f : S26) (l : List S26) : trailQ (l ++ [f]) = if trailQ l = 0 then trailQ [f] else trailQ l := trail_less f l [] false
set_option maxHeartbeats 3200000 in
set_option maxRecDepth 20000 in
theorem more_calls (A : Option Addr) (l : List S26) (c : Nat) (f : S26) (w : World) (hC : k26.C w A l.length l) (hS : Small l c) (hs : f.f0.size ≤ reachBytes ∧ f.f1.size ≤ reachBytes) :
    Calls Tryd.prog 8 #[.slice A l.length c, .agg #[.string f.f0, .string f.f1]] w fun e w' => e = .returned (.bool true) ∧ Below w.heap.size w w' := by
  have hr := reachBytes_lt
  have hw : wrap64 ((f.f0.size : Int) + f.f1.size) = (f.f0.size : Int) + f.f1.size := w64_in ((f.f0.size : Int) + f.f1.size) (by omega)
  have HC := Aside0.mk hC
  have HB0 := Aside0.mk (below_alloc (Below.refl w.heap.size w) (.cells #[.string f.f0, .string f.f1] 26))
  have HBK := Aside0.mk (heap_alloc_new w (.cells #[.string f.f0, .string f.f1] 26))
  have HFW := Aside0.mk (few_c (w := w.alloc (.cells #[.string f.f0, .string f.f1] 26)) (Kd.C_below hC HB0.out) hS.cap (by have := hS.len; omega) hS.sz)
  cases hf : fewP l with
  | false =>
    rw [hf] at HFW
    clear hs hr hC hS hf hw
    go_enter Tryd.func8, Tryd.ntmps8
    go_wp2_with (first
      | (go_at_call 14; refine HFW.out.mono ?_; rintro e w1 ⟨rfl, hb⟩; have HB := Aside0.mk (below_step HB0.out hb); clear hb)
      | (go_at_call 11; refine (alive_c _).mono ?_; rintro e w2 ⟨rfl, hb⟩; have HB2 := Aside0.mk (below_step HB.out hb); clear hb))
    go_ret
    exact ⟨rfl, HB2.out⟩
  | true =>
    rw [hf] at HFW
    by_cases h : (f.f0.size : Int) + f.f1.size > 400
    · have e1 : decide ((f.f0.size : Int) + f.f1.size > 400) = true := decide_eq_true h
      clear hs hr hC hS hf h
      go_enter Tryd.func8, Tryd.ntmps8
      go_wp2_with (first
        | (go_at_call 14; refine HFW.out.mono ?_; rintro e w1 ⟨rfl, hb⟩; have HB := Aside0.mk (below_step HB0.out hb); have hbk := (hb.block _ (blk_lt HBK.out)).trans HBK.out; have k0 := cells_of_heap hbk 0 _ rfl; have k1 := cells_of_heap hbk 1 _ rfl; clear hb hbk)
        | (go_at_call 11; refine (alive_c _).mono ?_; rintro e w2 ⟨rfl, hb⟩; have HB2 := Aside0.mk (below_step HB.out hb); clear hb))
      go_ret
      exact ⟨rfl, HB2.out⟩
    · have e1 : decide ((f.f0.size : Int) + f.f1.size > 400) = false := decide_eq_false h
      obtain ⟨hsz, h40, _⟩ := few_sized hf
      obtain ⟨hz1, _⟩ := few_app (f := f) hf ⟨by omega, by omega⟩
      have HZ := Aside0.mk (And.intro h40 hS.cap)
      have HOne := Aside0.mk (fun (w' : World) (A : Option Addr) (n c : Nat) (hC : k26.C w' A n [f]) => trail_n (c := c) (sized1 (a := f.f0) (b := f.f1) (by omega) (by omega)) hC)
      have HQ := Aside0.mk (fun (w' : World) (hC : k26.C w' A l.length l) => req_n (c := c) hsz hC)
      have HP := Aside0.mk (fun (w' : World) (hC : k26.C w' A l.length l) => resp_n (c := c) hsz hC)
      have HT := Aside0.mk (fun (w' : World) (hC : k26.C w' A l.length l) => trail_n (c := c) hsz hC)
      have HQ2 := Aside0.mk (fun (w' : World) (A : Option Addr) (n c : Nat) (hC : k26.C w' A n (l ++ [f])) => req_n (c := c) hz1 hC)
      have HP2 := Aside0.mk (fun (w' : World) (A : Option Addr) (n c : Nat) (hC : k26.C w' A n (l ++ [f])) => resp_n (c := c) hz1 hC)
      have HT2 := Aside0.mk (fun (w' : World) (A : Option Addr) (n c : Nat) (hC : k26.C w' A n (l ++ [f])) => trail_n (c := c) hz1 hC)
      clear hz1 hsz h40 hs hr hC hS hf h
      by_cases h0 : trailQ [f] = 0
      · rw [h0] at HOne
        rw [req_more h0] at HQ2
        rw [resp_more h0] at HP2
        rw [trail_more h0] at HT2
        generalize reqQ l = qa at HQ HQ2
        generalize respQ l = qb at HP HP2
        generalize trailQ l = qc at HT HT2
        clear h0
        go_enter Tryd.func8, Tryd.ntmps8
        go_wp2_with (first
          | (go_at_call 14; refine HFW.out.mono ?_; rintro e w1 ⟨rfl, hb⟩; have HB := Aside0.mk (below_step HB0.out hb); have hbk := (hb.block _ (blk_lt HBK.out)).trans HBK.out; have k0 := cells_of_heap hbk 0 _ rfl; have k1 := cells_of_heap hbk 1 _ rfl; clear HBK; have HBK := Aside0.mk hbk; clear hb hbk)
          | (go_at_call 11; refine (alive_c _).mono ?_; rintro e w2 ⟨rfl, hb⟩; have HB2 := Aside0.mk (below_step HB.out hb); have hbk := (hb.block _ (blk_lt HBK.out)).trans HBK.out; have k0 := cells_of_heap hbk 0 _ rfl; have k1 := cells_of_heap hbk 1 _ rfl; clear HBK HB; have HBK := Aside0.mk hbk; clear hb hbk))
        have HC2 := Aside0.mk (Kd.C_below HC.out HB2.out)
        have hlen2 := HB2.out.size
        have HL2 := Aside0.mk (blk_lt HBK.out)
        clear hlen2
        have mixed : Tryd.prog.follows Departure.mixedOrders = true := by kernel_rfl
        go_region_law_o (first
          | (refine step_app (by simp [Region.wanted]) (.const (.slice none 0 0)) (.tmp 31) rfl w2 w2.heap.size none A 0 0 l.length c [] l rfl rfl (FR.nil _ _) ?cC ?cL ?cB ?cW ?_; (case cC => (repeat' first | exact HC2.out | (with_reducible refine Kd.C_alloc ?_ _) | (with_reducible refine Kd.C_drew ?_))); (case cL => have := HZ.out.1; simp; omega); (case cB => simp); (case cW => (repeat' first | exact Below.refl _ _ | (with_reducible refine below_alloc ?_ _) | (with_reducible refine below_drew ?_))); intro A3 c3 w3 hF hb hg; rw [Nat.zero_add, List.nil_append] at hF; have hbk := (hb.block _ (blk_lt HBK.out)).trans HBK.out; have k0 := cells_of_heap hbk 0 _ rfl; have k1 := cells_of_heap hbk 1 _ rfl; have HF3 := Aside0.mk hF; have HB3 := Aside0.mk hb; have HG3 := Aside0.mk hg; clear hF hb hg hbk)
          | (refine step_app (by simp [Region.wanted]) (.tmp 32) (.tmp 34) rfl w2 w2.heap.size A3 _ l.length c3 1 1 l [f] rfl rfl ?cF ?cC ?cL ?cB ?cW ?_; (case cF => (repeat' first | exact HF3.out | (with_reducible refine FR.alloc ?_ _) | (with_reducible refine FR.drew ?_))); (case cC => first | exact lit1' (by simp) _ _ | exact c_grown (w := (w2.alloc (.cells #[.string f.f0, .string f.f1] 26)).drew) (l := [f]) (heap_alloc_new w2 _) HG3.out (fun e => by cases e) (by simp) rfl); (case cL => have := HZ.out.1; simp; omega); (case cB => have := HB3.out.size; simp; omega); (case cW => (repeat' first | exact HB3.out | (with_reducible refine Below.alloc ?_ ?_ _) | (with_reducible refine below_drew ?_)); all_goals (have := HB3.out.size; simp; omega)); intro A4 c4 w4 hF hb _; have hbk := (hb.block _ (HL2.out)).trans HBK.out; have k0 := cells_of_heap hbk 0 _ rfl; have k1 := cells_of_heap hbk 1 _ rfl; have HBK4 := Aside0.mk hbk; have HF4 := Aside0.mk hF; have HB4 := Aside0.mk (below_step HB2.out hb); clear hF hb hbk HF3 HB3 HG3))
        all_goals
          go_wp2_with (first
            | (go_at_call 27; refine (HOne.out _ _ _ _ ?hc).mono ?_; (case hc => exact lit1' (by simp) _ _); rintro e w5 ⟨rfl, hb⟩; have HB5 := Aside0.mk (below_step (below_alloc HB4.out _) hb); have HF5 := Aside0.mk ((FR.alloc HF4.out _).step hb); clear HF4 HB4 HBK4 hb HOne)
            | (go_at_call 13; refine (HQ.out _ (Kd.C_below HC.out HB5.out)).mono ?_; rintro e w6 ⟨rfl, hb⟩; have HB6 := Aside0.mk (below_step HB5.out hb); have HF6 := Aside0.mk (HF5.out.step hb); clear HF5 HB5 hb HQ)
            | (go_at_call 25; refine (HP.out _ (Kd.C_below HC.out HB6.out)).mono ?_; rintro e w7 ⟨rfl, hb⟩; have HB7 := Aside0.mk (below_step HB6.out hb); have HF7 := Aside0.mk (HF6.out.step hb); clear HF6 HB6 hb HP)
            | (go_at_call 27; refine (HT.out _ (Kd.C_below HC.out HB7.out)).mono ?_; rintro e w8 ⟨rfl, hb⟩; have HB8 := Aside0.mk (below_step HB7.out hb); have HF8 := Aside0.mk (HF7.out.step hb); clear HF7 HB7 hb HT)
            | (go_at_call 13; refine (HQ2.out _ _ _ _ (HF8.out.c (by have := HZ.out.1; simp; omega)).1).mono ?_; rintro e w9 ⟨rfl, hb⟩; have HB9 := Aside0.mk (below_step HB8.out hb); have HF9 := Aside0.mk (HF8.out.step hb); clear HF8 HB8 hb HQ2)
            | (go_at_call 25; refine (HP2.out _ _ _ _ (HF9.out.c (by have := HZ.out.1; simp; omega)).1).mono ?_; rintro e w10 ⟨rfl, hb⟩; have HB10 := Aside0.mk (below_step HB9.out hb); have HF10 := Aside0.mk (HF9.out.step hb); clear HF9 HB9 hb HP2)
            | (go_at_call 27; refine (HT2.out _ _ _ _ (HF10.out.c (by have := HZ.out.1; simp; omega)).1).mono ?_; rintro e w11 ⟨rfl, hb⟩; have HB11 := Aside0.mk (below_step HB10.out hb); clear HF10 HB10 hb HT2))
          go_ret
          exact ⟨rfl, HB11.out⟩
      · by_cases h1 : trailQ l = 0
        · rw [trail_app, if_pos h1] at HT2
          rw [h1] at HT
          generalize reqQ l = qa at HQ
          generalize respQ l = qb at HP
          generalize reqQ (l ++ [f]) = qd at HQ2
          generalize respQ (l ++ [f]) = qe at HP2
          have hone : trailQ [⟨f.f0, f.f1⟩] = trailQ [f] := rfl
          rw [hone] at HOne
          clear hone
          generalize trailQ [f] = o at HOne HT2 h0
          have h0d : decide (o = 0) = false := decide_eq_false h0
          have h0b : (o == 0) = false := beq_eq_false_iff_ne.2 h0
          go_enter Tryd.func8, Tryd.ntmps8
          go_wp2_with (first
            | (go_at_call 14; refine HFW.out.mono ?_; rintro e w1 ⟨rfl, hb⟩; have HB := Aside0.mk (below_step HB0.out hb); have hbk := (hb.block _ (blk_lt HBK.out)).trans HBK.out; have k0 := cells_of_heap hbk 0 _ rfl; have k1 := cells_of_heap hbk 1 _ rfl; clear HBK; have HBK := Aside0.mk hbk; clear hb hbk)
            | (go_at_call 11; refine (alive_c _).mono ?_; rintro e w2 ⟨rfl, hb⟩; have HB2 := Aside0.mk (below_step HB.out hb); have hbk := (hb.block _ (blk_lt HBK.out)).trans HBK.out; have k0 := cells_of_heap hbk 0 _ rfl; have k1 := cells_of_heap hbk 1 _ rfl; clear HBK HB; have HBK := Aside0.mk hbk; clear hb hbk))
          have HC2 := Aside0.mk (Kd.C_below HC.out HB2.out)
          have hlen2 := HB2.out.size
          have HL2 := Aside0.mk (blk_lt HBK.out)
          clear hlen2
          have mixed : Tryd.prog.follows Departure.mixedOrders = true := by kernel_rfl
          go_region_law_o (first
            | (refine step_app (by simp [Region.wanted]) (.const (.slice none 0 0)) (.tmp 31) rfl w2 w2.heap.size none A 0 0 l.length c [] l rfl rfl (FR.nil _ _) ?cC ?cL ?cB ?cW ?_; (case cC => (repeat' first | exact HC2.out | (with_reducible refine Kd.C_alloc ?_ _) | (with_reducible refine Kd.C_drew ?_))); (case cL => have := HZ.out.1; simp; omega); (case cB => simp); (case cW => (repeat' first | exact Below.refl _ _ | (with_reducible refine below_alloc ?_ _) | (with_reducible refine below_drew ?_))); intro A3 c3 w3 hF hb hg; rw [Nat.zero_add, List.nil_append] at hF; have hbk := (hb.block _ (blk_lt HBK.out)).trans HBK.out; have k0 := cells_of_heap hbk 0 _ rfl; have k1 := cells_of_heap hbk 1 _ rfl; have HF3 := Aside0.mk hF; have HB3 := Aside0.mk hb; have HG3 := Aside0.mk hg; clear hF hb hg hbk)
            | (refine step_app (by simp [Region.wanted]) (.tmp 32) (.tmp 34) rfl w2 w2.heap.size A3 _ l.length c3 1 1 l [f] rfl rfl ?cF ?cC ?cL ?cB ?cW ?_; (case cF => (repeat' first | exact HF3.out | (with_reducible refine FR.alloc ?_ _) | (with_reducible refine FR.drew ?_))); (case cC => first | exact lit1' (by simp) _ _ | exact c_grown (w := (w2.alloc (.cells #[.string f.f0, .string f.f1] 26)).drew) (l := [f]) (heap_alloc_new w2 _) HG3.out (fun e => by cases e) (by simp) rfl); (case cL => have := HZ.out.1; simp; omega); (case cB => have := HB3.out.size; simp; omega); (case cW => (repeat' first | exact HB3.out | (with_reducible refine Below.alloc ?_ ?_ _) | (with_reducible refine below_drew ?_)); all_goals (have := HB3.out.size; simp; omega)); intro A4 c4 w4 hF hb _; have hbk := (hb.block _ (HL2.out)).trans HBK.out; have k0 := cells_of_heap hbk 0 _ rfl; have k1 := cells_of_heap hbk 1 _ rfl; have HBK4 := Aside0.mk hbk; have HF4 := Aside0.mk hF; have HB4 := Aside0.mk (below_step HB2.out hb); clear hF hb hbk HF3 HB3 HG3))
          all_goals
            go_wp2_with (first
              | (go_at_call 27; refine (HOne.out _ _ _ _ ?hc).mono ?_; (case hc => exact lit1' (by simp) _ _); rintro e w5 ⟨rfl, hb⟩; have HB5 := Aside0.mk (below_step (below_alloc HB4.out _) hb); have HF5 := Aside0.mk ((FR.alloc HF4.out _).step hb); clear HF4 HB4 HBK4 hb HOne)
              | (go_at_call 13; refine (HQ.out _ (Kd.C_below HC.out HB5.out)).mono ?_; rintro e w6 ⟨rfl, hb⟩; have HB6 := Aside0.mk (below_step HB5.out hb); have HF6 := Aside0.mk (HF5.out.step hb); clear HF5 HB5 hb HQ)
              | (go_at_call 25; refine (HP.out _ (Kd.C_below HC.out HB6.out)).mono ?_; rintro e w7 ⟨rfl, hb⟩; have HB7 := Aside0.mk (below_step HB6.out hb); have HF7 := Aside0.mk (HF6.out.step hb); clear HF6 HB6 hb HP)
              | (go_at_call 27; refine (HT.out _ (Kd.C_below HC.out HB7.out)).mono ?_; rintro e w8 ⟨rfl, hb⟩; have HB8 := Aside0.mk (below_step HB7.out hb); have HF8 := Aside0.mk (HF7.out.step hb); clear HF7 HB7 hb HT)
              | (go_at_call 13; refine (HQ2.out _ _ _ _ (HF8.out.c (by have := HZ.out.1; simp; omega)).1).mono ?_; rintro e w9 ⟨rfl, hb⟩; have HB9 := Aside0.mk (below_step HB8.out hb); have HF9 := Aside0.mk (HF8.out.step hb); clear HF8 HB8 hb HQ2)
              | (go_at_call 25; refine (HP2.out _ _ _ _ (HF9.out.c (by have := HZ.out.1; simp; omega)).1).mono ?_; rintro e w10 ⟨rfl, hb⟩; have HB10 := Aside0.mk (below_step HB9.out hb); have HF10 := Aside0.mk (HF9.out.step hb); clear HF9 HB9 hb HP2)
              | (go_at_call 27; refine (HT2.out _ _ _ _ (HF10.out.c (by have := HZ.out.1; simp; omega)).1).mono ?_; rintro e w11 ⟨rfl, hb⟩; have HB11 := Aside0.mk (below_step HB10.out hb); clear HF10 HB10 hb HT2))
            go_ret
            exact ⟨rfl, HB11.out⟩
        · rw [trail_app, if_neg h1] at HT2
          generalize reqQ l = qa at HQ
          generalize respQ l = qb at HP
          generalize reqQ (l ++ [f]) = qd at HQ2
          generalize respQ (l ++ [f]) = qe at HP2
          have hone : trailQ [⟨f.f0, f.f1⟩] = trailQ [f] := rfl
          rw [hone] at HOne
          clear hone
          generalize trailQ [f] = o at HOne h0
          generalize trailQ l = qc at HT HT2 h1
          have h0d : decide (o = 0) = false := decide_eq_false h0
          have h0b : (o == 0) = false := beq_eq_false_iff_ne.2 h0
          have h1d : decide (qc = 0) = false := decide_eq_false h1
          have h1b : (qc == 0) = false := beq_eq_false_iff_ne.2 h1
          go_enter Tryd.func8, Tryd.ntmps8
          go_wp2_with (first
            | (go_at_call 14; refine HFW.out.mono ?_; rintro e w1 ⟨rfl, hb⟩; have HB := Aside0.mk (below_step HB0.out hb); have hbk := (hb.block _ (blk_lt HBK.out)).trans HBK.out; have k0 := cells_of_heap hbk 0 _ rfl; have k1 := cells_of_heap hbk 1 _ rfl; clear HBK; have HBK := Aside0.mk hbk; clear hb hbk)
            | (go_at_call 11; refine (alive_c _).mono ?_; rintro e w2 ⟨rfl, hb⟩; have HB2 := Aside0.mk (below_step HB.out hb); have hbk := (hb.block _ (blk_lt HBK.out)).trans HBK.out; have k0 := cells_of_heap hbk 0 _ rfl; have k1 := cells_of_heap hbk 1 _ rfl; clear HBK HB; have HBK := Aside0.mk hbk; clear hb hbk))
          have HC2 := Aside0.mk (Kd.C_below HC.out HB2.out)
          have hlen2 := HB2.out.size
          have HL2 := Aside0.mk (blk_lt HBK.out)
          clear hlen2
          have mixed : Tryd.prog.follows Departure.mixedOrders = true := by kernel_rfl
          go_region_law_o (first
            | (refine step_app (by simp [Region.wanted]) (.const (.slice none 0 0)) (.tmp 31) rfl w2 w2.heap.size none A 0 0 l.length c [] l rfl rfl (FR.nil _ _) ?cC ?cL ?cB ?cW ?_; (case cC => (repeat' first | exact HC2.out | (with_reducible refine Kd.C_alloc ?_ _) | (with_reducible refine Kd.C_drew ?_))); (case cL => have := HZ.out.1; simp; omega); (case cB => simp); (case cW => (repeat' first | exact Below.refl _ _ | (with_reducible refine below_alloc ?_ _) | (with_reducible refine below_drew ?_))); intro A3 c3 w3 hF hb hg; rw [Nat.zero_add, List.nil_append] at hF; have hbk := (hb.block _ (blk_lt HBK.out)).trans HBK.out; have k0 := cells_of_heap hbk 0 _ rfl; have k1 := cells_of_heap hbk 1 _ rfl; have HF3 := Aside0.mk hF; have HB3 := Aside0.mk hb; have HG3 := Aside0.mk hg; clear hF hb hg hbk)
            | (refine step_app (by simp [Region.wanted]) (.tmp 32) (.tmp 34) rfl w2 w2.heap.size A3 _ l.length c3 1 1 l [f] rfl rfl ?cF ?cC ?cL ?cB ?cW ?_; (case cF => (repeat' first | exact HF3.out | (with_reducible refine FR.alloc ?_ _) | (with_reducible refine FR.drew ?_))); (case cC => first | exact lit1' (by simp) _ _ | exact c_grown (w := (w2.alloc (.cells #[.string f.f0, .string f.f1] 26)).drew) (l := [f]) (heap_alloc_new w2 _) HG3.out (fun e => by cases e) (by simp) rfl); (case cL => have := HZ.out.1; simp; omega); (case cB => have := HB3.out.size; simp; omega); (case cW => (repeat' first | exact HB3.out | (with_reducible refine Below.alloc ?_ ?_ _) | (with_reducible refine below_drew ?_)); all_goals (have := HB3.out.size; simp; omega)); intro A4 c4 w4 hF hb _; have hbk := (hb.block _ (HL2.out)).trans HBK.out; have k0 := cells_of_heap hbk 0 _ rfl; have k1 := cells_of_heap hbk 1 _ rfl; have HBK4 := Aside0.mk hbk; have HF4 := Aside0.mk hF; have HB4 := Aside0.mk (below_step HB2.out hb); clear hF hb hbk HF3 HB3 HG3))
          all_goals
            go_wp2_with (first
              | (go_at_call 27; refine (HOne.out _ _ _ _ ?hc).mono ?_; (case hc => exact lit1' (by simp) _ _); rintro e w5 ⟨rfl, hb⟩; have HB5 := Aside0.mk (below_step (below_alloc HB4.out _) hb); have HF5 := Aside0.mk ((FR.alloc HF4.out _).step hb); clear HF4 HB4 HBK4 hb HOne)
              | (go_at_call 13; refine (HQ.out _ (Kd.C_below HC.out HB5.out)).mono ?_; rintro e w6 ⟨rfl, hb⟩; have HB6 := Aside0.mk (below_step HB5.out hb); have HF6 := Aside0.mk (HF5.out.step hb); clear HF5 HB5 hb HQ)
              | (go_at_call 25; refine (HP.out _ (Kd.C_below HC.out HB6.out)).mono ?_; rintro e w7 ⟨rfl, hb⟩; have HB7 := Aside0.mk (below_step HB6.out hb); have HF7 := Aside0.mk (HF6.out.step hb); clear HF6 HB6 hb HP)
              | (go_at_call 27; refine (HT.out _ (Kd.C_below HC.out HB7.out)).mono ?_; rintro e w8 ⟨rfl, hb⟩; have HB8 := Aside0.mk (below_step HB7.out hb); have HF8 := Aside0.mk (HF7.out.step hb); clear HF7 HB7 hb HT)
              | (go_at_call 13; refine (HQ2.out _ _ _ _ (HF8.out.c (by have := HZ.out.1; simp; omega)).1).mono ?_; rintro e w9 ⟨rfl, hb⟩; have HB9 := Aside0.mk (below_step HB8.out hb); have HF9 := Aside0.mk (HF8.out.step hb); clear HF8 HB8 hb HQ2)
              | (go_at_call 25; refine (HP2.out _ _ _ _ (HF9.out.c (by have := HZ.out.1; simp; omega)).1).mono ?_; rintro e w10 ⟨rfl, hb⟩; have HB10 := Aside0.mk (below_step HB9.out hb); have HF10 := Aside0.mk (HF9.out.step hb); clear HF9 HB9 hb HP2)
              | (go_at_call 27; refine (HT2.out _ _ _ _ (HF10.out.c (by have := HZ.out.1; simp; omega)).1).mono ?_; rintro e w11 ⟨rfl, hb⟩; have HB11 := Aside0.mk (below_step HB10.out hb); clear HF10 HB10 hb HT2))
            go_ret
            exact ⟨rfl, HB11.out⟩
end Go.Proofs.YthibjhjeppfahaaDoor.Fw
