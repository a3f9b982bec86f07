/- TableFinds: the walk. -/
import Derived.Test.YtohphkdemonlkaaTAdds
namespace Go.Proofs.Ytohphkdemonlkaa.Tw
open Go.RowKit Go.Lib Go.Proofs.Ytohphkdemonlkaa.XQt Go.Proofs.YtohphkdemonlkaaW.PrintWords Go.Proofs.YtohphkdemonlkaaW.PrintLast Go.Proofs.YtohphkdemonlkaaW.PrintMore Go.Proofs.Ytohphkdemonlkaa.Ob
attribute [local go_sem high] eqA54

theorem bytes_beq_iff (x y : ByteArray) : (x.toList == y.toList) = true ↔ x = y := by
  rw [beq_iff_eq, ByteArray.toList_eq, ByteArray.toList_eq]
  exact ⟨fun h => ByteArray.ext (Array.toList_inj.mp h), fun h => by rw [h]⟩
theorem bytes_beq_false_iff (x y : ByteArray) : (x.toList == y.toList) = false ↔ x ≠ y := by
  rw [Ne, ← bytes_beq_iff x y, Bool.not_eq_true]
theorem same_iff (f y : S54) : same f y = true ↔ f = y := by
  unfold same
  rw [Bool.and_eq_true, bytes_beq_iff, bytes_beq_iff]
  constructor
  · rintro ⟨h0, h1⟩
    cases f; cases y
    simp_all
  · rintro rfl
    exact ⟨rfl, rfl⟩
theorem adds_head (l : List S54) (m : Nat) (hm : m < l.length) (hc : cost l[m] ≤ 512) : ∃ R, adds 512 (l.take (m + 1)) = l[m] :: R := by
  rw [adds_snoc 512 l m hm]
  unfold addL
  rw [if_pos hc]
  exact ⟨_, rfl⟩
/-- The last one is found: where it is, by its name and another value. -/
theorem finds_one (f : S54) (R : List S54) : ∃ j : Nat, j ≤ 16 ∧ findN (wholeL (f :: R)) f = (j : Int) + 1 ∧ findB (wholeL (f :: R)) f = true ∧ ∃ h : j < (wholeL (f :: R)).length, (wholeL (f :: R))[j] = f := by
  have h16 : (wholeL (f :: R))[16]'(by rw [whole_len]; simp) = f := (List.getElem?_eq_some_iff.1 (show (wholeL (f :: R))[16]? = some f from rfl)).2
  rcases ixP_cases (same f) (wholeL (f :: R)) 0 with ⟨k, hk, e, hp, hn⟩ | ⟨e, hn⟩
  · have hk16 : k ≤ 16 := by
      rcases Nat.lt_or_ge 16 k with h | h
      · have := hn 16 h
        rw [h16, (same_iff f f).2 rfl] at this
        cases this
      · exact h
    rw [Nat.zero_add] at e
    refine ⟨k, hk16, ?_, ?_, hk, ((same_iff f _).1 hp).symm⟩
    · unfold findN
      rw [e, if_pos (by omega)]
    · unfold findB
      rw [e]
      exact decide_eq_true (by omega)
  · have := hn _ (List.getElem_mem (by rw [whole_len]; simp : 16 < (wholeL (f :: R)).length))
    rw [h16, (same_iff f f).2 rfl] at this
    cases this
theorem finds_two (f : S54) (v : ByteArray) (R : List S54) : ∃ j : Nat, ∃ h : j < (wholeL (f :: R)).length, findN (wholeL (f :: R)) ⟨f.f0, v⟩ = (j : Int) + 1 ∧ ((wholeL (f :: R))[j].f0.toList == f.f0.toList) = true ∧
    ((findB (wholeL (f :: R)) ⟨f.f0, v⟩ = true ∧ ((wholeL (f :: R))[j].f1.toList == v.toList) = true) ∨ (findB (wholeL (f :: R)) ⟨f.f0, v⟩ = false ∧ (v.toList == f.f1.toList) = false)) := by
  have hm : f ∈ wholeL (f :: R) := by unfold wholeL; simp
  rcases ixP_cases (same ⟨f.f0, v⟩) (wholeL (f :: R)) 0 with ⟨k, hk, e, hp, hn⟩ | ⟨e, hn⟩
  · rw [Nat.zero_add] at e
    have hy := (same_iff _ _).1 hp
    refine ⟨k, hk, by unfold findN; rw [e, if_pos (by omega)], by rw [← hy]; exact (bytes_beq_iff _ _).2 rfl, .inl ⟨by unfold findB; rw [e]; exact decide_eq_true (by omega), by rw [← hy]; exact (bytes_beq_iff _ _).2 rfl⟩⟩
  · have hb : findB (wholeL (f :: R)) ⟨f.f0, v⟩ = false := by unfold findB; rw [e]; rfl
    have hv : (v.toList == f.f1.toList) = false := by
      rw [bytes_beq_false_iff]
      rintro rfl
      have := hn f hm
      rw [show (⟨f.f0, f.f1⟩ : S54) = f from rfl, (same_iff f f).2 rfl] at this
      cases this
    rcases ixP_cases (sameName ⟨f.f0, v⟩) (wholeL (f :: R)) 0 with ⟨k, hk, e2, hp, _⟩ | ⟨e2, hn2⟩
    · rw [Nat.zero_add] at e2
      refine ⟨k, hk, ?_, hp, .inr ⟨hb, hv⟩⟩
      unfold findN
      rw [e, if_neg (by omega), e2]
      omega
    · have := hn2 f hm
      unfold sameName at this
      rw [bytes_beq_false_iff] at this
      exact absurd rfl this
set_option maxHeartbeats 1600000 in
theorem finds_off (A : Option Addr) (n c : Nat) (v : ByteArray) (w : World) (hg : (n : Int) < 1 ∨ (n : Int) > 40 ∨ (v.size : Int) > 60) :
    Calls Try.prog 9 #[.slice A n c, .string v] w fun e w' => e = .returned (.bool true) ∧ Below w.heap.size w w' := by
  have HA := Aside0.mk (alive_calls w)
  by_cases c1 : (n : Int) < 1
  · have d1 : decide ((n : Int) < 1) = true := decide_eq_true c1
    have d1a : decide (n < 1) = true := decide_eq_true (by omega)
    have d1b : n = 0 := by omega
    clear hg c1
    subst d1b
    go_enter Try.func9, Try.ntmps9
    go_wp2_with (go_at_call 25; refine HA.out.mono ?_; rintro e w' ⟨rfl, hb⟩)
    go_ret
    exact ⟨rfl, hb⟩
  · have d1 : decide ((n : Int) < 1) = false := decide_eq_false c1
    have d1a : decide (n < 1) = false := decide_eq_false (by omega)
    have d1b : ¬ n = 0 := by omega
    by_cases c2 : (n : Int) > 40
    · have d2 : decide ((n : Int) > 40) = true := decide_eq_true c2
      have d2a : decide (n > 40) = true := decide_eq_true (by omega)
      clear hg c1 c2
      go_enter Try.func9, Try.ntmps9
      go_wp2_with (go_at_call 25; refine HA.out.mono ?_; rintro e w' ⟨rfl, hb⟩)
      go_ret
      exact ⟨rfl, hb⟩
    · have d2 : decide ((n : Int) > 40) = false := decide_eq_false c2
      have d2a : decide (n > 40) = false := decide_eq_false (by omega)
      have d3 : decide ((v.size : Int) > 60) = true := decide_eq_true (by omega)
      have d3a : decide (v.size > 60) = true := decide_eq_true (by omega)
      clear hg c1 c2
      go_enter Try.func9, Try.ntmps9
      go_wp2_with (go_at_call 25; refine HA.out.mono ?_; rintro e w' ⟨rfl, hb⟩)
      go_ret
      exact ⟨rfl, hb⟩
section
variable {w0 w : World} {D : List S54} {g : Nat}
theorem fi_find (h : TOwn w0 w D 512 g) (f : S54) (n : Int) (b : Bool) (hn : findN (wholeL D) f = n) (hb : findB (wholeL D) f = b) : Calls Try.prog 32 #[.pointer (some ⟨g, 0, none⟩), .agg #[.string f.f0, .string f.f1]] w fun e w' => e = .returned (.tuple #[.int .i64 n, .bool b]) ∧ Below w.heap.size w w' := by
  have := find_own h f
  rw [hn, hb] at this
  exact this
theorem fi_at (h : TOwn w0 w D 512 g) (j : Nat) (hj : j < (wholeL D).length) (y : S54) (hy : (wholeL D)[j] = y) : Calls Try.prog 31 #[.pointer (some ⟨g, 0, none⟩), .int .i64 ((j : Int) + 1)] w fun e w' => e = .returned (.tuple #[.agg #[.string y.f0, .string y.f1], .bool true]) ∧ Below w.heap.size w w' := by
  have := at_own h j hj
  rw [rd_in _ j hj, hy] at this
  exact this
end
set_option maxHeartbeats 3200000 in
set_option maxRecDepth 20000 in
theorem finds_on (A : Option Addr) (l : List S54) (c : Nat) (v : ByteArray) (w : World) (hn : 1 ≤ l.length ∧ l.length ≤ 40) (hv : v.size ≤ 60) (hC : k54.C w A l.length l) (hS : Small l) :
    Calls Try.prog 9 #[.slice A l.length c, .string v] w fun e w' => e = .returned (.bool true) ∧ Below w.heap.size w w' := by
  have d1 : decide ((l.length : Int) < 1) = false := decide_eq_false (by omega)
  have d1a : decide (l.length < 1) = false := decide_eq_false (by omega)
  have d1b : ¬ l.length = 0 := by omega
  have d1c : ¬ l = [] := fun e => d1b (by rw [e]; rfl)
  have d2 : decide ((l.length : Int) > 40) = false := decide_eq_false (by omega)
  have d2a : decide (l.length > 40) = false := decide_eq_false (by omega)
  have d3 : decide ((v.size : Int) > 60) = false := decide_eq_false (by omega)
  have d3a : decide (v.size > 60) = false := decide_eq_false (by omega)
  have HA := Aside0.mk (alive_calls w)
  have HN := Aside0.mk hn.2
  have HC := Aside0.mk hC
  have HS := Aside0.mk hS
  obtain ⟨m, hm⟩ : ∃ m, l.length = m + 1 := ⟨l.length - 1, by omega⟩
  have HM := Aside0.mk hm
  clear hn hv hC hS hm
  go_enter Try.func9, Try.ntmps9
  go_wp2_with (first
    | (go_at_call 25; refine HA.out.mono ?_; rintro e w1 ⟨rfl, hb⟩; have HB := Aside0.mk hb; clear hb)
    | (go_at_call 26; refine (new_own HB.out 512 (by decide)).mono ?_; rintro e w2 ⟨g, rfl, ht⟩; have HT := Aside0.mk ht; clear ht))
  clear d1 d1a d1b d1c d2 d2a d3 d3a
  go_loopg [40] 100 (fun kq v40 w' => ∃ i : Nat, v40 = .int .i64 i ∧ Aside0 (i ≤ l.length ∧ i + kq = 100 ∧ ∀ k (hk : k < i) (h : k < l.length), cost l[k] ≤ 512) ∧ Aside0 (TOwn w w' (adds 512 (l.take i)) 512 g))
  case atStart => exact ⟨0, rfl, ⟨by omega, by omega, fun k hk => absurd hk (Nat.not_lt_zero _)⟩, ⟨HT.out⟩⟩
  case round =>
    clear HT
    obtain ⟨i, rfl, HJ, HT⟩ := hrel
    by_cases hi : i < l.length
    · have HI := Aside0.mk hi
      have e1 : decide ((i : Int) < (l.length : Int)) = true := decide_eq_true (by omega)
      obtain ⟨ad, hA, k0, k1⟩ := elem_at HC.out HT.out.below i hi
      subst hA
      have hsm := small_at HS.out i hi
      have had := adds_snoc 512 l i hi
      have p1 : (0 : Int) ≤ (i : Int) := by omega
      have p2 : (i : Int) < (l.length : Int) := by omega
      generalize hxl : l[i] = x at k0 k1 hsm had
      have HXL : Aside0 (∀ h : i < l.length, l[i] = x) := ⟨fun _ => hxl⟩
      clear hxl
      have HAD := Aside0.mk had
      have hw : wrap64 ((x.f0.size : Int) + x.f1.size) = (x.f0.size : Int) + x.f1.size := w64_in ((x.f0.size : Int) + x.f1.size) (by omega)
      clear hi had
      by_cases hx : (x.f0.size : Int) + x.f1.size > 200
      · have e2 : decide ((x.f0.size : Int) + x.f1.size > 200) = true := decide_eq_true hx
        clear hx hsm
        go_wp2
        go_ret
        exact ⟨rfl, below_alloc HT.out.below _⟩
      · have e2 : decide ((x.f0.size : Int) + x.f1.size > 200) = false := decide_eq_false hx
        have HX : Aside0 (cost x ≤ 200 + 32) := ⟨by unfold cost; omega⟩
        clear hx hsm
        go_wp2_with (go_at_call 27; refine (add_own (HT.out.below_ (below_alloc (Below.refl _ _) (.cells #[.string x.f0, .string x.f1] 54))) x (by have := HX.out; omega)).mono ?_; rintro e w3 ⟨rfl, ht3⟩; rw [← HAD.out] at ht3; have HT3 := Aside0.mk ht3; clear ht3)
        go_roundg (gk - 1)
        case measure => have := HJ.out; have := HN.out; have := HI.out; omega
        case rel => exact ⟨i + 1, by rw [w64_in ((i : Int) + 1) (by have := HN.out; have := HI.out; omega)]; rfl, ⟨by have := HI.out; omega, by have := HJ.out; have := HN.out; have := HI.out; omega, fun k hk h => by rcases Nat.lt_succ_iff_lt_or_eq.1 hk with h2 | rfl; exact HJ.out.2.2 k h2 h; rw [HXL.out h]; have := HX.out; omega⟩, ⟨HT3.out⟩⟩
    · have e1 : decide ((i : Int) < (l.length : Int)) = false := decide_eq_false (by omega)
      have e1' : ¬ i < l.length := hi
      have e1'' : decide (i < l.length) = false := decide_eq_false hi
      have hil : i = l.length := by have := HJ.out.1; omega
      clear hi

      have hml : m < l.length := by have := HM.out; omega
      obtain ⟨R, hR⟩ := adds_head l m hml (HJ.out.2.2 m (by omega) hml)
      have hD : adds 512 (l.take i) = l[m] :: R := by rw [hil, HM.out]; exact hR
      rw [hD] at HT
      obtain ⟨ad, hA, k0, k1⟩ := elem_at HC.out HT.out.below m hml
      subst hA
      have q1 : (0 : Int) ≤ (m : Int) := by omega
      have q2 : (m : Int) < (l.length : Int) := by omega
      have q3 : (l.length : Int) = (m : Int) + 1 := by have := HM.out; omega
      have hwm : wrap64 (m : Int) = (m : Int) := w64_in (m : Int) (by have := HM.out; have := HN.out; omega)
      generalize l[m] = f at k0 k1 HT
      obtain ⟨j, hj16, hfn, hfb, hj, hjf⟩ := finds_one f R
      obtain ⟨i2, hi2, hfn2, hname, hval⟩ := finds_two f v R
      generalize hy : (wholeL (f :: R))[i2] = y at hname hval
      generalize hb : findB (wholeL (f :: R)) ⟨f.f0, v⟩ = b at hval
      have H1 : Aside0 (findN (wholeL (f :: R)) f = (j : Int) + 1 ∧ findB (wholeL (f :: R)) f = true ∧ ∃ h : j < (wholeL (f :: R)).length, (wholeL (f :: R))[j] = f) := ⟨⟨hfn, hfb, hj, hjf⟩⟩
      have H2 := Aside0.mk (And.intro hfn2 hb)
      have H3 : Aside0 (∃ h : i2 < (wholeL (f :: R)).length, (wholeL (f :: R))[i2] = y) := ⟨⟨hi2, hy⟩⟩
      have g1 : decide ((j : Int) + 1 ≥ 1) = true := decide_eq_true (by omega)
      have g2 : decide ((j : Int) + 1 ≤ 17) = true := decide_eq_true (by omega)
      have g2' : decide ((j : Int) ≤ 16) = true := decide_eq_true (by omega)
      have g3 : decide ((i2 : Int) + 1 ≥ 1) = true := decide_eq_true (by omega)
      clear hfn hfb hj hjf hfn2 hb hi2 hy hD hR hml hil hj16
      rcases hval with ⟨rfl, hvy⟩ | ⟨rfl, hvf⟩
      · have HV := Aside0.mk hvy
        go_wp2_with (first
          | (go_at_call 32; refine (fi_find (HT.out.below_ (below_alloc (Below.refl _ _) (.cells #[.string f.f0, .string f.f1] 54))) f _ _ H1.out.1 H1.out.2.1).mono ?_; rintro e w3 ⟨rfl, hb3⟩; have HX3 := Aside0.mk ((hb3.block wr.heap.size (by rw [World.size_alloc]; omega)).trans (heap_alloc_new wr (.cells #[.string f.f0, .string f.f1] 54))); have b0 : w3.cell? ⟨wr.heap.size, 0, none⟩ = some (.string f.f0) := cells_of_heap HX3.out 0 _ rfl; have b1 : w3.cell? ⟨wr.heap.size, 1, none⟩ = some (.string f.f1) := cells_of_heap HX3.out 1 _ rfl; have HT3 := Aside0.mk ((HT.out.below_ (below_alloc (Below.refl _ _) (.cells #[.string f.f0, .string f.f1] 54))).below_ hb3); clear HT hb3)
          | (go_at_call 32; refine (fi_find HT3.out ⟨f.f0, v⟩ _ _ H2.out.1 H2.out.2).mono ?_; rintro e w4 ⟨rfl, hb4⟩; have HX4 := Aside0.mk ((hb4.block _ (blk_lt HX3.out)).trans HX3.out); have HT4 := Aside0.mk (HT3.out.below_ hb4); clear HT3 HX3 hb4)
          | (go_at_call 31; obtain ⟨hj, hjf⟩ := H1.out.2.2; refine (fi_at HT4.out j hj f hjf).mono ?_; rintro e w5 ⟨rfl, hb5⟩; have HX5 := Aside0.mk ((hb5.block _ (blk_lt HX4.out)).trans HX4.out); have HT5 := Aside0.mk (HT4.out.below_ hb5); clear HT4 HX4 hb5 hj hjf)
          | (go_at_call 31; obtain ⟨hi2, hy⟩ := H3.out; refine (fi_at (HT5.out.below_ (below_alloc (Below.refl _ _) (.cells #[.string f.f0, .string f.f1] 54))) i2 hi2 y hy).mono ?_; rintro e w6 ⟨rfl, hb6⟩; have hlt := blk_lt HX5.out; have HX6 := (hb6.block wr.heap.size (by rw [World.size_alloc]; omega)).trans ((Below.heap_alloc w5 (.cells #[.string f.f0, .string f.f1] 54) _ hlt).trans HX5.out); have HG6 := (hb6.block w5.heap.size (by rw [World.size_alloc]; omega)).trans (heap_alloc_new w5 (.cells #[.string f.f0, .string f.f1] 54)); have HX7 := (Below.heap_alloc w6 (.cells #[.string y.f0, .string y.f1] 54) _ (blk_lt HX6)).trans HX6; have HG7 := (Below.heap_alloc w6 (.cells #[.string y.f0, .string y.f1] 54) _ (blk_lt HG6)).trans HG6; have HY7 := heap_alloc_new w6 (.cells #[.string y.f0, .string y.f1] 54); have x0 : (w6.alloc (.cells #[.string y.f0, .string y.f1] 54)).cell? ⟨wr.heap.size, 0, none⟩ = some (.string f.f0) := cells_of_heap HX7 0 _ rfl; have x1 : (w6.alloc (.cells #[.string y.f0, .string y.f1] 54)).cell? ⟨wr.heap.size, 1, none⟩ = some (.string f.f1) := cells_of_heap HX7 1 _ rfl; have z0 : (w6.alloc (.cells #[.string y.f0, .string y.f1] 54)).cell? ⟨w5.heap.size, 0, none⟩ = some (.string f.f0) := cells_of_heap HG7 0 _ rfl; have z1 : (w6.alloc (.cells #[.string y.f0, .string y.f1] 54)).cell? ⟨w5.heap.size, 1, none⟩ = some (.string f.f1) := cells_of_heap HG7 1 _ rfl; have y0 : (w6.alloc (.cells #[.string y.f0, .string y.f1] 54)).cell? ⟨w6.heap.size, 0, none⟩ = some (.string y.f0) := cells_of_heap HY7 0 _ rfl; have y1 : (w6.alloc (.cells #[.string y.f0, .string y.f1] 54)).cell? ⟨w6.heap.size, 1, none⟩ = some (.string y.f1) := cells_of_heap HY7 1 _ rfl; have HT6 := Aside0.mk ((HT5.out.below_ (below_alloc (Below.refl _ _) (.cells #[.string f.f0, .string f.f1] 54))).below_ hb6); clear HT5 HX5 hb6 HX6 HG6 HX7 HG7 HY7 hi2 hy hlt))
        go_ret
        exact ⟨rfl, (HT6.out.below_ (below_alloc (Below.refl _ _) (.cells #[.string y.f0, .string y.f1] 54))).below⟩
      · have HV := Aside0.mk hvf
        go_wp2_with (first
          | (go_at_call 32; refine (fi_find (HT.out.below_ (below_alloc (Below.refl _ _) (.cells #[.string f.f0, .string f.f1] 54))) f _ _ H1.out.1 H1.out.2.1).mono ?_; rintro e w3 ⟨rfl, hb3⟩; have HX3 := Aside0.mk ((hb3.block wr.heap.size (by rw [World.size_alloc]; omega)).trans (heap_alloc_new wr (.cells #[.string f.f0, .string f.f1] 54))); have b0 : w3.cell? ⟨wr.heap.size, 0, none⟩ = some (.string f.f0) := cells_of_heap HX3.out 0 _ rfl; have b1 : w3.cell? ⟨wr.heap.size, 1, none⟩ = some (.string f.f1) := cells_of_heap HX3.out 1 _ rfl; have HT3 := Aside0.mk ((HT.out.below_ (below_alloc (Below.refl _ _) (.cells #[.string f.f0, .string f.f1] 54))).below_ hb3); clear HT hb3)
          | (go_at_call 32; refine (fi_find HT3.out ⟨f.f0, v⟩ _ _ H2.out.1 H2.out.2).mono ?_; rintro e w4 ⟨rfl, hb4⟩; have HX4 := Aside0.mk ((hb4.block _ (blk_lt HX3.out)).trans HX3.out); have HT4 := Aside0.mk (HT3.out.below_ hb4); clear HT3 HX3 hb4)
          | (go_at_call 31; obtain ⟨hj, hjf⟩ := H1.out.2.2; refine (fi_at HT4.out j hj f hjf).mono ?_; rintro e w5 ⟨rfl, hb5⟩; have HX5 := Aside0.mk ((hb5.block _ (blk_lt HX4.out)).trans HX4.out); have HT5 := Aside0.mk (HT4.out.below_ hb5); clear HT4 HX4 hb5 hj hjf)
          | (go_at_call 31; obtain ⟨hi2, hy⟩ := H3.out; refine (fi_at (HT5.out.below_ (below_alloc (Below.refl _ _) (.cells #[.string f.f0, .string f.f1] 54))) i2 hi2 y hy).mono ?_; rintro e w6 ⟨rfl, hb6⟩; have hlt := blk_lt HX5.out; have HX6 := (hb6.block wr.heap.size (by rw [World.size_alloc]; omega)).trans ((Below.heap_alloc w5 (.cells #[.string f.f0, .string f.f1] 54) _ hlt).trans HX5.out); have HG6 := (hb6.block w5.heap.size (by rw [World.size_alloc]; omega)).trans (heap_alloc_new w5 (.cells #[.string f.f0, .string f.f1] 54)); have HX7 := (Below.heap_alloc w6 (.cells #[.string y.f0, .string y.f1] 54) _ (blk_lt HX6)).trans HX6; have HG7 := (Below.heap_alloc w6 (.cells #[.string y.f0, .string y.f1] 54) _ (blk_lt HG6)).trans HG6; have HY7 := heap_alloc_new w6 (.cells #[.string y.f0, .string y.f1] 54); have x0 : (w6.alloc (.cells #[.string y.f0, .string y.f1] 54)).cell? ⟨wr.heap.size, 0, none⟩ = some (.string f.f0) := cells_of_heap HX7 0 _ rfl; have x1 : (w6.alloc (.cells #[.string y.f0, .string y.f1] 54)).cell? ⟨wr.heap.size, 1, none⟩ = some (.string f.f1) := cells_of_heap HX7 1 _ rfl; have z0 : (w6.alloc (.cells #[.string y.f0, .string y.f1] 54)).cell? ⟨w5.heap.size, 0, none⟩ = some (.string f.f0) := cells_of_heap HG7 0 _ rfl; have z1 : (w6.alloc (.cells #[.string y.f0, .string y.f1] 54)).cell? ⟨w5.heap.size, 1, none⟩ = some (.string f.f1) := cells_of_heap HG7 1 _ rfl; have y0 : (w6.alloc (.cells #[.string y.f0, .string y.f1] 54)).cell? ⟨w6.heap.size, 0, none⟩ = some (.string y.f0) := cells_of_heap HY7 0 _ rfl; have y1 : (w6.alloc (.cells #[.string y.f0, .string y.f1] 54)).cell? ⟨w6.heap.size, 1, none⟩ = some (.string y.f1) := cells_of_heap HY7 1 _ rfl; have HT6 := Aside0.mk ((HT5.out.below_ (below_alloc (Below.refl _ _) (.cells #[.string f.f0, .string f.f1] 54))).below_ hb6); clear HT5 HX5 hb6 HX6 HG6 HX7 HG7 HY7 hi2 hy hlt))
        go_ret
        exact ⟨rfl, (HT6.out.below_ (below_alloc (Below.refl _ _) (.cells #[.string y.f0, .string y.f1] 54))).below⟩
theorem finds_calls (A : Option Addr) (l : List S54) (c : Nat) (v : ByteArray) (w : World) (hC : k54.C w A l.length l) (hS : Small l) (_ : v.size ≤ reachBytes) :
    Calls Try.prog 9 #[.slice A l.length c, .string v] w fun e w' => e = .returned (.bool true) ∧ Below w.heap.size w w' := by
  by_cases h : (l.length : Int) < 1 ∨ (l.length : Int) > 40 ∨ (v.size : Int) > 60
  · exact finds_off A l.length c v w h
  · exact finds_on A l c v w (by omega) (by omega) hC hS
end Go.Proofs.Ytohphkdemonlkaa.Tw
