/- TableFixed: the walk. -/
import Derived.Test.YtohphkdemonlkaaTAdds
namespace Go.Proofs.Ytohphkdemonlkaa.Tw
open Go.RowKit Go.Lib Go.Proofs.Ytohphkdemonlkaa.XQt Go.Proofs.YtohphkdemonlkaaW.PrintWords Go.Proofs.YtohphkdemonlkaaW.PrintLast Go.Proofs.YtohphkdemonlkaaW.PrintMore Go.Proofs.Ytohphkdemonlkaa.Ob

theorem fx_at (D : List S54) (k : Nat) (hk : k < 16) : rd_T54 (wholeL D) (k : Int) = rd_T54 fixedL (k : Int) := by
  have h1 : k < fixedL.length := by rw [fixed_len]; exact hk
  rw [rd_in _ _ h1, rd_in _ _ (by rw [whole_len]; omega)]
  exact List.getElem_append_left h1
theorem fx_find (D : List S54) (k : Nat) (hk : k < 16) : ixP (same (rd_T54 fixedL (k : Int))) (fixedL ++ D) 0 = (k : Int) := by
  rcases k with _ | _ | _ | _ | _ | _ | _ | _ | _ | _ | _ | _ | _ | _ | _ | _ | k
  all_goals first | (exact absurd hk (by omega)) | kernel_rfl
theorem fx_name (k : Nat) (hk : k < 16) : (!(rd_T54 fixedL (k : Int)).f0.toList.isEmpty) = true := by
  rcases k with _ | _ | _ | _ | _ | _ | _ | _ | _ | _ | _ | _ | _ | _ | _ | _ | k
  all_goals first | (exact absurd hk (by omega)) | kernel_rfl

set_option maxHeartbeats 1600000 in
theorem fixed_off (s : Int) (A : Option Addr) (n c : Nat) (i : Int) (w : World) (hg : s < 0 ∨ s > 512 ∨ (n : Int) > 40 ∨ i < 1 ∨ i > 16) :
    Calls Try.prog 8 #[.int .i64 s, .slice A n c, .int .i64 i] w fun e w' => e = .returned (.bool true) ∧ Below w.heap.size w w' := by
  have HA := Aside0.mk (alive_calls w)
  by_cases c1 : s < 0
  · have d1 : decide (s < 0) = true := decide_eq_true c1
    clear hg c1
    go_enter Try.func8, Try.ntmps8
    go_wp2_with (go_at_call 25; refine HA.out.mono ?_; rintro e w' ⟨rfl, hb⟩)
    go_ret
    exact ⟨rfl, hb⟩
  · have d1 : decide (s < 0) = false := decide_eq_false c1
    by_cases c2 : s > 512
    · have d2 : decide (s > 512) = true := decide_eq_true c2
      clear hg c1 c2
      go_enter Try.func8, Try.ntmps8
      go_wp2_with (go_at_call 25; refine HA.out.mono ?_; rintro e w' ⟨rfl, hb⟩)
      go_ret
      exact ⟨rfl, hb⟩
    · have d2 : decide (s > 512) = false := decide_eq_false c2
      by_cases c3 : (n : Int) > 40
      · have d3 : decide ((n : Int) > 40) = true := decide_eq_true c3
        have d3' : decide (n > 40) = true := decide_eq_true (by omega)
        clear hg c1 c2 c3
        go_enter Try.func8, Try.ntmps8
        go_wp2_with (go_at_call 25; refine HA.out.mono ?_; rintro e w' ⟨rfl, hb⟩)
        go_ret
        exact ⟨rfl, hb⟩
      · have d3 : decide ((n : Int) > 40) = false := decide_eq_false c3
        have d3' : decide (n > 40) = false := decide_eq_false (by omega)
        by_cases c4 : i < 1
        · have d4 : decide (i < 1) = true := decide_eq_true c4
          clear hg c1 c2 c3 c4
          go_enter Try.func8, Try.ntmps8
          go_wp2_with (go_at_call 25; refine HA.out.mono ?_; rintro e w' ⟨rfl, hb⟩)
          go_ret
          exact ⟨rfl, hb⟩
        · have d4 : decide (i < 1) = false := decide_eq_false c4
          have d5 : decide (i > 16) = true := decide_eq_true (by omega)
          clear hg c1 c2 c3 c4
          go_enter Try.func8, Try.ntmps8
          go_wp2_with (go_at_call 25; refine HA.out.mono ?_; rintro e w' ⟨rfl, hb⟩)
          go_ret
          exact ⟨rfl, hb⟩
section
variable {w0 w : World} {D : List S54} {s : Int} {g : Nat}
theorem fx_1 (h : TOwn w0 w D s g) (k : Nat) (hk : k < 16) (x : S54) (hx : x = rd_T54 fixedL (k : Int)) : Calls Try.prog 31 #[.pointer (some ⟨g, 0, none⟩), .int .i64 ((k : Int) + 1)] w fun e w' => e = .returned (.tuple #[.agg #[.string x.f0, .string x.f1], .bool true]) ∧ TOwn w0 w' D s g := by
  refine (at_own h k (by rw [whole_len]; omega)).mono ?_
  rintro e w' ⟨rfl, hb⟩
  rw [fx_at D k hk, ← hx]
  exact ⟨rfl, h.below_ hb⟩
theorem fx_2 (h : TOwn w0 w D s g) (k : Nat) (hk : k < 16) (x : S54) (hx : x = rd_T54 fixedL (k : Int)) : Calls Try.prog 32 #[.pointer (some ⟨g, 0, none⟩), .agg #[.string x.f0, .string x.f1]] w fun e w' => e = .returned (.tuple #[.int .i64 ((k : Int) + 1), .bool true]) ∧ Below w.heap.size w w' := by
  have := find_own h x
  have h1 : ixP (same x) (wholeL D) 0 = (k : Int) := by rw [hx]; exact fx_find D k hk
  rw [show findN (wholeL D) x = (k : Int) + 1 from by unfold findN; rw [h1, if_pos (by omega)], show findB (wholeL D) x = true from by unfold findB; rw [h1]; exact decide_eq_true (by omega)] at this
  exact this
theorem fx_3 (h : TOwn w0 w D s g) : Calls Try.prog 28 #[.pointer (some ⟨g, 0, none⟩)] w fun e w' => ∃ A1 c1, e = .returned (.slice A1 D.length c1) ∧ Below w.heap.size w w' := by
  refine (all_own h).mono ?_
  rintro e w' ⟨A1, c1, rfl, _, hb⟩
  exact ⟨A1, c1, rfl, hb⟩
theorem fx_none (h : TOwn w0 w D s g) (i : Int) (hi : ¬ (1 ≤ i ∧ i ≤ 16 + (D.length : Int))) : Calls Try.prog 31 #[.pointer (some ⟨g, 0, none⟩), .int .i64 i] w fun e w' => e = .returned (.tuple #[.agg #[.string ⟨#[]⟩, .string ⟨#[]⟩], .bool false]) ∧ Below w.heap.size w w' :=
  at_none h i (by rw [whole_len]; omega)
end
set_option maxHeartbeats 3200000 in
set_option maxRecDepth 20000 in
theorem fixed_on (s : Int) (A : Option Addr) (l : List S54) (c k : Nat) (w : World) (hs : 0 ≤ s ∧ s ≤ 512) (hn : l.length ≤ 40) (hk : k < 16) (hC : k54.C w A l.length l) (hS : Small l) :
    Calls Try.prog 8 #[.int .i64 s, .slice A l.length c, .int .i64 ((k : Int) + 1)] w fun e w' => e = .returned (.bool true) ∧ Below w.heap.size w w' := by
  have d1 : decide (s < 0) = false := decide_eq_false (by omega)
  have d2 : decide (s > 512) = false := decide_eq_false (by omega)
  have d3 : decide ((l.length : Int) > 40) = false := decide_eq_false (by omega)
  have d3' : decide (l.length > 40) = false := decide_eq_false (by omega)
  have d4 : decide ((k : Int) + 1 < 1) = false := decide_eq_false (by omega)
  have d4' : decide ((k : Int) < 0) = false := decide_eq_false (by omega)
  have d5 : decide ((k : Int) + 1 > 16) = false := decide_eq_false (by omega)
  have HA := Aside0.mk (alive_calls w)
  have HN := Aside0.mk hn
  have HC := Aside0.mk hC
  have HS := Aside0.mk hS
  have HSZ := Aside0.mk hs
  have HK := Aside0.mk hk
  clear hs hn hk hC hS
  go_enter Try.func8, Try.ntmps8
  go_wp2_with (first
    | (go_at_call 25; refine HA.out.mono ?_; rintro e w1 ⟨rfl, hb⟩; have HB := Aside0.mk hb; clear hb)
    | (go_at_call 26; refine (new_own HB.out s HSZ.out).mono ?_; rintro e w2 ⟨g, rfl, ht⟩; have HT := Aside0.mk ht; clear ht))
  clear d1 d2 d3 d3' d4 d5
  go_loopg [48] 100 (fun kq v48 w' => ∃ i : Nat, v48 = .int .i64 i ∧ Aside0 (i ≤ l.length ∧ i + kq = 100) ∧ Aside0 (TOwn w w' (adds s (l.take i)) s g))
  case atStart => exact ⟨0, rfl, ⟨by omega, by omega⟩, ⟨HT.out⟩⟩
  case round =>
    clear HT
    obtain ⟨i, rfl, HJ, HT⟩ := hrel
    by_cases hi : i < l.length
    · have HI := Aside0.mk hi
      have e1 : decide ((i : Int) < (l.length : Int)) = true := decide_eq_true (by omega)
      obtain ⟨ad, hA, k0, k1⟩ := elem_at HC.out HT.out.below i hi
      subst hA
      have hsm := small_at HS.out i hi
      have had := adds_snoc s l i hi
      have p1 : (0 : Int) ≤ (i : Int) := by omega
      have p2 : (i : Int) < (l.length : Int) := by omega
      generalize l[i] = x at k0 k1 hsm had
      have HAD := Aside0.mk had
      have hw : wrap64 ((x.f0.size : Int) + x.f1.size) = (x.f0.size : Int) + x.f1.size := w64_in ((x.f0.size : Int) + x.f1.size) (by omega)
      clear hi had
      by_cases hx : (x.f0.size : Int) + x.f1.size > 800
      · have e2 : decide ((x.f0.size : Int) + x.f1.size > 800) = true := decide_eq_true hx
        clear hx hsm
        go_wp2
        go_ret
        exact ⟨rfl, below_alloc HT.out.below _⟩
      · have e2 : decide ((x.f0.size : Int) + x.f1.size > 800) = false := decide_eq_false hx
        have HX : Aside0 (cost x ≤ 1000000000) := ⟨by unfold cost; omega⟩
        clear hx hsm
        go_wp2_with (go_at_call 27; refine (add_own (HT.out.below_ (below_alloc (Below.refl _ _) (.cells #[.string x.f0, .string x.f1] 54))) x HX.out).mono ?_; rintro e w3 ⟨rfl, ht3⟩; rw [← HAD.out] at ht3; have HT3 := Aside0.mk ht3; clear ht3)
        go_roundg (gk - 1)
        case measure => have := HJ.out; have := HN.out; have := HI.out; omega
        case rel => exact ⟨i + 1, by rw [w64_in ((i : Int) + 1) (by have := HN.out; have := HI.out; omega)]; rfl, ⟨by have := HI.out; omega, by have := HJ.out; have := HN.out; have := HI.out; omega⟩, ⟨HT3.out⟩⟩
    · have e1 : decide ((i : Int) < (l.length : Int)) = false := decide_eq_false (by omega)
      have e1' : ¬ i < l.length := hi
      have e1'' : decide (i < l.length) = false := decide_eq_false hi
      clear hi
      generalize adds s (l.take i) = D at HT
      have HDL := Aside0.mk HT.out.len
      obtain ⟨x, hx⟩ : ∃ x, x = rd_T54 fixedL (k : Int) := ⟨_, rfl⟩
      have hnm := fx_name k HK.out
      rw [← hx] at hnm
      have HX := Aside0.mk hx
      have HNM := Aside0.mk hnm
      clear hnm
      have hw17 : wrap64 (17 + (D.length : Int)) = 17 + (D.length : Int) := w64_in (17 + (D.length : Int)) (by have := HDL.out; omega)
      clear hx
      go_wp2_with (first
        | (go_at_call 31; refine (fx_1 HT.out k HK.out x HX.out).mono ?_; rintro e w3 ⟨rfl, ht3⟩; have HT3 := Aside0.mk ht3; clear HT ht3)
        | (go_at_call 32; refine (fx_2 (HT3.out.below_ (below_alloc (Below.refl _ _) (.cells #[.string x.f0, .string x.f1] 54))) k HK.out x HX.out).mono ?_; rintro e w4 ⟨rfl, hb4⟩; have HX4 := Aside0.mk ((hb4.block w3.heap.size (by rw [World.size_alloc]; omega)).trans (heap_alloc_new w3 _)); have HT4 := Aside0.mk ((HT3.out.below_ (below_alloc (Below.refl _ _) (.cells #[.string x.f0, .string x.f1] 54))).below_ hb4); clear HT3 hb4)
        | (go_at_call 28; refine (fx_3 HT4.out).mono ?_; rintro e w5 ⟨A5, c5, rfl, hb5⟩; have HX5 := Aside0.mk ((hb5.block _ (blk_lt HX4.out)).trans HX4.out); have HT5 := Aside0.mk (HT4.out.below_ hb5); clear HT4 HX4 hb5)
        | (go_at_call 31; refine (fx_none HT5.out (17 + (D.length : Int)) (by omega)).mono ?_; rintro e w6 ⟨rfl, hb6⟩; have HX6 := Aside0.mk ((hb6.block _ (blk_lt HX5.out)).trans HX5.out); have HT6 := Aside0.mk (HT5.out.below_ hb6); clear HT5 HX5 hb6)
        | (go_at_call 31; refine (fx_none (HT6.out.below_ (below_alloc (Below.refl _ _) (.cells #[.string ⟨#[]⟩, .string ⟨#[]⟩] 54))) 0 (by omega)).mono ?_; rintro e w7 ⟨rfl, hb7⟩; have HX7 := Aside0.mk ((hb7.block w3.heap.size (by rw [World.size_alloc]; have := blk_lt HX6.out; omega)).trans ((Below.heap_alloc w6 (.cells #[.string ⟨#[]⟩, .string ⟨#[]⟩] 54) _ (blk_lt HX6.out)).trans HX6.out)); have HT7 := Aside0.mk ((HT6.out.below_ (below_alloc (Below.refl _ _) (.cells #[.string ⟨#[]⟩, .string ⟨#[]⟩] 54))).below_ hb7); have x0 : (w7.alloc (.cells #[.string ⟨#[]⟩, .string ⟨#[]⟩] 54)).cell? ⟨w3.heap.size, 0, none⟩ = some (.string x.f0) := cells_of_heap ((Below.heap_alloc w7 (.cells #[.string ⟨#[]⟩, .string ⟨#[]⟩] 54) _ (blk_lt HX7.out)).trans HX7.out) 0 _ rfl; clear HT6 HX6 hb7))
      go_ret
      exact ⟨by show Ending.returned (.bool (!x.f0.toList.isEmpty)) = _; rw [HNM.out], (HT7.out.below_ (below_alloc (Below.refl _ _) (.cells #[.string ⟨#[]⟩, .string ⟨#[]⟩] 54))).below⟩
theorem fixed_calls (s : Int) (A : Option Addr) (l : List S54) (c : Nat) (i : Int) (w : World) (hC : k54.C w A l.length l) (hS : Small l) :
    Calls Try.prog 8 #[.int .i64 s, .slice A l.length c, .int .i64 i] w fun e w' => e = .returned (.bool true) ∧ Below w.heap.size w w' := by
  by_cases h : s < 0 ∨ s > 512 ∨ (l.length : Int) > 40 ∨ i < 1 ∨ i > 16
  · exact fixed_off s A l.length c i w h
  · obtain ⟨k, rfl⟩ : ∃ k : Nat, i = (k : Int) + 1 := ⟨(i - 1).toNat, by omega⟩
    exact fixed_on s A l c k w (by omega) (by omega) (by omega) hC hS
end Go.Proofs.Ytohphkdemonlkaa.Tw
