/- TableCosts: the walk. -/
import Derived.Test.YtohphkdemonlkaaTAdds
namespace Go.Proofs.Ytohphkdemonlkaa.Tw
open Go.RowKit Go.Lib Go.Proofs.Ytohphkdemonlkaa.XQt Go.Proofs.YtohphkdemonlkaaW.PrintWords Go.Proofs.YtohphkdemonlkaaW.PrintLast Go.Proofs.YtohphkdemonlkaaW.PrintMore Go.Proofs.Ytohphkdemonlkaa.Ob

/-- A table among others: which blocks are its own. -/
structure TOn (w : World) (ok : Nat → Prop) (l : List S54) (s : Int) (g : Nat) : Prop where
  size : 0 ≤ s ∧ s ≤ 512
  room : total l ≤ s
  old : ∀ k, ok k → k < w.heap.size
  m : TK.M w 0 ok (l, s, total l) [.pointer (some ⟨g, 0, none⟩)]
section
variable {w w1 : World} {ok ok' : Nat → Prop} {l : List S54} {s : Int} {g : Nat}
theorem TOn.len (h : TOn w ok l s g) : l.length ≤ 16 := by
  have := total_nonneg l
  have := h.room
  have := h.size
  omega
theorem TOn.stay (h : TOn w ok l s g) (hs : Stay ok' w w1) (hd : ∀ k, ok k → ¬ ok' k) : TOn w1 ok l s g :=
  ⟨h.size, h.room, fun k hk => Nat.lt_of_lt_of_le (h.old k hk) hs.size, M_stay h.m hs hd⟩
theorem TOn.below_ (h : TOn w ok l s g) (hb : Below w.heap.size w w1) : TOn w1 ok l s g := h.stay (Stay.of_below (ok := fun _ => False) hb) (fun _ _ e => e)
theorem new_on (s : Int) (hs : 0 ≤ s ∧ s ≤ 512) (w : World) :
    Calls Try.prog 26 #[.int .i64 s] w fun e w' => ∃ g, e = .returned (.pointer (some ⟨g, 0, none⟩)) ∧ TOn w' (fun k => w.heap.size ≤ k ∧ k < w'.heap.size) [] s g ∧ Below w.heap.size w w' := by
  refine (new_calls s hs w 0 (Nat.zero_le _)).mono ?_
  rintro e w' ⟨g, rfl, hg, hm, hb2⟩
  exact ⟨g, rfl, ⟨hs, hs.1, fun k hk => hk.2, TK.M_mono (fun k hk => ⟨hk.1, hk.2.2.1⟩) (TK.M_bound hm)⟩, hb2⟩
theorem add_on (h : TOn w ok l s g) (x : S54) (hx : cost x ≤ 1000000000) :
    Calls Try.prog 27 #[.pointer (some ⟨g, 0, none⟩), fv x] w fun e w' => e = .returned (.tuple #[]) ∧ TOn w' (fun k => (ok k ∨ w.heap.size ≤ k) ∧ k < w'.heap.size) (addL s l x) s g ∧ Stay ok w w' := by
  obtain ⟨hs, hr, ho, hm⟩ := h
  refine (add_calls l s x w g 0 ok (Nat.zero_le _) (by omega) hx hs (fun k hk hn => by have := ho k hn; omega) hm).mono ?_
  rintro e w' ⟨rfl, hm', hst⟩
  exact ⟨rfl, ⟨hs, addL_room hs.1 x, fun k hk => hk.2, TK.M_mono (fun k hk => ⟨hk.1, hk.2.2.1⟩) (TK.M_bound hm')⟩, hst⟩
theorem all_on (h : TOn w ok l s g) :
    Calls Try.prog 28 #[.pointer (some ⟨g, 0, none⟩)] w fun e w' => ∃ A1 c1, e = .returned (.slice A1 l.length c1) ∧ Below w.heap.size w w' := by
  refine (all_calls (l, s, total l) w g _ _ (by have := h.len; show l.length ≤ _; omega) h.m).mono ?_
  rintro e w' ⟨A1, c1, rfl, hR, hb⟩
  exact ⟨A1, c1, rfl, hb⟩
theorem used_on (h : TOn w ok l s g) : Calls Try.prog 29 #[.pointer (some ⟨g, 0, none⟩)] w fun e w' => e = .returned (.int .i64 (total l)) ∧ Below w.heap.size w w' := used_calls (l, s, total l) w g _ _ h.m
end
theorem addL_nil (s : Int) (x : S54) : addL s [] x = if cost x ≤ s then [x] else [] := by
  unfold addL
  simp [shr]

set_option maxHeartbeats 1600000 in
theorem costs_off (f : S54) (w : World) (hf : f.f0.size ≤ reachBytes ∧ f.f1.size ≤ reachBytes) (hg : (f.f0.size : Int) + f.f1.size > 600) :
    Calls Try.prog 10 #[fv f] w fun e w' => e = .returned (.bool true) ∧ Below w.heap.size w w' := by
  have d1 : decide ((f.f0.size : Int) + f.f1.size > 600) = true := decide_eq_true hg
  have hw : wrap64 ((f.f0.size : Int) + f.f1.size) = (f.f0.size : Int) + f.f1.size := w64_in ((f.f0.size : Int) + f.f1.size) (by have := reachBytes_lt; omega)
  have HA := fun w => Aside0.mk (alive_calls w)
  clear hf hg
  unfold fv
  go_enter Try.func10, Try.ntmps10
  go_wp2_with (go_at_call 25; refine (HA _).out.mono ?_; rintro e w' ⟨rfl, hb⟩)
  go_ret
  exact ⟨rfl, below_step (below_alloc (Below.refl _ _) _) hb⟩
set_option maxHeartbeats 3200000 in
set_option maxRecDepth 20000 in
theorem costs_on (f : S54) (w : World) (hg : (f.f0.size : Int) + f.f1.size ≤ 600) :
    Calls Try.prog 10 #[fv f] w fun e w' => e = .returned (.bool true) ∧ Below w.heap.size w w' := by
  have d1 : decide ((f.f0.size : Int) + f.f1.size > 600) = false := decide_eq_false (by omega)
  have hw : wrap64 ((f.f0.size : Int) + f.f1.size) = (f.f0.size : Int) + f.f1.size := w64_in ((f.f0.size : Int) + f.f1.size) (by omega)
  obtain ⟨n, hn⟩ : ∃ n, n = (f.f0.size : Int) + f.f1.size + 32 := ⟨_, rfl⟩
  have hw2 : wrap64 ((f.f0.size : Int) + f.f1.size + 32) = n := (w64_in ((f.f0.size : Int) + f.f1.size + 32) (by omega)).trans hn.symm
  have HA := fun w => Aside0.mk (alive_calls w)
  have HK : Aside0 (cost f = n) := ⟨hn.symm⟩
  have HX : Aside0 (cost f ≤ 632 ∧ 32 ≤ n ∧ n ≤ 632) := ⟨by unfold cost; omega⟩
  have HCst : ∀ W, Aside0 (Calls Try.prog 30 #[.agg #[.string f.f0, .string f.f1]] W fun e w' => e = .returned (.int .i64 n) ∧ Below W.heap.size W w') := fun W => ⟨by have := cost_calls f (by have := HX.out; omega) W; rw [HK.out] at this; exact this⟩
  clear hg hn
  have hz0 : addL 0 [] f = [] := by rw [addL_nil, if_neg (by have := cost_pos f; omega)]
  unfold fv
  by_cases hc : n ≤ 512
  · have d2 : decide (n ≤ 512) = true := decide_eq_true hc
    have d3 : decide (n > 512) = false := decide_eq_false (by omega)
    have HM : Aside0 (0 ≤ n ∧ n ≤ 512) := ⟨by have := HX.out; omega⟩
    have hz1 : addL n [] f = [f] := by rw [addL_nil, if_pos (by have := HK.out; omega)]
    have HMN : Aside0 (min n 512 = n) := ⟨by have := HM.out; omega⟩
    have HZ := Aside0.mk (And.intro hz0 hz1)
    clear hc hz0 hz1
    go_enter Try.func10, Try.ntmps10
    go_wp2_with (first
      | (go_at_call 25; refine (HA _).out.mono ?_; rintro e w1 ⟨rfl, hb⟩; have HX1 := Aside0.mk ((hb.block w.heap.size (by rw [World.size_alloc]; omega)).trans (heap_alloc_new w (.cells #[.string f.f0, .string f.f1] 54))); have x0 : w1.cell? ⟨w.heap.size, 0, none⟩ = some (.string f.f0) := cells_of_heap HX1.out 0 _ rfl; have x1 : w1.cell? ⟨w.heap.size, 1, none⟩ = some (.string f.f1) := cells_of_heap HX1.out 1 _ rfl; have HB1 := Aside0.mk (below_step (below_alloc (Below.refl w.heap.size w) (.cells #[.string f.f0, .string f.f1] 54)) hb); clear hb)
      | (go_at_call 30; refine (HCst _).out.mono ?_; rintro e w2 ⟨rfl, hb2⟩; have HX2 := Aside0.mk ((hb2.block _ (blk_lt HX1.out)).trans HX1.out); have x0 : w2.cell? ⟨w.heap.size, 0, none⟩ = some (.string f.f0) := cells_of_heap HX2.out 0 _ rfl; have x1 : w2.cell? ⟨w.heap.size, 1, none⟩ = some (.string f.f1) := cells_of_heap HX2.out 1 _ rfl; have HB2 := Aside0.mk (below_step HB1.out hb2); clear hb2 HB1 HX1)
      | (go_at_call 26; rw [HMN.out]; refine (new_on n (by have := HM.out; omega) _).mono ?_; rintro e w3 ⟨g, rfl, ht3, hb3⟩; have HX3 := Aside0.mk ((hb3.block _ (blk_lt HX2.out)).trans HX2.out); have HB3 := Aside0.mk (below_step HB2.out hb3); have HT3 := Aside0.mk ht3; have HZ3 := Aside0.mk (And.intro hb3.size (And.intro (blk_lt HX2.out) HB2.out.size)); have x0 : w3.cell? ⟨w.heap.size, 0, none⟩ = some (.string f.f0) := cells_of_heap HX3.out 0 _ rfl; have x1 : w3.cell? ⟨w.heap.size, 1, none⟩ = some (.string f.f1) := cells_of_heap HX3.out 1 _ rfl; clear hb3 ht3 HB2 HX2)
      | (go_at_call 26; refine (new_on 0 (by decide) _).mono ?_; rintro e w4 ⟨gz, rfl, hz4, hb4⟩; have HX4 := Aside0.mk ((hb4.block _ (blk_lt HX3.out)).trans HX3.out); have HB4 := Aside0.mk (below_step HB3.out hb4); have HT4 := Aside0.mk (HT3.out.below_ hb4); have HU4 := Aside0.mk hz4; have HZ4 := Aside0.mk hb4.size; have x0 : w4.cell? ⟨w.heap.size, 0, none⟩ = some (.string f.f0) := cells_of_heap HX4.out 0 _ rfl; have x1 : w4.cell? ⟨w.heap.size, 1, none⟩ = some (.string f.f1) := cells_of_heap HX4.out 1 _ rfl; clear hb4 hz4 HB3 HX3 HT3)
      | (go_at_call 27; refine (add_on HT4.out f (by have := HX.out; omega)).mono ?_; rintro e w5 ⟨rfl, ht5, hs5⟩; rw [HZ.out.2] at ht5; have HX5 := Aside0.mk ((hs5.block _ (blk_lt HX4.out) (by have := HZ3.out; omega)).trans HX4.out); have HB5 := Aside0.mk (hs5.below HB4.out (fun k hk => by have := HZ3.out; omega)); have HT5 := Aside0.mk ht5; have HU5 := Aside0.mk (HU4.out.stay hs5 (fun k hk hk2 => by have := HZ3.out; omega)); have HZ5 := Aside0.mk hs5.size; have x0 : w5.cell? ⟨w.heap.size, 0, none⟩ = some (.string f.f0) := cells_of_heap HX5.out 0 _ rfl; have x1 : w5.cell? ⟨w.heap.size, 1, none⟩ = some (.string f.f1) := cells_of_heap HX5.out 1 _ rfl; clear hs5 ht5 HB4 HX4 HT4 HU4)
      | (go_at_call 27; refine (add_on HU5.out f (by have := HX.out; omega)).mono ?_; rintro e w6 ⟨rfl, hu6, hs6⟩; rw [HZ.out.1] at hu6; have HX6 := Aside0.mk ((hs6.block _ (blk_lt HX5.out) (by have := HZ3.out; omega)).trans HX5.out); have HB6 := Aside0.mk (hs6.below HB5.out (fun k hk => by have := HZ3.out; omega)); have HU6 := Aside0.mk hu6; have HT6 := Aside0.mk (HT5.out.stay hs6 (fun k hk hk2 => by have := HZ3.out; have := HZ4.out; omega)); have x0 : w6.cell? ⟨w.heap.size, 0, none⟩ = some (.string f.f0) := cells_of_heap HX6.out 0 _ rfl; have x1 : w6.cell? ⟨w.heap.size, 1, none⟩ = some (.string f.f1) := cells_of_heap HX6.out 1 _ rfl; clear hs6 hu6 HB5 HX5 HT5 HU5)
      | (go_at_call 28; refine (all_on HT6.out).mono ?_; rintro e w7 ⟨A7, c7, rfl, hb7⟩; have HB7 := Aside0.mk (below_step HB6.out hb7); have HU7 := Aside0.mk (HU6.out.below_ hb7); clear hb7 HB6 HT6 HU6)
      | (go_at_call 28; refine (all_on HU7.out).mono ?_; rintro e w8 ⟨A8, c8, rfl, hb8⟩; have HB8 := Aside0.mk (below_step HB7.out hb8); have HU8 := Aside0.mk (HU7.out.below_ hb8); clear hb8 HB7 HU7)
      | (go_at_call 29; refine (used_on HU8.out).mono ?_; rintro e w9 ⟨rfl, hb9⟩; have HB9 := Aside0.mk (below_step HB8.out hb9); clear hb9 HB8 HU8))
    go_ret
    exact ⟨rfl, HB9.out⟩
  · have d2 : decide (n ≤ 512) = false := decide_eq_false hc
    have d3 : decide (n > 512) = true := decide_eq_true (by omega)
    have HM : Aside0 (512 < n ∧ n ≤ 632) := ⟨by have := HX.out; omega⟩
    have hz1 : addL 512 [] f = [] := by rw [addL_nil, if_neg (by have := HK.out; omega)]
    have HMN : Aside0 (min n 512 = 512) := ⟨by have := HM.out; omega⟩
    have HZ := Aside0.mk (And.intro hz0 hz1)
    clear hc hz0 hz1
    go_enter Try.func10, Try.ntmps10
    go_wp2_with (first
      | (go_at_call 25; refine (HA _).out.mono ?_; rintro e w1 ⟨rfl, hb⟩; have HX1 := Aside0.mk ((hb.block w.heap.size (by rw [World.size_alloc]; omega)).trans (heap_alloc_new w (.cells #[.string f.f0, .string f.f1] 54))); have x0 : w1.cell? ⟨w.heap.size, 0, none⟩ = some (.string f.f0) := cells_of_heap HX1.out 0 _ rfl; have x1 : w1.cell? ⟨w.heap.size, 1, none⟩ = some (.string f.f1) := cells_of_heap HX1.out 1 _ rfl; have HB1 := Aside0.mk (below_step (below_alloc (Below.refl w.heap.size w) (.cells #[.string f.f0, .string f.f1] 54)) hb); clear hb)
      | (go_at_call 30; refine (HCst _).out.mono ?_; rintro e w2 ⟨rfl, hb2⟩; have HX2 := Aside0.mk ((hb2.block _ (blk_lt HX1.out)).trans HX1.out); have x0 : w2.cell? ⟨w.heap.size, 0, none⟩ = some (.string f.f0) := cells_of_heap HX2.out 0 _ rfl; have x1 : w2.cell? ⟨w.heap.size, 1, none⟩ = some (.string f.f1) := cells_of_heap HX2.out 1 _ rfl; have HB2 := Aside0.mk (below_step HB1.out hb2); clear hb2 HB1 HX1)
      | (go_at_call 26; rw [HMN.out]; refine (new_on 512 (by decide) _).mono ?_; rintro e w3 ⟨g, rfl, ht3, hb3⟩; have HX3 := Aside0.mk ((hb3.block _ (blk_lt HX2.out)).trans HX2.out); have HB3 := Aside0.mk (below_step HB2.out hb3); have HT3 := Aside0.mk ht3; have HZ3 := Aside0.mk (And.intro hb3.size (And.intro (blk_lt HX2.out) HB2.out.size)); have x0 : w3.cell? ⟨w.heap.size, 0, none⟩ = some (.string f.f0) := cells_of_heap HX3.out 0 _ rfl; have x1 : w3.cell? ⟨w.heap.size, 1, none⟩ = some (.string f.f1) := cells_of_heap HX3.out 1 _ rfl; clear hb3 ht3 HB2 HX2)
      | (go_at_call 26; refine (new_on 0 (by decide) _).mono ?_; rintro e w4 ⟨gz, rfl, hz4, hb4⟩; have HX4 := Aside0.mk ((hb4.block _ (blk_lt HX3.out)).trans HX3.out); have HB4 := Aside0.mk (below_step HB3.out hb4); have HT4 := Aside0.mk (HT3.out.below_ hb4); have HU4 := Aside0.mk hz4; have HZ4 := Aside0.mk hb4.size; have x0 : w4.cell? ⟨w.heap.size, 0, none⟩ = some (.string f.f0) := cells_of_heap HX4.out 0 _ rfl; have x1 : w4.cell? ⟨w.heap.size, 1, none⟩ = some (.string f.f1) := cells_of_heap HX4.out 1 _ rfl; clear hb4 hz4 HB3 HX3 HT3)
      | (go_at_call 27; refine (add_on HT4.out f (by have := HX.out; omega)).mono ?_; rintro e w5 ⟨rfl, ht5, hs5⟩; rw [HZ.out.2] at ht5; have HX5 := Aside0.mk ((hs5.block _ (blk_lt HX4.out) (by have := HZ3.out; omega)).trans HX4.out); have HB5 := Aside0.mk (hs5.below HB4.out (fun k hk => by have := HZ3.out; omega)); have HT5 := Aside0.mk ht5; have HU5 := Aside0.mk (HU4.out.stay hs5 (fun k hk hk2 => by have := HZ3.out; omega)); have HZ5 := Aside0.mk hs5.size; have x0 : w5.cell? ⟨w.heap.size, 0, none⟩ = some (.string f.f0) := cells_of_heap HX5.out 0 _ rfl; have x1 : w5.cell? ⟨w.heap.size, 1, none⟩ = some (.string f.f1) := cells_of_heap HX5.out 1 _ rfl; clear hs5 ht5 HB4 HX4 HT4 HU4)
      | (go_at_call 27; refine (add_on HU5.out f (by have := HX.out; omega)).mono ?_; rintro e w6 ⟨rfl, hu6, hs6⟩; rw [HZ.out.1] at hu6; have HX6 := Aside0.mk ((hs6.block _ (blk_lt HX5.out) (by have := HZ3.out; omega)).trans HX5.out); have HB6 := Aside0.mk (hs6.below HB5.out (fun k hk => by have := HZ3.out; omega)); have HU6 := Aside0.mk hu6; have HT6 := Aside0.mk (HT5.out.stay hs6 (fun k hk hk2 => by have := HZ3.out; have := HZ4.out; omega)); have x0 : w6.cell? ⟨w.heap.size, 0, none⟩ = some (.string f.f0) := cells_of_heap HX6.out 0 _ rfl; have x1 : w6.cell? ⟨w.heap.size, 1, none⟩ = some (.string f.f1) := cells_of_heap HX6.out 1 _ rfl; clear hs6 hu6 HB5 HX5 HT5 HU5)
      | (go_at_call 28; refine (all_on HT6.out).mono ?_; rintro e w7 ⟨A7, c7, rfl, hb7⟩; have HB7 := Aside0.mk (below_step HB6.out hb7); have HU7 := Aside0.mk (HU6.out.below_ hb7); clear hb7 HB6 HT6 HU6)
      | (go_at_call 28; refine (all_on HU7.out).mono ?_; rintro e w8 ⟨A8, c8, rfl, hb8⟩; have HB8 := Aside0.mk (below_step HB7.out hb8); have HU8 := Aside0.mk (HU7.out.below_ hb8); clear hb8 HB7 HU7)
      | (go_at_call 29; refine (used_on HU8.out).mono ?_; rintro e w9 ⟨rfl, hb9⟩; have HB9 := Aside0.mk (below_step HB8.out hb9); clear hb9 HB8 HU8))
    go_ret
    exact ⟨rfl, HB9.out⟩
theorem costs_calls (f : S54) (w : World) (hf : f.f0.size ≤ reachBytes ∧ f.f1.size ≤ reachBytes) :
    Calls Try.prog 10 #[fv f] w fun e w' => e = .returned (.bool true) ∧ Below w.heap.size w w' := by
  by_cases h : (f.f0.size : Int) + f.f1.size ≤ 600
  · exact costs_on f w h
  · exact costs_off f w hf (by omega)
end Go.Proofs.Ytohphkdemonlkaa.Tw
