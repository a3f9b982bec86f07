/- Merged: TAlive TAdds TCosts TGreat TOx TOpen. -/
import Derived.Test.YtohphkdemonlkaaTOne
import Derived.Deep.SlicePairs
import Derived.SizedLaws
import Derived.Lib.SmallJoins
/- A first call of the table, whose answer is known. -/
namespace Go.Proofs.Ytohphkdemonlkaa.Tw
open Go.RowKit Go.Lib Go.Proofs.Ytohphkdemonlkaa.XQt Go.Proofs.YtohphkdemonlkaaW.PrintWords Go.Proofs.YtohphkdemonlkaaW.PrintLast Go.Proofs.YtohphkdemonlkaaW.PrintMore Go.Proofs.Ytohphkdemonlkaa.Ob
def fxy : S54 := ⟨⟨#[120]⟩, ⟨#[121]⟩⟩
def fget : S54 := ⟨⟨#[58, 109, 101, 116, 104, 111, 100]⟩, ⟨#[71, 69, 84]⟩⟩
theorem al_add : addL 100 [] fxy = [fxy] := rfl
theorem al_at : rd_T54 (wholeL [fxy]) 16 = fxy := rfl
theorem al_find : findN (wholeL [fxy]) fget = 2 := by kernel_rfl
theorem al_findB : findB (wholeL [fxy]) fget = true := by kernel_rfl
theorem al_total : total [fxy] = 34 := rfl
section
variable {w0 w : World} {g : Nat}
theorem al_1 (h : TOwn w0 w [] 100 g) : Calls Try.prog 27 #[.pointer (some ⟨g, 0, none⟩), .agg #[.string ⟨#[120]⟩, .string ⟨#[121]⟩]] w fun e w' => e = .returned (.tuple #[]) ∧ TOwn w0 w' [fxy] 100 g := by
  have := add_own h fxy (by decide)
  rw [al_add] at this
  exact this
theorem al_2 (h : TOwn w0 w [fxy] 100 g) : Calls Try.prog 31 #[.pointer (some ⟨g, 0, none⟩), .int .i64 17] w fun e w' => e = .returned (.tuple #[.agg #[.string ⟨#[120]⟩, .string ⟨#[121]⟩], .bool true]) ∧ TOwn w0 w' [fxy] 100 g := by
  refine (at_own h 16 (by decide)).mono ?_
  rintro e w' ⟨rfl, hb⟩
  exact ⟨rfl, h.below_ hb⟩
theorem al_3 (h : TOwn w0 w [fxy] 100 g) : Calls Try.prog 32 #[.pointer (some ⟨g, 0, none⟩), .agg #[.string ⟨#[58, 109, 101, 116, 104, 111, 100]⟩, .string ⟨#[71, 69, 84]⟩]] w fun e w' => e = .returned (.tuple #[.int .i64 2, .bool true]) ∧ Below w.heap.size w w' := by
  have := find_own h fget
  rw [al_find, al_findB] at this
  exact this
end
set_option maxHeartbeats 1600000 in
theorem alive_calls (w : World) : Calls Try.prog 25 #[] w fun e w' => e = .returned (.bool true) ∧ Below w.heap.size w w' := by
  have HN := Aside0.mk (new_own (Below.refl w.heap.size w) 100 (by decide))
  go_enter Try.func25, Try.ntmps25
  go_wp2_with (first
    | (go_at_call 26; refine HN.out.mono ?_; rintro e w1 ⟨g, rfl, hs1⟩; have HS1 := Aside0.mk hs1; clear hs1)
    | (go_at_call 27; refine (al_1 HS1.out).mono ?_; rintro e w2 ⟨rfl, hs2⟩; have HS2 := Aside0.mk hs2; clear HS1 hs2)
    | (go_at_call 31; refine (al_2 HS2.out).mono ?_; rintro e w3 ⟨rfl, hs3⟩; have HS3 := Aside0.mk hs3; clear HS2 hs3)
    | (go_at_call 32; refine (al_3 (HS3.out.below_ (below_alloc (Below.refl _ _) (.cells #[.string ⟨#[120]⟩, .string ⟨#[121]⟩] 54)))).mono ?_; rintro e w4 ⟨rfl, hb4⟩; have HX := Aside0.mk ((hb4.block w3.heap.size (by rw [World.size_alloc]; omega)).trans (heap_alloc_new w3 _)); have x0 := cells_of_heap HX.out 0 _ rfl; have x1 := cells_of_heap HX.out 1 _ rfl; have HS4 := Aside0.mk ((HS3.out.below_ (below_alloc (Below.refl _ _) (.cells #[.string ⟨#[120]⟩, .string ⟨#[121]⟩] 54))).below_ hb4); clear HS3 hb4)
    | (go_at_call 29; refine (used_own HS4.out).mono ?_; rintro e w5 ⟨rfl, hb5⟩; rw [al_total]; have HX5 := Aside0.mk ((hb5.block _ (blk_lt HX.out)).trans HX.out); have y0 := cells_of_heap HX5.out 0 _ rfl; have y1 := cells_of_heap HX5.out 1 _ rfl; have HS5 := Aside0.mk (HS4.out.below_ hb5); clear HS4 hb5 HX)
    | (go_at_call 34; refine (size_own HS5.out).mono ?_; rintro e w6 ⟨rfl, hb6⟩; have HX6 := Aside0.mk ((hb6.block _ (blk_lt HX5.out)).trans HX5.out); have z0 := cells_of_heap HX6.out 0 _ rfl; have z1 := cells_of_heap HX6.out 1 _ rfl; have HS6 := Aside0.mk (HS5.out.below_ hb6); clear HS5 hb6 HX5)
    | (go_at_call 30; refine (cost_calls fxy (by decide) _).mono ?_; rintro e w7 ⟨rfl, hb7⟩; rw [show cost fxy = 34 from rfl]; have HS7 := Aside0.mk (HS6.out.below_ hb7); clear HS6 hb7))
  go_ret
  exact ⟨rfl, HS7.out.below⟩
end Go.Proofs.Ytohphkdemonlkaa.Tw
/- What a table has, behind many; what the laws' loops ask. -/
namespace Go.Proofs.Ytohphkdemonlkaa.Tw
open Go.RowKit Go.Lib Go.Proofs.Ytohphkdemonlkaa.XQt Go.Proofs.YtohphkdemonlkaaW.PrintWords Go.Proofs.YtohphkdemonlkaaW.PrintLast Go.Proofs.YtohphkdemonlkaaW.PrintMore Go.Proofs.Ytohphkdemonlkaa.Ob
def adds (s : Int) (l : List S54) : List S54 := l.foldl (addL s) []
theorem adds_snoc (s : Int) (l : List S54) (n : Nat) (hn : n < l.length) : adds s (l.take (n + 1)) = addL s (adds s (l.take n)) l[n] := by
  rw [List.take_succ_eq_append_getElem hn]
  unfold adds
  rw [List.foldl_append]
  rfl
/-- What every field that came in has. -/
def Small (l : List S54) : Prop := ∀ y ∈ l, y.f0.size ≤ reachBytes ∧ y.f1.size ≤ reachBytes
theorem small_at {l : List S54} (h : Small l) (n : Nat) (hn : n < l.length) : (l[n].f0.size : Int) + l[n].f1.size ≤ 281474976710656 := by
  have := h l[n] (List.getElem_mem hn)
  have h2 := reachBytes_lt
  omega
theorem rd_in (l : List S54) (n : Nat) (hn : n < l.length) : rd_T54 l (n : Int) = l[n] := by simp [rd_T54, hn]
/-- A field of a row that came in, as the loops read it. -/
theorem elem_at {w0 w : World} {A : Option Addr} {l : List S54} (hC : k54.C w0 A l.length l) (hb : Below w0.heap.size w0 w) (n : Nat) (hn : n < l.length) :
    ∃ ad, A = some ad ∧ w.cell? (ad.add (n * 2)) = some (.string l[n].f0) ∧ w.cell? ⟨(ad.add (n * 2)).block, (ad.add (n * 2)).off + 1, none⟩ = some (.string l[n].f1) := by
  obtain ⟨ad, e, h0, h1⟩ := at_T54 (Kd.C_below hC hb) (n : Int) (by omega) (by omega)
  rw [Int.toNat_natCast, rd_in l n hn] at h0 h1
  exact ⟨ad, e, h0, h1⟩
end Go.Proofs.Ytohphkdemonlkaa.Tw
/- TableCosts: the walk. -/
namespace Go.Proofs.Ytohphkdemonlkaa.Tw
open Go.RowKit Go.Lib Go.Proofs.Ytohphkdemonlkaa.XQt Go.Proofs.YtohphkdemonlkaaW.PrintWords Go.Proofs.YtohphkdemonlkaaW.PrintLast Go.Proofs.YtohphkdemonlkaaW.PrintMore Go.Proofs.Ytohphkdemonlkaa.Ob

/-- A table among others: which blocks are its own. -/
structure TOn (w : World) (ok : Nat → Prop) (l : List S54) (s : Int) (g : Nat) : Prop where
  size : 0 ≤ s ∧ s ≤ 512
  room : total l ≤ s
  old : ∀ k, ok k → k < w.heap.size
  m : TK.M w 0 ok (l, s, total l) [.pointer (some ⟨g, 0, none⟩)]
section
variable {w w1 : World} {ok ok' : Nat → Prop} {l : List S54} {s : Int} {g : Nat}
theorem TOn.len (h : TOn w ok l s g) : l.length ≤ 16 := by
  have := total_nonneg l
  have := h.room
  have := h.size
  omega
theorem TOn.stay (h : TOn w ok l s g) (hs : Stay ok' w w1) (hd : ∀ k, ok k → ¬ ok' k) : TOn w1 ok l s g :=
  ⟨h.size, h.room, fun k hk => Nat.lt_of_lt_of_le (h.old k hk) hs.size, M_stay h.m hs hd⟩
theorem TOn.below_ (h : TOn w ok l s g) (hb : Below w.heap.size w w1) : TOn w1 ok l s g := h.stay (Stay.of_below (ok := fun _ => False) hb) (fun _ _ e => e)
theorem new_on (s : Int) (hs : 0 ≤ s ∧ s ≤ 512) (w : World) :
    Calls Try.prog 26 #[.int .i64 s] w fun e w' => ∃ g, e = .returned (.pointer (some ⟨g, 0, none⟩)) ∧ TOn w' (fun k => w.heap.size ≤ k ∧ k < w'.heap.size) [] s g ∧ Below w.heap.size w w' := by
  refine (new_calls s hs w 0 (Nat.zero_le _)).mono ?_
  rintro e w' ⟨g, rfl, hg, hm, hb2⟩
  exact ⟨g, rfl, ⟨hs, hs.1, fun k hk => hk.2, TK.M_mono (fun k hk => ⟨hk.1, hk.2.2.1⟩) (TK.M_bound hm)⟩, hb2⟩
theorem add_on (h : TOn w ok l s g) (x : S54) (hx : cost x ≤ 1000000000) :
    Calls Try.prog 27 #[.pointer (some ⟨g, 0, none⟩), fv x] w fun e w' => e = .returned (.tuple #[]) ∧ TOn w' (fun k => (ok k ∨ w.heap.size ≤ k) ∧ k < w'.heap.size) (addL s l x) s g ∧ Stay ok w w' := by
  obtain ⟨hs, hr, ho, hm⟩ := h
  refine (add_calls l s x w g 0 ok (Nat.zero_le _) (by omega) hx hs (fun k hk hn => by have := ho k hn; omega) hm).mono ?_
  rintro e w' ⟨rfl, hm', hst⟩
  exact ⟨rfl, ⟨hs, addL_room hs.1 x, fun k hk => hk.2, TK.M_mono (fun k hk => ⟨hk.1, hk.2.2.1⟩) (TK.M_bound hm')⟩, hst⟩
theorem all_on (h : TOn w ok l s g) :
    Calls Try.prog 28 #[.pointer (some ⟨g, 0, none⟩)] w fun e w' => ∃ A1 c1, e = .returned (.slice A1 l.length c1) ∧ Below w.heap.size w w' := by
  refine (all_calls (l, s, total l) w g _ _ (by have := h.len; show l.length ≤ _; omega) h.m).mono ?_
  rintro e w' ⟨A1, c1, rfl, hR, hb⟩
  exact ⟨A1, c1, rfl, hb⟩
theorem used_on (h : TOn w ok l s g) : Calls Try.prog 29 #[.pointer (some ⟨g, 0, none⟩)] w fun e w' => e = .returned (.int .i64 (total l)) ∧ Below w.heap.size w w' := used_calls (l, s, total l) w g _ _ h.m
end
theorem addL_nil (s : Int) (x : S54) : addL s [] x = if cost x ≤ s then [x] else [] := by
  unfold addL
  simp [shr]

set_option maxHeartbeats 1600000 in
theorem costs_off (f : S54) (w : World) (hf : f.f0.size ≤ reachBytes ∧ f.f1.size ≤ reachBytes) (hg : (f.f0.size : Int) + f.f1.size > 600) :
    Calls Try.prog 10 #[fv f] w fun e w' => e = .returned (.bool true) ∧ Below w.heap.size w w' := by
  have d1 : decide ((f.f0.size : Int) + f.f1.size > 600) = true := decide_eq_true hg
  have hw : wrap64 ((f.f0.size : Int) + f.f1.size) = (f.f0.size : Int) + f.f1.size := w64_in ((f.f0.size : Int) + f.f1.size) (by have := reachBytes_lt; omega)
  have HA := fun w => Aside0.mk (alive_calls w)
  clear hf hg
  unfold fv
  go_enter Try.func10, Try.ntmps10
  go_wp2_with (go_at_call 25; refine (HA _).out.mono ?_; rintro e w' ⟨rfl, hb⟩)
  go_ret
  exact ⟨rfl, below_step (below_alloc (Below.refl _ _) _) hb⟩
set_option maxHeartbeats 3200000 in
set_option maxRecDepth 20000 in
theorem costs_on (f : S54) (w : World) (hg : (f.f0.size : Int) + f.f1.size ≤ 600) :
    Calls Try.prog 10 #[fv f] w fun e w' => e = .returned (.bool true) ∧ Below w.heap.size w w' := by
  have d1 : decide ((f.f0.size : Int) + f.f1.size > 600) = false := decide_eq_false (by omega)
  have hw : wrap64 ((f.f0.size : Int) + f.f1.size) = (f.f0.size : Int) + f.f1.size := w64_in ((f.f0.size : Int) + f.f1.size) (by omega)
  obtain ⟨n, hn⟩ : ∃ n, n = (f.f0.size : Int) + f.f1.size + 32 := ⟨_, rfl⟩
  have hw2 : wrap64 ((f.f0.size : Int) + f.f1.size + 32) = n := (w64_in ((f.f0.size : Int) + f.f1.size + 32) (by omega)).trans hn.symm
  have HA := fun w => Aside0.mk (alive_calls w)
  have HK : Aside0 (cost f = n) := ⟨hn.symm⟩
  have HX : Aside0 (cost f ≤ 632 ∧ 32 ≤ n ∧ n ≤ 632) := ⟨by unfold cost; omega⟩
  have HCst : ∀ W, Aside0 (Calls Try.prog 30 #[.agg #[.string f.f0, .string f.f1]] W fun e w' => e = .returned (.int .i64 n) ∧ Below W.heap.size W w') := fun W => ⟨by have := cost_calls f (by have := HX.out; omega) W; rw [HK.out] at this; exact this⟩
  clear hg hn
  have hz0 : addL 0 [] f = [] := by rw [addL_nil, if_neg (by have := cost_pos f; omega)]
  unfold fv
  by_cases hc : n ≤ 512
  · have d2 : decide (n ≤ 512) = true := decide_eq_true hc
    have d3 : decide (n > 512) = false := decide_eq_false (by omega)
    have HM : Aside0 (0 ≤ n ∧ n ≤ 512) := ⟨by have := HX.out; omega⟩
    have hz1 : addL n [] f = [f] := by rw [addL_nil, if_pos (by have := HK.out; omega)]
    have HMN : Aside0 (min n 512 = n) := ⟨by have := HM.out; omega⟩
    have HZ := Aside0.mk (And.intro hz0 hz1)
    clear hc hz0 hz1
    go_enter Try.func10, Try.ntmps10
    go_wp2_with (first
      | (go_at_call 25; refine (HA _).out.mono ?_; rintro e w1 ⟨rfl, hb⟩; have HX1 := Aside0.mk ((hb.block w.heap.size (by rw [World.size_alloc]; omega)).trans (heap_alloc_new w (.cells #[.string f.f0, .string f.f1] 54))); have x0 : w1.cell? ⟨w.heap.size, 0, none⟩ = some (.string f.f0) := cells_of_heap HX1.out 0 _ rfl; have x1 : w1.cell? ⟨w.heap.size, 1, none⟩ = some (.string f.f1) := cells_of_heap HX1.out 1 _ rfl; have HB1 := Aside0.mk (below_step (below_alloc (Below.refl w.heap.size w) (.cells #[.string f.f0, .string f.f1] 54)) hb); clear hb)
      | (go_at_call 30; refine (HCst _).out.mono ?_; rintro e w2 ⟨rfl, hb2⟩; have HX2 := Aside0.mk ((hb2.block _ (blk_lt HX1.out)).trans HX1.out); have x0 : w2.cell? ⟨w.heap.size, 0, none⟩ = some (.string f.f0) := cells_of_heap HX2.out 0 _ rfl; have x1 : w2.cell? ⟨w.heap.size, 1, none⟩ = some (.string f.f1) := cells_of_heap HX2.out 1 _ rfl; have HB2 := Aside0.mk (below_step HB1.out hb2); clear hb2 HB1 HX1)
      | (go_at_call 26; rw [HMN.out]; refine (new_on n (by have := HM.out; omega) _).mono ?_; rintro e w3 ⟨g, rfl, ht3, hb3⟩; have HX3 := Aside0.mk ((hb3.block _ (blk_lt HX2.out)).trans HX2.out); have HB3 := Aside0.mk (below_step HB2.out hb3); have HT3 := Aside0.mk ht3; have HZ3 := Aside0.mk (And.intro hb3.size (And.intro (blk_lt HX2.out) HB2.out.size)); have x0 : w3.cell? ⟨w.heap.size, 0, none⟩ = some (.string f.f0) := cells_of_heap HX3.out 0 _ rfl; have x1 : w3.cell? ⟨w.heap.size, 1, none⟩ = some (.string f.f1) := cells_of_heap HX3.out 1 _ rfl; clear hb3 ht3 HB2 HX2)
      | (go_at_call 26; refine (new_on 0 (by decide) _).mono ?_; rintro e w4 ⟨gz, rfl, hz4, hb4⟩; have HX4 := Aside0.mk ((hb4.block _ (blk_lt HX3.out)).trans HX3.out); have HB4 := Aside0.mk (below_step HB3.out hb4); have HT4 := Aside0.mk (HT3.out.below_ hb4); have HU4 := Aside0.mk hz4; have HZ4 := Aside0.mk hb4.size; have x0 : w4.cell? ⟨w.heap.size, 0, none⟩ = some (.string f.f0) := cells_of_heap HX4.out 0 _ rfl; have x1 : w4.cell? ⟨w.heap.size, 1, none⟩ = some (.string f.f1) := cells_of_heap HX4.out 1 _ rfl; clear hb4 hz4 HB3 HX3 HT3)
      | (go_at_call 27; refine (add_on HT4.out f (by have := HX.out; omega)).mono ?_; rintro e w5 ⟨rfl, ht5, hs5⟩; rw [HZ.out.2] at ht5; have HX5 := Aside0.mk ((hs5.block _ (blk_lt HX4.out) (by have := HZ3.out; omega)).trans HX4.out); have HB5 := Aside0.mk (hs5.below HB4.out (fun k hk => by have := HZ3.out; omega)); have HT5 := Aside0.mk ht5; have HU5 := Aside0.mk (HU4.out.stay hs5 (fun k hk hk2 => by have := HZ3.out; omega)); have HZ5 := Aside0.mk hs5.size; have x0 : w5.cell? ⟨w.heap.size, 0, none⟩ = some (.string f.f0) := cells_of_heap HX5.out 0 _ rfl; have x1 : w5.cell? ⟨w.heap.size, 1, none⟩ = some (.string f.f1) := cells_of_heap HX5.out 1 _ rfl; clear hs5 ht5 HB4 HX4 HT4 HU4)
      | (go_at_call 27; refine (add_on HU5.out f (by have := HX.out; omega)).mono ?_; rintro e w6 ⟨rfl, hu6, hs6⟩; rw [HZ.out.1] at hu6; have HX6 := Aside0.mk ((hs6.block _ (blk_lt HX5.out) (by have := HZ3.out; omega)).trans HX5.out); have HB6 := Aside0.mk (hs6.below HB5.out (fun k hk => by have := HZ3.out; omega)); have HU6 := Aside0.mk hu6; have HT6 := Aside0.mk (HT5.out.stay hs6 (fun k hk hk2 => by have := HZ3.out; have := HZ4.out; omega)); have x0 : w6.cell? ⟨w.heap.size, 0, none⟩ = some (.string f.f0) := cells_of_heap HX6.out 0 _ rfl; have x1 : w6.cell? ⟨w.heap.size, 1, none⟩ = some (.string f.f1) := cells_of_heap HX6.out 1 _ rfl; clear hs6 hu6 HB5 HX5 HT5 HU5)
      | (go_at_call 28; refine (all_on HT6.out).mono ?_; rintro e w7 ⟨A7, c7, rfl, hb7⟩; have HB7 := Aside0.mk (below_step HB6.out hb7); have HU7 := Aside0.mk (HU6.out.below_ hb7); clear hb7 HB6 HT6 HU6)
      | (go_at_call 28; refine (all_on HU7.out).mono ?_; rintro e w8 ⟨A8, c8, rfl, hb8⟩; have HB8 := Aside0.mk (below_step HB7.out hb8); have HU8 := Aside0.mk (HU7.out.below_ hb8); clear hb8 HB7 HU7)
      | (go_at_call 29; refine (used_on HU8.out).mono ?_; rintro e w9 ⟨rfl, hb9⟩; have HB9 := Aside0.mk (below_step HB8.out hb9); clear hb9 HB8 HU8))
    go_ret
    exact ⟨rfl, HB9.out⟩
  · have d2 : decide (n ≤ 512) = false := decide_eq_false hc
    have d3 : decide (n > 512) = true := decide_eq_true (by omega)
    have HM : Aside0 (512 < n ∧ n ≤ 632) := ⟨by have := HX.out; omega⟩
    have hz1 : addL 512 [] f = [] := by rw [addL_nil, if_neg (by have := HK.out; omega)]
    have HMN : Aside0 (min n 512 = 512) := ⟨by have := HM.out; omega⟩
    have HZ := Aside0.mk (And.intro hz0 hz1)
    clear hc hz0 hz1
    go_enter Try.func10, Try.ntmps10
    go_wp2_with (first
      | (go_at_call 25; refine (HA _).out.mono ?_; rintro e w1 ⟨rfl, hb⟩; have HX1 := Aside0.mk ((hb.block w.heap.size (by rw [World.size_alloc]; omega)).trans (heap_alloc_new w (.cells #[.string f.f0, .string f.f1] 54))); have x0 : w1.cell? ⟨w.heap.size, 0, none⟩ = some (.string f.f0) := cells_of_heap HX1.out 0 _ rfl; have x1 : w1.cell? ⟨w.heap.size, 1, none⟩ = some (.string f.f1) := cells_of_heap HX1.out 1 _ rfl; have HB1 := Aside0.mk (below_step (below_alloc (Below.refl w.heap.size w) (.cells #[.string f.f0, .string f.f1] 54)) hb); clear hb)
      | (go_at_call 30; refine (HCst _).out.mono ?_; rintro e w2 ⟨rfl, hb2⟩; have HX2 := Aside0.mk ((hb2.block _ (blk_lt HX1.out)).trans HX1.out); have x0 : w2.cell? ⟨w.heap.size, 0, none⟩ = some (.string f.f0) := cells_of_heap HX2.out 0 _ rfl; have x1 : w2.cell? ⟨w.heap.size, 1, none⟩ = some (.string f.f1) := cells_of_heap HX2.out 1 _ rfl; have HB2 := Aside0.mk (below_step HB1.out hb2); clear hb2 HB1 HX1)
      | (go_at_call 26; rw [HMN.out]; refine (new_on 512 (by decide) _).mono ?_; rintro e w3 ⟨g, rfl, ht3, hb3⟩; have HX3 := Aside0.mk ((hb3.block _ (blk_lt HX2.out)).trans HX2.out); have HB3 := Aside0.mk (below_step HB2.out hb3); have HT3 := Aside0.mk ht3; have HZ3 := Aside0.mk (And.intro hb3.size (And.intro (blk_lt HX2.out) HB2.out.size)); have x0 : w3.cell? ⟨w.heap.size, 0, none⟩ = some (.string f.f0) := cells_of_heap HX3.out 0 _ rfl; have x1 : w3.cell? ⟨w.heap.size, 1, none⟩ = some (.string f.f1) := cells_of_heap HX3.out 1 _ rfl; clear hb3 ht3 HB2 HX2)
      | (go_at_call 26; refine (new_on 0 (by decide) _).mono ?_; rintro e w4 ⟨gz, rfl, hz4, hb4⟩; have HX4 := Aside0.mk ((hb4.block _ (blk_lt HX3.out)).trans HX3.out); have HB4 := Aside0.mk (below_step HB3.out hb4); have HT4 := Aside0.mk (HT3.out.below_ hb4); have HU4 := Aside0.mk hz4; have HZ4 := Aside0.mk hb4.size; have x0 : w4.cell? ⟨w.heap.size, 0, none⟩ = some (.string f.f0) := cells_of_heap HX4.out 0 _ rfl; have x1 : w4.cell? ⟨w.heap.size, 1, none⟩ = some (.string f.f1) := cells_of_heap HX4.out 1 _ rfl; clear hb4 hz4 HB3 HX3 HT3)
      | (go_at_call 27; refine (add_on HT4.out f (by have := HX.out; omega)).mono ?_; rintro e w5 ⟨rfl, ht5, hs5⟩; rw [HZ.out.2] at ht5; have HX5 := Aside0.mk ((hs5.block _ (blk_lt HX4.out) (by have := HZ3.out; omega)).trans HX4.out); have HB5 := Aside0.mk (hs5.below HB4.out (fun k hk => by have := HZ3.out; omega)); have HT5 := Aside0.mk ht5; have HU5 := Aside0.mk (HU4.out.stay hs5 (fun k hk hk2 => by have := HZ3.out; omega)); have HZ5 := Aside0.mk hs5.size; have x0 : w5.cell? ⟨w.heap.size, 0, none⟩ = some (.string f.f0) := cells_of_heap HX5.out 0 _ rfl; have x1 : w5.cell? ⟨w.heap.size, 1, none⟩ = some (.string f.f1) := cells_of_heap HX5.out 1 _ rfl; clear hs5 ht5 HB4 HX4 HT4 HU4)
      | (go_at_call 27; refine (add_on HU5.out f (by have := HX.out; omega)).mono ?_; rintro e w6 ⟨rfl, hu6, hs6⟩; rw [HZ.out.1] at hu6; have HX6 := Aside0.mk ((hs6.block _ (blk_lt HX5.out) (by have := HZ3.out; omega)).trans HX5.out); have HB6 := Aside0.mk (hs6.below HB5.out (fun k hk => by have := HZ3.out; omega)); have HU6 := Aside0.mk hu6; have HT6 := Aside0.mk (HT5.out.stay hs6 (fun k hk hk2 => by have := HZ3.out; have := HZ4.out; omega)); have x0 : w6.cell? ⟨w.heap.size, 0, none⟩ = some (.string f.f0) := cells_of_heap HX6.out 0 _ rfl; have x1 : w6.cell? ⟨w.heap.size, 1, none⟩ = some (.string f.f1) := cells_of_heap HX6.out 1 _ rfl; clear hs6 hu6 HB5 HX5 HT5 HU5)
      | (go_at_call 28; refine (all_on HT6.out).mono ?_; rintro e w7 ⟨A7, c7, rfl, hb7⟩; have HB7 := Aside0.mk (below_step HB6.out hb7); have HU7 := Aside0.mk (HU6.out.below_ hb7); clear hb7 HB6 HT6 HU6)
      | (go_at_call 28; refine (all_on HU7.out).mono ?_; rintro e w8 ⟨A8, c8, rfl, hb8⟩; have HB8 := Aside0.mk (below_step HB7.out hb8); have HU8 := Aside0.mk (HU7.out.below_ hb8); clear hb8 HB7 HU7)
      | (go_at_call 29; refine (used_on HU8.out).mono ?_; rintro e w9 ⟨rfl, hb9⟩; have HB9 := Aside0.mk (below_step HB8.out hb9); clear hb9 HB8 HU8))
    go_ret
    exact ⟨rfl, HB9.out⟩
theorem costs_calls (f : S54) (w : World) (hf : f.f0.size ≤ reachBytes ∧ f.f1.size ≤ reachBytes) :
    Calls Try.prog 10 #[fv f] w fun e w' => e = .returned (.bool true) ∧ Below w.heap.size w w' := by
  by_cases h : (f.f0.size : Int) + f.f1.size ≤ 600
  · exact costs_on f w h
  · exact costs_off f w hf (by omega)
end Go.Proofs.Ytohphkdemonlkaa.Tw
/- TableGreat: the walk. -/
namespace Go.Proofs.Ytohphkdemonlkaa.Tw
open Go.RowKit Go.Lib Go.Proofs.Ytohphkdemonlkaa.XQt Go.Proofs.YtohphkdemonlkaaW.PrintWords Go.Proofs.YtohphkdemonlkaaW.PrintLast Go.Proofs.YtohphkdemonlkaaW.PrintMore Go.Proofs.Ytohphkdemonlkaa.Ob

theorem addL_empty (s : Int) (l : List S54) (x : S54) (h : ¬ cost x ≤ s) : addL s l x = [] := by
  have key : ∀ n, shr (s - cost x) l n = 0 := by
    intro n
    induction n with
    | zero => rfl
    | succ n ih =>
      unfold shr
      rw [if_pos (by have := total_nonneg (l.take (n + 1)); omega), ih]
  unfold addL
  rw [if_neg h, key, List.take_zero]
theorem addL_some (s : Int) (l : List S54) (x : S54) (h : cost x ≤ s) : 1 ≤ (addL s l x).length := by
  unfold addL
  rw [if_pos h]
  simp
theorem info5 : (Try.prog.info? 5).map (fun i => (i.zero, i.size, i.bytes)) = some (some (.int .u8 0), 1, 1) := by kernel_rfl
theorem zeros_reads (w : World) (m : Nat) (hm : m ≤ 9223372036854775807) : ReadsInt (w.alloc (.cells (madeCells #[.int .u8 0] m) 5)) .u8 (some ⟨w.heap.size, 0, none⟩) m (List.replicate m 0) := by
  refine ⟨by simp, hm, fun _ => ⟨_, rfl, fun j hj => ?_⟩⟩
  rw [Addr.add_lit, Nat.zero_add]
  refine cells_of_heap (heap_alloc_new w _) j _ ?_
  simp [madeCells, hj, Nat.mod_one]
theorem strOfNums_size (xs : List Int) : (strOfNums xs).size = xs.length := by
  simp [strOfNums, ByteArray.size]
set_option maxHeartbeats 1600000 in
theorem great_off (A : Option Addr) (n c : Nat) (k : Int) (w : World) (hg : (n : Int) > 10 ∨ k < 0 ∨ k > 600) :
    Calls Try.prog 11 #[.slice A n c, .int .i64 k] w fun e w' => e = .returned (.bool true) ∧ Below w.heap.size w w' := by
  have HA := Aside0.mk (alive_calls w)
  by_cases c2 : (n : Int) > 10
  · have d2 : decide ((n : Int) > 10) = true := decide_eq_true c2
    have d2a : decide (n > 10) = true := decide_eq_true (by omega)
    clear hg c2
    go_enter Try.func11, Try.ntmps11
    go_wp2_with (go_at_call 25; refine HA.out.mono ?_; rintro e w' ⟨rfl, hb⟩)
    go_ret
    exact ⟨rfl, hb⟩
  · have d2 : decide ((n : Int) > 10) = false := decide_eq_false c2
    have d2a : decide (n > 10) = false := decide_eq_false (by omega)
    by_cases c3 : k < 0
    · have d3 : decide (k < 0) = true := decide_eq_true c3
      clear hg c2 c3
      go_enter Try.func11, Try.ntmps11
      go_wp2_with (go_at_call 25; refine HA.out.mono ?_; rintro e w' ⟨rfl, hb⟩)
      go_ret
      exact ⟨rfl, hb⟩
    · have d3 : decide (k < 0) = false := decide_eq_false c3
      have d4 : decide (k > 600) = true := decide_eq_true (by omega)
      clear hg c2 c3
      go_enter Try.func11, Try.ntmps11
      go_wp2_with (go_at_call 25; refine HA.out.mono ?_; rintro e w' ⟨rfl, hb⟩)
      go_ret
      exact ⟨rfl, hb⟩
set_option maxHeartbeats 3200000 in
set_option maxRecDepth 20000 in
theorem great_on (A : Option Addr) (l : List S54) (c m : Nat) (w : World) (hn : l.length ≤ 10) (hm : m ≤ 600) (hC : k54.C w A l.length l) (hS : Small l) :
    Calls Try.prog 11 #[.slice A l.length c, .int .i64 (m : Int)] w fun e w' => e = .returned (.bool true) ∧ Below w.heap.size w w' := by
  have d2 : decide ((l.length : Int) > 10) = false := decide_eq_false (by omega)
  have d2a : decide (l.length > 10) = false := decide_eq_false (by omega)
  have d3 : decide ((m : Int) < 0) = false := decide_eq_false (by omega)
  have d4 : decide ((m : Int) > 600) = false := decide_eq_false (by omega)
  have d4a : decide (m > 600) = false := decide_eq_false (by omega)
  have HA := Aside0.mk (alive_calls w)
  have HN := Aside0.mk hn
  have HC := Aside0.mk hC
  have HS := Aside0.mk hS
  have HM := Aside0.mk hm
  clear hn hm hC hS
  go_enter Try.func11, Try.ntmps11
  go_wp2_with (first
    | (go_at_call 25; refine HA.out.mono ?_; rintro e w1 ⟨rfl, hb⟩; have HB := Aside0.mk hb; clear hb)
    | (go_at_call 26; refine (new_own HB.out 100 (by decide)).mono ?_; rintro e w2 ⟨g, rfl, ht⟩; have HT := Aside0.mk ht; clear ht))
  clear d2 d2a d3 d4 d4a
  go_loopg [29] 100 (fun kq v29 w' => ∃ i : Nat, v29 = .int .i64 i ∧ Aside0 (i ≤ l.length ∧ i + kq = 100) ∧ Aside0 (TOwn w w' (adds 100 (l.take i)) 100 g))
  case atStart => exact ⟨0, rfl, ⟨by omega, by omega⟩, ⟨HT.out⟩⟩
  case round =>
    clear HT
    obtain ⟨i, rfl, HJ, HT⟩ := hrel
    by_cases hi : i < l.length
    · have HI := Aside0.mk hi
      have e1 : decide ((i : Int) < (l.length : Int)) = true := decide_eq_true (by omega)
      obtain ⟨ad, hA, k0, k1⟩ := elem_at HC.out HT.out.below i hi
      subst hA
      have hsm := small_at HS.out i hi
      have had := adds_snoc 100 l i hi
      have p1 : (0 : Int) ≤ (i : Int) := by omega
      have p2 : (i : Int) < (l.length : Int) := by omega
      generalize hxl : l[i] = x at k0 k1 hsm had
      have HXL : Aside0 (∀ h : i < l.length, l[i] = x) := ⟨fun _ => hxl⟩
      clear hxl
      have HAD := Aside0.mk had
      have hw : wrap64 ((x.f0.size : Int) + x.f1.size) = (x.f0.size : Int) + x.f1.size := w64_in ((x.f0.size : Int) + x.f1.size) (by omega)
      clear hi had
      by_cases hx : (x.f0.size : Int) + x.f1.size > 200
      · have e2 : decide ((x.f0.size : Int) + x.f1.size > 200) = true := decide_eq_true hx
        clear hx hsm
        go_wp2
        go_ret
        exact ⟨rfl, below_alloc HT.out.below _⟩
      · have e2 : decide ((x.f0.size : Int) + x.f1.size > 200) = false := decide_eq_false hx
        have HX : Aside0 (cost x ≤ 200 + 32) := ⟨by unfold cost; omega⟩
        clear hx hsm
        go_wp2_with (go_at_call 27; refine (add_own (HT.out.below_ (below_alloc (Below.refl _ _) (.cells #[.string x.f0, .string x.f1] 54))) x (by have := HX.out; omega)).mono ?_; rintro e w3 ⟨rfl, ht3⟩; rw [← HAD.out] at ht3; have HT3 := Aside0.mk ht3; clear ht3)
        go_roundg (gk - 1)
        case measure => have := HJ.out; have := HN.out; have := HI.out; omega
        case rel => exact ⟨i + 1, by rw [w64_in ((i : Int) + 1) (by have := HN.out; have := HI.out; omega)]; rfl, ⟨by have := HI.out; omega, by have := HJ.out; have := HN.out; have := HI.out; omega⟩, ⟨HT3.out⟩⟩
    · have e1 : decide ((i : Int) < (l.length : Int)) = false := decide_eq_false (by omega)
      have e1' : ¬ i < l.length := hi
      have e1'' : decide (i < l.length) = false := decide_eq_false hi
      have hil : i = l.length := by have := HJ.out.1; omega
      clear hi

      clear hil
      generalize adds 100 (l.take i) = D at HT
      have hmk := print_make (P := Try.prog) 66 5 .u8 1 Try.underlying66 info5 (by omega) m (by have := HM.out; omega)
      obtain ⟨Z, hZ⟩ : ∃ Z, Z = strOfNums (List.replicate m 0) := ⟨_, rfl⟩
      have hcv : ∀ W : World, (convert 66 9 (.slice (some ⟨W.heap.size, 0, none⟩) m m)).run Try.prog (W.alloc (.cells (madeCells #[.int .u8 0] m) 5)) = .ok (.string Z) (W.alloc (.cells (madeCells #[.int .u8 0] m) 5)) := fun W => by
        rw [hZ]
        exact string_of_reads Try.underlying66 Try.underlying5 Try.underlying9 (zeros_reads W m (by have := HM.out; omega))
      have hZs : Z.size = m := by rw [hZ, strOfNums_size, List.length_replicate]
      have HK : Aside0 (cost ⟨⟨#[120]⟩, Z⟩ = (m : Int) + 33) := ⟨by
        unfold cost
        show (1 : Int) + (Z.size : Int) + 32 = _
        rw [hZs]
        omega⟩
      have hw33 : wrap64 ((m : Int) + 33) = (m : Int) + 33 := w64_in ((m : Int) + 33) (by have := HM.out; omega)
      clear hZ hZs
      by_cases hc : (m : Int) + 33 > 100
      · have g1 : decide ((m : Int) + 33 > 100) = true := decide_eq_true hc
        have g1a : decide ((m : Int) > 67) = true := decide_eq_true (by omega)
        have HD : Aside0 (addL 100 D ⟨⟨#[120]⟩, Z⟩ = []) := ⟨addL_empty _ _ _ (by rw [HK.out]; omega)⟩
        clear hc
        go_wp2_with (first
          | (go_at_call 27; refine (add_own (HT.out.below_ (below_alloc (Below.refl _ _) _)) ⟨⟨#[120]⟩, Z⟩ (by rw [HK.out]; have := HM.out; omega)).mono ?_; rintro e w3 ⟨rfl, ht3⟩; rw [HD.out] at ht3; have HT3 := Aside0.mk ht3; clear HT ht3)
          | (go_at_call 29; refine (used_own HT3.out).mono ?_; rintro e w4 ⟨rfl, hb4⟩; rw [show total [] = 0 from rfl]; have HT4 := Aside0.mk (HT3.out.below_ hb4); clear HT3 hb4)
          | (go_at_call 28; refine (all_own HT4.out).mono ?_; rintro e w5 ⟨A5, c5, rfl, _, hb5⟩; have HT5 := Aside0.mk (HT4.out.below_ hb5); clear HT4 hb5))
        go_ret
        exact ⟨rfl, HT5.out.below⟩
      · have g1 : decide ((m : Int) + 33 > 100) = false := decide_eq_false hc
        have g1a : decide ((m : Int) > 67) = false := decide_eq_false (by omega)
        have HD := Aside0.mk (addL_some 100 D ⟨⟨#[120]⟩, Z⟩ (by rw [HK.out]; omega))
        generalize hE : addL 100 D ⟨⟨#[120]⟩, Z⟩ = E at HD
        have HE := Aside0.mk hE
        have g2 : decide ((E.length : Int) ≥ 1) = true := decide_eq_true (by have := HD.out; omega)
        have g2a : decide (E.length ≥ 1) = true := decide_eq_true HD.out
        have g2b : decide (0 < E.length) = true := decide_eq_true HD.out
        clear hc hE
        go_wp2_with (first
          | (go_at_call 27; refine (add_own (HT.out.below_ (below_alloc (Below.refl _ _) _)) ⟨⟨#[120]⟩, Z⟩ (by rw [HK.out]; have := HM.out; omega)).mono ?_; rintro e w3 ⟨rfl, ht3⟩; rw [HE.out] at ht3; have g3 : decide (total E ≤ 100) = true := decide_eq_true ht3.room; have HT3 := Aside0.mk ht3; clear HT ht3)
          | (go_at_call 29; refine (used_own HT3.out).mono ?_; rintro e w4 ⟨rfl, hb4⟩; have HT4 := Aside0.mk (HT3.out.below_ hb4); clear HT3 hb4)
          | (go_at_call 28; refine (all_own HT4.out).mono ?_; rintro e w5 ⟨A5, c5, rfl, _, hb5⟩; have HT5 := Aside0.mk (HT4.out.below_ hb5); clear HT4 hb5))
        go_ret
        exact ⟨rfl, HT5.out.below⟩
theorem great_calls (A : Option Addr) (l : List S54) (c : Nat) (k : Int) (w : World) (hC : k54.C w A l.length l) (hS : Small l) :
    Calls Try.prog 11 #[.slice A l.length c, .int .i64 k] w fun e w' => e = .returned (.bool true) ∧ Below w.heap.size w w' := by
  by_cases h : (l.length : Int) > 10 ∨ k < 0 ∨ k > 600
  · exact great_off A l.length c k w h
  · obtain ⟨m, rfl⟩ : ∃ m : Nat, k = (m : Int) := ⟨k.toNat, by omega⟩
    exact great_on A l c m w (by omega) (by omega) hC hS
end Go.Proofs.Ytohphkdemonlkaa.Tw
/- A table behind w0, and what else lies behind w0: the table's contracts keep it. -/
namespace Go.Proofs.Ytohphkdemonlkaa.Tw
open Go.RowKit Go.Lib Go.Proofs.Ytohphkdemonlkaa.XQt Go.Proofs.YtohphkdemonlkaaW.PrintWords Go.Proofs.YtohphkdemonlkaaW.PrintLast Go.Proofs.YtohphkdemonlkaaW.PrintMore Go.Proofs.Ytohphkdemonlkaa.Ob

def TOx (w0 w : World) (l : List S54) (s : Int) (g : Nat) : Prop := ∃ ok, TOn w ok l s g ∧ Below w0.heap.size w0 w ∧ ∀ k, ok k → w0.heap.size ≤ k
section
variable {w0 w w1 : World} {l : List S54} {s : Int} {g : Nat}
theorem TOx.below (h : TOx w0 w l s g) : Below w0.heap.size w0 w := by obtain ⟨_, _, h, _⟩ := h; exact h
theorem TOx.room (h : TOx w0 w l s g) : total l ≤ s := by obtain ⟨_, h, _⟩ := h; exact h.room
theorem TOx.below_ (h : TOx w0 w l s g) (hb : Below w.heap.size w w1) : TOx w0 w1 l s g := by
  obtain ⟨ok, h, hb0, ho⟩ := h
  exact ⟨ok, h.below_ hb, (Stay.of_below (ok := fun _ => False) hb).below hb0 (fun _ e => e.elim), ho⟩
theorem tox_new (hb : Below w0.heap.size w0 w) (s : Int) (hs : 0 ≤ s ∧ s ≤ 512) : Calls Try.prog 26 #[.int .i64 s] w fun e w' => ∃ g, e = .returned (.pointer (some ⟨g, 0, none⟩)) ∧ TOx w0 w' [] s g := by
  refine (new_on s hs w).mono ?_
  rintro e w' ⟨g, rfl, ht, hb2⟩
  exact ⟨g, rfl, _, ht, (Stay.of_below (ok := fun _ => False) hb2).below hb (fun _ e => e.elim), fun k hk => Nat.le_trans hb.size hk.1⟩
/-- One is added that lies in a variable: the variable stays. -/
theorem tox_add (h : TOx w0 w l s g) (x : S54) (hx : cost x ≤ 1000000000) :
    Calls Try.prog 27 #[.pointer (some ⟨g, 0, none⟩), fv x] (w.alloc (.cells #[.string x.f0, .string x.f1] 54)) fun e w' => e = .returned (.tuple #[]) ∧ TOx w0 w' (addL s l x) s g ∧ w'.heap[w.heap.size]? = some (.cells #[.string x.f0, .string x.f1] 54 (0, 0)) := by
  obtain ⟨ok, h, hb0, ho⟩ := h
  have hb1 : Below w.heap.size w (w.alloc (.cells #[.string x.f0, .string x.f1] 54)) := below_alloc (Below.refl _ _) _
  refine (add_on (h.below_ hb1) x hx).mono ?_
  rintro e w' ⟨rfl, ht, hs⟩
  refine ⟨rfl, ⟨_, ht, hs.below ((Stay.of_below (ok := fun _ => False) hb1).below hb0 (fun _ e => e.elim)) ho, fun k hk => ?_⟩, (hs.block w.heap.size (by rw [World.size_alloc]; omega) (fun hk => by have := h.old _ hk; omega)).trans (heap_alloc_new w _)⟩
  rcases hk.1 with hk | hk
  · exact ho k hk
  · exact Nat.le_trans hb0.size (Nat.le_trans hb1.size hk)
theorem tox_all (h : TOx w0 w l s g) : Calls Try.prog 28 #[.pointer (some ⟨g, 0, none⟩)] w fun e w' => ∃ A1 c1, e = .returned (.slice A1 l.length c1) ∧ Aside0 (k54.C w' A1 l.length l) ∧ Below w.heap.size w w' := by
  obtain ⟨ok, h, _⟩ := h
  refine (all_calls (l, s, total l) w g _ _ (by have := h.len; show l.length ≤ _; omega) h.m).mono ?_
  rintro e w' ⟨A1, c1, rfl, hR, hb⟩
  exact ⟨A1, c1, rfl, ⟨(Kd.R_reads' hR).2.2⟩, hb⟩
theorem tox_used (h : TOx w0 w l s g) : Calls Try.prog 29 #[.pointer (some ⟨g, 0, none⟩)] w fun e w' => e = .returned (.int .i64 (total l)) ∧ Below w.heap.size w w' := by
  obtain ⟨ok, h, _⟩ := h
  exact used_on h
end
end Go.Proofs.Ytohphkdemonlkaa.Tw
/- A slice of fields, and a field, that came in: opened. -/
namespace Go.Proofs.Ytohphkdemonlkaa.Tw
open Go.ChangeShapes Go.WideShapes Go.RowKit Go.Proofs.Ytohphkdemonlkaa.XQt Go.Proofs.YtohphkdemonlkaaW.PrintWords Go.Proofs.YtohphkdemonlkaaW.PrintLast Go.Proofs.YtohphkdemonlkaaW.PrintMore Go.Proofs.Ytohphkdemonlkaa.Ob

section
variable {H : Type} {enc : TypeId × Value → H} {w : World} {base : Nat} {spare : Nat → Bool} {held : Bool}
theorem weights_all {P : Program} {e : TypeId} : ∀ {ds : List (DataW H)} {d : DataW H}, d ∈ ds → ∀ n ∈ d.weights P e, n ∈ DataW.weightsAll P e ds
  | d0 :: ds, d, hd, n, hn => by
    simp only [DataW.weightsAll, List.mem_append]
    rcases List.mem_cons.1 hd with rfl | hd
    · exact .inl hn
    · exact .inr (weights_all hd n hn)
theorem pair_weights (a b : List UInt8) : ∀ n, n = a.length ∨ n = b.length → n ∈ (DataW.agg [DataW.lit (.string a), DataW.lit (.string b)] : DataW H).weights Try.prog 54 := by
  intro n hn
  simp only [DataW.weights, Try.underlying54]
  simp only [DataW.weightsEach, DataW.weights, List.map_cons, List.map_nil, List.mem_append, List.mem_singleton]
  rcases hn with rfl | rfl
  · exact .inl rfl
  · exact .inr (.inl rfl)
theorem open_fields {fuel j : Nat} {cs : List Value} {x : DataW H × List MemPlace} {ts : List TypeId} {ds : List (DataW H)} (hsz : (DataW.weightsEach Try.prog ts ds).all (· ≤ reachBytes) = true) (htj : ts[j]? = some 50) (hdj : ds[j]? = some x.1)
    (h : DataW.trod enc Try.prog w base spare held fuel 50 cs = some x) :
    ∃ (A : Option Addr) (cap : Nat) (l : List S54), cs = [.slice A l.length cap] ∧ l.length ≤ cap ∧ k54.C w A l.length l ∧ ∀ y ∈ l, y.f0.size ≤ reachBytes ∧ y.f1.size ≤ reachBytes := by
  rcases Go.Deep.open_slice_pairs (P := Try.prog) Try.underlying50 Try.underlying54 (by kernel_rfl) rfl rfl (by kernel_rfl) (by kernel_rfl) h with ⟨rfl, rfl⟩ | ⟨a, len, cap, m, n, V0, V1, D0, D1, P0, P1, rfl, hb, hl, hm, hmm, rfl, hx⟩
  · exact ⟨none, 0, [], rfl, Nat.le_refl _, ⟨rfl, Nat.zero_le _, fun h => absurd h (Nat.lt_irrefl _)⟩, fun y hy => by cases hy⟩
  · have hlm : len ≤ m := by rw [hmm]; split <;> omega
    have each : ∀ i, i < len → ∃ y : S54, V0 i = .string y.f0 ∧ V1 i = .string y.f1 ∧ D0 i = .lit (.string y.f0.data.toList) ∧ D1 i = .lit (.string y.f1.data.toList) := by
      intro i hi
      obtain ⟨_, _, h0, h1⟩ := hx i (by omega)
      obtain ⟨s0, e0, g0, _⟩ := DataW.trod_string (by exact Try.underlying9) h0
      obtain ⟨s1, e1, g1, _⟩ := DataW.trod_string (by exact Try.underlying9) h1
      exact ⟨⟨s0, s1⟩, by simpa using e0, by simpa using e1, by simpa using congrArg Prod.fst g0, by simpa using congrArg Prod.fst g1⟩
    obtain ⟨Y, hY⟩ := Go.Deep.choose_lt each
    have hlen : ((List.range len).map Y).length = len := by simp
    unfold maxLen at hm
    refine ⟨some a, cap, (List.range len).map Y, by rw [hlen], by rw [hlen]; exact hl, ⟨rfl, by rw [hlen]; omega, fun _ => ⟨a, rfl, fun i y hy => ?_⟩⟩, fun y hy => ?_⟩
    · have hi : i < len := by rw [← hlen]; exact (List.getElem?_eq_some_iff.1 hy).1
      rw [List.getElem?_map, List.getElem?_range hi] at hy
      obtain rfl := Option.some.inj hy
      obtain ⟨c0, c1, _⟩ := hx i (by omega)
      obtain ⟨e0, e1, _⟩ := hY i hi
      refine ⟨[.string (Y i).f0, .string (Y i).f1], rfl, k54_mk w (Y i), fun k u hu => ?_⟩
      rcases k with _ | _ | k
      · obtain rfl := Option.some.inj hu
        rw [← e0]
        exact c0
      · obtain rfl := Option.some.inj hu
        rw [← e1]
        exact c1
      · cases hu
    · obtain ⟨i, hi, rfl⟩ := List.mem_map.1 hy
      have hi' : i < len := List.mem_range.1 hi
      obtain ⟨_, _, d0, d1⟩ := hY i hi'
      have hmem : ∀ q, q = (Y i).f0.data.toList.length ∨ q = (Y i).f1.data.toList.length → q ≤ reachBytes := by
        intro q hq
        have hw := weights_all (P := Try.prog) (e := 54) (ds := (List.range len).map fun i => DataW.agg [D0 i, D1 i]) (List.mem_map.2 ⟨i, hi, rfl⟩) q (by rw [d0, d1]; exact pair_weights _ _ q hq)
        have := List.all_eq_true.1 hsz q (DataW.weights_mem_each htj hdj q (by simp only [DataW.weights, Try.underlying50]; simp only [List.mem_cons, List.mem_append]; exact .inr (.inl hw)))
        simpa using this
      exact ⟨by have := hmem _ (.inl rfl); rwa [Array.length_toList] at this, by have := hmem _ (.inr rfl); rwa [Array.length_toList] at this⟩
set_option maxRecDepth 20000 in
theorem open_field {r : Reach} {b0 j : Nat} {v : Value} {d : DataW H} {p : List MemPlace} {ts : List TypeId} {ds : List (DataW H)} (hsz : (DataW.weightsEach Try.prog ts ds).all (· ≤ reachBytes) = true) (htj : ts[j]? = some 54) (hdj : ds[j]? = some d)
    (hv : Value.okWide Try.prog w r b0 54 v) (h : DataW.Trod enc Try.prog w base spare held 54 v d p) :
    ∃ f : S54, v = fv f ∧ (f.f0.size ≤ reachBytes ∧ f.f1.size ≤ reachBytes) := by
  obtain ⟨v0, v1, y0, y1, n, rfl, rfl, rfl, h0, h1⟩ := Go.Joins.open_agg2 (P := Try.prog) Try.underlying54 (by kernel_rfl) (by kernel_rfl) hv h
  obtain ⟨s0, e0, g0, _⟩ := DataW.trod_string (by exact Try.underlying9) h0
  obtain ⟨s1, e1, g1, _⟩ := DataW.trod_string (by exact Try.underlying9) h1
  subst g0; subst g1
  have e0' : v0 = .string s0 := by simpa using e0
  have e1' : v1 = .string s1 := by simpa using e1
  subst e0'; subst e1'
  have hmem : ∀ q, q = s0.data.toList.length ∨ q = s1.data.toList.length → q ≤ reachBytes := by
    intro q hq
    have := List.all_eq_true.1 hsz q (DataW.weights_mem_each htj hdj q (pair_weights _ _ q hq))
    simpa using this
  exact ⟨⟨s0, s1⟩, rfl, by have := hmem _ (.inl rfl); rwa [Array.length_toList] at this, by have := hmem _ (.inr rfl); rwa [Array.length_toList] at this⟩
end
end Go.Proofs.Ytohphkdemonlkaa.Tw
