/- Contracts of the table's methods: Resize; all contracts in one shape. -/
import Derived.Test.YtohphkdemonlkaaTWalk6
namespace Go.Proofs.Ytohphkdemonlkaa.Tw
open Go.RowKit Go.Lib Go.Proofs.Ytohphkdemonlkaa.XQt Go.Proofs.YtohphkdemonlkaaW.PrintWords Go.Proofs.YtohphkdemonlkaaW.PrintLast Go.Proofs.YtohphkdemonlkaaW.PrintMore Go.Proofs.Ytohphkdemonlkaa.Ob

set_option maxHeartbeats 1600000 in
theorem resize_calls (l : List S54) (s s2 : Int) (w : World) (g : Nat) (base : Nat) (ok : Nat → Prop) (hl : total l ≤ 1000000000) (hs : 0 ≤ s2 ∧ s2 ≤ 512)
    (hq : TK.M w base ok (l, s, total l) [.pointer (some ⟨g, 0, none⟩)]) :
    Calls Try.prog 33 #[.pointer (some ⟨g, 0, none⟩), .int .i64 s2] w fun e w' => e = .returned (.bool true) ∧
      TK.M w' base ok (l.take (shr s2 l l.length), s2, total (l.take (shr s2 l l.length))) [.pointer (some ⟨g, 0, none⟩)] ∧ Stay (fun k => k = g) w w' := by
  obtain ⟨g', A, c, he, hbg, hok, hg, hc, hQ⟩ := tk_open hq
  obtain rfl : g = g' := by simpa using he
  replace hg : w.heap[g]? = some (.cells #[.slice A l.length c, .int .i64 s, .int .i64 (total l)] 96 (0, 0)) := hg
  replace hc : l.length ≤ c := hc
  replace hQ : k54.R 54 w base (fun k => ok k ∧ k ≠ g) (.slice A l.length c) l := hQ
  have HM : ∀ w, Aside0 (Calls Try.prog 69 #[.int .i64 s2] w fun e w' => e = .returned (.bool true) ∧ Drawn0 w w') := fun w => ⟨table_may.calls s2 true w (by unfold table_may.f; rw [if_pos (by omega), decide_eq_true hs.2])⟩
  have HShr : ∀ nd, Aside0 (Calls Try.prog 70 #[.pointer (some ⟨g, 0, none⟩), .int .i64 s2] ((w.drewN nd).setCell ⟨g, 1, none⟩ (.int .i64 s2)) fun e w' => e = .returned (.tuple #[]) ∧
      w'.heap[g]? = some (.cells #[.slice A (shr s2 l l.length) c, .int .i64 s2, .int .i64 (total (l.take (shr s2 l l.length)))] 96 (0, 0)) ∧ Stay (fun k => k = g) w w') := fun nd => by
    have hst : Stay (fun k => k = g) w ((w.drewN nd).setCell ⟨g, 1, none⟩ (.int .i64 s2)) := Stay.setCell (Stay.drewN (Stay.refl (fun k => k = g) w) nd) (p := ⟨g, 1, none⟩) (.inl (Eq.refl g)) (.int .i64 s2)
    have hgd : (w.drewN nd).heap[g]? = some (.cells #[.slice A l.length c, .int .i64 s, .int .i64 (total l)] 96 (0, 0)) := hg
    refine ⟨(shrink_raw l s2 s2 _ g base ok A c (by omega) (blk_put hgd 1 _ rfl) hc (Kd.R_step hQ (fun k hk hlt => hst.block k hlt hk.2))).mono ?_⟩
    rintro e w' ⟨rfl, h1, h2⟩
    exact ⟨rfl, h1, hst.trans h2 (fun _ _ e => e)⟩
  have hsl := shr_le s2 l l.length
  generalize shr s2 l l.length = n at HShr hsl ⊢
  have HG := Aside0.mk hg
  have HO := Aside0.mk hok
  have HBG := Aside0.mk hbg
  have HQ := Aside0.mk hQ
  have HN := Aside0.mk hsl
  have k1 : w.cell? ⟨g, 1, none⟩ = some (.int .i64 s) := cells_of_heap hg 1 _ rfl
  have f1 : ∀ j, w.frozen? ⟨g, j, none⟩ = false := fun j => by simp [World.frozen?, hg]
  clear hq he hok hbg hg hc hQ hsl hs
  go_enter Try.func33, Try.ntmps33
  go_wp2_with (first
    | (go_at_call 69; refine (HM _).out.mono ?_; rintro e w' ⟨rfl, ⟨nd, rfl⟩⟩)
    | (go_at_call 70; refine (HShr _).out.mono ?_; rintro e w3 ⟨rfl, hb3, hst⟩))
  go_ret
  exact ⟨rfl, tk_mk HBG.out HO.out hb3 (Kd.R_take (Kd.R_step HQ.out (fun k hk hlt => hst.block k hlt hk.2)) HN.out), hst⟩
theorem resize_none (s2 : Int) (w : World) (g : Nat) (hs : ¬ (0 ≤ s2 ∧ s2 ≤ 512)) :
    Calls Try.prog 33 #[.pointer (some ⟨g, 0, none⟩), .int .i64 s2] w fun e w' => e = .returned (.bool false) ∧ Below w.heap.size w w' := by
  have HM : ∀ w, Aside0 (Calls Try.prog 69 #[.int .i64 s2] w fun e w' => e = .returned (.bool false) ∧ Drawn0 w w') := fun w => ⟨table_may.calls s2 false w (by
    unfold table_may.f
    by_cases h : s2 ≥ 0
    · rw [if_pos h, decide_eq_false (fun e => hs ⟨h, e⟩)]
    · rw [if_neg h])⟩
  clear hs
  go_enter Try.func33, Try.ntmps33
  go_wp2_with (go_at_call 69; refine (HM _).out.mono ?_; rintro e w' ⟨rfl, ⟨nd, rfl⟩⟩)
  go_ret
  exact ⟨rfl, pw_below_drewN (Below.refl _ _) _⟩

/-- A table behind w0: its fields, its size. -/
structure TOwn (w0 w : World) (l : List S54) (s : Int) (g : Nat) : Prop where
  below : Below w0.heap.size w0 w
  size : 0 ≤ s ∧ s ≤ 512
  room : total l ≤ s
  m : TK.M w w0.heap.size (fun k => w0.heap.size ≤ k ∧ k < w.heap.size) (l, s, total l) [.pointer (some ⟨g, 0, none⟩)]
section
variable {w0 w w1 : World} {l : List S54} {s : Int} {g : Nat}
theorem TOwn.len (h : TOwn w0 w l s g) : l.length ≤ 16 := by
  have := total_nonneg l
  have := h.room
  have := h.size
  omega
/-- What reads alone, and makes new blocks, keeps the table. -/
theorem TOwn.below_ (h : TOwn w0 w l s g) (hb : Below w.heap.size w w1) : TOwn w0 w1 l s g :=
  ⟨(Stay.of_below (ok := fun _ => False) hb).below h.below (fun _ e => e.elim), h.size, h.room, TK.M_mono (fun _ hk => ⟨hk.1, Nat.lt_of_lt_of_le hk.2 hb.size⟩) (Kd.M_below h.m hb)⟩
theorem TOwn.back (h : TOwn w0 w l s g) : Below w0.heap.size w0 w := h.below
theorem new_own (hb : Below w0.heap.size w0 w) (s : Int) (hs : 0 ≤ s ∧ s ≤ 512) :
    Calls Try.prog 26 #[.int .i64 s] w fun e w' => ∃ g, e = .returned (.pointer (some ⟨g, 0, none⟩)) ∧ TOwn w0 w' [] s g := by
  refine (new_calls s hs w w0.heap.size hb.size).mono ?_
  rintro e w' ⟨g, rfl, hg, hm, hb2⟩
  exact ⟨g, rfl, (Stay.of_below (ok := fun _ => False) hb2).below hb (fun _ e => e.elim), hs, hs.1, TK.M_mono (fun k hk => ⟨hk.2.1, hk.2.2.1⟩) (TK.M_bound hm)⟩
theorem addL_room (hs : 0 ≤ s) (x : S54) : total (addL s l x) ≤ s := by
  have key : ∀ most n, total (l.take (shr most l n)) ≤ most ∨ shr most l n = 0 := by
    intro most n
    induction n with
    | zero => exact .inr rfl
    | succ n ih =>
      unfold shr
      split
      · exact ih
      · exact .inl (by omega)
  unfold addL
  have h := key (s - cost x) l.length
  have hc := cost_pos x
  split
  · next hcs =>
    show cost x + total _ ≤ s
    rcases h with h | h
    · omega
    · rw [h, List.take_zero]
      show cost x + 0 ≤ s
      omega
  · rcases h with h | h
    · omega
    · rw [h, List.take_zero]
      exact hs
theorem add_own (h : TOwn w0 w l s g) (x : S54) (hx : cost x ≤ 1000000000) :
    Calls Try.prog 27 #[.pointer (some ⟨g, 0, none⟩), fv x] w fun e w' => e = .returned (.tuple #[]) ∧ TOwn w0 w' (addL s l x) s g := by
  obtain ⟨hb, hs, hr, hm⟩ := h
  refine (add_calls l s x w g w0.heap.size _ hb.size (by omega) hx hs (fun k hk hn => by omega) hm).mono ?_
  rintro e w' ⟨rfl, hm', hst⟩
  have hb' := hst.below hb (fun k hk => hk.1)
  exact ⟨rfl, hb', hs, addL_room hs.1 x, TK.M_mono (fun k hk => ⟨hk.2.1, hk.2.2.1⟩) (TK.M_bound hm')⟩
theorem all_own (h : TOwn w0 w l s g) :
    Calls Try.prog 28 #[.pointer (some ⟨g, 0, none⟩)] w fun e w' => ∃ A1 c1, e = .returned (.slice A1 l.length c1) ∧ Aside0 (k54.R 54 w' w.heap.size (fun k => w.heap.size ≤ k) (.slice A1 l.length c1) l) ∧ Below w.heap.size w w' := by
  refine (all_calls (l, s, total l) w g _ _ (by have := h.len; show l.length ≤ _; omega) h.m).mono ?_
  rintro e w' ⟨A1, c1, rfl, hR, hb⟩
  exact ⟨A1, c1, rfl, ⟨hR⟩, hb⟩
theorem used_own (h : TOwn w0 w l s g) : Calls Try.prog 29 #[.pointer (some ⟨g, 0, none⟩)] w fun e w' => e = .returned (.int .i64 (total l)) ∧ Below w.heap.size w w' := used_calls (l, s, total l) w g _ _ h.m
theorem size_own (h : TOwn w0 w l s g) : Calls Try.prog 34 #[.pointer (some ⟨g, 0, none⟩)] w fun e w' => e = .returned (.int .i64 s) ∧ Below w.heap.size w w' := size_calls (l, s, total l) w g _ _ h.m
theorem at_own (h : TOwn w0 w l s g) (n : Nat) (hn : n < (wholeL l).length) :
    Calls Try.prog 31 #[.pointer (some ⟨g, 0, none⟩), .int .i64 ((n : Int) + 1)] w fun e w' => e = .returned (.tuple #[fv (rd_T54 (wholeL l) (n : Int)), .bool true]) ∧ Below w.heap.size w w' :=
  at_in (l, s, total l) n w g _ _ (by have := h.len; show l.length ≤ _; omega) h.m hn
theorem at_none (h : TOwn w0 w l s g) (i : Int) (hi : ¬ (1 ≤ i ∧ i ≤ ((wholeL l).length : Int))) :
    Calls Try.prog 31 #[.pointer (some ⟨g, 0, none⟩), .int .i64 i] w fun e w' => e = .returned (.tuple #[fv z54, .bool false]) ∧ Below w.heap.size w w' :=
  at_out (l, s, total l) i w g _ _ (by have := h.len; show l.length ≤ _; omega) h.m hi
theorem find_own (h : TOwn w0 w l s g) (f : S54) :
    Calls Try.prog 32 #[.pointer (some ⟨g, 0, none⟩), fv f] w fun e w' => e = .returned (.tuple #[.int .i64 (findN (wholeL l) f), .bool (findB (wholeL l) f)]) ∧ Below w.heap.size w w' :=
  find_calls (l, s, total l) f w g _ _ (by have := h.len; show l.length ≤ _; omega) h.m
theorem resize_own (h : TOwn w0 w l s g) (s2 : Int) (hs : 0 ≤ s2 ∧ s2 ≤ 512) :
    Calls Try.prog 33 #[.pointer (some ⟨g, 0, none⟩), .int .i64 s2] w fun e w' => e = .returned (.bool true) ∧ TOwn w0 w' (l.take (shr s2 l l.length)) s2 g ∧ Stay (fun k => k = g) w w' := by
  obtain ⟨hb, hs0, hr, hm⟩ := h
  have hg0 : w0.heap.size ≤ g ∧ g < w.heap.size := by
    obtain ⟨g', A, c, he, hbg, hok, _⟩ := tk_open hm
    obtain rfl : g = g' := by simpa using he
    exact hok
  refine (resize_calls l s s2 w g w0.heap.size _ (by omega) hs hm).mono ?_
  rintro e w' ⟨rfl, hm', hst⟩
  refine ⟨rfl, ⟨hst.below hb (fun k hk => hk ▸ hg0.1), hs, ?_, TK.M_mono (fun k hk => ⟨hk.1, Nat.lt_of_lt_of_le hk.2 hst.size⟩) hm'⟩, hst⟩
  have key : ∀ n, total (l.take (shr s2 l n)) ≤ s2 := by
    intro n
    induction n with
    | zero => exact hs.1
    | succ n ih =>
      unfold shr
      split
      · exact ih
      · omega
  exact key _
end
end Go.Proofs.Ytohphkdemonlkaa.Tw
