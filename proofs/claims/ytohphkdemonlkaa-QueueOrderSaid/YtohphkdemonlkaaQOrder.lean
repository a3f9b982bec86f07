/- QueueOrder: the walk. -/
import Derived.Test.YtohphkdemonlkaaQTwo
import Derived.Test.YtohphkdemonlkaaQCuts
namespace Go.Proofs.Ytohphkdemonlkaa.Qw
open Go.RowKit Go.Proofs.Ytohphkdemonlkaa.XQt Go.Proofs.YtohphkdemonlkaaW.PrintWords Go.Proofs.YtohphkdemonlkaaW.PrintLast Go.Proofs.YtohphkdemonlkaaW.PrintMore Go.Proofs.Ytohphkdemonlkaa.Ob

section
variable {w0 w : World} {g : Nat} {v : Value} {l D : List Int}
theorem or_dup (x : Int) (hx : x ∈ D) (h9 : D.length ≤ 90) (h : Two w0 w (D, 100) g v l) : Calls Try.prog 16 #[.pointer (some ⟨g, 0, none⟩), .int .i64 x] w fun e w' => e = .returned (.int .i64 1) ∧ Two w0 w' (D, 100) g v l := by
  have hm : mayC (D, 100) x = 1 := by unfold mayC; rw [if_pos hx]
  have := put_two h (by show D.length ≤ _; omega) x
  rw [show putQ (D, 100) x = (D, 100) from by unfold putQ; rw [hm]; rfl, hm] at this
  exact this
theorem or_put (x : Int) (hx : x ∉ D) (h9 : D.length ≤ 90) (h : Two w0 w (D, 100) g v l) : Calls Try.prog 16 #[.pointer (some ⟨g, 0, none⟩), .int .i64 x] w fun e w' => e = .returned (.int .i64 0) ∧ Two w0 w' (D ++ [x], 100) g v l := by
  have hm : mayC (D, 100) x = 0 := by unfold mayC; rw [if_neg hx, if_neg (by show ¬ ((D.length : Int) ≥ 100); omega)]
  have := put_two h (by show D.length ≤ _; omega) x
  rw [show putQ (D, 100) x = (D ++ [x], 100) from by unfold putQ; rw [if_pos hm], hm] at this
  exact this
theorem or_back (x : Int) (hx : x ∉ D) (h9 : D.length ≤ 90) (h : Two w0 w (D, 100) g v l) : Calls Try.prog 20 #[.pointer (some ⟨g, 0, none⟩), .int .i64 x] w fun e w' => e = .returned (.int .i64 0) ∧ Two w0 w' (x :: D, 100) g v l := by
  have hm : mayC (D, 100) x = 0 := by unfold mayC; rw [if_neg hx, if_neg (by show ¬ ((D.length : Int) ≥ 100); omega)]
  have := back_two h (by show D.length ≤ _; omega) x
  rw [show backQ (D, 100) x = (x :: D, 100) from by unfold backQ; rw [if_pos hm], hm] at this
  exact this
theorem or_place_in (x : Int) (hx : x ∈ D) (h9 : D.length ≤ 100) (h : Two w0 w (D, 100) g v l) : Calls Try.prog 18 #[.pointer (some ⟨g, 0, none⟩), .int .i64 x] w fun e w' => e = .returned (.int .i64 (D.idxOf x : Int)) ∧ Two w0 w' (D, 100) g v l := by
  have := place_two h (by show D.length ≤ _; omega) x
  rw [show ix (D, (100 : Int)).1 x = (D.idxOf x : Int) from by unfold ix; rw [if_pos hx]] at this
  exact this
theorem or_place_out (x : Int) (hx : x ∉ D) (h9 : D.length ≤ 100) (h : Two w0 w (D, 100) g v l) : Calls Try.prog 18 #[.pointer (some ⟨g, 0, none⟩), .int .i64 x] w fun e w' => e = .returned (.int .i64 (-1)) ∧ Two w0 w' (D, 100) g v l := by
  have := place_two h (by show D.length ≤ _; omega) x
  rw [show ix (D, (100 : Int)).1 x = -1 from by unfold ix; rw [if_neg hx]] at this
  exact this
theorem idx_snoc (D : List Int) (x : Int) (hx : x ∉ D) : (D ++ [x]).idxOf x = D.length := by
  rw [List.idxOf_append, if_neg hx]
  simp
theorem or_first (i : Nat) (hi : i < D.length) (h9 : D.length ≤ 100) (h : Two w0 w (D.drop i, 100) g v l) : Calls Try.prog 19 #[.pointer (some ⟨g, 0, none⟩)] w fun e w' => e = .returned (.tuple #[.int .i64 (rd D (i : Int)), .bool true]) ∧ Two w0 w' (D.drop (i + 1), 100) g v l := by
  have hr : rd D (i : Int) = D[i] := by simp [rd, hi]
  rw [List.drop_eq_getElem_cons hi] at h
  rw [hr]
  exact first_two h (by rw [List.length_drop]; omega)
theorem or_gone (i : Nat) (hi : i < D.length) (hd : D.Nodup) (h9 : D.length ≤ 100) (h : Two w0 w (D.drop (i + 1), 100) g v l) : Calls Try.prog 18 #[.pointer (some ⟨g, 0, none⟩), .int .i64 (rd D (i : Int))] w fun e w' => e = .returned (.int .i64 (-1)) ∧ Two w0 w' (D.drop (i + 1), 100) g v l := by
  have hr : rd D (i : Int) = D[i] := by simp [rd, hi]
  refine or_place_out _ ?_ (by rw [List.length_drop]; omega) h
  rw [hr]
  have hd' := hd.sublist (List.drop_sublist i D)
  rw [List.drop_eq_getElem_cons hi] at hd'
  exact (List.nodup_cons.1 hd').1
theorem or_place_last (x : Int) (hx : x ∉ D) (h9 : D.length ≤ 90) (h : Two w0 w (D ++ [x], 100) g v l) : Calls Try.prog 18 #[.pointer (some ⟨g, 0, none⟩), .int .i64 x] w fun e w' => e = .returned (.int .i64 (D.length : Int)) ∧ Two w0 w' (D ++ [x], 100) g v l := by
  have := or_place_in x (by simp) (by rw [List.length_append, List.length_singleton]; omega) h
  rw [idx_snoc D x hx] at this
  exact this
theorem or_place_head (x : Int) (h9 : D.length ≤ 90) (h : Two w0 w (x :: D, 100) g v l) : Calls Try.prog 18 #[.pointer (some ⟨g, 0, none⟩), .int .i64 x] w fun e w' => e = .returned (.int .i64 0) ∧ Two w0 w' (x :: D, 100) g v l := by
  have := or_place_in x (by simp) (by rw [List.length_cons]; omega) h
  rw [List.idxOf_cons_self] at this
  exact this
theorem two_fresh {q : List Int × Int} {w1 w2 : World} {v' : Value} {l' : List Int} (h : Two w0 w q g v l) (hs : Stay (fun _ => False) w w1) (hg : w1.grownBy w2 (some w.heap.size))
    (hq : (Kd.int .i64).Q 3 w2 w0.heap.size (fun k => w.heap.size ≤ k) v' l') : Two w0 w2 q g v' l' := by
  obtain ⟨hb, P, R, hd, hP, hR, hm, _⟩ := h
  have hs2 : Stay (fun k => w.heap.size ≤ k) w w2 := (hs.mono (fun _ e => e.elim)).grown hg (fun k hk => by cases hk; exact .inr (Nat.le_refl _))
  have hdis : ∀ k, P k → ¬ w.heap.size ≤ k := fun k hp => by have := (hP k hp).2; omega
  refine ⟨hs2.below hb (fun k hk => Nat.le_trans hb.size hk), P, fun k => w.heap.size ≤ k ∧ k < w2.heap.size, fun k hp hk => hdis k hp hk.1, fun k hk => ⟨(hP k hk).1, Nat.lt_of_lt_of_le (hP k hk).2 hs2.size⟩, fun k hk => ⟨Nat.le_trans hb.size hk.1, hk.2⟩, M_stay hm hs2 hdis, Kd.Q_mono (Kd.Q_bound hq) (fun k hk => ⟨hk.1, hk.2.2.1⟩)⟩
theorem lit_R (hb : w0.heap.size ≤ w.heap.size) (x : Int) : (Kd.int .i64).R 3 (w.alloc (.cells #[.int .i64 x] 3)) w0.heap.size (fun k => w.heap.size ≤ k) (.slice (some ⟨w.heap.size, 0, none⟩) 1 1) [x] :=
  Kd.R_of_own ⟨rfl, .inr ⟨w.heap.size, 1, _, rfl, hb, heap_alloc_new w _, Nat.le_refl _, by decide, rfl, rfl⟩⟩ (fun k hk => by cases hk; exact Nat.le_refl _)
theorem two_reads {q : List Int × Int} (h : Two w0 w q g v l) : ∃ A c, v = .slice A l.length c ∧ Kd.C (Kd.int .i64) w A l.length l := by
  obtain ⟨P, R, _, _, _, _, hq⟩ := h.own
  obtain ⟨A, c, rfl, _, hr⟩ := Kd.Q_reads hq
  exact ⟨A, c, rfl, hr⟩
end
set_option maxHeartbeats 1600000 in
theorem order_long (A : Option Addr) (n c : Nat) (back : Int) (w : World) (hn : 60 < n) :
    Calls Try.prog 5 #[.slice A n c, .int .i64 back] w fun e w' => e = .returned (.bool true) ∧ Below w.heap.size w w' := by
  have c1 : decide ((n : Int) > 60) = true := decide_eq_true (by omega)
  have c1' : decide (60 < (n : Int)) = true := c1
  have c1'' : decide (60 < n) = true := decide_eq_true hn
  clear hn
  go_enter Try.func5, Try.ntmps5
  go_wp2_with (go_at_call 14; refine (alive_calls _).mono ?_; rintro e w' ⟨rfl, HB⟩)
  go_ret
  exact ⟨rfl, HB⟩
set_option maxHeartbeats 1600000 in
set_option maxRecDepth 20000 in
theorem order_short (A : Option Addr) (l : List Int) (c : Nat) (back : Int) (w : World) (hn : l.length ≤ 60) (hC : Kd.C (Kd.int .i64) w A l.length l) :
    Calls Try.prog 5 #[.slice A l.length c, .int .i64 back] w fun e w' => e = .returned (.bool true) ∧ Below w.heap.size w w' := by
  have c1 : decide ((l.length : Int) > 60) = false := decide_eq_false (by omega)
  have c1' : decide (60 < (l.length : Int)) = false := c1
  have c1'' : decide (60 < l.length) = false := decide_eq_false (by omega)
  have HN := Aside0.mk hn
  have HC := Aside0.mk hC
  clear hn hC
  go_enter Try.func5, Try.ntmps5
  go_wp2_with (first
    | (go_at_call 14; refine (alive_calls _).mono ?_; rintro e w' ⟨rfl, HB⟩)
    | (go_at_call 15; refine (new_own HB 100 (by decide)).mono ?_; rintro e w' ⟨g, rfl, HS⟩))
  clear c1 c1' c1''
  go_loopg [6, 28] 100 (fun kq v6 v28 w' => ∃ (i : Nat) (D : List Int) (A1 : Option Addr) (cw : Nat), v28 = .int .i64 i ∧ v6 = .slice A1 D.length cw ∧ Aside0 (i ≤ l.length ∧ i + kq = 100 ∧ D.length ≤ i ∧ D.Nodup) ∧ Two w w' (D, 100) g (.slice A1 D.length cw) D)
  case atStart => exact ⟨0, [], none, 0, rfl, rfl, ⟨by omega, by omega, Nat.le_refl _, List.nodup_nil⟩, two_new HS⟩
  case round =>
    clear HS
    obtain ⟨i, D, A1, cw, rfl, rfl, HJ, HS⟩ := hrel
    by_cases hi : i < l.length
    · have d1 : decide ((i : Int) < (l.length : Int)) = true := decide_eq_true (by omega)
      have p1 : 0 ≤ (i : Int) := by omega
      have q1 : (i : Int) < (l.length : Int) := by omega
      have HI : Aside0 (i < l.length) := ⟨hi⟩
      obtain ⟨ad, ea, hx⟩ := Kd.at_int (Kd.C_below HC.out HS.below) (i : Int) p1 q1
      cases ea
      rw [Int.toNat_natCast] at hx
      change _ = some (Value.int .i64 (rd l (i : Int))) at hx
      generalize rd l (i : Int) = x at hx
      have h9 : Aside0 (D.length ≤ 90) := ⟨by have := HJ.out; have := HN.out; omega⟩
      replace p1 := eq_true p1
      replace q1 := eq_true q1
      clear hi
      by_cases hxD : x ∈ D
      · have d2 : decide ((D.idxOf x : Int) ≥ 0) = true := decide_eq_true (by omega)
        have HX := Aside0.mk hxD
        clear hxD
        go_wp2_with (first
          | (go_at_call 18; refine (or_place_in x HX.out (by have := h9.out; omega) HS).mono ?_; rintro e w' ⟨rfl, HS1⟩; clear HS)
          | (go_at_call 16; refine (or_dup x HX.out h9.out HS1).mono ?_; rintro e w' ⟨rfl, HS2⟩; clear HS1))
        go_roundg (gk - 1)
        case measure => have := HJ.out; have := HN.out; have := HI.out; omega
        case rel => exact ⟨i + 1, D, A1, cw, by rw [w64_in _ (by have := HN.out; have := HI.out; omega)]; rfl, rfl, ⟨by have := HI.out; omega, by have := HJ.out; have := HN.out; have := HI.out; omega, by have := HJ.out; omega, HJ.out.2.2.2⟩, HS2⟩
      · have HX := Aside0.mk hxD
        clear hxD
        go_wp2_with (first
          | (go_at_call 18; refine (or_place_out x HX.out (by have := h9.out; omega) HS).mono ?_; rintro e w' ⟨rfl, HS1⟩; clear HS)
          | (go_at_call 16; refine (or_put x HX.out h9.out HS1).mono ?_; rintro e w' ⟨rfl, HS2⟩; clear HS1)
          | (go_at_call 18; refine (or_place_last x HX.out h9.out HS2).mono ?_; rintro e w3 ⟨rfl, HS3⟩; clear HS2)
          | ((with_reducible refine gate_builtin (b := .append) (xs := #[.tmp 52, .tmp 54]) rfl ?_); at_builtin; obtain ⟨P, R, hd, hP, hR, hm, hq⟩ := HS3.own; refine Kd.Q_append (Kd.int .i64) (w0 := w) w.heap.size rfl (.tmp 52) (.tmp 54) 33 3 (.int .i64 0) 8 rfl Try.underlying33 info3 rfl (by decide) (by omega) (.slice A1 D.length cw) D x [.int .i64 x] (fun k => R k ∨ w3.heap.size ≤ k) (fun _ => False) rfl rfl ?aP (fun _ hk => hk.elim) ?aF ?aO ?aB ?aS ?aL ?_; (case aP => exact rfl); (case aF => exact (fun k hk => .inr hk)); (case aO => exact Kd.Q_mono hq (fun k hk => .inl hk)); (case aB => exact HS3.below); (case aS => exact HS3.below.size); (case aL => have := h9.out; omega); intro v1 w1 hQ1 hB1 hG1 _; have HS4 := two_grown HS3.below hd hP hR hm hq hG1 hQ1; obtain ⟨A2, c2, rfl, _⟩ := Kd.Q_slice hQ1; clear hQ1 hB1 hG1 HS3 hd hP hR hm hq))
        go_roundg (gk - 1)
        case measure => have := HJ.out; have := HN.out; have := HI.out; omega
        case rel => exact ⟨i + 1, D ++ [x], A2, c2, by rw [w64_in _ (by have := HN.out; have := HI.out; omega)]; rfl, by first | rfl | (rw [List.length_append, List.length_singleton]), ⟨by have := HI.out; omega, by have := HJ.out; have := HN.out; have := HI.out; omega, by have := HJ.out; rw [List.length_append, List.length_singleton]; omega, by rw [List.nodup_append]; exact ⟨HJ.out.2.2.2, by simp, by intro a ha b hb e; rw [List.mem_singleton.1 hb] at e; exact HX.out (e ▸ ha)⟩⟩, by first | exact HS4 | (rw [List.length_append, List.length_singleton]; exact HS4)⟩
    · have d1 : decide ((i : Int) < (l.length : Int)) = false := decide_eq_false (by omega)
      have d1' : ¬ i < l.length := hi
      have d1'' : decide (i < l.length) = false := decide_eq_false hi
      have h9 : Aside0 (D.length ≤ 90) := ⟨by have := HJ.out; have := HN.out; omega⟩
      have HD : Aside0 D.Nodup := ⟨HJ.out.2.2.2⟩
      clear hi HJ HC
      by_cases hb : back ∈ D
      · have HC := Aside0.mk (or_place_in back hb (by have := h9.out; omega) HS)
        generalize hp : (D.idxOf back : Int) = p at HC
        have d2 : decide (p < 0) = false := decide_eq_false (by omega)
        clear hb hp
        go_wp2_with (go_at_call 18; refine HC.out.mono ?_; rintro e w' ⟨rfl, HS1⟩; clear HS HC)
        clear d1 d1' d1'' d2
        go_loopg [77] 200 (fun kq v77 w' => ∃ j : Nat, v77 = .int .i64 j ∧ Aside0 (j ≤ D.length ∧ j + kq = 200) ∧ Two w w' (D.drop j, 100) g (.slice A1 D.length cw) D)
        case atStart => exact ⟨0, rfl, ⟨by omega, by omega⟩, HS1⟩
        case round =>
          clear HS1
          obtain ⟨j, rfl, HJ, HS⟩ := hrel
          by_cases hj : j < D.length
          · have e1 : decide ((j : Int) < (D.length : Int)) = true := decide_eq_true (by omega)
            have p1 : 0 ≤ (j : Int) := by omega
            have q1 : (j : Int) < (D.length : Int) := by omega
            have HI : Aside0 (j < D.length) := ⟨hj⟩
            obtain ⟨P, R, _, _, _, _, hq⟩ := HS.own
            obtain ⟨ad, ea, hx⟩ := Kd.at_int (Kd.Q_reads' hq).2.2 (j : Int) p1 q1
            cases ea
            rw [Int.toNat_natCast] at hx
            change _ = some (Value.int .i64 (rd D (j : Int))) at hx
            have HF := Aside0.mk (or_first j hj (by have := h9.out; omega) HS)
            have HG : ∀ w', Aside0 (Two w w' (D.drop (j + 1), 100) g (.slice (some ad) D.length cw) D → _) := fun w' => ⟨or_gone j hj HD.out (by have := h9.out; omega)⟩
            clear hq HS hj
            generalize rd D (j : Int) = x at hx HF HG
            have e3 : (x != x) = false := by simp
            go_wp2_with (first
              | (go_at_call 19; refine HF.out.mono ?_; rintro e w' ⟨rfl, HS2⟩; clear HF)
              | (go_at_call 18; refine ((HG _).out HS2).mono ?_; rintro e w' ⟨rfl, HS3⟩; clear HS2))
            go_roundg (gk - 1)
            case measure => have := HJ.out; have := h9.out; have := HI.out; omega
            case rel => exact ⟨j + 1, by rw [w64_in _ (by have := h9.out; have := HI.out; omega)]; rfl, ⟨by have := HI.out; omega, by have := HJ.out; have := h9.out; have := HI.out; omega⟩, HS3⟩
          · have e1 : decide ((j : Int) < (D.length : Int)) = false := decide_eq_false (by omega)
            have e1' : ¬ j < D.length := hj
            have e1'' : decide (j < D.length) = false := decide_eq_false hj
            rw [List.drop_eq_nil_of_le (by omega)] at HS
            clear hj
            go_wp2_with (first
              | (go_at_call 19; refine (first_none_two HS).mono ?_; rintro e w' ⟨rfl, HS2⟩; clear HS)
              | (go_at_call 21; refine (all_two HS2 (by decide)).mono ?_; rintro e w' ⟨A3, c3, rfl, HS3⟩; clear HS2))
            go_ret
            exact ⟨rfl, HS3.below⟩
      · have HX := Aside0.mk hb
        clear hb
        go_wp2_with (first
          | (go_at_call 18; refine (or_place_out back HX.out (by have := h9.out; omega) HS).mono ?_; rintro e w' ⟨rfl, HS1⟩; clear HS)
          | (go_at_call 20; refine (or_back back HX.out h9.out HS1).mono ?_; rintro e w' ⟨rfl, HS2⟩; clear HS1)
          | (go_at_call 18; refine (or_place_head back h9.out HS2).mono ?_; rintro e w3 ⟨rfl, HS3⟩; clear HS2)
          | ((with_reducible refine gate_builtin (b := .append) (xs := #[.tmp 72, .tmp 73]) rfl ?_); at_builtin; have hrd := two_reads HS3; obtain ⟨A', c', he', hC'⟩ := hrd; cases he'; refine Kd.R_append_rows (Kd.int .i64) (Rr := fun x cs => cs = [Value.int .i64 x]) (w0 := w) w.heap.size rfl (.tmp 72) (.tmp 73) 33 3 (.int .i64 0) 8 rfl Try.underlying33 info3 rfl (by decide) (by omega) (.slice (some ⟨w3.heap.size, 0, none⟩) 1 1) [back] D A1 D.length cw (fun k => w3.heap.size ≤ k) (fun _ => False) rfl rfl ?aO ?aR (fun _ _ h => h) (fun _ e => e.elim) ?aF ?aB ?aS ?aL ?_; (case aO => exact lit_R HS3.below.size back); (case aR => exact Kd.C_alloc hC' _); (case aF => exact (fun k hk => Nat.le_trans (below_alloc (Below.refl w3.heap.size w3) (.cells #[.int .i64 back] 3)).size hk)); (case aB => exact below_alloc HS3.below _); (case aS => exact Nat.le_trans HS3.below.size (below_alloc (Below.refl w3.heap.size w3) (.cells #[.int .i64 back] 3)).size); (case aL => have := h9.out; rw [List.length_singleton]; omega); intro v1 w1 hQ1 hB1 hG1 _; obtain ⟨E, hE⟩ : ∃ E, E = [back] ++ D := ⟨_, rfl⟩; rw [← hE] at hQ1; have HS4 := two_fresh HS3 ((Stay.refl _ w3).alloc _) hG1 (Kd.Q_of_R hQ1); rw [show back :: D = E from hE.symm] at HS4; have h8 : Aside0 (E.length ≤ 91) := ⟨by have := h9.out; rw [hE, List.length_append, List.length_singleton]; omega⟩; have HE : Aside0 E.Nodup := ⟨by rw [hE]; exact List.nodup_cons.2 ⟨HX.out, HD.out⟩⟩; obtain ⟨A2, c2, rfl⟩ := Kd.R_slice hQ1; clear hQ1 hB1 hG1 HS3 hC' hE HX))
        clear d1 d1' d1''
        go_loopg [77] 200 (fun kq v77 w' => ∃ j : Nat, v77 = .int .i64 j ∧ Aside0 (j ≤ E.length ∧ j + kq = 200) ∧ Two w w' (E.drop j, 100) g (.slice A2 E.length c2) E)
        case atStart => exact ⟨0, rfl, ⟨by omega, by omega⟩, HS4⟩
        case round =>
          clear HS4
          obtain ⟨j, rfl, HJ, HS⟩ := hrel
          by_cases hj : j < E.length
          · have e1 : decide ((j : Int) < (E.length : Int)) = true := decide_eq_true (by omega)
            have p1 : 0 ≤ (j : Int) := by omega
            have q1 : (j : Int) < (E.length : Int) := by omega
            have HI : Aside0 (j < E.length) := ⟨hj⟩
            obtain ⟨P, R, _, _, _, _, hq⟩ := HS.own
            obtain ⟨ad, ea, hx⟩ := Kd.at_int (Kd.Q_reads' hq).2.2 (j : Int) p1 q1
            cases ea
            rw [Int.toNat_natCast] at hx
            change _ = some (Value.int .i64 (rd E (j : Int))) at hx
            have HF := Aside0.mk (or_first j hj (by have := h8.out; omega) HS)
            have HG : ∀ w', Aside0 (Two w w' (E.drop (j + 1), 100) g (.slice (some ad) E.length c2) E → _) := fun w' => ⟨or_gone j hj HE.out (by have := h8.out; omega)⟩
            clear hq HS hj
            generalize rd E (j : Int) = x at hx HF HG
            have e3 : (x != x) = false := by simp
            go_wp2_with (first
              | (go_at_call 19; refine HF.out.mono ?_; rintro e w' ⟨rfl, HS2⟩; clear HF)
              | (go_at_call 18; refine ((HG _).out HS2).mono ?_; rintro e w' ⟨rfl, HS5⟩; clear HS2))
            go_roundg (gk - 1)
            case measure => have := HJ.out; have := h8.out; have := HI.out; omega
            case rel => exact ⟨j + 1, by rw [w64_in _ (by have := h8.out; have := HI.out; omega)]; rfl, ⟨by have := HI.out; omega, by have := HJ.out; have := h8.out; have := HI.out; omega⟩, HS5⟩
          · have e1 : decide ((j : Int) < (E.length : Int)) = false := decide_eq_false (by omega)
            have e1' : ¬ j < E.length := hj
            have e1'' : decide (j < E.length) = false := decide_eq_false hj
            rw [List.drop_eq_nil_of_le (by omega)] at HS
            clear hj
            go_wp2_with (first
              | (go_at_call 19; refine (first_none_two HS).mono ?_; rintro e w' ⟨rfl, HS2⟩; clear HS)
              | (go_at_call 21; refine (all_two HS2 (by decide)).mono ?_; rintro e w' ⟨A3, c3, rfl, HS5⟩; clear HS2))
            go_ret
            exact ⟨rfl, HS5.below⟩
theorem order_calls (A : Option Addr) (l : List Int) (c : Nat) (back : Int) (w : World) (hC : Kd.C (Kd.int .i64) w A l.length l) :
    Calls Try.prog 5 #[.slice A l.length c, .int .i64 back] w fun e w' => e = .returned (.bool true) ∧ Below w.heap.size w w' := by
  by_cases h : l.length ≤ 60
  · exact order_short A l c back w h hC
  · exact order_long A l.length c back w (by omega)
end Go.Proofs.Ytohphkdemonlkaa.Qw
