/- TableShrinks: the walk. -/
import Derived.Test.YtohphkdemonlkaaTAdds
import Derived.Test.YtohphkdemonlkaaXQtx5
import Derived.Deep.RegionHeld3
namespace Go.Proofs.Ytohphkdemonlkaa.Tw
open Go.RowKit Go.Lib Go.Proofs.Ytohphkdemonlkaa.XQt Go.Proofs.YtohphkdemonlkaaW.PrintWords Go.Proofs.YtohphkdemonlkaaW.PrintLast Go.Proofs.YtohphkdemonlkaaW.PrintMore Go.Proofs.Ytohphkdemonlkaa.Ob
attribute [local go_sem high] eqA54

theorem shr_all (most : Int) (l : List S54) (h : total l ≤ most) : shr most l l.length = l.length := by
  rcases hn : l.length with _ | n
  · rfl
  · unfold shr
    rw [if_neg]
    rw [List.take_of_length_le (by omega)]
    omega
theorem shr_next (most : Int) (l : List S54) : ∀ n, shr most l n < n → total (l.take (shr most l n + 1)) > most
  | 0, h => absurd h (Nat.lt_irrefl 0)
  | n + 1, h => by
    unfold shr at h ⊢
    by_cases hc : total (l.take (n + 1)) > most
    · rw [if_pos hc] at h ⊢
      rcases Nat.lt_or_ge (shr most l n) n with h2 | h2
      · exact shr_next most l n h2
      · have := shr_le most l n
        rw [show shr most l n = n by omega]
        exact hc
    · rw [if_neg hc] at h
      exact absurd h (Nat.lt_irrefl _)
theorem same_fields_l0 (l : List S54) (hl : l.length ≤ 1000000000) : ∀ (k i : Nat), i ≤ l.length → l.length - i < k → bywashbook_SameFields.l0 k l l (i : Int) = some true := by
  intro k
  induction k with
  | zero => exact fun i _ h => absurd h (Nat.not_lt_zero _)
  | succ k ih =>
    intro i hi h
    simp only [bywashbook_SameFields.l0]
    by_cases hlt : i < l.length
    · rw [if_pos (by omega), if_pos (by omega), if_pos (by omega), if_pos (by simp), w64_in ((i : Int) + 1) (by omega)]
      exact ih (i + 1) hlt (by omega)
    · rw [if_neg (by omega)]
theorem same_fields_f (l : List S54) (hl : l.length ≤ 1000000000) : bywashbook_SameFields.f (l.length + 1) l l = some true := by
  unfold bywashbook_SameFields.f
  rw [if_pos rfl]
  exact same_fields_l0 l hl _ 0 (Nat.zero_le _) (by omega)
theorem TOwn.lt {w0 w : World} {l : List S54} {s : Int} {g : Nat} (h : TOwn w0 w l s g) : g < w.heap.size := by
  obtain ⟨g', A, c, he, hbg, hok, hg, _⟩ := tk_open h.m
  obtain rfl : g = g' := by simpa using he
  exact blk_lt hg
/-- A row of All's, kept where the table's own block alone is turned. -/
theorem row_stay {w w1 : World} {B g : Nat} {v : Value} {l : List S54} (h : k54.R 54 w B (fun k => B ≤ k) v l) (hg : g < B) (hs : Stay (fun k => k = g) w w1) : k54.R 54 w1 B (fun k => B ≤ k) v l :=
  Kd.R_step h (fun k hk hlt => hs.block k hlt (by omega))
set_option maxHeartbeats 1600000 in
theorem shrinks_off (A : Option Addr) (n c : Nat) (s m2 : Int) (w : World) (hg : (n : Int) > 30 ∨ s < 0 ∨ s > 512 ∨ m2 < s ∨ m2 > 512) :
    Calls Try.prog 13 #[.slice A n c, .int .i64 s, .int .i64 m2] w fun e w' => e = .returned (.bool true) ∧ Below w.heap.size w w' := by
  have HA := Aside0.mk (alive_calls w)
  by_cases c1 : (n : Int) > 30
  · have d1 : decide ((n : Int) > 30) = true := decide_eq_true c1
    have d1a : decide (n > 30) = true := decide_eq_true (by omega)
    clear hg c1
    go_enter Try.func13, Try.ntmps13
    go_wp2_with (go_at_call 25; refine HA.out.mono ?_; rintro e w' ⟨rfl, hb⟩)
    go_ret
    exact ⟨rfl, hb⟩
  · have d1 : decide ((n : Int) > 30) = false := decide_eq_false c1
    have d1a : decide (n > 30) = false := decide_eq_false (by omega)
    by_cases c2 : s < 0
    · have d2 : decide (s < 0) = true := decide_eq_true c2
      clear hg c1 c2
      go_enter Try.func13, Try.ntmps13
      go_wp2_with (go_at_call 25; refine HA.out.mono ?_; rintro e w' ⟨rfl, hb⟩)
      go_ret
      exact ⟨rfl, hb⟩
    · have d2 : decide (s < 0) = false := decide_eq_false c2
      by_cases c3 : s > 512
      · have d3 : decide (s > 512) = true := decide_eq_true c3
        clear hg c1 c2 c3
        go_enter Try.func13, Try.ntmps13
        go_wp2_with (go_at_call 25; refine HA.out.mono ?_; rintro e w' ⟨rfl, hb⟩)
        go_ret
        exact ⟨rfl, hb⟩
      · have d3 : decide (s > 512) = false := decide_eq_false c3
        by_cases c4 : m2 < s
        · have d4 : decide (m2 < s) = true := decide_eq_true c4
          clear hg c1 c2 c3 c4
          go_enter Try.func13, Try.ntmps13
          go_wp2_with (go_at_call 25; refine HA.out.mono ?_; rintro e w' ⟨rfl, hb⟩)
          go_ret
          exact ⟨rfl, hb⟩
        · have d4 : decide (m2 < s) = false := decide_eq_false c4
          have d5 : decide (m2 > 512) = true := decide_eq_true (by omega)
          clear hg c1 c2 c3 c4
          go_enter Try.func13, Try.ntmps13
          go_wp2_with (go_at_call 25; refine HA.out.mono ?_; rintro e w' ⟨rfl, hb⟩)
          go_ret
          exact ⟨rfl, hb⟩
theorem used_same {w0 w : World} {l : List S54} {s : Int} {g : Nat} (h : TOwn w0 w l s g) : Calls Try.prog 29 #[.pointer (some ⟨g, 0, none⟩)] w fun e w' => e = .returned (.int .i64 (total l)) ∧ w' = w := by
  obtain ⟨g', A, c, he, hbg, hok, hg, hc, hQ⟩ := tk_open h.m
  obtain rfl : g = g' := by simpa using he
  have h0 : w.cell? ⟨g, 2, none⟩ = some (.int .i64 (total l)) := by simp [World.cell?, hg]
  clear hQ hg hc he hok hbg h
  go_enter Try.func29, Try.ntmps29
  go_wp2
  go_ret
  exact ⟨rfl, rfl⟩
set_option maxHeartbeats 6400000 in
set_option maxRecDepth 20000 in
theorem shrinks_on (A : Option Addr) (l : List S54) (c : Nat) (s m2 : Int) (w : World) (hs : 0 ≤ s ∧ s ≤ 512 ∧ s ≤ m2 ∧ m2 ≤ 512) (hn : l.length ≤ 30) (hC : k54.C w A l.length l) (hS : Small l) :
    Calls Try.prog 13 #[.slice A l.length c, .int .i64 s, .int .i64 m2] w fun e w' => e = .returned (.bool true) ∧ Below w.heap.size w w' := by
  have d1 : decide ((l.length : Int) > 30) = false := decide_eq_false (by omega)
  have d1a : decide (l.length > 30) = false := decide_eq_false (by omega)
  have d2 : decide (s < 0) = false := decide_eq_false (by omega)
  have d3 : decide (s > 512) = false := decide_eq_false (by omega)
  have d4 : decide (m2 < s) = false := decide_eq_false (by omega)
  have d5 : decide (m2 > 512) = false := decide_eq_false (by omega)
  have HA := Aside0.mk (alive_calls w)
  have HN := Aside0.mk hn
  have HC := Aside0.mk hC
  have HS := Aside0.mk hS
  have HSZ := Aside0.mk hs
  clear hn hs hC hS
  go_enter Try.func13, Try.ntmps13
  go_wp2_with (first
    | (go_at_call 25; refine HA.out.mono ?_; rintro e w1 ⟨rfl, hb⟩; have HB := Aside0.mk hb; clear hb)
    | (go_at_call 26; refine (new_own HB.out 512 (by decide)).mono ?_; rintro e w2 ⟨g, rfl, ht⟩; have HT := Aside0.mk ht; clear ht))
  clear d1 d1a d2 d3 d4 d5
  go_loopg [43] 100 (fun kq v43 w' => ∃ i : Nat, v43 = .int .i64 i ∧ Aside0 (i ≤ l.length ∧ i + kq = 100) ∧ Aside0 (TOwn w w' (adds 512 (l.take i)) 512 g))
  case atStart => exact ⟨0, rfl, ⟨by omega, by omega⟩, ⟨HT.out⟩⟩
  case round =>
    clear HT
    obtain ⟨i, rfl, HJ, HT⟩ := hrel
    by_cases hi : i < l.length
    · have HI := Aside0.mk hi
      have e1 : decide ((i : Int) < (l.length : Int)) = true := decide_eq_true (by omega)
      obtain ⟨ad, hA, k0, k1⟩ := elem_at HC.out HT.out.below i hi
      subst hA
      have hsm := small_at HS.out i hi
      have had := adds_snoc 512 l i hi
      have p1 : (0 : Int) ≤ (i : Int) := by omega
      have p2 : (i : Int) < (l.length : Int) := by omega
      generalize hxl : l[i] = x at k0 k1 hsm had
      have HXL : Aside0 (∀ h : i < l.length, l[i] = x) := ⟨fun _ => hxl⟩
      clear hxl
      have HAD := Aside0.mk had
      have hw : wrap64 ((x.f0.size : Int) + x.f1.size) = (x.f0.size : Int) + x.f1.size := w64_in ((x.f0.size : Int) + x.f1.size) (by omega)
      clear hi had
      by_cases hx : (x.f0.size : Int) + x.f1.size > 200
      · have e2 : decide ((x.f0.size : Int) + x.f1.size > 200) = true := decide_eq_true hx
        clear hx hsm
        go_wp2
        go_ret
        exact ⟨rfl, below_alloc HT.out.below _⟩
      · have e2 : decide ((x.f0.size : Int) + x.f1.size > 200) = false := decide_eq_false hx
        have HX : Aside0 (cost x ≤ 200 + 32) := ⟨by unfold cost; omega⟩
        clear hx hsm
        go_wp2_with (go_at_call 27; refine (add_own (HT.out.below_ (below_alloc (Below.refl _ _) (.cells #[.string x.f0, .string x.f1] 54))) x (by have := HX.out; omega)).mono ?_; rintro e w3 ⟨rfl, ht3⟩; rw [← HAD.out] at ht3; have HT3 := Aside0.mk ht3; clear ht3)
        go_roundg (gk - 1)
        case measure => have := HJ.out; have := HN.out; have := HI.out; omega
        case rel => exact ⟨i + 1, by rw [w64_in ((i : Int) + 1) (by have := HN.out; have := HI.out; omega)]; rfl, ⟨by have := HI.out; omega, by have := HJ.out; have := HN.out; have := HI.out; omega⟩, ⟨HT3.out⟩⟩
    · have e1 : decide ((i : Int) < (l.length : Int)) = false := decide_eq_false (by omega)
      have e1' : ¬ i < l.length := hi
      have e1'' : decide (i < l.length) = false := decide_eq_false hi
      have hil : i = l.length := by have := HJ.out.1; omega
      clear hi

      clear hil
      generalize adds 512 (l.take i) = D at HT
      have HDL := Aside0.mk HT.out.len
      have HRM := Aside0.mk HT.out.room
      have hnl := shr_le s D D.length
      have hnx := shr_next s D D.length
      generalize hn : shr s D D.length = n at hnl hnx
      have HN2 := Aside0.mk hn
      have htl : (D.take n).length = n := by rw [List.length_take]; omega
      have hget : ∀ k (h1 : k < (D.take n).length) (h2 : k < D.length), (D.take n)[k] = D[k] := fun k h1 h2 => by simp
      have hsucc : ∀ h : n < D.length, total (D.take (n + 1)) = total (D.take n) + cost D[n] := fun h => total_take_succ D n h
      generalize hE : D.take n = E at htl hget hsucc
      obtain rfl : n = E.length := htl.symm
      have HE := Aside0.mk hE
      have HLE := Aside0.mk hnl
      have g1 : decide ((E.length : Int) > (D.length : Int)) = false := decide_eq_false (by omega)
      have g1a : decide (E.length > D.length) = false := decide_eq_false (by omega)
      have HGET := Aside0.mk hget
      have HGL := Aside0.mk HT.out.lt
      by_cases hb : E.length < D.length
      · have g2 : decide ((E.length : Int) < (D.length : Int)) = true := decide_eq_true (by omega)
        have g2a : decide (E.length < D.length) = true := decide_eq_true (by omega)
        have hov : total E + cost D[E.length] > s := by rw [← hsucc hb]; exact hnx hb
        have HOV : Aside0 (∀ h : E.length < D.length, total E + cost D[E.length] > s) := ⟨fun _ => hov⟩
        have HBN := Aside0.mk hb
        clear hn hnl hnx hget hsucc hE hb hov htl
        go_wp2_with (first
          | (go_at_call 28; refine (all_own HT.out).mono ?_; rintro e w3 ⟨A3, c3, rfl, HR3, hb3⟩; have HT3 := Aside0.mk (HT.out.below_ hb3); clear HT hb3)
          | (go_at_call 33; refine (resize_own HT3.out s (by have := HSZ.out; omega)).mono ?_; rintro e w4 ⟨rfl, ht4, hs4⟩; rw [HN2.out, HE.out] at ht4; have HR4 := Aside0.mk (row_stay HR3.out HGL.out hs4); have HT4 := Aside0.mk ht4; clear HT3 HR3 ht4 hs4)
          | (go_at_call 28; refine (all_own HT4.out).mono ?_; rintro e w5 ⟨A5, c5, rfl, HW5, hb5⟩; have g3 : decide (total E > s) = false := (decide_eq_false (by have := HT4.out.room; omega)); have HR5 := Aside0.mk (Kd.R_below HR4.out hb5); have HG5 := Aside0.mk HT4.out.lt; have HT5 := Aside0.mk (HT4.out.below_ hb5); clear HT4 HR4 hb5))
        obtain ⟨ad, hA, x0, x1⟩ := elem_at (Kd.R_reads' HR5.out).2.2 (Below.refl _ _) E.length HBN.out
        subst hA
        have hbn := HBN.out
        have hov := HOV.out hbn
        have hxD : cost D[E.length] ≤ 512 := by
          have h1 := HT5.out.size
          have h2 : cost D[E.length] ≤ total D := by
            have h3 := total_take_succ D E.length HBN.out
            have h4 := total_take_le D (E.length + 1)
            have h5 := total_nonneg (D.take E.length)
            omega
          have := HRM.out
          omega
        have p1 : (0 : Int) ≤ (E.length : Int) := by omega
        have p2 : (E.length : Int) < (D.length : Int) := by have := HBN.out; omega
        generalize D[E.length] = x at x0 x1 hov hxD
        have htE := total_nonneg E
        have hws : IntKind.i64.wrap (total E + cost x) = total E + cost x := by rw [IntKind.wrap_i64]; have := HT5.out.room; have := HT5.out.size; have := cost_pos x; omega
        have g4 : decide (total E + cost x ≤ s) = false := decide_eq_false (by omega)
        have HX := Aside0.mk hxD
        clear hbn e1 e1' e1''
        have HT6 := Aside0.mk (HT5.out.below_ (w1 := w5.drew) (pw_below_drewN (Below.refl _ _) 1))
        have HR6 := Aside0.mk (Kd.R_drewN HR5.out 1)
        have HW6 := Aside0.mk (Kd.R_drewN HW5.out 1)
        have mixed : Try.prog.follows Departure.mixedOrders = true := by kernel_rfl
        clear hov hxD htE HT5 HR5 HW5
        go_region_held3 (fun w' => w'.cell? (ad.add (E.length * 2)) = some (.string x.f0) ∧ w'.cell? ⟨(ad.add (E.length * 2)).block, (ad.add (E.length * 2)).off + 1, none⟩ = some (.string x.f1))
          (first | exact ⟨x0, x1⟩ | go_keep | assumption)
          (first
          | (go_at_call 29; refine (used_own HT6.out).mono ?_; rintro e w6 ⟨rfl, hb6⟩; have x0 := pw_cell_below hb6 x0; have x1 := pw_cell_below hb6 x1; have HT7 := Aside0.mk (HT6.out.below_ hb6); have HR7 := Aside0.mk (Kd.R_below HR6.out hb6); have HW7 := Aside0.mk (Kd.R_below HW6.out hb6); clear HT6 HR6 HW6 hb6)
          | (go_at_call 29; refine (used_own HT7.out).mono ?_; rintro e w7 ⟨rfl, hb7⟩; have x0 := pw_cell_below hb7 x0; have x1 := pw_cell_below hb7 x1; have HTa := Aside0.mk (HT7.out.below_ hb7); have HRa := Aside0.mk (Kd.R_below HR7.out hb7); have HWa := Aside0.mk (Kd.R_below HW7.out hb7); clear HT7 HR7 HW7 hb7)
          | (go_at_call 30; refine (cost_calls x (by have := HX.out; omega) _).mono ?_; rintro e w8 ⟨rfl, hb8⟩; have x0 := pw_cell_below hb8 x0; have x1 := pw_cell_below hb8 x1; have HT8 := Aside0.mk (HTa.out.below_ hb8); have HR8 := Aside0.mk (Kd.R_below HRa.out hb8); have HW8 := Aside0.mk (Kd.R_below HWa.out hb8); clear HTa HRa HWa hb8))
        go_wp2
        have HEL2 : Aside0 (E.length ≤ 16) := ⟨by have := HT8.out.len; omega⟩
        go_loopg [100] 100 (fun kq v100 w' => ∃ k : Nat, v100 = .int .i64 k ∧ Aside0 (k ≤ E.length ∧ k + kq = 100) ∧ Aside0 (Below w8.heap.size w8 w'))
        case atStart => exact ⟨0, rfl, ⟨by omega, by omega⟩, ⟨Below.refl _ _⟩⟩
        case round =>
          obtain ⟨k, rfl, HJ2, HB2⟩ := hrel
          by_cases hk : k < E.length
          · have HK := Aside0.mk hk
            have f1 : decide ((k : Int) < (E.length : Int)) = true := decide_eq_true (by omega)
            obtain ⟨ad2, hA2, m0, m1⟩ := elem_at (Kd.R_reads' HW8.out).2.2 HB2.out k hk
            cases hA2
            have hkD : k < D.length := Nat.lt_of_lt_of_le hk HLE.out
            obtain ⟨ad3, hA3, j0, j1⟩ := elem_at (Kd.R_reads' HR8.out).2.2 HB2.out k hkD
            cases hA3
            have hek := HGET.out k hk hkD
            have r1 : (0 : Int) ≤ (k : Int) := by omega
            have r2 : (k : Int) < (E.length : Int) := by omega
            have r4 : (k : Int) < (D.length : Int) := by omega
            rw [hek] at m0 m1
            generalize D[k] = y at m0 m1 j0 j1
            clear hk hek hkD
            go_wp2
            go_quiet (fail)
            go_wp2
            go_roundg (gk - 1)
            case measure => have := HJ2.out; have := HEL2.out; have := HK.out; omega
            case rel => exact ⟨k + 1, by rw [w64_in ((k : Int) + 1) (by have := HEL2.out; have := HK.out; omega)]; rfl, ⟨by have := HK.out; omega, by have := HJ2.out; have := HEL2.out; have := HK.out; omega⟩, ⟨by repeat (first | exact HB2.out | apply below_drew1 | apply pw_below_drewN)⟩⟩
          · have f1 : decide ((k : Int) < (E.length : Int)) = false := decide_eq_false (by omega)
            have f1a : ¬ k < E.length := hk
            have f1b : decide (k < E.length) = false := decide_eq_false hk
            have HT9 := Aside0.mk (HT8.out.below_ HB2.out)
            have HW9 := Aside0.mk (Kd.R_below HW8.out HB2.out)
            have e9 : (m2 == m2) = true := by simp
            clear hk
            go_wp2_with (first
              | (go_at_call 33; refine (resize_own HT9.out m2 (by have := HSZ.out; omega)).mono ?_; rintro e w10 ⟨rfl, ht10, hs10⟩; rw [shr_all m2 E (by have := HT9.out.room; have := HSZ.out; omega), List.take_length] at ht10; have HW10 := Aside0.mk (row_stay HW9.out HG5.out hs10); have HT10 := Aside0.mk ht10; clear HT9 HW9 ht10 hs10)
              | (go_at_call 28; refine (all_own HT10.out).mono ?_; rintro e w11 ⟨A11, c11, rfl, HX11, hb11⟩; have HW11 := Aside0.mk (Kd.R_below HW10.out hb11); have HT11 := Aside0.mk (HT10.out.below_ hb11); clear HT10 HW10 hb11)
              | (go_at_call 41; refine (bywashbook_SameFields.calls (E.length + 1) _ _ E _ _ E true _ (Kd.R_reads' HX11.out).2.2 (Kd.R_reads' HX11.out).2.1 (Kd.R_reads' HW11.out).2.2 (Kd.R_reads' HW11.out).2.1 (same_fields_f E (by have := HEL2.out; omega))).mono ?_; rintro e w12 ⟨rfl, ⟨nd12, rfl⟩⟩; have hb12 := pw_below_drewN (Below.refl w11.heap.size w11) nd12; have HT12 := Aside0.mk (HT11.out.below_ hb12); clear HT11 hb12)
              | (go_at_call 34; refine (size_own HT12.out).mono ?_; rintro e w13 ⟨rfl, hb13⟩; have HT13 := Aside0.mk (HT12.out.below_ hb13); clear HT12 hb13))
            go_ret
            exact ⟨rfl, HT13.out.below⟩
      · have g2 : decide ((E.length : Int) < (D.length : Int)) = false := decide_eq_false (by omega)
        have g2a : decide (E.length < D.length) = false := decide_eq_false (by omega)
        clear hn hnl hnx hget hsucc hE hb htl
        go_wp2_with (first
          | (go_at_call 28; refine (all_own HT.out).mono ?_; rintro e w3 ⟨A3, c3, rfl, HR3, hb3⟩; have HT3 := Aside0.mk (HT.out.below_ hb3); clear HT hb3)
          | (go_at_call 33; refine (resize_own HT3.out s (by have := HSZ.out; omega)).mono ?_; rintro e w4 ⟨rfl, ht4, hs4⟩; rw [HN2.out, HE.out] at ht4; have HR4 := Aside0.mk (row_stay HR3.out HGL.out hs4); have HT4 := Aside0.mk ht4; clear HT3 HR3 ht4 hs4)
          | (go_at_call 28; refine (all_own HT4.out).mono ?_; rintro e w5 ⟨A5, c5, rfl, HW5, hb5⟩; have g3 : decide (total E > s) = false := (decide_eq_false (by have := HT4.out.room; omega)); have HR5 := Aside0.mk (Kd.R_below HR4.out hb5); have HG5 := Aside0.mk HT4.out.lt; have HT5 := Aside0.mk (HT4.out.below_ hb5); clear HT4 HR4 hb5))
        clear e1 e1' e1''
        have HU : ∀ n, Aside0 (TOwn w (w5.drewN n) E s g) := fun n => ⟨HT5.out.below_ (pw_below_drewN (Below.refl _ _) n)⟩
        go_quiet (first | (go_at_call 29; exact Calls.quiet_of_same (used_same (HU _).out)))
        have HT8 : Aside0 (TOwn w (w5.drewN nq) E s g) := HU nq
        have HR8 := Aside0.mk (Kd.R_drewN HR5.out nq)
        have HW8 := Aside0.mk (Kd.R_drewN HW5.out nq)
        clear HT5 HR5 HW5 HU
        generalize w5.drewN nq = w8 at HT8 HR8 HW8 ⊢
        go_wp2
        have HEL2 : Aside0 (E.length ≤ 16) := ⟨by have := HT8.out.len; omega⟩
        go_loopg [100] 100 (fun kq v100 w' => ∃ k : Nat, v100 = .int .i64 k ∧ Aside0 (k ≤ E.length ∧ k + kq = 100) ∧ Aside0 (Below w8.heap.size w8 w'))
        case atStart => exact ⟨0, rfl, ⟨by omega, by omega⟩, ⟨Below.refl _ _⟩⟩
        case round =>
          obtain ⟨k, rfl, HJ2, HB2⟩ := hrel
          by_cases hk : k < E.length
          · have HK := Aside0.mk hk
            have f1 : decide ((k : Int) < (E.length : Int)) = true := decide_eq_true (by omega)
            obtain ⟨ad2, hA2, m0, m1⟩ := elem_at (Kd.R_reads' HW8.out).2.2 HB2.out k hk
            cases hA2
            have hkD : k < D.length := Nat.lt_of_lt_of_le hk HLE.out
            obtain ⟨ad3, hA3, j0, j1⟩ := elem_at (Kd.R_reads' HR8.out).2.2 HB2.out k hkD
            cases hA3
            have hek := HGET.out k hk hkD
            have r1 : (0 : Int) ≤ (k : Int) := by omega
            have r2 : (k : Int) < (E.length : Int) := by omega
            have r4 : (k : Int) < (D.length : Int) := by omega
            rw [hek] at m0 m1
            generalize D[k] = y at m0 m1 j0 j1
            clear hk hek hkD
            go_wp2
            go_quiet (fail)
            go_wp2
            go_roundg (gk - 1)
            case measure => have := HJ2.out; have := HEL2.out; have := HK.out; omega
            case rel => exact ⟨k + 1, by rw [w64_in ((k : Int) + 1) (by have := HEL2.out; have := HK.out; omega)]; rfl, ⟨by have := HK.out; omega, by have := HJ2.out; have := HEL2.out; have := HK.out; omega⟩, ⟨by repeat (first | exact HB2.out | apply below_drew1 | apply pw_below_drewN)⟩⟩
          · have f1 : decide ((k : Int) < (E.length : Int)) = false := decide_eq_false (by omega)
            have f1a : ¬ k < E.length := hk
            have f1b : decide (k < E.length) = false := decide_eq_false hk
            have HT9 := Aside0.mk (HT8.out.below_ HB2.out)
            have HW9 := Aside0.mk (Kd.R_below HW8.out HB2.out)
            have e9 : (m2 == m2) = true := by simp
            clear hk
            go_wp2_with (first
              | (go_at_call 33; refine (resize_own HT9.out m2 (by have := HSZ.out; omega)).mono ?_; rintro e w10 ⟨rfl, ht10, hs10⟩; rw [shr_all m2 E (by have := HT9.out.room; have := HSZ.out; omega), List.take_length] at ht10; have HW10 := Aside0.mk (row_stay HW9.out HG5.out hs10); have HT10 := Aside0.mk ht10; clear HT9 HW9 ht10 hs10)
              | (go_at_call 28; refine (all_own HT10.out).mono ?_; rintro e w11 ⟨A11, c11, rfl, HX11, hb11⟩; have HW11 := Aside0.mk (Kd.R_below HW10.out hb11); have HT11 := Aside0.mk (HT10.out.below_ hb11); clear HT10 HW10 hb11)
              | (go_at_call 41; refine (bywashbook_SameFields.calls (E.length + 1) _ _ E _ _ E true _ (Kd.R_reads' HX11.out).2.2 (Kd.R_reads' HX11.out).2.1 (Kd.R_reads' HW11.out).2.2 (Kd.R_reads' HW11.out).2.1 (same_fields_f E (by have := HEL2.out; omega))).mono ?_; rintro e w12 ⟨rfl, ⟨nd12, rfl⟩⟩; have hb12 := pw_below_drewN (Below.refl w11.heap.size w11) nd12; have HT12 := Aside0.mk (HT11.out.below_ hb12); clear HT11 hb12)
              | (go_at_call 34; refine (size_own HT12.out).mono ?_; rintro e w13 ⟨rfl, hb13⟩; have HT13 := Aside0.mk (HT12.out.below_ hb13); clear HT12 hb13))
            go_ret
            exact ⟨rfl, HT13.out.below⟩
theorem shrinks_calls (A : Option Addr) (l : List S54) (c : Nat) (s m2 : Int) (w : World) (hC : k54.C w A l.length l) (hS : Small l) :
    Calls Try.prog 13 #[.slice A l.length c, .int .i64 s, .int .i64 m2] w fun e w' => e = .returned (.bool true) ∧ Below w.heap.size w w' := by
  by_cases h : (l.length : Int) > 30 ∨ s < 0 ∨ s > 512 ∨ m2 < s ∨ m2 > 512
  · exact shrinks_off A l.length c s m2 w h
  · exact shrinks_on A l c s m2 w (by omega) (by omega) hC hS
end Go.Proofs.Ytohphkdemonlkaa.Tw
