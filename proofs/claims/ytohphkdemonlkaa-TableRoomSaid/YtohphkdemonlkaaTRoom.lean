/- TableRoom: the walk. -/
import Derived.Test.YtohphkdemonlkaaTOx
namespace Go.Proofs.Ytohphkdemonlkaa.Tw
open Go.RowKit Go.Lib Go.Proofs.Ytohphkdemonlkaa.XQt Go.Proofs.YtohphkdemonlkaaW.PrintWords Go.Proofs.YtohphkdemonlkaaW.PrintLast Go.Proofs.YtohphkdemonlkaaW.PrintMore Go.Proofs.Ytohphkdemonlkaa.Ob
attribute [local go_sem high] eqA54

theorem adds_prefix (s : Int) (l : List S54) : ∀ i, i ≤ l.length → ∃ n, n ≤ i ∧ adds s (l.take i) = (l.take i).reverse.take n := by
  intro i
  induction i with
  | zero => exact fun _ => ⟨0, Nat.le_refl _, rfl⟩
  | succ i ih =>
    intro hi
    obtain ⟨n, hn, e⟩ := ih (by omega)
    rw [adds_snoc s l i hi, e]
    by_cases hc : cost l[i] ≤ s
    · unfold addL
      rw [if_pos hc, List.take_take, List.take_succ_eq_append_getElem hi, List.reverse_append]
      generalize shr _ _ _ = q
      exact ⟨min q n + 1, by omega, rfl⟩
    · rw [addL_empty _ _ _ hc]
      exact ⟨0, Nat.zero_le _, rfl⟩
theorem adds_get (s : Int) (l : List S54) (i : Nat) (hi : i < l.length) (k : Nat) (hk : k < (adds s (l.take (i + 1))).length) : k ≤ i ∧ (adds s (l.take (i + 1)))[k] = l[i - k] := by
  obtain ⟨n, hn, e⟩ := adds_prefix s l (i + 1) hi
  have hl : (l.take (i + 1)).length = i + 1 := by rw [List.length_take]; omega
  have hk2 : k < i + 1 := by
    rw [e, List.length_take, List.length_reverse, hl] at hk
    omega
  have he : (adds s (l.take (i + 1)))[k]? = some l[i - k] := by
    have hkn : k < n := by
      rw [e, List.length_take, List.length_reverse, hl] at hk
      omega
    rw [e, List.getElem?_take, if_pos hkn, List.getElem?_reverse (by rw [hl]; exact hk2), hl, List.getElem?_take, if_pos (by omega), show i + 1 - 1 - k = i - k by omega]
    exact List.getElem?_eq_getElem (by omega)
  exact ⟨by omega, by rw [List.getElem?_eq_getElem hk] at he; exact Option.some.inj he⟩
theorem adds_len (s : Int) (l : List S54) (i : Nat) (hi : i < l.length) : (adds s (l.take (i + 1))).length ≤ i + 1 := by
  obtain ⟨n, hn, e⟩ := adds_prefix s l (i + 1) hi
  rw [e, List.length_take]
  omega
theorem adds_some (s : Int) (l : List S54) (i : Nat) (hi : i < l.length) : (0 < (adds s (l.take (i + 1))).length) ↔ cost l[i] ≤ s := by
  rw [adds_snoc s l i hi]
  constructor
  · intro h
    by_cases hc : cost l[i] ≤ s
    · exact hc
    · rw [addL_empty _ _ _ hc] at h
      exact absurd h (Nat.lt_irrefl 0)
  · exact fun hc => addL_some _ _ _ hc
set_option maxHeartbeats 1600000 in
theorem room_off (s : Int) (A : Option Addr) (n c : Nat) (w : World) (hg : s < 0 ∨ s > 512 ∨ (n : Int) > 60) :
    Calls Try.prog 7 #[.int .i64 s, .slice A n c] w fun e w' => e = .returned (.bool true) ∧ Below w.heap.size w w' := by
  have HA := Aside0.mk (alive_calls w)
  by_cases c2 : s < 0
  · have d2 : decide (s < 0) = true := decide_eq_true c2
    clear hg c2
    go_enter Try.func7, Try.ntmps7
    go_wp2_with (go_at_call 25; refine HA.out.mono ?_; rintro e w' ⟨rfl, hb⟩)
    go_ret
    exact ⟨rfl, hb⟩
  · have d2 : decide (s < 0) = false := decide_eq_false c2
    by_cases c3 : s > 512
    · have d3 : decide (s > 512) = true := decide_eq_true c3
      clear hg c2 c3
      go_enter Try.func7, Try.ntmps7
      go_wp2_with (go_at_call 25; refine HA.out.mono ?_; rintro e w' ⟨rfl, hb⟩)
      go_ret
      exact ⟨rfl, hb⟩
    · have d3 : decide (s > 512) = false := decide_eq_false c3
      have d4 : decide ((n : Int) > 60) = true := decide_eq_true (by omega)
      have d4a : decide (n > 60) = true := decide_eq_true (by omega)
      clear hg c2 c3
      go_enter Try.func7, Try.ntmps7
      go_wp2_with (go_at_call 25; refine HA.out.mono ?_; rintro e w' ⟨rfl, hb⟩)
      go_ret
      exact ⟨rfl, hb⟩
set_option maxHeartbeats 3200000 in
set_option maxRecDepth 20000 in
theorem room_on (s : Int) (A : Option Addr) (l : List S54) (c : Nat) (w : World) (hs : 0 ≤ s ∧ s ≤ 512) (hn : l.length ≤ 60) (hC : k54.C w A l.length l) (hS : Small l) :
    Calls Try.prog 7 #[.int .i64 s, .slice A l.length c] w fun e w' => e = .returned (.bool true) ∧ Below w.heap.size w w' := by
  have d2 : decide (s < 0) = false := decide_eq_false (by omega)
  have d3 : decide (s > 512) = false := decide_eq_false (by omega)
  have d4 : decide ((l.length : Int) > 60) = false := decide_eq_false (by omega)
  have d4a : decide (l.length > 60) = false := decide_eq_false (by omega)
  have HA := Aside0.mk (alive_calls w)
  have HN := Aside0.mk hn
  have HC := Aside0.mk hC
  have HS := Aside0.mk hS
  have HSZ := Aside0.mk hs
  clear hn hs hC hS
  go_enter Try.func7, Try.ntmps7
  go_wp2_with (first
    | (go_at_call 25; refine HA.out.mono ?_; rintro e w1 ⟨rfl, hb⟩; have HB := Aside0.mk hb; clear hb)
    | (go_at_call 26; refine (tox_new HB.out s HSZ.out).mono ?_; rintro e w2 ⟨g, rfl, ht⟩; have HT := Aside0.mk ht; clear ht))
  clear d2 d3 d4 d4a
  go_loopg [32] 100 (fun kq v32 w' => ∃ i : Nat, v32 = .int .i64 i ∧ Aside0 (i ≤ l.length ∧ i + kq = 100) ∧ Aside0 (TOx w w' (adds s (l.take i)) s g))
  case atStart => exact ⟨0, rfl, ⟨by omega, by omega⟩, ⟨HT.out⟩⟩
  case round =>
    clear HT
    obtain ⟨i, rfl, HJ, HT⟩ := hrel
    by_cases hi : i < l.length
    · have HI := Aside0.mk hi
      have e1 : decide ((i : Int) < (l.length : Int)) = true := decide_eq_true (by omega)
      obtain ⟨ad, hA, k0, k1⟩ := elem_at HC.out HT.out.below i hi
      subst hA
      have hsm := small_at HS.out i hi
      have had := adds_snoc s l i hi
      have p1 : (0 : Int) ≤ (i : Int) := by omega
      have p2 : (i : Int) < (l.length : Int) := by omega
      generalize hxl : l[i] = x at k0 k1 hsm had
      have HXL : Aside0 (∀ h : i < l.length, l[i] = x) := ⟨fun _ => hxl⟩
      clear hxl
      have HAD := Aside0.mk had
      have hw : wrap64 ((x.f0.size : Int) + x.f1.size) = (x.f0.size : Int) + x.f1.size := w64_in ((x.f0.size : Int) + x.f1.size) (by omega)
      clear hi had
      by_cases hx : (x.f0.size : Int) + x.f1.size > 800
      · have e2 : decide ((x.f0.size : Int) + x.f1.size > 800) = true := decide_eq_true hx
        clear hx hsm
        go_wp2
        go_ret
        exact ⟨rfl, below_alloc HT.out.below _⟩
      · have e2 : decide ((x.f0.size : Int) + x.f1.size > 800) = false := decide_eq_false hx
        have HX : Aside0 (cost x ≤ 800 + 32) := ⟨by unfold cost; omega⟩
        clear hx hsm
        have hil := HI.out
        have hax := HXL.out hil
        have H4 : Aside0 ((adds s (l.take (i + 1))).length ≤ i + 1 ∧ ((0 < (adds s (l.take (i + 1))).length) ↔ cost x ≤ s) ∧ ∀ k (hk : k < (adds s (l.take (i + 1))).length), k ≤ i ∧ (adds s (l.take (i + 1)))[k] = l[i - k]) := ⟨⟨adds_len s l i hil, by rw [← hax]; exact adds_some s l i hil, adds_get s l i hil⟩⟩
        clear hil hax
        generalize hE : adds s (l.take (i + 1)) = E at HAD H4
        have HE := Aside0.mk hE
        clear hE
        have g1 : decide ((E.length : Int) > (i : Int) + 1) = false := decide_eq_false (by have := H4.out.1; omega)
        have g1a : decide (E.length > i + 1) = false := decide_eq_false (by have := H4.out.1; omega)
        have hwi : wrap64 ((i : Int) + 1) = (i : Int) + 1 := w64_in ((i : Int) + 1) (by have := HN.out; have := HI.out; omega)
        obtain ⟨b, hb⟩ : ∃ b, b = decide (cost x ≤ s) := ⟨_, rfl⟩
        have g2 : decide ((E.length : Int) > 0) = b := by rw [hb]; exact decide_eq_decide.2 (by rw [← H4.out.2.1]; omega)
        have g2a : decide (E.length > 0) = b := by rw [hb]; exact decide_eq_decide.2 H4.out.2.1
        have g2b : decide (0 < E.length) = b := g2a
        have g3 : decide (cost x ≤ s) = b := hb.symm
        clear hb
        go_wp2_with (first
          | (go_at_call 27; refine (tox_add HT.out x (by have := HX.out; omega)).mono ?_; rintro e w3 ⟨rfl, ht3, hx3⟩; rw [← HAD.out] at ht3; have g4 : decide (total E > s) = false := decide_eq_false (by have := ht3.room; omega); have HX3 := Aside0.mk hx3; have HT3 := Aside0.mk ht3; clear HT ht3 hx3)
          | (go_at_call 28; refine (tox_all HT3.out).mono ?_; rintro e w4 ⟨A4, c4, rfl, HR4, hb4⟩; have HX4 := Aside0.mk ((hb4.block _ (blk_lt HX3.out)).trans HX3.out); have HT4 := Aside0.mk (HT3.out.below_ hb4); clear HT3 HX3 hb4)
          | (go_at_call 29; refine (tox_used HT4.out).mono ?_; rintro e w5 ⟨rfl, hb5⟩; have HX5 := Aside0.mk ((hb5.block _ (blk_lt HX4.out)).trans HX4.out); have b0 := cells_of_heap HX5.out 0 _ rfl; have b1 := cells_of_heap HX5.out 1 _ rfl; have HT5 := Aside0.mk (HT4.out.below_ hb5); have HR5 := Aside0.mk (Kd.C_below HR4.out hb5); clear HT4 HX4 HR4 hb5)
          | (go_at_call 30; refine (cost_calls x (by have := HX.out; omega) _).mono ?_; rintro e w6 ⟨rfl, hb6⟩; have HT6 := Aside0.mk (HT5.out.below_ hb6); have HR6 := Aside0.mk (Kd.C_below HR5.out hb6); clear HT5 HX5 HR5 hb6))
        have hgk : gk = 100 - i := by have := HJ.out; omega
        subst hgk
        clear g1 g1a g2 g2a g2b g3 b0 b1
        go_loopg [73] 100 (fun kq v73 w' => ∃ k : Nat, v73 = .int .i64 k ∧ Aside0 (k ≤ E.length ∧ k + kq = 100) ∧ Aside0 (Below w6.heap.size w6 w'))
        case atStart => exact ⟨0, rfl, ⟨by omega, by omega⟩, ⟨Below.refl _ _⟩⟩
        case round =>
          obtain ⟨k, rfl, HJ2, HB2⟩ := hrel
          by_cases hk : k < E.length
          · have HK := Aside0.mk hk
            have hel : E.length ≤ 61 := by have := H4.out.1; have := HN.out; have := HI.out; omega
            have HEL := Aside0.mk hel
            obtain ⟨hki, hek⟩ := H4.out.2.2 k hk
            have f1 : decide ((k : Int) < (E.length : Int)) = true := decide_eq_true (by omega)
            have hil := HI.out
            obtain ⟨ad2, hA2, m0, m1⟩ := elem_at HR6.out HB2.out k hk
            subst hA2
            obtain ⟨ad3, hA3, j0, j1⟩ := elem_at HC.out (below_step HT6.out.below HB2.out) (i - k) (by omega)
            cases hA3
            rw [hek] at m0 m1
            have r1 : (0 : Int) ≤ (k : Int) := by omega
            have r2 : (k : Int) < (E.length : Int) := by omega
            generalize l[i - k] = y at m0 m1 j0 j1
            have hw3 : wrap64 ((i : Int) - (k : Int)) = ((i - k : Nat) : Int) := (w64_in ((i : Int) - (k : Int)) (by have := HN.out; omega)).trans (by omega)
            have r4 : ((i - k : Nat) : Int) < (l.length : Int) := by omega
            generalize i - k = q at hw3 j0 j1 r4
            have r3 : (0 : Int) ≤ (q : Int) := by omega
            clear hk hek hki hil hel
            go_wp2
            go_quiet (fail)
            go_wp2
            go_roundg (gk - 1)
            case measure => have := HJ2.out; have := HEL.out; have := HK.out; omega
            case rel => exact ⟨k + 1, by rw [w64_in ((k : Int) + 1) (by have := HEL.out; have := HK.out; omega)]; rfl, ⟨by have := HK.out; omega, by have := HJ2.out; have := HEL.out; have := HK.out; omega⟩, ⟨by repeat (first | exact HB2.out | apply below_drew1 | apply pw_below_drewN)⟩⟩
          · have f1 : decide ((k : Int) < (E.length : Int)) = false := decide_eq_false (by omega)
            have f1a : ¬ k < E.length := hk
            have f1b : decide (k < E.length) = false := decide_eq_false hk
            clear hk
            go_wp2
            go_roundg (100 - i - 1)
            case measure => have := HJ.out; have := HN.out; have := HI.out; omega
            case rel => exact ⟨i + 1, by rw [w64_in ((i : Int) + 1) (by have := HN.out; have := HI.out; omega)]; rfl, ⟨by have := HI.out; omega, by have := HJ.out; have := HN.out; have := HI.out; omega⟩, ⟨by rw [HE.out]; exact HT6.out.below_ HB2.out⟩⟩
    · have e1 : decide ((i : Int) < (l.length : Int)) = false := decide_eq_false (by omega)
      have e1' : ¬ i < l.length := hi
      have e1'' : decide (i < l.length) = false := decide_eq_false hi
      have hil : i = l.length := by have := HJ.out.1; omega
      clear hi
      clear hil
      go_wp2
      go_ret
      exact ⟨rfl, HT.out.below⟩
theorem room_calls (s : Int) (A : Option Addr) (l : List S54) (c : Nat) (w : World) (hC : k54.C w A l.length l) (hS : Small l) :
    Calls Try.prog 7 #[.int .i64 s, .slice A l.length c] w fun e w' => e = .returned (.bool true) ∧ Below w.heap.size w w' := by
  by_cases h : s < 0 ∨ s > 512 ∨ (l.length : Int) > 60
  · exact room_off s A l.length c w h
  · exact room_on s A l c w (by omega) (by omega) hC hS
end Go.Proofs.Ytohphkdemonlkaa.Tw
