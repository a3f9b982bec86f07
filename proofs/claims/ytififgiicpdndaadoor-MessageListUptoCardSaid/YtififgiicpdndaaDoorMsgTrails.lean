/- MessageTrailers. -/
import Derived.Test.YtififgiicpdndaaDoorMsgEarly
namespace Go.Proofs.YtififgiicpdndaaDoor.Fw
open Go.RowKit Go.Proofs.YtififgiicpdndaaDoor.XMi Go.Proofs.YtififgiicpdndaaDoorW.PrintWords Go.Proofs.YtififgiicpdndaaDoorW.PrintLast Go.Proofs.YtififgiicpdndaaDoorW.PrintMore Go.Proofs.YtififgiicpdndaaDoor.Ms Go.Proofs.YtififgiicpdndaaDoor.Ob
theorem same_l0 (l : List S30) (hl : l.length ≤ 1000000) : ∀ (rest pre : List S30) (k : Nat), l = pre ++ rest → rest.length + 1 ≤ k → bywashbook_SameFields.l0 k l l (pre.length : Int) = some true
  | [], pre, k, e, hk => by
    obtain ⟨k, rfl⟩ : ∃ m, k = m + 1 := ⟨k - 1, by omega⟩
    unfold bywashbook_SameFields.l0
    rw [if_neg (by rw [e, List.append_nil]; omega)]
  | f :: rest, pre, k, e, hk => by
    obtain ⟨k, rfl⟩ : ∃ m, k = m + 1 := ⟨k - 1, by omega⟩
    have hp : pre.length < l.length := by rw [e]; simp
    have ih := same_l0 l hl rest (pre ++ [f]) k (by rw [e]; simp) (by simp at hk; omega)
    rw [List.length_append, List.length_singleton] at ih
    unfold bywashbook_SameFields.l0
    rw [if_pos (by omega), if_pos (by omega), if_pos (by omega), if_pos (by simp), w64_next _ (by omega)]
    exact ih
theorem same_eq (l : List S30) (hl : l.length ≤ 1000000) : bywashbook_SameFields.f (l.length + 1) l l = some true := by
  unfold bywashbook_SameFields.f
  rw [if_pos rfl]
  exact same_l0 l hl l [] _ rfl (Nat.le_refl _)
theorem same_l {A B : Option Addr} {l : List S30} {c d : Nat} {w : World} (h1 : k30.C w A l.length l ∧ l.length ≤ c) (h2 : k30.C w B l.length l ∧ l.length ≤ d) (hl : l.length ≤ 100000) : Calls Tryd.prog 18 #[.slice A l.length c, .slice B l.length d] w fun e w' => e = .returned (.bool true) ∧ Below w.heap.size w w' :=
  (bywashbook_SameFields.calls (l.length + 1) A c l B d l true w h1.1 h1.2 h2.1 h2.2 (same_eq l (by omega))).mono fun e w' h => ⟨h.1, h.2.below⟩
theorem same_n {A B : Option Addr} {l : List S30} {c d : Nat} {w : World} (h1 : k30.C w A 0 []) (h2 : k30.C w B l.length l ∧ l.length ≤ d) (hl : l ≠ []) : Calls Tryd.prog 18 #[.slice A 0 c, .slice B l.length d] w fun e w' => e = .returned (.bool false) ∧ Below w.heap.size w w' :=
  (bywashbook_SameFields.calls 1 A c [] B d l false w h1 (Nat.zero_le _) h2.1 h2.2 (by
    unfold bywashbook_SameFields.f
    rw [if_neg (by have := List.length_pos_iff.2 hl; simp; omega)])).mono fun e w' h => ⟨h.1, h.2.below⟩
theorem trailsR_c {w : World} {g : Nat} {s : MS} {Af At : Option Addr} {cf ct : Nat} (h : Rd w g s Af cf At ct) {l : List S30} (he : s.a.trails = l) (hl : l.length ≤ 100000) : Calls Tryd.prog 24 #[.pointer (some ⟨g, 0, none⟩)] w fun e w' => ∃ A' c', e = .returned (.slice A' l.length c') ∧ FR w' w.heap.size A' l.length c' l ∧ Below w.heap.size w w' := by
  have k3 := h.k3
  have k30 := h.rt
  rw [he] at k3 k30
  have HC := Aside0.mk (clone_c (c := ct) (k30.c (by omega)).1 hl)
  clear h he k30 hl
  go_enter Tryd.func24, Tryd.ntmps24
  go_wp2_with (first
    | (go_at_call 27; refine HC.out.mono ?_; rintro e w1 ⟨A', c', rfl, hF, hb⟩; have HF := Aside0.mk hF; have HB := Aside0.mk hb; clear hF hb HC))
  go_ret
  exact ⟨A', c', rfl, HF.out, HB.out⟩
def tr1 : MS := ⟨getB, ⟨200, [], [], -1, 0, false⟩, false⟩
def tr2 (n : Int) : MS := ⟨getB, ⟨200, [], [], -1, 0 + n, false⟩, false⟩
def trB (n : Int) : MS := ⟨getB, ⟨200, [], [], -1, 0 + n, false⟩, true⟩
def trD (n : Int) (l : List S30) : MS := ⟨getB, ⟨200, [], l, -1, 0 + n, true⟩, false⟩
theorem tr_s1 : headP (newP ⟨#[71, 69, 84]⟩) false al200 = (0, tr1) := by kernel_rfl
theorem tr_long (m : ByteArray) (s : Int) (f t : List S30) (n : Int) (d fin : Bool) : longP m ⟨s, f, t, -1, n, d⟩ fin = true := by
  unfold longP
  rw [if_pos (.inl (show (-1 : Int) < 0 by decide))]
theorem tr_told (s : MS) (t : List S30) (n : Int) (d fin : Bool) : toldP s ⟨200, [], t, -1, n, d⟩ fin 0 = (0, { s with a := ⟨200, [], t, -1, n, fin⟩ }) := by
  unfold toldP
  rw [if_neg (fun h => h rfl), tr_long, if_pos rfl]
theorem tr_s2 (n : Int) (h : ¬ n < 0) : dataP tr1 n false = (0, tr2 n) := by
  unfold dataP
  rw [if_neg (show ¬ overP tr1 = true from Bool.false_ne_true), if_neg (show ¬ (tr1.a.status = 0) by show ¬ ((200 : Int) = 0); decide), if_neg h]
  exact tr_told tr1 [] (0 + n) false false
theorem tr_head (n : Int) (fin : Bool) (l : List S30) : headP (tr2 n) fin l = toldP (tr2 n) ⟨200, [], l, -1, 0 + n, false⟩ fin (if fin then trailQ l else 11) := by
  unfold headP
  rw [if_neg (show ¬ overP (tr2 n) = true from Bool.false_ne_true), if_pos (show (tr2 n).a.status > 0 by show (200 : Int) > 0; decide)]
  rfl
theorem tr_open (n : Int) (l : List S30) : headP (tr2 n) false l = (11, trB n) := by
  rw [tr_head]
  unfold toldP
  rw [if_neg Bool.false_ne_true, if_pos (by decide)]
  rfl
theorem tr_bad (n : Int) (l : List S30) (h : ¬ trailQ l = 0) : headP (tr2 n) true l = (trailQ l, trB n) := by
  rw [tr_head, if_pos rfl]
  unfold toldP
  rw [if_pos h]
  rfl
theorem tr_good (n : Int) (l : List S30) (h : trailQ l = 0) : headP (tr2 n) true l = (0, trD n l) := by
  rw [tr_head, if_pos rfl, h]
  exact tr_told (tr2 n) l (0 + n) false true
set_option maxHeartbeats 3200000 in
set_option maxRecDepth 20000 in
theorem trails_calls (A : Option Addr) (l : List S30) (c : Nat) (n : Int) (en : Bool) (w : World) (hC : k30.C w A l.length l) (hS : Small l c) :
    Calls Tryd.prog 9 #[.slice A l.length c, .int .i64 n, .bool en] w fun e w' => e = .returned (.bool true) ∧ Below w.heap.size w w' := by
  have hr := reachBytes_lt
  have HFW := Aside0.mk (few_c hC hS.cap (by have := hS.len; omega) hS.sz)
  have HB := Aside0.mk (Below.refl w.heap.size w)
  have HC := Aside0.mk hC
  by_cases g0 : fewP l = false
  · rw [g0] at HFW
    clear g0 hr hC hS
    go_enter Tryd.func9, Tryd.ntmps9
    go_wp2_with (first
      | (go_at_call 22; refine HFW.out.mono ?_; rintro e w1 ⟨rfl, hb⟩; have HB1 := Aside0.mk (below_step HB.out hb); clear hb HB HFW)
      | (go_at_call 10; refine (alive_c _).mono ?_; rintro e w2 ⟨rfl, hb⟩; have HB2 := Aside0.mk (below_step HB1.out hb); clear hb))
    go_ret
    exact ⟨rfl, HB2.out⟩
  by_cases g1 : n < 0
  · rw [show fewP l = true by simpa using g0] at HFW
    have e1 : decide (n < 0) = true := decide_eq_true g1
    clear g0 g1 hr hC hS
    go_enter Tryd.func9, Tryd.ntmps9
    go_wp2_with (first
      | (go_at_call 22; refine HFW.out.mono ?_; rintro e w1 ⟨rfl, hb⟩; have HB1 := Aside0.mk (below_step HB.out hb); clear hb HB HFW)
      | (go_at_call 10; refine (alive_c _).mono ?_; rintro e w2 ⟨rfl, hb⟩; have HB2 := Aside0.mk (below_step HB1.out hb); clear hb))
    go_ret
    exact ⟨rfl, HB2.out⟩
  by_cases g2 : n > 1000
  · rw [show fewP l = true by simpa using g0] at HFW
    have e1 : decide (n < 0) = false := decide_eq_false g1
    have e2 : decide (n > 1000) = true := decide_eq_true g2
    have e3 : decide (1000 < n) = true := decide_eq_true g2
    clear g0 g1 g2 hr hC hS
    go_enter Tryd.func9, Tryd.ntmps9
    go_wp2_with (first
      | (go_at_call 22; refine HFW.out.mono ?_; rintro e w1 ⟨rfl, hb⟩; have HB1 := Aside0.mk (below_step HB.out hb); clear hb HB HFW)
      | (go_at_call 10; refine (alive_c _).mono ?_; rintro e w2 ⟨rfl, hb⟩; have HB2 := Aside0.mk (below_step HB1.out hb); clear hb))
    go_ret
    exact ⟨rfl, HB2.out⟩
  have hf : fewP l = true := by
    simpa using g0
  have e1 : decide (n < 0) = false := decide_eq_false (by omega)
  have e2 : decide (1000 < n) = false := decide_eq_false (by omega)
  have e3 : decide (n > 1000) = false := decide_eq_false (by omega)
  have HN : Aside0 (0 ≤ n ∧ n ≤ 1000) := ⟨by omega⟩
  rw [hf] at HFW
  obtain ⟨hsz, h40, _⟩ := few_sized hf
  obtain ⟨k, hk⟩ : ∃ k, k = l.length * 8 + 100020 := ⟨_, rfl⟩
  have HTr := Aside0.mk (fun (w' : World) (hC : k30.C w' A l.length l) => bywashref1_TrailerFields.calls k A c l _ w' hC hS.cap (trail_ref k l hsz (by omega)))
  have HS1 := Aside0.mk hsz
  have H40 := Aside0.mk h40
  have HCap := Aside0.mk hS.cap
  have H2 := Aside0.mk (tr_s2 n (by omega))
  have hcase : (en = true ∧ trailQ l = 0) ∨ (∃ q : Int, ¬ q = 0 ∧ headP (tr2 n) en l = (q, trB n) ∧ (if en then trailQ l else 11) = q) := by
    cases en
    · exact .inr ⟨11, by decide, tr_open n l, rfl⟩
    · by_cases h : trailQ l = 0
      · exact .inl ⟨rfl, h⟩
      · exact .inr ⟨trailQ l, h, tr_bad n l h, rfl⟩
  clear g0 g1 g2 hr hC hS hsz h40 hk hf
  rcases hcase with ⟨rfl, ht⟩ | ⟨q, hq, hh, hen⟩
  · have H3 := Aside0.mk (tr_good n l ht)
    rw [ht] at HTr
    clear ht
    go_enter Tryd.func9, Tryd.ntmps9
    go_wp2_with (first
      | (go_at_call 22; refine HFW.out.mono ?_; rintro e w1 ⟨rfl, hb⟩; have HB1 := Aside0.mk (below_step HB.out hb); clear hb HB HFW)
      | (go_at_call 10; refine (alive_c _).mono ?_; rintro e w2 ⟨rfl, hb⟩; have HB2 := Aside0.mk (below_step HB1.out hb); clear hb HB1)
      | (go_at_call 12; refine (new_c ⟨#[71, 69, 84]⟩ _).mono ?_; rintro e w3 ⟨rfl, hr, hb⟩; have HY := Aside0.mk HB2.out.size; have HR3 := Aside0.mk hr; have HB3 := Aside0.mk (below_step HB2.out hb); clear hr hb HB2)
      | (go_at_call 13; refine (head_to (HR3.out.below (below_alloc (Below.refl _ _) _)) tr_s1 (sized_lit (l := al200) (by kernel_rfl)) (lit1 w3 colStatus ⟨#[50, 48, 48]⟩) (Nat.le_refl 1)).mono ?_; rintro e w4 ⟨rfl, ⟨Cf, cf, Ct, ct, hr⟩, hs⟩; have HR4 := Aside0.mk hr; have HB4 := Aside0.mk (stay_b hs (below_alloc HB3.out _) HY.out); clear hr hs HR3 HB3)
      | (go_at_call 20; refine (data_to HR4.out H2.out (by have := HN.out; show -9223372036854775808 ≤ 0 + n ∧ 0 + n ≤ 9223372036854775807; omega)).mono ?_; rintro e w5 ⟨rfl, ⟨Df, df, Dt, dt, hr⟩, hs⟩; have HR5 := Aside0.mk hr; have HB5 := Aside0.mk (stay_b hs HB4.out HY.out); clear hr hs HR4 HB4)
      | (go_at_call 13; refine (head_to HR5.out H3.out HS1.out (Kd.C_below HC.out HB5.out) HCap.out).mono ?_; rintro e w6 ⟨rfl, ⟨Ef, ef, Et, et, hr⟩, hs⟩; have HR6 := Aside0.mk hr; have HB6 := Aside0.mk (stay_b hs HB5.out HY.out); clear hr hs HR5 HB5)
      | (go_at_call 23; refine (HTr.out _ (Kd.C_below HC.out HB6.out)).mono ?_; rintro e w7 ⟨rfl, hb⟩; have HR7 := Aside0.mk (HR6.out.below hb); have HB7 := Aside0.mk (below_step HB6.out hb); clear hb HR6 HB6 HTr)
      | (go_at_call 14; refine (done_c HR7.out).mono ?_; rintro e w8 ⟨rfl, hb⟩; have HR8 := Aside0.mk (HR7.out.below hb); have HB8 := Aside0.mk (below_step HB7.out hb); clear hb HR7 HB7)
      | (go_at_call 24; refine (trailsR_c HR8.out (l := l) rfl (by have := H40.out; omega)).mono ?_; rintro e w9 ⟨A9, c9, rfl, hF, hb⟩; have HF9 := Aside0.mk (FR.c hF (by have := H40.out; omega)); have HB9 := Aside0.mk (below_step HB8.out hb); clear hb hF HR8 HB8)
      | (go_at_call 18; refine (same_l HF9.out ⟨Kd.C_below HC.out HB9.out, HCap.out⟩ (by have := H40.out; omega)).mono ?_; rintro e w10 ⟨rfl, hb⟩; have HB10 := Aside0.mk (below_step HB9.out hb); clear hb HB9 HF9))
    go_ret
    exact ⟨rfl, HB10.out⟩
  · have H3 := Aside0.mk hh
    have q0 : decide (q = 0) = false := decide_eq_false hq
    have q1 : (q == 0) = false := beq_eq_false_iff_ne.2 hq
    have q2 : (q != 0) = true := bne_iff_ne.2 hq
    clear hh
    generalize trailQ l = t at HTr hen
    by_cases hl : l = []
    · subst hl
      have ht : (en = true ∧ t = q) ∨ (en = false ∧ q = 11) := by
        cases en
        · exact .inr ⟨rfl, hen.symm⟩
        · exact .inl ⟨rfl, hen⟩
      clear hen
      rcases ht with ⟨rfl, rfl⟩ | ⟨rfl, rfl⟩
      all_goals
        go_enter Tryd.func9, Tryd.ntmps9
        go_wp2_with (first
          | (go_at_call 22; refine HFW.out.mono ?_; rintro e w1 ⟨rfl, hb⟩; have HB1 := Aside0.mk (below_step HB.out hb); clear hb HB HFW)
          | (go_at_call 10; refine (alive_c _).mono ?_; rintro e w2 ⟨rfl, hb⟩; have HB2 := Aside0.mk (below_step HB1.out hb); clear hb HB1)
          | (go_at_call 12; refine (new_c ⟨#[71, 69, 84]⟩ _).mono ?_; rintro e w3 ⟨rfl, hr, hb⟩; have HY := Aside0.mk HB2.out.size; have HR3 := Aside0.mk hr; have HB3 := Aside0.mk (below_step HB2.out hb); clear hr hb HB2)
          | (go_at_call 13; refine (head_to (HR3.out.below (below_alloc (Below.refl _ _) _)) tr_s1 (sized_lit (l := al200) (by kernel_rfl)) (lit1 w3 colStatus ⟨#[50, 48, 48]⟩) (Nat.le_refl 1)).mono ?_; rintro e w4 ⟨rfl, ⟨Cf, cf, Ct, ct, hr⟩, hs⟩; have HR4 := Aside0.mk hr; have HB4 := Aside0.mk (stay_b hs (below_alloc HB3.out _) HY.out); clear hr hs HR3 HB3)
          | (go_at_call 20; refine (data_to HR4.out H2.out (by have := HN.out; show -9223372036854775808 ≤ 0 + n ∧ 0 + n ≤ 9223372036854775807; omega)).mono ?_; rintro e w5 ⟨rfl, ⟨Df, df, Dt, dt, hr⟩, hs⟩; have HR5 := Aside0.mk hr; have HB5 := Aside0.mk (stay_b hs HB4.out HY.out); clear hr hs HR4 HB4)
          | (go_at_call 13; refine (head_to HR5.out H3.out HS1.out (Kd.C_below HC.out HB5.out) HCap.out).mono ?_; rintro e w6 ⟨rfl, ⟨Ef, ef, Et, et, hr⟩, hs⟩; have HR6 := Aside0.mk hr; have HB6 := Aside0.mk (stay_b hs HB5.out HY.out); clear hr hs HR5 HB5)
          | (go_at_call 23; refine (HTr.out _ (Kd.C_below HC.out HB6.out)).mono ?_; rintro e w7 ⟨rfl, hb⟩; have HR7 := Aside0.mk (HR6.out.below hb); have HB7 := Aside0.mk (below_step HB6.out hb); clear hb HR6 HB6 HTr)
          | (go_at_call 14; refine (done_c HR7.out).mono ?_; rintro e w8 ⟨rfl, hb⟩; have HR8 := Aside0.mk (HR7.out.below hb); have HB8 := Aside0.mk (below_step HB7.out hb); clear hb HR7 HB7)
          | (go_at_call 24; refine (trailsR_c HR8.out (l := []) rfl (by decide)).mono ?_; rintro e w9 ⟨A9, c9, rfl, hF, hb⟩; have HR9 := Aside0.mk (HR8.out.below hb); have HF9 := Aside0.mk (FR.c hF (by decide)); have HB9 := Aside0.mk (below_step HB8.out hb); clear hb hF HR8 HB8)
          | (go_at_call 18; refine (same_l (l := []) HF9.out ⟨Kd.C_below HC.out HB9.out, HCap.out⟩ (by decide)).mono ?_; rintro e w10 ⟨rfl, hb⟩; have HR10 := Aside0.mk (HR9.out.below hb); have HB10 := Aside0.mk (below_step HB9.out hb); clear hb HB9 HF9 HR9)
          | (go_at_call 24; refine (trailsR_c HR10.out (l := []) rfl (by decide)).mono ?_; rintro e w11 ⟨A11, c11, rfl, _, hb⟩; have HB11 := Aside0.mk (below_step HB10.out hb); clear hb HR10 HB10))
        go_ret
        exact ⟨rfl, HB11.out⟩
    · have HL := Aside0.mk hl
      have ht : (en = true ∧ t = q) ∨ (en = false ∧ q = 11) := by
        cases en
        · exact .inr ⟨rfl, hen.symm⟩
        · exact .inl ⟨rfl, hen⟩
      clear hen hl
      rcases ht with ⟨rfl, rfl⟩ | ⟨rfl, rfl⟩
      all_goals
        go_enter Tryd.func9, Tryd.ntmps9
        go_wp2_with (first
          | (go_at_call 22; refine HFW.out.mono ?_; rintro e w1 ⟨rfl, hb⟩; have HB1 := Aside0.mk (below_step HB.out hb); clear hb HB HFW)
          | (go_at_call 10; refine (alive_c _).mono ?_; rintro e w2 ⟨rfl, hb⟩; have HB2 := Aside0.mk (below_step HB1.out hb); clear hb HB1)
          | (go_at_call 12; refine (new_c ⟨#[71, 69, 84]⟩ _).mono ?_; rintro e w3 ⟨rfl, hr, hb⟩; have HY := Aside0.mk HB2.out.size; have HR3 := Aside0.mk hr; have HB3 := Aside0.mk (below_step HB2.out hb); clear hr hb HB2)
          | (go_at_call 13; refine (head_to (HR3.out.below (below_alloc (Below.refl _ _) _)) tr_s1 (sized_lit (l := al200) (by kernel_rfl)) (lit1 w3 colStatus ⟨#[50, 48, 48]⟩) (Nat.le_refl 1)).mono ?_; rintro e w4 ⟨rfl, ⟨Cf, cf, Ct, ct, hr⟩, hs⟩; have HR4 := Aside0.mk hr; have HB4 := Aside0.mk (stay_b hs (below_alloc HB3.out _) HY.out); clear hr hs HR3 HB3)
          | (go_at_call 20; refine (data_to HR4.out H2.out (by have := HN.out; show -9223372036854775808 ≤ 0 + n ∧ 0 + n ≤ 9223372036854775807; omega)).mono ?_; rintro e w5 ⟨rfl, ⟨Df, df, Dt, dt, hr⟩, hs⟩; have HR5 := Aside0.mk hr; have HB5 := Aside0.mk (stay_b hs HB4.out HY.out); clear hr hs HR4 HB4)
          | (go_at_call 13; refine (head_to HR5.out H3.out HS1.out (Kd.C_below HC.out HB5.out) HCap.out).mono ?_; rintro e w6 ⟨rfl, ⟨Ef, ef, Et, et, hr⟩, hs⟩; have HR6 := Aside0.mk hr; have HB6 := Aside0.mk (stay_b hs HB5.out HY.out); clear hr hs HR5 HB5)
          | (go_at_call 23; refine (HTr.out _ (Kd.C_below HC.out HB6.out)).mono ?_; rintro e w7 ⟨rfl, hb⟩; have HR7 := Aside0.mk (HR6.out.below hb); have HB7 := Aside0.mk (below_step HB6.out hb); clear hb HR6 HB6 HTr)
          | (go_at_call 14; refine (done_c HR7.out).mono ?_; rintro e w8 ⟨rfl, hb⟩; have HR8 := Aside0.mk (HR7.out.below hb); have HB8 := Aside0.mk (below_step HB7.out hb); clear hb HR7 HB7)
          | (go_at_call 24; refine (trailsR_c HR8.out (l := []) rfl (by decide)).mono ?_; rintro e w9 ⟨A9, c9, rfl, hF, hb⟩; have HF9 := Aside0.mk (FR.c hF (by decide)).1; have HB9 := Aside0.mk (below_step HB8.out hb); clear hb hF HR8 HB8)
          | (go_at_call 18; refine (same_n HF9.out ⟨Kd.C_below HC.out HB9.out, HCap.out⟩ HL.out).mono ?_; rintro e w10 ⟨rfl, hb⟩; have HB10 := Aside0.mk (below_step HB9.out hb); clear hb HB9 HF9))
        go_ret
        exact ⟨rfl, HB10.out⟩
end Go.Proofs.YtififgiicpdndaaDoor.Fw
