/- QueuePlays: the walk. -/
import Derived.Test.YtohphkdemonlkaaQPOne
import Derived.Deep.DeepCutAuto
import Derived.Deep.CutBlock
import Derived.Deep.RegionLaw
import Derived.Deep.RegionHeldLaw
import Derived.BigRegion
namespace Go.Proofs.Ytohphkdemonlkaa.Qp
open Go.RowKit Go.Proofs.Ytohphkdemonlkaa.XQt Go.Proofs.YtohphkdemonlkaaW.PrintWords Go.Proofs.YtohphkdemonlkaaW.PrintLast Go.Proofs.YtohphkdemonlkaaW.PrintMore Go.Proofs.Ytohphkdemonlkaa.Ob Go.Proofs.Ytohphkdemonlkaa.Qw
set_option maxHeartbeats 6400000 in
set_option maxRecDepth 20000 in
theorem plays_off (m : Int) (A : Option Addr) (n c : Nat) (w : World) (hn : 120 < n) :
    Calls Try.prog 4 #[.int .i64 m, .slice A n c] w fun e w' => e = .returned (.bool true) ∧ Below w.heap.size w w' := by
  have e1 : decide ((n : Int) > 120) = true := decide_eq_true (by omega)
  have e2 : decide (120 < n) = true := decide_eq_true hn
  clear hn
  go_enter Try.func4, Try.ntmps4
  go_wp2_with (first
    | (go_at_call 14; refine (alive_calls _).mono ?_; rintro e w1 ⟨rfl, hb⟩; have HB1 := Aside0.mk hb; clear hb))
  go_ret
  exact ⟨rfl, HB1.out⟩
set_option maxHeartbeats 6400000 in
set_option maxRecDepth 20000 in
theorem plays_no (m : Int) (A : Option Addr) (n c : Nat) (w : World) (hn : n ≤ 120) (hm : m < 1) :
    Calls Try.prog 4 #[.int .i64 m, .slice A n c] w fun e w' => e = .returned (.bool true) ∧ Below w.heap.size w w' := by
  have e1 : decide ((n : Int) > 120) = false := decide_eq_false (by omega)
  have e2 : decide (120 < n) = false := decide_eq_false (by omega)
  have HN := Aside0.mk (fun W => new_none m hm W)
  have q1 : decide (m < 1) = true := decide_eq_true hm
  clear hn hm
  go_enter Try.func4, Try.ntmps4
  go_wp2_with (first
    | (go_at_call 14; refine (alive_calls _).mono ?_; rintro e w1 ⟨rfl, hb⟩; have HB1 := Aside0.mk hb; clear hb)
    | (go_at_call 15; refine (HN.out _).mono ?_; rintro e w2 ⟨rfl, hb⟩; have HB2 := Aside0.mk hb; clear hb HN)
    | (go_at_call 19; refine (first_no _).mono ?_; rintro e w3 ⟨rfl, rfl⟩)
    | (go_at_call 16; refine (put_no 1 _).mono ?_; rintro e w3 ⟨rfl, rfl⟩)
    | (go_at_call 20; refine (back_no 1 _).mono ?_; rintro e w3 ⟨rfl, rfl⟩)
    | (go_at_call 17; refine (cut_no 1 _).mono ?_; rintro e w3 ⟨rfl, rfl⟩)
    | (go_at_call 18; refine (place_no 1 _).mono ?_; rintro e w3 ⟨rfl, rfl⟩)
    | (go_at_call 21; refine (all_no _).mono ?_; rintro e w3 ⟨rfl, rfl⟩))
  go_ret
  exact ⟨rfl, HB2.out ▸ HB1.out⟩
set_option maxHeartbeats 51200000 in
set_option maxRecDepth 20000 in
theorem plays_on (m : Int) (A : Option Addr) (os : List OP) (c : Nat) (w : World) (hn : os.length ≤ 120) (hm : 1 ≤ m) (hO : Ops w A os) :
    Calls Try.prog 4 #[.int .i64 m, .slice A os.length c] w fun e w' => e = .returned (.bool true) ∧ Below w.heap.size w w' := by
  have e1 : decide ((os.length : Int) > 120) = false := decide_eq_false (by omega)
  have e2 : decide (120 < os.length) = false := decide_eq_false (by omega)
  have e3 : decide (m < 1) = false := decide_eq_false (by omega)
  have HO := Aside0.mk hO
  have HL := Aside0.mk (And.intro hn hm)
  clear hn hO
  go_enter Try.func4, Try.ntmps4
  go_wp2_with (first
    | (go_at_call 14; refine (alive_calls _).mono ?_; rintro e w1 ⟨rfl, hb⟩; have HB1 := Aside0.mk hb; clear hb)
    | (go_at_call 15; refine (new_calls m HL.out.2 _ 0 (Nat.zero_le _)).mono ?_; rintro e w2 ⟨g, rfl, _, hq, hs⟩; have HP2 := Aside0.mk (qm_start HB1.out hq hs); clear hq hs HB1))
  clear e1 e2 e3 hm
  generalize w2.alloc (.cells #[.slice none 0 0, .slice none 0 0, .slice none 0 0, .slice none 0 0, .slice none 0 0, .slice none 0 0, .slice none 0 0, .slice none 0 0, .slice none 0 0, .slice none 0 0] 42) = W2 at HP2 ⊢
  generalize w2.heap.size = b at HP2 ⊢
  go_loopg [9, 75] (os.length + 1) (fun kq v9 v75 w' => ∃ (j : Nat) (l : List Int) (R : Option Addr) (rc : Nat), v9 = .slice R l.length rc ∧ v75 = .int .i64 j ∧ Aside0 (j + kq = os.length + 1 ∧ 1 ≤ kq) ∧ Aside0 (l.Nodup ∧ l.length ≤ j) ∧ Aside0 (QM w w' b g l m l R rc []))
  case atStart => exact ⟨0, [], none, 0, rfl, rfl, ⟨by omega, by omega⟩, ⟨List.nodup_nil, Nat.le_refl _⟩, HP2⟩
  case round =>
    obtain ⟨j, l, R, rc, rfl, rfl, HJ, HD, HP⟩ := hrel
    by_cases hj : j < os.length
    · have q1 : decide ((j : Int) < (os.length : Int)) = true := decide_eq_true (by omega)
      have q2 : decide (j < os.length) = true := decide_eq_true hj
      obtain ⟨hok, ad, hA, hat⟩ := HO.out.2 j os[j] (List.getElem?_eq_getElem hj)
      have hat2 := op_below hat HP.out.back
      generalize os[j] = o at hok hat2
      obtain ⟨kd, id⟩ := o
      obtain ⟨k0, k1⟩ := hat2
      dsimp only at k0 k1
      have p1 : (0 : Int) ≤ (j : Int) := by omega
      have p2 : (j : Int) < (os.length : Int) := by omega
      have hwj : wrap64 ((j : Int) + 1) = ((j + 1 : Nat) : Int) := Bi.w64_next j (by have := HL.out.1; omega)
      have HWJ := Aside0.mk hwj
      have HJ3 := Aside0.mk hj
      have HLl : Aside0 (l.length ≤ 120) := ⟨by have := HD.out.2; have := HL.out.1; omega⟩
      subst hA
      clear hok hat hj
      have HV := Aside0.mk (HP.out.alloc #[.int .i64 kd, .int .i64 id] 44)
      go_wp2
      clear k0 k1 p1 p2 hwj q1 q2 HP
      generalize wr.alloc (.cells #[.int .i64 kd, .int .i64 id] 44) = W3 at HV ⊢
      generalize wr.heap.size = u at HV ⊢
      have HGK := HJ
      clear HJ
      go_loopg [13, 81] (l.length + 1) (fun kq v13 v81 w' => ∃ i : Nat, v13 = .int .i64 (ix (l.take i) id) ∧ v81 = .int .i64 i ∧ Aside0 (i + kq = l.length + 1 ∧ 1 ≤ kq) ∧ Aside0 (QM w w' b g l m l R rc [(u, .cells #[.int .i64 kd, .int .i64 id] 44 (0, 0))]))
      case atStart => exact ⟨0, by rw [List.take_zero]; rfl, rfl, ⟨by omega, by omega⟩, HV⟩
      case round =>
        obtain ⟨i, rfl, rfl, HJ, HQ⟩ := hrel
        have hbk := HQ.out.var (List.mem_cons_self)
        dsimp only at hbk
        have b0 := cells_of_heap hbk 0 _ rfl
        have b1 := cells_of_heap hbk 1 _ rfl
        clear hbk
        by_cases hi : i < l.length
        · have q1 : decide ((i : Int) < (l.length : Int)) = true := decide_eq_true (by omega)
          have q2 : decide (i < l.length) = true := decide_eq_true hi
          obtain ⟨gR, hR, _, c0, _⟩ := Bi.fr_elem HQ.out.row i l[i] (List.getElem?_eq_getElem hi)
          have p1 : (0 : Int) ≤ (i : Int) := by omega
          have p2 : (i : Int) < (l.length : Int) := by omega
          have hwi : wrap64 ((i : Int) + 1) = ((i + 1 : Nat) : Int) := Bi.w64_next i (by have := HLl.out; omega)
          have HW := Aside0.mk hwi
          have HI := Aside0.mk hi
          have hsn := ix_snoc HD.out.1 id i hi
          subst hR
          generalize l[i] = x at c0 hsn
          clear hi
          by_cases hx : x = id
          · have q3 : (x == id) = true := by simpa using hx
            have q4 : decide (x = id) = true := decide_eq_true hx
            rw [if_pos hx] at hsn
            have HS := Aside0.mk hsn
            clear hsn hx
            go_wp2
            go_roundg (gk - 1)
            case measure => have := HJ.out; have := HI.out; omega
            case rel => exact ⟨i + 1, by rw [HS.out], congrArg (Value.int .i64) HW.out, ⟨by have := HJ.out; have := HI.out; omega, by have := HJ.out; have := HI.out; omega⟩, HQ⟩
          · have q3 : (x == id) = false := by simpa using hx
            have q4 : decide (x = id) = false := decide_eq_false hx
            rw [if_neg hx] at hsn
            have HS := Aside0.mk hsn
            clear hsn hx
            go_wp2
            go_roundg (gk - 1)
            case measure => have := HJ.out; have := HI.out; omega
            case rel => exact ⟨i + 1, by rw [HS.out], congrArg (Value.int .i64) HW.out, ⟨by have := HJ.out; have := HI.out; omega, by have := HJ.out; have := HI.out; omega⟩, HQ⟩
        · have q1 : decide ((i : Int) < (l.length : Int)) = false := decide_eq_false (by omega)
          have q2 : decide (i < l.length) = false := decide_eq_false hi
          have hil : l.take i = l := List.take_of_length_le (by omega)
          rw [hil]
          clear hil hi
          go_upto_block 4 with (fail)
          clear q1 q2
          go_cut [9] (fun s9 wx => ∃ (l' : List Int) (R' : Option Addr) (rc' : Nat), s9 = .slice R' l'.length rc' ∧ Aside0 (l'.Nodup ∧ l'.length ≤ j + 1) ∧ Aside0 (QM w wx b g l' m l' R' rc' [(u, .cells #[.int .i64 kd, .int .i64 id] 44 (0, 0))]))
          case first =>
            have HN1 : Aside0 (l.length ≤ 1000000000) := ⟨by have := HLl.out; omega⟩
            have hF := HQ.out.row
            have HFr := Aside0.mk hF
            have hroom := hF.room
            have HRm := Aside0.mk hroom
            clear hF hroom
            by_cases hk1 : kd = 1
            · subst hk1
              by_cases hmem : id ∈ l
              · have HMy : Aside0 (mayC (l, m) id = 1) := ⟨by unfold mayC; rw [if_pos hmem]⟩
                have HPq : Aside0 ((putQ (l, m) id).1 = l) := ⟨by unfold putQ; rw [HMy.out, if_neg (by decide)]⟩
                have q3 : decide (ix l id ≥ 0) = true := by rw [ix_mem]; exact decide_eq_true hmem
                have q3' : decide (0 ≤ ix l id) = true := q3
                have HC := Aside0.mk (put_ql HQ.out id HN1.out)
                rw [HMy.out, HPq.out] at HC
                clear hmem
                go_wp2_with (first
                  | (go_at_call 16; refine HC.out.mono ?_; rintro e w4 ⟨rfl, hp⟩; have hbk := hp.var (List.mem_cons_self); dsimp only at hbk; have b0 := cells_of_heap hbk 0 _ rfl; have b1 := cells_of_heap hbk 1 _ rfl; clear hbk; have HP4 := Aside0.mk hp; clear hp HC))
                go_meet
                exact ⟨l, R, rc, rfl, ⟨HD.out.1, by have := HD.out.2; omega⟩, HP4⟩
              have q3 : decide (ix l id ≥ 0) = false := by rw [ix_mem]; exact decide_eq_false hmem
              have q3' : decide (0 ≤ ix l id) = false := q3
              by_cases hfull : (l.length : Int) ≥ m
              · have HMy : Aside0 (mayC (l, m) id = 13) := ⟨by unfold mayC; rw [if_neg hmem, if_pos hfull]⟩
                have HPq : Aside0 ((putQ (l, m) id).1 = l) := ⟨by unfold putQ; rw [HMy.out, if_neg (by decide)]⟩
                have q5 : decide ((l.length : Int) ≥ m) = true := decide_eq_true hfull
                have q5' : decide (m ≤ (l.length : Int)) = true := q5
                have HC := Aside0.mk (put_ql HQ.out id HN1.out)
                rw [HMy.out, HPq.out] at HC
                clear hmem hfull
                go_wp2_with (first
                  | (go_at_call 16; refine HC.out.mono ?_; rintro e w4 ⟨rfl, hp⟩; have hbk := hp.var (List.mem_cons_self); dsimp only at hbk; have b0 := cells_of_heap hbk 0 _ rfl; have b1 := cells_of_heap hbk 1 _ rfl; clear hbk; have HP4 := Aside0.mk hp; clear hp HC))
                go_meet
                exact ⟨l, R, rc, rfl, ⟨HD.out.1, by have := HD.out.2; omega⟩, HP4⟩
              have HMy : Aside0 (mayC (l, m) id = 0) := ⟨by unfold mayC; rw [if_neg hmem, if_neg hfull]⟩
              have HPq : Aside0 ((putQ (l, m) id).1 = l ++ [id]) := ⟨by unfold putQ; rw [HMy.out, if_pos rfl]⟩
              have q5 : decide ((l.length : Int) ≥ m) = false := decide_eq_false hfull
              have q5' : decide (m ≤ (l.length : Int)) = false := q5
              have HNd : Aside0 ((l ++ [id]).Nodup) := ⟨by have h1 := HD.out.1; rw [List.nodup_append]; exact ⟨h1, by simp, fun x hx y hy e => hmem (by rw [← List.mem_singleton.1 hy, ← e]; exact hx)⟩⟩
              clear hmem hfull
              have HB0 : Aside0 (Below wr.heap.size wr wr.drew) := ⟨below_drew (Below.refl _ _)⟩
              -- the copy first
              obtain ⟨A1, c1, wc1, hr1, hF1, hb1, hg1⟩ := copy_run (W := wr.drew) (d := rc) (HFr.out.cr.c (by have := HLl.out; omega)) (by have := HLl.out; omega)
              have hbl1 : Below wr.drew.heap.size wr.drew (wc1.alloc (.cells #[.int .i64 id] 3)) := below_step hb1 (below_alloc (Below.refl _ _) _)
              obtain ⟨A2, c2, w2', hr2, hF2, hb2, hg2⟩ := onto_run (W0 := wr.drew) (d := 1) (hF1.keep fun g e => heap_alloc_old wc1 _ (hF1.lt g e)) hg1 hbl1 (one_C wc1 id) (by have := HLl.out; simp; omega)
              have HBc := Aside0.mk hb1
              -- the literal first
              have hbl3 : Below wr.drew.heap.size wr.drew (wr.drew.alloc (.cells #[.int .i64 id] 3)) := below_alloc (Below.refl _ _) _
              obtain ⟨A3, c3, w3, hr3, hF3, hb3, hg3⟩ := copy_run (W := wr.drew.alloc (.cells #[.int .i64 id] 3)) (d := rc) (Kd.C_below (HFr.out.cr.c (by have := HLl.out; omega)) (below_step HB0.out hbl3)) (by have := HLl.out; omega)
              obtain ⟨A4, c4, w4', hr4, hF4, hb4, hg4⟩ := onto_run (W0 := wr.drew) (d := 1) hF3 (fun g e => Nat.le_trans hbl3.size (hg3 g e)) (below_step hbl3 hb3) (Kd.C_below (one_C wr.drew id) hb3) (by have := HLl.out; simp; omega)
              have HX := Aside0.mk (And.intro (HQ.out.row' (below_step HB0.out hb2) hF2 hg2) (HQ.out.row' (below_step HB0.out hb4) hF4 hg4))
              clear hF1 hb1 hg1 hbl1 hF2 hb2 hg2 hbl3 hF3 hb3 hg3 hF4 hb4 hg4
              have hv := ((HQ.out.below HB0.out).below HBc.out).var (List.mem_cons_self)
              dsimp only at hv
              have y1 := cells_of_heap hv 1 _ rfl
              clear hv
              have mixed : Try.prog.follows Departure.mixedOrders = true := by kernel_rfl
              go_upto_region 32 with (fail)
              go_region_law (first
                | (refine Bi.step_app_of (by first | rfl | (simp [Region.wanted]; done)) (.const (.slice none 0 0)) (.tmp 114) rfl hr1 ?_)
                | (refine Bi.step_app_of (by first | rfl | (simp [Region.wanted]; done)) (.const (.slice none 0 0)) (.tmp 114) rfl hr3 ?_)
                | (refine Bi.step_app_of (by first | rfl | (simp [Region.wanted]; done)) (.tmp 115) (.tmp 118) rfl hr2 ?_)
                | (refine Bi.step_app_of (by first | rfl | (simp [Region.wanted]; done)) (.tmp 115) (.tmp 118) rfl hr4 ?_))
              all_goals
                clear y1 b0 b1
                have hva := HX.out.1.var (List.mem_cons_self)
                have hvb := HX.out.2.var (List.mem_cons_self)
                dsimp only at hva hvb
                have a0 := cells_of_heap hva 0 _ rfl
                have a1 := cells_of_heap hva 1 _ rfl
                have z0 := cells_of_heap hvb 0 _ rfl
                have z1 := cells_of_heap hvb 1 _ rfl
                clear hva hvb
                have HCa := Aside0.mk (put_ql HX.out.1 id HN1.out)
                have HCb := Aside0.mk (put_ql HX.out.2 id HN1.out)
                rw [HMy.out, HPq.out] at HCa HCb
                go_wp2_with (first
                  | (go_at_call 16; (with_reducible refine HCa.out.mono ?_); rintro e w4 ⟨rfl, hp⟩; have hbk := hp.var (List.mem_cons_self); dsimp only at hbk; have b0 := cells_of_heap hbk 0 _ rfl; have b1 := cells_of_heap hbk 1 _ rfl; clear hbk; have HP4 := Aside0.mk hp; clear hp HCa HCb)
                  | (go_at_call 16; (with_reducible refine HCb.out.mono ?_); rintro e w4 ⟨rfl, hp⟩; have hbk := hp.var (List.mem_cons_self); dsimp only at hbk; have b0 := cells_of_heap hbk 0 _ rfl; have b1 := cells_of_heap hbk 1 _ rfl; clear hbk; have HP4 := Aside0.mk hp; clear hp HCa HCb))
                go_meet
                first
                  | exact ⟨l ++ [id], A2, c2, congrArg (fun n => Value.slice A2 n c2) (by rw [List.length_append]; rfl), ⟨HNd.out, by have := HD.out.2; rw [List.length_append]; show l.length + 1 ≤ _; omega⟩, HP4⟩
                  | exact ⟨l ++ [id], A4, c4, congrArg (fun n => Value.slice A4 n c4) (by rw [List.length_append]; rfl), ⟨HNd.out, by have := HD.out.2; rw [List.length_append]; show l.length + 1 ≤ _; omega⟩, HP4⟩
            by_cases hk2 : kd = 2
            · subst hk2
              by_cases hmem : id ∈ l
              · have HMy : Aside0 (mayC (l, m) id = 1) := ⟨by unfold mayC; rw [if_pos hmem]⟩
                have HPq : Aside0 ((backQ (l, m) id).1 = l) := ⟨by unfold backQ; rw [HMy.out, if_neg (by decide)]⟩
                have q3 : decide (ix l id ≥ 0) = true := by rw [ix_mem]; exact decide_eq_true hmem
                have q3' : decide (0 ≤ ix l id) = true := q3
                have HC := Aside0.mk (back_ql HQ.out id HN1.out)
                rw [HMy.out, HPq.out] at HC
                clear hmem
                go_wp2_with (first
                  | (go_at_call 20; refine HC.out.mono ?_; rintro e w4 ⟨rfl, hp⟩; have hbk := hp.var (List.mem_cons_self); dsimp only at hbk; have b0 := cells_of_heap hbk 0 _ rfl; have b1 := cells_of_heap hbk 1 _ rfl; clear hbk; have HP4 := Aside0.mk hp; clear hp HC))
                go_meet
                exact ⟨l, R, rc, rfl, ⟨HD.out.1, by have := HD.out.2; omega⟩, HP4⟩
              have q3 : decide (ix l id ≥ 0) = false := by rw [ix_mem]; exact decide_eq_false hmem
              have q3' : decide (0 ≤ ix l id) = false := q3
              by_cases hfull : (l.length : Int) ≥ m
              · have HMy : Aside0 (mayC (l, m) id = 13) := ⟨by unfold mayC; rw [if_neg hmem, if_pos hfull]⟩
                have HPq : Aside0 ((backQ (l, m) id).1 = l) := ⟨by unfold backQ; rw [HMy.out, if_neg (by decide)]⟩
                have q5 : decide ((l.length : Int) ≥ m) = true := decide_eq_true hfull
                have q5' : decide (m ≤ (l.length : Int)) = true := q5
                have HC := Aside0.mk (back_ql HQ.out id HN1.out)
                rw [HMy.out, HPq.out] at HC
                clear hmem hfull
                go_wp2_with (first
                  | (go_at_call 20; refine HC.out.mono ?_; rintro e w4 ⟨rfl, hp⟩; have hbk := hp.var (List.mem_cons_self); dsimp only at hbk; have b0 := cells_of_heap hbk 0 _ rfl; have b1 := cells_of_heap hbk 1 _ rfl; clear hbk; have HP4 := Aside0.mk hp; clear hp HC))
                go_meet
                exact ⟨l, R, rc, rfl, ⟨HD.out.1, by have := HD.out.2; omega⟩, HP4⟩
              have HMy : Aside0 (mayC (l, m) id = 0) := ⟨by unfold mayC; rw [if_neg hmem, if_neg hfull]⟩
              have HPq : Aside0 ((backQ (l, m) id).1 = id :: l) := ⟨by unfold backQ; rw [HMy.out, if_pos rfl]⟩
              have q5 : decide ((l.length : Int) ≥ m) = false := decide_eq_false hfull
              have q5' : decide (m ≤ (l.length : Int)) = false := q5
              have HNd : Aside0 ((id :: l).Nodup) := ⟨by have h1 := HD.out.1; exact List.nodup_cons.2 ⟨hmem, h1⟩⟩
              clear hmem hfull
              obtain ⟨A2, c2, w2', hr2, hF2, hb2, hg2⟩ := onto_run (W0 := wr) (d := rc) (one_F wr id) (fun g e => by injection e with e; injection e with e; omega) (below_alloc (Below.refl _ _) _) (Kd.C_below (HFr.out.cr.c (by have := HLl.out; omega)) (below_alloc (Below.refl _ _) _)) (by have := HLl.out; simp; omega)
              have HX := Aside0.mk (HQ.out.row' hb2 hF2 hg2)
              clear hF2 hb2 hg2
              replace hr2 : (Builtin.append_ #[33, 33] 33 #[.slice (some ⟨wr.heap.size, 0, none⟩) 1 1, .slice R l.length rc]).run Try.prog (wr.alloc (.cells #[.int .i64 id] 3)) = .ok (.slice A2 (l.length + 1) c2) w2' := by rw [Nat.add_comm]; exact hr2
              have hv := HX.out.var (List.mem_cons_self)
              dsimp only at hv
              have y0 := cells_of_heap hv 0 _ rfl
              have y1 := cells_of_heap hv 1 _ rfl
              clear hv
              have HC := Aside0.mk (back_ql HX.out id HN1.out)
              rw [HMy.out, HPq.out] at HC
              go_wp2_with (first
                | ((with_reducible refine gate_builtin (b := .append) (xs := #[.tmp 99, .tmp 100]) rfl ?_); at_builtin; refine Bi.list_app_of rfl (.tmp 99) (.tmp 100) rfl hr2 ?_; clear hr2)
                | (go_at_call 20; refine HC.out.mono ?_; rintro e w4 ⟨rfl, hp⟩; have hbk := hp.var (List.mem_cons_self); dsimp only at hbk; have b0 := cells_of_heap hbk 0 _ rfl; have b1 := cells_of_heap hbk 1 _ rfl; clear hbk; have HP4 := Aside0.mk hp; clear hp HC))
              go_meet
              exact ⟨id :: l, A2, c2, rfl, ⟨HNd.out, by have := HD.out.2; show l.length + 1 ≤ _; omega⟩, HP4⟩
            by_cases hk3 : kd = 3
            · subst hk3
              cases l with
              | nil =>
                have HC := Aside0.mk (first_none_ql HQ.out)
                go_wp2_with (first
                  | (go_at_call 19; refine HC.out.mono ?_; rintro e w4 ⟨rfl, hp⟩; have hbk := hp.var (List.mem_cons_self); dsimp only at hbk; have b0 := cells_of_heap hbk 0 _ rfl; have b1 := cells_of_heap hbk 1 _ rfl; clear hbk; have HP4 := Aside0.mk hp; clear hp HC))
                go_meet
                exact ⟨[], R, rc, rfl, ⟨List.nodup_nil, Nat.zero_le _⟩, HP4⟩
              | cons x t =>
                obtain ⟨gR, hR, _, _, _⟩ := Bi.fr_elem HFr.out 0 x rfl
                subst hR
                have hln : (x :: t).length = t.length + 1 := rfl
                have HC := Aside0.mk (first_ql HQ.out (by have := HLl.out; rw [hln] at this; omega))
                have hlo : ∀ W, (Instr.slice 33 (.slice (some ⟨gR, 0, none⟩) (t.length + 1) rc) (some (.int .i64 1)) none none).run Try.prog W = .ok (.slice (dropA (some ⟨gR, 0, none⟩) 1 rc) t.length (rc - 1)) W := fun W => slice_low (some ⟨gR, 0, none⟩) (t.length + 1) rc 1 (by omega) W
                have q3 : decide (((t.length + 1 : Nat) : Int) > 0) = true := decide_eq_true (by omega)
                have q3' : decide ((t.length : Int) + 1 > 0) = true := decide_eq_true (by omega)
                have q4 : decide (0 < t.length + 1) = true := decide_eq_true (by omega)
                have p3 : (0 : Int) < ((t.length + 1 : Nat) : Int) := by omega
                have p4 : (0 : Int) < (t.length : Int) + 1 := by omega
                have HNd : Aside0 (t.Nodup ∧ t.length ≤ j + 1) := ⟨(List.nodup_cons.1 HD.out.1).2, by have := HD.out.2; rw [hln] at this; omega⟩
                go_wp2_with (first
                  | (go_at_call 19; refine HC.out.mono ?_; rintro e w4 ⟨rfl, hp⟩; have hbk := hp.var (List.mem_cons_self); dsimp only at hbk; have b0 := cells_of_heap hbk 0 _ rfl; have b1 := cells_of_heap hbk 1 _ rfl; clear hbk; obtain ⟨g2, hR2, _, c0, _⟩ := Bi.fr_elem hp.row 0 x rfl; injection hR2 with hR2; injection hR2 with hR2; subst hR2; obtain ⟨A1, c1, w5, hr1, hF1, hb1, hg1⟩ := copy_run (W := w4) (k := t) (d := rc - 1) (c_drop (k := 1) (hp.row.cr.c (by have := HLl.out; omega)) (by rw [hln]; omega) hp.row.room) (by have := HLl.out; rw [hln] at this; omega); have HP4 := Aside0.mk (hp.row' hb1 hF1 hg1); clear hp HC hF1 hb1 hg1)
                  | ((with_reducible refine gate_builtin (b := .append) (xs := #[.const (.slice none 0 0), .tmp 176]) rfl ?_); at_builtin; refine Bi.list_app_of rfl (.const (.slice none 0 0)) (.tmp 176) rfl hr1 ?_; clear hr1))
                go_meet
                exact ⟨t, A1, c1, rfl, HNd, HP4⟩
            by_cases hk4 : kd = 4
            · subst hk4
              by_cases hmem : id ∈ l
              · obtain ⟨p, hp0⟩ : ∃ p, p = l.idxOf id := ⟨_, rfl⟩
                have hpl : p < l.length := by rw [hp0]; exact List.idxOf_lt_length_of_mem hmem
                have hix : ix l id = (p : Int) := by rw [hp0]; unfold ix; rw [if_pos hmem]
                have HOq : Aside0 ((outQ (l, m) id).1 = l.take p ++ l.drop (p + 1)) := ⟨by rw [hp0]; rfl⟩
                have HC := Aside0.mk (cut_ql HQ.out HN1.out id hmem)
                rw [HOq.out] at HC
                have hlt : (l.take p).length = p := by rw [List.length_take]; omega
                have hld : (l.drop (p + 1)).length = l.length - (p + 1) := List.length_drop
                have HNd : Aside0 ((l.take p ++ l.drop (p + 1)).Nodup ∧ (l.take p ++ l.drop (p + 1)).length ≤ j + 1) := ⟨by
                  rw [← List.eraseIdx_eq_take_drop_succ]
                  exact HD.out.1.sublist (List.eraseIdx_sublist _ _), by rw [List.length_append, hlt, hld]; have := HD.out.2; omega⟩
                have hhi : ∀ W, (Instr.slice 33 (.slice R l.length rc) none (some (.int .i64 (ix l id))) none).run Try.prog W = .ok (.slice R p rc) W := fun W => by rw [hix]; exact slice_high R l.length rc p (by have := HRm.out; omega) W
                have hlo : ∀ W, (Instr.slice 33 (.slice R l.length rc) (some (.int .i64 (ix l id + 1))) none none).run Try.prog W = .ok (.slice (dropA R (p + 1) rc) (l.length - (p + 1)) (rc - (p + 1))) W := fun W => by rw [hix]; exact slice_low R l.length rc (p + 1) (by omega) W
                have q3 : decide (ix l id ≥ 0) = true := decide_eq_true (by rw [hix]; omega)
                have q3' : decide (0 ≤ ix l id) = true := q3
                have hwp : IntKind.i64.wrap (ix l id + 1) = ix l id + 1 := by rw [hix, IntKind.wrap_i64]; have := HLl.out; omega
                have HPl := Aside0.mk (And.intro hpl (And.intro hlt hld))
                clear hix hp0 hmem hpl hlt hld
                go_wp2_with (first
                  | (go_at_call 17; refine HC.out.mono ?_; rintro e w4 ⟨rfl, hp⟩; have hbk := hp.var (List.mem_cons_self); dsimp only at hbk; have b0 := cells_of_heap hbk 0 _ rfl; have b1 := cells_of_heap hbk 1 _ rfl; clear hbk; have hCt : Bi.kI.C w4.drew R (l.take p).length (l.take p) := (by rw [HPl.out.2.1]; exact (hp.row.take p (by have := HPl.out.1; omega)).c (by rw [HPl.out.2.1]; have := HPl.out.1; have := HLl.out; omega)); have hCd : Bi.kI.C w4.drew (dropA R (p + 1) rc) (l.drop (p + 1)).length (l.drop (p + 1)) := (by rw [HPl.out.2.2]; exact c_drop (k := p + 1) (hp.row.cr.c (by have := HLl.out; omega)) (by have := HPl.out.1; omega) hp.row.room); obtain ⟨A1, c1, w5, hr1, hF1, hb1, hg1⟩ := copy_run (d := rc) hCt (by rw [HPl.out.2.1]; have := HPl.out.1; have := HLl.out; omega); obtain ⟨A2, c2, w6, hr2, hF2, hb2, hg2⟩ := onto_run (W0 := w4.drew) (d := rc - (p + 1)) hF1 hg1 hb1 (Kd.C_below hCd hb1) (by rw [HPl.out.2.1, HPl.out.2.2]; have := HPl.out.1; have := HLl.out; omega); have HP6 := Aside0.mk (hp.row' (below_step (below_drew (Below.refl _ _)) hb2) hF2 hg2); rw [HPl.out.2.1] at hr1 hr2; rw [HPl.out.2.2] at hr2; clear hCt hCd hp HC hF1 hb1 hg1 hF2 hb2 hg2))
                clear b0 b1
                have mixed : Try.prog.follows Departure.mixedOrders = true := by kernel_rfl
                go_region_held_law (fun _ => True) (trivial) (first
                  | (refine Bi.step_app_of (by first | rfl | (simp [Region.wanted]; done)) (.const (.slice none 0 0)) (.tmp 191) rfl hr1 ?_; clear hr1)
                  | (refine Bi.step_app_of (by first | rfl | (simp [Region.wanted]; done)) (.tmp 192) (.tmp 196) rfl hr2 ?_; clear hr2))
                all_goals
                  go_simp
                  go_wp2
                  go_meet
                  exact ⟨l.take p ++ l.drop (p + 1), A2, c2, congrArg (fun n => Value.slice A2 n c2) (by rw [List.length_append, HPl.out.2.1, HPl.out.2.2]), HNd, HP6⟩
              · have q3 : decide (ix l id ≥ 0) = false := by rw [ix_mem]; exact decide_eq_false hmem
                have q3' : decide (0 ≤ ix l id) = false := q3
                have HC := Aside0.mk (cut_none_ql HQ.out HN1.out id hmem)
                clear hmem
                go_wp2_with (first
                  | (go_at_call 17; refine HC.out.mono ?_; rintro e w4 ⟨rfl, hp⟩; have hbk := hp.var (List.mem_cons_self); dsimp only at hbk; have b0 := cells_of_heap hbk 0 _ rfl; have b1 := cells_of_heap hbk 1 _ rfl; clear hbk; have HP4 := Aside0.mk hp; clear hp HC))
                go_meet
                exact ⟨l, R, rc, rfl, ⟨HD.out.1, by have := HD.out.2; omega⟩, HP4⟩
            by_cases hk5 : kd = 5
            · subst hk5
              have HC := Aside0.mk (place_ql HQ.out HN1.out id)
              go_wp2_with (first
                | (go_at_call 18; refine HC.out.mono ?_; rintro e w4 ⟨rfl, hp⟩; have hbk := hp.var (List.mem_cons_self); dsimp only at hbk; have b0 := cells_of_heap hbk 0 _ rfl; have b1 := cells_of_heap hbk 1 _ rfl; clear hbk; have HP4 := Aside0.mk hp; clear hp HC))
              go_meet
              exact ⟨l, R, rc, rfl, ⟨HD.out.1, by have := HD.out.2; omega⟩, HP4⟩
            have f1 : (kd == 1) = false := beq_eq_false_iff_ne.2 hk1
            have f2 : (kd == 2) = false := beq_eq_false_iff_ne.2 hk2
            have f3 : (kd == 3) = false := beq_eq_false_iff_ne.2 hk3
            have f4 : (kd == 4) = false := beq_eq_false_iff_ne.2 hk4
            have f5 : (kd == 5) = false := beq_eq_false_iff_ne.2 hk5
            have g1 : decide (kd = 1) = false := decide_eq_false hk1
            have g2 : decide (kd = 2) = false := decide_eq_false hk2
            have g3 : decide (kd = 3) = false := decide_eq_false hk3
            have g4 : decide (kd = 4) = false := decide_eq_false hk4
            have g5 : decide (kd = 5) = false := decide_eq_false hk5
            clear hk1 hk2 hk3 hk4 hk5
            go_wp2
            go_meet
            exact ⟨l, R, rc, rfl, ⟨HD.out.1, by have := HD.out.2; omega⟩, HQ⟩
          case rest =>
            obtain ⟨l', R', rc', rfl, HD2, HP5⟩ := hcut
            have HL2 : Aside0 (l'.length ≤ 120) := ⟨by have := HD2.out.2; have := HL.out.1; have := HJ3.out; omega⟩
            clear b0 b1 HQ HV
            go_wp2_with (first
              | (go_at_call 21; refine (all_ql HP5.out (by have := HL2.out; omega)).mono ?_; rintro e w6 ⟨B, n, rfl, hp⟩; have HP6 := Aside0.mk hp; clear hp HP5)
              | (go_at_call 22; refine (book_ql HP6.out (by have := HL2.out; omega)).mono ?_; rintro e w7 ⟨rfl, hp, hF⟩; have HP7 := Aside0.mk hp; have HF7 := Aside0.mk hF; clear hp hF HP6)
              | (go_at_call 23; refine (Bi.same_c (HF7.out.cr.c (by have := HL2.out; omega)) HF7.out.room (HP7.out.row.cr.c (by have := HL2.out; omega)) HP7.out.row.room (by have := HL2.out; omega)).mono ?_; rintro e w8 ⟨rfl, hb⟩; have HP8 := Aside0.mk ((HP7.out.below hb).forget); clear hb HP7 HF7))
            go_roundg (os.length - j)
            case measure => have := HGK.out; have := HJ3.out; omega
            case rel => exact ⟨j + 1, l', R', rc', rfl, congrArg (Value.int .i64) HWJ.out, ⟨by have := HJ3.out; omega, by have := HJ3.out; omega⟩, HD2, HP8⟩
    · have q1 : decide ((j : Int) < (os.length : Int)) = false := decide_eq_false (by omega)
      have q2 : decide (j < os.length) = false := decide_eq_false hj
      clear hj
      go_wp2_with (first
        | (go_at_call 24; refine (apart_ql HP.out).mono ?_; rintro e w4 ⟨rfl, hb⟩; have HF := Aside0.mk hb; clear hb))
      go_ret
      exact ⟨rfl, HF.out⟩
theorem plays_calls (m : Int) (A : Option Addr) (os : List OP) (c : Nat) (w : World) (hO : Ops w A os) :
    Calls Try.prog 4 #[.int .i64 m, .slice A os.length c] w fun e w' => e = .returned (.bool true) ∧ Below w.heap.size w w' := by
  rcases Nat.lt_or_ge 120 os.length with h | h
  · exact plays_off m A os.length c w h
  · by_cases hm : 1 ≤ m
    · exact plays_on m A os c w h hm hO
    · exact plays_no m A os.length c w h (by omega)
end Go.Proofs.Ytohphkdemonlkaa.Qp
