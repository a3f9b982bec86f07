/- TablePlays: the walk. -/
import Derived.Test.YtohphkdemonlkaaTPOne
namespace Go.Proofs.Ytohphkdemonlkaa.Tp
open Go.RowKit Go.Lib Go.Proofs.Ytohphkdemonlkaa.XQt Go.Proofs.YtohphkdemonlkaaW.PrintWords Go.Proofs.YtohphkdemonlkaaW.PrintLast Go.Proofs.YtohphkdemonlkaaW.PrintMore Go.Proofs.Ytohphkdemonlkaa.Ob Go.Proofs.Ytohphkdemonlkaa.Tw
attribute [local go_sem high] eqA54
set_option maxHeartbeats 25600000 in
set_option maxRecDepth 20000 in
theorem plays_on (s : Int) (A : Option Addr) (os : List OP) (c : Nat) (w : World) (hn : os.length ≤ 80) (hs : 0 ≤ s ∧ s ≤ 512) (hO : Ops w A os) :
    Calls Try.prog 12 #[.int .i64 s, .slice A os.length c] w fun e w' => e = .returned (.bool true) ∧ Below w.heap.size w w' := by
  have e1 : decide ((os.length : Int) > 80) = false := decide_eq_false (by omega)
  have e2 : decide (80 < os.length) = false := decide_eq_false (by omega)
  have e3 : decide (s < 0) = false := decide_eq_false (by omega)
  have e4 : decide (s > 512) = false := decide_eq_false (by omega)
  have HO := Aside0.mk hO
  have HL := Aside0.mk (And.intro hn hs)
  have HN := Aside0.mk (fun W => new_on s hs W)
  clear hn hs hO
  go_enter Try.func12, Try.ntmps12
  go_wp2_with (first
      | (go_at_call 25; refine (alive_calls _).mono ?_; rintro e w1 ⟨rfl, hb⟩; have HB1 := Aside0.mk hb; clear hb)
      | (go_at_call 26; refine (HN.out _).mono ?_; rintro e w2 ⟨g, rfl, ht, hb⟩; have HP2 := Aside0.mk (tl_start HB1.out ht hb); clear ht hb HN HB1))
  clear e1 e2 e3 e4
  generalize w2.heap.size = gr at HP2 ⊢
  generalize (w2.alloc (.cells #[.int .i64 s, .slice none 0 0] 71)).alloc (.cells #[.slice none 0 0, .slice none 0 0, .slice none 0 0, .slice none 0 0, .slice none 0 0, .slice none 0 0, .slice none 0 0, .slice none 0 0, .slice none 0 0, .slice none 0 0] 42) = W2 at HP2 ⊢
  go_loopg [93] (os.length + 1) (fun kq v93 w' => ∃ (j : Nat) (L : List S54) (t : Int), v93 = .int .i64 j ∧ Aside0 (j + kq = os.length + 1 ∧ 1 ≤ kq) ∧ Aside0 (TL w w' (gr + 1) g gr L t L t []))
  case atStart => exact ⟨0, [], s, rfl, ⟨by omega, by omega⟩, HP2⟩
  case round =>
    obtain ⟨j, L, t, rfl, HJ, HP⟩ := hrel
    by_cases hj : j < os.length
    · have q1 : decide ((j : Int) < (os.length : Int)) = true := decide_eq_true (by omega)
      have q2 : decide (j < os.length) = true := decide_eq_true hj
      obtain ⟨hok, ad, hA, hat⟩ := HO.out.2 j os[j] (List.getElem?_eq_getElem hj)
      have hat2 := op_below hat HP.out.back
      generalize os[j] = o at hok hat2
      obtain ⟨kd, on, f⟩ := o
      obtain ⟨k0, k1, k2, k3⟩ := hat2
      dsimp only at k0 k1 k2 k3
      have hsz := And.intro hok.s0 hok.s1
      dsimp only at hsz
      have hr := reachBytes_lt
      have hwf : wrap64 ((f.f0.size : Int) + f.f1.size) = (f.f0.size : Int) + f.f1.size := w64_in ((f.f0.size : Int) + f.f1.size) (by omega)
      have p1 : (0 : Int) ≤ (j : Int) := by omega
      have p2 : (j : Int) < (os.length : Int) := by omega
      have hwj : wrap64 ((j : Int) + 1) = ((j + 1 : Nat) : Int) := Bk.w64_next j (by have := HL.out.1; omega)
      have HWJ := Aside0.mk hwj
      have HJ3 := Aside0.mk hj
      subst hA
      clear hok hat hsz hr hj
      by_cases hf : (f.f0.size : Int) + f.f1.size > 800
      · have q3 : decide ((f.f0.size : Int) + f.f1.size > 800) = true := decide_eq_true hf
        clear hf
        go_wp2
        go_ret
        exact ⟨rfl, below_alloc HP.out.back _⟩
      · have q3 : decide ((f.f0.size : Int) + f.f1.size > 800) = false := decide_eq_false hf
        have HF : Aside0 (cost f ≤ 832) := ⟨by unfold cost; omega⟩
        clear hf
        have HV := Aside0.mk (HP.out.alloc #[.int .i64 kd, .int .i64 on, .string f.f0, .string f.f1] 73)
        go_upto_block 2 with (fail)
        go_cut [109] (fun s109 wx => ∃ (L' : List S54) (t' : Int), Aside0 (TL w wx (gr + 1) g gr L' t' L' t' [(wr.heap.size, .cells #[.int .i64 kd, .int .i64 on, .string f.f0, .string f.f1] 73 (0, 0))]))
        case first =>
          have hrm := HP.out.room
          have HRm := Aside0.mk hrm
          clear hrm
          by_cases hk : kd = 1
          · have q5 : decide (kd = 1) = true := decide_eq_true hk
            have q6 : (kd == 1) = true := beq_iff_eq.2 hk
            clear hk
            go_wp2_with (first
              | (go_at_call 27; refine (add_tl HV.out f (by have := HF.out; omega)).mono ?_; rintro e w3 ⟨rfl, hp⟩; have hbk := hp.var (List.mem_cons_self); dsimp only at hbk; have b0 := cells_of_heap hbk 0 _ rfl; have b1 := cells_of_heap hbk 1 _ rfl; have b2 := cells_of_heap hbk 2 _ rfl; have b3 := cells_of_heap hbk 3 _ rfl; have HP3 := Aside0.mk hp; clear hp hbk HV)
              | (go_at_call 35; refine (addR_tl HP3.out f (by have := HRm.out; omega) (by have := HF.out; omega) (by have := HRm.out; omega)).mono ?_; rintro e w4 ⟨rfl, hp⟩; have HP4 := Aside0.mk hp; clear hp HP3))
            go_meet
            exact ⟨_, _, HP4⟩
          by_cases hk2 : kd = 2
          · have q5 : decide (kd = 1) = false := decide_eq_false hk
            have q6 : (kd == 1) = false := beq_eq_false_iff_ne.2 hk
            have q7 : decide (kd = 2) = true := decide_eq_true hk2
            have q8 : (kd == 2) = true := beq_iff_eq.2 hk2
            clear hk hk2
            have hbk := HV.out.var (List.mem_cons_self)
            dsimp only at hbk
            have b0 := cells_of_heap hbk 0 _ rfl; have b1 := cells_of_heap hbk 1 _ rfl; have b2 := cells_of_heap hbk 2 _ rfl; have b3 := cells_of_heap hbk 3 _ rfl
            clear hbk
            by_cases hr : 0 ≤ on ∧ on ≤ 512
            · have HR := Aside0.mk hr
              clear hr
              go_wp2
              go_region_with (first
                | (go_at_call 33; refine (resize_tl (HV.out.below (below_drew (Below.refl _ _))) on HR.out).mono ?_; rintro e w3 ⟨rfl, hp⟩; have hbk := hp.var (List.mem_cons_self); dsimp only at hbk; clear b0 b1 b2 b3; have b0 := cells_of_heap hbk 0 _ rfl; have b1 := cells_of_heap hbk 1 _ rfl; have b2 := cells_of_heap hbk 2 _ rfl; have b3 := cells_of_heap hbk 3 _ rfl; have HPa := Aside0.mk hp; clear hp hbk HV)
                | (go_at_call 36; refine (resizeR_tl (HV.out.below (below_drew (Below.refl _ _))) on (by have := HRm.out; omega) HR.out).mono ?_; rintro e w3 ⟨rfl, hp⟩; have hbk := hp.var (List.mem_cons_self); dsimp only at hbk; clear b0 b1 b2 b3; have b0 := cells_of_heap hbk 0 _ rfl; have b1 := cells_of_heap hbk 1 _ rfl; have b2 := cells_of_heap hbk 2 _ rfl; have b3 := cells_of_heap hbk 3 _ rfl; have HPb := Aside0.mk hp; clear hp hbk HV)
                | (go_at_call 36; refine (resizeR_tl HPa.out on (by have := HRm.out; omega) HR.out).mono ?_; rintro e w4 ⟨rfl, hp⟩; have HPc := Aside0.mk hp; clear hp HPa)
                | (go_at_call 33; refine (resize_tl HPb.out on HR.out).mono ?_; rintro e w4 ⟨rfl, hp⟩; have HPc := Aside0.mk hp; clear hp HPb))
              all_goals
                go_wp2
                go_meet
                exact ⟨_, _, HPc⟩
            · have HR := Aside0.mk hr
              clear hr
              go_wp2
              go_region_with (first
                | (go_at_call 33; refine (resize_tl_no (HV.out.below (below_drew (Below.refl _ _))) on HR.out).mono ?_; rintro e w3 ⟨rfl, hp⟩; have hbk := hp.var (List.mem_cons_self); dsimp only at hbk; clear b0 b1 b2 b3; have b0 := cells_of_heap hbk 0 _ rfl; have b1 := cells_of_heap hbk 1 _ rfl; have b2 := cells_of_heap hbk 2 _ rfl; have b3 := cells_of_heap hbk 3 _ rfl; have HPa := Aside0.mk hp; clear hp hbk HV)
                | (go_at_call 36; refine (resizeR_tl_no (HV.out.below (below_drew (Below.refl _ _))) on HR.out).mono ?_; rintro e w3 ⟨rfl, hp⟩; have hbk := hp.var (List.mem_cons_self); dsimp only at hbk; clear b0 b1 b2 b3; have b0 := cells_of_heap hbk 0 _ rfl; have b1 := cells_of_heap hbk 1 _ rfl; have b2 := cells_of_heap hbk 2 _ rfl; have b3 := cells_of_heap hbk 3 _ rfl; have HPb := Aside0.mk hp; clear hp hbk HV)
                | (go_at_call 36; refine (resizeR_tl_no HPa.out on HR.out).mono ?_; rintro e w4 ⟨rfl, hp⟩; have HPc := Aside0.mk hp; clear hp HPa)
                | (go_at_call 33; refine (resize_tl_no HPb.out on HR.out).mono ?_; rintro e w4 ⟨rfl, hp⟩; have HPc := Aside0.mk hp; clear hp HPb))
              all_goals
                go_wp2
                go_meet
                exact ⟨_, _, HPc⟩
          · have q5 : decide (kd = 1) = false := decide_eq_false hk
            have q6 : (kd == 1) = false := beq_eq_false_iff_ne.2 hk
            have q7 : decide (kd = 2) = false := decide_eq_false hk2
            have q8 : (kd == 2) = false := beq_eq_false_iff_ne.2 hk2
            clear hk hk2
            go_wp2
            go_meet
            exact ⟨_, _, HV⟩
        case rest =>
          obtain ⟨L', t', HP5⟩ := hcut
          have hbk := HP5.out.var (List.mem_cons_self)
          dsimp only at hbk
          have b0 := cells_of_heap hbk 0 _ rfl; have b1 := cells_of_heap hbk 1 _ rfl; have b2 := cells_of_heap hbk 2 _ rfl; have b3 := cells_of_heap hbk 3 _ rfl
          clear hbk HV HP hwf q1 q2 q3 k0 k1 k2 k3 p1 p2 hwj
          have hlen := tl_len HP5.out
          have HLn := Aside0.mk hlen
          clear hlen
          have HAt := Aside0.mk (at_tl HP5.out on)
          obtain ⟨va, ba, hva, hba⟩ : ∃ va ba, atV (wholeL L') on = va ∧ atB (wholeL L') on = ba := ⟨_, _, rfl, rfl⟩
          obtain ⟨fn, fb, hfn, hfb⟩ : ∃ fn fb, findN (wholeL L') f = fn ∧ findB (wholeL L') f = fb := ⟨_, _, rfl, rfl⟩
          have HQ := Aside0.mk (And.intro (And.intro hva hba) (And.intro hfn hfb))
          rw [hva, hba] at HAt
          clear hva hba hfn hfb
          go_wp2_with (first
            | (go_at_call 31; refine HAt.out.mono ?_; rintro e w6 ⟨rfl, hp⟩; have hp2 := hp.alloc #[.string va.f0, .string va.f1] 54; have hbk := hp2.var (List.mem_cons_of_mem _ (List.mem_cons_self)); dsimp only at hbk; clear b0 b1 b2 b3; have b0 := cells_of_heap hbk 0 _ rfl; have b1 := cells_of_heap hbk 1 _ rfl; have b2 := cells_of_heap hbk 2 _ rfl; have b3 := cells_of_heap hbk 3 _ rfl; have HAr := Aside0.mk (atR_tl hp2 on (by have := HLn.out; omega)); rw [HQ.out.1.1, HQ.out.1.2] at HAr; clear hp hp2 hbk HAt)
            | (go_at_call 37; refine HAr.out.mono ?_; rintro e w7 ⟨rfl, hp⟩; have hp2 := hp.alloc #[.string va.f0, .string va.f1] 54; have hbk := hp2.var (List.mem_cons_of_mem _ (List.mem_cons_of_mem _ (List.mem_cons_self))); dsimp only at hbk; clear b0 b1 b2 b3; have b0 := cells_of_heap hbk 0 _ rfl; have b1 := cells_of_heap hbk 1 _ rfl; have b2 := cells_of_heap hbk 2 _ rfl; have b3 := cells_of_heap hbk 3 _ rfl; have HFd := Aside0.mk (find_tl hp2 f); rw [HQ.out.2.1, HQ.out.2.2] at HFd; clear hp hp2 hbk HAr)
            | (go_at_call 32; refine HFd.out.mono ?_; rintro e w8 ⟨rfl, hp⟩; have hbk := hp.var (List.mem_cons_of_mem _ (List.mem_cons_of_mem _ (List.mem_cons_self))); dsimp only at hbk; clear b0 b1 b2 b3; have b0 := cells_of_heap hbk 0 _ rfl; have b1 := cells_of_heap hbk 1 _ rfl; have b2 := cells_of_heap hbk 2 _ rfl; have b3 := cells_of_heap hbk 3 _ rfl; have HFr := Aside0.mk (findR_tl hp f (by have := HLn.out; omega)); rw [HQ.out.2.1, HQ.out.2.2] at HFr; clear hp hbk HFd)
            | (go_at_call 38; refine HFr.out.mono ?_; rintro e w9 ⟨rfl, hp⟩; have HP9 := Aside0.mk hp; clear hp HFr b0 b1 b2 b3)
            | (go_at_call 28; refine (all_tl HP9.out).mono ?_; rintro e w10 ⟨B, m, rfl, hp⟩; have HP10 := Aside0.mk hp; clear hp HP9)
            | (go_at_call 39; refine (book_tl HP10.out (by have := HLn.out; omega)).mono ?_; rintro e w11 ⟨rfl, hp, hF⟩; have HP11 := Aside0.mk hp; have HF11 := Aside0.mk hF; clear hp hF HP10))
          obtain ⟨Ar, cr, hrr⟩ := HP11.out.doc
          have y0 := (hrr.k).1
          have y1 := (hrr.k).2.1
          have hv6 := HP11.out.var (List.mem_cons_of_mem _ (List.mem_cons_self))
          have hv7 := HP11.out.var (List.mem_cons_self)
          have hvo := HP11.out.var (List.mem_cons_of_mem _ (List.mem_cons_of_mem _ (List.mem_cons_self)))
          dsimp only at hv6 hv7 hvo
          have x0 := cells_of_heap hv6 0 _ rfl
          have x1 := cells_of_heap hv6 1 _ rfl
          have z0 := cells_of_heap hv7 0 _ rfl
          have z1 := cells_of_heap hv7 1 _ rfl
          have b2 := cells_of_heap hvo 2 _ rfl
          have b3 := cells_of_heap hvo 3 _ rfl
          have hC := hrr.c (by have := HLn.out; omega)
          have hcap := hrr.cap
          have htot := HP11.out.room
          have HRr := Aside0.mk (And.intro hC (And.intro hcap htot))
          clear hrr hv6 hv7 hvo hC hcap htot
          have HSum := Aside0.mk (fun (W : World) (hb : Below w11.heap.size w11 W) => sum_calls (Kd.C_below HRr.out.1 hb) HRr.out.2.1 (by have := HRr.out.2.2; omega))
          have HSame := Aside0.mk (fun (W : World) (hb : Below w11.heap.size w11 W) => Bk.same_c (Kd.C_below (HF11.out.cr.c (by have := HLn.out; omega)) hb) HF11.out.room (Kd.C_below HRr.out.1 hb) HRr.out.2.1 (by have := HLn.out; omega))
          have HCo := Aside0.mk (fun (W : World) => cost_calls f (by have := HF.out; omega) W)
          have HCr := Aside0.mk (fun (W : World) => costR_calls f (by have := HF.out; omega) W)
          have mixed : Try.prog.follows Departure.mixedOrders = true := by kernel_rfl
          go_region_held3 (fun W => W.cell? ⟨gr, 0, none⟩ = some (.int .i64 t') ∧ W.cell? ⟨gr, 1, none⟩ = some (.slice Ar L'.length cr) ∧ W.cell? ⟨w6.heap.size, 0, none⟩ = some (.string va.f0) ∧ W.cell? ⟨w6.heap.size, 1, none⟩ = some (.string va.f1) ∧ W.cell? ⟨w7.heap.size, 0, none⟩ = some (.string va.f0) ∧ W.cell? ⟨w7.heap.size, 1, none⟩ = some (.string va.f1) ∧ W.cell? ⟨wr.heap.size, 2, none⟩ = some (.string f.f0) ∧ W.cell? ⟨wr.heap.size, 3, none⟩ = some (.string f.f1))
            (go_keep)
            (first
              | (go_at_call 34; refine (size_tl (HP11.out.below (below_drew (Below.refl _ _)))).mono ?_; rintro e w12 ⟨rfl, hb⟩; have y0 := pw_cell_below hb y0; have y1 := pw_cell_below hb y1; have x0 := pw_cell_below hb x0; have x1 := pw_cell_below hb x1; have z0 := pw_cell_below hb z0; have z1 := pw_cell_below hb z1; have b2 := pw_cell_below hb b2; have b3 := pw_cell_below hb b3; have HB12 := Aside0.mk (below_step (below_drew (Below.refl w11.heap.size w11)) hb); clear hb)
              | (go_at_call 29; refine (used_tl (HP11.out.below HB12.out)).mono ?_; rintro e w13 ⟨rfl, hb⟩; have y0 := pw_cell_below hb y0; have y1 := pw_cell_below hb y1; have x0 := pw_cell_below hb x0; have x1 := pw_cell_below hb x1; have z0 := pw_cell_below hb z0; have z1 := pw_cell_below hb z1; have b2 := pw_cell_below hb b2; have b3 := pw_cell_below hb b3; have HB13 := Aside0.mk (below_step HB12.out hb); clear hb HB12)
              | (go_at_call 40; refine (HSum.out _ HB13.out).mono ?_; rintro e w14 ⟨rfl, hb⟩; have y0 := pw_cell_below hb y0; have y1 := pw_cell_below hb y1; have x0 := pw_cell_below hb x0; have x1 := pw_cell_below hb x1; have z0 := pw_cell_below hb z0; have z1 := pw_cell_below hb z1; have b2 := pw_cell_below hb b2; have b3 := pw_cell_below hb b3; have HB14 := Aside0.mk (below_step HB13.out hb); clear hb HB13)
              | (go_at_call 41; refine (HSame.out _ HB14.out).mono ?_; rintro e w15 ⟨rfl, hb⟩; have y0 := pw_cell_below hb y0; have y1 := pw_cell_below hb y1; have x0 := pw_cell_below hb x0; have x1 := pw_cell_below hb x1; have z0 := pw_cell_below hb z0; have z1 := pw_cell_below hb z1; have b2 := pw_cell_below hb b2; have b3 := pw_cell_below hb b3; have HB15 := Aside0.mk (below_step HB14.out hb); clear hb HB14)
              | (go_at_call 30; refine (HCo.out _).mono ?_; rintro e w16 ⟨rfl, hb⟩; have y0 := pw_cell_below hb y0; have y1 := pw_cell_below hb y1; have x0 := pw_cell_below hb x0; have x1 := pw_cell_below hb x1; have z0 := pw_cell_below hb z0; have z1 := pw_cell_below hb z1; have b2 := pw_cell_below hb b2; have b3 := pw_cell_below hb b3; have HB16 := Aside0.mk (below_step HB15.out hb); clear hb HB15)
              | (go_at_call 42; refine (HCr.out _).mono ?_; rintro e w17 ⟨rfl, hb⟩; have y0 := pw_cell_below hb y0; have y1 := pw_cell_below hb y1; have x0 := pw_cell_below hb x0; have x1 := pw_cell_below hb x1; have z0 := pw_cell_below hb z0; have z1 := pw_cell_below hb z1; have b2 := pw_cell_below hb b2; have b3 := pw_cell_below hb b3; have HB17 := Aside0.mk (below_step HB16.out hb); clear hb HB16))
          all_goals
            have HP17 : Aside0 (TL w w17 (gr + 1) g gr L' t' L' t' []) := ⟨(HP11.out.below HB17.out).forget⟩
            clear HP11 y0 y1 x0 x1 z0 z1 b2 b3 HSum HSame HCo HCr
            go_wp2
            go_roundg (gk - 1)
            case measure => have := HJ.out; have := HJ3.out; omega
            case rel => exact ⟨j + 1, L', t', congrArg (Value.int .i64) HWJ.out, ⟨by have := HJ.out; omega, by have := HJ.out; have := HJ3.out; omega⟩, HP17⟩
    · have q1 : decide ((j : Int) < (os.length : Int)) = false := decide_eq_false (by omega)
      have q2 : decide (j < os.length) = false := decide_eq_false hj
      clear hj
      go_wp2_with (first
        | (go_at_call 24; refine (apart_tl HP.out).mono ?_; rintro e w4 ⟨rfl, hb⟩; have HF := Aside0.mk hb; clear hb))
      go_ret
      exact ⟨rfl, HF.out⟩
theorem plays_calls (s : Int) (A : Option Addr) (os : List OP) (c : Nat) (w : World) (hO : Ops w A os) :
    Calls Try.prog 12 #[.int .i64 s, .slice A os.length c] w fun e w' => e = .returned (.bool true) ∧ Below w.heap.size w w' := by
  rcases Nat.lt_or_ge 80 os.length with h | h
  · exact plays_off s A os.length c w h
  · by_cases hs : 0 ≤ s ∧ s ≤ 512
    · exact plays_on s A os c w h hs hO
    · exact plays_no s A os.length c w h hs
end Go.Proofs.Ytohphkdemonlkaa.Tp
