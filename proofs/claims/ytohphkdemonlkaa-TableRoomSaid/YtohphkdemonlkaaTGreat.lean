/- TableGreat: the walk. -/
import Derived.Test.YtohphkdemonlkaaTAdds
namespace Go.Proofs.Ytohphkdemonlkaa.Tw
open Go.RowKit Go.Lib Go.Proofs.Ytohphkdemonlkaa.XQt Go.Proofs.YtohphkdemonlkaaW.PrintWords Go.Proofs.YtohphkdemonlkaaW.PrintLast Go.Proofs.YtohphkdemonlkaaW.PrintMore Go.Proofs.Ytohphkdemonlkaa.Ob

theorem addL_empty (s : Int) (l : List S54) (x : S54) (h : ¬ cost x ≤ s) : addL s l x = [] := by
  have key : ∀ n, shr (s - cost x) l n = 0 := by
    intro n
    induction n with
    | zero => rfl
    | succ n ih =>
      unfold shr
      rw [if_pos (by have := total_nonneg (l.take (n + 1)); omega), ih]
  unfold addL
  rw [if_neg h, key, List.take_zero]
theorem addL_some (s : Int) (l : List S54) (x : S54) (h : cost x ≤ s) : 1 ≤ (addL s l x).length := by
  unfold addL
  rw [if_pos h]
  simp
theorem info5 : (Try.prog.info? 5).map (fun i => (i.zero, i.size, i.bytes)) = some (some (.int .u8 0), 1, 1) := by kernel_rfl
theorem zeros_reads (w : World) (m : Nat) (hm : m ≤ 9223372036854775807) : ReadsInt (w.alloc (.cells (madeCells #[.int .u8 0] m) 5)) .u8 (some ⟨w.heap.size, 0, none⟩) m (List.replicate m 0) := by
  refine ⟨by simp, hm, fun _ => ⟨_, rfl, fun j hj => ?_⟩⟩
  rw [Addr.add_lit, Nat.zero_add]
  refine cells_of_heap (heap_alloc_new w _) j _ ?_
  simp [madeCells, hj, Nat.mod_one]
theorem strOfNums_size (xs : List Int) : (strOfNums xs).size = xs.length := by
  simp [strOfNums, ByteArray.size]
set_option maxHeartbeats 1600000 in
theorem great_off (A : Option Addr) (n c : Nat) (k : Int) (w : World) (hg : (n : Int) > 10 ∨ k < 0 ∨ k > 600) :
    Calls Try.prog 11 #[.slice A n c, .int .i64 k] w fun e w' => e = .returned (.bool true) ∧ Below w.heap.size w w' := by
  have HA := Aside0.mk (alive_calls w)
  by_cases c2 : (n : Int) > 10
  · have d2 : decide ((n : Int) > 10) = true := decide_eq_true c2
    have d2a : decide (n > 10) = true := decide_eq_true (by omega)
    clear hg c2
    go_enter Try.func11, Try.ntmps11
    go_wp2_with (go_at_call 25; refine HA.out.mono ?_; rintro e w' ⟨rfl, hb⟩)
    go_ret
    exact ⟨rfl, hb⟩
  · have d2 : decide ((n : Int) > 10) = false := decide_eq_false c2
    have d2a : decide (n > 10) = false := decide_eq_false (by omega)
    by_cases c3 : k < 0
    · have d3 : decide (k < 0) = true := decide_eq_true c3
      clear hg c2 c3
      go_enter Try.func11, Try.ntmps11
      go_wp2_with (go_at_call 25; refine HA.out.mono ?_; rintro e w' ⟨rfl, hb⟩)
      go_ret
      exact ⟨rfl, hb⟩
    · have d3 : decide (k < 0) = false := decide_eq_false c3
      have d4 : decide (k > 600) = true := decide_eq_true (by omega)
      clear hg c2 c3
      go_enter Try.func11, Try.ntmps11
      go_wp2_with (go_at_call 25; refine HA.out.mono ?_; rintro e w' ⟨rfl, hb⟩)
      go_ret
      exact ⟨rfl, hb⟩
set_option maxHeartbeats 3200000 in
set_option maxRecDepth 20000 in
theorem great_on (A : Option Addr) (l : List S54) (c m : Nat) (w : World) (hn : l.length ≤ 10) (hm : m ≤ 600) (hC : k54.C w A l.length l) (hS : Small l) :
    Calls Try.prog 11 #[.slice A l.length c, .int .i64 (m : Int)] w fun e w' => e = .returned (.bool true) ∧ Below w.heap.size w w' := by
  have d2 : decide ((l.length : Int) > 10) = false := decide_eq_false (by omega)
  have d2a : decide (l.length > 10) = false := decide_eq_false (by omega)
  have d3 : decide ((m : Int) < 0) = false := decide_eq_false (by omega)
  have d4 : decide ((m : Int) > 600) = false := decide_eq_false (by omega)
  have d4a : decide (m > 600) = false := decide_eq_false (by omega)
  have HA := Aside0.mk (alive_calls w)
  have HN := Aside0.mk hn
  have HC := Aside0.mk hC
  have HS := Aside0.mk hS
  have HM := Aside0.mk hm
  clear hn hm hC hS
  go_enter Try.func11, Try.ntmps11
  go_wp2_with (first
    | (go_at_call 25; refine HA.out.mono ?_; rintro e w1 ⟨rfl, hb⟩; have HB := Aside0.mk hb; clear hb)
    | (go_at_call 26; refine (new_own HB.out 100 (by decide)).mono ?_; rintro e w2 ⟨g, rfl, ht⟩; have HT := Aside0.mk ht; clear ht))
  clear d2 d2a d3 d4 d4a
  go_loopg [29] 100 (fun kq v29 w' => ∃ i : Nat, v29 = .int .i64 i ∧ Aside0 (i ≤ l.length ∧ i + kq = 100) ∧ Aside0 (TOwn w w' (adds 100 (l.take i)) 100 g))
  case atStart => exact ⟨0, rfl, ⟨by omega, by omega⟩, ⟨HT.out⟩⟩
  case round =>
    clear HT
    obtain ⟨i, rfl, HJ, HT⟩ := hrel
    by_cases hi : i < l.length
    · have HI := Aside0.mk hi
      have e1 : decide ((i : Int) < (l.length : Int)) = true := decide_eq_true (by omega)
      obtain ⟨ad, hA, k0, k1⟩ := elem_at HC.out HT.out.below i hi
      subst hA
      have hsm := small_at HS.out i hi
      have had := adds_snoc 100 l i hi
      have p1 : (0 : Int) ≤ (i : Int) := by omega
      have p2 : (i : Int) < (l.length : Int) := by omega
      generalize hxl : l[i] = x at k0 k1 hsm had
      have HXL : Aside0 (∀ h : i < l.length, l[i] = x) := ⟨fun _ => hxl⟩
      clear hxl
      have HAD := Aside0.mk had
      have hw : wrap64 ((x.f0.size : Int) + x.f1.size) = (x.f0.size : Int) + x.f1.size := w64_in ((x.f0.size : Int) + x.f1.size) (by omega)
      clear hi had
      by_cases hx : (x.f0.size : Int) + x.f1.size > 200
      · have e2 : decide ((x.f0.size : Int) + x.f1.size > 200) = true := decide_eq_true hx
        clear hx hsm
        go_wp2
        go_ret
        exact ⟨rfl, below_alloc HT.out.below _⟩
      · have e2 : decide ((x.f0.size : Int) + x.f1.size > 200) = false := decide_eq_false hx
        have HX : Aside0 (cost x ≤ 200 + 32) := ⟨by unfold cost; omega⟩
        clear hx hsm
        go_wp2_with (go_at_call 27; refine (add_own (HT.out.below_ (below_alloc (Below.refl _ _) (.cells #[.string x.f0, .string x.f1] 54))) x (by have := HX.out; omega)).mono ?_; rintro e w3 ⟨rfl, ht3⟩; rw [← HAD.out] at ht3; have HT3 := Aside0.mk ht3; clear ht3)
        go_roundg (gk - 1)
        case measure => have := HJ.out; have := HN.out; have := HI.out; omega
        case rel => exact ⟨i + 1, by rw [w64_in ((i : Int) + 1) (by have := HN.out; have := HI.out; omega)]; rfl, ⟨by have := HI.out; omega, by have := HJ.out; have := HN.out; have := HI.out; omega⟩, ⟨HT3.out⟩⟩
    · have e1 : decide ((i : Int) < (l.length : Int)) = false := decide_eq_false (by omega)
      have e1' : ¬ i < l.length := hi
      have e1'' : decide (i < l.length) = false := decide_eq_false hi
      have hil : i = l.length := by have := HJ.out.1; omega
      clear hi

      clear hil
      generalize adds 100 (l.take i) = D at HT
      have hmk := print_make (P := Try.prog) 66 5 .u8 1 Try.underlying66 info5 (by omega) m (by have := HM.out; omega)
      obtain ⟨Z, hZ⟩ : ∃ Z, Z = strOfNums (List.replicate m 0) := ⟨_, rfl⟩
      have hcv : ∀ W : World, (convert 66 9 (.slice (some ⟨W.heap.size, 0, none⟩) m m)).run Try.prog (W.alloc (.cells (madeCells #[.int .u8 0] m) 5)) = .ok (.string Z) (W.alloc (.cells (madeCells #[.int .u8 0] m) 5)) := fun W => by
        rw [hZ]
        exact string_of_reads Try.underlying66 Try.underlying5 Try.underlying9 (zeros_reads W m (by have := HM.out; omega))
      have hZs : Z.size = m := by rw [hZ, strOfNums_size, List.length_replicate]
      have HK : Aside0 (cost ⟨⟨#[120]⟩, Z⟩ = (m : Int) + 33) := ⟨by
        unfold cost
        show (1 : Int) + (Z.size : Int) + 32 = _
        rw [hZs]
        omega⟩
      have hw33 : wrap64 ((m : Int) + 33) = (m : Int) + 33 := w64_in ((m : Int) + 33) (by have := HM.out; omega)
      clear hZ hZs
      by_cases hc : (m : Int) + 33 > 100
      · have g1 : decide ((m : Int) + 33 > 100) = true := decide_eq_true hc
        have g1a : decide ((m : Int) > 67) = true := decide_eq_true (by omega)
        have HD : Aside0 (addL 100 D ⟨⟨#[120]⟩, Z⟩ = []) := ⟨addL_empty _ _ _ (by rw [HK.out]; omega)⟩
        clear hc
        go_wp2_with (first
          | (go_at_call 27; refine (add_own (HT.out.below_ (below_alloc (Below.refl _ _) _)) ⟨⟨#[120]⟩, Z⟩ (by rw [HK.out]; have := HM.out; omega)).mono ?_; rintro e w3 ⟨rfl, ht3⟩; rw [HD.out] at ht3; have HT3 := Aside0.mk ht3; clear HT ht3)
          | (go_at_call 29; refine (used_own HT3.out).mono ?_; rintro e w4 ⟨rfl, hb4⟩; rw [show total [] = 0 from rfl]; have HT4 := Aside0.mk (HT3.out.below_ hb4); clear HT3 hb4)
          | (go_at_call 28; refine (all_own HT4.out).mono ?_; rintro e w5 ⟨A5, c5, rfl, _, hb5⟩; have HT5 := Aside0.mk (HT4.out.below_ hb5); clear HT4 hb5))
        go_ret
        exact ⟨rfl, HT5.out.below⟩
      · have g1 : decide ((m : Int) + 33 > 100) = false := decide_eq_false hc
        have g1a : decide ((m : Int) > 67) = false := decide_eq_false (by omega)
        have HD := Aside0.mk (addL_some 100 D ⟨⟨#[120]⟩, Z⟩ (by rw [HK.out]; omega))
        generalize hE : addL 100 D ⟨⟨#[120]⟩, Z⟩ = E at HD
        have HE := Aside0.mk hE
        have g2 : decide ((E.length : Int) ≥ 1) = true := decide_eq_true (by have := HD.out; omega)
        have g2a : decide (E.length ≥ 1) = true := decide_eq_true HD.out
        have g2b : decide (0 < E.length) = true := decide_eq_true HD.out
        clear hc hE
        go_wp2_with (first
          | (go_at_call 27; refine (add_own (HT.out.below_ (below_alloc (Below.refl _ _) _)) ⟨⟨#[120]⟩, Z⟩ (by rw [HK.out]; have := HM.out; omega)).mono ?_; rintro e w3 ⟨rfl, ht3⟩; rw [HE.out] at ht3; have g3 : decide (total E ≤ 100) = true := decide_eq_true ht3.room; have HT3 := Aside0.mk ht3; clear HT ht3)
          | (go_at_call 29; refine (used_own HT3.out).mono ?_; rintro e w4 ⟨rfl, hb4⟩; have HT4 := Aside0.mk (HT3.out.below_ hb4); clear HT3 hb4)
          | (go_at_call 28; refine (all_own HT4.out).mono ?_; rintro e w5 ⟨A5, c5, rfl, _, hb5⟩; have HT5 := Aside0.mk (HT4.out.below_ hb5); clear HT4 hb5))
        go_ret
        exact ⟨rfl, HT5.out.below⟩
theorem great_calls (A : Option Addr) (l : List S54) (c : Nat) (k : Int) (w : World) (hC : k54.C w A l.length l) (hS : Small l) :
    Calls Try.prog 11 #[.slice A l.length c, .int .i64 k] w fun e w' => e = .returned (.bool true) ∧ Below w.heap.size w w' := by
  by_cases h : (l.length : Int) > 10 ∨ k < 0 ∨ k > 600
  · exact great_off A l.length c k w h
  · obtain ⟨m, rfl⟩ : ∃ m : Nat, k = (m : Int) := ⟨k.toNat, by omega⟩
    exact great_on A l c m w (by omega) (by omega) hC hS
end Go.Proofs.Ytohphkdemonlkaa.Tw
