/- QueueCuts: the plain law and the walk. -/
import Derived.Test.YtohphkdemonlkaaQAlive
namespace Go.Proofs.Ytohphkdemonlkaa.Qw
open Go.RowKit Go.Proofs.Ytohphkdemonlkaa.XQt Go.Proofs.YtohphkdemonlkaaW.PrintWords Go.Proofs.YtohphkdemonlkaaW.PrintLast Go.Proofs.YtohphkdemonlkaaW.PrintMore Go.Proofs.Ytohphkdemonlkaa.Ob

/-- k, k+1, .. : m of them. -/
def up (k : Int) : Nat → List Int
  | 0 => []
  | m + 1 => k :: up (k + 1) m
/-- The same without one. -/
def rst (id : Int) (k : Int) : Nat → List Int
  | 0 => []
  | m + 1 => if k = id then rst id (k + 1) m else k :: rst id (k + 1) m
theorem up_len : ∀ (m : Nat) (k : Int), (up k m).length = m
  | 0, _ => rfl
  | m + 1, k => by rw [up, List.length_cons, up_len m]
theorem mem_up : ∀ (m : Nat) (k x : Int), x ∈ up k m ↔ k ≤ x ∧ x < k + m
  | 0, k, x => by simp [up]; try omega
  | m + 1, k, x => by
    rw [up, List.mem_cons, mem_up m (k + 1) x]
    omega
theorem up_snoc : ∀ (m : Nat) (k : Int), up k m ++ [k + m] = up k (m + 1)
  | 0, k => by simp [up]
  | m + 1, k => by
    rw [up, List.cons_append, show k + ((m + 1 : Nat) : Int) = k + 1 + (m : Int) by omega, up_snoc m (k + 1)]
    rfl
theorem rst_far : ∀ (m : Nat) (id k : Int), id < k → rst id k m = up k m
  | 0, _, _, _ => rfl
  | m + 1, id, k, h => by rw [rst, if_neg (by omega), rst_far m id (k + 1) (by omega), up]
theorem out_up : ∀ (m : Nat) (id k : Int), id ∈ up k m → (up k m).take ((up k m).idxOf id) ++ (up k m).drop ((up k m).idxOf id + 1) = rst id k m
  | 0, _, _, h => by simp [up] at h
  | m + 1, id, k, h => by
    rw [up] at h ⊢
    by_cases e : k = id
    · rw [rst, if_pos e, rst_far m id (k + 1) (by omega), e, List.idxOf_cons_self]
      simp
    · have hm : id ∈ up (k + 1) m := by
        rcases List.mem_cons.1 h with h | h
        · exact absurd h.symm e
        · exact h
      have hx : (k :: up (k + 1) m).idxOf id = (up (k + 1) m).idxOf id + 1 := by rw [List.idxOf_cons, beq_eq_false_iff_ne.2 e]; rfl
      rw [rst, if_neg e, hx, ← out_up m id (k + 1) hm]
      rfl
theorem mem_rst : ∀ (m : Nat) (id k : Int), id ∉ rst id k m
  | 0, _, _, h => by cases h
  | m + 1, id, k, h => by
    rw [rst] at h
    by_cases e : k = id
    · rw [if_pos e] at h
      exact mem_rst m id (k + 1) h
    · rw [if_neg e] at h
      rcases List.mem_cons.1 h with h | h
      · exact e h.symm
      · exact mem_rst m id (k + 1) h
theorem rst_len : ∀ (m : Nat) (id k : Int), (rst id k m).length ≤ m
  | 0, _, _ => Nat.le_refl _
  | m + 1, id, k => by
    rw [rst]
    have := rst_len m id (k + 1)
    by_cases e : k = id
    · rw [if_pos e]; omega
    · rw [if_neg e, List.length_cons]; omega
section
variable {w0 w : World} {g : Nat}
theorem cu_put (j : Int) (h1 : 1 ≤ j) (h2 : j ≤ 50) (h : Own w0 w (up 1 (j - 1).toNat, 50) g) : Calls Try.prog 16 #[.pointer (some ⟨g, 0, none⟩), .int .i64 j] w fun e w' => e = .returned (.int .i64 0) ∧ Own w0 w' (up 1 (j + 1 - 1).toNat, 50) g := by
  have hm : mayC (up 1 (j - 1).toNat, 50) j = 0 := by
    unfold mayC
    rw [if_neg (by rw [mem_up]; omega), if_neg (by show ¬ (((up 1 (j - 1).toNat).length : Int) ≥ 50); rw [up_len]; omega)]
  have hp : putQ (up 1 (j - 1).toNat, 50) j = (up 1 (j + 1 - 1).toNat, 50) := by
    unfold putQ
    rw [if_pos hm]
    have := up_snoc (j - 1).toNat 1
    rw [show (1 : Int) + ((j - 1).toNat : Int) = j by omega] at this
    rw [this, show (j - 1).toNat + 1 = (j + 1 - 1).toNat by omega]
  have := put_own h (by rw [up_len]; omega) j
  rw [hm, hp] at this
  exact this
theorem cu_cut (n id : Int) (hn : 0 ≤ n) (h2 : n ≤ 50) (h3 : 1 ≤ id) (h4 : id ≤ n) (h : Own w0 w (up 1 n.toNat, 50) g) : Calls Try.prog 17 #[.pointer (some ⟨g, 0, none⟩), .int .i64 id] w fun e w' => e = .returned (.bool true) ∧ Own w0 w' (rst id 1 n.toNat, 50) g := by
  have hm : id ∈ up 1 n.toNat := (mem_up _ _ _).2 (by omega)
  have := cut_own h (by rw [up_len]; omega) id hm
  rw [show outQ (up 1 n.toNat, 50) id = (rst id 1 n.toNat, 50) from by unfold outQ; rw [out_up _ _ _ hm]] at this
  exact this
theorem cu_cut2 (n id : Int) (h2 : n ≤ 50) (h : Own w0 w (rst id 1 n.toNat, 50) g) : Calls Try.prog 17 #[.pointer (some ⟨g, 0, none⟩), .int .i64 id] w fun e w' => e = .returned (.bool false) ∧ Own w0 w' (rst id 1 n.toNat, 50) g :=
  cut_none_own h (by have := rst_len n.toNat id 1; show (rst id 1 n.toNat).length ≤ _; omega) id (mem_rst _ _ _)
theorem cu_place (n id : Int) (h2 : n ≤ 50) (h : Own w0 w (rst id 1 n.toNat, 50) g) : Calls Try.prog 18 #[.pointer (some ⟨g, 0, none⟩), .int .i64 id] w fun e w' => e = .returned (.int .i64 (-1)) ∧ Own w0 w' (rst id 1 n.toNat, 50) g := by
  have := place_own h (by have := rst_len n.toNat id 1; show (rst id 1 n.toNat).length ≤ _; omega) id
  rw [show ix (rst id 1 n.toNat, (50 : Int)).1 id = -1 from by unfold ix; rw [if_neg (mem_rst _ _ _)]] at this
  exact this
theorem cu_first (k : Nat) (j id : Int) (h2 : k ≤ 50) (hne : j ≠ id) (h : Own w0 w (rst id j (k + 1), 50) g) : Calls Try.prog 19 #[.pointer (some ⟨g, 0, none⟩)] w fun e w' => e = .returned (.tuple #[.int .i64 j, .bool true]) ∧ Own w0 w' (rst id (j + 1) k, 50) g := by
  rw [rst, if_neg hne] at h
  exact first_own h (by have := rst_len k id (j + 1); omega)
theorem cu_skip (k : Nat) (j id : Int) (he : j = id) (h : Own w0 w (rst id j (k + 1), 50) g) : Own w0 w (rst id (j + 1) k, 50) g := by
  rw [rst, if_pos he] at h
  exact h
theorem cu_nil (j id : Int) (h : Own w0 w (rst id j 0, 50) g) : Own w0 w ([], 50) g := h
end
theorem w64_in (n : Int) (h : -9223372036854775808 ≤ n ∧ n ≤ 9223372036854775807) : wrap64 n = n := by unfold wrap64; omega
theorem id_in (n a : Int) (h : 1 ≤ n ∧ n ≤ 50) : 1 ≤ wrap64 (1 + (wrap64 (a.tmod n + n)).tmod n) ∧ wrap64 (1 + (wrap64 (a.tmod n + n)).tmod n) ≤ n := by
  have h1 := Int.tmod_lt_of_pos a (show 0 < n by omega)
  have h2 : -n < a.tmod n := by
    have := Int.tmod_lt_of_pos (-a) (show 0 < n by omega)
    rw [Int.neg_tmod] at this
    omega
  generalize a.tmod n = x at h1 h2
  rw [w64_in (x + n) (by omega)]
  have h3 := Int.tmod_lt_of_pos (x + n) (show 0 < n by omega)
  have h4 := Int.tmod_nonneg n (show 0 ≤ x + n by omega)
  generalize (x + n).tmod n = y at h3 h4
  rw [w64_in (1 + y) (by omega)]
  omega
set_option maxHeartbeats 1600000 in
theorem cuts_calls (n at_ : Int) (w : World) :
    Calls Try.prog 3 #[.int .i64 n, .int .i64 at_] w fun e w' => e = .returned (.bool true) ∧ Below w.heap.size w w' := by
  by_cases h1 : n < 1
  · have c1 : decide (n < 1) = true := decide_eq_true h1
    clear h1
    go_enter Try.func3, Try.ntmps3
    go_wp2_with (go_at_call 14; refine (alive_calls _).mono ?_; rintro e w' ⟨rfl, HB⟩)
    go_ret
    exact ⟨rfl, HB⟩
  have c1 : decide (n < 1) = false := decide_eq_false h1
  by_cases h2 : 50 < n
  · have c2 : decide (50 < n) = true := decide_eq_true h2
    have c2' : decide (n > 50) = true := decide_eq_true h2
    clear h1 h2
    go_enter Try.func3, Try.ntmps3
    go_wp2_with (go_at_call 14; refine (alive_calls _).mono ?_; rintro e w' ⟨rfl, HB⟩)
    go_ret
    exact ⟨rfl, HB⟩
  have c2 : decide (50 < n) = false := decide_eq_false h2
  have c2' : decide (n > 50) = false := decide_eq_false h2
  have HN : Aside0 (1 ≤ n ∧ n ≤ 50) := ⟨by omega, by omega⟩
  clear h1 h2
  go_enter Try.func3, Try.ntmps3
  go_upto_block 1 with (first
    | (go_at_call 14; refine (alive_calls _).mono ?_; rintro e w' ⟨rfl, HB⟩)
    | (go_at_call 15; refine (new_own HB 50 (by decide)).mono ?_; rintro e w' ⟨g, rfl, HS⟩))
  clear c1 c2 c2'
  go_loopg [6] 100 (fun kq v6 w' => ∃ j : Int, v6 = .int .i64 j ∧ Aside0 (1 ≤ j ∧ j ≤ n + 1 ∧ j + (kq : Int) = 101) ∧ Own w w' (up 1 (j - 1).toNat, 50) g)
  case atStart => exact ⟨1, rfl, ⟨by omega, by have := HN.out; omega, by omega⟩, HS⟩
  case round =>
    clear HS
    obtain ⟨j, rfl, HJ, HS⟩ := hrel
    by_cases hj : j ≤ n
    · have d1 : decide (j ≤ n) = true := decide_eq_true hj
      have HK : Aside0 (j ≤ n) := ⟨hj⟩
      have H50 : Aside0 (j ≤ 50) := ⟨by have := HN.out; omega⟩
      clear hj
      go_wp2_with (go_at_call 16; refine (cu_put j HJ.out.1 H50.out HS).mono ?_; rintro e w' ⟨rfl, HS'⟩; clear HS)
      go_roundg (gk - 1)
      case measure => have := HJ.out; have := HN.out; have := HK.out; omega
      case rel => exact ⟨j + 1, by rw [w64_in _ (by have := HJ.out; have := HN.out; omega)], ⟨by have := HJ.out; omega, by have := HK.out; omega, by have := HJ.out; have := HN.out; have := HK.out; omega⟩, HS'⟩
    · have d1 : decide (j ≤ n) = false := decide_eq_false hj
      have HE : Aside0 (j - 1 = n) := ⟨by have := HJ.out; omega⟩
      rw [HE.out] at HS
      have hnz : ¬ n = 0 := by have := HN.out; omega
      clear hj
      go_upto_region 12 with (fail)
      have HI := Aside0.mk (id_in n at_ HN.out)
      generalize wrap64 (1 + (wrap64 (at_.tmod n + n)).tmod n) = id at HI ⊢
      clear d1 HJ
      go_wp2_with (first
        | (go_at_call 17; refine (cu_cut n id (by have := HN.out; omega) HN.out.2 HI.out.1 HI.out.2 HS).mono ?_; rintro e w' ⟨rfl, HS1⟩; clear HS)
        | (go_at_call 17; refine (cu_cut2 n id HN.out.2 HS1).mono ?_; rintro e w' ⟨rfl, HS2⟩; clear HS1)
        | (go_at_call 18; refine (cu_place n id HN.out.2 HS2).mono ?_; rintro e w' ⟨rfl, HS3⟩; clear HS2))
      go_loopg [8] 100 (fun kq v8 w' => ∃ j : Int, v8 = .int .i64 j ∧ Aside0 (1 ≤ j ∧ j ≤ n + 1 ∧ j + (kq : Int) = 101) ∧ Own w w' (rst id j (n + 1 - j).toNat, 50) g)
      case atStart => exact ⟨1, rfl, ⟨by omega, by have := HN.out; omega, by omega⟩, by rw [show n + 1 - 1 = n by omega]; exact HS3⟩
      case round =>
        clear HS3
        obtain ⟨j, rfl, HJ, HS⟩ := hrel
        by_cases hj : j ≤ n
        · have d1 : decide (j ≤ n) = true := decide_eq_true hj
          have HK : Aside0 (j ≤ n) := ⟨hj⟩
          rw [show (n + 1 - j).toNat = (n - j).toNat + 1 by omega] at HS
          have hk : (n - j).toNat ≤ 50 := by have := HN.out; have := HJ.out; omega
          have HL := Aside0.mk hk
          have HE2 : Aside0 ((n - j).toNat = (n + 1 - (j + 1)).toNat) := ⟨by omega⟩
          generalize (n - j).toNat = k at HS hk HL HE2
          have HW : Aside0 (wrap64 (j + 1) = j + 1) := ⟨w64_in _ (by have := HJ.out; have := HN.out; omega)⟩
          clear hj hk
          by_cases hji : j = id
          · have d2 : (j == id) = true := beq_iff_eq.2 hji
            have HS' := cu_skip k j id hji HS
            clear HS hji
            go_wp2
            go_roundg (gk - 1)
            case measure => have := HJ.out; have := HN.out; have := HK.out; omega
            case rel => exact ⟨j + 1, by rw [HW.out], ⟨by have := HJ.out; omega, by have := HK.out; omega, by have := HJ.out; have := HN.out; have := HK.out; omega⟩, by rw [← HE2.out]; exact HS'⟩
          · have d2 : (j == id) = false := beq_eq_false_iff_ne.2 hji
            have HNE := Aside0.mk hji
            have d3 : (j != j) = false := by simp
            clear hji
            go_wp2_with (go_at_call 19; refine (cu_first k j id HL.out HNE.out HS).mono ?_; rintro e w' ⟨rfl, HS'⟩; clear HS)
            go_roundg (gk - 1)
            case measure => have := HJ.out; have := HN.out; have := HK.out; omega
            case rel => exact ⟨j + 1, by rw [HW.out], ⟨by have := HJ.out; omega, by have := HK.out; omega, by have := HJ.out; have := HN.out; have := HK.out; omega⟩, by rw [← HE2.out]; exact HS'⟩
        · have d1 : decide (j ≤ n) = false := decide_eq_false hj
          rw [show (n + 1 - j).toNat = 0 by omega] at HS
          have HS' := cu_nil j id HS
          clear hj HS
          go_wp2_with (go_at_call 19; refine (first_none_own HS').mono ?_; rintro e w' ⟨rfl, HS⟩; clear HS')
          go_ret
          exact ⟨rfl, HS.below⟩
end Go.Proofs.Ytohphkdemonlkaa.Qw
