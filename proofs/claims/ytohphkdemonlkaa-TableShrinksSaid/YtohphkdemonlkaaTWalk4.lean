/- Contracts of the table's methods: At, Find. -/
import Derived.Test.YtohphkdemonlkaaTWalk3
namespace Go.Proofs.Ytohphkdemonlkaa.Tw
open Go.RowKit Go.Lib Go.Proofs.Ytohphkdemonlkaa.XQt Go.Proofs.YtohphkdemonlkaaW.PrintWords Go.Proofs.YtohphkdemonlkaaW.PrintLast Go.Proofs.YtohphkdemonlkaaW.PrintMore Go.Proofs.Ytohphkdemonlkaa.Ob

def fv (x : S54) : Value := .agg #[.string x.f0, .string x.f1]
/-- All fields of a table, those that are always there first. -/
def wholeL (l : List S54) : List S54 := fixedL ++ l
theorem whole_len (l : List S54) : (wholeL l).length = 16 + l.length := by unfold wholeL; rw [List.length_append, fixed_len]

set_option maxHeartbeats 1600000 in
theorem at_in (q : List S54 × (Int × Int)) (n : Nat) (w : World) (g : Nat) (base : Nat) (ok : Nat → Prop) (hl : q.1.length ≤ 1000000000) (hq : TK.M w base ok q [.pointer (some ⟨g, 0, none⟩)]) (hi : n < (wholeL q.1).length) :
    Calls Try.prog 31 #[.pointer (some ⟨g, 0, none⟩), .int .i64 ((n : Int) + 1)] w fun e w' => e = .returned (.tuple #[fv (rd_T54 (wholeL q.1) (n : Int)), .bool true]) ∧ Below w.heap.size w w' := by
  have HW : ∀ w1, Below w.heap.size w w1 → Aside0 (Calls Try.prog 73 #[.pointer (some ⟨g, 0, none⟩)] w1 fun e w' => ∃ A1 c1, e = .returned (.slice A1 (wholeL q.1).length c1) ∧ k54.R 54 w' w1.heap.size (fun k => w1.heap.size ≤ k) (.slice A1 (wholeL q.1).length c1) (wholeL q.1) ∧ Below w1.heap.size w1 w') :=
    fun w1 hb => ⟨whole_calls q w1 g base ok hl (Kd.M_below hq hb)⟩
  have hlen : Aside0 ((wholeL q.1).length ≤ 1000000016) := ⟨by rw [whole_len]; omega⟩
  generalize wholeL q.1 = L at HW hi hlen
  have HI := Aside0.mk hi
  have d1 : decide ((n : Int) + 1 < 1) = false := decide_eq_false (by omega)
  have d1' : decide ((n : Int) < 0) = false := decide_eq_false (by omega)
  have d2 : decide ((n : Int) + 1 > (L.length : Int)) = false := decide_eq_false (by omega)
  have p1 : (0 : Int) ≤ (n : Int) := by omega
  have p2 : (n : Int) < (L.length : Int) := by omega
  have hw : wrap64 (n : Int) = (n : Int) := w64_in (n : Int) (by have := hlen.out; omega)
  have HB := Aside0.mk (Below.refl w.heap.size w)
  clear hq hl hi
  have HC : ∀ (o : Obj) (w2 : World), Below (w.alloc o).heap.size (w.alloc o) w2 → Aside0 (∀ cells, o = .cells cells 54 (0, 0) → w2.heap[w.heap.size]? = some (.cells cells 54 (0, 0))) := fun o w2 hb => ⟨fun cells e => by rw [hb.block _ (by rw [World.size_alloc]; omega), e]; exact heap_alloc_new w _⟩
  go_enter Try.func31, Try.ntmps31
  go_wp2_with (go_at_call 73; refine (HW _ (below_alloc (Below.refl _ _) _)).out.mono ?_; rintro e w2 ⟨A1, c1, rfl, hR, hB⟩; have hbk := (HC _ w2 hB).out _ rfl; obtain ⟨ad, hA, e0, e1⟩ := at_T54 (Kd.R_reads' hR).2.2 (n : Int) p1 p2; cases hA; rw [Int.toNat_natCast] at e0 e1; have k0 : w2.cell? ⟨w.heap.size, 0, none⟩ = some (.string ⟨#[]⟩) := (by simp [World.cell?, hbk]); have k1 : w2.cell? ⟨w.heap.size, 1, none⟩ = some (.string ⟨#[]⟩) := (by simp [World.cell?, hbk]); have f0 : ∀ j, w2.frozen? ⟨w.heap.size, j, none⟩ = false := (fun j => by simp [World.frozen?, hbk]); have HB2 := Aside0.mk hB; have HBK := Aside0.mk hbk; clear hB hR hbk)
  (try simp only [Exit.inBlock, Exit.then])
  refine bodyPost_ret (results_ct rfl _ _ w.heap.size 54 #[.string (rd_T54 L (n : Int)).f0, .string (rd_T54 L (n : Int)).f1] (0, 0) _ rfl (blk_put (blk_put HBK.out 0 _ rfl) 1 _ rfl) Try.underlying54 rfl (by kernel_rfl)) rfl ?_
  exact ⟨rfl, below_set (below_set (below_step (below_alloc (Below.refl _ _) _) HB2.out) (Nat.le_refl _)) (Nat.le_refl _)⟩
set_option maxHeartbeats 1600000 in
theorem at_out (q : List S54 × (Int × Int)) (i : Int) (w : World) (g : Nat) (base : Nat) (ok : Nat → Prop) (hl : q.1.length ≤ 1000000000) (hq : TK.M w base ok q [.pointer (some ⟨g, 0, none⟩)]) (hi : ¬ (1 ≤ i ∧ i ≤ ((wholeL q.1).length : Int))) :
    Calls Try.prog 31 #[.pointer (some ⟨g, 0, none⟩), .int .i64 i] w fun e w' => e = .returned (.tuple #[fv z54, .bool false]) ∧ Below w.heap.size w w' := by
  have HW : ∀ w1, Below w.heap.size w w1 → Aside0 (Calls Try.prog 73 #[.pointer (some ⟨g, 0, none⟩)] w1 fun e w' => ∃ A1 c1, e = .returned (.slice A1 (wholeL q.1).length c1) ∧ k54.R 54 w' w1.heap.size (fun k => w1.heap.size ≤ k) (.slice A1 (wholeL q.1).length c1) (wholeL q.1) ∧ Below w1.heap.size w1 w') :=
    fun w1 hb => ⟨whole_calls q w1 g base ok hl (Kd.M_below hq hb)⟩
  generalize wholeL q.1 = L at HW hi
  have HC : ∀ (o : Obj) (w2 : World), Below (w.alloc o).heap.size (w.alloc o) w2 → Aside0 (∀ cells, o = .cells cells 54 (0, 0) → w2.heap[w.heap.size]? = some (.cells cells 54 (0, 0))) := fun o w2 hb => ⟨fun cells e => by rw [hb.block _ (by rw [World.size_alloc]; omega), e]; exact heap_alloc_new w _⟩
  clear hq hl
  by_cases h1 : i < 1
  · have d1 : decide (i < 1) = true := decide_eq_true h1
    clear hi h1
    go_enter Try.func31, Try.ntmps31
    go_wp2_with (go_at_call 73; refine (HW _ (below_alloc (Below.refl _ _) _)).out.mono ?_; rintro e w2 ⟨A1, c1, rfl, hR, hB⟩; have hbk := (HC _ w2 hB).out _ rfl; have k0 : w2.cell? ⟨w.heap.size, 0, none⟩ = some (.string ⟨#[]⟩) := (by simp [World.cell?, hbk]); have k1 : w2.cell? ⟨w.heap.size, 1, none⟩ = some (.string ⟨#[]⟩) := (by simp [World.cell?, hbk]); have f0 : ∀ j, w2.frozen? ⟨w.heap.size, j, none⟩ = false := (fun j => by simp [World.frozen?, hbk]); have HB2 := Aside0.mk hB; have HBK := Aside0.mk hbk; clear hB hR hbk)
    (try simp only [Exit.inBlock, Exit.then])
    refine bodyPost_ret (results_ct rfl _ _ w.heap.size 54 #[.string ⟨#[]⟩, .string ⟨#[]⟩] (0, 0) _ rfl (blk_put (blk_put HBK.out 0 _ rfl) 1 _ rfl) Try.underlying54 rfl (by kernel_rfl)) rfl ?_
    exact ⟨rfl, below_set (below_set (below_step (below_alloc (Below.refl _ _) _) HB2.out) (Nat.le_refl _)) (Nat.le_refl _)⟩
  · have d1 : decide (i < 1) = false := decide_eq_false h1
    have d2 : decide (i > (L.length : Int)) = true := decide_eq_true (by omega)
    clear hi h1
    go_enter Try.func31, Try.ntmps31
    go_wp2_with (go_at_call 73; refine (HW _ (below_alloc (Below.refl _ _) _)).out.mono ?_; rintro e w2 ⟨A1, c1, rfl, hR, hB⟩; have hbk := (HC _ w2 hB).out _ rfl; have k0 : w2.cell? ⟨w.heap.size, 0, none⟩ = some (.string ⟨#[]⟩) := (by simp [World.cell?, hbk]); have k1 : w2.cell? ⟨w.heap.size, 1, none⟩ = some (.string ⟨#[]⟩) := (by simp [World.cell?, hbk]); have f0 : ∀ j, w2.frozen? ⟨w.heap.size, j, none⟩ = false := (fun j => by simp [World.frozen?, hbk]); have HB2 := Aside0.mk hB; have HBK := Aside0.mk hbk; clear hB hR hbk)
    (try simp only [Exit.inBlock, Exit.then])
    refine bodyPost_ret (results_ct rfl _ _ w.heap.size 54 #[.string ⟨#[]⟩, .string ⟨#[]⟩] (0, 0) _ rfl (blk_put (blk_put HBK.out 0 _ rfl) 1 _ rfl) Try.underlying54 rfl (by kernel_rfl)) rfl ?_
    exact ⟨rfl, below_set (below_set (below_step (below_alloc (Below.refl _ _) _) HB2.out) (Nat.le_refl _)) (Nat.le_refl _)⟩
end Go.Proofs.Ytohphkdemonlkaa.Tw
