/- Merged: TPa TPb TPc TPd TPe TPf TPg TPh TPi TPj. -/
import Derived.Test.YtohphkdemonlkaaBOne
import Derived.Test.YtohphkdemonlkaaTTwo
import Derived.Deep.RegionHeld3
import Derived.Deep.RegionLaw
import Derived.BigRegion
import Derived.BigQuiet
import Derived.Deep.DeepCutAuto
import Derived.Deep.CutBlock
/- The document's table: plain facts; its row in memory; Sum. -/
namespace Go.Proofs.Ytohphkdemonlkaa.Tp
open Go.RowKit Go.Lib Go.Proofs.Ytohphkdemonlkaa.XQt Go.Proofs.YtohphkdemonlkaaW.PrintWords Go.Proofs.YtohphkdemonlkaaW.PrintLast Go.Proofs.YtohphkdemonlkaaW.PrintMore Go.Proofs.Ytohphkdemonlkaa.Ob Go.Proofs.Ytohphkdemonlkaa.Tw
/-- The document's Find: from the i-th field on, where nm is the name's first place so far. -/
def rf (f : S54) : List S54 → Nat → Int → Int × Bool
  | [], _, nm => (nm, false)
  | x :: r, i, nm => if same f x then ((i : Int) + 1, true) else rf f r (i + 1) (if sameName f x && nm == 0 then (i : Int) + 1 else nm)
theorem ixP_ge (p : S54 → Bool) : ∀ (l : List S54) (i : Nat), ixP p l i = -1 ∨ (i : Int) ≤ ixP p l i
  | [], _ => .inl rfl
  | y :: r, i => by
    unfold ixP
    by_cases h : p y = true
    · rw [if_pos h]; exact .inr (Int.le_refl _)
    · rw [if_neg h]
      rcases ixP_ge p r (i + 1) with h2 | h2
      · exact .inl h2
      · exact .inr (by omega)
theorem rf_named (f : S54) : ∀ (r : List S54) (i : Nat) (nm : Int), 0 < nm → rf f r i nm = if 0 ≤ ixP (same f) r i then (ixP (same f) r i + 1, true) else (nm, false)
  | [], i, nm, _ => by simp [rf, ixP]
  | x :: r, i, nm, h => by
    unfold rf ixP
    by_cases hs : same f x = true
    · rw [if_pos hs, if_pos hs, if_pos (by omega)]
    · rw [if_neg hs, if_neg hs, show (if (sameName f x && nm == 0) = true then (i : Int) + 1 else nm) = nm from if_neg (by simp; omega)]
      exact rf_named f r (i + 1) nm h
theorem rf_zero (f : S54) : ∀ (r : List S54) (i : Nat), rf f r i 0 = if 0 ≤ ixP (same f) r i then (ixP (same f) r i + 1, true) else (1 + ixP (sameName f) r i, false)
  | [], i => by simp [rf, ixP]
  | x :: r, i => by
    unfold rf
    by_cases hs : same f x = true
    · have e : ixP (same f) (x :: r) i = (i : Int) := by unfold ixP; rw [if_pos hs]
      rw [if_pos hs, e, if_pos (by omega)]
    · have e : ixP (same f) (x :: r) i = ixP (same f) r (i + 1) := by rw [ixP, if_neg hs]
      rw [if_neg hs, e]
      by_cases hn : sameName f x = true
      · have e2 : ixP (sameName f) (x :: r) i = (i : Int) := by unfold ixP; rw [if_pos hn]
        rw [if_pos (by simp [hn]), e2, rf_named f r (i + 1) ((i : Int) + 1) (by omega), Int.add_comm 1 (i : Int)]
      · have e2 : ixP (sameName f) (x :: r) i = ixP (sameName f) r (i + 1) := by rw [ixP, if_neg hn]
        rw [if_neg (by simp [hn]), e2]
        exact rf_zero f r (i + 1)
theorem rf_find (L : List S54) (f : S54) : rf f L 0 0 = (findN L f, findB L f) := by
  rw [rf_zero]
  unfold findN findB
  by_cases h : 0 ≤ ixP (same f) L 0
  · rw [if_pos h, if_pos h, decide_eq_true h]
  · rw [if_neg h, if_neg h, decide_eq_false h]
theorem fixed_eq : bywashref1_fixed.f = some fixedL := rfl
theorem cost_r (x : S54) (h : cost x ≤ 4611686018427387904) : bywashref1_Cost.f x.f0 x.f1 = some (cost x) := by
  unfold cost at h
  unfold bywashref1_Cost.f cost
  rw [w64_in ((x.f0.size : Int) + x.f1.size) (by omega), w64_in _ (by omega)]
theorem costR_calls (x : S54) (h : cost x ≤ 4611686018427387904) (w : World) :
    Calls Try.prog 42 #[.agg #[.string x.f0, .string x.f1]] w fun e w' => e = .returned (.int .i64 (cost x)) ∧ Below w.heap.size w w' := bywashref1_Cost.calls _ _ _ w (cost_r x h)
theorem sum_l0 (l : List S54) (hl : total l ≤ 4611686018427387904) : ∀ (rest pre : List S54) (k : Nat), l = pre ++ rest → rest.length < k →
    bywashref1_Sum.l0 k l (total pre) (pre.length : Int) = some (total l)
  | [], pre, k, e, hk => by
    obtain ⟨k, rfl⟩ : ∃ m, k = m + 1 := ⟨k - 1, by omega⟩
    rw [List.append_nil] at e
    subst e
    unfold bywashref1_Sum.l0
    rw [if_neg (by omega)]
  | x :: rest, pre, k, e, hk => by
    obtain ⟨k, rfl⟩ : ∃ m, k = m + 1 := ⟨k - 1, by omega⟩
    have hpl : pre.length < l.length := by rw [e]; simp
    have hrd : rd_T54 l (pre.length : Int) = x := by
      unfold rd_T54
      rw [e]
      simp [List.getD]
    have ht : total l = total pre + (cost x + total rest) := by rw [e, total_append]; rfl
    have hp := total_nonneg pre
    have hr := total_nonneg rest
    have hx := cost_pos x
    have hll := total_nonneg l
    have e1 : wrap64 ((pre.length : Int) + 1) = (((pre ++ [x]).length : Nat) : Int) := by
      rw [List.length_append, List.length_singleton, w64_in ((pre.length : Int) + 1) (by omega)]
      rfl
    have e2 : wrap64 (total pre + cost x) = total (pre ++ [x]) := by
      rw [w64_in (total pre + cost x) (by omega), total_append]
      simp [total]
    unfold bywashref1_Sum.l0
    rw [if_pos (by clear e1 e2; omega), if_pos (by clear e1 e2; omega), hrd, cost_r x (by clear e1 e2; omega), Option.bind_some, e1, e2]
    clear e1 e2
    exact sum_l0 l hl rest (pre ++ [x]) k (by rw [e]; simp) (by simp at hk; omega)
theorem sum_calls {A : Option Addr} {c : Nat} {l : List S54} {w : World} (hC : k54.C w A l.length l) (hc : l.length ≤ c) (hl : total l ≤ 4611686018427387904) :
    Calls Try.prog 40 #[.slice A l.length c] w fun e w' => e = .returned (.int .i64 (total l)) ∧ Below w.heap.size w w' := by
  obtain ⟨k, hk⟩ : ∃ k, k = l.length + 1 := ⟨_, rfl⟩
  exact bywashref1_Sum.calls k A c l (total l) w hC hc (by unfold bywashref1_Sum.f; exact sum_l0 l hl l [] k rfl (by omega))
/-! ### the document's table in memory -/
structure RTb (w : World) (gr : Nat) (l : List S54) (s : Int) (A : Option Addr) (c : Nat) : Prop where
  hp : w.heap[gr]? = some (.cells #[.int .i64 s, .slice A l.length c] 71 (0, 0))
  cr : Bk.CR w A l.length l
  cap : l.length ≤ c
theorem cr_take {w : World} {A : Option Addr} {n : Nat} {l : List S54} (h : Bk.CR w A n l) (k : Nat) (hk : k ≤ n) : Bk.CR w A k (l.take k) := by
  obtain ⟨rfl, h0 | ⟨g, cs, rfl, hh, ht⟩⟩ := h
  · exact ⟨by rw [List.length_take]; omega, .inl (by omega)⟩
  · refine ⟨by rw [List.length_take]; omega, .inr ⟨g, cs, rfl, hh, ?_⟩⟩
    rw [← Bk.fcells_take, ← ht, List.take_take, Nat.min_eq_left (by omega)]
theorem RTb.keep {w w' : World} {gr : Nat} {l : List S54} {s : Int} {A : Option Addr} {c : Nat} (h : RTb w gr l s A c) (hk : ∀ k, (k = gr ∨ A = some ⟨k, 0, none⟩) → k < w.heap.size → w'.heap[k]? = w.heap[k]?) : RTb w' gr l s A c :=
  ⟨(hk gr (.inl rfl) (blk_lt h.hp)).trans h.hp, h.cr.keep fun g e hl => hk g (.inr e) hl, h.cap⟩
theorem RTb.below {w w' : World} {gr : Nat} {l : List S54} {s : Int} {A : Option Addr} {c : Nat} (h : RTb w gr l s A c) (hb : Below w.heap.size w w') : RTb w' gr l s A c := h.keep fun k _ hl => hb.block k hl
theorem RTb.c {w : World} {gr : Nat} {l : List S54} {s : Int} {A : Option Addr} {c : Nat} (h : RTb w gr l s A c) (hl : l.length ≤ 1000000000) : k54.C w A l.length l := h.cr.c hl
theorem ne_types {w : World} {g h : Nat} {cs ds : Array Value} {t u : TypeId} (h1 : w.heap[g]? = some (.cells cs t (0, 0))) (h2 : w.heap[h]? = some (.cells ds u (0, 0))) (hn : t ≠ u) : g ≠ h := by
  rintro rfl
  rw [h1] at h2
  injection h2 with h2
  injection h2 with _ h2 _
  exact hn h2
theorem cr_set {w : World} {gr i : Nat} {v : Value} {cs : Array Value} {A : Option Addr} {n : Nat} {l : List S54} (hp : w.heap[gr]? = some (.cells cs 71 (0, 0))) (h : Bk.CR w A n l) : Bk.CR (w.setCell ⟨gr, i, none⟩ v) A n l := by
  obtain ⟨h1, h0 | ⟨g, ds, e, hh, ht⟩⟩ := h
  · exact ⟨h1, .inl h0⟩
  · exact ⟨h1, .inr ⟨g, ds, e, (Below.heap_setCell w ⟨gr, i, none⟩ v g (ne_types hh hp (by decide))).trans hh, ht⟩⟩
/-- The eldest one goes. -/
theorem RTb.pop {w : World} {gr : Nat} {l : List S54} {s : Int} {A : Option Addr} {c m : Nat} (h : RTb w gr (l.take (m + 1)) s A c) (hm : m + 1 ≤ l.length) : RTb (w.setCell ⟨gr, 1, none⟩ (.slice A m c)) gr (l.take m) s A c := by
  have e1 : (l.take (m + 1)).length = m + 1 := by rw [List.length_take]; omega
  have e2 : (l.take m).length = m := by rw [List.length_take]; omega
  obtain ⟨hp, cr, cap⟩ := h
  rw [e1] at hp cr cap
  have hc := cr_take cr m (by omega)
  rw [List.take_take, Nat.min_eq_left (by omega)] at hc
  refine ⟨?_, ?_, by omega⟩
  · rw [e2]
    exact blk_put hp 1 _ rfl
  · rw [e2]
    exact cr_set hp hc
end Go.Proofs.Ytohphkdemonlkaa.Tp
/- The document's table: shrink, Add, Resize, walked. -/
namespace Go.Proofs.Ytohphkdemonlkaa.Tp
open Go.RowKit Go.Lib Go.Proofs.Ytohphkdemonlkaa.XQt Go.Proofs.YtohphkdemonlkaaW.PrintWords Go.Proofs.YtohphkdemonlkaaW.PrintLast Go.Proofs.YtohphkdemonlkaaW.PrintMore Go.Proofs.Ytohphkdemonlkaa.Ob Go.Proofs.Ytohphkdemonlkaa.Tw
theorem cut_run (A : Option Addr) (n c j : Nat) (hj : j ≤ c) (W : World) : (Instr.slice 50 (.slice A n c) none (some (.int .i64 (j : Int))) none).run Try.prog W = .ok (.slice A j c) W := by
  obtain ⟨i0, hi0, _, hsz0, _⟩ := info_parts Bk.infoFd
  have hel : Try.prog.elem 50 = 54 := by simp [Program.elem, Try.underlying50]
  have hu : Try.prog.underlying 50 = some (.slice (Try.prog.elem 50)) := by rw [hel]; exact Try.underlying50
  have ha : (A.map fun x => x.add 0) = A := by cases A <;> simp [Addr.add]
  rw [run_slice_h W 50 A n c hu .i64 (j : Int) (Int.natCast_nonneg _) (by omega), hel]
  simp [sizeOf, typeInfo, hi0, sliced, Result.andThen, ha]
set_option maxHeartbeats 3200000 in
set_option maxRecDepth 20000 in
theorem shrinkR_c {w : World} {gr : Nat} {l : List S54} {s : Int} {A : Option Addr} {c : Nat} (h : RTb w gr l s A c) (n : Int) (hl : total l ≤ 1000000) (hn : 0 ≤ n ∧ n ≤ 1000000) (hs : 0 ≤ s ∧ s ≤ 1000000) :
    Calls Try.prog 77 #[.pointer (some ⟨gr, 0, none⟩), .int .i64 n] w fun e w' => e = .returned (.tuple #[]) ∧ RTb w' gr (l.take (Tw.shr (s - n) l l.length)) s A c ∧ Stay (fun k => k = gr) w w' := by
  have HT := Aside0.mk h
  have HL := Aside0.mk (And.intro hl (And.intro hn hs))
  clear h hl hn hs
  go_enter Try.func77, Try.ntmps77
  go_wp2
  go_loopg [4] (l.length + 1) (fun kq v4 w' => ∃ m : Nat, Aside0 (m ≤ l.length ∧ m + 1 ≤ kq ∧ Tw.shr (s - n) l m = Tw.shr (s - n) l l.length ∧ Stay (fun k => k = gr) w w') ∧ Aside0 (RTb w' gr (l.take m) s A c))
  case atStart => exact ⟨l.length, ⟨Nat.le_refl _, Nat.le_refl _, rfl, Stay.refl _ _⟩, ⟨by rw [List.take_length]; exact HT.out⟩⟩
  case round =>
    obtain ⟨m, HJ, HB⟩ := hrel
    have hlen : (l.take m).length = m := by rw [List.length_take]; have := HJ.out.1; omega
    have hhp := HB.out.hp
    rw [hlen] at hhp
    have k0 : wr.cell? ⟨gr, 0, none⟩ = some (.int .i64 s) := by simp [World.cell?, hhp]
    have k1 : wr.cell? ⟨gr, 1, none⟩ = some (.slice A m c) := by simp [World.cell?, hhp]
    have f0 : ∀ j, wr.frozen? ⟨gr, j, none⟩ = false := fun j => by simp [World.frozen?, hhp]
    have HHP := Aside0.mk hhp
    have HLen := Aside0.mk hlen
    clear hhp hlen
    cases m with
    | zero =>
      go_wp2
      go_region
      all_goals
        go_wp2
        first | go_end0 | ((try simp only [Exit.inBlock, Exit.then]); refine bodyPost_ret (results_none rfl _ _ _) rfl ?_)
        have e0 : Tw.shr (s - n) l l.length = 0 := by rw [← HJ.out.2.2.1]; rfl
        rw [e0]
        exact ⟨rfl, HB.out.below (below_drew (Below.refl _ _)), stay_one HJ.out.2.2.2 (below_drew (Below.refl _ _))⟩
    | succ m =>
      have q1 : decide (((m + 1 : Nat) : Int) > 0) = true := decide_eq_true (by omega)
      have q2 : decide (0 < m + 1) = true := decide_eq_true (by omega)
      have hCm := HB.out.c (by rw [HLen.out]; have := HJ.out.1; have := total_nonneg l; have := HL.out; omega)
      rw [HLen.out] at hCm
      have HSm := Aside0.mk (fun (W : World) (hb : Below wr.heap.size wr W) => sum_calls (A := A) (c := c) (l := l.take (m + 1)) (by rw [HLen.out]; exact Kd.C_below hCm hb) HB.out.cap (by have := total_take_le l (m + 1); have := HL.out; omega))
      rw [HLen.out] at HSm
      have hp1 : (0 : Int) ≤ (m : Int) := by omega
      have hp2 : (m : Int) ≤ (c : Int) := by have := HB.out.cap; rw [HLen.out] at this; omega
      have hw : wrap64 (m : Int) = (m : Int) := w64_in (m : Int) (by have := HJ.out.1; have := total_nonneg l; have := HL.out; omega)
      have hws : IntKind.i64.wrap (total (l.take (m + 1)) + n) = total (l.take (m + 1)) + n := by
        have := total_take_le l (m + 1)
        have := total_nonneg (l.take (m + 1))
        have := HL.out
        rw [IntKind.wrap_i64]
        omega
      clear hCm
      by_cases hm : total (l.take (m + 1)) > s - n
      · have q3 : decide (total (l.take (m + 1)) + n > s) = true := decide_eq_true (by omega)
        have HM := Aside0.mk hm
        clear hm
        go_wp2
        go_region_held3 (fun w' => w'.cell? ⟨gr, 0, none⟩ = some (.int .i64 s) ∧ w'.cell? ⟨gr, 1, none⟩ = some (.slice A (m + 1) c)) (go_keep) (first
          | (go_at_call 40; refine (HSm.out _ ?hb).mono ?_; (case hb => (repeat' first | exact Below.refl _ _ | (with_reducible refine below_drew ?_))); rintro e w2 ⟨rfl, hb⟩; have k0 := pw_cell_below hb k0; have k1 := pw_cell_below hb k1; have HB2 := Aside0.mk hb; clear hb HSm))
        have hbk := (HB2.out.block gr (blk_lt HHP.out)).trans HHP.out
        have f2 : ∀ j, w2.frozen? ⟨gr, j, none⟩ = false := fun j => by simp [World.frozen?, hbk]
        have hcut := fun W => cut_run A (m + 1) c m (by omega) W
        clear hbk hws q1 q2 q3
        go_wp2
        go_region
        all_goals
          go_wp2
          go_roundg (m + 1)
        all_goals first
          | (have := HJ.out; omega)
          | exact ⟨m, ⟨by have := HJ.out.1; omega, Nat.le_refl _, by rw [← HJ.out.2.2.1, Tw.shr, if_pos HM.out], Stay.drewN ((stay_one HJ.out.2.2.2 (below_step (below_drew (Below.refl _ _)) HB2.out)).setCell (p := ⟨gr, 1, none⟩) (.inl rfl) _) 1⟩, ⟨((HB.out.below (below_step (below_drew (Below.refl _ _)) HB2.out)).pop HJ.out.1).below (below_drew (Below.refl _ _))⟩⟩
      · have q3 : decide (total (l.take (m + 1)) + n > s) = false := decide_eq_false (by omega)
        have HM := Aside0.mk hm
        clear hm
        go_wp2
        go_region_held3 (fun w' => w'.cell? ⟨gr, 0, none⟩ = some (.int .i64 s) ∧ w'.cell? ⟨gr, 1, none⟩ = some (.slice A (m + 1) c)) (go_keep) (first
          | (go_at_call 40; refine (HSm.out _ ?hb).mono ?_; (case hb => (repeat' first | exact Below.refl _ _ | (with_reducible refine below_drew ?_))); rintro e w2 ⟨rfl, hb⟩; have k0 := pw_cell_below hb k0; have k1 := pw_cell_below hb k1; have HB2 := Aside0.mk hb; clear hb HSm))
        all_goals
          go_wp2
          first | go_end0 | ((try simp only [Exit.inBlock, Exit.then]); refine bodyPost_ret (results_none rfl _ _ _) rfl ?_)
          have e0 : Tw.shr (s - n) l l.length = m + 1 := by rw [← HJ.out.2.2.1, Tw.shr, if_neg (by have := HM.out; omega)]
          rw [e0]
          exact ⟨rfl, HB.out.below (below_step (below_drew (Below.refl _ _)) HB2.out), stay_one HJ.out.2.2.2 (below_step (below_drew (Below.refl _ _)) HB2.out)⟩
end Go.Proofs.Ytohphkdemonlkaa.Tp
/- The document's table: Add, Resize, walked. -/
namespace Go.Proofs.Ytohphkdemonlkaa.Tp
open Go.RowKit Go.Lib Go.Proofs.Ytohphkdemonlkaa.XQt Go.Proofs.YtohphkdemonlkaaW.PrintWords Go.Proofs.YtohphkdemonlkaaW.PrintLast Go.Proofs.YtohphkdemonlkaaW.PrintMore Go.Proofs.Ytohphkdemonlkaa.Ob Go.Proofs.Ytohphkdemonlkaa.Tw
theorem shr_total (most : Int) (l : List S54) : ∀ n, total (l.take (Tw.shr most l n)) ≤ total l := fun _ => total_take_le l _
theorem addL_le (s : Int) (l : List S54) (x : S54) : total (addL s l x) ≤ total l + cost x := by
  unfold addL
  have := shr_total (s - cost x) l l.length
  have := cost_pos x
  split
  · show cost x + total _ ≤ _
    omega
  · omega
/-- One cell that is turned, in the document's table. -/
theorem RTb.put {w : World} {gr : Nat} {l l' : List S54} {s : Int} {A A' : Option Addr} {c c' : Nat} (hp : w.heap[gr]? = some (.cells #[.int .i64 s, .slice A l.length c] 71 (0, 0))) (h : Bk.CR w A' l'.length l') (hc : l'.length ≤ c') : RTb (w.setCell ⟨gr, 1, none⟩ (.slice A' l'.length c')) gr l' s A' c' :=
  ⟨blk_put hp 1 _ rfl, cr_set hp h, hc⟩
theorem RTb.size {w : World} {gr : Nat} {l : List S54} {s s' : Int} {A : Option Addr} {c : Nat} (h : RTb w gr l s A c) : RTb (w.setCell ⟨gr, 0, none⟩ (.int .i64 s')) gr l s' A c :=
  ⟨blk_put h.hp 0 _ rfl, cr_set h.hp h.cr, h.cap⟩
theorem RTb.size' {w : World} {gr : Nat} {l : List S54} {s : Int} {A : Option Addr} {c : Nat} (h : RTb w gr l s A c) : gr < w.heap.size := blk_lt h.hp
theorem RTb.k {w : World} {gr : Nat} {l : List S54} {s : Int} {A : Option Addr} {c : Nat} (h : RTb w gr l s A c) : w.cell? ⟨gr, 0, none⟩ = some (.int .i64 s) ∧ w.cell? ⟨gr, 1, none⟩ = some (.slice A l.length c) ∧ ∀ j, w.frozen? ⟨gr, j, none⟩ = false := by
  have := h.hp
  exact ⟨by simp [World.cell?, this], by simp [World.cell?, this], fun j => by simp [World.frozen?, this]⟩
theorem box_k {w : World} {b : Nat} {x : S54} (h : w.heap[b]? = some (.cells #[.string x.f0, .string x.f1] 54 (0, 0))) : w.cell? ⟨b, 0, none⟩ = some (.string x.f0) ∧ w.cell? ⟨b, 1, none⟩ = some (.string x.f1) := ⟨by simp [World.cell?, h], by simp [World.cell?, h]⟩
set_option maxHeartbeats 1600000 in
theorem resizeR_c {w : World} {gr : Nat} {l : List S54} {s : Int} {A : Option Addr} {c : Nat} (h : RTb w gr l s A c) (s2 : Int) (hl : total l ≤ 1000000) (hs : 0 ≤ s2 ∧ s2 ≤ 512) :
    Calls Try.prog 36 #[.pointer (some ⟨gr, 0, none⟩), .int .i64 s2] w fun e w' => e = .returned (.bool true) ∧ RTb w' gr (l.take (Tw.shr s2 l l.length)) s2 A c ∧ Stay (fun k => k = gr) w w' := by
  have h1 := h.size (s' := s2)
  have HS := Aside0.mk (shrinkR_c h1 0 hl (by omega) (by omega))
  have hst : Stay (fun k => k = gr) w (w.setCell ⟨gr, 0, none⟩ (.int .i64 s2)) := (Stay.refl (fun k => k = gr) w).setCell (p := ⟨gr, 0, none⟩) (.inl rfl) _
  have HST := Aside0.mk hst
  obtain ⟨k0, k1, f0⟩ := h.k
  have e1 : decide (s2 < 0) = false := decide_eq_false (by omega)
  have e2 : decide (s2 > 512) = false := decide_eq_false (by omega)
  rw [Int.sub_zero] at HS
  clear h h1 hst hs hl
  go_enter Try.func36, Try.ntmps36
  go_wp2_with (first
    | (go_at_call 77; refine HS.out.mono ?_; rintro e w1 ⟨rfl, hr, hs⟩; have HR := Aside0.mk hr; have HS1 := Aside0.mk hs; clear hr hs HS))
  go_ret
  exact ⟨rfl, HR.out, HST.out.trans HS1.out (fun _ _ e => e)⟩
theorem resizeR_no (w : World) (gr : Nat) (s2 : Int) (hs : ¬ (0 ≤ s2 ∧ s2 ≤ 512)) :
    Calls Try.prog 36 #[.pointer (some ⟨gr, 0, none⟩), .int .i64 s2] w fun e w' => e = .returned (.bool false) ∧ w' = w := by
  rcases Int.lt_or_le s2 0 with h | h
  · have e1 : decide (s2 < 0) = true := decide_eq_true h
    clear hs h
    go_enter Try.func36, Try.ntmps36
    go_wp2
    go_ret
    exact ⟨rfl, rfl⟩
  · have e1 : decide (s2 < 0) = false := decide_eq_false (by omega)
    have e2 : decide (s2 > 512) = true := decide_eq_true (by omega)
    clear hs h
    go_enter Try.func36, Try.ntmps36
    go_wp2
    go_ret
    exact ⟨rfl, rfl⟩
theorem fr_one (w : World) (x : S54) : Bk.FR (w.alloc (.cells #[.string x.f0, .string x.f1] 54)) (some ⟨w.heap.size, 0, none⟩) 1 1 [x] :=
  ⟨rfl, rfl, .inr ⟨w.heap.size, 1, _, rfl, Nat.zero_le _, heap_alloc_new w _, Nat.le_refl _, by decide, rfl, rfl⟩⟩
/-- The fields of a literal, the document's list behind it. -/
theorem lit_app {w3 : World} {gr : Nat} {l1 : List S54} {s : Int} {A : Option Addr} {c : Nat} (x : S54) (h : RTb w3 gr l1 s A c) (hl : l1.length ≤ 1000000) :
    ∃ A' c' w', (Builtin.append_ #[50, 50] 50 #[.slice (some ⟨w3.heap.size, 0, none⟩) 1 1, .slice A l1.length c]).run Try.prog (w3.alloc (.cells #[.string x.f0, .string x.f1] 54)) = .ok (.slice A' (l1.length + 1) c') w' ∧ Below w3.heap.size w3 w' ∧ RTb (w'.setCell ⟨gr, 1, none⟩ (.slice A' (l1.length + 1) c')) gr (x :: l1) s A' c' ∧ (∃ g : Nat, A' = some ⟨g, 0, none⟩ ∧ w3.heap.size ≤ g ∧ g < w'.heap.size) ∧ w'.cell? ⟨gr, 1, none⟩ = some (.slice A l1.length c) ∧ w'.frozen? ⟨gr, 1, none⟩ = false := by
  have hb1 : Below w3.heap.size w3 (w3.alloc (.cells #[.string x.f0, .string x.f1] 54)) := below_alloc (Below.refl _ _) _
  obtain ⟨A', c', w', hr, hF, hw⟩ := Bk.app_run (w := w3.alloc (.cells #[.string x.f0, .string x.f1] 54)) (d := c) 50 (fr_one w3 x) ((h.below hb1).c (by omega)) (by simp; omega)
  have hsz : (w3.alloc (.cells #[.string x.f0, .string x.f1] 54)).heap.size = w3.heap.size + 1 := by simp
  rw [Nat.add_comm 1 l1.length] at hr hF
  have hb2 : Below w3.heap.size w3 w' := by
    rcases hw with ⟨_, hs⟩ | ⟨_, hb⟩
    · exact hs.below hb1 (fun k hk => by injection hk with hk; injection hk with hk; omega)
    · exact below_step hb1 hb
  have hh := (hb2.block gr h.size').trans h.hp
  refine ⟨A', c', w', hr, hb2, RTb.put (l := l1) (l' := x :: l1) (A' := A') (c' := c') hh ?_ hF.room, ?_, by simp [World.cell?, hh], by simp [World.frozen?, hh]⟩
  · exact hF.cr
  · rcases hw with ⟨rfl, _⟩ | ⟨rfl, _⟩
    · exact ⟨_, rfl, Nat.le_refl _, hF.lt _ rfl⟩
    · exact ⟨_, rfl, by omega, hF.lt _ rfl⟩
set_option maxHeartbeats 3200000 in
set_option maxRecDepth 20000 in
theorem addR_c {w : World} {gr : Nat} {l : List S54} {s : Int} {A : Option Addr} {c : Nat} (h : RTb w gr l s A c) (x : S54) (hl : total l ≤ 1000000) (hx : cost x ≤ 1000000) (hs : 0 ≤ s ∧ s ≤ 1000000) :
    Calls Try.prog 35 #[.pointer (some ⟨gr, 0, none⟩), .agg #[.string x.f0, .string x.f1]] w fun e w' => e = .returned (.tuple #[]) ∧ (∃ A' c', RTb w' gr (addL s l x) s A' c' ∧ (A' = A ∨ ∃ g : Nat, A' = some ⟨g, 0, none⟩ ∧ w.heap.size ≤ g ∧ g < w'.heap.size)) ∧ Stay (fun k => k = gr) w w' := by
  have hgl := h.size'
  have hcp := cost_pos x
  have h1 := h.below (below_alloc (Below.refl w.heap.size w) (.cells #[.string x.f0, .string x.f1] 54))
  have HCs := Aside0.mk (costR_calls x (by omega))
  have HS := Aside0.mk (fun (W : World) (hb : Below (w.alloc (.cells #[.string x.f0, .string x.f1] 54)).heap.size (w.alloc (.cells #[.string x.f0, .string x.f1] 54)) W) => shrinkR_c (h1.below hb) (cost x) hl (by omega) hs)
  have HBox := Aside0.mk (heap_alloc_new w (.cells #[.string x.f0, .string x.f1] 54))
  have HG := Aside0.mk hgl
  have HSt0 : Aside0 (Stay (fun k => k = gr) w (w.alloc (.cells #[.string x.f0, .string x.f1] 54))) := ⟨(Stay.refl _ w).alloc _⟩
  have HL := Aside0.mk (And.intro hl (And.intro hx (And.intro hs hcp)))
  have hsh := shr_le (s - cost x) l l.length
  have HLl : Aside0 (l.length ≤ 1000000) := ⟨by have := total_nonneg l; omega⟩
  have hgb : Aside0 (w.heap.size ≠ gr) := ⟨by omega⟩
  clear h h1 hgl hcp hl hx hs
  by_cases hc : cost x ≤ s
  · have HA : Aside0 (addL s l x = x :: l.take (Tw.shr (s - cost x) l l.length)) := ⟨by unfold addL; rw [if_pos hc]⟩
    have q1 : decide (cost x ≤ s) = true := decide_eq_true hc
    have hl1 : Aside0 ((l.take (Tw.shr (s - cost x) l l.length)).length ≤ 1000000) := ⟨by rw [List.length_take]; have := HLl.out; omega⟩
    generalize l.take (Tw.shr (s - cost x) l l.length) = l1 at HS HA hl1
    clear hc hsh
    go_enter Try.func35, Try.ntmps35
    go_wp2_with (first
      | (go_at_call 42; refine (HCs.out _).mono ?_; rintro e w1 ⟨rfl, hb⟩; have HB1 := Aside0.mk hb; clear hb)
      | (go_at_call 77; refine (HS.out _ HB1.out).mono ?_; rintro e w2 ⟨rfl, hr, hs⟩; have HR2 := Aside0.mk hr; have HS2 := Aside0.mk hs; have hbx := (hs.block w.heap.size (Nat.lt_of_lt_of_le (blk_lt HBox.out) HB1.out.size) hgb.out).trans ((HB1.out.block _ (blk_lt HBox.out)).trans HBox.out); have x0 := (box_k hbx).1; have x1 := (box_k hbx).2; have HBx2 := Aside0.mk hbx; obtain ⟨k0, k1, f0⟩ := hr.k; clear hr hs hbx HS))
    go_region_held3 (fun w' => w'.cell? ⟨gr, 0, none⟩ = some (.int .i64 s) ∧ w'.cell? ⟨w.heap.size, 0, none⟩ = some (.string x.f0) ∧ w'.cell? ⟨w.heap.size, 1, none⟩ = some (.string x.f1)) (go_keep) (first
        | (go_at_call 42; refine (HCs.out _).mono ?_; rintro e w3 ⟨rfl, hb⟩; have k0 := pw_cell_below hb k0; have k1 := pw_cell_below hb k1; have x0 := pw_cell_below hb x0; have x1 := pw_cell_below hb x1; have HB3 := Aside0.mk hb; clear hb HCs))
    have hb3 : Below w2.heap.size w2 w3 := below_step (below_drew (Below.refl _ _)) HB3.out
    have hr3 := HR2.out.below hb3
    have HR3 := Aside0.mk hr3
    have HS3 : Aside0 (Stay (fun k => k = gr) w w3) := ⟨((HSt0.out.trans (Stay.of_below (ok := fun k => k = gr) HB1.out) (fun _ _ e => e)).trans HS2.out (fun _ _ e => e)).trans (Stay.of_below (ok := fun k => k = gr) hb3) (fun _ _ e => e)⟩
    clear hb3 hr3 HB3 HS2 HB1 HR2 f0
    have HSz : Aside0 (w.heap.size ≤ w3.heap.size) := ⟨HS3.out.size⟩
    have hrd : RTb w3.drew gr l1 s A c := HR3.out.below (below_drew (Below.refl _ _))
    obtain ⟨A', c', w5, hrun, hb5, hr5, hA5, k5, f5⟩ := lit_app x hrd hl1.out
    have k1a : (w3.alloc (.cells #[.string x.f0, .string x.f1] 54)).cell? ⟨gr, 1, none⟩ = some (.slice A l1.length c) := ((HR3.out.below (below_alloc (Below.refl _ _) _)).k).2.1
    have HR5 := Aside0.mk (And.intro hr5 hA5)
    have HB5 := Aside0.mk hb5
    clear hrd hr5 hA5 hb5
    have mixed : Try.prog.follows Departure.mixedOrders = true := by kernel_rfl
    go_wp2
    go_region_law (first
      | (refine Bk.step_app_of (by first | rfl | (simp [Region.wanted]; done)) (.tmp 17) (.tmp 21) rfl hrun ?_; clear hrun))
    all_goals
      first | go_end0 | ((try simp only [Exit.inBlock, Exit.then]); refine bodyPost_ret (results_none rfl _ _ _) rfl ?_)
      rw [HA.out]
      exact ⟨rfl, ⟨A', c', HR5.out.1, .inr (by obtain ⟨g, e, hg, hg2⟩ := HR5.out.2; exact ⟨g, e, Nat.le_trans HSz.out hg, by simpa using hg2⟩)⟩, (HS3.out.trans (Stay.of_below (ok := fun k => k = gr) (below_step (below_drew (Below.refl _ _)) HB5.out)) (fun _ _ e => e)).setCell (p := ⟨gr, 1, none⟩) (.inl rfl) _⟩
  · have HA : Aside0 (addL s l x = l.take (Tw.shr (s - cost x) l l.length)) := ⟨by unfold addL; rw [if_neg hc]⟩
    have q1 : decide (cost x ≤ s) = false := decide_eq_false hc
    generalize l.take (Tw.shr (s - cost x) l l.length) = l1 at HS HA
    clear hc hsh
    go_enter Try.func35, Try.ntmps35
    go_wp2_with (first
      | (go_at_call 42; refine (HCs.out _).mono ?_; rintro e w1 ⟨rfl, hb⟩; have HB1 := Aside0.mk hb; clear hb)
      | (go_at_call 77; refine (HS.out _ HB1.out).mono ?_; rintro e w2 ⟨rfl, hr, hs⟩; have HR2 := Aside0.mk hr; have HS2 := Aside0.mk hs; have hbx := (hs.block w.heap.size (Nat.lt_of_lt_of_le (blk_lt HBox.out) HB1.out.size) hgb.out).trans ((HB1.out.block _ (blk_lt HBox.out)).trans HBox.out); have x0 := (box_k hbx).1; have x1 := (box_k hbx).2; have HBx2 := Aside0.mk hbx; obtain ⟨k0, k1, f0⟩ := hr.k; clear hr hs hbx HS))
    go_region_held3 (fun w' => w'.cell? ⟨gr, 0, none⟩ = some (.int .i64 s) ∧ w'.cell? ⟨w.heap.size, 0, none⟩ = some (.string x.f0) ∧ w'.cell? ⟨w.heap.size, 1, none⟩ = some (.string x.f1)) (go_keep) (first
        | (go_at_call 42; refine (HCs.out _).mono ?_; rintro e w3 ⟨rfl, hb⟩; have k0 := pw_cell_below hb k0; have k1 := pw_cell_below hb k1; have x0 := pw_cell_below hb x0; have x1 := pw_cell_below hb x1; have HB3 := Aside0.mk hb; clear hb HCs))
    all_goals
      go_wp2
      first | go_end0 | ((try simp only [Exit.inBlock, Exit.then]); refine bodyPost_ret (results_none rfl _ _ _) rfl ?_)
      rw [HA.out]
      have hb3 : Below w2.heap.size w2 w3 := below_step (below_drew (Below.refl _ _)) HB3.out
      exact ⟨rfl, ⟨A, c, HR2.out.below hb3, .inl rfl⟩, ((HSt0.out.trans (Stay.of_below (ok := fun k => k = gr) HB1.out) (fun _ _ e => e)).trans HS2.out (fun _ _ e => e)).trans (Stay.of_below (ok := fun k => k = gr) hb3) (fun _ _ e => e)⟩
end Go.Proofs.Ytohphkdemonlkaa.Tp
/- The document's table: At, Find, walked. -/
namespace Go.Proofs.Ytohphkdemonlkaa.Tp
open Go.RowKit Go.Lib Go.Proofs.Ytohphkdemonlkaa.XQt Go.Proofs.YtohphkdemonlkaaW.PrintWords Go.Proofs.YtohphkdemonlkaaW.PrintLast Go.Proofs.YtohphkdemonlkaaW.PrintMore Go.Proofs.Ytohphkdemonlkaa.Ob Go.Proofs.Ytohphkdemonlkaa.Tw
def atV (L : List S54) (i : Int) : S54 := if 1 ≤ i ∧ i ≤ (L.length : Int) then rd_T54 L (i - 1) else z54
def atB (L : List S54) (i : Int) : Bool := decide (1 ≤ i ∧ i ≤ (L.length : Int))
/-- All fields of the document's table: an append onto a row that is nobody's. -/
theorem whole_run {w0 w : World} {gr : Nat} {l : List S54} {s : Int} {A : Option Addr} {c : Nat} (h : RTb w0 gr l s A c) (hl : l.length ≤ 1000000) (hb : Below w0.heap.size w0 w) {v : Value} {b : Nat} (hbs : w0.heap.size ≤ b) (hv : Kd.R k54 54 w b (fun _ => True) v fixedL) :
    ∃ A' c' w', (Builtin.append_ #[50, 50] 50 #[v, .slice A l.length c]).run Try.prog w = .ok (.slice A' (wholeL l).length c') w' ∧ Below w0.heap.size w0 w' ∧ (∀ k, k < b → k < w.heap.size → w'.heap[k]? = w.heap[k]?) ∧ k54.C w' A' (wholeL l).length (wholeL l) ∧ (wholeL l).length ≤ c' := by
  obtain ⟨A0, c0, rfl, hF, hg⟩ := Bk.fr_of_R hv
  obtain ⟨A', c', w', hr, hF', hw⟩ := Bk.app_run (d := c) 50 hF ((h.below hb).c (by omega)) (by rw [fixed_len]; omega)
  have hlen : fixedL.length + l.length = (wholeL l).length := by unfold wholeL; rw [List.length_append]
  rw [hlen] at hr hF'
  refine ⟨A', c', w', hr, ?_, fun k hk hkl => ?_, hF'.cr.c (by have := whole_len l; unfold wholeL at this; omega), hF'.room⟩
  · rcases hw with ⟨_, hs⟩ | ⟨_, hb2⟩
    · exact hs.below hb (fun k hk => Nat.le_trans hbs (hg k hk))
    · exact below_step hb hb2
  · rcases hw with ⟨_, hs⟩ | ⟨_, hb2⟩
    · exact hs.block k hkl (fun e => by have := hg k e; omega)
    · exact hb2.block k hkl
set_option maxHeartbeats 3200000 in
set_option maxRecDepth 20000 in
theorem atR_in {w : World} {gr : Nat} {l : List S54} {s : Int} {A : Option Addr} {c : Nat} (h : RTb w gr l s A c) (n : Nat) (hl : l.length ≤ 1000000) (hn : n < (wholeL l).length) :
    Calls Try.prog 37 #[.pointer (some ⟨gr, 0, none⟩), .int .i64 ((n : Int) + 1)] w fun e w' => e = .returned (.tuple #[fv (rd_T54 (wholeL l) (n : Int)), .bool true]) ∧ Below w.heap.size w w' := by
  have h1 := h.below (below_alloc (Below.refl w.heap.size w) (.cells #[.string ⟨#[]⟩, .string ⟨#[]⟩] 54))
  have HBox := Aside0.mk (heap_alloc_new w (.cells #[.string ⟨#[]⟩, .string ⟨#[]⟩] 54))
  have HFx := Aside0.mk (fun W => bywashref1_fixed.calls fixedL W fixed_eq)
  have HR1 := Aside0.mk h1
  obtain ⟨k0, k1, f0⟩ := h1.k
  have HL := Aside0.mk hl
  have mixed : Try.prog.follows Departure.mixedOrders = true := by kernel_rfl
  have d1 : decide ((n : Int) + 1 < 1) = false := decide_eq_false (by omega)
  have d1' : decide ((n : Int) < 0) = false := decide_eq_false (by omega)
  have d2 : decide ((n : Int) + 1 > ((wholeL l).length : Int)) = false := decide_eq_false (by omega)
  have p1 : (0 : Int) ≤ (n : Int) := by omega
  have p2 : (n : Int) < ((wholeL l).length : Int) := by omega
  have hw : wrap64 (n : Int) = (n : Int) := w64_in (n : Int) (by have := whole_len l; omega)
  clear h h1 hl hn
  go_enter Try.func37, Try.ntmps37
  go_wp2
  go_region_law (first
    | (refine Bk.step_app_of (by first | rfl | (simp [Region.wanted]; done)) (.tmp 7) (.tmp 11) rfl hrun ?_; clear hrun)
    | (go_simp; go_wp2_with (first
      | (go_at_call 78; refine (HFx.out _).mono ?_; rintro e w1 ⟨v0, rfl, hv, hb⟩; have hb1 := below_step (below_drew (Below.refl _ _)) hb; have k1a := ((HR1.out.below hb1).k).2.1; obtain ⟨A', c', w2, hrun, hb2, hk2, hC, hcap⟩ := whole_run HR1.out HL.out hb1 (by simp) hv; have hbx := (hk2 w.heap.size (by simp) (by have := hb1.size; simp at this; omega)).trans ((hb1.block _ (blk_lt HBox.out)).trans HBox.out); have HC2 := Aside0.mk (And.intro hC hcap); have HB2 := Aside0.mk hb2; have HBx := Aside0.mk hbx; clear hv hb hb1 hb2 hk2 hC hcap hbx HFx))))
  all_goals
    obtain ⟨ad, hA, e0, e1⟩ := at_T54 HC2.out.1 (n : Int) p1 p2
    subst hA
    rw [Int.toNat_natCast] at e0 e1
    have q0 : w2.cell? ⟨w.heap.size, 0, none⟩ = some (.string ⟨#[]⟩) := by have := HBx.out; simp [World.cell?, this]
    have q1 : w2.cell? ⟨w.heap.size, 1, none⟩ = some (.string ⟨#[]⟩) := by have := HBx.out; simp [World.cell?, this]
    have qf : ∀ j, w2.frozen? ⟨w.heap.size, j, none⟩ = false := fun j => by have := HBx.out; simp [World.frozen?, this]
    go_wp2
    (try simp only [Exit.inBlock, Exit.then])
    refine bodyPost_ret (results_ct rfl _ _ w.heap.size 54 #[.string (rd_T54 (wholeL l) (n : Int)).f0, .string (rd_T54 (wholeL l) (n : Int)).f1] (0, 0) _ rfl (blk_put (blk_put HBx.out 0 _ rfl) 1 _ rfl) Try.underlying54 rfl (by kernel_rfl)) rfl ?_
    exact ⟨rfl, below_set (below_set (below_step (below_alloc (Below.refl _ _) _) HB2.out) (Nat.le_refl _)) (Nat.le_refl _)⟩
set_option maxHeartbeats 3200000 in
set_option maxRecDepth 20000 in
theorem atR_out {w : World} {gr : Nat} {l : List S54} {s : Int} {A : Option Addr} {c : Nat} (h : RTb w gr l s A c) (i : Int) (hl : l.length ≤ 1000000) (hi : ¬ (1 ≤ i ∧ i ≤ ((wholeL l).length : Int))) :
    Calls Try.prog 37 #[.pointer (some ⟨gr, 0, none⟩), .int .i64 i] w fun e w' => e = .returned (.tuple #[fv z54, .bool false]) ∧ Below w.heap.size w w' := by
  have h1 := h.below (below_alloc (Below.refl w.heap.size w) (.cells #[.string ⟨#[]⟩, .string ⟨#[]⟩] 54))
  have HBox := Aside0.mk (heap_alloc_new w (.cells #[.string ⟨#[]⟩, .string ⟨#[]⟩] 54))
  have HFx := Aside0.mk (fun W => bywashref1_fixed.calls fixedL W fixed_eq)
  have HR1 := Aside0.mk h1
  obtain ⟨k0, k1, f0⟩ := h1.k
  have HL := Aside0.mk hl
  have mixed : Try.prog.follows Departure.mixedOrders = true := by kernel_rfl
  have hcase : decide (i < 1) = true ∨ (decide (i < 1) = false ∧ decide (i > ((wholeL l).length : Int)) = true) := by simp only [decide_eq_true_eq, decide_eq_false_iff_not]; omega
  clear h h1 hl hi
  rcases hcase with d1 | ⟨d1, d2⟩
  all_goals
    go_enter Try.func37, Try.ntmps37
    go_wp2
    go_region_law (first
      | (refine Bk.step_app_of (by first | rfl | (simp [Region.wanted]; done)) (.tmp 7) (.tmp 11) rfl hrun ?_; clear hrun)
      | (go_simp; go_wp2_with (first
        | (go_at_call 78; refine (HFx.out _).mono ?_; rintro e w1 ⟨v0, rfl, hv, hb⟩; have hb1 := below_step (below_drew (Below.refl _ _)) hb; have k1a := ((HR1.out.below hb1).k).2.1; obtain ⟨A', c', w2, hrun, hb2, hk2, hC, hcap⟩ := whole_run HR1.out HL.out hb1 (by simp) hv; have hbx := (hk2 w.heap.size (by simp) (by have := hb1.size; simp at this; omega)).trans ((hb1.block _ (blk_lt HBox.out)).trans HBox.out); have HC2 := Aside0.mk (And.intro hC hcap); have HB2 := Aside0.mk hb2; have HBx := Aside0.mk hbx; clear hv hb hb1 hb2 hk2 hC hcap hbx HFx))))
    all_goals
      have q0 : w2.cell? ⟨w.heap.size, 0, none⟩ = some (.string ⟨#[]⟩) := by have := HBx.out; simp [World.cell?, this]
      have q1 : w2.cell? ⟨w.heap.size, 1, none⟩ = some (.string ⟨#[]⟩) := by have := HBx.out; simp [World.cell?, this]
      have qf : ∀ j, w2.frozen? ⟨w.heap.size, j, none⟩ = false := fun j => by have := HBx.out; simp [World.frozen?, this]
      go_wp2
      (try simp only [Exit.inBlock, Exit.then])
      refine bodyPost_ret (results_ct rfl _ _ w.heap.size 54 #[.string ⟨#[]⟩, .string ⟨#[]⟩] (0, 0) _ rfl (blk_put (blk_put HBx.out 0 _ rfl) 1 _ rfl) Try.underlying54 rfl (by kernel_rfl)) rfl ?_
      exact ⟨rfl, below_set (below_set (below_step (below_alloc (Below.refl _ _) _) HB2.out) (Nat.le_refl _)) (Nat.le_refl _)⟩
end Go.Proofs.Ytohphkdemonlkaa.Tp
/- The document's table: Find, walked. -/
namespace Go.Proofs.Ytohphkdemonlkaa.Tp
open Go.RowKit Go.Lib Go.Proofs.Ytohphkdemonlkaa.XQt Go.Proofs.YtohphkdemonlkaaW.PrintWords Go.Proofs.YtohphkdemonlkaaW.PrintLast Go.Proofs.YtohphkdemonlkaaW.PrintMore Go.Proofs.Ytohphkdemonlkaa.Ob Go.Proofs.Ytohphkdemonlkaa.Tw
attribute [local go_sem high] eqA54
theorem rf_drop (f : S54) (L : List S54) (i : Nat) (nm : Int) (hi : i < L.length) : rf f (L.drop i) i nm = if same f L[i] then ((i : Int) + 1, true) else rf f (L.drop (i + 1)) (i + 1) (if sameName f L[i] && nm == 0 then (i : Int) + 1 else nm) := by
  rw [List.drop_eq_getElem_cons hi, rf]
theorem beq_symm (a b : ByteArray) : (a.toList == b.toList) = (b.toList == a.toList) := by
  rw [Bool.eq_iff_iff, beq_iff_eq, beq_iff_eq]
  exact ⟨Eq.symm, Eq.symm⟩
set_option maxHeartbeats 3200000 in
set_option maxRecDepth 20000 in
theorem findR_c {w : World} {gr : Nat} {l : List S54} {s : Int} {A : Option Addr} {c : Nat} (h : RTb w gr l s A c) (f : S54) (hl : l.length ≤ 1000000) :
    Calls Try.prog 38 #[.pointer (some ⟨gr, 0, none⟩), .agg #[.string f.f0, .string f.f1]] w fun e w' => e = .returned (.tuple #[.int .i64 (findN (wholeL l) f), .bool (findB (wholeL l) f)]) ∧ Below w.heap.size w w' := by
  have h1 := h.below (below_alloc (Below.refl w.heap.size w) (.cells #[.string f.f0, .string f.f1] 54))
  have HBox := Aside0.mk (heap_alloc_new w (.cells #[.string f.f0, .string f.f1] 54))
  have HFx := Aside0.mk (fun W => bywashref1_fixed.calls fixedL W fixed_eq)
  have HR1 := Aside0.mk h1
  obtain ⟨k0, k1, f0⟩ := h1.k
  have HL := Aside0.mk hl
  have mixed : Try.prog.follows Departure.mixedOrders = true := by kernel_rfl
  have HRF := Aside0.mk (rf_find (wholeL l) f)
  clear h h1 hl
  go_enter Try.func38, Try.ntmps38
  go_wp2
  go_region_law (first
    | (refine Bk.step_app_of (by first | rfl | (simp [Region.wanted]; done)) (.tmp 9) (.tmp 13) rfl hrun ?_; clear hrun)
    | (go_simp; go_wp2_with (first
      | (go_at_call 78; refine (HFx.out _).mono ?_; rintro e w1 ⟨v0, rfl, hv, hb⟩; have hb1 := below_step (below_drew (Below.refl _ _)) hb; have k1a := ((HR1.out.below hb1).k).2.1; obtain ⟨A', c', w2, hrun, hb2, hk2, hC, hcap⟩ := whole_run HR1.out HL.out hb1 (by simp) hv; have hbx := (hk2 w.heap.size (by simp) (by have := hb1.size; simp at this; omega)).trans ((hb1.block _ (blk_lt HBox.out)).trans HBox.out); have HC2 := Aside0.mk (And.intro hC hcap); have HB2 := Aside0.mk hb2; have HBx := Aside0.mk hbx; clear hv hb hb1 hb2 hk2 hC hcap hbx HFx))))
  all_goals
    have hlen : (wholeL l).length ≤ 1000016 := by have := whole_len l; have := HL.out; omega
    have HLen := Aside0.mk hlen
    generalize hL : wholeL l = L at HC2 HRF HLen ⊢
    have HLQ := Aside0.mk hL
    clear hL
    clear hlen k0 k1 f0 HR1
    go_wp2
    go_loopg [7, 8] (L.length + 1) (fun kq v7 v8 w' => ∃ (i : Nat) (nm : Int), v7 = .int .i64 nm ∧ v8 = .int .i64 i ∧ Aside0 (i + kq = L.length + 1 ∧ 1 ≤ kq) ∧ Aside0 (rf f (L.drop i) i nm = rf f L 0 0) ∧ Aside0 (Below w2.heap.size w2 w'))
    case atStart => exact ⟨0, 0, rfl, rfl, ⟨by omega, by omega⟩, ⟨by rw [List.drop_zero]⟩, ⟨Below.refl _ _⟩⟩
    case round =>
      obtain ⟨i, nm, rfl, rfl, HJ, HF, HB⟩ := hrel
      by_cases hi : i < L.length
      · have e1 : decide ((i : Int) < (L.length : Int)) = true := decide_eq_true (by omega)
        have e1n : decide (i < L.length) = true := decide_eq_true hi
        have hC := Kd.C_below HC2.out.1 HB.out
        obtain ⟨ad, hA, y0, y1⟩ := at_T54 hC (i : Int) (by omega) (by omega)
        subst hA
        rw [Int.toNat_natCast] at y0 y1
        have hrd : rd_T54 L (i : Int) = L[i] := by simp [rd_T54, hi]
        rw [hrd] at y0 y1
        have hdr := rf_drop f L i nm hi
        have hbx := (HB.out.block _ (blk_lt HBx.out)).trans HBx.out
        obtain ⟨x0, x1⟩ := box_k hbx
        have p1 : (0 : Int) ≤ (i : Int) := by omega
        have p2 : (i : Int) < (L.length : Int) := by omega
        have hwi : wrap64 ((i : Int) + 1) = ((i + 1 : Nat) : Int) := Bk.w64_next i (by have := HLen.out; omega)
        have HW := Aside0.mk hwi
        have HI := Aside0.mk hi
        clear hrd hC hbx
        generalize L[i] = x at y0 y1 hdr
        clear hi
        by_cases hs : same f x = true
        · rw [if_pos hs, HF.out, HRF.out] at hdr
          have HD := Aside0.mk hdr
          have hs' := hs
          unfold same at hs
          have t1 : (x.f0.toList == f.f0.toList && x.f1.toList == f.f1.toList) = true := by rw [beq_symm x.f0, beq_symm x.f1]; exact hs
          have t2 : (x.f0.toList == f.f0.toList) = true := ((Bool.and_eq_true _ _).mp t1).1
          have t3 : (x.f1.toList == f.f1.toList) = true := ((Bool.and_eq_true _ _).mp t1).2
          clear hdr hs' hs t1
          go_wp2
          go_quiet (fail)
          go_wp2
          go_ret2
          have e3 : findN L f = (i : Int) + 1 := congrArg Prod.fst HD.out
          have e4 : findB L f = true := congrArg Prod.snd HD.out
          rw [HLQ.out, e3, e4]
          exact ⟨(by show Ending.returned (.tuple #[.int .i64 (wrap64 ((i : Int) + 1)), .bool true]) = _; rw [HW.out]; rfl), below_step (below_alloc (Below.refl _ _) _) (below_step HB2.out (below_step HB.out (pw_below_drewN (Below.refl _ _) _)))⟩
        · rw [if_neg hs, HF.out] at hdr
          have t1 : (x.f0.toList == f.f0.toList && x.f1.toList == f.f1.toList) = false := by rw [beq_symm x.f0, beq_symm x.f1]; unfold same at hs; simpa using hs
          clear hs
          by_cases hn : sameName f x = true
          · have t2 : (x.f0.toList == f.f0.toList) = true := hn
            have t3 : (x.f1.toList == f.f1.toList) = false := by rw [t2, Bool.true_and] at t1; exact t1
            clear t1 hn
            by_cases hz : nm = 0
            · subst hz
              rw [if_pos (by have e : sameName f x = true := t2; simp [e])] at hdr
              have HD := Aside0.mk hdr
              clear hdr
              go_wp2
              go_quiet (fail)
              go_wp2
              go_quiet (fail)
              go_wp2
              go_roundg (gk - 1)
              case measure => have := HJ.out; have := HI.out; omega
              case rel => exact ⟨i + 1, (i : Int) + 1, by rw [HW.out]; rfl, congrArg (Value.int .i64) HW.out, ⟨by have := HJ.out; have := HI.out; omega, by have := HJ.out; have := HI.out; omega⟩, ⟨HD.out.symm⟩, ⟨below_step HB.out (by repeat (first | exact Below.refl _ _ | apply below_drew1 | apply pw_below_drewN))⟩⟩
            · have hz' : (nm == 0) = false := by simpa using hz
              rw [if_neg (by simp [hz])] at hdr
              have HD := Aside0.mk hdr
              clear hdr hz
              go_wp2
              go_quiet (fail)
              go_wp2
              go_quiet (fail)
              go_wp2
              go_roundg (gk - 1)
              case measure => have := HJ.out; have := HI.out; omega
              case rel => exact ⟨i + 1, nm, rfl, congrArg (Value.int .i64) HW.out, ⟨by have := HJ.out; have := HI.out; omega, by have := HJ.out; have := HI.out; omega⟩, ⟨HD.out.symm⟩, ⟨below_step HB.out (by repeat (first | exact Below.refl _ _ | apply below_drew1 | apply pw_below_drewN))⟩⟩
          · rw [if_neg (by simp [hn])] at hdr
            have HD := Aside0.mk hdr
            have t2 : (x.f0.toList == f.f0.toList) = false := by unfold sameName at hn; simpa using hn
            clear hdr hn t1
            go_wp2
            go_quiet (fail)
            go_wp2
            go_quiet (fail)
            go_wp2
            go_roundg (gk - 1)
            case measure => have := HJ.out; have := HI.out; omega
            case rel => exact ⟨i + 1, nm, rfl, congrArg (Value.int .i64) HW.out, ⟨by have := HJ.out; have := HI.out; omega, by have := HJ.out; have := HI.out; omega⟩, ⟨HD.out.symm⟩, ⟨below_step HB.out (by repeat (first | exact Below.refl _ _ | apply below_drew1 | apply pw_below_drewN))⟩⟩
      · have e1 : decide ((i : Int) < (L.length : Int)) = false := decide_eq_false (by omega)
        have e1n : decide (i < L.length) = false := decide_eq_false hi
        have hd : L.drop i = [] := List.drop_eq_nil_of_le (by omega)
        have hf := HF.out
        rw [hd, HRF.out] at hf
        have HD := Aside0.mk hf
        clear hf hd hi
        go_wp2
        go_ret2
        have e3 : findN L f = nm := (congrArg Prod.fst HD.out).symm
        have e4 : findB L f = false := (congrArg Prod.snd HD.out).symm
        rw [HLQ.out, e3, e4]
        exact ⟨rfl, below_step (below_alloc (Below.refl _ _) _) (below_step HB2.out HB.out)⟩
end Go.Proofs.Ytohphkdemonlkaa.Tp
/- The table that is none. -/
namespace Go.Proofs.Ytohphkdemonlkaa.Tp
open Go.RowKit Go.Lib Go.Proofs.Ytohphkdemonlkaa.XQt Go.Proofs.YtohphkdemonlkaaW.PrintWords Go.Proofs.YtohphkdemonlkaaW.PrintLast Go.Proofs.YtohphkdemonlkaaW.PrintMore Go.Proofs.Ytohphkdemonlkaa.Ob Go.Proofs.Ytohphkdemonlkaa.Tw
theorem add_no (x : S54) (w : World) : Calls Try.prog 27 #[.pointer none, .agg #[.string x.f0, .string x.f1]] w fun e w' => e = .returned (.tuple #[]) ∧ Below w.heap.size w w' := by
  go_enter Try.func27, Try.ntmps27
  go_wp2
  first | go_end0 | ((try simp only [Exit.inBlock, Exit.then]); refine bodyPost_ret (results_none rfl _ _ _) rfl ?_)
  exact ⟨rfl, below_alloc (Below.refl _ _) _⟩
theorem all_no (w : World) : Calls Try.prog 28 #[.pointer none] w fun e w' => e = .returned (.slice none 0 0) ∧ w' = w := by
  go_enter Try.func28, Try.ntmps28
  go_wp2
  go_ret
  exact ⟨rfl, rfl⟩
theorem used_no (w : World) : Calls Try.prog 29 #[.pointer none] w fun e w' => e = .returned (.int .i64 0) ∧ w' = w := by
  go_enter Try.func29, Try.ntmps29
  go_wp2
  go_ret
  exact ⟨rfl, rfl⟩
theorem size_no (w : World) : Calls Try.prog 34 #[.pointer none] w fun e w' => e = .returned (.int .i64 0) ∧ w' = w := by
  go_enter Try.func34, Try.ntmps34
  go_wp2
  go_ret
  exact ⟨rfl, rfl⟩
theorem resize_no (i : Int) (w : World) : Calls Try.prog 33 #[.pointer none, .int .i64 i] w fun e w' => e = .returned (.bool false) ∧ w' = w := by
  go_enter Try.func33, Try.ntmps33
  go_wp2
  go_ret
  exact ⟨rfl, rfl⟩
set_option maxHeartbeats 800000 in
theorem whole_no (w : World) : Calls Try.prog 73 #[.pointer none] w fun e w' => ∃ A c, e = .returned (.slice A fixedL.length c) ∧ Aside0 (k54.C w' A fixedL.length fixedL ∧ fixedL.length ≤ c) ∧ Below w.heap.size w w' := by
  have HFx := Aside0.mk (table_always.calls fixedL w fixed_f)
  go_enter Try.func73, Try.ntmps73
  go_wp2_with (first
    | (go_at_call 93; refine HFx.out.mono ?_; rintro e w1 ⟨v0, rfl, hR1, hB1⟩; have HR1 := Aside0.mk hR1; have HB1 := Aside0.mk hB1; obtain ⟨A0, c0, rfl, hF, hg⟩ := Bk.fr_of_R hR1; have HF := Aside0.mk hF; have HG := Aside0.mk hg; clear hR1 hB1 hF hg)
    | (go_at_call 28; refine (all_no _).mono ?_; rintro e w2 ⟨rfl, rfl⟩; obtain ⟨A2, c2, w2, hr, hF2, hw⟩ := Bk.app_run (B := none) (m := 0) (k := []) (d := 0) 50 HF.out ⟨rfl, Nat.zero_le _, fun h => absurd h (Nat.lt_irrefl _)⟩ (by rw [fixed_len]; decide); rw [Nat.add_zero, List.append_nil] at hF2; rw [Nat.add_zero] at hr; have HF2 := Aside0.mk hF2; have HW2 := Aside0.mk hw; clear hF2 hw)
    | ((with_reducible refine gate_builtin (b := .append) (xs := #[.tmp 3, .tmp 5]) rfl ?_); at_builtin; refine Bk.list_app_of rfl (.tmp 3) (.tmp 5) rfl hr ?_))
  go_ret
  refine ⟨A2, c2, rfl, ⟨HF2.out.cr.c (by rw [fixed_len]; decide), HF2.out.room⟩, ?_⟩
  rcases HW2.out with ⟨_, hs⟩ | ⟨_, hb⟩
  · exact hs.below HB1.out (fun k hk => HG.out k hk)
  · exact below_step HB1.out hb
set_option maxHeartbeats 1600000 in
theorem at_no_17 (w : World) : Calls Try.prog 31 #[.pointer none, .int .i64 17] w fun e w' => e = .returned (.tuple #[.agg #[.string ⟨#[]⟩, .string ⟨#[]⟩], .bool false]) ∧ Below w.heap.size w w' := by
  have HW := Aside0.mk whole_no
  have HBox := Aside0.mk (heap_alloc_new w (.cells #[.string ⟨#[]⟩, .string ⟨#[]⟩] 54))
  have d2 : decide ((17 : Int) > (fixedL.length : Int)) = true := by rw [fixed_len]; rfl
  have HLen : Aside0 (fixedL.length = 16) := ⟨fixed_len⟩
  generalize fixedL = L at HW d2 HLen
  go_enter Try.func31, Try.ntmps31
  go_wp2_with (go_at_call 73; refine (HW.out _).mono ?_; rintro e w2 ⟨A1, c1, rfl, HC, hB⟩; have hbk := (hB.block _ (blk_lt HBox.out)).trans HBox.out; have k0 : w2.cell? ⟨w.heap.size, 0, none⟩ = some (.string ⟨#[]⟩) := (by simp [World.cell?, hbk]); have k1 : w2.cell? ⟨w.heap.size, 1, none⟩ = some (.string ⟨#[]⟩) := (by simp [World.cell?, hbk]); have f0 : ∀ j, w2.frozen? ⟨w.heap.size, j, none⟩ = false := (fun j => by simp [World.frozen?, hbk]); have HB2 := Aside0.mk hB; have HBK := Aside0.mk hbk; clear hB hbk)
  (try simp only [Exit.inBlock, Exit.then])
  refine bodyPost_ret (results_ct rfl _ _ w.heap.size 54 #[.string ⟨#[]⟩, .string ⟨#[]⟩] (0, 0) _ rfl (blk_put (blk_put HBK.out 0 _ rfl) 1 _ rfl) Try.underlying54 rfl (by kernel_rfl)) rfl ?_
  exact ⟨rfl, below_set (below_set (below_step (below_alloc (Below.refl _ _) _) HB2.out) (Nat.le_refl _)) (Nat.le_refl _)⟩
def fget2 : S54 := ⟨⟨#[58, 109, 101, 116, 104, 111, 100]⟩, ⟨#[71, 69, 84]⟩⟩
theorem fixed_2 : rd_T54 fixedL 1 = fget2 := rfl
set_option maxHeartbeats 1600000 in
theorem at_no_2 (w : World) : Calls Try.prog 31 #[.pointer none, .int .i64 2] w fun e w' => e = .returned (.tuple #[.agg #[.string ⟨#[58, 109, 101, 116, 104, 111, 100]⟩, .string ⟨#[71, 69, 84]⟩], .bool true]) ∧ Below w.heap.size w w' := by
  have HW := Aside0.mk whole_no
  have HBox := Aside0.mk (heap_alloc_new w (.cells #[.string ⟨#[]⟩, .string ⟨#[]⟩] 54))
  have d2 : decide ((2 : Int) > (fixedL.length : Int)) = false := by rw [fixed_len]; rfl
  have p2 : (1 : Int) < (fixedL.length : Int) := by rw [fixed_len]; decide
  have p3 : 1 < fixedL.length := by rw [fixed_len]; decide
  have HX : Aside0 (rd_T54 fixedL 1 = fget2) := ⟨fixed_2⟩
  generalize fixedL = L at HW d2 p2 p3 HX
  go_enter Try.func31, Try.ntmps31
  go_wp2_with (go_at_call 73; refine (HW.out _).mono ?_; rintro e w2 ⟨A1, c1, rfl, HC, hB⟩; have hbk := (hB.block _ (blk_lt HBox.out)).trans HBox.out; obtain ⟨ad, hA, e0, e1⟩ := at_T54 HC.out.1 1 (by decide) p2; cases hA; rw [HX.out] at e0 e1; replace e0 : w2.cell? ⟨ad.block, ad.off + 2, none⟩ = some (.string fget2.f0) := e0; replace e1 : w2.cell? ⟨ad.block, ad.off + 2 + 1, none⟩ = some (.string fget2.f1) := e1; have k0 : w2.cell? ⟨w.heap.size, 0, none⟩ = some (.string ⟨#[]⟩) := (by simp [World.cell?, hbk]); have k1 : w2.cell? ⟨w.heap.size, 1, none⟩ = some (.string ⟨#[]⟩) := (by simp [World.cell?, hbk]); have f0 : ∀ j, w2.frozen? ⟨w.heap.size, j, none⟩ = false := (fun j => by simp [World.frozen?, hbk]); have HB2 := Aside0.mk hB; have HBK := Aside0.mk hbk; clear hB hbk)
  (try simp only [Exit.inBlock, Exit.then])
  refine bodyPost_ret (results_ct rfl _ _ w.heap.size 54 #[.string fget2.f0, .string fget2.f1] (0, 0) _ rfl (blk_put (blk_put HBK.out 0 _ rfl) 1 _ rfl) Try.underlying54 rfl (by kernel_rfl)) rfl ?_
  exact ⟨rfl, below_set (below_set (below_step (below_alloc (Below.refl _ _) _) HB2.out) (Nat.le_refl _)) (Nat.le_refl _)⟩
end Go.Proofs.Ytohphkdemonlkaa.Tp
/- A slice of operations that came in: opened. -/
namespace Go.Proofs.Ytohphkdemonlkaa.Tp
open Go.ChangeShapes Go.WideShapes Go.RowKit Go.Proofs.Ytohphkdemonlkaa.XQt Go.Proofs.YtohphkdemonlkaaW.PrintWords Go.Proofs.YtohphkdemonlkaaW.PrintLast Go.Proofs.YtohphkdemonlkaaW.PrintMore Go.Proofs.Ytohphkdemonlkaa.Ob Go.Proofs.Ytohphkdemonlkaa.Tw
section
variable {H : Type} {enc : TypeId × Value → H} {w : World} {base : Nat} {spare : Nat → Bool} {held : Bool}
structure OP where
  kind : Int
  n : Int
  f : S54
structure OpOk (o : OP) : Prop where
  s0 : o.f.f0.size ≤ reachBytes
  s1 : o.f.f1.size ≤ reachBytes
  rk : -9223372036854775808 ≤ o.kind ∧ o.kind ≤ 9223372036854775807
  rn : -9223372036854775808 ≤ o.n ∧ o.n ≤ 9223372036854775807
def opAt (w : World) (ad : Addr) (o : OP) : Prop := w.cell? ad = some (.int .i64 o.kind) ∧ w.cell? ⟨ad.block, ad.off + 1, none⟩ = some (.int .i64 o.n) ∧ w.cell? ⟨ad.block, ad.off + 2, none⟩ = some (.string o.f.f0) ∧ w.cell? ⟨ad.block, ad.off + 3, none⟩ = some (.string o.f.f1)
def Ops (w : World) (A : Option Addr) (os : List OP) : Prop := os.length ≤ 1000000000000000000 ∧ ∀ (j : Nat) (o : OP), os[j]? = some o → OpOk o ∧ ∃ ad : Addr, A = some ad ∧ opAt w (ad.add (j * 4)) o
theorem cell_lt {w : World} {a : Addr} {v : Value} (h : w.cell? a = some v) : a.block < w.heap.size := by
  unfold World.cell? at h
  rcases hh : w.heap[a.block]? with _ | o
  · rw [hh] at h; simp at h
  · exact blk_lt hh
theorem op_below {w w' : World} {ad : Addr} {o : OP} (h : opAt w ad o) (hb : Below w.heap.size w w') : opAt w' ad o := by
  have hk : ∀ (a : Addr) (v : Value), w.cell? a = some v → w'.cell? a = some v := fun a v hv => (Below.cell hb (cell_lt hv)).trans hv
  exact ⟨hk _ _ h.1, hk _ _ h.2.1, hk _ _ h.2.2.1, hk _ _ h.2.2.2⟩
theorem op_weights (d0 d1 : DataW H) (a b : List UInt8) : ∀ n, n = a.length ∨ n = b.length → n ∈ (DataW.agg [d0, d1, DataW.agg [DataW.lit (.string a), DataW.lit (.string b)]] : DataW H).weights Try.prog 73 := by
  intro n hn
  have := pair_weights (H := H) a b n hn
  simp only [DataW.weights, Try.underlying73]
  simp only [DataW.weightsEach, List.map_cons, List.map_nil, List.mem_append]
  exact .inr (.inr (.inl this))
theorem add_off (a : Addr) (i q : Nat) (hq : 0 < q) : a.add (i + q) = ⟨(a.add i).block, (a.add i).off + q, none⟩ := by
  unfold Addr.add
  repeat' split
  all_goals first | rfl | omega | (simp_all; done) | (simp_all; omega)
theorem wf_in {n : Int} (h : (Lit.int .i64 n).wf = true) : -9223372036854775808 ≤ n ∧ n ≤ 9223372036854775807 := by
  simp [Lit.wf] at h
  exact ⟨Int.le_trans (by decide) h.1, h.2⟩
theorem bytes73 : Try.prog.bytesOf 73 = 40 + 8 := by kernel_rfl
set_option maxRecDepth 20000 in
theorem open_ops {fuel j : Nat} {cs : List Value} {x : DataW H × List MemPlace} {ts : List TypeId} {ds : List (DataW H)} (hsz : (DataW.weightsEach Try.prog ts ds).all (· ≤ reachBytes) = true) (htj : ts[j]? = some 68) (hdj : ds[j]? = some x.1)
    (h : DataW.trod enc Try.prog w base spare held fuel 68 cs = some x) : ∃ (A : Option Addr) (cap : Nat) (os : List OP), cs = [.slice A os.length cap] ∧ os.length ≤ cap ∧ Ops w A os := by
  rcases Go.Deep.open_slice (P := Try.prog) Try.underlying68 h with ⟨rfl, rfl⟩ | ⟨a, len, cap, m, n, D, Pl, rfl, hb, hl, hm, hmm, rfl, hx⟩
  · exact ⟨none, 0, [], rfl, Nat.le_refl _, by simp, fun j o h => by simp at h⟩
  · have hlm : len ≤ m := by rw [hmm]; split <;> omega
    have hcells : Try.prog.cellsOf 73 = 4 := by kernel_rfl
    have each : ∀ i, i < len → ∃ o : OP, OpOk o ∧ opAt w (a.add (i * 4)) o := by
      intro i hi
      obtain ⟨cs', h1, h2⟩ := hx i (by omega)
      rw [hcells] at h1
      obtain ⟨_, hlen, hcell⟩ := World.cells?_some h1
      obtain ⟨xs, k, hk, hxy, _, hxl, hf⟩ := DataW.trod_struct Try.underlying73 h2
      match xs, hxl, cs', hlen with
      | [y0, y1, y2], _, [v0, v1, v2, v3], _ =>
        have g0 := hf 0 _ rfl
        have g1 := hf 1 _ rfl
        have g2 := hf 2 _ rfl
        have c3 : Try.prog.cellsOf 3 = 1 := by kernel_rfl
        have c54 : Try.prog.cellsOf 54 = 2 := by kernel_rfl
        simp [c3, c54] at g0 g1 g2
        have e0 := hcell 0 (by omega)
        have e1 := hcell 1 (by omega)
        have e2 := hcell 2 (by omega)
        have e3 := hcell 3 (by omega)
        rw [Go.Deep.add_add] at e0 e1 e2 e3
        obtain ⟨z0, q0, _, r0⟩ := DataW.trod_int (by exact Try.underlying3) g0
        obtain ⟨z1, q1, _, r1⟩ := DataW.trod_int (by exact Try.underlying3) g1
        obtain ⟨ys, k2, hk2, hxy2, _, hxl2, hf2⟩ := DataW.trod_struct Try.underlying54 g2
        match ys, hxl2 with
        | [t0, t1], _ =>
          have m0 := hf2 0 _ rfl
          have m1 := hf2 1 _ rfl
          have c9 : Try.prog.cellsOf 9 = 1 := by kernel_rfl
          simp [c9] at m0 m1
          obtain ⟨s0, p0, n0, _⟩ := DataW.trod_string (by exact Try.underlying9) m0
          obtain ⟨s1, p1, n1, _⟩ := DataW.trod_string (by exact Try.underlying9) m1
          have hY2 : y2.1 = .agg [t0.1, t1.1] := by simpa using congrArg Prod.fst hxy2
          have hD : D i = .agg [y0.1, y1.1, y2.1] := by simpa using congrArg Prod.fst hxy
          have ht0 : t0.1 = .lit (.string s0.data.toList) := by simpa using congrArg Prod.fst n0
          have ht1 : t1.1 = .lit (.string s1.data.toList) := by simpa using congrArg Prod.fst n1
          have hmem : ∀ n, n = s0.data.toList.length ∨ n = s1.data.toList.length → n ≤ reachBytes := by
            intro n hn
            have hw := weights_all (P := Try.prog) (e := 73) (ds := (List.range len).map D) (List.mem_map.2 ⟨i, List.mem_range.2 hi, rfl⟩) n (by rw [hD, hY2, ht0, ht1]; exact op_weights _ _ _ _ n hn)
            have := List.all_eq_true.1 hsz n (DataW.weights_mem_each htj hdj n (by simp only [DataW.weights, Try.underlying68]; simp only [List.mem_cons, List.mem_append]; exact .inr (.inl hw)))
            simpa using this
          obtain rfl : v0 = .int .i64 z0 := by simpa using q0
          obtain rfl : v1 = .int .i64 z1 := by simpa using q1
          obtain rfl : v2 = .string s0 := by simpa using p0
          obtain rfl : v3 = .string s1 := by simpa using p1
          refine ⟨⟨z0, z1, ⟨s0, s1⟩⟩, ⟨by have := hmem _ (.inl rfl); rwa [Array.length_toList] at this, by have := hmem _ (.inr rfl); rwa [Array.length_toList] at this, wf_in r0, wf_in r1⟩, ?_, ?_, ?_, ?_⟩
          · simpa using e0
          · rw [← add_off a (i * 4) 1 (by decide)]
            simpa using e1
          · rw [← add_off a (i * 4) 2 (by decide)]
            simpa using e2
          · rw [← add_off a (i * 4) 3 (by decide)]
            simpa using e3
    have : Inhabited OP := ⟨⟨0, 0, z54⟩⟩
    obtain ⟨Y, hY⟩ := Go.Deep.choose_lt each
    have hlen : ((List.range len).map Y).length = len := by simp
    refine ⟨some a, cap, (List.range len).map Y, by rw [hlen], by rw [hlen]; exact hl, ?_, fun j o ho => ?_⟩
    · have := List.all_eq_true.1 hsz _ (DataW.weights_mem_each htj hdj _ (by simp only [DataW.weights, Try.underlying68]; exact List.mem_cons_self))
      have h2 := of_decide_eq_true this
      rw [bytes73, List.length_map, List.length_range] at h2
      rw [hlen]
      unfold maxLen at hm
      have hr := reachBytes_lt
      omega
    · have hi : j < len := by rw [← hlen]; exact (List.getElem?_eq_some_iff.1 ho).1
      rw [List.getElem?_map, List.getElem?_range hi] at ho
      obtain rfl := Option.some.inj ho
      exact ⟨(hY j hi).1, a, rfl, (hY j hi).2⟩
end
end Go.Proofs.Ytohphkdemonlkaa.Tp
/- The table, the document's table and the Book side by side. -/
namespace Go.Proofs.Ytohphkdemonlkaa.Tp
open Go.RowKit Go.Lib Go.Proofs.Ytohphkdemonlkaa.XQt Go.Proofs.YtohphkdemonlkaaW.PrintWords Go.Proofs.YtohphkdemonlkaaW.PrintLast Go.Proofs.YtohphkdemonlkaaW.PrintMore Go.Proofs.Ytohphkdemonlkaa.Ob Go.Proofs.Ytohphkdemonlkaa.Tw
structure TLg (w0 W : World) (b g gr : Nat) (Lt : List S54) (st : Int) (Lr : List S54) (sr : Int) (vs : List (Nat × Obj)) (ok okr z y : Nat → Prop) (A : Option Addr) (c : Nat) : Prop where
  bel : Below w0.heap.size w0 W
  t : TOn W ok Lt st g
  r : RTb W gr Lr sr A c
  r1 : okr gr
  r2 : ∀ k : Nat, A = some ⟨k, 0, none⟩ → okr k
  d : ∀ k, ok k → ¬ okr k
  t0 : ∀ k, ok k → w0.heap.size ≤ k ∧ z k
  r0 : ∀ k, okr k → w0.heap.size ≤ k ∧ z k
  v : ∀ p ∈ vs, W.heap[p.1]? = some p.2 ∧ z p.1 ∧ ¬ ok p.1 ∧ ¬ okr p.1
  kp : Bk.Kp w0.heap.size z y W b
/-- The table (Lt, st), the document's table (Lr, sr), the Book, the variables vs: nobody shares with another one. -/
def TL (w0 W : World) (b g gr : Nat) (Lt : List S54) (st : Int) (Lr : List S54) (sr : Int) (vs : List (Nat × Obj)) : Prop := ∃ ok okr z y A c, TLg w0 W b g gr Lt st Lr sr vs ok okr z y A c
/-- Beside them a row that is nobody's yet. -/
def TLr (w0 W : World) (b g gr : Nat) (Lt : List S54) (st : Int) (Lr : List S54) (sr : Int) (vs : List (Nat × Obj)) (B : Option Addr) (m : Nat) (l : List S54) : Prop :=
  Bk.FR W B l.length m l ∧ ∃ ok okr z y A c, TLg w0 W b g gr Lt st Lr sr vs ok okr z y A c ∧ ∀ k : Nat, B = some ⟨k, 0, none⟩ → w0.heap.size ≤ k ∧ z k ∧ ¬ ok k ∧ ¬ okr k ∧ ∀ p ∈ vs, p.1 ≠ k
section
variable {w0 W W' : World} {b g gr : Nat} {Lt Lr Lt' Lr' : List S54} {st sr st' sr' : Int} {vs : List (Nat × Obj)} {ok okr z y S ok' : Nat → Prop} {A A' : Option Addr} {c c' : Nat}
theorem heap_lt {k : Nat} {o : Obj} (h : W.heap[k]? = some o) : k < W.heap.size := by
  rcases Nat.lt_or_ge k W.heap.size with h1 | h1
  · exact h1
  · rw [Array.getElem?_eq_none h1] at h; cases h
theorem TLg.step (h : TLg w0 W b g gr Lt st Lr sr vs ok okr z y A c) (hs : Stay S W W') (hS : ∀ k, S k → ok k ∨ okr k) (hSv : ∀ p ∈ vs, ¬ S p.1) (ht : TOn W' ok' Lt' st' g) (hr : RTb W' gr Lr' sr' A' c') (ho : ∀ k, ok' k → (ok k ∨ W.heap.size ≤ k) ∧ k < W'.heap.size) (hA : ∀ k : Nat, A' = some ⟨k, 0, none⟩ → okr k ∨ (W.heap.size ≤ k ∧ k < W'.heap.size ∧ ¬ ok' k)) :
    TLg w0 W' b g gr Lt' st' Lr' sr' vs ok' (fun k => okr k ∨ A' = some ⟨k, 0, none⟩) (fun k => z k ∨ (W.heap.size ≤ k ∧ k < W'.heap.size)) y A' c' := by
  have hz : ∀ k, z k → k < W.heap.size := fun k hk => by
    obtain ⟨ρ, _, _, h3, _⟩ := h.kp
    exact (h3 k hk).1
  have hb := h.bel.size
  refine ⟨hs.below h.bel (fun k hk => ?_), ht, hr, .inl h.r1, fun k e => .inr e, fun k hk e => ?_, fun k hk => ?_, fun k hk => ?_, fun p hp => ?_, h.kp.stay hs fun k _ e => .inr ?_⟩
  · rcases hS k hk with h1 | h1
    · exact (h.t0 k h1).1
    · exact (h.r0 k h1).1
  · obtain ⟨h1, h2⟩ := ho k hk
    rcases e with e | e
    · rcases h1 with h1 | h1
      · exact h.d k h1 e
      · have := hz k (h.r0 k e).2; omega
    · rcases hA k e with h3 | ⟨_, _, h3⟩
      · rcases h1 with h1 | h1
        · exact h.d k h1 h3
        · have := hz k (h.r0 k h3).2; omega
      · exact h3 hk
  · obtain ⟨h1, h2⟩ := ho k hk
    rcases h1 with h1 | h1
    · exact ⟨(h.t0 k h1).1, .inl (h.t0 k h1).2⟩
    · exact ⟨by omega, .inr ⟨h1, h2⟩⟩
  · rcases hk with hk | hk
    · exact ⟨(h.r0 k hk).1, .inl (h.r0 k hk).2⟩
    · rcases hA k hk with h3 | ⟨h3, h4, _⟩
      · exact ⟨(h.r0 k h3).1, .inl (h.r0 k h3).2⟩
      · exact ⟨by omega, .inr ⟨h3, h4⟩⟩
  · obtain ⟨h1, h2, h3, h4⟩ := h.v p hp
    have hl := heap_lt h1
    refine ⟨(hs.block p.1 hl (hSv p hp)).trans h1, .inl h2, fun e => ?_, fun e => ?_⟩
    · rcases (ho _ e).1 with e | e
      · exact h3 e
      · omega
    · rcases e with e | e
      · exact h4 e
      · rcases hA _ e with e | ⟨e, _⟩
        · exact h4 e
        · omega
  · rcases hS k e with h1 | h1
    · exact (h.t0 k h1).2
    · exact (h.r0 k h1).2
theorem TL.back (h : TL w0 W b g gr Lt st Lr sr vs) : Below w0.heap.size w0 W := by
  obtain ⟨ok, okr, z, y, A, c, h⟩ := h
  exact h.bel
theorem TL.room (h : TL w0 W b g gr Lt st Lr sr vs) : (0 ≤ st ∧ st ≤ 512) ∧ total Lt ≤ st := by
  obtain ⟨ok, okr, z, y, A, c, h⟩ := h
  exact ⟨h.t.size, h.t.room⟩
theorem TL.var (h : TL w0 W b g gr Lt st Lr sr vs) {p : Nat × Obj} (hp : p ∈ vs) : W.heap[p.1]? = some p.2 := by
  obtain ⟨ok, okr, z, y, A, c, h⟩ := h
  exact (h.v p hp).1
theorem TL.forget (h : TL w0 W b g gr Lt st Lr sr vs) : TL w0 W b g gr Lt st Lr sr [] := by
  obtain ⟨ok, okr, z, y, A, c, h⟩ := h
  exact ⟨ok, okr, z, y, A, c, h.bel, h.t, h.r, h.r1, h.r2, h.d, h.t0, h.r0, (fun p hp => by cases hp), h.kp⟩
theorem TLg.below (h : TLg w0 W b g gr Lt st Lr sr vs ok okr z y A c) (hb : Below W.heap.size W W') : TLg w0 W' b g gr Lt st Lr sr vs ok (fun k => okr k ∨ A = some ⟨k, 0, none⟩) (fun k => z k ∨ (W.heap.size ≤ k ∧ k < W'.heap.size)) y A c :=
  h.step (Stay.of_below (ok := fun _ => False) hb) (fun _ e => e.elim) (fun _ _ e => e) (h.t.below_ hb) (h.r.below hb) (fun k hk => ⟨.inl hk, Nat.lt_of_lt_of_le (h.t.old k hk) hb.size⟩) (fun k e => .inl (h.r2 k e))
theorem TL.below (h : TL w0 W b g gr Lt st Lr sr vs) (hb : Below W.heap.size W W') : TL w0 W' b g gr Lt st Lr sr vs := by
  obtain ⟨ok, okr, z, y, A, c, h⟩ := h
  exact ⟨_, _, _, _, _, _, h.below hb⟩
/-- A new variable. -/
theorem TL.alloc (h : TL w0 W b g gr Lt st Lr sr vs) (cs : Array Value) (t : TypeId) : TL w0 (W.alloc (.cells cs t)) b g gr Lt st Lr sr ((W.heap.size, .cells cs t (0, 0)) :: vs) := by
  obtain ⟨ok, okr, z, y, A, c, h⟩ := h
  have hb : Below W.heap.size W (W.alloc (.cells cs t)) := below_alloc (Below.refl _ _) _
  have h2 := h.below hb
  have hz : ∀ k, z k → k < W.heap.size := fun k hk => by
    obtain ⟨ρ, _, _, h3, _⟩ := h.kp
    exact (h3 k hk).1
  refine ⟨_, _, _, _, _, _, h2.bel, h2.t, h2.r, h2.r1, h2.r2, h2.d, h2.t0, h2.r0, fun p hp => ?_, h2.kp⟩
  rcases List.mem_cons.1 hp with rfl | hp
  · refine ⟨heap_alloc_new W _, .inr ⟨Nat.le_refl _, by simp⟩, fun e => ?_, fun e => ?_⟩
    · have := h.t.old _ e; dsimp only at this; omega
    · rcases e with e | e
      · have := hz _ (h.r0 _ e).2; dsimp only at this; omega
      · have := hz _ (h.r0 _ (h.r2 _ e)).2; dsimp only at this; omega
  · exact h2.v p hp
end
end Go.Proofs.Ytohphkdemonlkaa.Tp
/- The table, the document's table and the Book side by side: what each call leaves. -/
namespace Go.Proofs.Ytohphkdemonlkaa.Tp
open Go.RowKit Go.Lib Go.Proofs.Ytohphkdemonlkaa.XQt Go.Proofs.YtohphkdemonlkaaW.PrintWords Go.Proofs.YtohphkdemonlkaaW.PrintLast Go.Proofs.YtohphkdemonlkaaW.PrintMore Go.Proofs.Ytohphkdemonlkaa.Ob Go.Proofs.Ytohphkdemonlkaa.Tw
theorem resize_on {w : World} {ok : Nat → Prop} {l : List S54} {s : Int} {g : Nat} (h : TOn w ok l s g) (s2 : Int) (hs : 0 ≤ s2 ∧ s2 ≤ 512) :
    Calls Try.prog 33 #[.pointer (some ⟨g, 0, none⟩), .int .i64 s2] w fun e w' => e = .returned (.bool true) ∧ TOn w' ok (l.take (Tw.shr s2 l l.length)) s2 g ∧ Stay (fun k => k = g) w w' ∧ ok g := by
  obtain ⟨hs0, hr, ho, hm⟩ := h
  have hg : ok g := by
    obtain ⟨g', A, c, he, hbg, hok, _⟩ := tk_open hm
    obtain rfl : g = g' := by simpa using he
    exact hok
  refine (resize_calls l s s2 w g 0 ok (by omega) hs hm).mono ?_
  rintro e w' ⟨rfl, hm', hst⟩
  refine ⟨rfl, ⟨hs, ?_, fun k hk => Nat.lt_of_lt_of_le (ho k hk) hst.size, hm'⟩, hst, hg⟩
  have key : ∀ n, total (l.take (Tw.shr s2 l n)) ≤ s2 := by
    intro n
    induction n with
    | zero => exact hs.1
    | succ n ih =>
      unfold Tw.shr
      split
      · exact ih
      · omega
  exact key _
section
variable {w0 W W' : World} {b g gr : Nat} {Lt Lr : List S54} {st sr : Int} {vs : List (Nat × Obj)}
theorem add_tl (h : TL w0 W b g gr Lt st Lr sr vs) (x : S54) (hx : cost x ≤ 1000000000) :
    Calls Try.prog 27 #[.pointer (some ⟨g, 0, none⟩), .agg #[.string x.f0, .string x.f1]] W fun e W' => e = .returned (.tuple #[]) ∧ TL w0 W' b g gr (addL st Lt x) st Lr sr vs := by
  obtain ⟨ok, okr, z, y, A, c, h⟩ := h
  refine (add_on h.t x hx).mono ?_
  rintro e W' ⟨rfl, ht, hs⟩
  exact ⟨rfl, _, _, _, _, _, _, h.step hs (fun _ e => .inl e) (fun p hp => (h.v p hp).2.2.1) ht (h.r.keep fun k hk hl => hs.block k hl fun e => by
    rcases hk with rfl | hk
    · exact h.d _ e h.r1
    · exact h.d _ e (h.r2 k hk)) (fun k hk => hk) (fun k e => .inl (h.r2 k e))⟩
theorem resize_tl (h : TL w0 W b g gr Lt st Lr sr vs) (s2 : Int) (hs2 : 0 ≤ s2 ∧ s2 ≤ 512) :
    Calls Try.prog 33 #[.pointer (some ⟨g, 0, none⟩), .int .i64 s2] W fun e W' => e = .returned (.bool true) ∧ TL w0 W' b g gr (Lt.take (Tw.shr s2 Lt Lt.length)) s2 Lr sr vs := by
  obtain ⟨ok, okr, z, y, A, c, h⟩ := h
  refine (resize_on h.t s2 hs2).mono ?_
  rintro e W' ⟨rfl, ht, hs, hg⟩
  exact ⟨rfl, _, _, _, _, _, _, h.step hs (fun k e => .inl (e ▸ hg)) (fun p hp e => (h.v p hp).2.2.1 (e ▸ hg)) ht (h.r.keep fun k hk hl => hs.block k hl fun e => by
    subst e
    rcases hk with rfl | hk
    · exact h.d _ hg h.r1
    · exact h.d _ hg (h.r2 k hk)) (fun k hk => ⟨.inl hk, ht.old k hk⟩) (fun k e => .inl (h.r2 k e))⟩
theorem resize_tl_no (h : TL w0 W b g gr Lt st Lr sr vs) (s2 : Int) (hs2 : ¬ (0 ≤ s2 ∧ s2 ≤ 512)) :
    Calls Try.prog 33 #[.pointer (some ⟨g, 0, none⟩), .int .i64 s2] W fun e W' => e = .returned (.bool false) ∧ TL w0 W' b g gr Lt st Lr sr vs := by
  refine (resize_none s2 W g hs2).mono ?_
  rintro e W' ⟨rfl, hb⟩
  exact ⟨rfl, h.below hb⟩
/-- What turns the document's table alone. -/
theorem TLg.doc {ok okr z y : Nat → Prop} {A A' : Option Addr} {c c' : Nat} {Lr' : List S54} {sr' : Int} (h : TLg w0 W b g gr Lt st Lr sr vs ok okr z y A c) (hs : Stay (fun k => k = gr) W W') (hr : RTb W' gr Lr' sr' A' c') (hA : A' = A ∨ ∃ q : Nat, A' = some ⟨q, 0, none⟩ ∧ W.heap.size ≤ q ∧ q < W'.heap.size) : TL w0 W' b g gr Lt st Lr' sr' vs :=
  ⟨_, _, _, _, _, _, h.step hs (fun k e => .inr (e ▸ h.r1)) (fun p hp e => (h.v p hp).2.2.2 (e ▸ h.r1)) (h.t.stay hs fun k hk e => h.d k hk (e ▸ h.r1)) hr (fun k hk => ⟨.inl hk, Nat.lt_of_lt_of_le (h.t.old k hk) hs.size⟩) (fun k e => by
    rcases hA with rfl | ⟨q, e2, hq, hq2⟩
    · exact .inl (h.r2 k e)
    · rw [e2] at e
      injection e with e
      injection e with e
      subst e
      exact .inr ⟨hq, hq2, fun e3 => by have := h.t.old _ e3; omega⟩)⟩
theorem addR_tl (h : TL w0 W b g gr Lt st Lr sr vs) (x : S54) (hl : total Lr ≤ 1000000) (hx : cost x ≤ 1000000) (hs : 0 ≤ sr ∧ sr ≤ 1000000) :
    Calls Try.prog 35 #[.pointer (some ⟨gr, 0, none⟩), .agg #[.string x.f0, .string x.f1]] W fun e W' => e = .returned (.tuple #[]) ∧ TL w0 W' b g gr Lt st (addL sr Lr x) sr vs := by
  obtain ⟨ok, okr, z, y, A, c, h⟩ := h
  refine (addR_c h.r x hl hx hs).mono ?_
  rintro e W' ⟨rfl, ⟨A', c', hr, hA⟩, hst⟩
  exact ⟨rfl, h.doc hst hr hA⟩
theorem resizeR_tl (h : TL w0 W b g gr Lt st Lr sr vs) (s2 : Int) (hl : total Lr ≤ 1000000) (hs2 : 0 ≤ s2 ∧ s2 ≤ 512) :
    Calls Try.prog 36 #[.pointer (some ⟨gr, 0, none⟩), .int .i64 s2] W fun e W' => e = .returned (.bool true) ∧ TL w0 W' b g gr Lt st (Lr.take (Tw.shr s2 Lr Lr.length)) s2 vs := by
  obtain ⟨ok, okr, z, y, A, c, h⟩ := h
  refine (resizeR_c h.r s2 hl hs2).mono ?_
  rintro e W' ⟨rfl, hr, hst⟩
  exact ⟨rfl, h.doc hst hr (.inl rfl)⟩
theorem resizeR_tl_no (h : TL w0 W b g gr Lt st Lr sr vs) (s2 : Int) (hs2 : ¬ (0 ≤ s2 ∧ s2 ≤ 512)) :
    Calls Try.prog 36 #[.pointer (some ⟨gr, 0, none⟩), .int .i64 s2] W fun e W' => e = .returned (.bool false) ∧ TL w0 W' b g gr Lt st Lr sr vs := by
  refine (resizeR_no W gr s2 hs2).mono ?_
  rintro e W' ⟨rfl, rfl⟩
  exact ⟨rfl, h⟩
theorem tl_len (h : TL w0 W b g gr Lt st Lr sr vs) : Lt.length ≤ 16 := by
  obtain ⟨ok, okr, z, y, A, c, h⟩ := h
  exact h.t.len
theorem at_tl (h : TL w0 W b g gr Lt st Lr sr vs) (i : Int) :
    Calls Try.prog 31 #[.pointer (some ⟨g, 0, none⟩), .int .i64 i] W fun e W' => e = .returned (.tuple #[.agg #[.string (atV (wholeL Lt) i).f0, .string (atV (wholeL Lt) i).f1], .bool (atB (wholeL Lt) i)]) ∧ TL w0 W' b g gr Lt st Lr sr vs := by
  have h0 := h
  obtain ⟨ok, okr, z, y, A, c, h⟩ := h
  have hlen := h.t.len
  by_cases hi : 1 ≤ i ∧ i ≤ ((wholeL Lt).length : Int)
  · obtain ⟨n, rfl⟩ : ∃ n : Nat, i = (n : Int) + 1 := ⟨(i - 1).toNat, by omega⟩
    have e1 : atV (wholeL Lt) ((n : Int) + 1) = rd_T54 (wholeL Lt) (n : Int) := by unfold atV; rw [if_pos hi, Int.add_sub_cancel]
    have e2 : atB (wholeL Lt) ((n : Int) + 1) = true := decide_eq_true hi
    rw [e1, e2]
    refine (at_in (Lt, st, total Lt) n W g 0 ok (by show Lt.length ≤ _; omega) h.t.m (by show n < (wholeL Lt).length; omega)).mono ?_
    rintro e W' ⟨rfl, hb⟩
    exact ⟨rfl, h0.below hb⟩
  · have e1 : atV (wholeL Lt) i = z54 := if_neg hi
    have e2 : atB (wholeL Lt) i = false := decide_eq_false hi
    rw [e1, e2]
    refine (at_out (Lt, st, total Lt) i W g 0 ok (by show Lt.length ≤ _; omega) h.t.m hi).mono ?_
    rintro e W' ⟨rfl, hb⟩
    exact ⟨rfl, h0.below hb⟩
theorem atR_tl (h : TL w0 W b g gr Lt st Lr sr vs) (i : Int) (hl : Lr.length ≤ 1000000) :
    Calls Try.prog 37 #[.pointer (some ⟨gr, 0, none⟩), .int .i64 i] W fun e W' => e = .returned (.tuple #[.agg #[.string (atV (wholeL Lr) i).f0, .string (atV (wholeL Lr) i).f1], .bool (atB (wholeL Lr) i)]) ∧ TL w0 W' b g gr Lt st Lr sr vs := by
  have h0 := h
  obtain ⟨ok, okr, z, y, A, c, h⟩ := h
  by_cases hi : 1 ≤ i ∧ i ≤ ((wholeL Lr).length : Int)
  · obtain ⟨n, rfl⟩ : ∃ n : Nat, i = (n : Int) + 1 := ⟨(i - 1).toNat, by omega⟩
    have e1 : atV (wholeL Lr) ((n : Int) + 1) = rd_T54 (wholeL Lr) (n : Int) := by unfold atV; rw [if_pos hi, Int.add_sub_cancel]
    have e2 : atB (wholeL Lr) ((n : Int) + 1) = true := decide_eq_true hi
    rw [e1, e2]
    refine (atR_in h.r n hl (by omega)).mono ?_
    rintro e W' ⟨rfl, hb⟩
    exact ⟨rfl, h0.below hb⟩
  · have e1 : atV (wholeL Lr) i = z54 := if_neg hi
    have e2 : atB (wholeL Lr) i = false := decide_eq_false hi
    rw [e1, e2]
    refine (atR_out h.r i hl hi).mono ?_
    rintro e W' ⟨rfl, hb⟩
    exact ⟨rfl, h0.below hb⟩
theorem find_tl (h : TL w0 W b g gr Lt st Lr sr vs) (f : S54) :
    Calls Try.prog 32 #[.pointer (some ⟨g, 0, none⟩), .agg #[.string f.f0, .string f.f1]] W fun e W' => e = .returned (.tuple #[.int .i64 (findN (wholeL Lt) f), .bool (findB (wholeL Lt) f)]) ∧ TL w0 W' b g gr Lt st Lr sr vs := by
  have h0 := h
  obtain ⟨ok, okr, z, y, A, c, h⟩ := h
  refine (find_calls (Lt, st, total Lt) f W g 0 ok (by have := h.t.len; show Lt.length ≤ _; omega) h.t.m).mono ?_
  rintro e W' ⟨rfl, hb⟩
  exact ⟨rfl, h0.below hb⟩
theorem findR_tl (h : TL w0 W b g gr Lt st Lr sr vs) (f : S54) (hl : Lr.length ≤ 1000000) :
    Calls Try.prog 38 #[.pointer (some ⟨gr, 0, none⟩), .agg #[.string f.f0, .string f.f1]] W fun e W' => e = .returned (.tuple #[.int .i64 (findN (wholeL Lr) f), .bool (findB (wholeL Lr) f)]) ∧ TL w0 W' b g gr Lt st Lr sr vs := by
  have h0 := h
  obtain ⟨ok, okr, z, y, A, c, h⟩ := h
  refine (findR_c h.r f hl).mono ?_
  rintro e W' ⟨rfl, hb⟩
  exact ⟨rfl, h0.below hb⟩
theorem size_tl (h : TL w0 W b g gr Lt st Lr sr vs) : Calls Try.prog 34 #[.pointer (some ⟨g, 0, none⟩)] W fun e W' => e = .returned (.int .i64 st) ∧ Below W.heap.size W W' := by
  obtain ⟨ok, okr, z, y, A, c, h⟩ := h
  exact size_calls (Lt, st, total Lt) W g _ _ h.t.m
theorem used_tl (h : TL w0 W b g gr Lt st Lr sr vs) : Calls Try.prog 29 #[.pointer (some ⟨g, 0, none⟩)] W fun e W' => e = .returned (.int .i64 (total Lt)) ∧ Below W.heap.size W W' := by
  obtain ⟨ok, okr, z, y, A, c, h⟩ := h
  exact used_on h.t
/-- A copy of the table's fields: a row that is nobody's yet. -/
theorem all_tl (h : TL w0 W b g gr Lt st Lr sr vs) : Calls Try.prog 28 #[.pointer (some ⟨g, 0, none⟩)] W fun e W' => ∃ B m, e = .returned (.slice B Lt.length m) ∧ TLr w0 W' b g gr Lt st Lr sr vs B m Lt := by
  obtain ⟨ok, okr, z, y, A, c, h⟩ := h
  refine (all_calls (Lt, st, total Lt) W g 0 ok (by have := h.t.len; show Lt.length ≤ _; omega) h.t.m).mono ?_
  rintro e W' ⟨B, m, rfl, hR, hb⟩
  obtain ⟨B', m', e2, hF, hg⟩ := Bk.fr_of_R hR
  injection e2 with e3 e4 e5
  subst e3; subst e5
  have h2 := h.below hb
  have hb0 := h.bel.size
  refine ⟨B, m, rfl, hF, _, _, _, _, _, _, h2, fun k e => ?_⟩
  have hk := hg k e
  have hk2 := hF.lt k e
  have hz : ∀ k, z k → k < W.heap.size := fun k hk => by
    obtain ⟨ρ, _, _, h3, _⟩ := h.kp
    exact (h3 k hk).1
  refine ⟨by omega, .inr ⟨hk, hk2⟩, fun e2 => by have := h.t.old k e2; omega, fun e2 => ?_, fun p hp e2 => ?_⟩
  · rcases e2 with e2 | e2
    · have := hz k (h.r0 k e2).2; omega
    · have := hz k (h.r0 k (h.r2 k e2)).2; omega
  · have := heap_lt (h.v p hp).1; omega
/-- The Book takes it. -/
theorem book_tl {B : Option Addr} {m : Nat} (h : TLr w0 W b g gr Lt st Lr sr vs B m Lt) (hl : Lt.length ≤ 1000000) : Calls Try.prog 39 #[.pointer (some ⟨b, 0, none⟩), .slice B Lt.length m] W fun e W' => e = .returned (.tuple #[]) ∧ TL w0 W' b g gr Lt st Lr sr vs ∧ Bk.FR W' B Lt.length m Lt := by
  obtain ⟨hF, ok, okr, z, y, A, c, h, hB⟩ := h
  refine (h.kp.fields hF hl fun k e => ⟨(hB k e).1, (hB k e).2.1⟩).mono ?_
  rintro e W' ⟨rfl, hs, hk⟩
  refine ⟨rfl, ⟨ok, okr, _, _, A, c, hs.below h.bel (fun k hk => hk.1), h.t.stay hs fun k h1 h2 => h2.2.1 (h.t0 k h1).2, h.r.keep fun k h1 hl => hs.block k hl fun e => e.2.1 ?_, h.r1, h.r2, h.d, fun k h1 => ⟨(h.t0 k h1).1, (h.t0 k h1).2, fun e => (hB k e).2.2.1 h1⟩, fun k h1 => ⟨(h.r0 k h1).1, (h.r0 k h1).2, fun e => (hB k e).2.2.2.1 h1⟩, fun p hp => ?_, hk⟩, hF.keep fun k e => hs.block k (hF.lt k e) fun h2 => h2.2.1 (hB k e).2.1⟩
  · rcases h1 with rfl | h1
    · exact (h.r0 _ h.r1).2
    · exact (h.r0 k (h.r2 k h1)).2
  · obtain ⟨h1, h2, h3, h4⟩ := h.v p hp
    exact ⟨(hs.block p.1 (heap_lt h1) fun e => e.2.1 h2).trans h1, ⟨h2, fun e => (hB p.1 e).2.2.2.2 p hp rfl⟩, h3, h4⟩
theorem apart_tl (h : TL w0 W b g gr Lt st Lr sr vs) : Calls Try.prog 24 #[.pointer (some ⟨b, 0, none⟩)] W fun e W' => e = .returned (.bool true) ∧ Below w0.heap.size w0 W' := by
  obtain ⟨ok, okr, z, y, A, c, h⟩ := h
  refine h.kp.apart.mono ?_
  rintro e W' ⟨rfl, hs⟩
  exact ⟨rfl, hs.below h.bel (fun _ h => h)⟩
/-- The document's table's cells. -/
theorem TL.doc (h : TL w0 W b g gr Lt st Lr sr vs) : ∃ A c, RTb W gr Lr sr A c := by
  obtain ⟨ok, okr, z, y, A, c, h⟩ := h
  exact ⟨A, c, h.r⟩
end
end Go.Proofs.Ytohphkdemonlkaa.Tp
/- TablePlays: the walk. -/
namespace Go.Proofs.Ytohphkdemonlkaa.Tp
open Go.RowKit Go.Lib Go.Proofs.Ytohphkdemonlkaa.XQt Go.Proofs.YtohphkdemonlkaaW.PrintWords Go.Proofs.YtohphkdemonlkaaW.PrintLast Go.Proofs.YtohphkdemonlkaaW.PrintMore Go.Proofs.Ytohphkdemonlkaa.Ob Go.Proofs.Ytohphkdemonlkaa.Tw
attribute [local go_sem high] eqA54
theorem tl_start {w0 w1 w2 : World} {g : Nat} {s : Int} (hb1 : Below w0.heap.size w0 w1) (ht : TOn w2 (fun k => w1.heap.size ≤ k ∧ k < w2.heap.size) [] s g) (hb2 : Below w1.heap.size w1 w2) :
    TL w0 ((w2.alloc (.cells #[.int .i64 s, .slice none 0 0] 71)).alloc (.cells #[.slice none 0 0, .slice none 0 0, .slice none 0 0, .slice none 0 0, .slice none 0 0, .slice none 0 0, .slice none 0 0, .slice none 0 0, .slice none 0 0, .slice none 0 0] 42)) (w2.heap.size + 1) g w2.heap.size [] s [] s [] := by
  have hb : Below w0.heap.size w0 w2 := below_step hb1 hb2
  have hb3 : Below w2.heap.size w2 (w2.alloc (.cells #[.int .i64 s, .slice none 0 0] 71)) := below_alloc (Below.refl _ _) _
  have hsz : (w2.alloc (.cells #[.int .i64 s, .slice none 0 0] 71)).heap.size = w2.heap.size + 1 := by simp
  have hr : RTb (w2.alloc (.cells #[.int .i64 s, .slice none 0 0] 71)) w2.heap.size [] s none 0 := ⟨heap_alloc_new w2 _, ⟨rfl, .inl rfl⟩, Nat.le_refl _⟩
  have hk := Bk.Kp.new (w2.alloc (.cells #[.int .i64 s, .slice none 0 0] 71)) w0.heap.size (by have := hb.size; omega)
  have hb4 : Below (w2.alloc (.cells #[.int .i64 s, .slice none 0 0] 71)).heap.size (w2.alloc (.cells #[.int .i64 s, .slice none 0 0] 71)) ((w2.alloc (.cells #[.int .i64 s, .slice none 0 0] 71)).alloc (.cells #[.slice none 0 0, .slice none 0 0, .slice none 0 0, .slice none 0 0, .slice none 0 0, .slice none 0 0, .slice none 0 0, .slice none 0 0, .slice none 0 0, .slice none 0 0] 42)) := below_alloc (Below.refl _ _) _
  rw [hsz] at hk
  have h1 := hb1.size
  have h2 := hb2.size
  exact ⟨fun k => w1.heap.size ≤ k ∧ k < w2.heap.size, fun k => k = w2.heap.size, _, _, none, 0, below_step (below_step hb hb3) hb4, (ht.below_ hb3).below_ hb4, hr.below hb4, rfl, (fun k e => by cases e), (fun k h3 h4 => by omega), (fun k h3 => ⟨by omega, by omega⟩), (fun k h3 => ⟨by omega, by omega⟩), (fun p hp => by cases hp), hk⟩
set_option maxHeartbeats 6400000 in
set_option maxRecDepth 20000 in
theorem plays_off (s : Int) (A : Option Addr) (n c : Nat) (w : World) (hn : 80 < n) :
    Calls Try.prog 12 #[.int .i64 s, .slice A n c] w fun e w' => e = .returned (.bool true) ∧ Below w.heap.size w w' := by
  have e1 : decide ((n : Int) > 80) = true := decide_eq_true (by omega)
  have e2 : decide (80 < n) = true := decide_eq_true hn
  clear hn
  go_enter Try.func12, Try.ntmps12
  go_wp2_with (first
    | (go_at_call 25; refine (alive_calls _).mono ?_; rintro e w1 ⟨rfl, hb⟩; have HB1 := Aside0.mk hb; clear hb))
  go_ret
  exact ⟨rfl, HB1.out⟩
set_option maxHeartbeats 6400000 in
set_option maxRecDepth 20000 in
theorem plays_no (s : Int) (A : Option Addr) (n c : Nat) (w : World) (hn : n ≤ 80) (hs : ¬ (0 ≤ s ∧ s ≤ 512)) :
    Calls Try.prog 12 #[.int .i64 s, .slice A n c] w fun e w' => e = .returned (.bool true) ∧ Below w.heap.size w w' := by
  have e1 : decide ((n : Int) > 80) = false := decide_eq_false (by omega)
  have e2 : decide (80 < n) = false := decide_eq_false (by omega)
  have HN := Aside0.mk (fun W => new_none s hs W)
  have hcase : (decide (s < 0) = true) ∨ (decide (s < 0) = false ∧ decide (s > 512) = true) := by simp only [decide_eq_true_eq, decide_eq_false_iff_not]; omega
  clear hn hs
  rcases hcase with q1 | ⟨q1, q2⟩
  all_goals
    go_enter Try.func12, Try.ntmps12
    go_wp2_with (first
      | (go_at_call 25; refine (alive_calls _).mono ?_; rintro e w1 ⟨rfl, hb⟩; have HB1 := Aside0.mk hb; clear hb)
      | (go_at_call 26; refine (HN.out _).mono ?_; rintro e w2 ⟨rfl, hb⟩; have HB2 := Aside0.mk (below_step HB1.out hb); clear hb HN)
      | (go_at_call 27; refine (add_no z54 _).mono ?_; rintro e w3 ⟨rfl, hb⟩; have HB3 := Aside0.mk (below_step HB2.out hb); clear hb HB2)
      | (go_at_call 31; (with_reducible refine (at_no_17 _).mono ?_); rintro e w4 ⟨rfl, hb⟩; have HB4 := Aside0.mk (below_step HB3.out hb); clear hb HB3)
      | (go_at_call 31; (with_reducible refine (at_no_2 _).mono ?_); rintro e w5 ⟨rfl, hb⟩; have HB5 := Aside0.mk (below_step (below_alloc HB4.out _) hb); clear hb HB4)
      | (go_at_call 33; refine (resize_no 5 _).mono ?_; rintro e w6 ⟨rfl, rfl⟩)
      | (go_at_call 34; refine (size_no _).mono ?_; rintro e w7 ⟨rfl, rfl⟩)
      | (go_at_call 29; refine (used_no _).mono ?_; rintro e w8 ⟨rfl, rfl⟩)
      | (go_at_call 28; refine (all_no _).mono ?_; rintro e w9 ⟨rfl, rfl⟩))
    go_ret
    exact ⟨rfl, below_alloc HB5.out _⟩
end Go.Proofs.Ytohphkdemonlkaa.Tp
