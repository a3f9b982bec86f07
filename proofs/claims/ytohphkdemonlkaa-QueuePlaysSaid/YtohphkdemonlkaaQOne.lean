/- Merged: QWalk1 QWalk2 Shelf QWalk3 ShelfIns QWalk4 QWalk5 QWalk6 QAlive QWalk7. -/
import Derived.Test.YtohphkdemonlkaaXQtx4
import Derived.Test.YtohphkdemonlkaaObj
import Derived.Shelf.Slices.Reverse
import Derived.Ground.Names2Prog
import Derived.Shelf.Slices.Clone
import Derived.Shelf.Slices.Delete
import Derived.Shelf.Slices.Cells
import Derived.Shelf.Slices.Empties
import Derived.Ground.SlgnProg
import Derived.Shelf.SlicesE.Clone
import Derived.Test.YtohphkdemonlkaaProg
import Derived.Shelf.Spec.SlicesInsert
import Derived.Shelf.Spec.SlicesInsertGrow
/- Contracts of the queue's methods that read alone. -/
namespace Go.Proofs.Ytohphkdemonlkaa.Qw
open Go.RowKit Go.Proofs.Ytohphkdemonlkaa.XQt Go.Proofs.YtohphkdemonlkaaW.PrintWords Go.Proofs.YtohphkdemonlkaaW.PrintLast Go.Proofs.YtohphkdemonlkaaW.PrintMore Go.Proofs.Ytohphkdemonlkaa.Ob

/-! ### plain -/
def ix (l : List Int) (a : Int) : Int := if a ∈ l then (l.idxOf a : Int) else -1
theorem index_l0 (l : List Int) (a : Int) (hl : l.length ≤ 4611686018427387904) : ∀ (rest pre : List Int) (k : Nat), l = pre ++ rest → a ∉ pre → rest.length < k →
    slices_Index_int_int.l0 k l a (l.length : Int) (pre.length : Int) = some (if a ∈ rest then ((pre.length + rest.idxOf a : Nat) : Int) else -1) := by
  intro rest
  induction rest with
  | nil =>
    intro pre k e hp hk
    obtain ⟨k, rfl⟩ : ∃ m, k = m + 1 := ⟨k - 1, by omega⟩
    rw [List.append_nil] at e
    simp only [slices_Index_int_int.l0]
    rw [if_neg (by rw [e]; omega)]
    simp
  | cons c rest ih =>
    intro pre k e hp hk
    obtain ⟨k, rfl⟩ : ∃ m, k = m + 1 := ⟨k - 1, by omega⟩
    have hpl : pre.length < l.length := by rw [e]; simp
    have hrd : rd l (pre.length : Int) = c := by
      unfold rd
      rw [e]
      simp [List.getD]
    simp only [slices_Index_int_int.l0]
    rw [if_pos (by omega), if_pos (by omega), if_pos (by omega), hrd]
    by_cases h : a = c
    · subst h
      rw [if_pos rfl, if_pos List.mem_cons_self, List.idxOf_cons_self]
      rfl
    · have e1 : wrap64 ((pre.length : Int) + 1) = (((pre ++ [c]).length : Nat) : Int) := by simp only [List.length_append, List.length_singleton]; unfold wrap64; omega
      rw [if_neg h, e1]
      clear e1
      rw [ih (pre ++ [c]) k (by rw [e]; simp) (by simp [hp, h]) (by simp at hk; omega)]
      have hm : (a ∈ c :: rest) = (a ∈ rest) := by simp [h]
      have hix : List.idxOf a (c :: rest) = List.idxOf a rest + 1 := by rw [List.idxOf_cons, show (c == a) = false from by rw [beq_eq_false_iff_ne]; exact fun e => h e.symm]; rfl
      rw [hix]
      simp only [hm, List.length_append, List.length_singleton]
      congr 1
      by_cases g : a ∈ rest
      · rw [if_pos g, if_pos g]; congr 1; omega
      · rw [if_neg g, if_neg g]
theorem index_f (l : List Int) (a : Int) (hl : l.length ≤ 4611686018427387904) : slices_Index_int_int.f (l.length + 1) l a = some (ix l a) := by
  have := index_l0 l a hl l [] (l.length + 1) rfl (by simp) (by omega)
  unfold slices_Index_int_int.f ix
  simpa using this
theorem ix_ge (l : List Int) (a : Int) : decide (ix l a ≥ 0) = decide (a ∈ l) := by
  unfold ix
  by_cases h : a ∈ l
  · rw [if_pos h]; simp [h]
  · rw [if_neg h]; simp [h]
theorem contains_f (l : List Int) (a : Int) (hl : l.length ≤ 4611686018427387904) : slices_Contains_int_int.f (l.length + 1) l a = some (decide (a ∈ l)) := by
  unfold slices_Contains_int_int.f
  rw [index_f l a hl, Option.bind_some, ix_ge]

/-! ### the queue in memory -/
/-- A queue: the calls that wait, and how many may. -/
abbrev QK : Kd (List Int × Int) := ptr 80 (Kd.pair (qslice 3 (Kd.int .i64)) (Kd.int .i64))
theorem qk_open {w : World} {base : Nat} {ok : Nat → Prop} {q : List Int × Int} {cs : List Value} (h : QK.M w base ok q cs) :
    ∃ g A c, cs = [.pointer (some ⟨g, 0, none⟩)] ∧ base ≤ g ∧ ok g ∧ w.heap[g]? = some (.cells #[.slice A q.1.length c, .int .i64 q.2] 80 (0, 0)) ∧ q.1.length ≤ c ∧
      (Kd.int .i64).Q 3 w base (fun k => ok k ∧ k ≠ g) (.slice A q.1.length c) q.1 := by
  obtain ⟨g, cells, rfl, hb, ho, hg, c0, c1, hc, ⟨v, rfl, hq⟩, h1⟩ := h
  have h1' : c1 = [Value.int .i64 q.2] := h1
  subst h1'
  obtain ⟨A, c, rfl, hl, _⟩ := Kd.Q_reads hq
  have hcells : cells = #[.slice A q.1.length c, .int .i64 q.2] := by
    cases cells
    simpa using hc
  subst hcells
  exact ⟨g, A, c, rfl, hb, ho, hg, hl, hq⟩

/-- May a call come? -/
def mayC (q : List Int × Int) (id : Int) : Int := if id ∈ q.1 then 1 else if (q.1.length : Int) ≥ q.2 then 13 else 0

set_option maxHeartbeats 400000 in
theorem may_calls (q : List Int × Int) (id : Int) (w : World) (g : Nat) (A : Option Addr) (c : Nat) (base : Nat) (ok : Nat → Prop)
    (hg : w.heap[g]? = some (.cells #[.slice A q.1.length c, .int .i64 q.2] 80 (0, 0))) (hc : q.1.length ≤ c) (hl : q.1.length ≤ 4611686018427387904)
    (hq : (Kd.int .i64).Q 3 w base ok (.slice A q.1.length c) q.1) :
    Calls Try.prog 43 #[.pointer (some ⟨g, 0, none⟩), .int .i64 id] w fun e w' => e = .returned (.int .i64 (mayC q id)) ∧ Drawn0 w w' := by
  have HC := Aside0.mk (Kd.Q_reads' hq).2.2
  have HF := Aside0.mk (contains_f q.1 id hl)
  have HL := Aside0.mk hc
  clear hq hc
  have h0 : w.cell? ⟨g, 0, none⟩ = some (.slice A q.1.length c) := by simp [World.cell?, hg]
  have h1 : w.cell? ⟨g, 1, none⟩ = some (.int .i64 q.2) := by simp [World.cell?, hg]
  clear hg
  by_cases hm : id ∈ q.1
  · have HD : Aside0 (decide (id ∈ q.1) = true) := ⟨decide_eq_true hm⟩
    have HV : Aside0 (mayC q id = 1) := ⟨by unfold mayC; rw [if_pos hm]⟩
    clear hm
    go_enter Try.func43, Try.ntmps43
    go_wp2_with (go_at_call 80; refine (slices_Contains_int_int.calls _ A c q.1 id _ _ HC.out HL.out HF.out).mono ?_; rintro e w' ⟨rfl, ⟨nd, rfl⟩⟩; rw [HD.out])
    go_ret
    exact ⟨by rw [HV.out]; rfl, by repeat (first | exact Drawn0.refl _ | apply Drawn0.step)⟩
  · have HD : Aside0 (decide (id ∈ q.1) = false) := ⟨decide_eq_false hm⟩
    by_cases hf : (q.1.length : Int) ≥ q.2
    · have HV : Aside0 (mayC q id = 13) := ⟨by unfold mayC; rw [if_neg hm, if_pos hf]⟩
      have hf' : decide ((q.1.length : Int) ≥ q.2) = true := decide_eq_true hf
      clear hm hf
      go_enter Try.func43, Try.ntmps43
      go_wp2_with (go_at_call 80; refine (slices_Contains_int_int.calls _ A c q.1 id _ _ HC.out HL.out HF.out).mono ?_; rintro e w' ⟨rfl, ⟨nd, rfl⟩⟩; rw [HD.out])
      go_quiet (fail)
      go_wp2
      go_ret
      exact ⟨by rw [HV.out]; rfl, by repeat (first | exact Drawn0.refl _ | apply Drawn0.step)⟩
    · have HV : Aside0 (mayC q id = 0) := ⟨by unfold mayC; rw [if_neg hm, if_neg hf]⟩
      have hf' : decide ((q.1.length : Int) ≥ q.2) = false := decide_eq_false hf
      clear hm hf
      go_enter Try.func43, Try.ntmps43
      go_wp2_with (go_at_call 80; refine (slices_Contains_int_int.calls _ A c q.1 id _ _ HC.out HL.out HF.out).mono ?_; rintro e w' ⟨rfl, ⟨nd, rfl⟩⟩; rw [HD.out])
      go_quiet (fail)
      go_wp2
      go_ret
      exact ⟨by rw [HV.out]; rfl, by repeat (first | exact Drawn0.refl _ | apply Drawn0.step)⟩
end Go.Proofs.Ytohphkdemonlkaa.Qw
/- Contracts of the queue's methods: Put, First, Place, New. -/
namespace Go.Proofs.Ytohphkdemonlkaa.Qw
open Go.RowKit Go.Proofs.Ytohphkdemonlkaa.XQt Go.Proofs.YtohphkdemonlkaaW.PrintWords Go.Proofs.YtohphkdemonlkaaW.PrintLast Go.Proofs.YtohphkdemonlkaaW.PrintMore Go.Proofs.Ytohphkdemonlkaa.Ob

theorem qk_mk {w : World} {base : Nat} {ok : Nat → Prop} {l : List Int} {m : Int} {g : Nat} {v : Value} (hb : base ≤ g) (ho : ok g) (hg : w.heap[g]? = some (.cells #[v, .int .i64 m] 80 (0, 0)))
    (hq : (Kd.int .i64).Q 3 w base (fun k => ok k ∧ k ≠ g) v l) : QK.M w base ok (l, m) [.pointer (some ⟨g, 0, none⟩)] :=
  ⟨g, _, rfl, hb, ho, hg, [v], [.int .i64 m], rfl, ⟨v, rfl, hq⟩, rfl⟩
theorem info3 : (Try.prog.info? 3).map (fun i => (i.zero, i.size, i.bytes)) = some (some (.int .i64 0), 1, 8) := by kernel_rfl

/-- A call waits behind all others. -/
def putQ (q : List Int × Int) (id : Int) : List Int × Int := if mayC q id = 0 then (q.1 ++ [id], q.2) else q

set_option maxHeartbeats 800000 in
theorem put_calls (q : List Int × Int) (id : Int) (w : World) (g : Nat) (base : Nat) (ok : Nat → Prop) (hb : base ≤ w.heap.size) (hl : q.1.length ≤ 1000000000)
    (hq : QK.M w base ok q [.pointer (some ⟨g, 0, none⟩)]) :
    Calls Try.prog 16 #[.pointer (some ⟨g, 0, none⟩), .int .i64 id] w fun e w' => e = .returned (.int .i64 (mayC q id)) ∧
      QK.M w' base (fun k => ok k ∨ w.heap.size ≤ k) (putQ q id) [.pointer (some ⟨g, 0, none⟩)] ∧ Stay ok w w' := by
  obtain ⟨g', A, c, he, hbg, hok, hg, hc, hQ⟩ := qk_open hq
  obtain rfl : g = g' := by simpa using he
  have HM := Aside0.mk (may_calls q id w g A c base _ hg hc (by omega) hQ)
  by_cases hz : mayC q id = 0
  · have HZ := Aside0.mk hz
    have HP : Aside0 (putQ q id = (q.1 ++ [id], q.2)) := ⟨by unfold putQ; rw [if_pos hz]⟩
    have HQ := Aside0.mk hQ
    have HG := Aside0.mk hg
    have HO := Aside0.mk hok
    have HBG := Aside0.mk hbg
    have h0 : w.cell? ⟨g, 0, none⟩ = some (.slice A q.1.length c) := by simp [World.cell?, hg]
    clear hz hQ hg hc he hq hok hbg
    have hgl := blk_lt HG.out
    go_enter Try.func16, Try.ntmps16
    have HQ' : Aside0 ((Kd.int .i64).Q 3 w base (fun k => (ok k ∨ w.heap.size ≤ k) ∧ k ≠ g) (.slice A q.1.length c) q.1) := ⟨Kd.Q_mono HQ.out (fun k hk => ⟨.inl hk.1, hk.2⟩)⟩
    go_wp2_with (first
      | (go_at_call 43; refine HM.out.mono ?_; rintro e w' ⟨rfl, ⟨nd, rfl⟩⟩; rw [HZ.out])
      | ((with_reducible refine gate_builtin (b := .append) (xs := #[.tmp 15, .tmp 17]) rfl ?_); at_builtin; refine Kd.Q_append (Kd.int .i64) (w0 := w.drewN nd) base rfl (.tmp 15) (.tmp 17) 33 3 (.int .i64 0) 8 rfl Try.underlying33 info3 rfl (by decide) (by omega) (.slice A q.1.length c) q.1 id [.int .i64 id] (fun k => (ok k ∨ w.heap.size ≤ k) ∧ k ≠ g) (fun _ => False) rfl rfl ?aP (fun _ hk => hk.elim) ?aF ?aO ?aB ?aS ?aL ?_; (case aP => exact rfl); (case aF => exact (fun k hk => ⟨.inr hk, by have hk' : w.heap.size ≤ k := hk; omega⟩)); (case aO => exact Kd.Q_drewN HQ'.out nd); (case aB => exact Below.refl _ _); (case aS => exact hb); (case aL => omega); intro v1 w1 hQ1 hB1 hG1 _; have hbk := (hG1.block g hgl (Kd.Q_away HQ'.out (fun k hk => hk.2))).trans HG.out; obtain ⟨A1, c1, rfl, _⟩ := Kd.Q_slice hQ1; have k0 : w1.cell? ⟨g, 0, none⟩ = some (.slice A q.1.length c) := (by simp [World.cell?, hbk]); have f0 : w1.frozen? ⟨g, 0, none⟩ = false := (by simp [World.frozen?, hbk]); have HQ1 := Aside0.mk hQ1; have HG1 := Aside0.mk hG1; have HBK := Aside0.mk hbk; clear hQ1 hB1 hG1 hbk))
    go_ret
    have hbk2 : (w1.setCell ⟨g, 0, none⟩ (.slice A1 (q.1 ++ [id]).length c1)).heap[g]? = some (.cells #[.slice A1 (q.1 ++ [id]).length c1, .int .i64 q.2] 80 (0, 0)) := blk_put HBK.out 0 _ rfl
    have hq1 := HQ1.out
    rw [List.length_append, List.length_singleton] at hbk2 hq1
    refine ⟨by rw [HZ.out]; rfl, ?_, ?_⟩
    · rw [HP.out]
      exact qk_mk HBG.out (.inl HO.out) hbk2 (Kd.Q_far (p := ⟨g, 0, none⟩) hq1 (fun k hk => hk.2) _)
    · exact ((Stay.refl ok w).drewN nd |>.grown HG1.out (fun k hk => .inl (HQ.out.1 k hk).1)).setCell (.inl HO.out) _
  · have HZ : Aside0 ((mayC q id == 0) = false) := ⟨beq_eq_false_iff_ne.2 hz⟩
    have HP : Aside0 (putQ q id = q) := ⟨by unfold putQ; rw [if_neg hz]⟩
    have HQ := Aside0.mk hq
    generalize mayC q id = m at HM HZ ⊢
    clear hz hQ hg hc he hq hok hbg
    have hz := HZ.out
    go_enter Try.func16, Try.ntmps16
    go_wp2_with (go_at_call 43; refine HM.out.mono ?_; rintro e w' ⟨rfl, ⟨nd, rfl⟩⟩)
    go_ret
    exact ⟨rfl, by rw [HP.out]; exact Kd.M_drewN (QK.M_mono (fun k hk => .inl hk) HQ.out) nd, (Stay.refl ok w).drewN nd⟩

/-- A new queue. -/
theorem new_calls (most : Int) (hm : 1 ≤ most) (w : World) (base : Nat) (hb : base ≤ w.heap.size) :
    Calls Try.prog 15 #[.int .i64 most] w fun e w' => ∃ g, e = .returned (.pointer (some ⟨g, 0, none⟩)) ∧ w.heap.size ≤ g ∧
      QK.M w' base (fun k => w.heap.size ≤ k) ([], most) [.pointer (some ⟨g, 0, none⟩)] ∧ Stay (fun _ => False) w w' := by
  have h1 : decide (most < 1) = false := decide_eq_false (by omega)
  clear hm
  go_enter Try.func15, Try.ntmps15
  go_wp2
  go_ret
  refine ⟨w.heap.size, rfl, Nat.le_refl _, ?_, (Stay.refl _ w).alloc _⟩
  exact qk_mk hb (Nat.le_refl _) (heap_alloc_new w _) (Kd.Q_nil _ _ _ _ _)
theorem new_none (most : Int) (hm : most < 1) (w : World) :
    Calls Try.prog 15 #[.int .i64 most] w fun e w' => e = .returned (.pointer none) ∧ w' = w := by
  have h1 : decide (most < 1) = true := decide_eq_true hm
  clear hm
  go_enter Try.func15, Try.ntmps15
  go_wp2
  go_ret
  exact ⟨rfl, rfl⟩

/-- How many are ahead of one. -/
theorem place_calls (q : List Int × Int) (id : Int) (w : World) (g : Nat) (base : Nat) (ok : Nat → Prop) (hl : q.1.length ≤ 1000000000)
    (hq : QK.M w base ok q [.pointer (some ⟨g, 0, none⟩)]) :
    Calls Try.prog 18 #[.pointer (some ⟨g, 0, none⟩), .int .i64 id] w fun e w' => e = .returned (.int .i64 (ix q.1 id)) ∧ Drawn0 w w' := by
  obtain ⟨g', A, c, he, hbg, hok, hg, hc, hQ⟩ := qk_open hq
  obtain rfl : g = g' := by simpa using he
  have HC := Aside0.mk (Kd.Q_reads' hQ).2.2
  have HF := Aside0.mk (index_f q.1 id (by omega))
  have HL := Aside0.mk hc
  have h0 : w.cell? ⟨g, 0, none⟩ = some (.slice A q.1.length c) := by simp [World.cell?, hg]
  clear hQ hg hc he hq hok hbg
  go_enter Try.func18, Try.ntmps18
  go_wp2_with (go_at_call 45; refine (slices_Index_int_int.calls _ A c q.1 id _ _ HC.out HL.out HF.out).mono ?_; rintro e w' ⟨rfl, ⟨nd, rfl⟩⟩)
  go_ret
  exact ⟨rfl, by repeat (first | exact Drawn0.refl _ | apply Drawn0.step)⟩

theorem q_addr {w : World} {base : Nat} {ok : Nat → Prop} {A : Option Addr} {n c : Nat} {l : List Int} (h : (Kd.int .i64).Q 3 w base ok (.slice A n c) l) (hn : 0 < n) : ∃ b o, A = some ⟨b, o, none⟩ := by
  have hl : n = l.length := (Kd.Q_reads' h).1
  obtain ⟨_, inner, ⟨_, hr⟩, _⟩ := h
  rcases hr with ⟨h0, _⟩ | ⟨b, o, cap, cur, hv, _⟩
  · omega
  · injection hv with hv _ _
    exact ⟨b, _, hv⟩
/-- The first call is taken. -/
theorem first_none (m : Int) (w : World) (g : Nat) (base : Nat) (ok : Nat → Prop)
    (hq : QK.M w base ok ([], m) [.pointer (some ⟨g, 0, none⟩)]) :
    Calls Try.prog 19 #[.pointer (some ⟨g, 0, none⟩)] w fun e w' => e = .returned (.tuple #[.int .i64 0, .bool false]) ∧ Drawn0 w w' := by
  obtain ⟨g', A, c, he, hbg, hok, hg, hc, hQ⟩ := qk_open hq
  obtain rfl : g = g' := by simpa using he
  have h0 : w.cell? ⟨g, 0, none⟩ = some (.slice A 0 c) := by simp [World.cell?, hg]
  clear hQ hg hc he hq hok hbg
  go_enter Try.func19, Try.ntmps19
  go_wp2
  go_ret2
  exact ⟨rfl, by repeat (first | exact Drawn0.refl _ | apply Drawn0.step)⟩
theorem first_calls (x : Int) (l : List Int) (m : Int) (w : World) (g : Nat) (base : Nat) (ok : Nat → Prop) (hl : l.length ≤ 1000000000)
    (hq : QK.M w base ok (x :: l, m) [.pointer (some ⟨g, 0, none⟩)]) :
    Calls Try.prog 19 #[.pointer (some ⟨g, 0, none⟩)] w fun e w' => e = .returned (.tuple #[.int .i64 x, .bool true]) ∧
      QK.M w' base ok (l, m) [.pointer (some ⟨g, 0, none⟩)] ∧ Stay ok w w' := by
  obtain ⟨g', A, c, he, hbg, hok, hg, hc, hQ⟩ := qk_open hq
  obtain rfl : g = g' := by simpa using he
  obtain ⟨b, o, rfl⟩ := q_addr hQ (by simp)
  obtain ⟨ad, had, hx⟩ := Kd.at_int (Kd.Q_reads' hQ).2.2 0 (by omega) (by simp)
  obtain rfl := Option.some.inj had
  have hQd := Kd.Q_drop (k := 1) hQ (by simp)
  simp only [List.length_cons] at hg hc hQ hQd
  have hx0 : w.cell? ⟨b, o, none⟩ = some (.int .i64 x) := hx
  have h0 : w.cell? ⟨g, 0, none⟩ = some (.slice (some ⟨b, o, none⟩) (l.length + 1) c) := by simp [World.cell?, hg]
  have f0 : w.frozen? ⟨g, 0, none⟩ = false := by simp [World.frozen?, hg]
  obtain ⟨i0, hi, hz0, hz1, hz2⟩ := info_parts info3
  have HQd : Aside0 ((Kd.int .i64).Q 3 w base (fun k => ok k ∧ k ≠ g) (.slice (if c = 1 then some ⟨b, o, none⟩ else some ⟨b, o + 1, none⟩) l.length (c - 1)) l) := ⟨hQd⟩
  have HG := Aside0.mk hg
  have HO := Aside0.mk hok
  have HBG := Aside0.mk hbg
  have hcut := cut_from (P := Try.prog) 33 3 .i64 Try.underlying33 hi 1 hz1 (some ⟨b, o, none⟩) (l.length + 1) c 1 (by omega) (by omega)
  clear hi hz0 hz1 hz2 hQ hQd hg hok hbg hx he hq had hc
  by_cases hc1 : c = 1
  · subst hc1
    go_enter Try.func19, Try.ntmps19
    go_wp2
    go_ret2
    exact ⟨rfl, qk_mk HBG.out HO.out (blk_put HG.out 0 _ rfl) (Kd.Q_far (p := ⟨g, 0, none⟩) (by have h := HQd.out; rw [if_pos trivial] at h; exact h) (fun k hk => hk.2) _), (Stay.refl ok w).setCell (.inl HO.out) _⟩
  · have H1 := Aside0.mk hc1
    go_enter Try.func19, Try.ntmps19
    go_wp2
    go_ret2
    exact ⟨rfl, qk_mk HBG.out HO.out (blk_put HG.out 0 _ rfl) (Kd.Q_far (p := ⟨g, 0, none⟩) (by have h := HQd.out; rw [if_neg H1.out] at h; exact h) (fun k hk => hk.2) _), (Stay.refl ok w).setCell (.inl HO.out) _⟩
end Go.Proofs.Ytohphkdemonlkaa.Qw
/- The shelf's contracts of slices.Clone and slices.Delete at this seat's numbers, as the shelf's own tool lays them in plain words. -/
namespace Go.Proofs
open Go.Shelf
def Try.lays112_ren : Go.Shelf.Ren := ⟨fun | 112 => 97 | n => n, fun | 28 => 33 | 3 => 3 | 4 => 4 | 0 => 0 | n => n, fun | n => n⟩
theorem Try.lays112 : Go.Proofs.Lays.n112 Try.prog Try.lays112_ren := {
  mixed := by kernel_rfl
  f112 := Try.func97.trans (congrArg some (by kernel_rfl))
  t0 := Try.underlying0
  a0 := Try.isAgg0
  z0 := Try.sizeOf0
  v0 := Try.zeroValue0
  t3 := Try.underlying3
  a3 := Try.isAgg3
  z3 := Try.sizeOf3
  v3 := Try.zeroValue3
  t4 := Try.underlying4
  a4 := Try.isAgg4
  z4 := Try.sizeOf4
  v4 := Try.zeroValue4
  t28 := Try.underlying33
  a28 := Try.isAgg33
  z28 := Try.sizeOf33
  v28 := Try.zeroValue33 }
open Go.RowKit Go.Lib Go.Sort in
/-- slices.Reverse at []int, over an array: Go's loop from the two ends inward is walked; it makes 'Sort.reverseLoop 0 (len - 1)', which is 'Array.reverse' (Derived/Lib/SlicesMore.lean). (LAID: no walk: one application.) -/
theorem Try.slices_Reverse_int_arr (blk off cap : Nat) (d : Array Int) (w : World) (hH : Holds encI w blk off d) (hsz : d.size ≤ 9223372036854775807) :
    Calls Try.prog 97 #[.slice (some ⟨blk, off, none⟩) d.size cap] w fun e w' => e = .returned (.tuple #[]) ∧ ∃ n, w' = putRow encI (Sort.ahead w n) blk off d.reverse := Any.slices_Reverse_int_arr Try.lays112 blk off cap d w hH hsz
open Go.RowKit Go.Lib Go.Sort in
/-- slices.Reverse at []int: "Reverse reverses the elements of the slice in place.": THE SLICE's CELLS HOLD 'zs.reverse' BEHIND THE CALL; all else is as it was, but for the count of draws (the exchange 's[i], s[j] = s[j], s[i]' draws its order, once a round). IN THE WORDS OF slices.Sort's CONTRACT: 'Holds': the cells hold zs and none is frozen; 'putRow': the world with those cells holding another array. A slice of length 0 that is not nil is among them ('zs = []'); nil: '.._nil'. (LAID: no walk: one application.) -/
theorem Try.slices_Reverse_int (blk off cap : Nat) (zs : List Int) (w : World) (hH : Holds (Value.int .i64) w blk off zs.toArray) (hsz : zs.length ≤ 9223372036854775807) :
    Calls Try.prog 97 #[.slice (some ⟨blk, off, none⟩) zs.length cap] w fun e w' => e = .returned (.tuple #[]) ∧ ∃ n, w' = putRow (Value.int .i64) (Sort.ahead w n) blk off zs.reverse.toArray := Any.slices_Reverse_int Try.lays112 blk off cap zs w hH hsz
open Go.RowKit Go.Lib Go.Sort in
/-- The same at a slice of length 0, a nil one too: nothing is read, nothing written, nothing drawn. (LAID: no walk: one application.) -/
theorem Try.slices_Reverse_int_empty (a : Option Addr) (cap : Nat) (w : World) :
    Calls Try.prog 97 #[.slice a 0 cap] w fun e w' => e = .returned (.tuple #[]) ∧ w' = w := Any.slices_Reverse_int_empty Try.lays112 a cap w
def Try.laysNm215_ren : Go.Shelf.Ren := ⟨fun | 15 => 47 | n => n, fun | 22 => 33 | 3 => 3 | 4 => 4 | n => n, fun | n => n⟩
theorem Try.laysNm215 : Go.Proofs.Lays2.n15 Try.prog Try.laysNm215_ren := {
  mixed := by kernel_rfl
  f15 := Try.func47.trans (congrArg some (by kernel_rfl))
  t3 := Try.underlying3
  a3 := Try.isAgg3
  z3 := Try.sizeOf3
  v3 := Try.zeroValue3
  t4 := Try.underlying4
  a4 := Try.isAgg4
  z4 := Try.sizeOf4
  v4 := Try.zeroValue4
  t22 := Try.underlying33
  a22 := Try.isAgg33
  z22 := Try.sizeOf33
  v22 := Try.zeroValue33
  i3 := by kernel_rfl }
open Go.RowKit Go.Lib in
/-- slices.Clone at []int: "Clone returns a copy of the slice. The elements are copied using assignment, so this is a shallow clone. The result may have additional unused capacity. The result preserves the nilness of s.": OF A SLICE THAT IS NOT nil IT RETURNS A SLICE THAT IS NOT nil, OF THE SAME ELEMENTS, IN MEMORY OF THE CALL's OWN: in the how-to's words (6f): 'w'.ownsRow B e 1 v' n cells': v' begins at the head of a row among the blocks from B on (B: the heap's size at the call), not frozen, whose first cells are the elements · 'Below B w w'': below B all is as it was. The capacity is whatever the run-time gives. 'zs': what the cells behind the slice's address hold; 'zs.take n': its elements. (LAID: no walk: one application.) -/
theorem Try.slices_Clone_int (b off n c : Nat) (zs : List Int) (w : World) (hz : n ≤ zs.length) (hbig : n * 8 ≤ 140737488355328) (hc : ∀ j, j < zs.length → w.cell? ⟨b, off + j, none⟩ = some (.int .i64 (zs.getD j 0))) :
    Calls Try.prog 47 #[.slice (some ⟨b, off, none⟩) n c] w fun e w' => ∃ v', e = .returned v' ∧ w'.ownsRow w.heap.size 3 1 v' n ((zs.take n).map (Value.int .i64)) ∧ v' ≠ .slice none 0 0 ∧ Below w.heap.size w w' := Any.slices_Clone_int Try.laysNm215 b off n c zs w hz hbig hc
open Go.RowKit Go.Lib in
/-- The same at nil: nil comes back; the world is as it was. (LAID: no walk: one application.) -/
theorem Try.slices_Clone_int_nil (n c : Nat) (w : World) :
    Calls Try.prog 47 #[.slice none n c] w fun e w' => e = .returned (.slice none 0 0) ∧ w' = w := Any.slices_Clone_int_nil Try.laysNm215 n c w
open Go.RowKit Go.Lib in
/-- The same at a slice of length 0 that is not nil, WHATEVER ITS ADDRESS (no cell is asked for): a slice that is not nil and owns nothing comes back. (LAID: no walk: one application.) -/
theorem Try.slices_Clone_int_zero (a : Addr) (c : Nat) (w : World) :
    Calls Try.prog 47 #[.slice (some a) 0 c] w fun e w' => ∃ v', e = .returned v' ∧ w'.ownsRow w.heap.size 3 1 v' 0 [] ∧ v' ≠ .slice none 0 0 ∧ Below w.heap.size w w' := Any.slices_Clone_int_zero Try.laysNm215 a c w
def Try.laysNm223_ren : Go.Shelf.Ren := ⟨fun | 23 => 44 | n => n, fun | 22 => 33 | 3 => 3 | 4 => 4 | 0 => 0 | n => n, fun | n => n⟩
theorem Try.laysNm223 : Go.Proofs.Lays2.n23 Try.prog Try.laysNm223_ren := {
  mixed := by kernel_rfl
  f23 := Try.func44.trans (congrArg some (by kernel_rfl))
  t0 := Try.underlying0
  a0 := Try.isAgg0
  z0 := Try.sizeOf0
  v0 := Try.zeroValue0
  t3 := Try.underlying3
  a3 := Try.isAgg3
  z3 := Try.sizeOf3
  v3 := Try.zeroValue3
  t4 := Try.underlying4
  a4 := Try.isAgg4
  z4 := Try.sizeOf4
  v4 := Try.zeroValue4
  t22 := Try.underlying33
  a22 := Try.isAgg33
  z22 := Try.sizeOf33
  v22 := Try.zeroValue33
  i3 := by kernel_rfl }
open Go.RowKit Go.Lib Go.Sort in
/-- slices.Delete at []int, over an array. (LAID: no walk: one application.) -/
theorem Try.slices_Delete_int_arr (blk off cap i j : Nat) (d : Array Int) (w : World) (hH : Holds encI w blk off d) (hcap : d.size ≤ cap) (hm : cap ≤ 9223372036854775807) (hij : i ≤ j) (hj : j ≤ d.size) :
    Calls Try.prog 44 #[.slice (some ⟨blk, off, none⟩) d.size cap, .int .i64 i, .int .i64 j] w fun e w' => e = .returned (.slice (some ⟨blk, off, none⟩) (d.size - (j - i)) cap) ∧ ∃ q, w' = putRow encI (Sort.ahead w q) blk off (d.toList.take i ++ d.toList.drop j ++ List.replicate (j - i) 0).toArray := Any.slices_Delete_int_arr Try.laysNm223 blk off cap i j d w hH hcap hm hij hj
open Go.RowKit Go.Lib Go.Sort in
/-- slices.Delete at []int: "Delete modifies s in place by removing the elements s[i:j], and returns the modified slice. Delete panics if j > len(s) or s[i:j] is not a valid slice of s. Delete is O(len(s)-i), so if many items must be deleted, it is better to make a single call deleting them all together than to delete one at a time. Delete zeroes the elements s[len(s)-(j-i):len(s)]. If the result is empty, it has the same nilness as s.": FOR i ≤ j ≤ len(s) IT RETURNS THE SLICE CUT TO len(s) - (j - i) ELEMENTS; ITS CELLS HOLD what stood ahead of i, what stood from j on, then j - i zero values; all else is as it was, but for the count of draws. IN THE WORDS OF slices.Sort's CONTRACT ('Holds', 'putRow'). It asks 'zs.length ≤ cap ≤ 2^63 - 1' (every slice's). (Outside i ≤ j ≤ len(s) it panics: no contract here.) (LAID: no walk: one application.) -/
theorem Try.slices_Delete_int (blk off cap i j : Nat) (zs : List Int) (w : World) (hH : Holds (Value.int .i64) w blk off zs.toArray) (hcap : zs.length ≤ cap) (hm : cap ≤ 9223372036854775807) (hij : i ≤ j) (hj : j ≤ zs.length) :
    Calls Try.prog 44 #[.slice (some ⟨blk, off, none⟩) zs.length cap, .int .i64 i, .int .i64 j] w fun e w' => e = .returned (.slice (some ⟨blk, off, none⟩) (zs.length - (j - i)) cap) ∧ ∃ q, w' = putRow (Value.int .i64) (Sort.ahead w q) blk off (zs.take i ++ zs.drop j ++ List.replicate (j - i) 0).toArray := Any.slices_Delete_int Try.laysNm223 blk off cap i j zs w hH hcap hm hij hj
open Go.RowKit Go.Lib Go.Sort in
/-- slices.Reverse at []int, of an argument: the n cells hold the elements in reverse. (LAID: no walk: one application.) -/
theorem Try.slices_Reverse_int_cells (b off n c : Nat) (zs : List Int) (w : World) (hz : n ≤ zs.length) (hbig : n ≤ 9223372036854775807) (hc : ∀ j, j < zs.length → w.cell? ⟨b, off + j, none⟩ = some (.int .i64 (zs.getD j 0))) (hf : ∀ j, j < n → w.frozen? ⟨b, off + j, none⟩ = false) :
    Calls Try.prog 97 #[.slice (some ⟨b, off, none⟩) n c] w fun e w' => e = .returned (.tuple #[]) ∧ ∃ q, w' = (w.drewN q).setCells b off ((zs.take n).reverse.map (Value.int .i64)) := Any.slices_Reverse_int_cells Try.lays112 b off n c zs w hz hbig hc hf
open Go.RowKit Go.Lib Go.Sort in
/-- slices.Delete at []int, of an argument, for i ≤ j ≤ n: the slice cut to n - (j - i) elements; the n cells hold what stood ahead of i, what stood from j on, then zeros. (LAID: no walk: one application.) -/
theorem Try.slices_Delete_int_cells (b off n c i j : Nat) (zs : List Int) (w : World) (hz : n ≤ zs.length) (hcap : n ≤ c) (hm : c ≤ 9223372036854775807) (hij : i ≤ j) (hj : j ≤ n) (hc : ∀ j, j < zs.length → w.cell? ⟨b, off + j, none⟩ = some (.int .i64 (zs.getD j 0))) (hf : ∀ j, j < n → w.frozen? ⟨b, off + j, none⟩ = false) :
    Calls Try.prog 44 #[.slice (some ⟨b, off, none⟩) n c, .int .i64 i, .int .i64 j] w fun e w' => e = .returned (.slice (some ⟨b, off, none⟩) (n - (j - i)) c) ∧ ∃ q, w' = (w.drewN q).setCells b off (((zs.take n).take i ++ (zs.take n).drop j ++ List.replicate (j - i) 0).map (Value.int .i64)) := Any.slices_Delete_int_cells Try.laysNm223 b off n c i j zs w hz hcap hm hij hj hc hf
open Go.RowKit Go.Lib in
/-- slices.Delete at []int of no element ('Delete(s, 0, 0)'): s comes back; the world is as it was. (LAID: no walk: one application.) -/
theorem Try.slices_Delete_int_empty (a : Option Addr) (c : Nat) (w : World) :
    Calls Try.prog 44 #[.slice a 0 c, .int .i64 0, .int .i64 0] w fun e w' => e = .returned (.slice a 0 c) ∧ w' = w := Any.slices_Delete_int_empty Try.laysNm223 a c w
def Try.laysSlE041_f47_ren : Go.Shelf.Ren := ⟨fun | 41 => 47 | n => n, fun | 22 => 33 | 23 => 3 | 4 => 4 | n => n, fun | n => n⟩
theorem Try.laysSlE041_f47 : Go.Proofs.SlLaysE0.n41 Try.prog Try.laysSlE041_f47_ren := {
  mixed := by kernel_rfl
  f41 := ⟨Try.f47.name, by decide, Try.func47.trans (congrArg some (by kernel_rfl))⟩
  t4 := Try.underlying4
  a4 := Try.isAgg4
  z4 := Try.sizeOf4
  v4 := Try.zeroValue4
  t22 := Try.underlying33
  a22 := Try.isAgg33
  z22 := Try.sizeOf33
  v22 := Try.zeroValue33 }
open Go.RowKit Go.Lib in
/-- slices.Clone: "Clone returns a copy of the slice. The elements are copied using assignment, so this is a shallow clone. The result may have additional unused capacity. The result preserves the nilness of s.": OF A SLICE THAT IS NOT nil IT RETURNS A SLICE THAT IS NOT nil, OF THE SAME CELLS, IN MEMORY OF THE CALL's OWN ('ownsRow': the how-to's 6f); below the heap's size at the call all is as it was. (LAID AT THE INSTANCE 'slices.Clone[[]int,int]': no walk: one application.) -/
theorem Try.slices_Clone (i0 : TypeInfo) (z : Value) (size bytes : Nat) (hi : Try.prog.info? 3 = some i0) (hz0 : i0.zero = some z) (hz1 : i0.size = size) (hz2 : i0.bytes = bytes) (hzs : z.cells.size = size) (hsz : 0 < size) (z23 : ∀ w, (Go.sizeOf 3).run Try.prog w = .ok size w) (b off n c : Nat) (news : List Value) (w : World) (hl : news.length = n * size) (hn : n ≤ maxLen) (hbig : n * bytes ≤ 140737488355328) (hc : ∀ j u, news[j]? = some u → w.cell? ⟨b, off + j, none⟩ = some u) (h1 : ∀ u ∈ news, u.oneCell' = true) :
    Calls Try.prog 47 #[.slice (some ⟨b, off, none⟩) n c] w fun e w' => ∃ v', e = .returned v' ∧ w'.ownsRow w.heap.size 3 size v' n news ∧ v' ≠ .slice none 0 0 ∧ Below w.heap.size w w' := AnyE.slices_Clone Try.laysSlE041_f47 i0 z size bytes hi hz0 hz1 hz2 hzs hsz z23 b off n c news w hl hn hbig hc h1
open Go.RowKit Go.Lib in
/-- The same at nil: nil comes back; the world is as it was; nothing is asked of the element's type. (LAID AT THE INSTANCE 'slices.Clone[[]int,int]': no walk: one application.) -/
theorem Try.slices_Clone_nil (n c : Nat) (w : World) :
    Calls Try.prog 47 #[.slice none n c] w fun e w' => e = .returned (.slice none 0 0) ∧ w' = w := AnyE.slices_Clone_nil Try.laysSlE041_f47 n c w
end Go.Proofs
/- The queue's Cut. -/
namespace Go.Proofs.Ytohphkdemonlkaa.Qw
open Go.RowKit Go.Proofs.Ytohphkdemonlkaa.XQt Go.Proofs.YtohphkdemonlkaaW.PrintWords Go.Proofs.YtohphkdemonlkaaW.PrintLast Go.Proofs.YtohphkdemonlkaaW.PrintMore Go.Proofs.Ytohphkdemonlkaa.Ob

/-- A row of numbers of one's own, written over. -/
theorem q_write {w : World} {base : Nat} {ok : Nat → Prop} {b off n c : Nat} {l : List Int} (h : (Kd.int .i64).Q 3 w base ok (.slice (some ⟨b, off, none⟩) n c) l) (hn : 0 < n) (ys : List Int) (hy : ys.length = n) :
    (Kd.int .i64).Q 3 (w.setCells b off (ys.map (Value.int .i64))) base ok (.slice (some ⟨b, off, none⟩) n c) ys := by
  have hl : n = l.length := (Kd.Q_reads' h).1
  obtain ⟨h0, inner, ⟨_, hr⟩, _⟩ := h
  rcases hr with ⟨h0, _⟩ | ⟨b', o, cap, cur, hv, hb, hh, hnc, hcm, hcs, ht⟩
  · omega
  · injection hv with ha hn' hc
    injection ha with ha
    injection ha with hb1 ho1 _
    subst hb1; subst hc
    have hsz : (Kd.int .i64).sz = 1 := rfl
    rw [hsz, Nat.mul_one] at ho1 hcs
    subst ho1
    obtain ⟨cur', h1, h2, h3⟩ := setCells_row (ys.map (Value.int .i64)) off w cur hh (by rw [List.length_map]; omega)
    refine ⟨fun k hk => h0 k hk, ys.map (Value.int .i64), ⟨?_, .inr ⟨b, off, c, cur', ?_, hb, h1, ?_, hcm, ?_, ?_⟩⟩, Kd.reps_scalar ys⟩
    · rw [List.length_map, hsz, Nat.mul_one]
    · rw [hsz, Nat.mul_one, hy]
    · omega
    · rw [hsz, Nat.mul_one, h2]; exact hcs
    · have htk : (cur.toList.take off).length = off := by rw [List.length_take, Array.length_toList]; omega
      rw [hsz, Nat.mul_one, Nat.mul_one, h3, List.append_assoc, List.drop_left' htk, List.take_left' (by rw [List.length_map])]
theorem q_cells_of {w : World} {base : Nat} {ok : Nat → Prop} {b off n c : Nat} {l : List Int} (h : (Kd.int .i64).Q 3 w base ok (.slice (some ⟨b, off, none⟩) n c) l) (hn : 0 < n) :
    (∀ j, j < l.length → w.cell? ⟨b, off + j, none⟩ = some (.int .i64 (l.getD j 0))) ∧ (∀ j, j < n → w.frozen? ⟨b, off + j, none⟩ = false) ∧ ok b ∧ n ≤ c ∧ c ≤ 9223372036854775807 := by
  have hC := (Kd.Q_reads' h).2.2
  have hl : n = l.length := (Kd.Q_reads' h).1
  obtain ⟨h0, inner, ⟨_, hr⟩, _⟩ := h
  rcases hr with ⟨h0, _⟩ | ⟨b', o, cap, cur, hv, hb, hh, hnc, hcm, hcs, ht⟩
  · omega
  · injection hv with ha hn' hc
    injection ha with ha
    injection ha with hb1 ho1 _
    subst hb1; subst hc
    refine ⟨fun j hj => ?_, fun j _ => by simp [World.frozen?, hh], h0 b rfl, by omega, by unfold maxLen at hcm; omega⟩
    obtain ⟨ad, had, hx⟩ := Kd.at_int hC (j : Int) (by omega) (by omega)
    obtain rfl := Option.some.inj had
    rw [Int.toNat_natCast] at hx
    rw [show (⟨b, off, none⟩ : Addr).add j = ⟨b, off + j, none⟩ from add_at b off j] at hx
    rw [hx]
    rfl

/-- One is taken out. -/
def outQ (q : List Int × Int) (id : Int) : List Int × Int := (q.1.take (q.1.idxOf id) ++ q.1.drop (q.1.idxOf id + 1), q.2)
theorem cut_none (q : List Int × Int) (id : Int) (w : World) (g : Nat) (base : Nat) (ok : Nat → Prop) (hl : q.1.length ≤ 1000000000) (hn : id ∉ q.1)
    (hq : QK.M w base ok q [.pointer (some ⟨g, 0, none⟩)]) :
    Calls Try.prog 17 #[.pointer (some ⟨g, 0, none⟩), .int .i64 id] w fun e w' => e = .returned (.bool false) ∧ Drawn0 w w' := by
  have HP := Aside0.mk (place_calls q id w g base ok hl hq)
  have HX : Aside0 (ix q.1 id = -1) := ⟨by unfold ix; rw [if_neg hn]⟩
  clear hq hn
  go_enter Try.func17, Try.ntmps17
  go_wp2_with (go_at_call 18; refine HP.out.mono ?_; rintro e w' ⟨rfl, ⟨nd, rfl⟩⟩; rw [HX.out])
  go_ret
  exact ⟨rfl, by repeat (first | exact Drawn0.refl _ | apply Drawn0.step)⟩
theorem setCells_grown (w : World) (b o : Nat) (vs : List Value) : w.grownBy (w.setCells b o vs) (some b) := by
  obtain ⟨h1, h2, h3, h4⟩ := setCells_same b vs o w
  exact ⟨h1, h2, h3, Nat.le_of_eq h4.symm, fun k _ hk => setCells_far vs o k (fun e => hk (by rw [e]))⟩
/-- slices.Delete of one element, of a row of one's own. -/
theorem delete_calls {w : World} {base : Nat} {ok : Nat → Prop} {b off n c : Nat} {l : List Int} (h : (Kd.int .i64).Q 3 w base ok (.slice (some ⟨b, off, none⟩) n c) l) (i : Nat) (hi : i < n) :
    Calls Try.prog 44 #[.slice (some ⟨b, off, none⟩) n c, .int .i64 (i : Int), .int .i64 ((i : Int) + 1)] w fun e w' => e = .returned (.slice (some ⟨b, off, none⟩) (n - 1) c) ∧
      (Kd.int .i64).Q 3 w' base ok (.slice (some ⟨b, off, none⟩) (n - 1) c) (l.take i ++ l.drop (i + 1)) ∧ w.grownBy w' (some b) := by
  have hl : n = l.length := (Kd.Q_reads' h).1
  obtain ⟨hcell, hfz, hbo, hnc, hcm⟩ := q_cells_of h (by omega)
  have hd := Try.slices_Delete_int_cells b off n c i (i + 1) l w (by omega) hnc hcm (by omega) (by omega) hcell hfz
  refine hd.mono ?_
  rintro e w' ⟨rfl, m, rfl⟩
  rw [Nat.add_sub_cancel_left, hl, List.take_length]
  have hlen : (l.take i ++ l.drop (i + 1) ++ [0]).length = l.length := by simp; omega
  have hw := q_write (Kd.Q_drewN h m) (by omega) (l.take i ++ l.drop (i + 1) ++ [0]) (by rw [hlen, hl])
  have ht := Kd.Q_take (m := l.length - 1) hw (by rw [hlen]; omega)
  have hlen2 : (l.take i ++ l.drop (i + 1)).length = l.length - 1 := by simp; omega
  rw [List.take_left' hlen2] at ht
  have hb := pw_below_drewN (Below.refl w.heap.size w) m
  have hg0 : w.grownBy (w.drewN m) (some b) := ⟨hb.os, hb.tape, hb.output, hb.size, fun k hk _ => hb.block k hk⟩
  exact ⟨rfl, ht, World.grownBy.trans hg0 (setCells_grown _ b off _)⟩
set_option maxHeartbeats 800000 in
theorem cut_calls (q : List Int × Int) (id : Int) (w : World) (g : Nat) (base : Nat) (ok : Nat → Prop) (hl : q.1.length ≤ 1000000000) (hn : id ∈ q.1)
    (hq : QK.M w base ok q [.pointer (some ⟨g, 0, none⟩)]) :
    Calls Try.prog 17 #[.pointer (some ⟨g, 0, none⟩), .int .i64 id] w fun e w' => e = .returned (.bool true) ∧
      QK.M w' base ok (outQ q id) [.pointer (some ⟨g, 0, none⟩)] ∧ Stay ok w w' := by
  have HP := Aside0.mk (place_calls q id w g base ok hl hq)
  have hil : q.1.idxOf id < q.1.length := List.idxOf_lt_length_of_mem hn
  have hout : outQ q id = (q.1.take (q.1.idxOf id) ++ q.1.drop (q.1.idxOf id + 1), q.2) := rfl
  have hx : ix q.1 id = (q.1.idxOf id : Int) := by unfold ix; rw [if_pos hn]
  generalize q.1.idxOf id = i at hil hout hx
  have HOUT := Aside0.mk hout
  have HX := Aside0.mk hx
  obtain ⟨g', A, c, he, hbg, hok, hg, hc, hQ⟩ := qk_open hq
  obtain rfl : g = g' := by simpa using he
  obtain ⟨b, off, rfl⟩ := q_addr hQ (by omega)
  have hbo := hQ.1 b rfl
  have HD : ∀ nd, Aside0 (Calls Try.prog 44 #[.slice (some ⟨b, off, none⟩) q.1.length c, .int .i64 (i : Int), .int .i64 ((i : Int) + 1)] (w.drewN nd) fun e w' => e = .returned (.slice (some ⟨b, off, none⟩) (q.1.length - 1) c) ∧
      (Kd.int .i64).Q 3 w' base (fun k => ok k ∧ k ≠ g) (.slice (some ⟨b, off, none⟩) (q.1.length - 1) c) (q.1.take i ++ q.1.drop (i + 1)) ∧ (w.drewN nd).grownBy w' (some b)) := fun nd => ⟨delete_calls (Kd.Q_drewN hQ nd) i hil⟩
  have hgb : g ≠ b := fun e => hbo.2 e.symm
  have HQ := Aside0.mk hQ
  have HG := Aside0.mk hg
  have HO := Aside0.mk hok
  have HBG := Aside0.mk hbg
  have HB := Aside0.mk hbo
  have HGB := Aside0.mk hgb
  have h0 : w.cell? ⟨g, 0, none⟩ = some (.slice (some ⟨b, off, none⟩) q.1.length c) := by simp [World.cell?, hg]
  have hlt0 : decide ((i : Int) < 0) = false := decide_eq_false (by omega)
  have hgl := blk_lt hg
  clear hn hq hout hx hQ hg hc he hok hbg hbo hgb
  go_enter Try.func17, Try.ntmps17
  go_wp2_with (first
    | (go_at_call 18; refine HP.out.mono ?_; rintro e w' ⟨rfl, ⟨nd, rfl⟩⟩; rw [HX.out])
    | (go_at_call 44; refine (HD _).out.mono ?_; rintro e w1 ⟨rfl, hQ1, hG1⟩; have hbk := (hG1.block g hgl (fun e_ => HGB.out (Option.some.inj e_))).trans HG.out; have k0 : w1.cell? ⟨g, 0, none⟩ = some (.slice (some ⟨b, off, none⟩) q.1.length c) := (by simp [World.cell?, hbk]); have f0 : w1.frozen? ⟨g, 0, none⟩ = false := (by simp [World.frozen?, hbk]); have HQ1 := Aside0.mk hQ1; have HG1 := Aside0.mk hG1; have HBK := Aside0.mk hbk; clear hQ1 hG1 hbk))
  go_ret
  refine ⟨rfl, ?_, ?_⟩
  · rw [HOUT.out]
    exact qk_mk HBG.out HO.out (blk_put HBK.out 0 _ rfl) (Kd.Q_far (p := ⟨g, 0, none⟩) HQ1.out (fun k hk => hk.2) _)
  · exact ((Stay.refl ok w).drewN _ |>.grown HG1.out (fun k hk => .inl (by obtain rfl := Option.some.inj hk; exact HB.out.1))).setCell (.inl HO.out) _
end Go.Proofs.Ytohphkdemonlkaa.Qw
/- The shelf's contract of slices.Insert at []int, laid at this seat's numbers. -/
namespace Go.Proofs
open Go.Shelf
def Try.laysNm221_ren : Go.Shelf.Ren := ⟨fun | 21 => 46 | 27 => 81 | 28 => 82 | 35 => 94 | 39 => 97 | n => n, fun | 22 => 33 | 3 => 3 | 4 => 4 | 0 => 0 | n => n, fun | n => n⟩
theorem Try.laysNm221 : Go.Proofs.Lays2.n21 Try.prog Try.laysNm221_ren := {
  mixed := by kernel_rfl
  f21 := Try.func46.trans (congrArg some (by kernel_rfl))
  f27 := Try.func81.trans (congrArg some (by kernel_rfl))
  f28 := Try.func82.trans (congrArg some (by kernel_rfl))
  f35 := Try.func94.trans (congrArg some (by kernel_rfl))
  f39 := Try.func97.trans (congrArg some (by kernel_rfl))
  t0 := Try.underlying0
  a0 := Try.isAgg0
  z0 := Try.sizeOf0
  v0 := Try.zeroValue0
  t3 := Try.underlying3
  a3 := Try.isAgg3
  z3 := Try.sizeOf3
  v3 := Try.zeroValue3
  t4 := Try.underlying4
  a4 := Try.isAgg4
  z4 := Try.sizeOf4
  v4 := Try.zeroValue4
  t22 := Try.underlying33
  a22 := Try.isAgg33
  z22 := Try.sizeOf33
  v22 := Try.zeroValue33
  i3 := by kernel_rfl }
end Go.Proofs
/- The queue's Back: slices.Insert at the front of a row of one's own. -/
namespace Go.Proofs.Ytohphkdemonlkaa.Qw
open Go.RowKit Go.Proofs.Ytohphkdemonlkaa.XQt Go.Proofs.YtohphkdemonlkaaW.PrintWords Go.Proofs.YtohphkdemonlkaaW.PrintLast Go.Proofs.YtohphkdemonlkaaW.PrintMore Go.Proofs.Ytohphkdemonlkaa.Ob

theorem reps_map {α : Type} {f : α → Value} {l : List α} {cs : List Value} (h : Reps (fun x c => c = [f x]) 1 l cs) : cs = l.map f := by
  have hl : cs.length = l.length := by rw [h.1, Nat.mul_one]
  refine List.ext_getElem (by rw [hl, List.length_map]) fun i h1 h2 => ?_
  rw [List.length_map] at h2
  have h3 := h.2 i _ (List.getElem?_eq_getElem h2)
  rw [Nat.mul_one] at h3
  have h4 : ((cs.drop i).take 1)[0]? = some (f l[i]) := by rw [h3]; rfl
  rw [List.getElem?_take, if_pos Nat.zero_lt_one, List.getElem?_drop, Nat.add_zero, List.getElem?_eq_getElem h1] at h4
  rw [List.getElem_map]
  exact Option.some.inj h4
theorem q_open {w : World} {base : Nat} {ok : Nat → Prop} {A : Option Addr} {n c : Nat} {l : List Int} (h : (Kd.int .i64).Q 3 w base ok (.slice A n c) l) :
    (n = 0 ∧ c = 0 ∧ l = []) ∨ ∃ b off cur, A = some ⟨b, off, none⟩ ∧ base ≤ b ∧ ok b ∧ w.heap[b]? = some (.cells cur 3 (0, 0)) ∧ n ≤ c ∧ off + c ≤ maxLen ∧ cur.size = off + c ∧ (cur.toList.drop off).take n = l.map (Value.int .i64) := by
  have hl : n = l.length := (Kd.Q_reads' h).1
  have hC := (Kd.Q_reads' h).2.2
  obtain ⟨h0, inner, ⟨_, hr⟩, hreps⟩ := h
  rcases hr with ⟨h0, A', hv, _⟩ | ⟨b, o, cap, cur, hv, hb, hh, hnc, hcm, hcs, ht⟩
  · injection hv with _ _ hc
    exact .inl ⟨by omega, hc, List.eq_nil_of_length_eq_zero h0⟩
  · injection hv with ha hn' hc
    subst ha; subst hc
    have hsz : (Kd.int .i64).sz = 1 := rfl
    rw [hsz, Nat.mul_one] at hcs ht
    rw [Nat.mul_one] at ht
    refine .inr ⟨b, o, cur, by rw [hsz, Nat.mul_one], hb, h0 b rfl, hh, by omega, hcm, hcs, ?_⟩
    rw [hl, ht]
    exact reps_map hreps
theorem q_make {w : World} {base : Nat} {ok : Nat → Prop} {b off n c : Nat} {cur : Array Value} {l : List Int} (hb : base ≤ b) (ho : ok b) (hh : w.heap[b]? = some (.cells cur 3 (0, 0))) (hnc : n ≤ c) (hcm : off + c ≤ maxLen) (hcs : cur.size = off + c)
    (hl : l.length = n) (ht : (cur.toList.drop off).take n = l.map (Value.int .i64)) : (Kd.int .i64).Q 3 w base ok (.slice (some ⟨b, off, none⟩) n c) l := by
  have hsz : (Kd.int .i64).sz = 1 := rfl
  refine ⟨fun k hk => by cases hk; exact ho, l.map (Value.int .i64), ⟨by rw [List.length_map, hsz, Nat.mul_one], .inr ⟨b, off, c, cur, by rw [hsz, Nat.mul_one, hl], hb, hh, by omega, hcm, by rw [hsz, Nat.mul_one]; exact hcs, ?_⟩⟩, Kd.reps_scalar l⟩
  rw [hsz, Nat.mul_one, Nat.mul_one, hl]
  exact ht
theorem cells_of {w : World} {b off n : Nat} {cur : Array Value} {l : List Int} (hh : w.heap[b]? = some (.cells cur 3 (0, 0))) (ht : (cur.toList.drop off).take n = l.map (Value.int .i64)) :
    ∀ j v, (l.map (Value.int .i64))[j]? = some v → w.cell? ⟨b, off + j, none⟩ = some v := by
  intro j v hj
  rw [← ht, List.getElem?_take] at hj
  by_cases h : j < n
  · rw [if_pos h, List.getElem?_drop] at hj
    simp only [World.cell?, hh]
    simpa using hj
  · rw [if_neg h] at hj
    cases hj
/-- slices.Insert of one at the front, of a row of one's own. -/
theorem insert_calls {w : World} {base : Nat} {ok : Nat → Prop} {A : Option Addr} {n c : Nat} {l : List Int} (h : (Kd.int .i64).Q 3 w base ok (.slice A n c) l) (hbs : base ≤ w.heap.size) (hl9 : l.length ≤ 1000000000) (x : Int) (vb : Nat)
    (hv : w.heap[vb]? = some (.cells #[.int .i64 x] 3 (0, 0))) (hnv : ¬ ok vb) :
    Calls Try.prog 46 #[.slice A n c, .int .i64 0, .slice (some ⟨vb, 0, none⟩) 1 1] w fun e w' => ∃ A1 c1, e = .returned (.slice A1 (n + 1) c1) ∧
      (Kd.int .i64).Q 3 w' base (fun k => ok k ∨ w.heap.size ≤ k) (.slice A1 (n + 1) c1) (x :: l) ∧ Stay ok w w' := by
  have hl : n = l.length := (Kd.Q_reads' h).1
  have hvs : ∀ j v, ([Value.int .i64 x] : List Value)[j]? = some v → w.cell? ⟨vb, 0 + j, none⟩ = some v := by
    intro j v hj
    cases j with
    | zero => simp only [World.cell?, hv]; simpa using hj
    | succ j => cases hj
  have h1v : ∀ v ∈ ([Value.int .i64 x] : List Value), v.oneCell' = true := by intro v hm; rw [List.mem_singleton.1 hm]; rfl
  have h1c : ∀ v ∈ l.map (Value.int .i64), v.oneCell' = true := by intro v hm; obtain ⟨y, _, rfl⟩ := List.mem_map.1 hm; rfl
  have hmx : maxLen = 9223372036854775807 := rfl
  rcases q_open h with ⟨rfl, rfl, rfl⟩ | ⟨b, off, cur, rfl, hb, hok, hh, hnc, hcm, hcs, ht⟩
  · -- nothing is there
    refine (Any2.slices_Insert_int_end_grow Try.laysNm221 A 0 0 vb 0 1 1 [] [.int .i64 x] w (by omega) (by omega) (by omega) (by omega) rfl rfl (fun _ => rfl) (fun _ _ _ _ hj => by cases hj) hvs h1v).mono ?_
    rintro e w' he
    rw [show Try.laysNm221_ren.t 3 = 3 from rfl] at he
    obtain ⟨rfl, rfl⟩ := he
    have hge := grownCap_ge w (0 + 1) 0 3
    have hle := grownCap_le_maxLen w (0 + 1) 0 3 (by rw [hmx]; omega)
    generalize grownCap w (0 + 1) 0 3 = G at hge hle ⊢
    refine ⟨_, _, rfl, ?_, ((Stay.refl ok w).drewN 1).alloc _⟩
    refine q_make hbs (.inr (Nat.le_refl _)) (heap_alloc_new w.drew _) hge (by rw [Nat.zero_add]; exact hle) ?_ rfl ?_
    · rw [Array.size_append, size_zeroCells]
      show 1 + (G - (0 + 1)) * 1 = _
      omega
    · simp
  · rcases Nat.lt_or_ge n c with hroom | hroom
    · rcases Nat.eq_zero_or_pos n with rfl | hpos
      · -- room, nothing there
        obtain rfl : l = [] := List.eq_nil_of_length_eq_zero hl.symm
        obtain ⟨cur', e1, e2, e3⟩ := setCells_row [.int .i64 x] (off + 0) w cur hh (by simp; omega)
        refine (Any2.slices_Insert_int_end_room Try.laysNm221 b off 0 c vb 0 1 1 [.int .i64 x] w (by omega) (by omega) (by omega) rfl (fun j hj => ?_) (fun j hj => by simp [World.frozen?, hh]) hvs h1v).mono ?_
        · simp only [World.cell?, hh]
          simp
          omega
        · rintro e w' ⟨rfl, rfl⟩
          refine ⟨_, _, rfl, ?_, (Stay.refl ok w).grown (setCells_grown w b _ _) (fun k hk => .inl (by obtain rfl := Option.some.inj hk; exact hok))⟩
          refine q_make hb (.inl hok) e1 (by omega) hcm (by rw [e2, hcs]) rfl ?_
          rw [e3, Nat.add_zero, List.append_assoc, List.drop_left' (by rw [List.length_take, Array.length_toList]; omega)]
          rfl
      · -- room: all are shifted
        refine (Any2.slices_Insert_int_shift Try.laysNm221 b off n c 0 vb 0 1 1 (l.map (Value.int .i64)) [.int .i64 x] w hpos (by omega) (by omega) (by omega) (fun e => hnv (e ▸ hok)) (by rw [List.length_map, hl]) rfl
          (cells_of hh ht) (fun j hj => ?_) (fun j hj => by simp [World.frozen?, hh]) hvs h1c h1v 3 3 1 cur.size (by simp [World.shape?, hv]) (by simp [World.shape?, hh]) (by omega) (by simp [World.frozen?, hv]) (by simp [World.frozen?, hv])).mono ?_
        · simp only [World.cell?, hh]
          simp
          omega
        · rintro e w' ⟨rfl, rfl⟩
          obtain ⟨cur1, e1, e2, e3⟩ := setCells_row ((l.map (Value.int .i64)).drop 0) (off + (0 + 1)) w.drew cur hh (by simp; omega)
          obtain ⟨cur2, f1, f2, f3⟩ := setCells_row [.int .i64 x] (off + 0) _ cur1 e1 (by simp; omega)
          refine ⟨_, _, rfl, ?_, ((((Stay.refl ok w).drewN 1).grown (setCells_grown w.drew b _ _) (fun k hk => .inl (by obtain rfl := Option.some.inj hk; exact hok))).grown (setCells_grown _ b _ _) (fun k hk => .inl (by obtain rfl := Option.some.inj hk; exact hok)))⟩
          refine q_make hb (.inl hok) f1 (by omega) hcm (by rw [f2, e2, hcs]) (by rw [List.length_cons, hl]) ?_
          have htk : (cur.toList.take (off + 1)).length = off + 1 := by rw [List.length_take, Array.length_toList]; omega
          have hmp : (l.map (Value.int .i64)).length = n := by rw [List.length_map, hl]
          rw [f3, e3, List.drop_zero, Nat.add_zero, Nat.zero_add, List.length_singleton]
          have h1 : (cur.toList.take (off + 1) ++ l.map (Value.int .i64) ++ cur.toList.drop (off + 1 + (l.map (Value.int .i64)).length)).drop (off + 1) = l.map (Value.int .i64) ++ cur.toList.drop (off + 1 + (l.map (Value.int .i64)).length) := by
            rw [List.append_assoc, List.drop_left' htk]
          rw [h1, List.append_assoc, List.append_assoc (cur.toList.take (off + 1)), List.take_append_of_le_length (by omega), List.take_take, Nat.min_eq_left (by omega), List.drop_left' (by rw [List.length_take, Array.length_toList]; omega)]
          rw [List.singleton_append, List.take_succ_cons, List.map_cons, List.take_left' hmp]
    · rcases Nat.eq_zero_or_pos n with rfl | hpos
      · -- no room, nothing there
        obtain rfl : l = [] := List.eq_nil_of_length_eq_zero hl.symm
        obtain rfl : c = 0 := by omega
        refine (Any2.slices_Insert_int_end_grow Try.laysNm221 (some ⟨b, off, none⟩) 0 0 vb 0 1 1 [] [.int .i64 x] w (by omega) (by omega) (by omega) (by omega) rfl rfl (fun _ => rfl) (fun _ _ _ _ hj => by cases hj) hvs h1v).mono ?_
        rintro e w' he
        rw [show Try.laysNm221_ren.t 3 = 3 from rfl] at he
        obtain ⟨rfl, rfl⟩ := he
        have hge := grownCap_ge w (0 + 1) 0 3
        have hle := grownCap_le_maxLen w (0 + 1) 0 3 (by rw [hmx]; omega)
        generalize grownCap w (0 + 1) 0 3 = G at hge hle ⊢
        refine ⟨_, _, rfl, ?_, ((Stay.refl ok w).drewN 1).alloc _⟩
        refine q_make hbs (.inr (Nat.le_refl _)) (heap_alloc_new w.drew _) hge (by rw [Nat.zero_add]; exact hle) ?_ rfl ?_
        · rw [Array.size_append, size_zeroCells]
          show 1 + (G - (0 + 1)) * 1 = _
          omega
        · simp
      · obtain rfl : n = c := by omega
        refine (Any2.slices_Insert_int_grow Try.laysNm221 b off n n 0 vb 0 1 1 (l.map (Value.int .i64)) [.int .i64 x] w hpos (by omega) (by omega) (by omega) (by omega) (by rw [List.length_map, hl]) rfl (cells_of hh ht) hvs h1c h1v).mono ?_
        rintro e w' he
        rw [show Try.laysNm221_ren.t 3 = 3 from rfl] at he
        obtain ⟨rfl, rfl⟩ := he
        have hge := grownCap_ge w (n + 1) n 3
        have hle := grownCap_le_maxLen w (n + 1) n 3 (by rw [hmx]; omega)
        generalize grownCap w (n + 1) n 3 = G at hge hle ⊢
        have hw0 := heap_alloc_new w (.cells (((l.map (Value.int .i64)).take 0).toArray ++ Builtin.zeroCells (Value.int .i64 0).cells (n + 1 - 0) ++ Builtin.zeroCells (Value.int .i64 0).cells (G - (n + 1))) 3)
        have hz0 : (((l.map (Value.int .i64)).take 0).toArray ++ Builtin.zeroCells (Value.int .i64 0).cells (n + 1 - 0) ++ Builtin.zeroCells (Value.int .i64 0).cells (G - (n + 1))).size = G := by
          rw [Array.size_append, Array.size_append, size_zeroCells, size_zeroCells]
          show 0 + (n + 1 - 0) * 1 + (G - (n + 1)) * 1 = _
          omega
        generalize (((l.map (Value.int .i64)).take 0).toArray ++ Builtin.zeroCells (Value.int .i64 0).cells (n + 1 - 0) ++ Builtin.zeroCells (Value.int .i64 0).cells (G - (n + 1))) = Z at hw0 hz0 ⊢
        obtain ⟨cur1, e1, e2, e3⟩ := setCells_row [.int .i64 x] 0 (w.alloc (.cells Z 3)).drew Z hw0 (by simp; omega)
        obtain ⟨cur2, f1, f2, f3⟩ := setCells_row ((l.map (Value.int .i64)).drop 0) (0 + 1) (((w.alloc (.cells Z 3)).drew.setCells w.heap.size 0 [.int .i64 x]).drew) cur1 e1 (by simp; omega)
        refine ⟨_, _, rfl, ?_, (((((((Stay.refl ok w).alloc _).drewN 1).grown (setCells_grown (w.alloc (.cells Z 3)).drew w.heap.size _ _) (fun k hk => .inr (by obtain rfl := Option.some.inj hk; exact Nat.le_refl _))).drewN 1).grown (setCells_grown _ w.heap.size _ _) (fun k hk => .inr (by obtain rfl := Option.some.inj hk; exact Nat.le_refl _))))⟩
        refine q_make hbs (.inr (Nat.le_refl _)) f1 hge (by rw [Nat.zero_add]; exact hle) (by rw [f2, e2, hz0, Nat.zero_add]) (by rw [List.length_cons, hl]) ?_
        have hmp : (l.map (Value.int .i64)).length = n := by rw [List.length_map, hl]
        rw [List.drop_zero, f3, e3, List.drop_zero, List.take_zero, List.nil_append, List.length_singleton, Nat.zero_add, List.singleton_append, List.take_succ_cons, List.take_zero, List.append_assoc, List.singleton_append, List.take_succ_cons, List.map_cons, List.take_left' hmp]
end Go.Proofs.Ytohphkdemonlkaa.Qw
/- The queue's Back and All; what is answered of no queue. -/
namespace Go.Proofs.Ytohphkdemonlkaa.Qw
open Go.RowKit Go.Proofs.Ytohphkdemonlkaa.XQt Go.Proofs.YtohphkdemonlkaaW.PrintWords Go.Proofs.YtohphkdemonlkaaW.PrintLast Go.Proofs.YtohphkdemonlkaaW.PrintMore Go.Proofs.Ytohphkdemonlkaa.Ob

/-- A call waits ahead of all others. -/
def backQ (q : List Int × Int) (id : Int) : List Int × Int := if mayC q id = 0 then (id :: q.1, q.2) else q

set_option maxHeartbeats 800000 in
theorem back_calls (q : List Int × Int) (id : Int) (w : World) (g : Nat) (base : Nat) (ok : Nat → Prop) (hb : base ≤ w.heap.size) (hl : q.1.length ≤ 1000000000)
    (hq : QK.M w base ok q [.pointer (some ⟨g, 0, none⟩)]) (hnew : ∀ k, w.heap.size ≤ k → ¬ ok k) :
    Calls Try.prog 20 #[.pointer (some ⟨g, 0, none⟩), .int .i64 id] w fun e w' => e = .returned (.int .i64 (mayC q id)) ∧
      QK.M w' base (fun k => ok k ∨ w.heap.size ≤ k) (backQ q id) [.pointer (some ⟨g, 0, none⟩)] ∧ Stay ok w w' := by
  obtain ⟨g', A, c, he, hbg, hok, hg, hc, hQ⟩ := qk_open hq
  obtain rfl : g = g' := by simpa using he
  have HM := Aside0.mk (may_calls q id w g A c base _ hg hc (by omega) hQ)
  by_cases hz : mayC q id = 0
  · have HZ := Aside0.mk hz
    have HP : Aside0 (backQ q id = (id :: q.1, q.2)) := ⟨by unfold backQ; rw [if_pos hz]⟩
    have HG := Aside0.mk hg
    have HO := Aside0.mk hok
    have HBG := Aside0.mk hbg
    have h0 : w.cell? ⟨g, 0, none⟩ = some (.slice A q.1.length c) := by simp [World.cell?, hg]
    have hgl := blk_lt hg
    have HI : ∀ nd, Aside0 (Calls Try.prog 46 #[.slice A q.1.length c, .int .i64 0, .slice (some ⟨w.heap.size, 0, none⟩) 1 1] ((w.drewN nd).alloc (.cells #[.int .i64 id] 3)) fun e w1 => ∃ A1 c1, e = .returned (.slice A1 (q.1.length + 1) c1) ∧
        w1.cell? ⟨g, 0, none⟩ = some (.slice A q.1.length c) ∧ w1.frozen? ⟨g, 0, none⟩ = false ∧ Aside0 (w1.heap[g]? = some (.cells #[.slice A q.1.length c, .int .i64 q.2] 80 (0, 0)) ∧
        (Kd.int .i64).Q 3 w1 base (fun k => (ok k ∨ w.heap.size ≤ k) ∧ k ≠ g) (.slice A1 (q.1.length + 1) c1) (id :: q.1) ∧ Stay ok w w1)) := fun nd => by
      have hsz : ((w.drewN nd).alloc (.cells #[.int .i64 id] 3)).heap.size = w.heap.size + 1 := by simp
      refine ⟨(insert_calls (Kd.Q_below (Kd.Q_drewN hQ nd) (below_alloc (Below.refl _ _) _)) (by omega) hl id w.heap.size (heap_alloc_new (w.drewN nd) _) (fun h => hnew _ (Nat.le_refl _) h.1)).mono ?_⟩
      rintro e w1 ⟨A1, c1, rfl, hQ1, hS1⟩
      have hbk := (hS1.block g (by omega) (fun h => h.2 rfl)).trans (((below_alloc (pw_below_drewN (Below.refl w.heap.size w) nd) (.cells #[.int .i64 id] 3)).block g hgl).trans hg)
      refine ⟨A1, c1, rfl, by simp [World.cell?, hbk], by simp [World.frozen?, hbk], hbk, Kd.Q_mono hQ1 (fun k hk => ?_), (((Stay.refl ok w).drewN nd).alloc _).trans hS1 (fun k _ hk => hk.1)⟩
      rw [hsz] at hk
      rcases hk with hk | hk
      · exact ⟨.inl hk.1, hk.2⟩
      · exact ⟨.inr (by omega), by omega⟩
    clear hz hQ hg hc he hq hok hbg
    go_enter Try.func20, Try.ntmps20
    go_wp2_with (first
      | (go_at_call 43; refine HM.out.mono ?_; rintro e w' ⟨rfl, ⟨nd, rfl⟩⟩; rw [HZ.out])
      | (go_at_call 46; refine (HI _).out.mono ?_; rintro e w1 ⟨A1, c1, rfl, k0, f0, HK⟩))
    go_ret
    refine ⟨by rw [HZ.out]; rfl, ?_, ?_⟩
    · rw [HP.out]
      exact qk_mk HBG.out (.inl HO.out) (blk_put HK.out.1 0 _ rfl) (Kd.Q_far (p := ⟨g, 0, none⟩) HK.out.2.1 (fun k hk => hk.2) _)
    · exact HK.out.2.2.setCell (.inl HO.out) _
  · have HZ : Aside0 ((mayC q id == 0) = false) := ⟨beq_eq_false_iff_ne.2 hz⟩
    have HP : Aside0 (backQ q id = q) := ⟨by unfold backQ; rw [if_neg hz]⟩
    have HQ := Aside0.mk hq
    generalize mayC q id = m at HM HZ ⊢
    clear hz hQ hg hc he hq hok hbg
    have hz := HZ.out
    go_enter Try.func20, Try.ntmps20
    go_wp2_with (go_at_call 43; refine HM.out.mono ?_; rintro e w' ⟨rfl, ⟨nd, rfl⟩⟩)
    go_ret
    exact ⟨rfl, by rw [HP.out]; exact Kd.M_drewN (QK.M_mono (fun k hk => .inl hk) HQ.out) nd, (Stay.refl ok w).drewN nd⟩
end Go.Proofs.Ytohphkdemonlkaa.Qw
/- The queue's contracts in one shape; alive. -/
namespace Go.Proofs.Ytohphkdemonlkaa.Qw
open Go.RowKit Go.Proofs.Ytohphkdemonlkaa.XQt Go.Proofs.YtohphkdemonlkaaW.PrintWords Go.Proofs.YtohphkdemonlkaaW.PrintLast Go.Proofs.YtohphkdemonlkaaW.PrintMore Go.Proofs.Ytohphkdemonlkaa.Ob

/-- A queue that came into being behind w0; nothing older is turned. -/
structure Own (w0 w : World) (q : List Int × Int) (g : Nat) : Prop where
  below : Below w0.heap.size w0 w
  m : QK.M w w0.heap.size (fun k => w0.heap.size ≤ k ∧ k < w.heap.size) q [.pointer (some ⟨g, 0, none⟩)]

theorem own_of {w0 w w' : World} {q q' : List Int × Int} {g : Nat} {ok : Nat → Prop} (h : Own w0 w q g) (hs : Stay (fun k => w0.heap.size ≤ k ∧ k < w.heap.size) w w')
    (hm : QK.M w' w0.heap.size ok q' [.pointer (some ⟨g, 0, none⟩)]) : Own w0 w' q' g :=
  ⟨hs.below h.below (fun _ hk => hk.1), QK.M_mono (fun _ hk => ⟨hk.2.1, hk.2.2.1⟩) (QK.M_bound hm)⟩
theorem own_drawn {w0 w w' : World} {q : List Int × Int} {g : Nat} (h : Own w0 w q g) (hd : Drawn0 w w') : Own w0 w' q g := by
  obtain ⟨nd, rfl⟩ := hd
  exact own_of h ((Stay.refl _ w).drewN nd) (Kd.M_drewN h.m nd)
theorem new_own {w0 w : World} (hb : Below w0.heap.size w0 w) (most : Int) (hm : 1 ≤ most) :
    Calls Try.prog 15 #[.int .i64 most] w fun e w' => ∃ g, e = .returned (.pointer (some ⟨g, 0, none⟩)) ∧ Own w0 w' ([], most) g := by
  refine (new_calls most hm w w0.heap.size hb.size).mono ?_
  rintro e w' ⟨g, rfl, _, hm, hs⟩
  exact ⟨g, rfl, hs.below hb (fun _ hk => hk.elim), QK.M_mono (fun _ hk => ⟨hk.2.1, hk.2.2.1⟩) (QK.M_bound hm)⟩
theorem put_own {w0 w : World} {q : List Int × Int} {g : Nat} (h : Own w0 w q g) (hl : q.1.length ≤ 1000000000) (id : Int) :
    Calls Try.prog 16 #[.pointer (some ⟨g, 0, none⟩), .int .i64 id] w fun e w' => e = .returned (.int .i64 (mayC q id)) ∧ Own w0 w' (putQ q id) g := by
  refine (put_calls q id w g _ _ h.below.size hl h.m).mono ?_
  rintro e w' ⟨rfl, hm, hs⟩
  exact ⟨rfl, own_of h hs hm⟩
theorem back_own {w0 w : World} {q : List Int × Int} {g : Nat} (h : Own w0 w q g) (hl : q.1.length ≤ 1000000000) (id : Int) :
    Calls Try.prog 20 #[.pointer (some ⟨g, 0, none⟩), .int .i64 id] w fun e w' => e = .returned (.int .i64 (mayC q id)) ∧ Own w0 w' (backQ q id) g := by
  refine (back_calls q id w g _ _ h.below.size hl h.m (fun k hk h => by omega)).mono ?_
  rintro e w' ⟨rfl, hm, hs⟩
  exact ⟨rfl, own_of h hs hm⟩
theorem first_own {w0 w : World} {x m : Int} {l : List Int} {g : Nat} (h : Own w0 w (x :: l, m) g) (hl : l.length ≤ 1000000000) :
    Calls Try.prog 19 #[.pointer (some ⟨g, 0, none⟩)] w fun e w' => e = .returned (.tuple #[.int .i64 x, .bool true]) ∧ Own w0 w' (l, m) g := by
  refine (first_calls x l m w g _ _ hl h.m).mono ?_
  rintro e w' ⟨rfl, hm, hs⟩
  exact ⟨rfl, own_of h hs hm⟩
theorem first_none_own {w0 w : World} {m : Int} {g : Nat} (h : Own w0 w ([], m) g) :
    Calls Try.prog 19 #[.pointer (some ⟨g, 0, none⟩)] w fun e w' => e = .returned (.tuple #[.int .i64 0, .bool false]) ∧ Own w0 w' ([], m) g := by
  refine (first_none m w g _ _ h.m).mono ?_
  rintro e w' ⟨rfl, hd⟩
  exact ⟨rfl, own_drawn h hd⟩
theorem place_own {w0 w : World} {q : List Int × Int} {g : Nat} (h : Own w0 w q g) (hl : q.1.length ≤ 1000000000) (id : Int) :
    Calls Try.prog 18 #[.pointer (some ⟨g, 0, none⟩), .int .i64 id] w fun e w' => e = .returned (.int .i64 (ix q.1 id)) ∧ Own w0 w' q g := by
  refine (place_calls q id w g _ _ hl h.m).mono ?_
  rintro e w' ⟨rfl, hd⟩
  exact ⟨rfl, own_drawn h hd⟩
theorem cut_own {w0 w : World} {q : List Int × Int} {g : Nat} (h : Own w0 w q g) (hl : q.1.length ≤ 1000000000) (id : Int) (hn : id ∈ q.1) :
    Calls Try.prog 17 #[.pointer (some ⟨g, 0, none⟩), .int .i64 id] w fun e w' => e = .returned (.bool true) ∧ Own w0 w' (outQ q id) g := by
  refine (cut_calls q id w g _ _ hl hn h.m).mono ?_
  rintro e w' ⟨rfl, hm, hs⟩
  exact ⟨rfl, own_of h hs hm⟩
theorem cut_none_own {w0 w : World} {q : List Int × Int} {g : Nat} (h : Own w0 w q g) (hl : q.1.length ≤ 1000000000) (id : Int) (hn : id ∉ q.1) :
    Calls Try.prog 17 #[.pointer (some ⟨g, 0, none⟩), .int .i64 id] w fun e w' => e = .returned (.bool false) ∧ Own w0 w' q g := by
  refine (cut_none q id w g _ _ hl hn h.m).mono ?_
  rintro e w' ⟨rfl, hd⟩
  exact ⟨rfl, own_drawn h hd⟩
end Go.Proofs.Ytohphkdemonlkaa.Qw
/- alive. -/
namespace Go.Proofs.Ytohphkdemonlkaa.Qw
open Go.RowKit Go.Proofs.Ytohphkdemonlkaa.XQt Go.Proofs.YtohphkdemonlkaaW.PrintWords Go.Proofs.YtohphkdemonlkaaW.PrintLast Go.Proofs.YtohphkdemonlkaaW.PrintMore Go.Proofs.Ytohphkdemonlkaa.Ob

section
variable {w0 w : World} {g : Nat}
theorem al0 (w : World) : Calls Try.prog 15 #[.int .i64 3] w fun e w' => ∃ g, e = .returned (.pointer (some ⟨g, 0, none⟩)) ∧ Own w w' ([], 3) g := new_own (Below.refl _ _) 3 (by decide)
theorem al1 (h : Own w0 w ([], 3) g) : Calls Try.prog 16 #[.pointer (some ⟨g, 0, none⟩), .int .i64 3] w fun e w' => e = .returned (.int .i64 0) ∧ Own w0 w' ([3], 3) g := put_own h (by decide) 3
theorem al2 (h : Own w0 w ([3], 3) g) : Calls Try.prog 16 #[.pointer (some ⟨g, 0, none⟩), .int .i64 5] w fun e w' => e = .returned (.int .i64 0) ∧ Own w0 w' ([3, 5], 3) g := put_own h (by decide) 5
theorem al3 (h : Own w0 w ([3, 5], 3) g) : Calls Try.prog 20 #[.pointer (some ⟨g, 0, none⟩), .int .i64 7] w fun e w' => e = .returned (.int .i64 0) ∧ Own w0 w' ([7, 3, 5], 3) g := back_own h (by decide) 7
theorem al4 (h : Own w0 w ([7, 3, 5], 3) g) : Calls Try.prog 16 #[.pointer (some ⟨g, 0, none⟩), .int .i64 9] w fun e w' => e = .returned (.int .i64 13) ∧ Own w0 w' ([7, 3, 5], 3) g := put_own h (by decide) 9
theorem al5 (h : Own w0 w ([7, 3, 5], 3) g) : Calls Try.prog 16 #[.pointer (some ⟨g, 0, none⟩), .int .i64 3] w fun e w' => e = .returned (.int .i64 1) ∧ Own w0 w' ([7, 3, 5], 3) g := put_own h (by decide) 3
theorem al6 (h : Own w0 w ([7, 3, 5], 3) g) : Calls Try.prog 19 #[.pointer (some ⟨g, 0, none⟩)] w fun e w' => e = .returned (.tuple #[.int .i64 7, .bool true]) ∧ Own w0 w' ([3, 5], 3) g := first_own h (by decide)
theorem al7 (h : Own w0 w ([3, 5], 3) g) : Calls Try.prog 18 #[.pointer (some ⟨g, 0, none⟩), .int .i64 5] w fun e w' => e = .returned (.int .i64 1) ∧ Own w0 w' ([3, 5], 3) g := place_own h (by decide) 5
theorem al8 (h : Own w0 w ([3, 5], 3) g) : Calls Try.prog 17 #[.pointer (some ⟨g, 0, none⟩), .int .i64 3] w fun e w' => e = .returned (.bool true) ∧ Own w0 w' ([5], 3) g := cut_own h (by decide) 3 (by decide)
theorem al9 (h : Own w0 w ([5], 3) g) : Calls Try.prog 17 #[.pointer (some ⟨g, 0, none⟩), .int .i64 3] w fun e w' => e = .returned (.bool false) ∧ Own w0 w' ([5], 3) g := cut_none_own h (by decide) 3 (by decide)
end
set_option maxHeartbeats 1600000 in
theorem alive_calls (w : World) : Calls Try.prog 14 #[] w fun e w' => e = .returned (.bool true) ∧ Below w.heap.size w w' := by
  go_enter Try.func14, Try.ntmps14
  go_wp2_with (first
    | (go_at_call 15; refine (al0 _).mono ?_; rintro e w' ⟨g, rfl, HS0⟩)
    | (go_at_call 16; refine (al1 HS0).mono ?_; rintro e w' ⟨rfl, HS1⟩; clear HS0)
    | (go_at_call 16; refine (al2 HS1).mono ?_; rintro e w' ⟨rfl, HS2⟩; clear HS1)
    | (go_at_call 20; refine (al3 HS2).mono ?_; rintro e w' ⟨rfl, HS3⟩; clear HS2)
    | (go_at_call 16; refine (al4 HS3).mono ?_; rintro e w' ⟨rfl, HS4⟩; clear HS3)
    | (go_at_call 16; refine (al5 HS4).mono ?_; rintro e w' ⟨rfl, HS5⟩; clear HS4)
    | (go_at_call 19; refine (al6 HS5).mono ?_; rintro e w' ⟨rfl, HS6⟩; clear HS5)
    | (go_at_call 18; refine (al7 HS6).mono ?_; rintro e w' ⟨rfl, HS7⟩; clear HS6)
    | (go_at_call 17; refine (al8 HS7).mono ?_; rintro e w' ⟨rfl, HS8⟩; clear HS7)
    | (go_at_call 17; refine (al9 HS8).mono ?_; rintro e w' ⟨rfl, HS9⟩; clear HS8))
  go_ret
  exact ⟨rfl, HS9.below⟩
end Go.Proofs.Ytohphkdemonlkaa.Qw
/- The queue's All. -/
namespace Go.Proofs.Ytohphkdemonlkaa.Qw
open Go.RowKit Go.Proofs.Ytohphkdemonlkaa.XQt Go.Proofs.YtohphkdemonlkaaW.PrintWords Go.Proofs.YtohphkdemonlkaaW.PrintLast Go.Proofs.YtohphkdemonlkaaW.PrintMore Go.Proofs.Ytohphkdemonlkaa.Ob

/-- slices.Clone of a row of one's own. -/
theorem clone_calls {w : World} {base : Nat} {ok : Nat → Prop} {A : Option Addr} {n c : Nat} {l : List Int} (h : (Kd.int .i64).Q 3 w base ok (.slice A n c) l) (hl : n ≤ 1000000000) :
    Calls Try.prog 47 #[.slice A n c] w fun e w' => ∃ A1 c1, e = .returned (.slice A1 n c1) ∧ (Kd.int .i64).R 3 w' w.heap.size (fun k => w.heap.size ≤ k) (.slice A1 n c1) l ∧ Below w.heap.size w w' := by
  have hln : n = l.length := (Kd.Q_reads' h).1
  cases A with
  | none =>
    have hn : n = 0 := by
      rcases Nat.eq_zero_or_pos n with h0 | h0
      · exact h0
      · obtain ⟨_, _, e⟩ := q_addr h h0
        cases e
    subst hn
    obtain rfl : l = [] := List.eq_nil_of_length_eq_zero hln.symm
    refine (Try.slices_Clone_int_nil 0 c w).mono ?_
    rintro e w' ⟨rfl, rfl⟩
    exact ⟨none, 0, rfl, Kd.R_nil _ _ _ _ _, Below.refl _ _⟩
  | some a =>
    have hfin : ∀ e w', (∃ v', e = Ending.returned v' ∧ w'.ownsRow w.heap.size 3 1 v' n (l.map (Value.int .i64)) ∧ v' ≠ .slice none 0 0 ∧ Below w.heap.size w w') → ∃ A1 c1, e = .returned (.slice A1 n c1) ∧ (Kd.int .i64).R 3 w' w.heap.size (fun k => w.heap.size ≤ k) (.slice A1 n c1) l ∧ Below w.heap.size w w' := by
      rintro e w' ⟨v, rfl, ho, _, hb⟩
      have hr : (Kd.int .i64).R 3 w' w.heap.size (fun k => w.heap.size ≤ k) v l := Kd.R_of_own (by rw [← hln]; exact ho) (fun k hk => by
        obtain ⟨_, h2⟩ := ho
        rcases h2 with ⟨rfl, _⟩ | ⟨g, cap, cur, rfl, hg, _⟩
        · cases hk
        · cases hk
          exact hg)
      obtain ⟨A1, c1, rfl⟩ := Kd.R_slice hr
      rw [← hln] at hr ⊢
      exact ⟨A1, c1, rfl, hr, hb⟩
    rcases Nat.eq_zero_or_pos n with rfl | hp
    · obtain rfl : l = [] := List.eq_nil_of_length_eq_zero hln.symm
      exact (Try.slices_Clone_int_zero a c w).mono hfin
    · obtain ⟨b, o, e⟩ := q_addr h hp
      obtain rfl := Option.some.inj e
      obtain ⟨hc, _⟩ := q_cells_of h hp
      refine (Try.slices_Clone_int b o n c l w (by omega) (by omega) hc).mono ?_
      rw [hln, List.take_length, ← hln]
      exact hfin
/-- All that wait. -/
theorem all_calls (q : List Int × Int) (w : World) (g : Nat) (base : Nat) (ok : Nat → Prop) (hl : q.1.length ≤ 1000000000)
    (hq : QK.M w base ok q [.pointer (some ⟨g, 0, none⟩)]) :
    Calls Try.prog 21 #[.pointer (some ⟨g, 0, none⟩)] w fun e w' => ∃ A1 c1, e = .returned (.slice A1 q.1.length c1) ∧ (Kd.int .i64).R 3 w' w.heap.size (fun k => w.heap.size ≤ k) (.slice A1 q.1.length c1) q.1 ∧ Below w.heap.size w w' := by
  obtain ⟨g', A, c, he, hbg, hok, hg, hc, hQ⟩ := qk_open hq
  obtain rfl : g = g' := by simpa using he
  have h0 : w.cell? ⟨g, 0, none⟩ = some (.slice A q.1.length c) := by simp [World.cell?, hg]
  have HQ := Aside0.mk (clone_calls hQ hl)
  clear hQ hg hc he hq hok hbg
  go_enter Try.func21, Try.ntmps21
  go_wp2_with (go_at_call 47; refine HQ.out.mono ?_; rintro e w' ⟨A1, c1, rfl, hR, hB⟩)
  go_ret
  exact ⟨A1, c1, rfl, hR, hB⟩
theorem all_own {w0 w : World} {q : List Int × Int} {g : Nat} (h : Own w0 w q g) (hl : q.1.length ≤ 1000000000) :
    Calls Try.prog 21 #[.pointer (some ⟨g, 0, none⟩)] w fun e w' => ∃ A1 c1, e = .returned (.slice A1 q.1.length c1) ∧ Aside0 ((Kd.int .i64).R 3 w' w.heap.size (fun k => w.heap.size ≤ k) (.slice A1 q.1.length c1) q.1) ∧ Own w0 w' q g := by
  refine (all_calls q w g _ _ hl h.m).mono ?_
  rintro e w' ⟨A1, c1, rfl, hR, hB⟩
  exact ⟨A1, c1, rfl, ⟨hR⟩, own_of h (Stay.of_below hB) (M_stay h.m (Stay.of_below (ok := fun _ => False) hB) (fun _ _ e => e))⟩
end Go.Proofs.Ytohphkdemonlkaa.Qw
