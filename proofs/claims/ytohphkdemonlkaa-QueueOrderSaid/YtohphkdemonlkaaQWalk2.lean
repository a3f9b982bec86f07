/- Contracts of the queue's methods: Put, First, Place, New. -/
import Derived.Test.YtohphkdemonlkaaQWalk1
namespace Go.Proofs.Ytohphkdemonlkaa.Qw
open Go.RowKit Go.Proofs.Ytohphkdemonlkaa.XQt Go.Proofs.YtohphkdemonlkaaW.PrintWords Go.Proofs.YtohphkdemonlkaaW.PrintLast Go.Proofs.YtohphkdemonlkaaW.PrintMore Go.Proofs.Ytohphkdemonlkaa.Ob

theorem qk_mk {w : World} {base : Nat} {ok : Nat → Prop} {l : List Int} {m : Int} {g : Nat} {v : Value} (hb : base ≤ g) (ho : ok g) (hg : w.heap[g]? = some (.cells #[v, .int .i64 m] 80 (0, 0)))
    (hq : (Kd.int .i64).Q 3 w base (fun k => ok k ∧ k ≠ g) v l) : QK.M w base ok (l, m) [.pointer (some ⟨g, 0, none⟩)] :=
  ⟨g, _, rfl, hb, ho, hg, [v], [.int .i64 m], rfl, ⟨v, rfl, hq⟩, rfl⟩
theorem info3 : (Try.prog.info? 3).map (fun i => (i.zero, i.size, i.bytes)) = some (some (.int .i64 0), 1, 8) := by kernel_rfl

/-- A call waits behind all others. -/
def putQ (q : List Int × Int) (id : Int) : List Int × Int := if mayC q id = 0 then (q.1 ++ [id], q.2) else q

set_option maxHeartbeats 800000 in
theorem put_calls (q : List Int × Int) (id : Int) (w : World) (g : Nat) (base : Nat) (ok : Nat → Prop) (hb : base ≤ w.heap.size) (hl : q.1.length ≤ 1000000000)
    (hq : QK.M w base ok q [.pointer (some ⟨g, 0, none⟩)]) :
    Calls Try.prog 16 #[.pointer (some ⟨g, 0, none⟩), .int .i64 id] w fun e w' => e = .returned (.int .i64 (mayC q id)) ∧
      QK.M w' base (fun k => ok k ∨ w.heap.size ≤ k) (putQ q id) [.pointer (some ⟨g, 0, none⟩)] ∧ Stay ok w w' := by
  obtain ⟨g', A, c, he, hbg, hok, hg, hc, hQ⟩ := qk_open hq
  obtain rfl : g = g' := by simpa using he
  have HM := Aside0.mk (may_calls q id w g A c base _ hg hc (by omega) hQ)
  by_cases hz : mayC q id = 0
  · have HZ := Aside0.mk hz
    have HP : Aside0 (putQ q id = (q.1 ++ [id], q.2)) := ⟨by unfold putQ; rw [if_pos hz]⟩
    have HQ := Aside0.mk hQ
    have HG := Aside0.mk hg
    have HO := Aside0.mk hok
    have HBG := Aside0.mk hbg
    have h0 : w.cell? ⟨g, 0, none⟩ = some (.slice A q.1.length c) := by simp [World.cell?, hg]
    clear hz hQ hg hc he hq hok hbg
    have hgl := blk_lt HG.out
    go_enter Try.func16, Try.ntmps16
    have HQ' : Aside0 ((Kd.int .i64).Q 3 w base (fun k => (ok k ∨ w.heap.size ≤ k) ∧ k ≠ g) (.slice A q.1.length c) q.1) := ⟨Kd.Q_mono HQ.out (fun k hk => ⟨.inl hk.1, hk.2⟩)⟩
    go_wp2_with (first
      | (go_at_call 43; refine HM.out.mono ?_; rintro e w' ⟨rfl, ⟨nd, rfl⟩⟩; rw [HZ.out])
      | ((with_reducible refine gate_builtin (b := .append) (xs := #[.tmp 15, .tmp 17]) rfl ?_); at_builtin; refine Kd.Q_append (Kd.int .i64) (w0 := w.drewN nd) base rfl (.tmp 15) (.tmp 17) 33 3 (.int .i64 0) 8 rfl Try.underlying33 info3 rfl (by decide) (by omega) (.slice A q.1.length c) q.1 id [.int .i64 id] (fun k => (ok k ∨ w.heap.size ≤ k) ∧ k ≠ g) (fun _ => False) rfl rfl ?aP (fun _ hk => hk.elim) ?aF ?aO ?aB ?aS ?aL ?_; (case aP => exact rfl); (case aF => exact (fun k hk => ⟨.inr hk, by have hk' : w.heap.size ≤ k := hk; omega⟩)); (case aO => exact Kd.Q_drewN HQ'.out nd); (case aB => exact Below.refl _ _); (case aS => exact hb); (case aL => omega); intro v1 w1 hQ1 hB1 hG1 _; have hbk := (hG1.block g hgl (Kd.Q_away HQ'.out (fun k hk => hk.2))).trans HG.out; obtain ⟨A1, c1, rfl, _⟩ := Kd.Q_slice hQ1; have k0 : w1.cell? ⟨g, 0, none⟩ = some (.slice A q.1.length c) := (by simp [World.cell?, hbk]); have f0 : w1.frozen? ⟨g, 0, none⟩ = false := (by simp [World.frozen?, hbk]); have HQ1 := Aside0.mk hQ1; have HG1 := Aside0.mk hG1; have HBK := Aside0.mk hbk; clear hQ1 hB1 hG1 hbk))
    go_ret
    have hbk2 : (w1.setCell ⟨g, 0, none⟩ (.slice A1 (q.1 ++ [id]).length c1)).heap[g]? = some (.cells #[.slice A1 (q.1 ++ [id]).length c1, .int .i64 q.2] 80 (0, 0)) := blk_put HBK.out 0 _ rfl
    have hq1 := HQ1.out
    rw [List.length_append, List.length_singleton] at hbk2 hq1
    refine ⟨by rw [HZ.out]; rfl, ?_, ?_⟩
    · rw [HP.out]
      exact qk_mk HBG.out (.inl HO.out) hbk2 (Kd.Q_far (p := ⟨g, 0, none⟩) hq1 (fun k hk => hk.2) _)
    · exact ((Stay.refl ok w).drewN nd |>.grown HG1.out (fun k hk => .inl (HQ.out.1 k hk).1)).setCell (.inl HO.out) _
  · have HZ : Aside0 ((mayC q id == 0) = false) := ⟨beq_eq_false_iff_ne.2 hz⟩
    have HP : Aside0 (putQ q id = q) := ⟨by unfold putQ; rw [if_neg hz]⟩
    have HQ := Aside0.mk hq
    generalize mayC q id = m at HM HZ ⊢
    clear hz hQ hg hc he hq hok hbg
    have hz := HZ.out
    go_enter Try.func16, Try.ntmps16
    go_wp2_with (go_at_call 43; refine HM.out.mono ?_; rintro e w' ⟨rfl, ⟨nd, rfl⟩⟩)
    go_ret
    exact ⟨rfl, by rw [HP.out]; exact Kd.M_drewN (QK.M_mono (fun k hk => .inl hk) HQ.out) nd, (Stay.refl ok w).drewN nd⟩

/-- A new queue. -/
theorem new_calls (most : Int) (hm : 1 ≤ most) (w : World) (base : Nat) (hb : base ≤ w.heap.size) :
    Calls Try.prog 15 #[.int .i64 most] w fun e w' => ∃ g, e = .returned (.pointer (some ⟨g, 0, none⟩)) ∧ w.heap.size ≤ g ∧
      QK.M w' base (fun k => w.heap.size ≤ k) ([], most) [.pointer (some ⟨g, 0, none⟩)] ∧ Stay (fun _ => False) w w' := by
  have h1 : decide (most < 1) = false := decide_eq_false (by omega)
  clear hm
  go_enter Try.func15, Try.ntmps15
  go_wp2
  go_ret
  refine ⟨w.heap.size, rfl, Nat.le_refl _, ?_, (Stay.refl _ w).alloc _⟩
  exact qk_mk hb (Nat.le_refl _) (heap_alloc_new w _) (Kd.Q_nil _ _ _ _ _)
theorem new_none (most : Int) (hm : most < 1) (w : World) :
    Calls Try.prog 15 #[.int .i64 most] w fun e w' => e = .returned (.pointer none) ∧ w' = w := by
  have h1 : decide (most < 1) = true := decide_eq_true hm
  clear hm
  go_enter Try.func15, Try.ntmps15
  go_wp2
  go_ret
  exact ⟨rfl, rfl⟩

/-- How many are ahead of one. -/
theorem place_calls (q : List Int × Int) (id : Int) (w : World) (g : Nat) (base : Nat) (ok : Nat → Prop) (hl : q.1.length ≤ 1000000000)
    (hq : QK.M w base ok q [.pointer (some ⟨g, 0, none⟩)]) :
    Calls Try.prog 18 #[.pointer (some ⟨g, 0, none⟩), .int .i64 id] w fun e w' => e = .returned (.int .i64 (ix q.1 id)) ∧ Drawn0 w w' := by
  obtain ⟨g', A, c, he, hbg, hok, hg, hc, hQ⟩ := qk_open hq
  obtain rfl : g = g' := by simpa using he
  have HC := Aside0.mk (Kd.Q_reads' hQ).2.2
  have HF := Aside0.mk (index_f q.1 id (by omega))
  have HL := Aside0.mk hc
  have h0 : w.cell? ⟨g, 0, none⟩ = some (.slice A q.1.length c) := by simp [World.cell?, hg]
  clear hQ hg hc he hq hok hbg
  go_enter Try.func18, Try.ntmps18
  go_wp2_with (go_at_call 45; refine (slices_Index_int_int.calls _ A c q.1 id _ _ HC.out HL.out HF.out).mono ?_; rintro e w' ⟨rfl, ⟨nd, rfl⟩⟩)
  go_ret
  exact ⟨rfl, by repeat (first | exact Drawn0.refl _ | apply Drawn0.step)⟩

theorem q_addr {w : World} {base : Nat} {ok : Nat → Prop} {A : Option Addr} {n c : Nat} {l : List Int} (h : (Kd.int .i64).Q 3 w base ok (.slice A n c) l) (hn : 0 < n) : ∃ b o, A = some ⟨b, o, none⟩ := by
  have hl : n = l.length := (Kd.Q_reads' h).1
  obtain ⟨_, inner, ⟨_, hr⟩, _⟩ := h
  rcases hr with ⟨h0, _⟩ | ⟨b, o, cap, cur, hv, _⟩
  · omega
  · injection hv with hv _ _
    exact ⟨b, _, hv⟩
/-- The first call is taken. -/
theorem first_none (m : Int) (w : World) (g : Nat) (base : Nat) (ok : Nat → Prop)
    (hq : QK.M w base ok ([], m) [.pointer (some ⟨g, 0, none⟩)]) :
    Calls Try.prog 19 #[.pointer (some ⟨g, 0, none⟩)] w fun e w' => e = .returned (.tuple #[.int .i64 0, .bool false]) ∧ Drawn0 w w' := by
  obtain ⟨g', A, c, he, hbg, hok, hg, hc, hQ⟩ := qk_open hq
  obtain rfl : g = g' := by simpa using he
  have h0 : w.cell? ⟨g, 0, none⟩ = some (.slice A 0 c) := by simp [World.cell?, hg]
  clear hQ hg hc he hq hok hbg
  go_enter Try.func19, Try.ntmps19
  go_wp2
  go_ret2
  exact ⟨rfl, by repeat (first | exact Drawn0.refl _ | apply Drawn0.step)⟩
theorem first_calls (x : Int) (l : List Int) (m : Int) (w : World) (g : Nat) (base : Nat) (ok : Nat → Prop) (hl : l.length ≤ 1000000000)
    (hq : QK.M w base ok (x :: l, m) [.pointer (some ⟨g, 0, none⟩)]) :
    Calls Try.prog 19 #[.pointer (some ⟨g, 0, none⟩)] w fun e w' => e = .returned (.tuple #[.int .i64 x, .bool true]) ∧
      QK.M w' base ok (l, m) [.pointer (some ⟨g, 0, none⟩)] ∧ Stay ok w w' := by
  obtain ⟨g', A, c, he, hbg, hok, hg, hc, hQ⟩ := qk_open hq
  obtain rfl : g = g' := by simpa using he
  obtain ⟨b, o, rfl⟩ := q_addr hQ (by simp)
  obtain ⟨ad, had, hx⟩ := Kd.at_int (Kd.Q_reads' hQ).2.2 0 (by omega) (by simp)
  obtain rfl := Option.some.inj had
  have hQd := Kd.Q_drop (k := 1) hQ (by simp)
  simp only [List.length_cons] at hg hc hQ hQd
  have hx0 : w.cell? ⟨b, o, none⟩ = some (.int .i64 x) := hx
  have h0 : w.cell? ⟨g, 0, none⟩ = some (.slice (some ⟨b, o, none⟩) (l.length + 1) c) := by simp [World.cell?, hg]
  have f0 : w.frozen? ⟨g, 0, none⟩ = false := by simp [World.frozen?, hg]
  obtain ⟨i0, hi, hz0, hz1, hz2⟩ := info_parts info3
  have HQd : Aside0 ((Kd.int .i64).Q 3 w base (fun k => ok k ∧ k ≠ g) (.slice (if c = 1 then some ⟨b, o, none⟩ else some ⟨b, o + 1, none⟩) l.length (c - 1)) l) := ⟨hQd⟩
  have HG := Aside0.mk hg
  have HO := Aside0.mk hok
  have HBG := Aside0.mk hbg
  have hcut := cut_from (P := Try.prog) 33 3 .i64 Try.underlying33 hi 1 hz1 (some ⟨b, o, none⟩) (l.length + 1) c 1 (by omega) (by omega)
  clear hi hz0 hz1 hz2 hQ hQd hg hok hbg hx he hq had hc
  by_cases hc1 : c = 1
  · subst hc1
    go_enter Try.func19, Try.ntmps19
    go_wp2
    go_ret2
    exact ⟨rfl, qk_mk HBG.out HO.out (blk_put HG.out 0 _ rfl) (Kd.Q_far (p := ⟨g, 0, none⟩) (by have h := HQd.out; rw [if_pos trivial] at h; exact h) (fun k hk => hk.2) _), (Stay.refl ok w).setCell (.inl HO.out) _⟩
  · have H1 := Aside0.mk hc1
    go_enter Try.func19, Try.ntmps19
    go_wp2
    go_ret2
    exact ⟨rfl, qk_mk HBG.out HO.out (blk_put HG.out 0 _ rfl) (Kd.Q_far (p := ⟨g, 0, none⟩) (by have h := HQd.out; rw [if_neg H1.out] at h; exact h) (fun k hk => hk.2) _), (Stay.refl ok w).setCell (.inl HO.out) _⟩
end Go.Proofs.Ytohphkdemonlkaa.Qw
