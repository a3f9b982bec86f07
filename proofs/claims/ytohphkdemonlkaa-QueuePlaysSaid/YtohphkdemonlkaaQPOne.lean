/- Merged: QPa QPb QPo QPc. -/
import Derived.Test.YtohphkdemonlkaaIBOne
import Derived.Test.YtohphkdemonlkaaQOne
import Derived.Deep.SlicePairs
import Derived.SizedLaws
import Derived.Lib.SmallJoins
/- The queue, the statement's own row and the Book side by side. -/
namespace Go.Proofs.Ytohphkdemonlkaa.Qp
open Go.RowKit Go.Proofs.Ytohphkdemonlkaa.XQt Go.Proofs.YtohphkdemonlkaaW.PrintWords Go.Proofs.YtohphkdemonlkaaW.PrintLast Go.Proofs.YtohphkdemonlkaaW.PrintMore Go.Proofs.Ytohphkdemonlkaa.Ob Go.Proofs.Ytohphkdemonlkaa.Qw
theorem cells_of_heap {w : World} {g : Nat} {cs : Array Value} {t : TypeId} (h : w.heap[g]? = some (.cells cs t (0, 0))) (j : Nat) (v : Value) (hv : cs[j]? = some v) : w.cell? ⟨g, j, none⟩ = some v := Bi.cells_of_heap h j v hv
theorem heap_lt {W : World} {k : Nat} {o : Obj} (h : W.heap[k]? = some o) : k < W.heap.size := by
  rcases Nat.lt_or_ge k W.heap.size with h1 | h1
  · exact h1
  · rw [Array.getElem?_eq_none h1] at h; cases h
/-- A queue, and which blocks are its own. -/
structure QOn (w : World) (ok : Nat → Prop) (l : List Int) (m : Int) (g : Nat) : Prop where
  old : ∀ k, ok k → k < w.heap.size
  m : QK.M w 0 ok (l, m) [.pointer (some ⟨g, 0, none⟩)]
theorem QOn.stay {w w1 : World} {ok ok' : Nat → Prop} {l : List Int} {m : Int} {g : Nat} (h : QOn w ok l m g) (hs : Stay ok' w w1) (hd : ∀ k, ok k → ¬ ok' k) : QOn w1 ok l m g :=
  ⟨fun k hk => Nat.lt_of_lt_of_le (h.old k hk) hs.size, M_stay h.m hs hd⟩
theorem QOn.of {w : World} {ok : Nat → Prop} {q : List Int × Int} {g : Nat} (h : QK.M w 0 ok q [.pointer (some ⟨g, 0, none⟩)]) : QOn w (fun k => ok k ∧ k < w.heap.size) q.1 q.2 g :=
  ⟨fun _ hk => hk.2, QK.M_mono (fun _ hk => ⟨hk.1, hk.2.2.1⟩) (QK.M_bound h)⟩
/-- The queue (l', m), the statement's own row l, the Book, the variables vs: nobody shares with another one. -/
structure QMg (w0 W : World) (b g : Nat) (l' : List Int) (m : Int) (l : List Int) (R : Option Addr) (rc : Nat) (vs : List (Nat × Obj)) (ok z y : Nat → Prop) : Prop where
  bel : Below w0.heap.size w0 W
  t : QOn W ok l' m g
  r : Bi.FR W R l.length rc l
  r0 : ∀ k : Nat, R = some ⟨k, 0, none⟩ → w0.heap.size ≤ k ∧ z k ∧ ¬ ok k
  t0 : ∀ k, ok k → w0.heap.size ≤ k ∧ z k
  v : ∀ p ∈ vs, W.heap[p.1]? = some p.2 ∧ z p.1 ∧ ¬ ok p.1
  kp : Bi.Kp w0.heap.size z y W b
def QM (w0 W : World) (b g : Nat) (l' : List Int) (m : Int) (l : List Int) (R : Option Addr) (rc : Nat) (vs : List (Nat × Obj)) : Prop := ∃ ok z y, QMg w0 W b g l' m l R rc vs ok z y
section
variable {w0 W W' : World} {b g : Nat} {l l' l2 : List Int} {m : Int} {R : Option Addr} {rc : Nat} {vs : List (Nat × Obj)} {ok ok' z y S : Nat → Prop}
theorem kp_lt (h : Bi.Kp w0.heap.size z y W b) : ∀ k, z k → k < W.heap.size := fun k hk => by
  obtain ⟨ρ, _, _, h3, _⟩ := h
  exact (h3 k hk).1
theorem QMg.step (h : QMg w0 W b g l' m l R rc vs ok z y) (hs : Stay S W W') (hS : ∀ k, S k → ok k) (ht : QOn W' ok' l2 m g) (ho : ∀ k, ok' k → ok k ∨ W.heap.size ≤ k) :
    QMg w0 W' b g l2 m l R rc vs ok' (fun k => z k ∨ (W.heap.size ≤ k ∧ k < W'.heap.size)) y := by
  have hz := kp_lt h.kp
  have hb := h.bel.size
  refine ⟨hs.below h.bel fun k hk => (h.t0 k (hS k hk)).1, ht, h.r.keep fun k e => hs.block k (h.r.lt k e) fun e2 => (h.r0 k e).2.2 (hS k e2), fun k e => ⟨(h.r0 k e).1, .inl (h.r0 k e).2.1, fun e2 => ?_⟩, fun k hk => ?_, fun p hp => ?_, h.kp.stay hs fun k _ e => .inr (h.t0 k (hS k e)).2⟩
  · rcases ho k e2 with e3 | e3
    · exact (h.r0 k e).2.2 e3
    · have := h.r.lt k e; omega
  · have h2 := ht.old k hk
    rcases ho k hk with h1 | h1
    · exact ⟨(h.t0 k h1).1, .inl (h.t0 k h1).2⟩
    · exact ⟨by omega, .inr ⟨h1, h2⟩⟩
  · obtain ⟨h1, h2, h3⟩ := h.v p hp
    have hl := heap_lt h1
    refine ⟨(hs.block p.1 hl fun e => h3 (hS _ e)).trans h1, .inl h2, fun e => ?_⟩
    rcases ho _ e with e | e
    · exact h3 e
    · omega
theorem QM.back (h : QM w0 W b g l' m l R rc vs) : Below w0.heap.size w0 W := by
  obtain ⟨ok, z, y, h⟩ := h
  exact h.bel
theorem QM.var (h : QM w0 W b g l' m l R rc vs) {p : Nat × Obj} (hp : p ∈ vs) : W.heap[p.1]? = some p.2 := by
  obtain ⟨ok, z, y, h⟩ := h
  exact (h.v p hp).1
theorem QM.row (h : QM w0 W b g l' m l R rc vs) : Bi.FR W R l.length rc l := by
  obtain ⟨ok, z, y, h⟩ := h
  exact h.r
theorem QM.forget (h : QM w0 W b g l' m l R rc vs) : QM w0 W b g l' m l R rc [] := by
  obtain ⟨ok, z, y, h⟩ := h
  exact ⟨ok, z, y, h.bel, h.t, h.r, h.r0, h.t0, (fun p hp => by cases hp), h.kp⟩
theorem QMg.below (h : QMg w0 W b g l' m l R rc vs ok z y) (hb : Below W.heap.size W W') : QMg w0 W' b g l' m l R rc vs ok (fun k => z k ∨ (W.heap.size ≤ k ∧ k < W'.heap.size)) y :=
  h.step (Stay.of_below (ok := fun _ => False) hb) (fun _ e => e.elim) (h.t.stay (Stay.of_below (ok := fun _ => False) hb) (fun _ _ e => e)) (fun _ hk => .inl hk)
theorem QM.below (h : QM w0 W b g l' m l R rc vs) (hb : Below W.heap.size W W') : QM w0 W' b g l' m l R rc vs := by
  obtain ⟨ok, z, y, h⟩ := h
  exact ⟨_, _, _, h.below hb⟩
theorem QM.alloc (h : QM w0 W b g l' m l R rc vs) (cs : Array Value) (t : TypeId) : QM w0 (W.alloc (.cells cs t)) b g l' m l R rc ((W.heap.size, .cells cs t (0, 0)) :: vs) := by
  obtain ⟨ok, z, y, h⟩ := h
  have hb : Below W.heap.size W (W.alloc (.cells cs t)) := below_alloc (Below.refl _ _) _
  have h2 := h.below hb
  refine ⟨_, _, _, h2.bel, h2.t, h2.r, h2.r0, h2.t0, fun p hp => ?_, h2.kp⟩
  rcases List.mem_cons.1 hp with rfl | hp
  · exact ⟨heap_alloc_new W _, .inr ⟨Nat.le_refl _, by simp⟩, fun e => by have := h.t.old _ e; dsimp only at this; omega⟩
  · exact h2.v p hp
/-- Another row: of a new block, or none. -/
theorem QM.row' (h : QM w0 W b g l' m l R rc vs) {R' : Option Addr} {rc' : Nat} {l3 : List Int} (hb : Below W.heap.size W W') (hF : Bi.FR W' R' l3.length rc' l3) (hR : ∀ k : Nat, R' = some ⟨k, 0, none⟩ → W.heap.size ≤ k) : QM w0 W' b g l' m l3 R' rc' vs := by
  obtain ⟨ok, z, y, h⟩ := h
  have h2 := h.below hb
  have hb0 := h.bel.size
  exact ⟨_, _, _, h2.bel, h2.t, hF, fun k e => ⟨by have := hR k e; omega, .inr ⟨hR k e, hF.lt k e⟩, fun e2 => by have := h.t.old k e2; have := hR k e; omega⟩, h2.t0, h2.v, h2.kp⟩
/-! ### what each call leaves -/
theorem put_ql (h : QM w0 W b g l' m l R rc vs) (id : Int) (hl : l'.length ≤ 1000000000) :
    Calls Try.prog 16 #[.pointer (some ⟨g, 0, none⟩), .int .i64 id] W fun e W' => e = .returned (.int .i64 (mayC (l', m) id)) ∧ QM w0 W' b g (putQ (l', m) id).1 m l R rc vs := by
  obtain ⟨ok, z, y, h⟩ := h
  refine (put_calls (l', m) id W g 0 ok (Nat.zero_le _) hl h.t.m).mono ?_
  rintro e W' ⟨rfl, hm, hs⟩
  have h2 := QOn.of hm
  have e2 : (putQ (l', m) id).2 = m := by unfold putQ; split <;> rfl
  rw [e2] at h2
  exact ⟨rfl, _, _, _, h.step hs (fun _ e => e) h2 (fun k hk => hk.1)⟩
theorem back_ql (h : QM w0 W b g l' m l R rc vs) (id : Int) (hl : l'.length ≤ 1000000000) :
    Calls Try.prog 20 #[.pointer (some ⟨g, 0, none⟩), .int .i64 id] W fun e W' => e = .returned (.int .i64 (mayC (l', m) id)) ∧ QM w0 W' b g (backQ (l', m) id).1 m l R rc vs := by
  obtain ⟨ok, z, y, h⟩ := h
  refine (back_calls (l', m) id W g 0 ok (Nat.zero_le _) hl h.t.m (fun k hk hn => by have := h.t.old k hn; omega)).mono ?_
  rintro e W' ⟨rfl, hm, hs⟩
  have h2 := QOn.of hm
  have e2 : (backQ (l', m) id).2 = m := by unfold backQ; split <;> rfl
  rw [e2] at h2
  exact ⟨rfl, _, _, _, h.step hs (fun _ e => e) h2 (fun k hk => hk.1)⟩
theorem QMg.drawn (h : QMg w0 W b g l' m l R rc vs ok z y) (hd : Drawn0 W W') : QM w0 W' b g l' m l R rc vs := by
  obtain ⟨nd, rfl⟩ := hd
  exact ⟨_, _, _, h.below (pw_below_drewN (Below.refl _ _) nd)⟩
theorem first_ql {x : Int} (h : QM w0 W b g (x :: l') m l R rc vs) (hl : l'.length ≤ 1000000000) :
    Calls Try.prog 19 #[.pointer (some ⟨g, 0, none⟩)] W fun e W' => e = .returned (.tuple #[.int .i64 x, .bool true]) ∧ QM w0 W' b g l' m l R rc vs := by
  obtain ⟨ok, z, y, h⟩ := h
  refine (first_calls x l' m W g 0 ok hl h.t.m).mono ?_
  rintro e W' ⟨rfl, hm, hs⟩
  have h2 := QOn.of hm
  exact ⟨rfl, _, _, _, h.step hs (fun _ e => e) h2 (fun k hk => .inl hk.1)⟩
theorem first_none_ql (h : QM w0 W b g [] m l R rc vs) :
    Calls Try.prog 19 #[.pointer (some ⟨g, 0, none⟩)] W fun e W' => e = .returned (.tuple #[.int .i64 0, .bool false]) ∧ QM w0 W' b g [] m l R rc vs := by
  obtain ⟨ok, z, y, h⟩ := h
  refine (first_none m W g 0 ok h.t.m).mono ?_
  rintro e W' ⟨rfl, hd⟩
  exact ⟨rfl, h.drawn hd⟩
theorem place_ql (h : QM w0 W b g l' m l R rc vs) (hl : l'.length ≤ 1000000000) (id : Int) :
    Calls Try.prog 18 #[.pointer (some ⟨g, 0, none⟩), .int .i64 id] W fun e W' => e = .returned (.int .i64 (ix l' id)) ∧ QM w0 W' b g l' m l R rc vs := by
  obtain ⟨ok, z, y, h⟩ := h
  refine (place_calls (l', m) id W g 0 ok hl h.t.m).mono ?_
  rintro e W' ⟨rfl, hd⟩
  exact ⟨rfl, h.drawn hd⟩
theorem cut_ql (h : QM w0 W b g l' m l R rc vs) (hl : l'.length ≤ 1000000000) (id : Int) (hn : id ∈ l') :
    Calls Try.prog 17 #[.pointer (some ⟨g, 0, none⟩), .int .i64 id] W fun e W' => e = .returned (.bool true) ∧ QM w0 W' b g (outQ (l', m) id).1 m l R rc vs := by
  obtain ⟨ok, z, y, h⟩ := h
  refine (cut_calls (l', m) id W g 0 ok hl hn h.t.m).mono ?_
  rintro e W' ⟨rfl, hm, hs⟩
  have h2 := QOn.of hm
  exact ⟨rfl, _, _, _, h.step hs (fun _ e => e) h2 (fun k hk => by have := hk.1; first | exact .inl this | exact this)⟩
theorem cut_none_ql (h : QM w0 W b g l' m l R rc vs) (hl : l'.length ≤ 1000000000) (id : Int) (hn : id ∉ l') :
    Calls Try.prog 17 #[.pointer (some ⟨g, 0, none⟩), .int .i64 id] W fun e W' => e = .returned (.bool false) ∧ QM w0 W' b g l' m l R rc vs := by
  obtain ⟨ok, z, y, h⟩ := h
  refine (cut_none (l', m) id W g 0 ok hl hn h.t.m).mono ?_
  rintro e W' ⟨rfl, hd⟩
  exact ⟨rfl, h.drawn hd⟩
end
end Go.Proofs.Ytohphkdemonlkaa.Qp
/- The queue that is none; All, the Book; the statement's own row: cut, copied, joined; plain facts. -/
namespace Go.Proofs.Ytohphkdemonlkaa.Qp
open Go.RowKit Go.Proofs.Ytohphkdemonlkaa.XQt Go.Proofs.YtohphkdemonlkaaW.PrintWords Go.Proofs.YtohphkdemonlkaaW.PrintLast Go.Proofs.YtohphkdemonlkaaW.PrintMore Go.Proofs.Ytohphkdemonlkaa.Ob Go.Proofs.Ytohphkdemonlkaa.Qw
section
variable {w0 W W' : World} {b g : Nat} {l l' l2 : List Int} {m : Int} {R : Option Addr} {rc : Nat} {vs : List (Nat × Obj)}
/-- A copy of what waits: a row that is nobody's yet. -/
def QMr (w0 W : World) (b g : Nat) (l' : List Int) (m : Int) (l : List Int) (R : Option Addr) (rc : Nat) (vs : List (Nat × Obj)) (B : Option Addr) (n : Nat) : Prop :=
  Bi.FR W B l'.length n l' ∧ ∃ ok z y, QMg w0 W b g l' m l R rc vs ok z y ∧ ∀ k : Nat, B = some ⟨k, 0, none⟩ → w0.heap.size ≤ k ∧ z k ∧ ¬ ok k ∧ R ≠ some ⟨k, 0, none⟩ ∧ ∀ p ∈ vs, p.1 ≠ k
theorem all_ql (h : QM w0 W b g l' m l R rc vs) (hl : l'.length ≤ 1000000000) :
    Calls Try.prog 21 #[.pointer (some ⟨g, 0, none⟩)] W fun e W' => ∃ B n, e = .returned (.slice B l'.length n) ∧ QMr w0 W' b g l' m l R rc vs B n := by
  obtain ⟨ok, z, y, h⟩ := h
  refine (all_calls (l', m) W g 0 ok hl h.t.m).mono ?_
  rintro e W' ⟨B, n, rfl, hR, hb⟩
  obtain ⟨B', n', e2, hF, hg⟩ := Bi.fr_of_R hR
  injection e2 with e3 e4 e5
  subst e3; subst e5
  have h2 := h.below hb
  have hb0 := h.bel.size
  refine ⟨B, n, rfl, hF, _, _, _, h2, fun k e => ?_⟩
  have hk := hg k e
  have hk2 := hF.lt k e
  exact ⟨by omega, .inr ⟨hk, hk2⟩, fun e2 => by have := h.t.old k e2; omega, fun e2 => by have := h.r.lt k e2; omega, fun p hp e2 => by have := heap_lt (h.v p hp).1; omega⟩
theorem book_ql {B : Option Addr} {n : Nat} (h : QMr w0 W b g l' m l R rc vs B n) (hl : l'.length ≤ 1000000) : Calls Try.prog 22 #[.pointer (some ⟨b, 0, none⟩), .slice B l'.length n] W fun e W' => e = .returned (.tuple #[]) ∧ QM w0 W' b g l' m l R rc vs ∧ Bi.FR W' B l'.length n l' := by
  obtain ⟨hF, ok, z, y, h, hB⟩ := h
  refine (h.kp.fields hF hl fun k e => ⟨(hB k e).1, (hB k e).2.1⟩).mono ?_
  rintro e W' ⟨rfl, hs, hk⟩
  refine ⟨rfl, ⟨ok, _, _, hs.below h.bel (fun k hk => hk.1), h.t.stay hs fun k h1 h2 => h2.2.1 (h.t0 k h1).2, h.r.keep fun k e => hs.block k (h.r.lt k e) fun h2 => h2.2.1 (h.r0 k e).2.1, fun k e => ⟨(h.r0 k e).1, ⟨(h.r0 k e).2.1, fun e2 => (hB k e2).2.2.2.1 e⟩, (h.r0 k e).2.2⟩, fun k h1 => ⟨(h.t0 k h1).1, (h.t0 k h1).2, fun e => (hB k e).2.2.1 h1⟩, fun p hp => ?_, hk⟩, hF.keep fun k e => hs.block k (hF.lt k e) fun h2 => h2.2.1 (hB k e).2.1⟩
  obtain ⟨h1, h2, h3⟩ := h.v p hp
  exact ⟨(hs.block p.1 (heap_lt h1) fun e => e.2.1 h2).trans h1, ⟨h2, fun e => (hB p.1 e).2.2.2.2 p hp rfl⟩, h3⟩
theorem apart_ql (h : QM w0 W b g l' m l R rc vs) : Calls Try.prog 24 #[.pointer (some ⟨b, 0, none⟩)] W fun e W' => e = .returned (.bool true) ∧ Below w0.heap.size w0 W' := by
  obtain ⟨ok, z, y, h⟩ := h
  refine h.kp.apart.mono ?_
  rintro e W' ⟨rfl, hs⟩
  exact ⟨rfl, hs.below h.bel (fun _ h => h)⟩
end
/-! ### the queue that is none -/
theorem may_no (id : Int) (w : World) : Calls Try.prog 43 #[.pointer none, .int .i64 id] w fun e w' => e = .returned (.int .i64 8) ∧ w' = w := by
  go_enter Try.func43, Try.ntmps43
  go_wp2
  go_ret
  exact ⟨rfl, rfl⟩
theorem put_no (id : Int) (w : World) : Calls Try.prog 16 #[.pointer none, .int .i64 id] w fun e w' => e = .returned (.int .i64 8) ∧ w' = w := by
  go_enter Try.func16, Try.ntmps16
  go_wp2_with (go_at_call 43; refine (may_no id _).mono ?_; rintro e w1 ⟨rfl, rfl⟩)
  go_ret
  exact ⟨rfl, rfl⟩
theorem back_no (id : Int) (w : World) : Calls Try.prog 20 #[.pointer none, .int .i64 id] w fun e w' => e = .returned (.int .i64 8) ∧ w' = w := by
  go_enter Try.func20, Try.ntmps20
  go_wp2_with (go_at_call 43; refine (may_no id _).mono ?_; rintro e w1 ⟨rfl, rfl⟩)
  go_ret
  exact ⟨rfl, rfl⟩
theorem first_no (w : World) : Calls Try.prog 19 #[.pointer none] w fun e w' => e = .returned (.tuple #[.int .i64 0, .bool false]) ∧ w' = w := by
  go_enter Try.func19, Try.ntmps19
  go_wp2
  go_ret2
  exact ⟨rfl, rfl⟩
theorem place_no (id : Int) (w : World) : Calls Try.prog 18 #[.pointer none, .int .i64 id] w fun e w' => e = .returned (.int .i64 (-1)) ∧ w' = w := by
  go_enter Try.func18, Try.ntmps18
  go_wp2
  go_ret
  exact ⟨rfl, rfl⟩
theorem cut_no (id : Int) (w : World) : Calls Try.prog 17 #[.pointer none, .int .i64 id] w fun e w' => e = .returned (.bool false) ∧ w' = w := by
  go_enter Try.func17, Try.ntmps17
  go_wp2_with (go_at_call 18; refine (place_no id _).mono ?_; rintro e w1 ⟨rfl, rfl⟩)
  go_ret
  exact ⟨rfl, rfl⟩
theorem all_no (w : World) : Calls Try.prog 21 #[.pointer none] w fun e w' => e = .returned (.slice none 0 0) ∧ w' = w := by
  go_enter Try.func21, Try.ntmps21
  go_wp2
  go_ret
  exact ⟨rfl, rfl⟩
/-! ### cuts of a row -/
def dropA (A : Option Addr) (k c : Nat) : Option Addr := if c = k then A else A.map fun a => a.add (k * 1)
theorem elem33 : Try.prog.elem 33 = 3 := by simp [Program.elem, Try.underlying33]
theorem slice_low (A : Option Addr) (n c k : Nat) (hk : k ≤ n) (W : World) : (Instr.slice 33 (.slice A n c) (some (.int .i64 (k : Int))) none none).run Try.prog W = .ok (.slice (dropA A k c) (n - k) (c - k)) W := by
  obtain ⟨i0, hi0, _, hsz0, _⟩ := info_parts Bi.infoFd
  have hu : Try.prog.underlying 33 = some (.slice (Try.prog.elem 33)) := by rw [elem33]; exact Try.underlying33
  rw [run_slice_l W 33 A n c hu .i64 (k : Int) (Int.natCast_nonneg _) (by omega), elem33]
  simp [sizeOf, typeInfo, hi0, sliced, Result.andThen, dropA, hsz0]
theorem slice_high (A : Option Addr) (n c j : Nat) (hj : j ≤ c) (W : World) : (Instr.slice 33 (.slice A n c) none (some (.int .i64 (j : Int))) none).run Try.prog W = .ok (.slice A j c) W := by
  obtain ⟨i0, hi0, _, hsz0, _⟩ := info_parts Bi.infoFd
  have hu : Try.prog.underlying 33 = some (.slice (Try.prog.elem 33)) := by rw [elem33]; exact Try.underlying33
  have ha : (A.map fun x => x.add 0) = A := by cases A <;> simp [Addr.add]
  rw [run_slice_h W 33 A n c hu .i64 (j : Int) (Int.natCast_nonneg _) (by omega), elem33]
  simp [sizeOf, typeInfo, hi0, sliced, Result.andThen, ha]
theorem c_drop {w : World} {A : Option Addr} {n c k : Nat} {l : List Int} (hC : Bi.kI.C w A n l) (hk : k ≤ n) (hc : n ≤ c) : Bi.kI.C w (dropA A k c) (n - k) (l.drop k) := by
  have hn : l.length = n := hC.1
  refine ⟨by rw [List.length_drop, hn], by have := hC.2.1; omega, fun h0 => ?_⟩
  obtain ⟨ad, rfl, hx⟩ := hC.2.2 (by omega)
  have hd : dropA (some ad) k c = some (ad.add (k * 1)) := by unfold dropA; rw [if_neg (by omega)]; rfl
  refine ⟨_, hd, fun j p hp => ?_⟩
  rw [List.getElem?_drop] at hp
  obtain ⟨cs, h1, h2, h3⟩ := hx (k + j) p hp
  refine ⟨cs, h1, h2, fun i u hu => ?_⟩
  have := h3 i u hu
  have e : (ad.add (k * 1)).add (j * Bi.kI.sz + i) = ad.add ((k + j) * Bi.kI.sz + i) := by
    rw [Go.Deep.add_add]
    congr 1
    show k * 1 + (j * 1 + i) = (k + j) * 1 + i
    omega
  rw [e]
  exact this
/-! ### plain -/
theorem ix_snoc {l : List Int} (hd : l.Nodup) (id : Int) (i : Nat) (hi : i < l.length) : ix (l.take (i + 1)) id = if l[i] = id then (i : Int) else ix (l.take i) id := by
  rw [List.take_succ_eq_append_getElem hi]
  have hnot : l[i] ∉ l.take i := by
    intro h
    have h2 : (l.take (i + 1)).Nodup := hd.sublist (List.take_sublist _ _)
    rw [List.take_succ_eq_append_getElem hi, List.nodup_append] at h2
    exact h2.2.2 _ h _ (List.mem_singleton.2 rfl) rfl
  unfold ix
  by_cases h : l[i] = id
  · subst h
    rw [if_pos rfl, if_pos (List.mem_append.2 (.inr (List.mem_singleton.2 rfl))), List.idxOf_append, if_neg hnot, List.idxOf_cons_self, List.length_take]
    omega
  · rw [if_neg h]
    by_cases h2 : id ∈ l.take i
    · rw [if_pos (List.mem_append.2 (.inl h2)), if_pos h2, List.idxOf_append, if_pos h2]
    · rw [if_neg (by simp only [List.mem_append, List.mem_singleton]; rintro (h3 | h3); exact h2 h3; exact h h3.symm), if_neg h2]
theorem ix_nil (id : Int) : ix [] id = -1 := rfl
theorem ix_mem {l : List Int} {id : Int} : decide (ix l id ≥ 0) = decide (id ∈ l) := ix_ge l id
end Go.Proofs.Ytohphkdemonlkaa.Qp
/- A slice of operations that came in: opened. -/
namespace Go.Proofs.Ytohphkdemonlkaa.Qp
open Go.ChangeShapes Go.WideShapes Go.RowKit Go.Proofs.Ytohphkdemonlkaa.XQt Go.Proofs.YtohphkdemonlkaaW.PrintWords Go.Proofs.YtohphkdemonlkaaW.PrintLast Go.Proofs.YtohphkdemonlkaaW.PrintMore Go.Proofs.Ytohphkdemonlkaa.Ob Go.Proofs.Ytohphkdemonlkaa.Qw
section
variable {H : Type} {enc : TypeId × Value → H} {w : World} {base : Nat} {spare : Nat → Bool} {held : Bool}
structure OP where
  kind : Int
  id : Int
structure OpOk (o : OP) : Prop where
  rk : -9223372036854775808 ≤ o.kind ∧ o.kind ≤ 9223372036854775807
  ri : -9223372036854775808 ≤ o.id ∧ o.id ≤ 9223372036854775807
def opAt (w : World) (ad : Addr) (o : OP) : Prop := w.cell? ad = some (.int .i64 o.kind) ∧ w.cell? ⟨ad.block, ad.off + 1, none⟩ = some (.int .i64 o.id)
def Ops (w : World) (A : Option Addr) (os : List OP) : Prop := os.length ≤ 1000000000000000000 ∧ ∀ (j : Nat) (o : OP), os[j]? = some o → OpOk o ∧ ∃ ad : Addr, A = some ad ∧ opAt w (ad.add (j * 2)) o
theorem cell_lt {w : World} {a : Addr} {v : Value} (h : w.cell? a = some v) : a.block < w.heap.size := by
  unfold World.cell? at h
  rcases hh : w.heap[a.block]? with _ | o
  · rw [hh] at h; simp at h
  · exact blk_lt hh
theorem op_below {w w' : World} {ad : Addr} {o : OP} (h : opAt w ad o) (hb : Below w.heap.size w w') : opAt w' ad o := by
  have hk : ∀ (a : Addr) (v : Value), w.cell? a = some v → w'.cell? a = some v := fun a v hv => (Below.cell hb (cell_lt hv)).trans hv
  exact ⟨hk _ _ h.1, hk _ _ h.2⟩
theorem add_off (a : Addr) (i q : Nat) (hq : 0 < q) : a.add (i + q) = ⟨(a.add i).block, (a.add i).off + q, none⟩ := by
  unfold Addr.add
  repeat' split
  all_goals first | rfl | omega | (simp_all; done) | (simp_all; omega)
theorem wf_in {n : Int} (h : (Lit.int .i64 n).wf = true) : -9223372036854775808 ≤ n ∧ n ≤ 9223372036854775807 := by
  simp [Lit.wf] at h
  exact ⟨Int.le_trans (by decide) h.1, h.2⟩
theorem bytes44 : Try.prog.bytesOf 44 = 16 := by kernel_rfl
set_option maxRecDepth 20000 in
theorem open_ops {fuel j : Nat} {cs : List Value} {x : DataW H × List MemPlace} {ts : List TypeId} {ds : List (DataW H)} (hsz : (DataW.weightsEach Try.prog ts ds).all (· ≤ reachBytes) = true) (htj : ts[j]? = some 32) (hdj : ds[j]? = some x.1)
    (h : DataW.trod enc Try.prog w base spare held fuel 32 cs = some x) : ∃ (A : Option Addr) (cap : Nat) (os : List OP), cs = [.slice A os.length cap] ∧ os.length ≤ cap ∧ Ops w A os := by
  rcases Go.Deep.open_slice (P := Try.prog) Try.underlying32 h with ⟨rfl, rfl⟩ | ⟨a, len, cap, m, n, D, Pl, rfl, hb, hl, hm, hmm, rfl, hx⟩
  · exact ⟨none, 0, [], rfl, Nat.le_refl _, by simp, fun j o h => by simp at h⟩
  · have hlm : len ≤ m := by rw [hmm]; split <;> omega
    have hcells : Try.prog.cellsOf 44 = 2 := by kernel_rfl
    have each : ∀ i, i < len → ∃ o : OP, OpOk o ∧ opAt w (a.add (i * 2)) o := by
      intro i hi
      obtain ⟨cs', h1, h2⟩ := hx i (by omega)
      rw [hcells] at h1
      obtain ⟨_, hlen, hcell⟩ := World.cells?_some h1
      obtain ⟨xs, k, hk, hxy, _, hxl, hf⟩ := DataW.trod_struct Try.underlying44 h2
      match xs, hxl, cs', hlen with
      | [y0, y1], _, [v0, v1], _ =>
        have g0 := hf 0 _ rfl
        have g1 := hf 1 _ rfl
        have c3 : Try.prog.cellsOf 3 = 1 := by kernel_rfl
        simp [c3] at g0 g1
        have e0 := hcell 0 (by omega)
        have e1 := hcell 1 (by omega)
        rw [Go.Deep.add_add] at e0 e1
        obtain ⟨z0, q0, _, r0⟩ := DataW.trod_int (by exact Try.underlying3) g0
        obtain ⟨z1, q1, _, r1⟩ := DataW.trod_int (by exact Try.underlying3) g1
        obtain rfl : v0 = .int .i64 z0 := by simpa using q0
        obtain rfl : v1 = .int .i64 z1 := by simpa using q1
        refine ⟨⟨z0, z1⟩, ⟨wf_in r0, wf_in r1⟩, ?_, ?_⟩
        · simpa using e0
        · rw [← add_off a (i * 2) 1 (by decide)]
          simpa using e1
    have : Inhabited OP := ⟨⟨0, 0⟩⟩
    obtain ⟨Y, hY⟩ := Go.Deep.choose_lt each
    have hlen : ((List.range len).map Y).length = len := by simp
    refine ⟨some a, cap, (List.range len).map Y, by rw [hlen], by rw [hlen]; exact hl, ?_, fun j o ho => ?_⟩
    · have := List.all_eq_true.1 hsz _ (DataW.weights_mem_each htj hdj _ (by simp only [DataW.weights, Try.underlying32]; exact List.mem_cons_self))
      have h2 := of_decide_eq_true this
      rw [bytes44, List.length_map, List.length_range] at h2
      rw [hlen]
      unfold maxLen at hm
      have hr := reachBytes_lt
      omega
    · have hi : j < len := by rw [← hlen]; exact (List.getElem?_eq_some_iff.1 ho).1
      rw [List.getElem?_map, List.getElem?_range hi] at ho
      obtain rfl := Option.some.inj ho
      exact ⟨(hY j hi).1, a, rfl, (hY j hi).2⟩
end
end Go.Proofs.Ytohphkdemonlkaa.Qp
/- QueuePlays: the appends of the statement's own row; the start. -/
namespace Go.Proofs.Ytohphkdemonlkaa.Qp
open Go.RowKit Go.Proofs.Ytohphkdemonlkaa.XQt Go.Proofs.YtohphkdemonlkaaW.PrintWords Go.Proofs.YtohphkdemonlkaaW.PrintLast Go.Proofs.YtohphkdemonlkaaW.PrintMore Go.Proofs.Ytohphkdemonlkaa.Ob Go.Proofs.Ytohphkdemonlkaa.Qw
/-- A copy: a new row, or none. -/
theorem copy_run {W : World} {B : Option Addr} {d : Nat} {k : List Int} (hC : Bi.kI.C W B k.length k) (hl : k.length ≤ 1000000) :
    ∃ A' c' W', (Builtin.append_ #[33, 33] 33 #[.slice none 0 0, .slice B k.length d]).run Try.prog W = .ok (.slice A' k.length c') W' ∧ Bi.FR W' A' k.length c' k ∧ Below W.heap.size W W' ∧ ∀ g : Nat, A' = some ⟨g, 0, none⟩ → W.heap.size ≤ g := by
  obtain ⟨A', c', W', hr, hF, hw⟩ := Bi.app_run (A := none) (n := 0) (c := 0) (l := []) (d := d) 33 (Bi.FR.nil W) hC (by simp; omega)
  rw [Nat.zero_add] at hr hF
  rw [List.nil_append] at hF
  rcases hw with ⟨rfl, hs⟩ | ⟨rfl, hb⟩
  · exact ⟨_, c', W', hr, hF, Bi.stay_none hs, fun g e => by cases e⟩
  · exact ⟨_, c', W', hr, hF, hb, fun g e => by injection e with e; injection e with e; omega⟩
/-- More behind a row that is new. -/
theorem onto_run {W0 W : World} {A B : Option Addr} {c d : Nat} {l k : List Int} (hF : Bi.FR W A l.length c l) (hA : ∀ g : Nat, A = some ⟨g, 0, none⟩ → W0.heap.size ≤ g) (hb : Below W0.heap.size W0 W) (hC : Bi.kI.C W B k.length k) (hl : l.length + k.length ≤ 1000000) :
    ∃ A' c' W', (Builtin.append_ #[33, 33] 33 #[.slice A l.length c, .slice B k.length d]).run Try.prog W = .ok (.slice A' (l.length + k.length) c') W' ∧ Bi.FR W' A' (l ++ k).length c' (l ++ k) ∧ Below W0.heap.size W0 W' ∧ ∀ g : Nat, A' = some ⟨g, 0, none⟩ → W0.heap.size ≤ g := by
  obtain ⟨A', c', W', hr, hF', hw⟩ := Bi.app_run (d := d) 33 hF hC (by omega)
  rw [← List.length_append] at hF'
  refine ⟨A', c', W', hr, hF', ?_, ?_⟩
  · rcases hw with ⟨_, hs⟩ | ⟨_, hb2⟩
    · exact hs.below hb (fun g hg => hA g hg)
    · exact below_step hb hb2
  · rcases hw with ⟨rfl, _⟩ | ⟨rfl, _⟩
    · exact hA
    · intro g e
      injection e with e
      injection e with e
      have := hb.size
      omega
theorem one_C (w : World) (id : Int) : Bi.kI.C (w.alloc (.cells #[.int .i64 id] 3)) (some ⟨w.heap.size, 0, none⟩) [id].length [id] := Bi.flds_of (heap_alloc_new w _) [] [id] [] rfl (by show 1 ≤ _; decide)
theorem one_F (w : World) (id : Int) : Bi.FR (w.alloc (.cells #[.int .i64 id] 3)) (some ⟨w.heap.size, 0, none⟩) [id].length 1 [id] :=
  ⟨rfl, rfl, .inr ⟨w.heap.size, 1, _, rfl, Nat.zero_le _, heap_alloc_new w _, Nat.le_refl _, by decide, rfl, rfl⟩⟩
theorem qm_start {w0 w1 w2 : World} {g : Nat} {m : Int} (hb1 : Below w0.heap.size w0 w1) (hq : QK.M w2 0 (fun k => w1.heap.size ≤ k) ([], m) [.pointer (some ⟨g, 0, none⟩)]) (hs : Stay (fun _ => False) w1 w2) :
    QM w0 (w2.alloc (.cells #[.slice none 0 0, .slice none 0 0, .slice none 0 0, .slice none 0 0, .slice none 0 0, .slice none 0 0, .slice none 0 0, .slice none 0 0, .slice none 0 0, .slice none 0 0] 42)) w2.heap.size g [] m [] none 0 [] := by
  have hb2 : Below w0.heap.size w0 w2 := hs.below hb1 (fun _ e => e.elim)
  have hb3 : Below w2.heap.size w2 (w2.alloc (.cells #[.slice none 0 0, .slice none 0 0, .slice none 0 0, .slice none 0 0, .slice none 0 0, .slice none 0 0, .slice none 0 0, .slice none 0 0, .slice none 0 0, .slice none 0 0] 42)) := below_alloc (Below.refl _ _) _
  have h1 := QOn.of hq
  have h2 := hb1.size
  have h3 := hs.size
  exact ⟨_, _, _, below_step hb2 hb3, h1.stay (Stay.of_below (ok := fun _ => False) hb3) (fun _ _ e => e), Bi.FR.nil _, (fun k e => by cases e), (fun k hk => ⟨by have := hk.1; omega, hk.2⟩), (fun p hp => by cases hp), Bi.Kp.new w2 w0.heap.size hb2.size⟩
end Go.Proofs.Ytohphkdemonlkaa.Qp
