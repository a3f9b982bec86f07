/- A queue and a row of one's own beside it: the queue's contracts keep the row. -/
import Derived.Test.YtohphkdemonlkaaQWalk7
import Derived.Test.YtohphkdemonlkaaQAlive
namespace Go.Proofs.Ytohphkdemonlkaa.Qw
open Go.RowKit Go.Proofs.Ytohphkdemonlkaa.XQt Go.Proofs.YtohphkdemonlkaaW.PrintWords Go.Proofs.YtohphkdemonlkaaW.PrintLast Go.Proofs.YtohphkdemonlkaaW.PrintMore Go.Proofs.Ytohphkdemonlkaa.Ob

/-- A queue and a row, both behind w0, that share nothing. -/
structure Two (w0 w : World) (q : List Int × Int) (g : Nat) (v : Value) (l : List Int) : Prop where
  below : Below w0.heap.size w0 w
  own : ∃ P R : Nat → Prop, (∀ k, P k → ¬ R k) ∧ (∀ k, P k → w0.heap.size ≤ k ∧ k < w.heap.size) ∧ (∀ k, R k → w0.heap.size ≤ k ∧ k < w.heap.size) ∧
    QK.M w w0.heap.size P q [.pointer (some ⟨g, 0, none⟩)] ∧ (Kd.int .i64).Q 3 w w0.heap.size R v l

theorem two_of {w0 w w' : World} {q' : List Int × Int} {g : Nat} {v : Value} {l : List Int} {P R : Nat → Prop} (hb : Below w0.heap.size w0 w)
    (hd : ∀ k, P k → ¬ R k) (hP : ∀ k, P k → w0.heap.size ≤ k ∧ k < w.heap.size) (hR : ∀ k, R k → w0.heap.size ≤ k ∧ k < w.heap.size)
    (hq : (Kd.int .i64).Q 3 w w0.heap.size R v l) (hs : Stay P w w')
    (hm : QK.M w' w0.heap.size (fun k => P k ∨ w.heap.size ≤ k) q' [.pointer (some ⟨g, 0, none⟩)]) : Two w0 w' q' g v l := by
  refine ⟨hs.below hb (fun k hk => (hP k hk).1), fun k => (P k ∨ w.heap.size ≤ k) ∧ w0.heap.size ≤ k ∧ k < w'.heap.size, R, ?_, fun k hk => hk.2, fun k hk => ⟨(hR k hk).1, Nat.lt_of_lt_of_le (hR k hk).2 hs.size⟩, QK.M_mono (fun k hk => ⟨hk.1, hk.2.1, hk.2.2.1⟩) (QK.M_bound hm), ?_⟩
  · rintro k ⟨hk | hk, _⟩ hr
    · exact hd k hk hr
    · have := (hR k hr).2
      omega
  · exact Kd.Q_move hq (fun k hk => hs.block k (hR k hk).2 (fun hp => hd k hp hk))
theorem put_two {w0 w : World} {q : List Int × Int} {g : Nat} {v : Value} {l : List Int} (h : Two w0 w q g v l) (hl : q.1.length ≤ 1000000000) (id : Int) :
    Calls Try.prog 16 #[.pointer (some ⟨g, 0, none⟩), .int .i64 id] w fun e w' => e = .returned (.int .i64 (mayC q id)) ∧ Two w0 w' (putQ q id) g v l := by
  obtain ⟨hb, P, R, hd, hP, hR, hm, hq⟩ := h
  refine (put_calls q id w g _ _ hb.size hl hm).mono ?_
  rintro e w' ⟨rfl, hm', hs⟩
  exact ⟨rfl, two_of hb hd hP hR hq hs hm'⟩
theorem back_two {w0 w : World} {q : List Int × Int} {g : Nat} {v : Value} {l : List Int} (h : Two w0 w q g v l) (hl : q.1.length ≤ 1000000000) (id : Int) :
    Calls Try.prog 20 #[.pointer (some ⟨g, 0, none⟩), .int .i64 id] w fun e w' => e = .returned (.int .i64 (mayC q id)) ∧ Two w0 w' (backQ q id) g v l := by
  obtain ⟨hb, P, R, hd, hP, hR, hm, hq⟩ := h
  refine (back_calls q id w g _ _ hb.size hl hm (fun k hk hp => by have := (hP k hp).2; omega)).mono ?_
  rintro e w' ⟨rfl, hm', hs⟩
  exact ⟨rfl, two_of hb hd hP hR hq hs hm'⟩
theorem first_two {w0 w : World} {x m : Int} {xs : List Int} {g : Nat} {v : Value} {l : List Int} (h : Two w0 w (x :: xs, m) g v l) (hl : xs.length ≤ 1000000000) :
    Calls Try.prog 19 #[.pointer (some ⟨g, 0, none⟩)] w fun e w' => e = .returned (.tuple #[.int .i64 x, .bool true]) ∧ Two w0 w' (xs, m) g v l := by
  obtain ⟨hb, P, R, hd, hP, hR, hm, hq⟩ := h
  refine (first_calls x xs m w g _ _ hl hm).mono ?_
  rintro e w' ⟨rfl, hm', hs⟩
  exact ⟨rfl, two_of hb hd hP hR hq hs (QK.M_mono (fun _ hk => .inl hk) hm')⟩
theorem two_drawn {w0 w w' : World} {q : List Int × Int} {g : Nat} {v : Value} {l : List Int} (h : Two w0 w q g v l) (hd : Drawn0 w w') : Two w0 w' q g v l := by
  obtain ⟨hb, P, R, hd', hP, hR, hm, hq⟩ := h
  obtain ⟨nd, rfl⟩ := hd
  exact two_of hb hd' hP hR hq ((Stay.refl _ w).drewN nd) (QK.M_mono (fun _ hk => .inl hk) (Kd.M_drewN hm nd))
theorem first_none_two {w0 w : World} {m : Int} {g : Nat} {v : Value} {l : List Int} (h : Two w0 w ([], m) g v l) :
    Calls Try.prog 19 #[.pointer (some ⟨g, 0, none⟩)] w fun e w' => e = .returned (.tuple #[.int .i64 0, .bool false]) ∧ Two w0 w' ([], m) g v l := by
  obtain ⟨P, R, _, _, _, hm, _⟩ := h.own
  refine (first_none m w g _ _ hm).mono ?_
  rintro e w' ⟨rfl, hd⟩
  exact ⟨rfl, two_drawn h hd⟩
theorem place_two {w0 w : World} {q : List Int × Int} {g : Nat} {v : Value} {l : List Int} (h : Two w0 w q g v l) (hl : q.1.length ≤ 1000000000) (id : Int) :
    Calls Try.prog 18 #[.pointer (some ⟨g, 0, none⟩), .int .i64 id] w fun e w' => e = .returned (.int .i64 (ix q.1 id)) ∧ Two w0 w' q g v l := by
  obtain ⟨P, R, _, _, _, hm, _⟩ := h.own
  refine (place_calls q id w g _ _ hl hm).mono ?_
  rintro e w' ⟨rfl, hd⟩
  exact ⟨rfl, two_drawn h hd⟩
theorem all_two {w0 w : World} {q : List Int × Int} {g : Nat} {v : Value} {l : List Int} (h : Two w0 w q g v l) (hl : q.1.length ≤ 1000000000) :
    Calls Try.prog 21 #[.pointer (some ⟨g, 0, none⟩)] w fun e w' => ∃ A1 c1, e = .returned (.slice A1 q.1.length c1) ∧ Two w0 w' q g v l := by
  obtain ⟨hb, P, R, hd, hP, hR, hm, hq⟩ := h
  refine (all_calls q w g _ _ hl hm).mono ?_
  rintro e w' ⟨A1, c1, rfl, _, hB⟩
  exact ⟨A1, c1, rfl, two_of hb hd hP hR hq (Stay.of_below hB) (QK.M_mono (fun _ hk => .inl hk) (M_stay hm (Stay.of_below (ok := fun _ => False) hB) (fun _ _ e => e)))⟩
theorem two_new {w0 w : World} {q : List Int × Int} {g : Nat} (h : Own w0 w q g) : Two w0 w q g (.slice none 0 0) [] :=
  ⟨h.below, _, fun _ => False, fun _ _ e => e, fun _ hk => hk, fun _ e => e.elim, h.m, Kd.Q_nil _ _ _ _ _⟩
/-- The row has grown (append); the queue stays. -/
theorem two_grown {w0 w w' : World} {q : List Int × Int} {g : Nat} {v v' : Value} {l l' : List Int} {P R : Nat → Prop} (hb : Below w0.heap.size w0 w)
    (hd : ∀ k, P k → ¬ R k) (hP : ∀ k, P k → w0.heap.size ≤ k ∧ k < w.heap.size) (hR : ∀ k, R k → w0.heap.size ≤ k ∧ k < w.heap.size)
    (hm : QK.M w w0.heap.size P q [.pointer (some ⟨g, 0, none⟩)]) (hq : (Kd.int .i64).Q 3 w w0.heap.size R v l) (hg : w.grownBy w' v.ownBlock)
    (hq' : (Kd.int .i64).Q 3 w' w0.heap.size (fun k => R k ∨ w.heap.size ≤ k) v' l') : Two w0 w' q g v' l' := by
  have hs : Stay R w w' := (Stay.refl R w).grown hg (fun k hk => .inl (hq.1 k hk))
  refine ⟨hs.below hb (fun k hk => (hR k hk).1), P, fun k => (R k ∨ w.heap.size ≤ k) ∧ w0.heap.size ≤ k ∧ k < w'.heap.size, ?_, fun k hk => ⟨(hP k hk).1, Nat.lt_of_lt_of_le (hP k hk).2 hs.size⟩, fun k hk => hk.2, M_stay hm hs hd, Kd.Q_mono (Kd.Q_bound hq') (fun k hk => ⟨hk.1, hk.2.1, hk.2.2.1⟩)⟩
  rintro k hk ⟨hr | hr, _⟩
  · exact hd k hk hr
  · have := (hP k hk).2
    omega
end Go.Proofs.Ytohphkdemonlkaa.Qw
