/- The queue's contracts in one shape; alive. -/
import Derived.Test.YtohphkdemonlkaaQWalk5
namespace Go.Proofs.Ytohphkdemonlkaa.Qw
open Go.RowKit Go.Proofs.Ytohphkdemonlkaa.XQt Go.Proofs.YtohphkdemonlkaaW.PrintWords Go.Proofs.YtohphkdemonlkaaW.PrintLast Go.Proofs.YtohphkdemonlkaaW.PrintMore Go.Proofs.Ytohphkdemonlkaa.Ob

/-- A queue that came into being behind w0; nothing older is turned. -/
structure Own (w0 w : World) (q : List Int × Int) (g : Nat) : Prop where
  below : Below w0.heap.size w0 w
  m : QK.M w w0.heap.size (fun k => w0.heap.size ≤ k ∧ k < w.heap.size) q [.pointer (some ⟨g, 0, none⟩)]

theorem own_of {w0 w w' : World} {q q' : List Int × Int} {g : Nat} {ok : Nat → Prop} (h : Own w0 w q g) (hs : Stay (fun k => w0.heap.size ≤ k ∧ k < w.heap.size) w w')
    (hm : QK.M w' w0.heap.size ok q' [.pointer (some ⟨g, 0, none⟩)]) : Own w0 w' q' g :=
  ⟨hs.below h.below (fun _ hk => hk.1), QK.M_mono (fun _ hk => ⟨hk.2.1, hk.2.2.1⟩) (QK.M_bound hm)⟩
theorem own_drawn {w0 w w' : World} {q : List Int × Int} {g : Nat} (h : Own w0 w q g) (hd : Drawn0 w w') : Own w0 w' q g := by
  obtain ⟨nd, rfl⟩ := hd
  exact own_of h ((Stay.refl _ w).drewN nd) (Kd.M_drewN h.m nd)
theorem new_own {w0 w : World} (hb : Below w0.heap.size w0 w) (most : Int) (hm : 1 ≤ most) :
    Calls Try.prog 15 #[.int .i64 most] w fun e w' => ∃ g, e = .returned (.pointer (some ⟨g, 0, none⟩)) ∧ Own w0 w' ([], most) g := by
  refine (new_calls most hm w w0.heap.size hb.size).mono ?_
  rintro e w' ⟨g, rfl, _, hm, hs⟩
  exact ⟨g, rfl, hs.below hb (fun _ hk => hk.elim), QK.M_mono (fun _ hk => ⟨hk.2.1, hk.2.2.1⟩) (QK.M_bound hm)⟩
theorem put_own {w0 w : World} {q : List Int × Int} {g : Nat} (h : Own w0 w q g) (hl : q.1.length ≤ 1000000000) (id : Int) :
    Calls Try.prog 16 #[.pointer (some ⟨g, 0, none⟩), .int .i64 id] w fun e w' => e = .returned (.int .i64 (mayC q id)) ∧ Own w0 w' (putQ q id) g := by
  refine (put_calls q id w g _ _ h.below.size hl h.m).mono ?_
  rintro e w' ⟨rfl, hm, hs⟩
  exact ⟨rfl, own_of h hs hm⟩
theorem back_own {w0 w : World} {q : List Int × Int} {g : Nat} (h : Own w0 w q g) (hl : q.1.length ≤ 1000000000) (id : Int) :
    Calls Try.prog 20 #[.pointer (some ⟨g, 0, none⟩), .int .i64 id] w fun e w' => e = .returned (.int .i64 (mayC q id)) ∧ Own w0 w' (backQ q id) g := by
  refine (back_calls q id w g _ _ h.below.size hl h.m (fun k hk h => by omega)).mono ?_
  rintro e w' ⟨rfl, hm, hs⟩
  exact ⟨rfl, own_of h hs hm⟩
theorem first_own {w0 w : World} {x m : Int} {l : List Int} {g : Nat} (h : Own w0 w (x :: l, m) g) (hl : l.length ≤ 1000000000) :
    Calls Try.prog 19 #[.pointer (some ⟨g, 0, none⟩)] w fun e w' => e = .returned (.tuple #[.int .i64 x, .bool true]) ∧ Own w0 w' (l, m) g := by
  refine (first_calls x l m w g _ _ hl h.m).mono ?_
  rintro e w' ⟨rfl, hm, hs⟩
  exact ⟨rfl, own_of h hs hm⟩
theorem first_none_own {w0 w : World} {m : Int} {g : Nat} (h : Own w0 w ([], m) g) :
    Calls Try.prog 19 #[.pointer (some ⟨g, 0, none⟩)] w fun e w' => e = .returned (.tuple #[.int .i64 0, .bool false]) ∧ Own w0 w' ([], m) g := by
  refine (first_none m w g _ _ h.m).mono ?_
  rintro e w' ⟨rfl, hd⟩
  exact ⟨rfl, own_drawn h hd⟩
theorem place_own {w0 w : World} {q : List Int × Int} {g : Nat} (h : Own w0 w q g) (hl : q.1.length ≤ 1000000000) (id : Int) :
    Calls Try.prog 18 #[.pointer (some ⟨g, 0, none⟩), .int .i64 id] w fun e w' => e = .returned (.int .i64 (ix q.1 id)) ∧ Own w0 w' q g := by
  refine (place_calls q id w g _ _ hl h.m).mono ?_
  rintro e w' ⟨rfl, hd⟩
  exact ⟨rfl, own_drawn h hd⟩
theorem cut_own {w0 w : World} {q : List Int × Int} {g : Nat} (h : Own w0 w q g) (hl : q.1.length ≤ 1000000000) (id : Int) (hn : id ∈ q.1) :
    Calls Try.prog 17 #[.pointer (some ⟨g, 0, none⟩), .int .i64 id] w fun e w' => e = .returned (.bool true) ∧ Own w0 w' (outQ q id) g := by
  refine (cut_calls q id w g _ _ hl hn h.m).mono ?_
  rintro e w' ⟨rfl, hm, hs⟩
  exact ⟨rfl, own_of h hs hm⟩
theorem cut_none_own {w0 w : World} {q : List Int × Int} {g : Nat} (h : Own w0 w q g) (hl : q.1.length ≤ 1000000000) (id : Int) (hn : id ∉ q.1) :
    Calls Try.prog 17 #[.pointer (some ⟨g, 0, none⟩), .int .i64 id] w fun e w' => e = .returned (.bool false) ∧ Own w0 w' q g := by
  refine (cut_none q id w g _ _ hl hn h.m).mono ?_
  rintro e w' ⟨rfl, hd⟩
  exact ⟨rfl, own_drawn h hd⟩
end Go.Proofs.Ytohphkdemonlkaa.Qw
