/- Merged: MsgP MsgL MsgM MsgW MsgT MsgD MsgC MsgX MsgY. -/
import Derived.Test.YtififgiicpdndaaGreatDoorFTwo
import Derived.Test.YtififgiicpdndaaGreatDoorFOne
import Derived.Test.YtififgiicpdndaaGreatDoorObj
import Derived.Deep.AppendSrc
import Derived.Laws.CopyRow
import Derived.Shelf.SlicesE.DeleteFunc
import Derived.Laws.CopyOwn
/- What a response's reader knows, and what it answers: in plain words. -/
namespace Go.Proofs.YtififgiicpdndaaGreatDoor.Fw
open Go.RowKit Go.Proofs.YtififgiicpdndaaGreatDoor.XMi Go.Proofs.YtififgiicpdndaaGreatDoorW.PrintWords Go.Proofs.YtififgiicpdndaaGreatDoorW.PrintLast Go.Proofs.YtififgiicpdndaaGreatDoorW.PrintMore Go.Proofs.YtififgiicpdndaaGreatDoor.Ms
structure MA where
  status : Int
  fields : List S61
  trails : List S61
  length : Int
  came : Int
  done : Bool
structure MS where
  method : ByteArray
  a : MA
  broken : Bool
def headB : ByteArray := ⟨#[72, 69, 65, 68]⟩
def noBody (m : ByteArray) (status : Int) : Bool := status == 204 || status == 304 || m.toList == headB.toList
def longP (m : ByteArray) (a : MA) (fin : Bool) : Bool :=
  if a.length < 0 ∨ a.came = a.length then true else if a.came > a.length then false else !fin || (a.came == 0 && noBody m a.status)
def toldP (s : MS) (a : MA) (fin : Bool) (e : Int) : Int × MS :=
  if e ≠ 0 then (e, { s with broken := true }) else if longP s.method a fin then (0, { s with a := { a with done := fin } }) else (22, { s with broken := true })
def overP (s : MS) : Bool := s.broken || s.a.done
def statNum (l : List S61) : Int := (numD ((getP colStatus l).getD ⟨#[]⟩).toList : Nat)
def others (l : List S61) : List S61 := l.filter fun f => !(f.f0.toList == colStatus.toList)
def headP (s : MS) (fin : Bool) (l : List S61) : Int × MS :=
  if overP s then (8, s)
  else if s.a.status > 0 then toldP s { s.a with trails := l } fin (if fin then trailQ l else 11)
  else if respQ l ≠ 0 then toldP s s.a fin (respQ l)
  else if statNum l < 200 then (if fin then toldP s s.a fin 11 else (0, s))
  else toldP s { s.a with status := statNum l, fields := others l, length := (lenQ l).1 } fin (lenQ l).2
def dataP (s : MS) (n : Int) (fin : Bool) : Int × MS :=
  if overP s then (8, s)
  else if s.a.status = 0 then toldP s s.a fin 11
  else if n < 0 then toldP s s.a fin 1
  else toldP s { s.a with came := s.a.came + n } fin 0
def newP (m : ByteArray) : MS := ⟨m, ⟨0, [], [], 0, 0, false⟩, false⟩
/-! ### a request's headers -/
def costS : List S61 → Nat
  | [] => 0
  | f :: l => f.f0.size + f.f1.size + 32 + costS l
def ownFour (m sc au pa : ByteArray) : List S61 := [⟨⟨#[58, 109, 101, 116, 104, 111, 100]⟩, m⟩, ⟨⟨#[58, 115, 99, 104, 101, 109, 101]⟩, sc⟩, ⟨⟨#[58, 97, 117, 116, 104, 111, 114, 105, 116, 121]⟩, au⟩, ⟨pathB, pa⟩]
structure RQ where
  m : ByteArray
  sc : ByteArray
  au : ByteArray
  pa : ByteArray
  fs : List S61
  body : ByteArray
  ts : List S61
def listP (r : RQ) : List S61 := ownFour r.m r.sc r.au r.pa ++ r.fs
def fieldsE (r : RQ) : Int :=
  if r.body.size > 400 ∨ trailQ r.ts ≠ 0 ∨ costS r.ts > 600 then 1
  else if reqQ (listP r) ≠ 0 then reqQ (listP r)
  else if costS (listP r) > 600 then 5
  else if (lenQ (listP r)).2 ≠ 0 then (lenQ (listP r)).2
  else if (lenQ (listP r)).1 ≥ 0 ∧ (lenQ (listP r)).1 ≠ (r.body.size : Int) then 22
  else 0
def safeP (m : ByteArray) : Bool := [(⟨#[71, 69, 84]⟩ : ByteArray), headB, ⟨#[80, 85, 84]⟩, ⟨#[68, 69, 76, 69, 84, 69]⟩, ⟨#[79, 80, 84, 73, 79, 78, 83]⟩].any fun x => m.toList == x.toList
end Go.Proofs.YtififgiicpdndaaGreatDoor.Fw
/- Digits, a status and a length as texts; what a reader answers to them: the plain law. -/
namespace Go.Proofs.YtififgiicpdndaaGreatDoor.Fw
open Go.RowKit Go.Proofs.YtififgiicpdndaaGreatDoor.XMi Go.Proofs.YtififgiicpdndaaGreatDoorW.PrintWords Go.Proofs.YtififgiicpdndaaGreatDoorW.PrintLast Go.Proofs.YtififgiicpdndaaGreatDoorW.PrintMore Go.Proofs.YtififgiicpdndaaGreatDoor.Ms
/-! ### a reader that has got its headers -/
end Go.Proofs.YtififgiicpdndaaGreatDoor.Fw
/- The reader of a response in memory: its cells; rows that it keeps; slices.Clone. -/
namespace Go.Proofs.YtififgiicpdndaaGreatDoor.Fw
open Go.RowKit Go.Proofs.YtififgiicpdndaaGreatDoor.XMi Go.Proofs.YtififgiicpdndaaGreatDoorW.PrintWords Go.Proofs.YtififgiicpdndaaGreatDoorW.PrintLast Go.Proofs.YtififgiicpdndaaGreatDoorW.PrintMore Go.Proofs.YtififgiicpdndaaGreatDoor.Ms Go.Proofs.YtififgiicpdndaaGreatDoor.Ob
theorem fr_block {w : World} {base n c : Nat} {A : Option Addr} {l : List S61} (h : FR w base A n c l) : A = none ∨ ∃ b, A = some ⟨b, 0, none⟩ ∧ base ≤ b ∧ b < w.heap.size := by
  obtain ⟨rfl, h1, h2⟩ := h
  rcases h2 with ⟨e, h0⟩ | ⟨g, cap, cur, e, hb, hh, _⟩
  · injection e with e1 e2 e3
    exact .inl e1
  · injection e with e1 e2 e3
    exact .inr ⟨g, e1, hb, blk_lt hh⟩
theorem FR.keep {w w' : World} {base n c : Nat} {A : Option Addr} {l : List S61} (h : FR w base A n c l) (hk : ∀ b : Nat, A = Option.some ⟨b, 0, none⟩ → b < w.heap.size → w'.heap[b]? = w.heap[b]?) : FR w' base A n c l := by
  obtain ⟨rfl, h1, h2⟩ := h
  refine ⟨rfl, h1, ?_⟩
  rcases h2 with h2 | ⟨g, cap, cur, e, hbg, hh, hr⟩
  · exact .inl h2
  · refine .inr ⟨g, cap, cur, e, hbg, ?_, hr⟩
    injection e with e1 _ _
    exact (hk g e1 (blk_lt hh)).trans hh
theorem FR.lower {w : World} {base base' n c : Nat} {A : Option Addr} {l : List S61} (h : FR w base A n c l) (hb : base' ≤ base) : FR w base' A n c l := by
  obtain ⟨rfl, h1, h2⟩ := h
  refine ⟨rfl, h1, ?_⟩
  rcases h2 with h2 | ⟨g, cap, cur, e, hbg, hr⟩
  · exact .inl h2
  · exact .inr ⟨g, cap, cur, e, Nat.le_trans hb hbg, hr⟩
/-- A row that an object keeps, in another block than the object's. -/
def Row (w : World) (g : Nat) (A : Option Addr) (n c : Nat) (l : List S61) : Prop := n = l.length ∧ n ≤ c ∧ (0 < n → FR w 0 A n c l ∧ ∀ a, A = some a → a.block ≠ g)
theorem Row.nil (w : World) (g : Nat) : Row w g none 0 0 [] := ⟨rfl, Nat.le_refl _, fun h => absurd h (Nat.lt_irrefl _)⟩
theorem Row.c {w : World} {g n c : Nat} {A : Option Addr} {l : List S61} (h : Row w g A n c l) (hl : l.length ≤ 1000000000) : k61.C w A n l ∧ n ≤ c := by
  obtain ⟨rfl, h1, h2⟩ := h
  rcases Nat.eq_zero_or_pos l.length with h0 | h0
  · obtain rfl : l = [] := List.eq_nil_of_length_eq_zero h0
    exact ⟨⟨rfl, Nat.zero_le _, fun h => absurd h (Nat.lt_irrefl _)⟩, h1⟩
  · exact (h2 h0).1.c hl
theorem Row.keep {w w' : World} {g n c : Nat} {A : Option Addr} {l : List S61} (h : Row w g A n c l) (hk : ∀ b, b < w.heap.size → b ≠ g → w'.heap[b]? = w.heap[b]?) : Row w' g A n c l := by
  obtain ⟨h0, h1, h2⟩ := h
  refine ⟨h0, h1, fun hn => ⟨(h2 hn).1.keep fun b hb hlt => hk b hlt fun e => (h2 hn).2 _ hb (by rw [e]), (h2 hn).2⟩⟩
theorem Row.stay {w w' : World} {g n c : Nat} {A : Option Addr} {l : List S61} (h : Row w g A n c l) (hs : Stay (fun k => k = g) w w') : Row w' g A n c l := h.keep fun b hb hn => hs.block b hb hn
theorem Row.below {w w' : World} {g n c : Nat} {A : Option Addr} {l : List S61} (h : Row w g A n c l) (hb : Below w.heap.size w w') : Row w' g A n c l := h.keep fun b hlt _ => hb.block b hlt
theorem Row.of_fr {w : World} {g base n c : Nat} {A : Option Addr} {l : List S61} (h : FR w base A n c l) (hl : l.length ≤ 1000000000) (hg : g < base) : Row w g A n c l :=
  ⟨h.1, (h.c hl).2, fun _ => ⟨h.lower (Nat.zero_le _), fun a ha => by
    rcases fr_block h with hn | ⟨b, hb, hbb, _⟩
    · rw [hn] at ha; cases ha
    · rw [hb] at ha
      obtain rfl := Option.some.inj ha
      show b ≠ g
      omega⟩⟩
/-- The cells of a reader. -/
def rdCells (s : MS) (Af : Option Addr) (cf : Nat) (At : Option Addr) (ct : Nat) : Array Value := #[.string s.method, .int .i64 s.a.status, .slice Af s.a.fields.length cf, .slice At s.a.trails.length ct, .int .i64 s.a.length, .int .i64 s.a.came, .bool s.a.done, .bool s.broken]
structure Rd (w : World) (g : Nat) (s : MS) (Af : Option Addr) (cf : Nat) (At : Option Addr) (ct : Nat) : Prop where
  hp : w.heap[g]? = some (.cells (rdCells s Af cf At ct) 84 (0, 0))
  rf : Row w g Af s.a.fields.length cf s.a.fields
  rt : Row w g At s.a.trails.length ct s.a.trails
theorem Rd.below {w w' : World} {g : Nat} {s : MS} {Af At : Option Addr} {cf ct : Nat} (h : Rd w g s Af cf At ct) (hb : Below w.heap.size w w') : Rd w' g s Af cf At ct :=
  ⟨(hb.block g (blk_lt h.hp)).trans h.hp, h.rf.below hb, h.rt.below hb⟩
def ansV (a : MA) (Af : Option Addr) (cf : Nat) (At : Option Addr) (ct : Nat) : Value := .agg #[.int .i64 a.status, .slice Af a.fields.length cf, .slice At a.trails.length ct, .int .i64 a.length, .int .i64 a.came, .bool a.done]
end Go.Proofs.YtififgiicpdndaaGreatDoor.Fw
/- The reader's methods, walked: over, empty, long, told, Data, Status, Done, New. -/
namespace Go.Proofs.YtififgiicpdndaaGreatDoor.Fw
open Go.RowKit Go.Proofs.YtififgiicpdndaaGreatDoor.XMi Go.Proofs.YtififgiicpdndaaGreatDoorW.PrintWords Go.Proofs.YtififgiicpdndaaGreatDoorW.PrintLast Go.Proofs.YtififgiicpdndaaGreatDoorW.PrintMore Go.Proofs.YtififgiicpdndaaGreatDoor.Ms Go.Proofs.YtififgiicpdndaaGreatDoor.Ob
variable {w : World} {g : Nat} {s : MS} {Af At : Option Addr} {cf ct : Nat}
theorem Rd.k0 (h : Rd w g s Af cf At ct) : w.cell? ⟨g, 0, none⟩ = some (.string s.method) := cells_of_heap h.hp 0 _ rfl
theorem Rd.k1 (h : Rd w g s Af cf At ct) : w.cell? ⟨g, 1, none⟩ = some (.int .i64 s.a.status) := cells_of_heap h.hp 1 _ rfl
theorem Rd.k2 (h : Rd w g s Af cf At ct) : w.cell? ⟨g, 2, none⟩ = some (.slice Af s.a.fields.length cf) := cells_of_heap h.hp 2 _ rfl
theorem Rd.k3 (h : Rd w g s Af cf At ct) : w.cell? ⟨g, 3, none⟩ = some (.slice At s.a.trails.length ct) := cells_of_heap h.hp 3 _ rfl
theorem Rd.k4 (h : Rd w g s Af cf At ct) : w.cell? ⟨g, 4, none⟩ = some (.int .i64 s.a.length) := cells_of_heap h.hp 4 _ rfl
theorem Rd.k5 (h : Rd w g s Af cf At ct) : w.cell? ⟨g, 5, none⟩ = some (.int .i64 s.a.came) := cells_of_heap h.hp 5 _ rfl
theorem Rd.k6 (h : Rd w g s Af cf At ct) : w.cell? ⟨g, 6, none⟩ = some (.bool s.a.done) := cells_of_heap h.hp 6 _ rfl
theorem Rd.k7 (h : Rd w g s Af cf At ct) : w.cell? ⟨g, 7, none⟩ = some (.bool s.broken) := cells_of_heap h.hp 7 _ rfl
theorem Rd.fz (h : Rd w g s Af cf At ct) (j : Nat) : w.frozen? ⟨g, j, none⟩ = false := by simp [World.frozen?, h.hp]
theorem head_list : headB.toList = [72, 69, 65, 68] := toList_mk _
theorem over_c (h : Rd w g s Af cf At ct) : Calls Tryz.prog 59 #[.pointer (some ⟨g, 0, none⟩)] w fun e w' => e = .returned (.bool (overP s)) ∧ Below w.heap.size w w' := by
  have k6 := h.k6
  have k7 := h.k7
  clear h
  unfold overP
  generalize s.a.done = d at k6
  generalize s.broken = b at k7
  cases b <;> cases d
  all_goals
    go_enter Tryz.func59, Tryz.ntmps59
    go_wp2
    go_ret
    exact ⟨rfl, Below.refl _ _⟩
theorem status_c (h : Rd w g s Af cf At ct) : Calls Tryz.prog 27 #[.pointer (some ⟨g, 0, none⟩)] w fun e w' => e = .returned (.int .i64 s.a.status) ∧ Below w.heap.size w w' := by
  have k1 := h.k1
  clear h
  go_enter Tryz.func27, Tryz.ntmps27
  go_wp2
  go_ret
  exact ⟨rfl, Below.refl _ _⟩
theorem done_c (h : Rd w g s Af cf At ct) : Calls Tryz.prog 28 #[.pointer (some ⟨g, 0, none⟩)] w fun e w' => e = .returned (.bool s.a.done) ∧ Below w.heap.size w w' := by
  have k6 := h.k6
  clear h
  go_enter Tryz.func28, Tryz.ntmps28
  go_wp2
  go_ret
  exact ⟨rfl, Below.refl _ _⟩
theorem new_c (m : ByteArray) (w : World) : Calls Tryz.prog 17 #[.string m] w fun e w' => e = .returned (.pointer (some ⟨w.heap.size, 0, none⟩)) ∧ Rd w' w.heap.size (newP m) none 0 none 0 ∧ Below w.heap.size w w' := by
  go_enter Tryz.func17, Tryz.ntmps17
  go_wp2
  go_ret
  exact ⟨rfl, ⟨heap_alloc_new w _, Row.nil _ _, Row.nil _ _⟩, below_alloc (Below.refl _ _) _⟩
theorem empty_c (h : Rd w g s Af cf At ct) (st : Int) : Calls Tryz.prog 103 #[.pointer (some ⟨g, 0, none⟩), .int .i64 st] w fun e w' => e = .returned (.bool (noBody s.method st)) ∧ Below w.heap.size w w' := by
  have k0 := h.k0
  clear h
  unfold noBody
  rw [head_list]
  by_cases h1 : st = 204
  · subst h1
    go_enter Tryz.func103, Tryz.ntmps103
    go_wp2
    go_ret
    exact ⟨by simp, Below.refl _ _⟩
  · by_cases h2 : st = 304
    · subst h2
      go_enter Tryz.func103, Tryz.ntmps103
      go_wp2
      go_ret
      exact ⟨by simp, Below.refl _ _⟩
    · have e1 : decide (st = 204) = false := decide_eq_false h1
      have e2 : decide (st = 304) = false := decide_eq_false h2
      have e3 : (st == 204) = false := beq_eq_false_iff_ne.2 h1
      have e4 : (st == 304) = false := beq_eq_false_iff_ne.2 h2
      go_enter Tryz.func103, Tryz.ntmps103
      go_wp2
      go_ret
      exact ⟨by simp [e3, e4], Below.refl _ _⟩
end Go.Proofs.YtififgiicpdndaaGreatDoor.Fw
/- The reader's methods long and told, walked. -/
namespace Go.Proofs.YtififgiicpdndaaGreatDoor.Fw
open Go.RowKit Go.Proofs.YtififgiicpdndaaGreatDoor.XMi Go.Proofs.YtififgiicpdndaaGreatDoorW.PrintWords Go.Proofs.YtififgiicpdndaaGreatDoorW.PrintLast Go.Proofs.YtififgiicpdndaaGreatDoorW.PrintMore Go.Proofs.YtififgiicpdndaaGreatDoor.Ms Go.Proofs.YtififgiicpdndaaGreatDoor.Ob
variable {w : World} {g : Nat} {s : MS} {Af At : Option Addr} {cf ct : Nat}
set_option maxHeartbeats 1600000 in
set_option maxRecDepth 20000 in
theorem long_c (h : Rd w g s Af cf At ct) (a : MA) (Bf Bt : Option Addr) (bf bt : Nat) (fin : Bool) : Calls Tryz.prog 88 #[.pointer (some ⟨g, 0, none⟩), ansV a Bf bf Bt bt, .bool fin] w fun e w' => e = .returned (.bool (longP s.method a fin)) ∧ Below w.heap.size w w' := by
  have HE := Aside0.mk (fun (w1 : World) (hb : Below w.heap.size w w1) => empty_c (h.below hb) a.status)
  have HB := Aside0.mk (below_alloc (Below.refl w.heap.size w) (.cells #[.int .i64 a.status, .slice Bf a.fields.length bf, .slice Bt a.trails.length bt, .int .i64 a.length, .int .i64 a.came, .bool a.done] 82))
  unfold ansV longP
  generalize noBody s.method a.status = nb at HE
  by_cases h1 : a.length < 0
  · have e1 : decide (a.length < 0) = true := decide_eq_true h1
    rw [if_pos (.inl h1)]
    clear h
    go_enter Tryz.func88, Tryz.ntmps88
    go_wp2
    go_ret
    exact ⟨rfl, HB.out⟩
  · have e1 : decide (a.length < 0) = false := decide_eq_false h1
    by_cases h2 : a.came = a.length
    · have e2 : decide (a.came = a.length) = true := decide_eq_true h2
      have e2b : (a.came == a.length) = true := beq_iff_eq.2 h2
      rw [if_pos (.inr h2)]
      have H2 := Aside0.mk h2
      clear h h2
      go_enter Tryz.func88, Tryz.ntmps88
      go_wp2
      go_ret
      exact ⟨rfl, HB.out⟩
    · have e2 : decide (a.came = a.length) = false := decide_eq_false h2
      have e2b : (a.came == a.length) = false := beq_eq_false_iff_ne.2 h2
      rw [if_neg (not_or.2 ⟨h1, h2⟩)]
      by_cases h3 : a.came > a.length
      · have e3 : decide (a.came > a.length) = true := decide_eq_true h3
        rw [if_pos h3]
        clear h
        go_enter Tryz.func88, Tryz.ntmps88
        go_wp2
        go_ret
        exact ⟨rfl, HB.out⟩
      · have e3 : decide (a.came > a.length) = false := decide_eq_false h3
        rw [if_neg h3]
        cases fin with
        | false =>
          clear h
          go_enter Tryz.func88, Tryz.ntmps88
          go_wp2
          go_ret
          exact ⟨rfl, HB.out⟩
        | true =>
          by_cases h4 : a.came = 0
          · have e4 : decide (a.came = 0) = true := decide_eq_true h4
            have e4b : (a.came == 0) = true := beq_iff_eq.2 h4
            rw [e4b]
            clear h h4
            go_enter Tryz.func88, Tryz.ntmps88
            go_wp2_with (first
              | (go_at_call 103; refine (HE.out _ HB.out).mono ?_; rintro e w1 ⟨rfl, hb⟩; have HB1 := Aside0.mk (below_step HB.out hb); clear hb))
            go_ret
            exact ⟨rfl, HB1.out⟩
          · have e4 : decide (a.came = 0) = false := decide_eq_false h4
            have e4b : (a.came == 0) = false := beq_eq_false_iff_ne.2 h4
            rw [e4b]
            clear h
            go_enter Tryz.func88, Tryz.ntmps88
            go_wp2
            go_ret
            exact ⟨rfl, HB.out⟩
set_option maxHeartbeats 1600000 in
set_option maxRecDepth 20000 in
theorem told_err (h : Rd w g s Af cf At ct) (a : MA) (Bf Bt : Option Addr) (bf bt : Nat) (fin : Bool) (er : Int) (he : er ≠ 0) : Calls Tryz.prog 61 #[.pointer (some ⟨g, 0, none⟩), ansV a Bf bf Bt bt, .bool fin, .int .i64 er] w fun e w' => e = .returned (.int .i64 er) ∧ Rd w' g { s with broken := true } Af cf At ct ∧ Stay (fun k => k = g) w w' := by
  have hb := below_alloc (Below.refl w.heap.size w) (.cells #[.int .i64 a.status, .slice Bf a.fields.length bf, .slice Bt a.trails.length bt, .int .i64 a.length, .int .i64 a.came, .bool a.done] 82)
  have h1 := h.below hb
  have H1 := Aside0.mk h1
  have HS : Aside0 (Stay (fun k => k = g) w (w.alloc (.cells #[.int .i64 a.status, .slice Bf a.fields.length bf, .slice Bt a.trails.length bt, .int .i64 a.length, .int .i64 a.came, .bool a.done] 82))) := ⟨Stay.of_below hb⟩
  have HR := Aside0.mk h
  have k7 := h1.k7
  have f7 := h1.fz 7
  have e1 : decide (er = 0) = false := decide_eq_false he
  have e1b : (er == 0) = false := beq_eq_false_iff_ne.2 he
  have HE := Aside0.mk he
  clear h h1 hb
  unfold ansV
  go_enter Tryz.func61, Tryz.ntmps61
  go_wp2
  go_ret
  have hs := HS.out.setCell (p := ⟨g, 7, none⟩) (.inl rfl) (.bool true)
  exact ⟨rfl, ⟨heap_put H1.out.hp 7 (.bool true) (by simp [rdCells]), HR.out.rf.stay hs, HR.out.rt.stay hs⟩, hs⟩
theorem put6 {w : World} {g : Nat} {s : MS} {Af At : Option Addr} {cf ct : Nat} (h : w.heap[g]? = some (.cells (rdCells s Af cf At ct) 84 (0, 0))) (v1 v2 v3 v4 v5 v6 : Value) :
    ((((((w.setCell ⟨g, 1, none⟩ v1).setCell ⟨g, 2, none⟩ v2).setCell ⟨g, 3, none⟩ v3).setCell ⟨g, 4, none⟩ v4).setCell ⟨g, 5, none⟩ v5).setCell ⟨g, 6, none⟩ v6).heap[g]? = some (.cells #[.string s.method, v1, v2, v3, v4, v5, v6, .bool s.broken] 84 (0, 0)) :=
  heap_put (heap_put (heap_put (heap_put (heap_put (heap_put h 1 v1 (by simp [rdCells])) 2 v2 (by simp [rdCells])) 3 v3 (by simp [rdCells])) 4 v4 (by simp [rdCells])) 5 v5 (by simp [rdCells])) 6 v6 (by simp [rdCells])
theorem toldP_err {s : MS} {a : MA} {fin : Bool} {e : Int} (h : e ≠ 0) : toldP s a fin e = (e, { s with broken := true }) := if_pos h
set_option maxHeartbeats 1600000 in
set_option maxRecDepth 20000 in
theorem told_ok (h : Rd w g s Af cf At ct) (a : MA) (Bf Bt : Option Addr) (bf bt : Nat) (hf : Row w g Bf a.fields.length bf a.fields) (ht : Row w g Bt a.trails.length bt a.trails) (fin : Bool) : Calls Tryz.prog 61 #[.pointer (some ⟨g, 0, none⟩), ansV a Bf bf Bt bt, .bool fin, .int .i64 0] w fun e w' => e = .returned (.int .i64 (toldP s a fin 0).1) ∧ (∃ Cf cf' Ct ct', Rd w' g (toldP s a fin 0).2 Cf cf' Ct ct') ∧ Stay (fun k => k = g) w w' := by
  have hb := below_alloc (Below.refl w.heap.size w) (.cells #[.int .i64 a.status, .slice Bf a.fields.length bf, .slice Bt a.trails.length bt, .int .i64 a.length, .int .i64 a.came, .bool a.done] 82)
  have h1 := h.below hb
  have HG : Aside0 (g < w.heap.size ∧ ¬ g = w.heap.size) := ⟨blk_lt h.hp, Nat.ne_of_lt (blk_lt h.hp)⟩
  have HN := Aside0.mk (heap_alloc_new w (.cells #[.int .i64 a.status, .slice Bf a.fields.length bf, .slice Bt a.trails.length bt, .int .i64 a.length, .int .i64 a.came, .bool a.done] 82))
  have HL := Aside0.mk (long_c h1 a Bf Bt bf bt fin)
  have HB := Aside0.mk hb
  have HR := Aside0.mk (And.intro h (And.intro hf ht))
  have HP : Aside0 (toldP s a fin 0 = if longP s.method a fin then (0, { s with a := { a with done := fin } }) else (22, { s with broken := true })) := ⟨if_neg (fun h => h rfl)⟩
  rw [HP.out]
  clear h h1 hb hf ht
  unfold ansV at HL ⊢
  generalize longP s.method a fin = lo at HL HP
  cases lo with
  | false =>
    go_enter Tryz.func61, Tryz.ntmps61
    go_wp2_with (first
      | (go_at_call 88; refine HL.out.mono ?_; rintro e w1 ⟨rfl, hb1⟩; have hr1 := (HR.out.1.below HB.out).below hb1; have hs1 := (Stay.of_below (ok := fun k => k = g) HB.out).trans (Stay.of_below (ok := fun k => k = g) hb1) (fun _ _ e => e); have k7 := hr1.k7; have f7 := hr1.fz 7; have HR1 := Aside0.mk hr1; have HS1 := Aside0.mk hs1; clear hb1 hr1 hs1))
    go_ret
    have hs := HS1.out.setCell (p := ⟨g, 7, none⟩) (.inl rfl) (.bool true)
    exact ⟨rfl, ⟨Af, cf, At, ct, heap_put HR1.out.hp 7 (.bool true) (by simp [rdCells]), HR.out.1.rf.stay hs, HR.out.1.rt.stay hs⟩, hs⟩
  | true =>
    go_enter Tryz.func61, Tryz.ntmps61
    go_wp2_with (first
      | (go_at_call 88; refine HL.out.mono ?_; rintro e w1 ⟨rfl, hb1⟩; have hr1 := (HR.out.1.below HB.out).below hb1; have hs1 := (Stay.of_below (ok := fun k => k = g) HB.out).trans (Stay.of_below (ok := fun k => k = g) hb1) (fun _ _ e => e); have hbk := (hb1.block _ (blk_lt HN.out)).trans HN.out; have b0 := cells_of_heap hbk 0 _ rfl; have b1 := cells_of_heap hbk 1 _ rfl; have b2 := cells_of_heap hbk 2 _ rfl; have b3 := cells_of_heap hbk 3 _ rfl; have b4 := cells_of_heap hbk 4 _ rfl; have b5 := cells_of_heap hbk 5 _ rfl; have fb : ∀ j, w1.frozen? ⟨w.heap.size, j, none⟩ = false := (fun j => by simp [World.frozen?, hbk]); have k1 := hr1.k1; have k2 := hr1.k2; have k3 := hr1.k3; have k4 := hr1.k4; have k5 := hr1.k5; have k6 := hr1.k6; have fg : ∀ j, w1.frozen? ⟨g, j, none⟩ = false := hr1.fz; have hne : ¬ g = w.heap.size := HG.out.2; have hne2 : ¬ w.heap.size = g := (fun e => HG.out.2 e.symm); have HR1 := Aside0.mk hr1; have HS1 := Aside0.mk hs1; have HBK := Aside0.mk hbk; clear hb1 hr1 hs1 hbk))
    go_ret
    have hx := Stay.setCell HS1.out (p := ⟨w.heap.size, 5, none⟩) (.inr (Nat.le_refl _)) (.bool fin)
    have hh := (Below.heap_setCell w1 ⟨w.heap.size, 5, none⟩ (.bool fin) g HG.out.2).trans HR1.out.hp
    have hs := ((((((hx.setCell (p := ⟨g, 1, none⟩) (.inl rfl) (.int .i64 a.status)).setCell (p := ⟨g, 2, none⟩) (.inl rfl) (.slice Bf a.fields.length bf)).setCell (p := ⟨g, 3, none⟩) (.inl rfl) (.slice Bt a.trails.length bt)).setCell (p := ⟨g, 4, none⟩) (.inl rfl) (.int .i64 a.length)).setCell (p := ⟨g, 5, none⟩) (.inl rfl) (.int .i64 a.came)).setCell (p := ⟨g, 6, none⟩) (.inl rfl) (.bool fin))
    exact ⟨rfl, ⟨Bf, bf, Bt, bt, put6 hh _ _ _ _ _ _, HR.out.2.1.stay hs, HR.out.2.2.stay hs⟩, hs⟩
theorem told_c (h : Rd w g s Af cf At ct) (a : MA) (Bf Bt : Option Addr) (bf bt : Nat) (hf : Row w g Bf a.fields.length bf a.fields) (ht : Row w g Bt a.trails.length bt a.trails) (fin : Bool) (er : Int) : Calls Tryz.prog 61 #[.pointer (some ⟨g, 0, none⟩), ansV a Bf bf Bt bt, .bool fin, .int .i64 er] w fun e w' => e = .returned (.int .i64 (toldP s a fin er).1) ∧ (∃ Cf cf' Ct ct', Rd w' g (toldP s a fin er).2 Cf cf' Ct ct') ∧ Stay (fun k => k = g) w w' := by
  by_cases he : er = 0
  · subst he
    exact told_ok h a Bf Bt bf bt hf ht fin
  · rw [toldP_err he]
    exact (told_err h a Bf Bt bf bt fin er he).mono fun _ _ ⟨h1, h2, h3⟩ => ⟨h1, ⟨_, _, _, _, h2⟩, h3⟩
end Go.Proofs.YtififgiicpdndaaGreatDoor.Fw
/- The reader's method Data, walked; slices.Clone of a row that is read; Trailers. -/
namespace Go.Proofs.YtififgiicpdndaaGreatDoor.Fw
open Go.RowKit Go.Proofs.YtififgiicpdndaaGreatDoor.XMi Go.Proofs.YtififgiicpdndaaGreatDoorW.PrintWords Go.Proofs.YtififgiicpdndaaGreatDoorW.PrintLast Go.Proofs.YtififgiicpdndaaGreatDoorW.PrintMore Go.Proofs.YtififgiicpdndaaGreatDoor.Ms Go.Proofs.YtififgiicpdndaaGreatDoor.Ob
variable {w : World} {g : Nat} {s : MS} {Af At : Option Addr} {cf ct : Nat}
/-- What a method of the reader leaves. -/
def Left (w : World) (g : Nat) (r : Int × MS) (e : Ending) (w' : World) : Prop := e = .returned (.int .i64 r.1) ∧ (∃ Cf cf' Ct ct', Rd w' g r.2 Cf cf' Ct ct') ∧ Stay (fun k => k = g) w w'
theorem Left.before {w w1 w' : World} {g : Nat} {r : Int × MS} {e : Ending} (hb : Below w.heap.size w w1) (h : Left w1 g r e w') : Left w g r e w' := ⟨h.1, h.2.1, (Stay.of_below hb).trans h.2.2 (fun _ _ e => e)⟩
abbrev aCellsOf (s : MS) (Af : Option Addr) (cf : Nat) (At : Option Addr) (ct : Nat) : Array Value := #[.int .i64 s.a.status, .slice Af s.a.fields.length cf, .slice At s.a.trails.length ct, .int .i64 s.a.length, .int .i64 s.a.came, .bool s.a.done]
set_option maxHeartbeats 3200000 in
set_option maxRecDepth 20000 in
theorem data_c (h : Rd w g s Af cf At ct) (n : Int) (fin : Bool) (hr : -9223372036854775808 ≤ s.a.came + n ∧ s.a.came + n ≤ 9223372036854775807) : Calls Tryz.prog 22 #[.pointer (some ⟨g, 0, none⟩), .int .i64 n, .bool fin] w (Left w g (dataP s n fin)) := by
  have HO := Aside0.mk (over_c h)
  have HR := Aside0.mk h
  have hw : wrap64 (s.a.came + n) = s.a.came + n := w64_in (s.a.came + n) hr
  clear h
  have HD : Aside0 (dataP s n fin = if overP s then (8, s) else if s.a.status = 0 then toldP s s.a fin 11 else if n < 0 then toldP s s.a fin 1 else toldP s { s.a with came := s.a.came + n } fin 0) := ⟨rfl⟩
  generalize overP s = ov at HO HD
  cases ov with
  | true =>
    go_enter Tryz.func22, Tryz.ntmps22
    go_wp2_with (first
      | (go_at_call 59; refine HO.out.mono ?_; rintro e w1 ⟨rfl, hb⟩; have HB := Aside0.mk hb; clear hb))
    go_ret
    rw [HD.out]
    exact ⟨rfl, ⟨Af, cf, At, ct, HR.out.below HB.out⟩, Stay.of_below HB.out⟩
  | false =>
    have HT := fun (a : MA) (Bf Bt : Option Addr) (bf bt : Nat) (er : Int) (w1 W : World) (hb : Below w.heap.size w w1) (hb2 : Below w1.heap.size w1 W) (h1 : Row w g Bf a.fields.length bf a.fields) (h2 : Row w g Bt a.trails.length bt a.trails) => (told_c ((HR.out.below hb).below hb2) a Bf Bt bf bt ((h1.below hb).below hb2) ((h2.below hb).below hb2) fin er).mono (fun e w' (h : Left W g (toldP s a fin er) e w') => Left.before (below_step hb hb2) h)
    have HT := Aside0.mk HT
    by_cases h1 : s.a.status = 0
    · have e1 : decide (s.a.status = 0) = true := decide_eq_true h1
      have e1b : (s.a.status == 0) = true := beq_iff_eq.2 h1
      have HD2 : Aside0 (dataP s n fin = toldP s s.a fin 11) := ⟨HD.out.trans (if_pos h1)⟩
      rw [HD2.out]
      clear h1 HD
      go_enter Tryz.func22, Tryz.ntmps22
      go_wp2_with (first
        | (go_at_call 59; refine HO.out.mono ?_; rintro e w1 ⟨rfl, hb⟩; have hr1 := HR.out.below hb; have k1 := hr1.k1; have k2 := hr1.k2; have k3 := hr1.k3; have k4 := hr1.k4; have k5 := hr1.k5; have k6 := hr1.k6; have HB := Aside0.mk hb; clear hb hr1)
        | (go_at_call 61; refine (HT.out s.a Af At cf ct 11 w1 _ HB.out (below_alloc (Below.refl _ _) _) HR.out.rf HR.out.rt).mono ?_; rintro e w2 ⟨rfl, hx⟩; have HX := Aside0.mk hx; clear hx))
      go_ret
      exact ⟨rfl, HX.out⟩
    · have e1 : decide (s.a.status = 0) = false := decide_eq_false h1
      have e1b : (s.a.status == 0) = false := beq_eq_false_iff_ne.2 h1
      by_cases h2 : n < 0
      · have e2 : decide (n < 0) = true := decide_eq_true h2
        have HD2 : Aside0 (dataP s n fin = toldP s s.a fin 1) := ⟨HD.out.trans ((if_neg h1).trans (if_pos h2))⟩
        rw [HD2.out]
        clear h1 HD h2
        go_enter Tryz.func22, Tryz.ntmps22
        go_wp2_with (first
          | (go_at_call 59; refine HO.out.mono ?_; rintro e w1 ⟨rfl, hb⟩; have hr1 := HR.out.below hb; have k1 := hr1.k1; have k2 := hr1.k2; have k3 := hr1.k3; have k4 := hr1.k4; have k5 := hr1.k5; have k6 := hr1.k6; have HB := Aside0.mk hb; clear hb hr1)
          | (go_at_call 61; refine (HT.out s.a Af At cf ct 1 w1 _ HB.out (below_alloc (Below.refl _ _) _) HR.out.rf HR.out.rt).mono ?_; rintro e w2 ⟨rfl, hx⟩; have HX := Aside0.mk hx; clear hx))
        go_ret
        exact ⟨rfl, HX.out⟩
      · have e2 : decide (n < 0) = false := decide_eq_false h2
        have HD2 : Aside0 (dataP s n fin = toldP s { s.a with came := s.a.came + n } fin 0) := ⟨HD.out.trans ((if_neg h1).trans (if_neg h2))⟩
        rw [HD2.out]
        clear h1 HD h2
        go_enter Tryz.func22, Tryz.ntmps22
        go_wp2_with (first
          | (go_at_call 59; refine HO.out.mono ?_; rintro e w1 ⟨rfl, hb⟩; have hr1 := HR.out.below hb; have k1 := hr1.k1; have k2 := hr1.k2; have k3 := hr1.k3; have k4 := hr1.k4; have k5 := hr1.k5; have k6 := hr1.k6; have HB := Aside0.mk hb; clear hb hr1)
          | (go_at_call 61; refine (HT.out { s.a with came := s.a.came + n } Af At cf ct 0 w1 _ HB.out (below_alloc (Below.refl _ _) _) HR.out.rf HR.out.rt).mono ?_; rintro e w2 ⟨rfl, hx⟩; have HX := Aside0.mk hx; clear hx))
        go_ret
        exact ⟨rfl, HX.out⟩
end Go.Proofs.YtififgiicpdndaaGreatDoor.Fw
/- slices.Clone, IndexFunc, DeleteFunc of fields, as the reader calls them. -/
namespace Go.Proofs.YtififgiicpdndaaGreatDoor.Fw
open Go.RowKit Go.Proofs.YtififgiicpdndaaGreatDoor.XMi Go.Proofs.YtififgiicpdndaaGreatDoorW.PrintWords Go.Proofs.YtififgiicpdndaaGreatDoorW.PrintLast Go.Proofs.YtififgiicpdndaaGreatDoorW.PrintMore Go.Proofs.YtififgiicpdndaaGreatDoor.Ms Go.Proofs.YtififgiicpdndaaGreatDoor.Ob
theorem fr_empty (w : World) (base : Nat) (hb : base ≤ w.heap.size) : FR (w.alloc (.cells #[] 61)) base (some ⟨w.heap.size, 0, none⟩) 0 0 [] :=
  ⟨rfl, rfl, .inr ⟨w.heap.size, 0, #[], rfl, hb, heap_alloc_new w _, Nat.le_refl _, by decide, rfl, rfl⟩⟩
set_option maxHeartbeats 800000 in
theorem clone_c {w : World} {A : Option Addr} {l : List S61} {c : Nat} (hC : k61.C w A l.length l) (hl : l.length ≤ 100000) : Calls Tryz.prog 60 #[.slice A l.length c] w fun e w' => ∃ A' c', e = .returned (.slice A' l.length c') ∧ FR w' w.heap.size A' l.length c' l ∧ Below w.heap.size w w' := by
  have HC := Aside0.mk hC
  have HL := Aside0.mk hl
  have q32 : ∀ (w : World) (a : Option Addr) (n c n' c' : Nat), (binOp .eql 22 (.slice a n c) (.slice none n' c')).run Tryz.prog w = .ok (.bool a.isNone) w := fun w a n c n' c' => Lib.run_eql_slice_nil w _ _ a n c n' c' Tryz.underlying22
  cases A with
  | none =>
    have hl0 : l = [] := by
      rcases Nat.eq_zero_or_pos l.length with h | h
      · exact List.eq_nil_of_length_eq_zero h
      · obtain ⟨ad, e, _⟩ := hC.2.2 h
        cases e
    subst hl0
    clear hC hl
    go_enter Tryz.func60, Tryz.ntmps60
    go_wp2
    go_ret
    exact ⟨none, 0, rfl, FR.nil _ _, Below.refl _ _⟩
  | some ad =>
    clear hC hl
    go_enter Tryz.func60, Tryz.ntmps60
    go_wp2_with (first
      | ((with_reducible refine gate_builtin (b := .append) (xs := #[.tmp 5, .tmp 6]) rfl ?_); at_builtin; refine list_app rfl (.tmp 5) (.tmp 6) rfl w w.heap.size _ (some ad) 0 0 l.length c [] l rfl rfl (fr_empty w w.heap.size (Nat.le_refl _)) (Kd.C_alloc HC.out _) ?_ ?_ (below_alloc (Below.refl _ _) _) ?_; (have := HL.out; simp; omega); (simp); intro A6 c6 w6 hF hb6 _; rw [Nat.zero_add, List.nil_append] at hF; have HF6 := Aside0.mk hF; have HB6 := Aside0.mk hb6; clear hF hb6))
    go_ret
    exact ⟨A6, c6, rfl, HF6.out, HB6.out⟩
def isStat (f : S61) : Bool := f.f0.toList == colStatus.toList
theorem col_list : colStatus.toList = [58, 115, 116, 97, 116, 117, 115] := toList_mk _
theorem pred_c (x : S61) (w : World) : Calls Tryz.prog 66 #[.agg #[.string x.f0, .string x.f1]] w fun e w' => e = .returned (.bool (isStat x)) ∧ Below w.heap.size w w' := by
  unfold isStat
  rw [col_list]
  go_enter Tryz.func66, Tryz.ntmps66
  go_wp2
  go_ret
  exact ⟨rfl, below_alloc (Below.refl _ _) _⟩
theorem zs_fact (n : Nat) : (Builtin.zeroCells #[Value.string ⟨#[]⟩, .string ⟨#[]⟩] n).toList.length = n * 2 ∧ ∀ u ∈ (Builtin.zeroCells #[Value.string ⟨#[]⟩, .string ⟨#[]⟩] n).toList, u.oneCell' = true := by
  refine ⟨by rw [Array.length_toList, size_zeroCells]; rfl, fun u hu => ?_⟩
  unfold Builtin.zeroCells at hu
  simp only [Array.toList_map, List.mem_map] at hu
  obtain ⟨i, _, rfl⟩ := hu
  have h2 : i % (#[Value.string ⟨#[]⟩, .string ⟨#[]⟩] : Array Value).size = 0 ∨ i % (#[Value.string ⟨#[]⟩, .string ⟨#[]⟩] : Array Value).size = 1 := by
    show i % 2 = 0 ∨ i % 2 = 1
    omega
  rcases h2 with h | h <;> rw [h] <;> rfl
theorem run_clear2 (w : World) (b o n c : Nat) (cur : Array Value) (hn : 0 < n) (hg : w.heap[b]? = some (.cells cur 61 (0, 0))) (hfit : o + n * 2 ≤ cur.size) :
    ∃ zs : List Value, zs.length = n * 2 ∧ ∀ ty, (Builtin.clear_ #[22] ty #[.slice (some ⟨b, o, none⟩) n c]).run Tryz.prog w = .ok (.tuple #[]) (w.setRow b (cur.toList.take o ++ zs ++ cur.toList.drop (o + zs.length)).toArray) := by
  obtain ⟨h1, h2⟩ := zs_fact n
  refine ⟨_, h1, fun ty => ?_⟩
  have hst := run_storeCells_at (P := Tryz.prog) b o 61 (Builtin.zeroCells #[Value.string ⟨#[]⟩, .string ⟨#[]⟩] n).toList 0 cur w hg (by rw [h1]; omega) h2
  simp only [Nat.add_zero] at hst
  have hv : ∀ w, (zeroValue 61).run Tryz.prog w = .ok (.agg #[.string ⟨#[]⟩, .string ⟨#[]⟩]) w := Tryz.zeroValue61
  obtain ⟨m, rfl⟩ : ∃ m, n = m + 1 := ⟨n - 1, by omega⟩
  have hz : (Value.agg #[.string ⟨#[]⟩, .string ⟨#[]⟩]).cells = #[Value.string ⟨#[]⟩, .string ⟨#[]⟩] := rfl
  simp [Builtin.clear_, run_underlying Tryz.underlying22, hv, hz, hst]
theorem FR.put0 {w : World} {base n c g : Nat} {l : List S61} (h : FR w base (Option.some ⟨g, 0, none⟩) n c l) (k : Nat) (x : S61) (hk : l[k]? = Option.some x) (v : ByteArray) : FR (w.setCell ⟨g, k * 2, none⟩ (.string v)) base (Option.some ⟨g, 0, none⟩) n c (l.set k ⟨v, x.f1⟩) := by
  have hkl : k < l.length := (List.getElem?_eq_some_iff.1 hk).1
  have hn := h.1
  obtain ⟨g', cur, e, hb, hh, hnc, hcm, hcs, ht⟩ := h.some (by omega)
  obtain rfl : g = g' := by injection e with e; injection e
  have hi : k * 2 < cur.size := by rw [hcs]; omega
  refine ⟨by rw [List.length_set]; exact hn, by rw [fcells_len, List.length_set, hn], .inr ⟨g, c, _, rfl, hb, heap_put hh _ _ hi, hnc, hcm, by rw [Array.size_set]; exact hcs, ?_⟩⟩
  rw [Array.toList_set, List.take_set, ht]
  clear hh hi ht hcs e h hn
  induction l generalizing k with
  | nil => simp at hk
  | cons y l ih =>
    cases k with
    | zero =>
      obtain rfl := Option.some.inj hk
      rfl
    | succ k =>
      have := ih k (by simpa using hk) (by simpa using hkl)
      rw [show (k + 1) * 2 = k * 2 + 1 + 1 by omega]
      simp [fcells, this]
theorem FR.put {w : World} {base n c g : Nat} {l : List S61} (h : FR w base (Option.some ⟨g, 0, none⟩) n c l) (k : Nat) (hk : k < l.length) (v : S61) : FR ((w.setCell ⟨g, k * 2, none⟩ (.string v.f0)).setCell ⟨g, k * 2 + 1, none⟩ (.string v.f1)) base (Option.some ⟨g, 0, none⟩) n c (l.set k v) := by
  have h1 := h.put0 k l[k] (List.getElem?_eq_getElem hk) v.f0
  have h2 := h1.put1 k ⟨v.f0, l[k].f1⟩ (by rw [List.getElem?_set_self hk]) v.f1
  rw [List.set_set] at h2
  exact h2
end Go.Proofs.YtififgiicpdndaaGreatDoor.Fw
/- slices.IndexFunc (the shelf's contract, laid) and slices.DeleteFunc of fields (walked). -/
namespace Go.Proofs
open Go.Shelf
def Tryz.SlH0_6_ren : Go.Shelf.Ren := ⟨fun | 6 => 91 | n => n, fun | 0 => 0 | 3 => 3 | 4 => 4 | 22 => 22 | 23 => 61 | 25 => 93 | n => n, fun | n => n⟩
theorem Tryz.SlH0_6 : Go.Proofs.SlLaysH0.n6 Tryz.prog Tryz.SlH0_6_ren := {
  mixed := by kernel_rfl
  f6 := ⟨Tryz.f91.name, by decide, Tryz.func91.trans (congrArg some (by kernel_rfl))⟩
  t0 := Tryz.underlying0
  a0 := Tryz.isAgg0
  z0 := Tryz.sizeOf0
  v0 := Tryz.zeroValue0
  t3 := Tryz.underlying3
  a3 := Tryz.isAgg3
  z3 := Tryz.sizeOf3
  v3 := Tryz.zeroValue3
  t4 := Tryz.underlying4
  a4 := Tryz.isAgg4
  z4 := Tryz.sizeOf4
  v4 := Tryz.zeroValue4
  t22 := Tryz.underlying22
  a22 := Tryz.isAgg22
  z22 := Tryz.sizeOf22
  v22 := Tryz.zeroValue22
  t25 := Tryz.underlying93
  a25 := Tryz.isAgg93
  z25 := Tryz.sizeOf93
  v25 := Tryz.zeroValue93 }
namespace YtififgiicpdndaaGreatDoor.Fw
open Go.RowKit Go.Proofs.YtififgiicpdndaaGreatDoor.XMi Go.Proofs.YtififgiicpdndaaGreatDoorW.PrintWords Go.Proofs.YtififgiicpdndaaGreatDoorW.PrintLast Go.Proofs.YtififgiicpdndaaGreatDoorW.PrintMore Go.Proofs.YtififgiicpdndaaGreatDoor.Ms Go.Proofs.YtififgiicpdndaaGreatDoor.Ob
instance : Inhabited S61 := ⟨z61⟩
def firstS (l : List S61) : Int := Lib.idxBy (fun _ y => isStat y) l default
theorem index_c {w : World} {base c g : Nat} {l : List S61} (h : FR w base (some ⟨g, 0, none⟩) l.length c l) (hl : l.length ≤ 100000) : Calls Tryz.prog 91 #[.slice (some ⟨g, 0, none⟩) l.length c, .func (.func 66) #[] #[]] w fun e w' => e = .returned (.int .i64 (firstS l)) ∧ Below w.heap.size w w' := by
  obtain ⟨hC, _⟩ := h.c (by omega)
  have hp : PredBelow Tryz.prog 66 #[] (fun x => .agg (encL x).toArray) isStat w := fun W x hW => (pred_c x W).mono fun e w' ⟨he, hb2⟩ => ⟨he, below_step hW hb2⟩
  have hg : g < w.heap.size := by
    rcases fr_block h with e | ⟨b, e, _, hb⟩
    · cases e
    · injection e with e
      injection e with e1 _
      omega
  have := AnyQ.slices_IndexFunc Tryz.SlH0_6 2 Tryz.isAgg61 Tryz.sizeOf61 encL (fun _ => rfl) isStat 66 #[] (enters_of Tryz.func66 (by kernel_rfl) rfl) g 0 l.length c l w hp (Nat.le_refl _) (by omega) hg (fun j hj i v hi => by
    obtain ⟨ad, e, a0, a1⟩ := elem_at hC (Below.refl _ _) j hj
    cases e
    have hlj : l[j]! = l[j] := by simp [hj]
    rw [hlj] at hi
    have e1 : (⟨g, 0, none⟩ : Addr).add (j * 2) = ⟨g, 0 + j * 2, none⟩ := by
      unfold Addr.add
      split
      · next h => rw [h]
      · rfl
    rw [e1] at a0 a1
    rcases i with _ | _ | i
    · obtain rfl := Option.some.inj hi
      exact a0
    · obtain rfl := Option.some.inj hi
      exact a1
    · cases hi)
  rw [List.take_length] at this
  exact this
theorem first_cases (l : List S61) : (firstS l = -1 ∧ others l = l) ∨ ∃ k, k < l.length ∧ firstS l = (k : Int) ∧ isStat l[k]! = true ∧ others (l.take k) = l.take k := by
  unfold firstS Lib.idxBy
  have hall : ∀ m : List S61, (∀ j, j < m.length → isStat m[j]! = false) → others m = m := fun m hm => by
    unfold others
    rw [List.filter_eq_self]
    intro x hx
    obtain ⟨j, hj, rfl⟩ := List.getElem_of_mem hx
    have := hm j hj
    rw [show m[j]! = m[j] by simp [hj]] at this
    show (!isStat m[j]) = true
    rw [this]
    rfl
  rcases idxByFrom_spec (fun _ y => isStat y) default l 0 with ⟨h1, h2⟩ | ⟨k, h1, h2, h3, h4⟩
  · exact .inl ⟨h1, hall l h2⟩
  · refine .inr ⟨k, h1, by rw [h2]; congr 1; omega, h3, hall _ fun j hj => ?_⟩
    rw [List.length_take] at hj
    have hj2 : j < k := by omega
    have := h4 j hj2
    rw [show (l.take k)[j]! = l[j]! by simp [hj2, List.getElem!_eq_getElem?_getD]]
    exact this
theorem others_snoc (l : List S61) (x : S61) : others (l ++ [x]) = if isStat x then others l else others l ++ [x] := by
  unfold others isStat
  rw [List.filter_append, List.filter_cons, List.filter_nil]
  cases x.f0.toList == colStatus.toList <;> simp
theorem others_le (l : List S61) : (others l).length ≤ l.length := List.length_filter_le _ _
end YtififgiicpdndaaGreatDoor.Fw
end Go.Proofs
/- slices.DeleteFunc of fields by the predicate of the reader: walked. -/
namespace Go.Proofs.YtififgiicpdndaaGreatDoor.Fw
open Go.RowKit Go.Proofs.YtififgiicpdndaaGreatDoor.XMi Go.Proofs.YtififgiicpdndaaGreatDoorW.PrintWords Go.Proofs.YtififgiicpdndaaGreatDoorW.PrintLast Go.Proofs.YtififgiicpdndaaGreatDoorW.PrintMore Go.Proofs.YtififgiicpdndaaGreatDoor.Ms Go.Proofs.YtififgiicpdndaaGreatDoor.Ob
theorem elem_own {w : World} {base c g n : Nat} {L : List S61} (h : FR w base (some ⟨g, 0, none⟩) n c L) (hl : L.length ≤ 1000000) (j : Nat) (hj : j < L.length) : w.cell? ⟨g, j * 2, none⟩ = some (.string L[j].f0) ∧ w.cell? ⟨g, j * 2 + 1, none⟩ = some (.string L[j].f1) := by
  obtain ⟨hC, _⟩ := h.c (by omega)
  have hn : n = L.length := h.1
  subst hn
  obtain ⟨ad, e, k0, k1⟩ := elem_at hC (Below.refl _ _) j hj
  cases e
  rw [Addr.add_lit, Nat.zero_add] at k0 k1
  exact ⟨k0, k1⟩
theorem slot_own {w : World} {base c g n : Nat} {L : List S61} (h : FR w base (some ⟨g, 0, none⟩) n c L) (i : Nat) (hi : i < n * 2) : ∃ u, w.cell? ⟨g, i, none⟩ = some u ∧ w.frozen? ⟨g, i, none⟩ = false := by
  obtain ⟨g', cur, e, hb, hh, hnc, hcm, hcs, ht⟩ := h.some (by omega)
  obtain rfl : g = g' := by injection e with e; injection e
  exact cell_own hh (by rw [hcs]; omega)
/-- The row behind its first i elements cleared. -/
theorem fr_cut {w : World} {base c g n i : Nat} {L : List S61} {zs : List Value} {cur : Array Value} (h : FR w base (some ⟨g, 0, none⟩) n c L) (hh : w.heap[g]? = some (.cells cur 61 (0, 0))) (hi : i ≤ n) (hz : zs.length = (n - i) * 2) : FR (w.setRow g (cur.toList.take (i * 2) ++ zs ++ cur.toList.drop (i * 2 + zs.length)).toArray) base (some ⟨g, 0, none⟩) i c (L.take i) := by
  obtain ⟨hn, h1, h2⟩ := h
  rcases h2 with ⟨e, _⟩ | ⟨g', cap, cur', e, hb, hh', hnc, hcm, hcs, ht⟩
  · cases e
  · injection e with e1 e2 e3
    injection e1 with e1
    injection e1 with e1 _
    subst e1; subst e3
    obtain rfl : cur = cur' := by
      have := hh.symm.trans hh'
      injection this with this
      injection this
    have hlen : cur.toList.length = c * 2 := by rw [Array.length_toList, hcs]
    refine ⟨by rw [List.length_take]; omega, by rw [fcells_len, List.length_take]; omega, .inr ⟨g, c, _, rfl, hb, setRow_heap w g cur _ 61 _ hh, Nat.le_trans hi hnc, hcm, ?_, ?_⟩⟩
    · simp only [List.size_toArray, List.length_append, List.length_take, List.length_drop, hlen, hz]
      omega
    · have ht2 : (fcells L).take (i * 2) = fcells (L.take i) := by
        clear ht hh hh' h1 hn hz hlen hcs hnc hi hb
        induction L generalizing i with
        | nil => simp [fcells]
        | cons y L ih =>
          cases i with
          | zero => simp [fcells]
          | succ i =>
            rw [show (i + 1) * 2 = i * 2 + 1 + 1 by omega]
            simp [fcells, ih]
      rw [← ht2, ← ht, List.take_take, Nat.min_eq_left (by omega)]
      show ((cur.toList.take (i * 2) ++ zs ++ _) : List Value).take (i * 2) = _
      rw [List.append_assoc, List.take_append_of_le_length (by rw [List.length_take, hlen]; omega), List.take_of_length_le (by rw [List.length_take]; omega)]
set_option maxHeartbeats 3200000 in
set_option maxRecDepth 20000 in
theorem del_c {w : World} {base c : Nat} {A : Option Addr} {l : List S61} (h : FR w base A l.length c l) (h0 : 0 < l.length) (hb : base ≤ w.heap.size) (hl : l.length ≤ 100000) : Calls Tryz.prog 65 #[.slice A l.length c, .func (.func 66) #[] #[]] w fun e w' => e = .returned (.slice A (others l).length c) ∧ FR w' base A (others l).length c (others l) ∧ Below base w w' := by
  obtain ⟨g, cur, rfl, hbg, hh, hnc, hcm, hcs, ht⟩ := h.some h0
  have HI := Aside0.mk (index_c h hl)
  have HF := Aside0.mk h
  have HL := Aside0.mk (And.intro hl (And.intro hb (And.intro hbg hnc)))
  clear hh hcs ht hcm h hbg hnc
  rcases first_cases l with ⟨hi, ho⟩ | ⟨k, hk, hi, hs, ho⟩
  · rw [hi] at HI
    rw [ho]
    clear hi ho hl hb
    go_enter Tryz.func65, Tryz.ntmps65
    go_wp2_with (first
      | (go_at_call 91; refine HI.out.mono ?_; rintro e w1 ⟨rfl, hb⟩; have HB := Aside0.mk hb; clear hb))
    go_ret
    exact ⟨rfl, HF.out.step HB.out, HB.out.mono HL.out.2.1⟩
  · rw [hi] at HI
    have e1 : decide ((k : Int) = -1) = false := decide_eq_false (by omega)
    have e1b : ((k : Int) == -1) = false := beq_eq_false_iff_ne.2 (by omega)
    have e1c : ¬ (k : Int) = -1 := by omega
    have hw : wrap64 ((k : Int) + 1) = ((k + 1 : Nat) : Int) := w64_next k (by omega)
    have HWK := Aside0.mk hw
    have HK : Aside0 (k < l.length ∧ l.take k = others (l.take (k + 1))) := ⟨hk, by
      rw [List.take_succ_eq_append_getElem hk, others_snoc, ho]
      have : isStat l[k] = true := by rw [show l[k]! = l[k] by simp [hk]] at hs; exact hs
      rw [this]
      rfl⟩
    clear hi ho hl hb hs hk h0
    go_enter Tryz.func65, Tryz.ntmps65
    go_wp2_with (first
      | (go_at_call 91; refine HI.out.mono ?_; rintro e w1 ⟨rfl, hb⟩; have HB := Aside0.mk hb; clear hb))
    clear e1 e1b e1c HI hw
    go_loopg [5, 6] (l.length - k) (fun kq v5 v6 w' => ∃ (i j : Nat) (L : List S61), v5 = .int .i64 i ∧ v6 = .int .i64 j ∧ Aside0 (i < j ∧ j ≤ l.length ∧ j + kq = l.length + 1 ∧ L.length = l.length ∧ L.take i = others (l.take j) ∧ L.drop j = l.drop j) ∧ Aside0 (FR w' base (some ⟨g, 0, none⟩) l.length c L ∧ Below base w w'))
    case atStart => exact ⟨k, k + 1, l, rfl, congrArg (Value.int .i64) HWK.out, ⟨by omega, by have := HK.out.1; omega, by have := HK.out.1; omega, rfl, HK.out.2, rfl⟩, ⟨HF.out.step HB.out, HB.out.mono HL.out.2.1⟩⟩
    case round =>
      obtain ⟨i, j, L, rfl, rfl, HJ, HW⟩ := hrel
      by_cases hj : j < l.length
      · have e1 : decide ((j : Int) < (l.length : Int)) = true := decide_eq_true (by omega)
        have hLj : j < L.length := by rw [HJ.out.2.2.2.1]; exact hj
        obtain ⟨k0, k1⟩ := elem_own HW.out.1 (by have := HL.out.1; have := HJ.out; omega) j hLj
        have hx : L[j] = l[j] := by
          have h1 : (L.drop j)[0]? = (l.drop j)[0]? := by rw [HJ.out.2.2.2.2.2]
          rw [List.getElem?_drop, List.getElem?_drop, Nat.add_zero, List.getElem?_eq_getElem hLj, List.getElem?_eq_getElem hj] at h1
          exact Option.some.inj h1
        rw [hx] at k0 k1
        have HX : Aside0 (l.take (j + 1) = l.take j ++ [l[j]]) := ⟨List.take_succ_eq_append_getElem hj⟩
        have HXL : Aside0 (j < L.length ∧ j < l.length) := ⟨hLj, hj⟩
        have HD : Aside0 (L.drop (j + 1) = l.drop (j + 1)) := ⟨by
          have := congrArg (List.drop 1) HJ.out.2.2.2.2.2
          rw [List.drop_drop, List.drop_drop] at this
          exact this⟩
        generalize l[j] = x at k0 k1 HX
        have p1 : (0 : Int) ≤ (j : Int) := by omega
        have p2 : (j : Int) < (l.length : Int) := by omega
        have p3 : (0 : Int) ≤ (i : Int) := by omega
        have p4 : (i : Int) < (l.length : Int) := by have := HJ.out; omega
        have hwj : wrap64 ((j : Int) + 1) = ((j + 1 : Nat) : Int) := w64_next j (by have := HL.out.1; omega)
        have hwi : wrap64 ((i : Int) + 1) = ((i + 1 : Nat) : Int) := w64_next i (by have := HL.out.1; have := HJ.out; omega)
        have HWI := Aside0.mk hwi
        have HWJ := Aside0.mk hwj
        have HP := Aside0.mk (pred_c x)
        clear hx hLj hj
        generalize hst : isStat x = st at HP
        cases st with
        | true =>
          go_wp2_with (first
            | (go_at_call 66; refine (HP.out _).mono ?_; rintro e w2 ⟨rfl, hb⟩; have HF2 := Aside0.mk ((FR.alloc HW.out.1 _).step hb); have HB2 := Aside0.mk (HW.out.2.trans ((Below.alloc (Below.refl _ _) (Nat.le_refl _) (.cells #[.string x.f0, .string x.f1] 61)).trans (hb.mono (by simp)) |>.mono (Nat.le_trans HL.out.2.1 HW.out.2.size))); clear hb))
          go_roundg (gk - 1)
          case measure => have := HJ.out; omega
          case rel => exact ⟨i, j + 1, L, rfl, congrArg (Value.int .i64) HWJ.out, ⟨by have := HJ.out; omega, by have := HXL.out; omega, by have := HJ.out; have := HXL.out; omega, HJ.out.2.2.2.1, by rw [HX.out, others_snoc, hst]; exact HJ.out.2.2.2.2.1, HD.out⟩, ⟨HF2.out, HB2.out⟩⟩
        | false =>
          go_wp2_with (first
            | (go_at_call 66; refine (HP.out _).mono ?_; rintro e w2 ⟨rfl, hb⟩; have hf2 := (FR.alloc HW.out.1 (.cells #[.string x.f0, .string x.f1] 61)).step hb; have hbk := (hb.block _ (blk_lt (heap_alloc_new wr _))).trans (heap_alloc_new wr (.cells #[.string x.f0, .string x.f1] 61)); have b0 := cells_of_heap hbk 0 _ rfl; have b1 := cells_of_heap hbk 1 _ rfl; obtain ⟨u0, s0, f0⟩ := slot_own hf2 (i * 2) (by omega); obtain ⟨u1, s1, f1⟩ := slot_own hf2 (i * 2 + 1) (by omega); have HF2 := Aside0.mk hf2; have HB2 := Aside0.mk (HW.out.2.trans ((Below.alloc (Below.refl _ _) (Nat.le_refl _) (.cells #[.string x.f0, .string x.f1] 61)).trans (hb.mono (by simp)) |>.mono (Nat.le_trans HL.out.2.1 HW.out.2.size))); clear hb hf2 hbk))
          go_roundg (gk - 1)
          case measure => have := HJ.out; omega
          case rel =>
            have hiL : i < L.length := by have := HJ.out; omega
            refine ⟨i + 1, j + 1, L.set i x, congrArg (Value.int .i64) HWI.out, congrArg (Value.int .i64) HWJ.out, ⟨by have := HJ.out; omega, by have := HXL.out; omega, by have := HJ.out; have := HXL.out; omega, by rw [List.length_set]; exact HJ.out.2.2.2.1, ?_, ?_⟩, ⟨HF2.out.put i hiL x, (HB2.out.setCell (p := ⟨g, i * 2, none⟩) HL.out.2.2.1 _).setCell (p := ⟨g, i * 2 + 1, none⟩) HL.out.2.2.1 _⟩⟩
            · rw [HX.out, others_snoc, hst, ← HJ.out.2.2.2.2.1, List.take_succ_eq_append_getElem (by rw [List.length_set]; exact hiL), List.getElem_set_self, List.take_set_of_le (Nat.le_refl _)]
              rfl
            · rw [List.drop_set_of_lt (by have := HJ.out; omega)]
              exact HD.out
      · have e1 : decide ((j : Int) < (l.length : Int)) = false := decide_eq_false (by omega)
        have hjn : j = l.length := by have := HJ.out; omega
        subst hjn
        have hi : i < l.length := HJ.out.1
        have ho : L.take i = others l := by rw [HJ.out.2.2.2.2.1, List.take_length]
        have hol : (others l).length = i := by rw [← ho, List.length_take]; have := HJ.out; omega
        obtain ⟨i0, hi0, _, hsz0, _⟩ := info_parts infoFd
        have hcut : ∀ W : World, (Instr.slice 22 (.slice (some ⟨g, 0, none⟩) l.length c) (some (.int .i64 (i : Int))) none none).run Tryz.prog W = .ok (.slice (some ⟨g, i * 2, none⟩) (l.length - i) (c - i)) W := fun W => by
          have := cut_from (P := Tryz.prog) 22 61 .i64 Tryz.underlying22 hi0 2 hsz0 (some ⟨g, 0, none⟩) l.length c (i : Int) (by omega) (by omega) W
          rw [this, Int.toNat_natCast, if_neg (by have := HL.out; omega)]
          simp [Addr.add_lit]
        obtain ⟨g', cur, e, _, hh, _, _, hcs, _⟩ := HW.out.1.some (by omega)
        obtain rfl : g = g' := by injection e with e; injection e
        obtain ⟨zs, hz, hcl⟩ := run_clear2 wr g (i * 2) (l.length - i) (c - i) cur (by omega) hh (by rw [hcs]; have := HL.out; omega)
        have HZ := Aside0.mk (fr_cut HW.out.1 hh (Nat.le_of_lt hi) hz)
        have HS := Aside0.mk (below_setRow HW.out.2 HL.out.2.2.1 (cur.toList.take (i * 2) ++ zs ++ cur.toList.drop (i * 2 + zs.length)).toArray)
        rw [ho] at HZ
        have p3 : (0 : Int) ≤ (i : Int) := by omega
        have p4 : (i : Int) ≤ (l.length : Int) := by omega
        have p5 : (i : Int) ≤ (c : Int) := by have := HL.out; omega
        have HO := Aside0.mk hol
        clear hol hi0 hsz0 hh hcs e hz hi ho
        go_wp2
        go_ret
        rw [HO.out]
        have hz2 := HZ.out
        have hs2 := HS.out
        rw [List.append_assoc] at hz2 hs2
        exact ⟨rfl, hz2, hs2⟩
end Go.Proofs.YtififgiicpdndaaGreatDoor.Fw
