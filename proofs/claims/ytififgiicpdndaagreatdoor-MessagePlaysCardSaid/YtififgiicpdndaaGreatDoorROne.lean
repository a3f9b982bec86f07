/- Merged: RdP RdW RdQ RdH RdS RdR. -/
import Derived.Test.YtififgiicpdndaaGreatDoorBTwo
import Derived.Test.YtififgiicpdndaaGreatDoorMTwo
import Derived.Deep.RegionLaw
import Derived.Deep.RegionHeldLaw
import Derived.BigRegion
/- The document's reader of a response knows what the reader knows: the plain law. -/
namespace Go.Proofs.YtififgiicpdndaaGreatDoor.Fw
open Go.RowKit Go.Proofs.YtififgiicpdndaaGreatDoor.XMi Go.Proofs.YtififgiicpdndaaGreatDoorW.PrintWords Go.Proofs.YtififgiicpdndaaGreatDoorW.PrintLast Go.Proofs.YtififgiicpdndaaGreatDoorW.PrintMore Go.Proofs.YtififgiicpdndaaGreatDoor.Ms Go.Proofs.YtififgiicpdndaaGreatDoor.Ob
theorem told_cameZ {s : MS} {a : MA} {fin : Bool} {e r : Int} {s' : MS} (h : toldP s a fin e = (r, s')) : s'.a.came = s.a.came ∨ s'.a.came = a.came := by
  unfold toldP at h
  by_cases h1 : e ≠ 0
  · rw [if_pos h1] at h
    cases h
    exact .inl rfl
  · rw [if_neg h1] at h
    by_cases h2 : longP s.method a fin = true
    · rw [if_pos h2] at h
      cases h
      exact .inr rfl
    · rw [if_neg h2] at h
      cases h
      exact .inl rfl
/-- What holds of a reader at all times. -/
structure Iv (s : MS) : Prop where
  st : 0 ≤ s.a.status
  z : s.a.status = 0 → s.a.fields = [] ∧ s.a.came = 0
  c0 : 0 ≤ s.a.came
theorem iv_new (m : ByteArray) : Iv (newP m) := ⟨Int.le_refl 0, fun _ => ⟨rfl, rfl⟩, Int.le_refl 0⟩
theorem iv_told {s : MS} (h : Iv s) {a : MA} (ha : 0 ≤ a.status ∧ (a.status = 0 → a.fields = [] ∧ a.came = 0) ∧ 0 ≤ a.came) (fin : Bool) (e : Int) : Iv (toldP s a fin e).2 := by
  unfold toldP
  by_cases h1 : e ≠ 0
  · rw [if_pos h1]
    exact ⟨h.st, h.z, h.c0⟩
  · rw [if_neg h1]
    by_cases h2 : longP s.method a fin = true
    · rw [if_pos h2]
      exact ⟨ha.1, ha.2.1, ha.2.2⟩
    · rw [if_neg h2]
      exact ⟨h.st, h.z, h.c0⟩
theorem iv_head {s : MS} (h : Iv s) (fin : Bool) (l : List S61) : Iv (headP s fin l).2 := by
  unfold headP
  by_cases h1 : overP s = true
  · rw [if_pos h1]
    exact h
  · rw [if_neg h1]
    by_cases h2 : s.a.status > 0
    · rw [if_pos h2]
      refine iv_told h ?_ fin _; exact ⟨h.st, h.z, h.c0⟩
    · rw [if_neg h2]
      by_cases h3 : respQ l ≠ 0
      · rw [if_pos h3]
        refine iv_told h ?_ fin _; exact ⟨h.st, h.z, h.c0⟩
      · rw [if_neg h3]
        by_cases h4 : statNum l < 200
        · rw [if_pos h4]
          cases fin with
          | true => rw [if_pos rfl]; refine iv_told h ?_ true _; exact ⟨h.st, h.z, h.c0⟩
          | false => rw [if_neg Bool.false_ne_true]; exact h
        · rw [if_neg h4]
          refine iv_told h ?_ fin _; exact ⟨by show 0 ≤ statNum l; omega, fun e => absurd (show statNum l = 0 from e) (by omega), h.c0⟩
theorem iv_data {s : MS} (h : Iv s) (n : Int) (fin : Bool) : Iv (dataP s n fin).2 := by
  unfold dataP
  by_cases h1 : overP s = true
  · rw [if_pos h1]
    exact h
  · rw [if_neg h1]
    by_cases h2 : s.a.status = 0
    · rw [if_pos h2]
      refine iv_told h ?_ fin _; exact ⟨h.st, h.z, h.c0⟩
    · rw [if_neg h2]
      by_cases h3 : n < 0
      · rw [if_pos h3]
        refine iv_told h ?_ fin _; exact ⟨h.st, h.z, h.c0⟩
      · rw [if_neg h3]
        refine iv_told h ?_ fin _; exact ⟨h.st, fun e => absurd e h2, by have := h.c0; show 0 ≤ s.a.came + n; omega⟩
theorem came_head {s : MS} (fin : Bool) (l : List S61) : (headP s fin l).2.a.came = s.a.came := by
  unfold headP
  by_cases h1 : overP s = true
  · rw [if_pos h1]
  · rw [if_neg h1]
    by_cases h2 : s.a.status > 0
    · rw [if_pos h2]
      rcases told_cameZ (s := s) (a := { s.a with trails := l }) (fin := fin) (e := if fin then trailQ l else 11) rfl with h | h <;> exact h
    · rw [if_neg h2]
      by_cases h3 : respQ l ≠ 0
      · rw [if_pos h3]
        rcases told_cameZ (s := s) (a := s.a) (fin := fin) (e := respQ l) rfl with h | h <;> exact h
      · rw [if_neg h3]
        by_cases h4 : statNum l < 200
        · rw [if_pos h4]
          cases fin with
          | true =>
            rw [if_pos rfl]
            rcases told_cameZ (s := s) (a := s.a) (fin := true) (e := 11) rfl with h | h <;> exact h
          | false => rw [if_neg Bool.false_ne_true]
        · rw [if_neg h4]
          rcases told_cameZ (s := s) (a := { s.a with status := statNum l, fields := others l, length := (lenQ l).1 }) (fin := fin) (e := (lenQ l).2) rfl with h | h <;> exact h
theorem came_data {s : MS} (n : Int) (fin : Bool) : (dataP s n fin).2.a.came = s.a.came ∨ (0 ≤ n ∧ (dataP s n fin).2.a.came = s.a.came + n) := by
  unfold dataP
  by_cases h1 : overP s = true
  · rw [if_pos h1]
    exact .inl rfl
  · rw [if_neg h1]
    by_cases h2 : s.a.status = 0
    · rw [if_pos h2]
      rcases told_cameZ (s := s) (a := s.a) (fin := fin) (e := 11) rfl with h | h <;> exact .inl h
    · rw [if_neg h2]
      by_cases h3 : n < 0
      · rw [if_pos h3]
        rcases told_cameZ (s := s) (a := s.a) (fin := fin) (e := 1) rfl with h | h <;> exact .inl h
      · rw [if_neg h3]
        rcases told_cameZ (s := s) (a := { s.a with came := s.a.came + n }) (fin := fin) (e := 0) rfl with h | h
        · exact .inl h
        · exact .inr ⟨by omega, h⟩
theorem told_same {s : MS} {a : MA} (ha : a.fields = s.a.fields ∧ a.trails = s.a.trails ∧ a.status = s.a.status) (fin : Bool) (e : Int) : (toldP s a fin e).2.a.fields = s.a.fields ∧ (toldP s a fin e).2.a.trails = s.a.trails ∧ (toldP s a fin e).2.a.status = s.a.status := by
  unfold toldP
  by_cases h1 : e ≠ 0
  · rw [if_pos h1]
    exact ⟨rfl, rfl, rfl⟩
  · rw [if_neg h1]
    by_cases h2 : longP s.method a fin = true
    · rw [if_pos h2]
      exact ha
    · rw [if_neg h2]
      exact ⟨rfl, rfl, rfl⟩
theorem data_same (s : MS) (n : Int) (fin : Bool) : (dataP s n fin).2.a.fields = s.a.fields ∧ (dataP s n fin).2.a.trails = s.a.trails ∧ (dataP s n fin).2.a.status = s.a.status := by
  unfold dataP
  by_cases h1 : overP s = true
  · rw [if_pos h1]
    exact ⟨rfl, rfl, rfl⟩
  · rw [if_neg h1]
    by_cases h2 : s.a.status = 0
    · rw [if_pos h2]
      refine told_same ?_ fin _; exact ⟨rfl, rfl, rfl⟩
    · rw [if_neg h2]
      by_cases h3 : n < 0
      · rw [if_pos h3]
        refine told_same ?_ fin _; exact ⟨rfl, rfl, rfl⟩
      · rw [if_neg h3]
        refine told_same ?_ fin _; exact ⟨rfl, rfl, rfl⟩
def wholeP (m : ByteArray) (st said n : Int) : Bool := decide (said < 0) || (decide (said = n) || (decide (n = 0) && noBody m st))
theorem long_end (m : ByteArray) (a : MA) (_ : 0 ≤ a.came) : longP m a true = wholeP m a.status a.length a.came := by
  unfold longP wholeP
  by_cases h1 : a.length < 0 ∨ a.came = a.length
  · rw [if_pos h1]
    rcases h1 with h1 | h1
    · rw [decide_eq_true h1]; rfl
    · rw [decide_eq_true h1.symm, Bool.true_or, Bool.or_true]
  · rw [if_neg h1, decide_eq_false (show ¬ a.length < 0 by omega), decide_eq_false (show ¬ a.length = a.came by omega)]
    by_cases h2 : a.came > a.length
    · rw [if_pos h2, decide_eq_false (show ¬ a.came = 0 by omega)]
      rfl
    · rw [if_neg h2, Bool.not_true, Bool.false_or, Bool.false_or, Bool.false_or]
      by_cases h3 : a.came = 0
      · rw [decide_eq_true h3, beq_iff_eq.2 h3]
      · rw [decide_eq_false h3, beq_eq_false_iff_ne.2 h3]
def brk (s : MS) : MS := { s with broken := true }
theorem told_bad (s : MS) (a : MA) (fin : Bool) {e : Int} (h : e ≠ 0) : toldP s a fin e = (e, brk s) := if_pos h
theorem told_good (s : MS) (a : MA) (fin : Bool) (h : longP s.method a fin = true) : toldP s a fin 0 = (0, { s with a := { a with done := fin } }) := (if_neg (fun h => h rfl)).trans (if_pos h)
theorem told_long (s : MS) (a : MA) (fin : Bool) (h : longP s.method a fin = false) : toldP s a fin 0 = (22, brk s) := (if_neg (fun h => h rfl)).trans (if_neg (by rw [h]; exact Bool.false_ne_true))
section
variable {s : MS}
theorem no_over (ho : overP s = false) : ¬ overP s = true := by rw [ho]; exact Bool.false_ne_true
theorem hp_over (ho : overP s = true) (fin : Bool) (l : List S61) : headP s fin l = (8, s) := if_pos ho
theorem hp_t0 (ho : overP s = false) (h1 : s.a.status > 0) (l : List S61) : headP s false l = (11, brk s) := by
  unfold headP
  rw [if_neg (no_over ho), if_pos h1, if_neg Bool.false_ne_true]
  exact told_bad _ _ _ (by decide)
theorem hp_t1 (ho : overP s = false) (h1 : s.a.status > 0) {l : List S61} (h2 : trailQ l ≠ 0) : headP s true l = (trailQ l, brk s) := by
  unfold headP
  rw [if_neg (no_over ho), if_pos h1, if_pos rfl]
  exact told_bad _ _ _ h2
theorem hp_t2 (ho : overP s = false) (h1 : s.a.status > 0) (hc : 0 ≤ s.a.came) {l : List S61} (h2 : trailQ l = 0) (h3 : wholeP s.method s.a.status s.a.length s.a.came = true) : headP s true l = (0, { s with a := { s.a with trails := l, done := true } }) := by
  unfold headP
  rw [if_neg (no_over ho), if_pos h1, if_pos rfl, h2]
  exact told_good s { s.a with trails := l } true ((long_end s.method { s.a with trails := l } hc).trans h3)
theorem hp_t3 (ho : overP s = false) (h1 : s.a.status > 0) (hc : 0 ≤ s.a.came) {l : List S61} (h2 : trailQ l = 0) (h3 : wholeP s.method s.a.status s.a.length s.a.came = false) : headP s true l = (22, brk s) := by
  unfold headP
  rw [if_neg (no_over ho), if_pos h1, if_pos rfl, h2]
  exact told_long s { s.a with trails := l } true ((long_end s.method { s.a with trails := l } hc).trans h3)
theorem hp_f1 (ho : overP s = false) (h1 : s.a.status = 0) (fin : Bool) {l : List S61} (h2 : respQ l ≠ 0) : headP s fin l = (respQ l, brk s) := by
  unfold headP
  rw [if_neg (no_over ho), if_neg (by omega), if_pos h2]
  exact told_bad _ _ _ h2
theorem hp_f2 (ho : overP s = false) (h1 : s.a.status = 0) {l : List S61} (h2 : respQ l = 0) (h3 : statNum l < 200) : headP s true l = (11, brk s) := by
  unfold headP
  rw [if_neg (no_over ho), if_neg (by omega), if_neg (fun h => h h2), if_pos h3, if_pos rfl]
  exact told_bad _ _ _ (by decide)
theorem hp_f3 (ho : overP s = false) (h1 : s.a.status = 0) {l : List S61} (h2 : respQ l = 0) (h3 : statNum l < 200) : headP s false l = (0, s) := by
  unfold headP
  rw [if_neg (no_over ho), if_neg (by omega), if_neg (fun h => h h2), if_pos h3, if_neg Bool.false_ne_true]
theorem hp_f4 (ho : overP s = false) (h1 : s.a.status = 0) (fin : Bool) {l : List S61} (h2 : respQ l = 0) (h3 : ¬ statNum l < 200) (h4 : (lenQ l).2 ≠ 0) : headP s fin l = ((lenQ l).2, brk s) := by
  unfold headP
  rw [if_neg (no_over ho), if_neg (by omega), if_neg (fun h => h h2), if_neg h3]
  exact told_bad _ _ _ h4
theorem hp_f5 (ho : overP s = false) (h1 : s.a.status = 0) (hc : s.a.came = 0) {l : List S61} (h2 : respQ l = 0) (h3 : ¬ statNum l < 200) (h4 : (lenQ l).2 = 0) (h5 : wholeP s.method (statNum l) (lenQ l).1 0 = false) : headP s true l = (22, brk s) := by
  unfold headP
  rw [if_neg (no_over ho), if_neg (by omega), if_neg (fun h => h h2), if_neg h3, h4]
  exact told_long s { s.a with status := statNum l, fields := others l, length := (lenQ l).1 } true ((long_end s.method { s.a with status := statNum l, fields := others l, length := (lenQ l).1 } (by show 0 ≤ s.a.came; omega)).trans (by show wholeP s.method (statNum l) (lenQ l).1 s.a.came = false; rw [hc]; exact h5))
theorem hp_f6 (ho : overP s = false) (h1 : s.a.status = 0) (hc : s.a.came = 0) (fin : Bool) {l : List S61} (h2 : respQ l = 0) (h3 : ¬ statNum l < 200) (h4 : (lenQ l).2 = 0) (h5 : fin = true → wholeP s.method (statNum l) (lenQ l).1 0 = true) : headP s fin l = (0, { s with a := { s.a with status := statNum l, fields := others l, length := (lenQ l).1, done := fin } }) := by
  unfold headP
  rw [if_neg (no_over ho), if_neg (by omega), if_neg (fun h => h h2), if_neg h3, h4]
  refine told_good s { s.a with status := statNum l, fields := others l, length := (lenQ l).1 } fin ?_
  cases fin with
  | true => exact (long_end s.method { s.a with status := statNum l, fields := others l, length := (lenQ l).1 } (by show 0 ≤ s.a.came; omega)).trans (by show wholeP s.method (statNum l) (lenQ l).1 s.a.came = true; rw [hc]; exact h5 rfl)
  | false =>
    unfold longP
    show (if (lenQ l).1 < 0 ∨ s.a.came = (lenQ l).1 then true else if s.a.came > (lenQ l).1 then false else !false || (s.a.came == 0 && noBody s.method (statNum l))) = true
    by_cases h6 : (lenQ l).1 < 0 ∨ s.a.came = (lenQ l).1
    · rw [if_pos h6]
    · rw [if_neg h6, if_neg (by omega)]
      rfl
theorem dp_d1 (ho : overP s = false) (h1 : s.a.status = 0) (n : Int) (fin : Bool) : dataP s n fin = (11, brk s) := by
  unfold dataP
  rw [if_neg (no_over ho), if_pos h1]
  exact told_bad _ _ _ (by decide)
theorem dp_d2 (ho : overP s = false) (h1 : ¬ s.a.status = 0) {n : Int} (h2 : n < 0) (fin : Bool) : dataP s n fin = (1, brk s) := by
  unfold dataP
  rw [if_neg (no_over ho), if_neg h1, if_pos h2]
  exact told_bad _ _ _ (by decide)
theorem dp_d3 (ho : overP s = false) (h1 : ¬ s.a.status = 0) {n : Int} (h2 : ¬ n < 0) (h3 : s.a.length ≥ 0) (h4 : s.a.came + n > s.a.length) (fin : Bool) : dataP s n fin = (22, brk s) := by
  unfold dataP
  rw [if_neg (no_over ho), if_neg h1, if_neg h2]
  refine told_long s { s.a with came := s.a.came + n } fin ?_
  unfold longP
  show (if s.a.length < 0 ∨ s.a.came + n = s.a.length then true else if s.a.came + n > s.a.length then false else _) = false
  rw [if_neg (by omega), if_pos h4]
theorem dp_d4 (ho : overP s = false) (h1 : ¬ s.a.status = 0) {n : Int} (h2 : ¬ n < 0) (h3 : ¬ (s.a.length ≥ 0 ∧ s.a.came + n > s.a.length)) : dataP s n false = (0, { s with a := { s.a with came := s.a.came + n, done := false } }) := by
  unfold dataP
  rw [if_neg (no_over ho), if_neg h1, if_neg h2]
  refine told_good s { s.a with came := s.a.came + n } false ?_
  unfold longP
  show (if s.a.length < 0 ∨ s.a.came + n = s.a.length then true else if s.a.came + n > s.a.length then false else !false || (s.a.came + n == 0 && noBody s.method s.a.status)) = true
  by_cases h6 : s.a.length < 0 ∨ s.a.came + n = s.a.length
  · rw [if_pos h6]
  · rw [if_neg h6, if_neg (by omega)]
    rfl
theorem dp_d5 (ho : overP s = false) (h1 : ¬ s.a.status = 0) (hc : 0 ≤ s.a.came) {n : Int} (h2 : ¬ n < 0) (h4 : wholeP s.method s.a.status s.a.length (s.a.came + n) = true) : dataP s n true = (0, { s with a := { s.a with came := s.a.came + n, done := true } }) := by
  unfold dataP
  rw [if_neg (no_over ho), if_neg h1, if_neg h2]
  exact told_good s { s.a with came := s.a.came + n } true ((long_end s.method { s.a with came := s.a.came + n } (by show 0 ≤ s.a.came + n; omega)).trans h4)
theorem dp_d6 (ho : overP s = false) (h1 : ¬ s.a.status = 0) (hc : 0 ≤ s.a.came) {n : Int} (h2 : ¬ n < 0) (h4 : wholeP s.method s.a.status s.a.length (s.a.came + n) = false) : dataP s n true = (22, brk s) := by
  unfold dataP
  rw [if_neg (no_over ho), if_neg h1, if_neg h2]
  exact told_long s { s.a with came := s.a.came + n } true ((long_end s.method { s.a with came := s.a.came + n } (by show 0 ≤ s.a.came + n; omega)).trans h4)
end
theorem dp_over {s : MS} (ho : overP s = true) (n : Int) (fin : Bool) : dataP s n fin = (8, s) := if_pos ho
end Go.Proofs.YtififgiicpdndaaGreatDoor.Fw
/- The document's reader: whole, Data: contracts. -/
namespace Go.Proofs.YtififgiicpdndaaGreatDoor.Fw
open Go.RowKit Go.Proofs.YtififgiicpdndaaGreatDoor.XMi Go.Proofs.YtififgiicpdndaaGreatDoorW.PrintWords Go.Proofs.YtififgiicpdndaaGreatDoorW.PrintLast Go.Proofs.YtififgiicpdndaaGreatDoorW.PrintMore Go.Proofs.YtififgiicpdndaaGreatDoor.Ms Go.Proofs.YtififgiicpdndaaGreatDoor.Ob
def rrCells (s : MS) (bk : Bool) (Rf : Option Addr) (cf : Nat) (Rt : Option Addr) (ct : Nat) : Array Value := #[.string s.method, .int .i64 s.a.status, .int .i64 s.a.length, .int .i64 s.a.came, .slice Rf s.a.fields.length cf, .slice Rt s.a.trails.length ct, .bool s.a.done, .bool bk]
structure RR (w : World) (g : Nat) (s : MS) (bk : Bool) (Rf : Option Addr) (cf : Nat) (Rt : Option Addr) (ct : Nat) : Prop where
  hp : w.heap[g]? = some (.cells (rrCells s bk Rf cf Rt ct) 49 (0, 0))
  rf : Row w g Rf s.a.fields.length cf s.a.fields
  rt : Row w g Rt s.a.trails.length ct s.a.trails
  b1 : s.broken = true → bk = true
  b2 : bk = true → overP s = true
  n0 : s.a.status = 0 → Rf = none ∧ cf = 0
theorem over_bits {s : MS} {bk : Bool} (b1 : s.broken = true → bk = true) (b2 : bk = true → overP s = true) : overP s = (s.a.done || bk) := by
  unfold overP at b2 ⊢
  cases h1 : s.broken <;> cases h2 : bk <;> cases h3 : s.a.done <;> simp_all
theorem st_drew {ok : Nat → Prop} {w w' : World} (h : Stay ok w w') : Stay ok w w'.drew := h.drewN 1
theorem st_set {g i : Nat} {w w' : World} {v : Value} (h : Stay (fun k => k = g) w w') : Stay (fun k => k = g) w (w'.setCell ⟨g, i, none⟩ v) := h.setCell (p := ⟨g, i, none⟩) (.inl rfl) v
set_option maxHeartbeats 1600000 in
theorem whole_c {w : World} {g : Nat} {cs : Array Value} {m : ByteArray} (hp : w.heap[g]? = some (.cells cs 49 (0, 0))) (hm : cs[0]? = some (.string m)) (st said n : Int) : Calls Tryz.prog 92 #[.pointer (some ⟨g, 0, none⟩), .int .i64 st, .int .i64 said, .int .i64 n] w fun e w' => e = .returned (.int .i64 (if wholeP m st said n = true then 0 else 22)) ∧ w' = w := by
  have k0 := cells_of_heap hp 0 _ hm
  clear hp hm
  have hw : wholeP m st said n = (decide (said < 0) || (decide (said = n) || (decide (n = 0) && ((st == 204 || st == 304) || m.toList == [72, 69, 65, 68])))) := by
    unfold wholeP noBody headB
    rw [show (⟨#[72, 69, 65, 68]⟩ : ByteArray).toList = [72, 69, 65, 68] from toList_mk [72, 69, 65, 68]]
  rw [hw]
  clear hw
  by_cases h1 : said < 0
  · have e1 : decide (said < 0) = true := decide_eq_true h1
    rw [e1]
    clear h1
    go_enter Tryz.func92, Tryz.ntmps92
    go_wp2
    go_ret
    exact ⟨rfl, rfl⟩
  have e1 : decide (said < 0) = false := decide_eq_false h1
  rw [e1]
  by_cases h2 : said = n
  · have e2 : decide (said = n) = true := decide_eq_true h2
    have e2b : (said == n) = true := beq_iff_eq.2 h2
    rw [e2]
    clear h1 h2
    go_enter Tryz.func92, Tryz.ntmps92
    go_wp2
    go_ret
    exact ⟨rfl, rfl⟩
  have e2 : decide (said = n) = false := decide_eq_false h2
  have e2b : (said == n) = false := beq_eq_false_iff_ne.2 h2
  rw [e2]
  by_cases h3 : n = 0
  · have e3 : decide (n = 0) = true := decide_eq_true h3
    have e3b : (n == 0) = true := beq_iff_eq.2 h3
    rw [e3]
    clear h1 h2 h3
    by_cases h4 : m.toList = [72, 69, 65, 68]
    · have e4 : decide (m.toList = [72, 69, 65, 68]) = true := decide_eq_true h4
      have e4b : (m.toList == [72, 69, 65, 68]) = true := beq_iff_eq.2 h4
      rw [e4b, Bool.or_true]
      clear h4
      go_enter Tryz.func92, Tryz.ntmps92
      go_wp2
      go_ret
      exact ⟨rfl, rfl⟩
    have e4 : decide (m.toList = [72, 69, 65, 68]) = false := decide_eq_false h4
    have e4b : (m.toList == [72, 69, 65, 68]) = false := beq_eq_false_iff_ne.2 h4
    rw [e4b, Bool.or_false]
    by_cases h5 : st = 204
    · have e5 : decide (st = 204) = true := decide_eq_true h5
      have e5b : (st == 204) = true := beq_iff_eq.2 h5
      rw [e5b]
      clear h5
      go_enter Tryz.func92, Tryz.ntmps92
      go_wp2
      go_ret
      exact ⟨rfl, rfl⟩
    have e5 : decide (st = 204) = false := decide_eq_false h5
    have e5b : (st == 204) = false := beq_eq_false_iff_ne.2 h5
    rw [e5b]
    by_cases h6 : st = 304
    · have e6 : decide (st = 304) = true := decide_eq_true h6
      have e6b : (st == 304) = true := beq_iff_eq.2 h6
      rw [e6b]
      clear h6
      go_enter Tryz.func92, Tryz.ntmps92
      go_wp2
      go_ret
      exact ⟨rfl, rfl⟩
    have e6 : decide (st = 304) = false := decide_eq_false h6
    have e6b : (st == 304) = false := beq_eq_false_iff_ne.2 h6
    rw [e6b]
    go_enter Tryz.func92, Tryz.ntmps92
    go_wp2
    go_ret
    exact ⟨rfl, rfl⟩
  have e3 : decide (n = 0) = false := decide_eq_false h3
  have e3b : (n == 0) = false := beq_eq_false_iff_ne.2 h3
  rw [e3]
  clear h1 h2 h3
  go_enter Tryz.func92, Tryz.ntmps92
  go_wp2
  go_ret
  exact ⟨rfl, rfl⟩

def inner (s : MS) (p : Int × MS) : MS := if p.1 = 0 then p.2 else s
set_option maxHeartbeats 3200000 in
set_option maxRecDepth 20000 in
/-- The inner method: what it answers; the object is as it was, where that is an error. -/
theorem data0_c {w : World} {g : Nat} {s : MS} {bk : Bool} {Rf Rt : Option Addr} {cf ct : Nat} (h : RR w g s bk Rf cf Rt ct) (hi : Iv s) (n : Int) (fin : Bool) (hr : -9223372036854775808 ≤ s.a.came + n ∧ s.a.came + n ≤ 9223372036854775807) :
    Calls Tryz.prog 68 #[.pointer (some ⟨g, 0, none⟩), .int .i64 n, .bool fin] w fun e w' => e = .returned (.int .i64 (dataP s n fin).1) ∧ Stay (fun k => k = g) w w' ∧ w'.heap[g]? = some (.cells (rrCells (inner s (dataP s n fin)) bk Rf cf Rt ct) 49 (0, 0)) := by
  have hov := over_bits h.b1 h.b2
  have hp := h.hp
  have hw : wrap64 (s.a.came + n) = s.a.came + n := w64_in (s.a.came + n) hr
  have hwk : IntKind.i64.wrap (s.a.came + n) = s.a.came + n := by
    rw [IntKind.wrap_i64]
    omega
  have HI := Aside0.mk hi
  have HP := Aside0.mk hp
  have HWh := Aside0.mk (fun (W : World) (hb : W.heap[g]? = some (.cells (rrCells s bk Rf cf Rt ct) 49 (0, 0))) (q : Int) => whole_c hb (m := s.method) rfl s.a.status s.a.length q)
  have k1 := cells_of_heap hp 1 (.int .i64 s.a.status) rfl
  have k2 := cells_of_heap hp 2 (.int .i64 s.a.length) rfl
  have k3 := cells_of_heap hp 3 (.int .i64 s.a.came) rfl
  have k6 := cells_of_heap hp 6 (.bool s.a.done) rfl
  have k7 := cells_of_heap hp 7 (.bool bk) rfl
  have fz : ∀ j, w.frozen? ⟨g, j, none⟩ = false := Bk.fz_of hp
  clear h hi hr hp
  by_cases ho : overP s = true
  · have HE := Aside0.mk (dp_over ho n fin)
    rw [ho] at hov
    have HOv := Aside0.mk hov
    generalize hdn : s.a.done = dn at k6 hov HOv
    clear hdn ho hov
    cases dn with
    | true =>
      go_enter Tryz.func68, Tryz.ntmps68
      go_wp2
      go_ret
      rw [HE.out]
      exact ⟨rfl, Stay.refl _ _, HP.out⟩
    | false =>
      obtain rfl : bk = true := HOv.out.symm
      go_enter Tryz.func68, Tryz.ntmps68
      go_wp2
      go_ret
      rw [HE.out]
      exact ⟨rfl, Stay.refl _ _, HP.out⟩
  have ho : overP s = false := by cases h : overP s with | true => exact absurd h ho | false => rfl
  rw [ho] at hov
  obtain ⟨hd, hbk⟩ : s.a.done = false ∧ bk = false := by
    cases h1 : s.a.done <;> cases h2 : bk <;> simp_all
  subst hbk
  rw [hd] at k6
  have HO := Aside0.mk ho
  have HD := Aside0.mk hd
  clear hov ho hd
  by_cases h1 : s.a.status = 0
  · have e1 : decide (s.a.status = 0) = true := decide_eq_true h1
    have e1b : (s.a.status == 0) = true := beq_iff_eq.2 h1
    have HE := Aside0.mk (dp_d1 HO.out h1 n fin)
    generalize s.a.status = x1 at k1 e1 e1b
    clear h1
    go_enter Tryz.func68, Tryz.ntmps68
    go_wp2
    go_ret
    rw [HE.out]
    exact ⟨rfl, Stay.refl _ _, HP.out⟩
  have e1 : decide (s.a.status = 0) = false := decide_eq_false h1
  have e1b : (s.a.status == 0) = false := beq_eq_false_iff_ne.2 h1
  by_cases h2 : n < 0
  · have e2 : decide (n < 0) = true := decide_eq_true h2
    have HE := Aside0.mk (dp_d2 HO.out h1 h2 fin)
    clear h1 h2
    go_enter Tryz.func68, Tryz.ntmps68
    go_wp2
    go_ret
    rw [HE.out]
    exact ⟨rfl, Stay.refl _ _, HP.out⟩
  have e2 : decide (n < 0) = false := decide_eq_false h2
  have H1 := Aside0.mk h1
  have H2 := Aside0.mk h2
  clear h1 h2
  obtain ⟨m, ⟨st, fs, ts, le, ca, dn⟩, br⟩ := s
  dsimp only at *
  obtain rfl : dn = false := HD.out
  by_cases h3 : le ≥ 0 ∧ ca + n > le
  · have e3 : decide (le ≥ 0) = true := decide_eq_true h3.1
    have e3b : decide (0 ≤ le) = true := decide_eq_true h3.1
    have e4 : decide (ca + n > le) = true := decide_eq_true h3.2
    have e4b : decide (le < ca + n) = true := decide_eq_true h3.2
    have HE := Aside0.mk (dp_d3 HO.out H1.out H2.out h3.1 h3.2 fin)
    clear h3
    go_enter Tryz.func68, Tryz.ntmps68
    go_wp2
    go_region
    all_goals
      go_wp2
      go_ret
      rw [HE.out]
      exact ⟨rfl, Stay.of_below (ok := fun k => k = g) (by repeat' first | exact Below.refl _ _ | (with_reducible refine below_drew ?_)), HP.out⟩
  have HG3 := Aside0.mk h3
  have hcase : (decide (le ≥ 0) = true ∧ decide (0 ≤ le) = true ∧ decide (ca + n > le) = false ∧ decide (le < ca + n) = false) ∨ (decide (le ≥ 0) = false ∧ decide (0 ≤ le) = false) := by
    by_cases h4 : le ≥ 0
    · exact .inl ⟨decide_eq_true h4, decide_eq_true h4, decide_eq_false (fun h => h3 ⟨h4, h⟩), decide_eq_false (fun h => h3 ⟨h4, h⟩)⟩
    · exact .inr ⟨decide_eq_false h4, decide_eq_false h4⟩
  clear h3
  cases fin with
  | false =>
    have HE := Aside0.mk (dp_d4 HO.out H1.out H2.out HG3.out)
    rcases hcase with ⟨e3, e3b, e4, e4b⟩ | ⟨e3, e3b⟩
    · go_enter Tryz.func68, Tryz.ntmps68
      go_wp2
      go_region
      all_goals
        go_wp2
        go_ret
        rw [HE.out]
        exact ⟨rfl, (by repeat' first | exact Stay.refl _ _ | (with_reducible refine st_drew ?_) | (refine st_set ?_)), Bk.heap_put HP.out 3 _ (by simp [rrCells])⟩
    · go_enter Tryz.func68, Tryz.ntmps68
      go_wp2
      go_region
      all_goals
        go_wp2
        go_ret
        rw [HE.out]
        exact ⟨rfl, (by repeat' first | exact Stay.refl _ _ | (with_reducible refine st_drew ?_) | (refine st_set ?_)), Bk.heap_put HP.out 3 _ (by simp [rrCells])⟩
  | true =>
    cases hwh : wholeP m st le (ca + n) with
    | true =>
      have HE := Aside0.mk (dp_d5 HO.out H1.out HI.out.c0 H2.out hwh)
      have HWT := Aside0.mk (fun (W : World) (hb : W.heap[g]? = some (.cells (rrCells ⟨m, ⟨st, fs, ts, le, ca, false⟩, br⟩ false Rf cf Rt ct) 49 (0, 0))) => by have := HWh.out W hb (ca + n); rw [hwh] at this; exact this)
      clear hwh HWh
      rcases hcase with ⟨e3, e3b, e4, e4b⟩ | ⟨e3, e3b⟩
      · go_enter Tryz.func68, Tryz.ntmps68
        go_wp2
        go_region
        all_goals
          go_wp2
          go_region_held_law (fun W => W.cell? ⟨g, 1, none⟩ = some (.int .i64 st) ∧ W.cell? ⟨g, 2, none⟩ = some (.int .i64 le) ∧ W.cell? ⟨g, 3, none⟩ = some (.int .i64 ca)) (exact ⟨k1, k2, k3⟩) (first
            | (go_at_call 92; refine (HWT.out _ ?hb).mono ?_; (case hb => exact HP.out); rintro e w2 ⟨rfl, rfl⟩))
          all_goals
            go_wp2
            go_ret
            rw [HE.out]
            exact ⟨rfl, (by repeat' first | exact Stay.refl _ _ | (with_reducible refine st_drew ?_) | (refine st_set ?_)), Bk.heap_put (Bk.heap_put HP.out 6 _ (by simp [rrCells])) 3 _ (by simp [rrCells])⟩
      · go_enter Tryz.func68, Tryz.ntmps68
        go_wp2
        go_region
        all_goals
          go_wp2
          go_region_held_law (fun W => W.cell? ⟨g, 1, none⟩ = some (.int .i64 st) ∧ W.cell? ⟨g, 2, none⟩ = some (.int .i64 le) ∧ W.cell? ⟨g, 3, none⟩ = some (.int .i64 ca)) (exact ⟨k1, k2, k3⟩) (first
            | (go_at_call 92; refine (HWT.out _ ?hb).mono ?_; (case hb => exact HP.out); rintro e w2 ⟨rfl, rfl⟩))
          all_goals
            go_wp2
            go_ret
            rw [HE.out]
            exact ⟨rfl, (by repeat' first | exact Stay.refl _ _ | (with_reducible refine st_drew ?_) | (refine st_set ?_)), Bk.heap_put (Bk.heap_put HP.out 6 _ (by simp [rrCells])) 3 _ (by simp [rrCells])⟩
    | false =>
      have HE := Aside0.mk (dp_d6 HO.out H1.out HI.out.c0 H2.out hwh)
      have HWT := Aside0.mk (fun (W : World) (hb : W.heap[g]? = some (.cells (rrCells ⟨m, ⟨st, fs, ts, le, ca, false⟩, br⟩ false Rf cf Rt ct) 49 (0, 0))) => by have := HWh.out W hb (ca + n); rw [hwh] at this; exact this)
      clear hwh HWh
      rcases hcase with ⟨e3, e3b, e4, e4b⟩ | ⟨e3, e3b⟩
      · go_enter Tryz.func68, Tryz.ntmps68
        go_wp2
        go_region
        all_goals
          go_wp2
          go_region_held_law (fun W => W.cell? ⟨g, 1, none⟩ = some (.int .i64 st) ∧ W.cell? ⟨g, 2, none⟩ = some (.int .i64 le) ∧ W.cell? ⟨g, 3, none⟩ = some (.int .i64 ca)) (exact ⟨k1, k2, k3⟩) (first
            | (go_at_call 92; refine (HWT.out _ ?hb).mono ?_; (case hb => exact HP.out); rintro e w2 ⟨rfl, rfl⟩))
          all_goals
            go_wp2
            go_ret
            rw [HE.out]
            exact ⟨rfl, (by repeat' first | exact Stay.refl _ _ | (with_reducible refine st_drew ?_) | (refine st_set ?_)), HP.out⟩
      · go_enter Tryz.func68, Tryz.ntmps68
        go_wp2
        go_region
        all_goals
          go_wp2
          go_region_held_law (fun W => W.cell? ⟨g, 1, none⟩ = some (.int .i64 st) ∧ W.cell? ⟨g, 2, none⟩ = some (.int .i64 le) ∧ W.cell? ⟨g, 3, none⟩ = some (.int .i64 ca)) (exact ⟨k1, k2, k3⟩) (first
            | (go_at_call 92; refine (HWT.out _ ?hb).mono ?_; (case hb => exact HP.out); rintro e w2 ⟨rfl, rfl⟩))
          all_goals
            go_wp2
            go_ret
            rw [HE.out]
            exact ⟨rfl, (by repeat' first | exact Stay.refl _ _ | (with_reducible refine st_drew ?_) | (refine st_set ?_)), HP.out⟩
/-- What a call leaves, whichever. -/
structure Res (s : MS) (r : Int) (s' : MS) : Prop where
  bad : r ≠ 0 → s'.a = s.a ∧ s'.method = s.method ∧ overP s' = true
  good : r = 0 → overP s = false ∧ s'.broken = s.broken ∧ s'.method = s.method
theorem res_told {s : MS} (ho : overP s = false) {a : MA} {fin : Bool} {e r : Int} {s' : MS} (h : toldP s a fin e = (r, s')) : Res s r s' := by
  unfold toldP at h
  by_cases h1 : e ≠ 0
  · rw [if_pos h1] at h
    cases h
    exact ⟨fun _ => ⟨rfl, rfl, rfl⟩, fun h => absurd h h1⟩
  · rw [if_neg h1] at h
    by_cases h2 : longP s.method a fin = true
    · rw [if_pos h2] at h
      cases h
      exact ⟨fun h => absurd rfl h, fun _ => ⟨ho, rfl, rfl⟩⟩
    · rw [if_neg h2] at h
      cases h
      exact ⟨fun _ => ⟨rfl, rfl, rfl⟩, fun h => by cases h⟩
theorem res_head {s : MS} {fin : Bool} {l : List S61} {r : Int} {s' : MS} (h : headP s fin l = (r, s')) : Res s r s' := by
  unfold headP at h
  by_cases h1 : overP s = true
  · rw [if_pos h1] at h
    cases h
    exact ⟨fun _ => ⟨rfl, rfl, h1⟩, fun h => by cases h⟩
  · have ho : overP s = false := by cases h2 : overP s with | true => exact absurd h2 h1 | false => rfl
    rw [if_neg h1] at h
    by_cases h2 : s.a.status > 0
    · rw [if_pos h2] at h
      exact res_told ho h
    · rw [if_neg h2] at h
      by_cases h3 : respQ l ≠ 0
      · rw [if_pos h3] at h
        exact res_told ho h
      · rw [if_neg h3] at h
        by_cases h4 : statNum l < 200
        · rw [if_pos h4] at h
          cases fin with
          | true =>
            rw [if_pos rfl] at h
            exact res_told ho h
          | false =>
            rw [if_neg Bool.false_ne_true] at h
            cases h
            exact ⟨fun h => absurd rfl h, fun _ => ⟨ho, rfl, rfl⟩⟩
        · rw [if_neg h4] at h
          exact res_told ho h
theorem res_data {s : MS} {n : Int} {fin : Bool} {r : Int} {s' : MS} (h : dataP s n fin = (r, s')) : Res s r s' := by
  unfold dataP at h
  by_cases h1 : overP s = true
  · rw [if_pos h1] at h
    cases h
    exact ⟨fun _ => ⟨rfl, rfl, h1⟩, fun h => by cases h⟩
  · have ho : overP s = false := by cases h2 : overP s with | true => exact absurd h2 h1 | false => rfl
    rw [if_neg h1] at h
    by_cases h2 : s.a.status = 0
    · rw [if_pos h2] at h
      exact res_told ho h
    · rw [if_neg h2] at h
      by_cases h3 : n < 0
      · rw [if_pos h3] at h
        exact res_told ho h
      · rw [if_neg h3] at h
        exact res_told ho h
/-- What the outer method leaves. -/
theorem rr_end {w1 : World} {g : Nat} {s s' : MS} {bk : Bool} {r : Int} {Rf Rt : Option Addr} {cf ct : Nat} (b1 : s.broken = true → bk = true) (b2 : bk = true → overP s = true) (hR : Res s r s') (hp : w1.heap[g]? = some (.cells (rrCells (inner s (r, s')) bk Rf cf Rt ct) 49 (0, 0)))
    (rf : Row w1 g Rf (inner s (r, s')).a.fields.length cf (inner s (r, s')).a.fields) (rt : Row w1 g Rt (inner s (r, s')).a.trails.length ct (inner s (r, s')).a.trails) (n0 : (inner s (r, s')).a.status = 0 → Rf = none ∧ cf = 0) (bk' : Bool) (hb : bk' = (bk || decide (r ≠ 0))) : RR (w1.setCell ⟨g, 7, none⟩ (.bool bk')) g s' bk' Rf cf Rt ct := by
  have hs : Stay (fun k => k = g) w1 (w1.setCell ⟨g, 7, none⟩ (.bool bk')) := (Stay.refl (fun k => k = g) w1).setCell (p := ⟨g, 7, none⟩) (.inl rfl) _
  by_cases h0 : r = 0
  · have hin : inner s (r, s') = s' := if_pos h0
    rw [hin] at hp rf rt n0
    obtain ⟨q1, q2, q3⟩ := hR.good h0
    have hbk : bk = false := by
      cases h : bk with
      | false => rfl
      | true => have := b2 h; rw [q1] at this; cases this
    have hbr : s.broken = false := by
      cases h : s.broken with
      | false => rfl
      | true => have := b1 h; rw [hbk] at this; cases this
    have hb2 : bk' = false := by rw [hb, hbk, h0]; rfl
    subst hb2
    exact ⟨Bk.heap_put hp 7 (.bool false) (by simp [rrCells]), rf.stay hs, rt.stay hs, (fun h => by rw [q2, hbr] at h; cases h), (fun h => by cases h), n0⟩
  · have hin : inner s (r, s') = s := if_neg h0
    rw [hin] at hp rf rt n0
    obtain ⟨q1, q2, q3⟩ := hR.bad h0
    have hb2 : bk' = true := by rw [hb, decide_eq_true h0, Bool.or_true]
    subst hb2
    have hc : rrCells s' true Rf cf Rt ct = rrCells s true Rf cf Rt ct := by unfold rrCells; rw [q1, q2]
    refine ⟨?_, ?_, ?_, (fun _ => rfl), (fun _ => q3), ?_⟩
    · rw [hc]
      exact Bk.heap_put hp 7 (.bool true) (by simp [rrCells])
    · rw [q1]; exact rf.stay hs
    · rw [q1]; exact rt.stay hs
    · rw [q1]; exact n0
set_option maxHeartbeats 1600000 in
theorem dataR_c {w : World} {g : Nat} {s : MS} {bk : Bool} {Rf Rt : Option Addr} {cf ct : Nat} (h : RR w g s bk Rf cf Rt ct) (hi : Iv s) (n : Int) (fin : Bool) (hr : -9223372036854775808 ≤ s.a.came + n ∧ s.a.came + n ≤ 9223372036854775807) :
    Calls Tryz.prog 23 #[.pointer (some ⟨g, 0, none⟩), .int .i64 n, .bool fin] w fun e w' => e = .returned (.int .i64 (dataP s n fin).1) ∧ Stay (fun k => k = g) w w' ∧ ∃ (bk' : Bool) (Rf' : Option Addr) (cf' : Nat) (Rt' : Option Addr) (ct' : Nat), RR w' g (dataP s n fin).2 bk' Rf' cf' Rt' ct' := by
  have H0 := Aside0.mk (data0_c h hi n fin hr)
  have HRR := Aside0.mk h
  have hst : ∀ r s', dataP s n fin = (r, s') → (inner s (r, s')).a.fields = s.a.fields ∧ (inner s (r, s')).a.trails = s.a.trails ∧ (inner s (r, s')).a.status = s.a.status := fun r s' e => by
    have := data_same s n fin
    rw [e] at this
    unfold inner
    by_cases h0 : r = 0
    · show (if r = 0 then s' else s).a.fields = _ ∧ (if r = 0 then s' else s).a.trails = _ ∧ (if r = 0 then s' else s).a.status = _
      rw [if_pos h0]
      exact this
    · show (if r = 0 then s' else s).a.fields = _ ∧ (if r = 0 then s' else s).a.trails = _ ∧ (if r = 0 then s' else s).a.status = _
      rw [if_neg h0]
      exact ⟨rfl, rfl, rfl⟩
  generalize hE : dataP s n fin = p at H0 ⊢
  obtain ⟨r, s'⟩ := p
  have HSt := Aside0.mk (hst r s' hE)
  have HRes := Aside0.mk (res_data hE)
  clear h hi hr hst hE
  dsimp only at H0 ⊢
  have hEnd : Aside0 (∀ (w1 : World) (bk' : Bool), Stay (fun k => k = g) w w1 → w1.heap[g]? = some (.cells (rrCells (inner s (r, s')) bk Rf cf Rt ct) 49 (0, 0)) → bk' = (bk || decide (r ≠ 0)) → RR (w1.setCell ⟨g, 7, none⟩ (.bool bk')) g s' bk' Rf cf Rt ct) := ⟨fun w1 bk' hs hp hb => by
    obtain ⟨q1, q2, q3⟩ := HSt.out
    exact rr_end HRR.out.b1 HRR.out.b2 HRes.out hp (by rw [q1]; exact HRR.out.rf.stay hs) (by rw [q2]; exact HRR.out.rt.stay hs) (by rw [q3]; exact HRR.out.n0) bk' hb⟩
  clear HSt HRes HRR
  cases bk with
  | true =>
    go_enter Tryz.func23, Tryz.ntmps23
    go_wp2_with (first
      | (go_at_call 68; refine H0.out.mono ?_; rintro e w1 ⟨rfl, hs, hp1⟩; have k7 := cells_of_heap hp1 7 (.bool true) rfl; have fz : ∀ j, w1.frozen? ⟨g, j, none⟩ = false := Bk.fz_of hp1; have HP1 := Aside0.mk hp1; have HS1 := Aside0.mk hs; clear hp1 hs H0))
    go_ret
    exact ⟨rfl, HS1.out.setCell (p := ⟨g, 7, none⟩) (.inl rfl) _, _, Rf, cf, Rt, ct, hEnd.out w1 _ HS1.out HP1.out (by simp)⟩
  | false =>
    by_cases h0 : r = 0
    · subst h0
      go_enter Tryz.func23, Tryz.ntmps23
      go_wp2_with (first
        | (go_at_call 68; refine H0.out.mono ?_; rintro e w1 ⟨rfl, hs, hp1⟩; have k7 := cells_of_heap hp1 7 (.bool false) rfl; have fz : ∀ j, w1.frozen? ⟨g, j, none⟩ = false := Bk.fz_of hp1; have HP1 := Aside0.mk hp1; have HS1 := Aside0.mk hs; clear hp1 hs H0))
      go_ret
      exact ⟨rfl, HS1.out.setCell (p := ⟨g, 7, none⟩) (.inl rfl) _, _, Rf, cf, Rt, ct, hEnd.out w1 _ HS1.out HP1.out (by simp)⟩
    · have e0 : decide (r = 0) = false := decide_eq_false h0
      have e0b : (r == 0) = false := beq_eq_false_iff_ne.2 h0
      have e0c : (r != 0) = true := bne_iff_ne.2 h0
      have HH0 := Aside0.mk h0
      clear h0
      go_enter Tryz.func23, Tryz.ntmps23
      go_wp2_with (first
        | (go_at_call 68; refine H0.out.mono ?_; rintro e w1 ⟨rfl, hs, hp1⟩; have k7 := cells_of_heap hp1 7 (.bool false) rfl; have fz : ∀ j, w1.frozen? ⟨g, j, none⟩ = false := Bk.fz_of hp1; have HP1 := Aside0.mk hp1; have HS1 := Aside0.mk hs; clear hp1 hs H0))
      go_ret
      exact ⟨rfl, HS1.out.setCell (p := ⟨g, 7, none⟩) (.inl rfl) _, _, Rf, cf, Rt, ct, hEnd.out w1 _ HS1.out HP1.out (by simp [HH0.out])⟩
end Go.Proofs.YtififgiicpdndaaGreatDoor.Fw
/- What stays by its type; the Book beside other objects; the reader's lists; the reader that is none. -/
namespace Go.Proofs.YtififgiicpdndaaGreatDoor.Bk
open Go.RowKit Go.Proofs.YtififgiicpdndaaGreatDoor.XMi Go.Proofs.YtififgiicpdndaaGreatDoorW.PrintWords Go.Proofs.YtififgiicpdndaaGreatDoorW.PrintLast Go.Proofs.YtififgiicpdndaaGreatDoorW.PrintMore Go.Proofs.YtififgiicpdndaaGreatDoor.Ob
/-- The blocks that may be turned are of such types. -/
def Tys (S : Nat → Prop) (ok : Nat → Prop) (w : World) : Prop := ∀ k, ok k → ∃ (cs : Array Value) (u : TypeId), w.heap[k]? = some (.cells cs u (0, 0)) ∧ S u
theorem cells_keep {w w' : World} {S ok : Nat → Prop} {g : Nat} {cs : Array Value} {t : TypeId} (h : w.heap[g]? = some (.cells cs t (0, 0))) (hs : Stay ok w w') (hT : Tys S ok w) (hn : ¬ S t) : w'.heap[g]? = some (.cells cs t (0, 0)) :=
  (hs.block g (blk_lt h) (fun e => by
    obtain ⟨cs', u, h2, h3⟩ := hT g e
    rw [h] at h2
    injection h2 with h2
    injection h2 with _ h2 _
    exact hn (h2 ▸ h3))).trans h
theorem FR.typed {w w' : World} {S ok : Nat → Prop} {A : Option Addr} {n c : Nat} {l : List S61} (h : FR w A n c l) (hs : Stay ok w w') (hT : Tys S ok w) (hn : ¬ S 61) : FR w' A n c l := by
  obtain ⟨rfl, h1, h2⟩ := h
  refine ⟨rfl, h1, ?_⟩
  rcases h2 with h2 | ⟨g, cap, cur, e, hbg, hh, hr⟩
  · exact .inl h2
  · exact .inr ⟨g, cap, cur, e, hbg, cells_keep hh hs hT hn, hr⟩
theorem Book.norm {w : World} {ρ : Nat → Nat} {b : Nat} (h : Book w ρ b) : ∃ ρ', Book w ρ' b ∧ (∀ k, ρ' k = ρ k ∨ ρ' k = 0) ∧ ∀ k, (ρ' k = 2 ∨ ρ' k = 3 ∨ ρ' k = 4) → ∃ (cs : Array Value) (u : TypeId), w.heap[k]? = some (.cells cs u (0, 0)) ∧ (u = 22 ∨ u = 38) := by
  classical
  obtain ⟨O, oc, P, pc, rs, us, h1, h2, h3, h4⟩ := h
  refine ⟨fun k => if ρ k = 2 ∨ ρ k = 3 ∨ ρ k = 4 then (if k = b ∨ O = some ⟨k, 0, none⟩ ∨ P = some ⟨k, 0, none⟩ then ρ k else 0) else ρ k, ⟨O, oc, P, pc, rs, us, ⟨h1.hb, ?_, h1.so, fun g e => ?_, h1.sp, fun g e => ?_⟩, h2.roles fun k _ h5 => ?_, h3.roles fun k _ h5 => ?_, h4⟩, fun k => ?_, fun k hk => ?_⟩
  · show (if _ then (if _ then ρ b else 0) else ρ b) = 4
    rw [if_pos (.inr (.inr h1.rb)), if_pos (.inl rfl), h1.rb]
  · have := h1.ro g e
    show (if _ then (if _ then ρ g else 0) else ρ g) = 2
    rw [if_pos (.inl this), if_pos (.inr (.inl e)), this]
  · have := h1.rp g e
    show (if _ then (if _ then ρ g else 0) else ρ g) = 3
    rw [if_pos (.inr (.inl this)), if_pos (.inr (.inr e)), this]
  · show (if _ then (if _ then ρ k else 0) else ρ k) = ρ k
    rw [if_neg (by omega)]
  · show (if _ then (if _ then ρ k else 0) else ρ k) = ρ k
    rw [if_neg (by omega)]
  · show (if _ then (if _ then ρ k else 0) else ρ k) = ρ k ∨ (if _ then (if _ then ρ k else 0) else ρ k) = 0
    split
    · split
      · exact .inl rfl
      · exact .inr rfl
    · exact .inl rfl
  · have hk2 : k = b ∨ O = some ⟨k, 0, none⟩ ∨ P = some ⟨k, 0, none⟩ := by
      by_cases h5 : k = b ∨ O = some ⟨k, 0, none⟩ ∨ P = some ⟨k, 0, none⟩
      · exact h5
      · exfalso
        revert hk
        show (if _ then (if _ then ρ k else 0) else ρ k) = 2 ∨ (if _ then (if _ then ρ k else 0) else ρ k) = 3 ∨ (if _ then (if _ then ρ k else 0) else ρ k) = 4 → False
        by_cases h6 : ρ k = 2 ∨ ρ k = 3 ∨ ρ k = 4
        · rw [if_pos h6, if_neg h5]; omega
        · rw [if_neg h6]; exact h6
    rcases hk2 with rfl | h5 | h5
    · exact ⟨_, 38, h1.hb, .inr rfl⟩
    · rcases h1.so.cases with ⟨e, _⟩ | ⟨g, cur, e, hh, _⟩
      · rw [e] at h5; cases h5
      · rw [e] at h5
        injection h5 with h5
        injection h5 with h5
        subst h5
        exact ⟨_, 22, hh, .inl rfl⟩
    · rcases h1.sp.cases with ⟨e, _⟩ | ⟨g, cur, e, hh, _⟩
      · rw [e] at h5; cases h5
      · rw [e] at h5
        injection h5 with h5
        injection h5 with h5
        subst h5
        exact ⟨_, 22, hh, .inl rfl⟩
def bkT (u : Nat) : Prop := u = 22 ∨ u = 38
/-- One more list; what may be turned is of the Book's own types. -/
theorem Kp.fieldsT {n b : Nat} {z y : Nat → Prop} {w : World} (h : Kp n z y w b) {A : Option Addr} {l : List S61} {c : Nat} (hF : FR w A l.length c l) (hl : l.length ≤ 1000000) (hA : ∀ g : Nat, A = some ⟨g, 0, none⟩ → n ≤ g ∧ z g) :
    Calls Tryz.prog 10 #[.pointer (some ⟨b, 0, none⟩), .slice A l.length c] w fun e w' => e = .returned (.tuple #[]) ∧ (∃ ok, Stay ok w w' ∧ Tys bkT ok w ∧ ∀ k, ok k → n ≤ k) ∧ Kp n (fun k => z k ∧ A ≠ some ⟨k, 0, none⟩) (fun k => y k ∨ z k) w' b := by
  have hle := h.le
  obtain ⟨ρ0, h10, h20, h30, h40⟩ := h
  obtain ⟨ρ, h1, hr, hty⟩ := h10.norm
  have h2 : ∀ k, k < n → ρ k = 0 := fun k hk => by have := h20 k hk; have := hr k; omega
  have h3 : ∀ k, z k → k < w.heap.size ∧ ρ k = 0 := fun k hk => by obtain ⟨h5, h6⟩ := h30 k hk; have := hr k; exact ⟨h5, by omega⟩
  have h4 : ∀ k, y k → k < w.heap.size ∧ (ρ k = 0 ∨ 5 ≤ ρ k) := fun k hk => by obtain ⟨h5, h6⟩ := h40 k hk; have := hr k; exact ⟨h5, by omega⟩
  refine (fields_c h1 hF hl fun g e => (h3 g (hA g e).2).2).mono ?_
  rintro e w' ⟨rfl, hs, ρ', k1, k2, k3⟩
  have hsz := hs.size
  refine ⟨rfl, ⟨_, hs, hty, fun k hk => ?_⟩, ρ', k1, fun k hk => ?_, fun k hk => ?_, fun k hk => ?_⟩
  · rcases Nat.lt_or_ge k n with h5 | h5
    · have := h2 k h5; omega
    · exact h5
  · rw [k2 k (by omega) (fun e => by have := (hA k e).1; omega)]
    exact h2 k hk
  · obtain ⟨h5, h6⟩ := h3 k hk.1
    exact ⟨by omega, (k2 k h5 hk.2).trans h6⟩
  · have hk2 : k < w.heap.size ∧ (ρ k = 0 ∨ 5 ≤ ρ k) := by
      rcases hk with hk | hk
      · exact h4 k hk
      · exact ⟨(h3 k hk).1, .inl (h3 k hk).2⟩
    refine ⟨by omega, ?_⟩
    by_cases e : A = some ⟨k, 0, none⟩
    · exact k3 k e
    · rw [k2 k hk2.1 e]
      exact hk2.2
end Go.Proofs.YtififgiicpdndaaGreatDoor.Bk
namespace Go.Proofs.YtififgiicpdndaaGreatDoor.Fw
open Go.RowKit Go.Proofs.YtififgiicpdndaaGreatDoor.XMi Go.Proofs.YtififgiicpdndaaGreatDoorW.PrintWords Go.Proofs.YtififgiicpdndaaGreatDoorW.PrintLast Go.Proofs.YtififgiicpdndaaGreatDoorW.PrintMore Go.Proofs.YtififgiicpdndaaGreatDoor.Ms Go.Proofs.YtififgiicpdndaaGreatDoor.Ob
theorem fcells_eq : ∀ l : List S61, Bk.fcells l = fcells l
  | [] => rfl
  | x :: l => by simp [Bk.fcells, fcells, fcells_eq l]
theorem fr_bk {w : World} {base n c : Nat} {A : Option Addr} {l : List S61} (h : FR w base A n c l) : Bk.FR w A n c l ∧ ∀ g : Nat, A = some ⟨g, 0, none⟩ → base ≤ g := by
  obtain ⟨rfl, h1, h2⟩ := h
  rcases h2 with ⟨e, h0⟩ | ⟨g, cap, cur, e, hb, hr⟩
  · injection e with e1 e2 e3
    refine ⟨⟨rfl, by rw [fcells_eq]; exact h1, .inl ⟨by rw [e1, e3, h0], h0⟩⟩, fun g e => ?_⟩
    rw [e1] at e
    cases e
  · refine ⟨⟨rfl, by rw [fcells_eq]; exact h1, .inr ⟨g, cap, cur, e, Nat.zero_le _, by rw [fcells_eq]; exact hr⟩⟩, fun g' e2 => ?_⟩
    injection e with e1 _ _
    rw [e1] at e2
    injection e2 with e2
    injection e2 with e2
    omega
theorem FR.typed {w w' : World} {S ok : Nat → Prop} {base : Nat} {A : Option Addr} {n c : Nat} {l : List S61} (h : FR w base A n c l) (hs : Stay ok w w') (hT : Bk.Tys S ok w) (hn : ¬ S 61) : FR w' base A n c l := by
  obtain ⟨rfl, h1, h2⟩ := h
  refine ⟨rfl, h1, ?_⟩
  rcases h2 with h2 | ⟨g, cap, cur, e, hbg, hh, hr⟩
  · exact .inl h2
  · exact .inr ⟨g, cap, cur, e, hbg, Bk.cells_keep hh hs hT hn, hr⟩
theorem Row.typed {w w' : World} {S ok : Nat → Prop} {g : Nat} {A : Option Addr} {n c : Nat} {l : List S61} (h : Row w g A n c l) (hs : Stay ok w w') (hT : Bk.Tys S ok w) (hn : ¬ S 61) : Row w' g A n c l :=
  ⟨h.1, h.2.1, fun h0 => ⟨(h.2.2 h0).1.typed hs hT hn, (h.2.2 h0).2⟩⟩
theorem Rd.typed {w w' : World} {S ok : Nat → Prop} {g : Nat} {s : MS} {Af At : Option Addr} {cf ct : Nat} (h : Rd w g s Af cf At ct) (hs : Stay ok w w') (hT : Bk.Tys S ok w) (h1 : ¬ S 61) (h2 : ¬ S 84) : Rd w' g s Af cf At ct :=
  ⟨Bk.cells_keep h.hp hs hT h2, h.rf.typed hs hT h1, h.rt.typed hs hT h1⟩
theorem RR.typed {w w' : World} {S ok : Nat → Prop} {g : Nat} {s : MS} {bk : Bool} {Rf Rt : Option Addr} {cf ct : Nat} (h : RR w g s bk Rf cf Rt ct) (hs : Stay ok w w') (hT : Bk.Tys S ok w) (h1 : ¬ S 61) (h2 : ¬ S 49) : RR w' g s bk Rf cf Rt ct :=
  ⟨Bk.cells_keep h.hp hs hT h2, h.rf.typed hs hT h1, h.rt.typed hs hT h1, h.b1, h.b2, h.n0⟩
theorem RR.below {w w' : World} {g : Nat} {s : MS} {bk : Bool} {Rf Rt : Option Addr} {cf ct : Nat} (h : RR w g s bk Rf cf Rt ct) (hb : Below w.heap.size w w') : RR w' g s bk Rf cf Rt ct :=
  ⟨(hb.block g (blk_lt h.hp)).trans h.hp, h.rf.below hb, h.rt.below hb, h.b1, h.b2, h.n0⟩
theorem tys_rd {w : World} {g : Nat} {s : MS} {Af At : Option Addr} {cf ct : Nat} (h : Rd w g s Af cf At ct) : Bk.Tys (fun u => u = 84) (fun k => k = g) w := fun _ hk => ⟨_, 84, hk ▸ h.hp, rfl⟩
theorem tys_rr {w : World} {g : Nat} {s : MS} {bk : Bool} {Rf Rt : Option Addr} {cf ct : Nat} (h : RR w g s bk Rf cf Rt ct) : Bk.Tys (fun u => u = 49) (fun k => k = g) w := fun _ hk => ⟨_, 49, hk ▸ h.hp, rfl⟩
theorem fieldsM_c {w : World} {g : Nat} {s : MS} {Af At : Option Addr} {cf ct : Nat} (h : Rd w g s Af cf At ct) {l : List S61} (he : s.a.fields = l) (hl : l.length ≤ 100000) : Calls Tryz.prog 25 #[.pointer (some ⟨g, 0, none⟩)] w fun e w' => ∃ A' c', e = .returned (.slice A' l.length c') ∧ FR w' w.heap.size A' l.length c' l ∧ Below w.heap.size w w' := by
  have k2 := h.k2
  have k30 := h.rf
  rw [he] at k2 k30
  have HC := Aside0.mk (clone_c (c := cf) (k30.c (by omega)).1 hl)
  clear h he k30 hl
  go_enter Tryz.func25, Tryz.ntmps25
  go_wp2_with (first
    | (go_at_call 60; refine HC.out.mono ?_; rintro e w1 ⟨A', c', rfl, hF, hb⟩; have HF := Aside0.mk hF; have HB := Aside0.mk hb; clear hF hb HC))
  go_ret
  exact ⟨A', c', rfl, HF.out, HB.out⟩
/-! ### the reader that is none -/
theorem over_no (w : World) : Calls Tryz.prog 59 #[.pointer none] w fun e w' => e = .returned (.bool true) ∧ w' = w := by
  go_enter Tryz.func59, Tryz.ntmps59
  go_wp2
  go_ret
  exact ⟨rfl, rfl⟩
theorem head_no (w : World) : Calls Tryz.prog 20 #[.pointer none, .bool true, .slice none 0 0] w fun e w' => e = .returned (.int .i64 8) ∧ w' = w := by
  have HO := Aside0.mk (over_no w)
  go_enter Tryz.func20, Tryz.ntmps20
  go_wp2_with (first
    | (go_at_call 59; refine HO.out.mono ?_; rintro e w1 ⟨rfl, rfl⟩))
  go_ret
  exact ⟨rfl, rfl⟩
theorem data_no (w : World) : Calls Tryz.prog 22 #[.pointer none, .int .i64 0, .bool true] w fun e w' => e = .returned (.int .i64 8) ∧ w' = w := by
  have HO := Aside0.mk (over_no w)
  go_enter Tryz.func22, Tryz.ntmps22
  go_wp2_with (first
    | (go_at_call 59; refine HO.out.mono ?_; rintro e w1 ⟨rfl, rfl⟩))
  go_ret
  exact ⟨rfl, rfl⟩
theorem status_no (w : World) : Calls Tryz.prog 27 #[.pointer none] w fun e w' => e = .returned (.int .i64 0) ∧ w' = w := by
  go_enter Tryz.func27, Tryz.ntmps27
  go_wp2
  go_ret
  exact ⟨rfl, rfl⟩
theorem done_no (w : World) : Calls Tryz.prog 28 #[.pointer none] w fun e w' => e = .returned (.bool false) ∧ w' = w := by
  go_enter Tryz.func28, Tryz.ntmps28
  go_wp2
  go_ret
  exact ⟨rfl, rfl⟩
theorem fields_no (w : World) : Calls Tryz.prog 25 #[.pointer none] w fun e w' => e = .returned (.slice none 0 0) ∧ w' = w := by
  go_enter Tryz.func25, Tryz.ntmps25
  go_wp2
  go_ret
  exact ⟨rfl, rfl⟩
theorem trails_no (w : World) : Calls Tryz.prog 26 #[.pointer none] w fun e w' => e = .returned (.slice none 0 0) ∧ w' = w := by
  go_enter Tryz.func26, Tryz.ntmps26
  go_wp2
  go_ret
  exact ⟨rfl, rfl⟩
end Go.Proofs.YtififgiicpdndaaGreatDoor.Fw
/- The document's reader: Headers: contracts. -/
namespace Go.Proofs.YtififgiicpdndaaGreatDoor.Fw
open Go.RowKit Go.Proofs.YtififgiicpdndaaGreatDoor.XMi Go.Proofs.YtififgiicpdndaaGreatDoorW.PrintWords Go.Proofs.YtififgiicpdndaaGreatDoorW.PrintLast Go.Proofs.YtififgiicpdndaaGreatDoorW.PrintMore Go.Proofs.YtififgiicpdndaaGreatDoor.Ms Go.Proofs.YtififgiicpdndaaGreatDoor.Ob
theorem others_step (l : List S61) (j : Nat) (hj : j < l.length) : others (l.take (j + 1)) = if l[j].f0.toList = [58, 115, 116, 97, 116, 117, 115] then others (l.take j) else others (l.take j) ++ [l[j]] := by
  unfold others
  rw [List.take_succ_eq_append_getElem hj, List.filter_append, col_list]
  by_cases h : l[j].f0.toList = [58, 115, 116, 97, 116, 117, 115]
  · rw [if_pos h, List.filter_cons, h]
    simp
  · rw [if_neg h, List.filter_cons, beq_eq_false_iff_ne.2 h]
    rfl
theorem others_len (l : List S61) (j : Nat) : (others (l.take j)).length ≤ l.length := by
  unfold others
  exact Nat.le_trans (List.length_filter_le _ _) (by rw [List.length_take]; omega)
theorem stat_num {v : ByteArray} {a b c : UInt8} (e : v.toList = [a, b, c]) (k : Nat) (hP0 : statP v = true) : bywashref1_status.l0 (k + 4) v 0 0 = some ((numD v.toList : Nat) : Int) := by
  have hsz : v.size = 3 := by rw [size_list, e]; rfl
  have b0 : bt v 0 = (a.toNat : Int) := bt_at (pre := []) e
  have b1 : bt v 1 = (b.toNat : Int) := bt_at (pre := [a]) e
  have b2 : bt v 2 = (c.toNat : Int) := bt_at (pre := [a, b]) e
  have hP : statP v = (isDig a && (isDig b && isDig c) && lessP [a, b, c]) := by
    unfold statP digP lessP
    rw [e, decide_eq_true (p := v.size = 3) hsz]
    simp [Bool.and_assoc]
  rw [hP, Bool.and_eq_true, Bool.and_eq_true, Bool.and_eq_true] at hP0
  obtain ⟨⟨ha, hb, hc⟩, hl⟩ := hP0
  have w1 : wrap64 ((0 : Int) + 1) = 1 := w64_in (0 + 1) (by decide)
  have w2 : wrap64 ((1 : Int) + 1) = 2 := w64_in (1 + 1) (by decide)
  have w3 : wrap64 ((2 : Int) + 1) = 3 := w64_in (2 + 1) (by decide)
  simp only [bywashref1_status.l0, b0, w1, w2, w3, hsz]
  rw [if_pos (by decide), if_pos (by decide), if_pos (by decide), dig_round, ha, if_pos (Eq.refl true), if_pos (by decide), if_pos (by decide), if_pos (by decide), b1, dig_round, hb, if_pos (Eq.refl true), if_pos (by decide), if_pos (by decide), if_pos (by decide), b2, dig_round, hc, if_pos (Eq.refl true), if_neg (by decide)]
  obtain ⟨i, hi, ea, na⟩ := dig_nat ha
  obtain ⟨j, hj, eb, nb⟩ := dig_nat hb
  obtain ⟨q, hq, ec, nc⟩ := dig_nat hc
  have hn : numD v.toList = 100 * i + 10 * j + q := by
    rw [e]
    show ((0 * 10 + (a.toNat - 48)) * 10 + (b.toNat - 48)) * 10 + (c.toNat - 48) = _
    omega
  rw [hn, na, nb, nc]
  rw [ea, eb, ec, less_all i hi j hj q hq] at hl
  have hl := of_decide_eq_true hl
  have x0 : wrap64 (10 * 0) = 0 := w64_in (10 * 0) (by decide)
  have x1 : wrap64 ((0 : Int) + ((((48 + i : Nat) : Int) - 48) % 256)) = (i : Int) := by rw [w64_in ((0 : Int) + ((((48 + i : Nat) : Int) - 48) % 256)) (by omega)]; omega
  have x2 : wrap64 (10 * (i : Int)) = 10 * i := w64_in (10 * (i : Int)) (by omega)
  have x3 : wrap64 (10 * (i : Int) + ((((48 + j : Nat) : Int) - 48) % 256)) = 10 * i + j := by rw [w64_in (10 * (i : Int) + ((((48 + j : Nat) : Int) - 48) % 256)) (by omega)]; omega
  have x4 : wrap64 (10 * (10 * (i : Int) + j)) = 100 * i + 10 * j := by rw [w64_in (10 * (10 * (i : Int) + j)) (by omega)]; omega
  have x5 : wrap64 (100 * (i : Int) + 10 * j + ((((48 + q : Nat) : Int) - 48) % 256)) = 100 * i + 10 * j + q := by rw [w64_in (100 * (i : Int) + 10 * j + ((((48 + q : Nat) : Int) - 48) % 256)) (by omega)]; omega
  rw [x0, x1, x2, x3, x4, x5]
  clear x0 x1 x2 x3 x4 x5
  rw [if_neg (by omega), if_neg (by omega)]
  congr 1
theorem status_num (k : Nat) (l : List S61) (hS : Sized l) (hk : l.length + 10 ≤ k) (hr : respQ l = 0) : bywashref1_status.f k l = some (statNum l) := by
  have hll := hS.len
  have hs := resp_ok hr
  unfold bywashref1_status.f statNum
  rw [show (⟨#[58, 115, 116, 97, 116, 117, 115]⟩ : ByteArray) = colStatus from rfl, rfield_eq k colStatus l (by omega) (by omega), Option.bind_some]
  generalize (getP colStatus l).getD ⟨#[]⟩ = v at hs
  show (if (v.size : Int) = 3 then (bywashref1_status.l0 k v 0 0) else (some 0)) = _
  have h : v.size = 3 := by
    have h2 := hs
    unfold statP at h2
    simp only [Bool.and_eq_true, decide_eq_true_eq] at h2
    omega
  rw [if_pos (by omega)]
  obtain ⟨a, b, c, e⟩ := three_of h
  obtain ⟨k, rfl⟩ : ∃ m, k = m + 4 := ⟨k - 4, by omega⟩
  exact stat_num e k hs
theorem stay_then {ok : Nat → Prop} {w w1 w2 : World} (hs : Stay ok w w1) (hb : Below w.heap.size w1 w2) : Stay ok w w2 :=
  ⟨hb.os.trans hs.os, hb.tape.trans hs.tape, hb.output.trans hs.output, Nat.le_trans hs.size hb.size, fun k hk hn => (hb.block k hk).trans (hs.block k hk hn)⟩
theorem fr_off {w : World} {base g i n c : Nat} {A : Option Addr} {l : List S61} (h : FR w base A n c l) (hg : g < base) (v : Value) : FR (w.setCell ⟨g, i, none⟩ v) base A n c l := h.keep fun b hb _ => by
  refine Below.heap_setCell w ⟨g, i, none⟩ v b ?_
  show b ≠ g
  rcases fr_block h with hn | ⟨b', hb', hbb, _⟩
  · rw [hn] at hb; cases hb
  · rw [hb'] at hb
    injection hb with hb
    injection hb with hb
    omega
set_option maxHeartbeats 6400000 in
set_option maxRecDepth 20000 in
/-- The inner method: what it answers; the object is as it was, where that is an error. -/
theorem head0_c {w : World} {g : Nat} {s : MS} {bk : Bool} {Rf Rt : Option Addr} {cf ct : Nat} (h : RR w g s bk Rf cf Rt ct) (hi : Iv s) (fin : Bool) {B : Option Addr} {l : List S61} {bc : Nat} (hSz : Sized l) (hll : l.length ≤ 1000) (hC : ∀ W, Stay (fun k => k = g) w W → k61.C W B l.length l) (hc : l.length ≤ bc) :
    Calls Tryz.prog 67 #[.pointer (some ⟨g, 0, none⟩), .bool fin, .slice B l.length bc] w fun e w' => e = .returned (.int .i64 (headP s fin l).1) ∧ Stay (fun k => k = g) w w' ∧ ∃ (Rf' : Option Addr) (cf' : Nat) (Rt' : Option Addr) (ct' : Nat), w'.heap[g]? = some (.cells (rrCells (inner s (headP s fin l)) bk Rf' cf' Rt' ct') 49 (0, 0)) ∧
      Row w' g Rf' (inner s (headP s fin l)).a.fields.length cf' (inner s (headP s fin l)).a.fields ∧ Row w' g Rt' (inner s (headP s fin l)).a.trails.length ct' (inner s (headP s fin l)).a.trails ∧ ((inner s (headP s fin l)).a.status = 0 → Rf' = none ∧ cf' = 0) := by
  obtain ⟨k, hk⟩ : ∃ k, k = l.length * 8 + 400000 := ⟨_, rfl⟩
  have HT := Aside0.mk (fun (W : World) (hb : Stay (fun k => k = g) w W) => (bywashref1_TrailerFields.calls k B bc l _ W (hC W hb) hc (trail_ref k l hSz (by omega))).mono fun e w' h => (by first | exact And.intro h.1 h.2 | exact And.intro h.1 h.2.below : e = .returned (.int .i64 (trailQ l)) ∧ Below W.heap.size W w'))
  have HRs := Aside0.mk (fun (W : World) (hb : Stay (fun k => k = g) w W) => (bywashref1_ResponseFields.calls k B bc l _ W (hC W hb) hc (resp_ref k l hSz (by omega))).mono fun e w' h => (by first | exact And.intro h.1 h.2 | exact And.intro h.1 h.2.below : e = .returned (.int .i64 (respQ l)) ∧ Below W.heap.size W w'))
  have HSn := Aside0.mk (fun (W : World) (hb : Stay (fun k => k = g) w W) (hr : respQ l = 0) => (bywashref1_status.calls k B bc l _ W (hC W hb) hc (status_num k l hSz (by omega) hr)).mono fun e w' h => (by first | exact And.intro h.1 h.2 | exact And.intro h.1 h.2.below : e = .returned (.int .i64 (statNum l)) ∧ Below W.heap.size W w'))
  have HLe := Aside0.mk (fun (W : World) (hb : Stay (fun k => k = g) w W) => (bywashref1_Length.calls k B bc l _ _ W (hC W hb) hc (len_ref k l hSz (by omega))).mono fun e w' h => (by first | exact And.intro h.1 h.2 | exact And.intro h.1 h.2.below : e = .returned (.tuple #[.int .i64 (lenQ l).1, .int .i64 (lenQ l).2]) ∧ Below W.heap.size W w'))
  have hov := over_bits h.b1 h.b2
  have hp := h.hp
  have HI := Aside0.mk hi
  have HP := Aside0.mk hp
  have HS : Aside0 (Stay (fun k => k = g) w w) := ⟨Stay.refl _ _⟩
  have HC := Aside0.mk (And.intro hC (And.intro hll hc))
  have HRw := Aside0.mk (And.intro h.rf (And.intro h.rt (And.intro h.n0 (blk_lt h.hp))))
  have k1 := cells_of_heap hp 1 (.int .i64 s.a.status) rfl
  have k6 := cells_of_heap hp 6 (.bool s.a.done) rfl
  have k7 := cells_of_heap hp 7 (.bool bk) rfl
  have HEnd : Aside0 (∀ (e : Int) (s' : MS) (w' : World), headP s fin l = (e, s') → (e ≠ 0 ∨ s' = s) → Stay (fun k => k = g) w w' → w'.heap[g]? = some (.cells (rrCells s bk Rf cf Rt ct) 49 (0, 0)) → Ending.returned (.int .i64 e) = .returned (.int .i64 (headP s fin l).1) ∧ Stay (fun k => k = g) w w' ∧ ∃ (Rf' : Option Addr) (cf' : Nat) (Rt' : Option Addr) (ct' : Nat), w'.heap[g]? = some (.cells (rrCells (inner s (headP s fin l)) bk Rf' cf' Rt' ct') 49 (0, 0)) ∧
      Row w' g Rf' (inner s (headP s fin l)).a.fields.length cf' (inner s (headP s fin l)).a.fields ∧ Row w' g Rt' (inner s (headP s fin l)).a.trails.length ct' (inner s (headP s fin l)).a.trails ∧ ((inner s (headP s fin l)).a.status = 0 → Rf' = none ∧ cf' = 0)) := ⟨fun e s' w' he hd hs hp' => by
    have hin : inner s (headP s fin l) = s := by
      rw [he]
      unfold inner
      rcases hd with hd | hd
      · exact if_neg hd
      · show (if e = 0 then s' else s) = s
        rw [hd, ite_self]
    rw [hin, he]
    exact ⟨rfl, hs, Rf, cf, Rt, ct, hp', HRw.out.1.stay hs, HRw.out.2.1.stay hs, HRw.out.2.2.1⟩⟩
  clear h hi hp hC hc hll hSz hk
  by_cases ho : overP s = true
  · have HE := Aside0.mk (hp_over ho fin l)
    rw [ho] at hov
    have HOv := Aside0.mk hov
    generalize hdn : s.a.done = dn at k6 hov HOv
    clear hdn ho hov
    cases dn with
    | true =>
      go_enter Tryz.func67, Tryz.ntmps67
      go_wp2
      go_ret
      exact HEnd.out _ _ _ HE.out (.inr rfl) HS.out HP.out
    | false =>
      obtain rfl : bk = true := HOv.out.symm
      go_enter Tryz.func67, Tryz.ntmps67
      go_wp2
      go_ret
      exact HEnd.out _ _ _ HE.out (.inr rfl) HS.out HP.out
  have ho : overP s = false := by cases h : overP s with | true => exact absurd h ho | false => rfl
  rw [ho] at hov
  obtain ⟨hd, hbk⟩ : s.a.done = false ∧ bk = false := by
    cases h1 : s.a.done <;> cases h2 : bk <;> simp_all
  subst hbk
  rw [hd] at k6
  have HO := Aside0.mk ho
  have HD := Aside0.mk hd
  clear hov ho hd
  obtain ⟨m, ⟨st, fs, ts, le, ca, dn⟩, br⟩ := s
  dsimp only at *
  obtain rfl : dn = false := HD.out
  by_cases h1 : st = 0
  · subst h1
    obtain ⟨hz1, hz2⟩ := HI.out.z rfl
    dsimp only at hz1 hz2
    subst hz1
    subst hz2
    obtain ⟨hz1, hz2⟩ := HRw.out.2.2.1 rfl
    subst hz1
    subst hz2
    have H1 : Aside0 ((0 : Int) = 0) := ⟨rfl⟩
    by_cases h2 : respQ l = 0
    · have HRs0 := Aside0.mk (fun (W : World) (hb : Stay (fun k => k = g) w W) => by have := HRs.out W hb; rw [h2] at this; exact this)
      have HSn0 := Aside0.mk (fun (W : World) (hb : Stay (fun k => k = g) w W) => HSn.out W hb h2)
      have H2 := Aside0.mk h2
      clear h2
      by_cases h3 : statNum l < 200
      · have e3 : decide (statNum l < 200) = true := decide_eq_true h3
        have H3 := Aside0.mk h3
        clear h3
        cases fin with
        | true =>
          have HE := Aside0.mk (hp_f2 HO.out rfl H2.out H3.out)
          generalize statNum l = sn at HSn0 e3
          go_enter Tryz.func67, Tryz.ntmps67
          go_wp2_with (first
            | (go_at_call 93; refine (HRs0.out _ HS.out).mono ?_; rintro e w2 ⟨rfl, hb⟩; have HP2 := Aside0.mk ((hb.block _ (blk_lt HP.out)).trans HP.out); have HS2 := Aside0.mk (HS.out.trans (Stay.of_below (ok := fun k => k = g) hb) (fun _ _ e => e)); clear hb HP HS; have HP := HP2; have HS := HS2; clear HP2 HS2; clear HRs0)
            | (go_at_call 94; refine (HSn0.out _ HS.out).mono ?_; rintro e w2 ⟨rfl, hb⟩; have HP2 := Aside0.mk ((hb.block _ (blk_lt HP.out)).trans HP.out); have HS2 := Aside0.mk (HS.out.trans (Stay.of_below (ok := fun k => k = g) hb) (fun _ _ e => e)); clear hb HP HS; have HP := HP2; have HS := HS2; clear HP2 HS2; clear HSn0))
          go_ret
          exact HEnd.out _ _ _ HE.out (.inl (by decide)) HS.out HP.out
        | false =>
          have HE := Aside0.mk (hp_f3 HO.out rfl H2.out H3.out)
          generalize statNum l = sn at HSn0 e3
          go_enter Tryz.func67, Tryz.ntmps67
          go_wp2_with (first
            | (go_at_call 93; refine (HRs0.out _ HS.out).mono ?_; rintro e w2 ⟨rfl, hb⟩; have HP2 := Aside0.mk ((hb.block _ (blk_lt HP.out)).trans HP.out); have HS2 := Aside0.mk (HS.out.trans (Stay.of_below (ok := fun k => k = g) hb) (fun _ _ e => e)); clear hb HP HS; have HP := HP2; have HS := HS2; clear HP2 HS2; clear HRs0)
            | (go_at_call 94; refine (HSn0.out _ HS.out).mono ?_; rintro e w2 ⟨rfl, hb⟩; have HP2 := Aside0.mk ((hb.block _ (blk_lt HP.out)).trans HP.out); have HS2 := Aside0.mk (HS.out.trans (Stay.of_below (ok := fun k => k = g) hb) (fun _ _ e => e)); clear hb HP HS; have HP := HP2; have HS := HS2; clear HP2 HS2; clear HSn0))
          go_ret
          exact HEnd.out _ _ _ HE.out (.inr rfl) HS.out HP.out
      have e3 : decide (statNum l < 200) = false := decide_eq_false h3
      have HNS0 := Aside0.mk h3
      by_cases h4 : (lenQ l).2 = 0
      · have HLe0 := Aside0.mk (fun (W : World) (hb : Stay (fun k => k = g) w W) => by have := HLe.out W hb; rw [h4] at this; exact this)
        have HW0 := Aside0.mk (fun (W : World) (hb : W.heap[g]? = some (.cells (rrCells ⟨m, ⟨0, [], ts, le, 0, false⟩, br⟩ false none 0 Rt ct) 49 (0, 0))) => whole_c hb (m := m) rfl (statNum l) (lenQ l).1 0)
        cases fin with
        | true =>
          cases h5 : wholeP m (statNum l) (lenQ l).1 0 with
          | false =>
            rw [h5] at HW0
            have HE := Aside0.mk (hp_f5 HO.out rfl rfl H2.out h3 h4 h5)
            clear h3 h4 h5
            generalize statNum l = sn at HSn0 e3 HW0
            generalize (lenQ l).1 = l1 at HLe0 HW0
            go_enter Tryz.func67, Tryz.ntmps67
            go_wp2_with (first
              | (go_at_call 93; refine (HRs0.out _ HS.out).mono ?_; rintro e w2 ⟨rfl, hb⟩; have HP2 := Aside0.mk ((hb.block _ (blk_lt HP.out)).trans HP.out); have HS2 := Aside0.mk (HS.out.trans (Stay.of_below (ok := fun k => k = g) hb) (fun _ _ e => e)); clear hb HP HS; have HP := HP2; have HS := HS2; clear HP2 HS2; clear HRs0)
              | (go_at_call 94; refine (HSn0.out _ HS.out).mono ?_; rintro e w2 ⟨rfl, hb⟩; have HP2 := Aside0.mk ((hb.block _ (blk_lt HP.out)).trans HP.out); have HS2 := Aside0.mk (HS.out.trans (Stay.of_below (ok := fun k => k = g) hb) (fun _ _ e => e)); clear hb HP HS; have HP := HP2; have HS := HS2; clear HP2 HS2; clear HSn0)
              | (go_at_call 36; refine (HLe0.out _ HS.out).mono ?_; rintro e w2 ⟨rfl, hb⟩; have HP2 := Aside0.mk ((hb.block _ (blk_lt HP.out)).trans HP.out); have HS2 := Aside0.mk (HS.out.trans (Stay.of_below (ok := fun k => k = g) hb) (fun _ _ e => e)); clear hb HP HS; have HP := HP2; have HS := HS2; clear HP2 HS2; clear HLe0)
              | (go_at_call 92; refine (HW0.out _ HP.out).mono ?_; rintro e w2 ⟨rfl, rfl⟩; clear HW0))
            go_ret
            exact HEnd.out _ _ _ HE.out (.inl (by decide)) HS.out HP.out
          | true =>
            rw [h5] at HW0
            have HE := Aside0.mk (hp_f6 HO.out rfl rfl true H2.out h3 h4 (fun _ => h5))
            clear h3 h4 h5 HEnd
            generalize statNum l = sn at HSn0 e3 HW0 HE HNS0
            have HNS := HNS0
            generalize (lenQ l).1 = l1 at HLe0 HW0 HE
            go_enter Tryz.func67, Tryz.ntmps67
            go_wp2_with (first
              | (go_at_call 93; refine (HRs0.out _ HS.out).mono ?_; rintro e w2 ⟨rfl, hb⟩; have HP2 := Aside0.mk ((hb.block _ (blk_lt HP.out)).trans HP.out); have HS2 := Aside0.mk (HS.out.trans (Stay.of_below (ok := fun k => k = g) hb) (fun _ _ e => e)); clear hb HP HS; have HP := HP2; have HS := HS2; clear HP2 HS2; clear HRs0)
              | (go_at_call 94; refine (HSn0.out _ HS.out).mono ?_; rintro e w2 ⟨rfl, hb⟩; have HP2 := Aside0.mk ((hb.block _ (blk_lt HP.out)).trans HP.out); have HS2 := Aside0.mk (HS.out.trans (Stay.of_below (ok := fun k => k = g) hb) (fun _ _ e => e)); clear hb HP HS; have HP := HP2; have HS := HS2; clear HP2 HS2; clear HSn0)
              | (go_at_call 36; refine (HLe0.out _ HS.out).mono ?_; rintro e w2 ⟨rfl, hb⟩; have HP2 := Aside0.mk ((hb.block _ (blk_lt HP.out)).trans HP.out); have HS2 := Aside0.mk (HS.out.trans (Stay.of_below (ok := fun k => k = g) hb) (fun _ _ e => e)); clear hb HP HS; have HP := HP2; have HS := HS2; clear HP2 HS2; clear HLe0)
              | (go_at_call 92; refine (HW0.out _ HP.out).mono ?_; rintro e w2 ⟨rfl, rfl⟩; have fz : ∀ j, w2.frozen? ⟨g, j, none⟩ = false := Bk.fz_of HP.out; have k1 := cells_of_heap HP.out 1 _ rfl; have k2 := cells_of_heap HP.out 2 _ rfl; have k6 := cells_of_heap HP.out 6 _ rfl; have k7 := cells_of_heap HP.out 7 _ rfl; clear HW0))
            have hpS := Bk.heap_put (Bk.heap_put (Bk.heap_put HP.out 6 (.bool true) (by simp [rrCells])) 1 (.int .i64 sn) (by simp [rrCells])) 2 (.int .i64 l1) (by simp [rrCells])
            have hsS := ((HS.out.setCell (p := ⟨g, 6, none⟩) (.inl rfl) (.bool true)).setCell (p := ⟨g, 1, none⟩) (.inl rfl) (.int .i64 sn)).setCell (p := ⟨g, 2, none⟩) (.inl rfl) (.int .i64 l1)
            have HPS : Aside0 (_ = some (Obj.cells (rrCells ⟨m, ⟨sn, others (l.take 0), ts, l1, 0, true⟩, br⟩ false none 0 Rt ct) 49 (0, 0))) := ⟨hpS⟩
            have HSS := Aside0.mk hsS
            clear hpS hsS HP HS k1 k2 k6 k7 fz
            go_loopg [14] (l.length + 1) (fun kq v14 w' => ∃ (j : Nat) (A : Option Addr) (c : Nat), v14 = .int .i64 j ∧ Aside0 (j + kq = l.length + 1 ∧ 1 ≤ kq) ∧ Aside0 (w'.heap[g]? = some (.cells (rrCells ⟨m, ⟨sn, others (l.take j), ts, l1, 0, true⟩, br⟩ false A c Rt ct) 49 (0, 0))) ∧ Aside0 (FR w' w.heap.size A (others (l.take j)).length c (others (l.take j))) ∧ Aside0 (Stay (fun k => k = g) w w'))
            case atStart => exact ⟨0, none, 0, rfl, ⟨by omega, by omega⟩, HPS, ⟨FR.nil _ _⟩, HSS⟩
            case round =>
              obtain ⟨j, A, c, rfl, HJ, HP, HF, HS⟩ := hrel
              clear HPS HSS
              by_cases hj : j < l.length
              · have q1 : decide ((j : Int) < (l.length : Int)) = true := decide_eq_true (by omega)
                have q2 : decide (j < l.length) = true := decide_eq_true hj
                obtain ⟨ad, hB, m0, m1⟩ := elem_at (HC.out.1 wr HS.out) (Below.refl _ _) j hj
                have hot := others_step l j hj
                obtain ⟨x, hx⟩ : ∃ x, x = l[j] := ⟨_, rfl⟩
                rw [← hx] at m0 m1 hot
                clear hx
                have hol := others_len l j
                have k4 := cells_of_heap HP.out 4 (.slice A (others (l.take j)).length c) rfl
                have fz : ∀ i, wr.frozen? ⟨g, i, none⟩ = false := Bk.fz_of HP.out
                have p1 : (0 : Int) ≤ (j : Int) := by omega
                have p2 : (j : Int) < (l.length : Int) := by omega
                have hwj : wrap64 ((j : Int) + 1) = ((j + 1 : Nat) : Int) := w64_next j (by have := HC.out.2.1; omega)
                have HWJ := Aside0.mk hwj
                have HJ2 := Aside0.mk hj
                have HOL := Aside0.mk hol
                have HOT := Aside0.mk hot
                subst hB
                clear hj hot hol
                generalize others (l.take j) = L1 at HP HF k4 HOT HOL
                by_cases hx : x.f0.toList = [58, 115, 116, 97, 116, 117, 115]
                · have d1 : decide (x.f0.toList = [58, 115, 116, 97, 116, 117, 115]) = true := decide_eq_true hx
                  have d2 : (x.f0.toList == [58, 115, 116, 97, 116, 117, 115]) = true := beq_iff_eq.2 hx
                  have HL2 := Aside0.mk (HOT.out.trans (if_pos hx))
                  clear hx
                  go_wp2
                  go_roundg (gk - 1)
                  case measure => have := HJ.out; have := HJ2.out; omega
                  case rel => exact ⟨j + 1, A, c, congrArg (Value.int .i64) HWJ.out, ⟨by have := HJ.out; omega, by have := HJ.out; have := HJ2.out; omega⟩, ⟨by have := HP.out; rw [← HL2.out] at this; exact this⟩, ⟨by have := HF.out; rw [← HL2.out] at this; exact this⟩, HS⟩
                · have d1 : decide (x.f0.toList = [58, 115, 116, 97, 116, 117, 115]) = false := decide_eq_false hx
                  have d2 : (x.f0.toList == [58, 115, 116, 97, 116, 117, 115]) = false := beq_eq_false_iff_ne.2 hx
                  have HL2 := Aside0.mk (HOT.out.trans (if_neg hx))
                  clear hx
                  have hgw : g < w.heap.size := HRw.out.2.2.2
                  have HGW := Aside0.mk hgw
                  clear hgw
                  have k4a : ∀ o, (wr.alloc o).cell? ⟨g, 4, none⟩ = some (.slice A L1.length c) := fun o => (World.cell?_alloc_some wr _ o (by rw [k4]; rfl)).trans k4
                  have m0a : ∀ o, (wr.alloc o).cell? (ad.add (j * 2)) = some (.string x.f0) := fun o => (World.cell?_alloc_some wr _ o (by rw [m0]; rfl)).trans m0
                  have m1a : ∀ o, (wr.alloc o).cell? ⟨(ad.add (j * 2)).block, (ad.add (j * 2)).off + 1, none⟩ = some (.string x.f1) := fun o => (World.cell?_alloc_some wr _ o (by rw [m1]; rfl)).trans m1
                  go_wp2
                  go_region_law (first
                    | (refine step_app (by first | rfl | (simp [Region.wanted]; done)) (.tmp 115) (.tmp 120) rfl wr w.heap.size A (some ⟨wr.heap.size, 0, none⟩) L1.length c 1 1 L1 [x] rfl rfl (HF.out.step ?cF) ?cC ?cL ?cB ?cW ?_; (case cF => (repeat' first | exact Below.refl _ _ | exact below_alloc (Below.refl _ _) _ | (with_reducible refine below_drew ?_))); (case cC => exact flds_of (heap_alloc_new _ _) [] [x] [] rfl (by simp)); (case cL => have := HOL.out; have := HC.out.2.1; simp only [List.length_singleton]; omega); (case cB => have := HS.out.size; simp; omega); (case cW => (repeat' first | exact (Below.refl w.heap.size wr).alloc HS.out.size _ | (with_reducible refine below_drew ?_))); intro A3 c3 W3 hF hb _; have hp3 := (hb.block _ HGW.out).trans HP.out; have k43 := cells_of_heap hp3 4 (.slice A L1.length c) rfl; have fz3 : ∀ i, W3.frozen? ⟨g, i, none⟩ = false := Bk.fz_of hp3; have HP3 := Aside0.mk hp3; have HF3 := Aside0.mk hF; have HB3 := Aside0.mk hb; clear hF hb hp3))
                  all_goals
                    go_wp2
                    go_roundg (gk - 1)
                  all_goals first
                    | (have := HJ.out; have := HJ2.out; omega)
                    | (refine ⟨j + 1, A3, c3, congrArg (Value.int .i64) HWJ.out, ⟨by have := HJ.out; omega, by have := HJ.out; have := HJ2.out; omega⟩, ⟨?_⟩, ⟨?_⟩, ⟨(stay_then HS.out HB3.out).setCell (p := ⟨g, 4, none⟩) (.inl rfl) _⟩⟩; (have := Bk.heap_put HP3.out 4 (.slice A3 (L1.length + 1) c3) (by simp [rrCells]); have hlen : (others (l.take (j + 1))).length = L1.length + 1 := (by rw [HL2.out]; simp); rw [← hlen] at this ⊢; exact this); (have h3 := HF3.out; rw [show L1.length + 1 = (L1 ++ [x]).length by simp, ← HL2.out] at h3; exact fr_off h3 HGW.out _))
              · have q1 : decide ((j : Int) < (l.length : Int)) = false := decide_eq_false (by omega)
                have q2 : decide (j < l.length) = false := decide_eq_false hj
                have hjl : j = l.length := by have := HJ.out; omega
                have HJL := Aside0.mk hjl
                clear hj hjl
                go_wp2
                go_ret
                have hp := HP.out
                have hf := HF.out
                rw [HJL.out, List.take_length] at hp hf
                rw [HE.out]
                exact ⟨rfl, HS.out, A, c, Rt, ct, hp, Row.of_fr hf (by have := others_len l l.length; rw [List.take_length] at this; have := HC.out.2.1; show (others l).length ≤ 1000000000; omega) HRw.out.2.2.2, HRw.out.2.1.stay HS.out, fun h => absurd (show sn = 0 from h) (by have := HNS.out; omega)⟩
        | false =>
          have HE := Aside0.mk (hp_f6 HO.out rfl rfl false H2.out h3 h4 (fun h => by cases h))
          clear h3 h4 HEnd HW0
          generalize statNum l = sn at HSn0 e3 HE HNS0
          have HNS := HNS0
          generalize (lenQ l).1 = l1 at HLe0 HE
          go_enter Tryz.func67, Tryz.ntmps67
          go_wp2_with (first
            | (go_at_call 93; refine (HRs0.out _ HS.out).mono ?_; rintro e w2 ⟨rfl, hb⟩; have HP2 := Aside0.mk ((hb.block _ (blk_lt HP.out)).trans HP.out); have HS2 := Aside0.mk (HS.out.trans (Stay.of_below (ok := fun k => k = g) hb) (fun _ _ e => e)); clear hb HP HS; have HP := HP2; have HS := HS2; clear HP2 HS2; clear HRs0)
            | (go_at_call 94; refine (HSn0.out _ HS.out).mono ?_; rintro e w2 ⟨rfl, hb⟩; have HP2 := Aside0.mk ((hb.block _ (blk_lt HP.out)).trans HP.out); have HS2 := Aside0.mk (HS.out.trans (Stay.of_below (ok := fun k => k = g) hb) (fun _ _ e => e)); clear hb HP HS; have HP := HP2; have HS := HS2; clear HP2 HS2; clear HSn0)
            | (go_at_call 36; refine (HLe0.out _ HS.out).mono ?_; rintro e w2 ⟨rfl, hb⟩; have HP2 := Aside0.mk ((hb.block _ (blk_lt HP.out)).trans HP.out); have HS2 := Aside0.mk (HS.out.trans (Stay.of_below (ok := fun k => k = g) hb) (fun _ _ e => e)); clear hb HP HS; have HP := HP2; have HS := HS2; clear HP2 HS2; have fz : ∀ j, w2.frozen? ⟨g, j, none⟩ = false := Bk.fz_of HP.out; have k1 := cells_of_heap HP.out 1 _ rfl; have k2 := cells_of_heap HP.out 2 _ rfl; have k6 := cells_of_heap HP.out 6 _ rfl; have k7 := cells_of_heap HP.out 7 _ rfl; clear HLe0))
          have hpS := Bk.heap_put (Bk.heap_put HP.out 1 (.int .i64 sn) (by simp [rrCells])) 2 (.int .i64 l1) (by simp [rrCells])
          have hsS := (HS.out.setCell (p := ⟨g, 1, none⟩) (.inl rfl) (.int .i64 sn)).setCell (p := ⟨g, 2, none⟩) (.inl rfl) (.int .i64 l1)
          have HPS : Aside0 (_ = some (Obj.cells (rrCells ⟨m, ⟨sn, others (l.take 0), ts, l1, 0, false⟩, br⟩ false none 0 Rt ct) 49 (0, 0))) := ⟨hpS⟩
          have HSS := Aside0.mk hsS
          clear hpS hsS HP HS k1 k2 k6 k7 fz
          go_loopg [14] (l.length + 1) (fun kq v14 w' => ∃ (j : Nat) (A : Option Addr) (c : Nat), v14 = .int .i64 j ∧ Aside0 (j + kq = l.length + 1 ∧ 1 ≤ kq) ∧ Aside0 (w'.heap[g]? = some (.cells (rrCells ⟨m, ⟨sn, others (l.take j), ts, l1, 0, false⟩, br⟩ false A c Rt ct) 49 (0, 0))) ∧ Aside0 (FR w' w.heap.size A (others (l.take j)).length c (others (l.take j))) ∧ Aside0 (Stay (fun k => k = g) w w'))
          case atStart => exact ⟨0, none, 0, rfl, ⟨by omega, by omega⟩, HPS, ⟨FR.nil _ _⟩, HSS⟩
          case round =>
            obtain ⟨j, A, c, rfl, HJ, HP, HF, HS⟩ := hrel
            clear HPS HSS
            by_cases hj : j < l.length
            · have q1 : decide ((j : Int) < (l.length : Int)) = true := decide_eq_true (by omega)
              have q2 : decide (j < l.length) = true := decide_eq_true hj
              obtain ⟨ad, hB, m0, m1⟩ := elem_at (HC.out.1 wr HS.out) (Below.refl _ _) j hj
              have hot := others_step l j hj
              obtain ⟨x, hx⟩ : ∃ x, x = l[j] := ⟨_, rfl⟩
              rw [← hx] at m0 m1 hot
              clear hx
              have hol := others_len l j
              have k4 := cells_of_heap HP.out 4 (.slice A (others (l.take j)).length c) rfl
              have fz : ∀ i, wr.frozen? ⟨g, i, none⟩ = false := Bk.fz_of HP.out
              have p1 : (0 : Int) ≤ (j : Int) := by omega
              have p2 : (j : Int) < (l.length : Int) := by omega
              have hwj : wrap64 ((j : Int) + 1) = ((j + 1 : Nat) : Int) := w64_next j (by have := HC.out.2.1; omega)
              have HWJ := Aside0.mk hwj
              have HJ2 := Aside0.mk hj
              have HOL := Aside0.mk hol
              have HOT := Aside0.mk hot
              subst hB
              clear hj hot hol
              generalize others (l.take j) = L1 at HP HF k4 HOT HOL
              by_cases hx : x.f0.toList = [58, 115, 116, 97, 116, 117, 115]
              · have d1 : decide (x.f0.toList = [58, 115, 116, 97, 116, 117, 115]) = true := decide_eq_true hx
                have d2 : (x.f0.toList == [58, 115, 116, 97, 116, 117, 115]) = true := beq_iff_eq.2 hx
                have HL2 := Aside0.mk (HOT.out.trans (if_pos hx))
                clear hx
                go_wp2
                go_roundg (gk - 1)
                case measure => have := HJ.out; have := HJ2.out; omega
                case rel => exact ⟨j + 1, A, c, congrArg (Value.int .i64) HWJ.out, ⟨by have := HJ.out; omega, by have := HJ.out; have := HJ2.out; omega⟩, ⟨by have := HP.out; rw [← HL2.out] at this; exact this⟩, ⟨by have := HF.out; rw [← HL2.out] at this; exact this⟩, HS⟩
              · have d1 : decide (x.f0.toList = [58, 115, 116, 97, 116, 117, 115]) = false := decide_eq_false hx
                have d2 : (x.f0.toList == [58, 115, 116, 97, 116, 117, 115]) = false := beq_eq_false_iff_ne.2 hx
                have HL2 := Aside0.mk (HOT.out.trans (if_neg hx))
                clear hx
                have hgw : g < w.heap.size := HRw.out.2.2.2
                have HGW := Aside0.mk hgw
                clear hgw
                have k4a : ∀ o, (wr.alloc o).cell? ⟨g, 4, none⟩ = some (.slice A L1.length c) := fun o => (World.cell?_alloc_some wr _ o (by rw [k4]; rfl)).trans k4
                have m0a : ∀ o, (wr.alloc o).cell? (ad.add (j * 2)) = some (.string x.f0) := fun o => (World.cell?_alloc_some wr _ o (by rw [m0]; rfl)).trans m0
                have m1a : ∀ o, (wr.alloc o).cell? ⟨(ad.add (j * 2)).block, (ad.add (j * 2)).off + 1, none⟩ = some (.string x.f1) := fun o => (World.cell?_alloc_some wr _ o (by rw [m1]; rfl)).trans m1
                go_wp2
                go_region_law (first
                  | (refine step_app (by first | rfl | (simp [Region.wanted]; done)) (.tmp 115) (.tmp 120) rfl wr w.heap.size A (some ⟨wr.heap.size, 0, none⟩) L1.length c 1 1 L1 [x] rfl rfl (HF.out.step ?cF) ?cC ?cL ?cB ?cW ?_; (case cF => (repeat' first | exact Below.refl _ _ | exact below_alloc (Below.refl _ _) _ | (with_reducible refine below_drew ?_))); (case cC => exact flds_of (heap_alloc_new _ _) [] [x] [] rfl (by simp)); (case cL => have := HOL.out; have := HC.out.2.1; simp only [List.length_singleton]; omega); (case cB => have := HS.out.size; simp; omega); (case cW => (repeat' first | exact (Below.refl w.heap.size wr).alloc HS.out.size _ | (with_reducible refine below_drew ?_))); intro A3 c3 W3 hF hb _; have hp3 := (hb.block _ HGW.out).trans HP.out; have k43 := cells_of_heap hp3 4 (.slice A L1.length c) rfl; have fz3 : ∀ i, W3.frozen? ⟨g, i, none⟩ = false := Bk.fz_of hp3; have HP3 := Aside0.mk hp3; have HF3 := Aside0.mk hF; have HB3 := Aside0.mk hb; clear hF hb hp3))
                all_goals
                  go_wp2
                  go_roundg (gk - 1)
                all_goals first
                  | (have := HJ.out; have := HJ2.out; omega)
                  | (refine ⟨j + 1, A3, c3, congrArg (Value.int .i64) HWJ.out, ⟨by have := HJ.out; omega, by have := HJ.out; have := HJ2.out; omega⟩, ⟨?_⟩, ⟨?_⟩, ⟨(stay_then HS.out HB3.out).setCell (p := ⟨g, 4, none⟩) (.inl rfl) _⟩⟩; (have := Bk.heap_put HP3.out 4 (.slice A3 (L1.length + 1) c3) (by simp [rrCells]); have hlen : (others (l.take (j + 1))).length = L1.length + 1 := (by rw [HL2.out]; simp); rw [← hlen] at this ⊢; exact this); (have h3 := HF3.out; rw [show L1.length + 1 = (L1 ++ [x]).length by simp, ← HL2.out] at h3; exact fr_off h3 HGW.out _))
            · have q1 : decide ((j : Int) < (l.length : Int)) = false := decide_eq_false (by omega)
              have q2 : decide (j < l.length) = false := decide_eq_false hj
              have hjl : j = l.length := by have := HJ.out; omega
              have HJL := Aside0.mk hjl
              clear hj hjl
              go_wp2
              go_ret
              have hp := HP.out
              have hf := HF.out
              rw [HJL.out, List.take_length] at hp hf
              rw [HE.out]
              exact ⟨rfl, HS.out, A, c, Rt, ct, hp, Row.of_fr hf (by have := others_len l l.length; rw [List.take_length] at this; have := HC.out.2.1; show (others l).length ≤ 1000000000; omega) HRw.out.2.2.2, HRw.out.2.1.stay HS.out, fun h => absurd (show sn = 0 from h) (by have := HNS.out; omega)⟩
      · have HLe0 := HLe
        have e4 : decide ((lenQ l).2 = 0) = false := decide_eq_false h4
        have e4b : ((lenQ l).2 == 0) = false := beq_eq_false_iff_ne.2 h4
        have e4c : ((lenQ l).2 != 0) = true := bne_iff_ne.2 h4
        have HE := Aside0.mk (hp_f4 HO.out rfl fin H2.out h3 h4)
        have H4 := Aside0.mk h4
        clear h3 h4
        generalize statNum l = sn at HSn0 e3
        generalize (lenQ l).2 = l2 at HLe0 HLe HE e4 e4b e4c H4
        clear HLe
        go_enter Tryz.func67, Tryz.ntmps67
        go_wp2_with (first
          | (go_at_call 93; refine (HRs0.out _ HS.out).mono ?_; rintro e w2 ⟨rfl, hb⟩; have HP2 := Aside0.mk ((hb.block _ (blk_lt HP.out)).trans HP.out); have HS2 := Aside0.mk (HS.out.trans (Stay.of_below (ok := fun k => k = g) hb) (fun _ _ e => e)); clear hb HP HS; have HP := HP2; have HS := HS2; clear HP2 HS2; clear HRs0)
          | (go_at_call 94; refine (HSn0.out _ HS.out).mono ?_; rintro e w2 ⟨rfl, hb⟩; have HP2 := Aside0.mk ((hb.block _ (blk_lt HP.out)).trans HP.out); have HS2 := Aside0.mk (HS.out.trans (Stay.of_below (ok := fun k => k = g) hb) (fun _ _ e => e)); clear hb HP HS; have HP := HP2; have HS := HS2; clear HP2 HS2; clear HSn0)
          | (go_at_call 36; refine (HLe0.out _ HS.out).mono ?_; rintro e w2 ⟨rfl, hb⟩; have HP2 := Aside0.mk ((hb.block _ (blk_lt HP.out)).trans HP.out); have HS2 := Aside0.mk (HS.out.trans (Stay.of_below (ok := fun k => k = g) hb) (fun _ _ e => e)); clear hb HP HS; have HP := HP2; have HS := HS2; clear HP2 HS2; clear HLe0))
        go_ret
        exact HEnd.out _ _ _ HE.out (.inl H4.out) HS.out HP.out
    · have e2 : decide (respQ l = 0) = false := decide_eq_false h2
      have e2b : (respQ l == 0) = false := beq_eq_false_iff_ne.2 h2
      have e2c : (respQ l != 0) = true := bne_iff_ne.2 h2
      have HE := Aside0.mk (hp_f1 HO.out rfl fin h2)
      have H2 := Aside0.mk h2
      clear h2
      generalize respQ l = rq at HRs HE e2 e2b e2c H2
      go_enter Tryz.func67, Tryz.ntmps67
      go_wp2_with (first
        | (go_at_call 93; refine (HRs.out _ HS.out).mono ?_; rintro e w2 ⟨rfl, hb⟩; have HP2 := Aside0.mk ((hb.block _ (blk_lt HP.out)).trans HP.out); have HS2 := Aside0.mk (HS.out.trans (Stay.of_below (ok := fun k => k = g) hb) (fun _ _ e => e)); clear hb HP HS; have HP := HP2; have HS := HS2; clear HP2 HS2))
      go_ret
      exact HEnd.out _ _ _ HE.out (.inl H2.out) HS.out HP.out
  have hpos : st > 0 := by have := HI.out.st; dsimp only at this; omega
  have e1 : decide (st = 0) = false := decide_eq_false h1
  have e1b : (st == 0) = false := beq_eq_false_iff_ne.2 h1
  have e1c : (st != 0) = true := bne_iff_ne.2 h1
  clear h1
  cases fin with
  | false =>
    have HE := Aside0.mk (hp_t0 HO.out hpos l)
    clear hpos
    go_enter Tryz.func67, Tryz.ntmps67
    go_wp2
    go_ret
    exact HEnd.out _ _ _ HE.out (.inl (by decide)) HS.out HP.out
  | true =>
    by_cases h2 : trailQ l = 0
    · have HT0 := Aside0.mk (fun (W : World) (hb : Stay (fun k => k = g) w W) => by have := HT.out W hb; rw [h2] at this; exact this)
      have HW0 := Aside0.mk (fun (W : World) (hb : W.heap[g]? = some (.cells (rrCells ⟨m, ⟨st, fs, ts, le, ca, false⟩, br⟩ false Rf cf Rt ct) 49 (0, 0))) => whole_c hb (m := m) rfl st le ca)
      cases h5 : wholeP m st le ca with
      | false =>
        rw [h5] at HW0
        have HE := Aside0.mk (hp_t3 HO.out hpos HI.out.c0 h2 h5)
        clear h2 h5 hpos
        go_enter Tryz.func67, Tryz.ntmps67
        go_wp2_with (first
          | (go_at_call 33; refine (HT0.out _ HS.out).mono ?_; rintro e w2 ⟨rfl, hb⟩; have HP2 := Aside0.mk ((hb.block _ (blk_lt HP.out)).trans HP.out); have HS2 := Aside0.mk (HS.out.trans (Stay.of_below (ok := fun k => k = g) hb) (fun _ _ e => e)); clear hb HP HS; have HP := HP2; have HS := HS2; clear HP2 HS2; have k1 := cells_of_heap HP.out 1 _ rfl; have k2 := cells_of_heap HP.out 2 _ rfl; have k3 := cells_of_heap HP.out 3 _ rfl; clear HT0))
        go_region_held_law (fun W => W.cell? ⟨g, 1, none⟩ = some (.int .i64 st) ∧ W.cell? ⟨g, 2, none⟩ = some (.int .i64 le) ∧ W.cell? ⟨g, 3, none⟩ = some (.int .i64 ca)) (exact ⟨k1, k2, k3⟩) (first
          | (go_at_call 92; refine (HW0.out _ ?hb).mono ?_; (case hb => exact HP.out); rintro e w3 ⟨rfl, rfl⟩))
        all_goals
          go_wp2
          go_ret
          exact HEnd.out _ _ _ HE.out (.inl (by decide)) (HS.out.trans (Stay.of_below (ok := fun k => k = g) (by repeat' first | exact Below.refl _ _ | (with_reducible refine below_drew ?_))) (fun _ _ e => e)) HP.out
      | true =>
        rw [h5] at HW0
        have HE := Aside0.mk (hp_t2 HO.out hpos HI.out.c0 h2 h5)
        have HPos := Aside0.mk hpos
        clear h2 h5 hpos HEnd
        go_enter Tryz.func67, Tryz.ntmps67
        go_wp2_with (first
          | (go_at_call 33; refine (HT0.out _ HS.out).mono ?_; rintro e w2 ⟨rfl, hb⟩; have HP2 := Aside0.mk ((hb.block _ (blk_lt HP.out)).trans HP.out); have HS2 := Aside0.mk (HS.out.trans (Stay.of_below (ok := fun k => k = g) hb) (fun _ _ e => e)); clear hb HP HS; have HP := HP2; have HS := HS2; clear HP2 HS2; have k1 := cells_of_heap HP.out 1 _ rfl; have k2 := cells_of_heap HP.out 2 _ rfl; have k3 := cells_of_heap HP.out 3 _ rfl; clear HT0))
        go_region_held_law (fun W => W.cell? ⟨g, 1, none⟩ = some (.int .i64 st) ∧ W.cell? ⟨g, 2, none⟩ = some (.int .i64 le) ∧ W.cell? ⟨g, 3, none⟩ = some (.int .i64 ca)) (exact ⟨k1, k2, k3⟩) (first
          | (go_at_call 92; refine (HW0.out _ ?hb).mono ?_; (case hb => exact HP.out); rintro e w3 ⟨rfl, rfl⟩))
        all_goals
          go_wp2_with (first
            | ((with_reducible refine gate_builtin (b := .append) (xs := #[.const (.slice none 0 0), .tmp 56]) rfl ?_); at_builtin; refine list_app rfl (.const (.slice none 0 0)) (.tmp 56) rfl w2 w2.heap.size none B 0 0 l.length bc [] l rfl rfl (FR.nil _ _) (HC.out.1 w2 HS.out) ?_ ?_ (by repeat' first | exact Below.refl _ _ | (with_reducible refine below_drew ?_)) ?_; (have := HC.out.2.1; simp only [List.length_nil]; omega); (exact Nat.le_refl _); intro A6 c6 w6 hF hb _; rw [Nat.zero_add, List.nil_append] at hF; rw [Nat.zero_add]; have hp6 := (hb.block _ (blk_lt HP.out)).trans HP.out; have k5 := cells_of_heap hp6 5 (.slice Rt ts.length ct) rfl; have k66 := cells_of_heap hp6 6 (.bool false) rfl; have fz6 : ∀ i, w6.frozen? ⟨g, i, none⟩ = false := Bk.fz_of hp6; have HP6 := Aside0.mk hp6; have HF6 := Aside0.mk hF; have HB6 := Aside0.mk hb; clear hF hb hp6))
          go_ret
          rw [HE.out]
          have hs6 := HS.out.trans (Stay.of_below (ok := fun k => k = g) HB6.out) (fun _ _ e => e)
          have hs8 := (hs6.setCell (p := ⟨g, 5, none⟩) (.inl rfl) (.slice A6 l.length c6)).setCell (p := ⟨g, 6, none⟩) (.inl rfl) (.bool true)
          have hgw : g < w2.heap.size := blk_lt HP.out
          exact ⟨rfl, hs8, Rf, cf, A6, c6, Bk.heap_put (Bk.heap_put HP6.out 5 (.slice A6 l.length c6) (by simp [rrCells])) 6 (.bool true) (by simp [rrCells]), HRw.out.1.stay hs8, Row.of_fr (fr_off (fr_off HF6.out hgw _) hgw _) (by have := HC.out.2.1; show l.length ≤ 1000000000; omega) hgw, fun h => absurd (show st = 0 from h) (by have := HPos.out; omega)⟩
    · have e2 : decide (trailQ l = 0) = false := decide_eq_false h2
      have e2b : (trailQ l == 0) = false := beq_eq_false_iff_ne.2 h2
      have e2c : (trailQ l != 0) = true := bne_iff_ne.2 h2
      have HE := Aside0.mk (hp_t1 HO.out hpos h2)
      have H2 := Aside0.mk h2
      clear h2 hpos
      generalize trailQ l = tq at HT HE e2 e2b e2c H2
      have HT0 := HT
      go_enter Tryz.func67, Tryz.ntmps67
      go_wp2_with (first
        | (go_at_call 33; refine (HT0.out _ HS.out).mono ?_; rintro e w2 ⟨rfl, hb⟩; have HP2 := Aside0.mk ((hb.block _ (blk_lt HP.out)).trans HP.out); have HS2 := Aside0.mk (HS.out.trans (Stay.of_below (ok := fun k => k = g) hb) (fun _ _ e => e)); clear hb HP HS; have HP := HP2; have HS := HS2; clear HP2 HS2; have k1 := cells_of_heap HP.out 1 _ rfl; have k2 := cells_of_heap HP.out 2 _ rfl; have k3 := cells_of_heap HP.out 3 _ rfl; clear HT0))
      go_ret
      exact HEnd.out _ _ _ HE.out (.inl H2.out) HS.out HP.out
set_option maxHeartbeats 1600000 in
theorem headR_c {w : World} {g : Nat} {s : MS} {bk : Bool} {Rf Rt : Option Addr} {cf ct : Nat} (h : RR w g s bk Rf cf Rt ct) (hi : Iv s) (fin : Bool) {B : Option Addr} {l : List S61} {bc : Nat} (hSz : Sized l) (hll : l.length ≤ 1000) (hC : ∀ W, Stay (fun k => k = g) w W → k61.C W B l.length l) (hc : l.length ≤ bc) :
    Calls Tryz.prog 21 #[.pointer (some ⟨g, 0, none⟩), .bool fin, .slice B l.length bc] w fun e w' => e = .returned (.int .i64 (headP s fin l).1) ∧ Stay (fun k => k = g) w w' ∧ ∃ (bk' : Bool) (Rf' : Option Addr) (cf' : Nat) (Rt' : Option Addr) (ct' : Nat), RR w' g (headP s fin l).2 bk' Rf' cf' Rt' ct' := by
  have H0 := Aside0.mk (head0_c h hi fin hSz hll hC hc)
  have HRR := Aside0.mk h
  generalize hE : headP s fin l = p at H0 ⊢
  obtain ⟨r, s'⟩ := p
  have HRes := Aside0.mk (res_head hE)
  clear h hi hE hC hc hll hSz
  dsimp only at H0 ⊢
  cases bk with
  | true =>
    go_enter Tryz.func21, Tryz.ntmps21
    go_wp2_with (first
      | (go_at_call 67; refine H0.out.mono ?_; rintro e w1 ⟨rfl, hs, Qf, qf, Qt, qt, hp1, hrf, hrt, hn0⟩; have k7 := cells_of_heap hp1 7 (.bool true) rfl; have fz : ∀ j, w1.frozen? ⟨g, j, none⟩ = false := Bk.fz_of hp1; have HP1 := Aside0.mk (And.intro hp1 (And.intro hrf (And.intro hrt hn0))); have HS1 := Aside0.mk hs; clear hp1 hrf hrt hn0 hs H0))
    go_ret
    exact ⟨rfl, HS1.out.setCell (p := ⟨g, 7, none⟩) (.inl rfl) _, _, Qf, qf, Qt, qt, rr_end HRR.out.b1 HRR.out.b2 HRes.out HP1.out.1 HP1.out.2.1 HP1.out.2.2.1 HP1.out.2.2.2 _ (by simp)⟩
  | false =>
    by_cases h0 : r = 0
    · subst h0
      go_enter Tryz.func21, Tryz.ntmps21
      go_wp2_with (first
        | (go_at_call 67; refine H0.out.mono ?_; rintro e w1 ⟨rfl, hs, Qf, qf, Qt, qt, hp1, hrf, hrt, hn0⟩; have k7 := cells_of_heap hp1 7 (.bool false) rfl; have fz : ∀ j, w1.frozen? ⟨g, j, none⟩ = false := Bk.fz_of hp1; have HP1 := Aside0.mk (And.intro hp1 (And.intro hrf (And.intro hrt hn0))); have HS1 := Aside0.mk hs; clear hp1 hrf hrt hn0 hs H0))
      go_ret
      exact ⟨rfl, HS1.out.setCell (p := ⟨g, 7, none⟩) (.inl rfl) _, _, Qf, qf, Qt, qt, rr_end HRR.out.b1 HRR.out.b2 HRes.out HP1.out.1 HP1.out.2.1 HP1.out.2.2.1 HP1.out.2.2.2 _ (by simp)⟩
    · have e0 : decide (r = 0) = false := decide_eq_false h0
      have e0b : (r == 0) = false := beq_eq_false_iff_ne.2 h0
      have e0c : (r != 0) = true := bne_iff_ne.2 h0
      have HH0 := Aside0.mk h0
      clear h0
      go_enter Tryz.func21, Tryz.ntmps21
      go_wp2_with (first
        | (go_at_call 67; refine H0.out.mono ?_; rintro e w1 ⟨rfl, hs, Qf, qf, Qt, qt, hp1, hrf, hrt, hn0⟩; have k7 := cells_of_heap hp1 7 (.bool false) rfl; have fz : ∀ j, w1.frozen? ⟨g, j, none⟩ = false := Bk.fz_of hp1; have HP1 := Aside0.mk (And.intro hp1 (And.intro hrf (And.intro hrt hn0))); have HS1 := Aside0.mk hs; clear hp1 hrf hrt hn0 hs H0))
      go_ret
      exact ⟨rfl, HS1.out.setCell (p := ⟨g, 7, none⟩) (.inl rfl) _, _, Qf, qf, Qt, qt, rr_end HRR.out.b1 HRR.out.b2 HRes.out HP1.out.1 HP1.out.2.1 HP1.out.2.2.1 HP1.out.2.2.2 _ (by simp [HH0.out])⟩
end Go.Proofs.YtififgiicpdndaaGreatDoor.Fw
/- MessagePlays: the reader, the document's reader and the Book side by side. -/
namespace Go.Proofs.YtififgiicpdndaaGreatDoor.Fw
open Go.RowKit Go.Proofs.YtififgiicpdndaaGreatDoor.XMi Go.Proofs.YtififgiicpdndaaGreatDoorW.PrintWords Go.Proofs.YtififgiicpdndaaGreatDoorW.PrintLast Go.Proofs.YtififgiicpdndaaGreatDoorW.PrintMore Go.Proofs.YtififgiicpdndaaGreatDoor.Ms Go.Proofs.YtififgiicpdndaaGreatDoor.Ob
/-- What is not of the types of the reader, the document's reader, the Book stays. -/
def Fr (W W' : World) : Prop := ∀ (k : Nat) (cs : Array Value) (t : TypeId), W.heap[k]? = some (.cells cs t (0, 0)) → t ≠ 84 → t ≠ 49 → t ≠ 22 → t ≠ 38 → W'.heap[k]? = some (.cells cs t (0, 0))
theorem Fr.below {W W' : World} (hb : Below W.heap.size W W') : Fr W W' := fun k _ _ h _ _ _ _ => (hb.block k (blk_lt h)).trans h
theorem Fr.typed {W W' : World} {S ok : Nat → Prop} (hs : Stay ok W W') (hT : Bk.Tys S ok W) (hS : ∀ t, S t → t = 84 ∨ t = 49 ∨ t = 22 ∨ t = 38) : Fr W W' := fun k cs t h h1 h2 h3 h4 => Bk.cells_keep h hs hT fun e => by
  rcases hS t e with e | e | e | e
  · exact h1 e
  · exact h2 e
  · exact h3 e
  · exact h4 e
theorem Fr.fr {W W' : World} (f : Fr W W') {A : Option Addr} {n c : Nat} {l : List S61} (h : Bk.FR W A n c l) : Bk.FR W' A n c l := by
  obtain ⟨rfl, h1, h2⟩ := h
  refine ⟨rfl, h1, ?_⟩
  rcases h2 with h2 | ⟨g, cap, cur, e, hbg, hh, hr⟩
  · exact .inl h2
  · exact .inr ⟨g, cap, cur, e, hbg, f _ _ _ hh (by decide) (by decide) (by decide) (by decide), hr⟩
structure PL (w0 W : World) (b g gr : Nat) (sx sr : MS) (z : Nat → Prop) : Prop where
  bel : Below w0.heap.size w0 W
  rd : ∃ Af cf At ct, Rd W g sx Af cf At ct
  rr : ∃ bk Rf cf Rt ct, RR W gr sr bk Rf cf Rt ct
  kp : ∃ y, Bk.Kp w0.heap.size z y W b
  zg : z g ∧ z gr
  ng : w0.heap.size ≤ g ∧ w0.heap.size ≤ gr
section
variable {w0 W W' : World} {b g gr : Nat} {sx sr : MS} {z : Nat → Prop}
theorem PL.mono (h : PL w0 W b g gr sx sr z) {z' : Nat → Prop} (hz : ∀ k, z' k → z k) (hg : z' g ∧ z' gr) : PL w0 W b g gr sx sr z' := by
  obtain ⟨h1, h2, h3, ⟨y, h4⟩, h5, h6⟩ := h
  exact ⟨h1, h2, h3, ⟨y, h4.mono hz (fun _ h => h)⟩, hg, h6⟩
theorem PL.below (h : PL w0 W b g gr sx sr z) (hb : Below W.heap.size W W') : PL w0 W' b g gr sx sr (fun k => z k ∨ (W.heap.size ≤ k ∧ k < W'.heap.size)) := by
  obtain ⟨h1, ⟨a1, a2, a3, a4, h2⟩, ⟨c0, c1, c2, c3, c4, h3⟩, ⟨y, h4⟩, h5, h6⟩ := h
  exact ⟨below_step h1 hb, ⟨a1, a2, a3, a4, h2.below hb⟩, ⟨c0, c1, c2, c3, c4, h3.below hb⟩, ⟨y, h4.below hb⟩, ⟨.inl h5.1, .inl h5.2⟩, h6⟩
theorem PL.below' (h : PL w0 W b g gr sx sr z) (hb : Below W.heap.size W W') : PL w0 W' b g gr sx sr z := (h.below hb).mono (fun _ h => .inl h) h.zg
theorem PL.x (h : PL w0 W b g gr sx sr z) {s' : MS} (hr : ∃ Af cf At ct, Rd W' g s' Af cf At ct) (hs : Stay (fun k => k = g) W W') : PL w0 W' b g gr s' sr z ∧ Fr W W' := by
  obtain ⟨h1, ⟨a1, a2, a3, a4, h2⟩, ⟨c0, c1, c2, c3, c4, h3⟩, ⟨y, h4⟩, h5, h6⟩ := h
  have hT := tys_rd h2
  exact ⟨⟨stay_b hs h1 h6.1, hr, ⟨c0, c1, c2, c3, c4, h3.typed hs hT (by decide) (by decide)⟩, ⟨y, (h4.stay hs (fun k _ e => .inr (by rw [e]; exact h5.1))).mono (fun _ h => .inl h) (fun _ h => h)⟩, h5, h6⟩, Fr.typed hs hT (fun t e => .inl e)⟩
theorem PL.r (h : PL w0 W b g gr sx sr z) {s' : MS} (hr : ∃ bk Rf cf Rt ct, RR W' gr s' bk Rf cf Rt ct) (hs : Stay (fun k => k = gr) W W') : PL w0 W' b g gr sx s' z ∧ Fr W W' := by
  obtain ⟨h1, ⟨a1, a2, a3, a4, h2⟩, ⟨c0, c1, c2, c3, c4, h3⟩, ⟨y, h4⟩, h5, h6⟩ := h
  have hT := tys_rr h3
  exact ⟨⟨stay_b hs h1 h6.2, ⟨a1, a2, a3, a4, h2.typed hs hT (by decide) (by decide)⟩, hr, ⟨y, (h4.stay hs (fun k _ e => .inr (by rw [e]; exact h5.2))).mono (fun _ h => .inl h) (fun _ h => h)⟩, h5, h6⟩, Fr.typed hs hT (fun t e => .inr (.inl e))⟩
/-! ### what each call leaves -/
theorem PL.head (h : PL w0 W b g gr sx sr z) {fin : Bool} {l : List S61} {r : Int} {s' : MS} (e : headP sx fin l = (r, s')) (hS : Sized l) (hl : l.length ≤ 1000) {gm cm : Nat} (hm : Bk.FR W (some ⟨gm, 0, none⟩) (l.length + 1) cm (l ++ [Bk.markF])) :
    Calls Tryz.prog 20 #[.pointer (some ⟨g, 0, none⟩), .bool fin, .slice (some ⟨gm, 0, none⟩) l.length cm] W fun e W' => e = .returned (.int .i64 r) ∧ PL w0 W' b g gr s' sr z ∧ Fr W W' := by
  obtain ⟨a1, a2, a3, a4, h2⟩ := h.rd
  have hc := hm.take l.length (by omega)
  rw [List.take_left] at hc
  refine (head_to h2 e hS (hc.c (by omega)) (by have := hm.room; omega)).mono ?_
  rintro e W' ⟨rfl, hr, hs⟩
  exact ⟨rfl, h.x hr hs⟩
theorem PL.data (h : PL w0 W b g gr sx sr z) {n : Int} {fin : Bool} {r : Int} {s' : MS} (e : dataP sx n fin = (r, s')) (hr : -9223372036854775808 ≤ sx.a.came + n ∧ sx.a.came + n ≤ 9223372036854775807) :
    Calls Tryz.prog 22 #[.pointer (some ⟨g, 0, none⟩), .int .i64 n, .bool fin] W fun e W' => e = .returned (.int .i64 r) ∧ PL w0 W' b g gr s' sr z ∧ Fr W W' := by
  obtain ⟨a1, a2, a3, a4, h2⟩ := h.rd
  refine (data_to h2 e hr).mono ?_
  rintro e W' ⟨rfl, hr, hs⟩
  exact ⟨rfl, h.x hr hs⟩
theorem PL.headR (h : PL w0 W b g gr sx sr z) (hi : Iv sr) {fin : Bool} {l : List S61} {r : Int} {s' : MS} (e : headP sr fin l = (r, s')) (hS : Sized l) (hl : l.length ≤ 1000) {B : Option Addr} {bc : Nat} (hC : k61.C w0 B l.length l) (hc : l.length ≤ bc) :
    Calls Tryz.prog 21 #[.pointer (some ⟨gr, 0, none⟩), .bool fin, .slice B l.length bc] W fun e W' => e = .returned (.int .i64 r) ∧ PL w0 W' b g gr sx s' z ∧ Fr W W' := by
  obtain ⟨c0, c1, c2, c3, c4, h3⟩ := h.rr
  have hn := h.ng.2
  have hb := h.bel
  refine (headR_c h3 hi fin hS hl (fun W1 hs => Kd.C_below hC (stay_b hs hb hn)) hc).mono ?_
  rintro e' W' ⟨rfl, hs, hr⟩
  rw [e] at hr ⊢
  exact ⟨rfl, h.r hr hs⟩
theorem PL.dataR (h : PL w0 W b g gr sx sr z) (hi : Iv sr) {n : Int} {fin : Bool} {r : Int} {s' : MS} (e : dataP sr n fin = (r, s')) (hr : -9223372036854775808 ≤ sr.a.came + n ∧ sr.a.came + n ≤ 9223372036854775807) :
    Calls Tryz.prog 23 #[.pointer (some ⟨gr, 0, none⟩), .int .i64 n, .bool fin] W fun e W' => e = .returned (.int .i64 r) ∧ PL w0 W' b g gr sx s' z ∧ Fr W W' := by
  obtain ⟨c0, c1, c2, c3, c4, h3⟩ := h.rr
  refine (dataR_c h3 hi n fin hr).mono ?_
  rintro e' W' ⟨rfl, hs, hr⟩
  rw [e] at hr ⊢
  exact ⟨rfl, h.r hr hs⟩
/-- A copy of the reader's fields, a row that is nobody's yet. -/
theorem PL.fieldsM (h : PL w0 W b g gr sx sr z) (hl : sx.a.fields.length ≤ 100000) :
    Calls Tryz.prog 25 #[.pointer (some ⟨g, 0, none⟩)] W fun e W' => ∃ A c, e = .returned (.slice A sx.a.fields.length c) ∧ Bk.FR W' A sx.a.fields.length c sx.a.fields ∧ (∀ k : Nat, A = some ⟨k, 0, none⟩ → W.heap.size ≤ k) ∧ Below W.heap.size W W' ∧ PL w0 W' b g gr sx sr (fun k => z k ∨ (W.heap.size ≤ k ∧ k < W'.heap.size)) ∧ Fr W W' := by
  obtain ⟨a1, a2, a3, a4, h2⟩ := h.rd
  refine (fieldsM_c h2 rfl hl).mono ?_
  rintro e W' ⟨A, c, rfl, hF, hb⟩
  obtain ⟨q1, q2⟩ := fr_bk hF
  exact ⟨A, c, rfl, q1, q2, hb, h.below hb, Fr.below hb⟩
theorem PL.trails (h : PL w0 W b g gr sx sr z) (hl : sx.a.trails.length ≤ 100000) :
    Calls Tryz.prog 26 #[.pointer (some ⟨g, 0, none⟩)] W fun e W' => ∃ A c, e = .returned (.slice A sx.a.trails.length c) ∧ Bk.FR W' A sx.a.trails.length c sx.a.trails ∧ (∀ k : Nat, A = some ⟨k, 0, none⟩ → W.heap.size ≤ k) ∧ Below W.heap.size W W' ∧ PL w0 W' b g gr sx sr (fun k => z k ∨ (W.heap.size ≤ k ∧ k < W'.heap.size)) ∧ Fr W W' := by
  obtain ⟨a1, a2, a3, a4, h2⟩ := h.rd
  refine (trailsR_c h2 rfl hl).mono ?_
  rintro e W' ⟨A, c, rfl, hF, hb⟩
  obtain ⟨q1, q2⟩ := fr_bk hF
  exact ⟨A, c, rfl, q1, q2, hb, h.below hb, Fr.below hb⟩
theorem PL.book (h : PL w0 W b g gr sx sr z) {A : Option Addr} {l : List S61} {c : Nat} (hF : Bk.FR W A l.length c l) (hl : l.length ≤ 1000000) (hA : ∀ k : Nat, A = some ⟨k, 0, none⟩ → w0.heap.size ≤ k ∧ z k ∧ k ≠ g ∧ k ≠ gr) :
    Calls Tryz.prog 10 #[.pointer (some ⟨b, 0, none⟩), .slice A l.length c] W fun e W' => e = .returned (.tuple #[]) ∧ PL w0 W' b g gr sx sr (fun k => z k ∧ A ≠ some ⟨k, 0, none⟩) ∧ Fr W W' := by
  obtain ⟨h1, ⟨a1, a2, a3, a4, h2⟩, ⟨c0, c1, c2, c3, c4, h3⟩, ⟨y, h4⟩, h5, h6⟩ := h
  refine (h4.fieldsT hF hl fun k e => ⟨(hA k e).1, (hA k e).2.1⟩).mono ?_
  rintro e W' ⟨rfl, ⟨ok, hs, hT, hn⟩, hk⟩
  have hb : ∀ t, Bk.bkT t → t = 22 ∨ t = 38 := fun t e => e
  have n61 : ¬ Bk.bkT 61 := fun e => by rcases e with e | e <;> cases e
  have n58 : ¬ Bk.bkT 84 := fun e => by rcases e with e | e <;> cases e
  have n49 : ¬ Bk.bkT 49 := fun e => by rcases e with e | e <;> cases e
  exact ⟨rfl, ⟨hs.below h1 hn, ⟨a1, a2, a3, a4, h2.typed hs hT n61 n58⟩, ⟨c0, c1, c2, c3, c4, h3.typed hs hT n61 n49⟩, ⟨_, hk⟩, ⟨⟨h5.1, fun e => (hA _ e).2.2.1 rfl⟩, ⟨h5.2, fun e => (hA _ e).2.2.2 rfl⟩⟩, h6⟩, Fr.typed hs hT (fun t e => by rcases hb t e with e | e; exact .inr (.inr (.inl e)); exact .inr (.inr (.inr e)))⟩
theorem PL.status (h : PL w0 W b g gr sx sr z) : Calls Tryz.prog 27 #[.pointer (some ⟨g, 0, none⟩)] W fun e W' => e = .returned (.int .i64 sx.a.status) ∧ Below W.heap.size W W' := by
  obtain ⟨a1, a2, a3, a4, h2⟩ := h.rd
  exact status_c h2
theorem PL.done (h : PL w0 W b g gr sx sr z) : Calls Tryz.prog 28 #[.pointer (some ⟨g, 0, none⟩)] W fun e W' => e = .returned (.bool sx.a.done) ∧ Below W.heap.size W W' := by
  obtain ⟨a1, a2, a3, a4, h2⟩ := h.rd
  exact done_c h2
theorem PL.apart (h : PL w0 W b g gr sx sr z) : Calls Tryz.prog 16 #[.pointer (some ⟨b, 0, none⟩)] W fun e W' => e = .returned (.bool true) ∧ Below w0.heap.size w0 W' := by
  obtain ⟨y, h4⟩ := h.kp
  refine h4.apart.mono ?_
  rintro e W' ⟨rfl, hs⟩
  exact ⟨rfl, hs.below h.bel (fun _ h => h)⟩
end
end Go.Proofs.YtififgiicpdndaaGreatDoor.Fw
/- A region that draws its order, gone through by hand: what a guard lets by is passed over first. -/
namespace Go.Proofs.YtififgiicpdndaaGreatDoor.Fw
open Go.RowKit
section
variable {P : Program} {ops : Array Oper} {Q : Exit → Act → World → Prop} {md : Region.Mode} {S : World → Prop}
theorem rg_skip {fuel : Nat} {listed : Array Bool} {a : Act} {w : World} {o : Oper} (i : Nat) (listed' : Array Bool) (hl : listed.setIfInBounds i true = listed') (ho : ops[i]? = some o) (hs : Region.noSelect ops = true) (hf : Region.free md ops listed i = true) (hr : (Region.ready md ops listed).contains i = true) (hQ : ∀ c a w, Q (.panic c) (a.put o.dst undef) w → Q (.panic c) a w) (hw : Region.wanted o (yielded ops a.tmps) = false) (hS : S w)
    (h : wpAnyH P md ops Q S fuel listed' (a.put o.dst undef) w) : wpAnyH P md ops Q S (fuel + 1) listed a w :=
  wpAnyH_take ho hs hf hr hQ (.inr ⟨hw, rfl⟩) hS (hl ▸ h)
theorem rg_pass {fuel : Nat} {listed : Array Bool} {a : Act} {w : World} {o : Oper} (i : Nat) (listed' : Array Bool) (hl : listed.setIfInBounds i true = listed') (ho : ops[i]? = some o) (hr : Region.ready md ops listed = [i]) (hw : Region.wanted o (yielded ops a.tmps) = false) (hS : S w)
    (h : wpAnyH P md ops Q S fuel listed' (a.put o.dst undef) w) : wpAnyH P md ops Q S (fuel + 1) listed a w :=
  wpAnyH_ready hr (by simp) (AllReadyH.cons ho (fun K hK => by rw [if_neg (by rw [hw]; exact Bool.false_ne_true)]; exact hK.out _ _ hS (fun _ => hl ▸ h)) AllReadyH.nil)
theorem rg_take {fuel : Nat} {listed : Array Bool} {a : Act} {w : World} {o : Oper} (i : Nat) (listed' : Array Bool) (hl : listed.setIfInBounds i true = listed') (v : Value) (ho : ops[i]? = some o) (hs : Region.noSelect ops = true) (hf : Region.free md ops listed i = true) (hr : (Region.ready md ops listed).contains i = true) (hQ : ∀ c a w, Q (.panic c) (a.put o.dst v) w → Q (.panic c) a w) (hw : Region.wanted o (yielded ops a.tmps) = true) (hS : S w)
    (hy : ∀ w, S w → (execOp a.eval o).run P w = .ok (.value v) w) (h : wpAnyH P md ops Q S fuel listed' (a.put o.dst v) w) : wpAnyH P md ops Q S (fuel + 1) listed a w :=
  wpAnyH_take ho hs hf hr hQ (.inl ⟨hw, hy⟩) hS (hl ▸ h)
theorem rg_call {fuel : Nat} {listed : Array Bool} {a : Act} {w : World} {o : Oper} (i : Nat) (listed' : Array Bool) (hl : listed.setIfInBounds i true = listed') (ho : ops[i]? = some o) (hr : Region.ready md ops listed = [i]) (hw : Region.wanted o (yielded ops a.tmps) = true)
    (h : ∀ K' : Act → World → Prop, (∀ a w, S w → wpAnyH P md ops Q S fuel listed' a w → K' a w) → Oper.wp P o a w K' Q) : wpAnyH P md ops Q S (fuel + 1) listed a w :=
  wpAnyH_ready hr (by simp) (AllReadyH.cons ho (fun K hK => by rw [if_pos hw]; exact h K (fun a w hS h => hK.out a w hS (fun _ => hl ▸ h))) AllReadyH.nil)
theorem rg_start {id : Nat} {a : Act} {w : World} (hm : P.follows .mixedOrders = true) (hS : S w.drew) (n : Nat) (listed : Array Bool) (hn : ops.size = n) (hl : Array.replicate ops.size false = listed) (h : wpAnyH P .any ops Q S n listed a w.drew) : (Code.region id ops true).wp P Q a w := wp_region_held_drew hm hS (fun _ => by rw [hl, hn]; exact h)
end
end Go.Proofs.YtififgiicpdndaaGreatDoor.Fw
