/- Contracts of the table's methods: New, Used, Size, Cost, All, shrink. -/
import Derived.Test.YtohphkdemonlkaaTRow
namespace Go.Proofs.Ytohphkdemonlkaa.Tw
open Go.RowKit Go.Lib Go.Proofs.Ytohphkdemonlkaa.XQt Go.Proofs.YtohphkdemonlkaaW.PrintWords Go.Proofs.YtohphkdemonlkaaW.PrintLast Go.Proofs.YtohphkdemonlkaaW.PrintMore Go.Proofs.Ytohphkdemonlkaa.Ob

theorem w64_in (n : Int) (h : -9223372036854775808 ≤ n ∧ n ≤ 9223372036854775807) : wrap64 n = n := by unfold wrap64; omega
/-- What a field counts. -/
def cost (x : S54) : Int := (x.f0.size : Int) + x.f1.size + 32
def total : List S54 → Int
  | [] => 0
  | x :: l => cost x + total l
theorem cost_pos (x : S54) : 32 ≤ cost x := by unfold cost; omega
theorem total_nonneg : ∀ l : List S54, 32 * (l.length : Int) ≤ total l
  | [] => by simp [total]
  | x :: l => by
    have := total_nonneg l
    have := cost_pos x
    simp only [total, List.length_cons]
    omega
theorem total_append : ∀ (a b : List S54), total (a ++ b) = total a + total b
  | [], b => by simp [total]
  | x :: a, b => by
    have := total_append a b
    simp only [List.cons_append, total]
    omega
theorem cost_f (x : S54) (h : cost x ≤ 4611686018427387904) : table_Cost.f x.f0 x.f1 = some (cost x) := by
  unfold cost at h
  unfold table_Cost.f cost
  rw [w64_in ((x.f0.size : Int) + x.f1.size) (by omega), w64_in _ (by omega)]
theorem cost_calls (x : S54) (h : cost x ≤ 4611686018427387904) (w : World) :
    Calls Try.prog 30 #[.agg #[.string x.f0, .string x.f1]] w fun e w' => e = .returned (.int .i64 (cost x)) ∧ Below w.heap.size w w' := table_Cost.calls _ _ _ w (cost_f x h)

/-! ### the table in memory -/
/-- A table: the fields that were added, how much may be used, how much is. -/
abbrev TK : Kd (List S54 × (Int × Int)) := ptr 96 (Kd.pair (Kd.slice 54 k54) (Kd.pair (Kd.int .i64) (Kd.int .i64)))
theorem tk_open {w : World} {base : Nat} {ok : Nat → Prop} {q : List S54 × (Int × Int)} {cs : List Value} (h : TK.M w base ok q cs) :
    ∃ g A c, cs = [.pointer (some ⟨g, 0, none⟩)] ∧ base ≤ g ∧ ok g ∧ w.heap[g]? = some (.cells #[.slice A q.1.length c, .int .i64 q.2.1, .int .i64 q.2.2] 96 (0, 0)) ∧ q.1.length ≤ c ∧
      k54.R 54 w base (fun k => ok k ∧ k ≠ g) (.slice A q.1.length c) q.1 := by
  obtain ⟨g, cells, rfl, hb, ho, hg, c0, c1, hc, ⟨v, rfl, hq⟩, c2, c3, hc1, h2, h3⟩ := h
  have h2' : c2 = [Value.int .i64 q.2.1] := h2
  have h3' : c3 = [Value.int .i64 q.2.2] := h3
  subst h2'; subst h3'; subst hc1
  obtain ⟨A, c, rfl, hl, _⟩ := Kd.R_reads hq
  have hcells : cells = #[.slice A q.1.length c, .int .i64 q.2.1, .int .i64 q.2.2] := by
    cases cells
    simpa using hc
  subst hcells
  exact ⟨g, A, c, rfl, hb, ho, hg, hl, hq⟩
theorem tk_mk {w : World} {base : Nat} {ok : Nat → Prop} {l : List S54} {s u : Int} {g : Nat} {v : Value} (hb : base ≤ g) (ho : ok g) (hg : w.heap[g]? = some (.cells #[v, .int .i64 s, .int .i64 u] 96 (0, 0)))
    (hq : k54.R 54 w base (fun k => ok k ∧ k ≠ g) v l) : TK.M w base ok (l, s, u) [.pointer (some ⟨g, 0, none⟩)] :=
  ⟨g, _, rfl, hb, ho, hg, [v], [.int .i64 s, .int .i64 u], rfl, ⟨v, rfl, hq⟩, [.int .i64 s], [.int .i64 u], rfl, rfl, rfl⟩

/-- A new table. -/
theorem new_calls (size : Int) (hs : 0 ≤ size ∧ size ≤ 512) (w : World) (base : Nat) (hb : base ≤ w.heap.size) :
    Calls Try.prog 26 #[.int .i64 size] w fun e w' => ∃ g, e = .returned (.pointer (some ⟨g, 0, none⟩)) ∧ w.heap.size ≤ g ∧
      TK.M w' base (fun k => w.heap.size ≤ k) ([], size, 0) [.pointer (some ⟨g, 0, none⟩)] ∧ Below w.heap.size w w' := by
  have HM : ∀ w, Aside0 (Calls Try.prog 69 #[.int .i64 size] w fun e w' => e = .returned (.bool true) ∧ Drawn0 w w') := fun w => ⟨table_may.calls size true w (by unfold table_may.f; rw [if_pos (by omega), decide_eq_true hs.2])⟩
  clear hs
  go_enter Try.func26, Try.ntmps26
  go_wp2_with (go_at_call 69; refine (HM _).out.mono ?_; rintro e w' ⟨rfl, ⟨nd, rfl⟩⟩)
  go_ret
  have hsz : (w.drewN nd).heap.size = w.heap.size := rfl
  refine ⟨w.heap.size, rfl, Nat.le_refl _, ?_, below_alloc (pw_below_drewN (Below.refl _ _) _) _⟩
  exact tk_mk hb (Nat.le_refl _) (heap_alloc_new (w.drewN nd) _) (Kd.R_nil _ _ _ _ _)
theorem new_none (size : Int) (hs : ¬ (0 ≤ size ∧ size ≤ 512)) (w : World) :
    Calls Try.prog 26 #[.int .i64 size] w fun e w' => e = .returned (.pointer none) ∧ Below w.heap.size w w' := by
  have HM : ∀ w, Aside0 (Calls Try.prog 69 #[.int .i64 size] w fun e w' => e = .returned (.bool false) ∧ Drawn0 w w') := fun w => ⟨table_may.calls size false w (by
    unfold table_may.f
    by_cases h : size ≥ 0
    · rw [if_pos h, decide_eq_false (fun e => hs ⟨h, e⟩)]
    · rw [if_neg h])⟩
  clear hs
  go_enter Try.func26, Try.ntmps26
  go_wp2_with (go_at_call 69; refine (HM _).out.mono ?_; rintro e w' ⟨rfl, ⟨nd, rfl⟩⟩)
  go_ret
  exact ⟨rfl, pw_below_drewN (Below.refl _ _) _⟩
theorem used_calls (q : List S54 × (Int × Int)) (w : World) (g : Nat) (base : Nat) (ok : Nat → Prop) (hq : TK.M w base ok q [.pointer (some ⟨g, 0, none⟩)]) :
    Calls Try.prog 29 #[.pointer (some ⟨g, 0, none⟩)] w fun e w' => e = .returned (.int .i64 q.2.2) ∧ Below w.heap.size w w' := by
  obtain ⟨g', A, c, he, hbg, hok, hg, hc, hQ⟩ := tk_open hq
  obtain rfl : g = g' := by simpa using he
  have h0 : w.cell? ⟨g, 2, none⟩ = some (.int .i64 q.2.2) := by simp [World.cell?, hg]
  clear hQ hg hc he hq hok hbg
  go_enter Try.func29, Try.ntmps29
  go_wp2
  go_ret
  exact ⟨rfl, by repeat (first | exact Below.refl _ _ | apply below_drew1 | apply pw_below_drewN)⟩
theorem size_calls (q : List S54 × (Int × Int)) (w : World) (g : Nat) (base : Nat) (ok : Nat → Prop) (hq : TK.M w base ok q [.pointer (some ⟨g, 0, none⟩)]) :
    Calls Try.prog 34 #[.pointer (some ⟨g, 0, none⟩)] w fun e w' => e = .returned (.int .i64 q.2.1) ∧ Below w.heap.size w w' := by
  obtain ⟨g', A, c, he, hbg, hok, hg, hc, hQ⟩ := tk_open hq
  obtain rfl : g = g' := by simpa using he
  have h0 : w.cell? ⟨g, 1, none⟩ = some (.int .i64 q.2.1) := by simp [World.cell?, hg]
  clear hQ hg hc he hq hok hbg
  go_enter Try.func34, Try.ntmps34
  go_wp2
  go_ret
  exact ⟨rfl, by repeat (first | exact Below.refl _ _ | apply below_drew1 | apply pw_below_drewN)⟩
end Go.Proofs.Ytohphkdemonlkaa.Tw
