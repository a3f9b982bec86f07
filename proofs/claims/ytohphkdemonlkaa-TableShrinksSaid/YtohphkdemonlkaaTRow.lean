/- Rows of fields of one's own: opened, made; slices.Insert at the front as a mover of such a row. -/
import Derived.Test.YtohphkdemonlkaaTIns
namespace Go.Proofs.Ytohphkdemonlkaa.Tw
open Go.RowKit Go.Lib Go.Proofs.Ytohphkdemonlkaa.XQt Go.Proofs.YtohphkdemonlkaaW.PrintWords Go.Proofs.YtohphkdemonlkaaW.PrintLast Go.Proofs.YtohphkdemonlkaaW.PrintMore Go.Proofs.Ytohphkdemonlkaa.Ob

/-- The cells of fields, one behind the other. -/
def fcells : List S54 → List Value
  | [] => []
  | x :: l => .string x.f0 :: .string x.f1 :: fcells l
theorem fcells_len : ∀ l : List S54, (fcells l).length = l.length * 2
  | [] => rfl
  | x :: l => by simp only [fcells, List.length_cons, fcells_len l]; omega
theorem fcells_one : ∀ l : List S54, ∀ v ∈ fcells l, v.oneCell' = true
  | [], v, h => by cases h
  | x :: l, v, h => by
    simp only [fcells, List.mem_cons] at h
    rcases h with rfl | rfl | h
    · rfl
    · rfl
    · exact fcells_one l v h
theorem reps_fcells {R : S54 → List Value → Prop} (hR : ∀ p c, R p c → c = [.string p.f0, .string p.f1]) : ∀ (l : List S54) (cs : List Value), Reps R 2 l cs → cs = fcells l
  | [], cs, h => List.eq_nil_of_length_eq_zero (by simpa using h.1)
  | x :: l, cs, h => by
    have hl := h.1
    rw [List.length_cons] at hl
    match cs, hl, h with
    | [], hl, _ => exact absurd hl (by simp)
    | [_], hl, _ => exact absurd hl (by simp only [List.length_cons, List.length_nil]; omega)
    | a :: b :: r, hl, h =>
      have h0 := hR _ _ (h.2 0 x rfl)
      simp at h0
      obtain ⟨rfl, rfl⟩ := h0
      have := reps_fcells hR l r ⟨by simp only [List.length_cons] at hl; omega, fun j p hj => by
        have := h.2 (j + 1) p (by simpa using hj)
        rw [show (j + 1) * 2 = j * 2 + 1 + 1 by omega] at this
        simpa using this⟩
      rw [fcells, this]
theorem fcells_reps {R : S54 → List Value → Prop} (hR : ∀ p : S54, R p [.string p.f0, .string p.f1]) : ∀ l : List S54, Reps R 2 l (fcells l)
  | [] => Reps.none R 2
  | x :: l => by
    have ih := fcells_reps hR l
    refine ⟨fcells_len _, fun j p hj => ?_⟩
    cases j with
    | zero => 
      obtain rfl : x = p := by simpa using hj
      exact hR x
    | succ j =>
      have := ih.2 j p (by simpa using hj)
      rw [show (j + 1) * 2 = j * 2 + 1 + 1 by omega]
      simpa [fcells] using this
theorem r_open {w : World} {base : Nat} {ok : Nat → Prop} {v : Value} {l : List S54} (h : k54.R 54 w base ok v l) :
    (v = .slice none 0 0 ∧ l = []) ∨ ∃ g c cur, v = .slice (some ⟨g, 0, none⟩) l.length c ∧ base ≤ g ∧ ok g ∧ w.heap[g]? = some (.cells cur 54 (0, 0)) ∧ l.length ≤ c ∧ c ≤ maxLen ∧ cur.size = c * 2 ∧ cur.toList.take (l.length * 2) = fcells l := by
  obtain ⟨h0, inner, ⟨_, hr⟩, hreps⟩ := h
  rcases hr with ⟨rfl, h1⟩ | ⟨g, cap, cur, rfl, hb, hh, hnc, hcm, hcs, ht⟩
  · exact .inl ⟨rfl, List.eq_nil_of_length_eq_zero h1⟩
  · exact .inr ⟨g, cap, cur, rfl, hb, h0 g rfl, hh, hnc, hcm, hcs, ht.trans (reps_fcells (fun p c hp => k54_openM hp) l inner hreps)⟩
theorem r_make {w : World} {base : Nat} {ok : Nat → Prop} {g n c : Nat} {cur : Array Value} {l : List S54} (hb : base ≤ g) (ho : ok g) (hh : w.heap[g]? = some (.cells cur 54 (0, 0))) (hl : l.length = n) (hnc : n ≤ c) (hcm : c ≤ maxLen) (hcs : cur.size = c * 2)
    (ht : cur.toList.take (n * 2) = fcells l) : k54.R 54 w base ok (.slice (some ⟨g, 0, none⟩) n c) l := by
  subst hl
  exact ⟨fun k hk => by cases hk; exact ho, fcells l, ⟨fcells_len l, .inr ⟨g, c, cur, rfl, hb, hh, hnc, hcm, hcs, ht⟩⟩, fcells_reps (fun p => k54_mkM _ _ _ p) l⟩

/-- slices.Insert of one at the front, of a row of one's own. -/
theorem insert_calls {w : World} {base : Nat} {ok : Nat → Prop} {A : Option Addr} {n c : Nat} {l : List S54} (h : k54.R 54 w base ok (.slice A n c) l) (hbs : base ≤ w.heap.size) (hl9 : l.length ≤ 1000000000) (x : S54) (vb : Nat)
    (hv : w.heap[vb]? = some (.cells #[.string x.f0, .string x.f1] 54 (0, 0))) (hnv : ¬ ok vb) :
    Calls Try.prog 71 #[.slice A n c, .int .i64 0, .slice (some ⟨vb, 0, none⟩) 1 1] w fun e w' => ∃ A1 c1, e = .returned (.slice A1 (n + 1) c1) ∧
      k54.R 54 w' base (fun k => ok k ∨ w.heap.size ≤ k) (.slice A1 (n + 1) c1) (x :: l) ∧ Stay ok w w' := by
  have hn : n = l.length := (Kd.R_reads' h).1
  subst hn
  have hmx : maxLen = 9223372036854775807 := rfl
  rcases r_open h with ⟨hv0, rfl⟩ | ⟨g, c', cur, hv0, hb, hok, hh, hnc, hcm, hcs, ht⟩
  · injection hv0 with h1 h2 h3
    subst h1; subst h3
    refine (ins_end_grow none vb x w hv).mono ?_
    rintro e w' ⟨c1, rfl, h1, h2, cur', h3, h4, h5, h6⟩
    exact ⟨_, c1, rfl, r_make hbs (.inr (Nat.le_refl _)) h3 rfl h1 h2 h4 h5, h6.mono (fun _ e => e.elim)⟩
  · injection hv0 with h1 h2 h3
    subst h1; subst h3
    rcases Nat.eq_zero_or_pos l.length with hz | hp
    · obtain rfl : l = [] := List.eq_nil_of_length_eq_zero hz
      rcases Nat.eq_zero_or_pos c with rfl | hc
      · refine (ins_end_grow (some ⟨g, 0, none⟩) vb x w hv).mono ?_
        rintro e w' ⟨c1, rfl, h1, h2, cur', h3, h4, h5, h6⟩
        exact ⟨_, c1, rfl, r_make hbs (.inr (Nat.le_refl _)) h3 rfl h1 h2 h4 h5, h6.mono (fun _ e => e.elim)⟩
      · refine (ins_end_room g c vb cur x w hc hh hcs hv).mono ?_
        rintro e w' ⟨rfl, cur', h3, h4, h5, h6⟩
        exact ⟨_, c, rfl, r_make hb (.inl hok) h3 rfl hc hcm h4 h5, h6.mono (fun k e => e ▸ hok)⟩
    · rcases Nat.lt_or_ge l.length c with hroom | hroom
      · refine (ins_shift g l.length c vb cur x (fcells l) w hp hroom (by omega) (fun e => hnv (e ▸ hok)) hh ht.symm hcs hv (fcells_one l)).mono ?_
        rintro e w' ⟨rfl, cur', h3, h4, h5, h6⟩
        exact ⟨_, c, rfl, r_make hb (.inl hok) h3 rfl hroom hcm h4 h5, h6.mono (fun k e => e ▸ hok)⟩
      · obtain rfl : c = l.length := by omega
        refine (ins_grow g l.length vb cur x (fcells l) w hp hl9 hh ht.symm hcs hv (fcells_one l)).mono ?_
        rintro e w' ⟨c1, rfl, h1, h2, cur', h3, h4, h5, h6⟩
        exact ⟨_, c1, rfl, r_make hbs (.inr (Nat.le_refl _)) h3 rfl h1 h2 h4 h5, h6.mono (fun _ e => e.elim)⟩
end Go.Proofs.Ytohphkdemonlkaa.Tw
