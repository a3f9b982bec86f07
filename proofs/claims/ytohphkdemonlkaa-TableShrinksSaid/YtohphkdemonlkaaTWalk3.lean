/- Contracts of the table's methods: All, whole, Resize. -/
import Derived.Test.YtohphkdemonlkaaTWalk2
import Derived.Test.YtohphkdemonlkaaTShelf
namespace Go.Proofs.Ytohphkdemonlkaa.Tw
open Go.RowKit Go.Lib Go.Proofs.Ytohphkdemonlkaa.XQt Go.Proofs.YtohphkdemonlkaaW.PrintWords Go.Proofs.YtohphkdemonlkaaW.PrintLast Go.Proofs.YtohphkdemonlkaaW.PrintMore Go.Proofs.Ytohphkdemonlkaa.Ob

theorem r_of_own {w : World} {base n : Nat} {ok : Nat → Prop} {v : Value} {l : List S54} (hn : n = l.length) (ho : w.ownsRow base 54 2 v n (fcells l)) (hok : ∀ k, v.ownBlock = some k → ok k) : k54.R 54 w base ok v l := by
  subst hn
  exact ⟨hok, fcells l, ho, fcells_reps (fun p => k54_mkM _ _ _ p) l⟩
/-- slices.Clone of a row of one's own. -/
theorem clone_calls {w : World} {base : Nat} {ok : Nat → Prop} {A : Option Addr} {n c : Nat} {l : List S54} (h : k54.R 54 w base ok (.slice A n c) l) (hl : n ≤ 1000000000) :
    Calls Try.prog 72 #[.slice A n c] w fun e w' => ∃ A1 c1, e = .returned (.slice A1 n c1) ∧ k54.R 54 w' w.heap.size (fun k => w.heap.size ≤ k) (.slice A1 n c1) l ∧ Below w.heap.size w w' := by
  have hn : n = l.length := (Kd.R_reads' h).1
  subst hn
  rcases r_open h with ⟨hv0, rfl⟩ | ⟨g, c', cur, hv0, hb, hok, hh, hnc, hcm, hcs, ht⟩
  · injection hv0 with h1 h2 h3
    subst h1; subst h3
    refine (AnyE.slices_Clone_nil Try.laysSlE041_f72 0 0 w).mono ?_
    rintro e w' ⟨rfl, rfl⟩
    exact ⟨none, 0, rfl, Kd.R_nil _ _ _ _ _, Below.refl _ _⟩
  · injection hv0 with h1 h2 h3
    subst h1; subst h3
    obtain ⟨i0, hi0, hz0, hzs, hzb⟩ := info_parts info54
    have hmx : maxLen = 9223372036854775807 := rfl
    refine (AnyE.slices_Clone Try.laysSlE041_f72 i0 (.agg #[.string ⟨#[]⟩, .string ⟨#[]⟩]) 2 32 hi0 hz0 hzs hzb rfl (by omega) Try.sizeOf54 g 0 l.length c (fcells l) w (fcells_len l) (by omega) (by omega) (fun j u hj => ?_) (fcells_one l)).mono ?_
    · have hjl := (List.getElem?_eq_some_iff.1 hj).1
      rw [fcells_len] at hjl
      rw [← ht, List.getElem?_take, if_pos hjl] at hj
      simp only [World.cell?, hh, Nat.zero_add]
      simpa using hj
    · rintro e w' ⟨v, rfl, ho, _, hbl⟩
      have ho' : w'.ownsRow w.heap.size 54 2 v l.length (fcells l) := ho
      have hr : k54.R 54 w' w.heap.size (fun k => w.heap.size ≤ k) v l := r_of_own rfl ho' (fun k hk => by
        obtain ⟨_, h2⟩ := ho'
        rcases h2 with ⟨rfl, _⟩ | ⟨g, cap, cur, rfl, hg, _⟩
        · cases hk
        · cases hk
          exact hg)
      obtain ⟨A1, c1, rfl⟩ := Kd.R_slice hr
      exact ⟨A1, c1, rfl, hr, hbl⟩
/-- All that were added. -/
theorem all_calls (q : List S54 × (Int × Int)) (w : World) (g : Nat) (base : Nat) (ok : Nat → Prop) (hl : q.1.length ≤ 1000000000) (hq : TK.M w base ok q [.pointer (some ⟨g, 0, none⟩)]) :
    Calls Try.prog 28 #[.pointer (some ⟨g, 0, none⟩)] w fun e w' => ∃ A1 c1, e = .returned (.slice A1 q.1.length c1) ∧ k54.R 54 w' w.heap.size (fun k => w.heap.size ≤ k) (.slice A1 q.1.length c1) q.1 ∧ Below w.heap.size w w' := by
  obtain ⟨g', A, c, he, hbg, hok, hg, hc, hQ⟩ := tk_open hq
  obtain rfl : g = g' := by simpa using he
  have h0 : w.cell? ⟨g, 0, none⟩ = some (.slice A q.1.length c) := by simp [World.cell?, hg]
  have HQ := Aside0.mk (clone_calls hQ hl)
  clear hQ hg hc he hq hok hbg
  go_enter Try.func28, Try.ntmps28
  go_wp2_with (go_at_call 72; refine HQ.out.mono ?_; rintro e w' ⟨A1, c1, rfl, hR, hB⟩)
  go_ret
  exact ⟨A1, c1, rfl, hR, hB⟩
/-- The fields that are always there. -/
def fixedL : List S54 := (table_always.f).getD []
theorem fixed_f : table_always.f = some fixedL := rfl
theorem fixed_len : fixedL.length = 16 := rfl
/-- All fields. -/
theorem whole_calls (q : List S54 × (Int × Int)) (w : World) (g : Nat) (base : Nat) (ok : Nat → Prop) (hl : q.1.length ≤ 1000000000) (hq : TK.M w base ok q [.pointer (some ⟨g, 0, none⟩)]) :
    Calls Try.prog 73 #[.pointer (some ⟨g, 0, none⟩)] w fun e w' => ∃ A1 c1, e = .returned (.slice A1 (fixedL ++ q.1).length c1) ∧ k54.R 54 w' w.heap.size (fun k => w.heap.size ≤ k) (.slice A1 (fixedL ++ q.1).length c1) (fixedL ++ q.1) ∧ Below w.heap.size w w' := by
  have HA := Aside0.mk (table_always.calls fixedL w fixed_f)
  have HW : ∀ w1, Below w.heap.size w w1 → Aside0 (Calls Try.prog 28 #[.pointer (some ⟨g, 0, none⟩)] w1 fun e w' => ∃ A1 c1, e = .returned (.slice A1 q.1.length c1) ∧ k54.R 54 w' w1.heap.size (fun k => w1.heap.size ≤ k) (.slice A1 q.1.length c1) q.1 ∧ Below w1.heap.size w1 w') :=
    fun w1 hb => ⟨all_calls q w1 g base ok hl (Kd.M_below hq hb)⟩
  have HL := Aside0.mk hl
  clear hq hl
  go_enter Try.func73, Try.ntmps73
  go_wp2_with (first
    | (go_at_call 93; refine HA.out.mono ?_; rintro e w1 ⟨v0, rfl, hR1, hB1⟩; have HR1 := Aside0.mk hR1; have HB1 := Aside0.mk hB1; clear hR1 hB1)
    | (go_at_call 28; refine (HW _ HB1.out).out.mono ?_; rintro e w2 ⟨A1, c1, rfl, hR2, hB2⟩; have HR2 := Aside0.mk hR2; have HB2 := Aside0.mk hB2; clear hR2 hB2)
    | ((with_reducible refine gate_builtin (b := .append) (xs := #[.tmp 3, .tmp 5]) rfl ?_); at_builtin; refine Kd.R_append_rows k54 (Rr := fun x cs => cs = [Value.string x.f0, .string x.f1]) (w0 := w) w.heap.size rfl (.tmp 3) (.tmp 5) 50 54 (.agg #[.string ⟨#[]⟩, .string ⟨#[]⟩]) 32 rfl Try.underlying50 info54 rfl (by decide) (by omega) v0 fixedL q.1 A1 q.1.length c1 (fun k => w.heap.size ≤ k) (fun _ => False) rfl rfl ?aO ?aR (fun x cs h => by rw [h]; exact k54_mkM _ _ _ x) (fun _ e => e.elim) ?aF ?aB ?aS ?aL ?_; (case aO => exact Kd.R_mono (Kd.R_below (Kd.R_bound HR1.out) HB2.out) (fun k hk => hk.2.1)); (case aR => exact ReadsRow.imp_ (Kd.R_reads' HR2.out).2.2 (Below.refl _ _) (fun _ _ h => k54_open h)); (case aF => exact (fun k hk => Nat.le_trans (Nat.le_trans HB1.out.size HB2.out.size) hk)); (case aB => exact below_step HB1.out HB2.out); (case aS => exact Nat.le_trans HB1.out.size HB2.out.size); (case aL => have := HL.out; rw [fixed_len]; omega); intro v1 w3 hR3 hB3 _ _; obtain ⟨A3, c3, rfl⟩ := Kd.R_slice hR3; have HR3 := Aside0.mk hR3; clear hR3))
  go_ret
  exact ⟨A3, c3, by rw [List.length_append]; rfl, HR3.out, hB3⟩
end Go.Proofs.Ytohphkdemonlkaa.Tw
