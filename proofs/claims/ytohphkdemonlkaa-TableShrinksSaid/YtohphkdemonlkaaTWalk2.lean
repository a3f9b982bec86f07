/- Contracts of the table's methods: shrink. -/
import Derived.Test.YtohphkdemonlkaaTWalk1
namespace Go.Proofs.Ytohphkdemonlkaa.Tw
open Go.RowKit Go.Lib Go.Proofs.Ytohphkdemonlkaa.XQt Go.Proofs.YtohphkdemonlkaaW.PrintWords Go.Proofs.YtohphkdemonlkaaW.PrintLast Go.Proofs.YtohphkdemonlkaaW.PrintMore Go.Proofs.Ytohphkdemonlkaa.Ob

/-- How many stay, of the first n, where so much may be used. -/
def shr (most : Int) (l : List S54) : Nat → Nat
  | 0 => 0
  | n + 1 => if total (l.take (n + 1)) > most then shr most l n else n + 1
theorem shr_le (most : Int) (l : List S54) : ∀ n, shr most l n ≤ n
  | 0 => Nat.le_refl _
  | n + 1 => by
    unfold shr
    split
    · exact Nat.le_succ_of_le (shr_le most l n)
    · exact Nat.le_refl _
theorem total_take_succ (l : List S54) (m : Nat) (hm : m < l.length) : total (l.take (m + 1)) = total (l.take m) + cost l[m] := by
  rw [List.take_succ_eq_append_getElem hm, total_append]
  simp [total]
theorem total_take_le (l : List S54) (m : Nat) : total (l.take m) ≤ total l := by
  have h := total_append (l.take m) (l.drop m)
  rw [List.take_append_drop] at h
  have := total_nonneg (l.drop m)
  omega
theorem stay_one {w w1 w2 : World} {g : Nat} (h : Stay (fun k => k = g) w w1) (hb : Below w1.heap.size w1 w2) : Stay (fun k => k = g) w w2 :=
  h.trans (Stay.of_below (ok := fun _ => False) hb) (fun _ _ e => e.elim)

set_option maxHeartbeats 1600000 in
theorem shrink_raw (l : List S54) (s most : Int) (w : World) (g : Nat) (base : Nat) (ok : Nat → Prop) (A : Option Addr) (c : Nat) (hl : total l ≤ 4611686018427387904)
    (hg : w.heap[g]? = some (.cells #[.slice A l.length c, .int .i64 s, .int .i64 (total l)] 96 (0, 0))) (hc : l.length ≤ c) (hQ : k54.R 54 w base (fun k => ok k ∧ k ≠ g) (.slice A l.length c) l) :
    Calls Try.prog 70 #[.pointer (some ⟨g, 0, none⟩), .int .i64 most] w fun e w' => e = .returned (.tuple #[]) ∧
      w'.heap[g]? = some (.cells #[.slice A (shr most l l.length) c, .int .i64 s, .int .i64 (total (l.take (shr most l l.length)))] 96 (0, 0)) ∧ Stay (fun k => k = g) w w' := by
  have HG := Aside0.mk hg
  have HQ := Aside0.mk hQ
  have HL := Aside0.mk hl
  have HC := Aside0.mk hc
  clear hg hc hQ hl
  go_enter Try.func70, Try.ntmps70
  go_wp2
  go_loopg [4] l.length (fun kq v4 w' => ∃ n : Nat, Aside0 (n ≤ l.length ∧ n ≤ kq ∧ shr most l n = shr most l l.length ∧ Stay (fun k => k = g) w w') ∧ w'.heap[g]? = some (.cells #[.slice A n c, .int .i64 s, .int .i64 (total (l.take n))] 96 (0, 0)))
  case atStart => exact ⟨l.length, ⟨Nat.le_refl _, Nat.le_refl _, rfl, Stay.refl _ _⟩, by rw [List.take_length]; exact HG.out⟩
  case round =>
    obtain ⟨n, HJ, hb⟩ := hrel
    have h0 : wr.cell? ⟨g, 0, none⟩ = some (.slice A n c) := by simp [World.cell?, hb]
    have h2 : wr.cell? ⟨g, 2, none⟩ = some (.int .i64 (total (l.take n))) := by simp [World.cell?, hb]
    have HB := Aside0.mk hb
    clear hb
    by_cases hm : total (l.take n) > most
    · cases n with
      | zero =>
        rw [List.take_zero] at h2 HB hm
        have d1 : decide (total [] > most) = true := decide_eq_true hm
        clear hm
        go_wp2
        first | go_end0 | ((try simp only [Exit.inBlock, Exit.then]); refine bodyPost_ret (results_none rfl _ _ _) rfl ?_)
        have hn : shr most l l.length = 0 := HJ.out.2.2.1.symm
        rw [hn]
        exact ⟨rfl, HB.out, HJ.out.2.2.2⟩
      | succ m =>
        have d1 : decide (total (l.take (m + 1)) > most) = true := decide_eq_true hm
        have hml : m < l.length := HJ.out.1
        have hgl := blk_lt HB.out
        have hR := Kd.R_step HQ.out (fun k hk hlt => HJ.out.2.2.2.block k hlt hk.2)
        obtain ⟨ad, hA, e0, e1⟩ := at_T54 (Kd.R_reads' hR).2.2 (m : Int) (by omega) (by omega)
        subst hA
        rw [Int.toNat_natCast] at e0 e1
        have hrd : rd_T54 l (m : Int) = l[m] := by simp [rd_T54, hml]
        rw [hrd] at e0 e1
        have htt := total_take_succ l m hml
        clear hrd
        generalize l[m] = x at e0 e1 htt
        have htl := total_take_le l (m + 1)
        have htn := total_nonneg (l.take m)
        have hcp := cost_pos x
        have HK := Aside0.mk (And.intro htt (And.intro htl (And.intro htn hcp)))
        have hsh : shr most l m = shr most l (m + 1) := by rw [shr, if_pos hm]
        have HSH := Aside0.mk hsh
        have hcs := cost_calls x (by have := HL.out; omega)
        have p1 : (0 : Int) ≤ (m : Int) := by omega
        have p2 : (m : Int) < (m : Int) + 1 := by omega
        have p3 : (m : Int) ≤ (c : Int) := by have := HC.out; omega
        have hw : wrap64 (m : Int) = (m : Int) := w64_in (m : Int) (by have := HL.out; have := total_nonneg l; omega)
        have HW2 : Aside0 (IntKind.i64.wrap (total (l.take (m + 1)) - cost x) = total (l.take m)) := ⟨by rw [IntKind.wrap_i64, htt]; have := HL.out; have := HK.out; omega⟩
        have mixed : Try.prog.follows Departure.mixedOrders = true := by kernel_rfl
        clear hm hml hR htl htn hcp hsh htt
        go_wp2
        go_region_with (first
          | (go_at_call 30; refine (hcs _).mono ?_; rintro e w2 ⟨rfl, hb1⟩; have hbk := (hb1.block g hgl).trans HB.out; have k0 : w2.cell? ⟨g, 0, none⟩ = some (.slice (some ad) (m + 1) c) := (by simp [World.cell?, hbk]); have k2 : w2.cell? ⟨g, 2, none⟩ = some (.int .i64 (total (l.take (m + 1)))) := (by simp [World.cell?, hbk]); have f0 : ∀ j, w2.frozen? ⟨g, j, none⟩ = false := (fun j => by simp [World.frozen?, hbk]); have HBK := Aside0.mk hbk; have HB1 := Aside0.mk hb1; clear hb1 hbk))
        all_goals
          rw [HW2.out]
          go_wp2
          go_roundg m
        all_goals first
          | (have := HJ.out; omega)
          | exact ⟨m, ⟨by have := HJ.out.1; omega, Nat.le_refl _, HSH.out.trans HJ.out.2.2.1, Stay.setCell (Stay.setCell (stay_one (w1 := wr.drew) (Stay.drewN HJ.out.2.2.2 1) HB1.out) (p := ⟨g, 2, none⟩) (.inl (Eq.refl g)) _) (p := ⟨g, 0, none⟩) (.inl (Eq.refl g)) _⟩, blk_put (blk_put HBK.out 2 _ rfl) 0 _ rfl⟩
    · have d1 : decide (total (l.take n) > most) = false := decide_eq_false hm
      have hn : shr most l n = n := by
        cases n with
        | zero => rfl
        | succ n => rw [shr, if_neg hm]
      have HN := Aside0.mk hn
      clear hm hn
      go_wp2
      first | go_end0 | ((try simp only [Exit.inBlock, Exit.then]); refine bodyPost_ret (results_none rfl _ _ _) rfl ?_)
      have hn : shr most l l.length = n := HJ.out.2.2.1.symm.trans HN.out
      rw [hn]
      exact ⟨rfl, HB.out, HJ.out.2.2.2⟩
theorem shrink_calls (l : List S54) (s most : Int) (w : World) (g : Nat) (base : Nat) (ok : Nat → Prop) (hl : total l ≤ 4611686018427387904)
    (hq : TK.M w base ok (l, s, total l) [.pointer (some ⟨g, 0, none⟩)]) :
    Calls Try.prog 70 #[.pointer (some ⟨g, 0, none⟩), .int .i64 most] w fun e w' => e = .returned (.tuple #[]) ∧
      TK.M w' base ok (l.take (shr most l l.length), s, total (l.take (shr most l l.length))) [.pointer (some ⟨g, 0, none⟩)] ∧ Stay (fun k => k = g) w w' := by
  obtain ⟨g', A, c, he, hbg, hok, hg, hc, hQ⟩ := tk_open hq
  obtain rfl : g = g' := by simpa using he
  refine (shrink_raw l s most w g base ok A c hl hg hc hQ).mono ?_
  rintro e w' ⟨rfl, hb, hs⟩
  exact ⟨rfl, tk_mk hbg hok hb (Kd.R_take (Kd.R_step hQ (fun k hk hlt => hs.block k hlt hk.2)) (shr_le _ _ _)), hs⟩
end Go.Proofs.Ytohphkdemonlkaa.Tw
