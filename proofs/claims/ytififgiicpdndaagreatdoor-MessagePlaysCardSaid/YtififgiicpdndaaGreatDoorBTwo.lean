/- Merged: BkK BkL. -/
import Derived.Test.YtififgiicpdndaaGreatDoorBOne
/- The Book, in short: which blocks are none of its. -/
namespace Go.Proofs.YtififgiicpdndaaGreatDoor.Bk
open Go.RowKit Go.Proofs.YtififgiicpdndaaGreatDoor.XMi Go.Proofs.YtififgiicpdndaaGreatDoorW.PrintWords Go.Proofs.YtififgiicpdndaaGreatDoorW.PrintLast Go.Proofs.YtififgiicpdndaaGreatDoorW.PrintMore Go.Proofs.YtififgiicpdndaaGreatDoor.Ob
theorem Book.trim {w : World} {ρ : Nat → Nat} {b : Nat} (h : Book w ρ b) : Book w (fun k => if k < w.heap.size then ρ k else 0) b := by
  obtain ⟨O, oc, P, pc, rs, us, h1, h2, h3, h4⟩ := h
  have e : ∀ k, k < w.heap.size → (if k < w.heap.size then ρ k else 0) = ρ k := fun k hk => if_pos hk
  exact ⟨O, oc, P, pc, rs, us, ⟨h1.hb, (e b (blk_lt h1.hb)).trans h1.rb, h1.so, fun g q => (e g (h1.so.lt g q)).trans (h1.ro g q), h1.sp, fun g q => (e g (h1.sp.lt g q)).trans (h1.rp g q)⟩, h2.roles fun k hk _ => e k hk, h3.roles fun k hk _ => e k hk, h4⟩
/-- The Book at b: nothing of it lies below n; the blocks z are none of its; what lies in the blocks y it leaves alone till the end. -/
def Kp (n : Nat) (z y : Nat → Prop) (w : World) (b : Nat) : Prop := ∃ ρ : Nat → Nat, Book w ρ b ∧ (∀ k, k < n → ρ k = 0) ∧ (∀ k, z k → k < w.heap.size ∧ ρ k = 0) ∧ ∀ k, y k → k < w.heap.size ∧ (ρ k = 0 ∨ 5 ≤ ρ k)
section
variable {n b : Nat} {z y : Nat → Prop} {w w' : World}
theorem Kp.mono {z' y' : Nat → Prop} (h : Kp n z y w b) (hz : ∀ k, z' k → z k) (hy : ∀ k, y' k → y k) : Kp n z' y' w b := by
  obtain ⟨ρ, h1, h2, h3, h4⟩ := h
  exact ⟨ρ, h1, h2, fun k hk => h3 k (hz k hk), fun k hk => h4 k (hy k hk)⟩
theorem Kp.le (h : Kp n z y w b) : n ≤ w.heap.size := by
  obtain ⟨ρ, h1, h2, _⟩ := h
  have h5 := h1.role
  have h6 := h1.lt
  rcases Nat.lt_or_ge b n with h7 | h7
  · rw [h2 b h7] at h5; cases h5
  · omega
theorem Kp.stay {ok : Nat → Prop} (h : Kp n z y w b) (hs : Stay ok w w') (hok : ∀ k, k < w.heap.size → ok k → k < n ∨ z k) : Kp n (fun k => z k ∨ (w.heap.size ≤ k ∧ k < w'.heap.size)) y w' b := by
  have hle := h.le
  obtain ⟨ρ, h1, h2, h3, h4⟩ := h
  have hsz := hs.size
  refine ⟨fun k => if k < w.heap.size then ρ k else 0, h1.trim.keep fun k hk hl => hs.block k hl fun e => hk ?_, fun k hk => ?_, fun k hk => ?_, fun k hk => ?_⟩
  · show (if k < w.heap.size then ρ k else 0) = 0
    rw [if_pos hl]
    rcases hok k hl e with h5 | h5
    · exact h2 k h5
    · exact (h3 k h5).2
  · show (if k < w.heap.size then ρ k else 0) = 0
    rw [if_pos (by omega)]
    exact h2 k hk
  · show _ ∧ (if k < w.heap.size then ρ k else 0) = 0
    rcases hk with hk | ⟨h5, h6⟩
    · have := h3 k hk
      rw [if_pos this.1]
      exact ⟨by omega, this.2⟩
    · rw [if_neg (by omega)]
      exact ⟨h6, rfl⟩
  · have := h4 k hk
    show _ ∧ ((if k < w.heap.size then ρ k else 0) = 0 ∨ 5 ≤ (if k < w.heap.size then ρ k else 0))
    rw [if_pos this.1]
    exact ⟨by omega, this.2⟩
theorem Kp.below (h : Kp n z y w b) (hb : Below w.heap.size w w') : Kp n (fun k => z k ∨ (w.heap.size ≤ k ∧ k < w'.heap.size)) y w' b :=
  h.stay (Stay.of_below (ok := fun _ => False) hb) (fun _ _ e => e.elim)
theorem Kp.below' (h : Kp n z y w b) (hb : Below w.heap.size w w') : Kp n z y w' b := (h.below hb).mono (fun _ hk => .inl hk) (fun _ hk => hk)
theorem Kp.alone (h : Kp n z y w b) (hs : Stay (fun k => k < n ∨ z k) w w') : Kp n (fun k => z k ∨ (w.heap.size ≤ k ∧ k < w'.heap.size)) y w' b := h.stay hs (fun _ _ e => e)
theorem Kp.new (w : World) (n : Nat) (h : n ≤ w.heap.size) : Kp n (fun k => k < w.heap.size) (fun _ => False) (w.alloc (.cells #[.slice none 0 0, .slice none 0 0, .slice none 0 0, .slice none 0 0, .slice none 0 0, .slice none 0 0, .slice none 0 0, .slice none 0 0, .slice none 0 0, .slice none 0 0] 38)) w.heap.size :=
  ⟨_, book_new w, fun k hk => if_neg (by omega), fun k hk => ⟨by simp; omega, if_neg (by omega)⟩, fun k hk => hk.elim⟩
theorem Kp.fields (h : Kp n z y w b) {A : Option Addr} {l : List S61} {c : Nat} (hF : FR w A l.length c l) (hl : l.length ≤ 1000000) (hA : ∀ g : Nat, A = some ⟨g, 0, none⟩ → n ≤ g ∧ z g) :
    Calls Tryz.prog 10 #[.pointer (some ⟨b, 0, none⟩), .slice A l.length c] w fun e w' => e = .returned (.tuple #[]) ∧ Stay (fun k => n ≤ k ∧ ¬ z k ∧ ¬ y k) w w' ∧ Kp n (fun k => z k ∧ A ≠ some ⟨k, 0, none⟩) (fun k => y k ∨ z k) w' b := by
  have hle := h.le
  obtain ⟨ρ, h1, h2, h3, h4⟩ := h
  refine (fields_c h1 hF hl fun g e => (h3 g (hA g e).2).2).mono ?_
  rintro e w' ⟨rfl, hs, ρ', k1, k2, k3⟩
  have hsz := hs.size
  refine ⟨rfl, hs.mono fun k hk => ⟨?_, fun e => ?_, fun e => ?_⟩, ρ', k1, fun k hk => ?_, fun k hk => ?_, fun k hk => ?_⟩
  · rcases Nat.lt_or_ge k n with h5 | h5
    · have := h2 k h5; omega
    · exact h5
  · have := (h3 k e).2; omega
  · have := (h4 k e).2; omega
  · rw [k2 k (by omega) (fun e => by have := (hA k e).1; omega)]
    exact h2 k hk
  · obtain ⟨h5, h6⟩ := h3 k hk.1
    exact ⟨by omega, (k2 k h5 hk.2).trans h6⟩
  · have hk2 : k < w.heap.size ∧ (ρ k = 0 ∨ 5 ≤ ρ k) := by
      rcases hk with hk | hk
      · exact h4 k hk
      · exact ⟨(h3 k hk).1, .inl (h3 k hk).2⟩
    refine ⟨by omega, ?_⟩
    by_cases e : A = some ⟨k, 0, none⟩
    · exact k3 k e
    · rw [k2 k hk2.1 e]
      exact hk2.2
theorem Kp.apart (h : Kp n z y w b) : Calls Tryz.prog 16 #[.pointer (some ⟨b, 0, none⟩)] w fun e w' => e = .returned (.bool true) ∧ Stay (fun k => n ≤ k) w w' := by
  obtain ⟨ρ, h1, h2, _⟩ := h
  refine (apart_c h1).mono ?_
  rintro e w' ⟨rfl, hs⟩
  exact ⟨rfl, hs.mono fun k hk => Nat.le_of_not_lt fun h => hk (h2 k h)⟩
end
end Go.Proofs.YtififgiicpdndaaGreatDoor.Bk
/- Lists with room behind them: LentFields, StaysFields. -/
namespace Go.Proofs.YtififgiicpdndaaGreatDoor.Bk
open Go.RowKit Go.Proofs.YtififgiicpdndaaGreatDoor.XMi Go.Proofs.YtififgiicpdndaaGreatDoorW.PrintWords Go.Proofs.YtififgiicpdndaaGreatDoorW.PrintLast Go.Proofs.YtififgiicpdndaaGreatDoorW.PrintMore Go.Proofs.YtififgiicpdndaaGreatDoor.Ob
theorem cut_cap (A : Option Addr) (n c j : Nat) (hj : j ≤ c) (W : World) : (Instr.slice 22 (.slice A n c) none (some (.int .i64 (j : Int))) none).run Tryz.prog W = .ok (.slice A j c) W := by
  obtain ⟨i0, hi0, _, hsz0, _⟩ := info_parts infoFd
  have hel : Tryz.prog.elem 22 = 61 := by simp [Program.elem, Tryz.underlying22]
  have hu : Tryz.prog.underlying 22 = some (.slice (Tryz.prog.elem 22)) := by rw [hel]; exact Tryz.underlying22
  have ha : (A.map fun x => x.add 0) = A := by cases A <;> simp [Addr.add]
  rw [run_slice_h W 22 A n c hu .i64 (j : Int) (Int.natCast_nonneg _) (by omega), hel]
  simp [sizeOf, typeInfo, hi0, sliced, Result.andThen, ha]
def markF : S61 := ⟨⟨#[109, 97, 114, 107]⟩, ⟨#[]⟩⟩
theorem mark_C (w : World) : k61.C (w.alloc (.cells #[.string ⟨#[109, 97, 114, 107]⟩, .string ⟨#[]⟩] 61)) (some ⟨w.heap.size, 0, none⟩) 1 [markF] := flds_of (heap_alloc_new w _) [] [markF] [] rfl (by decide)
set_option maxHeartbeats 1600000 in
set_option maxRecDepth 20000 in
theorem lent_c {w : World} {A : Option Addr} {l : List S61} {c : Nat} (hC : k61.C w A l.length l) (hl : l.length ≤ 900000) : Calls Tryz.prog 19 #[.slice A l.length c] w fun e w' => ∃ g c' : Nat, e = .returned (.slice (some ⟨g, 0, none⟩) l.length c') ∧ FR w' (some ⟨g, 0, none⟩) (l.length + 1) c' (l ++ [markF]) ∧ w.heap.size ≤ g ∧ Below w.heap.size w w' := by
  have HCp := Aside0.mk (copy_c (c := c) hC (by omega))
  have HL := Aside0.mk hl
  clear hC hl
  go_enter Tryz.func19, Tryz.ntmps19
  go_wp2_with (first
    | (go_at_call 37; refine HCp.out.mono ?_; rintro e w1 ⟨A1, c1, rfl, hF, hA, hb⟩; have HF1 := Aside0.mk hF; have HA1 := Aside0.mk hA; have HB1 := Aside0.mk hb; clear hF hA hb HCp)
    | ((with_reducible refine gate_builtin (b := .append) (xs := #[.tmp 4, .tmp 6]) rfl ?_); at_builtin; obtain ⟨A2, c2, w2, hr, hF, hw⟩ := app_run (w := w1.alloc (.cells #[.string ⟨#[109, 97, 114, 107]⟩, .string ⟨#[]⟩] 61)) (d := 1) 22 (HF1.out.keep fun g e => heap_alloc_old w1 _ (HF1.out.lt g e)) (mark_C w1) (by have := HL.out; simp; omega); refine list_app_of rfl (.tmp 4) (.tmp 6) rfl hr ?_; have hcut := fun W => cut_cap A2 (l.length + 1) c2 l.length (by have := hF.room; omega) W; have HF2 := Aside0.mk hF; have HW2 := Aside0.mk hw; clear hr hF hw))
  go_ret
  have hBa : Below w.heap.size w (w1.alloc (.cells #[.string ⟨#[109, 97, 114, 107]⟩, .string ⟨#[]⟩] 61)) := below_alloc HB1.out _
  rcases HF2.out.cases with ⟨_, _, h0, _⟩ | ⟨g, cur, rfl, _⟩
  · omega
  · rcases HW2.out with ⟨e2, hs⟩ | ⟨e2, hb⟩
    · exact ⟨g, c2, rfl, HF2.out, HA1.out g e2.symm, hs.below hBa (fun k e => HA1.out k e)⟩
    · injection e2 with e2
      injection e2 with e2
      subst e2
      exact ⟨_, c2, rfl, HF2.out, hBa.size, below_step hBa hb⟩
set_option maxHeartbeats 1600000 in
set_option maxRecDepth 20000 in
theorem stays_c {w : World} {g c : Nat} {B : Option Addr} {l : List S61} {d : Nat} (hF : FR w (some ⟨g, 0, none⟩) (l.length + 1) c (l ++ [markF])) (hC : k61.C w B l.length l) (hd : l.length ≤ d) (hl : l.length ≤ 900000) : Calls Tryz.prog 24 #[.slice (some ⟨g, 0, none⟩) l.length c, .slice B l.length d] w fun e w' => e = .returned (.bool true) ∧ Below w.heap.size w w' := by
  have hcr := hF.take l.length (by omega)
  rw [List.take_left] at hcr
  have hroom := hF.room
  have HS := Aside0.mk (same_c (c := c) (hcr.c (by omega)) (by omega) hC hd (by omega))
  have HF := Aside0.mk hF
  have HL := Aside0.mk hl
  have hcut := fun W => cut_cap (some ⟨g, 0, none⟩) l.length c (l.length + 1) hroom W
  have hcut2 : ∀ W : World, (Instr.slice 22 (.slice (some ⟨g, 0, none⟩) l.length c) none (some (.int .i64 ((l.length : Int) + 1))) none).run Tryz.prog W = .ok (.slice (some ⟨g, 0, none⟩) (l.length + 1) c) W := fun W => by
    have := hcut W
    rw [Int.natCast_add] at this
    exact this
  have hw : wrap64 ((l.length : Int) + 1) = (l.length : Int) + 1 := (w64_in ((l.length : Int) + 1) (by omega))
  have p1 : (0 : Int) ≤ (l.length : Int) := by omega
  have p2 : (l.length : Int) < (l.length : Int) + 1 := by omega
  have p3 : (l.length : Int) < ((l.length + 1 : Nat) : Int) := by omega
  clear hF hC hd hl hcr hroom
  go_enter Tryz.func24, Tryz.ntmps24
  go_wp2_with (first
    | (go_at_call 11; refine HS.out.mono ?_; rintro e w1 ⟨rfl, hb⟩; obtain ⟨g2, e2, _, m0, _, _⟩ := fr_elem (HF.out.keep (w' := w1) fun g' e => hb.block g' (HF.out.lt g' e)) l.length markF (by simp); injection e2 with e2; injection e2 with e2; subst e2; have m1 : w1.cell? ⟨g, l.length * 2, none⟩ = some (.string ⟨#[109, 97, 114, 107]⟩) := m0; have HB := Aside0.mk hb; clear hb HS m0))
  go_ret
  exact ⟨rfl, HB.out⟩
end Go.Proofs.YtififgiicpdndaaGreatDoor.Bk
