/- Merged: BkK BkL BkT BkU BkV. -/
import Derived.Test.YtififgiicpdndaaGreatDoorBOne
import Derived.Test.YtififgiicpdndaaGreatDoorMTwo
import Derived.Deep.RegionLaw
/- The Book, in short: which blocks are none of its. -/
namespace Go.Proofs.YtififgiicpdndaaGreatDoor.Bk
open Go.RowKit Go.Proofs.YtififgiicpdndaaGreatDoor.XMi Go.Proofs.YtififgiicpdndaaGreatDoorW.PrintWords Go.Proofs.YtififgiicpdndaaGreatDoorW.PrintLast Go.Proofs.YtififgiicpdndaaGreatDoorW.PrintMore Go.Proofs.YtififgiicpdndaaGreatDoor.Ob
theorem Book.trim {w : World} {ρ : Nat → Nat} {b : Nat} (h : Book w ρ b) : Book w (fun k => if k < w.heap.size then ρ k else 0) b := by
  obtain ⟨O, oc, P, pc, rs, us, h1, h2, h3, h4⟩ := h
  have e : ∀ k, k < w.heap.size → (if k < w.heap.size then ρ k else 0) = ρ k := fun k hk => if_pos hk
  exact ⟨O, oc, P, pc, rs, us, ⟨h1.hb, (e b (blk_lt h1.hb)).trans h1.rb, h1.so, fun g q => (e g (h1.so.lt g q)).trans (h1.ro g q), h1.sp, fun g q => (e g (h1.sp.lt g q)).trans (h1.rp g q)⟩, h2.roles fun k hk _ => e k hk, h3.roles fun k hk _ => e k hk, h4⟩
/-- The Book at b: nothing of it lies below n; the blocks z are none of its; what lies in the blocks y it leaves alone till the end. -/
def Kp (n : Nat) (z y : Nat → Prop) (w : World) (b : Nat) : Prop := ∃ ρ : Nat → Nat, Book w ρ b ∧ (∀ k, k < n → ρ k = 0) ∧ (∀ k, z k → k < w.heap.size ∧ ρ k = 0) ∧ ∀ k, y k → k < w.heap.size ∧ (ρ k = 0 ∨ 5 ≤ ρ k)
section
variable {n b : Nat} {z y : Nat → Prop} {w w' : World}
theorem Kp.mono {z' y' : Nat → Prop} (h : Kp n z y w b) (hz : ∀ k, z' k → z k) (hy : ∀ k, y' k → y k) : Kp n z' y' w b := by
  obtain ⟨ρ, h1, h2, h3, h4⟩ := h
  exact ⟨ρ, h1, h2, fun k hk => h3 k (hz k hk), fun k hk => h4 k (hy k hk)⟩
theorem Kp.le (h : Kp n z y w b) : n ≤ w.heap.size := by
  obtain ⟨ρ, h1, h2, _⟩ := h
  have h5 := h1.role
  have h6 := h1.lt
  rcases Nat.lt_or_ge b n with h7 | h7
  · rw [h2 b h7] at h5; cases h5
  · omega
theorem Kp.stay {ok : Nat → Prop} (h : Kp n z y w b) (hs : Stay ok w w') (hok : ∀ k, k < w.heap.size → ok k → k < n ∨ z k) : Kp n (fun k => z k ∨ (w.heap.size ≤ k ∧ k < w'.heap.size)) y w' b := by
  have hle := h.le
  obtain ⟨ρ, h1, h2, h3, h4⟩ := h
  have hsz := hs.size
  refine ⟨fun k => if k < w.heap.size then ρ k else 0, h1.trim.keep fun k hk hl => hs.block k hl fun e => hk ?_, fun k hk => ?_, fun k hk => ?_, fun k hk => ?_⟩
  · show (if k < w.heap.size then ρ k else 0) = 0
    rw [if_pos hl]
    rcases hok k hl e with h5 | h5
    · exact h2 k h5
    · exact (h3 k h5).2
  · show (if k < w.heap.size then ρ k else 0) = 0
    rw [if_pos (by omega)]
    exact h2 k hk
  · show _ ∧ (if k < w.heap.size then ρ k else 0) = 0
    rcases hk with hk | ⟨h5, h6⟩
    · have := h3 k hk
      rw [if_pos this.1]
      exact ⟨by omega, this.2⟩
    · rw [if_neg (by omega)]
      exact ⟨h6, rfl⟩
  · have := h4 k hk
    show _ ∧ ((if k < w.heap.size then ρ k else 0) = 0 ∨ 5 ≤ (if k < w.heap.size then ρ k else 0))
    rw [if_pos this.1]
    exact ⟨by omega, this.2⟩
theorem Kp.below (h : Kp n z y w b) (hb : Below w.heap.size w w') : Kp n (fun k => z k ∨ (w.heap.size ≤ k ∧ k < w'.heap.size)) y w' b :=
  h.stay (Stay.of_below (ok := fun _ => False) hb) (fun _ _ e => e.elim)
theorem Kp.below' (h : Kp n z y w b) (hb : Below w.heap.size w w') : Kp n z y w' b := (h.below hb).mono (fun _ hk => .inl hk) (fun _ hk => hk)
theorem Kp.alone (h : Kp n z y w b) (hs : Stay (fun k => k < n ∨ z k) w w') : Kp n (fun k => z k ∨ (w.heap.size ≤ k ∧ k < w'.heap.size)) y w' b := h.stay hs (fun _ _ e => e)
theorem Kp.new (w : World) (n : Nat) (h : n ≤ w.heap.size) : Kp n (fun k => k < w.heap.size) (fun _ => False) (w.alloc (.cells #[.slice none 0 0, .slice none 0 0, .slice none 0 0, .slice none 0 0, .slice none 0 0, .slice none 0 0, .slice none 0 0, .slice none 0 0, .slice none 0 0, .slice none 0 0] 38)) w.heap.size :=
  ⟨_, book_new w, fun k hk => if_neg (by omega), fun k hk => ⟨by simp; omega, if_neg (by omega)⟩, fun k hk => hk.elim⟩
theorem Kp.fields (h : Kp n z y w b) {A : Option Addr} {l : List S61} {c : Nat} (hF : FR w A l.length c l) (hl : l.length ≤ 1000000) (hA : ∀ g : Nat, A = some ⟨g, 0, none⟩ → n ≤ g ∧ z g) :
    Calls Tryz.prog 10 #[.pointer (some ⟨b, 0, none⟩), .slice A l.length c] w fun e w' => e = .returned (.tuple #[]) ∧ Stay (fun k => n ≤ k ∧ ¬ z k ∧ ¬ y k) w w' ∧ Kp n (fun k => z k ∧ A ≠ some ⟨k, 0, none⟩) (fun k => y k ∨ z k) w' b := by
  have hle := h.le
  obtain ⟨ρ, h1, h2, h3, h4⟩ := h
  refine (fields_c h1 hF hl fun g e => (h3 g (hA g e).2).2).mono ?_
  rintro e w' ⟨rfl, hs, ρ', k1, k2, k3⟩
  have hsz := hs.size
  refine ⟨rfl, hs.mono fun k hk => ⟨?_, fun e => ?_, fun e => ?_⟩, ρ', k1, fun k hk => ?_, fun k hk => ?_, fun k hk => ?_⟩
  · rcases Nat.lt_or_ge k n with h5 | h5
    · have := h2 k h5; omega
    · exact h5
  · have := (h3 k e).2; omega
  · have := (h4 k e).2; omega
  · rw [k2 k (by omega) (fun e => by have := (hA k e).1; omega)]
    exact h2 k hk
  · obtain ⟨h5, h6⟩ := h3 k hk.1
    exact ⟨by omega, (k2 k h5 hk.2).trans h6⟩
  · have hk2 : k < w.heap.size ∧ (ρ k = 0 ∨ 5 ≤ ρ k) := by
      rcases hk with hk | hk
      · exact h4 k hk
      · exact ⟨(h3 k hk).1, .inl (h3 k hk).2⟩
    refine ⟨by omega, ?_⟩
    by_cases e : A = some ⟨k, 0, none⟩
    · exact k3 k e
    · rw [k2 k hk2.1 e]
      exact hk2.2
theorem Kp.apart (h : Kp n z y w b) : Calls Tryz.prog 16 #[.pointer (some ⟨b, 0, none⟩)] w fun e w' => e = .returned (.bool true) ∧ Stay (fun k => n ≤ k) w w' := by
  obtain ⟨ρ, h1, h2, _⟩ := h
  refine (apart_c h1).mono ?_
  rintro e w' ⟨rfl, hs⟩
  exact ⟨rfl, hs.mono fun k hk => Nat.le_of_not_lt fun h => hk (h2 k h)⟩
end
end Go.Proofs.YtififgiicpdndaaGreatDoor.Bk
/- Lists with room behind them: LentFields, StaysFields. -/
namespace Go.Proofs.YtififgiicpdndaaGreatDoor.Bk
open Go.RowKit Go.Proofs.YtififgiicpdndaaGreatDoor.XMi Go.Proofs.YtififgiicpdndaaGreatDoorW.PrintWords Go.Proofs.YtififgiicpdndaaGreatDoorW.PrintLast Go.Proofs.YtififgiicpdndaaGreatDoorW.PrintMore Go.Proofs.YtififgiicpdndaaGreatDoor.Ob
theorem cut_cap (A : Option Addr) (n c j : Nat) (hj : j ≤ c) (W : World) : (Instr.slice 22 (.slice A n c) none (some (.int .i64 (j : Int))) none).run Tryz.prog W = .ok (.slice A j c) W := by
  obtain ⟨i0, hi0, _, hsz0, _⟩ := info_parts infoFd
  have hel : Tryz.prog.elem 22 = 61 := by simp [Program.elem, Tryz.underlying22]
  have hu : Tryz.prog.underlying 22 = some (.slice (Tryz.prog.elem 22)) := by rw [hel]; exact Tryz.underlying22
  have ha : (A.map fun x => x.add 0) = A := by cases A <;> simp [Addr.add]
  rw [run_slice_h W 22 A n c hu .i64 (j : Int) (Int.natCast_nonneg _) (by omega), hel]
  simp [sizeOf, typeInfo, hi0, sliced, Result.andThen, ha]
def markF : S61 := ⟨⟨#[109, 97, 114, 107]⟩, ⟨#[]⟩⟩
theorem mark_C (w : World) : k61.C (w.alloc (.cells #[.string ⟨#[109, 97, 114, 107]⟩, .string ⟨#[]⟩] 61)) (some ⟨w.heap.size, 0, none⟩) 1 [markF] := flds_of (heap_alloc_new w _) [] [markF] [] rfl (by decide)
set_option maxHeartbeats 1600000 in
set_option maxRecDepth 20000 in
theorem lent_c {w : World} {A : Option Addr} {l : List S61} {c : Nat} (hC : k61.C w A l.length l) (hl : l.length ≤ 900000) : Calls Tryz.prog 19 #[.slice A l.length c] w fun e w' => ∃ g c' : Nat, e = .returned (.slice (some ⟨g, 0, none⟩) l.length c') ∧ FR w' (some ⟨g, 0, none⟩) (l.length + 1) c' (l ++ [markF]) ∧ w.heap.size ≤ g ∧ Below w.heap.size w w' := by
  have HCp := Aside0.mk (copy_c (c := c) hC (by omega))
  have HL := Aside0.mk hl
  clear hC hl
  go_enter Tryz.func19, Tryz.ntmps19
  go_wp2_with (first
    | (go_at_call 37; refine HCp.out.mono ?_; rintro e w1 ⟨A1, c1, rfl, hF, hA, hb⟩; have HF1 := Aside0.mk hF; have HA1 := Aside0.mk hA; have HB1 := Aside0.mk hb; clear hF hA hb HCp)
    | ((with_reducible refine gate_builtin (b := .append) (xs := #[.tmp 4, .tmp 6]) rfl ?_); at_builtin; obtain ⟨A2, c2, w2, hr, hF, hw⟩ := app_run (w := w1.alloc (.cells #[.string ⟨#[109, 97, 114, 107]⟩, .string ⟨#[]⟩] 61)) (d := 1) 22 (HF1.out.keep fun g e => heap_alloc_old w1 _ (HF1.out.lt g e)) (mark_C w1) (by have := HL.out; simp; omega); refine list_app_of rfl (.tmp 4) (.tmp 6) rfl hr ?_; have hcut := fun W => cut_cap A2 (l.length + 1) c2 l.length (by have := hF.room; omega) W; have HF2 := Aside0.mk hF; have HW2 := Aside0.mk hw; clear hr hF hw))
  go_ret
  have hBa : Below w.heap.size w (w1.alloc (.cells #[.string ⟨#[109, 97, 114, 107]⟩, .string ⟨#[]⟩] 61)) := below_alloc HB1.out _
  rcases HF2.out.cases with ⟨_, _, h0, _⟩ | ⟨g, cur, rfl, _⟩
  · omega
  · rcases HW2.out with ⟨e2, hs⟩ | ⟨e2, hb⟩
    · exact ⟨g, c2, rfl, HF2.out, HA1.out g e2.symm, hs.below hBa (fun k e => HA1.out k e)⟩
    · injection e2 with e2
      injection e2 with e2
      subst e2
      exact ⟨_, c2, rfl, HF2.out, hBa.size, below_step hBa hb⟩
set_option maxHeartbeats 1600000 in
set_option maxRecDepth 20000 in
theorem stays_c {w : World} {g c : Nat} {B : Option Addr} {l : List S61} {d : Nat} (hF : FR w (some ⟨g, 0, none⟩) (l.length + 1) c (l ++ [markF])) (hC : k61.C w B l.length l) (hd : l.length ≤ d) (hl : l.length ≤ 900000) : Calls Tryz.prog 24 #[.slice (some ⟨g, 0, none⟩) l.length c, .slice B l.length d] w fun e w' => e = .returned (.bool true) ∧ Below w.heap.size w w' := by
  have hcr := hF.take l.length (by omega)
  rw [List.take_left] at hcr
  have hroom := hF.room
  have HS := Aside0.mk (same_c (c := c) (hcr.c (by omega)) (by omega) hC hd (by omega))
  have HF := Aside0.mk hF
  have HL := Aside0.mk hl
  have hcut := fun W => cut_cap (some ⟨g, 0, none⟩) l.length c (l.length + 1) hroom W
  have hcut2 : ∀ W : World, (Instr.slice 22 (.slice (some ⟨g, 0, none⟩) l.length c) none (some (.int .i64 ((l.length : Int) + 1))) none).run Tryz.prog W = .ok (.slice (some ⟨g, 0, none⟩) (l.length + 1) c) W := fun W => by
    have := hcut W
    rw [Int.natCast_add] at this
    exact this
  have hw : wrap64 ((l.length : Int) + 1) = (l.length : Int) + 1 := (w64_in ((l.length : Int) + 1) (by omega))
  have p1 : (0 : Int) ≤ (l.length : Int) := by omega
  have p2 : (l.length : Int) < (l.length : Int) + 1 := by omega
  have p3 : (l.length : Int) < ((l.length + 1 : Nat) : Int) := by omega
  clear hF hC hd hl hcr hroom
  go_enter Tryz.func24, Tryz.ntmps24
  go_wp2_with (first
    | (go_at_call 11; refine HS.out.mono ?_; rintro e w1 ⟨rfl, hb⟩; obtain ⟨g2, e2, _, m0, _, _⟩ := fr_elem (HF.out.keep (w' := w1) fun g' e => hb.block g' (HF.out.lt g' e)) l.length markF (by simp); injection e2 with e2; injection e2 with e2; subst e2; have m1 : w1.cell? ⟨g, l.length * 2, none⟩ = some (.string ⟨#[109, 97, 114, 107]⟩) := m0; have HB := Aside0.mk hb; clear hb HS m0))
  go_ret
  exact ⟨rfl, HB.out⟩
end Go.Proofs.YtififgiicpdndaaGreatDoor.Bk
/- MessageTells: the document's answer; Lent, Stays. -/
namespace Go.Proofs.YtififgiicpdndaaGreatDoor.Fw
open Go.RowKit Go.Proofs.YtififgiicpdndaaGreatDoor.XMi Go.Proofs.YtififgiicpdndaaGreatDoorW.PrintWords Go.Proofs.YtififgiicpdndaaGreatDoorW.PrintLast Go.Proofs.YtififgiicpdndaaGreatDoorW.PrintMore Go.Proofs.YtififgiicpdndaaGreatDoor.Ms Go.Proofs.YtififgiicpdndaaGreatDoor.Ob
theorem rsum_l0 (l : List S61) (hS : Sized l) : ∀ (rest pre : List S61) (n k : Nat), l = pre ++ rest → rest.length + 1 ≤ k → n ≤ pre.length * 200032 → bywashref1_Sum.l0 k l (n : Int) (pre.length : Int) = some (((n + costS rest : Nat) : Int))
  | [], pre, n, k, e, hk, hn => by
    obtain ⟨k, rfl⟩ : ∃ m, k = m + 1 := ⟨k - 1, by omega⟩
    have hp : pre.length = l.length := by rw [e, List.append_nil]
    rw [hp]
    unfold bywashref1_Sum.l0
    rw [if_neg (by omega)]
    rfl
  | f :: rest, pre, n, k, e, hk, hn => by
    obtain ⟨k, rfl⟩ : ∃ m, k = m + 1 := ⟨k - 1, by omega⟩
    have hp : pre.length < l.length := by rw [e]; simp
    have hl := hS.len
    obtain ⟨h0, h1⟩ := hS.sz f (by rw [e]; simp)
    have hf : rd_T61 l (pre.length : Int) = f := by
      have : l[pre.length]? = some f := by rw [e]; simp
      simp [rd_T61, this]
    unfold bywashref1_Sum.l0
    rw [if_pos (by omega), if_pos (by omega), hf]
    unfold bywashref1_Cost.f
    rw [Option.bind_some, w64_next _ (by omega)]
    have x1 : wrap64 ((f.f0.size : Int) + (f.f1.size : Int)) = (f.f0.size : Int) + (f.f1.size : Int) := w64_in ((f.f0.size : Int) + (f.f1.size : Int)) (by omega)
    have x2 : wrap64 ((f.f0.size : Int) + (f.f1.size : Int) + 32) = ((f.f0.size + f.f1.size + 32 : Nat) : Int) := by rw [w64_in ((f.f0.size : Int) + (f.f1.size : Int) + 32) (by omega)]; omega
    have x3 : wrap64 ((n : Int) + ((f.f0.size + f.f1.size + 32 : Nat) : Int)) = ((n + (f.f0.size + f.f1.size + 32) : Nat) : Int) := by rw [w64_in ((n : Int) + ((f.f0.size + f.f1.size + 32 : Nat) : Int)) (by omega)]; omega
    rw [x1, x2, x3]
    clear x1 x2 x3
    have ih := rsum_l0 l hS rest (pre ++ [f]) (n + (f.f0.size + f.f1.size + 32)) k (by rw [e]; simp) (by simp at hk; omega) (by rw [List.length_append, List.length_singleton]; omega)
    rw [List.length_append, List.length_singleton] at ih
    rw [ih]
    rw [show costS (f :: rest) = f.f0.size + f.f1.size + 32 + costS rest from rfl]
    congr 2
    omega
theorem rsum (l : List S61) (hS : Sized l) (k : Nat) (hk : l.length + 1 ≤ k) : bywashref1_Sum.f k l = some ((costS l : Nat) : Int) := by
  have h := rsum_l0 l hS l [] 0 k rfl hk (Nat.zero_le _)
  rw [Nat.zero_add] at h
  exact h
theorem safe_ref (m : ByteArray) : bywashref1_Safe.f m = some (safeP m) := by
  have e : safeP m = ((m.toList == [71, 69, 84]) || ((m.toList == [72, 69, 65, 68]) || ((m.toList == [80, 85, 84]) || ((m.toList == [68, 69, 76, 69, 84, 69]) || (m.toList == [79, 80, 84, 73, 79, 78, 83]))))) := by
    unfold safeP headB
    simp only [List.any_cons, List.any_nil, Bool.or_false]
    rw [show (⟨#[71, 69, 84]⟩ : ByteArray).toList = [71, 69, 84] from toList_mk [71, 69, 84], show (⟨#[72, 69, 65, 68]⟩ : ByteArray).toList = [72, 69, 65, 68] from toList_mk [72, 69, 65, 68], show (⟨#[80, 85, 84]⟩ : ByteArray).toList = [80, 85, 84] from toList_mk [80, 85, 84], show (⟨#[68, 69, 76, 69, 84, 69]⟩ : ByteArray).toList = [68, 69, 76, 69, 84, 69] from toList_mk [68, 69, 76, 69, 84, 69], show (⟨#[79, 80, 84, 73, 79, 78, 83]⟩ : ByteArray).toList = [79, 80, 84, 73, 79, 78, 83] from toList_mk [79, 80, 84, 73, 79, 78, 83]]
  rw [e]
  unfold bywashref1_Safe.f
  by_cases h1 : m.toList = [71, 69, 84]
  · rw [if_pos h1, h1]; rfl
  rw [if_neg h1, beq_eq_false_iff_ne.2 h1, Bool.false_or]
  by_cases h2 : m.toList = [72, 69, 65, 68]
  · rw [if_pos h2, h2]; rfl
  rw [if_neg h2, beq_eq_false_iff_ne.2 h2, Bool.false_or]
  by_cases h3 : m.toList = [80, 85, 84]
  · rw [if_pos h3, h3]; rfl
  rw [if_neg h3, beq_eq_false_iff_ne.2 h3, Bool.false_or]
  by_cases h4 : m.toList = [68, 69, 76, 69, 84, 69]
  · rw [if_pos h4, h4]; rfl
  rw [if_neg h4, beq_eq_false_iff_ne.2 h4, Bool.false_or]
theorem safeR_c (m : ByteArray) (w : World) : Calls Tryz.prog 14 #[.string m] w fun e w' => e = .returned (.bool (safeP m)) ∧ Below w.heap.size w w' :=
  (bywashref1_Safe.calls m (safeP m) w (safe_ref m)).mono fun e w' h => ⟨h.1, h.2.below⟩

set_option maxHeartbeats 6400000 in
set_option maxRecDepth 20000 in
/-- What the document's list is. -/
theorem list9_c (r : RQ) (Bf Bt : Option Addr) (bf bt : Nat) (w : World) (hF : k61.C w Bf r.fs.length r.fs) (hT : k61.C w Bt r.ts.length r.ts) (ht : r.ts.length ≤ bt) (hlen : r.fs.length ≤ 90000) (hb : r.body.size ≤ 1000000000) (hS1 : Sized r.ts) (hS2 : Sized (listP r)) : Calls Tryz.prog 9 #[rqV r Bf bf Bt bt] w (FsPost w r) := by
  obtain ⟨k, hk⟩ : ∃ k, k = r.ts.length * 8 + (listP r).length * 8 + 400000 := ⟨_, rfl⟩
  have HC := Aside0.mk (And.intro hF (And.intro hT hlen))
  have HTr := Aside0.mk (fun (W : World) (hb : Below w.heap.size w W) => (bywashref1_TrailerFields.calls k Bt bt r.ts _ W (Kd.C_below hT hb) ht (trail_ref k r.ts hS1 (by omega))).mono fun e w' h => (by first | exact And.intro h.1 h.2 | exact And.intro h.1 h.2.below))
  have HSt := Aside0.mk (fun (W : World) (hb : Below w.heap.size w W) => (bywashref1_Sum.calls k Bt bt r.ts _ W (Kd.C_below hT hb) ht (rsum r.ts hS1 k (by omega))).mono fun e w' h => (by first | exact And.intro h.1 h.2 | exact And.intro h.1 h.2.below))
  have HRq := Aside0.mk (fun (W : World) (A : Option Addr) (n c : Nat) (hC : k61.C W A n (listP r)) (hc : n ≤ c) => show Calls Tryz.prog 35 #[.slice A n c] W (fun e w' => e = .returned (.int .i64 (reqQ (listP r))) ∧ Below W.heap.size W w') from by
    obtain rfl : (listP r).length = n := hC.1
    exact (bywashref1_RequestFields.calls k A c (listP r) _ W hC hc (req_ref k (listP r) hS2 (by omega))).mono fun e w' h => (by first | exact And.intro h.1 h.2 | exact And.intro h.1 h.2.below))
  have HLe := Aside0.mk (fun (W : World) (A : Option Addr) (n c : Nat) (hC : k61.C W A n (listP r)) (hc : n ≤ c) => show Calls Tryz.prog 36 #[.slice A n c] W (fun e w' => e = .returned (.tuple #[.int .i64 (lenQ (listP r)).1, .int .i64 (lenQ (listP r)).2]) ∧ Below W.heap.size W w') from by
    obtain rfl : (listP r).length = n := hC.1
    exact (bywashref1_Length.calls k A c (listP r) _ _ W hC hc (len_ref k (listP r) hS2 (by omega))).mono fun e w' h => (by first | exact And.intro h.1 h.2 | exact And.intro h.1 h.2.below))
  have HSl := Aside0.mk (fun (W : World) (A : Option Addr) (n c : Nat) (hC : k61.C W A n (listP r)) (hc : n ≤ c) => show Calls Tryz.prog 34 #[.slice A n c] W (fun e w' => e = .returned (.int .i64 ((costS (listP r) : Nat) : Int)) ∧ Below W.heap.size W w') from by
    obtain rfl : (listP r).length = n := hC.1
    exact (bywashref1_Sum.calls k A c (listP r) _ W hC hc (rsum (listP r) hS2 k (by omega))).mono fun e w' h => (by first | exact And.intro h.1 h.2 | exact And.intro h.1 h.2.below))
  have HFE : Aside0 (fieldsE r = if r.body.size > 400 ∨ trailQ r.ts ≠ 0 ∨ costS r.ts > 600 then 1 else if reqQ (listP r) ≠ 0 then reqQ (listP r) else if costS (listP r) > 600 then 5 else if (lenQ (listP r)).2 ≠ 0 then (lenQ (listP r)).2 else if (lenQ (listP r)).1 ≥ 0 ∧ (lenQ (listP r)).1 ≠ (r.body.size : Int) then 22 else 0) := ⟨rfl⟩
  have HLL : Aside0 ((listP r).length ≤ 1000000000) := ⟨by have := hS2.len; omega⟩
  have hnone : ∀ {w' : World} {er : Int}, fieldsE r = er → er ≠ 0 → Below w.heap.size w w' → FsPost w r (.returned (.tuple #[.slice none 0 0, .int .i64 er])) w' := fun {w' er} he hne hb => ⟨hb, none, 0, 0, by rw [he], fun _ => ⟨rfl, rfl, rfl⟩, fun h => absurd (he.symm.trans h) hne⟩
  have HN := Aside0.mk (@hnone)
  have HBK := Aside0.mk (heap_alloc_new w (.cells #[.string r.m, .string r.sc, .string r.au, .string r.pa, .slice Bf r.fs.length bf, .string r.body, .slice Bt r.ts.length bt] 24))
  have HB := Aside0.mk (below_alloc (Below.refl w.heap.size w) (.cells #[.string r.m, .string r.sc, .string r.au, .string r.pa, .slice Bf r.fs.length bf, .string r.body, .slice Bt r.ts.length bt] 24))
  clear hF hT ht hlen hS1 hS2 hnone hk
  unfold rqV
  generalize trailQ r.ts = tq at HTr HFE
  generalize costS r.ts = ct at HSt HFE
  generalize reqQ (listP r) = rq at HRq HFE
  generalize costS (listP r) = cl at HSl HFE
  generalize (lenQ (listP r)).1 = l1 at HLe HFE
  generalize (lenQ (listP r)).2 = l2 at HLe HFE
  by_cases h1 : r.body.size > 400
  · have e1 : decide ((r.body.size : Int) > 400) = true := decide_eq_true (by omega)
    have HE := Aside0.mk (HFE.out.trans (if_pos (.inl h1)))
    clear h1 hb
    clear HFE
    go_enter Tryz.func9, Tryz.ntmps9
    go_wp2_with (first
      | (go_at_call 33; refine (HTr.out _ HB.out).mono ?_; rintro e w2 ⟨rfl, hb⟩; have hbk := (hb.block _ (blk_lt HBK.out)).trans HBK.out; have b0 := cells_of_heap hbk 0 (.string r.m) rfl; have b1 := cells_of_heap hbk 1 (.string r.sc) rfl; have b2 := cells_of_heap hbk 2 (.string r.au) rfl; have b3 := cells_of_heap hbk 3 (.string r.pa) rfl; have b4 := cells_of_heap hbk 4 (.slice Bf r.fs.length bf) rfl; have b5 := cells_of_heap hbk 5 (.string r.body) rfl; have b6 := cells_of_heap hbk 6 (.slice Bt r.ts.length bt) rfl; have HBK2 := Aside0.mk hbk; have HB2 := Aside0.mk (below_step HB.out hb); clear hb hbk HBK HB; have HBK := HBK2; have HB := HB2; clear HBK2 HB2 HTr)
      | (go_at_call 34; refine (HSt.out _ HB.out).mono ?_; rintro e w2 ⟨rfl, hb⟩; have hbk := (hb.block _ (blk_lt HBK.out)).trans HBK.out; clear b0 b1 b2 b3 b4 b5 b6; have b0 := cells_of_heap hbk 0 (.string r.m) rfl; have b1 := cells_of_heap hbk 1 (.string r.sc) rfl; have b2 := cells_of_heap hbk 2 (.string r.au) rfl; have b3 := cells_of_heap hbk 3 (.string r.pa) rfl; have b4 := cells_of_heap hbk 4 (.slice Bf r.fs.length bf) rfl; have b5 := cells_of_heap hbk 5 (.string r.body) rfl; have b6 := cells_of_heap hbk 6 (.slice Bt r.ts.length bt) rfl; have b4a : ∀ o, (w2.alloc o).cell? ⟨w.heap.size, 4, none⟩ = some (.slice Bf r.fs.length bf) := (fun o => cells_of_heap ((heap_alloc_old w2 o (blk_lt hbk)).trans hbk) 4 _ rfl); have HBK2 := Aside0.mk hbk; have HB2 := Aside0.mk (below_step HB.out hb); clear hb hbk HBK HB; have HBK := HBK2; have HB := HB2; clear HBK2 HB2 HSt)
      | ((with_reducible refine gate_builtin (b := .append) (xs := #[.tmp 36, .tmp 38]) rfl ?_); at_builtin; refine list_app rfl (.tmp 36) (.tmp 38) rfl w2 w2.heap.size _ Bf 4 4 r.fs.length bf (ownFour r.m r.sc r.au r.pa) r.fs rfl rfl (fr_four w2 r.m r.sc r.au r.pa _ (Nat.le_refl _)) (Kd.C_below HC.out.1 (below_alloc HB.out _)) ?_ ?_ (below_alloc (Below.refl _ _) _) ?_; (have := HC.out.2.2; show 4 + r.fs.length ≤ 1000000; omega); (simp); intro A1 c1 w1 hF hb _; have hbk := (hb.block _ (blk_lt HBK.out)).trans HBK.out; clear b0 b1 b2 b3 b4 b5 b6 b4a; have b5 := cells_of_heap hbk 5 (.string r.body) rfl; have HBK2 := Aside0.mk hbk; have HF1 := Aside0.mk (hF.lower HB.out.size); have HB2 := Aside0.mk (below_step HB.out hb); clear hb hbk hF HBK HB; have HBK := HBK2; have HB := HB2; clear HBK2 HB2)
      | (go_at_call 35; refine (HRq.out _ _ _ _ (HF1.out.c HLL.out).1 (HF1.out.c HLL.out).2).mono ?_; rintro e w2 ⟨rfl, hb⟩; have hbk := (hb.block _ (blk_lt HBK.out)).trans HBK.out; clear b5; have b5 := cells_of_heap hbk 5 (.string r.body) rfl; have HBK2 := Aside0.mk hbk; have HB2 := Aside0.mk (below_step HB.out hb); have HF2 := Aside0.mk (HF1.out.step hb); clear hb hbk HBK HB HF1; have HBK := HBK2; have HB := HB2; have HF1 := HF2; clear HBK2 HB2 HF2 HRq)
      | (go_at_call 36; refine (HLe.out _ _ _ _ (HF1.out.c HLL.out).1 (HF1.out.c HLL.out).2).mono ?_; rintro e w2 ⟨rfl, hb⟩; have hbk := (hb.block _ (blk_lt HBK.out)).trans HBK.out; clear b5; have b5 := cells_of_heap hbk 5 (.string r.body) rfl; have HBK2 := Aside0.mk hbk; have HB2 := Aside0.mk (below_step HB.out hb); have HF2 := Aside0.mk (HF1.out.step hb); clear hb hbk HBK HB HF1; have HBK := HBK2; have HB := HB2; have HF1 := HF2; clear HBK2 HB2 HF2 HLe)
      | (go_at_call 34; refine (HSl.out _ _ _ _ (HF1.out.c HLL.out).1 (HF1.out.c HLL.out).2).mono ?_; rintro e w2 ⟨rfl, hb⟩; have hbk := (hb.block _ (blk_lt HBK.out)).trans HBK.out; clear b5; have b5 := cells_of_heap hbk 5 (.string r.body) rfl; have HBK2 := Aside0.mk hbk; have HB2 := Aside0.mk (below_step HB.out hb); have HF2 := Aside0.mk (HF1.out.step hb); clear hb hbk HBK HB HF1; have HBK := HBK2; have HB := HB2; have HF1 := HF2; clear HBK2 HB2 HF2 HSl))
    go_ret2
    exact HN.out HE.out (by decide) HB.out
  have e1 : decide ((r.body.size : Int) > 400) = false := decide_eq_false (by omega)
  by_cases h2 : ¬ tq = 0
  · have e2 : decide (tq = 0) = false := decide_eq_false h2
    have e2b : (tq == 0) = false := beq_eq_false_iff_ne.2 h2
    have HE := Aside0.mk (HFE.out.trans (if_pos (.inr (.inl h2))))
    clear h1 hb
    clear HFE
    go_enter Tryz.func9, Tryz.ntmps9
    go_wp2_with (first
      | (go_at_call 33; refine (HTr.out _ HB.out).mono ?_; rintro e w2 ⟨rfl, hb⟩; have hbk := (hb.block _ (blk_lt HBK.out)).trans HBK.out; have b0 := cells_of_heap hbk 0 (.string r.m) rfl; have b1 := cells_of_heap hbk 1 (.string r.sc) rfl; have b2 := cells_of_heap hbk 2 (.string r.au) rfl; have b3 := cells_of_heap hbk 3 (.string r.pa) rfl; have b4 := cells_of_heap hbk 4 (.slice Bf r.fs.length bf) rfl; have b5 := cells_of_heap hbk 5 (.string r.body) rfl; have b6 := cells_of_heap hbk 6 (.slice Bt r.ts.length bt) rfl; have HBK2 := Aside0.mk hbk; have HB2 := Aside0.mk (below_step HB.out hb); clear hb hbk HBK HB; have HBK := HBK2; have HB := HB2; clear HBK2 HB2 HTr)
      | (go_at_call 34; refine (HSt.out _ HB.out).mono ?_; rintro e w2 ⟨rfl, hb⟩; have hbk := (hb.block _ (blk_lt HBK.out)).trans HBK.out; clear b0 b1 b2 b3 b4 b5 b6; have b0 := cells_of_heap hbk 0 (.string r.m) rfl; have b1 := cells_of_heap hbk 1 (.string r.sc) rfl; have b2 := cells_of_heap hbk 2 (.string r.au) rfl; have b3 := cells_of_heap hbk 3 (.string r.pa) rfl; have b4 := cells_of_heap hbk 4 (.slice Bf r.fs.length bf) rfl; have b5 := cells_of_heap hbk 5 (.string r.body) rfl; have b6 := cells_of_heap hbk 6 (.slice Bt r.ts.length bt) rfl; have b4a : ∀ o, (w2.alloc o).cell? ⟨w.heap.size, 4, none⟩ = some (.slice Bf r.fs.length bf) := (fun o => cells_of_heap ((heap_alloc_old w2 o (blk_lt hbk)).trans hbk) 4 _ rfl); have HBK2 := Aside0.mk hbk; have HB2 := Aside0.mk (below_step HB.out hb); clear hb hbk HBK HB; have HBK := HBK2; have HB := HB2; clear HBK2 HB2 HSt)
      | ((with_reducible refine gate_builtin (b := .append) (xs := #[.tmp 36, .tmp 38]) rfl ?_); at_builtin; refine list_app rfl (.tmp 36) (.tmp 38) rfl w2 w2.heap.size _ Bf 4 4 r.fs.length bf (ownFour r.m r.sc r.au r.pa) r.fs rfl rfl (fr_four w2 r.m r.sc r.au r.pa _ (Nat.le_refl _)) (Kd.C_below HC.out.1 (below_alloc HB.out _)) ?_ ?_ (below_alloc (Below.refl _ _) _) ?_; (have := HC.out.2.2; show 4 + r.fs.length ≤ 1000000; omega); (simp); intro A1 c1 w1 hF hb _; have hbk := (hb.block _ (blk_lt HBK.out)).trans HBK.out; clear b0 b1 b2 b3 b4 b5 b6 b4a; have b5 := cells_of_heap hbk 5 (.string r.body) rfl; have HBK2 := Aside0.mk hbk; have HF1 := Aside0.mk (hF.lower HB.out.size); have HB2 := Aside0.mk (below_step HB.out hb); clear hb hbk hF HBK HB; have HBK := HBK2; have HB := HB2; clear HBK2 HB2)
      | (go_at_call 35; refine (HRq.out _ _ _ _ (HF1.out.c HLL.out).1 (HF1.out.c HLL.out).2).mono ?_; rintro e w2 ⟨rfl, hb⟩; have hbk := (hb.block _ (blk_lt HBK.out)).trans HBK.out; clear b5; have b5 := cells_of_heap hbk 5 (.string r.body) rfl; have HBK2 := Aside0.mk hbk; have HB2 := Aside0.mk (below_step HB.out hb); have HF2 := Aside0.mk (HF1.out.step hb); clear hb hbk HBK HB HF1; have HBK := HBK2; have HB := HB2; have HF1 := HF2; clear HBK2 HB2 HF2 HRq)
      | (go_at_call 36; refine (HLe.out _ _ _ _ (HF1.out.c HLL.out).1 (HF1.out.c HLL.out).2).mono ?_; rintro e w2 ⟨rfl, hb⟩; have hbk := (hb.block _ (blk_lt HBK.out)).trans HBK.out; clear b5; have b5 := cells_of_heap hbk 5 (.string r.body) rfl; have HBK2 := Aside0.mk hbk; have HB2 := Aside0.mk (below_step HB.out hb); have HF2 := Aside0.mk (HF1.out.step hb); clear hb hbk HBK HB HF1; have HBK := HBK2; have HB := HB2; have HF1 := HF2; clear HBK2 HB2 HF2 HLe)
      | (go_at_call 34; refine (HSl.out _ _ _ _ (HF1.out.c HLL.out).1 (HF1.out.c HLL.out).2).mono ?_; rintro e w2 ⟨rfl, hb⟩; have hbk := (hb.block _ (blk_lt HBK.out)).trans HBK.out; clear b5; have b5 := cells_of_heap hbk 5 (.string r.body) rfl; have HBK2 := Aside0.mk hbk; have HB2 := Aside0.mk (below_step HB.out hb); have HF2 := Aside0.mk (HF1.out.step hb); clear hb hbk HBK HB HF1; have HBK := HBK2; have HB := HB2; have HF1 := HF2; clear HBK2 HB2 HF2 HSl))
    go_ret2
    exact HN.out HE.out (by decide) HB.out
  obtain rfl : tq = 0 := Classical.byContradiction h2
  by_cases h3 : ct > 600
  · have e3 : decide ((ct : Int) > 600) = true := decide_eq_true (by omega)
    have HE := Aside0.mk (HFE.out.trans (if_pos (.inr (.inr h3))))
    clear h1 hb h3
    clear HFE
    go_enter Tryz.func9, Tryz.ntmps9
    go_wp2_with (first
      | (go_at_call 33; refine (HTr.out _ HB.out).mono ?_; rintro e w2 ⟨rfl, hb⟩; have hbk := (hb.block _ (blk_lt HBK.out)).trans HBK.out; have b0 := cells_of_heap hbk 0 (.string r.m) rfl; have b1 := cells_of_heap hbk 1 (.string r.sc) rfl; have b2 := cells_of_heap hbk 2 (.string r.au) rfl; have b3 := cells_of_heap hbk 3 (.string r.pa) rfl; have b4 := cells_of_heap hbk 4 (.slice Bf r.fs.length bf) rfl; have b5 := cells_of_heap hbk 5 (.string r.body) rfl; have b6 := cells_of_heap hbk 6 (.slice Bt r.ts.length bt) rfl; have HBK2 := Aside0.mk hbk; have HB2 := Aside0.mk (below_step HB.out hb); clear hb hbk HBK HB; have HBK := HBK2; have HB := HB2; clear HBK2 HB2 HTr)
      | (go_at_call 34; refine (HSt.out _ HB.out).mono ?_; rintro e w2 ⟨rfl, hb⟩; have hbk := (hb.block _ (blk_lt HBK.out)).trans HBK.out; clear b0 b1 b2 b3 b4 b5 b6; have b0 := cells_of_heap hbk 0 (.string r.m) rfl; have b1 := cells_of_heap hbk 1 (.string r.sc) rfl; have b2 := cells_of_heap hbk 2 (.string r.au) rfl; have b3 := cells_of_heap hbk 3 (.string r.pa) rfl; have b4 := cells_of_heap hbk 4 (.slice Bf r.fs.length bf) rfl; have b5 := cells_of_heap hbk 5 (.string r.body) rfl; have b6 := cells_of_heap hbk 6 (.slice Bt r.ts.length bt) rfl; have b4a : ∀ o, (w2.alloc o).cell? ⟨w.heap.size, 4, none⟩ = some (.slice Bf r.fs.length bf) := (fun o => cells_of_heap ((heap_alloc_old w2 o (blk_lt hbk)).trans hbk) 4 _ rfl); have HBK2 := Aside0.mk hbk; have HB2 := Aside0.mk (below_step HB.out hb); clear hb hbk HBK HB; have HBK := HBK2; have HB := HB2; clear HBK2 HB2 HSt)
      | ((with_reducible refine gate_builtin (b := .append) (xs := #[.tmp 36, .tmp 38]) rfl ?_); at_builtin; refine list_app rfl (.tmp 36) (.tmp 38) rfl w2 w2.heap.size _ Bf 4 4 r.fs.length bf (ownFour r.m r.sc r.au r.pa) r.fs rfl rfl (fr_four w2 r.m r.sc r.au r.pa _ (Nat.le_refl _)) (Kd.C_below HC.out.1 (below_alloc HB.out _)) ?_ ?_ (below_alloc (Below.refl _ _) _) ?_; (have := HC.out.2.2; show 4 + r.fs.length ≤ 1000000; omega); (simp); intro A1 c1 w1 hF hb _; have hbk := (hb.block _ (blk_lt HBK.out)).trans HBK.out; clear b0 b1 b2 b3 b4 b5 b6 b4a; have b5 := cells_of_heap hbk 5 (.string r.body) rfl; have HBK2 := Aside0.mk hbk; have HF1 := Aside0.mk (hF.lower HB.out.size); have HB2 := Aside0.mk (below_step HB.out hb); clear hb hbk hF HBK HB; have HBK := HBK2; have HB := HB2; clear HBK2 HB2)
      | (go_at_call 35; refine (HRq.out _ _ _ _ (HF1.out.c HLL.out).1 (HF1.out.c HLL.out).2).mono ?_; rintro e w2 ⟨rfl, hb⟩; have hbk := (hb.block _ (blk_lt HBK.out)).trans HBK.out; clear b5; have b5 := cells_of_heap hbk 5 (.string r.body) rfl; have HBK2 := Aside0.mk hbk; have HB2 := Aside0.mk (below_step HB.out hb); have HF2 := Aside0.mk (HF1.out.step hb); clear hb hbk HBK HB HF1; have HBK := HBK2; have HB := HB2; have HF1 := HF2; clear HBK2 HB2 HF2 HRq)
      | (go_at_call 36; refine (HLe.out _ _ _ _ (HF1.out.c HLL.out).1 (HF1.out.c HLL.out).2).mono ?_; rintro e w2 ⟨rfl, hb⟩; have hbk := (hb.block _ (blk_lt HBK.out)).trans HBK.out; clear b5; have b5 := cells_of_heap hbk 5 (.string r.body) rfl; have HBK2 := Aside0.mk hbk; have HB2 := Aside0.mk (below_step HB.out hb); have HF2 := Aside0.mk (HF1.out.step hb); clear hb hbk HBK HB HF1; have HBK := HBK2; have HB := HB2; have HF1 := HF2; clear HBK2 HB2 HF2 HLe)
      | (go_at_call 34; refine (HSl.out _ _ _ _ (HF1.out.c HLL.out).1 (HF1.out.c HLL.out).2).mono ?_; rintro e w2 ⟨rfl, hb⟩; have hbk := (hb.block _ (blk_lt HBK.out)).trans HBK.out; clear b5; have b5 := cells_of_heap hbk 5 (.string r.body) rfl; have HBK2 := Aside0.mk hbk; have HB2 := Aside0.mk (below_step HB.out hb); have HF2 := Aside0.mk (HF1.out.step hb); clear hb hbk HBK HB HF1; have HBK := HBK2; have HB := HB2; have HF1 := HF2; clear HBK2 HB2 HF2 HSl))
    go_ret2
    exact HN.out HE.out (by decide) HB.out
  have e3 : decide ((ct : Int) > 600) = false := decide_eq_false (by omega)
  have HFE := Aside0.mk (HFE.out.trans (if_neg (by intro h; rcases h with h | h | h; exact h1 h; exact h rfl; exact h3 h)))
  clear h1 h3
  by_cases h4 : ¬ rq = 0
  · have e4 : decide (rq = 0) = false := decide_eq_false h4
    have e4b : (rq == 0) = false := beq_eq_false_iff_ne.2 h4
    have HE := Aside0.mk (HFE.out.trans (if_pos h4))
    have H4 := Aside0.mk h4
    clear hb
    clear HFE
    go_enter Tryz.func9, Tryz.ntmps9
    go_wp2_with (first
      | (go_at_call 33; refine (HTr.out _ HB.out).mono ?_; rintro e w2 ⟨rfl, hb⟩; have hbk := (hb.block _ (blk_lt HBK.out)).trans HBK.out; have b0 := cells_of_heap hbk 0 (.string r.m) rfl; have b1 := cells_of_heap hbk 1 (.string r.sc) rfl; have b2 := cells_of_heap hbk 2 (.string r.au) rfl; have b3 := cells_of_heap hbk 3 (.string r.pa) rfl; have b4 := cells_of_heap hbk 4 (.slice Bf r.fs.length bf) rfl; have b5 := cells_of_heap hbk 5 (.string r.body) rfl; have b6 := cells_of_heap hbk 6 (.slice Bt r.ts.length bt) rfl; have HBK2 := Aside0.mk hbk; have HB2 := Aside0.mk (below_step HB.out hb); clear hb hbk HBK HB; have HBK := HBK2; have HB := HB2; clear HBK2 HB2 HTr)
      | (go_at_call 34; refine (HSt.out _ HB.out).mono ?_; rintro e w2 ⟨rfl, hb⟩; have hbk := (hb.block _ (blk_lt HBK.out)).trans HBK.out; clear b0 b1 b2 b3 b4 b5 b6; have b0 := cells_of_heap hbk 0 (.string r.m) rfl; have b1 := cells_of_heap hbk 1 (.string r.sc) rfl; have b2 := cells_of_heap hbk 2 (.string r.au) rfl; have b3 := cells_of_heap hbk 3 (.string r.pa) rfl; have b4 := cells_of_heap hbk 4 (.slice Bf r.fs.length bf) rfl; have b5 := cells_of_heap hbk 5 (.string r.body) rfl; have b6 := cells_of_heap hbk 6 (.slice Bt r.ts.length bt) rfl; have b4a : ∀ o, (w2.alloc o).cell? ⟨w.heap.size, 4, none⟩ = some (.slice Bf r.fs.length bf) := (fun o => cells_of_heap ((heap_alloc_old w2 o (blk_lt hbk)).trans hbk) 4 _ rfl); have HBK2 := Aside0.mk hbk; have HB2 := Aside0.mk (below_step HB.out hb); clear hb hbk HBK HB; have HBK := HBK2; have HB := HB2; clear HBK2 HB2 HSt)
      | ((with_reducible refine gate_builtin (b := .append) (xs := #[.tmp 36, .tmp 38]) rfl ?_); at_builtin; refine list_app rfl (.tmp 36) (.tmp 38) rfl w2 w2.heap.size _ Bf 4 4 r.fs.length bf (ownFour r.m r.sc r.au r.pa) r.fs rfl rfl (fr_four w2 r.m r.sc r.au r.pa _ (Nat.le_refl _)) (Kd.C_below HC.out.1 (below_alloc HB.out _)) ?_ ?_ (below_alloc (Below.refl _ _) _) ?_; (have := HC.out.2.2; show 4 + r.fs.length ≤ 1000000; omega); (simp); intro A1 c1 w1 hF hb _; have hbk := (hb.block _ (blk_lt HBK.out)).trans HBK.out; clear b0 b1 b2 b3 b4 b5 b6 b4a; have b5 := cells_of_heap hbk 5 (.string r.body) rfl; have HBK2 := Aside0.mk hbk; have HF1 := Aside0.mk (hF.lower HB.out.size); have HB2 := Aside0.mk (below_step HB.out hb); clear hb hbk hF HBK HB; have HBK := HBK2; have HB := HB2; clear HBK2 HB2)
      | (go_at_call 35; refine (HRq.out _ _ _ _ (HF1.out.c HLL.out).1 (HF1.out.c HLL.out).2).mono ?_; rintro e w2 ⟨rfl, hb⟩; have hbk := (hb.block _ (blk_lt HBK.out)).trans HBK.out; clear b5; have b5 := cells_of_heap hbk 5 (.string r.body) rfl; have HBK2 := Aside0.mk hbk; have HB2 := Aside0.mk (below_step HB.out hb); have HF2 := Aside0.mk (HF1.out.step hb); clear hb hbk HBK HB HF1; have HBK := HBK2; have HB := HB2; have HF1 := HF2; clear HBK2 HB2 HF2 HRq)
      | (go_at_call 36; refine (HLe.out _ _ _ _ (HF1.out.c HLL.out).1 (HF1.out.c HLL.out).2).mono ?_; rintro e w2 ⟨rfl, hb⟩; have hbk := (hb.block _ (blk_lt HBK.out)).trans HBK.out; clear b5; have b5 := cells_of_heap hbk 5 (.string r.body) rfl; have HBK2 := Aside0.mk hbk; have HB2 := Aside0.mk (below_step HB.out hb); have HF2 := Aside0.mk (HF1.out.step hb); clear hb hbk HBK HB HF1; have HBK := HBK2; have HB := HB2; have HF1 := HF2; clear HBK2 HB2 HF2 HLe)
      | (go_at_call 34; refine (HSl.out _ _ _ _ (HF1.out.c HLL.out).1 (HF1.out.c HLL.out).2).mono ?_; rintro e w2 ⟨rfl, hb⟩; have hbk := (hb.block _ (blk_lt HBK.out)).trans HBK.out; clear b5; have b5 := cells_of_heap hbk 5 (.string r.body) rfl; have HBK2 := Aside0.mk hbk; have HB2 := Aside0.mk (below_step HB.out hb); have HF2 := Aside0.mk (HF1.out.step hb); clear hb hbk HBK HB HF1; have HBK := HBK2; have HB := HB2; have HF1 := HF2; clear HBK2 HB2 HF2 HSl))
    go_ret2
    exact HN.out HE.out H4.out HB.out
  obtain rfl : rq = 0 := Classical.byContradiction h4
  have HFE := Aside0.mk (HFE.out.trans (if_neg (fun h => h rfl)))
  by_cases h5 : cl > 600
  · have e5 : decide ((cl : Int) > 600) = true := decide_eq_true (by omega)
    have HE := Aside0.mk (HFE.out.trans (if_pos h5))
    clear hb h5
    clear HFE
    go_enter Tryz.func9, Tryz.ntmps9
    go_wp2_with (first
      | (go_at_call 33; refine (HTr.out _ HB.out).mono ?_; rintro e w2 ⟨rfl, hb⟩; have hbk := (hb.block _ (blk_lt HBK.out)).trans HBK.out; have b0 := cells_of_heap hbk 0 (.string r.m) rfl; have b1 := cells_of_heap hbk 1 (.string r.sc) rfl; have b2 := cells_of_heap hbk 2 (.string r.au) rfl; have b3 := cells_of_heap hbk 3 (.string r.pa) rfl; have b4 := cells_of_heap hbk 4 (.slice Bf r.fs.length bf) rfl; have b5 := cells_of_heap hbk 5 (.string r.body) rfl; have b6 := cells_of_heap hbk 6 (.slice Bt r.ts.length bt) rfl; have HBK2 := Aside0.mk hbk; have HB2 := Aside0.mk (below_step HB.out hb); clear hb hbk HBK HB; have HBK := HBK2; have HB := HB2; clear HBK2 HB2 HTr)
      | (go_at_call 34; refine (HSt.out _ HB.out).mono ?_; rintro e w2 ⟨rfl, hb⟩; have hbk := (hb.block _ (blk_lt HBK.out)).trans HBK.out; clear b0 b1 b2 b3 b4 b5 b6; have b0 := cells_of_heap hbk 0 (.string r.m) rfl; have b1 := cells_of_heap hbk 1 (.string r.sc) rfl; have b2 := cells_of_heap hbk 2 (.string r.au) rfl; have b3 := cells_of_heap hbk 3 (.string r.pa) rfl; have b4 := cells_of_heap hbk 4 (.slice Bf r.fs.length bf) rfl; have b5 := cells_of_heap hbk 5 (.string r.body) rfl; have b6 := cells_of_heap hbk 6 (.slice Bt r.ts.length bt) rfl; have b4a : ∀ o, (w2.alloc o).cell? ⟨w.heap.size, 4, none⟩ = some (.slice Bf r.fs.length bf) := (fun o => cells_of_heap ((heap_alloc_old w2 o (blk_lt hbk)).trans hbk) 4 _ rfl); have HBK2 := Aside0.mk hbk; have HB2 := Aside0.mk (below_step HB.out hb); clear hb hbk HBK HB; have HBK := HBK2; have HB := HB2; clear HBK2 HB2 HSt)
      | ((with_reducible refine gate_builtin (b := .append) (xs := #[.tmp 36, .tmp 38]) rfl ?_); at_builtin; refine list_app rfl (.tmp 36) (.tmp 38) rfl w2 w2.heap.size _ Bf 4 4 r.fs.length bf (ownFour r.m r.sc r.au r.pa) r.fs rfl rfl (fr_four w2 r.m r.sc r.au r.pa _ (Nat.le_refl _)) (Kd.C_below HC.out.1 (below_alloc HB.out _)) ?_ ?_ (below_alloc (Below.refl _ _) _) ?_; (have := HC.out.2.2; show 4 + r.fs.length ≤ 1000000; omega); (simp); intro A1 c1 w1 hF hb _; have hbk := (hb.block _ (blk_lt HBK.out)).trans HBK.out; clear b0 b1 b2 b3 b4 b5 b6 b4a; have b5 := cells_of_heap hbk 5 (.string r.body) rfl; have HBK2 := Aside0.mk hbk; have HF1 := Aside0.mk (hF.lower HB.out.size); have HB2 := Aside0.mk (below_step HB.out hb); clear hb hbk hF HBK HB; have HBK := HBK2; have HB := HB2; clear HBK2 HB2)
      | (go_at_call 35; refine (HRq.out _ _ _ _ (HF1.out.c HLL.out).1 (HF1.out.c HLL.out).2).mono ?_; rintro e w2 ⟨rfl, hb⟩; have hbk := (hb.block _ (blk_lt HBK.out)).trans HBK.out; clear b5; have b5 := cells_of_heap hbk 5 (.string r.body) rfl; have HBK2 := Aside0.mk hbk; have HB2 := Aside0.mk (below_step HB.out hb); have HF2 := Aside0.mk (HF1.out.step hb); clear hb hbk HBK HB HF1; have HBK := HBK2; have HB := HB2; have HF1 := HF2; clear HBK2 HB2 HF2 HRq)
      | (go_at_call 36; refine (HLe.out _ _ _ _ (HF1.out.c HLL.out).1 (HF1.out.c HLL.out).2).mono ?_; rintro e w2 ⟨rfl, hb⟩; have hbk := (hb.block _ (blk_lt HBK.out)).trans HBK.out; clear b5; have b5 := cells_of_heap hbk 5 (.string r.body) rfl; have HBK2 := Aside0.mk hbk; have HB2 := Aside0.mk (below_step HB.out hb); have HF2 := Aside0.mk (HF1.out.step hb); clear hb hbk HBK HB HF1; have HBK := HBK2; have HB := HB2; have HF1 := HF2; clear HBK2 HB2 HF2 HLe)
      | (go_at_call 34; refine (HSl.out _ _ _ _ (HF1.out.c HLL.out).1 (HF1.out.c HLL.out).2).mono ?_; rintro e w2 ⟨rfl, hb⟩; have hbk := (hb.block _ (blk_lt HBK.out)).trans HBK.out; clear b5; have b5 := cells_of_heap hbk 5 (.string r.body) rfl; have HBK2 := Aside0.mk hbk; have HB2 := Aside0.mk (below_step HB.out hb); have HF2 := Aside0.mk (HF1.out.step hb); clear hb hbk HBK HB HF1; have HBK := HBK2; have HB := HB2; have HF1 := HF2; clear HBK2 HB2 HF2 HSl))
    go_ret2
    exact HN.out HE.out (by decide) HB.out
  have e5 : decide ((cl : Int) > 600) = false := decide_eq_false (by omega)
  have HFE := Aside0.mk (HFE.out.trans (if_neg h5))
  clear h5
  by_cases h6 : ¬ l2 = 0
  · have e6 : decide (l2 = 0) = false := decide_eq_false h6
    have e6b : (l2 == 0) = false := beq_eq_false_iff_ne.2 h6
    have HE := Aside0.mk (HFE.out.trans (if_pos h6))
    have H6 := Aside0.mk h6
    clear hb
    clear HFE
    go_enter Tryz.func9, Tryz.ntmps9
    go_wp2_with (first
      | (go_at_call 33; refine (HTr.out _ HB.out).mono ?_; rintro e w2 ⟨rfl, hb⟩; have hbk := (hb.block _ (blk_lt HBK.out)).trans HBK.out; have b0 := cells_of_heap hbk 0 (.string r.m) rfl; have b1 := cells_of_heap hbk 1 (.string r.sc) rfl; have b2 := cells_of_heap hbk 2 (.string r.au) rfl; have b3 := cells_of_heap hbk 3 (.string r.pa) rfl; have b4 := cells_of_heap hbk 4 (.slice Bf r.fs.length bf) rfl; have b5 := cells_of_heap hbk 5 (.string r.body) rfl; have b6 := cells_of_heap hbk 6 (.slice Bt r.ts.length bt) rfl; have HBK2 := Aside0.mk hbk; have HB2 := Aside0.mk (below_step HB.out hb); clear hb hbk HBK HB; have HBK := HBK2; have HB := HB2; clear HBK2 HB2 HTr)
      | (go_at_call 34; refine (HSt.out _ HB.out).mono ?_; rintro e w2 ⟨rfl, hb⟩; have hbk := (hb.block _ (blk_lt HBK.out)).trans HBK.out; clear b0 b1 b2 b3 b4 b5 b6; have b0 := cells_of_heap hbk 0 (.string r.m) rfl; have b1 := cells_of_heap hbk 1 (.string r.sc) rfl; have b2 := cells_of_heap hbk 2 (.string r.au) rfl; have b3 := cells_of_heap hbk 3 (.string r.pa) rfl; have b4 := cells_of_heap hbk 4 (.slice Bf r.fs.length bf) rfl; have b5 := cells_of_heap hbk 5 (.string r.body) rfl; have b6 := cells_of_heap hbk 6 (.slice Bt r.ts.length bt) rfl; have b4a : ∀ o, (w2.alloc o).cell? ⟨w.heap.size, 4, none⟩ = some (.slice Bf r.fs.length bf) := (fun o => cells_of_heap ((heap_alloc_old w2 o (blk_lt hbk)).trans hbk) 4 _ rfl); have HBK2 := Aside0.mk hbk; have HB2 := Aside0.mk (below_step HB.out hb); clear hb hbk HBK HB; have HBK := HBK2; have HB := HB2; clear HBK2 HB2 HSt)
      | ((with_reducible refine gate_builtin (b := .append) (xs := #[.tmp 36, .tmp 38]) rfl ?_); at_builtin; refine list_app rfl (.tmp 36) (.tmp 38) rfl w2 w2.heap.size _ Bf 4 4 r.fs.length bf (ownFour r.m r.sc r.au r.pa) r.fs rfl rfl (fr_four w2 r.m r.sc r.au r.pa _ (Nat.le_refl _)) (Kd.C_below HC.out.1 (below_alloc HB.out _)) ?_ ?_ (below_alloc (Below.refl _ _) _) ?_; (have := HC.out.2.2; show 4 + r.fs.length ≤ 1000000; omega); (simp); intro A1 c1 w1 hF hb _; have hbk := (hb.block _ (blk_lt HBK.out)).trans HBK.out; clear b0 b1 b2 b3 b4 b5 b6 b4a; have b5 := cells_of_heap hbk 5 (.string r.body) rfl; have HBK2 := Aside0.mk hbk; have HF1 := Aside0.mk (hF.lower HB.out.size); have HB2 := Aside0.mk (below_step HB.out hb); clear hb hbk hF HBK HB; have HBK := HBK2; have HB := HB2; clear HBK2 HB2)
      | (go_at_call 35; refine (HRq.out _ _ _ _ (HF1.out.c HLL.out).1 (HF1.out.c HLL.out).2).mono ?_; rintro e w2 ⟨rfl, hb⟩; have hbk := (hb.block _ (blk_lt HBK.out)).trans HBK.out; clear b5; have b5 := cells_of_heap hbk 5 (.string r.body) rfl; have HBK2 := Aside0.mk hbk; have HB2 := Aside0.mk (below_step HB.out hb); have HF2 := Aside0.mk (HF1.out.step hb); clear hb hbk HBK HB HF1; have HBK := HBK2; have HB := HB2; have HF1 := HF2; clear HBK2 HB2 HF2 HRq)
      | (go_at_call 36; refine (HLe.out _ _ _ _ (HF1.out.c HLL.out).1 (HF1.out.c HLL.out).2).mono ?_; rintro e w2 ⟨rfl, hb⟩; have hbk := (hb.block _ (blk_lt HBK.out)).trans HBK.out; clear b5; have b5 := cells_of_heap hbk 5 (.string r.body) rfl; have HBK2 := Aside0.mk hbk; have HB2 := Aside0.mk (below_step HB.out hb); have HF2 := Aside0.mk (HF1.out.step hb); clear hb hbk HBK HB HF1; have HBK := HBK2; have HB := HB2; have HF1 := HF2; clear HBK2 HB2 HF2 HLe)
      | (go_at_call 34; refine (HSl.out _ _ _ _ (HF1.out.c HLL.out).1 (HF1.out.c HLL.out).2).mono ?_; rintro e w2 ⟨rfl, hb⟩; have hbk := (hb.block _ (blk_lt HBK.out)).trans HBK.out; clear b5; have b5 := cells_of_heap hbk 5 (.string r.body) rfl; have HBK2 := Aside0.mk hbk; have HB2 := Aside0.mk (below_step HB.out hb); have HF2 := Aside0.mk (HF1.out.step hb); clear hb hbk HBK HB HF1; have HBK := HBK2; have HB := HB2; have HF1 := HF2; clear HBK2 HB2 HF2 HSl))
    go_ret2
    exact HN.out HE.out H6.out HB.out
  obtain rfl : l2 = 0 := Classical.byContradiction h6
  have HFE := Aside0.mk (HFE.out.trans (if_neg (fun h => h rfl)))
  by_cases h7 : l1 ≥ 0
  · have e7 : decide (l1 ≥ 0) = true := decide_eq_true h7
    by_cases h8 : l1 = (r.body.size : Int)
    · have e8 : decide (l1 = (r.body.size : Int)) = true := decide_eq_true h8
      have e8b : (l1 == (r.body.size : Int)) = true := beq_iff_eq.2 h8
      have HE := Aside0.mk (HFE.out.trans (if_neg (fun h => h.2 h8)))
      clear hb h7 h8
      clear HFE
      go_enter Tryz.func9, Tryz.ntmps9
      go_wp2_with (first
        | (go_at_call 33; refine (HTr.out _ HB.out).mono ?_; rintro e w2 ⟨rfl, hb⟩; have hbk := (hb.block _ (blk_lt HBK.out)).trans HBK.out; have b0 := cells_of_heap hbk 0 (.string r.m) rfl; have b1 := cells_of_heap hbk 1 (.string r.sc) rfl; have b2 := cells_of_heap hbk 2 (.string r.au) rfl; have b3 := cells_of_heap hbk 3 (.string r.pa) rfl; have b4 := cells_of_heap hbk 4 (.slice Bf r.fs.length bf) rfl; have b5 := cells_of_heap hbk 5 (.string r.body) rfl; have b6 := cells_of_heap hbk 6 (.slice Bt r.ts.length bt) rfl; have HBK2 := Aside0.mk hbk; have HB2 := Aside0.mk (below_step HB.out hb); clear hb hbk HBK HB; have HBK := HBK2; have HB := HB2; clear HBK2 HB2 HTr)
        | (go_at_call 34; refine (HSt.out _ HB.out).mono ?_; rintro e w2 ⟨rfl, hb⟩; have hbk := (hb.block _ (blk_lt HBK.out)).trans HBK.out; clear b0 b1 b2 b3 b4 b5 b6; have b0 := cells_of_heap hbk 0 (.string r.m) rfl; have b1 := cells_of_heap hbk 1 (.string r.sc) rfl; have b2 := cells_of_heap hbk 2 (.string r.au) rfl; have b3 := cells_of_heap hbk 3 (.string r.pa) rfl; have b4 := cells_of_heap hbk 4 (.slice Bf r.fs.length bf) rfl; have b5 := cells_of_heap hbk 5 (.string r.body) rfl; have b6 := cells_of_heap hbk 6 (.slice Bt r.ts.length bt) rfl; have b4a : ∀ o, (w2.alloc o).cell? ⟨w.heap.size, 4, none⟩ = some (.slice Bf r.fs.length bf) := (fun o => cells_of_heap ((heap_alloc_old w2 o (blk_lt hbk)).trans hbk) 4 _ rfl); have HBK2 := Aside0.mk hbk; have HB2 := Aside0.mk (below_step HB.out hb); clear hb hbk HBK HB; have HBK := HBK2; have HB := HB2; clear HBK2 HB2 HSt)
        | ((with_reducible refine gate_builtin (b := .append) (xs := #[.tmp 36, .tmp 38]) rfl ?_); at_builtin; refine list_app rfl (.tmp 36) (.tmp 38) rfl w2 w2.heap.size _ Bf 4 4 r.fs.length bf (ownFour r.m r.sc r.au r.pa) r.fs rfl rfl (fr_four w2 r.m r.sc r.au r.pa _ (Nat.le_refl _)) (Kd.C_below HC.out.1 (below_alloc HB.out _)) ?_ ?_ (below_alloc (Below.refl _ _) _) ?_; (have := HC.out.2.2; show 4 + r.fs.length ≤ 1000000; omega); (simp); intro A1 c1 w1 hF hb _; have hbk := (hb.block _ (blk_lt HBK.out)).trans HBK.out; clear b0 b1 b2 b3 b4 b5 b6 b4a; have b5 := cells_of_heap hbk 5 (.string r.body) rfl; have HBK2 := Aside0.mk hbk; have HF1 := Aside0.mk (hF.lower HB.out.size); have HB2 := Aside0.mk (below_step HB.out hb); clear hb hbk hF HBK HB; have HBK := HBK2; have HB := HB2; clear HBK2 HB2)
        | (go_at_call 35; refine (HRq.out _ _ _ _ (HF1.out.c HLL.out).1 (HF1.out.c HLL.out).2).mono ?_; rintro e w2 ⟨rfl, hb⟩; have hbk := (hb.block _ (blk_lt HBK.out)).trans HBK.out; clear b5; have b5 := cells_of_heap hbk 5 (.string r.body) rfl; have HBK2 := Aside0.mk hbk; have HB2 := Aside0.mk (below_step HB.out hb); have HF2 := Aside0.mk (HF1.out.step hb); clear hb hbk HBK HB HF1; have HBK := HBK2; have HB := HB2; have HF1 := HF2; clear HBK2 HB2 HF2 HRq)
        | (go_at_call 36; refine (HLe.out _ _ _ _ (HF1.out.c HLL.out).1 (HF1.out.c HLL.out).2).mono ?_; rintro e w2 ⟨rfl, hb⟩; have hbk := (hb.block _ (blk_lt HBK.out)).trans HBK.out; clear b5; have b5 := cells_of_heap hbk 5 (.string r.body) rfl; have HBK2 := Aside0.mk hbk; have HB2 := Aside0.mk (below_step HB.out hb); have HF2 := Aside0.mk (HF1.out.step hb); clear hb hbk HBK HB HF1; have HBK := HBK2; have HB := HB2; have HF1 := HF2; clear HBK2 HB2 HF2 HLe)
        | (go_at_call 34; refine (HSl.out _ _ _ _ (HF1.out.c HLL.out).1 (HF1.out.c HLL.out).2).mono ?_; rintro e w2 ⟨rfl, hb⟩; have hbk := (hb.block _ (blk_lt HBK.out)).trans HBK.out; clear b5; have b5 := cells_of_heap hbk 5 (.string r.body) rfl; have HBK2 := Aside0.mk hbk; have HB2 := Aside0.mk (below_step HB.out hb); have HF2 := Aside0.mk (HF1.out.step hb); clear hb hbk HBK HB HF1; have HBK := HBK2; have HB := HB2; have HF1 := HF2; clear HBK2 HB2 HF2 HSl))
      go_ret2
      exact ⟨HB.out, A1, 4 + r.fs.length, c1, by rw [HE.out]; rfl, fun h => absurd HE.out h, fun _ => HF1.out⟩
    · have e8 : decide (l1 = (r.body.size : Int)) = false := decide_eq_false h8
      have e8b : (l1 == (r.body.size : Int)) = false := beq_eq_false_iff_ne.2 h8
      have HE := Aside0.mk (HFE.out.trans (if_pos ⟨h7, h8⟩))
      clear hb h7
      clear HFE
      go_enter Tryz.func9, Tryz.ntmps9
      go_wp2_with (first
        | (go_at_call 33; refine (HTr.out _ HB.out).mono ?_; rintro e w2 ⟨rfl, hb⟩; have hbk := (hb.block _ (blk_lt HBK.out)).trans HBK.out; have b0 := cells_of_heap hbk 0 (.string r.m) rfl; have b1 := cells_of_heap hbk 1 (.string r.sc) rfl; have b2 := cells_of_heap hbk 2 (.string r.au) rfl; have b3 := cells_of_heap hbk 3 (.string r.pa) rfl; have b4 := cells_of_heap hbk 4 (.slice Bf r.fs.length bf) rfl; have b5 := cells_of_heap hbk 5 (.string r.body) rfl; have b6 := cells_of_heap hbk 6 (.slice Bt r.ts.length bt) rfl; have HBK2 := Aside0.mk hbk; have HB2 := Aside0.mk (below_step HB.out hb); clear hb hbk HBK HB; have HBK := HBK2; have HB := HB2; clear HBK2 HB2 HTr)
        | (go_at_call 34; refine (HSt.out _ HB.out).mono ?_; rintro e w2 ⟨rfl, hb⟩; have hbk := (hb.block _ (blk_lt HBK.out)).trans HBK.out; clear b0 b1 b2 b3 b4 b5 b6; have b0 := cells_of_heap hbk 0 (.string r.m) rfl; have b1 := cells_of_heap hbk 1 (.string r.sc) rfl; have b2 := cells_of_heap hbk 2 (.string r.au) rfl; have b3 := cells_of_heap hbk 3 (.string r.pa) rfl; have b4 := cells_of_heap hbk 4 (.slice Bf r.fs.length bf) rfl; have b5 := cells_of_heap hbk 5 (.string r.body) rfl; have b6 := cells_of_heap hbk 6 (.slice Bt r.ts.length bt) rfl; have b4a : ∀ o, (w2.alloc o).cell? ⟨w.heap.size, 4, none⟩ = some (.slice Bf r.fs.length bf) := (fun o => cells_of_heap ((heap_alloc_old w2 o (blk_lt hbk)).trans hbk) 4 _ rfl); have HBK2 := Aside0.mk hbk; have HB2 := Aside0.mk (below_step HB.out hb); clear hb hbk HBK HB; have HBK := HBK2; have HB := HB2; clear HBK2 HB2 HSt)
        | ((with_reducible refine gate_builtin (b := .append) (xs := #[.tmp 36, .tmp 38]) rfl ?_); at_builtin; refine list_app rfl (.tmp 36) (.tmp 38) rfl w2 w2.heap.size _ Bf 4 4 r.fs.length bf (ownFour r.m r.sc r.au r.pa) r.fs rfl rfl (fr_four w2 r.m r.sc r.au r.pa _ (Nat.le_refl _)) (Kd.C_below HC.out.1 (below_alloc HB.out _)) ?_ ?_ (below_alloc (Below.refl _ _) _) ?_; (have := HC.out.2.2; show 4 + r.fs.length ≤ 1000000; omega); (simp); intro A1 c1 w1 hF hb _; have hbk := (hb.block _ (blk_lt HBK.out)).trans HBK.out; clear b0 b1 b2 b3 b4 b5 b6 b4a; have b5 := cells_of_heap hbk 5 (.string r.body) rfl; have HBK2 := Aside0.mk hbk; have HF1 := Aside0.mk (hF.lower HB.out.size); have HB2 := Aside0.mk (below_step HB.out hb); clear hb hbk hF HBK HB; have HBK := HBK2; have HB := HB2; clear HBK2 HB2)
        | (go_at_call 35; refine (HRq.out _ _ _ _ (HF1.out.c HLL.out).1 (HF1.out.c HLL.out).2).mono ?_; rintro e w2 ⟨rfl, hb⟩; have hbk := (hb.block _ (blk_lt HBK.out)).trans HBK.out; clear b5; have b5 := cells_of_heap hbk 5 (.string r.body) rfl; have HBK2 := Aside0.mk hbk; have HB2 := Aside0.mk (below_step HB.out hb); have HF2 := Aside0.mk (HF1.out.step hb); clear hb hbk HBK HB HF1; have HBK := HBK2; have HB := HB2; have HF1 := HF2; clear HBK2 HB2 HF2 HRq)
        | (go_at_call 36; refine (HLe.out _ _ _ _ (HF1.out.c HLL.out).1 (HF1.out.c HLL.out).2).mono ?_; rintro e w2 ⟨rfl, hb⟩; have hbk := (hb.block _ (blk_lt HBK.out)).trans HBK.out; clear b5; have b5 := cells_of_heap hbk 5 (.string r.body) rfl; have HBK2 := Aside0.mk hbk; have HB2 := Aside0.mk (below_step HB.out hb); have HF2 := Aside0.mk (HF1.out.step hb); clear hb hbk HBK HB HF1; have HBK := HBK2; have HB := HB2; have HF1 := HF2; clear HBK2 HB2 HF2 HLe)
        | (go_at_call 34; refine (HSl.out _ _ _ _ (HF1.out.c HLL.out).1 (HF1.out.c HLL.out).2).mono ?_; rintro e w2 ⟨rfl, hb⟩; have hbk := (hb.block _ (blk_lt HBK.out)).trans HBK.out; clear b5; have b5 := cells_of_heap hbk 5 (.string r.body) rfl; have HBK2 := Aside0.mk hbk; have HB2 := Aside0.mk (below_step HB.out hb); have HF2 := Aside0.mk (HF1.out.step hb); clear hb hbk HBK HB HF1; have HBK := HBK2; have HB := HB2; have HF1 := HF2; clear HBK2 HB2 HF2 HSl))
      go_ret2
      exact HN.out HE.out (by decide) HB.out
  · have e7 : decide (l1 ≥ 0) = false := decide_eq_false h7
    have HE := Aside0.mk (HFE.out.trans (if_neg (fun h => h7 h.1)))
    clear hb h7
    clear HFE
    go_enter Tryz.func9, Tryz.ntmps9
    go_wp2_with (first
      | (go_at_call 33; refine (HTr.out _ HB.out).mono ?_; rintro e w2 ⟨rfl, hb⟩; have hbk := (hb.block _ (blk_lt HBK.out)).trans HBK.out; have b0 := cells_of_heap hbk 0 (.string r.m) rfl; have b1 := cells_of_heap hbk 1 (.string r.sc) rfl; have b2 := cells_of_heap hbk 2 (.string r.au) rfl; have b3 := cells_of_heap hbk 3 (.string r.pa) rfl; have b4 := cells_of_heap hbk 4 (.slice Bf r.fs.length bf) rfl; have b5 := cells_of_heap hbk 5 (.string r.body) rfl; have b6 := cells_of_heap hbk 6 (.slice Bt r.ts.length bt) rfl; have HBK2 := Aside0.mk hbk; have HB2 := Aside0.mk (below_step HB.out hb); clear hb hbk HBK HB; have HBK := HBK2; have HB := HB2; clear HBK2 HB2 HTr)
      | (go_at_call 34; refine (HSt.out _ HB.out).mono ?_; rintro e w2 ⟨rfl, hb⟩; have hbk := (hb.block _ (blk_lt HBK.out)).trans HBK.out; clear b0 b1 b2 b3 b4 b5 b6; have b0 := cells_of_heap hbk 0 (.string r.m) rfl; have b1 := cells_of_heap hbk 1 (.string r.sc) rfl; have b2 := cells_of_heap hbk 2 (.string r.au) rfl; have b3 := cells_of_heap hbk 3 (.string r.pa) rfl; have b4 := cells_of_heap hbk 4 (.slice Bf r.fs.length bf) rfl; have b5 := cells_of_heap hbk 5 (.string r.body) rfl; have b6 := cells_of_heap hbk 6 (.slice Bt r.ts.length bt) rfl; have b4a : ∀ o, (w2.alloc o).cell? ⟨w.heap.size, 4, none⟩ = some (.slice Bf r.fs.length bf) := (fun o => cells_of_heap ((heap_alloc_old w2 o (blk_lt hbk)).trans hbk) 4 _ rfl); have HBK2 := Aside0.mk hbk; have HB2 := Aside0.mk (below_step HB.out hb); clear hb hbk HBK HB; have HBK := HBK2; have HB := HB2; clear HBK2 HB2 HSt)
      | ((with_reducible refine gate_builtin (b := .append) (xs := #[.tmp 36, .tmp 38]) rfl ?_); at_builtin; refine list_app rfl (.tmp 36) (.tmp 38) rfl w2 w2.heap.size _ Bf 4 4 r.fs.length bf (ownFour r.m r.sc r.au r.pa) r.fs rfl rfl (fr_four w2 r.m r.sc r.au r.pa _ (Nat.le_refl _)) (Kd.C_below HC.out.1 (below_alloc HB.out _)) ?_ ?_ (below_alloc (Below.refl _ _) _) ?_; (have := HC.out.2.2; show 4 + r.fs.length ≤ 1000000; omega); (simp); intro A1 c1 w1 hF hb _; have hbk := (hb.block _ (blk_lt HBK.out)).trans HBK.out; clear b0 b1 b2 b3 b4 b5 b6 b4a; have b5 := cells_of_heap hbk 5 (.string r.body) rfl; have HBK2 := Aside0.mk hbk; have HF1 := Aside0.mk (hF.lower HB.out.size); have HB2 := Aside0.mk (below_step HB.out hb); clear hb hbk hF HBK HB; have HBK := HBK2; have HB := HB2; clear HBK2 HB2)
      | (go_at_call 35; refine (HRq.out _ _ _ _ (HF1.out.c HLL.out).1 (HF1.out.c HLL.out).2).mono ?_; rintro e w2 ⟨rfl, hb⟩; have hbk := (hb.block _ (blk_lt HBK.out)).trans HBK.out; clear b5; have b5 := cells_of_heap hbk 5 (.string r.body) rfl; have HBK2 := Aside0.mk hbk; have HB2 := Aside0.mk (below_step HB.out hb); have HF2 := Aside0.mk (HF1.out.step hb); clear hb hbk HBK HB HF1; have HBK := HBK2; have HB := HB2; have HF1 := HF2; clear HBK2 HB2 HF2 HRq)
      | (go_at_call 36; refine (HLe.out _ _ _ _ (HF1.out.c HLL.out).1 (HF1.out.c HLL.out).2).mono ?_; rintro e w2 ⟨rfl, hb⟩; have hbk := (hb.block _ (blk_lt HBK.out)).trans HBK.out; clear b5; have b5 := cells_of_heap hbk 5 (.string r.body) rfl; have HBK2 := Aside0.mk hbk; have HB2 := Aside0.mk (below_step HB.out hb); have HF2 := Aside0.mk (HF1.out.step hb); clear hb hbk HBK HB HF1; have HBK := HBK2; have HB := HB2; have HF1 := HF2; clear HBK2 HB2 HF2 HLe)
      | (go_at_call 34; refine (HSl.out _ _ _ _ (HF1.out.c HLL.out).1 (HF1.out.c HLL.out).2).mono ?_; rintro e w2 ⟨rfl, hb⟩; have hbk := (hb.block _ (blk_lt HBK.out)).trans HBK.out; clear b5; have b5 := cells_of_heap hbk 5 (.string r.body) rfl; have HBK2 := Aside0.mk hbk; have HB2 := Aside0.mk (below_step HB.out hb); have HF2 := Aside0.mk (HF1.out.step hb); clear hb hbk HBK HB HF1; have HBK := HBK2; have HB := HB2; have HF1 := HF2; clear HBK2 HB2 HF2 HSl))
    go_ret2
    exact ⟨HB.out, A1, 4 + r.fs.length, c1, by rw [HE.out]; rfl, fun h => absurd HE.out h, fun _ => HF1.out⟩
theorem listR_c (r : RQ) (Bf Bt : Option Addr) (bf bt : Nat) (w : World) (hF : k61.C w Bf r.fs.length r.fs) (hT : k61.C w Bt r.ts.length r.ts) (_ : r.fs.length ≤ bf) (ht : r.ts.length ≤ bt) (hS1 : Sized r.ts) (hS2 : Sized (listP r)) (hlf : r.fs.length ≤ 40) (hlt : r.ts.length ≤ 40) (hbd : r.body.size ≤ 1000000000) :
    Calls Tryz.prog 9 #[rqV r Bf bf Bt bt] w fun e w' => ∃ A c, e = .returned (.tuple #[.slice A (if fieldsE r = 0 then listP r else []).length c, .int .i64 (fieldsE r)]) ∧ k61.C w' A (if fieldsE r = 0 then listP r else []).length (if fieldsE r = 0 then listP r else []) ∧ (if fieldsE r = 0 then listP r else []).length ≤ c ∧ Below w.heap.size w w' := by
  refine (list9_c r Bf Bt bf bt w hF hT ht (by omega) hbd hS1 hS2).mono ?_
  rintro e w' ⟨hb, A, n, c, rfl, h0, h1⟩
  by_cases h : fieldsE r = 0
  · rw [if_pos h]
    have h2 := h1 h
    obtain ⟨q1, q2⟩ := h2.c (by have := hS2.len; omega)
    have hn := h2.1
    subst hn
    exact ⟨A, c, rfl, q1, q2, hb⟩
  · rw [if_neg h]
    obtain ⟨rfl, rfl, rfl⟩ := h0 h
    exact ⟨none, 0, rfl, Kd.C_nil _ _, Nat.le_refl _, hb⟩
end Go.Proofs.YtififgiicpdndaaGreatDoor.Fw
/- MessageTells: Lent, Stays. -/
namespace Go.Proofs.YtififgiicpdndaaGreatDoor.Fw
open Go.RowKit Go.Proofs.YtififgiicpdndaaGreatDoor.XMi Go.Proofs.YtififgiicpdndaaGreatDoorW.PrintWords Go.Proofs.YtififgiicpdndaaGreatDoorW.PrintLast Go.Proofs.YtififgiicpdndaaGreatDoorW.PrintMore Go.Proofs.YtififgiicpdndaaGreatDoor.Ms Go.Proofs.YtififgiicpdndaaGreatDoor.Ob
/-- Two rows with room behind them. -/
structure Lt (w : World) (r : RQ) (g1 c1 g2 c2 : Nat) : Prop where
  f : Bk.FR w (some ⟨g1, 0, none⟩) (r.fs.length + 1) c1 (r.fs ++ [Bk.markF])
  t : Bk.FR w (some ⟨g2, 0, none⟩) (r.ts.length + 1) c2 (r.ts ++ [Bk.markF])
theorem Lt.keep {w w' : World} {r : RQ} {g1 c1 g2 c2 : Nat} (h : Lt w r g1 c1 g2 c2) (hk : ∀ g, g < w.heap.size → (g = g1 ∨ g = g2) → w'.heap[g]? = w.heap[g]?) : Lt w' r g1 c1 g2 c2 :=
  ⟨h.f.keep fun g e => hk g (h.f.lt g e) (.inl (by injection e with e; injection e with e; exact e.symm)), h.t.keep fun g e => hk g (h.t.lt g e) (.inr (by injection e with e; injection e with e; exact e.symm))⟩
theorem Lt.below {w w' : World} {r : RQ} {g1 c1 g2 c2 : Nat} (h : Lt w r g1 c1 g2 c2) (hb : Below w.heap.size w w') : Lt w' r g1 c1 g2 c2 := h.keep fun g hg _ => hb.block g hg
theorem Lt.cf {w : World} {r : RQ} {g1 c1 g2 c2 : Nat} (h : Lt w r g1 c1 g2 c2) (hl : r.fs.length ≤ 1000) : k61.C w (some ⟨g1, 0, none⟩) r.fs.length r.fs ∧ r.fs.length ≤ c1 := by
  have := h.f.take r.fs.length (by omega)
  rw [List.take_left] at this
  exact ⟨this.c (by omega), by have := h.f.room; omega⟩
theorem Lt.ct {w : World} {r : RQ} {g1 c1 g2 c2 : Nat} (h : Lt w r g1 c1 g2 c2) (hl : r.ts.length ≤ 1000) : k61.C w (some ⟨g2, 0, none⟩) r.ts.length r.ts ∧ r.ts.length ≤ c2 := by
  have := h.t.take r.ts.length (by omega)
  rw [List.take_left] at this
  exact ⟨this.c (by omega), by have := h.t.room; omega⟩
set_option maxHeartbeats 3200000 in
set_option maxRecDepth 20000 in
theorem lentR_c (r : RQ) (Bf Bt : Option Addr) (bf bt : Nat) (w : World) (hf : k61.C w Bf r.fs.length r.fs) (ht : k61.C w Bt r.ts.length r.ts) (hl : r.fs.length ≤ 1000 ∧ r.ts.length ≤ 1000) :
    Calls Tryz.prog 7 #[rqV r Bf bf Bt bt] w fun e w' => ∃ g1 c1 g2 c2 : Nat, e = .returned (rqV r (some ⟨g1, 0, none⟩) c1 (some ⟨g2, 0, none⟩) c2) ∧ Lt w' r g1 c1 g2 c2 ∧ w.heap.size ≤ g1 ∧ w.heap.size ≤ g2 ∧ Below w.heap.size w w' := by
  obtain ⟨m, sc, au, pa, fs, body, ts⟩ := r
  dsimp only at hf ht hl
  have HC := Aside0.mk (And.intro hf (And.intro ht hl))
  have HB := Aside0.mk (Below.refl w.heap.size w)
  clear hf ht hl
  unfold rqV
  dsimp only
  go_enter Tryz.func7, Tryz.ntmps7
  go_wp2
  have HA := Aside0.mk (below_alloc HB.out (.cells #[.string m, .string sc, .string au, .string pa, .slice Bf fs.length bf, .string body, .slice Bt ts.length bt] 24))
  have HK := Aside0.mk (heap_alloc_new w (.cells #[.string m, .string sc, .string au, .string pa, .slice Bf fs.length bf, .string body, .slice Bt ts.length bt] 24))
  generalize hW0 : w.alloc (.cells #[.string m, .string sc, .string au, .string pa, .slice Bf fs.length bf, .string body, .slice Bt ts.length bt] 24) = W0 at HA HK ⊢
  have hs0 : W0.heap.size = w.heap.size + 1 := by rw [← hW0]; simp
  have HBK := Aside0.mk ((heap_alloc_old W0 (.cells #[.string ⟨#[]⟩, .string ⟨#[]⟩, .string ⟨#[]⟩, .string ⟨#[]⟩, .slice none 0 0, .string ⟨#[]⟩, .slice none 0 0] 24) (blk_lt HK.out)).trans HK.out)
  have HZ := Aside0.mk (heap_alloc_new W0 (.cells #[.string ⟨#[]⟩, .string ⟨#[]⟩, .string ⟨#[]⟩, .string ⟨#[]⟩, .slice none 0 0, .string ⟨#[]⟩, .slice none 0 0] 24))
  have HB1 := Aside0.mk (below_alloc HA.out (.cells #[.string ⟨#[]⟩, .string ⟨#[]⟩, .string ⟨#[]⟩, .string ⟨#[]⟩, .slice none 0 0, .string ⟨#[]⟩, .slice none 0 0] 24))
  rw [hs0] at HZ
  generalize W0.alloc (.cells #[.string ⟨#[]⟩, .string ⟨#[]⟩, .string ⟨#[]⟩, .string ⟨#[]⟩, .slice none 0 0, .string ⟨#[]⟩, .slice none 0 0] 24) = W1 at HBK HZ HB1 ⊢
  have H1 := Aside0.mk (fun (W : World) (hb : Below w.heap.size w W) => Bk.lent_c (c := bf) (Kd.C_below HC.out.1 hb) (by have := HC.out.2.2; omega))
  have H2 := Aside0.mk (fun (W : World) (hb : Below w.heap.size w W) => Bk.lent_c (c := bt) (Kd.C_below HC.out.2.1 hb) (by have := HC.out.2.2; omega))
  have HSW : Aside0 (w.heap.size + 1 < W1.heap.size) := ⟨blk_lt HZ.out⟩
  have hbk := HBK.out
  have b4 := cells_of_heap hbk 4 _ rfl
  have b6 := cells_of_heap hbk 6 _ rfl
  clear hbk hs0 hW0 HA HK
  have HB11 := Aside0.mk (Below.refl W1.heap.size W1)
  go_region_law (first
    | (go_simp; go_wp2_with (first
      | (go_at_call 19; refine (H1.out _ ?hb).mono ?_; (case hb => (repeat' first | exact HB1.out | (with_reducible refine below_drew ?_))); rintro e w2 ⟨g1, c1, rfl, hF, hg, hb⟩; have hb12 := first_below HB11.out hb; have hbk := (hb12.block _ (blk_lt HBK.out)).trans HBK.out; have b6b := cells_of_heap hbk 6 _ rfl; have HBK2 := Aside0.mk hbk; have HZ2 := Aside0.mk ((hb12.block _ (blk_lt HZ.out)).trans HZ.out); have HB2 := Aside0.mk (below_step HB1.out hb12); have HF2 := Aside0.mk hF; have HG1 : Aside0 (W1.heap.size ≤ g1) := ⟨hg⟩; clear hF hg hb hb12 hbk H1)
      | (go_at_call 19; refine (H2.out _ HB2.out).mono ?_; rintro e w3 ⟨g2, c2, rfl, hF, hg, hb⟩; have hbk := (hb.block _ (blk_lt HBK2.out)).trans HBK2.out; have hzk := (hb.block _ (blk_lt HZ2.out)).trans HZ2.out; clear b4 b6 b6b; have b0 := cells_of_heap hbk 0 _ rfl; have b1 := cells_of_heap hbk 1 _ rfl; have b2 := cells_of_heap hbk 2 _ rfl; have b3 := cells_of_heap hbk 3 _ rfl; have b4 := cells_of_heap hbk 4 _ rfl; have b5 := cells_of_heap hbk 5 _ rfl; have b6 := cells_of_heap hbk 6 _ rfl; have z0 := cells_of_heap hzk 0 _ rfl; have z1 := cells_of_heap hzk 1 _ rfl; have z2 := cells_of_heap hzk 2 _ rfl; have z3 := cells_of_heap hzk 3 _ rfl; have z4 := cells_of_heap hzk 4 _ rfl; have z5 := cells_of_heap hzk 5 _ rfl; have z6 := cells_of_heap hzk 6 _ rfl; have fb : ∀ j, w3.frozen? ⟨w.heap.size, j, none⟩ = false := Bk.fz_of hbk; have fz : ∀ j, w3.frozen? ⟨w.heap.size + 1, j, none⟩ = false := Bk.fz_of hzk; have HB3 := Aside0.mk (below_step HB2.out hb); have HF3 := Aside0.mk (HF2.out.keep (w' := w3) fun g e => hb.block g (HF2.out.lt g e)); have HT3 := Aside0.mk hF; have HSz : Aside0 (W1.heap.size ≤ w2.heap.size) := ⟨by have := HG1.out; have := HF2.out.lt _ rfl; omega⟩; have HG2 : Aside0 (w2.heap.size ≤ g2) := ⟨hg⟩; have HZ3 := Aside0.mk hzk; clear hF hg hb hbk hzk H2))))
  all_goals
    go_wp2
    have hz0 : (((w3.setCell ⟨w.heap.size, 4, none⟩ (.slice (some ⟨g1, 0, none⟩) fs.length c1)).setCell ⟨w.heap.size, 6, none⟩ (.slice (some ⟨g2, 0, none⟩) ts.length c2))).heap[w.heap.size + 1]? = _ := (Below.heap_setCell _ ⟨w.heap.size, 6, none⟩ _ (w.heap.size + 1) (Nat.succ_ne_self _)).trans ((Below.heap_setCell _ ⟨w.heap.size, 4, none⟩ _ (w.heap.size + 1) (Nat.succ_ne_self _)).trans HZ3.out)
    have hz7 := Bk.heap_put (Bk.heap_put (Bk.heap_put (Bk.heap_put (Bk.heap_put (Bk.heap_put (Bk.heap_put hz0 0 (.string m) (by decide)) 1 (.string sc) (by simp)) 2 (.string au) (by simp)) 3 (.string pa) (by simp)) 4 (.slice (some ⟨g1, 0, none⟩) fs.length c1) (by simp)) 5 (.string body) (by simp)) 6 (.slice (some ⟨g2, 0, none⟩) ts.length c2) (by simp)
    refine bodyPost_ret (results_cell_row rfl _ _ (w.heap.size + 1) 24 #[.string m, .string sc, .string au, .string pa, .slice (some ⟨g1, 0, none⟩) fs.length c1, .string body, .slice (some ⟨g2, 0, none⟩) ts.length c2] (0, 0) _ rfl hz7 Tryz.underlying24 rfl (by kernel_rfl)) rfl ?_
    have hw1 := HSW.out
    have hs1 := HSz.out
    have hg1 := HG1.out
    have hg2 := HG2.out
    refine ⟨g1, c1, g2, c2, rfl, ?_, by omega, by omega, ?_⟩
    · have hk : ∀ (g : Nat), g ≠ w.heap.size → g ≠ w.heap.size + 1 → ∀ (W : World) (v4 v6 u0 u1 u2 u3 u4 u5 u6 : Value), (((((((((W.setCell ⟨w.heap.size, 4, none⟩ v4).setCell ⟨w.heap.size, 6, none⟩ v6).setCell ⟨w.heap.size + 1, 0, none⟩ u0).setCell ⟨w.heap.size + 1, 1, none⟩ u1).setCell ⟨w.heap.size + 1, 2, none⟩ u2).setCell ⟨w.heap.size + 1, 3, none⟩ u3).setCell ⟨w.heap.size + 1, 4, none⟩ u4).setCell ⟨w.heap.size + 1, 5, none⟩ u5).setCell ⟨w.heap.size + 1, 6, none⟩ u6).heap[g]? = W.heap[g]? := fun g h0 h1 W v4 v6 u0 u1 u2 u3 u4 u5 u6 => by
        repeat rw [Below.heap_setCell _ _ _ g (by first | exact h1 | exact h0)]
      exact ⟨HF3.out.keep fun g e => hk g (by injection e with e; injection e with e; omega) (by injection e with e; injection e with e; omega) _ _ _ _ _ _ _ _ _ _, HT3.out.keep fun g e => hk g (by injection e with e; injection e with e; omega) (by injection e with e; injection e with e; omega) _ _ _ _ _ _ _ _ _ _⟩
    · exact (((((((((HB3.out.setCell (p := ⟨w.heap.size, 4, none⟩) (Nat.le_refl _) _).setCell (p := ⟨w.heap.size, 6, none⟩) (Nat.le_refl _) _).setCell (p := ⟨w.heap.size + 1, 0, none⟩) (Nat.le_succ _) _).setCell (p := ⟨w.heap.size + 1, 1, none⟩) (Nat.le_succ _) _).setCell (p := ⟨w.heap.size + 1, 2, none⟩) (Nat.le_succ _) _).setCell (p := ⟨w.heap.size + 1, 3, none⟩) (Nat.le_succ _) _).setCell (p := ⟨w.heap.size + 1, 4, none⟩) (Nat.le_succ _) _).setCell (p := ⟨w.heap.size + 1, 5, none⟩) (Nat.le_succ _) _).setCell (p := ⟨w.heap.size + 1, 6, none⟩) (Nat.le_succ _) _)
set_option maxHeartbeats 1600000 in
set_option maxRecDepth 20000 in
theorem staysR_c (r : RQ) (Bf Bt : Option Addr) (bf bt g1 c1 g2 c2 : Nat) (w : World) (h : Lt w r g1 c1 g2 c2) (hf : k61.C w Bf r.fs.length r.fs) (ht : k61.C w Bt r.ts.length r.ts) (hbf : r.fs.length ≤ bf) (hbt : r.ts.length ≤ bt) (hl : r.fs.length ≤ 1000 ∧ r.ts.length ≤ 1000) :
    Calls Tryz.prog 15 #[rqV r (some ⟨g1, 0, none⟩) c1 (some ⟨g2, 0, none⟩) c2, rqV r Bf bf Bt bt] w fun e w' => e = .returned (.bool true) ∧ Below w.heap.size w w' := by
  have H1 := Aside0.mk (fun (W : World) (hb : Below w.heap.size w W) => Bk.stays_c (d := bf) (h.below hb).f (Kd.C_below hf hb) hbf (by omega))
  have H2 := Aside0.mk (fun (W : World) (hb : Below w.heap.size w W) => Bk.stays_c (d := bt) (h.below hb).t (Kd.C_below ht hb) hbt (by omega))
  have HB := Aside0.mk (Below.refl w.heap.size w)
  obtain ⟨m, sc, au, pa, fs, body, ts⟩ := r
  clear h hf ht hbf hbt hl
  unfold rqV
  dsimp only at H1 H2 ⊢
  go_enter Tryz.func15, Tryz.ntmps15
  have hA := heap_alloc2_new w (.cells #[.string m, .string sc, .string au, .string pa, .slice (some ⟨g1, 0, none⟩) fs.length c1, .string body, .slice (some ⟨g2, 0, none⟩) ts.length c2] 24) (.cells #[.string m, .string sc, .string au, .string pa, .slice Bf fs.length bf, .string body, .slice Bt ts.length bt] 24)
  have hA0 := (heap_alloc_old (w.alloc (.cells #[.string m, .string sc, .string au, .string pa, .slice (some ⟨g1, 0, none⟩) fs.length c1, .string body, .slice (some ⟨g2, 0, none⟩) ts.length c2] 24)) (.cells #[.string m, .string sc, .string au, .string pa, .slice Bf fs.length bf, .string body, .slice Bt ts.length bt] 24) (by simp : w.heap.size < (w.alloc (.cells #[.string m, .string sc, .string au, .string pa, .slice (some ⟨g1, 0, none⟩) fs.length c1, .string body, .slice (some ⟨g2, 0, none⟩) ts.length c2] 24)).heap.size)).trans (heap_alloc_new w (.cells #[.string m, .string sc, .string au, .string pa, .slice (some ⟨g1, 0, none⟩) fs.length c1, .string body, .slice (some ⟨g2, 0, none⟩) ts.length c2] 24))
  have HA := Aside0.mk (And.intro hA hA0)
  clear hA hA0
  go_wp2_with (first
    | (go_at_call 24; refine (H1.out _ (below_alloc (below_alloc HB.out _) _)).mono ?_; rintro e w1 ⟨rfl, hb⟩; have b6 := cells_of_heap ((hb.block _ (blk_lt HA.out.2)).trans HA.out.2) 6 _ rfl; have d6 := cells_of_heap ((hb.block _ (blk_lt HA.out.1)).trans HA.out.1) 6 _ rfl; have HB1 := Aside0.mk (below_step (below_alloc (below_alloc HB.out _) _) hb); clear hb H1)
    | (go_at_call 24; refine (H2.out _ HB1.out).mono ?_; rintro e w2 ⟨rfl, hb⟩; have HB2 := Aside0.mk (below_step HB1.out hb); clear hb H2))
  go_ret
  exact ⟨rfl, HB2.out⟩
end Go.Proofs.YtififgiicpdndaaGreatDoor.Fw
/- MessageTells. -/
namespace Go.Proofs.YtififgiicpdndaaGreatDoor.Fw
open Go.RowKit Go.Proofs.YtififgiicpdndaaGreatDoor.XMi Go.Proofs.YtififgiicpdndaaGreatDoorW.PrintWords Go.Proofs.YtififgiicpdndaaGreatDoorW.PrintLast Go.Proofs.YtififgiicpdndaaGreatDoorW.PrintMore Go.Proofs.YtififgiicpdndaaGreatDoor.Ms Go.Proofs.YtififgiicpdndaaGreatDoor.Ob
theorem fcells_eq : ∀ l : List S61, Bk.fcells l = fcells l
  | [] => rfl
  | x :: l => by simp [Bk.fcells, fcells, fcells_eq l]
theorem fr_bk {w : World} {base n c : Nat} {A : Option Addr} {l : List S61} (h : FR w base A n c l) : Bk.FR w A n c l ∧ ∀ g : Nat, A = some ⟨g, 0, none⟩ → base ≤ g := by
  obtain ⟨rfl, h1, h2⟩ := h
  rcases h2 with ⟨e, h0⟩ | ⟨g, cap, cur, e, hb, hr⟩
  · injection e with e1 e2 e3
    refine ⟨⟨rfl, by rw [fcells_eq]; exact h1, .inl ⟨by rw [e1, e3, h0], h0⟩⟩, fun g e => ?_⟩
    rw [e1] at e
    cases e
  · refine ⟨⟨rfl, by rw [fcells_eq]; exact h1, .inr ⟨g, cap, cur, e, Nat.zero_le _, by rw [fcells_eq]; exact hr⟩⟩, fun g' e2 => ?_⟩
    injection e with e1 _ _
    rw [e1] at e2
    injection e2 with e2
    injection e2 with e2
    omega
/-- message.Fields, the list told. -/
theorem fieldsL_c (r : RQ) (Bf Bt : Option Addr) (bf bt : Nat) (w : World) (hF : k61.C w Bf r.fs.length r.fs) (hT : k61.C w Bt r.ts.length r.ts) (ht : r.ts.length ≤ bt) (hlen : r.fs.length ≤ 90000) (hb : r.body.size ≤ 1000000000) (hS1 : Sized r.ts) (hS2 : Sized (listP r)) (er : Int) (he : fieldsE r = er) (L : List S61) (hL : L = if er = 0 then listP r else []) :
    Calls Tryz.prog 8 #[rqV r Bf bf Bt bt] w fun e w' => ∃ A c, e = .returned (.tuple #[.slice A L.length c, .int .i64 er]) ∧ Bk.FR w' A L.length c L ∧ (∀ g : Nat, A = some ⟨g, 0, none⟩ → w.heap.size ≤ g) ∧ Below w.heap.size w w' := by
  refine (fields_c r Bf Bt bf bt w hF hT ht hlen hb hS1 hS2).mono ?_
  rintro e w' ⟨hbl, A, n, c, rfl, h0, h1⟩
  rw [he] at h0 h1 ⊢
  by_cases h : er = 0
  · rw [if_pos h] at hL
    subst hL
    obtain ⟨q1, q2⟩ := fr_bk (h1 h)
    have hn := q1.1
    subst hn
    exact ⟨A, c, rfl, q1, q2, hbl⟩
  · rw [if_neg h] at hL
    subst hL
    obtain ⟨rfl, rfl, rfl⟩ := h0 h
    exact ⟨none, 0, rfl, Bk.FR.nil _, (fun g e => by cases e), hbl⟩
theorem safe_z (m : ByteArray) (w : World) : Calls Tryz.prog 13 #[.string m] w fun e w' => e = .returned (.bool (safeP m)) ∧ Below w.heap.size w w' := safe_c m w
set_option maxHeartbeats 12800000 in
set_option maxRecDepth 20000 in
theorem tells_calls (r : RQ) (Bf Bt : Option Addr) (bf bt : Nat) (method : ByteArray) (w : World) (h : RqOk w r Bf bf Bt bt) (_ : method.size ≤ reachBytes) : Calls Tryz.prog 3 #[rqV r Bf bf Bt bt, .string method] w fun e w' => e = .returned (.bool true) ∧ Below w.heap.size w w' := by
  have HB := Aside0.mk (Below.refl w.heap.size w)
  have HLi := Aside0.mk (fun (W : World) (hb : Below w.heap.size w W) => light_c r Bf Bt bf bt W ⟨Kd.C_below h.cf hb, Kd.C_below h.ct hb, h.lf, h.lt, h.all⟩)
  cases hlp : lightP r with
  | false =>
    rw [hlp] at HLi
    clear h hlp
    unfold rqV at HLi ⊢
    go_enter Tryz.func3, Tryz.ntmps3
    go_wp2_with (first
      | (go_at_call 5; refine (HLi.out _ (below_alloc HB.out _)).mono ?_; rintro e w1 ⟨rfl, hb⟩; have HB1 := Aside0.mk (below_step (below_alloc HB.out _) hb); clear hb)
      | (go_at_call 6; refine (alive_c _).mono ?_; rintro e w2 ⟨rfl, hb⟩; have HB2 := Aside0.mk (below_step HB1.out hb); clear hb))
    go_ret
    exact ⟨rfl, HB2.out⟩
  | true =>
    rw [hlp] at HLi
    by_cases hm : 60 < method.size
    · have e1 : decide ((method.size : Int) > 60) = true := decide_eq_true (by omega)
      have e2 : decide (60 < method.size) = true := decide_eq_true hm
      have e3 : decide (method.size > 60) = true := decide_eq_true hm
      clear h hlp hm
      unfold rqV at HLi ⊢
      go_enter Tryz.func3, Tryz.ntmps3
      go_wp2_with (first
        | (go_at_call 5; refine (HLi.out _ (below_alloc HB.out _)).mono ?_; rintro e w1 ⟨rfl, hb⟩; have HB1 := Aside0.mk (below_step (below_alloc HB.out _) hb); clear hb)
        | (go_at_call 6; refine (alive_c _).mono ?_; rintro e w2 ⟨rfl, hb⟩; have HB2 := Aside0.mk (below_step HB1.out hb); clear hb))
      go_ret
      exact ⟨rfl, HB2.out⟩
    have e1 : decide ((method.size : Int) > 60) = false := decide_eq_false (by omega)
    have e2 : decide (60 < method.size) = false := decide_eq_false hm
    have e3 : decide (method.size > 60) = false := decide_eq_false (by omega)
    obtain ⟨hs1, hs2, hlf, hbd, hlt⟩ := light_all hlp
    obtain ⟨er, her⟩ : ∃ er, fieldsE r = er := ⟨_, rfl⟩
    obtain ⟨L, hL⟩ : ∃ L, L = if er = 0 then listP r else [] := ⟨_, rfl⟩
    have hLl : L.length ≤ 1000 := by
      rw [hL]
      split
      · show (ownFour r.m r.sc r.au r.pa ++ r.fs).length ≤ 1000
        rw [List.length_append]
        show 4 + r.fs.length ≤ 1000
        omega
      · decide
    have HLn := Aside0.mk (fun (W : World) (hw : Below w.heap.size w W) => lentR_c r Bf Bt bf bt W (Kd.C_below h.cf hw) (Kd.C_below h.ct hw) (by omega))
    have HFs := Aside0.mk (fun (W : World) (g1 c1 g2 c2 : Nat) (ht : Lt W r g1 c1 g2 c2) => fieldsL_c r (some ⟨g1, 0, none⟩) (some ⟨g2, 0, none⟩) c1 c2 W (ht.cf (by omega)).1 (ht.ct (by omega)).1 (ht.ct (by omega)).2 (by omega) (by omega) hs1 hs2 er her L hL)
    have HRf := Aside0.mk (fun (W : World) (hw : Below w.heap.size w W) => by
      have := listR_c r Bf Bt bf bt W (Kd.C_below h.cf hw) (Kd.C_below h.ct hw) h.lf h.lt hs1 hs2 (by omega) (by omega) (by omega)
      rw [her, ← hL] at this
      exact this)
    have HRi := Aside0.mk (fun (W : World) (g1 c1 g2 c2 : Nat) (ht : Lt W r g1 c1 g2 c2) => by
      have := right_c r (some ⟨g1, 0, none⟩) (some ⟨g2, 0, none⟩) c1 c2 W (ht.cf (by omega)).1 (ht.ct (by omega)).1 (ht.ct (by omega)).2 (by omega) (by omega) hs1 hs2
      rw [her] at this
      exact this)
    have HSt := Aside0.mk (fun (W : World) (hw : Below w.heap.size w W) (g1 c1 g2 c2 : Nat) (ht : Lt W r g1 c1 g2 c2) => staysR_c r Bf Bt bf bt g1 c1 g2 c2 W ht (Kd.C_below h.cf hw) (Kd.C_below h.ct hw) h.lf h.lt (by omega))
    have HLl := Aside0.mk hLl
    obtain ⟨bl, hbl⟩ : ∃ bl, decide (er = 0) = bl := ⟨_, rfl⟩
    have hbl2 : (er == 0) = bl := by rw [← hbl]; exact Bool.beq_eq_decide_eq er 0
    have hs : ∀ b : Bool, (b == b) = true := fun b => by cases b <;> rfl
    clear h hlp hm hs1 hs2 hlf hbd hlt hL hLl her
    obtain ⟨m, sc, au, pa, fs, body, ts⟩ := r
    unfold rqV at HLi HLn HFs HRf HRi HSt ⊢
    dsimp only at HLi HLn HFs HRf HRi HSt
    generalize hsf : safeP method = sf
    have HSf := Aside0.mk hsf
    clear hsf
    go_enter Tryz.func3, Tryz.ntmps3
    go_wp2_with (first
      | (go_at_call 5; refine (HLi.out _ (below_alloc HB.out _)).mono ?_; rintro e w1 ⟨rfl, hb⟩; have HK1 := Aside0.mk ((hb.block _ (blk_lt (heap_alloc_new w _))).trans (heap_alloc_new w (.cells #[.string m, .string sc, .string au, .string pa, .slice Bf fs.length bf, .string body, .slice Bt ts.length bt] 24))); have HB1 := Aside0.mk (below_step (below_alloc HB.out _) hb); clear hb HLi)
      | (go_at_call 6; refine (alive_c _).mono ?_; rintro e w2 ⟨rfl, hb⟩; have hk := (hb.block _ (blk_lt HK1.out)).trans HK1.out; have r0 := cells_of_heap hk 0 _ rfl; have r1 := cells_of_heap hk 1 _ rfl; have r2 := cells_of_heap hk 2 _ rfl; have r3 := cells_of_heap hk 3 _ rfl; have r4 := cells_of_heap hk 4 _ rfl; have r5 := cells_of_heap hk 5 _ rfl; have r6 := cells_of_heap hk 6 _ rfl; have HK2 := Aside0.mk hk; have HB2 := Aside0.mk (below_step HB1.out hb); clear hb hk HB1 HK1)
      | (go_at_call 7; refine (HLn.out _ HB2.out).mono ?_; rintro e w3 ⟨g1, c1, g2, c2, rfl, ht, hg1, hg2, hb⟩; have hk := (hb.block _ (blk_lt HK2.out)).trans HK2.out; clear r0 r1 r2 r3 r4 r5 r6; have HK3 := Aside0.mk ((heap_alloc_old w3 (.cells #[.string m, .string sc, .string au, .string pa, .slice (some ⟨g1, 0, none⟩) fs.length c1, .string body, .slice (some ⟨g2, 0, none⟩) ts.length c2] 24) (blk_lt hk)).trans hk); have HM3 := Aside0.mk (heap_alloc_new w3 (.cells #[.string m, .string sc, .string au, .string pa, .slice (some ⟨g1, 0, none⟩) fs.length c1, .string body, .slice (some ⟨g2, 0, none⟩) ts.length c2] 24)); have HT3 := Aside0.mk (ht.below (below_alloc (Below.refl _ _) (.cells #[.string m, .string sc, .string au, .string pa, .slice (some ⟨g1, 0, none⟩) fs.length c1, .string body, .slice (some ⟨g2, 0, none⟩) ts.length c2] 24))); have HB3 := Aside0.mk (below_alloc (below_step HB2.out hb) (.cells #[.string m, .string sc, .string au, .string pa, .slice (some ⟨g1, 0, none⟩) fs.length c1, .string body, .slice (some ⟨g2, 0, none⟩) ts.length c2] 24)); have HSM : Aside0 (w.heap.size ≤ w3.heap.size) := ⟨(below_step HB2.out hb).size⟩; clear hb hk ht hg1 hg2 HB2 HK2 HLn)
      | (go_at_call 8; refine (HFs.out _ _ _ _ _ HT3.out).mono ?_; rintro e w4 ⟨A4, c4, rfl, hF, hA, hb⟩; have hk := (hb.block _ (blk_lt HK3.out)).trans HK3.out; have r0 := cells_of_heap hk 0 _ rfl; have r1 := cells_of_heap hk 1 _ rfl; have r2 := cells_of_heap hk 2 _ rfl; have r3 := cells_of_heap hk 3 _ rfl; have r4 := cells_of_heap hk 4 _ rfl; have r5 := cells_of_heap hk 5 _ rfl; have r6 := cells_of_heap hk 6 _ rfl; have HK4 := Aside0.mk hk; have HM4 := Aside0.mk ((hb.block _ (blk_lt HM3.out)).trans HM3.out); have HT4 := Aside0.mk (HT3.out.below hb); have HB4 := Aside0.mk (below_step HB3.out hb); have HF4 := Aside0.mk hF; have HA4 : Aside0 (∀ g : Nat, A4 = some ⟨g, 0, none⟩ → w.heap.size ≤ g) := ⟨fun g e => Nat.le_trans HB3.out.size (hA g e)⟩; clear hb hk hF hA HB3 HK3 HM3 HT3)
      | (go_at_call 9; refine (HRf.out _ HB4.out).mono ?_; rintro e w5 ⟨A5, c5, rfl, hC, hc, hb⟩; clear r0 r1 r2 r3 r4 r5 r6; have HK5 := Aside0.mk ((hb.block _ (blk_lt HK4.out)).trans HK4.out); have HM5 := Aside0.mk ((hb.block _ (blk_lt HM4.out)).trans HM4.out); have HT5 := Aside0.mk (HT4.out.below hb); have HF5 := Aside0.mk (HF4.out.keep fun g e => hb.block g (HF4.out.lt g e)); have HC5 := Aside0.mk (And.intro hC hc); have HB5 := Aside0.mk (below_step HB4.out hb); have HU5 := Aside0.mk (below_alloc (Below.refl w5.heap.size w5) (.cells #[.slice none 0 0, .slice none 0 0, .slice none 0 0, .slice none 0 0, .slice none 0 0, .slice none 0 0, .slice none 0 0, .slice none 0 0, .slice none 0 0, .slice none 0 0] 38)); have HKp5 := Aside0.mk (Bk.Kp.new w5 w.heap.size (below_step HB4.out hb).size); clear hb hC hc HB4 HK4 HM4 HT4 HF4 HRf)
      | (go_at_call 10; refine (Bk.Kp.fields HKp5.out (HF5.out.keep fun g e => HU5.out.block g (HF5.out.lt g e)) (by have := HLl.out; omega) (fun g e => ⟨HA4.out g e, HF5.out.lt g e⟩)).mono ?_; rintro e w6 ⟨rfl, hs6, hk6⟩; have hu := hs6.below HU5.out (fun k hk => Nat.le_of_not_lt hk.2.1); have hm := (hu.block _ (blk_lt HM5.out)).trans HM5.out; have m0 := cells_of_heap hm 0 _ rfl; have m1 := cells_of_heap hm 1 _ rfl; have m2 := cells_of_heap hm 2 _ rfl; have m3 := cells_of_heap hm 3 _ rfl; have m4 := cells_of_heap hm 4 _ rfl; have m5 := cells_of_heap hm 5 _ rfl; have m6 := cells_of_heap hm 6 _ rfl; have HSz6 : Aside0 (w5.heap.size ≤ w6.heap.size) := ⟨hu.size⟩; have HU6 := Aside0.mk hu; have HKp6 := Aside0.mk hk6; clear hs6 hk6 hu hm HKp5 HU5)
      | (go_at_call 8; refine (HFs.out _ _ _ _ _ (HT5.out.below HU6.out)).mono ?_; rintro e w7 ⟨A7, c7, rfl, hF, hA, hb⟩; clear m0 m1 m2 m3 m4 m5 m6; have HF7 := Aside0.mk hF; have HA7 := Aside0.mk (And.intro hA hF.lt); have HU7 := Aside0.mk (below_step HU6.out hb); have HKp7 := Aside0.mk (HKp6.out.below hb); clear hF hA hb HU6 HKp6)
      | (go_at_call 10; refine (Bk.Kp.fields HKp7.out HF7.out (by have := HLl.out; omega) (fun g e => ⟨Nat.le_trans (Nat.le_trans HB5.out.size HSz6.out) (HA7.out.1 g e), .inr ⟨HA7.out.1 g e, HA7.out.2 g e⟩⟩)).mono ?_; rintro e w8 ⟨rfl, hs8, hk8⟩; have hu := hs8.below HU7.out (fun k hk => Nat.le_of_not_lt fun h => hk.2.2 (.inr h)); have hm := (hu.block _ (blk_lt HM5.out)).trans HM5.out; have m0 := cells_of_heap hm 0 _ rfl; have m1 := cells_of_heap hm 1 _ rfl; have m2 := cells_of_heap hm 2 _ rfl; have m3 := cells_of_heap hm 3 _ rfl; have m4 := cells_of_heap hm 4 _ rfl; have m5 := cells_of_heap hm 5 _ rfl; have m6 := cells_of_heap hm 6 _ rfl; have HU8 := Aside0.mk hu; have HKp8 := Aside0.mk hk8; clear hs8 hk8 hu hm HKp7 HU7)
      | (go_at_call 11; refine (Bk.same_c (c := c4) (d := c5) ((HF5.out.keep fun g e => HU8.out.block g (HF5.out.lt g e)).cr.c (by have := HLl.out; omega)) HF5.out.room (Kd.C_below HC5.out.1 HU8.out) HC5.out.2 (by have := HLl.out; omega)).mono ?_; rintro e w9 ⟨rfl, hb⟩; clear m0 m1 m2 m3 m4 m5 m6; have hu := below_step HU8.out hb; have hm := (hu.block _ (blk_lt HM5.out)).trans HM5.out; have m0 := cells_of_heap hm 0 _ rfl; have m1 := cells_of_heap hm 1 _ rfl; have m2 := cells_of_heap hm 2 _ rfl; have m3 := cells_of_heap hm 3 _ rfl; have m4 := cells_of_heap hm 4 _ rfl; have m5 := cells_of_heap hm 5 _ rfl; have m6 := cells_of_heap hm 6 _ rfl; have hk := (hu.block _ (blk_lt HK5.out)).trans HK5.out; have r0 := cells_of_heap hk 0 _ rfl; have r1 := cells_of_heap hk 1 _ rfl; have r2 := cells_of_heap hk 2 _ rfl; have r3 := cells_of_heap hk 3 _ rfl; have r4 := cells_of_heap hk 4 _ rfl; have r5 := cells_of_heap hk 5 _ rfl; have r6 := cells_of_heap hk 6 _ rfl; clear hm hk; have HU9 := Aside0.mk hu; have HKp9 := Aside0.mk (HKp8.out.below' hb); clear hb hu HU8 HKp8)
      | (go_at_call 12; refine (HRi.out _ _ _ _ _ (HT5.out.below HU9.out)).mono ?_; rintro e w10 ⟨rfl, hb⟩; clear m0 m1 m2 m3 m4 m5 m6 r0 r1 r2 r3 r4 r5 r6; have hu := below_step HU9.out hb; have hm := (hu.block _ (blk_lt HM5.out)).trans HM5.out; have m0 := cells_of_heap hm 0 _ rfl; have m1 := cells_of_heap hm 1 _ rfl; have m2 := cells_of_heap hm 2 _ rfl; have m3 := cells_of_heap hm 3 _ rfl; have m4 := cells_of_heap hm 4 _ rfl; have m5 := cells_of_heap hm 5 _ rfl; have m6 := cells_of_heap hm 6 _ rfl; have hk := (hu.block _ (blk_lt HK5.out)).trans HK5.out; have r0 := cells_of_heap hk 0 _ rfl; have r1 := cells_of_heap hk 1 _ rfl; have r2 := cells_of_heap hk 2 _ rfl; have r3 := cells_of_heap hk 3 _ rfl; have r4 := cells_of_heap hk 4 _ rfl; have r5 := cells_of_heap hk 5 _ rfl; have r6 := cells_of_heap hk 6 _ rfl; clear hm hk; have HU10 := Aside0.mk hu; have HKp10 := Aside0.mk (HKp9.out.below' hb); clear hb hu HU9 HKp9 HRi)
      | (go_at_call 13; have h13 := safe_z method w10; rw [HSf.out] at h13; refine h13.mono ?_; clear h13; rintro e w11 ⟨rfl, hb⟩; clear m0 m1 m2 m3 m4 m5 m6 r0 r1 r2 r3 r4 r5 r6; have hu := below_step HU10.out hb; have hm := (hu.block _ (blk_lt HM5.out)).trans HM5.out; have m0 := cells_of_heap hm 0 _ rfl; have m1 := cells_of_heap hm 1 _ rfl; have m2 := cells_of_heap hm 2 _ rfl; have m3 := cells_of_heap hm 3 _ rfl; have m4 := cells_of_heap hm 4 _ rfl; have m5 := cells_of_heap hm 5 _ rfl; have m6 := cells_of_heap hm 6 _ rfl; have hk := (hu.block _ (blk_lt HK5.out)).trans HK5.out; have r0 := cells_of_heap hk 0 _ rfl; have r1 := cells_of_heap hk 1 _ rfl; have r2 := cells_of_heap hk 2 _ rfl; have r3 := cells_of_heap hk 3 _ rfl; have r4 := cells_of_heap hk 4 _ rfl; have r5 := cells_of_heap hk 5 _ rfl; have r6 := cells_of_heap hk 6 _ rfl; clear hm hk; have HU11 := Aside0.mk hu; have HKp11 := Aside0.mk (HKp10.out.below' hb); clear hb hu HU10 HKp10)
      | (go_at_call 14; have h14 := safeR_c method w11; rw [HSf.out] at h14; refine h14.mono ?_; clear h14; rintro e w12 ⟨rfl, hb⟩; clear m0 m1 m2 m3 m4 m5 m6 r0 r1 r2 r3 r4 r5 r6; have hu := below_step HU11.out hb; have hm := (hu.block _ (blk_lt HM5.out)).trans HM5.out; have m0 := cells_of_heap hm 0 _ rfl; have m1 := cells_of_heap hm 1 _ rfl; have m2 := cells_of_heap hm 2 _ rfl; have m3 := cells_of_heap hm 3 _ rfl; have m4 := cells_of_heap hm 4 _ rfl; have m5 := cells_of_heap hm 5 _ rfl; have m6 := cells_of_heap hm 6 _ rfl; have hk := (hu.block _ (blk_lt HK5.out)).trans HK5.out; have r0 := cells_of_heap hk 0 _ rfl; have r1 := cells_of_heap hk 1 _ rfl; have r2 := cells_of_heap hk 2 _ rfl; have r3 := cells_of_heap hk 3 _ rfl; have r4 := cells_of_heap hk 4 _ rfl; have r5 := cells_of_heap hk 5 _ rfl; have r6 := cells_of_heap hk 6 _ rfl; clear hm hk; have HU12 := Aside0.mk hu; have HKp12 := Aside0.mk (HKp11.out.below' hb); clear hb hu HU11 HKp11)
      | (go_at_call 15; refine (HSt.out _ (below_step HB5.out HU12.out) _ _ _ _ (HT5.out.below HU12.out)).mono ?_; rintro e w13 ⟨rfl, hb⟩; clear m0 m1 m2 m3 m4 m5 m6 r0 r1 r2 r3 r4 r5 r6; have hu := below_step HU12.out hb; have HU13 := Aside0.mk hu; have HKp13 := Aside0.mk (HKp12.out.below' hb); clear hb hu HU12 HKp12 HSt)
      | (go_at_call 16; refine HKp13.out.apart.mono ?_; rintro e w14 ⟨rfl, hs14⟩; have HFin := Aside0.mk (hs14.below (below_step HB5.out HU13.out) (fun k h => h)); clear hs14 HU13 HKp13))
    go_ret
    exact ⟨rfl, HFin.out⟩
end Go.Proofs.YtififgiicpdndaaGreatDoor.Fw
