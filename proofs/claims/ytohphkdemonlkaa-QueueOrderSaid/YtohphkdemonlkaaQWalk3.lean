/- The queue's Cut. -/
import Derived.Test.YtohphkdemonlkaaQWalk2
import Derived.Test.YtohphkdemonlkaaShelf
namespace Go.Proofs.Ytohphkdemonlkaa.Qw
open Go.RowKit Go.Proofs.Ytohphkdemonlkaa.XQt Go.Proofs.YtohphkdemonlkaaW.PrintWords Go.Proofs.YtohphkdemonlkaaW.PrintLast Go.Proofs.YtohphkdemonlkaaW.PrintMore Go.Proofs.Ytohphkdemonlkaa.Ob

/-- A row of numbers of one's own, written over. -/
theorem q_write {w : World} {base : Nat} {ok : Nat → Prop} {b off n c : Nat} {l : List Int} (h : (Kd.int .i64).Q 3 w base ok (.slice (some ⟨b, off, none⟩) n c) l) (hn : 0 < n) (ys : List Int) (hy : ys.length = n) :
    (Kd.int .i64).Q 3 (w.setCells b off (ys.map (Value.int .i64))) base ok (.slice (some ⟨b, off, none⟩) n c) ys := by
  have hl : n = l.length := (Kd.Q_reads' h).1
  obtain ⟨h0, inner, ⟨_, hr⟩, _⟩ := h
  rcases hr with ⟨h0, _⟩ | ⟨b', o, cap, cur, hv, hb, hh, hnc, hcm, hcs, ht⟩
  · omega
  · injection hv with ha hn' hc
    injection ha with ha
    injection ha with hb1 ho1 _
    subst hb1; subst hc
    have hsz : (Kd.int .i64).sz = 1 := rfl
    rw [hsz, Nat.mul_one] at ho1 hcs
    subst ho1
    obtain ⟨cur', h1, h2, h3⟩ := setCells_row (ys.map (Value.int .i64)) off w cur hh (by rw [List.length_map]; omega)
    refine ⟨fun k hk => h0 k hk, ys.map (Value.int .i64), ⟨?_, .inr ⟨b, off, c, cur', ?_, hb, h1, ?_, hcm, ?_, ?_⟩⟩, Kd.reps_scalar ys⟩
    · rw [List.length_map, hsz, Nat.mul_one]
    · rw [hsz, Nat.mul_one, hy]
    · omega
    · rw [hsz, Nat.mul_one, h2]; exact hcs
    · have htk : (cur.toList.take off).length = off := by rw [List.length_take, Array.length_toList]; omega
      rw [hsz, Nat.mul_one, Nat.mul_one, h3, List.append_assoc, List.drop_left' htk, List.take_left' (by rw [List.length_map])]
theorem q_cells_of {w : World} {base : Nat} {ok : Nat → Prop} {b off n c : Nat} {l : List Int} (h : (Kd.int .i64).Q 3 w base ok (.slice (some ⟨b, off, none⟩) n c) l) (hn : 0 < n) :
    (∀ j, j < l.length → w.cell? ⟨b, off + j, none⟩ = some (.int .i64 (l.getD j 0))) ∧ (∀ j, j < n → w.frozen? ⟨b, off + j, none⟩ = false) ∧ ok b ∧ n ≤ c ∧ c ≤ 9223372036854775807 := by
  have hC := (Kd.Q_reads' h).2.2
  have hl : n = l.length := (Kd.Q_reads' h).1
  obtain ⟨h0, inner, ⟨_, hr⟩, _⟩ := h
  rcases hr with ⟨h0, _⟩ | ⟨b', o, cap, cur, hv, hb, hh, hnc, hcm, hcs, ht⟩
  · omega
  · injection hv with ha hn' hc
    injection ha with ha
    injection ha with hb1 ho1 _
    subst hb1; subst hc
    refine ⟨fun j hj => ?_, fun j _ => by simp [World.frozen?, hh], h0 b rfl, by omega, by unfold maxLen at hcm; omega⟩
    obtain ⟨ad, had, hx⟩ := Kd.at_int hC (j : Int) (by omega) (by omega)
    obtain rfl := Option.some.inj had
    rw [Int.toNat_natCast] at hx
    rw [show (⟨b, off, none⟩ : Addr).add j = ⟨b, off + j, none⟩ from add_at b off j] at hx
    rw [hx]
    rfl

/-- One is taken out. -/
def outQ (q : List Int × Int) (id : Int) : List Int × Int := (q.1.take (q.1.idxOf id) ++ q.1.drop (q.1.idxOf id + 1), q.2)
theorem cut_none (q : List Int × Int) (id : Int) (w : World) (g : Nat) (base : Nat) (ok : Nat → Prop) (hl : q.1.length ≤ 1000000000) (hn : id ∉ q.1)
    (hq : QK.M w base ok q [.pointer (some ⟨g, 0, none⟩)]) :
    Calls Try.prog 17 #[.pointer (some ⟨g, 0, none⟩), .int .i64 id] w fun e w' => e = .returned (.bool false) ∧ Drawn0 w w' := by
  have HP := Aside0.mk (place_calls q id w g base ok hl hq)
  have HX : Aside0 (ix q.1 id = -1) := ⟨by unfold ix; rw [if_neg hn]⟩
  clear hq hn
  go_enter Try.func17, Try.ntmps17
  go_wp2_with (go_at_call 18; refine HP.out.mono ?_; rintro e w' ⟨rfl, ⟨nd, rfl⟩⟩; rw [HX.out])
  go_ret
  exact ⟨rfl, by repeat (first | exact Drawn0.refl _ | apply Drawn0.step)⟩
theorem setCells_grown (w : World) (b o : Nat) (vs : List Value) : w.grownBy (w.setCells b o vs) (some b) := by
  obtain ⟨h1, h2, h3, h4⟩ := setCells_same b vs o w
  exact ⟨h1, h2, h3, Nat.le_of_eq h4.symm, fun k _ hk => setCells_far vs o k (fun e => hk (by rw [e]))⟩
/-- slices.Delete of one element, of a row of one's own. -/
theorem delete_calls {w : World} {base : Nat} {ok : Nat → Prop} {b off n c : Nat} {l : List Int} (h : (Kd.int .i64).Q 3 w base ok (.slice (some ⟨b, off, none⟩) n c) l) (i : Nat) (hi : i < n) :
    Calls Try.prog 44 #[.slice (some ⟨b, off, none⟩) n c, .int .i64 (i : Int), .int .i64 ((i : Int) + 1)] w fun e w' => e = .returned (.slice (some ⟨b, off, none⟩) (n - 1) c) ∧
      (Kd.int .i64).Q 3 w' base ok (.slice (some ⟨b, off, none⟩) (n - 1) c) (l.take i ++ l.drop (i + 1)) ∧ w.grownBy w' (some b) := by
  have hl : n = l.length := (Kd.Q_reads' h).1
  obtain ⟨hcell, hfz, hbo, hnc, hcm⟩ := q_cells_of h (by omega)
  have hd := Try.slices_Delete_int_cells b off n c i (i + 1) l w (by omega) hnc hcm (by omega) (by omega) hcell hfz
  refine hd.mono ?_
  rintro e w' ⟨rfl, m, rfl⟩
  rw [Nat.add_sub_cancel_left, hl, List.take_length]
  have hlen : (l.take i ++ l.drop (i + 1) ++ [0]).length = l.length := by simp; omega
  have hw := q_write (Kd.Q_drewN h m) (by omega) (l.take i ++ l.drop (i + 1) ++ [0]) (by rw [hlen, hl])
  have ht := Kd.Q_take (m := l.length - 1) hw (by rw [hlen]; omega)
  have hlen2 : (l.take i ++ l.drop (i + 1)).length = l.length - 1 := by simp; omega
  rw [List.take_left' hlen2] at ht
  have hb := pw_below_drewN (Below.refl w.heap.size w) m
  have hg0 : w.grownBy (w.drewN m) (some b) := ⟨hb.os, hb.tape, hb.output, hb.size, fun k hk _ => hb.block k hk⟩
  exact ⟨rfl, ht, World.grownBy.trans hg0 (setCells_grown _ b off _)⟩
set_option maxHeartbeats 800000 in
theorem cut_calls (q : List Int × Int) (id : Int) (w : World) (g : Nat) (base : Nat) (ok : Nat → Prop) (hl : q.1.length ≤ 1000000000) (hn : id ∈ q.1)
    (hq : QK.M w base ok q [.pointer (some ⟨g, 0, none⟩)]) :
    Calls Try.prog 17 #[.pointer (some ⟨g, 0, none⟩), .int .i64 id] w fun e w' => e = .returned (.bool true) ∧
      QK.M w' base ok (outQ q id) [.pointer (some ⟨g, 0, none⟩)] ∧ Stay ok w w' := by
  have HP := Aside0.mk (place_calls q id w g base ok hl hq)
  have hil : q.1.idxOf id < q.1.length := List.idxOf_lt_length_of_mem hn
  have hout : outQ q id = (q.1.take (q.1.idxOf id) ++ q.1.drop (q.1.idxOf id + 1), q.2) := rfl
  have hx : ix q.1 id = (q.1.idxOf id : Int) := by unfold ix; rw [if_pos hn]
  generalize q.1.idxOf id = i at hil hout hx
  have HOUT := Aside0.mk hout
  have HX := Aside0.mk hx
  obtain ⟨g', A, c, he, hbg, hok, hg, hc, hQ⟩ := qk_open hq
  obtain rfl : g = g' := by simpa using he
  obtain ⟨b, off, rfl⟩ := q_addr hQ (by omega)
  have hbo := hQ.1 b rfl
  have HD : ∀ nd, Aside0 (Calls Try.prog 44 #[.slice (some ⟨b, off, none⟩) q.1.length c, .int .i64 (i : Int), .int .i64 ((i : Int) + 1)] (w.drewN nd) fun e w' => e = .returned (.slice (some ⟨b, off, none⟩) (q.1.length - 1) c) ∧
      (Kd.int .i64).Q 3 w' base (fun k => ok k ∧ k ≠ g) (.slice (some ⟨b, off, none⟩) (q.1.length - 1) c) (q.1.take i ++ q.1.drop (i + 1)) ∧ (w.drewN nd).grownBy w' (some b)) := fun nd => ⟨delete_calls (Kd.Q_drewN hQ nd) i hil⟩
  have hgb : g ≠ b := fun e => hbo.2 e.symm
  have HQ := Aside0.mk hQ
  have HG := Aside0.mk hg
  have HO := Aside0.mk hok
  have HBG := Aside0.mk hbg
  have HB := Aside0.mk hbo
  have HGB := Aside0.mk hgb
  have h0 : w.cell? ⟨g, 0, none⟩ = some (.slice (some ⟨b, off, none⟩) q.1.length c) := by simp [World.cell?, hg]
  have hlt0 : decide ((i : Int) < 0) = false := decide_eq_false (by omega)
  have hgl := blk_lt hg
  clear hn hq hout hx hQ hg hc he hok hbg hbo hgb
  go_enter Try.func17, Try.ntmps17
  go_wp2_with (first
    | (go_at_call 18; refine HP.out.mono ?_; rintro e w' ⟨rfl, ⟨nd, rfl⟩⟩; rw [HX.out])
    | (go_at_call 44; refine (HD _).out.mono ?_; rintro e w1 ⟨rfl, hQ1, hG1⟩; have hbk := (hG1.block g hgl (fun e_ => HGB.out (Option.some.inj e_))).trans HG.out; have k0 : w1.cell? ⟨g, 0, none⟩ = some (.slice (some ⟨b, off, none⟩) q.1.length c) := (by simp [World.cell?, hbk]); have f0 : w1.frozen? ⟨g, 0, none⟩ = false := (by simp [World.frozen?, hbk]); have HQ1 := Aside0.mk hQ1; have HG1 := Aside0.mk hG1; have HBK := Aside0.mk hbk; clear hQ1 hG1 hbk))
  go_ret
  refine ⟨rfl, ?_, ?_⟩
  · rw [HOUT.out]
    exact qk_mk HBG.out HO.out (blk_put HBK.out 0 _ rfl) (Kd.Q_far (p := ⟨g, 0, none⟩) HQ1.out (fun k hk => hk.2) _)
  · exact ((Stay.refl ok w).drewN _ |>.grown HG1.out (fun k hk => .inl (by obtain rfl := Option.some.inj hk; exact HB.out.1))).setCell (.inl HO.out) _
end Go.Proofs.Ytohphkdemonlkaa.Qw
