/- The queue's Back: slices.Insert at the front of a row of one's own. -/
import Derived.Test.YtohphkdemonlkaaQWalk3
import Derived.Test.YtohphkdemonlkaaShelfIns
namespace Go.Proofs.Ytohphkdemonlkaa.Qw
open Go.RowKit Go.Proofs.Ytohphkdemonlkaa.XQt Go.Proofs.YtohphkdemonlkaaW.PrintWords Go.Proofs.YtohphkdemonlkaaW.PrintLast Go.Proofs.YtohphkdemonlkaaW.PrintMore Go.Proofs.Ytohphkdemonlkaa.Ob

theorem reps_map {α : Type} {f : α → Value} {l : List α} {cs : List Value} (h : Reps (fun x c => c = [f x]) 1 l cs) : cs = l.map f := by
  have hl : cs.length = l.length := by rw [h.1, Nat.mul_one]
  refine List.ext_getElem (by rw [hl, List.length_map]) fun i h1 h2 => ?_
  rw [List.length_map] at h2
  have h3 := h.2 i _ (List.getElem?_eq_getElem h2)
  rw [Nat.mul_one] at h3
  have h4 : ((cs.drop i).take 1)[0]? = some (f l[i]) := by rw [h3]; rfl
  rw [List.getElem?_take, if_pos Nat.zero_lt_one, List.getElem?_drop, Nat.add_zero, List.getElem?_eq_getElem h1] at h4
  rw [List.getElem_map]
  exact Option.some.inj h4
theorem q_open {w : World} {base : Nat} {ok : Nat → Prop} {A : Option Addr} {n c : Nat} {l : List Int} (h : (Kd.int .i64).Q 3 w base ok (.slice A n c) l) :
    (n = 0 ∧ c = 0 ∧ l = []) ∨ ∃ b off cur, A = some ⟨b, off, none⟩ ∧ base ≤ b ∧ ok b ∧ w.heap[b]? = some (.cells cur 3 (0, 0)) ∧ n ≤ c ∧ off + c ≤ maxLen ∧ cur.size = off + c ∧ (cur.toList.drop off).take n = l.map (Value.int .i64) := by
  have hl : n = l.length := (Kd.Q_reads' h).1
  have hC := (Kd.Q_reads' h).2.2
  obtain ⟨h0, inner, ⟨_, hr⟩, hreps⟩ := h
  rcases hr with ⟨h0, A', hv, _⟩ | ⟨b, o, cap, cur, hv, hb, hh, hnc, hcm, hcs, ht⟩
  · injection hv with _ _ hc
    exact .inl ⟨by omega, hc, List.eq_nil_of_length_eq_zero h0⟩
  · injection hv with ha hn' hc
    subst ha; subst hc
    have hsz : (Kd.int .i64).sz = 1 := rfl
    rw [hsz, Nat.mul_one] at hcs ht
    rw [Nat.mul_one] at ht
    refine .inr ⟨b, o, cur, by rw [hsz, Nat.mul_one], hb, h0 b rfl, hh, by omega, hcm, hcs, ?_⟩
    rw [hl, ht]
    exact reps_map hreps
theorem q_make {w : World} {base : Nat} {ok : Nat → Prop} {b off n c : Nat} {cur : Array Value} {l : List Int} (hb : base ≤ b) (ho : ok b) (hh : w.heap[b]? = some (.cells cur 3 (0, 0))) (hnc : n ≤ c) (hcm : off + c ≤ maxLen) (hcs : cur.size = off + c)
    (hl : l.length = n) (ht : (cur.toList.drop off).take n = l.map (Value.int .i64)) : (Kd.int .i64).Q 3 w base ok (.slice (some ⟨b, off, none⟩) n c) l := by
  have hsz : (Kd.int .i64).sz = 1 := rfl
  refine ⟨fun k hk => by cases hk; exact ho, l.map (Value.int .i64), ⟨by rw [List.length_map, hsz, Nat.mul_one], .inr ⟨b, off, c, cur, by rw [hsz, Nat.mul_one, hl], hb, hh, by omega, hcm, by rw [hsz, Nat.mul_one]; exact hcs, ?_⟩⟩, Kd.reps_scalar l⟩
  rw [hsz, Nat.mul_one, Nat.mul_one, hl]
  exact ht
theorem cells_of {w : World} {b off n : Nat} {cur : Array Value} {l : List Int} (hh : w.heap[b]? = some (.cells cur 3 (0, 0))) (ht : (cur.toList.drop off).take n = l.map (Value.int .i64)) :
    ∀ j v, (l.map (Value.int .i64))[j]? = some v → w.cell? ⟨b, off + j, none⟩ = some v := by
  intro j v hj
  rw [← ht, List.getElem?_take] at hj
  by_cases h : j < n
  · rw [if_pos h, List.getElem?_drop] at hj
    simp only [World.cell?, hh]
    simpa using hj
  · rw [if_neg h] at hj
    cases hj
/-- slices.Insert of one at the front, of a row of one's own. -/
theorem insert_calls {w : World} {base : Nat} {ok : Nat → Prop} {A : Option Addr} {n c : Nat} {l : List Int} (h : (Kd.int .i64).Q 3 w base ok (.slice A n c) l) (hbs : base ≤ w.heap.size) (hl9 : l.length ≤ 1000000000) (x : Int) (vb : Nat)
    (hv : w.heap[vb]? = some (.cells #[.int .i64 x] 3 (0, 0))) (hnv : ¬ ok vb) :
    Calls Try.prog 46 #[.slice A n c, .int .i64 0, .slice (some ⟨vb, 0, none⟩) 1 1] w fun e w' => ∃ A1 c1, e = .returned (.slice A1 (n + 1) c1) ∧
      (Kd.int .i64).Q 3 w' base (fun k => ok k ∨ w.heap.size ≤ k) (.slice A1 (n + 1) c1) (x :: l) ∧ Stay ok w w' := by
  have hl : n = l.length := (Kd.Q_reads' h).1
  have hvs : ∀ j v, ([Value.int .i64 x] : List Value)[j]? = some v → w.cell? ⟨vb, 0 + j, none⟩ = some v := by
    intro j v hj
    cases j with
    | zero => simp only [World.cell?, hv]; simpa using hj
    | succ j => cases hj
  have h1v : ∀ v ∈ ([Value.int .i64 x] : List Value), v.oneCell' = true := by intro v hm; rw [List.mem_singleton.1 hm]; rfl
  have h1c : ∀ v ∈ l.map (Value.int .i64), v.oneCell' = true := by intro v hm; obtain ⟨y, _, rfl⟩ := List.mem_map.1 hm; rfl
  have hmx : maxLen = 9223372036854775807 := rfl
  rcases q_open h with ⟨rfl, rfl, rfl⟩ | ⟨b, off, cur, rfl, hb, hok, hh, hnc, hcm, hcs, ht⟩
  · -- nothing is there
    refine (Any2.slices_Insert_int_end_grow Try.laysNm221 A 0 0 vb 0 1 1 [] [.int .i64 x] w (by omega) (by omega) (by omega) (by omega) rfl rfl (fun _ => rfl) (fun _ _ _ _ hj => by cases hj) hvs h1v).mono ?_
    rintro e w' he
    rw [show Try.laysNm221_ren.t 3 = 3 from rfl] at he
    obtain ⟨rfl, rfl⟩ := he
    have hge := grownCap_ge w (0 + 1) 0 3
    have hle := grownCap_le_maxLen w (0 + 1) 0 3 (by rw [hmx]; omega)
    generalize grownCap w (0 + 1) 0 3 = G at hge hle ⊢
    refine ⟨_, _, rfl, ?_, ((Stay.refl ok w).drewN 1).alloc _⟩
    refine q_make hbs (.inr (Nat.le_refl _)) (heap_alloc_new w.drew _) hge (by rw [Nat.zero_add]; exact hle) ?_ rfl ?_
    · rw [Array.size_append, size_zeroCells]
      show 1 + (G - (0 + 1)) * 1 = _
      omega
    · simp
  · rcases Nat.lt_or_ge n c with hroom | hroom
    · rcases Nat.eq_zero_or_pos n with rfl | hpos
      · -- room, nothing there
        obtain rfl : l = [] := List.eq_nil_of_length_eq_zero hl.symm
        obtain ⟨cur', e1, e2, e3⟩ := setCells_row [.int .i64 x] (off + 0) w cur hh (by simp; omega)
        refine (Any2.slices_Insert_int_end_room Try.laysNm221 b off 0 c vb 0 1 1 [.int .i64 x] w (by omega) (by omega) (by omega) rfl (fun j hj => ?_) (fun j hj => by simp [World.frozen?, hh]) hvs h1v).mono ?_
        · simp only [World.cell?, hh]
          simp
          omega
        · rintro e w' ⟨rfl, rfl⟩
          refine ⟨_, _, rfl, ?_, (Stay.refl ok w).grown (setCells_grown w b _ _) (fun k hk => .inl (by obtain rfl := Option.some.inj hk; exact hok))⟩
          refine q_make hb (.inl hok) e1 (by omega) hcm (by rw [e2, hcs]) rfl ?_
          rw [e3, Nat.add_zero, List.append_assoc, List.drop_left' (by rw [List.length_take, Array.length_toList]; omega)]
          rfl
      · -- room: all are shifted
        refine (Any2.slices_Insert_int_shift Try.laysNm221 b off n c 0 vb 0 1 1 (l.map (Value.int .i64)) [.int .i64 x] w hpos (by omega) (by omega) (by omega) (fun e => hnv (e ▸ hok)) (by rw [List.length_map, hl]) rfl
          (cells_of hh ht) (fun j hj => ?_) (fun j hj => by simp [World.frozen?, hh]) hvs h1c h1v 3 3 1 cur.size (by simp [World.shape?, hv]) (by simp [World.shape?, hh]) (by omega) (by simp [World.frozen?, hv]) (by simp [World.frozen?, hv])).mono ?_
        · simp only [World.cell?, hh]
          simp
          omega
        · rintro e w' ⟨rfl, rfl⟩
          obtain ⟨cur1, e1, e2, e3⟩ := setCells_row ((l.map (Value.int .i64)).drop 0) (off + (0 + 1)) w.drew cur hh (by simp; omega)
          obtain ⟨cur2, f1, f2, f3⟩ := setCells_row [.int .i64 x] (off + 0) _ cur1 e1 (by simp; omega)
          refine ⟨_, _, rfl, ?_, ((((Stay.refl ok w).drewN 1).grown (setCells_grown w.drew b _ _) (fun k hk => .inl (by obtain rfl := Option.some.inj hk; exact hok))).grown (setCells_grown _ b _ _) (fun k hk => .inl (by obtain rfl := Option.some.inj hk; exact hok)))⟩
          refine q_make hb (.inl hok) f1 (by omega) hcm (by rw [f2, e2, hcs]) (by rw [List.length_cons, hl]) ?_
          have htk : (cur.toList.take (off + 1)).length = off + 1 := by rw [List.length_take, Array.length_toList]; omega
          have hmp : (l.map (Value.int .i64)).length = n := by rw [List.length_map, hl]
          rw [f3, e3, List.drop_zero, Nat.add_zero, Nat.zero_add, List.length_singleton]
          have h1 : (cur.toList.take (off + 1) ++ l.map (Value.int .i64) ++ cur.toList.drop (off + 1 + (l.map (Value.int .i64)).length)).drop (off + 1) = l.map (Value.int .i64) ++ cur.toList.drop (off + 1 + (l.map (Value.int .i64)).length) := by
            rw [List.append_assoc, List.drop_left' htk]
          rw [h1, List.append_assoc, List.append_assoc (cur.toList.take (off + 1)), List.take_append_of_le_length (by omega), List.take_take, Nat.min_eq_left (by omega), List.drop_left' (by rw [List.length_take, Array.length_toList]; omega)]
          rw [List.singleton_append, List.take_succ_cons, List.map_cons, List.take_left' hmp]
    · rcases Nat.eq_zero_or_pos n with rfl | hpos
      · -- no room, nothing there
        obtain rfl : l = [] := List.eq_nil_of_length_eq_zero hl.symm
        obtain rfl : c = 0 := by omega
        refine (Any2.slices_Insert_int_end_grow Try.laysNm221 (some ⟨b, off, none⟩) 0 0 vb 0 1 1 [] [.int .i64 x] w (by omega) (by omega) (by omega) (by omega) rfl rfl (fun _ => rfl) (fun _ _ _ _ hj => by cases hj) hvs h1v).mono ?_
        rintro e w' he
        rw [show Try.laysNm221_ren.t 3 = 3 from rfl] at he
        obtain ⟨rfl, rfl⟩ := he
        have hge := grownCap_ge w (0 + 1) 0 3
        have hle := grownCap_le_maxLen w (0 + 1) 0 3 (by rw [hmx]; omega)
        generalize grownCap w (0 + 1) 0 3 = G at hge hle ⊢
        refine ⟨_, _, rfl, ?_, ((Stay.refl ok w).drewN 1).alloc _⟩
        refine q_make hbs (.inr (Nat.le_refl _)) (heap_alloc_new w.drew _) hge (by rw [Nat.zero_add]; exact hle) ?_ rfl ?_
        · rw [Array.size_append, size_zeroCells]
          show 1 + (G - (0 + 1)) * 1 = _
          omega
        · simp
      · obtain rfl : n = c := by omega
        refine (Any2.slices_Insert_int_grow Try.laysNm221 b off n n 0 vb 0 1 1 (l.map (Value.int .i64)) [.int .i64 x] w hpos (by omega) (by omega) (by omega) (by omega) (by rw [List.length_map, hl]) rfl (cells_of hh ht) hvs h1c h1v).mono ?_
        rintro e w' he
        rw [show Try.laysNm221_ren.t 3 = 3 from rfl] at he
        obtain ⟨rfl, rfl⟩ := he
        have hge := grownCap_ge w (n + 1) n 3
        have hle := grownCap_le_maxLen w (n + 1) n 3 (by rw [hmx]; omega)
        generalize grownCap w (n + 1) n 3 = G at hge hle ⊢
        have hw0 := heap_alloc_new w (.cells (((l.map (Value.int .i64)).take 0).toArray ++ Builtin.zeroCells (Value.int .i64 0).cells (n + 1 - 0) ++ Builtin.zeroCells (Value.int .i64 0).cells (G - (n + 1))) 3)
        have hz0 : (((l.map (Value.int .i64)).take 0).toArray ++ Builtin.zeroCells (Value.int .i64 0).cells (n + 1 - 0) ++ Builtin.zeroCells (Value.int .i64 0).cells (G - (n + 1))).size = G := by
          rw [Array.size_append, Array.size_append, size_zeroCells, size_zeroCells]
          show 0 + (n + 1 - 0) * 1 + (G - (n + 1)) * 1 = _
          omega
        generalize (((l.map (Value.int .i64)).take 0).toArray ++ Builtin.zeroCells (Value.int .i64 0).cells (n + 1 - 0) ++ Builtin.zeroCells (Value.int .i64 0).cells (G - (n + 1))) = Z at hw0 hz0 ⊢
        obtain ⟨cur1, e1, e2, e3⟩ := setCells_row [.int .i64 x] 0 (w.alloc (.cells Z 3)).drew Z hw0 (by simp; omega)
        obtain ⟨cur2, f1, f2, f3⟩ := setCells_row ((l.map (Value.int .i64)).drop 0) (0 + 1) (((w.alloc (.cells Z 3)).drew.setCells w.heap.size 0 [.int .i64 x]).drew) cur1 e1 (by simp; omega)
        refine ⟨_, _, rfl, ?_, (((((((Stay.refl ok w).alloc _).drewN 1).grown (setCells_grown (w.alloc (.cells Z 3)).drew w.heap.size _ _) (fun k hk => .inr (by obtain rfl := Option.some.inj hk; exact Nat.le_refl _))).drewN 1).grown (setCells_grown _ w.heap.size _ _) (fun k hk => .inr (by obtain rfl := Option.some.inj hk; exact Nat.le_refl _))))⟩
        refine q_make hbs (.inr (Nat.le_refl _)) f1 hge (by rw [Nat.zero_add]; exact hle) (by rw [f2, e2, hz0, Nat.zero_add]) (by rw [List.length_cons, hl]) ?_
        have hmp : (l.map (Value.int .i64)).length = n := by rw [List.length_map, hl]
        rw [List.drop_zero, f3, e3, List.drop_zero, List.take_zero, List.nil_append, List.length_singleton, Nat.zero_add, List.singleton_append, List.take_succ_cons, List.take_zero, List.append_assoc, List.singleton_append, List.take_succ_cons, List.map_cons, List.take_left' hmp]
end Go.Proofs.Ytohphkdemonlkaa.Qw
