/- Merged: MsgH MsgF MsgA MsgEarly MsgTrails MsgO. -/
import Derived.Test.YtififgiicpdndaaGreatDoorMOne
import Derived.Test.YtififgiicpdndaaGreatDoorAtoiLay
/- The reader's method Headers, walked. -/
namespace Go.Proofs.YtififgiicpdndaaGreatDoor.Fw
open Go.RowKit Go.Proofs.YtififgiicpdndaaGreatDoor.XMi Go.Proofs.YtififgiicpdndaaGreatDoorW.PrintWords Go.Proofs.YtififgiicpdndaaGreatDoorW.PrintLast Go.Proofs.YtififgiicpdndaaGreatDoorW.PrintMore Go.Proofs.YtififgiicpdndaaGreatDoor.Ms Go.Proofs.YtififgiicpdndaaGreatDoor.Ob
theorem atoi_c (v : ByteArray) (hd : digP v = true) (h : v.size ≤ 18) (w : World) : Calls Tryz.prog 64 #[.string v] w fun e w' => e = .returned (.tuple #[.int .i64 ((numD v.toList : Nat) : Int), .nilIface]) ∧ Below w.heap.size w w' :=
  (Any.strconv_Atoi Tryz.Lays_172 v ((numD v.toList : Nat) : Int) h (atoi_eq v hd) w).mono fun e w' ⟨h1, t, h2⟩ => ⟨h1, by rw [h2]; exact Below.trans (Below.refl _ _) (Go.Lib.bytesWorld_below _ _ _)⟩
theorem resp_ok {l : List S61} (h : respQ l = 0) : statP ((getP colStatus l).getD ⟨#[]⟩) = true := by
  unfold respQ at h
  rcases walk_err (names := [colStatus]) l [] false with ⟨m, hm⟩ | ⟨e, hm, he⟩
  · rw [hm] at h
    have h2 : (if statP (sayB m colStatus) = true then (0 : Int) else 3) = 0 := h
    rw [say_get hm mem_stat] at h2
    cases hs : statP ((getP colStatus l).getD ⟨#[]⟩)
    · rw [hs] at h2; cases h2
    · rfl
  · rw [hm] at h
    exact absurd h he
theorem stat_dig {v : ByteArray} (h : statP v = true) : digP v = true ∧ v.size = 3 := by
  unfold statP at h
  simp only [Bool.and_eq_true, decide_eq_true_eq] at h
  exact ⟨h.1.1.2, h.1.1.1⟩
theorem resp_pos {l : List S61} (h : respQ l = 0) : 0 < l.length := by
  rcases Nat.eq_zero_or_pos l.length with h0 | h0
  · rw [List.eq_nil_of_length_eq_zero h0] at h
    exact absurd h (by decide +kernel)
  · exact h0
variable {w : World} {g : Nat} {s : MS} {Af At : Option Addr} {cf ct : Nat}
theorem fr_set {w : World} {base b i n c : Nat} {A : Option Addr} {l : List S61} (h : FR w base A n c l) (hb : b < base) (v : Value) : FR (w.setCell ⟨b, i, none⟩ v) base A n c l := by
  rcases fr_block h with e | ⟨k, e, hk, _⟩
  · exact h.keep fun b' h2 => by rw [e] at h2; cases h2
  · refine h.keep fun b' h2 _ => Below.heap_setCell w ⟨b, i, none⟩ v b' ?_
    rw [e] at h2
    injection h2 with h2
    injection h2 with h2 _
    show b' ≠ b
    omega
set_option maxHeartbeats 6400000 in
set_option maxRecDepth 20000 in
theorem head_c (h : Rd w g s Af cf At ct) (fin : Bool) {A : Option Addr} {l : List S61} {c : Nat} (hS : Sized l) (hC : k61.C w A l.length l) (hc : l.length ≤ c) : Calls Tryz.prog 20 #[.pointer (some ⟨g, 0, none⟩), .bool fin, .slice A l.length c] w (Left w g (headP s fin l)) := by
  have HO := Aside0.mk (over_c h)
  have HR := Aside0.mk h
  have HC := Aside0.mk hC
  have HLn := Aside0.mk (And.intro hS.len hc)
  have HGl := Aside0.mk (blk_lt h.hp)
  have HD : Aside0 (headP s fin l = if overP s then (8, s) else if s.a.status > 0 then toldP s { s.a with trails := l } fin (if fin then trailQ l else 11) else if respQ l ≠ 0 then toldP s s.a fin (respQ l) else if statNum l < 200 then (if fin then toldP s s.a fin 11 else (0, s)) else toldP s { s.a with status := statNum l, fields := others l, length := (lenQ l).1 } fin (lenQ l).2) := ⟨rfl⟩
  have HT := Aside0.mk (fun (a : MA) (Bf Bt : Option Addr) (bf bt : Nat) (er : Int) (W : World) (hb : Below w.heap.size w W) (h1 : Row W g Bf a.fields.length bf a.fields) (h2 : Row W g Bt a.trails.length bt a.trails) => (told_c (HR.out.below hb) a Bf Bt bf bt h1 h2 fin er).mono (fun e w' (h : Left W g (toldP s a fin er) e w') => Left.before hb h))
  have HCl := Aside0.mk (fun (W : World) (hb : Below w.heap.size w W) => clone_c (c := c) (Kd.C_below HC.out hb) HLn.out.1)
  have HTr := Aside0.mk (fun (W : World) (hb : Below w.heap.size w W) => trail_n (c := c) hS (Kd.C_below HC.out hb))
  have HRe := Aside0.mk (fun (W : World) (hb : Below w.heap.size w W) => resp_n (c := c) hS (Kd.C_below HC.out hb))
  have HGe := Aside0.mk (fun (W : World) (hb : Below w.heap.size w W) => get_n colStatus hS (Kd.C_below HC.out hb) HLn.out.2)
  have HLe := Aside0.mk (fun (W : World) (hb : Below w.heap.size w W) => len_n hS (Kd.C_below HC.out hb) HLn.out.2)
  clear h hS hC hc
  generalize overP s = ov at HO HD
  cases ov with
  | true =>
    go_enter Tryz.func20, Tryz.ntmps20
    go_wp2_with (first
      | (go_at_call 59; refine HO.out.mono ?_; rintro e w1 ⟨rfl, hb⟩; have HB := Aside0.mk hb; clear hb))
    go_ret
    rw [HD.out]
    exact ⟨rfl, ⟨Af, cf, At, ct, HR.out.below HB.out⟩, Stay.of_below HB.out⟩
  | false =>
    by_cases h1 : s.a.status > 0
    · have e1 : decide (s.a.status > 0) = true := decide_eq_true h1
      have HD2 : Aside0 (headP s fin l = toldP s { s.a with trails := l } fin (if fin then trailQ l else 11)) := ⟨HD.out.trans (if_pos h1)⟩
      rw [HD2.out]
      clear h1 HD
      generalize trailQ l = tq at HTr
      cases fin
      all_goals
        go_enter Tryz.func20, Tryz.ntmps20
        go_wp2_with (first
          | (go_at_call 59; refine HO.out.mono ?_; rintro e w1 ⟨rfl, hb⟩; have hr1 := HR.out.below hb; have k1 := hr1.k1; have k2 := hr1.k2; have k3 := hr1.k3; have k4 := hr1.k4; have k5 := hr1.k5; have k6 := hr1.k6; have HB := Aside0.mk hb; clear hb hr1)
          | (go_at_call 60; refine (HCl.out _ (below_alloc HB.out _)).mono ?_; rintro e w2 ⟨A2, c2, rfl, hF, hb⟩; have hbk := (hb.block _ (blk_lt (heap_alloc_new w1 _))).trans (heap_alloc_new w1 (.cells #[.int .i64 s.a.status, .slice Af s.a.fields.length cf, .slice At s.a.trails.length ct, .int .i64 s.a.length, .int .i64 s.a.came, .bool s.a.done] 82)); have b2 := cells_of_heap hbk 2 _ rfl; have fb : w2.frozen? ⟨w1.heap.size, 2, none⟩ = false := (by simp [World.frozen?, hbk]); have HB2 := Aside0.mk ((below_step (below_alloc HB.out _) hb).setCell (p := ⟨w1.heap.size, 2, none⟩) HB.out.size (.slice A2 l.length c2)); have HBK2 := Aside0.mk (heap_put hbk 2 (.slice A2 l.length c2) (by simp)); have HF2 := Aside0.mk (fr_set (b := w1.heap.size) (i := 2) hF (by simp) (.slice A2 l.length c2)); have HGw := Aside0.mk (Nat.lt_of_lt_of_le HGl.out HB.out.size); clear hb hbk hF HB)
          | (go_at_call 29; refine (HTr.out _ HB2.out).mono ?_; rintro e w3 ⟨rfl, hb⟩; have hbk := (hb.block _ (blk_lt HBK2.out)).trans HBK2.out; have b0 := cells_of_heap hbk 0 (.int .i64 s.a.status) rfl; have b1 := cells_of_heap hbk 1 (.slice Af s.a.fields.length cf) rfl; have b2 := cells_of_heap hbk 2 (.slice A2 l.length c2) rfl; have b3 := cells_of_heap hbk 3 (.int .i64 s.a.length) rfl; have b4 := cells_of_heap hbk 4 (.int .i64 s.a.came) rfl; have b5 := cells_of_heap hbk 5 (.bool s.a.done) rfl; have HB3 := Aside0.mk (below_step HB2.out hb); have HF3 := Aside0.mk (HF2.out.step hb); clear hb hbk HB2 HF2 HBK2)
          | (go_at_call 61; refine (HT.out { s.a with trails := l } Af A2 cf c2 _ w3 HB3.out (HR.out.rf.below HB3.out) (Row.of_fr HF3.out (show l.length ≤ 1000000000 by have := HLn.out.1; omega) (by have := HGw.out; simp; omega))).mono ?_; rintro e w4 ⟨rfl, hx⟩; have HX := Aside0.mk hx; clear hx))
        go_ret
        exact ⟨rfl, HX.out⟩
    · have e1 : decide (s.a.status > 0) = false := decide_eq_false h1
      have HDa := HD.out.trans (if_neg h1)
      by_cases h2 : respQ l = 0
      · have HDb := HDa.trans (if_neg (fun h => h h2))
        rw [h2] at HRe
        obtain ⟨hdg, hsz⟩ := stat_dig (resp_ok h2)
        have HPos := Aside0.mk (resp_pos h2)
        have HAt := Aside0.mk (fun (W : World) => show Calls Tryz.prog 64 #[.string ((getP colStatus l).getD ⟨#[]⟩)] W fun e w' => e = .returned (.tuple #[.int .i64 (statNum l), .nilIface]) ∧ Below W.heap.size W w' from atoi_c _ hdg (by omega) W)
        generalize (getP colStatus l).getD ⟨#[]⟩ = v at HGe HAt
        generalize (getP colStatus l).isSome = vb at HGe
        have HDc := Aside0.mk HDb
        generalize statNum l = N at HAt HDc
        generalize (lenQ l).1 = L1 at HLe HDc
        generalize (lenQ l).2 = L2 at HLe HDc
        clear HD HDa HDb h1 h2 hdg hsz
        by_cases h3 : N < 200
        · have e3 : decide (N < 200) = true := decide_eq_true h3
          have HDd := Aside0.mk (HDc.out.trans (if_pos h3))
          rw [HDd.out]
          clear h3 HDc
          cases fin
          · show Calls _ _ _ _ (Left w g (0, s))
            go_enter Tryz.func20, Tryz.ntmps20
            go_wp2_with (first
              | (go_at_call 59; refine HO.out.mono ?_; rintro e w1 ⟨rfl, hb⟩; have hr1 := HR.out.below hb; have k1 := hr1.k1; have k2 := hr1.k2; have k3 := hr1.k3; have k4 := hr1.k4; have k5 := hr1.k5; have k6 := hr1.k6; have HB := Aside0.mk hb; clear hb hr1)
              | (go_at_call 62; refine (HRe.out _ (below_alloc HB.out _)).mono ?_; rintro e w2 ⟨rfl, hb⟩; have hbk := (hb.block _ (blk_lt (heap_alloc_new w1 _))).trans (heap_alloc_new w1 (.cells #[.int .i64 s.a.status, .slice Af s.a.fields.length cf, .slice At s.a.trails.length ct, .int .i64 s.a.length, .int .i64 s.a.came, .bool s.a.done] 82)); have b0 := cells_of_heap hbk 0 (.int .i64 s.a.status) rfl; have b1 := cells_of_heap hbk 1 (.slice Af s.a.fields.length cf) rfl; have b2 := cells_of_heap hbk 2 (.slice At s.a.trails.length ct) rfl; have b3 := cells_of_heap hbk 3 (.int .i64 s.a.length) rfl; have b4 := cells_of_heap hbk 4 (.int .i64 s.a.came) rfl; have b5 := cells_of_heap hbk 5 (.bool s.a.done) rfl; have HB2 := Aside0.mk (below_step (below_alloc HB.out _) hb); have HBK2 := Aside0.mk hbk; have HBW := Aside0.mk HB.out.size; clear hb hbk HB)
              | (go_at_call 63; refine (HGe.out _ HB2.out).mono ?_; rintro e w3 ⟨rfl, hb⟩; have hbk := (hb.block _ (blk_lt HBK2.out)).trans HBK2.out; have b0 := cells_of_heap hbk 0 (.int .i64 s.a.status) rfl; have b1 := cells_of_heap hbk 1 (.slice Af s.a.fields.length cf) rfl; have b2 := cells_of_heap hbk 2 (.slice At s.a.trails.length ct) rfl; have b3 := cells_of_heap hbk 3 (.int .i64 s.a.length) rfl; have b4 := cells_of_heap hbk 4 (.int .i64 s.a.came) rfl; have b5 := cells_of_heap hbk 5 (.bool s.a.done) rfl; have HB3 := Aside0.mk (below_step HB2.out hb); have HBK3 := Aside0.mk hbk; clear hb hbk HB2 HBK2)
              | (go_at_call 64; refine (HAt.out _).mono ?_; rintro e w4 ⟨rfl, hb⟩; have hbk := (hb.block _ (blk_lt HBK3.out)).trans HBK3.out; have b0 := cells_of_heap hbk 0 (.int .i64 s.a.status) rfl; have b1 := cells_of_heap hbk 1 (.slice Af s.a.fields.length cf) rfl; have b2 := cells_of_heap hbk 2 (.slice At s.a.trails.length ct) rfl; have b3 := cells_of_heap hbk 3 (.int .i64 s.a.length) rfl; have b4 := cells_of_heap hbk 4 (.int .i64 s.a.came) rfl; have b5 := cells_of_heap hbk 5 (.bool s.a.done) rfl; have fb : ∀ j, w4.frozen? ⟨w1.heap.size, j, none⟩ = false := (fun j => by simp [World.frozen?, hbk]); have HB4 := Aside0.mk (below_step HB3.out hb); have HBK4 := Aside0.mk hbk; clear hb hbk HB3 HBK3))
            go_ret
            exact ⟨rfl, ⟨Af, cf, At, ct, HR.out.below HB4.out⟩, Stay.of_below HB4.out⟩
          · show Calls _ _ _ _ (Left w g (toldP s s.a true 11))
            go_enter Tryz.func20, Tryz.ntmps20
            go_wp2_with (first
              | (go_at_call 59; refine HO.out.mono ?_; rintro e w1 ⟨rfl, hb⟩; have hr1 := HR.out.below hb; have k1 := hr1.k1; have k2 := hr1.k2; have k3 := hr1.k3; have k4 := hr1.k4; have k5 := hr1.k5; have k6 := hr1.k6; have HB := Aside0.mk hb; clear hb hr1)
              | (go_at_call 62; refine (HRe.out _ (below_alloc HB.out _)).mono ?_; rintro e w2 ⟨rfl, hb⟩; have hbk := (hb.block _ (blk_lt (heap_alloc_new w1 _))).trans (heap_alloc_new w1 (.cells #[.int .i64 s.a.status, .slice Af s.a.fields.length cf, .slice At s.a.trails.length ct, .int .i64 s.a.length, .int .i64 s.a.came, .bool s.a.done] 82)); have b0 := cells_of_heap hbk 0 (.int .i64 s.a.status) rfl; have b1 := cells_of_heap hbk 1 (.slice Af s.a.fields.length cf) rfl; have b2 := cells_of_heap hbk 2 (.slice At s.a.trails.length ct) rfl; have b3 := cells_of_heap hbk 3 (.int .i64 s.a.length) rfl; have b4 := cells_of_heap hbk 4 (.int .i64 s.a.came) rfl; have b5 := cells_of_heap hbk 5 (.bool s.a.done) rfl; have HB2 := Aside0.mk (below_step (below_alloc HB.out _) hb); have HBK2 := Aside0.mk hbk; have HBW := Aside0.mk HB.out.size; clear hb hbk HB)
              | (go_at_call 63; refine (HGe.out _ HB2.out).mono ?_; rintro e w3 ⟨rfl, hb⟩; have hbk := (hb.block _ (blk_lt HBK2.out)).trans HBK2.out; have b0 := cells_of_heap hbk 0 (.int .i64 s.a.status) rfl; have b1 := cells_of_heap hbk 1 (.slice Af s.a.fields.length cf) rfl; have b2 := cells_of_heap hbk 2 (.slice At s.a.trails.length ct) rfl; have b3 := cells_of_heap hbk 3 (.int .i64 s.a.length) rfl; have b4 := cells_of_heap hbk 4 (.int .i64 s.a.came) rfl; have b5 := cells_of_heap hbk 5 (.bool s.a.done) rfl; have HB3 := Aside0.mk (below_step HB2.out hb); have HBK3 := Aside0.mk hbk; clear hb hbk HB2 HBK2)
              | (go_at_call 64; refine (HAt.out _).mono ?_; rintro e w4 ⟨rfl, hb⟩; have hbk := (hb.block _ (blk_lt HBK3.out)).trans HBK3.out; have b0 := cells_of_heap hbk 0 (.int .i64 s.a.status) rfl; have b1 := cells_of_heap hbk 1 (.slice Af s.a.fields.length cf) rfl; have b2 := cells_of_heap hbk 2 (.slice At s.a.trails.length ct) rfl; have b3 := cells_of_heap hbk 3 (.int .i64 s.a.length) rfl; have b4 := cells_of_heap hbk 4 (.int .i64 s.a.came) rfl; have b5 := cells_of_heap hbk 5 (.bool s.a.done) rfl; have fb : ∀ j, w4.frozen? ⟨w1.heap.size, j, none⟩ = false := (fun j => by simp [World.frozen?, hbk]); have HB4 := Aside0.mk (below_step HB3.out hb); have HBK4 := Aside0.mk hbk; clear hb hbk HB3 HBK3)
              | (go_at_call 61; refine (HT.out s.a Af At cf ct _ w4 HB4.out (HR.out.rf.below HB4.out) (HR.out.rt.below HB4.out)).mono ?_; rintro e w9 ⟨rfl, hx⟩; have HX := Aside0.mk hx; clear hx))
            go_ret
            exact ⟨rfl, HX.out⟩
        · have e3 : decide (N < 200) = false := decide_eq_false h3
          have HDd := Aside0.mk (HDc.out.trans (if_neg h3))
          rw [HDd.out]
          clear h3 HDc
          go_enter Tryz.func20, Tryz.ntmps20
          go_wp2_with (first
            | (go_at_call 59; refine HO.out.mono ?_; rintro e w1 ⟨rfl, hb⟩; have hr1 := HR.out.below hb; have k1 := hr1.k1; have k2 := hr1.k2; have k3 := hr1.k3; have k4 := hr1.k4; have k5 := hr1.k5; have k6 := hr1.k6; have HB := Aside0.mk hb; clear hb hr1)
            | (go_at_call 62; refine (HRe.out _ (below_alloc HB.out _)).mono ?_; rintro e w2 ⟨rfl, hb⟩; have hbk := (hb.block _ (blk_lt (heap_alloc_new w1 _))).trans (heap_alloc_new w1 (.cells #[.int .i64 s.a.status, .slice Af s.a.fields.length cf, .slice At s.a.trails.length ct, .int .i64 s.a.length, .int .i64 s.a.came, .bool s.a.done] 82)); have b0 := cells_of_heap hbk 0 (.int .i64 s.a.status) rfl; have b1 := cells_of_heap hbk 1 (.slice Af s.a.fields.length cf) rfl; have b2 := cells_of_heap hbk 2 (.slice At s.a.trails.length ct) rfl; have b3 := cells_of_heap hbk 3 (.int .i64 s.a.length) rfl; have b4 := cells_of_heap hbk 4 (.int .i64 s.a.came) rfl; have b5 := cells_of_heap hbk 5 (.bool s.a.done) rfl; have HB2 := Aside0.mk (below_step (below_alloc HB.out _) hb); have HBK2 := Aside0.mk hbk; have HBW := Aside0.mk HB.out.size; clear hb hbk HB)
            | (go_at_call 63; refine (HGe.out _ HB2.out).mono ?_; rintro e w3 ⟨rfl, hb⟩; have hbk := (hb.block _ (blk_lt HBK2.out)).trans HBK2.out; have b0 := cells_of_heap hbk 0 (.int .i64 s.a.status) rfl; have b1 := cells_of_heap hbk 1 (.slice Af s.a.fields.length cf) rfl; have b2 := cells_of_heap hbk 2 (.slice At s.a.trails.length ct) rfl; have b3 := cells_of_heap hbk 3 (.int .i64 s.a.length) rfl; have b4 := cells_of_heap hbk 4 (.int .i64 s.a.came) rfl; have b5 := cells_of_heap hbk 5 (.bool s.a.done) rfl; have HB3 := Aside0.mk (below_step HB2.out hb); have HBK3 := Aside0.mk hbk; clear hb hbk HB2 HBK2)
            | (go_at_call 64; refine (HAt.out _).mono ?_; rintro e w4 ⟨rfl, hb⟩; have hbk := (hb.block _ (blk_lt HBK3.out)).trans HBK3.out; have b0 := cells_of_heap hbk 0 (.int .i64 s.a.status) rfl; have b1 := cells_of_heap hbk 1 (.slice Af s.a.fields.length cf) rfl; have b2 := cells_of_heap hbk 2 (.slice At s.a.trails.length ct) rfl; have b3 := cells_of_heap hbk 3 (.int .i64 s.a.length) rfl; have b4 := cells_of_heap hbk 4 (.int .i64 s.a.came) rfl; have b5 := cells_of_heap hbk 5 (.bool s.a.done) rfl; have fb : ∀ j, w4.frozen? ⟨w1.heap.size, j, none⟩ = false := (fun j => by simp [World.frozen?, hbk]); have HB4 := Aside0.mk (below_step HB3.out hb); have HBK4 := Aside0.mk hbk; clear hb hbk HB3 HBK3)
            | (go_at_call 60; refine (HCl.out _ (HB4.out.setCell (p := ⟨w1.heap.size, 0, none⟩) HBW.out _)).mono ?_; rintro e w5 ⟨A5, c5, rfl, hF, hb⟩; have hp4 := heap_put HBK4.out 0 (.int .i64 N) (by simp); have hbk := (hb.block _ (blk_lt hp4)).trans hp4; have HBK5 := Aside0.mk hbk; have HLT := Aside0.mk (blk_lt hp4); have HB45 := Aside0.mk hb; have HB5 := Aside0.mk (below_step (HB4.out.setCell (p := ⟨w1.heap.size, 0, none⟩) HBW.out _) hb); have HF5 := Aside0.mk hF; have HS4 := Aside0.mk (HB4.out.setCell (p := ⟨w1.heap.size, 0, none⟩) HBW.out (.int .i64 N)).size; clear hb hbk hp4 hF HB4 HBK4 fb b0 b1 b2 b3 b4 b5)
            | (go_at_call 65; refine (del_c HF5.out HPos.out HB45.out.size HLn.out.1).mono ?_; rintro e w6 ⟨rfl, hF, hb⟩; have hbk := (hb.block _ HLT.out).trans HBK5.out; have b1 := cells_of_heap hbk 1 (.slice Af s.a.fields.length cf) rfl; have fb1 : w6.frozen? ⟨w1.heap.size, 1, none⟩ = false := (by simp [World.frozen?, hbk]); have HBK6 := Aside0.mk (heap_put hbk 1 (.slice A5 (others l).length c5) (by simp)); have HF6 := Aside0.mk (fr_set (b := w1.heap.size) (i := 1) hF HLT.out (.slice A5 (others l).length c5)); have HB6 := Aside0.mk ((HB5.out.trans (hb.mono HS4.out)).setCell (p := ⟨w1.heap.size, 1, none⟩) HBW.out (.slice A5 (others l).length c5)); clear hb hbk hF HB5 HBK5 HF5 HB45)
            | (go_at_call 32; refine (HLe.out _ HB6.out).mono ?_; rintro e w7 ⟨rfl, hb⟩; have hbk := (hb.block _ (blk_lt HBK6.out)).trans HBK6.out; clear b1 fb1; have b0 := cells_of_heap hbk 0 (.int .i64 N) rfl; have b1 := cells_of_heap hbk 1 (.slice A5 (others l).length c5) rfl; have b2 := cells_of_heap hbk 2 (.slice At s.a.trails.length ct) rfl; have b3 := cells_of_heap hbk 3 (.int .i64 s.a.length) rfl; have b4 := cells_of_heap hbk 4 (.int .i64 s.a.came) rfl; have b5 := cells_of_heap hbk 5 (.bool s.a.done) rfl; have fb3 : ∀ j, w7.frozen? ⟨w1.heap.size, j, none⟩ = false := (fun j => by simp [World.frozen?, hbk]); have HB7 := Aside0.mk ((below_step HB6.out hb).setCell (p := ⟨w1.heap.size, 3, none⟩) HBW.out (.int .i64 L1)); have HF7 := Aside0.mk (fr_set (b := w1.heap.size) (i := 3) (HF6.out.step hb) HLT.out (.int .i64 L1)); clear hb hbk HB6 HBK6 HF6)
            | (go_at_call 61; refine (HT.out { s.a with status := N, fields := others l, length := L1 } A5 At c5 ct _ _ HB7.out (Row.of_fr HF7.out (show (others l).length ≤ 1000000000 by have := others_le l; have := HLn.out.1; omega) (by have := HGl.out; have := HS4.out; omega)) (HR.out.rt.below HB7.out)).mono ?_; rintro e w9 ⟨rfl, hx⟩; have HX := Aside0.mk hx; clear hx))
          go_ret
          exact ⟨rfl, HX.out⟩
      · have HDb := Aside0.mk (HDa.trans (if_pos h2))
        rw [HDb.out]
        generalize respQ l = er at HRe h2
        have e2 : decide (er = 0) = false := decide_eq_false h2
        have e2b : (er == 0) = false := beq_eq_false_iff_ne.2 h2
        clear HD HDa h1
        go_enter Tryz.func20, Tryz.ntmps20
        go_wp2_with (first
          | (go_at_call 59; refine HO.out.mono ?_; rintro e w1 ⟨rfl, hb⟩; have hr1 := HR.out.below hb; have k1 := hr1.k1; have k2 := hr1.k2; have k3 := hr1.k3; have k4 := hr1.k4; have k5 := hr1.k5; have k6 := hr1.k6; have HB := Aside0.mk hb; clear hb hr1)
          | (go_at_call 62; refine (HRe.out _ (below_alloc HB.out _)).mono ?_; rintro e w2 ⟨rfl, hb⟩; have hbk := (hb.block _ (blk_lt (heap_alloc_new w1 _))).trans (heap_alloc_new w1 (.cells #[.int .i64 s.a.status, .slice Af s.a.fields.length cf, .slice At s.a.trails.length ct, .int .i64 s.a.length, .int .i64 s.a.came, .bool s.a.done] 82)); have b0 := cells_of_heap hbk 0 (.int .i64 s.a.status) rfl; have b1 := cells_of_heap hbk 1 (.slice Af s.a.fields.length cf) rfl; have b2 := cells_of_heap hbk 2 (.slice At s.a.trails.length ct) rfl; have b3 := cells_of_heap hbk 3 (.int .i64 s.a.length) rfl; have b4 := cells_of_heap hbk 4 (.int .i64 s.a.came) rfl; have b5 := cells_of_heap hbk 5 (.bool s.a.done) rfl; have HB2 := Aside0.mk (below_step (below_alloc HB.out _) hb); have HBK2 := Aside0.mk hbk; have HBW := Aside0.mk HB.out.size; clear hb hbk HB)
          | (go_at_call 61; refine (HT.out s.a Af At cf ct _ w2 HB2.out (HR.out.rf.below HB2.out) (HR.out.rt.below HB2.out)).mono ?_; rintro e w9 ⟨rfl, hx⟩; have HX := Aside0.mk hx; clear hx))
        go_ret
        exact ⟨rfl, HX.out⟩
end Go.Proofs.YtififgiicpdndaaGreatDoor.Fw
/- A request's headers: pack.Sum, message.Safe, message.Fields: contracts. -/
namespace Go.Proofs.YtififgiicpdndaaGreatDoor.Fw
open Go.RowKit Go.Proofs.YtififgiicpdndaaGreatDoor.XMi Go.Proofs.YtififgiicpdndaaGreatDoorW.PrintWords Go.Proofs.YtififgiicpdndaaGreatDoorW.PrintLast Go.Proofs.YtififgiicpdndaaGreatDoorW.PrintMore Go.Proofs.YtififgiicpdndaaGreatDoor.Ms Go.Proofs.YtififgiicpdndaaGreatDoor.Ob
theorem sum_l0 (l : List S61) (hS : Sized l) : ∀ (rest pre : List S61) (n k : Nat), l = pre ++ rest → rest.length + 1 ≤ k → n ≤ pre.length * 200032 → pack_Sum.l0 k (n : Int) l (l.length : Int) (pre.length : Int) = some (((n + costS rest : Nat) : Int))
  | [], pre, n, k, e, hk, hn => by
    obtain ⟨k, rfl⟩ : ∃ m, k = m + 1 := ⟨k - 1, by omega⟩
    have hp : pre.length = l.length := by rw [e, List.append_nil]
    rw [hp]
    unfold pack_Sum.l0
    rw [if_neg (by omega)]
    rfl
  | f :: rest, pre, n, k, e, hk, hn => by
    obtain ⟨k, rfl⟩ : ∃ m, k = m + 1 := ⟨k - 1, by omega⟩
    have hp : pre.length < l.length := by rw [e]; simp
    have hl := hS.len
    obtain ⟨h0, h1⟩ := hS.sz f (by rw [e]; simp)
    have hf : rd_T61 l (pre.length : Int) = f := by
      have : l[pre.length]? = some f := by rw [e]; simp
      simp [rd_T61, this]
    unfold pack_Sum.l0
    rw [if_pos (by omega), if_pos (by omega), if_pos (by omega), hf]
    unfold table_Cost.f
    rw [Option.bind_some, w64_next _ (by omega)]
    have x1 : wrap64 ((f.f0.size : Int) + (f.f1.size : Int)) = (f.f0.size : Int) + (f.f1.size : Int) := w64_in ((f.f0.size : Int) + (f.f1.size : Int)) (by omega)
    have x2 : wrap64 ((f.f0.size : Int) + (f.f1.size : Int) + 32) = ((f.f0.size + f.f1.size + 32 : Nat) : Int) := by rw [w64_in ((f.f0.size : Int) + (f.f1.size : Int) + 32) (by omega)]; omega
    have x3 : wrap64 ((n : Int) + ((f.f0.size + f.f1.size + 32 : Nat) : Int)) = ((n + (f.f0.size + f.f1.size + 32) : Nat) : Int) := by rw [w64_in ((n : Int) + ((f.f0.size + f.f1.size + 32 : Nat) : Int)) (by omega)]; omega
    rw [x1, x2, x3]
    clear x1 x2 x3
    have ih := sum_l0 l hS rest (pre ++ [f]) (n + (f.f0.size + f.f1.size + 32)) k (by rw [e]; simp) (by simp at hk; omega) (by rw [List.length_append, List.length_singleton]; omega)
    rw [List.length_append, List.length_singleton] at ih
    rw [ih]
    rw [show costS (f :: rest) = f.f0.size + f.f1.size + 32 + costS rest from rfl]
    congr 2
    omega
theorem sum_c {A : Option Addr} {l : List S61} {n c : Nat} {w : World} (hS : Sized l) (hC : k61.C w A n l) (hc : n ≤ c) : Calls Tryz.prog 30 #[.slice A n c] w fun e w' => e = .returned (.int .i64 ((costS l : Nat) : Int)) ∧ Below w.heap.size w w' := by
  obtain rfl : l.length = n := hC.1
  have h := sum_l0 l hS l [] 0 (l.length + 1) rfl (Nat.le_refl _) (Nat.zero_le _)
  rw [Nat.zero_add] at h
  exact pack_Sum.calls (l.length + 1) A c l _ w hC hc h
theorem safe_c (m : ByteArray) (w : World) : Calls Tryz.prog 13 #[.string m] w fun e w' => e = .returned (.bool (safeP m)) ∧ Below w.heap.size w w' := by
  refine message_Safe.calls 10 m _ w ?_
  unfold message_Safe.f
  rw [mem_eq 10 _ m (by decide) (by decide)]
  rfl
def rqV (r : RQ) (Bf : Option Addr) (bf : Nat) (Bt : Option Addr) (bt : Nat) : Value := .agg #[.string r.m, .string r.sc, .string r.au, .string r.pa, .slice Bf r.fs.length bf, .string r.body, .slice Bt r.ts.length bt]
/-- What message.Fields answers: the list, a row of one's own, if there is no error. -/
def FsPost (w : World) (r : RQ) (e : Ending) (w' : World) : Prop := Below w.heap.size w w' ∧ ∃ A n c, e = .returned (.tuple #[.slice A n c, .int .i64 (fieldsE r)]) ∧ (fieldsE r ≠ 0 → A = none ∧ n = 0 ∧ c = 0) ∧ (fieldsE r = 0 → FR w' w.heap.size A n c (listP r))
theorem fr_four (w : World) (m sc au pa : ByteArray) (base : Nat) (hb : base ≤ w.heap.size) : FR (w.alloc (.cells #[.string ⟨#[58, 109, 101, 116, 104, 111, 100]⟩, .string m, .string ⟨#[58, 115, 99, 104, 101, 109, 101]⟩, .string sc, .string ⟨#[58, 97, 117, 116, 104, 111, 114, 105, 116, 121]⟩, .string au, .string ⟨#[58, 112, 97, 116, 104]⟩, .string pa] 61)) base (some ⟨w.heap.size, 0, none⟩) 4 4 (ownFour m sc au pa) :=
  ⟨rfl, rfl, .inr ⟨w.heap.size, 4, #[.string ⟨#[58, 109, 101, 116, 104, 111, 100]⟩, .string m, .string ⟨#[58, 115, 99, 104, 101, 109, 101]⟩, .string sc, .string ⟨#[58, 97, 117, 116, 104, 111, 114, 105, 116, 121]⟩, .string au, .string ⟨#[58, 112, 97, 116, 104]⟩, .string pa], rfl, hb, heap_alloc_new w _, Nat.le_refl _, by decide, rfl, rfl⟩⟩
theorem fr_four' {W : World} {b : Nat} (h : W.heap.size = b) (m sc au pa : ByteArray) (base : Nat) (hb : base ≤ b) : FR (W.alloc (.cells #[.string ⟨#[58, 109, 101, 116, 104, 111, 100]⟩, .string m, .string ⟨#[58, 115, 99, 104, 101, 109, 101]⟩, .string sc, .string ⟨#[58, 97, 117, 116, 104, 111, 114, 105, 116, 121]⟩, .string au, .string ⟨#[58, 112, 97, 116, 104]⟩, .string pa] 61)) base (some ⟨b, 0, none⟩) 4 4 (ownFour m sc au pa) := by
  subst h
  exact fr_four W m sc au pa base hb
set_option maxHeartbeats 3200000 in
set_option maxRecDepth 20000 in
theorem fields_c (r : RQ) (Bf Bt : Option Addr) (bf bt : Nat) (w : World) (hF : k61.C w Bf r.fs.length r.fs) (hT : k61.C w Bt r.ts.length r.ts) (ht : r.ts.length ≤ bt) (hlen : r.fs.length ≤ 90000) (hb : r.body.size ≤ 1000000000) (hS1 : Sized r.ts) (hS2 : Sized (listP r)) : Calls Tryz.prog 8 #[rqV r Bf bf Bt bt] w (FsPost w r) := by
  have HC := Aside0.mk (And.intro hF (And.intro hT hlen))
  have HTr := Aside0.mk (fun (W : World) (hb : Below w.heap.size w W) => trail_n (c := bt) hS1 (Kd.C_below hT hb))
  have HSt := Aside0.mk (fun (W : World) (hb : Below w.heap.size w W) => sum_c hS1 (Kd.C_below hT hb) ht)
  have HRq := Aside0.mk (fun (W : World) (A : Option Addr) (n c : Nat) (hC : k61.C W A n (listP r)) => req_n (c := c) hS2 hC)
  have HLe := Aside0.mk (fun (W : World) (A : Option Addr) (n c : Nat) (hC : k61.C W A n (listP r)) (hc : n ≤ c) => len_n hS2 hC hc)
  have HSl := Aside0.mk (fun (W : World) (A : Option Addr) (n c : Nat) (hC : k61.C W A n (listP r)) (hc : n ≤ c) => sum_c hS2 hC hc)
  have HFE : Aside0 (fieldsE r = if r.body.size > 400 ∨ trailQ r.ts ≠ 0 ∨ costS r.ts > 600 then 1 else if reqQ (listP r) ≠ 0 then reqQ (listP r) else if costS (listP r) > 600 then 5 else if (lenQ (listP r)).2 ≠ 0 then (lenQ (listP r)).2 else if (lenQ (listP r)).1 ≥ 0 ∧ (lenQ (listP r)).1 ≠ (r.body.size : Int) then 22 else 0) := ⟨rfl⟩
  have HLL : Aside0 ((listP r).length ≤ 1000000000) := ⟨by have := hS2.len; omega⟩
  have hnone : ∀ {w' : World} {er : Int}, fieldsE r = er → er ≠ 0 → Below w.heap.size w w' → FsPost w r (.returned (.tuple #[.slice none 0 0, .int .i64 er])) w' := fun {w' er} he hne hb => ⟨hb, none, 0, 0, by rw [he], fun _ => ⟨rfl, rfl, rfl⟩, fun h => absurd (he.symm.trans h) hne⟩
  have HN := Aside0.mk (@hnone)
  clear hF hT ht hlen hS1 hS2 hnone
  unfold rqV
  generalize trailQ r.ts = tq at HTr HFE
  generalize costS r.ts = ct at HSt HFE
  generalize reqQ (listP r) = rq at HRq HFE
  generalize costS (listP r) = cl at HSl HFE
  generalize (lenQ (listP r)).1 = l1 at HLe HFE
  generalize (lenQ (listP r)).2 = l2 at HLe HFE
  by_cases h1 : r.body.size > 400
  · have e1 : decide ((r.body.size : Int) > 400) = true := decide_eq_true (by omega)
    have HE := Aside0.mk (HFE.out.trans (if_pos (.inl h1)))
    clear h1 hb
    clear HFE
    go_enter Tryz.func8, Tryz.ntmps8
    go_wp2_with (first
      | ((with_reducible refine gate_builtin (b := .append) (xs := #[.tmp 21, .tmp 23]) rfl ?_); at_builtin; refine list_app rfl (.tmp 21) (.tmp 23) rfl (w.alloc (.cells #[.string r.m, .string r.sc, .string r.au, .string r.pa, .slice Bf r.fs.length bf, .string r.body, .slice Bt r.ts.length bt] 24)) (w.heap.size + 1) _ Bf 4 4 r.fs.length bf (ownFour r.m r.sc r.au r.pa) r.fs rfl rfl (fr_four' (by simp) r.m r.sc r.au r.pa _ (Nat.le_refl _)) (Kd.C_below HC.out.1 (below_alloc (below_alloc (Below.refl _ _) _) _)) ?_ ?_ (Below.alloc (Below.refl _ _) (by simp) _) ?_; (have := HC.out.2.2; show 4 + r.fs.length ≤ 1000000; omega); (simp); intro A1 c1 w1 hF hb _; have hbk := (hb.block w.heap.size (Nat.lt_succ_self _)).trans (heap_alloc_new w (.cells #[.string r.m, .string r.sc, .string r.au, .string r.pa, .slice Bf r.fs.length bf, .string r.body, .slice Bt r.ts.length bt] 24)); have b5 := cells_of_heap hbk 5 (.string r.body) rfl; have b6 := cells_of_heap hbk 6 (.slice Bt r.ts.length bt) rfl; have HBK := Aside0.mk hbk; have HB := Aside0.mk ((below_alloc (Below.refl w.heap.size w) (.cells #[.string r.m, .string r.sc, .string r.au, .string r.pa, .slice Bf r.fs.length bf, .string r.body, .slice Bt r.ts.length bt] 24)).trans (hb.mono (Nat.le_succ _))); have HF1 := Aside0.mk hF; clear hb hbk hF)
      | (go_at_call 29; refine (HTr.out _ HB.out).mono ?_; rintro e w2 ⟨rfl, hb⟩; have hbk := (hb.block _ (blk_lt HBK.out)).trans HBK.out; have b5 := cells_of_heap hbk 5 (.string r.body) rfl; have b6 := cells_of_heap hbk 6 (.slice Bt r.ts.length bt) rfl; have HBK2 := Aside0.mk hbk; have HB2 := Aside0.mk (below_step HB.out hb); have HF2 := Aside0.mk (HF1.out.step hb); clear hb hbk HBK HB HF1; have HBK := HBK2; have HB := HB2; have HF1 := HF2; clear HBK2 HB2 HF2 HTr)
      | (go_at_call 30; refine (HSt.out _ HB.out).mono ?_; rintro e w2 ⟨rfl, hb⟩; have hbk := (hb.block _ (blk_lt HBK.out)).trans HBK.out; have b5 := cells_of_heap hbk 5 (.string r.body) rfl; have b6 := cells_of_heap hbk 6 (.slice Bt r.ts.length bt) rfl; have HBK2 := Aside0.mk hbk; have HB2 := Aside0.mk (below_step HB.out hb); have HF2 := Aside0.mk (HF1.out.step hb); clear hb hbk HBK HB HF1; have HBK := HBK2; have HB := HB2; have HF1 := HF2; clear HBK2 HB2 HF2 HSt)
      | (go_at_call 31; refine (HRq.out _ _ _ _ (HF1.out.c HLL.out).1).mono ?_; rintro e w2 ⟨rfl, hb⟩; have hbk := (hb.block _ (blk_lt HBK.out)).trans HBK.out; have b5 := cells_of_heap hbk 5 (.string r.body) rfl; have b6 := cells_of_heap hbk 6 (.slice Bt r.ts.length bt) rfl; have HBK2 := Aside0.mk hbk; have HB2 := Aside0.mk (below_step HB.out hb); have HF2 := Aside0.mk (HF1.out.step hb); clear hb hbk HBK HB HF1; have HBK := HBK2; have HB := HB2; have HF1 := HF2; clear HBK2 HB2 HF2 HRq)
      | (go_at_call 32; refine (HLe.out _ _ _ _ (HF1.out.c HLL.out).1 (HF1.out.c HLL.out).2).mono ?_; rintro e w2 ⟨rfl, hb⟩; have hbk := (hb.block _ (blk_lt HBK.out)).trans HBK.out; have b5 := cells_of_heap hbk 5 (.string r.body) rfl; have b6 := cells_of_heap hbk 6 (.slice Bt r.ts.length bt) rfl; have HBK2 := Aside0.mk hbk; have HB2 := Aside0.mk (below_step HB.out hb); have HF2 := Aside0.mk (HF1.out.step hb); clear hb hbk HBK HB HF1; have HBK := HBK2; have HB := HB2; have HF1 := HF2; clear HBK2 HB2 HF2 HLe)
      | (go_at_call 30; refine (HSl.out _ _ _ _ (HF1.out.c HLL.out).1 (HF1.out.c HLL.out).2).mono ?_; rintro e w2 ⟨rfl, hb⟩; have hbk := (hb.block _ (blk_lt HBK.out)).trans HBK.out; have b5 := cells_of_heap hbk 5 (.string r.body) rfl; have b6 := cells_of_heap hbk 6 (.slice Bt r.ts.length bt) rfl; have HBK2 := Aside0.mk hbk; have HB2 := Aside0.mk (below_step HB.out hb); have HF2 := Aside0.mk (HF1.out.step hb); clear hb hbk HBK HB HF1; have HBK := HBK2; have HB := HB2; have HF1 := HF2; clear HBK2 HB2 HF2 HSl))
    go_ret2
    exact HN.out HE.out (by decide) HB.out
  have e1 : decide ((r.body.size : Int) > 400) = false := decide_eq_false (by omega)
  by_cases h2 : ¬ tq = 0
  · have e2 : decide (tq = 0) = false := decide_eq_false h2
    have e2b : (tq == 0) = false := beq_eq_false_iff_ne.2 h2
    have HE := Aside0.mk (HFE.out.trans (if_pos (.inr (.inl h2))))
    clear h1 hb
    clear HFE
    go_enter Tryz.func8, Tryz.ntmps8
    go_wp2_with (first
      | ((with_reducible refine gate_builtin (b := .append) (xs := #[.tmp 21, .tmp 23]) rfl ?_); at_builtin; refine list_app rfl (.tmp 21) (.tmp 23) rfl (w.alloc (.cells #[.string r.m, .string r.sc, .string r.au, .string r.pa, .slice Bf r.fs.length bf, .string r.body, .slice Bt r.ts.length bt] 24)) (w.heap.size + 1) _ Bf 4 4 r.fs.length bf (ownFour r.m r.sc r.au r.pa) r.fs rfl rfl (fr_four' (by simp) r.m r.sc r.au r.pa _ (Nat.le_refl _)) (Kd.C_below HC.out.1 (below_alloc (below_alloc (Below.refl _ _) _) _)) ?_ ?_ (Below.alloc (Below.refl _ _) (by simp) _) ?_; (have := HC.out.2.2; show 4 + r.fs.length ≤ 1000000; omega); (simp); intro A1 c1 w1 hF hb _; have hbk := (hb.block w.heap.size (Nat.lt_succ_self _)).trans (heap_alloc_new w (.cells #[.string r.m, .string r.sc, .string r.au, .string r.pa, .slice Bf r.fs.length bf, .string r.body, .slice Bt r.ts.length bt] 24)); have b5 := cells_of_heap hbk 5 (.string r.body) rfl; have b6 := cells_of_heap hbk 6 (.slice Bt r.ts.length bt) rfl; have HBK := Aside0.mk hbk; have HB := Aside0.mk ((below_alloc (Below.refl w.heap.size w) (.cells #[.string r.m, .string r.sc, .string r.au, .string r.pa, .slice Bf r.fs.length bf, .string r.body, .slice Bt r.ts.length bt] 24)).trans (hb.mono (Nat.le_succ _))); have HF1 := Aside0.mk hF; clear hb hbk hF)
      | (go_at_call 29; refine (HTr.out _ HB.out).mono ?_; rintro e w2 ⟨rfl, hb⟩; have hbk := (hb.block _ (blk_lt HBK.out)).trans HBK.out; have b5 := cells_of_heap hbk 5 (.string r.body) rfl; have b6 := cells_of_heap hbk 6 (.slice Bt r.ts.length bt) rfl; have HBK2 := Aside0.mk hbk; have HB2 := Aside0.mk (below_step HB.out hb); have HF2 := Aside0.mk (HF1.out.step hb); clear hb hbk HBK HB HF1; have HBK := HBK2; have HB := HB2; have HF1 := HF2; clear HBK2 HB2 HF2 HTr)
      | (go_at_call 30; refine (HSt.out _ HB.out).mono ?_; rintro e w2 ⟨rfl, hb⟩; have hbk := (hb.block _ (blk_lt HBK.out)).trans HBK.out; have b5 := cells_of_heap hbk 5 (.string r.body) rfl; have b6 := cells_of_heap hbk 6 (.slice Bt r.ts.length bt) rfl; have HBK2 := Aside0.mk hbk; have HB2 := Aside0.mk (below_step HB.out hb); have HF2 := Aside0.mk (HF1.out.step hb); clear hb hbk HBK HB HF1; have HBK := HBK2; have HB := HB2; have HF1 := HF2; clear HBK2 HB2 HF2 HSt)
      | (go_at_call 31; refine (HRq.out _ _ _ _ (HF1.out.c HLL.out).1).mono ?_; rintro e w2 ⟨rfl, hb⟩; have hbk := (hb.block _ (blk_lt HBK.out)).trans HBK.out; have b5 := cells_of_heap hbk 5 (.string r.body) rfl; have b6 := cells_of_heap hbk 6 (.slice Bt r.ts.length bt) rfl; have HBK2 := Aside0.mk hbk; have HB2 := Aside0.mk (below_step HB.out hb); have HF2 := Aside0.mk (HF1.out.step hb); clear hb hbk HBK HB HF1; have HBK := HBK2; have HB := HB2; have HF1 := HF2; clear HBK2 HB2 HF2 HRq)
      | (go_at_call 32; refine (HLe.out _ _ _ _ (HF1.out.c HLL.out).1 (HF1.out.c HLL.out).2).mono ?_; rintro e w2 ⟨rfl, hb⟩; have hbk := (hb.block _ (blk_lt HBK.out)).trans HBK.out; have b5 := cells_of_heap hbk 5 (.string r.body) rfl; have b6 := cells_of_heap hbk 6 (.slice Bt r.ts.length bt) rfl; have HBK2 := Aside0.mk hbk; have HB2 := Aside0.mk (below_step HB.out hb); have HF2 := Aside0.mk (HF1.out.step hb); clear hb hbk HBK HB HF1; have HBK := HBK2; have HB := HB2; have HF1 := HF2; clear HBK2 HB2 HF2 HLe)
      | (go_at_call 30; refine (HSl.out _ _ _ _ (HF1.out.c HLL.out).1 (HF1.out.c HLL.out).2).mono ?_; rintro e w2 ⟨rfl, hb⟩; have hbk := (hb.block _ (blk_lt HBK.out)).trans HBK.out; have b5 := cells_of_heap hbk 5 (.string r.body) rfl; have b6 := cells_of_heap hbk 6 (.slice Bt r.ts.length bt) rfl; have HBK2 := Aside0.mk hbk; have HB2 := Aside0.mk (below_step HB.out hb); have HF2 := Aside0.mk (HF1.out.step hb); clear hb hbk HBK HB HF1; have HBK := HBK2; have HB := HB2; have HF1 := HF2; clear HBK2 HB2 HF2 HSl))
    go_ret2
    exact HN.out HE.out (by decide) HB.out
  obtain rfl : tq = 0 := Classical.byContradiction h2
  by_cases h3 : ct > 600
  · have e3 : decide ((ct : Int) > 600) = true := decide_eq_true (by omega)
    have HE := Aside0.mk (HFE.out.trans (if_pos (.inr (.inr h3))))
    clear h1 hb h3
    clear HFE
    go_enter Tryz.func8, Tryz.ntmps8
    go_wp2_with (first
      | ((with_reducible refine gate_builtin (b := .append) (xs := #[.tmp 21, .tmp 23]) rfl ?_); at_builtin; refine list_app rfl (.tmp 21) (.tmp 23) rfl (w.alloc (.cells #[.string r.m, .string r.sc, .string r.au, .string r.pa, .slice Bf r.fs.length bf, .string r.body, .slice Bt r.ts.length bt] 24)) (w.heap.size + 1) _ Bf 4 4 r.fs.length bf (ownFour r.m r.sc r.au r.pa) r.fs rfl rfl (fr_four' (by simp) r.m r.sc r.au r.pa _ (Nat.le_refl _)) (Kd.C_below HC.out.1 (below_alloc (below_alloc (Below.refl _ _) _) _)) ?_ ?_ (Below.alloc (Below.refl _ _) (by simp) _) ?_; (have := HC.out.2.2; show 4 + r.fs.length ≤ 1000000; omega); (simp); intro A1 c1 w1 hF hb _; have hbk := (hb.block w.heap.size (Nat.lt_succ_self _)).trans (heap_alloc_new w (.cells #[.string r.m, .string r.sc, .string r.au, .string r.pa, .slice Bf r.fs.length bf, .string r.body, .slice Bt r.ts.length bt] 24)); have b5 := cells_of_heap hbk 5 (.string r.body) rfl; have b6 := cells_of_heap hbk 6 (.slice Bt r.ts.length bt) rfl; have HBK := Aside0.mk hbk; have HB := Aside0.mk ((below_alloc (Below.refl w.heap.size w) (.cells #[.string r.m, .string r.sc, .string r.au, .string r.pa, .slice Bf r.fs.length bf, .string r.body, .slice Bt r.ts.length bt] 24)).trans (hb.mono (Nat.le_succ _))); have HF1 := Aside0.mk hF; clear hb hbk hF)
      | (go_at_call 29; refine (HTr.out _ HB.out).mono ?_; rintro e w2 ⟨rfl, hb⟩; have hbk := (hb.block _ (blk_lt HBK.out)).trans HBK.out; have b5 := cells_of_heap hbk 5 (.string r.body) rfl; have b6 := cells_of_heap hbk 6 (.slice Bt r.ts.length bt) rfl; have HBK2 := Aside0.mk hbk; have HB2 := Aside0.mk (below_step HB.out hb); have HF2 := Aside0.mk (HF1.out.step hb); clear hb hbk HBK HB HF1; have HBK := HBK2; have HB := HB2; have HF1 := HF2; clear HBK2 HB2 HF2 HTr)
      | (go_at_call 30; refine (HSt.out _ HB.out).mono ?_; rintro e w2 ⟨rfl, hb⟩; have hbk := (hb.block _ (blk_lt HBK.out)).trans HBK.out; have b5 := cells_of_heap hbk 5 (.string r.body) rfl; have b6 := cells_of_heap hbk 6 (.slice Bt r.ts.length bt) rfl; have HBK2 := Aside0.mk hbk; have HB2 := Aside0.mk (below_step HB.out hb); have HF2 := Aside0.mk (HF1.out.step hb); clear hb hbk HBK HB HF1; have HBK := HBK2; have HB := HB2; have HF1 := HF2; clear HBK2 HB2 HF2 HSt)
      | (go_at_call 31; refine (HRq.out _ _ _ _ (HF1.out.c HLL.out).1).mono ?_; rintro e w2 ⟨rfl, hb⟩; have hbk := (hb.block _ (blk_lt HBK.out)).trans HBK.out; have b5 := cells_of_heap hbk 5 (.string r.body) rfl; have b6 := cells_of_heap hbk 6 (.slice Bt r.ts.length bt) rfl; have HBK2 := Aside0.mk hbk; have HB2 := Aside0.mk (below_step HB.out hb); have HF2 := Aside0.mk (HF1.out.step hb); clear hb hbk HBK HB HF1; have HBK := HBK2; have HB := HB2; have HF1 := HF2; clear HBK2 HB2 HF2 HRq)
      | (go_at_call 32; refine (HLe.out _ _ _ _ (HF1.out.c HLL.out).1 (HF1.out.c HLL.out).2).mono ?_; rintro e w2 ⟨rfl, hb⟩; have hbk := (hb.block _ (blk_lt HBK.out)).trans HBK.out; have b5 := cells_of_heap hbk 5 (.string r.body) rfl; have b6 := cells_of_heap hbk 6 (.slice Bt r.ts.length bt) rfl; have HBK2 := Aside0.mk hbk; have HB2 := Aside0.mk (below_step HB.out hb); have HF2 := Aside0.mk (HF1.out.step hb); clear hb hbk HBK HB HF1; have HBK := HBK2; have HB := HB2; have HF1 := HF2; clear HBK2 HB2 HF2 HLe)
      | (go_at_call 30; refine (HSl.out _ _ _ _ (HF1.out.c HLL.out).1 (HF1.out.c HLL.out).2).mono ?_; rintro e w2 ⟨rfl, hb⟩; have hbk := (hb.block _ (blk_lt HBK.out)).trans HBK.out; have b5 := cells_of_heap hbk 5 (.string r.body) rfl; have b6 := cells_of_heap hbk 6 (.slice Bt r.ts.length bt) rfl; have HBK2 := Aside0.mk hbk; have HB2 := Aside0.mk (below_step HB.out hb); have HF2 := Aside0.mk (HF1.out.step hb); clear hb hbk HBK HB HF1; have HBK := HBK2; have HB := HB2; have HF1 := HF2; clear HBK2 HB2 HF2 HSl))
    go_ret2
    exact HN.out HE.out (by decide) HB.out
  have e3 : decide ((ct : Int) > 600) = false := decide_eq_false (by omega)
  have HFE := Aside0.mk (HFE.out.trans (if_neg (by intro h; rcases h with h | h | h; exact h1 h; exact h rfl; exact h3 h)))
  clear h1 h3
  by_cases h4 : ¬ rq = 0
  · have e4 : decide (rq = 0) = false := decide_eq_false h4
    have e4b : (rq == 0) = false := beq_eq_false_iff_ne.2 h4
    have HE := Aside0.mk (HFE.out.trans (if_pos h4))
    have H4 := Aside0.mk h4
    clear hb
    clear HFE
    go_enter Tryz.func8, Tryz.ntmps8
    go_wp2_with (first
      | ((with_reducible refine gate_builtin (b := .append) (xs := #[.tmp 21, .tmp 23]) rfl ?_); at_builtin; refine list_app rfl (.tmp 21) (.tmp 23) rfl (w.alloc (.cells #[.string r.m, .string r.sc, .string r.au, .string r.pa, .slice Bf r.fs.length bf, .string r.body, .slice Bt r.ts.length bt] 24)) (w.heap.size + 1) _ Bf 4 4 r.fs.length bf (ownFour r.m r.sc r.au r.pa) r.fs rfl rfl (fr_four' (by simp) r.m r.sc r.au r.pa _ (Nat.le_refl _)) (Kd.C_below HC.out.1 (below_alloc (below_alloc (Below.refl _ _) _) _)) ?_ ?_ (Below.alloc (Below.refl _ _) (by simp) _) ?_; (have := HC.out.2.2; show 4 + r.fs.length ≤ 1000000; omega); (simp); intro A1 c1 w1 hF hb _; have hbk := (hb.block w.heap.size (Nat.lt_succ_self _)).trans (heap_alloc_new w (.cells #[.string r.m, .string r.sc, .string r.au, .string r.pa, .slice Bf r.fs.length bf, .string r.body, .slice Bt r.ts.length bt] 24)); have b5 := cells_of_heap hbk 5 (.string r.body) rfl; have b6 := cells_of_heap hbk 6 (.slice Bt r.ts.length bt) rfl; have HBK := Aside0.mk hbk; have HB := Aside0.mk ((below_alloc (Below.refl w.heap.size w) (.cells #[.string r.m, .string r.sc, .string r.au, .string r.pa, .slice Bf r.fs.length bf, .string r.body, .slice Bt r.ts.length bt] 24)).trans (hb.mono (Nat.le_succ _))); have HF1 := Aside0.mk hF; clear hb hbk hF)
      | (go_at_call 29; refine (HTr.out _ HB.out).mono ?_; rintro e w2 ⟨rfl, hb⟩; have hbk := (hb.block _ (blk_lt HBK.out)).trans HBK.out; have b5 := cells_of_heap hbk 5 (.string r.body) rfl; have b6 := cells_of_heap hbk 6 (.slice Bt r.ts.length bt) rfl; have HBK2 := Aside0.mk hbk; have HB2 := Aside0.mk (below_step HB.out hb); have HF2 := Aside0.mk (HF1.out.step hb); clear hb hbk HBK HB HF1; have HBK := HBK2; have HB := HB2; have HF1 := HF2; clear HBK2 HB2 HF2 HTr)
      | (go_at_call 30; refine (HSt.out _ HB.out).mono ?_; rintro e w2 ⟨rfl, hb⟩; have hbk := (hb.block _ (blk_lt HBK.out)).trans HBK.out; have b5 := cells_of_heap hbk 5 (.string r.body) rfl; have b6 := cells_of_heap hbk 6 (.slice Bt r.ts.length bt) rfl; have HBK2 := Aside0.mk hbk; have HB2 := Aside0.mk (below_step HB.out hb); have HF2 := Aside0.mk (HF1.out.step hb); clear hb hbk HBK HB HF1; have HBK := HBK2; have HB := HB2; have HF1 := HF2; clear HBK2 HB2 HF2 HSt)
      | (go_at_call 31; refine (HRq.out _ _ _ _ (HF1.out.c HLL.out).1).mono ?_; rintro e w2 ⟨rfl, hb⟩; have hbk := (hb.block _ (blk_lt HBK.out)).trans HBK.out; have b5 := cells_of_heap hbk 5 (.string r.body) rfl; have b6 := cells_of_heap hbk 6 (.slice Bt r.ts.length bt) rfl; have HBK2 := Aside0.mk hbk; have HB2 := Aside0.mk (below_step HB.out hb); have HF2 := Aside0.mk (HF1.out.step hb); clear hb hbk HBK HB HF1; have HBK := HBK2; have HB := HB2; have HF1 := HF2; clear HBK2 HB2 HF2 HRq)
      | (go_at_call 32; refine (HLe.out _ _ _ _ (HF1.out.c HLL.out).1 (HF1.out.c HLL.out).2).mono ?_; rintro e w2 ⟨rfl, hb⟩; have hbk := (hb.block _ (blk_lt HBK.out)).trans HBK.out; have b5 := cells_of_heap hbk 5 (.string r.body) rfl; have b6 := cells_of_heap hbk 6 (.slice Bt r.ts.length bt) rfl; have HBK2 := Aside0.mk hbk; have HB2 := Aside0.mk (below_step HB.out hb); have HF2 := Aside0.mk (HF1.out.step hb); clear hb hbk HBK HB HF1; have HBK := HBK2; have HB := HB2; have HF1 := HF2; clear HBK2 HB2 HF2 HLe)
      | (go_at_call 30; refine (HSl.out _ _ _ _ (HF1.out.c HLL.out).1 (HF1.out.c HLL.out).2).mono ?_; rintro e w2 ⟨rfl, hb⟩; have hbk := (hb.block _ (blk_lt HBK.out)).trans HBK.out; have b5 := cells_of_heap hbk 5 (.string r.body) rfl; have b6 := cells_of_heap hbk 6 (.slice Bt r.ts.length bt) rfl; have HBK2 := Aside0.mk hbk; have HB2 := Aside0.mk (below_step HB.out hb); have HF2 := Aside0.mk (HF1.out.step hb); clear hb hbk HBK HB HF1; have HBK := HBK2; have HB := HB2; have HF1 := HF2; clear HBK2 HB2 HF2 HSl))
    go_ret2
    exact HN.out HE.out H4.out HB.out
  obtain rfl : rq = 0 := Classical.byContradiction h4
  have HFE := Aside0.mk (HFE.out.trans (if_neg (fun h => h rfl)))
  by_cases h5 : cl > 600
  · have e5 : decide ((cl : Int) > 600) = true := decide_eq_true (by omega)
    have HE := Aside0.mk (HFE.out.trans (if_pos h5))
    clear hb h5
    clear HFE
    go_enter Tryz.func8, Tryz.ntmps8
    go_wp2_with (first
      | ((with_reducible refine gate_builtin (b := .append) (xs := #[.tmp 21, .tmp 23]) rfl ?_); at_builtin; refine list_app rfl (.tmp 21) (.tmp 23) rfl (w.alloc (.cells #[.string r.m, .string r.sc, .string r.au, .string r.pa, .slice Bf r.fs.length bf, .string r.body, .slice Bt r.ts.length bt] 24)) (w.heap.size + 1) _ Bf 4 4 r.fs.length bf (ownFour r.m r.sc r.au r.pa) r.fs rfl rfl (fr_four' (by simp) r.m r.sc r.au r.pa _ (Nat.le_refl _)) (Kd.C_below HC.out.1 (below_alloc (below_alloc (Below.refl _ _) _) _)) ?_ ?_ (Below.alloc (Below.refl _ _) (by simp) _) ?_; (have := HC.out.2.2; show 4 + r.fs.length ≤ 1000000; omega); (simp); intro A1 c1 w1 hF hb _; have hbk := (hb.block w.heap.size (Nat.lt_succ_self _)).trans (heap_alloc_new w (.cells #[.string r.m, .string r.sc, .string r.au, .string r.pa, .slice Bf r.fs.length bf, .string r.body, .slice Bt r.ts.length bt] 24)); have b5 := cells_of_heap hbk 5 (.string r.body) rfl; have b6 := cells_of_heap hbk 6 (.slice Bt r.ts.length bt) rfl; have HBK := Aside0.mk hbk; have HB := Aside0.mk ((below_alloc (Below.refl w.heap.size w) (.cells #[.string r.m, .string r.sc, .string r.au, .string r.pa, .slice Bf r.fs.length bf, .string r.body, .slice Bt r.ts.length bt] 24)).trans (hb.mono (Nat.le_succ _))); have HF1 := Aside0.mk hF; clear hb hbk hF)
      | (go_at_call 29; refine (HTr.out _ HB.out).mono ?_; rintro e w2 ⟨rfl, hb⟩; have hbk := (hb.block _ (blk_lt HBK.out)).trans HBK.out; have b5 := cells_of_heap hbk 5 (.string r.body) rfl; have b6 := cells_of_heap hbk 6 (.slice Bt r.ts.length bt) rfl; have HBK2 := Aside0.mk hbk; have HB2 := Aside0.mk (below_step HB.out hb); have HF2 := Aside0.mk (HF1.out.step hb); clear hb hbk HBK HB HF1; have HBK := HBK2; have HB := HB2; have HF1 := HF2; clear HBK2 HB2 HF2 HTr)
      | (go_at_call 30; refine (HSt.out _ HB.out).mono ?_; rintro e w2 ⟨rfl, hb⟩; have hbk := (hb.block _ (blk_lt HBK.out)).trans HBK.out; have b5 := cells_of_heap hbk 5 (.string r.body) rfl; have b6 := cells_of_heap hbk 6 (.slice Bt r.ts.length bt) rfl; have HBK2 := Aside0.mk hbk; have HB2 := Aside0.mk (below_step HB.out hb); have HF2 := Aside0.mk (HF1.out.step hb); clear hb hbk HBK HB HF1; have HBK := HBK2; have HB := HB2; have HF1 := HF2; clear HBK2 HB2 HF2 HSt)
      | (go_at_call 31; refine (HRq.out _ _ _ _ (HF1.out.c HLL.out).1).mono ?_; rintro e w2 ⟨rfl, hb⟩; have hbk := (hb.block _ (blk_lt HBK.out)).trans HBK.out; have b5 := cells_of_heap hbk 5 (.string r.body) rfl; have b6 := cells_of_heap hbk 6 (.slice Bt r.ts.length bt) rfl; have HBK2 := Aside0.mk hbk; have HB2 := Aside0.mk (below_step HB.out hb); have HF2 := Aside0.mk (HF1.out.step hb); clear hb hbk HBK HB HF1; have HBK := HBK2; have HB := HB2; have HF1 := HF2; clear HBK2 HB2 HF2 HRq)
      | (go_at_call 32; refine (HLe.out _ _ _ _ (HF1.out.c HLL.out).1 (HF1.out.c HLL.out).2).mono ?_; rintro e w2 ⟨rfl, hb⟩; have hbk := (hb.block _ (blk_lt HBK.out)).trans HBK.out; have b5 := cells_of_heap hbk 5 (.string r.body) rfl; have b6 := cells_of_heap hbk 6 (.slice Bt r.ts.length bt) rfl; have HBK2 := Aside0.mk hbk; have HB2 := Aside0.mk (below_step HB.out hb); have HF2 := Aside0.mk (HF1.out.step hb); clear hb hbk HBK HB HF1; have HBK := HBK2; have HB := HB2; have HF1 := HF2; clear HBK2 HB2 HF2 HLe)
      | (go_at_call 30; refine (HSl.out _ _ _ _ (HF1.out.c HLL.out).1 (HF1.out.c HLL.out).2).mono ?_; rintro e w2 ⟨rfl, hb⟩; have hbk := (hb.block _ (blk_lt HBK.out)).trans HBK.out; have b5 := cells_of_heap hbk 5 (.string r.body) rfl; have b6 := cells_of_heap hbk 6 (.slice Bt r.ts.length bt) rfl; have HBK2 := Aside0.mk hbk; have HB2 := Aside0.mk (below_step HB.out hb); have HF2 := Aside0.mk (HF1.out.step hb); clear hb hbk HBK HB HF1; have HBK := HBK2; have HB := HB2; have HF1 := HF2; clear HBK2 HB2 HF2 HSl))
    go_ret2
    exact HN.out HE.out (by decide) HB.out
  have e5 : decide ((cl : Int) > 600) = false := decide_eq_false (by omega)
  have HFE := Aside0.mk (HFE.out.trans (if_neg h5))
  clear h5
  by_cases h6 : ¬ l2 = 0
  · have e6 : decide (l2 = 0) = false := decide_eq_false h6
    have e6b : (l2 == 0) = false := beq_eq_false_iff_ne.2 h6
    have HE := Aside0.mk (HFE.out.trans (if_pos h6))
    have H6 := Aside0.mk h6
    clear hb
    clear HFE
    go_enter Tryz.func8, Tryz.ntmps8
    go_wp2_with (first
      | ((with_reducible refine gate_builtin (b := .append) (xs := #[.tmp 21, .tmp 23]) rfl ?_); at_builtin; refine list_app rfl (.tmp 21) (.tmp 23) rfl (w.alloc (.cells #[.string r.m, .string r.sc, .string r.au, .string r.pa, .slice Bf r.fs.length bf, .string r.body, .slice Bt r.ts.length bt] 24)) (w.heap.size + 1) _ Bf 4 4 r.fs.length bf (ownFour r.m r.sc r.au r.pa) r.fs rfl rfl (fr_four' (by simp) r.m r.sc r.au r.pa _ (Nat.le_refl _)) (Kd.C_below HC.out.1 (below_alloc (below_alloc (Below.refl _ _) _) _)) ?_ ?_ (Below.alloc (Below.refl _ _) (by simp) _) ?_; (have := HC.out.2.2; show 4 + r.fs.length ≤ 1000000; omega); (simp); intro A1 c1 w1 hF hb _; have hbk := (hb.block w.heap.size (Nat.lt_succ_self _)).trans (heap_alloc_new w (.cells #[.string r.m, .string r.sc, .string r.au, .string r.pa, .slice Bf r.fs.length bf, .string r.body, .slice Bt r.ts.length bt] 24)); have b5 := cells_of_heap hbk 5 (.string r.body) rfl; have b6 := cells_of_heap hbk 6 (.slice Bt r.ts.length bt) rfl; have HBK := Aside0.mk hbk; have HB := Aside0.mk ((below_alloc (Below.refl w.heap.size w) (.cells #[.string r.m, .string r.sc, .string r.au, .string r.pa, .slice Bf r.fs.length bf, .string r.body, .slice Bt r.ts.length bt] 24)).trans (hb.mono (Nat.le_succ _))); have HF1 := Aside0.mk hF; clear hb hbk hF)
      | (go_at_call 29; refine (HTr.out _ HB.out).mono ?_; rintro e w2 ⟨rfl, hb⟩; have hbk := (hb.block _ (blk_lt HBK.out)).trans HBK.out; have b5 := cells_of_heap hbk 5 (.string r.body) rfl; have b6 := cells_of_heap hbk 6 (.slice Bt r.ts.length bt) rfl; have HBK2 := Aside0.mk hbk; have HB2 := Aside0.mk (below_step HB.out hb); have HF2 := Aside0.mk (HF1.out.step hb); clear hb hbk HBK HB HF1; have HBK := HBK2; have HB := HB2; have HF1 := HF2; clear HBK2 HB2 HF2 HTr)
      | (go_at_call 30; refine (HSt.out _ HB.out).mono ?_; rintro e w2 ⟨rfl, hb⟩; have hbk := (hb.block _ (blk_lt HBK.out)).trans HBK.out; have b5 := cells_of_heap hbk 5 (.string r.body) rfl; have b6 := cells_of_heap hbk 6 (.slice Bt r.ts.length bt) rfl; have HBK2 := Aside0.mk hbk; have HB2 := Aside0.mk (below_step HB.out hb); have HF2 := Aside0.mk (HF1.out.step hb); clear hb hbk HBK HB HF1; have HBK := HBK2; have HB := HB2; have HF1 := HF2; clear HBK2 HB2 HF2 HSt)
      | (go_at_call 31; refine (HRq.out _ _ _ _ (HF1.out.c HLL.out).1).mono ?_; rintro e w2 ⟨rfl, hb⟩; have hbk := (hb.block _ (blk_lt HBK.out)).trans HBK.out; have b5 := cells_of_heap hbk 5 (.string r.body) rfl; have b6 := cells_of_heap hbk 6 (.slice Bt r.ts.length bt) rfl; have HBK2 := Aside0.mk hbk; have HB2 := Aside0.mk (below_step HB.out hb); have HF2 := Aside0.mk (HF1.out.step hb); clear hb hbk HBK HB HF1; have HBK := HBK2; have HB := HB2; have HF1 := HF2; clear HBK2 HB2 HF2 HRq)
      | (go_at_call 32; refine (HLe.out _ _ _ _ (HF1.out.c HLL.out).1 (HF1.out.c HLL.out).2).mono ?_; rintro e w2 ⟨rfl, hb⟩; have hbk := (hb.block _ (blk_lt HBK.out)).trans HBK.out; have b5 := cells_of_heap hbk 5 (.string r.body) rfl; have b6 := cells_of_heap hbk 6 (.slice Bt r.ts.length bt) rfl; have HBK2 := Aside0.mk hbk; have HB2 := Aside0.mk (below_step HB.out hb); have HF2 := Aside0.mk (HF1.out.step hb); clear hb hbk HBK HB HF1; have HBK := HBK2; have HB := HB2; have HF1 := HF2; clear HBK2 HB2 HF2 HLe)
      | (go_at_call 30; refine (HSl.out _ _ _ _ (HF1.out.c HLL.out).1 (HF1.out.c HLL.out).2).mono ?_; rintro e w2 ⟨rfl, hb⟩; have hbk := (hb.block _ (blk_lt HBK.out)).trans HBK.out; have b5 := cells_of_heap hbk 5 (.string r.body) rfl; have b6 := cells_of_heap hbk 6 (.slice Bt r.ts.length bt) rfl; have HBK2 := Aside0.mk hbk; have HB2 := Aside0.mk (below_step HB.out hb); have HF2 := Aside0.mk (HF1.out.step hb); clear hb hbk HBK HB HF1; have HBK := HBK2; have HB := HB2; have HF1 := HF2; clear HBK2 HB2 HF2 HSl))
    go_ret2
    exact HN.out HE.out H6.out HB.out
  obtain rfl : l2 = 0 := Classical.byContradiction h6
  have HFE := Aside0.mk (HFE.out.trans (if_neg (fun h => h rfl)))
  by_cases h7 : l1 ≥ 0
  · have e7 : decide (l1 ≥ 0) = true := decide_eq_true h7
    by_cases h8 : l1 = (r.body.size : Int)
    · have e8 : decide (l1 = (r.body.size : Int)) = true := decide_eq_true h8
      have e8b : (l1 == (r.body.size : Int)) = true := beq_iff_eq.2 h8
      have HE := Aside0.mk (HFE.out.trans (if_neg (fun h => h.2 h8)))
      clear hb h7 h8
      clear HFE
      go_enter Tryz.func8, Tryz.ntmps8
      go_wp2_with (first
        | ((with_reducible refine gate_builtin (b := .append) (xs := #[.tmp 21, .tmp 23]) rfl ?_); at_builtin; refine list_app rfl (.tmp 21) (.tmp 23) rfl (w.alloc (.cells #[.string r.m, .string r.sc, .string r.au, .string r.pa, .slice Bf r.fs.length bf, .string r.body, .slice Bt r.ts.length bt] 24)) (w.heap.size + 1) _ Bf 4 4 r.fs.length bf (ownFour r.m r.sc r.au r.pa) r.fs rfl rfl (fr_four' (by simp) r.m r.sc r.au r.pa _ (Nat.le_refl _)) (Kd.C_below HC.out.1 (below_alloc (below_alloc (Below.refl _ _) _) _)) ?_ ?_ (Below.alloc (Below.refl _ _) (by simp) _) ?_; (have := HC.out.2.2; show 4 + r.fs.length ≤ 1000000; omega); (simp); intro A1 c1 w1 hF hb _; have hbk := (hb.block w.heap.size (Nat.lt_succ_self _)).trans (heap_alloc_new w (.cells #[.string r.m, .string r.sc, .string r.au, .string r.pa, .slice Bf r.fs.length bf, .string r.body, .slice Bt r.ts.length bt] 24)); have b5 := cells_of_heap hbk 5 (.string r.body) rfl; have b6 := cells_of_heap hbk 6 (.slice Bt r.ts.length bt) rfl; have HBK := Aside0.mk hbk; have HB := Aside0.mk ((below_alloc (Below.refl w.heap.size w) (.cells #[.string r.m, .string r.sc, .string r.au, .string r.pa, .slice Bf r.fs.length bf, .string r.body, .slice Bt r.ts.length bt] 24)).trans (hb.mono (Nat.le_succ _))); have HF1 := Aside0.mk hF; clear hb hbk hF)
        | (go_at_call 29; refine (HTr.out _ HB.out).mono ?_; rintro e w2 ⟨rfl, hb⟩; have hbk := (hb.block _ (blk_lt HBK.out)).trans HBK.out; have b5 := cells_of_heap hbk 5 (.string r.body) rfl; have b6 := cells_of_heap hbk 6 (.slice Bt r.ts.length bt) rfl; have HBK2 := Aside0.mk hbk; have HB2 := Aside0.mk (below_step HB.out hb); have HF2 := Aside0.mk (HF1.out.step hb); clear hb hbk HBK HB HF1; have HBK := HBK2; have HB := HB2; have HF1 := HF2; clear HBK2 HB2 HF2 HTr)
        | (go_at_call 30; refine (HSt.out _ HB.out).mono ?_; rintro e w2 ⟨rfl, hb⟩; have hbk := (hb.block _ (blk_lt HBK.out)).trans HBK.out; have b5 := cells_of_heap hbk 5 (.string r.body) rfl; have b6 := cells_of_heap hbk 6 (.slice Bt r.ts.length bt) rfl; have HBK2 := Aside0.mk hbk; have HB2 := Aside0.mk (below_step HB.out hb); have HF2 := Aside0.mk (HF1.out.step hb); clear hb hbk HBK HB HF1; have HBK := HBK2; have HB := HB2; have HF1 := HF2; clear HBK2 HB2 HF2 HSt)
        | (go_at_call 31; refine (HRq.out _ _ _ _ (HF1.out.c HLL.out).1).mono ?_; rintro e w2 ⟨rfl, hb⟩; have hbk := (hb.block _ (blk_lt HBK.out)).trans HBK.out; have b5 := cells_of_heap hbk 5 (.string r.body) rfl; have b6 := cells_of_heap hbk 6 (.slice Bt r.ts.length bt) rfl; have HBK2 := Aside0.mk hbk; have HB2 := Aside0.mk (below_step HB.out hb); have HF2 := Aside0.mk (HF1.out.step hb); clear hb hbk HBK HB HF1; have HBK := HBK2; have HB := HB2; have HF1 := HF2; clear HBK2 HB2 HF2 HRq)
        | (go_at_call 32; refine (HLe.out _ _ _ _ (HF1.out.c HLL.out).1 (HF1.out.c HLL.out).2).mono ?_; rintro e w2 ⟨rfl, hb⟩; have hbk := (hb.block _ (blk_lt HBK.out)).trans HBK.out; have b5 := cells_of_heap hbk 5 (.string r.body) rfl; have b6 := cells_of_heap hbk 6 (.slice Bt r.ts.length bt) rfl; have HBK2 := Aside0.mk hbk; have HB2 := Aside0.mk (below_step HB.out hb); have HF2 := Aside0.mk (HF1.out.step hb); clear hb hbk HBK HB HF1; have HBK := HBK2; have HB := HB2; have HF1 := HF2; clear HBK2 HB2 HF2 HLe)
        | (go_at_call 30; refine (HSl.out _ _ _ _ (HF1.out.c HLL.out).1 (HF1.out.c HLL.out).2).mono ?_; rintro e w2 ⟨rfl, hb⟩; have hbk := (hb.block _ (blk_lt HBK.out)).trans HBK.out; have b5 := cells_of_heap hbk 5 (.string r.body) rfl; have b6 := cells_of_heap hbk 6 (.slice Bt r.ts.length bt) rfl; have HBK2 := Aside0.mk hbk; have HB2 := Aside0.mk (below_step HB.out hb); have HF2 := Aside0.mk (HF1.out.step hb); clear hb hbk HBK HB HF1; have HBK := HBK2; have HB := HB2; have HF1 := HF2; clear HBK2 HB2 HF2 HSl))
      go_ret2
      exact ⟨HB.out, A1, 4 + r.fs.length, c1, by rw [HE.out]; rfl, fun h => absurd HE.out h, fun _ => HF1.out.lower (Nat.le_succ _)⟩
    · have e8 : decide (l1 = (r.body.size : Int)) = false := decide_eq_false h8
      have e8b : (l1 == (r.body.size : Int)) = false := beq_eq_false_iff_ne.2 h8
      have HE := Aside0.mk (HFE.out.trans (if_pos ⟨h7, h8⟩))
      clear hb h7
      clear HFE
      go_enter Tryz.func8, Tryz.ntmps8
      go_wp2_with (first
        | ((with_reducible refine gate_builtin (b := .append) (xs := #[.tmp 21, .tmp 23]) rfl ?_); at_builtin; refine list_app rfl (.tmp 21) (.tmp 23) rfl (w.alloc (.cells #[.string r.m, .string r.sc, .string r.au, .string r.pa, .slice Bf r.fs.length bf, .string r.body, .slice Bt r.ts.length bt] 24)) (w.heap.size + 1) _ Bf 4 4 r.fs.length bf (ownFour r.m r.sc r.au r.pa) r.fs rfl rfl (fr_four' (by simp) r.m r.sc r.au r.pa _ (Nat.le_refl _)) (Kd.C_below HC.out.1 (below_alloc (below_alloc (Below.refl _ _) _) _)) ?_ ?_ (Below.alloc (Below.refl _ _) (by simp) _) ?_; (have := HC.out.2.2; show 4 + r.fs.length ≤ 1000000; omega); (simp); intro A1 c1 w1 hF hb _; have hbk := (hb.block w.heap.size (Nat.lt_succ_self _)).trans (heap_alloc_new w (.cells #[.string r.m, .string r.sc, .string r.au, .string r.pa, .slice Bf r.fs.length bf, .string r.body, .slice Bt r.ts.length bt] 24)); have b5 := cells_of_heap hbk 5 (.string r.body) rfl; have b6 := cells_of_heap hbk 6 (.slice Bt r.ts.length bt) rfl; have HBK := Aside0.mk hbk; have HB := Aside0.mk ((below_alloc (Below.refl w.heap.size w) (.cells #[.string r.m, .string r.sc, .string r.au, .string r.pa, .slice Bf r.fs.length bf, .string r.body, .slice Bt r.ts.length bt] 24)).trans (hb.mono (Nat.le_succ _))); have HF1 := Aside0.mk hF; clear hb hbk hF)
        | (go_at_call 29; refine (HTr.out _ HB.out).mono ?_; rintro e w2 ⟨rfl, hb⟩; have hbk := (hb.block _ (blk_lt HBK.out)).trans HBK.out; have b5 := cells_of_heap hbk 5 (.string r.body) rfl; have b6 := cells_of_heap hbk 6 (.slice Bt r.ts.length bt) rfl; have HBK2 := Aside0.mk hbk; have HB2 := Aside0.mk (below_step HB.out hb); have HF2 := Aside0.mk (HF1.out.step hb); clear hb hbk HBK HB HF1; have HBK := HBK2; have HB := HB2; have HF1 := HF2; clear HBK2 HB2 HF2 HTr)
        | (go_at_call 30; refine (HSt.out _ HB.out).mono ?_; rintro e w2 ⟨rfl, hb⟩; have hbk := (hb.block _ (blk_lt HBK.out)).trans HBK.out; have b5 := cells_of_heap hbk 5 (.string r.body) rfl; have b6 := cells_of_heap hbk 6 (.slice Bt r.ts.length bt) rfl; have HBK2 := Aside0.mk hbk; have HB2 := Aside0.mk (below_step HB.out hb); have HF2 := Aside0.mk (HF1.out.step hb); clear hb hbk HBK HB HF1; have HBK := HBK2; have HB := HB2; have HF1 := HF2; clear HBK2 HB2 HF2 HSt)
        | (go_at_call 31; refine (HRq.out _ _ _ _ (HF1.out.c HLL.out).1).mono ?_; rintro e w2 ⟨rfl, hb⟩; have hbk := (hb.block _ (blk_lt HBK.out)).trans HBK.out; have b5 := cells_of_heap hbk 5 (.string r.body) rfl; have b6 := cells_of_heap hbk 6 (.slice Bt r.ts.length bt) rfl; have HBK2 := Aside0.mk hbk; have HB2 := Aside0.mk (below_step HB.out hb); have HF2 := Aside0.mk (HF1.out.step hb); clear hb hbk HBK HB HF1; have HBK := HBK2; have HB := HB2; have HF1 := HF2; clear HBK2 HB2 HF2 HRq)
        | (go_at_call 32; refine (HLe.out _ _ _ _ (HF1.out.c HLL.out).1 (HF1.out.c HLL.out).2).mono ?_; rintro e w2 ⟨rfl, hb⟩; have hbk := (hb.block _ (blk_lt HBK.out)).trans HBK.out; have b5 := cells_of_heap hbk 5 (.string r.body) rfl; have b6 := cells_of_heap hbk 6 (.slice Bt r.ts.length bt) rfl; have HBK2 := Aside0.mk hbk; have HB2 := Aside0.mk (below_step HB.out hb); have HF2 := Aside0.mk (HF1.out.step hb); clear hb hbk HBK HB HF1; have HBK := HBK2; have HB := HB2; have HF1 := HF2; clear HBK2 HB2 HF2 HLe)
        | (go_at_call 30; refine (HSl.out _ _ _ _ (HF1.out.c HLL.out).1 (HF1.out.c HLL.out).2).mono ?_; rintro e w2 ⟨rfl, hb⟩; have hbk := (hb.block _ (blk_lt HBK.out)).trans HBK.out; have b5 := cells_of_heap hbk 5 (.string r.body) rfl; have b6 := cells_of_heap hbk 6 (.slice Bt r.ts.length bt) rfl; have HBK2 := Aside0.mk hbk; have HB2 := Aside0.mk (below_step HB.out hb); have HF2 := Aside0.mk (HF1.out.step hb); clear hb hbk HBK HB HF1; have HBK := HBK2; have HB := HB2; have HF1 := HF2; clear HBK2 HB2 HF2 HSl))
      go_ret2
      exact HN.out HE.out (by decide) HB.out
  · have e7 : decide (l1 ≥ 0) = false := decide_eq_false h7
    have HE := Aside0.mk (HFE.out.trans (if_neg (fun h => h7 h.1)))
    clear hb h7
    clear HFE
    go_enter Tryz.func8, Tryz.ntmps8
    go_wp2_with (first
      | ((with_reducible refine gate_builtin (b := .append) (xs := #[.tmp 21, .tmp 23]) rfl ?_); at_builtin; refine list_app rfl (.tmp 21) (.tmp 23) rfl (w.alloc (.cells #[.string r.m, .string r.sc, .string r.au, .string r.pa, .slice Bf r.fs.length bf, .string r.body, .slice Bt r.ts.length bt] 24)) (w.heap.size + 1) _ Bf 4 4 r.fs.length bf (ownFour r.m r.sc r.au r.pa) r.fs rfl rfl (fr_four' (by simp) r.m r.sc r.au r.pa _ (Nat.le_refl _)) (Kd.C_below HC.out.1 (below_alloc (below_alloc (Below.refl _ _) _) _)) ?_ ?_ (Below.alloc (Below.refl _ _) (by simp) _) ?_; (have := HC.out.2.2; show 4 + r.fs.length ≤ 1000000; omega); (simp); intro A1 c1 w1 hF hb _; have hbk := (hb.block w.heap.size (Nat.lt_succ_self _)).trans (heap_alloc_new w (.cells #[.string r.m, .string r.sc, .string r.au, .string r.pa, .slice Bf r.fs.length bf, .string r.body, .slice Bt r.ts.length bt] 24)); have b5 := cells_of_heap hbk 5 (.string r.body) rfl; have b6 := cells_of_heap hbk 6 (.slice Bt r.ts.length bt) rfl; have HBK := Aside0.mk hbk; have HB := Aside0.mk ((below_alloc (Below.refl w.heap.size w) (.cells #[.string r.m, .string r.sc, .string r.au, .string r.pa, .slice Bf r.fs.length bf, .string r.body, .slice Bt r.ts.length bt] 24)).trans (hb.mono (Nat.le_succ _))); have HF1 := Aside0.mk hF; clear hb hbk hF)
      | (go_at_call 29; refine (HTr.out _ HB.out).mono ?_; rintro e w2 ⟨rfl, hb⟩; have hbk := (hb.block _ (blk_lt HBK.out)).trans HBK.out; have b5 := cells_of_heap hbk 5 (.string r.body) rfl; have b6 := cells_of_heap hbk 6 (.slice Bt r.ts.length bt) rfl; have HBK2 := Aside0.mk hbk; have HB2 := Aside0.mk (below_step HB.out hb); have HF2 := Aside0.mk (HF1.out.step hb); clear hb hbk HBK HB HF1; have HBK := HBK2; have HB := HB2; have HF1 := HF2; clear HBK2 HB2 HF2 HTr)
      | (go_at_call 30; refine (HSt.out _ HB.out).mono ?_; rintro e w2 ⟨rfl, hb⟩; have hbk := (hb.block _ (blk_lt HBK.out)).trans HBK.out; have b5 := cells_of_heap hbk 5 (.string r.body) rfl; have b6 := cells_of_heap hbk 6 (.slice Bt r.ts.length bt) rfl; have HBK2 := Aside0.mk hbk; have HB2 := Aside0.mk (below_step HB.out hb); have HF2 := Aside0.mk (HF1.out.step hb); clear hb hbk HBK HB HF1; have HBK := HBK2; have HB := HB2; have HF1 := HF2; clear HBK2 HB2 HF2 HSt)
      | (go_at_call 31; refine (HRq.out _ _ _ _ (HF1.out.c HLL.out).1).mono ?_; rintro e w2 ⟨rfl, hb⟩; have hbk := (hb.block _ (blk_lt HBK.out)).trans HBK.out; have b5 := cells_of_heap hbk 5 (.string r.body) rfl; have b6 := cells_of_heap hbk 6 (.slice Bt r.ts.length bt) rfl; have HBK2 := Aside0.mk hbk; have HB2 := Aside0.mk (below_step HB.out hb); have HF2 := Aside0.mk (HF1.out.step hb); clear hb hbk HBK HB HF1; have HBK := HBK2; have HB := HB2; have HF1 := HF2; clear HBK2 HB2 HF2 HRq)
      | (go_at_call 32; refine (HLe.out _ _ _ _ (HF1.out.c HLL.out).1 (HF1.out.c HLL.out).2).mono ?_; rintro e w2 ⟨rfl, hb⟩; have hbk := (hb.block _ (blk_lt HBK.out)).trans HBK.out; have b5 := cells_of_heap hbk 5 (.string r.body) rfl; have b6 := cells_of_heap hbk 6 (.slice Bt r.ts.length bt) rfl; have HBK2 := Aside0.mk hbk; have HB2 := Aside0.mk (below_step HB.out hb); have HF2 := Aside0.mk (HF1.out.step hb); clear hb hbk HBK HB HF1; have HBK := HBK2; have HB := HB2; have HF1 := HF2; clear HBK2 HB2 HF2 HLe)
      | (go_at_call 30; refine (HSl.out _ _ _ _ (HF1.out.c HLL.out).1 (HF1.out.c HLL.out).2).mono ?_; rintro e w2 ⟨rfl, hb⟩; have hbk := (hb.block _ (blk_lt HBK.out)).trans HBK.out; have b5 := cells_of_heap hbk 5 (.string r.body) rfl; have b6 := cells_of_heap hbk 6 (.slice Bt r.ts.length bt) rfl; have HBK2 := Aside0.mk hbk; have HB2 := Aside0.mk (below_step HB.out hb); have HF2 := Aside0.mk (HF1.out.step hb); clear hb hbk HBK HB HF1; have HBK := HBK2; have HB := HB2; have HF1 := HF2; clear HBK2 HB2 HF2 HSl))
    go_ret2
    exact ⟨HB.out, A1, 4 + r.fs.length, c1, by rw [HE.out]; rfl, fun h => absurd HE.out h, fun _ => HF1.out.lower (Nat.le_succ _)⟩
end Go.Proofs.YtififgiicpdndaaGreatDoor.Fw
/- alive. -/
namespace Go.Proofs.YtififgiicpdndaaGreatDoor.Fw
open Go.RowKit Go.Proofs.YtififgiicpdndaaGreatDoor.XMi Go.Proofs.YtififgiicpdndaaGreatDoorW.PrintWords Go.Proofs.YtififgiicpdndaaGreatDoorW.PrintLast Go.Proofs.YtififgiicpdndaaGreatDoorW.PrintMore Go.Proofs.YtififgiicpdndaaGreatDoor.Ms Go.Proofs.YtififgiicpdndaaGreatDoor.Ob
def getB : ByteArray := ⟨#[71, 69, 84]⟩
def alRQ : RQ := ⟨getB, ⟨#[104, 116, 116, 112]⟩, ⟨#[97]⟩, ⟨#[47]⟩, [], ⟨#[]⟩, []⟩
theorem al_fe : fieldsE alRQ = 0 := by kernel_rfl
def al200 : List S61 := [⟨colStatus, ⟨#[50, 48, 48]⟩⟩]
def alS : MS := ⟨getB, ⟨200, [], [], -1, 0, true⟩, false⟩
theorem al_head : headP (newP ⟨#[71, 69, 84]⟩) true al200 = (0, alS) := by kernel_rfl
theorem head_to {w : World} {g : Nat} {s : MS} {Af At : Option Addr} {cf ct : Nat} (h : Rd w g s Af cf At ct) {fin : Bool} {A : Option Addr} {l : List S61} {n c : Nat} {r : Int} {s' : MS} (e : headP s fin l = (r, s')) (hS : Sized l) (hC : k61.C w A n l) (hc : n ≤ c) : Calls Tryz.prog 20 #[.pointer (some ⟨g, 0, none⟩), .bool fin, .slice A n c] w (Left w g (r, s')) := by
  obtain rfl : l.length = n := hC.1
  rw [← e]
  exact head_c h fin hS hC hc
theorem data_to {w : World} {g : Nat} {s : MS} {Af At : Option Addr} {cf ct : Nat} (h : Rd w g s Af cf At ct) {n : Int} {fin : Bool} {r : Int} {s' : MS} (e : dataP s n fin = (r, s')) (hr : -9223372036854775808 ≤ s.a.came + n ∧ s.a.came + n ≤ 9223372036854775807) : Calls Tryz.prog 22 #[.pointer (some ⟨g, 0, none⟩), .int .i64 n, .bool fin] w (Left w g (r, s')) := by
  rw [← e]
  exact data_c h n fin hr
theorem c_none (w : World) : k61.C w none 0 [] := ⟨rfl, Nat.zero_le _, fun h => absurd h (Nat.lt_irrefl _)⟩
set_option maxHeartbeats 1600000 in
set_option maxRecDepth 20000 in
theorem alive_c (w : World) : Calls Tryz.prog 6 #[] w fun e w' => e = .returned (.bool true) ∧ Below w.heap.size w w' := by
  have HFs := Aside0.mk (fun (W : World) => fields_c alRQ none none 0 0 W (c_none W) (c_none W) (Nat.le_refl _) (by decide) (by decide) (sized_lit (l := []) (by kernel_rfl)) (sized_lit (by kernel_rfl)))
  have HP := Aside0.mk (fun (W : World) => safe_c ⟨#[80, 85, 84]⟩ W)
  have HQ := Aside0.mk (fun (W : World) => safe_c ⟨#[80, 79, 83, 84]⟩ W)
  rw [show safeP ⟨#[80, 85, 84]⟩ = true by kernel_rfl] at HP
  rw [show safeP ⟨#[80, 79, 83, 84]⟩ = false by kernel_rfl] at HQ
  have mixed : Tryz.prog.follows Departure.mixedOrders = true := by kernel_rfl
  go_enter Tryz.func6, Tryz.ntmps6
  go_wp2_with (first
    | (go_at_call 17; refine (new_c ⟨#[71, 69, 84]⟩ _).mono ?_; rintro e w1 ⟨rfl, hr, hb⟩; have HR := Aside0.mk hr; have HB := Aside0.mk hb; clear hr hb)
    | (go_at_call 8; refine (HFs.out _).mono ?_; rintro e w2 ⟨hb, A2, n2, c2, rfl, _, hF⟩; have hn2 : n2 = 4 := (hF al_fe).1; subst hn2; rw [al_fe]; have HR2 := Aside0.mk (HR.out.below hb); have HB2 := Aside0.mk (below_step HB.out hb); clear hb hF HR HB HFs)
    | (go_at_call 20; refine (head_to (HR2.out.below (below_alloc (Below.refl _ _) _)) al_head (sized_lit (l := al200) (by kernel_rfl)) (lit1 w2 colStatus ⟨#[50, 48, 48]⟩) (Nat.le_refl 1)).mono ?_; rintro e w3 ⟨rfl, ⟨Cf, cf, Ct, ct, hr⟩, hs⟩; have HR3 := Aside0.mk hr; have HB3 := Aside0.mk (hs.below (below_alloc HB2.out _) (fun k hk => Nat.le_of_eq hk.symm)); clear hr hs HR2 HB2)
    | (go_at_call 28; refine (done_c HR3.out).mono ?_; rintro e w4 ⟨rfl, hb⟩; have HR4 := Aside0.mk (HR3.out.below hb); have HB4 := Aside0.mk (below_step HB3.out hb); clear hb HR3 HB3)
    | (go_at_call 27; refine (status_c HR4.out).mono ?_; rintro e w5 ⟨rfl, hb⟩; have HB5 := Aside0.mk (below_step HB4.out hb); clear hb HR4 HB4)
    | (go_at_call 13; (with_reducible refine (HP.out _).mono ?_); rintro e w6 ⟨rfl, hb⟩; have HB6 := Aside0.mk (below_step HB5.out hb); clear hb HB5)
    | (go_at_call 13; (with_reducible refine (HQ.out _).mono ?_); rintro e w7 ⟨rfl, hb⟩; have HB7 := Aside0.mk (below_step HB6.out hb); clear hb HB6))
  go_ret
  exact ⟨rfl, HB7.out⟩
end Go.Proofs.YtififgiicpdndaaGreatDoor.Fw
/- MessageEarly. -/
namespace Go.Proofs.YtififgiicpdndaaGreatDoor.Fw
open Go.RowKit Go.Proofs.YtififgiicpdndaaGreatDoor.XMi Go.Proofs.YtififgiicpdndaaGreatDoorW.PrintWords Go.Proofs.YtififgiicpdndaaGreatDoorW.PrintLast Go.Proofs.YtififgiicpdndaaGreatDoorW.PrintMore Go.Proofs.YtififgiicpdndaaGreatDoor.Ms Go.Proofs.YtififgiicpdndaaGreatDoor.Ob
theorem Rd.other {w w' : World} {g k : Nat} {m : ByteArray} (h : Rd w g (newP m) none 0 none 0) (hs : Stay (fun b => b = k) w w') (hg : g ≠ k) : Rd w' g (newP m) none 0 none 0 := ⟨(hs.block g (blk_lt h.hp) hg).trans h.hp, Row.nil _ _, Row.nil _ _⟩
theorem stay_b {w w1 w' : World} {g : Nat} (hs : Stay (fun k => k = g) w1 w') (hb : Below w.heap.size w w1) (hg : w.heap.size ≤ g) : Below w.heap.size w w' := hs.below hb (fun _ hk => hk ▸ hg)
end Go.Proofs.YtififgiicpdndaaGreatDoor.Fw
/- MessageTrailers. -/
namespace Go.Proofs.YtififgiicpdndaaGreatDoor.Fw
open Go.RowKit Go.Proofs.YtififgiicpdndaaGreatDoor.XMi Go.Proofs.YtififgiicpdndaaGreatDoorW.PrintWords Go.Proofs.YtififgiicpdndaaGreatDoorW.PrintLast Go.Proofs.YtififgiicpdndaaGreatDoorW.PrintMore Go.Proofs.YtififgiicpdndaaGreatDoor.Ms Go.Proofs.YtififgiicpdndaaGreatDoor.Ob
theorem same_l0 (l : List S61) (hl : l.length ≤ 1000000) : ∀ (rest pre : List S61) (k : Nat), l = pre ++ rest → rest.length + 1 ≤ k → bywashbook_SameFields.l0 k l l (pre.length : Int) = some true
  | [], pre, k, e, hk => by
    obtain ⟨k, rfl⟩ : ∃ m, k = m + 1 := ⟨k - 1, by omega⟩
    unfold bywashbook_SameFields.l0
    rw [if_neg (by rw [e, List.append_nil]; omega)]
  | f :: rest, pre, k, e, hk => by
    obtain ⟨k, rfl⟩ : ∃ m, k = m + 1 := ⟨k - 1, by omega⟩
    have hp : pre.length < l.length := by rw [e]; simp
    have ih := same_l0 l hl rest (pre ++ [f]) k (by rw [e]; simp) (by simp at hk; omega)
    rw [List.length_append, List.length_singleton] at ih
    unfold bywashbook_SameFields.l0
    rw [if_pos (by omega), if_pos (by omega), if_pos (by omega), if_pos (by simp), w64_next _ (by omega)]
    exact ih
theorem same_eq (l : List S61) (hl : l.length ≤ 1000000) : bywashbook_SameFields.f (l.length + 1) l l = some true := by
  unfold bywashbook_SameFields.f
  rw [if_pos rfl]
  exact same_l0 l hl l [] _ rfl (Nat.le_refl _)
theorem trailsR_c {w : World} {g : Nat} {s : MS} {Af At : Option Addr} {cf ct : Nat} (h : Rd w g s Af cf At ct) {l : List S61} (he : s.a.trails = l) (hl : l.length ≤ 100000) : Calls Tryz.prog 26 #[.pointer (some ⟨g, 0, none⟩)] w fun e w' => ∃ A' c', e = .returned (.slice A' l.length c') ∧ FR w' w.heap.size A' l.length c' l ∧ Below w.heap.size w w' := by
  have k3 := h.k3
  have k61 := h.rt
  rw [he] at k3 k61
  have HC := Aside0.mk (clone_c (c := ct) (k61.c (by omega)).1 hl)
  clear h he k61 hl
  go_enter Tryz.func26, Tryz.ntmps26
  go_wp2_with (first
    | (go_at_call 60; refine HC.out.mono ?_; rintro e w1 ⟨A', c', rfl, hF, hb⟩; have HF := Aside0.mk hF; have HB := Aside0.mk hb; clear hF hb HC))
  go_ret
  exact ⟨A', c', rfl, HF.out, HB.out⟩
end Go.Proofs.YtififgiicpdndaaGreatDoor.Fw
/- A slice of operations that came in: opened. -/
namespace Go.Proofs.YtififgiicpdndaaGreatDoor.Fw
open Go.ChangeShapes Go.WideShapes Go.RowKit Go.Proofs.YtififgiicpdndaaGreatDoor.XMi Go.Proofs.YtififgiicpdndaaGreatDoorW.PrintWords Go.Proofs.YtififgiicpdndaaGreatDoorW.PrintLast Go.Proofs.YtififgiicpdndaaGreatDoorW.PrintMore Go.Proofs.YtififgiicpdndaaGreatDoor.Ms Go.Proofs.YtififgiicpdndaaGreatDoor.Ob
section
variable {H : Type} {enc : TypeId × Value → H} {w : World} {base : Nat} {spare : Nat → Bool} {held : Bool}
theorem open_fieldsW {fuel : Nat} {cs : List Value} {x : DataW H × List MemPlace} (hsz : ∀ n ∈ x.1.weights Tryz.prog 22, n ≤ reachBytes) (h : DataW.trod enc Tryz.prog w base spare held fuel 22 cs = some x) :
    ∃ (A : Option Addr) (cap : Nat) (l : List S61), cs = [.slice A l.length cap] ∧ k61.C w A l.length l ∧ Small l cap := by
  have hall : (DataW.weightsEach Tryz.prog [22] [x.1]).all (· ≤ reachBytes) = true := by
    rw [List.all_eq_true]
    intro n hn
    simp only [DataW.weightsEach, List.append_nil] at hn
    exact decide_eq_true (hsz n hn)
  obtain ⟨A, cap, l, h1, _, h2, h3⟩ := open_fields hall (j := 0) rfl rfl h
  exact ⟨A, cap, l, h1, h2, h3⟩
structure OP where
  kind : Int
  n : Int
  fin : Bool
  A : Option Addr
  c : Nat
  l : List S61
/-- An operation that can be read. -/
structure OpOk (w : World) (o : OP) : Prop where
  small : Small o.l o.c
  c : k61.C w o.A o.l.length o.l
  rk : -9223372036854775808 ≤ o.kind ∧ o.kind ≤ 9223372036854775807
  rn : -9223372036854775808 ≤ o.n ∧ o.n ≤ 9223372036854775807
def opAt (w : World) (ad : Addr) (o : OP) : Prop := w.cell? ad = some (.int .i64 o.kind) ∧ w.cell? ⟨ad.block, ad.off + 1, none⟩ = some (.int .i64 o.n) ∧ w.cell? ⟨ad.block, ad.off + 2, none⟩ = some (.bool o.fin) ∧ w.cell? ⟨ad.block, ad.off + 3, none⟩ = some (.slice o.A o.l.length o.c)
def Ops (w : World) (A : Option Addr) (os : List OP) : Prop := os.length ≤ 1000000000000000000 ∧ ∀ (j : Nat) (o : OP), os[j]? = some o → OpOk w o ∧ ∃ ad : Addr, A = some ad ∧ opAt w (ad.add (j * 4)) o
theorem cell_lt {w : World} {a : Addr} {v : Value} (h : w.cell? a = some v) : a.block < w.heap.size := by
  unfold World.cell? at h
  rcases hh : w.heap[a.block]? with _ | o
  · rw [hh] at h; simp at h
  · exact blk_lt hh
theorem op_below {w w' : World} {ad : Addr} {o : OP} (h : opAt w ad o) (hb : Below w.heap.size w w') : opAt w' ad o := by
  have hk : ∀ (a : Addr) (v : Value), w.cell? a = some v → w'.cell? a = some v := fun a v hv => (Below.cell hb (cell_lt hv)).trans hv
  exact ⟨hk _ _ h.1, hk _ _ h.2.1, hk _ _ h.2.2.1, hk _ _ h.2.2.2⟩
theorem op_weights (d0 d1 d2 d3 : DataW H) : ∀ n ∈ d3.weights Tryz.prog 22, n ∈ (DataW.agg [d0, d1, d2, d3] : DataW H).weights Tryz.prog 51 := by
  intro n hn
  simp only [DataW.weights, Tryz.underlying51]
  simp only [DataW.weightsEach, List.map_cons, List.map_nil, List.mem_append]
  exact .inr (.inr (.inr (.inl hn)))
theorem add_off (a : Addr) (i q : Nat) (hq : 0 < q) : a.add (i + q) = ⟨(a.add i).block, (a.add i).off + q, none⟩ := by
  unfold Addr.add
  repeat' split
  all_goals first | rfl | omega | (simp_all; done) | (simp_all; omega)
theorem wf_in {n : Int} (h : (Lit.int .i64 n).wf = true) : -9223372036854775808 ≤ n ∧ n ≤ 9223372036854775807 := by
  simp [Lit.wf] at h
  exact ⟨Int.le_trans (by decide) h.1, h.2⟩
theorem bytes48 : Tryz.prog.bytesOf 51 = 40 + 8 := by kernel_rfl
set_option maxRecDepth 20000 in
theorem open_ops {fuel j : Nat} {cs : List Value} {x : DataW H × List MemPlace} {ts : List TypeId} {ds : List (DataW H)} (hsz : (DataW.weightsEach Tryz.prog ts ds).all (· ≤ reachBytes) = true) (htj : ts[j]? = some 44) (hdj : ds[j]? = some x.1)
    (h : DataW.trod enc Tryz.prog w base spare held fuel 44 cs = some x) : ∃ (A : Option Addr) (cap : Nat) (os : List OP), cs = [.slice A os.length cap] ∧ os.length ≤ cap ∧ Ops w A os := by
  rcases Go.Deep.open_slice (P := Tryz.prog) Tryz.underlying44 h with ⟨rfl, rfl⟩ | ⟨a, len, cap, m, n, D, Pl, rfl, hb, hl, hm, hmm, rfl, hx⟩
  · exact ⟨none, 0, [], rfl, Nat.le_refl _, by simp, fun j o h => by simp at h⟩
  · have hlm : len ≤ m := by rw [hmm]; split <;> omega
    have hcells : Tryz.prog.cellsOf 51 = 4 := by kernel_rfl
    have each : ∀ i, i < len → ∃ o : OP, OpOk w o ∧ opAt w (a.add (i * 4)) o := by
      intro i hi
      obtain ⟨cs', h1, h2⟩ := hx i (by omega)
      rw [hcells] at h1
      obtain ⟨_, hlen, hcell⟩ := World.cells?_some h1
      obtain ⟨xs, k, hk, hxy, _, hxl, hf⟩ := DataW.trod_struct Tryz.underlying51 h2
      match xs, hxl, cs', hlen with
      | [y0, y1, y2, y3], _, [v0, v1, v2, v3], _ =>
        have g0 := hf 0 _ rfl
        have g1 := hf 1 _ rfl
        have g2 := hf 2 _ rfl
        have g3 := hf 3 _ rfl
        have c3 : Tryz.prog.cellsOf 3 = 1 := by kernel_rfl
        have c4 : Tryz.prog.cellsOf 4 = 1 := by kernel_rfl
        have c32 : Tryz.prog.cellsOf 22 = 1 := by kernel_rfl
        simp [c3, c4, c32] at g0 g1 g2 g3
        have e0 := hcell 0 (by omega)
        have e1 := hcell 1 (by omega)
        have e2 := hcell 2 (by omega)
        have e3 := hcell 3 (by omega)
        rw [Go.Deep.add_add] at e0 e1 e2 e3
        obtain ⟨z0, q0, _, r0⟩ := DataW.trod_int (by exact Tryz.underlying3) g0
        obtain ⟨z1, q1, _, r1⟩ := DataW.trod_int (by exact Tryz.underlying3) g1
        obtain ⟨z2, q2, _⟩ := DataW.trod_bool (by exact Tryz.underlying4) g2
        simp only [Prod.mk.injEq] at hxy
        have hD : D i = .agg [y0.1, y1.1, y2.1, y3.1] := by simpa using hxy.1
        have hmem : ∀ n ∈ y3.1.weights Tryz.prog 22, n ≤ reachBytes := by
          intro n hn
          have hw := weights_all (P := Tryz.prog) (e := 51) (ds := (List.range len).map D) (List.mem_map.2 ⟨i, List.mem_range.2 hi, rfl⟩) n (by rw [hD]; exact op_weights _ _ _ _ n hn)
          have := List.all_eq_true.1 hsz n (DataW.weights_mem_each htj hdj n (by simp only [DataW.weights, Tryz.underlying44]; simp only [List.mem_cons, List.mem_append]; exact .inr (.inl hw)))
          simpa using this
        obtain ⟨B, cap', l, q3, hC, hS⟩ := open_fieldsW hmem g3
        obtain rfl : v0 = .int .i64 z0 := by simpa using q0
        obtain rfl : v1 = .int .i64 z1 := by simpa using q1
        obtain rfl : v2 = .bool z2 := by simpa using q2
        obtain rfl : v3 = .slice B l.length cap' := by simpa using q3
        refine ⟨⟨z0, z1, z2, B, cap', l⟩, ⟨hS, hC, wf_in r0, wf_in r1⟩, ?_, ?_, ?_, ?_⟩
        · simpa using e0
        · rw [← add_off a (i * 4) 1 (by decide)]
          simpa using e1
        · rw [← add_off a (i * 4) 2 (by decide)]
          simpa using e2
        · rw [← add_off a (i * 4) 3 (by decide)]
          simpa using e3
    have : Inhabited OP := ⟨⟨0, 0, false, none, 0, []⟩⟩
    obtain ⟨Y, hY⟩ := Go.Deep.choose_lt each
    have hlen : ((List.range len).map Y).length = len := by simp
    refine ⟨some a, cap, (List.range len).map Y, by rw [hlen], by rw [hlen]; exact hl, ?_, fun j o ho => ?_⟩
    · have := List.all_eq_true.1 hsz _ (DataW.weights_mem_each htj hdj _ (by simp only [DataW.weights, Tryz.underlying44]; exact List.mem_cons_self))
      have h2 := of_decide_eq_true this
      rw [bytes48, List.length_map, List.length_range] at h2
      rw [hlen]
      unfold maxLen at hm
      have hr := reachBytes_lt
      omega
    · have hi : j < len := by rw [← hlen]; exact (List.getElem?_eq_some_iff.1 ho).1
      rw [List.getElem?_map, List.getElem?_range hi] at ho
      obtain rfl := Option.some.inj ho
      exact ⟨(hY j hi).1, a, rfl, (hY j hi).2⟩
end
end Go.Proofs.YtififgiicpdndaaGreatDoor.Fw
