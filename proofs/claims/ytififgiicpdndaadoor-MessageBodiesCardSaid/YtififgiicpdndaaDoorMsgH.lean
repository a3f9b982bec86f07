/- The reader's method Headers, walked. -/
import Derived.Test.YtififgiicpdndaaDoorMOne
import Derived.Test.YtififgiicpdndaaDoorAtoiLay
namespace Go.Proofs.YtififgiicpdndaaDoor.Fw
open Go.RowKit Go.Proofs.YtififgiicpdndaaDoor.XMi Go.Proofs.YtififgiicpdndaaDoorW.PrintWords Go.Proofs.YtififgiicpdndaaDoorW.PrintLast Go.Proofs.YtififgiicpdndaaDoorW.PrintMore Go.Proofs.YtififgiicpdndaaDoor.Ms Go.Proofs.YtififgiicpdndaaDoor.Ob
theorem atoi_c (v : ByteArray) (hd : digP v = true) (h : v.size ≤ 18) (w : World) : Calls Tryd.prog 32 #[.string v] w fun e w' => e = .returned (.tuple #[.int .i64 ((numD v.toList : Nat) : Int), .nilIface]) ∧ Below w.heap.size w w' :=
  (Any.strconv_Atoi Tryd.Lays_172 v ((numD v.toList : Nat) : Int) h (atoi_eq v hd) w).mono fun e w' ⟨h1, t, h2⟩ => ⟨h1, by rw [h2]; exact Below.trans (Below.refl _ _) (Go.Lib.bytesWorld_below _ _ _)⟩
theorem resp_ok {l : List S30} (h : respQ l = 0) : statP ((getP colStatus l).getD ⟨#[]⟩) = true := by
  unfold respQ at h
  rcases walk_err (names := [colStatus]) l [] false with ⟨m, hm⟩ | ⟨e, hm, he⟩
  · rw [hm] at h
    have h2 : (if statP (sayB m colStatus) = true then (0 : Int) else 3) = 0 := h
    rw [say_get hm mem_stat] at h2
    cases hs : statP ((getP colStatus l).getD ⟨#[]⟩)
    · rw [hs] at h2; cases h2
    · rfl
  · rw [hm] at h
    exact absurd h he
theorem stat_dig {v : ByteArray} (h : statP v = true) : digP v = true ∧ v.size = 3 := by
  unfold statP at h
  simp only [Bool.and_eq_true, decide_eq_true_eq] at h
  exact ⟨h.1.1.2, h.1.1.1⟩
theorem resp_pos {l : List S30} (h : respQ l = 0) : 0 < l.length := by
  rcases Nat.eq_zero_or_pos l.length with h0 | h0
  · rw [List.eq_nil_of_length_eq_zero h0] at h
    exact absurd h (by decide +kernel)
  · exact h0
variable {w : World} {g : Nat} {s : MS} {Af At : Option Addr} {cf ct : Nat}
theorem fr_set {w : World} {base b i n c : Nat} {A : Option Addr} {l : List S30} (h : FR w base A n c l) (hb : b < base) (v : Value) : FR (w.setCell ⟨b, i, none⟩ v) base A n c l := by
  rcases fr_block h with e | ⟨k, e, hk, _⟩
  · exact h.keep fun b' h2 => by rw [e] at h2; cases h2
  · refine h.keep fun b' h2 _ => Below.heap_setCell w ⟨b, i, none⟩ v b' ?_
    rw [e] at h2
    injection h2 with h2
    injection h2 with h2 _
    show b' ≠ b
    omega
set_option maxHeartbeats 6400000 in
set_option maxRecDepth 20000 in
theorem head_c (h : Rd w g s Af cf At ct) (fin : Bool) {A : Option Addr} {l : List S30} {c : Nat} (hS : Sized l) (hC : k30.C w A l.length l) (hc : l.length ≤ c) : Calls Tryd.prog 13 #[.pointer (some ⟨g, 0, none⟩), .bool fin, .slice A l.length c] w (Left w g (headP s fin l)) := by
  have HO := Aside0.mk (over_c h)
  have HR := Aside0.mk h
  have HC := Aside0.mk hC
  have HLn := Aside0.mk (And.intro hS.len hc)
  have HGl := Aside0.mk (blk_lt h.hp)
  have HD : Aside0 (headP s fin l = if overP s then (8, s) else if s.a.status > 0 then toldP s { s.a with trails := l } fin (if fin then trailQ l else 11) else if respQ l ≠ 0 then toldP s s.a fin (respQ l) else if statNum l < 200 then (if fin then toldP s s.a fin 11 else (0, s)) else toldP s { s.a with status := statNum l, fields := others l, length := (lenQ l).1 } fin (lenQ l).2) := ⟨rfl⟩
  have HT := Aside0.mk (fun (a : MA) (Bf Bt : Option Addr) (bf bt : Nat) (er : Int) (W : World) (hb : Below w.heap.size w W) (h1 : Row W g Bf a.fields.length bf a.fields) (h2 : Row W g Bt a.trails.length bt a.trails) => (told_c (HR.out.below hb) a Bf Bt bf bt h1 h2 fin er).mono (fun e w' (h : Left W g (toldP s a fin er) e w') => Left.before hb h))
  have HCl := Aside0.mk (fun (W : World) (hb : Below w.heap.size w W) => clone_c (c := c) (Kd.C_below HC.out hb) HLn.out.1)
  have HTr := Aside0.mk (fun (W : World) (hb : Below w.heap.size w W) => trail_n (c := c) hS (Kd.C_below HC.out hb))
  have HRe := Aside0.mk (fun (W : World) (hb : Below w.heap.size w W) => resp_n (c := c) hS (Kd.C_below HC.out hb))
  have HGe := Aside0.mk (fun (W : World) (hb : Below w.heap.size w W) => get_n colStatus hS (Kd.C_below HC.out hb) HLn.out.2)
  have HLe := Aside0.mk (fun (W : World) (hb : Below w.heap.size w W) => len_n hS (Kd.C_below HC.out hb) HLn.out.2)
  clear h hS hC hc
  generalize overP s = ov at HO HD
  cases ov with
  | true =>
    go_enter Tryd.func13, Tryd.ntmps13
    go_wp2_with (first
      | (go_at_call 26; refine HO.out.mono ?_; rintro e w1 ⟨rfl, hb⟩; have HB := Aside0.mk hb; clear hb))
    go_ret
    rw [HD.out]
    exact ⟨rfl, ⟨Af, cf, At, ct, HR.out.below HB.out⟩, Stay.of_below HB.out⟩
  | false =>
    by_cases h1 : s.a.status > 0
    · have e1 : decide (s.a.status > 0) = true := decide_eq_true h1
      have HD2 : Aside0 (headP s fin l = toldP s { s.a with trails := l } fin (if fin then trailQ l else 11)) := ⟨HD.out.trans (if_pos h1)⟩
      rw [HD2.out]
      clear h1 HD
      generalize trailQ l = tq at HTr
      cases fin
      all_goals
        go_enter Tryd.func13, Tryd.ntmps13
        go_wp2_with (first
          | (go_at_call 26; refine HO.out.mono ?_; rintro e w1 ⟨rfl, hb⟩; have hr1 := HR.out.below hb; have k1 := hr1.k1; have k2 := hr1.k2; have k3 := hr1.k3; have k4 := hr1.k4; have k5 := hr1.k5; have k6 := hr1.k6; have HB := Aside0.mk hb; clear hb hr1)
          | (go_at_call 27; refine (HCl.out _ (below_alloc HB.out _)).mono ?_; rintro e w2 ⟨A2, c2, rfl, hF, hb⟩; have hbk := (hb.block _ (blk_lt (heap_alloc_new w1 _))).trans (heap_alloc_new w1 (.cells #[.int .i64 s.a.status, .slice Af s.a.fields.length cf, .slice At s.a.trails.length ct, .int .i64 s.a.length, .int .i64 s.a.came, .bool s.a.done] 56)); have b2 := cells_of_heap hbk 2 _ rfl; have fb : w2.frozen? ⟨w1.heap.size, 2, none⟩ = false := (by simp [World.frozen?, hbk]); have HB2 := Aside0.mk ((below_step (below_alloc HB.out _) hb).setCell (p := ⟨w1.heap.size, 2, none⟩) HB.out.size (.slice A2 l.length c2)); have HBK2 := Aside0.mk (heap_put hbk 2 (.slice A2 l.length c2) (by simp)); have HF2 := Aside0.mk (fr_set (b := w1.heap.size) (i := 2) hF (by simp) (.slice A2 l.length c2)); have HGw := Aside0.mk (Nat.lt_of_lt_of_le HGl.out HB.out.size); clear hb hbk hF HB)
          | (go_at_call 28; refine (HTr.out _ HB2.out).mono ?_; rintro e w3 ⟨rfl, hb⟩; have hbk := (hb.block _ (blk_lt HBK2.out)).trans HBK2.out; have b0 := cells_of_heap hbk 0 (.int .i64 s.a.status) rfl; have b1 := cells_of_heap hbk 1 (.slice Af s.a.fields.length cf) rfl; have b2 := cells_of_heap hbk 2 (.slice A2 l.length c2) rfl; have b3 := cells_of_heap hbk 3 (.int .i64 s.a.length) rfl; have b4 := cells_of_heap hbk 4 (.int .i64 s.a.came) rfl; have b5 := cells_of_heap hbk 5 (.bool s.a.done) rfl; have HB3 := Aside0.mk (below_step HB2.out hb); have HF3 := Aside0.mk (HF2.out.step hb); clear hb hbk HB2 HF2 HBK2)
          | (go_at_call 29; refine (HT.out { s.a with trails := l } Af A2 cf c2 _ w3 HB3.out (HR.out.rf.below HB3.out) (Row.of_fr HF3.out (show l.length ≤ 1000000000 by have := HLn.out.1; omega) (by have := HGw.out; simp; omega))).mono ?_; rintro e w4 ⟨rfl, hx⟩; have HX := Aside0.mk hx; clear hx))
        go_ret
        exact ⟨rfl, HX.out⟩
    · have e1 : decide (s.a.status > 0) = false := decide_eq_false h1
      have HDa := HD.out.trans (if_neg h1)
      by_cases h2 : respQ l = 0
      · have HDb := HDa.trans (if_neg (fun h => h h2))
        rw [h2] at HRe
        obtain ⟨hdg, hsz⟩ := stat_dig (resp_ok h2)
        have HPos := Aside0.mk (resp_pos h2)
        have HAt := Aside0.mk (fun (W : World) => show Calls Tryd.prog 32 #[.string ((getP colStatus l).getD ⟨#[]⟩)] W fun e w' => e = .returned (.tuple #[.int .i64 (statNum l), .nilIface]) ∧ Below W.heap.size W w' from atoi_c _ hdg (by omega) W)
        generalize (getP colStatus l).getD ⟨#[]⟩ = v at HGe HAt
        generalize (getP colStatus l).isSome = vb at HGe
        have HDc := Aside0.mk HDb
        generalize statNum l = N at HAt HDc
        generalize (lenQ l).1 = L1 at HLe HDc
        generalize (lenQ l).2 = L2 at HLe HDc
        clear HD HDa HDb h1 h2 hdg hsz
        by_cases h3 : N < 200
        · have e3 : decide (N < 200) = true := decide_eq_true h3
          have HDd := Aside0.mk (HDc.out.trans (if_pos h3))
          rw [HDd.out]
          clear h3 HDc
          cases fin
          · show Calls _ _ _ _ (Left w g (0, s))
            go_enter Tryd.func13, Tryd.ntmps13
            go_wp2_with (first
              | (go_at_call 26; refine HO.out.mono ?_; rintro e w1 ⟨rfl, hb⟩; have hr1 := HR.out.below hb; have k1 := hr1.k1; have k2 := hr1.k2; have k3 := hr1.k3; have k4 := hr1.k4; have k5 := hr1.k5; have k6 := hr1.k6; have HB := Aside0.mk hb; clear hb hr1)
              | (go_at_call 30; refine (HRe.out _ (below_alloc HB.out _)).mono ?_; rintro e w2 ⟨rfl, hb⟩; have hbk := (hb.block _ (blk_lt (heap_alloc_new w1 _))).trans (heap_alloc_new w1 (.cells #[.int .i64 s.a.status, .slice Af s.a.fields.length cf, .slice At s.a.trails.length ct, .int .i64 s.a.length, .int .i64 s.a.came, .bool s.a.done] 56)); have b0 := cells_of_heap hbk 0 (.int .i64 s.a.status) rfl; have b1 := cells_of_heap hbk 1 (.slice Af s.a.fields.length cf) rfl; have b2 := cells_of_heap hbk 2 (.slice At s.a.trails.length ct) rfl; have b3 := cells_of_heap hbk 3 (.int .i64 s.a.length) rfl; have b4 := cells_of_heap hbk 4 (.int .i64 s.a.came) rfl; have b5 := cells_of_heap hbk 5 (.bool s.a.done) rfl; have HB2 := Aside0.mk (below_step (below_alloc HB.out _) hb); have HBK2 := Aside0.mk hbk; have HBW := Aside0.mk HB.out.size; clear hb hbk HB)
              | (go_at_call 31; refine (HGe.out _ HB2.out).mono ?_; rintro e w3 ⟨rfl, hb⟩; have hbk := (hb.block _ (blk_lt HBK2.out)).trans HBK2.out; have b0 := cells_of_heap hbk 0 (.int .i64 s.a.status) rfl; have b1 := cells_of_heap hbk 1 (.slice Af s.a.fields.length cf) rfl; have b2 := cells_of_heap hbk 2 (.slice At s.a.trails.length ct) rfl; have b3 := cells_of_heap hbk 3 (.int .i64 s.a.length) rfl; have b4 := cells_of_heap hbk 4 (.int .i64 s.a.came) rfl; have b5 := cells_of_heap hbk 5 (.bool s.a.done) rfl; have HB3 := Aside0.mk (below_step HB2.out hb); have HBK3 := Aside0.mk hbk; clear hb hbk HB2 HBK2)
              | (go_at_call 32; refine (HAt.out _).mono ?_; rintro e w4 ⟨rfl, hb⟩; have hbk := (hb.block _ (blk_lt HBK3.out)).trans HBK3.out; have b0 := cells_of_heap hbk 0 (.int .i64 s.a.status) rfl; have b1 := cells_of_heap hbk 1 (.slice Af s.a.fields.length cf) rfl; have b2 := cells_of_heap hbk 2 (.slice At s.a.trails.length ct) rfl; have b3 := cells_of_heap hbk 3 (.int .i64 s.a.length) rfl; have b4 := cells_of_heap hbk 4 (.int .i64 s.a.came) rfl; have b5 := cells_of_heap hbk 5 (.bool s.a.done) rfl; have fb : ∀ j, w4.frozen? ⟨w1.heap.size, j, none⟩ = false := (fun j => by simp [World.frozen?, hbk]); have HB4 := Aside0.mk (below_step HB3.out hb); have HBK4 := Aside0.mk hbk; clear hb hbk HB3 HBK3))
            go_ret
            exact ⟨rfl, ⟨Af, cf, At, ct, HR.out.below HB4.out⟩, Stay.of_below HB4.out⟩
          · show Calls _ _ _ _ (Left w g (toldP s s.a true 11))
            go_enter Tryd.func13, Tryd.ntmps13
            go_wp2_with (first
              | (go_at_call 26; refine HO.out.mono ?_; rintro e w1 ⟨rfl, hb⟩; have hr1 := HR.out.below hb; have k1 := hr1.k1; have k2 := hr1.k2; have k3 := hr1.k3; have k4 := hr1.k4; have k5 := hr1.k5; have k6 := hr1.k6; have HB := Aside0.mk hb; clear hb hr1)
              | (go_at_call 30; refine (HRe.out _ (below_alloc HB.out _)).mono ?_; rintro e w2 ⟨rfl, hb⟩; have hbk := (hb.block _ (blk_lt (heap_alloc_new w1 _))).trans (heap_alloc_new w1 (.cells #[.int .i64 s.a.status, .slice Af s.a.fields.length cf, .slice At s.a.trails.length ct, .int .i64 s.a.length, .int .i64 s.a.came, .bool s.a.done] 56)); have b0 := cells_of_heap hbk 0 (.int .i64 s.a.status) rfl; have b1 := cells_of_heap hbk 1 (.slice Af s.a.fields.length cf) rfl; have b2 := cells_of_heap hbk 2 (.slice At s.a.trails.length ct) rfl; have b3 := cells_of_heap hbk 3 (.int .i64 s.a.length) rfl; have b4 := cells_of_heap hbk 4 (.int .i64 s.a.came) rfl; have b5 := cells_of_heap hbk 5 (.bool s.a.done) rfl; have HB2 := Aside0.mk (below_step (below_alloc HB.out _) hb); have HBK2 := Aside0.mk hbk; have HBW := Aside0.mk HB.out.size; clear hb hbk HB)
              | (go_at_call 31; refine (HGe.out _ HB2.out).mono ?_; rintro e w3 ⟨rfl, hb⟩; have hbk := (hb.block _ (blk_lt HBK2.out)).trans HBK2.out; have b0 := cells_of_heap hbk 0 (.int .i64 s.a.status) rfl; have b1 := cells_of_heap hbk 1 (.slice Af s.a.fields.length cf) rfl; have b2 := cells_of_heap hbk 2 (.slice At s.a.trails.length ct) rfl; have b3 := cells_of_heap hbk 3 (.int .i64 s.a.length) rfl; have b4 := cells_of_heap hbk 4 (.int .i64 s.a.came) rfl; have b5 := cells_of_heap hbk 5 (.bool s.a.done) rfl; have HB3 := Aside0.mk (below_step HB2.out hb); have HBK3 := Aside0.mk hbk; clear hb hbk HB2 HBK2)
              | (go_at_call 32; refine (HAt.out _).mono ?_; rintro e w4 ⟨rfl, hb⟩; have hbk := (hb.block _ (blk_lt HBK3.out)).trans HBK3.out; have b0 := cells_of_heap hbk 0 (.int .i64 s.a.status) rfl; have b1 := cells_of_heap hbk 1 (.slice Af s.a.fields.length cf) rfl; have b2 := cells_of_heap hbk 2 (.slice At s.a.trails.length ct) rfl; have b3 := cells_of_heap hbk 3 (.int .i64 s.a.length) rfl; have b4 := cells_of_heap hbk 4 (.int .i64 s.a.came) rfl; have b5 := cells_of_heap hbk 5 (.bool s.a.done) rfl; have fb : ∀ j, w4.frozen? ⟨w1.heap.size, j, none⟩ = false := (fun j => by simp [World.frozen?, hbk]); have HB4 := Aside0.mk (below_step HB3.out hb); have HBK4 := Aside0.mk hbk; clear hb hbk HB3 HBK3)
              | (go_at_call 29; refine (HT.out s.a Af At cf ct _ w4 HB4.out (HR.out.rf.below HB4.out) (HR.out.rt.below HB4.out)).mono ?_; rintro e w9 ⟨rfl, hx⟩; have HX := Aside0.mk hx; clear hx))
            go_ret
            exact ⟨rfl, HX.out⟩
        · have e3 : decide (N < 200) = false := decide_eq_false h3
          have HDd := Aside0.mk (HDc.out.trans (if_neg h3))
          rw [HDd.out]
          clear h3 HDc
          go_enter Tryd.func13, Tryd.ntmps13
          go_wp2_with (first
            | (go_at_call 26; refine HO.out.mono ?_; rintro e w1 ⟨rfl, hb⟩; have hr1 := HR.out.below hb; have k1 := hr1.k1; have k2 := hr1.k2; have k3 := hr1.k3; have k4 := hr1.k4; have k5 := hr1.k5; have k6 := hr1.k6; have HB := Aside0.mk hb; clear hb hr1)
            | (go_at_call 30; refine (HRe.out _ (below_alloc HB.out _)).mono ?_; rintro e w2 ⟨rfl, hb⟩; have hbk := (hb.block _ (blk_lt (heap_alloc_new w1 _))).trans (heap_alloc_new w1 (.cells #[.int .i64 s.a.status, .slice Af s.a.fields.length cf, .slice At s.a.trails.length ct, .int .i64 s.a.length, .int .i64 s.a.came, .bool s.a.done] 56)); have b0 := cells_of_heap hbk 0 (.int .i64 s.a.status) rfl; have b1 := cells_of_heap hbk 1 (.slice Af s.a.fields.length cf) rfl; have b2 := cells_of_heap hbk 2 (.slice At s.a.trails.length ct) rfl; have b3 := cells_of_heap hbk 3 (.int .i64 s.a.length) rfl; have b4 := cells_of_heap hbk 4 (.int .i64 s.a.came) rfl; have b5 := cells_of_heap hbk 5 (.bool s.a.done) rfl; have HB2 := Aside0.mk (below_step (below_alloc HB.out _) hb); have HBK2 := Aside0.mk hbk; have HBW := Aside0.mk HB.out.size; clear hb hbk HB)
            | (go_at_call 31; refine (HGe.out _ HB2.out).mono ?_; rintro e w3 ⟨rfl, hb⟩; have hbk := (hb.block _ (blk_lt HBK2.out)).trans HBK2.out; have b0 := cells_of_heap hbk 0 (.int .i64 s.a.status) rfl; have b1 := cells_of_heap hbk 1 (.slice Af s.a.fields.length cf) rfl; have b2 := cells_of_heap hbk 2 (.slice At s.a.trails.length ct) rfl; have b3 := cells_of_heap hbk 3 (.int .i64 s.a.length) rfl; have b4 := cells_of_heap hbk 4 (.int .i64 s.a.came) rfl; have b5 := cells_of_heap hbk 5 (.bool s.a.done) rfl; have HB3 := Aside0.mk (below_step HB2.out hb); have HBK3 := Aside0.mk hbk; clear hb hbk HB2 HBK2)
            | (go_at_call 32; refine (HAt.out _).mono ?_; rintro e w4 ⟨rfl, hb⟩; have hbk := (hb.block _ (blk_lt HBK3.out)).trans HBK3.out; have b0 := cells_of_heap hbk 0 (.int .i64 s.a.status) rfl; have b1 := cells_of_heap hbk 1 (.slice Af s.a.fields.length cf) rfl; have b2 := cells_of_heap hbk 2 (.slice At s.a.trails.length ct) rfl; have b3 := cells_of_heap hbk 3 (.int .i64 s.a.length) rfl; have b4 := cells_of_heap hbk 4 (.int .i64 s.a.came) rfl; have b5 := cells_of_heap hbk 5 (.bool s.a.done) rfl; have fb : ∀ j, w4.frozen? ⟨w1.heap.size, j, none⟩ = false := (fun j => by simp [World.frozen?, hbk]); have HB4 := Aside0.mk (below_step HB3.out hb); have HBK4 := Aside0.mk hbk; clear hb hbk HB3 HBK3)
            | (go_at_call 27; refine (HCl.out _ (HB4.out.setCell (p := ⟨w1.heap.size, 0, none⟩) HBW.out _)).mono ?_; rintro e w5 ⟨A5, c5, rfl, hF, hb⟩; have hp4 := heap_put HBK4.out 0 (.int .i64 N) (by simp); have hbk := (hb.block _ (blk_lt hp4)).trans hp4; have HBK5 := Aside0.mk hbk; have HLT := Aside0.mk (blk_lt hp4); have HB45 := Aside0.mk hb; have HB5 := Aside0.mk (below_step (HB4.out.setCell (p := ⟨w1.heap.size, 0, none⟩) HBW.out _) hb); have HF5 := Aside0.mk hF; have HS4 := Aside0.mk (HB4.out.setCell (p := ⟨w1.heap.size, 0, none⟩) HBW.out (.int .i64 N)).size; clear hb hbk hp4 hF HB4 HBK4 fb b0 b1 b2 b3 b4 b5)
            | (go_at_call 33; refine (del_c HF5.out HPos.out HB45.out.size HLn.out.1).mono ?_; rintro e w6 ⟨rfl, hF, hb⟩; have hbk := (hb.block _ HLT.out).trans HBK5.out; have b1 := cells_of_heap hbk 1 (.slice Af s.a.fields.length cf) rfl; have fb1 : w6.frozen? ⟨w1.heap.size, 1, none⟩ = false := (by simp [World.frozen?, hbk]); have HBK6 := Aside0.mk (heap_put hbk 1 (.slice A5 (others l).length c5) (by simp)); have HF6 := Aside0.mk (fr_set (b := w1.heap.size) (i := 1) hF HLT.out (.slice A5 (others l).length c5)); have HB6 := Aside0.mk ((HB5.out.trans (hb.mono HS4.out)).setCell (p := ⟨w1.heap.size, 1, none⟩) HBW.out (.slice A5 (others l).length c5)); clear hb hbk hF HB5 HBK5 HF5 HB45)
            | (go_at_call 35; refine (HLe.out _ HB6.out).mono ?_; rintro e w7 ⟨rfl, hb⟩; have hbk := (hb.block _ (blk_lt HBK6.out)).trans HBK6.out; clear b1 fb1; have b0 := cells_of_heap hbk 0 (.int .i64 N) rfl; have b1 := cells_of_heap hbk 1 (.slice A5 (others l).length c5) rfl; have b2 := cells_of_heap hbk 2 (.slice At s.a.trails.length ct) rfl; have b3 := cells_of_heap hbk 3 (.int .i64 s.a.length) rfl; have b4 := cells_of_heap hbk 4 (.int .i64 s.a.came) rfl; have b5 := cells_of_heap hbk 5 (.bool s.a.done) rfl; have fb3 : ∀ j, w7.frozen? ⟨w1.heap.size, j, none⟩ = false := (fun j => by simp [World.frozen?, hbk]); have HB7 := Aside0.mk ((below_step HB6.out hb).setCell (p := ⟨w1.heap.size, 3, none⟩) HBW.out (.int .i64 L1)); have HF7 := Aside0.mk (fr_set (b := w1.heap.size) (i := 3) (HF6.out.step hb) HLT.out (.int .i64 L1)); clear hb hbk HB6 HBK6 HF6)
            | (go_at_call 29; refine (HT.out { s.a with status := N, fields := others l, length := L1 } A5 At c5 ct _ _ HB7.out (Row.of_fr HF7.out (show (others l).length ≤ 1000000000 by have := others_le l; have := HLn.out.1; omega) (by have := HGl.out; have := HS4.out; omega)) (HR.out.rt.below HB7.out)).mono ?_; rintro e w9 ⟨rfl, hx⟩; have HX := Aside0.mk hx; clear hx))
          go_ret
          exact ⟨rfl, HX.out⟩
      · have HDb := Aside0.mk (HDa.trans (if_pos h2))
        rw [HDb.out]
        generalize respQ l = er at HRe h2
        have e2 : decide (er = 0) = false := decide_eq_false h2
        have e2b : (er == 0) = false := beq_eq_false_iff_ne.2 h2
        clear HD HDa h1
        go_enter Tryd.func13, Tryd.ntmps13
        go_wp2_with (first
          | (go_at_call 26; refine HO.out.mono ?_; rintro e w1 ⟨rfl, hb⟩; have hr1 := HR.out.below hb; have k1 := hr1.k1; have k2 := hr1.k2; have k3 := hr1.k3; have k4 := hr1.k4; have k5 := hr1.k5; have k6 := hr1.k6; have HB := Aside0.mk hb; clear hb hr1)
          | (go_at_call 30; refine (HRe.out _ (below_alloc HB.out _)).mono ?_; rintro e w2 ⟨rfl, hb⟩; have hbk := (hb.block _ (blk_lt (heap_alloc_new w1 _))).trans (heap_alloc_new w1 (.cells #[.int .i64 s.a.status, .slice Af s.a.fields.length cf, .slice At s.a.trails.length ct, .int .i64 s.a.length, .int .i64 s.a.came, .bool s.a.done] 56)); have b0 := cells_of_heap hbk 0 (.int .i64 s.a.status) rfl; have b1 := cells_of_heap hbk 1 (.slice Af s.a.fields.length cf) rfl; have b2 := cells_of_heap hbk 2 (.slice At s.a.trails.length ct) rfl; have b3 := cells_of_heap hbk 3 (.int .i64 s.a.length) rfl; have b4 := cells_of_heap hbk 4 (.int .i64 s.a.came) rfl; have b5 := cells_of_heap hbk 5 (.bool s.a.done) rfl; have HB2 := Aside0.mk (below_step (below_alloc HB.out _) hb); have HBK2 := Aside0.mk hbk; have HBW := Aside0.mk HB.out.size; clear hb hbk HB)
          | (go_at_call 29; refine (HT.out s.a Af At cf ct _ w2 HB2.out (HR.out.rf.below HB2.out) (HR.out.rt.below HB2.out)).mono ?_; rintro e w9 ⟨rfl, hx⟩; have HX := Aside0.mk hx; clear hx))
        go_ret
        exact ⟨rfl, HX.out⟩
end Go.Proofs.YtififgiicpdndaaDoor.Fw
