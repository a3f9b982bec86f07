/- MessageList. -/
import Derived.Test.YtififgiicpdndaaDoorMsgLi
import Derived.Test.YtififgiicpdndaaDoorMsgTrails
import Derived.Deep.RegionHeldLaw
namespace Go.Proofs.YtififgiicpdndaaDoor.Fw
open Go.RowKit Go.Proofs.YtififgiicpdndaaDoor.XMi Go.Proofs.YtififgiicpdndaaDoorW.PrintWords Go.Proofs.YtififgiicpdndaaDoorW.PrintLast Go.Proofs.YtififgiicpdndaaDoorW.PrintMore Go.Proofs.YtififgiicpdndaaDoor.Ms Go.Proofs.YtififgiicpdndaaDoor.Ob
theorem tot_mem2 : ∀ {l : List S30} {f : S30}, f ∈ l → f.f0.size + f.f1.size ≤ tot l
  | x :: l, f, h => by
    rcases List.mem_cons.1 h with rfl | h
    · simp [tot]
    · have := tot_mem2 h
      simp [tot]
      omega
theorem light_sized {r : RQ} (h : lightP r = true) : Sized r.ts ∧ Sized (listP r) ∧ r.fs.length ≤ 40 ∧ r.body.size ≤ 3000 := by
  unfold lightP lightN at h
  rw [Bool.and_eq_true] at h
  have h1 := of_decide_eq_true h.1
  have h2 := of_decide_eq_true h.2
  refine ⟨⟨by omega, fun f hf => ?_⟩, ⟨?_, fun f hf => ?_⟩, by omega, by omega⟩
  · have := tot_mem2 hf
    exact ⟨by omega, by omega⟩
  · show (ownFour r.m r.sc r.au r.pa ++ r.fs).length ≤ 100000
    rw [List.length_append]
    show 4 + r.fs.length ≤ 100000
    omega
  · rcases List.mem_append.1 hf with hf | hf
    · simp only [ownFour, List.mem_cons, List.mem_nil_iff, or_false] at hf
      rcases hf with rfl | rfl | rfl | rfl
      · exact ⟨by show (⟨#[58, 109, 101, 116, 104, 111, 100]⟩ : ByteArray).size ≤ 100000; decide, by show r.m.size ≤ 100000; omega⟩
      · exact ⟨by show (⟨#[58, 115, 99, 104, 101, 109, 101]⟩ : ByteArray).size ≤ 100000; decide, by show r.sc.size ≤ 100000; omega⟩
      · exact ⟨by show (⟨#[58, 97, 117, 116, 104, 111, 114, 105, 116, 121]⟩ : ByteArray).size ≤ 100000; decide, by show r.au.size ≤ 100000; omega⟩
      · exact ⟨by show pathB.size ≤ 100000; decide, by show r.pa.size ≤ 100000; omega⟩
    · have := tot_mem2 hf
      exact ⟨by omega, by omega⟩
theorem fieldsE_sum {r : RQ} (h : fieldsE r = 0) : costS (listP r) ≤ 600 := by
  unfold fieldsE at h
  by_cases h1 : r.body.size > 400 ∨ trailQ r.ts ≠ 0 ∨ costS r.ts > 600
  · rw [if_pos h1] at h; cases h
  · rw [if_neg h1] at h
    by_cases h2 : reqQ (listP r) ≠ 0
    · rw [if_pos h2] at h; exact absurd h h2
    · rw [if_neg h2] at h
      by_cases h3 : costS (listP r) > 600
      · rw [if_pos h3] at h; cases h
      · omega
theorem elem_own2 {w : World} {base c g n : Nat} {L : List S30} (h : FR w base (some ⟨g, 0, none⟩) n c L) (hl : L.length ≤ 1000000) {j : Nat} {x : S30} (hx : L[j]? = some x) : w.cell? ⟨g, j * 2, none⟩ = some (.string x.f0) ∧ w.cell? ⟨g, j * 2 + 1, none⟩ = some (.string x.f1) := by
  have hj := (List.getElem?_eq_some_iff.1 hx).1
  have := elem_own h hl j hj
  rw [List.getElem?_eq_getElem hj] at hx
  rw [Option.some.inj hx] at this
  exact this
set_option maxHeartbeats 6400000 in
set_option maxRecDepth 20000 in
theorem list_calls (r : RQ) (Bf Bt : Option Addr) (bf bt : Nat) (w : World) (h : RqOk w r Bf bf Bt bt) : Calls Tryd.prog 5 #[rqV r Bf bf Bt bt] w fun e w' => e = .returned (.bool true) ∧ Below w.heap.size w w' := by
  have HB := Aside0.mk (Below.refl w.heap.size w)
  have HLi := Aside0.mk (fun (W : World) (hb : Below w.heap.size w W) => light_c r Bf Bt bf bt W ⟨Kd.C_below h.cf hb, Kd.C_below h.ct hb, h.lf, h.lt, h.all⟩)
  cases hlp : lightP r with
  | false =>
    rw [hlp] at HLi
    clear h hlp
    unfold rqV at HLi ⊢
    go_enter Tryd.func5, Tryd.ntmps5
    go_wp2_with (first
      | (go_at_call 17; refine (HLi.out _ (below_alloc HB.out _)).mono ?_; rintro e w1 ⟨rfl, hb⟩; have HB1 := Aside0.mk (below_step (below_alloc HB.out _) hb); clear hb)
      | (go_at_call 10; refine (alive_c _).mono ?_; rintro e w2 ⟨rfl, hb⟩; have HB2 := Aside0.mk (below_step HB1.out hb); clear hb))
    go_ret
    exact ⟨rfl, HB2.out⟩
  | true =>
    rw [hlp] at HLi
    obtain ⟨hs1, hs2, hlf, hbd⟩ := light_sized hlp
    have HFs := Aside0.mk (fun (W : World) (hw : Below w.heap.size w W) => fields_c r Bf Bt bf bt W (Kd.C_below h.cf hw) (Kd.C_below h.ct hw) h.lt (by omega) (by omega) hs1 hs2)
    have HRi := Aside0.mk (fun (W : World) (hw : Below w.heap.size w W) => right_c r Bf Bt bf bt W (Kd.C_below h.cf hw) (Kd.C_below h.ct hw) h.lt (by omega) (by omega) hs1 hs2)
    have HCf := Aside0.mk (And.intro h.cf h.lf)
    have HSz := Aside0.mk hs2
    have HLf := Aside0.mk hlf
    have HSu := Aside0.mk (@fieldsE_sum r)
    unfold FsPost at HFs
    clear h hlp hs1 hs2 hlf hbd
    generalize fieldsE r = er at HFs HRi HSu
    by_cases he : er = 0
    · subst he
      have HSu2 := Aside0.mk (HSu.out rfl)
      obtain ⟨m, sc, au, pa, fs, body, ts⟩ := r
      unfold rqV at HFs HLi ⊢
      dsimp only at HCf HLf
      clear HSu HRi
      go_enter Tryd.func5, Tryd.ntmps5
      go_wp2_with (first
        | (go_at_call 17; refine (HLi.out _ (below_alloc HB.out _)).mono ?_; rintro e w1 ⟨rfl, hb⟩; have hbk := (hb.block _ (blk_lt (heap_alloc_new w _))).trans (heap_alloc_new w (.cells #[.string m, .string sc, .string au, .string pa, .slice Bf fs.length bf, .string body, .slice Bt ts.length bt] 34)); have b0 := cells_of_heap hbk 0 _ rfl; have b1 := cells_of_heap hbk 1 _ rfl; have b2 := cells_of_heap hbk 2 _ rfl; have b3 := cells_of_heap hbk 3 _ rfl; have b4 := cells_of_heap hbk 4 _ rfl; have b5 := cells_of_heap hbk 5 _ rfl; have b6 := cells_of_heap hbk 6 _ rfl; have HBK1 := Aside0.mk hbk; have HB1 := Aside0.mk (below_step (below_alloc HB.out _) hb); clear hb hbk)
        | (go_at_call 10; refine (alive_c _).mono ?_; rintro e w2 ⟨rfl, hb⟩; have hbk := (hb.block _ (blk_lt HBK1.out)).trans HBK1.out; clear b0 b1 b2 b3 b4 b5 b6; have b0 := cells_of_heap hbk 0 _ rfl; have b1 := cells_of_heap hbk 1 _ rfl; have b2 := cells_of_heap hbk 2 _ rfl; have b3 := cells_of_heap hbk 3 _ rfl; have b4 := cells_of_heap hbk 4 _ rfl; have b5 := cells_of_heap hbk 5 _ rfl; have b6 := cells_of_heap hbk 6 _ rfl; have HBK2 := Aside0.mk hbk; have HB2 := Aside0.mk (below_step HB1.out hb); clear hb hbk HB1 HBK1)
        | (go_at_call 15; refine (HFs.out _ HB2.out).mono ?_; rintro e w3 ⟨hb, A3, n3, c3, rfl, _, hF⟩; have hbk := (hb.block _ (blk_lt HBK2.out)).trans HBK2.out; have HF3 := Aside0.mk (hF (by first | trivial | rfl)); have HBK3 := Aside0.mk hbk; have HB3 := Aside0.mk (below_step HB2.out hb); clear hb hbk hF HB2 HBK2 HFs b0 b1 b2 b3 b4 b5 b6))
      have hn3 : n3 = 4 + fs.length := by
        have := HF3.out.1
        rw [this]
        show (ownFour m sc au pa ++ fs).length = _
        rw [List.length_append]
        rfl
      subst hn3
      obtain ⟨hC3, hc3⟩ := HF3.out.c (by show (ownFour m sc au pa ++ fs).length ≤ 1000000000; rw [List.length_append]; show 4 + fs.length ≤ _; have := HLf.out; omega)
      obtain ⟨g, cur, hA3, _, hh3, _, _, hcs3, ht3⟩ := HF3.out.some (by omega)
      subst hA3
      have hel : ∀ (j : Nat) (x : S30), (listP ⟨m, sc, au, pa, fs, body, ts⟩)[j]? = some x → w3.cell? ⟨g, j * 2, none⟩ = some (.string x.f0) ∧ w3.cell? ⟨g, j * 2 + 1, none⟩ = some (.string x.f1) := fun j x hx => elem_own2 HF3.out (by show (ownFour m sc au pa ++ fs).length ≤ 1000000; rw [List.length_append]; show 4 + fs.length ≤ _; have := HLf.out; omega) hx
      obtain ⟨l0, l1⟩ := hel 0 ⟨⟨#[58, 109, 101, 116, 104, 111, 100]⟩, m⟩ rfl
      obtain ⟨l2, l3⟩ := hel 1 ⟨⟨#[58, 115, 99, 104, 101, 109, 101]⟩, sc⟩ rfl
      obtain ⟨l4, l5⟩ := hel 2 ⟨⟨#[58, 97, 117, 116, 104, 111, 114, 105, 116, 121]⟩, au⟩ rfl
      obtain ⟨l6, l7⟩ := hel 3 ⟨pathB, pa⟩ rfl
      have b0 := cells_of_heap HBK3.out 0 (.string m) rfl
      have b1 := cells_of_heap HBK3.out 1 (.string sc) rfl
      have b2 := cells_of_heap HBK3.out 2 (.string au) rfl
      have b3 := cells_of_heap HBK3.out 3 (.string pa) rfl
      have b4 := cells_of_heap HBK3.out 4 (.slice Bf fs.length bf) rfl
      have HS : Aside0 (∀ W, Below w3.heap.size w3 W → W.cell? ⟨w.heap.size, 0, none⟩ = some (.string m) ∧ W.cell? ⟨w.heap.size, 1, none⟩ = some (.string sc) ∧ W.cell? ⟨w.heap.size, 2, none⟩ = some (.string au) ∧ W.cell? ⟨w.heap.size, 3, none⟩ = some (.string pa) ∧ W.cell? ⟨w.heap.size, 4, none⟩ = some (.slice Bf fs.length bf) ∧
          W.cell? ⟨g, 0, none⟩ = some (.string ⟨#[58, 109, 101, 116, 104, 111, 100]⟩) ∧ W.cell? ⟨g, 1, none⟩ = some (.string m) ∧ W.cell? ⟨g, 2, none⟩ = some (.string ⟨#[58, 115, 99, 104, 101, 109, 101]⟩) ∧ W.cell? ⟨g, 3, none⟩ = some (.string sc) ∧ W.cell? ⟨g, 4, none⟩ = some (.string ⟨#[58, 97, 117, 116, 104, 111, 114, 105, 116, 121]⟩) ∧ W.cell? ⟨g, 5, none⟩ = some (.string au) ∧ W.cell? ⟨g, 6, none⟩ = some (.string ⟨#[58, 112, 97, 116, 104]⟩) ∧ W.cell? ⟨g, 7, none⟩ = some (.string pa)) := ⟨fun W hb => by
        have hk : ∀ (a : Addr) (v : Value), w3.cell? a = some v → W.cell? a = some v := fun a v hv => (Below.cell hb (cell_lt hv)).trans hv
        exact ⟨hk _ _ b0, hk _ _ b1, hk _ _ b2, hk _ _ b3, hk _ _ b4, hk _ _ l0, hk _ _ l1, hk _ _ l2, hk _ _ l3, hk _ _ l4, hk _ _ l5, hk _ _ l6, hk _ _ l7⟩⟩
      have hw : wrap64 (4 + (fs.length : Int)) = ((4 + fs.length : Nat) : Int) := (w64_in (4 + (fs.length : Int)) (by have := HLf.out; omega)).trans (by omega)
      have hwk : IntKind.i64.wrap (4 + (fs.length : Int)) = 4 + (fs.length : Int) := by
        clear hw
        rw [IntKind.wrap_i64]
        have := HLf.out
        clear HLi HCf HSz HSu2 HF3 hel hh3 hcs3 ht3 hC3
        omega
      have hdrop : k30.C w3 (if c3 = 4 then some ⟨g, 0, none⟩ else some ⟨g, 8, none⟩) fs.length fs := by
        by_cases h4 : fs.length = 0
        · have hfs : fs = [] := List.eq_nil_of_length_eq_zero h4
          subst hfs
          exact ⟨rfl, Nat.zero_le _, fun h => absurd h (Nat.lt_irrefl _)⟩
        · rw [if_neg (by omega)]
          exact flds_of hh3 (fcells (ownFour m sc au pa)) fs (cur.toList.drop ((4 + fs.length) * 2)) (by rw [← List.append_assoc, ← fcells_append, show ownFour m sc au pa ++ fs = listP ⟨m, sc, au, pa, fs, body, ts⟩ from rfl, ← ht3, List.take_append_drop]) (by have := HLf.out; omega)
      have hcut : ∀ W : World, (Instr.slice 32 (.slice (some ⟨g, 0, none⟩) (4 + fs.length) c3) (some (.int .i64 4)) none none).run Tryd.prog W = .ok (.slice (if c3 = 4 then some ⟨g, 0, none⟩ else some ⟨g, 8, none⟩) fs.length (c3 - 4)) W := fun W => by
        obtain ⟨i0, hi0, _, hsz0, _⟩ := info_parts infoFd
        have := cut_from (P := Tryd.prog) 32 30 .i64 Tryd.underlying32 hi0 2 hsz0 (some ⟨g, 0, none⟩) (4 + fs.length) c3 (4 : Int) (by omega) (by omega) W
        rw [this, show (4 : Int).toNat = 4 from rfl, show 4 + fs.length - 4 = fs.length by omega]
        by_cases h4 : c3 = 4
        · rw [if_pos h4, if_pos h4]
        · rw [if_neg h4, if_neg h4]
          simp [Addr.add_lit]
      have HD := Aside0.mk (And.intro hdrop (And.intro hC3 hc3))
      generalize (if c3 = 4 then some ⟨g, 0, none⟩ else some ⟨g, 8, none⟩ : Option Addr) = D at hcut HD
      have p0 : (0 : Int) < ((4 + fs.length : Nat) : Int) := by omega
      have p1 : (1 : Int) < ((4 + fs.length : Nat) : Int) := by omega
      have p2 : (2 : Int) < ((4 + fs.length : Nat) : Int) := by omega
      have p3 : (3 : Int) < ((4 + fs.length : Nat) : Int) := by omega
      have mixed : Tryd.prog.follows Departure.mixedOrders = true := by kernel_rfl
      have HB30 := Aside0.mk (Below.refl w3.heap.size w3)
      clear l0 l1 l2 l3 l4 l5 l6 l7 b0 b1 b2 b3 b4 hel hdrop hC3 hc3 hh3 hcs3 ht3
      have HSame := Aside0.mk (fun (W : World) (hb : Below w3.heap.size w3 W) => same_l (w := W) (c := c3 - 4) (d := bf) ⟨Kd.C_below HD.out.1 hb, by have := HD.out.2.2; omega⟩ ⟨Kd.C_below HCf.out.1 (below_step HB3.out hb), HCf.out.2⟩ (by have := HLf.out; omega))
      have HSum := Aside0.mk (fun (W : World) (hb : Below w3.heap.size w3 W) => sum_c (c := c3) HSz.out (Kd.C_below HD.out.2.1 hb) HD.out.2.2)
      have hsu := HSu2.out
      generalize costS (listP ⟨m, sc, au, pa, fs, body, ts⟩) = cs at HSum hsu
      have e5 : decide ((cs : Int) ≤ 600) = true := decide_eq_true (by omega)
      have e5n : decide (cs ≤ 600) = true := decide_eq_true hsu
      clear hsu HSu2
      go_wp2
      go_region_held_law (fun W => W.cell? ⟨w.heap.size, 0, none⟩ = some (.string m) ∧ W.cell? ⟨w.heap.size, 1, none⟩ = some (.string sc) ∧ W.cell? ⟨w.heap.size, 2, none⟩ = some (.string au) ∧ W.cell? ⟨w.heap.size, 3, none⟩ = some (.string pa) ∧ W.cell? ⟨w.heap.size, 4, none⟩ = some (.slice Bf fs.length bf) ∧ W.cell? ⟨g, 0, none⟩ = some (.string ⟨#[58, 109, 101, 116, 104, 111, 100]⟩) ∧ W.cell? ⟨g, 1, none⟩ = some (.string m) ∧ W.cell? ⟨g, 2, none⟩ = some (.string ⟨#[58, 115, 99, 104, 101, 109, 101]⟩) ∧ W.cell? ⟨g, 3, none⟩ = some (.string sc) ∧ W.cell? ⟨g, 4, none⟩ = some (.string ⟨#[58, 97, 117, 116, 104, 111, 114, 105, 116, 121]⟩) ∧ W.cell? ⟨g, 5, none⟩ = some (.string au) ∧ W.cell? ⟨g, 6, none⟩ = some (.string ⟨#[58, 112, 97, 116, 104]⟩) ∧ W.cell? ⟨g, 7, none⟩ = some (.string pa))
        (first | exact HS.out _ HB5.out | exact HS.out _ HB4.out | exact HS.out _ (by repeat' first | exact HB30.out | (with_reducible refine below_drew ?_)))
        (first
        | (go_at_call 18; refine (HSame.out _ ?hb).mono ?_; (case hb => (repeat' first | exact HB30.out | (with_reducible refine below_drew ?_))); rintro e w4 ⟨rfl, hb⟩; have HB4 := Aside0.mk (first_below HB30.out hb); clear hb HSame)
        | (go_at_call 19; refine (HSum.out _ HB4.out).mono ?_; rintro e w5 ⟨rfl, hb⟩; have HB5 := Aside0.mk (below_step HB4.out hb); clear hb HSum))
      all_goals
        go_wp2
        go_ret
        exact ⟨rfl, below_step HB3.out HB5.out⟩
    · have HRf := Aside0.mk (fun (W : World) (hw : Below w.heap.size w W) => by have := HRi.out W hw; rw [decide_eq_false he] at this; exact this)
      have e1 : decide (er = 0) = false := decide_eq_false he
      have e1b : (er == 0) = false := beq_eq_false_iff_ne.2 he
      have HE := Aside0.mk he
      obtain ⟨m, sc, au, pa, fs, body, ts⟩ := r
      unfold rqV at HFs HLi HRf ⊢
      dsimp only at HRf
      clear HSu HRi he
      go_enter Tryd.func5, Tryd.ntmps5
      go_wp2_with (first
        | (go_at_call 17; refine (HLi.out _ (below_alloc HB.out _)).mono ?_; rintro e w1 ⟨rfl, hb⟩; have hbk := (hb.block _ (blk_lt (heap_alloc_new w _))).trans (heap_alloc_new w (.cells #[.string m, .string sc, .string au, .string pa, .slice Bf fs.length bf, .string body, .slice Bt ts.length bt] 34)); have HBK1 := Aside0.mk hbk; have HB1 := Aside0.mk (below_step (below_alloc HB.out _) hb); clear hb hbk)
        | (go_at_call 10; refine (alive_c _).mono ?_; rintro e w2 ⟨rfl, hb⟩; have hbk := (hb.block _ (blk_lt HBK1.out)).trans HBK1.out; have b0 := cells_of_heap hbk 0 _ rfl; have b1 := cells_of_heap hbk 1 _ rfl; have b2 := cells_of_heap hbk 2 _ rfl; have b3 := cells_of_heap hbk 3 _ rfl; have b4 := cells_of_heap hbk 4 _ rfl; have b5 := cells_of_heap hbk 5 _ rfl; have b6 := cells_of_heap hbk 6 _ rfl; have HBK2 := Aside0.mk hbk; have HB2 := Aside0.mk (below_step HB1.out hb); clear hb hbk HB1 HBK1)
        | (go_at_call 15; refine (HFs.out _ HB2.out).mono ?_; rintro e w3 ⟨hb, A3, n3, c3, rfl, hn, _⟩; obtain rfl := hn HE.out; have hbk := (hb.block _ (blk_lt HBK2.out)).trans HBK2.out; clear b0 b1 b2 b3 b4 b5 b6; have b0 := cells_of_heap hbk 0 _ rfl; have b1 := cells_of_heap hbk 1 _ rfl; have b2 := cells_of_heap hbk 2 _ rfl; have b3 := cells_of_heap hbk 3 _ rfl; have b4 := cells_of_heap hbk 4 _ rfl; have b5 := cells_of_heap hbk 5 _ rfl; have b6 := cells_of_heap hbk 6 _ rfl; have HB3 := Aside0.mk (below_step HB2.out hb); clear hb hbk hn HB2 HBK2 HFs)
        | (go_at_call 16; refine (HRf.out _ HB3.out).mono ?_; rintro e w4 ⟨rfl, hb⟩; have HB4 := Aside0.mk (below_step HB3.out hb); clear hb HB3))
      go_ret
      exact ⟨rfl, HB4.out⟩
end Go.Proofs.YtififgiicpdndaaDoor.Fw
