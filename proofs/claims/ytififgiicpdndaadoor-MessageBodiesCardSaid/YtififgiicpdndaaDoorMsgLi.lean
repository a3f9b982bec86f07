/- message.Right, Light: contracts. -/
import Derived.Test.YtififgiicpdndaaDoorMsgR
import Derived.Deep.RegionLaw
namespace Go.Proofs.YtififgiicpdndaaDoor.Fw
open Go.RowKit Go.Proofs.YtififgiicpdndaaDoor.XMi Go.Proofs.YtififgiicpdndaaDoorW.PrintWords Go.Proofs.YtififgiicpdndaaDoorW.PrintLast Go.Proofs.YtififgiicpdndaaDoorW.PrintMore Go.Proofs.YtififgiicpdndaaDoor.Ms Go.Proofs.YtififgiicpdndaaDoor.Ob
set_option maxHeartbeats 1600000 in
set_option maxRecDepth 20000 in
theorem right_c (r : RQ) (Bf Bt : Option Addr) (bf bt : Nat) (w : World) (hF : k30.C w Bf r.fs.length r.fs) (hT : k30.C w Bt r.ts.length r.ts) (ht : r.ts.length ≤ bt) (hlen : r.fs.length ≤ 90000) (hb : r.body.size ≤ 1000000000) (hS1 : Sized r.ts) (hS2 : Sized (listP r)) : Calls Tryd.prog 16 #[rqV r Bf bf Bt bt] w fun e w' => e = .returned (.bool (decide (fieldsE r = 0))) ∧ Below w.heap.size w w' := by
  have HFs := Aside0.mk (fun (W : World) (hw : Below w.heap.size w W) => fields_c r Bf Bt bf bt W (Kd.C_below hF hw) (Kd.C_below hT hw) ht hlen hb hS1 hS2)
  clear hF hT ht hlen hb hS1 hS2
  have HB := Aside0.mk (Below.refl w.heap.size w)
  unfold FsPost at HFs
  generalize fieldsE r = er at HFs ⊢
  unfold rqV at HFs ⊢
  go_enter Tryd.func16, Tryd.ntmps16
  go_wp2_with (first
    | (go_at_call 15; refine (HFs.out _ (below_alloc HB.out _)).mono ?_; rintro e w2 ⟨hb, A2, n2, c2, rfl, _, _⟩; have HB2 := Aside0.mk (below_step (below_alloc HB.out _) hb); clear hb))
  go_ret
  exact ⟨rfl, HB2.out⟩
def lightN (r : RQ) : Nat := r.m.size + r.sc.size + r.au.size + r.pa.size + r.body.size + (tot r.fs + tot r.ts)
def lightP (r : RQ) : Bool := decide (lightN r ≤ 3000) && decide (r.fs.length + r.ts.length ≤ 40)
theorem tot_app : ∀ a b : List S30, tot (a ++ b) = tot a + tot b
  | [], b => by simp [tot]
  | x :: a, b => by simp [tot, tot_app a b]; omega
theorem tot_take (l : List S30) (j : Nat) (hj : j < l.length) : tot (l.take (j + 1)) = tot (l.take j) + (l[j].f0.size + l[j].f1.size) := by
  rw [List.take_succ_eq_append_getElem hj, tot_app]
  simp [tot]
theorem tot_take_le : ∀ (l : List S30) (j : Nat), tot (l.take j) ≤ tot l
  | [], j => by simp [tot]
  | x :: l, 0 => by simp [tot]
  | x :: l, j + 1 => by
    have := tot_take_le l j
    simp [tot]
    omega
theorem sum2 (n a b : Nat) (h : n + a + b ≤ 1048576) : wrap64 ((a : Int) + (b : Int)) = (a : Int) + (b : Int) ∧ wrap64 ((n : Int) + ((a : Int) + (b : Int))) = ((n + a + b : Nat) : Int) :=
  ⟨w64_in ((a : Int) + (b : Int)) (by omega), (w64_in ((n : Int) + ((a : Int) + (b : Int))) (by omega)).trans (by omega)⟩
theorem sum5 (a b c d e : Nat) (h : a + b + c + d + e ≤ 1048576) : wrap64 ((a : Int) + (b : Int)) = (a : Int) + (b : Int) ∧ wrap64 ((a : Int) + (b : Int) + (c : Int)) = (a : Int) + (b : Int) + (c : Int) ∧ wrap64 ((a : Int) + (b : Int) + (c : Int) + (d : Int)) = (a : Int) + (b : Int) + (c : Int) + (d : Int) ∧ wrap64 ((a : Int) + (b : Int) + (c : Int) + (d : Int) + (e : Int)) = ((a + b + c + d + e : Nat) : Int) :=
  ⟨w64_in ((a : Int) + (b : Int)) (by omega), w64_in ((a : Int) + (b : Int) + (c : Int)) (by omega), w64_in ((a : Int) + (b : Int) + (c : Int) + (d : Int)) (by omega), (w64_in ((a : Int) + (b : Int) + (c : Int) + (d : Int) + (e : Int)) (by omega)).trans (by omega)⟩
set_option maxHeartbeats 3200000 in
set_option maxRecDepth 20000 in
theorem light_c (r : RQ) (Bf Bt : Option Addr) (bf bt : Nat) (w : World) (h : RqOk w r Bf bf Bt bt) : Calls Tryd.prog 17 #[rqV r Bf bf Bt bt] w fun e w' => e = .returned (.bool (lightP r)) ∧ Below w.heap.size w w' := by
  obtain ⟨m, sc, au, pa, fs, body, ts⟩ := r
  obtain ⟨hf, ht, hlf, hlt, hall⟩ := h
  dsimp only at hf ht hlf hlt hall
  have HC := Aside0.mk (And.intro hf (And.intro ht (And.intro hlf (And.intro hlt hall))))
  have HB := Aside0.mk (Below.refl w.heap.size w)
  obtain ⟨w1, w2, w3, w4⟩ := sum5 m.size sc.size au.size pa.size body.size (by omega)
  have HWs := Aside0.mk (And.intro w1 (And.intro w2 (And.intro w3 w4)))
  clear w1 w2 w3 w4
  have HL0 : Aside0 (lightP ⟨m, sc, au, pa, fs, body, ts⟩ = (decide (((m.size + sc.size + au.size + pa.size + body.size + tot (fs ++ ts) : Nat) : Int) ≤ 3000) && decide (((fs ++ ts).length : Int) ≤ 40))) := ⟨by
    unfold lightP lightN
    rw [tot_app]
    congr 1
    · rw [decide_eq_decide]
      dsimp only
      omega
    · rw [decide_eq_decide, List.length_append]
      dsimp only
      omega⟩
  rw [HL0.out]
  clear HL0 hf ht hlf hlt hall
  obtain ⟨w1, w2, w3, w4⟩ := HWs.out
  unfold rqV
  dsimp only
  go_enter Tryd.func17, Tryd.ntmps17
  go_wp2
  have HBK := Aside0.mk (heap_alloc_new w (.cells #[.string m, .string sc, .string au, .string pa, .slice Bf fs.length bf, .string body, .slice Bt ts.length bt] 34))
  have HB1 := Aside0.mk (below_alloc HB.out (.cells #[.string m, .string sc, .string au, .string pa, .slice Bf fs.length bf, .string body, .slice Bt ts.length bt] 34))
  have HB11 := Aside0.mk (Below.refl (w.alloc (.cells #[.string m, .string sc, .string au, .string pa, .slice Bf fs.length bf, .string body, .slice Bt ts.length bt] 34)).heap.size (w.alloc (.cells #[.string m, .string sc, .string au, .string pa, .slice Bf fs.length bf, .string body, .slice Bt ts.length bt] 34)))
  generalize w.alloc (.cells #[.string m, .string sc, .string au, .string pa, .slice Bf fs.length bf, .string body, .slice Bt ts.length bt] 34) = W1 at HBK HB1 HB11 ⊢
  have k4 := cells_of_heap HBK.out 4 _ rfl
  have k6 := cells_of_heap HBK.out 6 _ rfl
  clear w1 w2 w3 w4
  obtain ⟨N, hN⟩ : ∃ N, N = fs.length + ts.length := ⟨_, rfl⟩
  go_region_law (first
    | (refine step_app (by first | rfl | (simp [Region.wanted]; done)) (.const (.slice none 0 0)) (.tmp 26) rfl W1 W1.heap.size none Bf 0 0 fs.length bf [] fs rfl rfl (FR.nil _ _) ?cC ?cL ?cB ?cW ?_; (case cC => exact Kd.C_below HC.out.1 (by repeat' first | exact HB1.out | (with_reducible refine below_drew ?_))); (case cL => have := HC.out.2.2.2.2; simp only [List.length_nil]; omega); (case cB => simp); (case cW => (repeat' first | exact HB11.out | (with_reducible refine below_drew ?_))); intro A3 c3 W3 hF hb _; rw [Nat.zero_add, List.nil_append] at hF; rw [Nat.zero_add]; have k6b := cells_of_heap ((hb.block _ (blk_lt HBK.out)).trans HBK.out) 6 _ rfl; have HF3 := Aside0.mk hF; have HB3 := Aside0.mk hb; clear hF hb)
    | (refine step_app (by first | rfl | (simp [Region.wanted]; done)) (.tmp 27) (.tmp 29) rfl W1 W1.heap.size A3 Bt fs.length c3 ts.length bt fs ts rfl rfl HF3.out ?cC ?cL HB3.out.size HB3.out ?_; (case cC => exact Kd.C_below HC.out.2.1 (below_step HB1.out HB3.out)); (case cL => have := HC.out.2.2.2.2; omega); intro A4 c4 W4 hF hb _; rw [← hN] at hF; have hbk4 := (hb.block _ (blk_lt HBK.out)).trans HBK.out; have k4d := cells_of_heap hbk4 4 _ rfl; have k6d := cells_of_heap hbk4 6 _ rfl; have HF4 := Aside0.mk hF; have HB4 := Aside0.mk hb; have HBK4 := Aside0.mk hbk4; clear hF hb hbk4 HF3 HB3))
  all_goals
    have HNL : Aside0 (N = fs.length + ts.length ∧ N = (fs ++ ts).length) := ⟨hN, by rw [List.length_append]; exact hN⟩
    have HTT : Aside0 (tot (fs ++ ts) = tot fs + tot ts) := ⟨tot_app _ _⟩
    have HB5 := Aside0.mk (below_step HB1.out HB4.out)
    have wl : wrap64 ((fs.length : Int) + (ts.length : Int)) = (N : Int) := by
      rw [hN, w64_in ((fs.length : Int) + (ts.length : Int)) (by have := HC.out.2.2.2.2; omega)]
      omega
    have HWL := Aside0.mk wl
    clear hN wl k4 k6 k6b k4d k6d
    generalize hLe : fs ++ ts = L at HF4 HNL HTT
    have HLe := Aside0.mk hLe
    clear hLe
    go_wp2
    go_simp
    go_loopg [3, 32] (N + 1) (fun kq v3 v32 w' => ∃ j n : Nat, v3 = .int .i64 (n : Int) ∧ v32 = .int .i64 j ∧ Aside0 (j + kq = N + 1 ∧ 1 ≤ kq ∧ n = m.size + sc.size + au.size + pa.size + body.size + tot (L.take j)) ∧ Aside0 (Below W4.heap.size W4 w'))
    case atStart => exact ⟨0, _, congrArg (Value.int .i64) HWs.out.2.2.2, rfl, ⟨by omega, by omega, by rw [List.take_zero]; rfl⟩, ⟨Below.refl _ _⟩⟩
    case round =>
      obtain ⟨j, n, rfl, rfl, HJ, HW⟩ := hrel
      by_cases hj : j < N
      · have q1 : decide ((j : Int) < (fs.length : Int) + (ts.length : Int)) = true := decide_eq_true (by have := HNL.out; omega)
        have q2 : decide (j < fs.length + ts.length) = true := decide_eq_true (by have := HNL.out; omega)
        have hjL : j < L.length := by have := HNL.out; omega
        obtain ⟨g, cur, hA, _⟩ := HF4.out.some (by have := HNL.out; omega)
        subst hA
        have hFr := HF4.out.step HW.out
        obtain ⟨k0, k1⟩ := elem_own hFr (by have := HC.out.2.2.2.2; have := HNL.out; omega) j hjL
        have ht := tot_take L j hjL
        have hle := tot_take_le L (j + 1)
        generalize L[j] = x at k0 k1 ht
        have p1 : (0 : Int) ≤ (j : Int) := by omega
        have p2 : (j : Int) < (fs.length : Int) + (ts.length : Int) := by have := HNL.out; omega
        have p3 : (j : Int) < ((fs.length + ts.length : Nat) : Int) := by have := HNL.out; omega
        have HSum := Aside0.mk (sum2 n x.f0.size x.f1.size (by have := HC.out.2.2.2.2; have := HTT.out; have := HJ.out; omega))
        have HX := Aside0.mk (And.intro ht HSum.out.2)
        have hwj : wrap64 ((j : Int) + 1) = ((j + 1 : Nat) : Int) := w64_next j (by have := HC.out.2.2.2.2; have := HNL.out; omega)
        have HWJ := Aside0.mk hwj
        have HJ2 := Aside0.mk hj
        have x1 := HSum.out.1
        clear hj hjL hFr ht hle
        go_wp2
        clear x1 hwj
        go_roundg (gk - 1)
        case measure => have := HJ.out; omega
        case rel => exact ⟨j + 1, n + x.f0.size + x.f1.size, congrArg (Value.int .i64) HX.out.2, congrArg (Value.int .i64) HWJ.out, ⟨by have := HJ.out; omega, by have := HJ.out; have := HJ2.out; omega, by have := HJ.out; have := HX.out.1; omega⟩, ⟨below_alloc HW.out _⟩⟩
      · have q1 : decide ((j : Int) < (fs.length : Int) + (ts.length : Int)) = false := decide_eq_false (by have := HNL.out; omega)
        have q2 : decide (j < fs.length + ts.length) = false := decide_eq_false (by have := HNL.out; omega)
        have hn : n = m.size + sc.size + au.size + pa.size + body.size + tot L := by
          have := HJ.out
          rw [List.take_of_length_le (by have := HNL.out; omega)] at this
          omega
        have hbk := (HW.out.block _ (blk_lt HBK4.out)).trans HBK4.out
        have k4 := cells_of_heap hbk 4 _ rfl
        have k6 := cells_of_heap hbk 6 _ rfl
        have HNE := Aside0.mk hn
        have hwl := HWL.out
        clear hj hbk hn
        by_cases h3 : n ≤ 3000
        · have d1 : decide ((n : Int) ≤ 3000) = true := decide_eq_true (by clear hwl; omega)
          have d1n : decide (n ≤ 3000) = true := decide_eq_true h3
          clear h3
          go_wp2
          go_ret
          refine ⟨congrArg (fun x => Ending.returned (Value.bool x)) ?_, below_step HB5.out HW.out⟩
          rw [HLe.out, ← HNE.out, d1, Bool.true_and, ← HNL.out.2]
        · have d1 : decide ((n : Int) ≤ 3000) = false := decide_eq_false (by clear hwl; omega)
          have d1n : decide (n ≤ 3000) = false := decide_eq_false h3
          clear h3
          go_wp2
          go_ret
          refine ⟨congrArg (fun x => Ending.returned (Value.bool x)) ?_, below_step HB5.out HW.out⟩
          rw [HLe.out, ← HNE.out, d1, Bool.false_and]
theorem tot_mem2 : ∀ {l : List S30} {f : S30}, f ∈ l → f.f0.size + f.f1.size ≤ tot l
  | x :: l, f, h => by
    rcases List.mem_cons.1 h with rfl | h
    · simp [tot]
    · have := tot_mem2 h
      simp [tot]
      omega
theorem light_sized {r : RQ} (h : lightP r = true) : Sized r.ts ∧ Sized (listP r) ∧ r.fs.length ≤ 40 ∧ r.body.size ≤ 3000 := by
  unfold lightP lightN at h
  rw [Bool.and_eq_true] at h
  have h1 := of_decide_eq_true h.1
  have h2 := of_decide_eq_true h.2
  refine ⟨⟨by omega, fun f hf => ?_⟩, ⟨?_, fun f hf => ?_⟩, by omega, by omega⟩
  · have := tot_mem2 hf
    exact ⟨by omega, by omega⟩
  · show (ownFour r.m r.sc r.au r.pa ++ r.fs).length ≤ 100000
    rw [List.length_append]
    show 4 + r.fs.length ≤ 100000
    omega
  · rcases List.mem_append.1 hf with hf | hf
    · simp only [ownFour, List.mem_cons, List.mem_nil_iff, or_false] at hf
      rcases hf with rfl | rfl | rfl | rfl
      · exact ⟨by show (⟨#[58, 109, 101, 116, 104, 111, 100]⟩ : ByteArray).size ≤ 100000; decide, by show r.m.size ≤ 100000; omega⟩
      · exact ⟨by show (⟨#[58, 115, 99, 104, 101, 109, 101]⟩ : ByteArray).size ≤ 100000; decide, by show r.sc.size ≤ 100000; omega⟩
      · exact ⟨by show (⟨#[58, 97, 117, 116, 104, 111, 114, 105, 116, 121]⟩ : ByteArray).size ≤ 100000; decide, by show r.au.size ≤ 100000; omega⟩
      · exact ⟨by show pathB.size ≤ 100000; decide, by show r.pa.size ≤ 100000; omega⟩
    · have := tot_mem2 hf
      exact ⟨by omega, by omega⟩
theorem light_all {r : RQ} (h : lightP r = true) : Sized r.ts ∧ Sized (listP r) ∧ r.fs.length ≤ 40 ∧ r.body.size ≤ 3000 ∧ r.ts.length ≤ 40 := by
  obtain ⟨h1, h2, h3, h4⟩ := light_sized h
  unfold lightP at h
  rw [Bool.and_eq_true] at h
  have := of_decide_eq_true h.2
  exact ⟨h1, h2, h3, h4, by omega⟩
end Go.Proofs.YtififgiicpdndaaDoor.Fw
