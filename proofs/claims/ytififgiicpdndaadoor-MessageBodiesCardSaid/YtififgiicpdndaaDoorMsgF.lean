/- A request's headers: pack.Sum, message.Safe, message.Fields: contracts. -/
import Derived.Test.YtififgiicpdndaaDoorMsgH
namespace Go.Proofs.YtififgiicpdndaaDoor.Fw
open Go.RowKit Go.Proofs.YtififgiicpdndaaDoor.XMi Go.Proofs.YtififgiicpdndaaDoorW.PrintWords Go.Proofs.YtififgiicpdndaaDoorW.PrintLast Go.Proofs.YtififgiicpdndaaDoorW.PrintMore Go.Proofs.YtififgiicpdndaaDoor.Ms Go.Proofs.YtififgiicpdndaaDoor.Ob
theorem sum_l0 (l : List S30) (hS : Sized l) : ∀ (rest pre : List S30) (n k : Nat), l = pre ++ rest → rest.length + 1 ≤ k → n ≤ pre.length * 200032 → pack_Sum.l0 k (n : Int) l (l.length : Int) (pre.length : Int) = some (((n + costS rest : Nat) : Int))
  | [], pre, n, k, e, hk, hn => by
    obtain ⟨k, rfl⟩ : ∃ m, k = m + 1 := ⟨k - 1, by omega⟩
    have hp : pre.length = l.length := by rw [e, List.append_nil]
    rw [hp]
    unfold pack_Sum.l0
    rw [if_neg (by omega)]
    rfl
  | f :: rest, pre, n, k, e, hk, hn => by
    obtain ⟨k, rfl⟩ : ∃ m, k = m + 1 := ⟨k - 1, by omega⟩
    have hp : pre.length < l.length := by rw [e]; simp
    have hl := hS.len
    obtain ⟨h0, h1⟩ := hS.sz f (by rw [e]; simp)
    have hf : rd_T30 l (pre.length : Int) = f := by
      have : l[pre.length]? = some f := by rw [e]; simp
      simp [rd_T30, this]
    unfold pack_Sum.l0
    rw [if_pos (by omega), if_pos (by omega), if_pos (by omega), hf]
    unfold table_Cost.f
    rw [Option.bind_some, w64_next _ (by omega)]
    have x1 : wrap64 ((f.f0.size : Int) + (f.f1.size : Int)) = (f.f0.size : Int) + (f.f1.size : Int) := w64_in ((f.f0.size : Int) + (f.f1.size : Int)) (by omega)
    have x2 : wrap64 ((f.f0.size : Int) + (f.f1.size : Int) + 32) = ((f.f0.size + f.f1.size + 32 : Nat) : Int) := by rw [w64_in ((f.f0.size : Int) + (f.f1.size : Int) + 32) (by omega)]; omega
    have x3 : wrap64 ((n : Int) + ((f.f0.size + f.f1.size + 32 : Nat) : Int)) = ((n + (f.f0.size + f.f1.size + 32) : Nat) : Int) := by rw [w64_in ((n : Int) + ((f.f0.size + f.f1.size + 32 : Nat) : Int)) (by omega)]; omega
    rw [x1, x2, x3]
    clear x1 x2 x3
    have ih := sum_l0 l hS rest (pre ++ [f]) (n + (f.f0.size + f.f1.size + 32)) k (by rw [e]; simp) (by simp at hk; omega) (by rw [List.length_append, List.length_singleton]; omega)
    rw [List.length_append, List.length_singleton] at ih
    rw [ih]
    rw [show costS (f :: rest) = f.f0.size + f.f1.size + 32 + costS rest from rfl]
    congr 2
    omega
theorem sum_c {A : Option Addr} {l : List S30} {n c : Nat} {w : World} (hS : Sized l) (hC : k30.C w A n l) (hc : n ≤ c) : Calls Tryd.prog 19 #[.slice A n c] w fun e w' => e = .returned (.int .i64 ((costS l : Nat) : Int)) ∧ Below w.heap.size w w' := by
  obtain rfl : l.length = n := hC.1
  have h := sum_l0 l hS l [] 0 (l.length + 1) rfl (Nat.le_refl _) (Nat.zero_le _)
  rw [Nat.zero_add] at h
  exact pack_Sum.calls (l.length + 1) A c l _ w hC hc h
theorem safe_c (m : ByteArray) (w : World) : Calls Tryd.prog 25 #[.string m] w fun e w' => e = .returned (.bool (safeP m)) ∧ Below w.heap.size w w' := by
  refine message_Safe.calls 10 m _ w ?_
  unfold message_Safe.f
  rw [mem_eq 10 _ m (by decide) (by decide)]
  rfl
def rqV (r : RQ) (Bf : Option Addr) (bf : Nat) (Bt : Option Addr) (bt : Nat) : Value := .agg #[.string r.m, .string r.sc, .string r.au, .string r.pa, .slice Bf r.fs.length bf, .string r.body, .slice Bt r.ts.length bt]
/-- What message.Fields answers: the list, a row of one's own, if there is no error. -/
def FsPost (w : World) (r : RQ) (e : Ending) (w' : World) : Prop := Below w.heap.size w w' ∧ ∃ A n c, e = .returned (.tuple #[.slice A n c, .int .i64 (fieldsE r)]) ∧ (fieldsE r ≠ 0 → A = none ∧ n = 0 ∧ c = 0) ∧ (fieldsE r = 0 → FR w' w.heap.size A n c (listP r))
theorem fr_four (w : World) (m sc au pa : ByteArray) (base : Nat) (hb : base ≤ w.heap.size) : FR (w.alloc (.cells #[.string ⟨#[58, 109, 101, 116, 104, 111, 100]⟩, .string m, .string ⟨#[58, 115, 99, 104, 101, 109, 101]⟩, .string sc, .string ⟨#[58, 97, 117, 116, 104, 111, 114, 105, 116, 121]⟩, .string au, .string ⟨#[58, 112, 97, 116, 104]⟩, .string pa] 30)) base (some ⟨w.heap.size, 0, none⟩) 4 4 (ownFour m sc au pa) :=
  ⟨rfl, rfl, .inr ⟨w.heap.size, 4, #[.string ⟨#[58, 109, 101, 116, 104, 111, 100]⟩, .string m, .string ⟨#[58, 115, 99, 104, 101, 109, 101]⟩, .string sc, .string ⟨#[58, 97, 117, 116, 104, 111, 114, 105, 116, 121]⟩, .string au, .string ⟨#[58, 112, 97, 116, 104]⟩, .string pa], rfl, hb, heap_alloc_new w _, Nat.le_refl _, by decide, rfl, rfl⟩⟩
theorem fr_four' {W : World} {b : Nat} (h : W.heap.size = b) (m sc au pa : ByteArray) (base : Nat) (hb : base ≤ b) : FR (W.alloc (.cells #[.string ⟨#[58, 109, 101, 116, 104, 111, 100]⟩, .string m, .string ⟨#[58, 115, 99, 104, 101, 109, 101]⟩, .string sc, .string ⟨#[58, 97, 117, 116, 104, 111, 114, 105, 116, 121]⟩, .string au, .string ⟨#[58, 112, 97, 116, 104]⟩, .string pa] 30)) base (some ⟨b, 0, none⟩) 4 4 (ownFour m sc au pa) := by
  subst h
  exact fr_four W m sc au pa base hb
set_option maxHeartbeats 3200000 in
set_option maxRecDepth 20000 in
theorem fields_c (r : RQ) (Bf Bt : Option Addr) (bf bt : Nat) (w : World) (hF : k30.C w Bf r.fs.length r.fs) (hT : k30.C w Bt r.ts.length r.ts) (ht : r.ts.length ≤ bt) (hlen : r.fs.length ≤ 90000) (hb : r.body.size ≤ 1000000000) (hS1 : Sized r.ts) (hS2 : Sized (listP r)) : Calls Tryd.prog 15 #[rqV r Bf bf Bt bt] w (FsPost w r) := by
  have HC := Aside0.mk (And.intro hF (And.intro hT hlen))
  have HTr := Aside0.mk (fun (W : World) (hb : Below w.heap.size w W) => trail_n (c := bt) hS1 (Kd.C_below hT hb))
  have HSt := Aside0.mk (fun (W : World) (hb : Below w.heap.size w W) => sum_c hS1 (Kd.C_below hT hb) ht)
  have HRq := Aside0.mk (fun (W : World) (A : Option Addr) (n c : Nat) (hC : k30.C W A n (listP r)) => req_n (c := c) hS2 hC)
  have HLe := Aside0.mk (fun (W : World) (A : Option Addr) (n c : Nat) (hC : k30.C W A n (listP r)) (hc : n ≤ c) => len_n hS2 hC hc)
  have HSl := Aside0.mk (fun (W : World) (A : Option Addr) (n c : Nat) (hC : k30.C W A n (listP r)) (hc : n ≤ c) => sum_c hS2 hC hc)
  have HFE : Aside0 (fieldsE r = if r.body.size > 400 ∨ trailQ r.ts ≠ 0 ∨ costS r.ts > 600 then 1 else if reqQ (listP r) ≠ 0 then reqQ (listP r) else if costS (listP r) > 600 then 5 else if (lenQ (listP r)).2 ≠ 0 then (lenQ (listP r)).2 else if (lenQ (listP r)).1 ≥ 0 ∧ (lenQ (listP r)).1 ≠ (r.body.size : Int) then 22 else 0) := ⟨rfl⟩
  have HLL : Aside0 ((listP r).length ≤ 1000000000) := ⟨by have := hS2.len; omega⟩
  have hnone : ∀ {w' : World} {er : Int}, fieldsE r = er → er ≠ 0 → Below w.heap.size w w' → FsPost w r (.returned (.tuple #[.slice none 0 0, .int .i64 er])) w' := fun {w' er} he hne hb => ⟨hb, none, 0, 0, by rw [he], fun _ => ⟨rfl, rfl, rfl⟩, fun h => absurd (he.symm.trans h) hne⟩
  have HN := Aside0.mk (@hnone)
  clear hF hT ht hlen hS1 hS2 hnone
  unfold rqV
  generalize trailQ r.ts = tq at HTr HFE
  generalize costS r.ts = ct at HSt HFE
  generalize reqQ (listP r) = rq at HRq HFE
  generalize costS (listP r) = cl at HSl HFE
  generalize (lenQ (listP r)).1 = l1 at HLe HFE
  generalize (lenQ (listP r)).2 = l2 at HLe HFE
  by_cases h1 : r.body.size > 400
  · have e1 : decide ((r.body.size : Int) > 400) = true := decide_eq_true (by omega)
    have HE := Aside0.mk (HFE.out.trans (if_pos (.inl h1)))
    clear h1 hb
    clear HFE
    go_enter Tryd.func15, Tryd.ntmps15
    go_wp2_with (first
      | ((with_reducible refine gate_builtin (b := .append) (xs := #[.tmp 21, .tmp 23]) rfl ?_); at_builtin; refine list_app rfl (.tmp 21) (.tmp 23) rfl (w.alloc (.cells #[.string r.m, .string r.sc, .string r.au, .string r.pa, .slice Bf r.fs.length bf, .string r.body, .slice Bt r.ts.length bt] 34)) (w.heap.size + 1) _ Bf 4 4 r.fs.length bf (ownFour r.m r.sc r.au r.pa) r.fs rfl rfl (fr_four' (by simp) r.m r.sc r.au r.pa _ (Nat.le_refl _)) (Kd.C_below HC.out.1 (below_alloc (below_alloc (Below.refl _ _) _) _)) ?_ ?_ (Below.alloc (Below.refl _ _) (by simp) _) ?_; (have := HC.out.2.2; show 4 + r.fs.length ≤ 1000000; omega); (simp); intro A1 c1 w1 hF hb _; have hbk := (hb.block w.heap.size (Nat.lt_succ_self _)).trans (heap_alloc_new w (.cells #[.string r.m, .string r.sc, .string r.au, .string r.pa, .slice Bf r.fs.length bf, .string r.body, .slice Bt r.ts.length bt] 34)); have b5 := cells_of_heap hbk 5 (.string r.body) rfl; have b6 := cells_of_heap hbk 6 (.slice Bt r.ts.length bt) rfl; have HBK := Aside0.mk hbk; have HB := Aside0.mk ((below_alloc (Below.refl w.heap.size w) (.cells #[.string r.m, .string r.sc, .string r.au, .string r.pa, .slice Bf r.fs.length bf, .string r.body, .slice Bt r.ts.length bt] 34)).trans (hb.mono (Nat.le_succ _))); have HF1 := Aside0.mk hF; clear hb hbk hF)
      | (go_at_call 28; refine (HTr.out _ HB.out).mono ?_; rintro e w2 ⟨rfl, hb⟩; have hbk := (hb.block _ (blk_lt HBK.out)).trans HBK.out; have b5 := cells_of_heap hbk 5 (.string r.body) rfl; have b6 := cells_of_heap hbk 6 (.slice Bt r.ts.length bt) rfl; have HBK2 := Aside0.mk hbk; have HB2 := Aside0.mk (below_step HB.out hb); have HF2 := Aside0.mk (HF1.out.step hb); clear hb hbk HBK HB HF1; have HBK := HBK2; have HB := HB2; have HF1 := HF2; clear HBK2 HB2 HF2 HTr)
      | (go_at_call 19; refine (HSt.out _ HB.out).mono ?_; rintro e w2 ⟨rfl, hb⟩; have hbk := (hb.block _ (blk_lt HBK.out)).trans HBK.out; have b5 := cells_of_heap hbk 5 (.string r.body) rfl; have b6 := cells_of_heap hbk 6 (.slice Bt r.ts.length bt) rfl; have HBK2 := Aside0.mk hbk; have HB2 := Aside0.mk (below_step HB.out hb); have HF2 := Aside0.mk (HF1.out.step hb); clear hb hbk HBK HB HF1; have HBK := HBK2; have HB := HB2; have HF1 := HF2; clear HBK2 HB2 HF2 HSt)
      | (go_at_call 36; refine (HRq.out _ _ _ _ (HF1.out.c HLL.out).1).mono ?_; rintro e w2 ⟨rfl, hb⟩; have hbk := (hb.block _ (blk_lt HBK.out)).trans HBK.out; have b5 := cells_of_heap hbk 5 (.string r.body) rfl; have b6 := cells_of_heap hbk 6 (.slice Bt r.ts.length bt) rfl; have HBK2 := Aside0.mk hbk; have HB2 := Aside0.mk (below_step HB.out hb); have HF2 := Aside0.mk (HF1.out.step hb); clear hb hbk HBK HB HF1; have HBK := HBK2; have HB := HB2; have HF1 := HF2; clear HBK2 HB2 HF2 HRq)
      | (go_at_call 35; refine (HLe.out _ _ _ _ (HF1.out.c HLL.out).1 (HF1.out.c HLL.out).2).mono ?_; rintro e w2 ⟨rfl, hb⟩; have hbk := (hb.block _ (blk_lt HBK.out)).trans HBK.out; have b5 := cells_of_heap hbk 5 (.string r.body) rfl; have b6 := cells_of_heap hbk 6 (.slice Bt r.ts.length bt) rfl; have HBK2 := Aside0.mk hbk; have HB2 := Aside0.mk (below_step HB.out hb); have HF2 := Aside0.mk (HF1.out.step hb); clear hb hbk HBK HB HF1; have HBK := HBK2; have HB := HB2; have HF1 := HF2; clear HBK2 HB2 HF2 HLe)
      | (go_at_call 19; refine (HSl.out _ _ _ _ (HF1.out.c HLL.out).1 (HF1.out.c HLL.out).2).mono ?_; rintro e w2 ⟨rfl, hb⟩; have hbk := (hb.block _ (blk_lt HBK.out)).trans HBK.out; have b5 := cells_of_heap hbk 5 (.string r.body) rfl; have b6 := cells_of_heap hbk 6 (.slice Bt r.ts.length bt) rfl; have HBK2 := Aside0.mk hbk; have HB2 := Aside0.mk (below_step HB.out hb); have HF2 := Aside0.mk (HF1.out.step hb); clear hb hbk HBK HB HF1; have HBK := HBK2; have HB := HB2; have HF1 := HF2; clear HBK2 HB2 HF2 HSl))
    go_ret2
    exact HN.out HE.out (by decide) HB.out
  have e1 : decide ((r.body.size : Int) > 400) = false := decide_eq_false (by omega)
  by_cases h2 : ¬ tq = 0
  · have e2 : decide (tq = 0) = false := decide_eq_false h2
    have e2b : (tq == 0) = false := beq_eq_false_iff_ne.2 h2
    have HE := Aside0.mk (HFE.out.trans (if_pos (.inr (.inl h2))))
    clear h1 hb
    clear HFE
    go_enter Tryd.func15, Tryd.ntmps15
    go_wp2_with (first
      | ((with_reducible refine gate_builtin (b := .append) (xs := #[.tmp 21, .tmp 23]) rfl ?_); at_builtin; refine list_app rfl (.tmp 21) (.tmp 23) rfl (w.alloc (.cells #[.string r.m, .string r.sc, .string r.au, .string r.pa, .slice Bf r.fs.length bf, .string r.body, .slice Bt r.ts.length bt] 34)) (w.heap.size + 1) _ Bf 4 4 r.fs.length bf (ownFour r.m r.sc r.au r.pa) r.fs rfl rfl (fr_four' (by simp) r.m r.sc r.au r.pa _ (Nat.le_refl _)) (Kd.C_below HC.out.1 (below_alloc (below_alloc (Below.refl _ _) _) _)) ?_ ?_ (Below.alloc (Below.refl _ _) (by simp) _) ?_; (have := HC.out.2.2; show 4 + r.fs.length ≤ 1000000; omega); (simp); intro A1 c1 w1 hF hb _; have hbk := (hb.block w.heap.size (Nat.lt_succ_self _)).trans (heap_alloc_new w (.cells #[.string r.m, .string r.sc, .string r.au, .string r.pa, .slice Bf r.fs.length bf, .string r.body, .slice Bt r.ts.length bt] 34)); have b5 := cells_of_heap hbk 5 (.string r.body) rfl; have b6 := cells_of_heap hbk 6 (.slice Bt r.ts.length bt) rfl; have HBK := Aside0.mk hbk; have HB := Aside0.mk ((below_alloc (Below.refl w.heap.size w) (.cells #[.string r.m, .string r.sc, .string r.au, .string r.pa, .slice Bf r.fs.length bf, .string r.body, .slice Bt r.ts.length bt] 34)).trans (hb.mono (Nat.le_succ _))); have HF1 := Aside0.mk hF; clear hb hbk hF)
      | (go_at_call 28; refine (HTr.out _ HB.out).mono ?_; rintro e w2 ⟨rfl, hb⟩; have hbk := (hb.block _ (blk_lt HBK.out)).trans HBK.out; have b5 := cells_of_heap hbk 5 (.string r.body) rfl; have b6 := cells_of_heap hbk 6 (.slice Bt r.ts.length bt) rfl; have HBK2 := Aside0.mk hbk; have HB2 := Aside0.mk (below_step HB.out hb); have HF2 := Aside0.mk (HF1.out.step hb); clear hb hbk HBK HB HF1; have HBK := HBK2; have HB := HB2; have HF1 := HF2; clear HBK2 HB2 HF2 HTr)
      | (go_at_call 19; refine (HSt.out _ HB.out).mono ?_; rintro e w2 ⟨rfl, hb⟩; have hbk := (hb.block _ (blk_lt HBK.out)).trans HBK.out; have b5 := cells_of_heap hbk 5 (.string r.body) rfl; have b6 := cells_of_heap hbk 6 (.slice Bt r.ts.length bt) rfl; have HBK2 := Aside0.mk hbk; have HB2 := Aside0.mk (below_step HB.out hb); have HF2 := Aside0.mk (HF1.out.step hb); clear hb hbk HBK HB HF1; have HBK := HBK2; have HB := HB2; have HF1 := HF2; clear HBK2 HB2 HF2 HSt)
      | (go_at_call 36; refine (HRq.out _ _ _ _ (HF1.out.c HLL.out).1).mono ?_; rintro e w2 ⟨rfl, hb⟩; have hbk := (hb.block _ (blk_lt HBK.out)).trans HBK.out; have b5 := cells_of_heap hbk 5 (.string r.body) rfl; have b6 := cells_of_heap hbk 6 (.slice Bt r.ts.length bt) rfl; have HBK2 := Aside0.mk hbk; have HB2 := Aside0.mk (below_step HB.out hb); have HF2 := Aside0.mk (HF1.out.step hb); clear hb hbk HBK HB HF1; have HBK := HBK2; have HB := HB2; have HF1 := HF2; clear HBK2 HB2 HF2 HRq)
      | (go_at_call 35; refine (HLe.out _ _ _ _ (HF1.out.c HLL.out).1 (HF1.out.c HLL.out).2).mono ?_; rintro e w2 ⟨rfl, hb⟩; have hbk := (hb.block _ (blk_lt HBK.out)).trans HBK.out; have b5 := cells_of_heap hbk 5 (.string r.body) rfl; have b6 := cells_of_heap hbk 6 (.slice Bt r.ts.length bt) rfl; have HBK2 := Aside0.mk hbk; have HB2 := Aside0.mk (below_step HB.out hb); have HF2 := Aside0.mk (HF1.out.step hb); clear hb hbk HBK HB HF1; have HBK := HBK2; have HB := HB2; have HF1 := HF2; clear HBK2 HB2 HF2 HLe)
      | (go_at_call 19; refine (HSl.out _ _ _ _ (HF1.out.c HLL.out).1 (HF1.out.c HLL.out).2).mono ?_; rintro e w2 ⟨rfl, hb⟩; have hbk := (hb.block _ (blk_lt HBK.out)).trans HBK.out; have b5 := cells_of_heap hbk 5 (.string r.body) rfl; have b6 := cells_of_heap hbk 6 (.slice Bt r.ts.length bt) rfl; have HBK2 := Aside0.mk hbk; have HB2 := Aside0.mk (below_step HB.out hb); have HF2 := Aside0.mk (HF1.out.step hb); clear hb hbk HBK HB HF1; have HBK := HBK2; have HB := HB2; have HF1 := HF2; clear HBK2 HB2 HF2 HSl))
    go_ret2
    exact HN.out HE.out (by decide) HB.out
  obtain rfl : tq = 0 := Classical.byContradiction h2
  by_cases h3 : ct > 600
  · have e3 : decide ((ct : Int) > 600) = true := decide_eq_true (by omega)
    have HE := Aside0.mk (HFE.out.trans (if_pos (.inr (.inr h3))))
    clear h1 hb h3
    clear HFE
    go_enter Tryd.func15, Tryd.ntmps15
    go_wp2_with (first
      | ((with_reducible refine gate_builtin (b := .append) (xs := #[.tmp 21, .tmp 23]) rfl ?_); at_builtin; refine list_app rfl (.tmp 21) (.tmp 23) rfl (w.alloc (.cells #[.string r.m, .string r.sc, .string r.au, .string r.pa, .slice Bf r.fs.length bf, .string r.body, .slice Bt r.ts.length bt] 34)) (w.heap.size + 1) _ Bf 4 4 r.fs.length bf (ownFour r.m r.sc r.au r.pa) r.fs rfl rfl (fr_four' (by simp) r.m r.sc r.au r.pa _ (Nat.le_refl _)) (Kd.C_below HC.out.1 (below_alloc (below_alloc (Below.refl _ _) _) _)) ?_ ?_ (Below.alloc (Below.refl _ _) (by simp) _) ?_; (have := HC.out.2.2; show 4 + r.fs.length ≤ 1000000; omega); (simp); intro A1 c1 w1 hF hb _; have hbk := (hb.block w.heap.size (Nat.lt_succ_self _)).trans (heap_alloc_new w (.cells #[.string r.m, .string r.sc, .string r.au, .string r.pa, .slice Bf r.fs.length bf, .string r.body, .slice Bt r.ts.length bt] 34)); have b5 := cells_of_heap hbk 5 (.string r.body) rfl; have b6 := cells_of_heap hbk 6 (.slice Bt r.ts.length bt) rfl; have HBK := Aside0.mk hbk; have HB := Aside0.mk ((below_alloc (Below.refl w.heap.size w) (.cells #[.string r.m, .string r.sc, .string r.au, .string r.pa, .slice Bf r.fs.length bf, .string r.body, .slice Bt r.ts.length bt] 34)).trans (hb.mono (Nat.le_succ _))); have HF1 := Aside0.mk hF; clear hb hbk hF)
      | (go_at_call 28; refine (HTr.out _ HB.out).mono ?_; rintro e w2 ⟨rfl, hb⟩; have hbk := (hb.block _ (blk_lt HBK.out)).trans HBK.out; have b5 := cells_of_heap hbk 5 (.string r.body) rfl; have b6 := cells_of_heap hbk 6 (.slice Bt r.ts.length bt) rfl; have HBK2 := Aside0.mk hbk; have HB2 := Aside0.mk (below_step HB.out hb); have HF2 := Aside0.mk (HF1.out.step hb); clear hb hbk HBK HB HF1; have HBK := HBK2; have HB := HB2; have HF1 := HF2; clear HBK2 HB2 HF2 HTr)
      | (go_at_call 19; refine (HSt.out _ HB.out).mono ?_; rintro e w2 ⟨rfl, hb⟩; have hbk := (hb.block _ (blk_lt HBK.out)).trans HBK.out; have b5 := cells_of_heap hbk 5 (.string r.body) rfl; have b6 := cells_of_heap hbk 6 (.slice Bt r.ts.length bt) rfl; have HBK2 := Aside0.mk hbk; have HB2 := Aside0.mk (below_step HB.out hb); have HF2 := Aside0.mk (HF1.out.step hb); clear hb hbk HBK HB HF1; have HBK := HBK2; have HB := HB2; have HF1 := HF2; clear HBK2 HB2 HF2 HSt)
      | (go_at_call 36; refine (HRq.out _ _ _ _ (HF1.out.c HLL.out).1).mono ?_; rintro e w2 ⟨rfl, hb⟩; have hbk := (hb.block _ (blk_lt HBK.out)).trans HBK.out; have b5 := cells_of_heap hbk 5 (.string r.body) rfl; have b6 := cells_of_heap hbk 6 (.slice Bt r.ts.length bt) rfl; have HBK2 := Aside0.mk hbk; have HB2 := Aside0.mk (below_step HB.out hb); have HF2 := Aside0.mk (HF1.out.step hb); clear hb hbk HBK HB HF1; have HBK := HBK2; have HB := HB2; have HF1 := HF2; clear HBK2 HB2 HF2 HRq)
      | (go_at_call 35; refine (HLe.out _ _ _ _ (HF1.out.c HLL.out).1 (HF1.out.c HLL.out).2).mono ?_; rintro e w2 ⟨rfl, hb⟩; have hbk := (hb.block _ (blk_lt HBK.out)).trans HBK.out; have b5 := cells_of_heap hbk 5 (.string r.body) rfl; have b6 := cells_of_heap hbk 6 (.slice Bt r.ts.length bt) rfl; have HBK2 := Aside0.mk hbk; have HB2 := Aside0.mk (below_step HB.out hb); have HF2 := Aside0.mk (HF1.out.step hb); clear hb hbk HBK HB HF1; have HBK := HBK2; have HB := HB2; have HF1 := HF2; clear HBK2 HB2 HF2 HLe)
      | (go_at_call 19; refine (HSl.out _ _ _ _ (HF1.out.c HLL.out).1 (HF1.out.c HLL.out).2).mono ?_; rintro e w2 ⟨rfl, hb⟩; have hbk := (hb.block _ (blk_lt HBK.out)).trans HBK.out; have b5 := cells_of_heap hbk 5 (.string r.body) rfl; have b6 := cells_of_heap hbk 6 (.slice Bt r.ts.length bt) rfl; have HBK2 := Aside0.mk hbk; have HB2 := Aside0.mk (below_step HB.out hb); have HF2 := Aside0.mk (HF1.out.step hb); clear hb hbk HBK HB HF1; have HBK := HBK2; have HB := HB2; have HF1 := HF2; clear HBK2 HB2 HF2 HSl))
    go_ret2
    exact HN.out HE.out (by decide) HB.out
  have e3 : decide ((ct : Int) > 600) = false := decide_eq_false (by omega)
  have HFE := Aside0.mk (HFE.out.trans (if_neg (by intro h; rcases h with h | h | h; exact h1 h; exact h rfl; exact h3 h)))
  clear h1 h3
  by_cases h4 : ¬ rq = 0
  · have e4 : decide (rq = 0) = false := decide_eq_false h4
    have e4b : (rq == 0) = false := beq_eq_false_iff_ne.2 h4
    have HE := Aside0.mk (HFE.out.trans (if_pos h4))
    have H4 := Aside0.mk h4
    clear hb
    clear HFE
    go_enter Tryd.func15, Tryd.ntmps15
    go_wp2_with (first
      | ((with_reducible refine gate_builtin (b := .append) (xs := #[.tmp 21, .tmp 23]) rfl ?_); at_builtin; refine list_app rfl (.tmp 21) (.tmp 23) rfl (w.alloc (.cells #[.string r.m, .string r.sc, .string r.au, .string r.pa, .slice Bf r.fs.length bf, .string r.body, .slice Bt r.ts.length bt] 34)) (w.heap.size + 1) _ Bf 4 4 r.fs.length bf (ownFour r.m r.sc r.au r.pa) r.fs rfl rfl (fr_four' (by simp) r.m r.sc r.au r.pa _ (Nat.le_refl _)) (Kd.C_below HC.out.1 (below_alloc (below_alloc (Below.refl _ _) _) _)) ?_ ?_ (Below.alloc (Below.refl _ _) (by simp) _) ?_; (have := HC.out.2.2; show 4 + r.fs.length ≤ 1000000; omega); (simp); intro A1 c1 w1 hF hb _; have hbk := (hb.block w.heap.size (Nat.lt_succ_self _)).trans (heap_alloc_new w (.cells #[.string r.m, .string r.sc, .string r.au, .string r.pa, .slice Bf r.fs.length bf, .string r.body, .slice Bt r.ts.length bt] 34)); have b5 := cells_of_heap hbk 5 (.string r.body) rfl; have b6 := cells_of_heap hbk 6 (.slice Bt r.ts.length bt) rfl; have HBK := Aside0.mk hbk; have HB := Aside0.mk ((below_alloc (Below.refl w.heap.size w) (.cells #[.string r.m, .string r.sc, .string r.au, .string r.pa, .slice Bf r.fs.length bf, .string r.body, .slice Bt r.ts.length bt] 34)).trans (hb.mono (Nat.le_succ _))); have HF1 := Aside0.mk hF; clear hb hbk hF)
      | (go_at_call 28; refine (HTr.out _ HB.out).mono ?_; rintro e w2 ⟨rfl, hb⟩; have hbk := (hb.block _ (blk_lt HBK.out)).trans HBK.out; have b5 := cells_of_heap hbk 5 (.string r.body) rfl; have b6 := cells_of_heap hbk 6 (.slice Bt r.ts.length bt) rfl; have HBK2 := Aside0.mk hbk; have HB2 := Aside0.mk (below_step HB.out hb); have HF2 := Aside0.mk (HF1.out.step hb); clear hb hbk HBK HB HF1; have HBK := HBK2; have HB := HB2; have HF1 := HF2; clear HBK2 HB2 HF2 HTr)
      | (go_at_call 19; refine (HSt.out _ HB.out).mono ?_; rintro e w2 ⟨rfl, hb⟩; have hbk := (hb.block _ (blk_lt HBK.out)).trans HBK.out; have b5 := cells_of_heap hbk 5 (.string r.body) rfl; have b6 := cells_of_heap hbk 6 (.slice Bt r.ts.length bt) rfl; have HBK2 := Aside0.mk hbk; have HB2 := Aside0.mk (below_step HB.out hb); have HF2 := Aside0.mk (HF1.out.step hb); clear hb hbk HBK HB HF1; have HBK := HBK2; have HB := HB2; have HF1 := HF2; clear HBK2 HB2 HF2 HSt)
      | (go_at_call 36; refine (HRq.out _ _ _ _ (HF1.out.c HLL.out).1).mono ?_; rintro e w2 ⟨rfl, hb⟩; have hbk := (hb.block _ (blk_lt HBK.out)).trans HBK.out; have b5 := cells_of_heap hbk 5 (.string r.body) rfl; have b6 := cells_of_heap hbk 6 (.slice Bt r.ts.length bt) rfl; have HBK2 := Aside0.mk hbk; have HB2 := Aside0.mk (below_step HB.out hb); have HF2 := Aside0.mk (HF1.out.step hb); clear hb hbk HBK HB HF1; have HBK := HBK2; have HB := HB2; have HF1 := HF2; clear HBK2 HB2 HF2 HRq)
      | (go_at_call 35; refine (HLe.out _ _ _ _ (HF1.out.c HLL.out).1 (HF1.out.c HLL.out).2).mono ?_; rintro e w2 ⟨rfl, hb⟩; have hbk := (hb.block _ (blk_lt HBK.out)).trans HBK.out; have b5 := cells_of_heap hbk 5 (.string r.body) rfl; have b6 := cells_of_heap hbk 6 (.slice Bt r.ts.length bt) rfl; have HBK2 := Aside0.mk hbk; have HB2 := Aside0.mk (below_step HB.out hb); have HF2 := Aside0.mk (HF1.out.step hb); clear hb hbk HBK HB HF1; have HBK := HBK2; have HB := HB2; have HF1 := HF2; clear HBK2 HB2 HF2 HLe)
      | (go_at_call 19; refine (HSl.out _ _ _ _ (HF1.out.c HLL.out).1 (HF1.out.c HLL.out).2).mono ?_; rintro e w2 ⟨rfl, hb⟩; have hbk := (hb.block _ (blk_lt HBK.out)).trans HBK.out; have b5 := cells_of_heap hbk 5 (.string r.body) rfl; have b6 := cells_of_heap hbk 6 (.slice Bt r.ts.length bt) rfl; have HBK2 := Aside0.mk hbk; have HB2 := Aside0.mk (below_step HB.out hb); have HF2 := Aside0.mk (HF1.out.step hb); clear hb hbk HBK HB HF1; have HBK := HBK2; have HB := HB2; have HF1 := HF2; clear HBK2 HB2 HF2 HSl))
    go_ret2
    exact HN.out HE.out H4.out HB.out
  obtain rfl : rq = 0 := Classical.byContradiction h4
  have HFE := Aside0.mk (HFE.out.trans (if_neg (fun h => h rfl)))
  by_cases h5 : cl > 600
  · have e5 : decide ((cl : Int) > 600) = true := decide_eq_true (by omega)
    have HE := Aside0.mk (HFE.out.trans (if_pos h5))
    clear hb h5
    clear HFE
    go_enter Tryd.func15, Tryd.ntmps15
    go_wp2_with (first
      | ((with_reducible refine gate_builtin (b := .append) (xs := #[.tmp 21, .tmp 23]) rfl ?_); at_builtin; refine list_app rfl (.tmp 21) (.tmp 23) rfl (w.alloc (.cells #[.string r.m, .string r.sc, .string r.au, .string r.pa, .slice Bf r.fs.length bf, .string r.body, .slice Bt r.ts.length bt] 34)) (w.heap.size + 1) _ Bf 4 4 r.fs.length bf (ownFour r.m r.sc r.au r.pa) r.fs rfl rfl (fr_four' (by simp) r.m r.sc r.au r.pa _ (Nat.le_refl _)) (Kd.C_below HC.out.1 (below_alloc (below_alloc (Below.refl _ _) _) _)) ?_ ?_ (Below.alloc (Below.refl _ _) (by simp) _) ?_; (have := HC.out.2.2; show 4 + r.fs.length ≤ 1000000; omega); (simp); intro A1 c1 w1 hF hb _; have hbk := (hb.block w.heap.size (Nat.lt_succ_self _)).trans (heap_alloc_new w (.cells #[.string r.m, .string r.sc, .string r.au, .string r.pa, .slice Bf r.fs.length bf, .string r.body, .slice Bt r.ts.length bt] 34)); have b5 := cells_of_heap hbk 5 (.string r.body) rfl; have b6 := cells_of_heap hbk 6 (.slice Bt r.ts.length bt) rfl; have HBK := Aside0.mk hbk; have HB := Aside0.mk ((below_alloc (Below.refl w.heap.size w) (.cells #[.string r.m, .string r.sc, .string r.au, .string r.pa, .slice Bf r.fs.length bf, .string r.body, .slice Bt r.ts.length bt] 34)).trans (hb.mono (Nat.le_succ _))); have HF1 := Aside0.mk hF; clear hb hbk hF)
      | (go_at_call 28; refine (HTr.out _ HB.out).mono ?_; rintro e w2 ⟨rfl, hb⟩; have hbk := (hb.block _ (blk_lt HBK.out)).trans HBK.out; have b5 := cells_of_heap hbk 5 (.string r.body) rfl; have b6 := cells_of_heap hbk 6 (.slice Bt r.ts.length bt) rfl; have HBK2 := Aside0.mk hbk; have HB2 := Aside0.mk (below_step HB.out hb); have HF2 := Aside0.mk (HF1.out.step hb); clear hb hbk HBK HB HF1; have HBK := HBK2; have HB := HB2; have HF1 := HF2; clear HBK2 HB2 HF2 HTr)
      | (go_at_call 19; refine (HSt.out _ HB.out).mono ?_; rintro e w2 ⟨rfl, hb⟩; have hbk := (hb.block _ (blk_lt HBK.out)).trans HBK.out; have b5 := cells_of_heap hbk 5 (.string r.body) rfl; have b6 := cells_of_heap hbk 6 (.slice Bt r.ts.length bt) rfl; have HBK2 := Aside0.mk hbk; have HB2 := Aside0.mk (below_step HB.out hb); have HF2 := Aside0.mk (HF1.out.step hb); clear hb hbk HBK HB HF1; have HBK := HBK2; have HB := HB2; have HF1 := HF2; clear HBK2 HB2 HF2 HSt)
      | (go_at_call 36; refine (HRq.out _ _ _ _ (HF1.out.c HLL.out).1).mono ?_; rintro e w2 ⟨rfl, hb⟩; have hbk := (hb.block _ (blk_lt HBK.out)).trans HBK.out; have b5 := cells_of_heap hbk 5 (.string r.body) rfl; have b6 := cells_of_heap hbk 6 (.slice Bt r.ts.length bt) rfl; have HBK2 := Aside0.mk hbk; have HB2 := Aside0.mk (below_step HB.out hb); have HF2 := Aside0.mk (HF1.out.step hb); clear hb hbk HBK HB HF1; have HBK := HBK2; have HB := HB2; have HF1 := HF2; clear HBK2 HB2 HF2 HRq)
      | (go_at_call 35; refine (HLe.out _ _ _ _ (HF1.out.c HLL.out).1 (HF1.out.c HLL.out).2).mono ?_; rintro e w2 ⟨rfl, hb⟩; have hbk := (hb.block _ (blk_lt HBK.out)).trans HBK.out; have b5 := cells_of_heap hbk 5 (.string r.body) rfl; have b6 := cells_of_heap hbk 6 (.slice Bt r.ts.length bt) rfl; have HBK2 := Aside0.mk hbk; have HB2 := Aside0.mk (below_step HB.out hb); have HF2 := Aside0.mk (HF1.out.step hb); clear hb hbk HBK HB HF1; have HBK := HBK2; have HB := HB2; have HF1 := HF2; clear HBK2 HB2 HF2 HLe)
      | (go_at_call 19; refine (HSl.out _ _ _ _ (HF1.out.c HLL.out).1 (HF1.out.c HLL.out).2).mono ?_; rintro e w2 ⟨rfl, hb⟩; have hbk := (hb.block _ (blk_lt HBK.out)).trans HBK.out; have b5 := cells_of_heap hbk 5 (.string r.body) rfl; have b6 := cells_of_heap hbk 6 (.slice Bt r.ts.length bt) rfl; have HBK2 := Aside0.mk hbk; have HB2 := Aside0.mk (below_step HB.out hb); have HF2 := Aside0.mk (HF1.out.step hb); clear hb hbk HBK HB HF1; have HBK := HBK2; have HB := HB2; have HF1 := HF2; clear HBK2 HB2 HF2 HSl))
    go_ret2
    exact HN.out HE.out (by decide) HB.out
  have e5 : decide ((cl : Int) > 600) = false := decide_eq_false (by omega)
  have HFE := Aside0.mk (HFE.out.trans (if_neg h5))
  clear h5
  by_cases h6 : ¬ l2 = 0
  · have e6 : decide (l2 = 0) = false := decide_eq_false h6
    have e6b : (l2 == 0) = false := beq_eq_false_iff_ne.2 h6
    have HE := Aside0.mk (HFE.out.trans (if_pos h6))
    have H6 := Aside0.mk h6
    clear hb
    clear HFE
    go_enter Tryd.func15, Tryd.ntmps15
    go_wp2_with (first
      | ((with_reducible refine gate_builtin (b := .append) (xs := #[.tmp 21, .tmp 23]) rfl ?_); at_builtin; refine list_app rfl (.tmp 21) (.tmp 23) rfl (w.alloc (.cells #[.string r.m, .string r.sc, .string r.au, .string r.pa, .slice Bf r.fs.length bf, .string r.body, .slice Bt r.ts.length bt] 34)) (w.heap.size + 1) _ Bf 4 4 r.fs.length bf (ownFour r.m r.sc r.au r.pa) r.fs rfl rfl (fr_four' (by simp) r.m r.sc r.au r.pa _ (Nat.le_refl _)) (Kd.C_below HC.out.1 (below_alloc (below_alloc (Below.refl _ _) _) _)) ?_ ?_ (Below.alloc (Below.refl _ _) (by simp) _) ?_; (have := HC.out.2.2; show 4 + r.fs.length ≤ 1000000; omega); (simp); intro A1 c1 w1 hF hb _; have hbk := (hb.block w.heap.size (Nat.lt_succ_self _)).trans (heap_alloc_new w (.cells #[.string r.m, .string r.sc, .string r.au, .string r.pa, .slice Bf r.fs.length bf, .string r.body, .slice Bt r.ts.length bt] 34)); have b5 := cells_of_heap hbk 5 (.string r.body) rfl; have b6 := cells_of_heap hbk 6 (.slice Bt r.ts.length bt) rfl; have HBK := Aside0.mk hbk; have HB := Aside0.mk ((below_alloc (Below.refl w.heap.size w) (.cells #[.string r.m, .string r.sc, .string r.au, .string r.pa, .slice Bf r.fs.length bf, .string r.body, .slice Bt r.ts.length bt] 34)).trans (hb.mono (Nat.le_succ _))); have HF1 := Aside0.mk hF; clear hb hbk hF)
      | (go_at_call 28; refine (HTr.out _ HB.out).mono ?_; rintro e w2 ⟨rfl, hb⟩; have hbk := (hb.block _ (blk_lt HBK.out)).trans HBK.out; have b5 := cells_of_heap hbk 5 (.string r.body) rfl; have b6 := cells_of_heap hbk 6 (.slice Bt r.ts.length bt) rfl; have HBK2 := Aside0.mk hbk; have HB2 := Aside0.mk (below_step HB.out hb); have HF2 := Aside0.mk (HF1.out.step hb); clear hb hbk HBK HB HF1; have HBK := HBK2; have HB := HB2; have HF1 := HF2; clear HBK2 HB2 HF2 HTr)
      | (go_at_call 19; refine (HSt.out _ HB.out).mono ?_; rintro e w2 ⟨rfl, hb⟩; have hbk := (hb.block _ (blk_lt HBK.out)).trans HBK.out; have b5 := cells_of_heap hbk 5 (.string r.body) rfl; have b6 := cells_of_heap hbk 6 (.slice Bt r.ts.length bt) rfl; have HBK2 := Aside0.mk hbk; have HB2 := Aside0.mk (below_step HB.out hb); have HF2 := Aside0.mk (HF1.out.step hb); clear hb hbk HBK HB HF1; have HBK := HBK2; have HB := HB2; have HF1 := HF2; clear HBK2 HB2 HF2 HSt)
      | (go_at_call 36; refine (HRq.out _ _ _ _ (HF1.out.c HLL.out).1).mono ?_; rintro e w2 ⟨rfl, hb⟩; have hbk := (hb.block _ (blk_lt HBK.out)).trans HBK.out; have b5 := cells_of_heap hbk 5 (.string r.body) rfl; have b6 := cells_of_heap hbk 6 (.slice Bt r.ts.length bt) rfl; have HBK2 := Aside0.mk hbk; have HB2 := Aside0.mk (below_step HB.out hb); have HF2 := Aside0.mk (HF1.out.step hb); clear hb hbk HBK HB HF1; have HBK := HBK2; have HB := HB2; have HF1 := HF2; clear HBK2 HB2 HF2 HRq)
      | (go_at_call 35; refine (HLe.out _ _ _ _ (HF1.out.c HLL.out).1 (HF1.out.c HLL.out).2).mono ?_; rintro e w2 ⟨rfl, hb⟩; have hbk := (hb.block _ (blk_lt HBK.out)).trans HBK.out; have b5 := cells_of_heap hbk 5 (.string r.body) rfl; have b6 := cells_of_heap hbk 6 (.slice Bt r.ts.length bt) rfl; have HBK2 := Aside0.mk hbk; have HB2 := Aside0.mk (below_step HB.out hb); have HF2 := Aside0.mk (HF1.out.step hb); clear hb hbk HBK HB HF1; have HBK := HBK2; have HB := HB2; have HF1 := HF2; clear HBK2 HB2 HF2 HLe)
      | (go_at_call 19; refine (HSl.out _ _ _ _ (HF1.out.c HLL.out).1 (HF1.out.c HLL.out).2).mono ?_; rintro e w2 ⟨rfl, hb⟩; have hbk := (hb.block _ (blk_lt HBK.out)).trans HBK.out; have b5 := cells_of_heap hbk 5 (.string r.body) rfl; have b6 := cells_of_heap hbk 6 (.slice Bt r.ts.length bt) rfl; have HBK2 := Aside0.mk hbk; have HB2 := Aside0.mk (below_step HB.out hb); have HF2 := Aside0.mk (HF1.out.step hb); clear hb hbk HBK HB HF1; have HBK := HBK2; have HB := HB2; have HF1 := HF2; clear HBK2 HB2 HF2 HSl))
    go_ret2
    exact HN.out HE.out H6.out HB.out
  obtain rfl : l2 = 0 := Classical.byContradiction h6
  have HFE := Aside0.mk (HFE.out.trans (if_neg (fun h => h rfl)))
  by_cases h7 : l1 ≥ 0
  · have e7 : decide (l1 ≥ 0) = true := decide_eq_true h7
    by_cases h8 : l1 = (r.body.size : Int)
    · have e8 : decide (l1 = (r.body.size : Int)) = true := decide_eq_true h8
      have e8b : (l1 == (r.body.size : Int)) = true := beq_iff_eq.2 h8
      have HE := Aside0.mk (HFE.out.trans (if_neg (fun h => h.2 h8)))
      clear hb h7 h8
      clear HFE
      go_enter Tryd.func15, Tryd.ntmps15
      go_wp2_with (first
        | ((with_reducible refine gate_builtin (b := .append) (xs := #[.tmp 21, .tmp 23]) rfl ?_); at_builtin; refine list_app rfl (.tmp 21) (.tmp 23) rfl (w.alloc (.cells #[.string r.m, .string r.sc, .string r.au, .string r.pa, .slice Bf r.fs.length bf, .string r.body, .slice Bt r.ts.length bt] 34)) (w.heap.size + 1) _ Bf 4 4 r.fs.length bf (ownFour r.m r.sc r.au r.pa) r.fs rfl rfl (fr_four' (by simp) r.m r.sc r.au r.pa _ (Nat.le_refl _)) (Kd.C_below HC.out.1 (below_alloc (below_alloc (Below.refl _ _) _) _)) ?_ ?_ (Below.alloc (Below.refl _ _) (by simp) _) ?_; (have := HC.out.2.2; show 4 + r.fs.length ≤ 1000000; omega); (simp); intro A1 c1 w1 hF hb _; have hbk := (hb.block w.heap.size (Nat.lt_succ_self _)).trans (heap_alloc_new w (.cells #[.string r.m, .string r.sc, .string r.au, .string r.pa, .slice Bf r.fs.length bf, .string r.body, .slice Bt r.ts.length bt] 34)); have b5 := cells_of_heap hbk 5 (.string r.body) rfl; have b6 := cells_of_heap hbk 6 (.slice Bt r.ts.length bt) rfl; have HBK := Aside0.mk hbk; have HB := Aside0.mk ((below_alloc (Below.refl w.heap.size w) (.cells #[.string r.m, .string r.sc, .string r.au, .string r.pa, .slice Bf r.fs.length bf, .string r.body, .slice Bt r.ts.length bt] 34)).trans (hb.mono (Nat.le_succ _))); have HF1 := Aside0.mk hF; clear hb hbk hF)
        | (go_at_call 28; refine (HTr.out _ HB.out).mono ?_; rintro e w2 ⟨rfl, hb⟩; have hbk := (hb.block _ (blk_lt HBK.out)).trans HBK.out; have b5 := cells_of_heap hbk 5 (.string r.body) rfl; have b6 := cells_of_heap hbk 6 (.slice Bt r.ts.length bt) rfl; have HBK2 := Aside0.mk hbk; have HB2 := Aside0.mk (below_step HB.out hb); have HF2 := Aside0.mk (HF1.out.step hb); clear hb hbk HBK HB HF1; have HBK := HBK2; have HB := HB2; have HF1 := HF2; clear HBK2 HB2 HF2 HTr)
        | (go_at_call 19; refine (HSt.out _ HB.out).mono ?_; rintro e w2 ⟨rfl, hb⟩; have hbk := (hb.block _ (blk_lt HBK.out)).trans HBK.out; have b5 := cells_of_heap hbk 5 (.string r.body) rfl; have b6 := cells_of_heap hbk 6 (.slice Bt r.ts.length bt) rfl; have HBK2 := Aside0.mk hbk; have HB2 := Aside0.mk (below_step HB.out hb); have HF2 := Aside0.mk (HF1.out.step hb); clear hb hbk HBK HB HF1; have HBK := HBK2; have HB := HB2; have HF1 := HF2; clear HBK2 HB2 HF2 HSt)
        | (go_at_call 36; refine (HRq.out _ _ _ _ (HF1.out.c HLL.out).1).mono ?_; rintro e w2 ⟨rfl, hb⟩; have hbk := (hb.block _ (blk_lt HBK.out)).trans HBK.out; have b5 := cells_of_heap hbk 5 (.string r.body) rfl; have b6 := cells_of_heap hbk 6 (.slice Bt r.ts.length bt) rfl; have HBK2 := Aside0.mk hbk; have HB2 := Aside0.mk (below_step HB.out hb); have HF2 := Aside0.mk (HF1.out.step hb); clear hb hbk HBK HB HF1; have HBK := HBK2; have HB := HB2; have HF1 := HF2; clear HBK2 HB2 HF2 HRq)
        | (go_at_call 35; refine (HLe.out _ _ _ _ (HF1.out.c HLL.out).1 (HF1.out.c HLL.out).2).mono ?_; rintro e w2 ⟨rfl, hb⟩; have hbk := (hb.block _ (blk_lt HBK.out)).trans HBK.out; have b5 := cells_of_heap hbk 5 (.string r.body) rfl; have b6 := cells_of_heap hbk 6 (.slice Bt r.ts.length bt) rfl; have HBK2 := Aside0.mk hbk; have HB2 := Aside0.mk (below_step HB.out hb); have HF2 := Aside0.mk (HF1.out.step hb); clear hb hbk HBK HB HF1; have HBK := HBK2; have HB := HB2; have HF1 := HF2; clear HBK2 HB2 HF2 HLe)
        | (go_at_call 19; refine (HSl.out _ _ _ _ (HF1.out.c HLL.out).1 (HF1.out.c HLL.out).2).mono ?_; rintro e w2 ⟨rfl, hb⟩; have hbk := (hb.block _ (blk_lt HBK.out)).trans HBK.out; have b5 := cells_of_heap hbk 5 (.string r.body) rfl; have b6 := cells_of_heap hbk 6 (.slice Bt r.ts.length bt) rfl; have HBK2 := Aside0.mk hbk; have HB2 := Aside0.mk (below_step HB.out hb); have HF2 := Aside0.mk (HF1.out.step hb); clear hb hbk HBK HB HF1; have HBK := HBK2; have HB := HB2; have HF1 := HF2; clear HBK2 HB2 HF2 HSl))
      go_ret2
      exact ⟨HB.out, A1, 4 + r.fs.length, c1, by rw [HE.out]; rfl, fun h => absurd HE.out h, fun _ => HF1.out.lower (Nat.le_succ _)⟩
    · have e8 : decide (l1 = (r.body.size : Int)) = false := decide_eq_false h8
      have e8b : (l1 == (r.body.size : Int)) = false := beq_eq_false_iff_ne.2 h8
      have HE := Aside0.mk (HFE.out.trans (if_pos ⟨h7, h8⟩))
      clear hb h7
      clear HFE
      go_enter Tryd.func15, Tryd.ntmps15
      go_wp2_with (first
        | ((with_reducible refine gate_builtin (b := .append) (xs := #[.tmp 21, .tmp 23]) rfl ?_); at_builtin; refine list_app rfl (.tmp 21) (.tmp 23) rfl (w.alloc (.cells #[.string r.m, .string r.sc, .string r.au, .string r.pa, .slice Bf r.fs.length bf, .string r.body, .slice Bt r.ts.length bt] 34)) (w.heap.size + 1) _ Bf 4 4 r.fs.length bf (ownFour r.m r.sc r.au r.pa) r.fs rfl rfl (fr_four' (by simp) r.m r.sc r.au r.pa _ (Nat.le_refl _)) (Kd.C_below HC.out.1 (below_alloc (below_alloc (Below.refl _ _) _) _)) ?_ ?_ (Below.alloc (Below.refl _ _) (by simp) _) ?_; (have := HC.out.2.2; show 4 + r.fs.length ≤ 1000000; omega); (simp); intro A1 c1 w1 hF hb _; have hbk := (hb.block w.heap.size (Nat.lt_succ_self _)).trans (heap_alloc_new w (.cells #[.string r.m, .string r.sc, .string r.au, .string r.pa, .slice Bf r.fs.length bf, .string r.body, .slice Bt r.ts.length bt] 34)); have b5 := cells_of_heap hbk 5 (.string r.body) rfl; have b6 := cells_of_heap hbk 6 (.slice Bt r.ts.length bt) rfl; have HBK := Aside0.mk hbk; have HB := Aside0.mk ((below_alloc (Below.refl w.heap.size w) (.cells #[.string r.m, .string r.sc, .string r.au, .string r.pa, .slice Bf r.fs.length bf, .string r.body, .slice Bt r.ts.length bt] 34)).trans (hb.mono (Nat.le_succ _))); have HF1 := Aside0.mk hF; clear hb hbk hF)
        | (go_at_call 28; refine (HTr.out _ HB.out).mono ?_; rintro e w2 ⟨rfl, hb⟩; have hbk := (hb.block _ (blk_lt HBK.out)).trans HBK.out; have b5 := cells_of_heap hbk 5 (.string r.body) rfl; have b6 := cells_of_heap hbk 6 (.slice Bt r.ts.length bt) rfl; have HBK2 := Aside0.mk hbk; have HB2 := Aside0.mk (below_step HB.out hb); have HF2 := Aside0.mk (HF1.out.step hb); clear hb hbk HBK HB HF1; have HBK := HBK2; have HB := HB2; have HF1 := HF2; clear HBK2 HB2 HF2 HTr)
        | (go_at_call 19; refine (HSt.out _ HB.out).mono ?_; rintro e w2 ⟨rfl, hb⟩; have hbk := (hb.block _ (blk_lt HBK.out)).trans HBK.out; have b5 := cells_of_heap hbk 5 (.string r.body) rfl; have b6 := cells_of_heap hbk 6 (.slice Bt r.ts.length bt) rfl; have HBK2 := Aside0.mk hbk; have HB2 := Aside0.mk (below_step HB.out hb); have HF2 := Aside0.mk (HF1.out.step hb); clear hb hbk HBK HB HF1; have HBK := HBK2; have HB := HB2; have HF1 := HF2; clear HBK2 HB2 HF2 HSt)
        | (go_at_call 36; refine (HRq.out _ _ _ _ (HF1.out.c HLL.out).1).mono ?_; rintro e w2 ⟨rfl, hb⟩; have hbk := (hb.block _ (blk_lt HBK.out)).trans HBK.out; have b5 := cells_of_heap hbk 5 (.string r.body) rfl; have b6 := cells_of_heap hbk 6 (.slice Bt r.ts.length bt) rfl; have HBK2 := Aside0.mk hbk; have HB2 := Aside0.mk (below_step HB.out hb); have HF2 := Aside0.mk (HF1.out.step hb); clear hb hbk HBK HB HF1; have HBK := HBK2; have HB := HB2; have HF1 := HF2; clear HBK2 HB2 HF2 HRq)
        | (go_at_call 35; refine (HLe.out _ _ _ _ (HF1.out.c HLL.out).1 (HF1.out.c HLL.out).2).mono ?_; rintro e w2 ⟨rfl, hb⟩; have hbk := (hb.block _ (blk_lt HBK.out)).trans HBK.out; have b5 := cells_of_heap hbk 5 (.string r.body) rfl; have b6 := cells_of_heap hbk 6 (.slice Bt r.ts.length bt) rfl; have HBK2 := Aside0.mk hbk; have HB2 := Aside0.mk (below_step HB.out hb); have HF2 := Aside0.mk (HF1.out.step hb); clear hb hbk HBK HB HF1; have HBK := HBK2; have HB := HB2; have HF1 := HF2; clear HBK2 HB2 HF2 HLe)
        | (go_at_call 19; refine (HSl.out _ _ _ _ (HF1.out.c HLL.out).1 (HF1.out.c HLL.out).2).mono ?_; rintro e w2 ⟨rfl, hb⟩; have hbk := (hb.block _ (blk_lt HBK.out)).trans HBK.out; have b5 := cells_of_heap hbk 5 (.string r.body) rfl; have b6 := cells_of_heap hbk 6 (.slice Bt r.ts.length bt) rfl; have HBK2 := Aside0.mk hbk; have HB2 := Aside0.mk (below_step HB.out hb); have HF2 := Aside0.mk (HF1.out.step hb); clear hb hbk HBK HB HF1; have HBK := HBK2; have HB := HB2; have HF1 := HF2; clear HBK2 HB2 HF2 HSl))
      go_ret2
      exact HN.out HE.out (by decide) HB.out
  · have e7 : decide (l1 ≥ 0) = false := decide_eq_false h7
    have HE := Aside0.mk (HFE.out.trans (if_neg (fun h => h7 h.1)))
    clear hb h7
    clear HFE
    go_enter Tryd.func15, Tryd.ntmps15
    go_wp2_with (first
      | ((with_reducible refine gate_builtin (b := .append) (xs := #[.tmp 21, .tmp 23]) rfl ?_); at_builtin; refine list_app rfl (.tmp 21) (.tmp 23) rfl (w.alloc (.cells #[.string r.m, .string r.sc, .string r.au, .string r.pa, .slice Bf r.fs.length bf, .string r.body, .slice Bt r.ts.length bt] 34)) (w.heap.size + 1) _ Bf 4 4 r.fs.length bf (ownFour r.m r.sc r.au r.pa) r.fs rfl rfl (fr_four' (by simp) r.m r.sc r.au r.pa _ (Nat.le_refl _)) (Kd.C_below HC.out.1 (below_alloc (below_alloc (Below.refl _ _) _) _)) ?_ ?_ (Below.alloc (Below.refl _ _) (by simp) _) ?_; (have := HC.out.2.2; show 4 + r.fs.length ≤ 1000000; omega); (simp); intro A1 c1 w1 hF hb _; have hbk := (hb.block w.heap.size (Nat.lt_succ_self _)).trans (heap_alloc_new w (.cells #[.string r.m, .string r.sc, .string r.au, .string r.pa, .slice Bf r.fs.length bf, .string r.body, .slice Bt r.ts.length bt] 34)); have b5 := cells_of_heap hbk 5 (.string r.body) rfl; have b6 := cells_of_heap hbk 6 (.slice Bt r.ts.length bt) rfl; have HBK := Aside0.mk hbk; have HB := Aside0.mk ((below_alloc (Below.refl w.heap.size w) (.cells #[.string r.m, .string r.sc, .string r.au, .string r.pa, .slice Bf r.fs.length bf, .string r.body, .slice Bt r.ts.length bt] 34)).trans (hb.mono (Nat.le_succ _))); have HF1 := Aside0.mk hF; clear hb hbk hF)
      | (go_at_call 28; refine (HTr.out _ HB.out).mono ?_; rintro e w2 ⟨rfl, hb⟩; have hbk := (hb.block _ (blk_lt HBK.out)).trans HBK.out; have b5 := cells_of_heap hbk 5 (.string r.body) rfl; have b6 := cells_of_heap hbk 6 (.slice Bt r.ts.length bt) rfl; have HBK2 := Aside0.mk hbk; have HB2 := Aside0.mk (below_step HB.out hb); have HF2 := Aside0.mk (HF1.out.step hb); clear hb hbk HBK HB HF1; have HBK := HBK2; have HB := HB2; have HF1 := HF2; clear HBK2 HB2 HF2 HTr)
      | (go_at_call 19; refine (HSt.out _ HB.out).mono ?_; rintro e w2 ⟨rfl, hb⟩; have hbk := (hb.block _ (blk_lt HBK.out)).trans HBK.out; have b5 := cells_of_heap hbk 5 (.string r.body) rfl; have b6 := cells_of_heap hbk 6 (.slice Bt r.ts.length bt) rfl; have HBK2 := Aside0.mk hbk; have HB2 := Aside0.mk (below_step HB.out hb); have HF2 := Aside0.mk (HF1.out.step hb); clear hb hbk HBK HB HF1; have HBK := HBK2; have HB := HB2; have HF1 := HF2; clear HBK2 HB2 HF2 HSt)
      | (go_at_call 36; refine (HRq.out _ _ _ _ (HF1.out.c HLL.out).1).mono ?_; rintro e w2 ⟨rfl, hb⟩; have hbk := (hb.block _ (blk_lt HBK.out)).trans HBK.out; have b5 := cells_of_heap hbk 5 (.string r.body) rfl; have b6 := cells_of_heap hbk 6 (.slice Bt r.ts.length bt) rfl; have HBK2 := Aside0.mk hbk; have HB2 := Aside0.mk (below_step HB.out hb); have HF2 := Aside0.mk (HF1.out.step hb); clear hb hbk HBK HB HF1; have HBK := HBK2; have HB := HB2; have HF1 := HF2; clear HBK2 HB2 HF2 HRq)
      | (go_at_call 35; refine (HLe.out _ _ _ _ (HF1.out.c HLL.out).1 (HF1.out.c HLL.out).2).mono ?_; rintro e w2 ⟨rfl, hb⟩; have hbk := (hb.block _ (blk_lt HBK.out)).trans HBK.out; have b5 := cells_of_heap hbk 5 (.string r.body) rfl; have b6 := cells_of_heap hbk 6 (.slice Bt r.ts.length bt) rfl; have HBK2 := Aside0.mk hbk; have HB2 := Aside0.mk (below_step HB.out hb); have HF2 := Aside0.mk (HF1.out.step hb); clear hb hbk HBK HB HF1; have HBK := HBK2; have HB := HB2; have HF1 := HF2; clear HBK2 HB2 HF2 HLe)
      | (go_at_call 19; refine (HSl.out _ _ _ _ (HF1.out.c HLL.out).1 (HF1.out.c HLL.out).2).mono ?_; rintro e w2 ⟨rfl, hb⟩; have hbk := (hb.block _ (blk_lt HBK.out)).trans HBK.out; have b5 := cells_of_heap hbk 5 (.string r.body) rfl; have b6 := cells_of_heap hbk 6 (.slice Bt r.ts.length bt) rfl; have HBK2 := Aside0.mk hbk; have HB2 := Aside0.mk (below_step HB.out hb); have HF2 := Aside0.mk (HF1.out.step hb); clear hb hbk HBK HB HF1; have HBK := HBK2; have HB := HB2; have HF1 := HF2; clear HBK2 HB2 HF2 HSl))
    go_ret2
    exact ⟨HB.out, A1, 4 + r.fs.length, c1, by rw [HE.out]; rfl, fun h => absurd HE.out h, fun _ => HF1.out.lower (Nat.le_succ _)⟩
end Go.Proofs.YtififgiicpdndaaDoor.Fw
