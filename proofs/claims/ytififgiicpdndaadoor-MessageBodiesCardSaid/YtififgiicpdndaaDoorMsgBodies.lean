/- MessageBodies. -/
import Derived.Test.YtififgiicpdndaaDoorMsgDig
import Derived.Test.YtififgiicpdndaaDoorMsgLi
import Derived.Deep.OwnRows
import Derived.Laws.IdiomStrings
namespace Go.Proofs.YtififgiicpdndaaDoor.Fw
open Go.RowKit Go.Proofs.YtififgiicpdndaaDoor.XMi Go.Proofs.YtififgiicpdndaaDoorW.PrintWords Go.Proofs.YtififgiicpdndaaDoorW.PrintLast Go.Proofs.YtififgiicpdndaaDoorW.PrintMore Go.Proofs.YtififgiicpdndaaDoor.Ms Go.Proofs.YtififgiicpdndaaDoor.Ob
def bdFour : List S30 := ownFour ⟨#[80, 85, 84]⟩ ⟨#[104, 116, 116, 112]⟩ ⟨#[97]⟩ ⟨#[47]⟩
def bdR (fs : List S30) (body : ByteArray) : RQ := ⟨⟨#[80, 85, 84]⟩, ⟨#[104, 116, 116, 112]⟩, ⟨#[97]⟩, ⟨#[47]⟩, fs, body, []⟩
theorem bd_four : reqQ bdFour = 0 ∧ costS bdFour ≤ 200 ∧ lenQ bdFour = (-1, 0) := ⟨by kernel_rfl, by decide +kernel, by kernel_rfl⟩
theorem cost_app : ∀ a b : List S30, costS (a ++ b) = costS a + costS b
  | [], b => by simp [costS]
  | x :: a, b => by simp [costS, cost_app a b]; omega
theorem bd_req (m : Nat) : reqQ (bdFour ++ [clF m]) = 0 := (req_more (cl_trail m) bdFour).trans bd_four.1
theorem bd_cost (m : Nat) : costS (bdFour ++ [clF m]) ≤ 300 := by
  rw [cost_app]
  have h0 := bd_four.2.1
  have h1 : costS [clF m] = lenB.size + (digT m).size + 32 := rfl
  have h2 : lenB.size = 14 := by kernel_rfl
  have h3 := digT_size m
  omega
theorem bd_other (m : Nat) : bdFour.any (otherB (digT m)) = false := by
  unfold bdFour ownFour
  simp only [List.any_cons, List.any_nil, Bool.or_false]
  unfold otherB
  rw [show (⟨#[58, 109, 101, 116, 104, 111, 100]⟩ : ByteArray).toList = [58, 109, 101, 116, 104, 111, 100] from toList_mk [58, 109, 101, 116, 104, 111, 100], show (⟨#[58, 115, 99, 104, 101, 109, 101]⟩ : ByteArray).toList = [58, 115, 99, 104, 101, 109, 101] from toList_mk [58, 115, 99, 104, 101, 109, 101], show (⟨#[58, 97, 117, 116, 104, 111, 114, 105, 116, 121]⟩ : ByteArray).toList = [58, 97, 117, 116, 104, 111, 114, 105, 116, 121] from toList_mk [58, 97, 117, 116, 104, 111, 114, 105, 116, 121], show (pathB).toList = [58, 112, 97, 116, 104] from toList_mk [58, 112, 97, 116, 104]]
  simp
theorem bd_len (m : Nat) (h : m < 1000000) : lenQ (bdFour ++ [clF m]) = ((m : Int), 0) := by
  unfold lenQ
  have n0 : ∀ (x : ByteArray), x.size ≠ 14 → x ≠ lenB := fun x hx e => hx (by rw [e]; kernel_rfl)
  rw [show getP lenB (bdFour ++ [clF m]) = some (digT m) from
    (if_neg (n0 _ (by decide))).trans ((if_neg (n0 _ (by decide))).trans ((if_neg (n0 _ (by decide))).trans ((if_neg (n0 _ (by decide))).trans (if_pos rfl))))]
  have h1 : (bdFour ++ [clF m]).any (otherB (digT m)) = false := by
    rw [List.any_append, bd_other, Bool.false_or, List.any_cons, List.any_nil, Bool.or_false]
    unfold otherB
    rw [show (clF m).f1 = digT m from rfl]
    simp
  show (if (bdFour ++ [clF m]).any (otherB (digT m)) || !digP (digT m) || decide (((digT m).size : Int) > 9) then ((-1 : Int), (3 : Int)) else (((numD (digT m).toList : Nat) : Int), 0)) = _
  rw [h1, digT_dig, decide_eq_false (by have := digT_size m; omega), digT_num m h]
  rfl
theorem fe_of (r : RQ) (ln : Int) (h1 : trailQ r.ts = 0) (h2 : costS r.ts ≤ 600) (h3 : reqQ (listP r) = 0) (h4 : costS (listP r) ≤ 600) (h5 : lenQ (listP r) = (ln, 0)) : fieldsE r = if r.body.size > 400 then 1 else if ln ≥ 0 ∧ ln ≠ (r.body.size : Int) then 22 else 0 := by
  unfold fieldsE
  by_cases hb : r.body.size > 400
  · rw [if_pos (.inl hb), if_pos hb]
  · rw [if_neg (by rintro (h | h | h); exact hb h; exact h h1; omega), if_neg (fun h => h h3), if_neg (by omega), h5, if_neg (fun h => h rfl), if_neg hb]
theorem bd_E (m : Nat) (h : m < 1000000) (body : ByteArray) : fieldsE (bdR [clF m] body) = if body.size > 400 then 1 else if body.size = m then 0 else 22 := by
  have e1 : listP (bdR [clF m] body) = bdFour ++ [clF m] := rfl
  rw [fe_of (bdR [clF m] body) m rfl (show (0 : Nat) ≤ 600 by decide) (by rw [e1]; exact bd_req m) (by have := bd_cost m; rw [e1]; omega) (by rw [e1]; exact bd_len m h)]
  show (if body.size > 400 then (1 : Int) else _) = _
  by_cases h1 : body.size > 400
  · rw [if_pos h1, if_pos h1]
  · rw [if_neg h1, if_neg h1]
    by_cases h2 : body.size = m
    · rw [if_neg (fun h => h.2 (by show (m : Int) = (body.size : Int); omega)), if_pos h2]
    · rw [if_pos ⟨by omega, by show (m : Int) ≠ (body.size : Int); omega⟩, if_neg h2]
theorem bd_E0 (body : ByteArray) : fieldsE (bdR [] body) = if body.size > 400 then 1 else 0 := by
  have e1 : listP (bdR [] body) = bdFour := rfl
  obtain ⟨q1, q2, q3⟩ := bd_four
  rw [fe_of (bdR [] body) (-1) rfl (show (0 : Nat) ≤ 600 by decide) (by rw [e1]; exact q1) (by rw [e1]; omega) (by rw [e1]; exact q3)]
  show (if body.size > 400 then (1 : Int) else _) = _
  by_cases h1 : body.size > 400
  · rw [if_pos h1, if_pos h1]
  · rw [if_neg h1, if_neg h1, if_neg (fun h => absurd h.1 (by decide))]
theorem bd_sized (m : Nat) : Sized (bdFour ++ [clF m]) := ⟨by simp [bdFour, ownFour], fun f hf => by
  have h2 := digT_size m
  rcases List.mem_append.1 hf with hf | hf
  · simp only [bdFour, ownFour, List.mem_cons, List.mem_nil_iff, or_false] at hf
    rcases hf with rfl | rfl | rfl | rfl <;> exact ⟨by decide +kernel, by decide +kernel⟩
  · obtain rfl := List.mem_singleton.1 hf
    exact ⟨by show lenB.size ≤ 100000; decide +kernel, by show (digT m).size ≤ 100000; omega⟩⟩
theorem bd_sized0 : Sized bdFour := ⟨by decide, fun f hf => by
  simp only [bdFour, ownFour, List.mem_cons, List.mem_nil_iff, or_false] at hf
  rcases hf with rfl | rfl | rfl | rfl <;> exact ⟨by decide +kernel, by decide +kernel⟩⟩
theorem nil_sized : Sized ([] : List S30) := ⟨by decide, fun f hf => by cases hf⟩
def zeroB (n : Nat) : ByteArray := ⟨(List.replicate n (0 : UInt8)).toArray⟩
theorem zero_size (n : Nat) : (zeroB n).size = n := by
  show (List.replicate n (0 : UInt8)).toArray.size = n
  simp
theorem infoB : (Tryd.prog.info? 5).map (fun i => (i.zero, i.size, i.bytes)) = some (some (.int .u8 0), 1, 1) := by kernel_rfl
theorem make_zero (n : Nat) (h : n ≤ 500) (W : World) : (Instr.makeSlice 23 (.int .i64 (n : Int)) (.int .i64 (n : Int))).run Tryd.prog W = .ok (.slice (some ⟨W.heap.size, 0, none⟩) n n) (W.alloc (.cells (madeCells #[.int .u8 0] n) 5)) :=
  run_make_row' 23 5 (.int .u8 0) 1 Tryd.underlying23 infoB rfl .i64 .i64 n (by omega) (by omega) W
theorem conv_zero (n : Nat) (W : World) : (convert 23 9 (.slice (some ⟨W.heap.size, 0, none⟩) n n)).run Tryd.prog (W.alloc (.cells (madeCells #[.int .u8 0] n) 5)) = .ok (.string (zeroB n)) (W.alloc (.cells (madeCells #[.int .u8 0] n) 5)) := by
  have := run_convert_bytes_back (P := Tryd.prog) (W.alloc (.cells (madeCells #[.int .u8 0] n) 5)) 23 9 5 ⟨W.heap.size, 0, none⟩ n (List.replicate n (0 : UInt8)) Tryd.underlying23 Tryd.underlying5 Tryd.underlying9 (fun j hj => by
    have hj' : j < n := by simpa using hj
    obtain ⟨c, h1, h2, h3⟩ := World.rowIs_made W (.int .u8 0) n 5
    have := cells_of_heap (w := W.alloc (.cells (madeCells #[.int .u8 0] n) 5)) (g := W.heap.size) (cs := c) (by first | exact h1 | exact h1.2) j (.int .u8 0) (h3 j (by simpa using hj'))
    rw [Addr.add_lit, Nat.zero_add]
    simp only [List.getElem_replicate]
    exact this)
  rw [List.length_replicate] at this
  exact this
theorem bd_row (W : World) (o1 o3 : Obj) (a b : ByteArray) : k30.C (((W.alloc o1).alloc (.cells #[.string a, .string b] 30)).alloc o3) (some ⟨W.heap.size + 1, 0, none⟩) 1 [⟨a, b⟩] := by
  have h := Kd.C_alloc (flds_of (heap_alloc_new (W.alloc o1) (.cells #[.string a, .string b] 30)) [] [⟨a, b⟩] [] rfl (by simp)) o3
  rw [show (W.alloc o1).heap.size = W.heap.size + 1 by simp] at h
  exact h
theorem bd_blk {W w3 : World} {o1 o2 o3 : Obj} (hb : Below (((W.alloc o1).alloc o2).alloc o3).heap.size (((W.alloc o1).alloc o2).alloc o3) w3) : w3.heap[W.heap.size + 1 + 1]? = some o3 := by
  have h := heap_alloc_new ((W.alloc o1).alloc o2) o3
  rw [show ((W.alloc o1).alloc o2).heap.size = W.heap.size + 1 + 1 by simp] at h
  exact (hb.block _ (by simp)).trans h
set_option maxHeartbeats 12800000 in
set_option maxRecDepth 20000 in
theorem bodies_calls (n said : Int) (w : World) : Calls Tryd.prog 4 #[.int .i64 n, .int .i64 said] w fun e w' => e = .returned (.bool true) ∧ Below w.heap.size w w' := by
  have HB := Aside0.mk (Below.refl w.heap.size w)
  by_cases hg : n < 0 ∨ 500 < n ∨ said < 0 ∨ 500 < said
  · have hc : decide (n < 0) = true ∨ (decide (n < 0) = false ∧ decide (n > 500) = true ∧ decide (500 < n) = true) ∨ (decide (n < 0) = false ∧ decide (n > 500) = false ∧ decide (500 < n) = false ∧ decide (said < 0) = true) ∨ (decide (n < 0) = false ∧ decide (n > 500) = false ∧ decide (500 < n) = false ∧ decide (said < 0) = false ∧ decide (said > 500) = true ∧ decide (500 < said) = true) := by
      simp only [decide_eq_true_eq, decide_eq_false_iff_not]
      omega
    clear hg
    rcases hc with e1 | ⟨e1, e2, e2b⟩ | ⟨e1, e2, e2b, e3⟩ | ⟨e1, e2, e2b, e3, e4, e4b⟩
    all_goals
      go_enter Tryd.func4, Tryd.ntmps4
      go_wp2_with (first
        | (go_at_call 10; refine (alive_c _).mono ?_; rintro e w1 ⟨rfl, hb⟩; have HB1 := Aside0.mk (below_step HB.out hb); clear hb))
      go_ret
      exact ⟨rfl, HB1.out⟩
  obtain ⟨q, rfl⟩ : ∃ q : Nat, n = (q : Int) := ⟨n.toNat, by omega⟩
  obtain ⟨m, rfl⟩ : ∃ m : Nat, said = (m : Int) := ⟨said.toNat, by omega⟩
  have a1 : decide ((q : Int) < 0) = false := decide_eq_false (by omega)
  have a2 : decide (500 < (q : Int)) = false := decide_eq_false (by omega)
  have a2n : decide (500 < q) = false := decide_eq_false (by omega)
  have a2g : decide ((q : Int) > 500) = false := decide_eq_false (by omega)
  have a2h : decide (q > 500) = false := decide_eq_false (by omega)
  have e1 : decide ((m : Int) < 0) = false := decide_eq_false (by omega)
  have e2 : decide (500 < (m : Int)) = false := decide_eq_false (by omega)
  have e2n : decide (500 < m) = false := decide_eq_false (by omega)
  have e2g : decide ((m : Int) > 500) = false := decide_eq_false (by omega)
  have e2h : decide (m > 500) = false := decide_eq_false (by omega)
  have HM : Aside0 (q ≤ 500 ∧ m ≤ 500) := ⟨by omega⟩
  clear hg
  go_enter Tryd.func4, Tryd.ntmps4
  go_wp2_with (first
    | (go_at_call 10; refine (alive_c _).mono ?_; rintro e w1 ⟨rfl, hb⟩; have HB1 := Aside0.mk (below_step HB.out hb); clear hb))
  clear HB a1 a2 a2n a2g a2h e1 e2 e2n e2g e2h
  go_loopg [6, 5] 7 (fun kq v6 v5 w' => ∃ (v : Nat) (d : List UInt8), v5 = .string ⟨d.toArray⟩ ∧ v6 = .int .i64 v ∧ Aside0 (1 ≤ kq ∧ v < 10 ^ (kq - 1) ∧ (d = [] → kq = 7) ∧ d.length + kq ≤ 7 ∧ fin (kq - 1) v d = digsF 6 m) ∧ Aside0 (Below w.heap.size w w'))
  case atStart => exact ⟨m, [], rfl, rfl, ⟨by omega, by have := HM.out; omega, fun _ => rfl, by simp, by simp [fin]⟩, HB1⟩
  case round =>
    obtain ⟨v, d, rfl, rfl, HJ, HW⟩ := hrel
    by_cases hv : v = 0 ∧ d ≠ []
    · obtain ⟨rfl, hd⟩ := hv
      have hd2 : d = digsF 6 m := by
        have := HJ.out.2.2.2.2
        unfold fin at this
        rw [if_pos ⟨rfl, hd⟩] at this
        exact this
      subst hd2
      have hde : ((⟨(digsF 6 m).toArray⟩ : ByteArray).toList == []) = false := by
        rw [toList_mk]
        exact beq_eq_false_iff_ne.2 hd
      have hde2 : ¬ (⟨(digsF 6 m).toArray⟩ : ByteArray).toList = [] := by
        rw [toList_mk]
        exact hd
      have hmk := fun W => make_zero q HM.out.1 W
      have hcz := fun W => conv_zero q W
      have HE1 := Aside0.mk (bd_E m (by have := HM.out; omega) (zeroB q))
      have HE0 := Aside0.mk (bd_E0 (zeroB q))
      have HS1 := Aside0.mk (bd_sized m)
      have hsz := zero_size q
      rw [hsz] at HE1 HE0
      have HZ := Aside0.mk hsz
      clear hd HJ hsz
      rw [show clF m = ⟨lenB, ⟨(digsF 6 m).toArray⟩⟩ from rfl] at HE1 HS1
      generalize (⟨(digsF 6 m).toArray⟩ : ByteArray) = ds at hde hde2 HE1 HS1 ⊢
      generalize zeroB q = body at hcz HE1 HE0 HZ
      have HF1 := Aside0.mk (fun (A : Option Addr) (c : Nat) (W : World) (hC : k30.C W A 1 [⟨lenB, ds⟩]) => fields_c (bdR [⟨lenB, ds⟩] body) A none c 0 W hC (Kd.C_nil _ _) (Nat.le_refl _) (show (1 : Nat) ≤ 90000 by decide) (by have := HM.out; have := HZ.out; show body.size ≤ _; omega) nil_sized HS1.out)
      have HF0 := Aside0.mk (fun (W : World) => fields_c (bdR [] body) none none 0 0 W (Kd.C_nil _ _) (Kd.C_nil _ _) (Nat.le_refl _) (show (0 : Nat) ≤ 90000 by decide) (by have := HM.out; have := HZ.out; show body.size ≤ _; omega) nil_sized bd_sized0)
      have HR0 := Aside0.mk (fun (W : World) => right_c (bdR [] body) none none 0 0 W (Kd.C_nil _ _) (Kd.C_nil _ _) (Nat.le_refl _) (show (0 : Nat) ≤ 90000 by decide) (by have := HM.out; have := HZ.out; show body.size ≤ _; omega) nil_sized bd_sized0)
      unfold FsPost at HF1 HF0
      rw [HE0.out] at HF0 HR0
      rw [HE1.out] at HF1
      clear HE1 HE0 HS1
      by_cases h4 : q > 400
      · rw [if_pos h4] at HF1 HF0
        have t1 : decide (400 < (q : Int)) = true := decide_eq_true (by omega)
        have t2 : decide (400 < q) = true := decide_eq_true (by omega)
        have t3 : decide ((q : Int) > 400) = true := decide_eq_true (by omega)
        have t4 : decide (q > 400) = true := decide_eq_true h4
        clear h4 HZ HR0
        go_wp2_with (first
          | (go_at_call 15; refine (HF1.out _ _ _ (bd_row _ _ _ _ _)).mono ?_; rintro e w3 ⟨hb, A3, n3, c3, rfl, hn, _⟩; obtain ⟨rfl, rfl, rfl⟩ := hn (by decide); have hk := bd_blk hb; have r0 := cells_of_heap hk 0 _ rfl; have r1 := cells_of_heap hk 1 _ rfl; have r2 := cells_of_heap hk 2 _ rfl; have r3 := cells_of_heap hk 3 _ rfl; have r4 := cells_of_heap hk 4 _ rfl; have r5 := cells_of_heap hk 5 _ rfl; have r6 := cells_of_heap hk 6 _ rfl; have fb : ∀ j, w3.frozen? ⟨wr.heap.size + 1 + 1, j, none⟩ = false := (fun j => by simp [World.frozen?, hk]); have HK3 := Aside0.mk hk; have HB3 := Aside0.mk ((below_step (below_alloc (below_alloc (below_alloc HW.out _) _) _) hb).setCell (p := ⟨wr.heap.size + 1 + 1, 4, none⟩) (by have := HW.out.size; show w.heap.size ≤ wr.heap.size + 1 + 1; omega) (.slice none 0 0)); clear hb hn HF1 hk)
          | (go_at_call 15; refine (HF0.out _).mono ?_; rintro e w4 ⟨hb, A4, n4, c4, rfl, hn, hF⟩; obtain ⟨rfl, rfl, rfl⟩ := hn (by decide); have HB4 := Aside0.mk (below_step HB3.out hb); clear hb hn hF HF0))
        go_ret
        exact ⟨rfl, HB4.out⟩
      · rw [if_neg h4] at HF1 HF0 HR0
        have t1 : decide (400 < (q : Int)) = false := decide_eq_false (by omega)
        have t2 : decide (400 < q) = false := decide_eq_false (by omega)
        have t3 : decide ((q : Int) > 400) = false := decide_eq_false (by omega)
        have t4 : decide (q > 400) = false := decide_eq_false h4
        clear h4 HZ
        by_cases h5 : q = m
        · rw [if_pos h5] at HF1
          have s1 : decide ((q : Int) = (m : Int)) = true := decide_eq_true (by omega)
          have s2 : decide (q = m) = true := decide_eq_true h5
          have s3 : ((q : Int) == (m : Int)) = true := beq_iff_eq.2 (by omega)
          have s4 : ((q : Int) != (m : Int)) = false := bne_eq_false_iff_eq.2 (by omega)
          have s5 : decide ((q : Int) ≠ (m : Int)) = false := decide_eq_false (fun h => h (by omega))
          clear h5
          go_wp2_with (first
            | (go_at_call 15; refine (HF1.out _ _ _ (bd_row _ _ _ _ _)).mono ?_; rintro e w3 ⟨hb, A3, n3, c3, rfl, hn, _⟩; have hk := bd_blk hb; have r0 := cells_of_heap hk 0 _ rfl; have r1 := cells_of_heap hk 1 _ rfl; have r2 := cells_of_heap hk 2 _ rfl; have r3 := cells_of_heap hk 3 _ rfl; have r4 := cells_of_heap hk 4 _ rfl; have r5 := cells_of_heap hk 5 _ rfl; have r6 := cells_of_heap hk 6 _ rfl; have fb : ∀ j, w3.frozen? ⟨wr.heap.size + 1 + 1, j, none⟩ = false := (fun j => by simp [World.frozen?, hk]); have HK3 := Aside0.mk hk; have HB3 := Aside0.mk ((below_step (below_alloc (below_alloc (below_alloc HW.out _) _) _) hb).setCell (p := ⟨wr.heap.size + 1 + 1, 4, none⟩) (by have := HW.out.size; show w.heap.size ≤ wr.heap.size + 1 + 1; omega) (.slice none 0 0)); clear hb hn HF1 hk)
            | (go_at_call 15; refine (HF0.out _).mono ?_; rintro e w4 ⟨hb, A4, n4, c4, rfl, hn, hF⟩; obtain rfl : n4 = 4 := (hF (by first | rfl | trivial)).1; have hk := (hb.block _ (blk_lt (heap_put HK3.out 4 (.slice none 0 0) (by simp)))).trans (heap_put HK3.out 4 (.slice none 0 0) (by simp)); clear r0 r1 r2 r3 r4 r5 r6; have r0 := cells_of_heap hk 0 _ rfl; have r1 := cells_of_heap hk 1 _ rfl; have r2 := cells_of_heap hk 2 _ rfl; have r3 := cells_of_heap hk 3 _ rfl; have r4 := cells_of_heap hk 4 _ rfl; have r5 := cells_of_heap hk 5 _ rfl; have r6 := cells_of_heap hk 6 _ rfl; clear hk; have HB4 := Aside0.mk (below_step HB3.out hb); clear hb hn hF HF0)
            | (go_at_call 16; refine (HR0.out _).mono ?_; rintro e w5 ⟨rfl, hb⟩; have HB5 := Aside0.mk (below_step HB4.out hb); clear hb HR0))
          go_ret
          exact ⟨rfl, HB5.out⟩
        · rw [if_neg h5] at HF1
          have s1 : decide ((q : Int) = (m : Int)) = false := decide_eq_false (by omega)
          have s2 : decide (q = m) = false := decide_eq_false h5
          have s3 : ((q : Int) == (m : Int)) = false := beq_eq_false_iff_ne.2 (by omega)
          have s4 : ((q : Int) != (m : Int)) = true := bne_iff_ne.2 (by omega)
          have s5 : decide ((q : Int) ≠ (m : Int)) = true := decide_eq_true (by omega)
          clear h5 HR0
          go_wp2_with (first
            | (go_at_call 15; refine (HF1.out _ _ _ (bd_row _ _ _ _ _)).mono ?_; rintro e w3 ⟨hb, A3, n3, c3, rfl, hn, _⟩; obtain ⟨rfl, rfl, rfl⟩ := hn (by decide); have hk := bd_blk hb; have r0 := cells_of_heap hk 0 _ rfl; have r1 := cells_of_heap hk 1 _ rfl; have r2 := cells_of_heap hk 2 _ rfl; have r3 := cells_of_heap hk 3 _ rfl; have r4 := cells_of_heap hk 4 _ rfl; have r5 := cells_of_heap hk 5 _ rfl; have r6 := cells_of_heap hk 6 _ rfl; have fb : ∀ j, w3.frozen? ⟨wr.heap.size + 1 + 1, j, none⟩ = false := (fun j => by simp [World.frozen?, hk]); have HK3 := Aside0.mk hk; have HB3 := Aside0.mk ((below_step (below_alloc (below_alloc (below_alloc HW.out _) _) _) hb).setCell (p := ⟨wr.heap.size + 1 + 1, 4, none⟩) (by have := HW.out.size; show w.heap.size ≤ wr.heap.size + 1 + 1; omega) (.slice none 0 0)); clear hb hn HF1 hk)
            | (go_at_call 15; refine (HF0.out _).mono ?_; rintro e w4 ⟨hb, A4, n4, c4, rfl, hn, hF⟩; obtain rfl : n4 = 4 := (hF (by first | rfl | trivial)).1; have HB4 := Aside0.mk (below_step HB3.out hb); clear hb hn hF HF0))
          go_ret
          exact ⟨rfl, HB4.out⟩
    · have HV := Aside0.mk hv
      have hz : ¬ (10 : Int) = 0 := by decide
      have hlen : d.length ≤ 6 := by have := HJ.out; omega
      have HR := Aside0.mk (round_dig HV.out HJ.out)
      by_cases h0 : v = 0
      · subst h0
        obtain rfl : d = [] := Classical.byContradiction fun h => HV.out ⟨rfl, h⟩
        have hcv : ∀ W : World, (convert 23 9 (.slice (some ⟨W.heap.size, 0, none⟩) 1 1)).run Tryd.prog (W.alloc (.cells #[.int .u8 48] 5)) = .ok (.string ⟨#[digC 0]⟩) (W.alloc (.cells #[.int .u8 48] 5)) := fun W => conv_digit W 0
        clear hv
        go_wp2
        go_roundg (gk - 1)
        case measure => have := HJ.out; omega
        case rel =>
          exact ⟨0, [digC 0], congrArg Value.string (cat_digit 0 []), rfl, HR, ⟨below_alloc HW.out _⟩⟩
      · have hcv : ∀ W : World, (convert 23 9 (.slice (some ⟨W.heap.size, 0, none⟩) 1 1)).run Tryd.prog (W.alloc (.cells #[.int .u8 (48 + (v : Int) % 10)] 5)) = .ok (.string ⟨#[digC v]⟩) (W.alloc (.cells #[.int .u8 (48 + (v : Int) % 10)] 5)) := fun W => conv_digit W v
        have ht1 : ((v : Int)).tmod 10 = (v : Int) % 10 := Int.tmod_eq_emod_of_nonneg (by omega)
        have ht2 : ((v : Int)).tdiv 10 = ((v / 10 : Nat) : Int) := by rw [Int.tdiv_eq_ediv_of_nonneg (by omega)]; omega
        have hp : decide (0 < v) = true := decide_eq_true (by omega)
        have hsz : ¬ 9223372036854775807 < 1 + d.length := by omega
        have HWR : Aside0 (wrap64 ((v : Int) / 10) = ((v / 10 : Nat) : Int)) := ⟨by rw [w64_in ((v : Int) / 10) (by have := HJ.out.2.1; have h9 : (10 : Nat) ^ (gk - 1) ≤ 10 ^ 6 := Nat.pow_le_pow_right (by decide) (by have := HJ.out; omega); omega)]; omega⟩
        have H0 := Aside0.mk h0
        clear hv h0 hlen
        go_wp2
        go_roundg (gk - 1)
        case measure => have := HJ.out; omega
        case rel =>
          exact ⟨v / 10, digC v :: d, congrArg Value.string (cat_digit v d), congrArg (Value.int .i64) HWR.out, HR, ⟨below_alloc HW.out _⟩⟩
end Go.Proofs.YtififgiicpdndaaDoor.Fw
