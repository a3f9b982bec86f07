/- FieldStatus. -/
import Derived.Test.YthibjhjeppfahaaDoorFMore
import Derived.Test.YthibjhjeppfahaaDoorWGuard
namespace Go.Proofs.YthibjhjeppfahaaDoor.Fw
open Go.RowKit Go.Proofs.YthibjhjeppfahaaDoor.XFi Go.Proofs.YthibjhjeppfahaaDoorW.PrintWords Go.Proofs.YthibjhjeppfahaaDoorW.PrintLast Go.Proofs.YthibjhjeppfahaaDoorW.PrintMore Go.Proofs.YthibjhjeppfahaaDoor.Ms
def digC (n : Nat) : UInt8 := UInt8.ofNat (48 + n % 10)
def digsF : Nat → Nat → List UInt8
  | 0, _ => []
  | k + 1, n => if n < 10 then [digC n] else digsF k (n / 10) ++ [digC n]
def fin (k v : Nat) (d : List UInt8) : List UInt8 := if v = 0 ∧ d ≠ [] then d else digsF k v ++ d
theorem fin_step {k v : Nat} {d : List UInt8} (h : ¬ (v = 0 ∧ d ≠ [])) : fin k (v / 10) (digC v :: d) = fin (k + 1) v d := by
  unfold fin
  rw [if_neg h]
  by_cases hv : v < 10
  · rw [if_pos ⟨by omega, by simp⟩]
    unfold digsF
    rw [if_pos hv]
    rfl
  · rw [if_neg (fun h => by omega)]
    conv => rhs; unfold digsF
    rw [if_neg hv]
    simp
theorem round_dig {gk v : Nat} {d X : List UInt8} (hv : ¬ (v = 0 ∧ d ≠ [])) (h : 1 ≤ gk ∧ v < 10 ^ (gk - 1) ∧ (d = [] → gk = 7) ∧ d.length + gk ≤ 7 ∧ fin (gk - 1) v d = X) :
    1 ≤ gk - 1 ∧ v / 10 < 10 ^ (gk - 1 - 1) ∧ (digC v :: d = [] → gk - 1 = 7) ∧ (digC v :: d).length + (gk - 1) ≤ 7 ∧ fin (gk - 1 - 1) (v / 10) (digC v :: d) = X := by
  obtain ⟨h1, h2, h3, h4, h5⟩ := h
  have hg : 2 ≤ gk := by
    rcases Nat.lt_or_ge gk 2 with h | h
    · obtain rfl : gk = 1 := by omega
      have hv0 : v = 0 := by simpa using h2
      have : d = [] := Classical.byContradiction fun h => hv ⟨hv0, h⟩
      have := h3 this
      omega
    · exact h
  obtain ⟨k, rfl⟩ : ∃ k, gk = k + 2 := ⟨gk - 2, by omega⟩
  refine ⟨by omega, ?_, fun h => (by cases h), by rw [List.length_cons]; omega, ?_⟩
  · show v / 10 < 10 ^ k
    have : v < 10 ^ (k + 1) := h2
    rw [Nat.pow_succ] at this
    omega
  · show fin k (v / 10) (digC v :: d) = X
    rw [fin_step hv]
    exact h5
theorem digs_len : ∀ (k n : Nat), (digsF k n).length ≤ k
  | 0, n => by simp [digsF]
  | k + 1, n => by
    unfold digsF
    have := digs_len k (n / 10)
    split <;> simp <;> omega
theorem digs_all : ∀ (k n : Nat), ∀ c ∈ digsF k n, 48 ≤ c.toNat ∧ c.toNat ≤ 57
  | 0, n, c, h => by simp [digsF] at h
  | k + 1, n, c, h => by
    have hd : ∀ m : Nat, 48 ≤ (digC m).toNat ∧ (digC m).toNat ≤ 57 := fun m => by
      unfold digC
      rw [UInt8.toNat_ofNat']
      omega
    unfold digsF at h
    split at h
    · obtain rfl := List.mem_singleton.1 h
      exact hd n
    · rcases List.mem_append.1 h with h | h
      · exact digs_all k (n / 10) c h
      · obtain rfl := List.mem_singleton.1 h
        exact hd n
theorem digs_small {k n : Nat} (h : n < 100) : (digsF k n).length ≤ 2 := by
  cases k with
  | zero => simp [digsF]
  | succ k =>
    unfold digsF
    split
    · simp
    · have : (digsF k (n / 10)).length ≤ 1 := by
        cases k with
        | zero => simp [digsF]
        | succ k =>
          unfold digsF
          rw [if_pos (by omega)]
          simp
      simp
      omega
theorem digs_pos {k n : Nat} : 1 ≤ (digsF (k + 1) n).length := by
  unfold digsF
  split <;> simp
theorem digs_great {n : Nat} (h : 1000 ≤ n) : 4 ≤ (digsF 6 n).length := by
  have h3 : 1 ≤ (digsF 3 (n / 10 / 10 / 10)).length := digs_pos
  rw [show digsF 6 n = digsF 5 (n / 10) ++ [digC n] from if_neg (by omega), show digsF 5 (n / 10) = digsF 4 (n / 10 / 10) ++ [digC (n / 10)] from if_neg (by omega), show digsF 4 (n / 10 / 10) = digsF 3 (n / 10 / 10 / 10) ++ [digC (n / 10 / 10)] from if_neg (by omega)]
  simp only [List.length_append, List.length_cons, List.length_nil]
  omega
theorem stat_mid : ∀ n, n < 1000 → 100 ≤ n → statP ⟨(digsF 6 n).toArray⟩ = decide (n ≤ 599) := by decide +kernel
theorem stat_digs (n : Nat) : statP ⟨(digsF 6 n).toArray⟩ = decide (100 ≤ n ∧ n ≤ 599) := by
  have hs : ∀ l : List UInt8, l.length ≠ 3 → statP ⟨l.toArray⟩ = false := fun l hl => by
    unfold statP
    rw [decide_eq_false (p := (⟨l.toArray⟩ : ByteArray).size = 3) (fun h => hl h)]
    simp
  rcases Nat.lt_or_ge n 100 with h | h
  · rw [hs _ (by have := digs_small (k := 6) h; omega), decide_eq_false (by omega)]
  · rcases Nat.lt_or_ge n 1000 with h2 | h2
    · rw [stat_mid n h2 h]
      exact decide_eq_decide.2 (by omega)
    · rw [hs _ (by have := digs_great h2; omega), decide_eq_false (by omega)]
theorem value_digs (n : Nat) : valueP ⟨(digsF 6 n).toArray⟩ = true := by
  unfold valueP
  rw [toList_mk]
  have h := digs_all 6 n
  have hl : (⟨(digsF 6 n).toArray⟩ : ByteArray).size ≤ 6 := digs_len 6 n
  have hall : (digsF 6 n).all okB = true := List.all_eq_true.2 fun c hc => by
    have := h c hc
    unfold okB
    rw [decide_eq_true (p := 32 ≤ c.toNat) (by omega), decide_eq_false (p := c.toNat = 127) (by omega)]
    rfl
  rw [hall, decide_eq_true (p := (⟨(digsF 6 n).toArray⟩ : ByteArray).size ≤ 200) (by omega)]
  unfold endsB
  have h1 : ((digsF 6 n).head? == some 32) = false := beq_eq_false_iff_ne.2 fun e => by
    have := h 32 (List.mem_of_mem_head? e)
    revert this
    decide
  have h2 : ((digsF 6 n).getLast? == some 32) = false := beq_eq_false_iff_ne.2 fun e => by
    have := h 32 (List.mem_of_getLast? e)
    revert this
    decide
  rw [h1, h2]
  rfl
theorem all_ok : ∀ (l : List S26) (said : List (ByteArray × ByteArray)) (plain : Bool), (walkQ [] l said plain).2 = 0 → ∀ f ∈ l, nameP f.f0 = true ∧ forbP f = false ∧ valueP f.f1 = true
  | [], _, _, _, f, hf => by cases hf
  | g :: l, said, plain, h, f, hf => by
    unfold walkQ at h
    rw [show memP [] g.f0 = false from rfl, Bool.not_false, Bool.true_and, Bool.false_and] at h
    split at h
    · cases h
    · split at h
      · cases h
      · next h1 h2 =>
        rw [if_neg Bool.false_ne_true, if_neg Bool.false_ne_true] at h
        rcases List.mem_cons.1 hf with rfl | hf
        · cases hn : nameP f.f0 <;> cases hb : forbP f <;> cases hv : valueP f.f1 <;> simp_all
        · exact all_ok l said true h f hf
theorem walk_plain {names : List ByteArray} (hN : ∀ n ∈ names, n.toList.head? = some 58) : ∀ (l : List S26) (said : List (ByteArray × ByteArray)) (plain : Bool), (∀ f ∈ l, nameP f.f0 = true ∧ forbP f = false ∧ valueP f.f1 = true) → walkQ names l said plain = (some said, 0)
  | [], _, _, _ => rfl
  | f :: l, said, plain, h => by
    obtain ⟨h1, h2, h3⟩ := h f (by simp)
    unfold walkQ
    rw [mem_no hN h1, h1, h2, h3, if_neg (by decide), if_neg (by decide), Bool.false_and, if_neg Bool.false_ne_true, if_neg Bool.false_ne_true]
    exact walk_plain hN l said true (fun x hx => h x (by simp [hx]))
theorem mem_stat : memP [colStatus] colStatus = true := by kernel_rfl
theorem forb_stat (v : ByteArray) : forbP ⟨colStatus, v⟩ = false := by
  unfold forbP
  rw [show colStatus.toList = [58, 115, 116, 97, 116, 117, 115] from toList_mk [58, 115, 116, 97, 116, 117, 115]]
  rw [if_neg (by decide)]
  decide
theorem stat_first {v : ByteArray} {more : List S26} (hv : valueP v = true) (h : trailQ more = 0) : respQ (⟨colStatus, v⟩ :: more) = if statP v = true then 0 else 3 := by
  unfold respQ
  have e : walkQ [colStatus] (⟨colStatus, v⟩ :: more) [] false = (some [(colStatus, v)], 0) := by
    unfold walkQ
    rw [mem_stat, forb_stat, hv, if_neg (by simp), if_neg (by decide), if_neg (by simp [Ms.look]), if_pos rfl]
    exact walk_plain names_stat more _ _ (all_ok more [] false h)
  rw [e]
  show (if statP (sayB [(colStatus, v)] colStatus) = true then (0 : Int) else 3) = _
  rw [show sayB [(colStatus, v)] colStatus = v by simp [sayB, Ms.look]]
theorem walk_late {v : ByteArray} (hv : valueP v = true) : ∀ (l : List S26) (said : List (ByteArray × ByteArray)) (plain : Bool), (∀ f ∈ l, nameP f.f0 = true ∧ forbP f = false ∧ valueP f.f1 = true) → (plain = true ∨ l ≠ []) → walkQ [colStatus] (l ++ [⟨colStatus, v⟩]) said plain = (none, 7)
  | [], said, plain, _, hp => by
    obtain rfl : plain = true := by simpa using hp
    rw [List.nil_append]
    unfold walkQ
    rw [mem_stat, forb_stat, hv, if_neg (by simp), if_neg (by decide), if_pos (by simp)]
  | f :: l, said, plain, h, _ => by
    obtain ⟨h1, h2, h3⟩ := h f (by simp)
    rw [List.cons_append]
    unfold walkQ
    rw [mem_no names_stat h1, h1, h2, h3, if_neg (by decide), if_neg (by decide), Bool.false_and, if_neg Bool.false_ne_true, if_neg Bool.false_ne_true]
    exact walk_late hv l said true (fun x hx => h x (by simp [hx])) (.inl rfl)
theorem stat_late {v : ByteArray} {more : List S26} (hv : valueP v = true) (h : trailQ more = 0) (hm : more ≠ []) : respQ (more ++ [⟨colStatus, v⟩]) = 7 := by
  unfold respQ
  rw [walk_late hv more [] false (all_ok more [] false h) (.inr hm)]
theorem conv_digit (W : World) (v : Nat) : (convert 43 9 (.slice (some ⟨W.heap.size, 0, none⟩) 1 1)).run Tryd.prog (W.alloc (.cells #[.int .u8 (48 + (v : Int) % 10)] 5)) = .ok (.string ⟨#[digC v]⟩) (W.alloc (.cells #[.int .u8 (48 + (v : Int) % 10)] 5)) := by
  have h := own_string (P := Tryd.prog) (w := W.alloc (.cells #[.int .u8 (48 + (v : Int) % 10)] 5)) (base := 0) (n := 1) (e' := 5) (src := 43) (dst := 9) (v := .slice (some ⟨W.heap.size, 0, none⟩) 1 1) (xs := [48 + (v : Int) % 10]) Tryd.underlying43 Tryd.underlying5 Tryd.underlying9 ⟨rfl, .inr ⟨W.heap.size, 1, _, rfl, Nat.zero_le _, heap_alloc_new W _, Nat.le_refl _, by decide, rfl, rfl⟩⟩
  rw [h]
  congr 2
theorem cat_digit (v : Nat) (d : List UInt8) : (⟨#[digC v]⟩ : ByteArray) ++ ⟨d.toArray⟩ = ⟨(digC v :: d).toArray⟩ := by
  refine ByteArray.ext ?_
  rw [ByteArray.data_append]
  exact Array.ext' (by simp)
set_option maxHeartbeats 3200000 in
set_option maxRecDepth 20000 in
theorem status_calls (n : Int) (A : Option Addr) (l : List S26) (c : Nat) (w : World) (hC : k26.C w A l.length l) (hS : Small l c) :
    Calls Tryd.prog 9 #[.int .i64 n, .slice A l.length c] w fun e w' => e = .returned (.bool true) ∧ Below w.heap.size w w' := by
  have hr := reachBytes_lt
  have HFW := Aside0.mk (few_c hC hS.cap (by have := hS.len; omega) hS.sz)
  have HC := Aside0.mk hC
  have HB := Aside0.mk (Below.refl w.heap.size w)
  by_cases hn : n < 0
  · have e1 : decide (n < 0) = true := decide_eq_true hn
    clear hr hC hS hn
    go_enter Tryd.func9, Tryd.ntmps9
    go_wp2_with (first
      | (go_at_call 11; refine (alive_c _).mono ?_; rintro e w1 ⟨rfl, hb⟩; have HB2 := Aside0.mk (below_step HB.out hb); clear hb))
    go_ret
    exact ⟨rfl, HB2.out⟩
  have e1 : decide (n < 0) = false := decide_eq_false hn
  by_cases hg : n > 100000
  · have e2 : decide (n > 100000) = true := decide_eq_true hg
    clear hr hC hS hn hg
    go_enter Tryd.func9, Tryd.ntmps9
    go_wp2_with (first
      | (go_at_call 11; refine (alive_c _).mono ?_; rintro e w1 ⟨rfl, hb⟩; have HB2 := Aside0.mk (below_step HB.out hb); clear hb))
    go_ret
    exact ⟨rfl, HB2.out⟩
  have e2 : decide (n > 100000) = false := decide_eq_false hg
  cases hf : fewP l with
  | false =>
    rw [hf] at HFW
    clear hr hC hS hn hg hf
    go_enter Tryd.func9, Tryd.ntmps9
    go_wp2_with (first
      | (go_at_call 14; refine HFW.out.mono ?_; rintro e w1 ⟨rfl, hb⟩; have HB1 := Aside0.mk (below_step HB.out hb); clear hb)
      | (go_at_call 11; refine (alive_c _).mono ?_; rintro e w1 ⟨rfl, hb⟩; have HB2 := Aside0.mk (below_step HB1.out hb); clear hb))
    go_ret
    exact ⟨rfl, HB2.out⟩
  | true =>
    rw [hf] at HFW
    obtain ⟨hsz, h40, _⟩ := few_sized hf
    have HT := Aside0.mk (fun (w' : World) (hC : k26.C w' A l.length l) => trail_n (c := c) hsz hC)
    by_cases ht : trailQ l = 0
    · rw [ht] at HT
      obtain ⟨m, rfl⟩ : ∃ m : Nat, n = (m : Int) := ⟨n.toNat, by omega⟩
      have HM : Aside0 (m ≤ 100000) := ⟨by omega⟩
      have h4 := digs_len 6 m
      obtain ⟨hz1, _⟩ := few_app (f := ⟨colStatus, ⟨#[50, 48, 48]⟩⟩) hf ⟨by decide, by decide⟩
      obtain ⟨_, hz2⟩ := few_app (f := ⟨colStatus, ⟨(digsF 6 m).toArray⟩⟩) hf ⟨by show colStatus.size ≤ 1000; decide, by show (digsF 6 m).length ≤ 1000; omega⟩
      have HP1 := Aside0.mk (fun (w' : World) (A : Option Addr) (n c : Nat) (hC : k26.C w' A n (⟨colStatus, ⟨(digsF 6 m).toArray⟩⟩ :: l)) => resp_n (c := c) hz2 hC)
      have HP2 := Aside0.mk (fun (w' : World) (A : Option Addr) (n c : Nat) (hC : k26.C w' A n (l ++ [⟨colStatus, ⟨#[50, 48, 48]⟩⟩])) => resp_n (c := c) hz1 hC)
      rw [stat_first (value_digs m) ht, stat_digs] at HP1
      have HZ := Aside0.mk (And.intro h40 hS.cap)
      clear hr hC hS hn hg hf hsz h40 h4 hz1 hz2
      go_enter Tryd.func9, Tryd.ntmps9
      go_wp2_with (first
        | (go_at_call 14; refine HFW.out.mono ?_; rintro e w1 ⟨rfl, hb⟩; have HB1 := Aside0.mk (below_step HB.out hb); clear hb)
        | (go_at_call 27; refine (HT.out _ (Kd.C_below HC.out HB1.out)).mono ?_; rintro e w2 ⟨rfl, hb⟩; have HB2 := Aside0.mk (below_step HB1.out hb); clear hb)
        | (go_at_call 11; refine (alive_c _).mono ?_; rintro e w3 ⟨rfl, hb⟩; have HB3 := Aside0.mk (below_step HB2.out hb); clear hb))
      clear HFW HT HB HB1 HB2 e1 e2
      go_loopg [5, 6] 7 (fun kq v5 v6 w' => ∃ (v : Nat) (d : List UInt8), v5 = .string ⟨d.toArray⟩ ∧ v6 = .int .i64 v ∧ Aside0 (1 ≤ kq ∧ v < 10 ^ (kq - 1) ∧ (d = [] → kq = 7) ∧ d.length + kq ≤ 7 ∧ fin (kq - 1) v d = digsF 6 m) ∧ Aside0 (Below w.heap.size w w'))
      case atStart => exact ⟨m, [], rfl, rfl, ⟨by omega, by have := HM.out; omega, fun _ => rfl, by simp, by simp [fin]⟩, HB3⟩
      case round =>
        obtain ⟨v, d, rfl, rfl, HJ, HW⟩ := hrel
        by_cases hv : v = 0 ∧ d ≠ []
        · obtain ⟨rfl, hd⟩ := hv
          have hd2 : d = digsF 6 m := by
            have := HJ.out.2.2.2.2
            unfold fin at this
            rw [if_pos ⟨rfl, hd⟩] at this
            exact this
          subst hd2
          have hde : ((⟨(digsF 6 m).toArray⟩ : ByteArray).toList == []) = false := by
            rw [toList_mk]
            exact beq_eq_false_iff_ne.2 hd
          have hde2 : ¬ (⟨(digsF 6 m).toArray⟩ : ByteArray).toList = [] := by
            rw [toList_mk]
            exact hd
          clear hd HJ
          have HL0 := HZ.out
          generalize (⟨(digsF 6 m).toArray⟩ : ByteArray) = ds at HP1 hde hde2
          by_cases hl : l = []
          · subst hl
            by_cases hr : 100 ≤ m ∧ m ≤ 599
            · rw [decide_eq_true hr, if_pos rfl] at HP1
              have q1 : decide (100 ≤ m) = true := decide_eq_true hr.1
              have q1i : decide (100 ≤ (m : Int)) = true := decide_eq_true (by omega)
              have q2 : decide (m ≤ 599) = true := decide_eq_true hr.2
              have q2i : decide ((m : Int) ≤ 599) = true := decide_eq_true (by omega)
              clear hr HL0
              go_wp2_with (first
                | ((with_reducible refine gate_builtin (b := .append) (xs := #[.tmp 48, .tmp 49]) rfl ?_); at_builtin; refine list_app rfl (.tmp 48) (.tmp 49) rfl w w.heap.size _ _ 1 1 _ c [⟨colStatus, ds⟩] [] rfl rfl (fr_lit1 wr colStatus ds w.heap.size HW.out.size) (Kd.C_alloc (Kd.C_below HC.out HW.out) _) ?_ ?_ (below_alloc HW.out _) ?_; (have := HZ.out.1; simp; try omega); (have := HW.out.size; simp; omega); intro A4 c4 w4 hF hb4 _; have HF4 := Aside0.mk hF; have HB4 := Aside0.mk hb4; clear hF hb4)
                | (go_at_call 25; refine (HP1.out _ _ _ _ (HF4.out.c ?_).1).mono ?_; (have := HZ.out.1; simp; try omega); rintro e w5 ⟨rfl, hb⟩; have HB5 := Aside0.mk (below_step HB4.out hb); clear hb HB4 HF4 HP1)
                | ((with_reducible refine gate_builtin (b := .append) (xs := #[.const (.slice none 0 0), .tmp 74]) rfl ?_); refine gate_guard (by rfl) ?_; dsimp only; at_builtin; refine list_app rfl (.const (.slice none 0 0)) (.tmp 74) rfl w w.heap.size _ _ 0 0 _ c [] [] rfl rfl (FR.nil _ _) (Kd.C_below HC.out HB5.out) ?_ HB5.out.size HB5.out ?_; (have := HZ.out.1; simp; try omega); intro A6 c6 w6 hF hb6 _; rw [Nat.zero_add, List.nil_append] at hF; have HF6 := Aside0.mk hF; have HB6 := Aside0.mk hb6; clear hF hb6 HB5)
                | ((with_reducible refine gate_builtin (b := .append) (xs := #[.tmp 75, .tmp 77]) rfl ?_); refine gate_guard (by rfl) ?_; dsimp only; at_builtin; refine list_app rfl (.tmp 75) (.tmp 77) rfl w w.heap.size _ _ _ _ 1 1 _ [⟨colStatus, ⟨#[50, 48, 48]⟩⟩] rfl rfl (FR.alloc HF6.out _) (lit1 w6 colStatus ⟨#[50, 48, 48]⟩) ?_ ?_ (below_alloc HB6.out _) ?_; (have := HZ.out.1; simp; try omega); (have := HB6.out.size; simp; omega); intro A7 c7 w7 hF hb7 _; have HF7 := Aside0.mk hF; have HB7 := Aside0.mk hb7; clear hF hb7 HB6 HF6)
                | (go_at_call 25; refine (HP2.out _ _ _ _ (HF7.out.c ?_).1).mono ?_; (have := HZ.out.1; simp; try omega); rintro e w8 ⟨rfl, hb⟩; have HB8 := Aside0.mk (below_step HB7.out hb); clear hb HB7 HF7 HP2))
              go_ret
              exact ⟨rfl, HB5.out⟩
            · rw [decide_eq_false hr, if_neg Bool.false_ne_true] at HP1
              by_cases hr1 : 100 ≤ m
              · have q1 : decide (100 ≤ m) = true := decide_eq_true hr1
                have q1i : decide (100 ≤ (m : Int)) = true := decide_eq_true (by omega)
                have q2 : decide (m ≤ 599) = false := decide_eq_false (by omega)
                have q2i : decide ((m : Int) ≤ 599) = false := decide_eq_false (by omega)
                clear hr hr1 HL0
                go_wp2_with (first
                  | ((with_reducible refine gate_builtin (b := .append) (xs := #[.tmp 48, .tmp 49]) rfl ?_); at_builtin; refine list_app rfl (.tmp 48) (.tmp 49) rfl w w.heap.size _ _ 1 1 _ c [⟨colStatus, ds⟩] [] rfl rfl (fr_lit1 wr colStatus ds w.heap.size HW.out.size) (Kd.C_alloc (Kd.C_below HC.out HW.out) _) ?_ ?_ (below_alloc HW.out _) ?_; (have := HZ.out.1; simp; try omega); (have := HW.out.size; simp; omega); intro A4 c4 w4 hF hb4 _; have HF4 := Aside0.mk hF; have HB4 := Aside0.mk hb4; clear hF hb4)
                  | (go_at_call 25; refine (HP1.out _ _ _ _ (HF4.out.c ?_).1).mono ?_; (have := HZ.out.1; simp; try omega); rintro e w5 ⟨rfl, hb⟩; have HB5 := Aside0.mk (below_step HB4.out hb); clear hb HB4 HF4 HP1)
                  | ((with_reducible refine gate_builtin (b := .append) (xs := #[.const (.slice none 0 0), .tmp 74]) rfl ?_); refine gate_guard (by rfl) ?_; dsimp only; at_builtin; refine list_app rfl (.const (.slice none 0 0)) (.tmp 74) rfl w w.heap.size _ _ 0 0 _ c [] [] rfl rfl (FR.nil _ _) (Kd.C_below HC.out HB5.out) ?_ HB5.out.size HB5.out ?_; (have := HZ.out.1; simp; try omega); intro A6 c6 w6 hF hb6 _; rw [Nat.zero_add, List.nil_append] at hF; have HF6 := Aside0.mk hF; have HB6 := Aside0.mk hb6; clear hF hb6 HB5)
                  | ((with_reducible refine gate_builtin (b := .append) (xs := #[.tmp 75, .tmp 77]) rfl ?_); refine gate_guard (by rfl) ?_; dsimp only; at_builtin; refine list_app rfl (.tmp 75) (.tmp 77) rfl w w.heap.size _ _ _ _ 1 1 _ [⟨colStatus, ⟨#[50, 48, 48]⟩⟩] rfl rfl (FR.alloc HF6.out _) (lit1 w6 colStatus ⟨#[50, 48, 48]⟩) ?_ ?_ (below_alloc HB6.out _) ?_; (have := HZ.out.1; simp; try omega); (have := HB6.out.size; simp; omega); intro A7 c7 w7 hF hb7 _; have HF7 := Aside0.mk hF; have HB7 := Aside0.mk hb7; clear hF hb7 HB6 HF6)
                  | (go_at_call 25; refine (HP2.out _ _ _ _ (HF7.out.c ?_).1).mono ?_; (have := HZ.out.1; simp; try omega); rintro e w8 ⟨rfl, hb⟩; have HB8 := Aside0.mk (below_step HB7.out hb); clear hb HB7 HF7 HP2))
                go_ret
                exact ⟨rfl, HB5.out⟩
              · have q1 : decide (100 ≤ m) = false := decide_eq_false hr1
                have q1i : decide (100 ≤ (m : Int)) = false := decide_eq_false (by omega)
                clear hr hr1 HL0
                go_wp2_with (first
                  | ((with_reducible refine gate_builtin (b := .append) (xs := #[.tmp 48, .tmp 49]) rfl ?_); at_builtin; refine list_app rfl (.tmp 48) (.tmp 49) rfl w w.heap.size _ _ 1 1 _ c [⟨colStatus, ds⟩] [] rfl rfl (fr_lit1 wr colStatus ds w.heap.size HW.out.size) (Kd.C_alloc (Kd.C_below HC.out HW.out) _) ?_ ?_ (below_alloc HW.out _) ?_; (have := HZ.out.1; simp; try omega); (have := HW.out.size; simp; omega); intro A4 c4 w4 hF hb4 _; have HF4 := Aside0.mk hF; have HB4 := Aside0.mk hb4; clear hF hb4)
                  | (go_at_call 25; refine (HP1.out _ _ _ _ (HF4.out.c ?_).1).mono ?_; (have := HZ.out.1; simp; try omega); rintro e w5 ⟨rfl, hb⟩; have HB5 := Aside0.mk (below_step HB4.out hb); clear hb HB4 HF4 HP1)
                  | ((with_reducible refine gate_builtin (b := .append) (xs := #[.const (.slice none 0 0), .tmp 74]) rfl ?_); refine gate_guard (by rfl) ?_; dsimp only; at_builtin; refine list_app rfl (.const (.slice none 0 0)) (.tmp 74) rfl w w.heap.size _ _ 0 0 _ c [] [] rfl rfl (FR.nil _ _) (Kd.C_below HC.out HB5.out) ?_ HB5.out.size HB5.out ?_; (have := HZ.out.1; simp; try omega); intro A6 c6 w6 hF hb6 _; rw [Nat.zero_add, List.nil_append] at hF; have HF6 := Aside0.mk hF; have HB6 := Aside0.mk hb6; clear hF hb6 HB5)
                  | ((with_reducible refine gate_builtin (b := .append) (xs := #[.tmp 75, .tmp 77]) rfl ?_); refine gate_guard (by rfl) ?_; dsimp only; at_builtin; refine list_app rfl (.tmp 75) (.tmp 77) rfl w w.heap.size _ _ _ _ 1 1 _ [⟨colStatus, ⟨#[50, 48, 48]⟩⟩] rfl rfl (FR.alloc HF6.out _) (lit1 w6 colStatus ⟨#[50, 48, 48]⟩) ?_ ?_ (below_alloc HB6.out _) ?_; (have := HZ.out.1; simp; try omega); (have := HB6.out.size; simp; omega); intro A7 c7 w7 hF hb7 _; have HF7 := Aside0.mk hF; have HB7 := Aside0.mk hb7; clear hF hb7 HB6 HF6)
                  | (go_at_call 25; refine (HP2.out _ _ _ _ (HF7.out.c ?_).1).mono ?_; (have := HZ.out.1; simp; try omega); rintro e w8 ⟨rfl, hb⟩; have HB8 := Aside0.mk (below_step HB7.out hb); clear hb HB7 HF7 HP2))
                go_ret
                exact ⟨rfl, HB5.out⟩
          · rw [stat_late (by kernel_rfl) ht hl] at HP2
            have hl3 : l.isEmpty = false := by cases l with | nil => exact absurd rfl hl | cons a t => rfl
            have hl0 : ¬ (l.length : Int) = 0 := by have := List.length_pos_iff.2 hl; omega
            have hl4 : ¬ l.length = 0 := by omega
            have hl1 : decide ((l.length : Int) = 0) = false := decide_eq_false hl0
            have hl2 : ((l.length : Int) == 0) = false := beq_eq_false_iff_ne.2 hl0
            by_cases hr : 100 ≤ m ∧ m ≤ 599
            · rw [decide_eq_true hr, if_pos rfl] at HP1
              have q1 : decide (100 ≤ m) = true := decide_eq_true hr.1
              have q1i : decide (100 ≤ (m : Int)) = true := decide_eq_true (by omega)
              have q2 : decide (m ≤ 599) = true := decide_eq_true hr.2
              have q2i : decide ((m : Int) ≤ 599) = true := decide_eq_true (by omega)
              clear hr HL0
              go_wp2_with (first
                | ((with_reducible refine gate_builtin (b := .append) (xs := #[.tmp 48, .tmp 49]) rfl ?_); at_builtin; refine list_app rfl (.tmp 48) (.tmp 49) rfl w w.heap.size _ _ 1 1 _ c [⟨colStatus, ds⟩] l rfl rfl (fr_lit1 wr colStatus ds w.heap.size HW.out.size) (Kd.C_alloc (Kd.C_below HC.out HW.out) _) ?_ ?_ (below_alloc HW.out _) ?_; (have := HZ.out.1; simp; try omega); (have := HW.out.size; simp; omega); intro A4 c4 w4 hF hb4 _; have HF4 := Aside0.mk hF; have HB4 := Aside0.mk hb4; clear hF hb4)
                | (go_at_call 25; refine (HP1.out _ _ _ _ (HF4.out.c ?_).1).mono ?_; (have := HZ.out.1; simp; try omega); rintro e w5 ⟨rfl, hb⟩; have HB5 := Aside0.mk (below_step HB4.out hb); clear hb HB4 HF4 HP1)
                | ((with_reducible refine gate_builtin (b := .append) (xs := #[.const (.slice none 0 0), .tmp 74]) rfl ?_); refine gate_guard (by rfl) ?_; dsimp only; at_builtin; refine list_app rfl (.const (.slice none 0 0)) (.tmp 74) rfl w w.heap.size _ _ 0 0 _ c [] l rfl rfl (FR.nil _ _) (Kd.C_below HC.out HB5.out) ?_ HB5.out.size HB5.out ?_; (have := HZ.out.1; simp; try omega); intro A6 c6 w6 hF hb6 _; rw [Nat.zero_add, List.nil_append] at hF; have HF6 := Aside0.mk hF; have HB6 := Aside0.mk hb6; clear hF hb6 HB5)
                | ((with_reducible refine gate_builtin (b := .append) (xs := #[.tmp 75, .tmp 77]) rfl ?_); refine gate_guard (by rfl) ?_; dsimp only; at_builtin; refine list_app rfl (.tmp 75) (.tmp 77) rfl w w.heap.size _ _ _ _ 1 1 _ [⟨colStatus, ⟨#[50, 48, 48]⟩⟩] rfl rfl (FR.alloc HF6.out _) (lit1 w6 colStatus ⟨#[50, 48, 48]⟩) ?_ ?_ (below_alloc HB6.out _) ?_; (have := HZ.out.1; simp; try omega); (have := HB6.out.size; simp; omega); intro A7 c7 w7 hF hb7 _; have HF7 := Aside0.mk hF; have HB7 := Aside0.mk hb7; clear hF hb7 HB6 HF6)
                | (go_at_call 25; refine (HP2.out _ _ _ _ (HF7.out.c ?_).1).mono ?_; (have := HZ.out.1; simp; try omega); rintro e w8 ⟨rfl, hb⟩; have HB8 := Aside0.mk (below_step HB7.out hb); clear hb HB7 HF7 HP2))
              go_ret
              exact ⟨rfl, HB8.out⟩
            · rw [decide_eq_false hr, if_neg Bool.false_ne_true] at HP1
              by_cases hr1 : 100 ≤ m
              · have q1 : decide (100 ≤ m) = true := decide_eq_true hr1
                have q1i : decide (100 ≤ (m : Int)) = true := decide_eq_true (by omega)
                have q2 : decide (m ≤ 599) = false := decide_eq_false (by omega)
                have q2i : decide ((m : Int) ≤ 599) = false := decide_eq_false (by omega)
                clear hr hr1 HL0
                go_wp2_with (first
                  | ((with_reducible refine gate_builtin (b := .append) (xs := #[.tmp 48, .tmp 49]) rfl ?_); at_builtin; refine list_app rfl (.tmp 48) (.tmp 49) rfl w w.heap.size _ _ 1 1 _ c [⟨colStatus, ds⟩] l rfl rfl (fr_lit1 wr colStatus ds w.heap.size HW.out.size) (Kd.C_alloc (Kd.C_below HC.out HW.out) _) ?_ ?_ (below_alloc HW.out _) ?_; (have := HZ.out.1; simp; try omega); (have := HW.out.size; simp; omega); intro A4 c4 w4 hF hb4 _; have HF4 := Aside0.mk hF; have HB4 := Aside0.mk hb4; clear hF hb4)
                  | (go_at_call 25; refine (HP1.out _ _ _ _ (HF4.out.c ?_).1).mono ?_; (have := HZ.out.1; simp; try omega); rintro e w5 ⟨rfl, hb⟩; have HB5 := Aside0.mk (below_step HB4.out hb); clear hb HB4 HF4 HP1)
                  | ((with_reducible refine gate_builtin (b := .append) (xs := #[.const (.slice none 0 0), .tmp 74]) rfl ?_); refine gate_guard (by rfl) ?_; dsimp only; at_builtin; refine list_app rfl (.const (.slice none 0 0)) (.tmp 74) rfl w w.heap.size _ _ 0 0 _ c [] l rfl rfl (FR.nil _ _) (Kd.C_below HC.out HB5.out) ?_ HB5.out.size HB5.out ?_; (have := HZ.out.1; simp; try omega); intro A6 c6 w6 hF hb6 _; rw [Nat.zero_add, List.nil_append] at hF; have HF6 := Aside0.mk hF; have HB6 := Aside0.mk hb6; clear hF hb6 HB5)
                  | ((with_reducible refine gate_builtin (b := .append) (xs := #[.tmp 75, .tmp 77]) rfl ?_); refine gate_guard (by rfl) ?_; dsimp only; at_builtin; refine list_app rfl (.tmp 75) (.tmp 77) rfl w w.heap.size _ _ _ _ 1 1 _ [⟨colStatus, ⟨#[50, 48, 48]⟩⟩] rfl rfl (FR.alloc HF6.out _) (lit1 w6 colStatus ⟨#[50, 48, 48]⟩) ?_ ?_ (below_alloc HB6.out _) ?_; (have := HZ.out.1; simp; try omega); (have := HB6.out.size; simp; omega); intro A7 c7 w7 hF hb7 _; have HF7 := Aside0.mk hF; have HB7 := Aside0.mk hb7; clear hF hb7 HB6 HF6)
                  | (go_at_call 25; refine (HP2.out _ _ _ _ (HF7.out.c ?_).1).mono ?_; (have := HZ.out.1; simp; try omega); rintro e w8 ⟨rfl, hb⟩; have HB8 := Aside0.mk (below_step HB7.out hb); clear hb HB7 HF7 HP2))
                go_ret
                exact ⟨rfl, HB8.out⟩
              · have q1 : decide (100 ≤ m) = false := decide_eq_false hr1
                have q1i : decide (100 ≤ (m : Int)) = false := decide_eq_false (by omega)
                clear hr hr1 HL0
                go_wp2_with (first
                  | ((with_reducible refine gate_builtin (b := .append) (xs := #[.tmp 48, .tmp 49]) rfl ?_); at_builtin; refine list_app rfl (.tmp 48) (.tmp 49) rfl w w.heap.size _ _ 1 1 _ c [⟨colStatus, ds⟩] l rfl rfl (fr_lit1 wr colStatus ds w.heap.size HW.out.size) (Kd.C_alloc (Kd.C_below HC.out HW.out) _) ?_ ?_ (below_alloc HW.out _) ?_; (have := HZ.out.1; simp; try omega); (have := HW.out.size; simp; omega); intro A4 c4 w4 hF hb4 _; have HF4 := Aside0.mk hF; have HB4 := Aside0.mk hb4; clear hF hb4)
                  | (go_at_call 25; refine (HP1.out _ _ _ _ (HF4.out.c ?_).1).mono ?_; (have := HZ.out.1; simp; try omega); rintro e w5 ⟨rfl, hb⟩; have HB5 := Aside0.mk (below_step HB4.out hb); clear hb HB4 HF4 HP1)
                  | ((with_reducible refine gate_builtin (b := .append) (xs := #[.const (.slice none 0 0), .tmp 74]) rfl ?_); refine gate_guard (by rfl) ?_; dsimp only; at_builtin; refine list_app rfl (.const (.slice none 0 0)) (.tmp 74) rfl w w.heap.size _ _ 0 0 _ c [] l rfl rfl (FR.nil _ _) (Kd.C_below HC.out HB5.out) ?_ HB5.out.size HB5.out ?_; (have := HZ.out.1; simp; try omega); intro A6 c6 w6 hF hb6 _; rw [Nat.zero_add, List.nil_append] at hF; have HF6 := Aside0.mk hF; have HB6 := Aside0.mk hb6; clear hF hb6 HB5)
                  | ((with_reducible refine gate_builtin (b := .append) (xs := #[.tmp 75, .tmp 77]) rfl ?_); refine gate_guard (by rfl) ?_; dsimp only; at_builtin; refine list_app rfl (.tmp 75) (.tmp 77) rfl w w.heap.size _ _ _ _ 1 1 _ [⟨colStatus, ⟨#[50, 48, 48]⟩⟩] rfl rfl (FR.alloc HF6.out _) (lit1 w6 colStatus ⟨#[50, 48, 48]⟩) ?_ ?_ (below_alloc HB6.out _) ?_; (have := HZ.out.1; simp; try omega); (have := HB6.out.size; simp; omega); intro A7 c7 w7 hF hb7 _; have HF7 := Aside0.mk hF; have HB7 := Aside0.mk hb7; clear hF hb7 HB6 HF6)
                  | (go_at_call 25; refine (HP2.out _ _ _ _ (HF7.out.c ?_).1).mono ?_; (have := HZ.out.1; simp; try omega); rintro e w8 ⟨rfl, hb⟩; have HB8 := Aside0.mk (below_step HB7.out hb); clear hb HB7 HF7 HP2))
                go_ret
                exact ⟨rfl, HB8.out⟩
        · have HV := Aside0.mk hv
          have hz : ¬ (10 : Int) = 0 := by decide
          have hlen : d.length ≤ 6 := by have := HJ.out; omega
          have HR := Aside0.mk (round_dig HV.out HJ.out)
          by_cases h0 : v = 0
          · subst h0
            obtain rfl : d = [] := Classical.byContradiction fun h => HV.out ⟨rfl, h⟩
            have hcv : ∀ W : World, (convert 43 9 (.slice (some ⟨W.heap.size, 0, none⟩) 1 1)).run Tryd.prog (W.alloc (.cells #[.int .u8 48] 5)) = .ok (.string ⟨#[digC 0]⟩) (W.alloc (.cells #[.int .u8 48] 5)) := fun W => conv_digit W 0
            clear hv
            go_wp2
            go_roundg (gk - 1)
            case measure => have := HJ.out; omega
            case rel =>
              exact ⟨0, [digC 0], congrArg Value.string (cat_digit 0 []), rfl, HR, ⟨below_alloc HW.out _⟩⟩
          · have hcv : ∀ W : World, (convert 43 9 (.slice (some ⟨W.heap.size, 0, none⟩) 1 1)).run Tryd.prog (W.alloc (.cells #[.int .u8 (48 + (v : Int) % 10)] 5)) = .ok (.string ⟨#[digC v]⟩) (W.alloc (.cells #[.int .u8 (48 + (v : Int) % 10)] 5)) := fun W => conv_digit W v
            have ht1 : ((v : Int)).tmod 10 = (v : Int) % 10 := Int.tmod_eq_emod_of_nonneg (by omega)
            have ht2 : ((v : Int)).tdiv 10 = ((v / 10 : Nat) : Int) := by rw [Int.tdiv_eq_ediv_of_nonneg (by omega)]; omega
            have hp : decide (0 < v) = true := decide_eq_true (by omega)
            have hsz : ¬ 9223372036854775807 < 1 + d.length := by omega
            have HWR : Aside0 (wrap64 ((v : Int) / 10) = ((v / 10 : Nat) : Int)) := ⟨by rw [w64_in ((v : Int) / 10) (by have := HJ.out.2.1; have h9 : (10 : Nat) ^ (gk - 1) ≤ 10 ^ 6 := Nat.pow_le_pow_right (by decide) (by have := HJ.out; omega); omega)]; omega⟩
            have H0 := Aside0.mk h0
            clear hv h0 hlen
            go_wp2
            go_roundg (gk - 1)
            case measure => have := HJ.out; omega
            case rel =>
              exact ⟨v / 10, digC v :: d, congrArg Value.string (cat_digit v d), congrArg (Value.int .i64) HWR.out, HR, ⟨below_alloc HW.out _⟩⟩
    · have h0d : decide (trailQ l = 0) = false := decide_eq_false ht
      have h0b : (trailQ l == 0) = false := beq_eq_false_iff_ne.2 ht
      generalize trailQ l = q at HT ht h0d h0b
      clear hr hC hS hn hg hf hsz h40
      go_enter Tryd.func9, Tryd.ntmps9
      go_wp2_with (first
        | (go_at_call 14; refine HFW.out.mono ?_; rintro e w1 ⟨rfl, hb⟩; have HB1 := Aside0.mk (below_step HB.out hb); clear hb)
        | (go_at_call 27; refine (HT.out _ (Kd.C_below HC.out HB1.out)).mono ?_; rintro e w2 ⟨rfl, hb⟩; have HB2 := Aside0.mk (below_step HB1.out hb); clear hb)
        | (go_at_call 11; refine (alive_c _).mono ?_; rintro e w1 ⟨rfl, hb⟩; have HB3 := Aside0.mk (below_step HB2.out hb); clear hb))
      go_ret
      exact ⟨rfl, HB3.out⟩
end Go.Proofs.YthibjhjeppfahaaDoor.Fw
