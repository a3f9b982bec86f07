/- What the fields' functions say, in plain words; the contracts by them. -/
import Derived.Test.YthibjhjeppfahaaDoorFLen
namespace Go.Proofs.YthibjhjeppfahaaDoor.Fw
open Go.RowKit Go.Proofs.YthibjhjeppfahaaDoor.XFi Go.Proofs.YthibjhjeppfahaaDoorW.PrintWords Go.Proofs.YthibjhjeppfahaaDoorW.PrintLast Go.Proofs.YthibjhjeppfahaaDoorW.PrintMore Go.Proofs.YthibjhjeppfahaaDoor.Ms
theorem bt_at {s : ByteArray} {pre rest : List UInt8} {c : UInt8} (h : s.toList = pre ++ c :: rest) : bt s (pre.length : Int) = (c.toNat : Int) := by
  have h' : s.data.toList = pre ++ c :: rest := by rw [← Go.Lib.toList_data]; exact h
  have hlt : pre.length < s.size := by
    show pre.length < s.data.size
    rw [← Array.length_toList, h']
    simp
  unfold bt
  rw [Int.toNat_natCast, dif_pos hlt]
  have : s[pre.length]'hlt = c := by
    show s.data[pre.length] = c
    rw [← Array.getElem_toList]
    simp [h']
  rw [this]
theorem size_list (s : ByteArray) : s.size = s.toList.length := by
  rw [Go.Lib.toList_data, Array.length_toList]
  rfl
def letterP (c : UInt8) : Bool := (decide (97 ≤ c.toNat) && decide (c.toNat ≤ 122)) || (decide (48 ≤ c.toNat) && decide (c.toNat ≤ 57)) || decide (c.toNat = 45) || decide (c.toNat = 95)
theorem letter_eq (k : Nat) (c : UInt8) : field_letter.f (k + 2) (c.toNat : Int) = some (letterP c) := by
  unfold letterP field_letter.f
  generalize c.toNat = n
  simp only [field_letter.j0, field_letter.j1]
  have e1 : ((n : Int) ≥ 97) ↔ 97 ≤ n := by omega
  have e2 : ((n : Int) ≤ 122) ↔ n ≤ 122 := by omega
  have e3 : ((n : Int) ≥ 48) ↔ 48 ≤ n := by omega
  have e4 : ((n : Int) ≤ 57) ↔ n ≤ 57 := by omega
  have e5 : ((n : Int) = 45) ↔ n = 45 := by omega
  have e6 : ((n : Int) = 95) ↔ n = 95 := by omega
  simp only [e1, e2, e3, e4, e5, e6]
  clear e1 e2 e3 e4 e5 e6
  by_cases hA : 97 ≤ n <;> by_cases hB : n ≤ 122 <;> by_cases hC : 48 ≤ n <;> by_cases hD : n ≤ 57 <;> by_cases hE : n = 45 <;> by_cases hF : n = 95 <;> first | (exfalso; omega) | simp [hA, hB, hC, hD, hE, hF]
def nameP (s : ByteArray) : Bool := s.toList.all letterP && (!(s.toList == []) && decide (s.size ≤ 40))
theorem name_l0 (s : ByteArray) (hs : s.size ≤ 1000000) : ∀ (rest pre : List UInt8) (k : Nat), s.toList = pre ++ rest → rest.length + 3 ≤ k → field_Name.l0 k s (s.size : Int) (pre.length : Int) = some (rest.all letterP && (!(s.toList == []) && decide (s.size ≤ 40))) := by
  intro rest
  induction rest with
  | nil =>
    intro pre k e hk
    obtain ⟨k, rfl⟩ : ∃ m, k = m + 1 := ⟨k - 1, by omega⟩
    have hp : pre.length = s.size := by rw [size_list, e, List.append_nil]
    rw [hp]
    simp only [field_Name.l0]
    rw [if_neg (by omega), List.all_nil, Bool.true_and]
    by_cases h : s.toList = []
    · rw [if_pos h, h]; rfl
    · rw [if_neg h, beq_eq_false_iff_ne.2 h]
      simp
      omega
  | cons c rest ih =>
    intro pre k e hk
    obtain ⟨k, rfl⟩ : ∃ m, k = m + 3 := ⟨k - 3, by omega⟩
    have hp : pre.length < s.size := by rw [size_list, e]; simp
    simp only [field_Name.l0]
    rw [if_pos (by omega), if_pos (by omega), if_pos (by omega), bt_at e, letter_eq, Option.bind_some, List.all_cons]
    cases letterP c with
    | false => rfl
    | true =>
      rw [if_pos rfl, Bool.true_and]
      have e1 : wrap64 ((pre.length : Int) + 1) = (((pre ++ [c]).length : Nat) : Int) := by
        rw [List.length_append, List.length_singleton, w64_in ((pre.length : Int) + 1) (by omega)]
        rfl
      rw [e1]
      exact ih (pre ++ [c]) (k + 2) (by rw [e]; simp) (by simp at hk; omega)
theorem name_eq (k : Nat) (s : ByteArray) (hs : s.size ≤ 1000000) (hk : s.size + 3 ≤ k) : field_Name.f k s = some (nameP s) :=
  name_l0 s hs s.toList [] k rfl (by rw [← size_list]; exact hk)
/-! the ends of a text -/
theorem dw_of {p : UInt8 → Bool} {l : List UInt8} (h : ∀ x, l.head? = some x → p x = false) : l.dropWhile p = l := by
  cases l with
  | nil => rfl
  | cons a t => rw [List.dropWhile_cons, h a rfl]; rfl
theorem dw_len (p : UInt8 → Bool) : ∀ (l : List UInt8), (l.dropWhile p).length ≤ l.length
  | [] => Nat.le_refl _
  | a :: t => by
    rw [List.dropWhile_cons]
    split
    · exact Nat.le_succ_of_le (dw_len p t)
    · exact Nat.le_refl _
theorem dw_to {p : UInt8 → Bool} {l : List UInt8} (h : l.length ≤ (l.dropWhile p).length) : ∀ x, l.head? = some x → p x = false := by
  intro x hx
  cases l with
  | nil => cases hx
  | cons a t =>
    obtain rfl := Option.some.inj hx
    rw [List.dropWhile_cons] at h
    by_cases hp : p a = true
    · rw [if_pos hp] at h
      have := dw_len p t
      simp at h
      omega
    · simpa using hp
def endsB (l : List UInt8) : Bool := !(l.head? == some 32) && !(l.getLast? == some 32)
theorem trim_iff (l : List UInt8) : (Go.Lib.trimS l [32] == l) = endsB l := by
  have hp : ∀ x : UInt8, ([32] : List UInt8).contains x = false ↔ x ≠ 32 := fun x => by rw [Go.Lib.contains_one]; simp
  rw [Bool.eq_iff_iff, beq_iff_eq]
  unfold endsB
  rw [Bool.and_eq_true, Bool.not_eq_true', Bool.not_eq_true', beq_eq_false_iff_ne, beq_eq_false_iff_ne]
  unfold Go.Lib.trimS Go.Lib.trimLeftS Go.Lib.trimRightS
  constructor
  · intro h
    have h1 := dw_len (([32] : List UInt8).contains ·) (l.reverse.dropWhile (([32] : List UInt8).contains ·)).reverse
    rw [h, List.length_reverse] at h1
    have h2 := dw_to (p := (([32] : List UInt8).contains ·)) (l := l.reverse) (by rw [List.length_reverse]; exact h1)
    rw [dw_of h2, List.reverse_reverse] at h
    have h3 := dw_to (p := (([32] : List UInt8).contains ·)) (l := l) (by rw [h]; exact Nat.le_refl _)
    refine ⟨fun e => ?_, fun e => ?_⟩
    · exact (hp 32).1 (h3 32 e) rfl
    · exact (hp 32).1 (h2 32 (by rw [List.head?_reverse]; exact e)) rfl
  · rintro ⟨h1, h2⟩
    rw [dw_of (p := (([32] : List UInt8).contains ·)) (l := l.reverse) (fun x hx => (hp x).2 (fun e => h2 (by rw [← e, ← hx, List.head?_reverse]))), List.reverse_reverse]
    exact dw_of (p := (([32] : List UInt8).contains ·)) (fun x hx => (hp x).2 (fun e => h1 (by rw [← e, hx])))
theorem trim_nil (l cs : List UInt8) : (Go.Lib.trimS l cs == []) = l.all (cs.contains ·) := by
  rw [Bool.eq_iff_iff, beq_iff_eq]
  unfold Go.Lib.trimS Go.Lib.trimLeftS Go.Lib.trimRightS
  have hd : ∀ m : List UInt8, m.dropWhile (cs.contains ·) = [] ↔ ∀ x ∈ m, cs.contains x = true := fun m => by
    induction m with
    | nil => simp
    | cons a t ih =>
      rw [List.dropWhile_cons]
      by_cases ha : cs.contains a = true
      · rw [if_pos ha, ih]
        simp only [List.mem_cons, forall_eq_or_imp]
        exact ⟨fun h => ⟨ha, h⟩, fun h => h.2⟩
      · rw [if_neg ha]
        exact ⟨fun h => (by cases h), fun h => absurd (h a (by simp)) ha⟩
  rw [hd, List.all_eq_true]
  constructor
  · intro h x hx
    have hx : x ∈ l.reverse := List.mem_reverse.2 hx
    rw [← List.takeWhile_append_dropWhile (p := (cs.contains ·)) (l := l.reverse)] at hx
    rcases List.mem_append.1 hx with hx | hx
    · exact List.all_eq_true.1 (List.all_takeWhile) x hx
    · exact h x (List.mem_reverse.2 hx)
  · intro h x hx
    have := List.mem_reverse.1 hx
    exact h x (List.mem_reverse.1 ((List.dropWhile_sublist _).mem this))
def okB (c : UInt8) : Bool := decide (32 ≤ c.toNat) && !decide (c.toNat = 127)
def valueP (s : ByteArray) : Bool := s.toList.all okB && (decide (s.size ≤ 200) && endsB s.toList)
theorem trim_f (s a : ByteArray) (ha : a.data.toList.all (fun b => decide (b.toNat < 128)) = true) (h2 : a.size < 4294967281) (hs : s.size ≤ 1000000) : strings_Trim.f s a = some ⟨(Go.Lib.trimS s.data.toList a.data.toList).toArray⟩ := by
  unfold strings_Trim.f
  rw [if_pos ⟨ha, h2, by omega⟩]
theorem toList_mk (l : List UInt8) : (⟨l.toArray⟩ : ByteArray).toList = l := by rw [Go.Lib.toList_data]
theorem value_l0 (s : ByteArray) (hs : s.size ≤ 1000000) : ∀ (rest pre : List UInt8) (k : Nat), s.toList = pre ++ rest → rest.length + 1 ≤ k → field_Value.l0 k s (s.size : Int) (pre.length : Int) = some (rest.all okB && (decide (s.size ≤ 200) && endsB s.toList)) := by
  intro rest
  induction rest with
  | nil =>
    intro pre k e hk
    obtain ⟨k, rfl⟩ : ∃ m, k = m + 1 := ⟨k - 1, by omega⟩
    have hp : pre.length = s.size := by rw [size_list, e, List.append_nil]
    rw [hp]
    simp only [field_Value.l0]
    rw [if_neg (by omega), List.all_nil, Bool.true_and]
    by_cases h : s.size ≤ 200
    · rw [if_pos (by omega), trim_f s _ (by decide) (by decide) hs, Option.bind_some, toList_mk, decide_eq_true h, Bool.true_and, Go.Lib.toList_data, trim_iff]
    · rw [if_neg (by omega), decide_eq_false h]
      rfl
  | cons c rest ih =>
    intro pre k e hk
    obtain ⟨k, rfl⟩ : ∃ m, k = m + 1 := ⟨k - 1, by omega⟩
    have hp : pre.length < s.size := by rw [size_list, e]; simp
    simp only [field_Value.l0]
    rw [if_pos (by omega), if_pos (by omega), if_pos (by omega), bt_at e, List.all_cons]
    unfold okB
    by_cases h1 : (c.toNat : Int) < 32
    · rw [if_pos h1, decide_eq_false (p := 32 ≤ c.toNat) (by omega)]
      rfl
    · rw [if_neg h1, decide_eq_true (p := 32 ≤ c.toNat) (by omega), Bool.true_and]
      by_cases h2 : (c.toNat : Int) = 127
      · rw [if_pos h2, decide_eq_true (p := c.toNat = 127) (by omega)]
        rfl
      · rw [if_neg h2, decide_eq_false (p := c.toNat = 127) (by omega), Bool.not_false, Bool.true_and]
        have e1 : wrap64 ((pre.length : Int) + 1) = (((pre ++ [c]).length : Nat) : Int) := by
          rw [List.length_append, List.length_singleton, w64_in ((pre.length : Int) + 1) (by omega)]
          rfl
        rw [e1]
        exact ih (pre ++ [c]) k (by rw [e]; simp) (by simp at hk; omega)
theorem value_eq (k : Nat) (s : ByteArray) (hs : s.size ≤ 1000000) (hk : s.size + 1 ≤ k) : field_Value.f k s = some (valueP s) :=
  value_l0 s hs s.toList [] k rfl (by rw [← size_list]; exact hk)
def isDig (c : UInt8) : Bool := ([48, 49, 50, 51, 52, 53, 54, 55, 56, 57] : List UInt8).contains c
def digP (s : ByteArray) : Bool := !(s.toList == []) && s.toList.all isDig
theorem digits_eq (s : ByteArray) (hs : s.size ≤ 1000000) : field_digits.f s = some (digP s) := by
  unfold field_digits.f digP
  by_cases h : s.toList = []
  · rw [if_pos h, h]
    rfl
  · rw [if_neg h, beq_eq_false_iff_ne.2 h, trim_f s _ (by decide) (by decide) hs, Option.bind_some, toList_mk, trim_nil, Go.Lib.toList_data]
    rfl
def forbP (f : S26) : Bool := if f.f0.toList = ([116, 101] : List UInt8) then !(f.f1.toList == ([116, 114, 97, 105, 108, 101, 114, 115] : List UInt8)) else f.f0.toList == ([99, 111, 110, 110, 101, 99, 116, 105, 111, 110] : List UInt8) || f.f0.toList == ([116, 114, 97, 110, 115, 102, 101, 114, 45, 101, 110, 99, 111, 100, 105, 110, 103] : List UInt8) || f.f0.toList == ([117, 112, 103, 114, 97, 100, 101] : List UInt8) || f.f0.toList == ([107, 101, 101, 112, 45, 97, 108, 105, 118, 101] : List UInt8)
theorem forb_eq (k : Nat) (f : S26) (hk : 1 ≤ k) : field_forbidden.f k f.f0 f.f1 = some (forbP f) := by
  obtain ⟨k, rfl⟩ : ∃ m, k = m + 1 := ⟨k - 1, by omega⟩
  unfold field_forbidden.f forbP
  simp only [field_forbidden.j0]
  generalize f.f0.toList = l
  generalize f.f1.toList = m
  by_cases h0 : l = [116, 101]
  · rw [if_pos h0, if_pos h0]
    by_cases h : m = [116, 114, 97, 105, 108, 101, 114, 115]
    · rw [if_pos h, beq_iff_eq.2 h]; rfl
    · rw [if_neg h, beq_eq_false_iff_ne.2 h]; rfl
  · rw [if_neg h0, if_neg h0]
    by_cases h1 : l = [99, 111, 110, 110, 101, 99, 116, 105, 111, 110]
    · rw [if_pos h1, beq_iff_eq.2 h1]; rfl
    · rw [if_neg h1, beq_eq_false_iff_ne.2 h1]
      by_cases h2 : l = [116, 114, 97, 110, 115, 102, 101, 114, 45, 101, 110, 99, 111, 100, 105, 110, 103]
      · rw [if_pos h2, beq_iff_eq.2 h2]; rfl
      · rw [if_neg h2, beq_eq_false_iff_ne.2 h2]
        by_cases h3 : l = [117, 112, 103, 114, 97, 100, 101]
        · rw [if_pos h3, beq_iff_eq.2 h3]; rfl
        · rw [if_neg h3, beq_eq_false_iff_ne.2 h3]
          by_cases h4 : l = [107, 101, 101, 112, 45, 97, 108, 105, 118, 101]
          · rw [beq_iff_eq.2 h4]; rfl
          · rw [beq_eq_false_iff_ne.2 h4]; rfl
def memP (names : List ByteArray) (s : ByteArray) : Bool := names.any (fun n => s.toList == n.toList)
theorem index_l0 (names : List ByteArray) (s : ByteArray) (hn : names.length ≤ 1000) : ∀ (rest pre : List ByteArray) (k : Nat), names = pre ++ rest → rest.length + 1 ≤ k → ∃ n : Int, slices_Index_string_string.l0 k names s (names.length : Int) (pre.length : Int) = some n ∧ decide (n ≥ 0) = memP rest s := by
  intro rest
  induction rest with
  | nil =>
    intro pre k e hk
    obtain ⟨k, rfl⟩ : ∃ m, k = m + 1 := ⟨k - 1, by omega⟩
    simp only [slices_Index_string_string.l0]
    rw [if_neg (by rw [e, List.append_nil]; omega)]
    exact ⟨-1, rfl, rfl⟩
  | cons c rest ih =>
    intro pre k e hk
    obtain ⟨k, rfl⟩ : ∃ m, k = m + 1 := ⟨k - 1, by omega⟩
    have hp : pre.length < names.length := by rw [e]; simp
    have hr : rdOf ByteArray.empty names (pre.length : Int) = c := by unfold rdOf; rw [e]; simp [List.getD]
    simp only [slices_Index_string_string.l0]
    rw [if_pos (by omega), if_pos (by omega), if_pos (by omega), hr]
    unfold memP
    rw [List.any_cons]
    by_cases h : s.toList = c.toList
    · rw [if_pos h, beq_iff_eq.2 h]
      exact ⟨_, rfl, by simp⟩
    · rw [if_neg h, beq_eq_false_iff_ne.2 h, Bool.false_or]
      have e1 : wrap64 ((pre.length : Int) + 1) = (((pre ++ [c]).length : Nat) : Int) := by
        rw [List.length_append, List.length_singleton, w64_in ((pre.length : Int) + 1) (by omega)]
        rfl
      rw [e1]
      exact ih (pre ++ [c]) k (by rw [e]; simp) (by simp at hk; omega)
theorem mem_eq (k : Nat) (names : List ByteArray) (s : ByteArray) (hn : names.length ≤ 1000) (hk : names.length + 1 ≤ k) : slices_Contains_string_string.f k names s = some (memP names s) := by
  obtain ⟨n, h1, h2⟩ := index_l0 names s hn names [] k rfl hk
  unfold slices_Contains_string_string.f slices_Index_string_string.f
  rw [show ((0 : Int)) = (([] : List ByteArray).length : Int) from rfl, h1, Option.bind_some]
  show some (decide (n ≥ 0)) = _
  rw [h2]
theorem toList_inj {a b : ByteArray} : a.toList = b.toList ↔ a = b := by
  rw [Go.Lib.toList_data, Go.Lib.toList_data]
  exact ⟨fun h => ByteArray.ext (Array.toList_inj.1 h), fun h => by rw [h]⟩
theorem get_l0 (name : ByteArray) (l : List S26) (hl : l.length ≤ 1000000000) : ∀ (rest pre : List S26) (k : Nat), l = pre ++ rest → rest.length + 1 ≤ k → field_Get.l0 k name l (l.length : Int) (pre.length : Int) = some ((getP name rest).getD ⟨#[]⟩, (getP name rest).isSome) := by
  intro rest
  induction rest with
  | nil =>
    intro pre k e hk
    obtain ⟨k, rfl⟩ : ∃ m, k = m + 1 := ⟨k - 1, by omega⟩
    simp only [field_Get.l0]
    rw [if_neg (by rw [e, List.append_nil]; omega)]
    rfl
  | cons c rest ih =>
    intro pre k e hk
    obtain ⟨k, rfl⟩ : ∃ m, k = m + 1 := ⟨k - 1, by omega⟩
    have hp : pre.length < l.length := by rw [e]; simp
    have hr : rd_T26 l (pre.length : Int) = c := by unfold rd_T26; rw [e]; simp [List.getD]
    simp only [field_Get.l0]
    rw [if_pos (by omega), if_pos (by omega), if_pos (by omega), hr]
    unfold getP
    by_cases h : c.f0 = name
    · rw [if_pos (toList_inj.2 h), if_pos h]
      rfl
    · rw [if_neg (fun e => h (toList_inj.1 e)), if_neg h]
      have e1 : wrap64 ((pre.length : Int) + 1) = (((pre ++ [c]).length : Nat) : Int) := by
        rw [List.length_append, List.length_singleton, w64_in ((pre.length : Int) + 1) (by omega)]
        rfl
      rw [e1]
      exact ih (pre ++ [c]) k (by rw [e]; simp) (by simp at hk; omega)
theorem get_eq (k : Nat) (name : ByteArray) (l : List S26) (hl : l.length ≤ 1000000000) (hk : l.length + 1 ≤ k) : field_Get.f k name l = some ((getP name l).getD ⟨#[]⟩, (getP name l).isSome) :=
  get_l0 name l hl l [] k rfl hk
end Go.Proofs.YthibjhjeppfahaaDoor.Fw
