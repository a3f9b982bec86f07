/- Merged: FTellsP FTellsR FLacks. -/
import Derived.Test.YtififgiicpdndaaGreatDoorFOne
import Derived.Test.YtififgiicpdndaaGreatDoorXMix
import Derived.Deep.RegionHeldLaw
/- FieldTells, the plain part: the document's answers in plain words. -/
namespace Go.Proofs.YtififgiicpdndaaGreatDoor.Fw
open Go.RowKit Go.Proofs.YtififgiicpdndaaGreatDoor.XMi Go.Proofs.YtififgiicpdndaaGreatDoorW.PrintWords Go.Proofs.YtififgiicpdndaaGreatDoorW.PrintLast Go.Proofs.YtififgiicpdndaaGreatDoorW.PrintMore Go.Proofs.YtififgiicpdndaaGreatDoor.Ms
theorem w64_next (n : Nat) (h : n < 9223372036854775807) : wrap64 ((n : Int) + 1) = ((n + 1 : Nat) : Int) := by rw [w64_in ((n : Int) + 1) (by omega)]; rfl
theorem let_key (n : Nat) (X : Option Bool) : (if (n : Int) ≥ 97 then (if (n : Int) ≤ 122 then X else (if (n : Int) ≥ 48 then (if (n : Int) ≤ 57 then X else (if (n : Int) = 45 then X else (if (n : Int) = 95 then X else (some false)))) else (if (n : Int) = 45 then X else (if (n : Int) = 95 then X else (some false))))) else (if (n : Int) ≥ 48 then (if (n : Int) ≤ 57 then X else (if (n : Int) = 45 then X else (if (n : Int) = 95 then X else (some false)))) else (if (n : Int) = 45 then X else (if (n : Int) = 95 then X else (some false)))))
    = if ((decide (97 ≤ n) && decide (n ≤ 122)) || (decide (48 ≤ n) && decide (n ≤ 57)) || decide (n = 45) || decide (n = 95)) = true then X else some false := by
  have e1 : ((n : Int) ≥ 97) ↔ 97 ≤ n := by omega
  have e2 : ((n : Int) ≤ 122) ↔ n ≤ 122 := by omega
  have e3 : ((n : Int) ≥ 48) ↔ 48 ≤ n := by omega
  have e4 : ((n : Int) ≤ 57) ↔ n ≤ 57 := by omega
  have e5 : ((n : Int) = 45) ↔ n = 45 := by omega
  have e6 : ((n : Int) = 95) ↔ n = 95 := by omega
  simp only [e1, e2, e3, e4, e5, e6, Bool.or_eq_true, Bool.and_eq_true, decide_eq_true_eq]
  repeat' split
  all_goals first | rfl | (exfalso; omega)
theorem rname_l0 (s : ByteArray) (hs : s.size ≤ 1000000) : ∀ (rest pre : List UInt8) (k : Nat), s.toList = pre ++ rest → rest.length + 1 ≤ k → bywashref1_Name.l0 k s (pre.length : Int) = some (rest.all letterP && (!(s.toList == []) && decide (s.size ≤ 40))) := by
  intro rest
  induction rest with
  | nil =>
    intro pre k e hk
    obtain ⟨k, rfl⟩ : ∃ m, k = m + 1 := ⟨k - 1, by omega⟩
    have hp : pre.length = s.size := by rw [size_list, e, List.append_nil]
    simp only [bywashref1_Name.l0]
    rw [if_neg (by omega), List.all_nil, Bool.true_and]
    by_cases h : s.toList = []
    · rw [if_neg (by rw [size_list, h]; decide), h]
      rfl
    · have h1 : 1 ≤ s.size := by rw [size_list]; exact List.length_pos_iff.2 h
      rw [if_pos (by omega), beq_eq_false_iff_ne.2 h, Bool.not_false, Bool.true_and]
      congr 1
      exact decide_eq_decide.2 (by omega)
  | cons c rest ih =>
    intro pre k e hk
    obtain ⟨k, rfl⟩ : ∃ m, k = m + 1 := ⟨k - 1, by omega⟩
    have hp : pre.length < s.size := by rw [size_list, e]; simp
    simp only [bywashref1_Name.l0]
    rw [if_pos (by omega), if_pos (by omega), bt_at e, let_key, List.all_cons]
    unfold letterP
    split
    · next h =>
      rw [h, Bool.true_and, w64_next _ (by omega)]
      have := ih (pre ++ [c]) k (by rw [e]; simp) (by simp at hk; omega)
      rw [List.length_append, List.length_singleton] at this
      exact this
    · next h =>
      rw [Bool.eq_false_iff.2 h, Bool.false_and, Bool.false_and]
theorem rname_eq (k : Nat) (s : ByteArray) (hs : s.size ≤ 1000000) (hk : s.size + 1 ≤ k) : bywashref1_Name.f k s = some (nameP s) :=
  rname_l0 s hs s.toList [] k rfl (by rw [← size_list]; exact hk)
theorem bt_first {s : ByteArray} {c : UInt8} {t : List UInt8} (e : s.toList = c :: t) : bt s 0 = (c.toNat : Int) := bt_at (pre := []) e
theorem rvalue_end (s : ByteArray) (hs : s.size ≤ 1000000) : (if (s.size : Int) ≤ 200 then (if s.toList = ([] : List UInt8) then (some true) else (if 0 < (s.size : Int) then (if (bt s 0) = 32 then (some false) else (if 0 ≤ (wrap64 ((s.size : Int) - 1)) then (if (wrap64 ((s.size : Int) - 1)) < (s.size : Int) then (some ((bt s (wrap64 ((s.size : Int) - 1))) != 32)) else (none)) else (none))) else (none))) else (some false))
    = some (decide (s.size ≤ 200) && endsB s.toList) := by
  by_cases h : s.size ≤ 200
  · rw [if_pos (by omega), decide_eq_true h, Bool.true_and]
    by_cases h0 : s.toList = []
    · rw [if_pos h0, h0]
      rfl
    · have hp : 0 < s.size := by rw [size_list]; exact List.length_pos_iff.2 h0
      obtain ⟨c, t, hc⟩ : ∃ c t, s.toList = c :: t := List.exists_cons_of_ne_nil h0
      have hl : s.toList = s.toList.dropLast ++ [s.toList.getLast h0] := (List.dropLast_concat_getLast h0).symm
      have hw : wrap64 ((s.size : Int) - 1) = ((s.toList.dropLast.length : Nat) : Int) := by
        rw [w64_in ((s.size : Int) - 1) (by omega), List.length_dropLast, ← size_list]
        omega
      have hd : s.toList.dropLast.length < s.size := by rw [List.length_dropLast, ← size_list]; omega
      have h32 : ∀ c : UInt8, ((c.toNat : Int) = 32) ↔ c = 32 := fun c => ⟨fun h => UInt8.toNat_inj.1 (by simp; omega), fun h => by rw [h]; rfl⟩
      rw [if_neg h0, if_pos (by omega), bt_first hc, hw]
      unfold endsB
      rw [List.getLast?_eq_some_getLast h0, show s.toList.head? = some c by rw [hc]; rfl]
      by_cases h1 : c = 32
      · rw [if_pos ((h32 c).2 h1), h1]
        rfl
      · rw [if_neg (fun h => h1 ((h32 c).1 h)), show (some c == some (32 : UInt8)) = false from beq_eq_false_iff_ne.2 (fun h => h1 (Option.some.inj h)), Bool.not_false, Bool.true_and, if_pos (by omega), if_pos (by omega), bt_at hl]
        generalize s.toList.getLast h0 = d
        by_cases h2 : d = 32
        · rw [h2]
          rfl
        · rw [show (some d == some (32 : UInt8)) = false from beq_eq_false_iff_ne.2 (fun h => h2 (Option.some.inj h))]
          congr 1
          exact bne_iff_ne.2 (fun h => h2 ((h32 d).1 h))
  · rw [if_neg (by omega), decide_eq_false h]
    rfl
theorem rvalue_l0 (s : ByteArray) (hs : s.size ≤ 1000000) : ∀ (rest pre : List UInt8) (k : Nat), s.toList = pre ++ rest → rest.length + 1 ≤ k → bywashref1_Value.l0 k s (pre.length : Int) = some (rest.all okB && (decide (s.size ≤ 200) && endsB s.toList)) := by
  intro rest
  induction rest with
  | nil =>
    intro pre k e hk
    obtain ⟨k, rfl⟩ : ∃ m, k = m + 1 := ⟨k - 1, by omega⟩
    have hp : pre.length = s.size := by rw [size_list, e, List.append_nil]
    simp only [bywashref1_Value.l0]
    rw [if_neg (by omega), rvalue_end s hs, List.all_nil, Bool.true_and]
  | cons c rest ih =>
    intro pre k e hk
    obtain ⟨k, rfl⟩ : ∃ m, k = m + 1 := ⟨k - 1, by omega⟩
    have hp : pre.length < s.size := by rw [size_list, e]; simp
    simp only [bywashref1_Value.l0]
    rw [if_pos (by omega), if_pos (by omega), bt_at e, List.all_cons]
    unfold okB
    by_cases h1 : (c.toNat : Int) < 32
    · rw [if_pos h1, decide_eq_false (p := 32 ≤ c.toNat) (by omega)]
      rfl
    · rw [if_neg h1, decide_eq_true (p := 32 ≤ c.toNat) (by omega), Bool.true_and]
      by_cases h2 : (c.toNat : Int) = 127
      · rw [if_pos h2, decide_eq_true (p := c.toNat = 127) (by omega)]
        rfl
      · rw [if_neg h2, decide_eq_false (p := c.toNat = 127) (by omega), Bool.not_false, Bool.true_and, w64_next _ (by omega)]
        have := ih (pre ++ [c]) k (by rw [e]; simp) (by simp at hk; omega)
        rw [List.length_append, List.length_singleton] at this
        exact this
theorem rvalue_eq (k : Nat) (s : ByteArray) (hs : s.size ≤ 1000000) (hk : s.size + 1 ≤ k) : bywashref1_Value.f k s = some (valueP s) :=
  rvalue_l0 s hs s.toList [] k rfl (by rw [← size_list]; exact hk)
theorem rd_at {l pre rest : List S61} {f : S61} (e : l = pre ++ f :: rest) : rd_T61 l (pre.length : Int) = f := by unfold rd_T61; rw [e]; simp [List.getD]
theorem rfield_l0 (name : ByteArray) (l : List S61) (hl : l.length ≤ 1000000000) : ∀ (rest pre : List S61) (k : Nat), l = pre ++ rest → rest.length + 1 ≤ k → bywashref1_Field.l0 k name l (pre.length : Int) = some ((getP name rest).getD ⟨#[]⟩, (getP name rest).isSome) := by
  intro rest
  induction rest with
  | nil =>
    intro pre k e hk
    obtain ⟨k, rfl⟩ : ∃ m, k = m + 1 := ⟨k - 1, by omega⟩
    simp only [bywashref1_Field.l0]
    rw [if_neg (by rw [e, List.append_nil]; omega)]
    rfl
  | cons c rest ih =>
    intro pre k e hk
    obtain ⟨k, rfl⟩ : ∃ m, k = m + 1 := ⟨k - 1, by omega⟩
    have hp : pre.length < l.length := by rw [e]; simp
    simp only [bywashref1_Field.l0]
    rw [if_pos (by omega), if_pos (by omega), rd_at e]
    unfold getP
    by_cases h : c.f0 = name
    · rw [if_pos (toList_inj.2 h), if_pos h]
      rfl
    · rw [if_neg (fun e => h (toList_inj.1 e)), if_neg h, w64_next _ (by omega)]
      have := ih (pre ++ [c]) k (by rw [e]; simp) (by simp at hk; omega)
      rw [List.length_append, List.length_singleton] at this
      exact this
theorem rfield_eq (k : Nat) (name : ByteArray) (l : List S61) (hl : l.length ≤ 1000000000) (hk : l.length + 1 ≤ k) : bywashref1_Field.f k name l = some ((getP name l).getD ⟨#[]⟩, (getP name l).isSome) :=
  rfield_l0 name l hl l [] k rfl hk
/-! ### a list, by the names with a colon -/
def scan : List ByteArray → Nat → Int → ByteArray → Int
  | [], _, x, _ => x
  | n :: r, j, x, s => if n.toList = s.toList then scan r (j + 1) (j : Int) s else scan r (j + 1) x s
theorem scan_cases : ∀ (r : List ByteArray) (j : Nat) (x : Int) (s : ByteArray), (memP r s = false ∧ scan r j x s = x) ∨ (memP r s = true ∧ ∃ q, r[q]? = some s ∧ scan r j x s = ((j + q : Nat) : Int))
  | [], j, x, s => .inl ⟨rfl, rfl⟩
  | n :: r, j, x, s => by
    unfold scan
    by_cases h : n.toList = s.toList
    · rw [if_pos h]
      have hm : memP (n :: r) s = true := by unfold memP; rw [List.any_cons, h]; simp
      refine .inr ⟨hm, ?_⟩
      rcases scan_cases r (j + 1) (j : Int) s with ⟨_, h2⟩ | ⟨_, q, h2, h3⟩
      · exact ⟨0, by rw [List.getElem?_cons_zero, toList_inj.1 h], by rw [h2]; rfl⟩
      · exact ⟨q + 1, by rw [List.getElem?_cons_succ]; exact h2, by rw [h3]; congr 1; omega⟩
    · rw [if_neg h]
      have hm : memP (n :: r) s = memP r s := by
        unfold memP
        rw [List.any_cons, beq_eq_false_iff_ne.2 (fun e => h e.symm), Bool.false_or]
      rw [hm]
      rcases scan_cases r (j + 1) x s with ⟨h1, h2⟩ | ⟨h1, q, h2, h3⟩
      · exact .inl ⟨h1, h2⟩
      · exact .inr ⟨h1, q + 1, by rw [List.getElem?_cons_succ]; exact h2, by rw [h3]; congr 1; omega⟩
theorem rdOf_at {names pre rest : List ByteArray} {n : ByteArray} (e : names = pre ++ n :: rest) : rdOf ByteArray.empty names (pre.length : Int) = n := by
  unfold rdOf
  rw [e]
  simp [List.getD]
theorem rscan_l1 (l : List S61) (names : List ByteArray) (hn : names.length ≤ 1000) (plain : Bool) (seen : List Bool) (i : Int) (f0 f1 : ByteArray) (m : Nat) : ∀ (rest pre : List ByteArray) (x : Int), names = pre ++ rest →
    bywashref1_fields.l1 (rest.length + (m + 1)) l names plain seen i x (pre.length : Int) f0 f1 = bywashref1_fields.l1 (m + 1) l names plain seen i (scan rest pre.length x f0) (names.length : Int) f0 f1
  | [], pre, x, e => by
    rw [List.append_nil] at e
    subst e
    rw [List.length_nil, Nat.zero_add]
    rfl
  | n :: rest, pre, x, e => by
    have hp : pre.length < names.length := by rw [e]; simp
    rw [show (n :: rest).length + (m + 1) = (rest.length + (m + 1)) + 1 by simp; omega]
    have ih := fun x => rscan_l1 l names hn plain seen i f0 f1 m rest (pre ++ [n]) x (by rw [e]; simp)
    rw [List.length_append, List.length_singleton] at ih
    conv => lhs; unfold bywashref1_fields.l1
    rw [if_pos (by omega), if_pos (by omega), rdOf_at e, w64_next _ (by omega)]
    unfold scan
    split
    · exact ih _
    · exact ih _
theorem forb_if {α : Type} (F : Bool → α) (f : S61) : (if f.f0.toList = ([99, 111, 110, 110, 101, 99, 116, 105, 111, 110] : List UInt8) then F true else (if f.f0.toList = ([116, 114, 97, 110, 115, 102, 101, 114, 45, 101, 110, 99, 111, 100, 105, 110, 103] : List UInt8) then F true else (if f.f0.toList = ([117, 112, 103, 114, 97, 100, 101] : List UInt8) then F true else (if f.f0.toList = ([107, 101, 101, 112, 45, 97, 108, 105, 118, 101] : List UInt8) then F true else (if f.f0.toList = ([116, 101] : List UInt8) then F (f.f1.toList != ([116, 114, 97, 105, 108, 101, 114, 115] : List UInt8)) else F false))))) = F (forbP f) := by
  unfold forbP
  generalize f.f0.toList = l
  by_cases h1 : l = [99, 111, 110, 110, 101, 99, 116, 105, 111, 110]
  · rw [if_pos h1, h1]
    rfl
  · by_cases h2 : l = [116, 114, 97, 110, 115, 102, 101, 114, 45, 101, 110, 99, 111, 100, 105, 110, 103]
    · rw [if_neg h1, if_pos h2, h2]
      rfl
    · by_cases h3 : l = [117, 112, 103, 114, 97, 100, 101]
      · rw [if_neg h1, if_neg h2, if_pos h3, h3]
        rfl
      · by_cases h4 : l = [107, 101, 101, 112, 45, 97, 108, 105, 118, 101]
        · rw [if_neg h1, if_neg h2, if_neg h3, if_pos h4, h4]
          rfl
        · rw [if_neg h1, if_neg h2, if_neg h3, if_neg h4]
          by_cases h5 : l = [116, 101]
          · rw [if_pos h5, if_pos h5]
            rfl
          · rw [if_neg h5, if_neg h5, beq_eq_false_iff_ne.2 h1, beq_eq_false_iff_ne.2 h2, beq_eq_false_iff_ne.2 h3, beq_eq_false_iff_ne.2 h4]
            rfl
theorem rlast (l : List S61) (names : List ByteArray) (plain : Bool) (seen : List Bool) (i x : Int) (f : S61) (m : Nat) (hm : f.f0.size + 1 ≤ m) (hs : f.f0.size ≤ 1000000) :
    bywashref1_fields.l1 (m + 1) l names plain seen i x (names.length : Int) f.f0 f.f1 = bywashref1_fields.j2 m l names plain seen i x (decide (x < 0) && !nameP f.f0 || forbP f) f.f0 f.f1 := by
  conv => lhs; unfold bywashref1_fields.l1
  rw [if_neg (by omega), rname_eq m f.f0 hs hm, Option.bind_some]
  rw [forb_if (fun b => bywashref1_fields.j2 m l names plain seen i x b f.f0 f.f1) f]
  by_cases h : x < 0
  · rw [if_pos h, decide_eq_true h, Bool.true_and]
    cases nameP f.f0
    · rfl
    · rfl
  · rw [if_neg h, decide_eq_false h, Bool.false_and, Bool.false_or]
/-- What was seen, place by place. -/
def Seen (names : List ByteArray) (seen : List Bool) (said : List (ByteArray × ByteArray)) : Prop := seen.length = names.length ∧ ∀ (j : Nat) (n : ByteArray), names[j]? = some n → seen[j]? = some (Ms.look said n).isSome
theorem seen_set {names : List ByteArray} (hN : names.Nodup) {seen : List Bool} {said : List (ByteArray × ByteArray)} (h : Seen names seen said) {q : Nat} {s v : ByteArray} (hq : names[q]? = some s) : Seen names (seen.set q true) ((s, v) :: said) := by
  refine ⟨by rw [List.length_set]; exact h.1, fun j n hj => ?_⟩
  unfold Ms.look
  have hql := (List.getElem?_eq_some_iff.1 hq).1
  by_cases e : s = n
  · subst e
    have hjq : j = q := by
      have h1 := (List.getElem?_eq_some_iff.1 hj).1
      exact (List.getElem?_inj h1 hN).1 (hj.trans hq.symm)
    subst hjq
    rw [if_pos rfl, List.getElem?_set_self (by rw [h.1]; exact hql)]
    rfl
  · have hjq : q ≠ j := fun e2 => by
      subst e2
      exact e (Option.some.inj (hq.symm.trans hj))
    rw [if_neg e, List.getElem?_set_ne hjq]
    exact h.2 j n hj
theorem rfields_l0 {names : List ByteArray} (hN : names.Nodup) (hn : names.length ≤ 4) (l : List S61) (hS : Sized l) : ∀ (rest pre : List S61) (said : List (ByteArray × ByteArray)) (plain : Bool) (seen : List Bool) (k : Nat), l = pre ++ rest → Seen names seen said → rest.length * 8 + 100020 ≤ k →
    bywashref1_fields.l0 k l names plain seen (pre.length : Int) = some (walkQ names rest said plain).2
  | [], pre, said, plain, seen, k, e, hE, hk => by
    obtain ⟨k, rfl⟩ : ∃ m, k = m + 1 := ⟨k - 1, by omega⟩
    have hp : pre.length = l.length := by rw [e, List.append_nil]
    rw [hp]
    unfold bywashref1_fields.l0
    rw [if_neg (by omega)]
    rfl
  | f :: rest, pre, said, plain, seen, k, e, hE, hk => by
    have hp : pre.length < l.length := by rw [e]; simp
    have hll := hS.len
    obtain ⟨hf0, hf1⟩ := hS.sz f (by rw [e]; simp)
    rw [List.length_cons] at hk
    obtain ⟨k, rfl⟩ : ∃ m, k = (names.length + (m + 1)) + 1 := ⟨k - names.length - 2, by omega⟩
    have hpre : (((pre ++ [f]).length : Nat) : Int) = ((pre.length + 1 : Nat) : Int) := by rw [List.length_append, List.length_singleton]
    conv => lhs; unfold bywashref1_fields.l0
    rw [if_pos (by omega), if_pos (by omega), rd_at e]
    have h1 := rscan_l1 l names (by omega) plain seen (pre.length : Int) f.f0 f.f1 k names [] (-1) rfl
    rw [show (([] : List ByteArray).length : Int) = 0 from rfl] at h1
    rw [h1, rlast l names plain seen _ _ f k (by omega) (by omega)]
    obtain ⟨k, rfl⟩ : ∃ m, k = m + 1 := ⟨k - 1, by omega⟩
    conv => lhs; unfold bywashref1_fields.j2
    rw [rvalue_eq k f.f1 (by omega) (by omega), Option.bind_some]
    have next : ∀ (said' : List (ByteArray × ByteArray)) (plain' : Bool) (seen' : List Bool), Seen names seen' said' → bywashref1_fields.l0 k l names plain' seen' (wrap64 ((pre.length : Int) + 1)) = some (walkQ names rest said' plain').2 := fun said' plain' seen' h' => by
      rw [w64_next _ (by omega), ← hpre]
      exact rfields_l0 hN hn l hS rest (pre ++ [f]) said' plain' seen' k (by rw [e]; simp) h' (by omega)
    conv => rhs; unfold walkQ
    rcases scan_cases names 0 (-1) f.f0 with ⟨hm, hs⟩ | ⟨hm, q, hq, hs⟩
    · rw [show ([] : List ByteArray).length = 0 from rfl, hs, hm]
      simp only [Bool.not_false, Bool.true_and, Bool.false_and, show decide ((-1 : Int) < 0) = true from rfl]
      by_cases hb : (!nameP f.f0 || forbP f) = true
      · rw [if_pos hb, if_pos hb]
      · rw [if_neg hb, if_neg hb]
        by_cases hv : valueP f.f1 = true
        · rw [if_pos hv, if_pos (by decide), if_neg (by rw [hv]; decide), if_neg Bool.false_ne_true, if_neg Bool.false_ne_true]
          exact next said true seen hE
        · rw [if_neg hv, if_pos (Bool.eq_false_iff.2 hv)]
    · rw [show ([] : List ByteArray).length = 0 from rfl, hs, hm]
      have hx : decide (((0 + q : Nat) : Int) < 0) = false := decide_eq_false (by omega)
      simp only [hx, Bool.not_true, Bool.false_and, Bool.false_or, Bool.true_and]
      by_cases hb : forbP f = true
      · rw [if_pos hb, if_pos hb]
      · rw [if_neg hb, if_neg hb]
        by_cases hv : valueP f.f1 = true
        · have hql := (List.getElem?_eq_some_iff.1 hq).1
          have hsl := hE.2 q f.f0 hq
          have hrd : rdOf false seen ((0 + q : Nat) : Int) = (Ms.look said f.f0).isSome := by
            unfold rdOf
            rw [Int.toNat_natCast, Nat.zero_add, List.getD, hsl]
            rfl
          rw [if_pos hv, if_neg (by omega)]
          cases plain
          · rw [if_neg Bool.false_ne_true, if_pos (by omega), if_pos (by rw [hE.1]; omega), hrd, hv, if_neg (show ¬ (true = false) from by decide), Bool.false_or]
            by_cases hl : (Ms.look said f.f0).isSome = true
            · rw [if_pos hl, if_pos hl]
            · rw [if_neg hl, if_neg hl, if_pos trivial, Int.toNat_natCast, Nat.zero_add]
              exact next ((f.f0, f.f1) :: said) false _ (seen_set hN hE hq)
          · rw [hv, if_neg (show ¬ (true = false) from by decide), Bool.true_or, if_pos (Eq.refl true), if_pos (Eq.refl true)]
        · rw [if_neg hv, if_pos (Bool.eq_false_iff.2 hv)]
theorem rfields_eq {names : List ByteArray} (hN : names.Nodup) (hn : names.length ≤ 4) (l : List S61) (hS : Sized l) (k : Nat) (hk : l.length * 8 + 100020 ≤ k) : bywashref1_fields.f k l names = some (walkQ names l [] false).2 := by
  unfold bywashref1_fields.f
  rw [if_pos (by omega), if_pos (by rw [Int.toNat_natCast]; omega), Int.toNat_natCast]
  exact rfields_l0 hN hn l hS l [] [] false _ k rfl ⟨by simp, fun j n hj => by
    have hl := (List.getElem?_eq_some_iff.1 hj).1
    rw [List.getElem?_replicate, if_pos hl]
    rfl⟩ hk
theorem trail_ref (k : Nat) (l : List S61) (hS : Sized l) (hk : l.length * 8 + 100020 ≤ k) : bywashref1_TrailerFields.f k l = some (trailQ l) := by
  unfold bywashref1_TrailerFields.f
  rw [rfields_eq (List.nodup_nil) (by decide) l hS k hk]
  rfl
/-- What was said of a name with a colon is its first value. -/
theorem walk_look {names : List ByteArray} : ∀ (l : List S61) (said : List (ByteArray × ByteArray)) (plain : Bool) (m : List (ByteArray × ByteArray)) (e : Int), walkQ names l said plain = (some m, e) → ∀ n, memP names n = true → Ms.look m n = match Ms.look said n with | some v => some v | none => getP n l
  | [], said, _, m, e, h, n, _ => by
    injection h with h _
    injection h with h
    subst h
    cases Ms.look said n <;> rfl
  | f :: l, said, plain, m, e, h, n, hn => by
    unfold walkQ at h
    split at h
    · cases h
    · split at h
      · cases h
      · split at h
        · cases h
        · next h3 =>
          split at h
          · next h4 =>
            have ih := walk_look l _ plain m e h n hn
            rw [ih]
            rw [h4, Bool.true_and, Bool.or_eq_true, not_or] at h3
            have hl : Ms.look said f.f0 = none := Option.not_isSome_iff_eq_none.1 h3.2
            rw [show getP n (f :: l) = if f.f0 = n then some f.f1 else getP n l from rfl]
            simp only [Ms.look]
            by_cases hf : f.f0 = n
            · rw [if_pos hf, if_pos hf, ← hf, hl]
            · rw [if_neg hf, if_neg hf]
          · next h4 =>
            have ih := walk_look l _ true m e h n hn
            rw [ih]
            have hf : f.f0 ≠ n := fun e => h4 (by rw [e]; exact hn)
            rw [show getP n (f :: l) = if f.f0 = n then some f.f1 else getP n l from rfl, if_neg hf]
theorem say_get {names : List ByteArray} {l : List S61} {m : List (ByteArray × ByteArray)} {e : Int} (h : walkQ names l [] false = (some m, e)) {n : ByteArray} (hn : memP names n = true) : sayB m n = (getP n l).getD ⟨#[]⟩ := by
  unfold sayB
  rw [walk_look l [] false m e h n hn]
  rfl
theorem walk_err {names : List ByteArray} : ∀ (l : List S61) (said : List (ByteArray × ByteArray)) (plain : Bool), (∃ m, walkQ names l said plain = (some m, 0)) ∨ (∃ e, walkQ names l said plain = (none, e) ∧ e ≠ 0)
  | [], said, _ => .inl ⟨said, rfl⟩
  | f :: l, said, plain => by
    unfold walkQ
    split
    · exact .inr ⟨6, rfl, by decide⟩
    · split
      · exact .inr ⟨3, rfl, by decide⟩
      · split
        · exact .inr ⟨7, rfl, by decide⟩
        · split
          · exact walk_err l _ _
          · exact walk_err l _ _
end Go.Proofs.YtififgiicpdndaaGreatDoor.Fw
/- FieldTells, the plain part: a response's status, a length. -/
namespace Go.Proofs.YtififgiicpdndaaGreatDoor.Fw
open Go.RowKit Go.Proofs.YtififgiicpdndaaGreatDoor.XMi Go.Proofs.YtififgiicpdndaaGreatDoorW.PrintWords Go.Proofs.YtififgiicpdndaaGreatDoorW.PrintLast Go.Proofs.YtififgiicpdndaaGreatDoorW.PrintMore Go.Proofs.YtififgiicpdndaaGreatDoor.Ms
def lessP (l : List UInt8) : Bool := !(Op.bytesLess l [49, 48, 48]) && (Op.bytesLess l [53, 57, 57] || l == [53, 57, 57])
theorem less_all : ∀ i, i < 10 → ∀ j, j < 10 → ∀ q, q < 10 → lessP [UInt8.ofNat (48 + i), UInt8.ofNat (48 + j), UInt8.ofNat (48 + q)] = decide (100 ≤ 100 * i + 10 * j + q ∧ 100 * i + 10 * j + q ≤ 599) := by decide +kernel
theorem dig_nat {c : UInt8} (h : isDig c = true) : ∃ i, i < 10 ∧ c = UInt8.ofNat (48 + i) ∧ c.toNat = 48 + i := by
  rw [isDig_iff] at h
  refine ⟨c.toNat - 48, by omega, ?_, by omega⟩
  rw [show 48 + (c.toNat - 48) = c.toNat by omega]
  exact (UInt8.ofNat_toNat).symm
theorem dig_not {c : UInt8} (h : isDig c = false) : c.toNat < 48 ∨ 57 < c.toNat := by
  rcases Nat.lt_or_ge c.toNat 48 with h1 | h1
  · exact .inl h1
  · rcases Nat.lt_or_ge 57 c.toNat with h2 | h2
    · exact .inr h2
    · exact absurd ((isDig_iff c).2 ⟨h1, h2⟩) (by rw [h]; decide)
theorem dig_round (c : UInt8) (X : Option Int) : (if (c.toNat : Int) < 48 then (some (0 : Int)) else (if (c.toNat : Int) > 57 then (some 0) else X)) = if isDig c = true then X else some 0 := by
  cases h : isDig c with
  | true =>
    rw [isDig_iff] at h
    rw [if_neg (by omega), if_neg (by omega), if_pos (Eq.refl true)]
  | false =>
    rw [if_neg Bool.false_ne_true]
    rcases dig_not h with h | h
    · rw [if_pos (by omega)]
    · rw [if_neg (by omega), if_pos (by omega)]
theorem stat_three {v : ByteArray} {a b c : UInt8} (e : v.toList = [a, b, c]) (k : Nat) : ∃ r, bywashref1_status.l0 (k + 4) v 0 0 = some r ∧ decide (r = 0) = !statP v := by
  have hsz : v.size = 3 := by rw [size_list, e]; rfl
  have b0 : bt v 0 = (a.toNat : Int) := bt_at (pre := []) e
  have b1 : bt v 1 = (b.toNat : Int) := bt_at (pre := [a]) e
  have b2 : bt v 2 = (c.toNat : Int) := bt_at (pre := [a, b]) e
  have hP : statP v = (isDig a && (isDig b && isDig c) && lessP [a, b, c]) := by
    unfold statP digP lessP
    rw [e, decide_eq_true (p := v.size = 3) hsz]
    simp [Bool.and_assoc]
  have w1 : wrap64 ((0 : Int) + 1) = 1 := w64_in (0 + 1) (by decide)
  have w2 : wrap64 ((1 : Int) + 1) = 2 := w64_in (1 + 1) (by decide)
  have w3 : wrap64 ((2 : Int) + 1) = 3 := w64_in (2 + 1) (by decide)
  rw [hP]
  simp only [bywashref1_status.l0, b0, w1, w2, w3, hsz]
  rw [if_pos (by decide), if_pos (by decide), if_pos (by decide), dig_round]
  cases ha : isDig a with
  | false => exact ⟨0, if_neg Bool.false_ne_true, rfl⟩
  | true =>
    rw [if_pos (Eq.refl true), if_pos (by decide), if_pos (by decide), if_pos (by decide), b1, dig_round]
    cases hb : isDig b with
    | false => exact ⟨0, if_neg Bool.false_ne_true, rfl⟩
    | true =>
      rw [if_pos (Eq.refl true), if_pos (by decide), if_pos (by decide), if_pos (by decide), b2, dig_round]
      cases hc : isDig c with
      | false => exact ⟨0, if_neg Bool.false_ne_true, rfl⟩
      | true =>
        rw [if_pos (Eq.refl true), if_neg (by decide)]
        obtain ⟨i, hi, ea, na⟩ := dig_nat ha
        obtain ⟨j, hj, eb, nb⟩ := dig_nat hb
        obtain ⟨q, hq, ec, nc⟩ := dig_nat hc
        rw [na, nb, nc]
        have x0 : wrap64 (10 * 0) = 0 := w64_in (10 * 0) (by decide)
        have x1 : wrap64 ((0 : Int) + ((((48 + i : Nat) : Int) - 48) % 256)) = (i : Int) := by rw [w64_in ((0 : Int) + ((((48 + i : Nat) : Int) - 48) % 256)) (by omega)]; omega
        have x2 : wrap64 (10 * (i : Int)) = 10 * i := w64_in (10 * (i : Int)) (by omega)
        have x3 : wrap64 (10 * (i : Int) + ((((48 + j : Nat) : Int) - 48) % 256)) = 10 * i + j := by rw [w64_in (10 * (i : Int) + ((((48 + j : Nat) : Int) - 48) % 256)) (by omega)]; omega
        have x4 : wrap64 (10 * (10 * (i : Int) + j)) = 100 * i + 10 * j := by rw [w64_in (10 * (10 * (i : Int) + j)) (by omega)]; omega
        have x5 : wrap64 (100 * (i : Int) + 10 * j + ((((48 + q : Nat) : Int) - 48) % 256)) = 100 * i + 10 * j + q := by rw [w64_in (100 * (i : Int) + 10 * j + ((((48 + q : Nat) : Int) - 48) % 256)) (by omega)]; omega
        rw [x0, x1, x2, x3, x4, x5, ea, eb, ec, less_all i hi j hj q hq]
        clear x0 x1 x2 x3 x4 x5
        by_cases h1 : 100 * (i : Int) + 10 * j + q < 100
        · exact ⟨0, if_pos h1, by rw [decide_eq_false (p := 100 ≤ 100 * i + 10 * j + q ∧ 100 * i + 10 * j + q ≤ 599) (by omega)]; rfl⟩
        · rw [if_neg h1]
          by_cases h2 : 100 * (i : Int) + 10 * j + q > 599
          · exact ⟨0, if_pos h2, by rw [decide_eq_false (p := 100 ≤ 100 * i + 10 * j + q ∧ 100 * i + 10 * j + q ≤ 599) (by omega)]; rfl⟩
          · exact ⟨_, if_neg h2, by rw [decide_eq_true (p := 100 ≤ 100 * i + 10 * j + q ∧ 100 * i + 10 * j + q ≤ 599) (by omega), decide_eq_false (by omega)]; rfl⟩
theorem three_of {v : ByteArray} (h : v.size = 3) : ∃ a b c, v.toList = [a, b, c] := by
  have hl : v.toList.length = 3 := by rw [← size_list]; exact h
  generalize v.toList = l at hl
  match l, hl with
  | [a, b, c], _ => exact ⟨a, b, c, rfl⟩
theorem status_ref (k : Nat) (l : List S61) (hS : Sized l) (hk : l.length + 10 ≤ k) : ∃ r, bywashref1_status.f k l = some r ∧ decide (r = 0) = !statP ((getP colStatus l).getD ⟨#[]⟩) := by
  have hll := hS.len
  unfold bywashref1_status.f
  rw [show (⟨#[58, 115, 116, 97, 116, 117, 115]⟩ : ByteArray) = colStatus from rfl, rfield_eq k colStatus l (by omega) (by omega), Option.bind_some]
  generalize (getP colStatus l).getD ⟨#[]⟩ = v
  show ∃ r, (if (v.size : Int) = 3 then (bywashref1_status.l0 k v 0 0) else (some 0)) = some r ∧ _
  by_cases h : v.size = 3
  · rw [if_pos (by omega)]
    obtain ⟨a, b, c, e⟩ := three_of h
    obtain ⟨k, rfl⟩ : ∃ m, k = m + 4 := ⟨k - 4, by omega⟩
    exact stat_three e k
  · refine ⟨0, if_neg (by omega), ?_⟩
    unfold statP
    rw [decide_eq_false h]
    rfl
theorem resp_ref (k : Nat) (l : List S61) (hS : Sized l) (hk : l.length * 8 + 100020 ≤ k) : bywashref1_ResponseFields.f k l = some (respQ l) := by
  unfold bywashref1_ResponseFields.f
  show ((bywashref1_fields.f k l [colStatus]).bind fun t191 => (if t191 = 0 then ((bywashref1_status.f k l).bind fun t192 => (if t192 = 0 then (some 3) else (some 0))) else (some t191))) = _
  rw [rfields_eq (by simp) (by decide) l hS k hk, Option.bind_some]
  unfold respQ
  rcases walk_err (names := [colStatus]) l [] false with ⟨m, h⟩ | ⟨e, h, he⟩
  · rw [h, if_pos (Eq.refl 0)]
    obtain ⟨r, h1, h2⟩ := status_ref k l hS (by omega)
    rw [h1, Option.bind_some]
    show _ = some (if statP (sayB m colStatus) = true then 0 else 3)
    rw [say_get h mem_stat]
    by_cases hr : r = 0
    · rw [decide_eq_true hr] at h2
      have h3 : statP ((getP colStatus l).getD ⟨#[]⟩) = false := by
        cases h4 : statP ((getP colStatus l).getD ⟨#[]⟩)
        · rfl
        · rw [h4] at h2; cases h2
      rw [if_pos hr, h3]
      rfl
    · rw [decide_eq_false hr] at h2
      have h3 : statP ((getP colStatus l).getD ⟨#[]⟩) = true := by
        cases h4 : statP ((getP colStatus l).getD ⟨#[]⟩)
        · rw [h4] at h2; cases h2
        · rfl
      rw [if_neg hr, h3]
      rfl
  · rw [h, if_neg he]
/-! ### the length -/
theorem rlen_l0 (l : List S61) (hl : l.length ≤ 1000000) (s : ByteArray) (m : Nat) : ∀ (rest pre : List S61), l = pre ++ rest → bywashref1_Length.l0 (rest.length + (m + 1)) l s (pre.length : Int) = if rest.any (otherB s) then some (-1, 3) else bywashref1_Length.l1 m s 0 0
  | [], pre, e => by
    rw [List.append_nil] at e
    subst e
    rw [List.length_nil, Nat.zero_add]
    unfold bywashref1_Length.l0
    rw [if_neg (by omega)]
    rfl
  | f :: rest, pre, e => by
    have hp : pre.length < l.length := by rw [e]; simp
    rw [show (f :: rest).length + (m + 1) = (rest.length + (m + 1)) + 1 by simp; omega]
    have ih := rlen_l0 l hl s m rest (pre ++ [f]) (by rw [e]; simp)
    rw [List.length_append, List.length_singleton] at ih
    conv => lhs; unfold bywashref1_Length.l0
    rw [if_pos (by omega), if_pos (by omega), rd_at e, w64_next _ (by omega), List.any_cons]
    unfold otherB at ih ⊢
    by_cases h1 : f.f0.toList = [99, 111, 110, 116, 101, 110, 116, 45, 108, 101, 110, 103, 116, 104]
    · rw [if_pos h1, h1, beq_self_eq_true, Bool.true_and]
      by_cases h2 : f.f1.toList = s.toList
      · rw [if_pos h2, show (f.f1.toList != s.toList) = false by rw [h2]; simp, Bool.false_or]
        exact ih
      · rw [if_neg h2, show (f.f1.toList != s.toList) = true from bne_iff_ne.2 h2, Bool.true_or]
        rfl
    · rw [if_neg h1, beq_eq_false_iff_ne.2 h1, Bool.false_and, Bool.false_or]
      exact ih
theorem num_app (l : List UInt8) (c : UInt8) : numD (l ++ [c]) = numD l * 10 + (c.toNat - 48) := by
  unfold numD
  rw [List.foldl_append]
  rfl
theorem num_lt : ∀ (l : List UInt8) (acc : Nat), l.all isDig = true → l.foldl (fun a c => a * 10 + (c.toNat - 48)) acc < (acc + 1) * 10 ^ l.length
  | [], acc, _ => by simp
  | c :: l, acc, h => by
    rw [List.all_cons, Bool.and_eq_true, isDig_iff] at h
    have ih := num_lt l (acc * 10 + (c.toNat - 48)) h.2
    rw [List.foldl_cons, List.length_cons, Nat.pow_succ]
    refine Nat.lt_of_lt_of_le ih ?_
    have : acc * 10 + (c.toNat - 48) + 1 ≤ (acc + 1) * 10 := by omega
    calc _ ≤ (acc + 1) * 10 * 10 ^ l.length := Nat.mul_le_mul_right _ this
      _ = _ := by rw [Nat.mul_assoc, Nat.mul_comm 10]
theorem rlen_l1 (s : ByteArray) (hs : s.size ≤ 1000000) : ∀ (rest pre : List UInt8) (k : Nat), s.toList = pre ++ rest → rest.length * 2 + 1 ≤ k → pre.all isDig = true → pre.length ≤ 9 →
    bywashref1_Length.l1 k s ((numD pre : Nat) : Int) (pre.length : Int) = some (if rest.all isDig && decide (pre.length + rest.length ≤ 9) && !(s.toList == []) then (((numD s.toList : Nat) : Int), 0) else (-1, 3))
  | [], pre, k, e, hk, _, h9 => by
    obtain ⟨k, rfl⟩ : ∃ m, k = m + 1 := ⟨k - 1, by omega⟩
    have hp : pre.length = s.size := by rw [size_list, e, List.append_nil]
    unfold bywashref1_Length.l1
    rw [if_neg (by omega), List.all_nil, Bool.true_and, List.length_nil, decide_eq_true (p := pre.length + 0 ≤ 9) (by omega), Bool.true_and]
    by_cases h : s.toList = []
    · rw [if_pos h, h]
      rfl
    · rw [if_neg h, beq_eq_false_iff_ne.2 h, e, List.append_nil]
      rfl
  | c :: rest, pre, k, e, hk, hd, h9 => by
    rw [List.length_cons] at hk
    obtain ⟨k, rfl⟩ : ∃ m, k = m + 1 + 1 := ⟨k - 2, by omega⟩
    have hp : pre.length < s.size := by rw [size_list, e]; simp
    have hnum : numD pre < 10 ^ pre.length := by
      have := num_lt pre 0 hd
      rw [Nat.zero_add, Nat.one_mul] at this
      exact this
    have h109 : (10 : Nat) ^ pre.length ≤ 10 ^ 9 := Nat.pow_le_pow_right (by decide) h9
    conv => lhs; unfold bywashref1_Length.l1
    rw [if_pos (by omega), if_pos (by omega), bt_at e]
    have hj : ∀ b : Bool, bywashref1_Length.j2 (k + 1) s ((numD pre : Nat) : Int) (pre.length : Int) b = if b = true then some (-1, 3) else (if (pre.length : Int) ≥ 9 then (some ((-1), 3)) else (bywashref1_Length.l1 k s (wrap64 ((wrap64 (10 * ((numD pre : Nat) : Int))) + (((c.toNat : Int) - 48) % 256))) (wrap64 ((pre.length : Int) + 1)))) := fun b => by
      conv => lhs; unfold bywashref1_Length.j2
      rw [bt_at e]
      by_cases hb : b = true
      · rw [if_pos hb, if_pos hb]
      · rw [if_neg hb, if_neg hb, if_pos (by omega), if_pos (by omega)]
    rw [hj, hj]
    rw [List.all_cons]
    cases hc : isDig c with
    | false =>
      rw [Bool.false_and, Bool.false_and, Bool.false_and, if_neg Bool.false_ne_true]
      rcases dig_not hc with h | h
      · rw [if_pos (by omega), if_pos (Eq.refl true)]
      · rw [if_neg (by omega), decide_eq_true (p := (c.toNat : Int) > 57) (by omega), if_pos (Eq.refl true)]
    | true =>
      have hc' := (isDig_iff c).1 hc
      rw [if_neg (by omega), decide_eq_false (p := (c.toNat : Int) > 57) (by omega), if_neg Bool.false_ne_true, Bool.true_and, List.length_cons]
      by_cases h : 9 ≤ pre.length
      · rw [if_pos (by omega), decide_eq_false (p := pre.length + (rest.length + 1) ≤ 9) (by omega), Bool.and_false, Bool.false_and, if_neg Bool.false_ne_true]
      · rw [if_neg (by omega), w64_next _ (by omega)]
        have x1 : wrap64 (10 * ((numD pre : Nat) : Int)) = 10 * ((numD pre : Nat) : Int) := w64_in (10 * ((numD pre : Nat) : Int)) (by omega)
        have x2 : wrap64 (10 * ((numD pre : Nat) : Int) + (((c.toNat : Int) - 48) % 256)) = ((numD (pre ++ [c]) : Nat) : Int) := by
          rw [w64_in (10 * ((numD pre : Nat) : Int) + (((c.toNat : Int) - 48) % 256)) (by omega), num_app]
          omega
        rw [x1, x2]
        clear x1 x2 hj
        have ih := rlen_l1 s hs rest (pre ++ [c]) k (by rw [e]; simp) (by omega) (by rw [List.all_append, hd, List.all_cons, hc]; rfl) (by simp; omega)
        rw [List.length_append, List.length_singleton] at ih
        rw [ih, show pre.length + 1 + rest.length = pre.length + (rest.length + 1) by omega]
theorem len_ref (k : Nat) (l : List S61) (hS : Sized l) (hk : l.length * 8 + 300000 ≤ k) : bywashref1_Length.f k l = some (lenQ l) := by
  have hll := hS.len
  unfold bywashref1_Length.f
  rw [show (⟨#[99, 111, 110, 116, 101, 110, 116, 45, 108, 101, 110, 103, 116, 104]⟩ : ByteArray) = lenB from rfl, rfield_eq k lenB l (by omega) (by omega), Option.bind_some]
  unfold lenQ
  cases h : getP lenB l with
  | none => rfl
  | some s =>
    show (if true = true then bywashref1_Length.l0 k l s 0 else _) = some (if l.any (otherB s) || !digP s || decide ((s.size : Int) > 9) then (-1, 3) else (((numD s.toList : Nat) : Int), 0))
    obtain ⟨f, hf, hfs⟩ := getP_mem h
    have hsz : s.size ≤ 100000 := hfs ▸ (hS.sz f hf).2
    obtain ⟨m, rfl⟩ : ∃ m, k = l.length + (m + 1) := ⟨k - l.length - 1, by omega⟩
    have h1 := rlen_l0 l (by omega) s m l [] rfl
    rw [show (([] : List S61).length : Int) = 0 from rfl] at h1
    rw [if_pos (Eq.refl true), h1]
    have hb := size_list s
    have h2 := rlen_l1 s (by omega) s.toList [] m rfl (by omega) rfl (by decide)
    rw [show (([] : List UInt8).length : Int) = 0 from rfl, show ((numD [] : Nat) : Int) = 0 from rfl, List.length_nil, Nat.zero_add, ← hb] at h2
    rw [h2]
    cases l.any (otherB s)
    · unfold digP
      rw [if_neg Bool.false_ne_true, Bool.false_or]
      by_cases h9 : s.size ≤ 9
      · rw [decide_eq_true h9, decide_eq_false (p := (s.size : Int) > 9) (by omega)]
        cases s.toList.all isDig <;> cases (s.toList == []) <;> rfl
      · rw [decide_eq_false h9, decide_eq_true (p := (s.size : Int) > 9) (by omega)]
        cases s.toList.all isDig <;> cases (s.toList == []) <;> rfl
    · rfl
end Go.Proofs.YtififgiicpdndaaGreatDoor.Fw
/- FieldLacks. -/
namespace Go.Proofs.YtififgiicpdndaaGreatDoor.Fw
open Go.RowKit Go.Proofs.YtififgiicpdndaaGreatDoor.XMi Go.Proofs.YtififgiicpdndaaGreatDoorW.PrintWords Go.Proofs.YtififgiicpdndaaGreatDoorW.PrintLast Go.Proofs.YtififgiicpdndaaGreatDoorW.PrintMore Go.Proofs.YtififgiicpdndaaGreatDoor.Ms
theorem FR.some {w : World} {base n c : Nat} {A : Option Addr} {l : List S61} (h : FR w base A n c l) (hn : 0 < n) : ∃ g cur, A = Option.some ⟨g, 0, none⟩ ∧ base ≤ g ∧ w.heap[g]? = Option.some (.cells cur 61 (0, 0)) ∧ n ≤ c ∧ c ≤ maxLen ∧ cur.size = c * 2 ∧ cur.toList.take (n * 2) = fcells l := by
  obtain ⟨rfl, h1, h2⟩ := h
  rcases h2 with ⟨e, h0⟩ | ⟨g, cap, cur, e, hb, hh, hnc, hcm, hcs, ht⟩
  · omega
  · injection e with e1 e2 e3
    subst e1; subst e3
    exact ⟨g, cur, rfl, hb, hh, hnc, hcm, hcs, ht⟩
theorem heap_put {w : World} {g : Nat} {cur : Array Value} {t : TypeId} {fr : Nat × Nat} (h : w.heap[g]? = some (.cells cur t fr)) (i : Nat) (v : Value) (hi : i < cur.size) : (w.setCell ⟨g, i, none⟩ v).heap[g]? = some (.cells (cur.set i v hi) t fr) := by
  simp only [World.setCell, Array.getElem?_modify, if_pos, h]
  simp [Array.setIfInBounds, hi]
theorem fcells_set : ∀ (l : List S61) (k : Nat) (x : S61) (v : ByteArray), l[k]? = some x → (fcells l).set (k * 2 + 1) (.string v) = fcells (l.set k ⟨x.f0, v⟩)
  | [], k, x, v, h => by simp at h
  | y :: l, 0, x, v, h => by
    obtain rfl := Option.some.inj h
    rfl
  | y :: l, k + 1, x, v, h => by
    have := fcells_set l k x v (by simpa using h)
    rw [show (k + 1) * 2 + 1 = k * 2 + 1 + 1 + 1 by omega]
    simp [fcells, this]
theorem FR.put1 {w : World} {base n c g : Nat} {l : List S61} (h : FR w base (Option.some ⟨g, 0, none⟩) n c l) (k : Nat) (x : S61) (hk : l[k]? = Option.some x) (v : ByteArray) : FR (w.setCell ⟨g, k * 2 + 1, none⟩ (.string v)) base (Option.some ⟨g, 0, none⟩) n c (l.set k ⟨x.f0, v⟩) := by
  have hkl : k < l.length := (List.getElem?_eq_some_iff.1 hk).1
  have hn := h.1
  obtain ⟨g', cur, e, hb, hh, hnc, hcm, hcs, ht⟩ := h.some (by omega)
  obtain rfl : g = g' := by injection e with e; injection e
  have hi : k * 2 + 1 < cur.size := by rw [hcs]; omega
  refine ⟨by rw [List.length_set]; exact hn, by rw [fcells_len, List.length_set, hn], .inr ⟨g, c, _, rfl, hb, heap_put hh _ _ hi, hnc, hcm, by rw [Array.size_set]; exact hcs, ?_⟩⟩
  rw [Array.toList_set, List.take_set, ht]
  exact fcells_set l k x v hk
theorem cell_own {w : World} {g i : Nat} {cur : Array Value} {t : TypeId} (h : w.heap[g]? = some (.cells cur t (0, 0))) (hi : i < cur.size) : ∃ u, w.cell? ⟨g, i, none⟩ = some u ∧ w.frozen? ⟨g, i, none⟩ = false := by
  refine ⟨cur[i], cells_of_heap h i _ (Array.getElem?_eq_getElem hi), ?_⟩
  simp [World.frozen?, h]
theorem first_below {w w4 w5 : World} (h : Below w.heap.size w w4) (hb : Below w4.drew.heap.size w4.drew w5) : Below w.heap.size w w5 := below_step (below_drew h) hb
end Go.Proofs.YtififgiicpdndaaGreatDoor.Fw
