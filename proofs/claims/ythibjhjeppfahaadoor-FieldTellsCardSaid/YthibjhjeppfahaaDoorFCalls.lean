/- The contracts of the fields' functions in plain words. -/
import Derived.Test.YthibjhjeppfahaaDoorFPure
namespace Go.Proofs.YthibjhjeppfahaaDoor.Fw
open Go.RowKit Go.Proofs.YthibjhjeppfahaaDoor.XFi Go.Proofs.YthibjhjeppfahaaDoorW.PrintWords Go.Proofs.YthibjhjeppfahaaDoorW.PrintLast Go.Proofs.YthibjhjeppfahaaDoorW.PrintMore Go.Proofs.YthibjhjeppfahaaDoor.Ms
def Sz (f : S26) : Prop := f.f0.size ≤ 100000 ∧ f.f1.size ≤ 100000
structure Sized (l : List S26) : Prop where
  len : l.length ≤ 100000
  sz : ∀ f ∈ l, Sz f
def walkQ (names : List ByteArray) : List S26 → List (ByteArray × ByteArray) → Bool → Option (List (ByteArray × ByteArray)) × Int
  | [], said, _ => (some said, 0)
  | f :: l, said, plain =>
    if (!memP names f.f0 && !nameP f.f0 || forbP f) = true then (none, 6)
    else if valueP f.f1 = false then (none, 3)
    else if (memP names f.f0 && (plain || (Ms.look said f.f0).isSome)) = true then (none, 7)
    else if memP names f.f0 = true then walkQ names l ((f.f0, f.f1) :: said) plain
    else walkQ names l said true
theorem fit_of {k : Nat} (hk : 100003 ≤ k) {names : List ByteArray} (hn : names.length ≤ 1000) {f : S26} (h : Sz f) : Fit1 k names f ∧ nameB k f.f0 = nameP f.f0 ∧ valueB k f.f1 = valueP f.f1 ∧ forbB k f = forbP f ∧ colonB k names f.f0 = memP names f.f0 := by
  obtain ⟨h0, h1⟩ := h
  have e1 := name_eq k f.f0 (by omega) (by omega)
  have e2 := value_eq k f.f1 (by omega) (by omega)
  have e3 := forb_eq k f (by omega)
  have e4 := mem_eq k names f.f0 hn (by omega)
  refine ⟨⟨?_, ?_, ?_, ?_, by omega, by omega⟩, ?_, ?_, ?_, ?_⟩
  · unfold nameB; rw [e1]; rfl
  · unfold valueB; rw [e2]; rfl
  · unfold forbB; rw [e3]; rfl
  · unfold colonB; rw [e4]; rfl
  · unfold nameB; rw [e1]; rfl
  · unfold valueB; rw [e2]; rfl
  · unfold forbB; rw [e3]; rfl
  · unfold colonB; rw [e4]; rfl
theorem walk_eq {k : Nat} (hk : 100003 ≤ k) {names : List ByteArray} (hn : names.length ≤ 1000) : ∀ (l : List S26) (said : List (ByteArray × ByteArray)) (plain : Bool), (∀ f ∈ l, Sz f) → walkP k names l said plain = walkQ names l said plain
  | [], _, _, _ => rfl
  | f :: l, said, plain, h => by
    obtain ⟨_, e1, e2, e3, e4⟩ := fit_of hk hn (h f (by simp))
    have ih := fun said plain => walk_eq hk hn l said plain (fun x hx => h x (by simp [hx]))
    unfold walkP walkQ
    rw [e1, e2, e3, e4, ih, ih]
theorem walkQ_mem (names : List ByteArray) : ∀ (l : List S26) (said : List (ByteArray × ByteArray)) (plain : Bool) (m : List (ByteArray × ByteArray)) (n : Int), walkQ names l said plain = (some m, n) → ∀ p ∈ m, p ∈ said ∨ ∃ f ∈ l, p = (f.f0, f.f1)
  | [], said, _, m, n, h, p, hp => by
    unfold walkQ at h
    injection h with h1 h2
    injection h1 with h1
    subst h1
    exact .inl hp
  | f :: l, said, plain, m, n, h, p, hp => by
    unfold walkQ at h
    split at h
    · cases h
    · split at h
      · cases h
      · split at h
        · cases h
        · split at h
          · rcases walkQ_mem names l _ _ m n h p hp with h | ⟨g, hg, e⟩
            · rcases List.mem_cons.1 h with h | h
              · exact .inr ⟨f, by simp, h⟩
              · exact .inl h
            · exact .inr ⟨g, by simp [hg], e⟩
          · rcases walkQ_mem names l _ _ m n h p hp with h | ⟨g, hg, e⟩
            · exact .inl h
            · exact .inr ⟨g, by simp [hg], e⟩
theorem look_mem : ∀ (m : List (ByteArray × ByteArray)) (s v : ByteArray), Ms.look m s = some v → (s, v) ∈ m
  | [], _, _, h => by cases h
  | p :: m, s, v, h => by
    unfold Ms.look at h
    split at h
    · next e => injection h with h; subst h; subst e; simp
    · exact List.mem_cons_of_mem _ (look_mem m s v h)
theorem say_size {names : List ByteArray} {l : List S26} {m : List (ByteArray × ByteArray)} {n : Int} (h : walkQ names l [] false = (some m, n)) (hs : ∀ f ∈ l, Sz f) (s : ByteArray) : (sayB m s).size ≤ 100000 := by
  unfold sayB
  cases e : Ms.look m s with
  | none => exact Nat.zero_le _
  | some v =>
    rcases walkQ_mem names l [] false m n h _ (look_mem m s v e) with h | ⟨f, hf, e2⟩
    · cases h
    · injection e2 with e2 e3
      subst e3
      exact (hs f hf).2
def statP (s : ByteArray) : Bool := decide (s.size = 3) && digP s && !(Op.bytesLess s.toList [49, 48, 48]) && (Op.bytesLess s.toList [53, 57, 57] || s.toList == [53, 57, 57])
def respQ (l : List S26) : Int :=
  match walkQ [colStatus] l [] false with
  | (some m, _) => if statP (sayB m colStatus) then 0 else 3
  | (none, n) => n
def prefP (s : ByteArray) : Bool := s.toList.head? == some 47
def reqQ (l : List S26) : Int :=
  match walkQ reqNames l [] false with
  | (some m, _) => if reqNames.all (fun n => !((sayB m n).toList == [])) && prefP (sayB m pathB) then 0 else 3
  | (none, n) => n
def trailQ (l : List S26) : Int := (walkQ [] l [] false).2
theorem pref_eq (s : ByteArray) : strings_HasPrefix.f s ⟨#[47]⟩ = some (prefP s) := by
  unfold strings_HasPrefix.f stringslite_HasPrefix.f prefP
  have h1 : (⟨#[47]⟩ : ByteArray).size = 1 := rfl
  rw [h1]
  by_cases h : 1 ≤ s.size
  · rw [if_pos (by omega), if_pos (by omega), if_pos (by omega), Option.bind_some]
    congr 1
    have e : ((s.extract 0 (((1 : Nat) : Int)).toNat).toList) = s.data.toList.take 1 := by rw [show (((1 : Nat) : Int)).toNat = 1 from rfl, Go.Lib.extract_toList]; rfl
    rw [e, show (⟨#[47]⟩ : ByteArray).toList = [47] from toList_mk [47], Go.Lib.toList_data]
    have hl : 1 ≤ s.data.toList.length := by rw [← Go.Lib.toList_data, ← size_list]; exact h
    generalize s.data.toList = t at hl
    cases t with
    | nil => simp at hl
    | cons a t => simp
  · rw [if_neg (by omega)]
    have hl : s.toList.length = 0 := by rw [← size_list]; omega
    rw [List.length_eq_zero_iff.1 hl]
    rfl
theorem isDig_iff (c : UInt8) : isDig c = true ↔ 48 ≤ c.toNat ∧ c.toNat ≤ 57 := by
  unfold isDig
  rw [List.contains_iff_mem]
  have hc : ∀ n : Nat, n < 256 → (c = UInt8.ofNat n ↔ c.toNat = n) := fun n hn => by
    rw [← UInt8.toNat_inj]
    simp
    omega
  simp only [List.mem_cons, List.not_mem_nil, or_false]
  have e := fun n hn => hc n hn
  rw [show (48 : UInt8) = UInt8.ofNat 48 from rfl, show (49 : UInt8) = UInt8.ofNat 49 from rfl, show (50 : UInt8) = UInt8.ofNat 50 from rfl, show (51 : UInt8) = UInt8.ofNat 51 from rfl, show (52 : UInt8) = UInt8.ofNat 52 from rfl, show (53 : UInt8) = UInt8.ofNat 53 from rfl, show (54 : UInt8) = UInt8.ofNat 54 from rfl, show (55 : UInt8) = UInt8.ofNat 55 from rfl, show (56 : UInt8) = UInt8.ofNat 56 from rfl, show (57 : UInt8) = UInt8.ofNat 57 from rfl]
  rw [e 48 (by decide), e 49 (by decide), e 50 (by decide), e 51 (by decide), e 52 (by decide), e 53 (by decide), e 54 (by decide), e 55 (by decide), e 56 (by decide), e 57 (by decide)]
  omega
def numD (l : List UInt8) : Nat := l.foldl (fun a c => a * 10 + (c.toNat - 48)) 0
theorem dec_eq : ∀ (l : List UInt8) (acc : Nat), l.all isDig = true → Go.Lib.decFrom acc l = some (l.foldl (fun a c => a * 10 + (c.toNat - 48)) acc)
  | [], _, _ => rfl
  | c :: l, acc, h => by
    rw [List.all_cons, Bool.and_eq_true, isDig_iff] at h
    unfold Go.Lib.decFrom
    rw [show Go.Lib.digitVal c = some (c.toNat - 48) from if_pos h.1]
    exact dec_eq l _ h.2
theorem atoi_eq (s : ByteArray) (h : digP s = true) : Go.Lib.atoi s.data.toList = some ((numD s.toList : Nat) : Int) := by
  unfold digP at h
  rw [Bool.and_eq_true] at h
  rw [← Go.Lib.toList_data]
  unfold numD
  generalize s.toList = l at h ⊢
  cases l with
  | nil => cases h.1
  | cons c l =>
    have hc := h.2
    rw [List.all_cons, Bool.and_eq_true, isDig_iff] at hc
    unfold Go.Lib.atoi
    have h1 : (c == 45) = false := beq_eq_false_iff_ne.2 fun e => by rw [e] at hc; exact absurd hc.1.1 (by decide)
    have h2 : (c == 43) = false := beq_eq_false_iff_ne.2 fun e => by rw [e] at hc; exact absurd hc.1.1 (by decide)
    dsimp only
    rw [h1, h2]
    show (Go.Lib.decNat (c :: l)).map _ = _
    unfold Go.Lib.decNat
    rw [show (c :: l).isEmpty = false from rfl, dec_eq (c :: l) 0 h.2]
    rfl
def lenQ (l : List S26) : Int × Int :=
  match getP lenB l with
  | none => (-1, 0)
  | some s => if l.any (otherB s) || !digP s || decide ((s.size : Int) > 9) then (-1, 3) else (((numD s.toList : Nat) : Int), 0)
theorem getP_mem : ∀ {name : ByteArray} {l : List S26} {s : ByteArray}, getP name l = some s → ∃ f ∈ l, f.f1 = s
  | _, [], _, h => by cases h
  | name, f :: l, s, h => by
    unfold getP at h
    split at h
    · exact ⟨f, by simp, Option.some.inj h⟩
    · obtain ⟨g, hg, e⟩ := getP_mem h
      exact ⟨g, by simp [hg], e⟩
theorem name_c (s : ByteArray) (hs : s.size ≤ 1000000) (w : World) : Calls Tryd.prog 12 #[.string s] w fun e w' => e = .returned (.bool (nameP s)) ∧ Below w.heap.size w w' :=
  (field_Name.calls _ s _ w (name_eq (s.size + 3) s hs (Nat.le_refl _))).mono fun _ _ ⟨h1, h2⟩ => ⟨h1, h2.below⟩
theorem value_c (s : ByteArray) (hs : s.size ≤ 1000000) (w : World) : Calls Tryd.prog 16 #[.string s] w fun e w' => e = .returned (.bool (valueP s)) ∧ Below w.heap.size w w' :=
  field_Value.calls _ s _ w (value_eq (s.size + 1) s hs (Nat.le_refl _))
theorem get_c (name : ByteArray) {A : Option Addr} {l : List S26} {c : Nat} {w : World} (hS : Sized l) (hC : k26.C w A l.length l) (hc : l.length ≤ c) : Calls Tryd.prog 15 #[.string name, .slice A l.length c] w fun e w' => e = .returned (.tuple #[.string ((getP name l).getD ⟨#[]⟩), .bool (getP name l).isSome]) ∧ Below w.heap.size w w' :=
  field_Get.calls _ name A c l _ _ w hC hc (get_eq (l.length + 1) name l (by have := hS.len; omega) (Nat.le_refl _))
theorem trail_c {A : Option Addr} {l : List S26} {c : Nat} {w : World} (hS : Sized l) (hC : k26.C w A l.length l) : Calls Tryd.prog 27 #[.slice A l.length c] w fun e w' => e = .returned (.int .i64 (trailQ l)) ∧ Below w.heap.size w w' := by
  obtain ⟨k, hk⟩ : ∃ k, 100003 ≤ k := ⟨100003, Nat.le_refl _⟩
  have := trailers_calls k A l c w (by have := hS.len; omega) hC (fun f hf => (fit_of hk (by decide) (hS.sz f hf)).1)
  rw [walk_eq hk (by decide) l [] false hS.sz] at this
  exact this
theorem resp_c {A : Option Addr} {l : List S26} {c : Nat} {w : World} (hS : Sized l) (hC : k26.C w A l.length l) : Calls Tryd.prog 25 #[.slice A l.length c] w fun e w' => e = .returned (.int .i64 (respQ l)) ∧ Below w.heap.size w w' := by
  obtain ⟨k, hk⟩ : ∃ k, 100003 ≤ k := ⟨100003, Nat.le_refl _⟩
  have hw := walk_eq hk (names := [colStatus]) (by decide) l [] false hS.sz
  have hd : ∀ m, walkP k [colStatus] l [] false = (some m, 0) → field_digits.f (sayB m colStatus) = some (digP (sayB m colStatus)) := fun m hm => digits_eq _ (by have := say_size (hw ▸ hm) hS.sz colStatus; omega)
  have hdB : ∀ s, field_digits.f s = some (digP s) → digitsB s = digP s := fun s h => by unfold digitsB; rw [h]; rfl
  have := response_calls k A l c w (by have := hS.len; omega) hC (fun f hf => (fit_of hk (by decide) (hS.sz f hf)).1) (fun m hm => by
    have := hd m hm
    rw [show (Ms.look m colStatus).getD ⟨#[]⟩ = sayB m colStatus from rfl, hdB _ this]
    exact this)
  have e : respP k l = respQ l := by
    unfold respP respQ
    rcases walkP_cases k [colStatus] l [] false with ⟨m, hp⟩ | hp | hp | hp
    · have h1 := hdB _ (hd m hp)
      rw [← hw, hp]
      show respS (sayB m colStatus) = if statP (sayB m colStatus) then 0 else 3
      unfold respS statusP statP
      rw [h1]
    all_goals rw [← hw, hp]
  rw [e] at this
  exact this
theorem req_c {A : Option Addr} {l : List S26} {c : Nat} {w : World} (hS : Sized l) (hC : k26.C w A l.length l) : Calls Tryd.prog 13 #[.slice A l.length c] w fun e w' => e = .returned (.int .i64 (reqQ l)) ∧ Below w.heap.size w w' := by
  obtain ⟨k, hk⟩ : ∃ k, 100003 ≤ k := ⟨100003, Nat.le_refl _⟩
  have hw := walk_eq hk (names := reqNames) (by decide) l [] false hS.sz
  have hpB : ∀ s, prefB s = prefP s := fun s => by unfold prefB; rw [pref_eq]; rfl
  have := request_calls k A l c w (by have := hS.len; omega) hC (fun f hf => (fit_of hk (by decide) (hS.sz f hf)).1) (fun m _ => by rw [hpB]; exact pref_eq _)
  have e : reqP k l = reqQ l := by
    unfold reqP reqQ
    rw [← hw]
    rcases walkP_cases k reqNames l [] false with ⟨m, hp⟩ | hp | hp | hp
    · rw [hp]
      show reqS m reqNames = _
      unfold reqS
      rw [hpB]
    all_goals rw [hp]
  rw [e] at this
  exact this
theorem len_c {A : Option Addr} {l : List S26} {c : Nat} {w : World} (hS : Sized l) (hC : k26.C w A l.length l) (hc : l.length ≤ c) : Calls Tryd.prog 20 #[.slice A l.length c] w fun e w' => e = .returned (.tuple #[.int .i64 (lenQ l).1, .int .i64 (lenQ l).2]) ∧ Below w.heap.size w w' := by
  have hsz : ∀ s, getP lenB l = some s → digitsB s = digP s ∧ field_digits.f s = some (digP s) := fun s hs => by
    obtain ⟨f, hf, rfl⟩ := getP_mem hs
    have := digits_eq f.f1 (by have := (hS.sz f hf).2; omega)
    exact ⟨by unfold digitsB; rw [this]; rfl, this⟩
  have hN : ∀ s, digP s = true → lenN s = ((numD s.toList : Nat) : Int) := fun s h => by unfold lenN; rw [atoi_eq s h]; rfl
  have := length_calls (l.length + 1) A l c w (by have := hS.len; omega) hC hc (get_eq _ lenB l (by have := hS.len; omega) (Nat.le_refl _)) (fun s hs => by
    obtain ⟨h1, h2⟩ := hsz s hs
    rw [h1]
    exact ⟨h2, fun h _ => by rw [hN s h]; exact atoi_eq s h⟩)
  have e : lenP l = lenQ l := by
    unfold lenP lenQ
    cases h : getP lenB l with
    | none => rfl
    | some s =>
      show lenS l s = if l.any (otherB s) || !digP s || decide ((s.size : Int) > 9) then (-1, 3) else (((numD s.toList : Nat) : Int), 0)
      unfold lenS
      rw [(hsz s h).1]
      cases hd : digP s with
      | false => simp
      | true => rw [hN s hd]
  rw [e] at this
  exact this
end Go.Proofs.YthibjhjeppfahaaDoor.Fw
