/- MessageLengths. -/
import Derived.Test.YtififgiicpdndaaDoorMsgDig
import Derived.Test.YtififgiicpdndaaDoorWSized
namespace Go.Proofs.YtififgiicpdndaaDoor.Fw
open Go.RowKit Go.Proofs.YtififgiicpdndaaDoor.XMi Go.Proofs.YtififgiicpdndaaDoorW.PrintWords Go.Proofs.YtififgiicpdndaaDoorW.PrintLast Go.Proofs.YtififgiicpdndaaDoorW.PrintMore Go.Proofs.YtififgiicpdndaaDoor.Ms Go.Proofs.YtififgiicpdndaaDoor.Ob
def postB : ByteArray := ⟨#[80, 79, 83, 84]⟩
def lsS (F : List S30) (said n : Int) : MS := ⟨postB, ⟨201, F, [], said, n, false⟩, false⟩
def lsB (F : List S30) (said n : Int) : MS := ⟨postB, ⟨201, F, [], said, n, false⟩, true⟩
def lsD (F : List S30) (said n : Int) : MS := ⟨postB, ⟨201, F, [], said, n, true⟩, false⟩
theorem st201 : stF 201 = ⟨colStatus, ⟨#[50, 48, 49]⟩⟩ := by kernel_rfl
theorem ls_head (m : Nat) (h : m ≤ 100000) : ∃ F, headP (newP ⟨#[80, 79, 83, 84]⟩) false [⟨colStatus, ⟨#[50, 48, 49]⟩⟩, ⟨lenB, ⟨(digsF 6 m).toArray⟩⟩] = (0, lsS F m 0) := by
  have e : ([⟨colStatus, ⟨#[50, 48, 49]⟩⟩, ⟨lenB, ⟨(digsF 6 m).toArray⟩⟩] : List S30) = [stF 201, clF m] := by rw [st201]; rfl
  rw [e]
  refine ⟨others [stF 201, clF m], ?_⟩
  show headP (newP postB) false [stF 201, clF m] = _
  rw [head_first (s := newP postB) rfl rfl false (by rw [st_resp 201 _ (cl_trail m), if_pos (by omega)]) (by rw [st_num 201 (by omega)]; omega)]
  rw [stcl_len 201 m (by omega), st_num 201 (by omega)]
  unfold toldP
  rw [if_neg (fun h => h rfl)]
  have hl : longP postB ⟨((201 : Nat) : Int), others [stF 201, clF m], [], (m : Int), 0, false⟩ false = true := by
    unfold longP
    by_cases h0 : (m : Int) < 0 ∨ (0 : Int) = m
    · rw [if_pos h0]
    · rw [if_neg h0, if_neg (show ¬ ((0 : Int) > m) by omega)]
      rfl
  show (if longP postB ⟨((201 : Nat) : Int), others [stF 201, clF m], [], (m : Int), 0, false⟩ false = true then _ else _) = _
  rw [hl]
  rfl
theorem ls_long (F : List S30) (said n : Int) (h0 : 0 ≤ said) (d fin : Bool) : longP postB ⟨201, F, [], said, n, d⟩ fin = (decide (n = said) || (decide (n ≤ said) && !fin)) := by
  have hp : noBody postB 201 = false := by kernel_rfl
  unfold longP
  show (if said < 0 ∨ n = said then true else if n > said then false else !fin || (n == 0 && noBody postB 201)) = _
  rw [hp, Bool.and_false, Bool.or_false]
  by_cases h1 : n = said
  · rw [if_pos (.inr h1), decide_eq_true h1]; rfl
  · rw [if_neg (by omega), decide_eq_false h1]
    by_cases h2 : n > said
    · rw [if_pos h2, decide_eq_false (by omega)]; rfl
    · rw [if_neg h2, decide_eq_true (by omega)]; rfl
theorem ls_data (F : List S30) (said n k : Int) (h0 : 0 ≤ said) (hk : 0 ≤ k) (fin : Bool) : dataP (lsS F said n) k fin = if (decide (n + k = said) || (decide (n + k ≤ said) && !fin)) = true then (0, ⟨postB, ⟨201, F, [], said, n + k, fin⟩, false⟩) else (22, lsB F said n) := by
  unfold dataP
  rw [if_neg (show ¬ overP (lsS F said n) = true from Bool.false_ne_true), if_neg (show ¬ ((lsS F said n).a.status = 0) by show ¬ ((201 : Int) = 0); decide), if_neg (show ¬ k < 0 by omega)]
  unfold toldP
  rw [if_neg (fun h => h rfl)]
  show (if longP postB ⟨201, F, [], said, n + k, false⟩ fin = true then _ else _) = _
  rw [ls_long F said (n + k) h0]
  rfl
theorem ls_ok (F : List S30) (said n k : Int) (h0 : 0 ≤ said) (hk : 0 ≤ k) (h : n + k ≤ said) : dataP (lsS F said n) k false = (0, lsS F said (n + k)) := by
  rw [ls_data F said n k h0 hk, decide_eq_true h, if_pos (by simp)]
  rfl
theorem ls_more (F : List S30) (said n k : Int) (h0 : 0 ≤ said) (hk : 0 ≤ k) (h : ¬ n + k ≤ said) : dataP (lsS F said n) k false = (22, lsB F said n) := by
  rw [ls_data F said n k h0 hk, decide_eq_false h, decide_eq_false (by omega), if_neg (by simp)]
theorem ls_end (F : List S30) (said n : Int) (h0 : 0 ≤ said) (h : n = said) : dataP (lsS F said n) 0 true = (0, lsD F said (n + 0)) := by
  rw [ls_data F said n 0 h0 (by omega), decide_eq_true (show n + 0 = said by omega), if_pos (by simp)]
  rfl
theorem ls_few (F : List S30) (said n : Int) (h0 : 0 ≤ said) (h : ¬ n = said) : dataP (lsS F said n) 0 true = (22, lsB F said n) := by
  rw [ls_data F said n 0 h0 (by omega), decide_eq_false (show ¬ n + 0 = said by omega), if_neg (by simp)]
theorem ls_broken (F : List S30) (said n : Int) : dataP (lsB F said n) 0 true = (8, lsB F said n) := by
  unfold dataP
  rw [if_pos (show overP (lsB F said n) = true from rfl)]
def clamp (x : Int) : Int := min (max x 0) 100000
theorem clamp_in (x : Int) : 0 ≤ clamp x ∧ clamp x ≤ 100000 := by unfold clamp; omega
/-- A row of whole numbers that came in, as a row that is read. -/
theorem c_of_row {w : World} {a : Option Addr} {len cap : Nat} {zs : List Int} (h : (a = none ∧ len = 0 ∧ cap = 0 ∧ zs = []) ∨ ∃ x, a = some x ∧ len ≤ cap ∧ cap ≤ maxLen ∧ zs.length = cap ∧ (∀ i, i < zs.length → w.cell? (x.add i) = some (.int .i64 (zs.getD i 0))) ∧ ∀ n ∈ zs, (Lit.int .i64 n).wf = true) :
    ∃ l : List Int, l.length = len ∧ Kd.C (Kd.int .i64) w a l.length l := by
  rcases h with ⟨rfl, rfl, rfl, rfl⟩ | ⟨x, rfl, hl, hm, hz, hc, _⟩
  · exact ⟨[], rfl, rfl, Nat.zero_le _, fun h => absurd h (Nat.lt_irrefl _)⟩
  · have hlt : (zs.take len).length = len := by rw [List.length_take]; omega
    unfold maxLen at hm
    refine ⟨zs.take len, hlt, rfl, by rw [hlt]; omega, fun _ => ⟨x, rfl, fun j p hj => ⟨[.int .i64 p], rfl, rfl, fun i u hi => ?_⟩⟩⟩
    cases i with
    | succ i => cases hi
    | zero =>
      obtain rfl := Option.some.inj hi
      have hjl : j < len := by rw [← hlt]; exact (List.getElem?_eq_some_iff.1 hj).1
      have := hc j (by omega)
      rw [List.getElem?_take, if_pos hjl] at hj
      rw [List.getD_eq_getElem?_getD, hj] at this
      show w.cell? (x.add (j * 1 + 0)) = _
      rw [Nat.mul_one, Nat.add_zero]
      exact this
theorem int_at {w0 w : World} {A : Option Addr} {l : List Int} (hC : Kd.C (Kd.int .i64) w0 A l.length l) (hb : Below w0.heap.size w0 w) (j : Nat) (hj : j < l.length) : ∃ ad, A = some ad ∧ w.cell? (ad.add j) = some (.int .i64 l[j]) := by
  obtain ⟨_, _, h⟩ := Kd.C_below hC hb
  obtain ⟨ad, e, h⟩ := h (by omega)
  obtain ⟨cs, _, hk, hc⟩ := h j l[j] (List.getElem?_eq_getElem hj)
  obtain rfl : cs = [.int .i64 l[j]] := hk
  have := hc 0 _ rfl
  refine ⟨ad, e, ?_⟩
  rw [← this]
  show _ = w.cell? (ad.add (j * 1 + 0))
  rw [Nat.mul_one, Nat.add_zero]
theorem clamp_if (x : Int) : (if 100000 < (if x < 0 then 0 else x) then 100000 else (if x < 0 then 0 else x)) = clamp x := by
  unfold clamp
  split <;> split <;> omega
set_option maxHeartbeats 12800000 in
set_option maxRecDepth 20000 in
theorem lens_calls (said : Int) (A : Option Addr) (l : List Int) (c : Nat) (w : World) (hC : Kd.C (Kd.int .i64) w A l.length l) :
    Calls Tryd.prog 6 #[.int .i64 said, .slice A l.length c] w fun e w' => e = .returned (.bool true) ∧ Below w.heap.size w w' := by
  have HB := Aside0.mk (Below.refl w.heap.size w)
  have HC := Aside0.mk hC
  clear hC
  by_cases hg : said < 0 ∨ 100000 < said ∨ 30 < l.length
  · have hc : decide (said < 0) = true ∨ (decide (said < 0) = false ∧ decide (said > 100000) = true ∧ decide (100000 < said) = true) ∨ (decide (said < 0) = false ∧ decide (said > 100000) = false ∧ decide (100000 < said) = false ∧ decide (30 < l.length) = true ∧ decide (l.length > 30) = true ∧ decide ((l.length : Int) > 30) = true) := by
      simp only [decide_eq_true_eq, decide_eq_false_iff_not]
      omega
    clear hg
    rcases hc with e1 | ⟨e1, e2, e2b⟩ | ⟨e1, e2, e2b, e3, e3b, e3c⟩
    all_goals
      go_enter Tryd.func6, Tryd.ntmps6
      go_wp2_with (first
        | (go_at_call 10; refine (alive_c _).mono ?_; rintro e w1 ⟨rfl, hb⟩; have HB1 := Aside0.mk (below_step HB.out hb); clear hb))
      go_ret
      exact ⟨rfl, HB1.out⟩
  obtain ⟨m, rfl⟩ : ∃ m : Nat, said = (m : Int) := ⟨said.toNat, by omega⟩
  have e1 : decide ((m : Int) < 0) = false := decide_eq_false (by omega)
  have e2 : decide (100000 < (m : Int)) = false := decide_eq_false (by omega)
  have e2n : decide (100000 < m) = false := decide_eq_false (by omega)
  have e2g : decide ((m : Int) > 100000) = false := decide_eq_false (by omega)
  have e2h : decide (m > 100000) = false := decide_eq_false (by omega)
  have e3g : decide (l.length > 30) = false := decide_eq_false (by omega)
  have e3h : decide ((l.length : Int) > 30) = false := decide_eq_false (by omega)
  have e3 : decide (30 < l.length) = false := decide_eq_false (by omega)
  have e3i : decide (30 < (l.length : Int)) = false := decide_eq_false (by omega)
  have HM : Aside0 (m ≤ 100000) := ⟨by omega⟩
  have HL : Aside0 (l.length ≤ 30) := ⟨by omega⟩
  clear hg
  go_enter Tryd.func6, Tryd.ntmps6
  go_wp2_with (first
    | (go_at_call 10; refine (alive_c _).mono ?_; rintro e w1 ⟨rfl, hb⟩; have HB1 := Aside0.mk (below_step HB.out hb); clear hb))
  clear HB e1 e2 e2n e2g e2h e3g e3h
  go_loopg [6, 5] 7 (fun kq v6 v5 w' => ∃ (v : Nat) (d : List UInt8), v5 = .string ⟨d.toArray⟩ ∧ v6 = .int .i64 v ∧ Aside0 (1 ≤ kq ∧ v < 10 ^ (kq - 1) ∧ (d = [] → kq = 7) ∧ d.length + kq ≤ 7 ∧ fin (kq - 1) v d = digsF 6 m) ∧ Aside0 (Below w.heap.size w w'))
  case atStart => exact ⟨m, [], rfl, rfl, ⟨by omega, by have := HM.out; omega, fun _ => rfl, by simp, by simp [fin]⟩, HB1⟩
  case round =>
    obtain ⟨v, d, rfl, rfl, HJ, HW⟩ := hrel
    by_cases hv : v = 0 ∧ d ≠ []
    · obtain ⟨rfl, hd⟩ := hv
      have hd2 : d = digsF 6 m := by
        have := HJ.out.2.2.2.2
        unfold fin at this
        rw [if_pos ⟨rfl, hd⟩] at this
        exact this
      subst hd2
      have hde : ((⟨(digsF 6 m).toArray⟩ : ByteArray).toList == []) = false := by
        rw [toList_mk]
        exact beq_eq_false_iff_ne.2 hd
      have hde2 : ¬ (⟨(digsF 6 m).toArray⟩ : ByteArray).toList = [] := by
        rw [toList_mk]
        exact hd
      obtain ⟨F, hF⟩ := ls_head m HM.out
      have HH := Aside0.mk hF
      have HZ : Aside0 (Sized [⟨colStatus, ⟨#[50, 48, 49]⟩⟩, ⟨lenB, ⟨(digsF 6 m).toArray⟩⟩]) := ⟨by have := stcl_sized 201 m; rw [st201] at this; exact this⟩
      clear hd HJ hF
      generalize (⟨(digsF 6 m).toArray⟩ : ByteArray) = ds at hde hde2 HH HZ ⊢
      go_wp2_with (first
        | (go_at_call 12; refine (new_c ⟨#[80, 79, 83, 84]⟩ _).mono ?_; rintro e w3 ⟨rfl, hr, hb⟩; have HY := Aside0.mk HW.out.size; have HR3 := Aside0.mk hr; have HB3 := Aside0.mk (below_step HW.out hb); clear hr hb)
        | (go_at_call 13; refine (head_to (HR3.out.below (below_alloc (Below.refl _ _) _)) HH.out HZ.out (lit2 w3 colStatus ⟨#[50, 48, 49]⟩ lenB ds) (Nat.le_refl 2)).mono ?_; rintro e w4 ⟨rfl, ⟨Cf, cf, Ct, ct, hr⟩, hs⟩; have HR4 := Aside0.mk hr; have HB4 := Aside0.mk (stay_b hs (below_alloc HB3.out _) HY.out); clear hr hs HR3 HB3))
      clear e3 e3i hde hde2 HZ HH
      generalize wr.heap.size = g at HR4 HY ⊢
      go_loopg [8, 60] (l.length + 1) (fun kq v8 v60 w' => ∃ (j : Nat) (n : Int) (Af At : Option Addr) (cf ct : Nat), v8 = .int .i64 n ∧ v60 = .int .i64 j ∧ Aside0 (j + kq = l.length + 1 ∧ 1 ≤ kq) ∧ Aside0 (0 ≤ n ∧ n ≤ m) ∧ Aside0 (Rd w' g (lsS F m n) Af cf At ct) ∧ Aside0 (Below w.heap.size w w'))
      case atStart => exact ⟨0, 0, Cf, Ct, cf, ct, rfl, rfl, ⟨by omega, by omega⟩, ⟨by omega, by omega⟩, HR4, HB4⟩
      case round =>
        obtain ⟨j, n, Af, At, af, at_, rfl, rfl, HJ2, HN, HR5, HB5⟩ := hrel
        by_cases hj : j < l.length
        · have q : decide ((j : Int) < (l.length : Int)) = true := decide_eq_true (by omega)
          have q2 : decide (j < l.length) = true := decide_eq_true hj
          obtain ⟨ad, hA, c1⟩ := int_at HC.out HB5.out j hj
          obtain ⟨c, hc⟩ : ∃ c, c = clamp l[j] := ⟨_, rfl⟩
          have hcl : (if 100000 < (if l[j] < 0 then 0 else l[j]) then 100000 else (if l[j] < 0 then 0 else l[j])) = c := (clamp_if _).trans hc.symm
          have hcm : min (max l[j] 0) 100000 = c := hc.symm
          have hcr : 0 ≤ c ∧ c ≤ 100000 := by rw [hc]; exact clamp_in _
          have hw : wrap64 (n + c) = n + c := w64_in (n + c) (by have := HN.out; have := HM.out; omega)
          have hwj : wrap64 ((j : Int) + 1) = ((j + 1 : Nat) : Int) := w64_next j (by have := HL.out; omega)
          have p1 : (0 : Int) ≤ (j : Int) := by omega
          have p2 : (j : Int) < (l.length : Int) := by omega
          have HWJ := Aside0.mk hwj
          have HCR := Aside0.mk hcr
          have HJ3 := Aside0.mk hj
          subst hA
          generalize l[j] = x at c1 hc hcl hcm
          clear hc hj hcr
          by_cases hs : n + c ≤ m
          · have e5 : decide (n + c ≤ (m : Int)) = true := decide_eq_true hs
            have HD := Aside0.mk (ls_ok F m n c (by omega) HCR.out.1 hs)
            have HS2 := Aside0.mk hs
            clear hs
            go_wp2_with (first
              | (go_at_call 20; refine (data_to HR5.out HD.out (by have := HN.out; have := HCR.out; have := HM.out; show -9223372036854775808 ≤ n + c ∧ n + c ≤ 9223372036854775807; omega)).mono ?_; rintro e w6 ⟨rfl, ⟨Df, df, Dt, dt, hr⟩, hs⟩; have HR6 := Aside0.mk hr; have HB6 := Aside0.mk (stay_b hs HB5.out HY.out); clear hr hs HR5 HB5))
            go_roundg (gk - 1)
            case measure => have := HJ2.out; have := HJ3.out; omega
            case rel => exact ⟨j + 1, n + c, Df, Dt, df, dt, rfl, congrArg (Value.int .i64) HWJ.out, ⟨by have := HJ2.out; omega, by have := HJ2.out; have := HJ3.out; omega⟩, ⟨by have := HN.out; have := HCR.out; have := HS2.out; omega⟩, HR6, HB6⟩
          · have e5 : decide (n + c ≤ (m : Int)) = false := decide_eq_false hs
            have HD := Aside0.mk (ls_more F m n c (by omega) HCR.out.1 hs)
            clear hs
            go_wp2_with (first
              | (go_at_call 20; refine (data_to HR5.out HD.out (by have := HN.out; have := HCR.out; have := HM.out; show -9223372036854775808 ≤ n + c ∧ n + c ≤ 9223372036854775807; omega)).mono ?_; rintro e w6 ⟨rfl, ⟨Df, df, Dt, dt, hr⟩, hs⟩; have HR6 := Aside0.mk hr; have HB6 := Aside0.mk (stay_b hs HB5.out HY.out); clear hr hs HR5 HB5)
              | (go_at_call 20; refine (data_to HR6.out (ls_broken F m n) (by have := HN.out; have := HM.out; show -9223372036854775808 ≤ n + 0 ∧ n + 0 ≤ 9223372036854775807; omega)).mono ?_; rintro e w7 ⟨rfl, ⟨Ef, ef, Et, et, hr⟩, hs⟩; have HR7 := Aside0.mk hr; have HB7 := Aside0.mk (stay_b hs HB6.out HY.out); clear hr hs HR6 HB6)
              | (go_at_call 14; refine (done_c HR7.out).mono ?_; rintro e w8 ⟨rfl, hb⟩; have HB8 := Aside0.mk (below_step HB7.out hb); clear hb HR7 HB7))
            go_ret
            exact ⟨rfl, HB8.out⟩
        · have q : decide ((j : Int) < (l.length : Int)) = false := decide_eq_false (by omega)
          have q2 : decide (j < l.length) = false := decide_eq_false hj
          by_cases hs : n = m
          · have e5 : decide (n = (m : Int)) = true := decide_eq_true hs
            have e5b : (n == (m : Int)) = true := beq_iff_eq.2 hs
            have HD := Aside0.mk (ls_end F m n (by omega) hs)
            clear hs hj
            go_wp2_with (first
              | (go_at_call 20; refine (data_to HR5.out HD.out (by have := HN.out; have := HM.out; show -9223372036854775808 ≤ n + 0 ∧ n + 0 ≤ 9223372036854775807; omega)).mono ?_; rintro e w6 ⟨rfl, ⟨Df, df, Dt, dt, hr⟩, hs⟩; have HR6 := Aside0.mk hr; have HB6 := Aside0.mk (stay_b hs HB5.out HY.out); clear hr hs HR5 HB5)
              | (go_at_call 14; refine (done_c HR6.out).mono ?_; rintro e w8 ⟨rfl, hb⟩; have HB8 := Aside0.mk (below_step HB6.out hb); clear hb HR6 HB6))
            go_ret
            exact ⟨rfl, HB8.out⟩
          · have e5 : decide (n = (m : Int)) = false := decide_eq_false hs
            have e5b : (n == (m : Int)) = false := beq_eq_false_iff_ne.2 hs
            have HD := Aside0.mk (ls_few F m n (by omega) hs)
            clear hs hj
            go_wp2_with (first
              | (go_at_call 20; refine (data_to HR5.out HD.out (by have := HN.out; have := HM.out; show -9223372036854775808 ≤ n + 0 ∧ n + 0 ≤ 9223372036854775807; omega)).mono ?_; rintro e w6 ⟨rfl, ⟨Df, df, Dt, dt, hr⟩, hs⟩; have HR6 := Aside0.mk hr; have HB6 := Aside0.mk (stay_b hs HB5.out HY.out); clear hr hs HR5 HB5)
              | (go_at_call 14; refine (done_c HR6.out).mono ?_; rintro e w8 ⟨rfl, hb⟩; have HB8 := Aside0.mk (below_step HB6.out hb); clear hb HR6 HB6))
            go_ret
            exact ⟨rfl, HB8.out⟩
    · have HV := Aside0.mk hv
      have hz : ¬ (10 : Int) = 0 := by decide
      have hlen : d.length ≤ 6 := by have := HJ.out; omega
      have HR := Aside0.mk (round_dig HV.out HJ.out)
      by_cases h0 : v = 0
      · subst h0
        obtain rfl : d = [] := Classical.byContradiction fun h => HV.out ⟨rfl, h⟩
        have hcv : ∀ W : World, (convert 23 9 (.slice (some ⟨W.heap.size, 0, none⟩) 1 1)).run Tryd.prog (W.alloc (.cells #[.int .u8 48] 5)) = .ok (.string ⟨#[digC 0]⟩) (W.alloc (.cells #[.int .u8 48] 5)) := fun W => conv_digit W 0
        clear hv
        go_wp2
        go_roundg (gk - 1)
        case measure => have := HJ.out; omega
        case rel =>
          exact ⟨0, [digC 0], congrArg Value.string (cat_digit 0 []), rfl, HR, ⟨below_alloc HW.out _⟩⟩
      · have hcv : ∀ W : World, (convert 23 9 (.slice (some ⟨W.heap.size, 0, none⟩) 1 1)).run Tryd.prog (W.alloc (.cells #[.int .u8 (48 + (v : Int) % 10)] 5)) = .ok (.string ⟨#[digC v]⟩) (W.alloc (.cells #[.int .u8 (48 + (v : Int) % 10)] 5)) := fun W => conv_digit W v
        have ht1 : ((v : Int)).tmod 10 = (v : Int) % 10 := Int.tmod_eq_emod_of_nonneg (by omega)
        have ht2 : ((v : Int)).tdiv 10 = ((v / 10 : Nat) : Int) := by rw [Int.tdiv_eq_ediv_of_nonneg (by omega)]; omega
        have hp : decide (0 < v) = true := decide_eq_true (by omega)
        have hsz : ¬ 9223372036854775807 < 1 + d.length := by omega
        have HWR : Aside0 (wrap64 ((v : Int) / 10) = ((v / 10 : Nat) : Int)) := ⟨by rw [w64_in ((v : Int) / 10) (by have := HJ.out.2.1; have h9 : (10 : Nat) ^ (gk - 1) ≤ 10 ^ 6 := Nat.pow_le_pow_right (by decide) (by have := HJ.out; omega); omega)]; omega⟩
        have H0 := Aside0.mk h0
        clear hv h0 hlen
        go_wp2
        go_roundg (gk - 1)
        case measure => have := HJ.out; omega
        case rel =>
          exact ⟨v / 10, digC v :: d, congrArg Value.string (cat_digit v d), congrArg (Value.int .i64) HWR.out, HR, ⟨below_alloc HW.out _⟩⟩
end Go.Proofs.YtififgiicpdndaaDoor.Fw
