/- field.Request: the contract. -/
import Derived.Test.YthibjhjeppfahaaDoorFReq
namespace Go.Proofs.YthibjhjeppfahaaDoor.Fw
open Go.RowKit Go.Proofs.YthibjhjeppfahaaDoor.XFi Go.Proofs.YthibjhjeppfahaaDoorW.PrintWords Go.Proofs.YthibjhjeppfahaaDoorW.PrintLast Go.Proofs.YthibjhjeppfahaaDoorW.PrintMore Go.Proofs.YthibjhjeppfahaaDoor.Ms
def pathB : ByteArray := ⟨#[58, 112, 97, 116, 104]⟩
def reqNames : List ByteArray := [⟨#[58, 109, 101, 116, 104, 111, 100]⟩, ⟨#[58, 115, 99, 104, 101, 109, 101]⟩, ⟨#[58, 97, 117, 116, 104, 111, 114, 105, 116, 121]⟩, pathB]
def sayB (m : List (ByteArray × ByteArray)) (s : ByteArray) : ByteArray := (Ms.look m s).getD ⟨#[]⟩
def prefB (s : ByteArray) : Bool := (strings_HasPrefix.f s ⟨#[47]⟩).getD false
def reqS (m : List (ByteArray × ByteArray)) (names : List ByteArray) : Int := if names.all (fun n => !((sayB m n).toList == [])) && prefB (sayB m pathB) then 0 else 3
def reqP (k : Nat) (l : List S26) : Int :=
  match walkP k reqNames l [] false with
  | (some m, _) => reqS m reqNames
  | (none, n) => n
theorem str_at {w : World} {A : Option Addr} {names : List ByteArray} (h : Kd.C Kd.string w A names.length names) (i : Nat) (hi : i < names.length) : ∃ ad, A = some ad ∧ w.cell? (ad.add i) = some (.string names[i]) := by
  obtain ⟨ad, c, e, _, hK, hc⟩ := Kd.C_get h ⟨#[]⟩ (i : Int) (by omega) (by omega)
  have hc0 := hc 0 (.string (names.getD i ⟨#[]⟩)) (by rw [show c = [.string (names.getD (i : Int).toNat ⟨#[]⟩)] from hK]; rfl)
  rw [show (i : Int).toNat * Kd.string.sz + 0 = i from Nat.mul_one i, List.getD_eq_getElem?_getD, List.getElem?_eq_getElem hi] at hc0
  exact ⟨ad, e, hc0⟩
theorem add0 (b j : Nat) : (⟨b, 0, none⟩ : Addr).add j = ⟨b, j, none⟩ := by
  unfold Addr.add
  split
  · next h => rw [show j = 0 from h]
  · simp
set_option maxHeartbeats 1600000 in
set_option maxRecDepth 20000 in
theorem request_calls (k : Nat) (A : Option Addr) (l : List S26) (c : Nat) (w : World) (hl : l.length ≤ 1000000000) (hC : k26.C w A l.length l) (hF : ∀ f ∈ l, Fit1 k reqNames f) (hD : ∀ m, walkP k reqNames l [] false = (some m, 0) → strings_HasPrefix.f (sayB m pathB) ⟨#[47]⟩ = some (prefB (sayB m pathB))) :
    Calls Tryd.prog 13 #[.slice A l.length c] w fun e w' => e = .returned (.int .i64 (reqP k l)) ∧ Below w.heap.size w w' := by
  have HW : Aside0 (Calls Tryd.prog 31 #[.slice A l.length c, .slice (some ⟨w.heap.size, 0, none⟩) 4 4] (w.alloc (.cells #[.string ⟨#[58, 109, 101, 116, 104, 111, 100]⟩, .string ⟨#[58, 115, 99, 104, 101, 109, 101]⟩, .string ⟨#[58, 97, 117, 116, 104, 111, 114, 105, 116, 121]⟩, .string ⟨#[58, 112, 97, 116, 104]⟩] 9)) (WalkPost k reqNames l (w.alloc (.cells #[.string ⟨#[58, 109, 101, 116, 104, 111, 100]⟩, .string ⟨#[58, 115, 99, 104, 101, 109, 101]⟩, .string ⟨#[58, 97, 117, 116, 104, 111, 114, 105, 116, 121]⟩, .string ⟨#[58, 112, 97, 116, 104]⟩] 9)))) :=
    ⟨walk_calls k A l c _ reqNames 4 _ hl (Kd.C_alloc hC _) (strs_C w reqNames (by decide)) (Nat.le_refl _) hF⟩
  have HN : Aside0 (Kd.C Kd.string (w.alloc (.cells #[.string ⟨#[58, 109, 101, 116, 104, 111, 100]⟩, .string ⟨#[58, 115, 99, 104, 101, 109, 101]⟩, .string ⟨#[58, 97, 117, 116, 104, 111, 114, 105, 116, 121]⟩, .string ⟨#[58, 112, 97, 116, 104]⟩] 9)) (some ⟨w.heap.size, 0, none⟩) reqNames.length reqNames) := ⟨strs_C w reqNames (by decide)⟩
  clear hl hC hF
  unfold reqP
  rcases walkP_cases k reqNames l [] false with ⟨m, hp⟩ | hp | hp | hp
  · have hD := hD m hp
    have HP := Aside0.mk hp
    rw [hp]
    clear hp
    show Calls _ _ _ _ fun e w' => e = .returned (.int .i64 (reqS m reqNames)) ∧ Below w.heap.size w w'
    have hlk : ∀ w1 b s, SMap Tryd.prog 9 9 w1 b m → s.size ≤ maxLen → (Instr.lookup 48 (.map (some b)) (.string s) false).run Tryd.prog w1 = .ok (.string (sayB m s)) w1 := fun w1 b s h hs => h.look (T := 48) Tryd.underlying9 Tryd.underlying48 Tryd.underlying9 (zero9 w1) s hs false
    have hnm : Aside0 (reqNames.length = 4 ∧ ∀ x ∈ reqNames, x.size ≤ maxLen) := ⟨by decide⟩
    have HR : Aside0 (reqS m reqNames = if reqNames.all (fun n => !((sayB m n).toList == [])) && prefB (sayB m pathB) then 0 else 3) := ⟨rfl⟩
    generalize reqNames = names at HW HN HP hnm HR ⊢
    generalize reqS m names = r at HR ⊢
    go_enter Tryd.func13, Tryd.ntmps13
    go_wp2_with (first
      | (go_at_call 31; refine HW.out.mono ?_; rintro e w1 hx; obtain ⟨b, rfl, hb, _, hs⟩ := post_some hx HP.out; have HS := Aside0.mk hs; have HN1 := Aside0.mk (Kd.C_below HN.out hb); have hb := below_step (below_alloc (Below.refl _ _) _) hb; have HB := Aside0.mk hb; clear hb hx hs HW))
    have hD : strings_HasPrefix.f (sayB m pathB) ⟨#[47]⟩ = some (prefB (sayB m pathB)) := hD
    have HD := Aside0.mk hD
    have hkp := hlk w1 b ⟨#[58, 112, 97, 116, 104]⟩ HS.out (by decide)
    have hkp : (Instr.lookup 48 (.map (some b)) (.string ⟨#[58, 112, 97, 116, 104]⟩) false).run Tryd.prog w1 = .ok (.string (sayB m pathB)) w1 := hkp
    have hlk := fun s hs => hlk w1 b s HS.out hs
    clear hD
    generalize prefB (sayB m pathB) = pf at HR HD
    go_loopg [20] 5 (fun kq v20 w' => ∃ i : Nat, v20 = .int .i64 i ∧ w' = w1 ∧ Aside0 (i ≤ 4 ∧ i + kq = 5 ∧ ∀ n ∈ names.take i, (sayB m n).toList ≠ []))
    case atStart => exact ⟨0, rfl, rfl, ⟨by omega, by omega, by simp⟩⟩
    case round =>
      obtain ⟨i, rfl, rfl, HJ⟩ := hrel
      by_cases hi : i < 4
      · have HI := Aside0.mk hi
        have e1 : decide ((i : Int) < (4 : Int)) = true := decide_eq_true (by omega)
        have hin : i < names.length := by rw [hnm.out.1]; exact hi
        obtain ⟨ad, hA, k0⟩ := str_at HN1.out i hin
        cases hA
        rw [add0] at k0
        have p1 : (0 : Int) ≤ (i : Int) := by omega
        have p2 : (i : Int) < (4 : Int) := by omega
        have hwi : wrap64 ((i : Int) + 1) = (i : Int) + 1 := w64_in ((i : Int) + 1) (by omega)
        have hk1 := hlk names[i] (hnm.out.2 _ (List.getElem_mem hin))
        have HNX : Aside0 (∀ n ∈ names.take (i + 1), n ∈ names.take i ∨ n = names[i]) := ⟨fun n hn => by
          rw [List.take_succ_eq_append_getElem hin] at hn
          rcases List.mem_append.1 hn with h | h
          · exact .inl h
          · exact .inr (List.mem_singleton.1 h)⟩
        have HM : Aside0 (names[i] ∈ names) := ⟨List.getElem_mem hin⟩
        generalize names[i] = x at k0 hk1 HNX HM
        clear hi hin hlk hkp
        generalize hq : ((sayB m x).toList == []) = q
        have HQ := Aside0.mk hq
        cases q
        case true =>
          have HR3 : Aside0 (r = 3) := ⟨by
            rw [HR.out, if_neg]
            intro h
            rw [Bool.and_eq_true, List.all_eq_true] at h
            have := h.1 x HM.out
            rw [HQ.out] at this
            cases this⟩
          go_wp2
          go_ret
          exact ⟨by rw [HR3.out]; rfl, HB.out⟩
        case false =>
          go_wp2
          go_roundg (gk - 1)
          case measure => have := HJ.out; have := HI.out; omega
          case rel => exact ⟨i + 1, by first | rfl | (rw [hwi]; rfl), rfl, ⟨by have := HI.out; omega, by have := HJ.out; have := HI.out; omega, fun n hn => by
            rcases HNX.out n hn with h | rfl
            · exact HJ.out.2.2 n h
            · exact beq_eq_false_iff_ne.1 HQ.out⟩⟩
      · obtain rfl : i = 4 := by have := HJ.out.1; omega
        have HA : Aside0 ((names.all fun n => !((sayB m n).toList == [])) = true) := ⟨by
          rw [List.all_eq_true]
          intro n hn
          have := HJ.out.2.2 n (by rw [List.take_of_length_le (Nat.le_of_eq hnm.out.1)]; exact hn)
          rw [beq_eq_false_iff_ne.2 this]
          rfl⟩
        have HR := Aside0.mk (HR.out.trans (by rw [HA.out, Bool.true_and]))
        have e1 : decide (((4 : Nat) : Int) < (4 : Int)) = false := by decide
        clear hi HJ hlk
        cases pf
        all_goals
          go_wp2_with (first | (go_at_call 32; refine (strings_HasPrefix.calls _ _ _ _ HD.out).mono ?_; rintro e w2 ⟨rfl, hd⟩; have HB2 := Aside0.mk (below_step HB.out hd.below); clear hd))
          go_ret
          exact ⟨by rw [HR.out]; rfl, HB2.out⟩
  all_goals
    have HP := Aside0.mk hp
    rw [hp]
    clear hp hD
    go_enter Tryd.func13, Tryd.ntmps13
    go_wp2_with (first | (go_at_call 31; refine HW.out.mono ?_; rintro e w1 hx; obtain ⟨rfl, hb⟩ := post_none hx HP.out; have HB := Aside0.mk hb; clear hb hx HW))
    go_ret
    exact ⟨rfl, below_step (below_alloc (Below.refl _ _) _) HB.out⟩
end Go.Proofs.YthibjhjeppfahaaDoor.Fw
