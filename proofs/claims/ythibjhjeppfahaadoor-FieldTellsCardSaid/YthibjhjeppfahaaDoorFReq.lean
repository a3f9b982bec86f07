/- field.Request, Response, Trailers: contracts. -/
import Derived.Test.YthibjhjeppfahaaDoorFWalk
import Derived.Laws.Cover1
namespace Go.Proofs.YthibjhjeppfahaaDoor.Fw
open Go.RowKit Go.Proofs.YthibjhjeppfahaaDoor.XFi Go.Proofs.YthibjhjeppfahaaDoorW.PrintWords Go.Proofs.YthibjhjeppfahaaDoorW.PrintLast Go.Proofs.YthibjhjeppfahaaDoorW.PrintMore Go.Proofs.YthibjhjeppfahaaDoor.Ms
def colStatus : ByteArray := ⟨#[58, 115, 116, 97, 116, 117, 115]⟩
theorem walkP_cases (k : Nat) (names : List ByteArray) : ∀ (l : List S26) (said : List (ByteArray × ByteArray)) (plain : Bool), (∃ m, walkP k names l said plain = (some m, 0)) ∨ walkP k names l said plain = (none, 3) ∨ walkP k names l said plain = (none, 6) ∨ walkP k names l said plain = (none, 7)
  | [], said, _ => .inl ⟨said, rfl⟩
  | f :: l, said, plain => by
    unfold walkP
    split
    · exact .inr (.inr (.inl rfl))
    · split
      · exact .inr (.inl rfl)
      · split
        · exact .inr (.inr (.inr rfl))
        · split
          · exact walkP_cases k names l _ _
          · exact walkP_cases k names l _ _
theorem post_none {k : Nat} {names : List ByteArray} {l : List S26} {w w' : World} {e : Ending} {n : Int} (h : WalkPost k names l w e w') (hp : walkP k names l [] false = (none, n)) : e = .returned (.tuple #[.map none, .int .i64 n]) ∧ Below w.heap.size w w' := by
  unfold WalkPost at h
  rw [hp] at h
  obtain ⟨hb, mv, rfl, rfl⟩ := h
  exact ⟨rfl, hb⟩
theorem post_some {k : Nat} {names : List ByteArray} {l : List S26} {w w' : World} {e : Ending} {n : Int} {m : List (ByteArray × ByteArray)} (h : WalkPost k names l w e w') (hp : walkP k names l [] false = (some m, n)) : ∃ b, e = .returned (.tuple #[.map (some b), .int .i64 n]) ∧ Below w.heap.size w w' ∧ w.heap.size ≤ b ∧ SMap Tryd.prog 9 9 w' b m := by
  unfold WalkPost at h
  rw [hp] at h
  obtain ⟨hb, mv, rfl, b, rfl, h1, h2⟩ := h
  exact ⟨b, rfl, hb, h1, h2⟩
set_option maxHeartbeats 1600000 in
set_option maxRecDepth 20000 in
theorem trailers_calls (k : Nat) (A : Option Addr) (l : List S26) (c : Nat) (w : World) (hl : l.length ≤ 1000000000) (hC : k26.C w A l.length l) (hF : ∀ f ∈ l, Fit1 k [] f) :
    Calls Tryd.prog 27 #[.slice A l.length c] w fun e w' => e = .returned (.int .i64 (walkP k [] l [] false).2) ∧ Below w.heap.size w w' := by
  have HW : Aside0 (Calls Tryd.prog 31 #[.slice A l.length c, .slice none 0 0] w (WalkPost k [] l w)) := ⟨walk_calls k A l c none [] 0 w hl hC (Kd.C_nil _ _) (Nat.le_refl _) hF⟩
  clear hl hC hF
  go_enter Tryd.func27, Tryd.ntmps27
  go_wp2_with (first | (go_at_call 31; refine HW.out.mono ?_; rintro e w1 ⟨hb, mv, rfl, -⟩; have HB := Aside0.mk hb; clear hb))
  go_ret
  exact ⟨rfl, HB.out⟩
theorem strs_C (w : World) (xs : List ByteArray) (hn : xs.length ≤ 9223372036854775807) : Kd.C Kd.string (w.alloc (.cells (xs.map Value.string).toArray 9)) (some ⟨w.heap.size, 0, none⟩) xs.length xs := by
  refine ⟨rfl, hn, fun _ => ⟨_, rfl, fun j p hp => ⟨[.string p], rfl, rfl, fun i u hu => ?_⟩⟩⟩
  rcases i with _ | i
  · obtain rfl := Option.some.inj hu
    have e := heap_alloc_new w (.cells (xs.map Value.string).toArray 9)
    have e2 : (⟨w.heap.size, 0, none⟩ : Addr).add (j * Kd.string.sz + 0) = ⟨w.heap.size, j, none⟩ := by
      show (⟨w.heap.size, 0, none⟩ : Addr).add (j * 1 + 0) = _
      rw [Nat.mul_one]
      unfold Addr.add
      split
      · next h => rw [show j = 0 from h]
      · simp
    rw [e2]
    unfold World.cell?
    rw [show (⟨w.heap.size, j, none⟩ : Addr).block = w.heap.size from rfl, e]
    show (xs.map Value.string).toArray[j]? = _
    rw [List.getElem?_toArray, List.getElem?_map, hp]
    rfl
  · cases hu
def digitsB (s : ByteArray) : Bool := (field_digits.f s).getD false
/-- What Response says of the statuses' text. -/
def statusP (s : ByteArray) : Bool := decide (s.size = 3) && digitsB s && !(Op.bytesLess s.toList [49, 48, 48]) && (Op.bytesLess s.toList [53, 57, 57] || s.toList == [53, 57, 57])
def respS (s : ByteArray) : Int := if statusP s then 0 else 3
theorem respS_of {s : ByteArray} {b : Bool} (h : statusP s = b) : respS s = if b then 0 else 3 := by unfold respS; rw [h]
def respP (k : Nat) (l : List S26) : Int :=
  match walkP k [colStatus] l [] false with
  | (some m, _) => respS ((Ms.look m colStatus).getD ⟨#[]⟩)
  | (none, n) => n
set_option maxHeartbeats 1600000 in
set_option maxRecDepth 20000 in
theorem response_calls (k : Nat) (A : Option Addr) (l : List S26) (c : Nat) (w : World) (hl : l.length ≤ 1000000000) (hC : k26.C w A l.length l) (hF : ∀ f ∈ l, Fit1 k [colStatus] f) (hD : ∀ m, walkP k [colStatus] l [] false = (some m, 0) → field_digits.f ((Ms.look m colStatus).getD ⟨#[]⟩) = some (digitsB ((Ms.look m colStatus).getD ⟨#[]⟩))) :
    Calls Tryd.prog 25 #[.slice A l.length c] w fun e w' => e = .returned (.int .i64 (respP k l)) ∧ Below w.heap.size w w' := by
  have HW : Aside0 (Calls Tryd.prog 31 #[.slice A l.length c, .slice (some ⟨w.heap.size, 0, none⟩) 1 1] (w.alloc (.cells #[.string colStatus] 9)) (WalkPost k [colStatus] l (w.alloc (.cells #[.string colStatus] 9)))) :=
    ⟨walk_calls k A l c _ [colStatus] 1 _ hl (Kd.C_alloc hC _) (strs_C w [colStatus] (by decide)) (Nat.le_refl _) hF⟩
  clear hl hC hF
  unfold respP
  rcases walkP_cases k [colStatus] l [] false with ⟨m, hp⟩ | hp | hp | hp
  · have hD := hD m hp
    have HP := Aside0.mk hp
    rw [hp]
    clear hp
    show Calls _ _ _ _ fun e w' => e = .returned (.int .i64 (respS ((Ms.look m colStatus).getD ⟨#[]⟩))) ∧ Below w.heap.size w w'
    have hlk : ∀ w1 b, SMap Tryd.prog 9 9 w1 b m → (Instr.lookup 48 (.map (some b)) (.string ⟨#[58, 115, 116, 97, 116, 117, 115]⟩) false).run Tryd.prog w1 = .ok (.string ((Ms.look m colStatus).getD ⟨#[]⟩)) w1 := fun w1 b h => h.look (T := 48) Tryd.underlying9 Tryd.underlying48 Tryd.underlying9 (zero9 w1) colStatus (by decide) false
    generalize (Ms.look m colStatus).getD ⟨#[]⟩ = s at hD hlk ⊢
    have hst : ∀ a b c d e, decide (s.size = 3) = a → digitsB s = b → Op.bytesLess s.toList [49, 48, 48] = c → Op.bytesLess s.toList [53, 57, 57] = d → (s.toList == [53, 57, 57]) = e → statusP s = (a && b && !c && (d || e)) := fun a b c d e h1 h2 h3 h4 h5 => by unfold statusP; rw [h1, h2, h3, h4, h5]
    by_cases h3 : s.size = 3
    · have e3 : ((s.size : Int) != 3) = false := by simp; omega
      have hst := fun b c d e => hst _ b c d e (decide_eq_true h3)
      clear h3
      generalize digitsB s = dg at hD hst
      cases dg
      case false =>
        have HST := Aside0.mk (respS_of (b := false) (hst _ _ _ _ rfl rfl rfl rfl))
        clear hst
        rw [HST.out]
        go_enter Tryd.func25, Tryd.ntmps25
        go_wp2_with (first
          | (go_at_call 31; refine HW.out.mono ?_; rintro e w1 hx; obtain ⟨b, rfl, hb, _, hs⟩ := post_some hx HP.out; have hk1 := hlk w1 b hs; have hb := below_step (below_alloc (Below.refl _ _) _) hb; have HB := Aside0.mk hb; clear hb hx hs HW)
          | (go_at_call 37; refine (field_digits.calls s _ _ hD).mono ?_; rintro e w2 ⟨rfl, hb2⟩; have hb2 := below_step HB.out hb2; clear HB; have HB := Aside0.mk hb2; clear hb2))
        go_ret
        exact ⟨rfl, HB.out⟩
      case true =>
        generalize hl1 : Op.bytesLess s.toList [49, 48, 48] = l1 at hst
        generalize hl2 : Op.bytesLess s.toList [53, 57, 57] = l2 at hst
        generalize hl3 : (s.toList == [53, 57, 57]) = l3 at hst
        cases l1 <;> cases l2 <;> cases l3
        all_goals
          have HST := Aside0.mk (respS_of (hst _ _ _ _ rfl rfl rfl rfl))
          clear hst
          rw [HST.out]
          go_enter Tryd.func25, Tryd.ntmps25
          go_wp2_with (first
            | (go_at_call 31; refine HW.out.mono ?_; rintro e w1 hx; obtain ⟨b, rfl, hb, _, hs⟩ := post_some hx HP.out; have hk1 := hlk w1 b hs; have hb := below_step (below_alloc (Below.refl _ _) _) hb; have HB := Aside0.mk hb; clear hb hx hs HW)
            | (go_at_call 37; refine (field_digits.calls s _ _ hD).mono ?_; rintro e w2 ⟨rfl, hb2⟩; have hb2 := below_step HB.out hb2; clear HB; have HB := Aside0.mk hb2; clear hb2))
          go_ret
          exact ⟨rfl, HB.out⟩
    · have e3 : ((s.size : Int) != 3) = true := by simp; omega
      have HST := Aside0.mk (respS_of (hst _ _ _ _ _ (decide_eq_false h3) rfl rfl rfl rfl))
      clear hst h3
      rw [HST.out]
      go_enter Tryd.func25, Tryd.ntmps25
      go_wp2_with (first
      | (go_at_call 31; refine HW.out.mono ?_; rintro e w1 hx; obtain ⟨b, rfl, hb, _, hs⟩ := post_some hx HP.out; have hk1 := hlk w1 b hs; have hb := below_step (below_alloc (Below.refl _ _) _) hb; have HB := Aside0.mk hb; clear hb hx hs HW)
      | (go_at_call 37; refine (field_digits.calls s _ _ hD).mono ?_; rintro e w2 ⟨rfl, hb2⟩; have hb2 := below_step HB.out hb2; clear HB; have HB := Aside0.mk hb2; clear hb2))
      go_ret
      exact ⟨rfl, HB.out⟩
  all_goals
    have HP := Aside0.mk hp
    rw [hp]
    clear hp hD
    go_enter Tryd.func25, Tryd.ntmps25
    go_wp2_with (first | (go_at_call 31; refine HW.out.mono ?_; rintro e w1 hx; obtain ⟨rfl, hb⟩ := post_none hx HP.out; have HB := Aside0.mk hb; clear hb hx HW))
    go_ret
    exact ⟨rfl, below_step (below_alloc (Below.refl _ _) _) HB.out⟩
end Go.Proofs.YthibjhjeppfahaaDoor.Fw
