/- FieldTells. -/
import Derived.Test.YthibjhjeppfahaaDoorFTellsR
import Derived.Test.YthibjhjeppfahaaDoorFLacks
namespace Go.Proofs.YthibjhjeppfahaaDoor.Fw
open Go.RowKit Go.Proofs.YthibjhjeppfahaaDoor.XFi Go.Proofs.YthibjhjeppfahaaDoorW.PrintWords Go.Proofs.YthibjhjeppfahaaDoorW.PrintLast Go.Proofs.YthibjhjeppfahaaDoorW.PrintMore Go.Proofs.YthibjhjeppfahaaDoor.Ms
def markF : S26 := ⟨⟨#[109, 97, 114, 107]⟩, ⟨#[]⟩⟩
/-- A list that was lent: a mark stands in the room behind it. -/
def LentR (w : World) (base : Nat) (A : Option Addr) (c : Nat) (l : List S26) : Prop := FR w base A (l.length + 1) c (l ++ [markF])
theorem LentR.step {w w' : World} {base c : Nat} {A : Option Addr} {l : List S26} (h : LentR w base A c l) (hb : Below w.heap.size w w') : LentR w' base A c l := FR.step h hb
theorem LentR.c {w : World} {base c : Nat} {A : Option Addr} {l : List S26} (h : LentR w base A c l) (hl : l.length ≤ 1000000) : k26.C w A l.length l ∧ l.length ≤ c := by
  obtain ⟨h1, h2⟩ := FR.c h (by simp; omega)
  have h1' : k26.C w A (l ++ [markF]).length (l ++ [markF]) := by rw [List.length_append]; exact h1
  have h3 := Kd.C_take (m := l.length) h1' (by simp)
  rw [List.take_left'] at h3
  · exact ⟨h3, by omega⟩
  · rfl
set_option maxHeartbeats 800000 in
theorem copy_c {A : Option Addr} {l : List S26} {c : Nat} {w : World} (base : Nat) (hb : base ≤ w.heap.size) (hC : k26.C w A l.length l) (hl : l.length ≤ 100000) : Calls Tryd.prog 34 #[.slice A l.length c] w fun e w' => ∃ A' c', e = .returned (.slice A' l.length c') ∧ FR w' base A' l.length c' l ∧ Below base w w' := by
  have HC := Aside0.mk hC
  have HL := Aside0.mk (And.intro hl hb)
  clear hC hl hb
  go_enter Tryd.func34, Tryd.ntmps34
  go_wp2_with (first
    | ((with_reducible refine gate_builtin (b := .append) (xs := #[.const (.slice none 0 0), .tmp 3]) rfl ?_); at_builtin; refine list_app rfl (.const (.slice none 0 0)) (.tmp 3) rfl w base none A 0 0 l.length c [] l rfl rfl (FR.nil _ _) HC.out ?_ HL.out.2 (Below.refl _ _) ?_; (have := HL.out.1; simp; omega); intro A6 c6 w6 hF hb6 _; rw [Nat.zero_add, List.nil_append] at hF; have HF6 := Aside0.mk hF; have HB6 := Aside0.mk hb6; clear hF hb6))
  go_ret
  exact ⟨A6, c6, rfl, HF6.out, HB6.out⟩
set_option maxHeartbeats 800000 in
theorem lent_c {A : Option Addr} {l : List S26} {c : Nat} {w : World} (hC : k26.C w A l.length l) (hl : l.length ≤ 100000) : Calls Tryd.prog 18 #[.slice A l.length c] w fun e w' => ∃ A' c', e = .returned (.slice A' l.length c') ∧ LentR w' w.heap.size A' c' l ∧ Below w.heap.size w w' := by
  have HC := Aside0.mk (copy_c (c := c) w.heap.size (Nat.le_refl _) hC hl)
  have HL := Aside0.mk hl
  clear hC hl
  go_enter Tryd.func18, Tryd.ntmps18
  go_wp2_with (first
    | (go_at_call 34; refine HC.out.mono ?_; rintro e w1 ⟨A1, c1, rfl, hF, hb⟩; have HF1 := Aside0.mk hF; have HB1 := Aside0.mk hb; clear hF hb HC)
    | ((with_reducible refine gate_builtin (b := .append) (xs := #[.tmp 4, .tmp 6]) rfl ?_); at_builtin; refine list_app rfl (.tmp 4) (.tmp 6) rfl w w.heap.size A1 _ l.length c1 1 1 l [markF] rfl rfl (FR.alloc HF1.out _) (lit1 w1 ⟨#[109, 97, 114, 107]⟩ ⟨#[]⟩) ?_ ?_ (below_alloc HB1.out _) ?_; (have := HL.out; simp; omega); (have := HB1.out.size; simp; omega); intro A6 c6 w6 hF hb6 _; obtain ⟨g, cur, rfl, _, hh, hnc, _, hcs, _⟩ := hF.some (by omega); have HF6 := Aside0.mk hF; have HB6 := Aside0.mk hb6; have p1 : l.length ≤ l.length + 1 := Nat.le_succ _; have p2 : l.length ≤ c6 := (by omega); have p3 : (0 : Int) ≤ (l.length : Int) := (by omega); have p4 : (l.length : Int) ≤ (c6 : Int) := (by omega); clear hF hb6 hh hcs hnc HB1 HF1))
  go_ret
  exact ⟨_, c6, rfl, HF6.out, HB6.out⟩
theorem same_l0 (l : List S26) (hl : l.length ≤ 1000000) : ∀ (rest pre : List S26) (k : Nat), l = pre ++ rest → rest.length + 1 ≤ k → bywashbook_SameFields.l0 k l l (pre.length : Int) = some true
  | [], pre, k, e, hk => by
    obtain ⟨k, rfl⟩ : ∃ m, k = m + 1 := ⟨k - 1, by omega⟩
    unfold bywashbook_SameFields.l0
    rw [if_neg (by rw [e, List.append_nil]; omega)]
  | f :: rest, pre, k, e, hk => by
    obtain ⟨k, rfl⟩ : ∃ m, k = m + 1 := ⟨k - 1, by omega⟩
    have hp : pre.length < l.length := by rw [e]; simp
    have ih := same_l0 l hl rest (pre ++ [f]) k (by rw [e]; simp) (by simp at hk; omega)
    rw [List.length_append, List.length_singleton] at ih
    unfold bywashbook_SameFields.l0
    rw [if_pos (by omega), if_pos (by omega), if_pos (by omega), if_pos (by simp), w64_next _ (by omega)]
    exact ih
theorem same_eq (l : List S26) (hl : l.length ≤ 1000000) : bywashbook_SameFields.f (l.length + 1) l l = some true := by
  unfold bywashbook_SameFields.f
  rw [if_pos rfl]
  exact same_l0 l hl l [] _ rfl (Nat.le_refl _)
theorem fcells_mid (l : List S26) (f : S26) : (fcells (l ++ [f]))[l.length * 2]? = some (.string f.f0) := by
  rw [fcells_append, List.getElem?_append_right (by rw [fcells_len]; omega), fcells_len, Nat.sub_self]
  rfl
set_option maxHeartbeats 800000 in
theorem stays_c {A B : Option Addr} {l : List S26} {c d base : Nat} {w : World} (hL : LentR w base A c l) (hC : k26.C w B l.length l) (hd : l.length ≤ d) (hl : l.length ≤ 100000) : Calls Tryd.prog 29 #[.slice A l.length c, .slice B l.length d] w fun e w' => e = .returned (.bool true) ∧ Below w.heap.size w w' := by
  obtain ⟨h1, h2⟩ := hL.c (by omega)
  have HS := Aside0.mk (bywashbook_SameFields.calls (l.length + 1) A c l B d l true w h1 h2 hC hd (same_eq l (by omega)))
  obtain ⟨g, cur, rfl, _, hh, hnc, _, hcs, _⟩ := FR.some hL (by omega)
  have hm := c_cells (FR.c hL (by simp; omega)).1 (l.length * 2) (.string ⟨#[109, 97, 114, 107]⟩) (fcells_mid l markF)
  rw [Addr.add_lit, Nat.zero_add] at hm
  have HM := Aside0.mk (And.intro hm (blk_lt hh))
  have p1 : (0 : Int) ≤ (l.length : Int) + 1 := by omega
  have p2 : (l.length : Int) + 1 ≤ (c : Int) := by omega
  have p3 : (0 : Int) ≤ (l.length : Int) := by omega
  have p4 : (l.length : Int) < (l.length : Int) + 1 := by omega
  have p5 : wrap64 ((l.length : Int) + 1) = (l.length : Int) + 1 := w64_in ((l.length : Int) + 1) (by omega)
  have p6 : ((l.length : Int) + 1).toNat = l.length + 1 := by omega
  clear hm hh hnc hcs hL hC hd hl h1 h2
  go_enter Tryd.func29, Tryd.ntmps29
  go_wp2_with (first
    | (go_at_call 41; refine HS.out.mono ?_; rintro e w1 ⟨rfl, hb⟩; have k0 : w1.cell? ⟨g, l.length * 2, none⟩ = some (.string ⟨#[109, 97, 114, 107]⟩) := (hb.below.cell HM.out.2).trans HM.out.1; have HB := Aside0.mk hb.below; clear hb HS))
  go_ret
  exact ⟨rfl, HB.out⟩
set_option maxHeartbeats 3200000 in
set_option maxRecDepth 20000 in
theorem tells_calls (A : Option Addr) (l : List S26) (c : Nat) (name value : ByteArray) (w : World) (hC : k26.C w A l.length l) (hS : Small l c) (_ : name.size ≤ reachBytes) (_ : value.size ≤ reachBytes) :
    Calls Tryd.prog 7 #[.slice A l.length c, .string name, .string value] w fun e w' => e = .returned (.bool true) ∧ Below w.heap.size w w' := by
  have hr := reachBytes_lt
  have HFW := Aside0.mk (few_c hC hS.cap (by have := hS.len; omega) hS.sz)
  have HC := Aside0.mk hC
  cases hf : fewP l with
  | false =>
    rw [hf] at HFW
    clear hr hC hS hf
    go_enter Tryd.func7, Tryd.ntmps7
    go_wp2_with (first
      | (go_at_call 14; refine HFW.out.mono ?_; rintro e w1 ⟨rfl, hb⟩; have HB1 := Aside0.mk hb; clear hb)
      | (go_at_call 11; refine (alive_c _).mono ?_; rintro e w2 ⟨rfl, hb⟩; have HB2 := Aside0.mk (below_step HB1.out hb); clear hb))
    go_ret
    exact ⟨rfl, HB2.out⟩
  | true =>
    rw [hf] at HFW
    by_cases hn : (name.size : Int) > 300
    · have e1 : decide ((name.size : Int) > 300) = true := decide_eq_true hn
      clear hr hC hS hf hn
      go_enter Tryd.func7, Tryd.ntmps7
      go_wp2_with (first
        | (go_at_call 14; refine HFW.out.mono ?_; rintro e w1 ⟨rfl, hb⟩; have HB1 := Aside0.mk hb; clear hb)
        | (go_at_call 11; refine (alive_c _).mono ?_; rintro e w2 ⟨rfl, hb⟩; have HB2 := Aside0.mk (below_step HB1.out hb); clear hb))
      go_ret
      exact ⟨rfl, HB2.out⟩
    have e1 : decide ((name.size : Int) > 300) = false := decide_eq_false hn
    by_cases hv : (value.size : Int) > 400
    · have e2 : decide ((value.size : Int) > 400) = true := decide_eq_true hv
      clear hr hC hS hf hn hv
      go_enter Tryd.func7, Tryd.ntmps7
      go_wp2_with (first
        | (go_at_call 14; refine HFW.out.mono ?_; rintro e w1 ⟨rfl, hb⟩; have HB1 := Aside0.mk hb; clear hb)
        | (go_at_call 11; refine (alive_c _).mono ?_; rintro e w2 ⟨rfl, hb⟩; have HB2 := Aside0.mk (below_step HB1.out hb); clear hb))
      go_ret
      exact ⟨rfl, HB2.out⟩
    have e2 : decide ((value.size : Int) > 400) = false := decide_eq_false hv
    obtain ⟨hsz, h40, _⟩ := few_sized hf
    have HZ := Aside0.mk (And.intro h40 hS.cap)
    obtain ⟨k, hk⟩ : ∃ k, k = 400000 := ⟨_, rfl⟩
    have HG := Aside0.mk (fun (w' : World) (A : Option Addr) (c : Nat) (hC : k26.C w' A l.length l) (hc : l.length ≤ c) => get_n name hsz hC hc)
    have HL := Aside0.mk (fun (w' : World) (A : Option Addr) (c : Nat) (hC : k26.C w' A l.length l) (hc : l.length ≤ c) => len_n hsz hC hc)
    have HQ := Aside0.mk (fun (w' : World) (A : Option Addr) (c : Nat) (hC : k26.C w' A l.length l) => req_n (c := c) hsz hC)
    have HP := Aside0.mk (fun (w' : World) (A : Option Addr) (c : Nat) (hC : k26.C w' A l.length l) => resp_n (c := c) hsz hC)
    have HT := Aside0.mk (fun (w' : World) (A : Option Addr) (c : Nat) (hC : k26.C w' A l.length l) => trail_n (c := c) hsz hC)
    have HGr := Aside0.mk (fun (w' : World) (hC : k26.C w' A l.length l) => bywashref1_Field.calls k name A c l _ _ w' hC hS.cap (rfield_eq k name l (by omega) (by omega)))
    have HLr := Aside0.mk (fun (w' : World) (hC : k26.C w' A l.length l) => bywashref1_Length.calls k A c l (lenQ l).1 (lenQ l).2 w' hC hS.cap (len_ref k l hsz (by omega)))
    have HQr := Aside0.mk (fun (w' : World) (hC : k26.C w' A l.length l) => bywashref1_RequestFields.calls k A c l _ w' hC hS.cap (req_ref k l hsz (by omega)))
    have HPr := Aside0.mk (fun (w' : World) (hC : k26.C w' A l.length l) => bywashref1_ResponseFields.calls k A c l _ w' hC hS.cap (resp_ref k l hsz (by omega)))
    have HTr := Aside0.mk (fun (w' : World) (hC : k26.C w' A l.length l) => bywashref1_TrailerFields.calls k A c l _ w' hC hS.cap (trail_ref k l hsz (by omega)))
    have HN := Aside0.mk (name_c name (by omega))
    have HV := Aside0.mk (value_c value (by omega))
    have HNr := Aside0.mk (fun w' => bywashref1_Name.calls k name _ w' (rname_eq k name (by omega) (by omega)))
    have HVr := Aside0.mk (fun w' => bywashref1_Value.calls k value _ w' (rvalue_eq k value (by omega) (by omega)))
    have HLent := Aside0.mk (fun (w' : World) (hC : k26.C w' A l.length l) => lent_c (c := c) hC (by omega))
    have HStay := Aside0.mk (fun (w' : World) (base : Nat) (A' : Option Addr) (c' : Nat) (hL : LentR w' base A' c' l) (hC : k26.C w' A l.length l) => stays_c hL hC hS.cap (by omega))
    generalize (getP name l).getD ⟨#[]⟩ = g1 at HG HGr
    generalize (getP name l).isSome = g2 at HG HGr
    generalize lenQ l = g3 at HL HLr
    generalize reqQ l = g4 at HQ HQr
    generalize respQ l = g5 at HP HPr
    generalize trailQ l = g6 at HT HTr
    generalize nameP name = g7 at HN HNr
    generalize valueP value = g8 at HV HVr
    clear hr hC hS hf hn hv hsz h40 hk
    have hl : Aside0 (l.length ≤ 1000000) := ⟨by have := HZ.out.1; omega⟩
    cases g7 <;> cases g8
    all_goals
      go_enter Tryd.func7, Tryd.ntmps7
      go_wp2_with (first
        | (go_at_call 14; refine HFW.out.mono ?_; rintro e w1 ⟨rfl, hb⟩; have HB1 := Aside0.mk hb; clear hb)
        | (go_at_call 11; refine (alive_c _).mono ?_; rintro e w2 ⟨rfl, hb⟩; have HB2 := Aside0.mk (below_step HB1.out hb); clear hb HB1)
        | (go_at_call 18; refine (HLent.out _ (Kd.C_below HC.out HB2.out)).mono ?_; rintro e w3 ⟨A3, c3, rfl, hR, hb⟩; have HR := Aside0.mk hR; have HB := Aside0.mk (below_step HB2.out hb); clear hb hR HB2)
        | (go_at_call 15; refine (HG.out _ _ _ (HR.out.c hl.out).1 (HR.out.c hl.out).2).mono ?_; rintro e w4 ⟨rfl, hb0⟩; have hb := hb0; have HR2 := Aside0.mk (HR.out.step hb); have HB2 := Aside0.mk (below_step HB.out hb); clear HR HB hb hb0; have HR := HR2; have HB := HB2; clear HR2 HB2)
        | (go_at_call 19; refine (HGr.out _ (Kd.C_below HC.out HB.out)).mono ?_; rintro e w4 ⟨rfl, hb0⟩; have hb := hb0.below; have HR2 := Aside0.mk (HR.out.step hb); have HB2 := Aside0.mk (below_step HB.out hb); clear HR HB hb hb0; have HR := HR2; have HB := HB2; clear HR2 HB2)
        | (go_at_call 20; refine (HL.out _ _ _ (HR.out.c hl.out).1 (HR.out.c hl.out).2).mono ?_; rintro e w4 ⟨rfl, hb0⟩; have hb := hb0; have HR2 := Aside0.mk (HR.out.step hb); have HB2 := Aside0.mk (below_step HB.out hb); clear HR HB hb hb0; have HR := HR2; have HB := HB2; clear HR2 HB2)
        | (go_at_call 21; refine (HLr.out _ (Kd.C_below HC.out HB.out)).mono ?_; rintro e w4 ⟨rfl, hb0⟩; have hb := hb0.below; have HR2 := Aside0.mk (HR.out.step hb); have HB2 := Aside0.mk (below_step HB.out hb); clear HR HB hb hb0; have HR := HR2; have HB := HB2; clear HR2 HB2)
        | (go_at_call 12; refine (HN.out _).mono ?_; rintro e w4 ⟨rfl, hb0⟩; have hb := hb0; have HR2 := Aside0.mk (HR.out.step hb); have HB2 := Aside0.mk (below_step HB.out hb); clear HR HB hb hb0; have HR := HR2; have HB := HB2; clear HR2 HB2)
        | (go_at_call 22; refine (HNr.out _).mono ?_; rintro e w4 ⟨rfl, hb0⟩; have hb := hb0.below; have HR2 := Aside0.mk (HR.out.step hb); have HB2 := Aside0.mk (below_step HB.out hb); clear HR HB hb hb0; have HR := HR2; have HB := HB2; clear HR2 HB2)
        | (go_at_call 16; refine (HV.out _).mono ?_; rintro e w4 ⟨rfl, hb0⟩; have hb := hb0; have HR2 := Aside0.mk (HR.out.step hb); have HB2 := Aside0.mk (below_step HB.out hb); clear HR HB hb hb0; have HR := HR2; have HB := HB2; clear HR2 HB2)
        | (go_at_call 23; refine (HVr.out _).mono ?_; rintro e w4 ⟨rfl, hb0⟩; have hb := hb0.below; have HR2 := Aside0.mk (HR.out.step hb); have HB2 := Aside0.mk (below_step HB.out hb); clear HR HB hb hb0; have HR := HR2; have HB := HB2; clear HR2 HB2)
        | (go_at_call 13; refine (HQ.out _ _ _ (HR.out.c hl.out).1).mono ?_; rintro e w4 ⟨rfl, hb0⟩; have hb := hb0; have HR2 := Aside0.mk (HR.out.step hb); have HB2 := Aside0.mk (below_step HB.out hb); clear HR HB hb hb0; have HR := HR2; have HB := HB2; clear HR2 HB2)
        | (go_at_call 24; refine (HQr.out _ (Kd.C_below HC.out HB.out)).mono ?_; rintro e w4 ⟨rfl, hb0⟩; have hb := hb0; have HR2 := Aside0.mk (HR.out.step hb); have HB2 := Aside0.mk (below_step HB.out hb); clear HR HB hb hb0; have HR := HR2; have HB := HB2; clear HR2 HB2)
        | (go_at_call 25; refine (HP.out _ _ _ (HR.out.c hl.out).1).mono ?_; rintro e w4 ⟨rfl, hb0⟩; have hb := hb0; have HR2 := Aside0.mk (HR.out.step hb); have HB2 := Aside0.mk (below_step HB.out hb); clear HR HB hb hb0; have HR := HR2; have HB := HB2; clear HR2 HB2)
        | (go_at_call 26; refine (HPr.out _ (Kd.C_below HC.out HB.out)).mono ?_; rintro e w4 ⟨rfl, hb0⟩; have hb := hb0; have HR2 := Aside0.mk (HR.out.step hb); have HB2 := Aside0.mk (below_step HB.out hb); clear HR HB hb hb0; have HR := HR2; have HB := HB2; clear HR2 HB2)
        | (go_at_call 27; refine (HT.out _ _ _ (HR.out.c hl.out).1).mono ?_; rintro e w4 ⟨rfl, hb0⟩; have hb := hb0; have HR2 := Aside0.mk (HR.out.step hb); have HB2 := Aside0.mk (below_step HB.out hb); clear HR HB hb hb0; have HR := HR2; have HB := HB2; clear HR2 HB2)
        | (go_at_call 28; refine (HTr.out _ (Kd.C_below HC.out HB.out)).mono ?_; rintro e w4 ⟨rfl, hb0⟩; have hb := hb0; have HR2 := Aside0.mk (HR.out.step hb); have HB2 := Aside0.mk (below_step HB.out hb); clear HR HB hb hb0; have HR := HR2; have HB := HB2; clear HR2 HB2)
        | (go_at_call 29; refine (HStay.out _ _ _ _ HR.out (Kd.C_below HC.out HB.out)).mono ?_; rintro e w4 ⟨rfl, hb0⟩; have hb := hb0; have HR2 := Aside0.mk (HR.out.step hb); have HB2 := Aside0.mk (below_step HB.out hb); clear HR HB hb hb0; have HR := HR2; have HB := HB2; clear HR2 HB2))
      go_ret
      exact ⟨rfl, HB.out⟩
end Go.Proofs.YthibjhjeppfahaaDoor.Fw
