/- FieldGets. -/
import Derived.Test.YthibjhjeppfahaaDoorFForbids
import Derived.Test.YthibjhjeppfahaaDoorFFew
import Derived.Test.YthibjhjeppfahaaDoorFOpen
namespace Go.Proofs.YthibjhjeppfahaaDoor.Fw
open Go.RowKit Go.Proofs.YthibjhjeppfahaaDoor.XFi Go.Proofs.YthibjhjeppfahaaDoorW.PrintWords Go.Proofs.YthibjhjeppfahaaDoorW.PrintLast Go.Proofs.YthibjhjeppfahaaDoorW.PrintMore Go.Proofs.YthibjhjeppfahaaDoor.Ms
theorem getP_app (name : ByteArray) (f : S26) : ∀ l : List S26, getP name (l ++ [f]) = match getP name l with | some v => some v | none => if f.f0 = name then some f.f1 else none
  | [] => by simp only [List.nil_append, getP]
  | g :: l => by
    simp only [List.cons_append, getP]
    split
    · rfl
    · exact getP_app name f l
theorem fr_lit1 (w : World) (a b : ByteArray) (base : Nat) (hb : base ≤ w.heap.size) : FR (w.alloc (.cells #[.string a, .string b] 26)) base (some ⟨w.heap.size, 0, none⟩) 1 1 [⟨a, b⟩] :=
  ⟨rfl, rfl, .inr ⟨w.heap.size, 1, #[.string a, .string b], rfl, hb, heap_alloc_new w _, Nat.le_refl _, by decide, rfl, rfl⟩⟩
theorem few_app {l : List S26} {f : S26} (h : fewP l = true) (hf : f.f0.size ≤ 1000 ∧ f.f1.size ≤ 1000) : Sized (l ++ [f]) ∧ Sized (f :: l) := by
  obtain ⟨⟨h1, h2⟩, h3, _⟩ := few_sized h
  refine ⟨⟨by simp; omega, fun x hx => ?_⟩, ⟨by simp; omega, fun x hx => ?_⟩⟩
  · rcases List.mem_append.1 hx with hx | hx
    · exact h2 x hx
    · obtain rfl := List.mem_singleton.1 hx
      exact ⟨by omega, by omega⟩
  · rcases List.mem_cons.1 hx with rfl | hx
    · exact ⟨by omega, by omega⟩
    · exact h2 x hx
set_option maxHeartbeats 3200000 in
set_option maxRecDepth 20000 in
theorem gets_calls (A : Option Addr) (l : List S26) (c : Nat) (name value : ByteArray) (w : World) (hC : k26.C w A l.length l) (hS : Small l c) (hn : name.size ≤ reachBytes) (hv : value.size ≤ reachBytes) :
    Calls Tryd.prog 5 #[.slice A l.length c, .string name, .string value] w fun e w' => e = .returned (.bool true) ∧ Below w.heap.size w w' := by
  have hr := reachBytes_lt
  have hw : wrap64 ((name.size : Int) + value.size) = (name.size : Int) + value.size := w64_in ((name.size : Int) + value.size) (by omega)
  have HFW := Aside0.mk (few_c hC hS.cap (by have := hS.len; omega) hS.sz)
  cases hf : fewP l with
  | false =>
    rw [hf] at HFW
    clear hn hv hr hC hS hf hw
    go_enter Tryd.func5, Tryd.ntmps5
    go_wp2_with (first
      | (go_at_call 14; refine HFW.out.mono ?_; rintro e w1 ⟨rfl, hb⟩; have HB := Aside0.mk hb; clear hb)
      | (go_at_call 11; refine (alive_c _).mono ?_; rintro e w2 ⟨rfl, hb⟩; have HB2 := Aside0.mk (below_step HB.out hb); clear hb))
    go_ret
    exact ⟨rfl, HB2.out⟩
  | true =>
    rw [hf] at HFW
    by_cases h : (name.size : Int) + value.size > 200
    · have e1 : decide ((name.size : Int) + value.size > 200) = true := decide_eq_true h
      clear hn hv hr hC hS hf h
      go_enter Tryd.func5, Tryd.ntmps5
      go_wp2_with (first
        | (go_at_call 14; refine HFW.out.mono ?_; rintro e w1 ⟨rfl, hb⟩; have HB := Aside0.mk hb; clear hb)
        | (go_at_call 11; refine (alive_c _).mono ?_; rintro e w2 ⟨rfl, hb⟩; have HB2 := Aside0.mk (below_step HB.out hb); clear hb))
      go_ret
      exact ⟨rfl, HB2.out⟩
    · have e1 : decide ((name.size : Int) + value.size > 200) = false := decide_eq_false h
      obtain ⟨hsz, h40, _⟩ := few_sized hf
      obtain ⟨hz1, hz2⟩ := few_app (f := ⟨name, value⟩) hf ⟨by simp; omega, by simp; omega⟩
      have HC := Aside0.mk hC
      have HZ := Aside0.mk (And.intro hsz (And.intro hz1 (And.intro hz2 (And.intro h40 hS.cap))))
      have hg1 : getP name (⟨name, value⟩ :: l) = some value := by simp [getP]
      have hg2 : getP name (l ++ [⟨name, value⟩]) = some ((getP name l).getD value) := by rw [getP_app]; cases getP name l <;> simp
      have H0 := Aside0.mk (fun (w' : World) (hC : k26.C w' A l.length l) => get_n name hsz hC hS.cap)
      have H1 := Aside0.mk (fun (w' : World) (A : Option Addr) (n c : Nat) (hC : k26.C w' A n (⟨name, value⟩ :: l)) (hc : n ≤ c) => get_n name hz2 hC hc)
      have H2 := Aside0.mk (fun (w' : World) (A : Option Addr) (n c : Nat) (hC : k26.C w' A n (l ++ [⟨name, value⟩])) (hc : n ≤ c) => get_n name hz1 hC hc)
      rw [hg1] at H1
      rw [hg2] at H2
      clear hg1 hg2 hz1 hz2 hsz h40 hn hv hr hC hS hf h
      generalize getP name l = o at H0 H2
      cases o
      all_goals
        go_enter Tryd.func5, Tryd.ntmps5
        go_wp2_with (first
          | (go_at_call 14; refine HFW.out.mono ?_; rintro e w1 ⟨rfl, hb⟩; have HB := Aside0.mk hb; clear hb)
          | (go_at_call 11; refine (alive_c _).mono ?_; rintro e w2 ⟨rfl, hb⟩; have HB2 := Aside0.mk (below_step HB.out hb); clear hb HB)
          | (go_at_call 15; refine (H0.out _ (Kd.C_below HC.out HB2.out)).mono ?_; rintro e w3 ⟨rfl, hb⟩; have HB3 := Aside0.mk (below_step HB2.out hb); clear hb HB2 H0)
          | ((with_reducible refine gate_builtin (b := .append) (xs := #[.tmp 40, .tmp 41]) rfl ?_); at_builtin; refine list_app rfl (.tmp 40) (.tmp 41) rfl w w.heap.size _ _ 1 1 l.length c [⟨name, value⟩] l rfl rfl (fr_lit1 w3 name value w.heap.size HB3.out.size) (Kd.C_alloc (Kd.C_below HC.out HB3.out) _) ?_ ?_ (below_alloc HB3.out _) ?_; (have := HZ.out.2.2.2.1; simp; omega); (have := HB3.out.size; simp; omega); intro A4 c4 w4 hF hb4 _; have HF4 := Aside0.mk hF; have HB4 := Aside0.mk hb4; clear hF hb4 HB3)
          | (go_at_call 15; refine (H1.out _ _ _ _ (HF4.out.c ?_).1 (HF4.out.c ?_).2).mono ?_; (have := HZ.out.2.2.2.1; simp; omega); (have := HZ.out.2.2.2.1; simp; omega); rintro e w5 ⟨rfl, hb⟩; have HB5 := Aside0.mk (below_step HB4.out hb); clear hb HB4 HF4 H1)
          | ((with_reducible refine gate_builtin (b := .append) (xs := #[.const (.slice none 0 0), .tmp 48]) rfl ?_); at_builtin; refine list_app rfl (.const (.slice none 0 0)) (.tmp 48) rfl w w.heap.size _ _ 0 0 l.length c [] l rfl rfl (FR.nil _ _) (Kd.C_below HC.out HB5.out) ?_ HB5.out.size HB5.out ?_; (have := HZ.out.2.2.2.1; simp; omega); intro A6 c6 w6 hF hb6 _; rw [Nat.zero_add, List.nil_append] at hF; have HF6 := Aside0.mk hF; have HB6 := Aside0.mk hb6; clear hF hb6 HB5)
          | ((with_reducible refine gate_builtin (b := .append) (xs := #[.tmp 49, .tmp 53]) rfl ?_); at_builtin; refine list_app rfl (.tmp 49) (.tmp 53) rfl w w.heap.size _ _ _ _ 1 1 _ [⟨name, value⟩] rfl rfl (FR.alloc HF6.out _) (lit1 w6 name value) ?_ ?_ (below_alloc HB6.out _) ?_; (have := HZ.out.2.2.2.1; simp; omega); (have := HB6.out.size; simp; omega); intro A7 c7 w7 hF hb7 _; have HF7 := Aside0.mk hF; have HB7 := Aside0.mk hb7; clear hF hb7 HB6 HF6)
          | (go_at_call 15; refine (H2.out _ _ _ _ (HF7.out.c ?_).1 (HF7.out.c ?_).2).mono ?_; (have := HZ.out.2.2.2.1; simp; omega); (have := HZ.out.2.2.2.1; simp; omega); rintro e w8 ⟨rfl, hb⟩; have HB8 := Aside0.mk (below_step HB7.out hb); clear hb HB7 HF7 H2))
        go_ret
        exact ⟨rfl, HB8.out⟩
end Go.Proofs.YthibjhjeppfahaaDoor.Fw
