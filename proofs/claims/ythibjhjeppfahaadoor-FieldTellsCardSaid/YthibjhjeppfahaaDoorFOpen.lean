/- A slice of fields, and a field, that came in: opened. -/
import Derived.Test.YthibjhjeppfahaaDoorFRows
import Derived.Deep.SlicePairs
import Derived.SizedLaws
import Derived.Lib.SmallJoins
namespace Go.Proofs.YthibjhjeppfahaaDoor.Fw
open Go.ChangeShapes Go.WideShapes Go.RowKit Go.Proofs.YthibjhjeppfahaaDoor.XFi Go.Proofs.YthibjhjeppfahaaDoorW.PrintWords Go.Proofs.YthibjhjeppfahaaDoorW.PrintLast Go.Proofs.YthibjhjeppfahaaDoorW.PrintMore Go.Proofs.YthibjhjeppfahaaDoor.Ms

/-- What the guards leave of a list that came in. -/
structure Small (l : List S26) (cap : Nat) : Prop where
  cap : l.length ≤ cap
  len : l.length ≤ reachBytes
  sz : ∀ y ∈ l, y.f0.size ≤ reachBytes ∧ y.f1.size ≤ reachBytes
theorem bytes26 : Tryd.prog.bytesOf 26 = 32 := by kernel_rfl
section
variable {H : Type} {enc : TypeId × Value → H} {w : World} {base : Nat} {spare : Nat → Bool} {held : Bool}
theorem weights_all {P : Program} {e : TypeId} : ∀ {ds : List (DataW H)} {d : DataW H}, d ∈ ds → ∀ n ∈ d.weights P e, n ∈ DataW.weightsAll P e ds
  | d0 :: ds, d, hd, n, hn => by
    simp only [DataW.weightsAll, List.mem_append]
    rcases List.mem_cons.1 hd with rfl | hd
    · exact .inl hn
    · exact .inr (weights_all hd n hn)
theorem pair_weights (a b : List UInt8) : ∀ n, n = a.length ∨ n = b.length → n ∈ (DataW.agg [DataW.lit (.string a), DataW.lit (.string b)] : DataW H).weights Tryd.prog 26 := by
  intro n hn
  simp only [DataW.weights, Tryd.underlying26]
  simp only [DataW.weightsEach, DataW.weights, List.map_cons, List.map_nil, List.mem_append, List.mem_singleton]
  rcases hn with rfl | rfl
  · exact .inl rfl
  · exact .inr (.inl rfl)
theorem open_fields {fuel j : Nat} {cs : List Value} {x : DataW H × List MemPlace} {ts : List TypeId} {ds : List (DataW H)} (hsz : (DataW.weightsEach Tryd.prog ts ds).all (· ≤ reachBytes) = true) (htj : ts[j]? = some 27) (hdj : ds[j]? = some x.1)
    (h : DataW.trod enc Tryd.prog w base spare held fuel 27 cs = some x) :
    ∃ (A : Option Addr) (cap : Nat) (l : List S26), cs = [.slice A l.length cap] ∧ True ∧ k26.C w A l.length l ∧ Small l cap := by
  rcases Go.Deep.open_slice_pairs (P := Tryd.prog) Tryd.underlying27 Tryd.underlying26 (by kernel_rfl) rfl rfl (by kernel_rfl) (by kernel_rfl) h with ⟨rfl, rfl⟩ | ⟨a, len, cap, m, n, V0, V1, D0, D1, P0, P1, rfl, hb, hl, hm, hmm, rfl, hx⟩
  · exact ⟨none, 0, [], rfl, trivial, ⟨rfl, Nat.zero_le _, fun h => absurd h (Nat.lt_irrefl _)⟩, Nat.le_refl _, Nat.zero_le _, fun y hy => by cases hy⟩
  · have hlm : len ≤ m := by rw [hmm]; split <;> omega
    have each : ∀ i, i < len → ∃ y : S26, V0 i = .string y.f0 ∧ V1 i = .string y.f1 ∧ D0 i = .lit (.string y.f0.data.toList) ∧ D1 i = .lit (.string y.f1.data.toList) := by
      intro i hi
      obtain ⟨_, _, h0, h1⟩ := hx i (by omega)
      obtain ⟨s0, e0, g0, _⟩ := DataW.trod_string (by exact Tryd.underlying9) h0
      obtain ⟨s1, e1, g1, _⟩ := DataW.trod_string (by exact Tryd.underlying9) h1
      exact ⟨⟨s0, s1⟩, by simpa using e0, by simpa using e1, by simpa using congrArg Prod.fst g0, by simpa using congrArg Prod.fst g1⟩
    obtain ⟨Y, hY⟩ := Go.Deep.choose_lt each
    have hlen : ((List.range len).map Y).length = len := by simp
    unfold maxLen at hm
    refine ⟨some a, cap, (List.range len).map Y, by rw [hlen], trivial, ⟨rfl, by rw [hlen]; omega, fun _ => ⟨a, rfl, fun i y hy => ?_⟩⟩, by rw [hlen]; exact hl, ?big, fun y hy => ?_⟩
    case big =>
      have := List.all_eq_true.1 hsz _ (DataW.weights_mem_each htj hdj _ (by simp only [DataW.weights, Tryd.underlying27]; exact List.mem_cons_self))
      have h2 := of_decide_eq_true this
      rw [bytes26, List.length_map, List.length_range] at h2
      rw [hlen]
      omega
    · have hi : i < len := by rw [← hlen]; exact (List.getElem?_eq_some_iff.1 hy).1
      rw [List.getElem?_map, List.getElem?_range hi] at hy
      obtain rfl := Option.some.inj hy
      obtain ⟨c0, c1, _⟩ := hx i (by omega)
      obtain ⟨e0, e1, _⟩ := hY i hi
      refine ⟨[.string (Y i).f0, .string (Y i).f1], rfl, k26_mk w (Y i), fun k u hu => ?_⟩
      rcases k with _ | _ | k
      · obtain rfl := Option.some.inj hu
        rw [← e0]
        exact c0
      · obtain rfl := Option.some.inj hu
        rw [← e1]
        exact c1
      · cases hu
    · obtain ⟨i, hi, rfl⟩ := List.mem_map.1 hy
      have hi' : i < len := List.mem_range.1 hi
      obtain ⟨_, _, d0, d1⟩ := hY i hi'
      have hmem : ∀ q, q = (Y i).f0.data.toList.length ∨ q = (Y i).f1.data.toList.length → q ≤ reachBytes := by
        intro q hq
        have hw := weights_all (P := Tryd.prog) (e := 26) (ds := (List.range len).map fun i => DataW.agg [D0 i, D1 i]) (List.mem_map.2 ⟨i, hi, rfl⟩) q (by rw [d0, d1]; exact pair_weights _ _ q hq)
        have := List.all_eq_true.1 hsz q (DataW.weights_mem_each htj hdj q (by simp only [DataW.weights, Tryd.underlying27]; simp only [List.mem_cons, List.mem_append]; exact .inr (.inl hw)))
        simpa using this
      exact ⟨by have := hmem _ (.inl rfl); rwa [Array.length_toList] at this, by have := hmem _ (.inr rfl); rwa [Array.length_toList] at this⟩
set_option maxRecDepth 20000 in
theorem open_field {r : Reach} {b0 j : Nat} {v : Value} {d : DataW H} {p : List MemPlace} {ts : List TypeId} {ds : List (DataW H)} (hsz : (DataW.weightsEach Tryd.prog ts ds).all (· ≤ reachBytes) = true) (htj : ts[j]? = some 26) (hdj : ds[j]? = some d)
    (hv : Value.okWide Tryd.prog w r b0 26 v) (h : DataW.Trod enc Tryd.prog w base spare held 26 v d p) :
    ∃ f : S26, v = .agg #[.string f.f0, .string f.f1] ∧ (f.f0.size ≤ reachBytes ∧ f.f1.size ≤ reachBytes) := by
  obtain ⟨v0, v1, y0, y1, n, rfl, rfl, rfl, h0, h1⟩ := Go.Joins.open_agg2 (P := Tryd.prog) Tryd.underlying26 (by kernel_rfl) (by kernel_rfl) hv h
  obtain ⟨s0, e0, g0, _⟩ := DataW.trod_string (by exact Tryd.underlying9) h0
  obtain ⟨s1, e1, g1, _⟩ := DataW.trod_string (by exact Tryd.underlying9) h1
  subst g0; subst g1
  have e0' : v0 = .string s0 := by simpa using e0
  have e1' : v1 = .string s1 := by simpa using e1
  subst e0'; subst e1'
  have hmem : ∀ q, q = s0.data.toList.length ∨ q = s1.data.toList.length → q ≤ reachBytes := by
    intro q hq
    have := List.all_eq_true.1 hsz q (DataW.weights_mem_each htj hdj q (pair_weights _ _ q hq))
    simpa using this
  exact ⟨⟨s0, s1⟩, rfl, by have := hmem _ (.inl rfl); rwa [Array.length_toList] at this, by have := hmem _ (.inr rfl); rwa [Array.length_toList] at this⟩
end
end Go.Proofs.YthibjhjeppfahaaDoor.Fw
