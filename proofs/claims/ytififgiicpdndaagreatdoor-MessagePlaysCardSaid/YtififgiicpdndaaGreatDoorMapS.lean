/- A map from texts to texts that a call has made: what it says, key by key. Over any program. -/
import Derived.Maps.Own
import Derived.Maps.Views
import Derived.Maps.StringElems
namespace Go.Proofs.YtififgiicpdndaaGreatDoor.Ms
open Go Go.Maps Go.WideMaps

/-- What was said of a key: the last word first. -/
def look : List (ByteArray × ByteArray) → ByteArray → Option ByteArray
  | [], _ => none
  | p :: m, k => if p.1 = k then some p.2 else look m k
def litS (s : ByteArray) : Lit := .string s.data.toList
theorem litS_inj {a b : ByteArray} (h : litS a = litS b) : a = b := by
  injection h with h
  exact ByteArray.ext (Array.toList_inj.1 h)
theorem dlit_inj {a b : ByteArray} (h : (DataW.lit (litS a) : DataW Unit) = .lit (litS b)) : a = b := by
  injection h with h
  exact litS_inj h
/-- Block b is a map of the call's own that says m; its key type K, its element type E are texts'. -/
def SMap (P : Program) (K E : TypeId) (w : World) (b : Nat) (m : List (ByteArray × ByteArray)) : Prop :=
  ∃ D : DataW Unit, w.ownsMap P K (plainElem P E) b m.length D ∧ IsMap D ∧ ∀ s, match look m s with
    | none => has D (litS s) = false
    | some v => has D (litS s) = true ∧ ∀ z, D.atKey (litS s) z = .lit (litS v)
section
variable {P : Program} {T K E : TypeId} {w w' : World} {b : Nat} {m : List (ByteArray × ByteArray)}
theorem smap_made (w : World) : SMap P K E (w.alloc (.map #[] 0)) w.heap.size [] :=
  ⟨.map [], World.ownsMap_made w P K _, isMap_empty, fun _ => rfl⟩
theorem SMap.kept {row : Option Nat} (h : SMap P K E w b m) (hg : w.grownBy w' row) (hne : some b ≠ row) : SMap P K E w' b m := by
  obtain ⟨D, h1, h2, h3⟩ := h
  exact ⟨D, h1.kept hg hne, h2, h3⟩
theorem SMap.lt (h : SMap P K E w b m) : b < w.heap.size := by obtain ⟨D, h1, _⟩ := h; exact h1.lt
theorem SMap.block (h : SMap P K E w b m) (hb : w'.heap[b]? = w.heap[b]?) : SMap P K E w' b m := by
  obtain ⟨D, ⟨es, clock, h0, F, hs, hD⟩, h2, h3⟩ := h
  exact ⟨D, ⟨es, clock, hb.trans h0, F, hs, hD⟩, h2, h3⟩
/-- 'v, ok := m[k]' and 'm[k]'. -/
theorem SMap.look (h : SMap P K E w b m) (hK : P.underlying K = some .string) (hT : P.underlying T = some (.map K E)) (hE : P.underlying E = some .string) (hz : (zeroValue E).run P w = .ok (.string ⟨#[]⟩) w) (s : ByteArray) (hs : s.size ≤ maxLen) (c : Bool) :
    (Instr.lookup T (.map (some b)) (.string s) c).run P w = .ok (if c then .tuple #[.string ((Ms.look m s).getD ⟨#[]⟩), .bool (Ms.look m s).isSome] else .string ((Ms.look m s).getD ⟨#[]⟩)) w := by
  obtain ⟨D, ⟨es, clock, hb, F, _, rfl⟩, _, h3⟩ := h
  have h3 := h3 s
  rcases Maps.fit_look c (string_keyed hK) hT hz hb F (keyOf_string_mk hK hs) with ⟨hrun, _, hat⟩ | ⟨e0, y, _, _, hrun, hR, hat, _⟩
  · have hh := has_false_of_atKey hat
    cases hl : Ms.look m s with
    | none => rw [hrun]; rfl
    | some v =>
      rw [hl] at h3
      have := h3.1
      rw [litS, hh] at this
      cases this
  · have hh := has_true_of_atKey hat
    cases hl : Ms.look m s with
    | none =>
      rw [hl] at h3
      rw [litS, hh] at h3
      cases h3
    | some v =>
      rw [hl] at h3
      obtain ⟨s', hv, hy, _⟩ := plainElem_string_inv hE hR
      have e1 := (hat (.lit (litS s))).symm.trans (h3.2 (.lit (litS s)))
      rw [hy] at e1
      obtain rfl := dlit_inj e1
      rw [hrun, hv]
      cases c <;> rfl
/-- 'm[k] = v'. -/
theorem smap_update (h : SMap P K E w b m) (hK : P.underlying K = some .string) (hT : P.underlying T = some (.map K E)) (hE : P.underlying E = some .string) (hn : m.length < maxLen) (s v : ByteArray) (hs : s.size ≤ maxLen) (hv : v.size ≤ maxLen) :
    ∃ w', (Instr.mapUpdate T (.map (some b)) (.string s) (.string v)).run P w = .ok () w' ∧ SMap P K E w' b ((s, v) :: m) ∧ w.grownBy w' (some b) := by
  obtain ⟨D, h1, h2, h3⟩ := h
  obtain ⟨w', hrun, ho, hg⟩ := h1.update (string_keyed hK) hT hn (keyOf_string_mk hK hs) (plainElem_string hE hv)
  have hkl : WideAt.IsKeyLit (litS s) := (string_keyed hK).key (keyOf_string_mk hK hs)
  refine ⟨w', hrun, ⟨_, ho, h2.put _ _, fun q => ?_⟩, hg⟩
  show match (if s = q then some v else Ms.look m q) with | none => _ | some v => _
  by_cases e : s = q
  · subst e
    rw [if_pos rfl]
    exact ⟨has_put_same h2 hkl _, fun z => atKey_put_same h2 hkl _ _⟩
  · rw [if_neg e]
    have hne : litS q ≠ litS s := fun h => e (litS_inj h).symm
    have h3 := h3 q
    cases hl : Ms.look m q with
    | none =>
      rw [hl] at h3
      show has _ _ = false
      rw [← h3]
      exact has_put_other hne _
    | some u =>
      rw [hl] at h3
      exact ⟨(has_put_other hne _).trans h3.1, fun z => (atKey_put_other hne _ z).trans (h3.2 z)⟩
end
/-- 'm[k] = v' at the operation. -/
theorem wpList_smap_update {P : Program} {T K E : TypeId} (w : World) {ops : Array Oper} {rest : List Oper} {o : Oper} {a : Act} {Q : Exit → Act → World → Prop}
    (hg : o.guard = none) (mo x v : Operand) (hop : o.op = Op.mapUpdate T mo x v) (hK : P.underlying K = some .string) (hT : P.underlying T = some (.map K E)) (hE : P.underlying E = some .string) (b : Nat) (m : List (ByteArray × ByteArray))
    (hm : a.eval mo = .map (some b)) (h : SMap P K E w b m) (hn : m.length < maxLen) (key val : ByteArray) (hx : a.eval x = .string key) (hv : a.eval v = .string val) (hs : key.size ≤ maxLen) (hvs : val.size ≤ maxLen)
    (hk : ∀ w', SMap P K E w' b ((key, val) :: m) → w.grownBy w' (some b) → wpList P ops Q rest (a.put o.dst undef) w') :
    wpList P ops Q (o :: rest) a w := by
  refine wpList_plain hg fun K' hK' => ?_
  obtain ⟨w', hrun, r1, r2⟩ := smap_update h hK hT hE hn key val hs hvs
  unfold Oper.wp
  simp [execOp, hop, hm, hx, hv, hrun, Result.andThen]
  exact hK' _ _ (hk w' r1 r2)
end Go.Proofs.YtififgiicpdndaaGreatDoor.Ms
