/- alive. -/
import Derived.Test.YthibjhjeppfahaaDoorFRows
namespace Go.Proofs.YthibjhjeppfahaaDoor.Fw
open Go.RowKit Go.Proofs.YthibjhjeppfahaaDoor.XFi Go.Proofs.YthibjhjeppfahaaDoorW.PrintWords Go.Proofs.YthibjhjeppfahaaDoorW.PrintLast Go.Proofs.YthibjhjeppfahaaDoorW.PrintMore Go.Proofs.YthibjhjeppfahaaDoor.Ms
def aliveL : List S26 := [⟨⟨#[58, 109, 101, 116, 104, 111, 100]⟩, ⟨#[71, 69, 84]⟩⟩, ⟨⟨#[58, 115, 99, 104, 101, 109, 101]⟩, ⟨#[104, 116, 116, 112]⟩⟩, ⟨⟨#[58, 97, 117, 116, 104, 111, 114, 105, 116, 121]⟩, ⟨#[97]⟩⟩, ⟨pathB, ⟨#[47]⟩⟩]
theorem al_req : reqQ aliveL = 0 := by kernel_rfl
theorem al_req1 : reqQ aliveL.tail = 3 := by kernel_rfl
theorem al_resp : respQ aliveL = 6 := by kernel_rfl
theorem al_len : lenQ [⟨lenB, ⟨#[49, 50]⟩⟩] = (12, 0) := by kernel_rfl
theorem al_te : nameP ⟨#[116, 101]⟩ = true := by kernel_rfl
theorem al_A : nameP ⟨#[65]⟩ = false := by kernel_rfl
theorem al_v : valueP ⟨#[]⟩ = true := by kernel_rfl
theorem al_req_c {w : World} {A : Option Addr} (hC : k26.C w A 4 aliveL) : Calls Tryd.prog 13 #[.slice A 4 4] w fun e w' => e = .returned (.int .i64 0) ∧ Below w.heap.size w w' := by
  have := req_c (c := 4) (l := aliveL) (sized_lit (by kernel_rfl)) hC
  rw [al_req] at this
  exact this
theorem al_req1_c {w : World} {A : Option Addr} (hC : k26.C w A 3 aliveL.tail) : Calls Tryd.prog 13 #[.slice A 3 3] w fun e w' => e = .returned (.int .i64 3) ∧ Below w.heap.size w w' := by
  have := req_c (c := 3) (l := aliveL.tail) (sized_lit (by kernel_rfl)) hC
  rw [al_req1] at this
  exact this
theorem al_resp_c {w : World} {A : Option Addr} (hC : k26.C w A 4 aliveL) : Calls Tryd.prog 25 #[.slice A 4 4] w fun e w' => e = .returned (.int .i64 6) ∧ Below w.heap.size w w' := by
  have := resp_c (c := 4) (l := aliveL) (sized_lit (by kernel_rfl)) hC
  rw [al_resp] at this
  exact this
theorem al_len_c {w : World} {A : Option Addr} (hC : k26.C w A 1 [⟨lenB, ⟨#[49, 50]⟩⟩]) : Calls Tryd.prog 20 #[.slice A 1 1] w fun e w' => e = .returned (.tuple #[.int .i64 12, .int .i64 0]) ∧ Below w.heap.size w w' := by
  have := len_c (c := 1) (l := [⟨lenB, ⟨#[49, 50]⟩⟩]) (sized_lit (by kernel_rfl)) hC (Nat.le_refl 1)
  rw [al_len] at this
  exact this
theorem al_te_c (w : World) : Calls Tryd.prog 12 #[.string ⟨#[116, 101]⟩] w fun e w' => e = .returned (.bool true) ∧ Below w.heap.size w w' := by
  have := name_c ⟨#[116, 101]⟩ (by decide) w
  rw [al_te] at this
  exact this
theorem al_A_c (w : World) : Calls Tryd.prog 12 #[.string ⟨#[65]⟩] w fun e w' => e = .returned (.bool false) ∧ Below w.heap.size w w' := by
  have := name_c ⟨#[65]⟩ (by decide) w
  rw [al_A] at this
  exact this
theorem al_v_c (w : World) : Calls Tryd.prog 16 #[.string ⟨#[]⟩] w fun e w' => e = .returned (.bool true) ∧ Below w.heap.size w w' := by
  have := value_c ⟨#[]⟩ (by decide) w
  rw [al_v] at this
  exact this
def aCells : Array Value := #[.string ⟨#[58, 109, 101, 116, 104, 111, 100]⟩, .string ⟨#[71, 69, 84]⟩, .string ⟨#[58, 115, 99, 104, 101, 109, 101]⟩, .string ⟨#[104, 116, 116, 112]⟩, .string ⟨#[58, 97, 117, 116, 104, 111, 114, 105, 116, 121]⟩, .string ⟨#[97]⟩, .string ⟨#[58, 112, 97, 116, 104]⟩, .string ⟨#[47]⟩]
def lCells : Array Value := #[.string ⟨#[99, 111, 110, 116, 101, 110, 116, 45, 108, 101, 110, 103, 116, 104]⟩, .string ⟨#[49, 50]⟩]
set_option maxHeartbeats 800000 in
set_option maxRecDepth 20000 in
theorem alive_c (w : World) : Calls Tryd.prog 11 #[] w fun e w' => e = .returned (.bool true) ∧ Below w.heap.size w w' := by
  have hA : k26.C (w.alloc (.cells aCells 26)) (some ⟨w.heap.size, 0, none⟩) 4 aliveL := flds_of (heap_alloc_new w _) [] aliveL [] rfl (by decide)
  have hA1 : k26.C (w.alloc (.cells aCells 26)) (some ⟨w.heap.size, 2, none⟩) 3 aliveL.tail := flds_of (heap_alloc_new w _) [.string ⟨#[58, 109, 101, 116, 104, 111, 100]⟩, .string ⟨#[71, 69, 84]⟩] aliveL.tail [] rfl (by decide)
  have hL : k26.C ((w.alloc (.cells aCells 26)).alloc (.cells lCells 26)) (some ⟨w.heap.size + 1, 0, none⟩) 1 [⟨lenB, ⟨#[49, 50]⟩⟩] := by
    have := heap_alloc_new (w.alloc (.cells aCells 26)) (.cells lCells 26)
    rw [World.size_alloc] at this
    exact flds_of this [] [⟨lenB, ⟨#[49, 50]⟩⟩] [] rfl (by decide)
  have HB := Aside0.mk (below_alloc (below_alloc (Below.refl w.heap.size w) (.cells aCells 26)) (.cells lCells 26))
  have HL := Aside0.mk (al_len_c hL)
  have HR : ∀ w1, Below ((w.alloc (.cells aCells 26)).alloc (.cells lCells 26)).heap.size ((w.alloc (.cells aCells 26)).alloc (.cells lCells 26)) w1 → Aside0 (k26.C w1 (some ⟨w.heap.size, 0, none⟩) 4 aliveL) ∧ Aside0 (k26.C w1 (some ⟨w.heap.size, 2, none⟩) 3 aliveL.tail) := fun w1 hb =>
    ⟨⟨Kd.C_below (Kd.C_alloc hA _) hb⟩, ⟨Kd.C_below (Kd.C_alloc hA1 _) hb⟩⟩
  clear hA hA1 hL
  unfold aCells lCells at HL HB HR
  go_enter Tryd.func11, Tryd.ntmps11
  go_wp2_with (first
    | (go_at_call 20; refine HL.out.mono ?_; rintro e w1 ⟨rfl, hb⟩; obtain ⟨C1, T1⟩ := HR w1 hb; have HB1 := Aside0.mk (below_step HB.out hb); clear HL HR hb HB)
    | (go_at_call 13; (with_reducible refine (al_req_c C1.out).mono ?_); rintro e w2 ⟨rfl, hb⟩; have C2 := Aside0.mk (Kd.C_below C1.out hb); have T2 := Aside0.mk (Kd.C_below T1.out hb); have HB2 := Aside0.mk (below_step HB1.out hb); clear C1 T1 hb HB1)
    | (go_at_call 13; (with_reducible refine (al_req1_c T2.out).mono ?_); rintro e w3 ⟨rfl, hb⟩; have C3 := Aside0.mk (Kd.C_below C2.out hb); have HB3 := Aside0.mk (below_step HB2.out hb); clear C2 T2 hb HB2)
    | (go_at_call 25; (with_reducible refine (al_resp_c C3.out).mono ?_); rintro e w4 ⟨rfl, hb⟩; have HB4 := Aside0.mk (below_step HB3.out hb); clear C3 hb HB3)
    | (go_at_call 12; (with_reducible refine (al_te_c _).mono ?_); rintro e w5 ⟨rfl, hb⟩; have HB5 := Aside0.mk (below_step HB4.out hb); clear hb HB4)
    | (go_at_call 12; (with_reducible refine (al_A_c _).mono ?_); rintro e w6 ⟨rfl, hb⟩; have HB6 := Aside0.mk (below_step HB5.out hb); clear hb HB5)
    | (go_at_call 16; (with_reducible refine (al_v_c _).mono ?_); rintro e w7 ⟨rfl, hb⟩; have HB7 := Aside0.mk (below_step HB6.out hb); clear hb HB6))
  go_ret
  exact ⟨rfl, HB7.out⟩
end Go.Proofs.YthibjhjeppfahaaDoor.Fw
