/- FieldForbids. -/
import Derived.Test.YthibjhjeppfahaaDoorFAlive
import Derived.Test.YthibjhjeppfahaaDoorFApp
namespace Go.Proofs.YthibjhjeppfahaaDoor.Fw
open Go.RowKit Go.Proofs.YthibjhjeppfahaaDoor.XFi Go.Proofs.YthibjhjeppfahaaDoorW.PrintWords Go.Proofs.YthibjhjeppfahaaDoorW.PrintLast Go.Proofs.YthibjhjeppfahaaDoorW.PrintMore Go.Proofs.YthibjhjeppfahaaDoor.Ms
theorem trail_n {A : Option Addr} {l : List S26} {n c : Nat} {w : World} (hS : Sized l) (hC : k26.C w A n l) : Calls Tryd.prog 27 #[.slice A n c] w fun e w' => e = .returned (.int .i64 (trailQ l)) ∧ Below w.heap.size w w' := by
  obtain rfl : l.length = n := hC.1
  exact trail_c hS hC
theorem resp_n {A : Option Addr} {l : List S26} {n c : Nat} {w : World} (hS : Sized l) (hC : k26.C w A n l) : Calls Tryd.prog 25 #[.slice A n c] w fun e w' => e = .returned (.int .i64 (respQ l)) ∧ Below w.heap.size w w' := by
  obtain rfl : l.length = n := hC.1
  exact resp_c hS hC
theorem req_n {A : Option Addr} {l : List S26} {n c : Nat} {w : World} (hS : Sized l) (hC : k26.C w A n l) : Calls Tryd.prog 13 #[.slice A n c] w fun e w' => e = .returned (.int .i64 (reqQ l)) ∧ Below w.heap.size w w' := by
  obtain rfl : l.length = n := hC.1
  exact req_c hS hC
theorem get_n (name : ByteArray) {A : Option Addr} {l : List S26} {n c : Nat} {w : World} (hS : Sized l) (hC : k26.C w A n l) (hc : n ≤ c) : Calls Tryd.prog 15 #[.string name, .slice A n c] w fun e w' => e = .returned (.tuple #[.string ((getP name l).getD ⟨#[]⟩), .bool (getP name l).isSome]) ∧ Below w.heap.size w w' := by
  obtain rfl : l.length = n := hC.1
  exact get_c name hS hC hc
theorem len_n {A : Option Addr} {l : List S26} {n c : Nat} {w : World} (hS : Sized l) (hC : k26.C w A n l) (hc : n ≤ c) : Calls Tryd.prog 20 #[.slice A n c] w fun e w' => e = .returned (.tuple #[.int .i64 (lenQ l).1, .int .i64 (lenQ l).2]) ∧ Below w.heap.size w w' := by
  obtain rfl : l.length = n := hC.1
  exact len_c hS hC hc
theorem lit1 (w : World) (a b : ByteArray) : k26.C (w.alloc (.cells #[.string a, .string b] 26)) (some ⟨w.heap.size, 0, none⟩) 1 [⟨a, b⟩] := flds_of (heap_alloc_new w _) [] [⟨a, b⟩] [] rfl (by simp)
theorem sized1 {a b : ByteArray} (ha : a.size ≤ 100000) (hb : b.size ≤ 100000) : Sized [⟨a, b⟩] := ⟨by simp, fun f hf => by obtain rfl := List.mem_singleton.1 hf; exact ⟨ha, hb⟩⟩
def fbNames : List ByteArray := [⟨#[99, 111, 110, 110, 101, 99, 116, 105, 111, 110]⟩, ⟨#[116, 114, 97, 110, 115, 102, 101, 114, 45, 101, 110, 99, 111, 100, 105, 110, 103]⟩, ⟨#[117, 112, 103, 114, 97, 100, 101]⟩, ⟨#[107, 101, 101, 112, 45, 97, 108, 105, 118, 101]⟩, ⟨#[116, 101]⟩]
theorem forb_walk {names : List ByteArray} {f : S26} (h : forbP f = true) : walkQ names [f] [] false = (none, 6) := by
  unfold walkQ
  rw [h, Bool.or_true, if_pos rfl]
theorem forb_trail {f : S26} (h : forbP f = true) : trailQ [f] = 6 := by unfold trailQ; rw [forb_walk h]
theorem forb_req {f : S26} (h : forbP f = true) : reqQ [f] = 6 := by unfold reqQ; rw [forb_walk h]
theorem forb_resp {f : S26} (h : forbP f = true) : respQ [f] = 6 := by unfold respQ; rw [forb_walk h]
theorem lit1' {W : World} {b : Nat} (h : W.heap.size = b) (a c : ByteArray) : k26.C (W.alloc (.cells #[.string a, .string c] 26)) (some ⟨b, 0, none⟩) 1 [⟨a, c⟩] := h ▸ lit1 W a c
theorem blk_keep {w w' : World} {g : Nat} {o x : Obj} (h : w.heap[g]? = some x) (hb : Below (w.alloc o).heap.size (w.alloc o) w') : w'.heap[g]? = some x := by
  have hg := (Array.getElem?_eq_some_iff.1 h).1
  rw [hb.block g (by rw [World.size_alloc]; omega), Below.heap_alloc _ _ _ hg, h]
theorem blk_two (w : World) (o c : Obj) : ((w.alloc o).alloc c).heap[w.heap.size + 1]? = some c := by
  have := heap_alloc_new (w.alloc o) c
  rwa [World.size_alloc] at this
theorem forb_fit {n v : ByteArray} (hn : n.size ≤ 100) (hv : v.size ≤ 100) (h : forbP ⟨n, v⟩ = true) (w : World) (A : Option Addr) (hC : k26.C w A 1 [⟨n, v⟩]) :
    (Calls Tryd.prog 27 #[.slice A 1 1] w fun e w' => e = .returned (.int .i64 6) ∧ Below w.heap.size w w') ∧ (Calls Tryd.prog 13 #[.slice A 1 1] w fun e w' => e = .returned (.int .i64 6) ∧ Below w.heap.size w w') ∧ (Calls Tryd.prog 25 #[.slice A 1 1] w fun e w' => e = .returned (.int .i64 6) ∧ Below w.heap.size w w') := by
  have h1 := trail_n (c := 1) (sized1 (a := n) (b := v) (by omega) (by omega)) hC
  have h2 := req_n (c := 1) (sized1 (a := n) (b := v) (by omega) (by omega)) hC
  have h3 := resp_n (c := 1) (sized1 (a := n) (b := v) (by omega) (by omega)) hC
  rw [forb_trail h] at h1
  rw [forb_req h] at h2
  rw [forb_resp h] at h3
  exact ⟨h1, h2, h3⟩
theorem nm_c {n : ByteArray} (hn : n.size ≤ 100) (h : nameP n = true) (w : World) : Calls Tryd.prog 12 #[.string n] w fun e w' => e = .returned (.bool true) ∧ Below w.heap.size w w' := by
  rw [← h]
  exact name_c n (by omega) w
theorem tmod_b (a b : Int) (hb : 0 < b) : -b < a.tmod b ∧ a.tmod b < b := ⟨Int.lt_tmod_of_pos a hb, Int.tmod_lt_of_pos a hb⟩
set_option maxHeartbeats 3200000 in
set_option maxRecDepth 20000 in
theorem forbids_calls (which : Int) (v : ByteArray) (w : World) (_ : v.size ≤ reachBytes) : Calls Tryd.prog 10 #[.int .i64 which, .string v] w fun e w' => e = .returned (.bool true) ∧ Below w.heap.size w w' := by
  by_cases h : (v.size : Int) > 60
  · have e1 : decide ((v.size : Int) > 60) = true := decide_eq_true h
    clear h
    go_enter Tryd.func10, Tryd.ntmps10
    go_wp2_with (first
      | (go_at_call 11; refine (alive_c _).mono ?_; rintro e w1 ⟨rfl, hb⟩; have HB := Aside0.mk hb; clear hb))
    go_ret
    exact ⟨rfl, HB.out⟩
  · have e1 : decide ((v.size : Int) > 60) = false := decide_eq_false h
    have hlit : ¬ (5 : Int) = 0 := by decide
    have hq : (wrap64 (which.tmod 5 + 5)).tmod 5 = 0 ∨ (wrap64 (which.tmod 5 + 5)).tmod 5 = 1 ∨ (wrap64 (which.tmod 5 + 5)).tmod 5 = 2 ∨ (wrap64 (which.tmod 5 + 5)).tmod 5 = 3 ∨ (wrap64 (which.tmod 5 + 5)).tmod 5 = 4 := by
      obtain ⟨h1, h2⟩ := tmod_b which 5 (by decide)
      rw [w64_in (which.tmod 5 + 5) (by omega), Int.tmod_eq_emod_of_nonneg (by omega)]
      omega
    have HV : Aside0 (v.size ≤ 60) := ⟨by omega⟩
    clear h
    rcases hq with hq | hq | hq | hq | hq
    · have HF := Aside0.mk (forb_fit (n := ⟨#[99, 111, 110, 110, 101, 99, 116, 105, 111, 110]⟩) (v := v) (by decide) (by have := HV.out; omega) (by simp [forbP])) 
      have HNM := Aside0.mk (nm_c (n := ⟨#[99, 111, 110, 110, 101, 99, 116, 105, 111, 110]⟩) (by decide) (by decide +kernel))
      clear HV
      go_enter Tryd.func10, Tryd.ntmps10
      go_wp2_with (first
        | (go_at_call 11; refine (alive_c _).mono ?_; rintro e w1 ⟨rfl, hb⟩; have HB := Aside0.mk hb; clear hb)
        | (go_at_call 27; refine (HF.out _ _ ?hc).1.mono ?_; (case hc => exact lit1' (by simp) _ _); rintro e w2 ⟨rfl, hb⟩; have hbk := blk_keep (blk_two _ _ _) hb; have k0 : w2.cell? ⟨w1.heap.size + 1, 0, none⟩ = some (.string ⟨#[99, 111, 110, 110, 101, 99, 116, 105, 111, 110]⟩) := cells_of_heap hbk 0 _ rfl; have k1 : w2.cell? ⟨w1.heap.size + 1, 1, none⟩ = some (.string v) := cells_of_heap hbk 1 _ rfl; have HBK := Aside0.mk hbk; have HB2 := Aside0.mk (below_step (below_alloc (below_alloc (below_alloc HB.out _) _) _) hb); clear hb hbk HB)
        | (go_at_call 13; refine (HF.out _ _ ?hc).2.1.mono ?_; (case hc => exact lit1' (by simp) _ _); rintro e w3 ⟨rfl, hb⟩; have hbk := blk_keep HBK.out hb; have k0 : w3.cell? ⟨w1.heap.size + 1, 0, none⟩ = some (.string ⟨#[99, 111, 110, 110, 101, 99, 116, 105, 111, 110]⟩) := cells_of_heap hbk 0 _ rfl; have k1 : w3.cell? ⟨w1.heap.size + 1, 1, none⟩ = some (.string v) := cells_of_heap hbk 1 _ rfl; clear HBK; have HBK := Aside0.mk hbk; have HB3 := Aside0.mk (below_step (below_alloc HB2.out _) hb); clear hb hbk HB2)
        | (go_at_call 25; refine (HF.out _ _ ?hc).2.2.mono ?_; (case hc => exact lit1' (by simp) _ _); rintro e w4 ⟨rfl, hb⟩; have HB4 := Aside0.mk (below_step (below_alloc HB3.out _) hb); clear hb HB3 HBK)
        | (go_at_call 12; refine (HNM.out _).mono ?_; rintro e w5 ⟨rfl, hb⟩; have HB5 := Aside0.mk (below_step HB4.out hb); clear hb HB4))
      go_ret
      exact ⟨rfl, HB5.out⟩
    · have HF := Aside0.mk (forb_fit (n := ⟨#[116, 114, 97, 110, 115, 102, 101, 114, 45, 101, 110, 99, 111, 100, 105, 110, 103]⟩) (v := v) (by decide) (by have := HV.out; omega) (by simp [forbP])) 
      have HNM := Aside0.mk (nm_c (n := ⟨#[116, 114, 97, 110, 115, 102, 101, 114, 45, 101, 110, 99, 111, 100, 105, 110, 103]⟩) (by decide) (by decide +kernel))
      clear HV
      go_enter Tryd.func10, Tryd.ntmps10
      go_wp2_with (first
        | (go_at_call 11; refine (alive_c _).mono ?_; rintro e w1 ⟨rfl, hb⟩; have HB := Aside0.mk hb; clear hb)
        | (go_at_call 27; refine (HF.out _ _ ?hc).1.mono ?_; (case hc => exact lit1' (by simp) _ _); rintro e w2 ⟨rfl, hb⟩; have hbk := blk_keep (blk_two _ _ _) hb; have k0 : w2.cell? ⟨w1.heap.size + 1, 0, none⟩ = some (.string ⟨#[116, 114, 97, 110, 115, 102, 101, 114, 45, 101, 110, 99, 111, 100, 105, 110, 103]⟩) := cells_of_heap hbk 0 _ rfl; have k1 : w2.cell? ⟨w1.heap.size + 1, 1, none⟩ = some (.string v) := cells_of_heap hbk 1 _ rfl; have HBK := Aside0.mk hbk; have HB2 := Aside0.mk (below_step (below_alloc (below_alloc (below_alloc HB.out _) _) _) hb); clear hb hbk HB)
        | (go_at_call 13; refine (HF.out _ _ ?hc).2.1.mono ?_; (case hc => exact lit1' (by simp) _ _); rintro e w3 ⟨rfl, hb⟩; have hbk := blk_keep HBK.out hb; have k0 : w3.cell? ⟨w1.heap.size + 1, 0, none⟩ = some (.string ⟨#[116, 114, 97, 110, 115, 102, 101, 114, 45, 101, 110, 99, 111, 100, 105, 110, 103]⟩) := cells_of_heap hbk 0 _ rfl; have k1 : w3.cell? ⟨w1.heap.size + 1, 1, none⟩ = some (.string v) := cells_of_heap hbk 1 _ rfl; clear HBK; have HBK := Aside0.mk hbk; have HB3 := Aside0.mk (below_step (below_alloc HB2.out _) hb); clear hb hbk HB2)
        | (go_at_call 25; refine (HF.out _ _ ?hc).2.2.mono ?_; (case hc => exact lit1' (by simp) _ _); rintro e w4 ⟨rfl, hb⟩; have HB4 := Aside0.mk (below_step (below_alloc HB3.out _) hb); clear hb HB3 HBK)
        | (go_at_call 12; refine (HNM.out _).mono ?_; rintro e w5 ⟨rfl, hb⟩; have HB5 := Aside0.mk (below_step HB4.out hb); clear hb HB4))
      go_ret
      exact ⟨rfl, HB5.out⟩
    · have HF := Aside0.mk (forb_fit (n := ⟨#[117, 112, 103, 114, 97, 100, 101]⟩) (v := v) (by decide) (by have := HV.out; omega) (by simp [forbP])) 
      have HNM := Aside0.mk (nm_c (n := ⟨#[117, 112, 103, 114, 97, 100, 101]⟩) (by decide) (by decide +kernel))
      clear HV
      go_enter Tryd.func10, Tryd.ntmps10
      go_wp2_with (first
        | (go_at_call 11; refine (alive_c _).mono ?_; rintro e w1 ⟨rfl, hb⟩; have HB := Aside0.mk hb; clear hb)
        | (go_at_call 27; refine (HF.out _ _ ?hc).1.mono ?_; (case hc => exact lit1' (by simp) _ _); rintro e w2 ⟨rfl, hb⟩; have hbk := blk_keep (blk_two _ _ _) hb; have k0 : w2.cell? ⟨w1.heap.size + 1, 0, none⟩ = some (.string ⟨#[117, 112, 103, 114, 97, 100, 101]⟩) := cells_of_heap hbk 0 _ rfl; have k1 : w2.cell? ⟨w1.heap.size + 1, 1, none⟩ = some (.string v) := cells_of_heap hbk 1 _ rfl; have HBK := Aside0.mk hbk; have HB2 := Aside0.mk (below_step (below_alloc (below_alloc (below_alloc HB.out _) _) _) hb); clear hb hbk HB)
        | (go_at_call 13; refine (HF.out _ _ ?hc).2.1.mono ?_; (case hc => exact lit1' (by simp) _ _); rintro e w3 ⟨rfl, hb⟩; have hbk := blk_keep HBK.out hb; have k0 : w3.cell? ⟨w1.heap.size + 1, 0, none⟩ = some (.string ⟨#[117, 112, 103, 114, 97, 100, 101]⟩) := cells_of_heap hbk 0 _ rfl; have k1 : w3.cell? ⟨w1.heap.size + 1, 1, none⟩ = some (.string v) := cells_of_heap hbk 1 _ rfl; clear HBK; have HBK := Aside0.mk hbk; have HB3 := Aside0.mk (below_step (below_alloc HB2.out _) hb); clear hb hbk HB2)
        | (go_at_call 25; refine (HF.out _ _ ?hc).2.2.mono ?_; (case hc => exact lit1' (by simp) _ _); rintro e w4 ⟨rfl, hb⟩; have HB4 := Aside0.mk (below_step (below_alloc HB3.out _) hb); clear hb HB3 HBK)
        | (go_at_call 12; refine (HNM.out _).mono ?_; rintro e w5 ⟨rfl, hb⟩; have HB5 := Aside0.mk (below_step HB4.out hb); clear hb HB4))
      go_ret
      exact ⟨rfl, HB5.out⟩
    · have HF := Aside0.mk (forb_fit (n := ⟨#[107, 101, 101, 112, 45, 97, 108, 105, 118, 101]⟩) (v := v) (by decide) (by have := HV.out; omega) (by simp [forbP])) 
      have HNM := Aside0.mk (nm_c (n := ⟨#[107, 101, 101, 112, 45, 97, 108, 105, 118, 101]⟩) (by decide) (by decide +kernel))
      clear HV
      go_enter Tryd.func10, Tryd.ntmps10
      go_wp2_with (first
        | (go_at_call 11; refine (alive_c _).mono ?_; rintro e w1 ⟨rfl, hb⟩; have HB := Aside0.mk hb; clear hb)
        | (go_at_call 27; refine (HF.out _ _ ?hc).1.mono ?_; (case hc => exact lit1' (by simp) _ _); rintro e w2 ⟨rfl, hb⟩; have hbk := blk_keep (blk_two _ _ _) hb; have k0 : w2.cell? ⟨w1.heap.size + 1, 0, none⟩ = some (.string ⟨#[107, 101, 101, 112, 45, 97, 108, 105, 118, 101]⟩) := cells_of_heap hbk 0 _ rfl; have k1 : w2.cell? ⟨w1.heap.size + 1, 1, none⟩ = some (.string v) := cells_of_heap hbk 1 _ rfl; have HBK := Aside0.mk hbk; have HB2 := Aside0.mk (below_step (below_alloc (below_alloc (below_alloc HB.out _) _) _) hb); clear hb hbk HB)
        | (go_at_call 13; refine (HF.out _ _ ?hc).2.1.mono ?_; (case hc => exact lit1' (by simp) _ _); rintro e w3 ⟨rfl, hb⟩; have hbk := blk_keep HBK.out hb; have k0 : w3.cell? ⟨w1.heap.size + 1, 0, none⟩ = some (.string ⟨#[107, 101, 101, 112, 45, 97, 108, 105, 118, 101]⟩) := cells_of_heap hbk 0 _ rfl; have k1 : w3.cell? ⟨w1.heap.size + 1, 1, none⟩ = some (.string v) := cells_of_heap hbk 1 _ rfl; clear HBK; have HBK := Aside0.mk hbk; have HB3 := Aside0.mk (below_step (below_alloc HB2.out _) hb); clear hb hbk HB2)
        | (go_at_call 25; refine (HF.out _ _ ?hc).2.2.mono ?_; (case hc => exact lit1' (by simp) _ _); rintro e w4 ⟨rfl, hb⟩; have HB4 := Aside0.mk (below_step (below_alloc HB3.out _) hb); clear hb HB3 HBK)
        | (go_at_call 12; refine (HNM.out _).mono ?_; rintro e w5 ⟨rfl, hb⟩; have HB5 := Aside0.mk (below_step HB4.out hb); clear hb HB4))
      go_ret
      exact ⟨rfl, HB5.out⟩
    · by_cases htr : v.toList = [116, 114, 97, 105, 108, 101, 114, 115]
      · have htr2 : v = ⟨#[116, 114, 97, 105, 108, 101, 114, 115]⟩ := by
          rw [Go.Lib.toList_data] at htr
          exact ByteArray.ext (Array.toList_inj.1 htr)
        subst htr2
        have HT := Aside0.mk (fun (w : World) (A : Option Addr) (hC : k26.C w A 1 [⟨⟨#[116, 101]⟩, ⟨#[116, 114, 97, 105, 108, 101, 114, 115]⟩⟩]) => show Calls Tryd.prog 27 #[.slice A 1 1] w fun e w' => e = .returned (.int .i64 0) ∧ Below w.heap.size w w' from by
          have := trail_n (c := 1) (sized1 (a := ⟨#[116, 101]⟩) (b := ⟨#[116, 114, 97, 105, 108, 101, 114, 115]⟩) (by decide) (by decide)) hC
          rw [show trailQ [⟨⟨#[116, 101]⟩, ⟨#[116, 114, 97, 105, 108, 101, 114, 115]⟩⟩] = 0 by kernel_rfl] at this
          exact this)
        clear HV htr
        go_enter Tryd.func10, Tryd.ntmps10
        go_wp2_with (first
          | (go_at_call 11; refine (alive_c _).mono ?_; rintro e w1 ⟨rfl, hb⟩; have HB := Aside0.mk hb; clear hb)
          | (go_at_call 27; refine (HT.out _ _ ?hc).mono ?_; (case hc => exact lit1' (by simp) _ _); rintro e w2 ⟨rfl, hb⟩; have HB2 := Aside0.mk (below_step (below_alloc (below_alloc (below_alloc HB.out _) _) _) hb); clear hb HB))
        go_ret
        exact ⟨rfl, HB2.out⟩
      · have HF := Aside0.mk (forb_fit (n := ⟨#[116, 101]⟩) (v := v) (by decide) (by have := HV.out; omega) (by simp [forbP, htr]))
        have HNM := Aside0.mk (nm_c (n := ⟨#[116, 101]⟩) (by decide) (by decide +kernel))
        have hbq : (v.toList == [116, 114, 97, 105, 108, 101, 114, 115]) = false := beq_eq_false_iff_ne.2 htr
        clear HV htr
        go_enter Tryd.func10, Tryd.ntmps10
        go_wp2_with (first
          | (go_at_call 11; refine (alive_c _).mono ?_; rintro e w1 ⟨rfl, hb⟩; have HB := Aside0.mk hb; clear hb)
          | (go_at_call 27; refine (HF.out _ _ ?hc).1.mono ?_; (case hc => exact lit1' (by simp) _ _); rintro e w2 ⟨rfl, hb⟩; have hbk := blk_keep (blk_two _ _ _) hb; have k0 : w2.cell? ⟨w1.heap.size + 1, 0, none⟩ = some (.string ⟨#[116, 101]⟩) := cells_of_heap hbk 0 _ rfl; have k1 : w2.cell? ⟨w1.heap.size + 1, 1, none⟩ = some (.string v) := cells_of_heap hbk 1 _ rfl; have HBK := Aside0.mk hbk; have HB2 := Aside0.mk (below_step (below_alloc (below_alloc (below_alloc HB.out _) _) _) hb); clear hb hbk HB)
          | (go_at_call 13; refine (HF.out _ _ ?hc).2.1.mono ?_; (case hc => exact lit1' (by simp) _ _); rintro e w3 ⟨rfl, hb⟩; have hbk := blk_keep HBK.out hb; have k0 : w3.cell? ⟨w1.heap.size + 1, 0, none⟩ = some (.string ⟨#[116, 101]⟩) := cells_of_heap hbk 0 _ rfl; have k1 : w3.cell? ⟨w1.heap.size + 1, 1, none⟩ = some (.string v) := cells_of_heap hbk 1 _ rfl; clear HBK; have HBK := Aside0.mk hbk; have HB3 := Aside0.mk (below_step (below_alloc HB2.out _) hb); clear hb hbk HB2)
          | (go_at_call 25; refine (HF.out _ _ ?hc).2.2.mono ?_; (case hc => exact lit1' (by simp) _ _); rintro e w4 ⟨rfl, hb⟩; have HB4 := Aside0.mk (below_step (below_alloc HB3.out _) hb); clear hb HB3 HBK)
          | (go_at_call 12; refine (HNM.out _).mono ?_; rintro e w5 ⟨rfl, hb⟩; have HB5 := Aside0.mk (below_step HB4.out hb); clear hb HB4))
        go_ret
        exact ⟨rfl, HB5.out⟩
end Go.Proofs.YthibjhjeppfahaaDoor.Fw
