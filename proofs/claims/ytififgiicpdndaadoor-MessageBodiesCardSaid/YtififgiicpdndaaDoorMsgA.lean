/- alive. -/
import Derived.Test.YtififgiicpdndaaDoorMsgF
namespace Go.Proofs.YtififgiicpdndaaDoor.Fw
open Go.RowKit Go.Proofs.YtififgiicpdndaaDoor.XMi Go.Proofs.YtififgiicpdndaaDoorW.PrintWords Go.Proofs.YtififgiicpdndaaDoorW.PrintLast Go.Proofs.YtififgiicpdndaaDoorW.PrintMore Go.Proofs.YtififgiicpdndaaDoor.Ms Go.Proofs.YtififgiicpdndaaDoor.Ob
def getB : ByteArray := ⟨#[71, 69, 84]⟩
def alRQ : RQ := ⟨getB, ⟨#[104, 116, 116, 112]⟩, ⟨#[97]⟩, ⟨#[47]⟩, [], ⟨#[]⟩, []⟩
theorem al_fe : fieldsE alRQ = 0 := by kernel_rfl
def al200 : List S30 := [⟨colStatus, ⟨#[50, 48, 48]⟩⟩]
def alS : MS := ⟨getB, ⟨200, [], [], -1, 0, true⟩, false⟩
theorem al_head : headP (newP ⟨#[71, 69, 84]⟩) true al200 = (0, alS) := by kernel_rfl
theorem head_to {w : World} {g : Nat} {s : MS} {Af At : Option Addr} {cf ct : Nat} (h : Rd w g s Af cf At ct) {fin : Bool} {A : Option Addr} {l : List S30} {n c : Nat} {r : Int} {s' : MS} (e : headP s fin l = (r, s')) (hS : Sized l) (hC : k30.C w A n l) (hc : n ≤ c) : Calls Tryd.prog 13 #[.pointer (some ⟨g, 0, none⟩), .bool fin, .slice A n c] w (Left w g (r, s')) := by
  obtain rfl : l.length = n := hC.1
  rw [← e]
  exact head_c h fin hS hC hc
theorem data_to {w : World} {g : Nat} {s : MS} {Af At : Option Addr} {cf ct : Nat} (h : Rd w g s Af cf At ct) {n : Int} {fin : Bool} {r : Int} {s' : MS} (e : dataP s n fin = (r, s')) (hr : -9223372036854775808 ≤ s.a.came + n ∧ s.a.came + n ≤ 9223372036854775807) : Calls Tryd.prog 20 #[.pointer (some ⟨g, 0, none⟩), .int .i64 n, .bool fin] w (Left w g (r, s')) := by
  rw [← e]
  exact data_c h n fin hr
theorem c_none (w : World) : k30.C w none 0 [] := ⟨rfl, Nat.zero_le _, fun h => absurd h (Nat.lt_irrefl _)⟩
set_option maxHeartbeats 1600000 in
set_option maxRecDepth 20000 in
theorem alive_c (w : World) : Calls Tryd.prog 10 #[] w fun e w' => e = .returned (.bool true) ∧ Below w.heap.size w w' := by
  have HFs := Aside0.mk (fun (W : World) => fields_c alRQ none none 0 0 W (c_none W) (c_none W) (Nat.le_refl _) (by decide) (by decide) (sized_lit (l := []) (by kernel_rfl)) (sized_lit (by kernel_rfl)))
  have HP := Aside0.mk (fun (W : World) => safe_c ⟨#[80, 85, 84]⟩ W)
  have HQ := Aside0.mk (fun (W : World) => safe_c ⟨#[80, 79, 83, 84]⟩ W)
  rw [show safeP ⟨#[80, 85, 84]⟩ = true by kernel_rfl] at HP
  rw [show safeP ⟨#[80, 79, 83, 84]⟩ = false by kernel_rfl] at HQ
  have mixed : Tryd.prog.follows Departure.mixedOrders = true := by kernel_rfl
  go_enter Tryd.func10, Tryd.ntmps10
  go_wp2_with (first
    | (go_at_call 12; refine (new_c ⟨#[71, 69, 84]⟩ _).mono ?_; rintro e w1 ⟨rfl, hr, hb⟩; have HR := Aside0.mk hr; have HB := Aside0.mk hb; clear hr hb)
    | (go_at_call 15; refine (HFs.out _).mono ?_; rintro e w2 ⟨hb, A2, n2, c2, rfl, _, hF⟩; have hn2 : n2 = 4 := (hF al_fe).1; subst hn2; rw [al_fe]; have HR2 := Aside0.mk (HR.out.below hb); have HB2 := Aside0.mk (below_step HB.out hb); clear hb hF HR HB HFs)
    | (go_at_call 13; refine (head_to (HR2.out.below (below_alloc (Below.refl _ _) _)) al_head (sized_lit (l := al200) (by kernel_rfl)) (lit1 w2 colStatus ⟨#[50, 48, 48]⟩) (Nat.le_refl 1)).mono ?_; rintro e w3 ⟨rfl, ⟨Cf, cf, Ct, ct, hr⟩, hs⟩; have HR3 := Aside0.mk hr; have HB3 := Aside0.mk (hs.below (below_alloc HB2.out _) (fun k hk => Nat.le_of_eq hk.symm)); clear hr hs HR2 HB2)
    | (go_at_call 14; refine (done_c HR3.out).mono ?_; rintro e w4 ⟨rfl, hb⟩; have HR4 := Aside0.mk (HR3.out.below hb); have HB4 := Aside0.mk (below_step HB3.out hb); clear hb HR3 HB3)
    | (go_at_call 21; refine (status_c HR4.out).mono ?_; rintro e w5 ⟨rfl, hb⟩; have HB5 := Aside0.mk (below_step HB4.out hb); clear hb HR4 HB4)
    | (go_at_call 25; (with_reducible refine (HP.out _).mono ?_); rintro e w6 ⟨rfl, hb⟩; have HB6 := Aside0.mk (below_step HB5.out hb); clear hb HB5)
    | (go_at_call 25; (with_reducible refine (HQ.out _).mono ?_); rintro e w7 ⟨rfl, hb⟩; have HB7 := Aside0.mk (below_step HB6.out hb); clear hb HB6))
  go_ret
  exact ⟨rfl, HB7.out⟩
end Go.Proofs.YtififgiicpdndaaDoor.Fw
