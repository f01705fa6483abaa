/- OpsRoot: the law's walk. No condition. -/
import Derived.Test.YtemneeknemijpaaRr
import Derived.Test.YtemneeknemijpaaAlike
import Derived.Test.YtemneeknemijpaaHead4
set_option maxRecDepth 100000
namespace Go.Proofs.Ytemneeknemijpaa
open Go.RowKit

namespace Fl
open Ieee
theorem fsqrt_nan {x : Nat} (h : isNaN x = true) : fsqrt x = qnan := by
  unfold fsqrt Format.sqrt
  unfold isNaN at h
  cases e : D.read x <;> rw [e] at h <;> simp [Datum.isNaN] at h
  rfl
theorem fsqrt_inf {x : Nat} {s : Bool} (h : D.read x = .infinity s) : fsqrt x = if s then qnan else D.word false (2047 * 2 ^ 52) := by
  unfold fsqrt Format.sqrt
  rw [h]
  cases s <;> rfl
theorem mant_zero {r : Nat} : mant r = 0 ↔ r = 0 := by unfold mant; split <;> omega
theorem fsqrt_zero {x : Nat} (hx : Fin x) (h : rg x = 0) : fsqrt x = x := by
  unfold fsqrt Format.sqrt
  rw [read_fin hx, show mant (rg x) = 0 from mant_zero.2 h]
  show (some (D.write (Datum.number (sg x) 0 _))).getD qnan = x
  simp only [Option.getD_some, Format.write, nearest_eq]
  have e : rung 0 (((ex (rg x) : Nat) : Int) - 1074) = rg x := by rw [h]; rfl
  rw [e, word_split hx.1]
theorem fsqrt_neg {x : Nat} (hx : Fin x) (hs : sg x = true) (h : rg x ≠ 0) : fsqrt x = qnan := by
  unfold fsqrt Format.sqrt
  rw [read_fin hx, hs]
  unfold Datum.root
  simp only [if_neg (mt mant_zero.1 h), if_true]
  rfl
theorem canon_qnan {x : Nat} (h : canon x = qnan) : isNaN x = true := by rw [← isNaN_canon, h]; exact isNaN_qnan
theorem order_infs {x y : Nat} {s t : Bool} (hx : D.read x = .infinity s) (hy : D.read y = .infinity t) : D.order x y = some (compare t.toNat s.toNat) := by
  unfold Format.order
  rw [hx, hy]; rfl
end Fl
set_option maxHeartbeats 1000000 in
theorem opsRoot_nan (a : Nat) (w : World) (h : Fl.isNaN a = true) : Calls Try.prog 12 #[F a] w fun e w' => e = .returned (.bool true) ∧ Below w.heap.size w w' := by
  have H := Lib.hid h
  clear h
  go_enter Try.func12, Try.ntmps12
  go_wp2_with fail
  refine (l4_head _).mono ?_
  rintro e w1 ⟨rfl, hb1⟩
  have HB : Hid (Below w.heap.size w w1) := Lib.hid hb1
  clear hb1
  go_wp2_with fail
  refine (ops_root a _).mono ?_
  rintro e w2 ⟨r, n2, rfl, hx, hlr, hw2⟩
  have hb2 : Below w1.heap.size w1 w2 := by rw [hw2]; exact below_drewN (Below.refl _ _) _
  have Pr := Lib.hid (And.intro hx hlr)
  have HB := Lib.hid (below_next HB.out hb2)
  clear hx hlr hw2 hb2
  have or1 : FloatKind.f64.format.order r r = none := Fl.ord_nan_left (Fl.canon_qnan (Pr.out.1.trans (Fl.fsqrt_nan H.out))) r
  have oa : FloatKind.f64.format.order a 0 = none := Fl.ord_nan_left H.out 0
  go_wp2
  go_ret
  exact ⟨rfl, HB.out⟩

set_option maxHeartbeats 1000000 in
theorem opsRoot_neg (a : Nat) (w : World) (h : Fl.Fin a ∧ Fl.V a < 0) : Calls Try.prog 12 #[F a] w fun e w' => e = .returned (.bool true) ∧ Below w.heap.size w w' := by
  have H := Lib.hid h
  clear h
  go_enter Try.func12, Try.ntmps12
  go_wp2_with fail
  refine (l4_head _).mono ?_
  rintro e w1 ⟨rfl, hb1⟩
  have HB : Hid (Below w.heap.size w w1) := Lib.hid hb1
  clear hb1
  go_wp2_with fail
  refine (ops_root a _).mono ?_
  rintro e w2 ⟨r, n2, rfl, hx, hlr, hw2⟩
  have hb2 : Below w1.heap.size w1 w2 := by rw [hw2]; exact below_drewN (Below.refl _ _) _
  have Pr := Lib.hid (And.intro hx hlr)
  have HB := Lib.hid (below_next HB.out hb2)
  clear hx hlr hw2 hb2
  have or1 : FloatKind.f64.format.order r r = none := Fl.ord_nan_left (Fl.canon_qnan (Pr.out.1.trans (Fl.fsqrt_neg H.out.1 (by rw [Fl.sg_V (by have := H.out.2; omega)]; exact decide_eq_true H.out.2) (by intro h0; have := H.out.2; unfold Fl.V Fl.mg at this; rw [h0] at this; split at this <;> simp [Fl.RV] at this)))) r
  have oa : FloatKind.f64.format.order a 0 = some .lt := by have := Fl.order_fin H.out.1 Fl.fin0; rw [show Fl.V 0 = 0 by decide +kernel, Int.compare_eq_lt.2 H.out.2] at this; exact this
  go_wp2
  go_ret
  exact ⟨rfl, HB.out⟩

set_option maxHeartbeats 1000000 in
theorem opsRoot_zero (a : Nat) (w : World) (h : Fl.Fin a ∧ Fl.rg a = 0) : Calls Try.prog 12 #[F a] w fun e w' => e = .returned (.bool true) ∧ Below w.heap.size w w' := by
  have H := Lib.hid h
  clear h
  go_enter Try.func12, Try.ntmps12
  go_wp2_with fail
  refine (l4_head _).mono ?_
  rintro e w1 ⟨rfl, hb1⟩
  have HB : Hid (Below w.heap.size w w1) := Lib.hid hb1
  clear hb1
  go_wp2_with fail
  refine (ops_root a _).mono ?_
  rintro e w2 ⟨r, n2, rfl, hx, hlr, hw2⟩
  have hb2 : Below w1.heap.size w1 w2 := by rw [hw2]; exact below_drewN (Below.refl _ _) _
  have Pr := Lib.hid (And.intro hx hlr)
  have HB := Lib.hid (below_next HB.out hb2)
  clear hx hlr hw2 hb2
  have er : r = a := by have := Pr.out.1.trans (Fl.fsqrt_zero H.out.1 H.out.2); exact Fl.of_canon this H.out.1.notNaN
  have oa : FloatKind.f64.format.order a 0 = some .eq := by have := Fl.order_fin H.out.1 Fl.fin0; rw [show Fl.V 0 = 0 by decide +kernel, show Fl.V a = 0 by unfold Fl.V Fl.mg; rw [H.out.2]; split <;> rfl, Int.compare_eq_eq.2 rfl] at this; exact this
  have or1 : FloatKind.f64.format.order r 0 = some .eq := by rw [er]; exact oa
  clear er
  go_wp2
  go_ret
  exact ⟨rfl, HB.out⟩

set_option maxHeartbeats 1000000 in
theorem opsRoot_minf (a : Nat) (w : World) (h : Fl.D.read a = .infinity true) : Calls Try.prog 12 #[F a] w fun e w' => e = .returned (.bool true) ∧ Below w.heap.size w w' := by
  have H := Lib.hid h
  clear h
  go_enter Try.func12, Try.ntmps12
  go_wp2_with fail
  refine (l4_head _).mono ?_
  rintro e w1 ⟨rfl, hb1⟩
  have HB : Hid (Below w.heap.size w w1) := Lib.hid hb1
  clear hb1
  go_wp2_with fail
  refine (ops_root a _).mono ?_
  rintro e w2 ⟨r, n2, rfl, hx, hlr, hw2⟩
  have hb2 : Below w1.heap.size w1 w2 := by rw [hw2]; exact below_drewN (Below.refl _ _) _
  have Pr := Lib.hid (And.intro hx hlr)
  have HB := Lib.hid (below_next HB.out hb2)
  clear hx hlr hw2 hb2
  have or1 : FloatKind.f64.format.order r r = none := Fl.ord_nan_left (Fl.canon_qnan (Pr.out.1.trans (Fl.fsqrt_inf H.out))) r
  have oa : FloatKind.f64.format.order a 0 = some .lt := Fl.order_inf true H.out Fl.fin0
  go_wp2
  go_ret
  exact ⟨rfl, HB.out⟩

set_option maxHeartbeats 1000000 in
theorem opsRoot_pinf (a : Nat) (w : World) (h : Fl.D.read a = .infinity false ∧ a = Fl.D.word false (2047 * 2 ^ 52)) : Calls Try.prog 12 #[F a] w fun e w' => e = .returned (.bool true) ∧ Below w.heap.size w w' := by
  have H := Lib.hid h
  clear h
  go_enter Try.func12, Try.ntmps12
  go_wp2_with fail
  refine (l4_head _).mono ?_
  rintro e w1 ⟨rfl, hb1⟩
  have HB : Hid (Below w.heap.size w w1) := Lib.hid hb1
  clear hb1
  go_wp2_with fail
  refine (ops_root a _).mono ?_
  rintro e w2 ⟨r, n2, rfl, hx, hlr, hw2⟩
  have hb2 : Below w1.heap.size w1 w2 := by rw [hw2]; exact below_drewN (Below.refl _ _) _
  have Pr := Lib.hid (And.intro hx hlr)
  have HB := Lib.hid (below_next HB.out hb2)
  clear hx hlr hw2 hb2
  have er : r = a := by have := Pr.out.1.trans (Fl.fsqrt_inf H.out.1); rw [H.out.2]; exact Fl.of_canon this (Fl.isNaN_word false (Nat.le_refl _))
  have oa : FloatKind.f64.format.order a 0 = some .gt := Fl.order_inf false H.out.1 Fl.fin0
  have ob : FloatKind.f64.format.order a 9218868437227405311 = some .gt := Fl.order_inf false H.out.1 max_fin
  have or1 : FloatKind.f64.format.order r a = some .eq := by rw [er]; have := Fl.order_infs H.out.1 H.out.1; exact this
  clear er
  go_wp2
  go_ret
  exact ⟨rfl, HB.out⟩

theorem Fl.V_fneg' {x : Nat} (h : Fl.Fin x) : Fl.Fin (Fl.fneg x) := (Fl.Is.neg (⟨h, rfl⟩ : Fl.Is x (Fl.V x))).fin
theorem bd_pow2 {a : Int} {K : Nat} (h : Bd a K) : Bd (a * ((2 ^ 2 : Nat) : Int)) (K + 2) := ⟨by
  have := h.lt
  rw [Int.natAbs_mul, Int.natAbs_natCast, Nat.pow_add 2 K]
  exact Nat.mul_lt_mul_of_pos_right this (by decide)⟩
set_option maxHeartbeats 8000000 in
theorem opsRoot_pos (a : Nat) (w : World) (h : Fl.Fin a) (hp : 0 < Fl.V a) : Calls Try.prog 12 #[F a] w fun e w' => e = .returned (.bool true) ∧ Below w.heap.size w w' := by
  have H := Lib.hid h
  have HP := Lib.hid hp
  clear h hp
  go_enter Try.func12, Try.ntmps12
  go_wp2_with fail
  refine (l4_head _).mono ?_
  rintro e w1 ⟨rfl, hb1⟩
  have HB : Hid (Below w.heap.size w w1) := Lib.hid hb1
  clear hb1
  go_wp2_with fail
  refine (ops_root a _).mono ?_
  rintro e w2 ⟨r, n2, rfl, hx, hlr, hw2⟩
  have hb2 : Below w1.heap.size w1 w2 := by rw [hw2]; exact below_drewN (Below.refl _ _) _
  have Pr := Lib.hid (And.intro hx hlr)
  have HB := Lib.hid (below_next HB.out hb2)
  clear hx hlr hw2 hb2
  obtain ⟨hr0, hr1, hl1, hl2⟩ := Fl.root_law H.out HP.out Pr.out.1
  have HL1 := Lib.hid hl1
  have HL2 := Lib.hid hl2
  have HR0 := Lib.hid hr0
  have HR1 := Lib.hid hr1
  clear hl1 hl2 hr0 hr1
  obtain ⟨hv1, hv2, hv3⟩ := Fl.V_pos_word (r := r) (by have := HR1.out; omega)
  have HRF : Hid (Fl.Fin r) := Lib.hid ⟨Pr.out.2, by rw [hv3]; have := HR1.out; omega⟩
  have HRG : Hid (Fl.rg r = r) := Lib.hid hv3
  have HRS : Hid (Fl.sg r = false) := Lib.hid hv2
  have HRV : Hid (0 < Fl.V r) := Lib.hid (by
    have := Fl.mg_pos (x := r) (by rw [hv3]; have := HR0.out; omega)
    unfold Fl.V
    rw [hv2]
    simp
    omega)
  clear hv1 hv2 hv3
  have HN1 : Hid (Fl.fneg r = r + 9223372036854775808) := Lib.hid (Fl.fneg_lo (by have := HR1.out; omega))
  have HN2 : Hid (Fl.fneg (Fl.fneg r - 1) = r - 1) := Lib.hid (by rw [HN1.out]; have h0 := HR0.out; have h1 := HR1.out; rw [Fl.fneg_hi (by omega) (by omega)]; omega)
  have HNF : Hid (Fl.Fin (Fl.fneg r) ∧ Fl.sg (Fl.fneg r) = true ∧ Fl.rg (Fl.fneg r) ≠ 0) := Lib.hid (by
    have h0 := HR0.out
    have h1 := HR1.out
    refine ⟨(Fl.V_fneg' HRF.out), ?_, ?_⟩
    · unfold Fl.sg; rw [HN1.out, show (r + 9223372036854775808) / 2 ^ 63 = 1 by omega]; rfl
    · unfold Fl.rg; rw [HN1.out]; omega)
  have oa : FloatKind.f64.format.order a 0 = some .gt := by have := Fl.order_fin H.out Fl.fin0; rw [show Fl.V 0 = 0 by decide +kernel, Int.compare_eq_gt.2 HP.out] at this; exact this
  have ob : (FloatKind.f64.format.order a 9218868437227405311 == some .gt) = false := by rw [Fl.gt_fin H.out max_fin]; simp; exact (Fl.V_le_max H.out).1
  have orr : FloatKind.f64.format.order r 0 = some .gt := by have := Fl.order_fin HRF.out Fl.fin0; rw [show Fl.V 0 = 0 by decide +kernel, Int.compare_eq_gt.2 HRV.out] at this; exact this
  have HVA : Hid (Fl.VV a = Fl.V a) := Lib.hid (Fl.VV_fin H.out.2)
  have HVR : Hid (Fl.VV r = Fl.V r) := Lib.hid (Fl.VV_fin HRF.out.2)
  have HVY : Hid (Fl.VV (r + 1) = Fl.V (r + 1)) := Lib.hid (Fl.VV_fin (by have := HR1.out; unfold Fl.rg; omega))
  have HVZ : Hid (Fl.VV (r - 1) = Fl.V (r - 1)) := Lib.hid (Fl.VV_fin (by have := HR1.out; unfold Fl.rg; omega))
  have HFR : Hid (Fl.isFin r = true) := Lib.hid (decide_eq_true HRF.out.2)
  go_wp2_with fail
  refine (f_of a H.out.1 _).mono ?_
  rintro e w3 ⟨v3, rfl, hv3, hb3⟩
  obtain ⟨n_a, a_a, l_a, k_a, E_a, rfl⟩ := hv3.shape
  have HB := Lib.hid (below_next HB.out hb3)
  have Da := Lib.hid hv3
  clear hv3 hb3
  obtain ⟨oka, hi3⟩ : ∃ i, Fl.isFin a = i := ⟨_, rfl⟩
  rw [hi3]
  have Ia := Lib.hid hi3
  clear hi3
  go_wp2_with fail
  obtain ⟨wb4, hw4⟩ : ∃ w', w3.alloc (Obj.cells #[Value.bool n_a, Value.slice a_a l_a k_a, Value.int IntKind.i64 E_a] 35) = w' := ⟨_, rfl⟩
  have hb4 : Below w3.heap.size w3 wb4 := by rw [← hw4]; exact below_alloc _ _
  obtain ⟨b5, hk4⟩ : ∃ b, w3.heap.size = b := ⟨_, rfl⟩
  have V5 : Hid (Var wb4 b5 n_a a_a l_a k_a E_a) := Lib.hid (by have := var_alloc w3 n_a a_a l_a k_a E_a; rw [show _ = wb4 from hw4, hk4] at this; exact this)
  have Da := Lib.hid (Da.out.below hb4)
  have HB := Lib.hid (below_next HB.out hb4)
  rw [hw4, hk4]
  clear hw4 hb4 hk4
  refine (f_of r Pr.out.2 _).mono ?_
  rintro e w5 ⟨v5, rfl, hv5, hb5⟩
  obtain ⟨n_r, a_r, l_r, k_r, E_r, rfl⟩ := hv5.shape
  have Da := Lib.hid (Da.out.below hb5)
  have V5 := Lib.hid (V5.out.below hb5)
  have HB := Lib.hid (below_next HB.out hb5)
  have Dr := Lib.hid hv5
  clear hv5 hb5
  obtain ⟨okr, hi5⟩ : ∃ i, Fl.isFin r = i := ⟨_, rfl⟩
  rw [hi5]
  have Ir := Lib.hid hi5
  clear hi5
  obtain rfl : okr = true := Ir.out.symm.trans HFR.out
  go_wp2_with fail
  obtain ⟨wb6, hw6⟩ : ∃ w', w5.alloc (Obj.cells #[Value.bool n_r, Value.slice a_r l_r k_r, Value.int IntKind.i64 E_r] 35) = w' := ⟨_, rfl⟩
  have hb6 : Below w5.heap.size w5 wb6 := by rw [← hw6]; exact below_alloc _ _
  obtain ⟨b7, hk6⟩ : ∃ b, w5.heap.size = b := ⟨_, rfl⟩
  have V7 : Hid (Var wb6 b7 n_r a_r l_r k_r E_r) := Lib.hid (by have := var_alloc w5 n_r a_r l_r k_r E_r; rw [show _ = wb6 from hw6, hk6] at this; exact this)
  have Da := Lib.hid (Da.out.below hb6)
  have V5 := Lib.hid (V5.out.below hb6)
  have Dr := Lib.hid (Dr.out.below hb6)
  have HB := Lib.hid (below_next HB.out hb6)
  rw [hw6, hk6]
  clear hw6 hb6 hk6
  refine (f_next_pos r HRF.out (by rw [HRG.out]; have := HR0.out; omega) HRS.out _).mono ?_
  rintro e w7 ⟨rfl, rfl⟩
  go_wp2_with fail
  refine (f_of (r + 1) (by have := HR1.out; omega) _).mono ?_
  rintro e w8 ⟨v8, rfl, hv8, hb8⟩
  obtain ⟨n_y, a_y, l_y, k_y, E_y, rfl⟩ := hv8.shape
  have Da := Lib.hid (Da.out.below hb8)
  have V5 := Lib.hid (V5.out.below hb8)
  have Dr := Lib.hid (Dr.out.below hb8)
  have V7 := Lib.hid (V7.out.below hb8)
  have HB := Lib.hid (below_next HB.out hb8)
  have Dy := Lib.hid hv8
  clear hv8 hb8
  obtain ⟨oky, hi8⟩ : ∃ i, Fl.isFin (r + 1) = i := ⟨_, rfl⟩
  rw [hi8]
  have Iy := Lib.hid hi8
  clear hi8
  go_wp2_with fail
  obtain ⟨wb9, hw9⟩ : ∃ w', w8.alloc (Obj.cells #[Value.bool n_y, Value.slice a_y l_y k_y, Value.int IntKind.i64 E_y] 35) = w' := ⟨_, rfl⟩
  have hb9 : Below w8.heap.size w8 wb9 := by rw [← hw9]; exact below_alloc _ _
  obtain ⟨b9, hk9⟩ : ∃ b, w8.heap.size = b := ⟨_, rfl⟩
  have V9 : Hid (Var wb9 b9 n_y a_y l_y k_y E_y) := Lib.hid (by have := var_alloc w8 n_y a_y l_y k_y E_y; rw [show _ = wb9 from hw9, hk9] at this; exact this)
  have Da := Lib.hid (Da.out.below hb9)
  have V5 := Lib.hid (V5.out.below hb9)
  have Dr := Lib.hid (Dr.out.below hb9)
  have V7 := Lib.hid (V7.out.below hb9)
  have Dy := Lib.hid (Dy.out.below hb9)
  have HB := Lib.hid (below_next HB.out hb9)
  rw [hw9, hk9]
  clear hw9 hb9 hk9
  refine (f_next_neg (Fl.fneg r) HNF.out.1 HNF.out.2.2 HNF.out.2.1 _).mono ?_
  rintro e w10 ⟨rfl, rfl⟩
  go_wp2_with fail
  refine (f_of (Fl.fneg (Fl.fneg r - 1)) (by rw [HN2.out]; have := Pr.out.2; omega) _).mono ?_
  rintro e w11 ⟨v11, rfl, hv11, hb11⟩
  obtain ⟨n_z, a_z, l_z, k_z, E_z, rfl⟩ := hv11.shape
  have Da := Lib.hid (Da.out.below hb11)
  have V5 := Lib.hid (V5.out.below hb11)
  have Dr := Lib.hid (Dr.out.below hb11)
  have V7 := Lib.hid (V7.out.below hb11)
  have Dy := Lib.hid (Dy.out.below hb11)
  have V9 := Lib.hid (V9.out.below hb11)
  have HB := Lib.hid (below_next HB.out hb11)
  have Dz := Lib.hid hv11
  clear hv11 hb11
  obtain ⟨okz, hi11⟩ : ∃ i, Fl.isFin (Fl.fneg (Fl.fneg r - 1)) = i := ⟨_, rfl⟩
  rw [hi11]
  have Iz := Lib.hid hi11
  clear hi11
  rw [HN2.out] at Dz
  have c70 := cell_at (below_alloc w11 (Obj.cells #[Value.bool n_z, Value.slice a_z l_z k_z, Value.int IntKind.i64 E_z] 35)) V7.out.lt V7.out.c0
  have c71 := cell_at (below_alloc w11 (Obj.cells #[Value.bool n_z, Value.slice a_z l_z k_z, Value.int IntKind.i64 E_z] 35)) V7.out.lt V7.out.c1
  have c72 := cell_at (below_alloc w11 (Obj.cells #[Value.bool n_z, Value.slice a_z l_z k_z, Value.int IntKind.i64 E_z] 35)) V7.out.lt V7.out.c2
  have c90 := cell_at (below_alloc w11 (Obj.cells #[Value.bool n_z, Value.slice a_z l_z k_z, Value.int IntKind.i64 E_z] 35)) V9.out.lt V9.out.c0
  have c91 := cell_at (below_alloc w11 (Obj.cells #[Value.bool n_z, Value.slice a_z l_z k_z, Value.int IntKind.i64 E_z] 35)) V9.out.lt V9.out.c1
  have c92 := cell_at (below_alloc w11 (Obj.cells #[Value.bool n_z, Value.slice a_z l_z k_z, Value.int IntKind.i64 E_z] 35)) V9.out.lt V9.out.c2
  go_wp2_with fail
  clear c70 c71 c72 c90 c91 c92
  obtain ⟨wb12, hw12⟩ : ∃ w', w11.alloc (Obj.cells #[Value.bool n_z, Value.slice a_z l_z k_z, Value.int IntKind.i64 E_z] 35) = w' := ⟨_, rfl⟩
  have hb12 : Below w11.heap.size w11 wb12 := by rw [← hw12]; exact below_alloc _ _
  obtain ⟨b11, hk12⟩ : ∃ b, w11.heap.size = b := ⟨_, rfl⟩
  have V11 : Hid (Var wb12 b11 n_z a_z l_z k_z E_z) := Lib.hid (by have := var_alloc w11 n_z a_z l_z k_z E_z; rw [show _ = wb12 from hw12, hk12] at this; exact this)
  have Da := Lib.hid (Da.out.below hb12)
  have V5 := Lib.hid (V5.out.below hb12)
  have Dr := Lib.hid (Dr.out.below hb12)
  have V7 := Lib.hid (V7.out.below hb12)
  have Dy := Lib.hid (Dy.out.below hb12)
  have V9 := Lib.hid (V9.out.below hb12)
  have Dz := Lib.hid (Dz.out.below hb12)
  have HB := Lib.hid (below_next HB.out hb12)
  rw [hw12, hk12]
  clear hw12 hb12 hk12
  have Ka := Lib.hid (bd_VV a)
  have Kx := Lib.hid (bd_VV r)
  have Ky := Lib.hid (bd_VV (r + 1))
  have Kz := Lib.hid (bd_VV (r - 1))
  have Kxy : Hid (Bd (Fl.VV r + Fl.VV (r + 1)) 2099) := Lib.hid (Kx.out.add Ky.out rfl)
  have Kxz : Hid (Bd (Fl.VV r + Fl.VV (r - 1)) 2099) := Lib.hid (Kx.out.add Kz.out rfl)
  have Kh : Hid (Bd ((Fl.VV r + Fl.VV (r + 1)) * (Fl.VV r + Fl.VV (r + 1))) 4198) := Lib.hid (Kxy.out.mul Kxy.out rfl)
  have Kl : Hid (Bd ((Fl.VV r + Fl.VV (r - 1)) * (Fl.VV r + Fl.VV (r - 1))) 4198) := Lib.hid (Kxz.out.mul Kxz.out rfl)
  have Kd : Hid (Bd (Fl.VV a * (Fl.ONE : Int) * ((2 ^ 2 : Nat) : Int)) 4198) := Lib.hid ((bd_pow2 (bd_ONE Ka.out rfl)).mono (by decide))
  have HC1 : Hid (0 ≤ cmpv ((Fl.VV r + Fl.VV (r + 1)) * (Fl.VV r + Fl.VV (r + 1))) (Fl.VV a * (Fl.ONE : Int) * ((2 ^ 2 : Nat) : Int))) := Lib.hid (by
    rw [HVR.out, HVY.out, HVA.out]
    have h : Fl.V a * (Fl.ONE : Int) * ((2 ^ 2 : Nat) : Int) ≤ _ := HL1.out
    generalize Fl.V a * (Fl.ONE : Int) * ((2 ^ 2 : Nat) : Int) = P at *
    generalize (Fl.V r + Fl.V (r + 1)) * (Fl.V r + Fl.V (r + 1)) = Q at *
    unfold cmpv; split; omega; split <;> decide)
  have HC2 : Hid (cmpv ((Fl.VV r + Fl.VV (r - 1)) * (Fl.VV r + Fl.VV (r - 1))) (Fl.VV a * (Fl.ONE : Int) * ((2 ^ 2 : Nat) : Int)) ≤ 0) := Lib.hid (by
    rw [HVR.out, HVZ.out, HVA.out]
    have h : _ ≤ Fl.V a * (Fl.ONE : Int) * ((2 ^ 2 : Nat) : Int) := HL2.out
    generalize Fl.V a * (Fl.ONE : Int) * ((2 ^ 2 : Nat) : Int) = P at *
    generalize (Fl.V r + Fl.V (r - 1)) * (Fl.V r + Fl.V (r - 1)) = Q at *
    unfold cmpv; split; decide; split; decide; omega)
  refine (d_add Dr.out Dy.out (Kx.out.sz2 Ky.out (by decide)) (by decide) (by decide)).mono ?_
  rintro e w13 ⟨v13, rfl, hv13, hb13⟩
  obtain ⟨n_s, a_s, l_s, k_s, E_s, rfl⟩ := hv13.shape
  have Da := Lib.hid (Da.out.below hb13)
  have V5 := Lib.hid (V5.out.below hb13)
  have Dr := Lib.hid (Dr.out.below hb13)
  have V7 := Lib.hid (V7.out.below hb13)
  have Dy := Lib.hid (Dy.out.below hb13)
  have V9 := Lib.hid (V9.out.below hb13)
  have Dz := Lib.hid (Dz.out.below hb13)
  have V11 := Lib.hid (V11.out.below hb13)
  have HB := Lib.hid (below_next HB.out hb13)
  have Ds := Lib.hid hv13
  clear hv13 hb13
  go_wp2_with fail
  refine (d_shift Ds.out (Kxy.out.sz (by decide)) (-1) (by decide) (by decide) (by decide) (by decide)).mono ?_
  rintro e w14 ⟨v14, rfl, hv14, hb14⟩
  obtain ⟨n_h, a_h, l_h, k_h, E_h, rfl⟩ := hv14.shape
  have Da := Lib.hid (Da.out.below hb14)
  have V5 := Lib.hid (V5.out.below hb14)
  have Dr := Lib.hid (Dr.out.below hb14)
  have V7 := Lib.hid (V7.out.below hb14)
  have Dy := Lib.hid (Dy.out.below hb14)
  have V9 := Lib.hid (V9.out.below hb14)
  have Dz := Lib.hid (Dz.out.below hb14)
  have V11 := Lib.hid (V11.out.below hb14)
  have Ds := Lib.hid (Ds.out.below hb14)
  have HB := Lib.hid (below_next HB.out hb14)
  have Dh := Lib.hid hv14
  clear hv14 hb14
  have c70 := cell_at (below_alloc w14 (Obj.cells #[Value.bool n_h, Value.slice a_h l_h k_h, Value.int IntKind.i64 E_h] 35)) V7.out.lt V7.out.c0
  have c71 := cell_at (below_alloc w14 (Obj.cells #[Value.bool n_h, Value.slice a_h l_h k_h, Value.int IntKind.i64 E_h] 35)) V7.out.lt V7.out.c1
  have c72 := cell_at (below_alloc w14 (Obj.cells #[Value.bool n_h, Value.slice a_h l_h k_h, Value.int IntKind.i64 E_h] 35)) V7.out.lt V7.out.c2
  have c110 := cell_at (below_alloc w14 (Obj.cells #[Value.bool n_h, Value.slice a_h l_h k_h, Value.int IntKind.i64 E_h] 35)) V11.out.lt V11.out.c0
  have c111 := cell_at (below_alloc w14 (Obj.cells #[Value.bool n_h, Value.slice a_h l_h k_h, Value.int IntKind.i64 E_h] 35)) V11.out.lt V11.out.c1
  have c112 := cell_at (below_alloc w14 (Obj.cells #[Value.bool n_h, Value.slice a_h l_h k_h, Value.int IntKind.i64 E_h] 35)) V11.out.lt V11.out.c2
  go_wp2_with fail
  clear c70 c71 c72 c110 c111 c112
  obtain ⟨wb15, hw15⟩ : ∃ w', w14.alloc (Obj.cells #[Value.bool n_h, Value.slice a_h l_h k_h, Value.int IntKind.i64 E_h] 35) = w' := ⟨_, rfl⟩
  have hb15 : Below w14.heap.size w14 wb15 := by rw [← hw15]; exact below_alloc _ _
  obtain ⟨b13, hk15⟩ : ∃ b, w14.heap.size = b := ⟨_, rfl⟩
  have V13 : Hid (Var wb15 b13 n_h a_h l_h k_h E_h) := Lib.hid (by have := var_alloc w14 n_h a_h l_h k_h E_h; rw [show _ = wb15 from hw15, hk15] at this; exact this)
  have Da := Lib.hid (Da.out.below hb15)
  have V5 := Lib.hid (V5.out.below hb15)
  have Dr := Lib.hid (Dr.out.below hb15)
  have V7 := Lib.hid (V7.out.below hb15)
  have Dy := Lib.hid (Dy.out.below hb15)
  have V9 := Lib.hid (V9.out.below hb15)
  have Dz := Lib.hid (Dz.out.below hb15)
  have V11 := Lib.hid (V11.out.below hb15)
  have Ds := Lib.hid (Ds.out.below hb15)
  have Dh := Lib.hid (Dh.out.below hb15)
  have HB := Lib.hid (below_next HB.out hb15)
  rw [hw15, hk15]
  clear hw15 hb15 hk15
  refine (d_add Dr.out Dz.out (Kx.out.sz2 Kz.out (by decide)) (by decide) (by decide)).mono ?_
  rintro e w16 ⟨v16, rfl, hv16, hb16⟩
  obtain ⟨n_u, a_u, l_u, k_u, E_u, rfl⟩ := hv16.shape
  have Da := Lib.hid (Da.out.below hb16)
  have V5 := Lib.hid (V5.out.below hb16)
  have Dr := Lib.hid (Dr.out.below hb16)
  have V7 := Lib.hid (V7.out.below hb16)
  have Dy := Lib.hid (Dy.out.below hb16)
  have V9 := Lib.hid (V9.out.below hb16)
  have Dz := Lib.hid (Dz.out.below hb16)
  have V11 := Lib.hid (V11.out.below hb16)
  have Ds := Lib.hid (Ds.out.below hb16)
  have Dh := Lib.hid (Dh.out.below hb16)
  have V13 := Lib.hid (V13.out.below hb16)
  have HB := Lib.hid (below_next HB.out hb16)
  have Du := Lib.hid hv16
  clear hv16 hb16
  go_wp2_with fail
  refine (d_shift Du.out (Kxz.out.sz (by decide)) (-1) (by decide) (by decide) (by decide) (by decide)).mono ?_
  rintro e w17 ⟨v17, rfl, hv17, hb17⟩
  obtain ⟨n_l, a_l, l_l, k_l, E_l, rfl⟩ := hv17.shape
  have Da := Lib.hid (Da.out.below hb17)
  have V5 := Lib.hid (V5.out.below hb17)
  have Dr := Lib.hid (Dr.out.below hb17)
  have V7 := Lib.hid (V7.out.below hb17)
  have Dy := Lib.hid (Dy.out.below hb17)
  have V9 := Lib.hid (V9.out.below hb17)
  have Dz := Lib.hid (Dz.out.below hb17)
  have V11 := Lib.hid (V11.out.below hb17)
  have Ds := Lib.hid (Ds.out.below hb17)
  have Dh := Lib.hid (Dh.out.below hb17)
  have V13 := Lib.hid (V13.out.below hb17)
  have Du := Lib.hid (Du.out.below hb17)
  have HB := Lib.hid (below_next HB.out hb17)
  have Dl := Lib.hid hv17
  clear hv17 hb17
  go_wp2_with fail
  obtain ⟨wb18, hw18⟩ : ∃ w', w17.alloc (Obj.cells #[Value.bool n_l, Value.slice a_l l_l k_l, Value.int IntKind.i64 E_l] 35) = w' := ⟨_, rfl⟩
  have hb18 : Below w17.heap.size w17 wb18 := by rw [← hw18]; exact below_alloc _ _
  obtain ⟨b14, hk18⟩ : ∃ b, w17.heap.size = b := ⟨_, rfl⟩
  have V14 : Hid (Var wb18 b14 n_l a_l l_l k_l E_l) := Lib.hid (by have := var_alloc w17 n_l a_l l_l k_l E_l; rw [show _ = wb18 from hw18, hk18] at this; exact this)
  have Da := Lib.hid (Da.out.below hb18)
  have V5 := Lib.hid (V5.out.below hb18)
  have Dr := Lib.hid (Dr.out.below hb18)
  have V7 := Lib.hid (V7.out.below hb18)
  have Dy := Lib.hid (Dy.out.below hb18)
  have V9 := Lib.hid (V9.out.below hb18)
  have Dz := Lib.hid (Dz.out.below hb18)
  have V11 := Lib.hid (V11.out.below hb18)
  have Ds := Lib.hid (Ds.out.below hb18)
  have Dh := Lib.hid (Dh.out.below hb18)
  have V13 := Lib.hid (V13.out.below hb18)
  have Du := Lib.hid (Du.out.below hb18)
  have Dl := Lib.hid (Dl.out.below hb18)
  have HB := Lib.hid (below_next HB.out hb18)
  rw [hw18, hk18]
  clear hw18 hb18 hk18
  refine wp_region_still (S := Below wb18.heap.size wb18) (by kernel_rfl) ?_
  have hS19 : Below wb18.heap.size wb18 wb18.drew := (Below.refl _ wb18).drew
  refine wpAnyR_take (i := 0) rfl (by kernel_rfl) (by kernel_rfl) (by kernel_rfl) (fun _ _ _ h => h) hS19 (.inl ⟨by kernel_rfl, fun w' hS => (by go_simp; exact ⟨rfl, rfl⟩)⟩) rfl (by go_simp; rfl) ?_
  refine wpAnyR_take (i := 1) rfl (by kernel_rfl) (by kernel_rfl) (by kernel_rfl) (fun _ _ _ h => h) hS19 (.inl ⟨by kernel_rfl, fun w' hS => (by go_simp; exact ⟨rfl, rfl⟩)⟩) rfl (by go_simp; rfl) ?_
  refine wpAnyR_take (i := 2) rfl (by kernel_rfl) (by kernel_rfl) (by kernel_rfl) (fun _ _ _ h => h) hS19 (.inl ⟨by kernel_rfl, fun w' hS => (by have y130 := cell_at hS V13.out.lt V13.out.c0; have y131 := cell_at hS V13.out.lt V13.out.c1; have y132 := cell_at hS V13.out.lt V13.out.c2; go_simp; exact ⟨rfl, rfl⟩)⟩) rfl (by go_simp; rfl) ?_
  refine wpAnyR_take (i := 3) rfl (by kernel_rfl) (by kernel_rfl) (by kernel_rfl) (fun _ _ _ h => h) hS19 (.inl ⟨by kernel_rfl, fun w' hS => (by have y130 := cell_at hS V13.out.lt V13.out.c0; have y131 := cell_at hS V13.out.lt V13.out.c1; have y132 := cell_at hS V13.out.lt V13.out.c2; go_simp; exact ⟨rfl, rfl⟩)⟩) rfl (by go_simp; rfl) ?_
  refine wpAnyR_take (i := 5) rfl (by kernel_rfl) (by kernel_rfl) (by kernel_rfl) (fun _ _ _ h => h) hS19 (.inl ⟨by kernel_rfl, fun w' hS => (by have y50 := cell_at hS V5.out.lt V5.out.c0; have y51 := cell_at hS V5.out.lt V5.out.c1; have y52 := cell_at hS V5.out.lt V5.out.c2; go_simp; exact ⟨rfl, rfl⟩)⟩) rfl (by go_simp; rfl) ?_
  refine wpAnyR_oneG (i := 4) rfl (by kernel_rfl) (by kernel_rfl) rfl ?_
  go_simp
  refine (d_mul (Dh.out.below hS19) (Dh.out.below hS19) (Kxy.out.sz (by decide)) (Kxy.out.sz (by decide)) (Kh.out.sz (by decide)) (by decide) (by decide) (by decide) (by decide)).mono ?_
  rintro e w20 ⟨v20, rfl, hv20, hb20⟩
  obtain ⟨n_hh, a_hh, l_hh, k_hh, E_hh, rfl⟩ := hv20.shape
  have hS20 : Below wb18.heap.size wb18 w20 := below_next hS19 hb20
  have Dhh := Lib.hid hv20
  clear hv20 hb20
  refine ⟨hS20, ?_⟩
  refine wpAnyR_oneG (i := 6) rfl (by kernel_rfl) (by kernel_rfl) rfl ?_
  go_simp
  refine (d_cmp Dhh.out (((Da.out.below hS20).down (e' := -2148) (by decide)).to 2 (e' := -1074 + -1 + (-1074 + -1)) (by decide) rfl) (Kh.out.sz2 Kd.out (by decide)) (by decide) (by decide)).mono ?_
  rintro e w21 ⟨rfl, hb21⟩
  have hS21 : Below wb18.heap.size wb18 w21 := below_next hS20 hb21
  have Dhh := Lib.hid (Dhh.out.below hb21)
  clear hb21
  generalize cmpv ((Fl.VV r + Fl.VV (r + 1)) * (Fl.VV r + Fl.VV (r + 1))) (Fl.VV a * (Fl.ONE : Int) * ((2 ^ 2 : Nat) : Int)) = cc at HC1 ⊢
  have hc1 := HC1.out
  refine ⟨hS21, ?_⟩
  refine wpAnyR_take (i := 7) rfl (by kernel_rfl) (by kernel_rfl) (by kernel_rfl) (fun _ _ _ h => h) hS21 (.inl ⟨by kernel_rfl, fun w' hS => (by go_simp; exact ⟨rfl, rfl⟩)⟩) rfl (by go_simp; rfl) ?_
  refine wpAnyR_take (i := 8) rfl (by kernel_rfl) (by kernel_rfl) (by kernel_rfl) (fun _ _ _ h => h) hS21 (.inl ⟨by kernel_rfl, fun w' hS => (by go_simp; exact ⟨rfl, rfl⟩)⟩) rfl (by go_simp; rfl) ?_
  refine wpAnyR_take (i := 9) rfl (by kernel_rfl) (by kernel_rfl) (by kernel_rfl) (fun _ _ _ h => h) hS21 (.inl ⟨by kernel_rfl, fun w' hS => (by go_simp; exact ⟨rfl, rfl⟩)⟩) rfl (by go_simp; rfl) ?_
  refine wpAnyR_take (i := 10) rfl (by kernel_rfl) (by kernel_rfl) (by kernel_rfl) (fun _ _ _ h => h) hS21 (.inl ⟨by kernel_rfl, fun w' hS => (by have y140 := cell_at hS V14.out.lt V14.out.c0; have y141 := cell_at hS V14.out.lt V14.out.c1; have y142 := cell_at hS V14.out.lt V14.out.c2; go_simp; exact ⟨rfl, rfl⟩)⟩) rfl (by go_simp; rfl) ?_
  refine wpAnyR_take (i := 11) rfl (by kernel_rfl) (by kernel_rfl) (by kernel_rfl) (fun _ _ _ h => h) hS21 (.inl ⟨by kernel_rfl, fun w' hS => (by have y140 := cell_at hS V14.out.lt V14.out.c0; have y141 := cell_at hS V14.out.lt V14.out.c1; have y142 := cell_at hS V14.out.lt V14.out.c2; go_simp; exact ⟨rfl, rfl⟩)⟩) rfl (by go_simp; rfl) ?_
  refine wpAnyR_take (i := 13) rfl (by kernel_rfl) (by kernel_rfl) (by kernel_rfl) (fun _ _ _ h => h) hS21 (.inl ⟨by kernel_rfl, fun w' hS => (by have y50 := cell_at hS V5.out.lt V5.out.c0; have y51 := cell_at hS V5.out.lt V5.out.c1; have y52 := cell_at hS V5.out.lt V5.out.c2; go_simp; exact ⟨rfl, rfl⟩)⟩) rfl (by go_simp; rfl) ?_
  refine wpAnyR_oneG (i := 12) rfl (by kernel_rfl) (by kernel_rfl) rfl ?_
  go_simp
  refine (d_mul (Dl.out.below hS21) (Dl.out.below hS21) (Kxz.out.sz (by decide)) (Kxz.out.sz (by decide)) (Kl.out.sz (by decide)) (by decide) (by decide) (by decide) (by decide)).mono ?_
  rintro e w22 ⟨v22, rfl, hv22, hb22⟩
  obtain ⟨n_ll, a_ll, l_ll, k_ll, E_ll, rfl⟩ := hv22.shape
  have hS22 : Below wb18.heap.size wb18 w22 := below_next hS21 hb22
  have Dhh := Lib.hid (Dhh.out.below hb22)
  have Dll := Lib.hid hv22
  clear hv22 hb22
  refine ⟨hS22, ?_⟩
  refine wpAnyR_oneG (i := 14) rfl (by kernel_rfl) (by kernel_rfl) rfl ?_
  go_simp
  refine (d_cmp Dll.out (((Da.out.below hS22).down (e' := -2148) (by decide)).to 2 (e' := -1074 + -1 + (-1074 + -1)) (by decide) rfl) (Kl.out.sz2 Kd.out (by decide)) (by decide) (by decide)).mono ?_
  rintro e w23 ⟨rfl, hb23⟩
  have hS23 : Below wb18.heap.size wb18 w23 := below_next hS22 hb23
  have Dhh := Lib.hid (Dhh.out.below hb23)
  have Dll := Lib.hid (Dll.out.below hb23)
  clear hb23
  generalize cmpv ((Fl.VV r + Fl.VV (r - 1)) * (Fl.VV r + Fl.VV (r - 1))) (Fl.VV a * (Fl.ONE : Int) * ((2 ^ 2 : Nat) : Int)) = cd at HC2 ⊢
  have hc2 := HC2.out
  refine ⟨hS23, ?_⟩
  refine wpAnyR_take (i := 15) rfl (by kernel_rfl) (by kernel_rfl) (by kernel_rfl) (fun _ _ _ h => h) hS23 (.inl ⟨by kernel_rfl, fun w' hS => (by go_simp; exact ⟨rfl, rfl⟩)⟩) rfl (by go_simp; rfl) ?_
  refine wpAnyR_take (i := 16) rfl (by kernel_rfl) (by kernel_rfl) (by kernel_rfl) (fun _ _ _ h => h) hS23 (.inl ⟨by kernel_rfl, fun w' hS => (by go_simp; exact ⟨rfl, rfl⟩)⟩) rfl (by go_simp; rfl) ?_
  refine wpAnyR_take (i := 17) rfl (by kernel_rfl) (by kernel_rfl) (by kernel_rfl) (fun _ _ _ h => h) hS23 (.inl ⟨by kernel_rfl, fun w' hS => (by go_simp; exact ⟨rfl, rfl⟩)⟩) rfl (by go_simp; rfl) ?_
  refine wpAnyR_done (by kernel_rfl) ?_ _
  have Da := Lib.hid (Da.out.below hS23)
  have V5 := Lib.hid (V5.out.below hS23)
  have Dr := Lib.hid (Dr.out.below hS23)
  have V7 := Lib.hid (V7.out.below hS23)
  have Dy := Lib.hid (Dy.out.below hS23)
  have V9 := Lib.hid (V9.out.below hS23)
  have Dz := Lib.hid (Dz.out.below hS23)
  have V11 := Lib.hid (V11.out.below hS23)
  have Ds := Lib.hid (Ds.out.below hS23)
  have Dh := Lib.hid (Dh.out.below hS23)
  have V13 := Lib.hid (V13.out.below hS23)
  have Du := Lib.hid (Du.out.below hS23)
  have Dl := Lib.hid (Dl.out.below hS23)
  have V14 := Lib.hid (V14.out.below hS23)
  have HB := Lib.hid (below_next HB.out hS23)
  go_wp2
  go_ret
  exact ⟨rfl, HB.out⟩

theorem opsRoot_walk (a : Nat) (w : World) (ha : a < 2 ^ 64) : Calls Try.prog 12 #[F a] w fun e w' => e = .returned (.bool true) ∧ Below w.heap.size w w' := by
  rcases Fl.kinds ha with h | ⟨h, h2⟩ | h
  · exact opsRoot_nan a w h
  · cases hs : Fl.sg a
    · rw [hs] at h h2; exact opsRoot_pinf a w ⟨h, h2⟩
    · rw [hs] at h; exact opsRoot_minf a w h
  · rcases Int.lt_trichotomy (Fl.V a) 0 with hv | hv | hv
    · exact opsRoot_neg a w ⟨h, hv⟩
    · exact opsRoot_zero a w ⟨h, by
        apply Decidable.byContradiction
        intro h0
        exact Fl.V_ne h0 hv⟩
    · exact opsRoot_pos a w h hv
end Go.Proofs.Ytemneeknemijpaa
