/- The statement OpsTells: sums, differences, products, roots and scalings of any floats are the document's: for every input the law returns true. No condition. -/
import Derived.Test.YtemneeknemijpaaRz
import Derived.Test.YtemneeknemijpaaHead4
import Derived.Test.YtemneeknemijpaaRoot
import Derived.Test.YtemneeknemijpaaFrame
set_option maxRecDepth 100000
namespace Go.Proofs.Ytemneeknemijpaa
open Go.RowKit

theorem f_same_is (a b : Nat) (w : World) (hs : Fl.same a b = true) : Calls Try.prog 27 #[F a, F b] w fun e w' => e = .returned (.bool true) ∧ w = w' := by
  unfold Fl.same at hs
  by_cases h1 : (FloatKind.f64.format.order a b == some .eq) = true
  · clear hs
    go_enter Try.func27, Try.ntmps27
    go_wp2
    go_ret
    exact ⟨rfl, rfl⟩
  · have h1' : (FloatKind.f64.format.order a b == some .eq) = false := by simpa using h1
    clear h1
    have hs' : (false || (FloatKind.f64.format.order a a != some .eq && FloatKind.f64.format.order b b != some .eq)) = true := by
      rw [← h1']; exact hs
    simp only [Bool.false_or, Bool.and_eq_true] at hs'
    obtain ⟨h2, h3⟩ := hs'
    clear hs
    go_enter Try.func27, Try.ntmps27
    go_wp2
    go_ret
    exact ⟨rfl, rfl⟩
theorem alike_of {r v x : Nat} (h : Fl.canon r = v) (hs : Fl.same v x = true) : Fl.same r x = true := by rw [← Fl.same_canon_left, h]; exact hs

set_option maxHeartbeats 4000000 in
theorem opsTells_low (a b : Nat) (k : Int) (w : World) (ha : a < 2 ^ 64) (hb : b < 2 ^ 64) (hk : k < -5000) : Calls Try.prog 9 #[F a, F b, .int .i64 k] w fun e w' => e = .returned (.bool true) ∧ Below w.heap.size w w' := by
  have HA := Lib.hid ha
  have HBB := Lib.hid hb
  clear ha hb
  go_enter Try.func9, Try.ntmps9
  go_wp2_with fail
  refine (l4_head _).mono ?_
  rintro e w1 ⟨rfl, hb1⟩
  have HB : Hid (Below w.heap.size w w1) := Lib.hid hb1
  clear hb1
  go_wp2_with fail
  refine (ops_add a b _).mono ?_
  rintro e w2 ⟨x1, n2, rfl, hx, hlx1, hw2⟩
  have hb2 : Below w1.heap.size w1 w2 := by rw [hw2]; exact below_drewN (Below.refl _ _) _
  have Px1 := Lib.hid (And.intro hx hlx1)
  have HB := Lib.hid (below_next HB.out hb2)
  clear hx hlx1 hw2 hb2
  go_wp2_with fail
  refine (r_add a b _ HA.out HBB.out).mono ?_
  rintro e w3 ⟨y1, rfl, hs, hb3⟩
  have Sy1 := Lib.hid hs
  have HB := Lib.hid (below_next HB.out hb3)
  clear hs hb3
  go_wp2_with fail
  refine (f_same_is _ _ _ (alike_of Px1.out.1 Sy1.out)).mono ?_
  rintro e w4 ⟨rfl, rfl⟩
  go_wp2_with fail
  refine (ops_sub a b _).mono ?_
  rintro e w5 ⟨x2, n5, rfl, hx, hlx2, hw5⟩
  have hb5 : Below w3.heap.size w3 w5 := by rw [hw5]; exact below_drewN (Below.refl _ _) _
  have Px2 := Lib.hid (And.intro hx hlx2)
  have HB := Lib.hid (below_next HB.out hb5)
  clear hx hlx2 hw5 hb5
  go_wp2_with fail
  refine (r_sub a b _ HA.out HBB.out).mono ?_
  rintro e w6 ⟨y2, rfl, hs, hb6⟩
  have Sy2 := Lib.hid hs
  have HB := Lib.hid (below_next HB.out hb6)
  clear hs hb6
  go_wp2_with fail
  refine (f_same_is _ _ _ (alike_of Px2.out.1 Sy2.out)).mono ?_
  rintro e w7 ⟨rfl, rfl⟩
  go_wp2_with fail
  refine (ops_mul a b _).mono ?_
  rintro e w8 ⟨x3, n8, rfl, hx, hlx3, hw8⟩
  have hb8 : Below w6.heap.size w6 w8 := by rw [hw8]; exact below_drewN (Below.refl _ _) _
  have Px3 := Lib.hid (And.intro hx hlx3)
  have HB := Lib.hid (below_next HB.out hb8)
  clear hx hlx3 hw8 hb8
  go_wp2_with fail
  refine (r_mul a b _ HA.out HBB.out).mono ?_
  rintro e w9 ⟨y3, rfl, hs, hb9⟩
  have Sy3 := Lib.hid hs
  have HB := Lib.hid (below_next HB.out hb9)
  clear hs hb9
  go_wp2_with fail
  refine (f_same_is _ _ _ (alike_of Px3.out.1 Sy3.out)).mono ?_
  rintro e w10 ⟨rfl, rfl⟩
  go_wp2_with fail
  refine (ops_root a _).mono ?_
  rintro e w11 ⟨x4, n11, rfl, hx, hlx4, hw11⟩
  have hb11 : Below w9.heap.size w9 w11 := by rw [hw11]; exact below_drewN (Below.refl _ _) _
  have Px4 := Lib.hid (And.intro hx hlx4)
  have HB := Lib.hid (below_next HB.out hb11)
  clear hx hlx4 hw11 hb11
  go_wp2_with fail
  refine (r_root a _ HA.out).mono ?_
  rintro e w12 ⟨y4, rfl, hs, hb12⟩
  have Sy4 := Lib.hid hs
  have HB := Lib.hid (below_next HB.out hb12)
  clear hs hb12
  go_wp2_with fail
  refine (f_same_is _ _ _ (alike_of Px4.out.1 Sy4.out)).mono ?_
  rintro e w13 ⟨rfl, rfl⟩
  go_wp2
  go_ret
  exact ⟨rfl, HB.out⟩

set_option maxHeartbeats 4000000 in
theorem opsTells_high (a b : Nat) (k : Int) (w : World) (ha : a < 2 ^ 64) (hb : b < 2 ^ 64) (hk : ¬ k < -5000) (hk2 : 5000 < k) : Calls Try.prog 9 #[F a, F b, .int .i64 k] w fun e w' => e = .returned (.bool true) ∧ Below w.heap.size w w' := by
  have HA := Lib.hid ha
  have HBB := Lib.hid hb
  clear ha hb
  go_enter Try.func9, Try.ntmps9
  go_wp2_with fail
  refine (l4_head _).mono ?_
  rintro e w1 ⟨rfl, hb1⟩
  have HB : Hid (Below w.heap.size w w1) := Lib.hid hb1
  clear hb1
  go_wp2_with fail
  refine (ops_add a b _).mono ?_
  rintro e w2 ⟨x1, n2, rfl, hx, hlx1, hw2⟩
  have hb2 : Below w1.heap.size w1 w2 := by rw [hw2]; exact below_drewN (Below.refl _ _) _
  have Px1 := Lib.hid (And.intro hx hlx1)
  have HB := Lib.hid (below_next HB.out hb2)
  clear hx hlx1 hw2 hb2
  go_wp2_with fail
  refine (r_add a b _ HA.out HBB.out).mono ?_
  rintro e w3 ⟨y1, rfl, hs, hb3⟩
  have Sy1 := Lib.hid hs
  have HB := Lib.hid (below_next HB.out hb3)
  clear hs hb3
  go_wp2_with fail
  refine (f_same_is _ _ _ (alike_of Px1.out.1 Sy1.out)).mono ?_
  rintro e w4 ⟨rfl, rfl⟩
  go_wp2_with fail
  refine (ops_sub a b _).mono ?_
  rintro e w5 ⟨x2, n5, rfl, hx, hlx2, hw5⟩
  have hb5 : Below w3.heap.size w3 w5 := by rw [hw5]; exact below_drewN (Below.refl _ _) _
  have Px2 := Lib.hid (And.intro hx hlx2)
  have HB := Lib.hid (below_next HB.out hb5)
  clear hx hlx2 hw5 hb5
  go_wp2_with fail
  refine (r_sub a b _ HA.out HBB.out).mono ?_
  rintro e w6 ⟨y2, rfl, hs, hb6⟩
  have Sy2 := Lib.hid hs
  have HB := Lib.hid (below_next HB.out hb6)
  clear hs hb6
  go_wp2_with fail
  refine (f_same_is _ _ _ (alike_of Px2.out.1 Sy2.out)).mono ?_
  rintro e w7 ⟨rfl, rfl⟩
  go_wp2_with fail
  refine (ops_mul a b _).mono ?_
  rintro e w8 ⟨x3, n8, rfl, hx, hlx3, hw8⟩
  have hb8 : Below w6.heap.size w6 w8 := by rw [hw8]; exact below_drewN (Below.refl _ _) _
  have Px3 := Lib.hid (And.intro hx hlx3)
  have HB := Lib.hid (below_next HB.out hb8)
  clear hx hlx3 hw8 hb8
  go_wp2_with fail
  refine (r_mul a b _ HA.out HBB.out).mono ?_
  rintro e w9 ⟨y3, rfl, hs, hb9⟩
  have Sy3 := Lib.hid hs
  have HB := Lib.hid (below_next HB.out hb9)
  clear hs hb9
  go_wp2_with fail
  refine (f_same_is _ _ _ (alike_of Px3.out.1 Sy3.out)).mono ?_
  rintro e w10 ⟨rfl, rfl⟩
  go_wp2_with fail
  refine (ops_root a _).mono ?_
  rintro e w11 ⟨x4, n11, rfl, hx, hlx4, hw11⟩
  have hb11 : Below w9.heap.size w9 w11 := by rw [hw11]; exact below_drewN (Below.refl _ _) _
  have Px4 := Lib.hid (And.intro hx hlx4)
  have HB := Lib.hid (below_next HB.out hb11)
  clear hx hlx4 hw11 hb11
  go_wp2_with fail
  refine (r_root a _ HA.out).mono ?_
  rintro e w12 ⟨y4, rfl, hs, hb12⟩
  have Sy4 := Lib.hid hs
  have HB := Lib.hid (below_next HB.out hb12)
  clear hs hb12
  go_wp2_with fail
  refine (f_same_is _ _ _ (alike_of Px4.out.1 Sy4.out)).mono ?_
  rintro e w13 ⟨rfl, rfl⟩
  go_wp2
  go_ret
  exact ⟨rfl, HB.out⟩

set_option maxHeartbeats 4000000 in
theorem opsTells_fin (a b : Nat) (k : Int) (w : World) (ha : a < 2 ^ 64) (hb : b < 2 ^ 64) (hf : Fl.Fin a) (hk : -5000 ≤ k ∧ k ≤ 5000) : Calls Try.prog 9 #[F a, F b, .int .i64 k] w fun e w' => e = .returned (.bool true) ∧ Below w.heap.size w w' := by
  have HA := Lib.hid ha
  have HBB := Lib.hid hb
  clear ha hb
  have HF := Lib.hid hf
  clear hf
  obtain ⟨hk1, hk2⟩ := hk
  go_enter Try.func9, Try.ntmps9
  go_wp2_with fail
  refine (l4_head _).mono ?_
  rintro e w1 ⟨rfl, hb1⟩
  have HB : Hid (Below w.heap.size w w1) := Lib.hid hb1
  clear hb1
  go_wp2_with fail
  refine (ops_add a b _).mono ?_
  rintro e w2 ⟨x1, n2, rfl, hx, hlx1, hw2⟩
  have hb2 : Below w1.heap.size w1 w2 := by rw [hw2]; exact below_drewN (Below.refl _ _) _
  have Px1 := Lib.hid (And.intro hx hlx1)
  have HB := Lib.hid (below_next HB.out hb2)
  clear hx hlx1 hw2 hb2
  go_wp2_with fail
  refine (r_add a b _ HA.out HBB.out).mono ?_
  rintro e w3 ⟨y1, rfl, hs, hb3⟩
  have Sy1 := Lib.hid hs
  have HB := Lib.hid (below_next HB.out hb3)
  clear hs hb3
  go_wp2_with fail
  refine (f_same_is _ _ _ (alike_of Px1.out.1 Sy1.out)).mono ?_
  rintro e w4 ⟨rfl, rfl⟩
  go_wp2_with fail
  refine (ops_sub a b _).mono ?_
  rintro e w5 ⟨x2, n5, rfl, hx, hlx2, hw5⟩
  have hb5 : Below w3.heap.size w3 w5 := by rw [hw5]; exact below_drewN (Below.refl _ _) _
  have Px2 := Lib.hid (And.intro hx hlx2)
  have HB := Lib.hid (below_next HB.out hb5)
  clear hx hlx2 hw5 hb5
  go_wp2_with fail
  refine (r_sub a b _ HA.out HBB.out).mono ?_
  rintro e w6 ⟨y2, rfl, hs, hb6⟩
  have Sy2 := Lib.hid hs
  have HB := Lib.hid (below_next HB.out hb6)
  clear hs hb6
  go_wp2_with fail
  refine (f_same_is _ _ _ (alike_of Px2.out.1 Sy2.out)).mono ?_
  rintro e w7 ⟨rfl, rfl⟩
  go_wp2_with fail
  refine (ops_mul a b _).mono ?_
  rintro e w8 ⟨x3, n8, rfl, hx, hlx3, hw8⟩
  have hb8 : Below w6.heap.size w6 w8 := by rw [hw8]; exact below_drewN (Below.refl _ _) _
  have Px3 := Lib.hid (And.intro hx hlx3)
  have HB := Lib.hid (below_next HB.out hb8)
  clear hx hlx3 hw8 hb8
  go_wp2_with fail
  refine (r_mul a b _ HA.out HBB.out).mono ?_
  rintro e w9 ⟨y3, rfl, hs, hb9⟩
  have Sy3 := Lib.hid hs
  have HB := Lib.hid (below_next HB.out hb9)
  clear hs hb9
  go_wp2_with fail
  refine (f_same_is _ _ _ (alike_of Px3.out.1 Sy3.out)).mono ?_
  rintro e w10 ⟨rfl, rfl⟩
  go_wp2_with fail
  refine (ops_root a _).mono ?_
  rintro e w11 ⟨x4, n11, rfl, hx, hlx4, hw11⟩
  have hb11 : Below w9.heap.size w9 w11 := by rw [hw11]; exact below_drewN (Below.refl _ _) _
  have Px4 := Lib.hid (And.intro hx hlx4)
  have HB := Lib.hid (below_next HB.out hb11)
  clear hx hlx4 hw11 hb11
  go_wp2_with fail
  refine (r_root a _ HA.out).mono ?_
  rintro e w12 ⟨y4, rfl, hs, hb12⟩
  have Sy4 := Lib.hid hs
  have HB := Lib.hid (below_next HB.out hb12)
  clear hs hb12
  go_wp2_with fail
  refine (f_same_is _ _ _ (alike_of Px4.out.1 Sy4.out)).mono ?_
  rintro e w13 ⟨rfl, rfl⟩
  go_wp2_with fail
  refine (ops_scale a k HF.out (by omega) (by omega) _).mono ?_
  rintro e w14 ⟨x5, n14, rfl, hx, hlx5, hw14⟩
  have hb14 : Below w12.heap.size w12 w14 := by rw [hw14]; exact below_drewN (Below.refl _ _) _
  have Px5 := Lib.hid (And.intro hx hlx5)
  have HB := Lib.hid (below_next HB.out hb14)
  clear hx hlx5 hw14 hb14
  go_wp2_with fail
  refine (r_scale a k HF.out hk1 hk2 _).mono ?_
  rintro e w15 ⟨y5, rfl, hs, hb15⟩
  have Sy5 := Lib.hid hs
  have HB := Lib.hid (below_next HB.out hb15)
  clear hs hb15
  go_wp2_with fail
  refine (f_same_is _ _ _ (alike_of Px5.out.1 Sy5.out)).mono ?_
  rintro e w16 ⟨rfl, rfl⟩
  go_wp2
  go_ret
  exact ⟨rfl, HB.out⟩

set_option maxHeartbeats 4000000 in
theorem opsTells_nofin (a b : Nat) (k : Int) (w : World) (ha : a < 2 ^ 64) (hb : b < 2 ^ 64) (hf : ¬ Fl.Fin a) (hk : -5000 ≤ k ∧ k ≤ 5000) : Calls Try.prog 9 #[F a, F b, .int .i64 k] w fun e w' => e = .returned (.bool true) ∧ Below w.heap.size w w' := by
  have HA := Lib.hid ha
  have HBB := Lib.hid hb
  clear ha hb
  have HF := Lib.hid hf
  clear hf
  obtain ⟨hk1, hk2⟩ := hk
  go_enter Try.func9, Try.ntmps9
  go_wp2_with fail
  refine (l4_head _).mono ?_
  rintro e w1 ⟨rfl, hb1⟩
  have HB : Hid (Below w.heap.size w w1) := Lib.hid hb1
  clear hb1
  go_wp2_with fail
  refine (ops_add a b _).mono ?_
  rintro e w2 ⟨x1, n2, rfl, hx, hlx1, hw2⟩
  have hb2 : Below w1.heap.size w1 w2 := by rw [hw2]; exact below_drewN (Below.refl _ _) _
  have Px1 := Lib.hid (And.intro hx hlx1)
  have HB := Lib.hid (below_next HB.out hb2)
  clear hx hlx1 hw2 hb2
  go_wp2_with fail
  refine (r_add a b _ HA.out HBB.out).mono ?_
  rintro e w3 ⟨y1, rfl, hs, hb3⟩
  have Sy1 := Lib.hid hs
  have HB := Lib.hid (below_next HB.out hb3)
  clear hs hb3
  go_wp2_with fail
  refine (f_same_is _ _ _ (alike_of Px1.out.1 Sy1.out)).mono ?_
  rintro e w4 ⟨rfl, rfl⟩
  go_wp2_with fail
  refine (ops_sub a b _).mono ?_
  rintro e w5 ⟨x2, n5, rfl, hx, hlx2, hw5⟩
  have hb5 : Below w3.heap.size w3 w5 := by rw [hw5]; exact below_drewN (Below.refl _ _) _
  have Px2 := Lib.hid (And.intro hx hlx2)
  have HB := Lib.hid (below_next HB.out hb5)
  clear hx hlx2 hw5 hb5
  go_wp2_with fail
  refine (r_sub a b _ HA.out HBB.out).mono ?_
  rintro e w6 ⟨y2, rfl, hs, hb6⟩
  have Sy2 := Lib.hid hs
  have HB := Lib.hid (below_next HB.out hb6)
  clear hs hb6
  go_wp2_with fail
  refine (f_same_is _ _ _ (alike_of Px2.out.1 Sy2.out)).mono ?_
  rintro e w7 ⟨rfl, rfl⟩
  go_wp2_with fail
  refine (ops_mul a b _).mono ?_
  rintro e w8 ⟨x3, n8, rfl, hx, hlx3, hw8⟩
  have hb8 : Below w6.heap.size w6 w8 := by rw [hw8]; exact below_drewN (Below.refl _ _) _
  have Px3 := Lib.hid (And.intro hx hlx3)
  have HB := Lib.hid (below_next HB.out hb8)
  clear hx hlx3 hw8 hb8
  go_wp2_with fail
  refine (r_mul a b _ HA.out HBB.out).mono ?_
  rintro e w9 ⟨y3, rfl, hs, hb9⟩
  have Sy3 := Lib.hid hs
  have HB := Lib.hid (below_next HB.out hb9)
  clear hs hb9
  go_wp2_with fail
  refine (f_same_is _ _ _ (alike_of Px3.out.1 Sy3.out)).mono ?_
  rintro e w10 ⟨rfl, rfl⟩
  go_wp2_with fail
  refine (ops_root a _).mono ?_
  rintro e w11 ⟨x4, n11, rfl, hx, hlx4, hw11⟩
  have hb11 : Below w9.heap.size w9 w11 := by rw [hw11]; exact below_drewN (Below.refl _ _) _
  have Px4 := Lib.hid (And.intro hx hlx4)
  have HB := Lib.hid (below_next HB.out hb11)
  clear hx hlx4 hw11 hb11
  go_wp2_with fail
  refine (r_root a _ HA.out).mono ?_
  rintro e w12 ⟨y4, rfl, hs, hb12⟩
  have Sy4 := Lib.hid hs
  have HB := Lib.hid (below_next HB.out hb12)
  clear hs hb12
  go_wp2_with fail
  refine (f_same_is _ _ _ (alike_of Px4.out.1 Sy4.out)).mono ?_
  rintro e w13 ⟨rfl, rfl⟩
  go_wp2_with fail
  refine (ops_scale_same a k HA.out HF.out _).mono ?_
  rintro e w14 ⟨rfl, rfl⟩
  go_wp2_with fail
  refine (r_scale_no a k HA.out HF.out _).mono ?_
  rintro e w15 ⟨y5, rfl, hs, hb15⟩
  have Sy5 := Lib.hid hs
  have HB := Lib.hid (below_next HB.out hb15)
  clear hs hb15
  go_wp2_with fail
  refine (f_same_is _ _ _ Sy5.out).mono ?_
  rintro e w16 ⟨rfl, rfl⟩
  go_wp2
  go_ret
  exact ⟨rfl, HB.out⟩

theorem opsTells_walk (a b : Nat) (k : Int) (w : World) (ha : a < 2 ^ 64) (hb : b < 2 ^ 64) : Calls Try.prog 9 #[F a, F b, .int .i64 k] w fun e w' => e = .returned (.bool true) ∧ Below w.heap.size w w' := by
  by_cases h1 : k < -5000
  · exact opsTells_low a b k w ha hb h1
  by_cases h2 : 5000 < k
  · exact opsTells_high a b k w ha hb h1 h2
  by_cases hf : Fl.Fin a
  · exact opsTells_fin a b k w ha hb hf ⟨by omega, by omega⟩
  · exact opsTells_nofin a b k w ha hb hf ⟨by omega, by omega⟩
end Go.Proofs.Ytemneeknemijpaa

namespace Go.Proofs.Ytemneeknemijpaa
open Go.ChangeShapes Go.WideShapes Go.ChangeAt Go.RowKit
open Go.ChangeMaps (open_string shut_string)

set_option maxRecDepth 100000 in
theorem opsTells_lifted (os : Os) (started : os.Started) (H : Type) (enc : TypeId × Value → H) :
    ReturnsInHanded {} Try.checked os 9 .any (Rows.opsTellsSpec.pre6 enc Try.prog Try.f9 Rows.opsTellsRow.domain false) (Rows.opsTellsSpec.post enc Try.prog Try.f9 false true false false) := by
  refine returnsInHanded_of_change (C := Try.checked) own started (by kernel_rfl) Try.func9
    (ChangeSpec.witness6 (enc := enc) (C := Try.checked) false ⟨#[], #[.float .f64 0, .float .f64 0, .int .i64 0], []⟩ 8 (by kernel_rfl) (by kernel_rfl) (by kernel_rfl) (by kernel_rfl)) ?_
  intro W base args ds gs before hval0 hW hcnd _
  have hval : ∀ (j : Nat) t v, Try.f9.params[j]? = some t → args[j]? = some v → Value.okWide Try.prog W .any base t v := hval0
  have hW' := hW
  obtain ⟨p, q, hA0, hV, rfl, hfz, hnd⟩ := hW
  have hA : DataW.TrodAll enc Try.prog W 0 (fun _ => true) true Try.f9.params.toList args.toList ds p := hA0
  rw [Try.params9] at hA hval
  obtain ⟨v0, vs0, d0, ds0, p0, q0, hargs, rfl, rfl, h0, r0⟩ := trodAll_cons hA
  obtain ⟨v1, vs1, d1, ds1, p1, q1, rfl, rfl, rfl, h1, r1⟩ := trodAll_cons r0
  obtain ⟨v2, vs2, d2, ds2, p2, q2, rfl, rfl, rfl, h2, r2⟩ := trodAll_cons r1
  obtain ⟨rfl, rfl, rfl⟩ := trodAll_nil r2
  obtain rfl : args = #[v0, v1, v2] := by cases args; simp_all
  obtain ⟨rfl, rfl⟩ := trodVars_none hV
  obtain ⟨a0, rfl, rfl, rfl, w0⟩ := open_float Try.underlying22 (hval 0 22 v0 rfl rfl) h0
  obtain ⟨a1, rfl, rfl, rfl, w1⟩ := open_float Try.underlying22 (hval 1 22 v1 rfl rfl) h1
  obtain ⟨a2, rfl, rfl, rfl, w2⟩ := open_int Try.underlying3 (hval 2 3 v2 rfl rfl) h2
  clear hA0 hval0
  refine (opsTells_walk a0 a1 a2 W (lt_of_wf w0) (lt_of_wf w1)).mono fun e W' ⟨he, bel⟩ => ?_
  subst he
  exact ⟨_, rfl, _, _, _, [], _, [], hW', trodAll_mk1 (shut_bool Try.underlying4 _), (trodAll_cons_mk (shut_float Try.underlying22 w0) (trodAll_cons_mk (shut_float Try.underlying22 w1) (trodAll_cons_mk (shut_int Try.underlying3 w2) trodAll_mk0))), rfl, bel.frame _, fun h => by cases h⟩

/-- THE STATEMENT. -/
theorem opsTells_holds : Rows.OpsTellsSaid :=
  OpenClaim.holds_of_wide 9 Try.f9 rfl rfl rfl rfl rfl rfl rfl ⟨rfl, rfl, rfl, rfl, rfl⟩ rfl rfl rfl rfl rfl (by kernel_rfl) Try.func9 (by kernel_rfl)
    (of_decide_eq_true (by kernel_rfl)) (by unfold Func.isWrapper; first | (rw [if_pos (by decide +kernel)]; kernel_rfl) | (rw [if_neg (by decide +kernel)]; exact ⟨rfl, rfl⟩))
    (fun os started H enc _ => opsTells_lifted os started H enc)
#print axioms opsTells_holds
end Go.Proofs.Ytemneeknemijpaa
