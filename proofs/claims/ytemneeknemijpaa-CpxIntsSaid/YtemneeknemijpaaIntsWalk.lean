/- CpxInts: the law's walk: it answers true, whatever the four small ints are. No condition. -/
import Derived.Test.YtemneeknemijpaaHead9
import Derived.Test.YtemneeknemijpaaFlw
set_option maxRecDepth 100000
namespace Go.Proofs.Ytemneeknemijpaa
open Go.RowKit

theorem is_of_canon {r v : Nat} {n : Int} (h : Fl.canon r = v) (hv : Fl.Is v n) : Fl.Is r n := by
  have h1 := hv.fin.notNaN
  have : r = v := by
    unfold Fl.canon at h
    split at h
    · rw [← h, Fl.isNaN_qnan] at h1; cases h1
    · exact h
  rw [this]; exact hv

/-- small: at most 2^15 -/
theorem prod_small {x y : Int} (hx : -32768 ≤ x ∧ x ≤ 32767) (hy : -32768 ≤ y ∧ y ≤ 32767) : -1073741824 ≤ x * y ∧ x * y ≤ 1073741824 := by
  have h : (x * y).natAbs ≤ 32768 * 32768 := by
    rw [Int.natAbs_mul]
    exact Nat.mul_le_mul (by omega) (by omega)
  omega

theorem is_prod {x z : Int} (h : -1073741824 ≤ x * z ∧ x * z ≤ 1073741824) (hx : Fl.Is (Fl.ofInt x) (x * Fl.ONE)) (hz : Fl.Is (Fl.ofInt z) (z * Fl.ONE)) : Fl.Is (Fl.fmul (Fl.ofInt x) (Fl.ofInt z)) ((x * z) * Fl.ONE) :=
  Fl.Is.mul hx hz (by ac_rfl) (Fl.Rep.int (by omega))

structure Four (x y z w : Int) (e f g h i j : Nat) : Prop where
  e : Fl.Is e ((x * z - y * w) * Fl.ONE)
  f : Fl.Is f ((x * w + y * z) * Fl.ONE)
  g : Fl.Is g ((x * z + y * w) * Fl.ONE)
  h : Fl.Is h ((y * z - x * w) * Fl.ONE)
  i : Fl.Is i ((x + z) * Fl.ONE)
  j : Fl.Is j ((y + w) * Fl.ONE)

theorem is_sum {u v : Nat} {m n : Int} (hu : Fl.Is u (m * Fl.ONE)) (hv : Fl.Is v (n * Fl.ONE)) (h : (m + n).natAbs < 2 ^ 53) : Fl.Is (Fl.fadd u v) ((m + n) * Fl.ONE) := by
  have := hu.add hv (by rw [← Int.add_mul]; exact Fl.Rep.int h)
  rwa [← Int.add_mul] at this
theorem is_diff {u v : Nat} {m n : Int} (hu : Fl.Is u (m * Fl.ONE)) (hv : Fl.Is v (n * Fl.ONE)) (h : (m - n).natAbs < 2 ^ 53) : Fl.Is (Fl.fsub u v) ((m - n) * Fl.ONE) := by
  have := hu.sub hv (by rw [← Int.sub_mul]; exact Fl.Rep.int h)
  rwa [← Int.sub_mul] at this

theorem four {x y z w : Int} {e f g h i j : Nat} (hx : -32768 ≤ x ∧ x ≤ 32767) (hy : -32768 ≤ y ∧ y ≤ 32767) (hz : -32768 ≤ z ∧ z ≤ 32767) (hw : -32768 ≤ w ∧ w ≤ 32767)
    (he : Fl.canon e = Fl.fsub (Fl.fmul (Fl.ofInt x) (Fl.ofInt z)) (Fl.fmul (Fl.ofInt y) (Fl.ofInt w))) (hf : Fl.canon f = Fl.fadd (Fl.fmul (Fl.ofInt x) (Fl.ofInt w)) (Fl.fmul (Fl.ofInt y) (Fl.ofInt z)))
    (hg : Fl.canon g = Fl.fadd (Fl.fmul (Fl.ofInt x) (Fl.ofInt z)) (Fl.fmul (Fl.ofInt y) (Fl.ofInt w))) (hh : Fl.canon h = Fl.fsub (Fl.fmul (Fl.ofInt y) (Fl.ofInt z)) (Fl.fmul (Fl.ofInt x) (Fl.ofInt w)))
    (hi : Fl.canon i = Fl.fadd (Fl.ofInt x) (Fl.ofInt z)) (hj : Fl.canon j = Fl.fadd (Fl.ofInt y) (Fl.ofInt w))
: Four x y z w e f g h i j := by
  have ix := Fl.Is.int (n := x) (by omega)
  have iy := Fl.Is.int (n := y) (by omega)
  have iz := Fl.Is.int (n := z) (by omega)
  have iw := Fl.Is.int (n := w) (by omega)
  have bxz := prod_small hx hz
  have byw := prod_small hy hw
  have bxw := prod_small hx hw
  have byz := prod_small hy hz
  have pxz := is_prod bxz ix iz
  have pyw := is_prod byw iy iw
  have pxw := is_prod bxw ix iw
  have pyz := is_prod byz iy iz
  exact ⟨is_of_canon he (is_diff pxz pyw (by omega)), is_of_canon hf (is_sum pxw pyz (by omega)), is_of_canon hg (is_sum pxz pyw (by omega)), is_of_canon hh (is_diff pyz pxw (by omega)),
    is_of_canon hi (is_sum ix iz (by omega)), is_of_canon hj (is_sum iy iw (by omega))⟩

theorem four_q {x y : Int} {q : Nat} (hx : -32768 ≤ x ∧ x ≤ 32767) (hy : -32768 ≤ y ∧ y ≤ 32767)
    (hq : Fl.canon q = Fl.fadd (Fl.fmul (Fl.ofInt x) (Fl.ofInt x)) (Fl.fmul (Fl.ofInt y) (Fl.ofInt y))) : Fl.Is q ((x * x + y * y) * Fl.ONE) := by
  have bxx := prod_small hx hx
  have byy := prod_small hy hy
  have ix := Fl.Is.int (n := x) (by omega)
  have iy := Fl.Is.int (n := y) (by omega)
  exact is_of_canon hq (is_sum (is_prod bxx ix ix) (is_prod byy iy iy) (by omega))

theorem eq_int {r : Nat} {n : Int} (h : Fl.Is r (n * Fl.ONE)) (hn : n.natAbs < 2 ^ 53) : (FloatKind.f64.format.order r (Fl.ofInt n) == some .eq) = true := h.eql (Fl.Is.int hn)

set_option maxHeartbeats 1000000 in
theorem cpxInts_walk (x y z v : Int) (w : World) (_hx : (Lit.int .i16 x).wf = true) (_hy : (Lit.int .i16 y).wf = true) (_hz : (Lit.int .i16 z).wf = true) (_hv : (Lit.int .i16 v).wf = true) : Calls Try.prog 5 #[.int .i16 x, .int .i16 y, .int .i16 z, .int .i16 v] w fun e w' => e = .returned (.bool true) ∧ Below w.heap.size w w' := by
  have hx0 : -32768 ≤ x ∧ x ≤ 32767 := (by simpa [Lit.wf] using _hx : IntKind.i16.min ≤ x ∧ x ≤ IntKind.i16.max)
  have hy0 : -32768 ≤ y ∧ y ≤ 32767 := (by simpa [Lit.wf] using _hy : IntKind.i16.min ≤ y ∧ y ≤ IntKind.i16.max)
  have hz0 : -32768 ≤ z ∧ z ≤ 32767 := (by simpa [Lit.wf] using _hz : IntKind.i16.min ≤ z ∧ z ≤ IntKind.i16.max)
  have hv0 : -32768 ≤ v ∧ v ≤ 32767 := (by simpa [Lit.wf] using _hv : IntKind.i16.min ≤ v ∧ v ≤ IntKind.i16.max)
  clear _hx _hy _hz _hv
  obtain ⟨hx1, hx2⟩ := hx0
  obtain ⟨hy1, hy2⟩ := hy0
  obtain ⟨hz1, hz2⟩ := hz0
  obtain ⟨hv1, hv2⟩ := hv0
  obtain ⟨bxz, bxz'⟩ := prod_small ⟨hx1, hx2⟩ ⟨hz1, hz2⟩
  obtain ⟨byv, byv'⟩ := prod_small ⟨hy1, hy2⟩ ⟨hv1, hv2⟩
  obtain ⟨bxv, bxv'⟩ := prod_small ⟨hx1, hx2⟩ ⟨hv1, hv2⟩
  obtain ⟨byz, byz'⟩ := prod_small ⟨hy1, hy2⟩ ⟨hz1, hz2⟩
  obtain ⟨bxx, bxx'⟩ := prod_small ⟨hx1, hx2⟩ ⟨hx1, hx2⟩
  obtain ⟨byy, byy'⟩ := prod_small ⟨hy1, hy2⟩ ⟨hy1, hy2⟩
  go_enter Try.func5, Try.ntmps5
  go_wp2_with fail
  refine (l9_head _).mono ?_
  rintro e w1 ⟨rfl, hb⟩
  have HB1 := Lib.hid hb
  clear hb
  go_wp2_with fail
  refine (cpx_mul _ _ _ _ _).mono ?_
  rintro e w2 ⟨x1, y1, rfl, hx, hy, hb⟩
  have P1 := Lib.hid hx
  have Q1 := Lib.hid hy
  have HB2 := Lib.hid hb
  clear hx hy hb
  go_wp2_with fail
  refine (cpx_turn _ _ _ _ _).mono ?_
  rintro e w3 ⟨x2, y2, rfl, hx, hy, hb⟩
  have P2 := Lib.hid hx
  have Q2 := Lib.hid hy
  have HB3 := Lib.hid hb
  clear hx hy hb
  go_wp2_with fail
  refine (cpx_add _ _ _ _ _).mono ?_
  rintro e w4 ⟨x3, y3, rfl, hx, hy, hb⟩
  have P3 := Lib.hid hx
  have Q3 := Lib.hid hy
  have HB4 := Lib.hid hb
  clear hx hy hb
  have FF := four ⟨hx1, hx2⟩ ⟨hy1, hy2⟩ ⟨hz1, hz2⟩ ⟨hv1, hv2⟩ P1.out.1 Q1.out.1 P2.out.1 Q2.out.1 P3.out.1 Q3.out.1
  have o1 : (FloatKind.f64.format.order x1 (floatOfInt .f64 (x * z - y * v)) == some .eq) = true := eq_int FF.e (by omega)
  have o2 : (FloatKind.f64.format.order y1 (floatOfInt .f64 (x * v + y * z)) == some .eq) = true := eq_int FF.f (by omega)
  have o3 : (FloatKind.f64.format.order x2 (floatOfInt .f64 (x * z + y * v)) == some .eq) = true := eq_int FF.g (by omega)
  have o4 : (FloatKind.f64.format.order y2 (floatOfInt .f64 (y * z - x * v)) == some .eq) = true := eq_int FF.h (by omega)
  have o5 : (FloatKind.f64.format.order x3 (floatOfInt .f64 (x + z)) == some .eq) = true := eq_int FF.i (by omega)
  have o6 : (FloatKind.f64.format.order y3 (floatOfInt .f64 (y + v)) == some .eq) = true := eq_int FF.j (by omega)
  clear FF
  go_wp2_with fail
  refine (cpx_square _ _ _).mono ?_
  rintro e w5 ⟨q, rfl, hx, hb⟩
  have HB5 := Lib.hid hb
  have o7 : (FloatKind.f64.format.order q (floatOfInt .f64 (x * x + y * y)) == some .eq) = true := eq_int (four_q ⟨hx1, hx2⟩ ⟨hy1, hy2⟩ hx.1) (by omega)
  clear hx hb
  go_wp2
  go_ret
  exact ⟨rfl, on_trans (on_trans (on_trans (on_trans HB1.out HB2.out) HB3.out) HB4.out) HB5.out⟩
end Go.Proofs.Ytemneeknemijpaa
