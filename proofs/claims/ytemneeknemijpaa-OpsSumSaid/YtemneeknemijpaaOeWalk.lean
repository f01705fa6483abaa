/- OpsEither: the law's walk: it answers true, whatever the two floats are. No condition. -/
import Derived.Test.YtemneeknemijpaaHead4
import Derived.Test.YtemneeknemijpaaAlike
set_option maxRecDepth 100000
namespace Go.Proofs.Ytemneeknemijpaa
open Go.RowKit

theorem f_same_true (a b : Nat) (w : World) (hs : Fl.same a b = true) : Calls Try.prog 27 #[F a, F b] w fun e w' => e = .returned (.bool true) ∧ w = w' := by
  unfold Fl.same at hs
  by_cases h1 : (FloatKind.f64.format.order a b == some .eq) = true
  · clear hs
    go_enter Try.func27, Try.ntmps27
    go_wp2
    go_ret
    exact ⟨rfl, rfl⟩
  · have h1' : (FloatKind.f64.format.order a b == some .eq) = false := by simpa using h1
    clear h1
    have hs' : (false || (FloatKind.f64.format.order a a != some .eq && FloatKind.f64.format.order b b != some .eq)) = true := by
      rw [← h1']; exact hs
    simp only [Bool.false_or, Bool.and_eq_true] at hs'
    obtain ⟨h2, h3⟩ := hs'
    clear hs
    go_enter Try.func27, Try.ntmps27
    go_wp2
    go_ret
    exact ⟨rfl, rfl⟩
theorem same_of_canon {r v b : Nat} (h : Fl.canon r = v) (hs : Fl.same v b = true) : Fl.same r b = true := by
  rw [← Fl.same_canon_left, h]; exact hs

set_option maxHeartbeats 1000000 in
theorem opsEither_walk (a b : Nat) (w : World) (ha : a < 2 ^ 64) (hb : b < 2 ^ 64) : Calls Try.prog 10 #[F a, F b] w fun e w' => e = .returned (.bool true) ∧ Below w.heap.size w w' := by
  have HA := Lib.hid ha
  have HB := Lib.hid hb
  clear ha hb
  go_enter Try.func10, Try.ntmps10
  go_wp2_with fail
  refine (l4_head _).mono ?_
  rintro e w1 ⟨rfl, hb⟩
  have HB1 := Lib.hid hb
  clear hb
  go_wp2_with fail
  refine (ops_add a b _).mono ?_
  rintro e wz ⟨x1, n1, rfl, hx, hl1, rfl⟩
  have P1 := Lib.hid hx
  clear hx
  go_wp2_with fail
  refine (ops_add b a _).mono ?_
  rintro e wz ⟨x2, n2, rfl, hx, hl2, rfl⟩
  have P2 := Lib.hid hx
  clear hx
  go_wp2_with fail
  refine (f_same_yes _ _ _ (P1.out.trans ((Fl.fadd_comm a b).trans P2.out.symm))).mono ?_
  rintro e wz ⟨rfl, rfl⟩
  go_wp2_with fail
  refine (ops_mul a b _).mono ?_
  rintro e wz ⟨x3, n3, rfl, hx, hl3, rfl⟩
  have P3 := Lib.hid hx
  clear hx
  go_wp2_with fail
  refine (ops_mul b a _).mono ?_
  rintro e wz ⟨x4, n4, rfl, hx, hl4, rfl⟩
  have P4 := Lib.hid hx
  clear hx
  go_wp2_with fail
  refine (f_same_yes _ _ _ (P3.out.trans ((Fl.fmul_comm a b).trans P4.out.symm))).mono ?_
  rintro e wz ⟨rfl, rfl⟩
  go_wp2_with fail
  refine (ops_sub a b _).mono ?_
  rintro e wz ⟨x5, n5, rfl, hx, hl5, rfl⟩
  have P5 := Lib.hid hx
  clear hx
  go_wp2_with fail
  refine (ops_add a (Fl.fneg b) _).mono ?_
  rintro e wz ⟨x6, n6, rfl, hx, hl6, rfl⟩
  have P6 := Lib.hid hx
  clear hx
  go_wp2_with fail
  refine (f_same_yes _ _ _ (P5.out.trans ((Fl.fsub_eq a HB.out).trans P6.out.symm))).mono ?_
  rintro e wz ⟨rfl, rfl⟩
  go_wp2_with fail
  refine (ops_add a 0 _).mono ?_
  rintro e wz ⟨x7, n7, rfl, hx, hl7, rfl⟩
  have P7 := Lib.hid hx
  clear hx
  go_wp2_with fail
  refine (f_same_true _ _ _ (same_of_canon P7.out (Fl.add_zero_same HA.out))).mono ?_
  rintro e wz ⟨rfl, rfl⟩
  go_wp2_with fail
  refine (ops_mul a 4607182418800017408 _).mono ?_
  rintro e wz ⟨x8, n8, rfl, hx, hl8, rfl⟩
  have P8 := Lib.hid hx
  clear hx
  go_wp2_with fail
  refine (f_same_true _ _ _ (same_of_canon P8.out (Fl.mul_one_same HA.out))).mono ?_
  rintro e wz ⟨rfl, rfl⟩
  go_wp2_with fail
  refine (ops_mul a 13830554455654793216 _).mono ?_
  rintro e wz ⟨x9, n9, rfl, hx, hl9, rfl⟩
  have P9 := Lib.hid hx
  clear hx
  go_wp2_with fail
  refine (f_same_true _ _ _ (same_of_canon P9.out (Fl.mul_mone_same HA.out))).mono ?_
  rintro e wz ⟨rfl, rfl⟩
  go_wp2_with fail
  refine (ops_add a a _).mono ?_
  rintro e wz ⟨x10, n10, rfl, hx, hl10, rfl⟩
  have P10 := Lib.hid hx
  clear hx
  go_wp2_with fail
  refine (ops_mul a 4611686018427387904 _).mono ?_
  rintro e wz ⟨x11, n11, rfl, hx, hl11, rfl⟩
  have P11 := Lib.hid hx
  clear hx
  go_wp2_with fail
  refine (f_same_yes _ _ _ (P10.out.trans ((Fl.twice HA.out).trans P11.out.symm))).mono ?_
  rintro e wz ⟨rfl, rfl⟩
  go_wp2
  go_ret
  exact ⟨rfl, below_drewN HB1.out _⟩
end Go.Proofs.Ytemneeknemijpaa
