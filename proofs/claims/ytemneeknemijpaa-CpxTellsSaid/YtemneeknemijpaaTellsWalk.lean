/- CpxTells: the law's walk: it answers true, whatever the four floats are. No condition. -/
import Derived.Test.YtemneeknemijpaaHead9
set_option maxRecDepth 100000
namespace Go.Proofs.Ytemneeknemijpaa
open Go.RowKit

set_option maxHeartbeats 2000000 in
theorem cpxTells_walk (a b c d : Nat) (w : World) (_ha : a < 2 ^ 64) (_hb : b < 2 ^ 64) (_hc : c < 2 ^ 64) (_hd : d < 2 ^ 64) : Calls Try.prog 3 #[F a, F b, F c, F d] w fun e w' => e = .returned (.bool true) ∧ Below w.heap.size w w' := by
  clear _ha _hb _hc _hd
  go_enter Try.func3, Try.ntmps3
  go_wp2_with fail
  refine (l9_head _).mono ?_
  rintro e w1 ⟨rfl, hb⟩
  have HB1 := Lib.hid hb
  clear hb
  go_wp2_with fail
  refine (cpx_add _ _ _ _ _).mono ?_
  rintro e w2 ⟨x1, y1, rfl, hx, hy, hb⟩
  have P1 := Lib.hid hx
  have Q1 := Lib.hid hy
  have HB2 := Lib.hid hb
  clear hx hy hb
  go_wp2_with fail
  refine (r9_add _ _ _ _ _).mono ?_
  rintro e w3 ⟨x2, y2, rfl, hx, hy, hb⟩
  have P2 := Lib.hid hx
  have Q2 := Lib.hid hy
  have HB3 := Lib.hid hb
  clear hx hy hb
  go_wp2_with fail
  refine (cpx_sub _ _ _ _ _).mono ?_
  rintro e w4 ⟨x3, y3, rfl, hx, hy, hb⟩
  have P3 := Lib.hid hx
  have Q3 := Lib.hid hy
  have HB4 := Lib.hid hb
  clear hx hy hb
  go_wp2_with fail
  refine (r9_sub _ _ _ _ _).mono ?_
  rintro e w5 ⟨x4, y4, rfl, hx, hy, hb⟩
  have P4 := Lib.hid hx
  have Q4 := Lib.hid hy
  have HB5 := Lib.hid hb
  clear hx hy hb
  go_wp2_with fail
  refine (cpx_mul _ _ _ _ _).mono ?_
  rintro e w6 ⟨x5, y5, rfl, hx, hy, hb⟩
  have P5 := Lib.hid hx
  have Q5 := Lib.hid hy
  have HB6 := Lib.hid hb
  clear hx hy hb
  go_wp2_with fail
  refine (r9_mul _ _ _ _ _).mono ?_
  rintro e w7 ⟨x6, y6, rfl, hx, hy, hb⟩
  have P6 := Lib.hid hx
  have Q6 := Lib.hid hy
  have HB7 := Lib.hid hb
  clear hx hy hb
  go_wp2_with fail
  refine (cpx_turn _ _ _ _ _).mono ?_
  rintro e w8 ⟨x7, y7, rfl, hx, hy, hb⟩
  have P7 := Lib.hid hx
  have Q7 := Lib.hid hy
  have HB8 := Lib.hid hb
  clear hx hy hb
  go_wp2_with fail
  refine (r9_turn _ _ _ _ _).mono ?_
  rintro e w9 ⟨x8, y8, rfl, hx, hy, hb⟩
  have P8 := Lib.hid hx
  have Q8 := Lib.hid hy
  have HB9 := Lib.hid hb
  clear hx hy hb
  go_wp2_with fail
  refine (cpx_half _ _ _).mono ?_
  rintro e w10 ⟨x9, y9, rfl, hx, hy, hb⟩
  have P9 := Lib.hid hx
  have Q9 := Lib.hid hy
  have HB10 := Lib.hid hb
  clear hx hy hb
  go_wp2_with fail
  refine (r9_half _ _ _).mono ?_
  rintro e w11 ⟨x10, y10, rfl, hx, hy, hb⟩
  have P10 := Lib.hid hx
  have Q10 := Lib.hid hy
  have HB11 := Lib.hid hb
  clear hx hy hb
  go_wp2_with fail
  refine (l9_same _ _ _ _ _ (((P1.out).1).trans ((P2.out).1).symm) (((Q1.out).1).trans ((Q2.out).1).symm)).mono ?_
  rintro e wz ⟨rfl, rfl⟩
  go_wp2_with fail
  refine (l9_same _ _ _ _ _ (((P3.out).1).trans ((P4.out).1).symm) (((Q3.out).1).trans ((Q4.out).1).symm)).mono ?_
  rintro e wz ⟨rfl, rfl⟩
  go_wp2_with fail
  refine (l9_same _ _ _ _ _ (((P5.out).1).trans ((P6.out).1).symm) (((Q5.out).1).trans ((Q6.out).1).symm)).mono ?_
  rintro e wz ⟨rfl, rfl⟩
  go_wp2_with fail
  refine (l9_same _ _ _ _ _ (((P7.out).1).trans ((P8.out).1).symm) (((Q7.out).1).trans ((Q8.out).1).symm)).mono ?_
  rintro e wz ⟨rfl, rfl⟩
  go_wp2_with fail
  refine (l9_same _ _ _ _ _ (((P9.out).1).trans ((P10.out).1).symm) (((Q9.out).1).trans ((Q10.out).1).symm)).mono ?_
  rintro e wz ⟨rfl, rfl⟩
  go_wp2_with fail
  refine (cpx_square _ _ _).mono ?_
  rintro e w12 ⟨x11, rfl, hx, hb⟩
  have P11 := Lib.hid hx
  have HB12 := Lib.hid hb
  clear hx hb
  go_wp2_with fail
  refine (r9_square _ _ _).mono ?_
  rintro e w13 ⟨x12, rfl, hx, hb⟩
  have P12 := Lib.hid hx
  have HB13 := Lib.hid hb
  clear hx hb
  go_wp2_with fail
  refine (f_same_yes _ _ _ (((P11.out).1).trans ((P12.out).1).symm)).mono ?_
  rintro e wz ⟨rfl, rfl⟩
  go_wp2
  go_ret
  exact ⟨rfl, on_trans (on_trans (on_trans (on_trans (on_trans (on_trans (on_trans (on_trans (on_trans (on_trans (on_trans (on_trans HB1.out HB2.out) HB3.out) HB4.out) HB5.out) HB6.out) HB7.out) HB8.out) HB9.out) HB10.out) HB11.out) HB12.out) HB13.out⟩
end Go.Proofs.Ytemneeknemijpaa
