/- CpxEither: the law's walk: it answers true, whatever the four floats are. No condition. -/
import Derived.Test.YtemneeknemijpaaHead9
set_option maxRecDepth 100000
namespace Go.Proofs.Ytemneeknemijpaa
open Go.RowKit

theorem mul_comm1 (a b c d : Nat) : Fl.fsub (Fl.fmul a c) (Fl.fmul b d) = Fl.fsub (Fl.fmul c a) (Fl.fmul d b) := by rw [Fl.fmul_comm a c, Fl.fmul_comm b d]
theorem mul_comm2 (a b c d : Nat) : Fl.fadd (Fl.fmul a d) (Fl.fmul b c) = Fl.fadd (Fl.fmul c b) (Fl.fmul d a) := by rw [Fl.fadd_comm, Fl.fmul_comm a d, Fl.fmul_comm b c]
theorem turn1 (a b c d : Nat) (_hb : Hid (b < 2 ^ 64)) (hd : Hid (d < 2 ^ 64)) : Fl.fadd (Fl.fmul a c) (Fl.fmul b d) = Fl.fsub (Fl.fmul a c) (Fl.fmul b (Fl.fneg d)) := by
  rw [← Fl.fmul_neg b hd.out, Fl.fsub_canon_right, Fl.fsub_neg _ (Fl.fmul_lt ..)]
theorem turn2 (a b c d : Nat) (hd : Hid (d < 2 ^ 64)) : Fl.fsub (Fl.fmul b c) (Fl.fmul a d) = Fl.fadd (Fl.fmul a (Fl.fneg d)) (Fl.fmul b c) := by
  rw [← Fl.fmul_neg a hd.out, Fl.fadd_canon_left, Fl.fadd_comm, ← Fl.fsub_eq _ (Fl.fmul_lt ..)]
@[go_sem] theorem unary_neg_float (x : Nat) : Op.unary .neg (.float .f64 x) = pure (.float .f64 (Fl.fneg x)) := rfl

set_option maxHeartbeats 2000000 in
theorem cpxEither_walk (a b c d : Nat) (w : World) (_ha : a < 2 ^ 64) (hb : b < 2 ^ 64) (hc : c < 2 ^ 64) (hd : d < 2 ^ 64) : Calls Try.prog 4 #[F a, F b, F c, F d] w fun e w' => e = .returned (.bool true) ∧ Below w.heap.size w w' := by
  have hb' := Lib.hid hb
  have hc' := Lib.hid hc
  have hd' := Lib.hid hd
  clear _ha hb hc hd
  go_enter Try.func4, Try.ntmps4
  go_wp2_with fail
  refine (l9_head _).mono ?_
  rintro e w1 ⟨rfl, hb⟩
  have HB1 := Lib.hid hb
  clear hb
  go_wp2_with fail
  refine (cpx_mul a b c d _).mono ?_
  rintro e w2 ⟨x1, y1, rfl, hx, hy, hb⟩
  have P1 := Lib.hid hx
  have Q1 := Lib.hid hy
  have HB2 := Lib.hid hb
  clear hx hy hb
  go_wp2_with fail
  refine (cpx_mul c d a b _).mono ?_
  rintro e w3 ⟨x2, y2, rfl, hx, hy, hb⟩
  have P2 := Lib.hid hx
  have Q2 := Lib.hid hy
  have HB3 := Lib.hid hb
  clear hx hy hb
  go_wp2_with fail
  refine (cpx_turn a b c d _).mono ?_
  rintro e w4 ⟨x3, y3, rfl, hx, hy, hb⟩
  have P3 := Lib.hid hx
  have Q3 := Lib.hid hy
  have HB4 := Lib.hid hb
  clear hx hy hb
  go_wp2_with fail
  refine (cpx_mul a b c (Fl.fneg d) _).mono ?_
  rintro e w5 ⟨x4, y4, rfl, hx, hy, hb⟩
  have P4 := Lib.hid hx
  have Q4 := Lib.hid hy
  have HB5 := Lib.hid hb
  clear hx hy hb
  go_wp2_with fail
  refine (cpx_add a b c d _).mono ?_
  rintro e w6 ⟨x5, y5, rfl, hx, hy, hb⟩
  have P5 := Lib.hid hx
  have Q5 := Lib.hid hy
  have HB6 := Lib.hid hb
  clear hx hy hb
  go_wp2_with fail
  refine (cpx_add c d a b _).mono ?_
  rintro e w7 ⟨x6, y6, rfl, hx, hy, hb⟩
  have P6 := Lib.hid hx
  have Q6 := Lib.hid hy
  have HB7 := Lib.hid hb
  clear hx hy hb
  go_wp2_with fail
  refine (cpx_sub a b c d _).mono ?_
  rintro e w8 ⟨x7, y7, rfl, hx, hy, hb⟩
  have P7 := Lib.hid hx
  have Q7 := Lib.hid hy
  have HB8 := Lib.hid hb
  clear hx hy hb
  go_wp2_with fail
  refine (cpx_add a b (Fl.fneg c) (Fl.fneg d) _).mono ?_
  rintro e w9 ⟨x8, y8, rfl, hx, hy, hb⟩
  have P8 := Lib.hid hx
  have Q8 := Lib.hid hy
  have HB9 := Lib.hid hb
  clear hx hy hb
  go_wp2_with fail
  refine (l9_same _ _ _ _ _ (((P1.out).1).trans ((mul_comm1 a b c d).trans ((P2.out).1).symm)) (((Q1.out).1).trans ((mul_comm2 a b c d).trans ((Q2.out).1).symm))).mono ?_
  rintro e wz ⟨rfl, rfl⟩
  go_wp2_with fail
  refine (l9_same _ _ _ _ _ (((P3.out).1).trans ((turn1 a b c d hb' hd').trans ((P4.out).1).symm)) (((Q3.out).1).trans ((turn2 a b c d hd').trans ((Q4.out).1).symm))).mono ?_
  rintro e wz ⟨rfl, rfl⟩
  go_wp2_with fail
  refine (l9_same _ _ _ _ _ (((P5.out).1).trans ((Fl.fadd_comm a c).trans ((P6.out).1).symm)) (((Q5.out).1).trans ((Fl.fadd_comm b d).trans ((Q6.out).1).symm))).mono ?_
  rintro e wz ⟨rfl, rfl⟩
  go_wp2_with fail
  refine (l9_same _ _ _ _ _ (((P7.out).1).trans ((Fl.fsub_eq a hc'.out).trans ((P8.out).1).symm)) (((Q7.out).1).trans ((Fl.fsub_eq b hd'.out).trans ((Q8.out).1).symm))).mono ?_
  rintro e wz ⟨rfl, rfl⟩
  go_wp2
  go_ret
  exact ⟨rfl, on_trans (on_trans (on_trans (on_trans (on_trans (on_trans (on_trans (on_trans HB1.out HB2.out) HB3.out) HB4.out) HB5.out) HB6.out) HB7.out) HB8.out) HB9.out⟩
end Go.Proofs.Ytemneeknemijpaa
