/- CpxTurn: the law's walk: it answers true, whatever the two floats are. No condition. -/
import Derived.Test.YtemneeknemijpaaHead9
import Derived.Test.YtemneeknemijpaaFits
import Derived.Test.YtemneeknemijpaaEitherWalk
set_option maxRecDepth 100000
namespace Go.Proofs.Ytemneeknemijpaa
open Go.RowKit

theorem is_canon {r v : Nat} {n : Int} (h : Fl.canon r = v) (hv : Fl.Is v n) : Fl.Is r n := by
  have h1 := hv.fin.notNaN
  have : r = v := by
    unfold Fl.canon at h
    split at h
    · rw [← h, Fl.isNaN_qnan] at h1; cases h1
    · exact h
  rw [this]; exact hv

theorem rep0 : Fl.Rep 0 := ⟨0, 0, by decide, by simp, by have := Fl.TOP_eq 2098 rfl; have := Nat.two_pow_pos 2098; omega⟩
theorem is_one : Fl.Is 4607182418800017408 Fl.ONE := ⟨⟨by decide, by decide +kernel⟩, by decide +kernel⟩
theorem is_mone : Fl.Is 13830554455654793216 (-(Fl.ONE : Int)) := ⟨⟨by decide, by decide +kernel⟩, by decide +kernel⟩
theorem is_zero : Fl.Is 0 0 := ⟨Fl.fin0, by decide +kernel⟩
theorem by_one {a : Nat} (h : Fl.Fin a) : Fl.Is (Fl.fmul a 4607182418800017408) (Fl.V a) := Fl.Is.mul ⟨h, rfl⟩ is_one rfl (Fl.Is.rep ⟨h, rfl⟩)
theorem by_zero {a : Nat} (h : Fl.Fin a) : Fl.Is (Fl.fmul a 0) 0 := Fl.Is.mul ⟨h, rfl⟩ is_zero (by rw [Int.mul_zero, Int.zero_mul]) rep0
theorem rep_neg {v : Int} (h : Fl.Rep v) : Fl.Rep (-v) := by
  obtain ⟨c, t, h1, h2, h3⟩ := h
  exact ⟨c, t, h1, by rw [Int.natAbs_neg]; exact h2, h3⟩
theorem by_mone {a : Nat} (h : Fl.Fin a) : Fl.Is (Fl.fmul a 13830554455654793216) (-Fl.V a) := Fl.Is.mul ⟨h, rfl⟩ is_mone (by rw [Int.mul_neg, Int.neg_mul]) (rep_neg (Fl.Is.rep ⟨h, rfl⟩))
theorem add_zero' {x y : Nat} {u : Int} (hx : Fl.Is x u) (hy : Fl.Is y 0) : Fl.Is (Fl.fadd x y) u := by
  have := hx.add hy (by rw [Int.add_zero]; exact hx.rep)
  rwa [Int.add_zero] at this
theorem zero_add' {x y : Nat} {u : Int} (hx : Fl.Is x 0) (hy : Fl.Is y u) : Fl.Is (Fl.fadd x y) u := by rw [Fl.fadd_comm]; exact add_zero' hy hx
theorem sub_zero' {x y : Nat} {u : Int} (hx : Fl.Is x u) (hy : Fl.Is y 0) : Fl.Is (Fl.fsub x y) u := by
  have := hx.sub hy (by rw [Int.sub_zero]; exact hx.rep)
  rwa [Int.sub_zero] at this
theorem zero_sub' {x y : Nat} {u : Int} (hx : Fl.Is x 0) (hy : Fl.Is y u) : Fl.Is (Fl.fsub x y) (-u) := by
  have := hx.sub hy (by rw [Int.zero_sub]; exact rep_neg hy.rep)
  rwa [Int.zero_sub] at this

set_option maxHeartbeats 1000000 in
theorem cpxTurn_walk (a b : Nat) (w : World) (ha : a < 2 ^ 64) (hb : b < 2 ^ 64) : Calls Try.prog 6 #[F a, F b] w fun e w' => e = .returned (.bool true) ∧ Below w.heap.size w w' := by
  have HA := Lib.hid ha
  have HB := Lib.hid hb
  clear ha hb
  go_enter Try.func6, Try.ntmps6
  go_wp2_with fail
  refine (l9_head _).mono ?_
  rintro e w1 ⟨rfl, hb⟩
  have HB1 := Lib.hid hb
  clear hb
  go_wp2_with fail
  refine (l9_fits _ HA.out _).mono ?_
  rintro e wz ⟨⟨ta, rfl, hfa⟩, rfl⟩
  have HFA := Lib.hid hfa
  clear hfa
  cases ta
  · go_wp2
    go_ret
    exact ⟨rfl, HB1.out⟩
  go_wp2_with fail
  refine (l9_fits _ HB.out _).mono ?_
  rintro e wz ⟨⟨tb, rfl, hfb⟩, rfl⟩
  have HFB := Lib.hid hfb
  clear hfb
  cases tb
  · go_wp2
    go_ret
    exact ⟨rfl, HB1.out⟩
  go_wp2_with fail
  refine (cpx_turn _ _ _ _ _).mono ?_
  rintro e w2 ⟨x1, y1, rfl, hx, hy, hb⟩
  have P1 := Lib.hid hx
  have Q1 := Lib.hid hy
  have HB2 := Lib.hid hb
  clear hx hy hb
  go_wp2_with fail
  refine (cpx_turn _ _ _ _ _).mono ?_
  rintro e w3 ⟨x2, y2, rfl, hx, hy, hb⟩
  have P2 := Lib.hid hx
  have Q2 := Lib.hid hy
  have HB3 := Lib.hid hb
  clear hx hy hb
  go_wp2_with fail
  refine (cpx_turn _ _ _ _ _).mono ?_
  rintro e w4 ⟨x3, y3, rfl, hx, hy, hb⟩
  have P3 := Lib.hid hx
  have Q3 := Lib.hid hy
  have HB4 := Lib.hid hb
  clear hx hy hb
  have fa := (HFA.out trivial).fin
  have fb := (HFB.out trivial).fin
  have o1 : (FloatKind.f64.format.order x1 a == some .eq) = true := (is_canon P1.out.1 (add_zero' (by_one fa) (by_zero fb))).eql ⟨fa, rfl⟩
  have o2 : (FloatKind.f64.format.order y1 b == some .eq) = true := (is_canon Q1.out.1 (sub_zero' (by_one fb) (by_zero fa))).eql ⟨fb, rfl⟩
  have o3 : (FloatKind.f64.format.order x2 b == some .eq) = true := (is_canon P2.out.1 (zero_add' (by_zero fa) (by_one fb))).eql ⟨fb, rfl⟩
  have o4 : (FloatKind.f64.format.order y2 (Fl.fneg a) == some .eq) = true := (is_canon Q2.out.1 (zero_sub' (by_zero fb) (by_one fa))).eql (Fl.Is.neg ⟨fa, rfl⟩)
  have o5 : (FloatKind.f64.format.order x3 (Fl.fneg a) == some .eq) = true := (is_canon P3.out.1 (add_zero' (by_mone fa) (by_zero fb))).eql (Fl.Is.neg ⟨fa, rfl⟩)
  have o6 : (FloatKind.f64.format.order y3 (Fl.fneg b) == some .eq) = true := (is_canon Q3.out.1 (sub_zero' (by_mone fb) (by_zero fa))).eql (Fl.Is.neg ⟨fb, rfl⟩)
  clear fa fb
  go_wp2
  go_ret
  exact ⟨rfl, on_trans (on_trans (on_trans HB1.out HB2.out) HB3.out) HB4.out⟩
end Go.Proofs.Ytemneeknemijpaa
