/- The live question of layer 9: it answers true. No condition. -/
import Derived.Test.YtemneeknemijpaaRefa
namespace Go.Proofs.Ytemneeknemijpaa
open Go.RowKit

theorem on_trans {a b c : World} (h : Below a.heap.size a b) (k : Below b.heap.size b c) : Below a.heap.size a c := h.trans (k.mono h.size)

theorem eq_of_canon {r v : Nat} (h : Fl.canon r = v) (hv : v ≠ Fl.qnan) : r = v := by
  unfold Fl.canon at h
  split at h
  · exact absurd h.symm hv
  · exact h
theorem nan_of_canon {r : Nat} (h : Fl.canon r = Fl.qnan) : Fl.isNaN r = true := by
  have := Fl.isNaN_canon r
  rw [h, Fl.isNaN_qnan] at this
  exact this.symm
theorem ne_of_nan {r : Nat} (h : Fl.isNaN r = true) (s : Nat) : (FloatKind.f64.format.order r s != some .eq) = true := by
  have : FloatKind.f64.format.order r s = none := Fl.ord_nan_left h s
  rw [this]; rfl

theorem live_mul (w : World) : Calls Try.prog 20 #[F 4607182418800017408, F 4611686018427387904, F 4613937818241073152, F 4616189618054758400] w fun e w' => e = .returned (.tuple #[F 13840687554816376832, F 4621819117588971520]) ∧ Below w.heap.size w w' := by
  refine (cpx_mul _ _ _ _ w).mono ?_
  rintro e w' ⟨r, s, rfl, ⟨h1, _⟩, ⟨h2, _⟩, hb⟩
  have e1 : r = 13840687554816376832 := eq_of_canon (h1.trans (by decide +kernel)) (by decide)
  have e2 : s = 4621819117588971520 := eq_of_canon (h2.trans (by decide +kernel)) (by decide)
  exact ⟨by rw [e1, e2], hb⟩

theorem live_turn (w : World) : Calls Try.prog 22 #[F 4607182418800017408, F 4611686018427387904, F 0, F 4607182418800017408] w fun e w' => e = .returned (.tuple #[F 4611686018427387904, F 13830554455654793216]) ∧ Below w.heap.size w w' := by
  refine (cpx_turn _ _ _ _ w).mono ?_
  rintro e w' ⟨r, s, rfl, ⟨h1, _⟩, ⟨h2, _⟩, hb⟩
  have e1 : r = 4611686018427387904 := eq_of_canon (h1.trans (by decide +kernel)) (by decide)
  have e2 : s = 13830554455654793216 := eq_of_canon (h2.trans (by decide +kernel)) (by decide)
  exact ⟨by rw [e1, e2], hb⟩

theorem live_add (w : World) : Calls Try.prog 16 #[F 4607182418800017408, F 4611686018427387904, F 4613937818241073152, F 4616189618054758400] w fun e w' => e = .returned (.tuple #[F 4616189618054758400, F 4618441417868443648]) ∧ Below w.heap.size w w' := by
  refine (cpx_add _ _ _ _ w).mono ?_
  rintro e w' ⟨r, s, rfl, ⟨h1, _⟩, ⟨h2, _⟩, hb⟩
  have e1 : r = 4616189618054758400 := eq_of_canon (h1.trans (by decide +kernel)) (by decide)
  have e2 : s = 4618441417868443648 := eq_of_canon (h2.trans (by decide +kernel)) (by decide)
  exact ⟨by rw [e1, e2], hb⟩

theorem live_sub (w : World) : Calls Try.prog 18 #[F 4607182418800017408, F 4611686018427387904, F 4613937818241073152, F 4617315517961601024] w fun e w' => e = .returned (.tuple #[F 13835058055282163712, F 13837309855095848960]) ∧ Below w.heap.size w w' := by
  refine (cpx_sub _ _ _ _ w).mono ?_
  rintro e w' ⟨r, s, rfl, ⟨h1, _⟩, ⟨h2, _⟩, hb⟩
  have e1 : r = 13835058055282163712 := eq_of_canon (h1.trans (by decide +kernel)) (by decide)
  have e2 : s = 13837309855095848960 := eq_of_canon (h2.trans (by decide +kernel)) (by decide)
  exact ⟨by rw [e1, e2], hb⟩

theorem live_half (w : World) : Calls Try.prog 24 #[F 4613937818241073152, F 13830554455654793216] w fun e w' => e = .returned (.tuple #[F 4609434218613702656, F 13826050856027422720]) ∧ Below w.heap.size w w' := by
  refine (cpx_half _ _ w).mono ?_
  rintro e w' ⟨r, s, rfl, ⟨h1, _⟩, ⟨h2, _⟩, hb⟩
  have e1 : r = 4609434218613702656 := eq_of_canon (h1.trans (by decide +kernel)) (by decide)
  have e2 : s = 13826050856027422720 := eq_of_canon (h2.trans (by decide +kernel)) (by decide)
  exact ⟨by rw [e1, e2], hb⟩

theorem live_square (w : World) : Calls Try.prog 28 #[F 4613937818241073152, F 4616189618054758400] w fun e w' => e = .returned (F 4627730092099895296) ∧ Below w.heap.size w w' := by
  refine (cpx_square _ _ w).mono ?_
  rintro e w' ⟨r, rfl, ⟨h1, _⟩, hb⟩
  have e1 : r = 4627730092099895296 := eq_of_canon (h1.trans (by decide +kernel)) (by decide)
  exact ⟨by rw [e1], hb⟩

/-- A NaN is handed back. -/
def GivesNaN (w : World) (e : Ending) (w' : World) : Prop := ∃ r, e = .returned (F r) ∧ Fl.isNaN r = true ∧ Below w.heap.size w w'
theorem live_nan (w : World) : Calls Try.prog 28 #[F Fl.qnan, F 0] w (GivesNaN w) := by
  refine (cpx_square _ _ w).mono ?_
  rintro e w' ⟨r, rfl, ⟨h1, _⟩, hb⟩
  exact ⟨r, rfl, nan_of_canon (h1.trans (by decide +kernel)), hb⟩

set_option maxHeartbeats 1000000 in
theorem l9_head (w : World) : Calls Try.prog 15 #[] w fun e w' => e = .returned (.bool true) ∧ Below w.heap.size w w' := by
  have o0 : (FloatKind.f64.format.order 4609434218613702656 4609434218613702656 == some .eq) = true := by decide +kernel
  have o1 : (FloatKind.f64.format.order 4611686018427387904 4611686018427387904 == some .eq) = true := by decide +kernel
  have o2 : (FloatKind.f64.format.order 4616189618054758400 4616189618054758400 == some .eq) = true := by decide +kernel
  have o3 : (FloatKind.f64.format.order 4618441417868443648 4618441417868443648 == some .eq) = true := by decide +kernel
  have o4 : (FloatKind.f64.format.order 4621819117588971520 4621819117588971520 == some .eq) = true := by decide +kernel
  have o5 : (FloatKind.f64.format.order 4627730092099895296 4627730092099895296 == some .eq) = true := by decide +kernel
  have o6 : (FloatKind.f64.format.order 13826050856027422720 13826050856027422720 == some .eq) = true := by decide +kernel
  have o7 : (FloatKind.f64.format.order 13830554455654793216 13830554455654793216 == some .eq) = true := by decide +kernel
  have o8 : (FloatKind.f64.format.order 13835058055282163712 13835058055282163712 == some .eq) = true := by decide +kernel
  have o9 : (FloatKind.f64.format.order 13837309855095848960 13837309855095848960 == some .eq) = true := by decide +kernel
  have o10 : (FloatKind.f64.format.order 13840687554816376832 13840687554816376832 == some .eq) = true := by decide +kernel
  go_enter Try.func15, Try.ntmps15
  go_wp2_with fail
  refine (m_nan _).mono ?_
  rintro e w' ⟨rfl, rfl⟩
  go_wp2_with fail
  refine (live_mul _).mono ?_
  rintro e w1 ⟨rfl, hb⟩
  have HB1 := Lib.hid hb
  clear hb
  go_wp2_with fail
  refine (live_turn _).mono ?_
  rintro e w2 ⟨rfl, hb⟩
  have HB2 := Lib.hid hb
  clear hb
  go_wp2_with fail
  refine (live_add _).mono ?_
  rintro e w3 ⟨rfl, hb⟩
  have HB3 := Lib.hid hb
  clear hb
  go_wp2_with fail
  refine (live_sub _).mono ?_
  rintro e w4 ⟨rfl, hb⟩
  have HB4 := Lib.hid hb
  clear hb
  go_wp2_with fail
  refine (live_half _).mono ?_
  rintro e w5 ⟨rfl, hb⟩
  have HB5 := Lib.hid hb
  clear hb
  go_wp2_with fail
  refine (live_square _).mono ?_
  rintro e w6 ⟨rfl, hb⟩
  have HB6 := Lib.hid hb
  clear hb
  go_wp2_with fail
  refine (live_nan _).mono ?_
  rintro e w7 ⟨x, rfl, hx, hb⟩
  have HB7 := Lib.hid hb
  clear hb
  have hx2 := ne_of_nan hx
  go_wp2_with fail
  refine (live_nan _).mono ?_
  rintro e w8 ⟨y, rfl, hy, hb⟩
  have HB8 := Lib.hid hb
  clear hb
  have hxy := hx2 y
  clear hx2
  go_wp2
  go_ret
  refine ⟨rfl, ?_⟩
  exact on_trans (on_trans (on_trans (on_trans (on_trans (on_trans (on_trans HB1.out HB2.out) HB3.out) HB4.out) HB5.out) HB6.out) HB7.out) HB8.out
end Go.Proofs.Ytemneeknemijpaa
