/- The document's sums, differences and products of any floats: contracts, and the plain laws under them. No condition. -/
import Derived.Test.YtemneeknemijpaaFn
import Derived.Test.YtemneeknemijpaaWv
import Derived.Test.YtemneeknemijpaaAlike
import Derived.Test.YtemneeknemijpaaNn
set_option maxRecDepth 100000
namespace Go.Proofs.Ytemneeknemijpaa
open Go.RowKit

namespace Fl
open Ieee
theorem rndS_form (T e : Int) : rndS (dM T) (dE T e + 1074) = rndS T.natAbs (e + 1074) := by
  by_cases h : T = 0
  · subst h; rw [dM_zero]; unfold rndS; simp [rnd]
  · unfold dE
    rw [if_neg h]
    have h1 := rndS_shift (dM T) (tz T.natAbs) (e + 1074)
    rw [dM_pow] at h1
    rw [h1]; congr 1; omega
theorem zero_word (s : Bool) : Is (D.word s 0) 0 := ⟨Fin.word s (by decide), by rw [V_word s (by decide)]; cases s <;> rfl⟩
theorem near_same {neg s : Bool} {m : Nat} {E : Int} {x R : Nat} (h : NearSo neg m E x) (hR : rndS m (E + 1074) = R) (hs : R ≠ 0 → s = neg) : same (D.word s R) x = true := by
  unfold NearSo at h
  rw [hR] at h
  by_cases h0 : R = 0
  · subst h0
    rcases h with h | ⟨_, h⟩
    · rw [h]; exact same_is (zero_word s) (zero_word neg)
    · rw [h]; exact same_is (zero_word s) is_zero
  · rcases h with h | ⟨h, _⟩
    · rw [h, hs h0]; exact same_refl _
    · exact absurd h h0
theorem rnd_ne {x K : Nat} (h : rnd x K ≠ 0) : x ≠ 0 := by rintro rfl; exact h rfl
theorem rndS_nat (x K : Nat) : rndS x (-(K : Int)) = rnd x K := by
  unfold rndS
  rw [show (-(K : Int)).toNat = 0 by omega, show (-(-(K : Int))).toNat = K by omega, Nat.pow_zero, Nat.mul_one]
theorem add_same {a b x : Nat} (ha : Fin a) (hb : Fin b) (h : NearSo (decide (V a + V b < 0)) (dM (V a + V b)) (dE (V a + V b) (-1074)) x) : same (fadd a b) x = true := by
  rw [fadd_fin ha hb]
  refine near_same h ?_ ?_
  · rw [rndS_form]
    exact rndS_nat _ 0
  · intro h0
    rw [if_neg (by have := rnd_ne h0; omega)]
theorem sg_nz {x : Nat} (h : V x ≠ 0) : sg x = decide (V x < 0) := by
  unfold V at *
  cases hsz : sg x
  · rw [hsz] at h; simp at h ⊢
  · rw [hsz] at h; simp at h ⊢; omega
theorem mul_same {a b x : Nat} (ha : Fin a) (hb : Fin b) (h : NearSo (decide (V a * V b < 0)) (dM (V a * V b)) (dE (V a * V b) (-1074 + -1074)) x) : same (fmul a b) x = true := by
  have h3 : mg a * mg b = (V a * V b).natAbs := by rw [mg_natAbs, mg_natAbs, Int.natAbs_mul]
  rw [fmul_fin ha hb, h3]
  refine near_same h ?_ ?_
  · rw [rndS_form]
    exact rndS_nat _ 1074
  · intro h0
    have hne : V a * V b ≠ 0 := by have := rnd_ne h0; omega
    have ha0 : V a ≠ 0 := fun h => hne (by rw [h, Int.zero_mul])
    have hb0 : V b ≠ 0 := fun h => hne (by rw [h, Int.mul_zero])
    rw [sg_nz ha0, sg_nz hb0]
    clear h h0 h3
    generalize V a = x at *
    generalize V b = y at *
    by_cases hx : x < 0
    · by_cases hy : y < 0
      · have := Int.mul_pos_of_neg_of_neg hx hy
        simp [hx, hy]; omega
      · have := Int.mul_neg_of_neg_of_pos hx (show 0 < y by omega)
        simp [hx, hy, this]
    · by_cases hy : y < 0
      · have := Int.mul_neg_of_pos_of_neg (show 0 < x by omega) hy
        simp [hx, hy, this]
      · have := Int.mul_pos (show 0 < x by omega) (show 0 < y by omega)
        simp [hx, hy]; omega
theorem scal_same {a x : Nat} {k : Int} (h : NearSo (decide (V a < 0)) (dM (V a)) (dE (V a) (-1074) + k) x) : same (scal a k) x = true := by
  unfold scal
  refine near_same h ?_ ?_
  · by_cases h0 : V a = 0
    · rw [h0, dM_zero, mg_natAbs, h0]; unfold rndS; simp [rnd]
    · unfold dE
      rw [if_neg h0, mg_natAbs]
      have h1 := rndS_shift (dM (V a)) (tz (V a).natAbs) k
      rw [dM_pow] at h1
      rw [h1]; congr 1; omega
  · intro h0
    have : mg a ≠ 0 := by rintro h1; rw [h1] at h0; unfold rndS at h0; simp [rnd] at h0
    exact sg_nz (by rw [mg_natAbs] at this; omega)
/-- sums and products with NaNs and infinities -/
theorem fadd_nan {a b : Nat} (h : isNaN a = true ∨ isNaN b = true) : fadd a b = qnan := by
  unfold fadd Format.add
  rcases h with h | h
  · rw [sum_nan_left h]; rfl
  · rw [sum_nan_right h]; rfl
theorem fmul_nan {a b : Nat} (h : isNaN a = true ∨ isNaN b = true) : fmul a b = qnan := by
  unfold fmul Format.mul
  rcases h with h | h
  · rw [product_nan_left h]; rfl
  · rw [product_nan_right h]; rfl
theorem fadd_infs {a b : Nat} {s t : Bool} (ha : D.read a = .infinity s) (hb : D.read b = .infinity t) : fadd a b = if s = t then D.word s (2047 * 2 ^ 52) else qnan := by
  unfold fadd Format.add
  rw [ha, hb]
  cases s <;> cases t <;> rfl
theorem fadd_inf {a b : Nat} {s : Bool} (ha : D.read a = .infinity s) (hb : Fin b) : fadd a b = D.word s (2047 * 2 ^ 52) := by
  unfold fadd Format.add
  rw [ha, read_fin hb]; rfl
theorem fmul_infs {a b : Nat} {s t : Bool} (ha : D.read a = .infinity s) (hb : D.read b = .infinity t) : fmul a b = D.word (s ^^ t) (2047 * 2 ^ 52) := by
  unfold fmul Format.mul
  rw [ha, hb]; rfl
theorem mant_zero' {r : Nat} : mant r = 0 ↔ r = 0 := by unfold mant; split <;> omega
theorem fmul_inf {a b : Nat} {s : Bool} (ha : D.read a = .infinity s) (hb : Fin b) : fmul a b = if rg b = 0 then qnan else D.word (s ^^ sg b) (2047 * 2 ^ 52) := by
  unfold fmul Format.mul
  rw [ha, read_fin hb]
  by_cases h : rg b = 0
  · rw [if_pos h, show mant (rg b) = 0 from mant_zero'.2 h]; rfl
  · rw [if_neg h]
    simp only [Datum.product, if_neg (mt mant_zero'.1 h)]
    rfl
theorem order_inf2 {x y : Nat} {s t : Bool} (hx : D.read x = .infinity s) (hy : D.read y = .infinity t) : D.order x y = some (compare t.toNat s.toNat) := by
  unfold Format.order
  rw [hx, hy]; rfl
theorem inf_notNaN {x : Nat} {s : Bool} (h : D.read x = .infinity s) : isNaN x = false := by unfold isNaN; rw [h]; rfl
theorem fin_zero {x : Nat} (h : Fin x) : (D.order x 0 == some .eq) = decide (rg x = 0) := by
  have : D.order x 0 = some (compare (V x) (V 0)) := order_fin h fin0
  rw [this, show V 0 = 0 by decide +kernel]
  by_cases h0 : rg x = 0
  · have : V x = 0 := by unfold V mg; rw [h0]; split <;> rfl
    rw [this, Int.compare_eq_eq.2 rfl, h0]; rfl
  · have : V x ≠ 0 := V_ne h0
    rcases Int.lt_or_gt_of_ne this with h1 | h1
    · rw [Int.compare_eq_lt.2 h1]; simp [h0]
    · rw [Int.compare_eq_gt.2 h1]; simp [h0]
theorem fin_neg {x : Nat} (h : Fin x) (h0 : rg x ≠ 0) : (D.order x 0 == some .lt) = sg x := by
  have : D.order x 0 = some (compare (V x) (V 0)) := order_fin h fin0
  rw [this, show V 0 = 0 by decide +kernel, ← V_neg h0]
  have hne : V x ≠ 0 := V_ne h0
  rcases Int.lt_or_gt_of_ne hne with h1 | h1
  · rw [Int.compare_eq_lt.2 h1]; simp [h1]
  · rw [Int.compare_eq_gt.2 h1]; simp; omega
end Fl

/-- A float alike to y. -/
def GivesA (y : Nat) (w : World) (e : Ending) (w' : World) : Prop := ∃ r, e = .returned (F r) ∧ Fl.same y r = true ∧ Below w.heap.size w w'
theorem NearGives.isD {w w0 : World} {v : Value} {T e : Int} {K : Nat} (h : IsD w v T e) (hb : Bd T K) (hK : K ≤ 24 * 800) (he1 : -19000 ≤ e) (he2 : e ≤ 100000) (hw : Below w0.heap.size w0 w) :
    Calls Try.prog 37 #[v] w fun en w' => ∃ x, en = .returned (F x) ∧ Fl.NearSo (decide (T < 0)) (dM T) (dE T e) x ∧ Below w0.heap.size w0 w' := by
  obtain ⟨s, rfl, hs⟩ := h
  have hz := hb.sz hK
  have ht := hz.tz
  have h1 : -19000 ≤ dE T e := by unfold dE; split <;> omega
  have h2 : dE T e ≤ 200000 := by unfold dE; split <;> omega
  exact (f_near _ hs hz.dM h1 h2).mono fun en w' ⟨x, h3, h4, h5⟩ => ⟨x, h3, h4, hw.trans (h5.mono hw.size)⟩

theorem r_inf_nan (x : Nat) (h : Fl.isNaN x = true) (w : World) : Calls Try.prog 71 #[F x] w fun e w' => e = .returned (.bool false) ∧ w = w' := by
  have o1 : FloatKind.f64.format.order x 9218868437227405311 = none := Fl.ord_nan_left h _
  have o2 : FloatKind.f64.format.order x 18442240474082181119 = none := Fl.ord_nan_left h _
  clear h
  go_enter Try.func71, Try.ntmps71
  go_wp2
  go_ret
  exact ⟨rfl, rfl⟩
theorem fin_maxs : Fl.Fin 9218868437227405311 ∧ Fl.Fin 18442240474082181119 := ⟨⟨by decide, by decide +kernel⟩, ⟨by decide, by decide +kernel⟩⟩
theorem r_inf_fin (x : Nat) (h : Fl.Fin x) (w : World) : Calls Try.prog 71 #[F x] w fun e w' => e = .returned (.bool false) ∧ w = w' := by
  have o1 : (FloatKind.f64.format.order x 9218868437227405311 == some .gt) = false := by rw [Fl.gt_fin h fin_maxs.1]; simp; exact (Fl.V_le_max h).1
  have o2 : (FloatKind.f64.format.order x 18442240474082181119 == some .lt) = false := by rw [Fl.lt_fin h fin_maxs.2]; simp; exact (Fl.V_le_max h).2
  clear h
  go_enter Try.func71, Try.ntmps71
  go_wp2
  go_ret
  exact ⟨rfl, rfl⟩
theorem r_inf_inf (x : Nat) (s : Bool) (h : Fl.D.read x = .infinity s) (w : World) : Calls Try.prog 71 #[F x] w fun e w' => e = .returned (.bool true) ∧ w = w' := by
  cases s
  · have o1 : FloatKind.f64.format.order x 9218868437227405311 = some .gt := Fl.order_inf false h fin_maxs.1
    clear h
    go_enter Try.func71, Try.ntmps71
    go_wp2
    go_ret
    exact ⟨rfl, rfl⟩
  · have o1 : FloatKind.f64.format.order x 9218868437227405311 = some .lt := Fl.order_inf true h fin_maxs.1
    have o2 : FloatKind.f64.format.order x 18442240474082181119 = some .lt := Fl.order_inf true h fin_maxs.2
    clear h
    go_enter Try.func71, Try.ntmps71
    go_wp2
    go_ret
    exact ⟨rfl, rfl⟩
end Go.Proofs.Ytemneeknemijpaa

namespace Go.Proofs.Ytemneeknemijpaa
open Go.RowKit

set_option maxHeartbeats 2000000 in
theorem r_add_1 (a b : Nat) (w : World) (h : Fl.isNaN a = true ∨ Fl.isNaN b = true) : Calls Try.prog 40 #[F a, F b] w (GivesA (Fl.fadd a b) w) := by
  have HR := Lib.hid (Fl.fadd_nan h)
  by_cases ha : Fl.isNaN a = true
  · have oa : FloatKind.f64.format.order a a = none := Fl.ord_nan_left ha _
    clear h ha
    go_enter Try.func40, Try.ntmps40
    go_wp2_with fail
    refine (m_nan _).mono ?_
    rintro e w' ⟨rfl, rfl⟩
    go_wp2
    go_ret
    exact ⟨_, rfl, by rw [HR.out]; exact Fl.same_refl _, Below.refl _ _⟩
  · have oa : FloatKind.f64.format.order a a = some .eq := Fl.ord_self (by simpa using ha)
    have ob : FloatKind.f64.format.order b b = none := Fl.ord_nan_left (by rcases h with h | h; exact absurd h ha; exact h) _
    clear h ha
    go_enter Try.func40, Try.ntmps40
    go_wp2_with fail
    refine (m_nan _).mono ?_
    rintro e w' ⟨rfl, rfl⟩
    go_wp2
    go_ret
    exact ⟨_, rfl, by rw [HR.out]; exact Fl.same_refl _, Below.refl _ _⟩

set_option maxHeartbeats 2000000 in
theorem r_add_2 (a b : Nat) (w : World) (s t : Bool) (ha : Fl.D.read a = .infinity s ∧ a = Fl.D.word s (2047 * 2 ^ 52)) (hb : Fl.D.read b = .infinity t ∧ b = Fl.D.word t (2047 * 2 ^ 52)) : Calls Try.prog 40 #[F a, F b] w (GivesA (Fl.fadd a b) w) := by
  have HR := Lib.hid (Fl.fadd_infs ha.1 hb.1)
  have oab : FloatKind.f64.format.order a b = some (compare t.toNat s.toNat) := Fl.order_inf2 ha.1 hb.1
  have HIa := Lib.hid ha.1
  have HWa := Lib.hid ha.2
  clear ha
  have HIb := Lib.hid hb.1
  have HWb := Lib.hid hb.2
  clear hb
  have oa : FloatKind.f64.format.order a a = some .eq := Fl.ord_self (Fl.inf_notNaN HIa.out)
  have ob : FloatKind.f64.format.order b b = some .eq := Fl.ord_self (Fl.inf_notNaN HIb.out)
  by_cases hst : s = t
  · subst hst
    rw [if_pos rfl] at HR
    have oab' : FloatKind.f64.format.order a b = some .eq := by rw [oab]; cases s <;> rfl
    clear oab
    go_enter Try.func40, Try.ntmps40
    go_wp2_with fail
    refine (r_inf_inf a _ HIa.out _).mono ?_
    rintro e w' ⟨rfl, rfl⟩
    go_wp2_with fail
    refine (r_inf_inf b _ HIb.out _).mono ?_
    rintro e w' ⟨rfl, rfl⟩
    go_wp2_with fail
    refine (r_inf_inf a _ HIa.out _).mono ?_
    rintro e w' ⟨rfl, rfl⟩
    go_wp2
    go_ret
    exact ⟨_, rfl, by rw [HR.out, ← HWa.out]; exact Fl.same_refl _, Below.refl _ _⟩
  · rw [if_neg hst] at HR
    have oab' : (FloatKind.f64.format.order a b == some .eq) = false := by rw [oab]; cases s <;> cases t <;> first | rfl | exact absurd rfl hst
    have oab'' : (FloatKind.f64.format.order a b != some .eq) = true := by rw [oab]; cases s <;> cases t <;> first | rfl | exact absurd rfl hst
    clear oab hst
    go_enter Try.func40, Try.ntmps40
    go_wp2_with fail
    refine (r_inf_inf a _ HIa.out _).mono ?_
    rintro e w' ⟨rfl, rfl⟩
    go_wp2_with fail
    refine (r_inf_inf b _ HIb.out _).mono ?_
    rintro e w' ⟨rfl, rfl⟩
    go_wp2_with fail
    refine (m_nan _).mono ?_
    rintro e w' ⟨rfl, rfl⟩
    go_wp2
    go_ret
    exact ⟨_, rfl, by rw [HR.out]; exact Fl.same_refl _, Below.refl _ _⟩

set_option maxHeartbeats 2000000 in
theorem r_add_3 (a b : Nat) (w : World) (s : Bool) (ha : Fl.D.read a = .infinity s ∧ a = Fl.D.word s (2047 * 2 ^ 52)) (hb : Fl.Fin b) : Calls Try.prog 40 #[F a, F b] w (GivesA (Fl.fadd a b) w) := by
  have HR := Lib.hid (Fl.fadd_inf ha.1 hb)
  have HIa := Lib.hid ha.1
  have HWa := Lib.hid ha.2
  clear ha
  have HFb := Lib.hid hb
  clear hb
  have oa : FloatKind.f64.format.order a a = some .eq := Fl.ord_self (Fl.inf_notNaN HIa.out)
  have ob : FloatKind.f64.format.order b b = some .eq := Fl.ord_self HFb.out.notNaN
  go_enter Try.func40, Try.ntmps40
  go_wp2_with fail
  refine (r_inf_inf a _ HIa.out _).mono ?_
  rintro e w' ⟨rfl, rfl⟩
  go_wp2_with fail
  refine (r_inf_fin b HFb.out _).mono ?_
  rintro e w' ⟨rfl, rfl⟩
  go_wp2_with fail
  refine (r_inf_inf a _ HIa.out _).mono ?_
  rintro e w' ⟨rfl, rfl⟩
  go_wp2
  go_ret
  exact ⟨_, rfl, by rw [HR.out, ← HWa.out]; exact Fl.same_refl _, Below.refl _ _⟩

set_option maxHeartbeats 2000000 in
theorem r_add_4 (a b : Nat) (w : World) (s : Bool) (ha : Fl.Fin a) (hb : Fl.D.read b = .infinity s ∧ b = Fl.D.word s (2047 * 2 ^ 52)) : Calls Try.prog 40 #[F a, F b] w (GivesA (Fl.fadd a b) w) := by
  have HR := Lib.hid (Fl.fadd_inf hb.1 ha)
  rw [Fl.fadd_comm] at HR
  have HFa := Lib.hid ha
  clear ha
  have HIb := Lib.hid hb.1
  have HWb := Lib.hid hb.2
  clear hb
  have oa : FloatKind.f64.format.order a a = some .eq := Fl.ord_self HFa.out.notNaN
  have ob : FloatKind.f64.format.order b b = some .eq := Fl.ord_self (Fl.inf_notNaN HIb.out)
  go_enter Try.func40, Try.ntmps40
  go_wp2_with fail
  refine (r_inf_fin a HFa.out _).mono ?_
  rintro e w' ⟨rfl, rfl⟩
  go_wp2_with fail
  refine (r_inf_fin a HFa.out _).mono ?_
  rintro e w' ⟨rfl, rfl⟩
  go_wp2_with fail
  refine (r_inf_inf b _ HIb.out _).mono ?_
  rintro e w' ⟨rfl, rfl⟩
  go_wp2
  go_ret
  exact ⟨_, rfl, by rw [HR.out, ← HWb.out]; exact Fl.same_refl _, Below.refl _ _⟩

set_option maxHeartbeats 4000000 in
theorem r_add_5 (a b : Nat) (w : World) (ha : Fl.Fin a) (hb : Fl.Fin b) : Calls Try.prog 40 #[F a, F b] w (GivesA (Fl.fadd a b) w) := by
  have HFa := Lib.hid ha
  clear ha
  have HFb := Lib.hid hb
  clear hb
  have oa : FloatKind.f64.format.order a a = some .eq := Fl.ord_self HFa.out.notNaN
  have ob : FloatKind.f64.format.order b b = some .eq := Fl.ord_self HFb.out.notNaN
  have HVa := Lib.hid (Fl.VV_fin HFa.out.2)
  have HVb := Lib.hid (Fl.VV_fin HFb.out.2)
  go_enter Try.func40, Try.ntmps40
  go_wp2_with fail
  refine (r_inf_fin a HFa.out _).mono ?_
  rintro e w' ⟨rfl, rfl⟩
  go_wp2_with fail
  refine (r_inf_fin a HFa.out _).mono ?_
  rintro e w' ⟨rfl, rfl⟩
  go_wp2_with fail
  refine (r_inf_fin b HFb.out _).mono ?_
  rintro e w' ⟨rfl, rfl⟩
  have HB : Hid (Below w.heap.size w w) := Lib.hid (Below.refl _ _)
  go_wp2_with fail
  refine (f_of a HFa.out.1 _).mono ?_
  rintro e w1 ⟨v1, rfl, hv1, hb1⟩
  obtain ⟨n_a, a_a, l_a, k_a, E_a, rfl⟩ := hv1.shape
  have HB := Lib.hid (below_next HB.out hb1)
  have Da := Lib.hid hv1
  clear hv1 hb1
  obtain ⟨oka, hi1⟩ : ∃ i, Fl.isFin a = i := ⟨_, rfl⟩
  rw [hi1]
  have Ia := Lib.hid hi1
  clear hi1
  go_wp2_with fail
  obtain ⟨wb2, hw2⟩ : ∃ w', w1.alloc (Obj.cells #[Value.bool n_a, Value.slice a_a l_a k_a, Value.int IntKind.i64 E_a] 35) = w' := ⟨_, rfl⟩
  have hb2 : Below w1.heap.size w1 wb2 := by rw [← hw2]; exact below_alloc _ _
  obtain ⟨b5, hk2⟩ : ∃ b, w1.heap.size = b := ⟨_, rfl⟩
  have V5 : Hid (Var wb2 b5 n_a a_a l_a k_a E_a) := Lib.hid (by have := var_alloc w1 n_a a_a l_a k_a E_a; rw [show _ = wb2 from hw2, hk2] at this; exact this)
  have Da := Lib.hid (Da.out.below hb2)
  have HB := Lib.hid (below_next HB.out hb2)
  rw [hw2, hk2]
  clear hw2 hb2 hk2
  refine (f_of b HFb.out.1 _).mono ?_
  rintro e w3 ⟨v3, rfl, hv3, hb3⟩
  obtain ⟨n_b, a_b, l_b, k_b, E_b, rfl⟩ := hv3.shape
  have Da := Lib.hid (Da.out.below hb3)
  have V5 := Lib.hid (V5.out.below hb3)
  have HB := Lib.hid (below_next HB.out hb3)
  have Db := Lib.hid hv3
  clear hv3 hb3
  obtain ⟨okb, hi3⟩ : ∃ i, Fl.isFin b = i := ⟨_, rfl⟩
  rw [hi3]
  have Ib := Lib.hid hi3
  clear hi3
  have c50 := cell_at (below_alloc w3 (Obj.cells #[Value.bool n_b, Value.slice a_b l_b k_b, Value.int IntKind.i64 E_b] 35)) V5.out.lt V5.out.c0
  have c51 := cell_at (below_alloc w3 (Obj.cells #[Value.bool n_b, Value.slice a_b l_b k_b, Value.int IntKind.i64 E_b] 35)) V5.out.lt V5.out.c1
  have c52 := cell_at (below_alloc w3 (Obj.cells #[Value.bool n_b, Value.slice a_b l_b k_b, Value.int IntKind.i64 E_b] 35)) V5.out.lt V5.out.c2
  go_wp2_with fail
  clear c50 c51 c52
  obtain ⟨wb4, hw4⟩ : ∃ w', w3.alloc (Obj.cells #[Value.bool n_b, Value.slice a_b l_b k_b, Value.int IntKind.i64 E_b] 35) = w' := ⟨_, rfl⟩
  have hb4 : Below w3.heap.size w3 wb4 := by rw [← hw4]; exact below_alloc _ _
  obtain ⟨b7, hk4⟩ : ∃ b, w3.heap.size = b := ⟨_, rfl⟩
  have V7 : Hid (Var wb4 b7 n_b a_b l_b k_b E_b) := Lib.hid (by have := var_alloc w3 n_b a_b l_b k_b E_b; rw [show _ = wb4 from hw4, hk4] at this; exact this)
  have Da := Lib.hid (Da.out.below hb4)
  have V5 := Lib.hid (V5.out.below hb4)
  have Db := Lib.hid (Db.out.below hb4)
  have HB := Lib.hid (below_next HB.out hb4)
  rw [hw4, hk4]
  clear hw4 hb4 hk4
  refine (d_add Da.out Db.out ((bd_VV a).sz2 (bd_VV b) (by decide)) (by decide) (by decide)).mono ?_
  rintro e w5 ⟨v5, rfl, hv5, hb5⟩
  obtain ⟨n_t, a_t, l_t, k_t, E_t, rfl⟩ := hv5.shape
  have Da := Lib.hid (Da.out.below hb5)
  have V5 := Lib.hid (V5.out.below hb5)
  have Db := Lib.hid (Db.out.below hb5)
  have V7 := Lib.hid (V7.out.below hb5)
  have HB := Lib.hid (below_next HB.out hb5)
  have Dt := Lib.hid hv5
  clear hv5 hb5
  go_wp2_with fail
  refine (NearGives.isD Dt.out ((bd_VV a).add (bd_VV b) (L := 2099) rfl) (by decide) (by decide) (by decide) HB.out).mono ?_
  rintro e wn ⟨x, rfl, hx, hb⟩
  rw [HVa.out, HVb.out] at hx
  have HX := Lib.hid hx
  have HBn := Lib.hid hb
  clear hx hb
  go_wp2
  go_ret
  exact ⟨_, rfl, Fl.add_same HFa.out HFb.out HX.out, HBn.out⟩

theorem r_add (a b : Nat) (w : World) (ha : a < 2 ^ 64) (hb : b < 2 ^ 64) : Calls Try.prog 40 #[F a, F b] w (GivesA (Fl.fadd a b) w) := by
  rcases Fl.kinds ha with h | ⟨h, h2⟩ | h
  · exact r_add_1 a b w (.inl h)
  · rcases Fl.kinds hb with k | ⟨k, k2⟩ | k
    · exact r_add_1 a b w (.inr k)
    · exact r_add_2 a b w _ _ ⟨h, h2⟩ ⟨k, k2⟩
    · exact r_add_3 a b w _ ⟨h, h2⟩ k
  · rcases Fl.kinds hb with k | ⟨k, k2⟩ | k
    · exact r_add_1 a b w (.inr k)
    · exact r_add_4 a b w _ h ⟨k, k2⟩
    · exact r_add_5 a b w h k
set_option maxHeartbeats 1000000 in
theorem r_sub (a b : Nat) (w : World) (ha : a < 2 ^ 64) (hb : b < 2 ^ 64) : Calls Try.prog 42 #[F a, F b] w (GivesA (Fl.fsub a b) w) := by
  have HA := Lib.hid ha
  have HBB := Lib.hid hb
  clear ha hb
  go_enter Try.func42, Try.ntmps42
  go_wp2_with fail
  refine (r_add a (Fl.fneg b) w HA.out (Fl.fneg_lt HBB.out)).mono ?_
  rintro e w1 ⟨r, rfl, hs, hb⟩
  rw [← Fl.fsub_eq a HBB.out] at hs
  have HS := Lib.hid hs
  have HB1 := Lib.hid hb
  clear hs hb
  go_wp2
  go_ret
  exact ⟨_, rfl, HS.out, HB1.out⟩

set_option maxHeartbeats 2000000 in
theorem r_mul_1 (a b : Nat) (w : World) (h : Fl.isNaN a = true ∨ Fl.isNaN b = true) : Calls Try.prog 44 #[F a, F b] w (GivesA (Fl.fmul a b) w) := by
  have HR := Lib.hid (Fl.fmul_nan h)
  by_cases ha : Fl.isNaN a = true
  · have oa : FloatKind.f64.format.order a a = none := Fl.ord_nan_left ha _
    clear h ha
    go_enter Try.func44, Try.ntmps44
    go_wp2_with fail
    refine (m_nan _).mono ?_
    rintro e w' ⟨rfl, rfl⟩
    go_wp2
    go_ret
    exact ⟨_, rfl, by rw [HR.out]; exact Fl.same_refl _, Below.refl _ _⟩
  · have oa : FloatKind.f64.format.order a a = some .eq := Fl.ord_self (by simpa using ha)
    have ob : FloatKind.f64.format.order b b = none := Fl.ord_nan_left (by rcases h with h | h; exact absurd h ha; exact h) _
    clear h ha
    go_enter Try.func44, Try.ntmps44
    go_wp2_with fail
    refine (m_nan _).mono ?_
    rintro e w' ⟨rfl, rfl⟩
    go_wp2
    go_ret
    exact ⟨_, rfl, by rw [HR.out]; exact Fl.same_refl _, Below.refl _ _⟩

set_option maxHeartbeats 2000000 in
theorem r_mul_2 (a b : Nat) (w : World) (s t : Bool) (ha : Fl.D.read a = .infinity s ∧ a = Fl.D.word s (2047 * 2 ^ 52)) (hb : Fl.D.read b = .infinity t ∧ b = Fl.D.word t (2047 * 2 ^ 52)) : Calls Try.prog 44 #[F a, F b] w (GivesA (Fl.fmul a b) w) := by
  have HR := Lib.hid (Fl.fmul_infs ha.1 hb.1)
  have za : FloatKind.f64.format.order a 0 = some (if s then .lt else .gt) := Fl.order_inf s ha.1 Fl.fin0
  have zb : FloatKind.f64.format.order b 0 = some (if t then .lt else .gt) := Fl.order_inf t hb.1 Fl.fin0
  have HIa := Lib.hid ha.1
  have HWa := Lib.hid ha.2
  clear ha
  have HIb := Lib.hid hb.1
  have HWb := Lib.hid hb.2
  clear hb
  have oa : FloatKind.f64.format.order a a = some .eq := Fl.ord_self (Fl.inf_notNaN HIa.out)
  have ob : FloatKind.f64.format.order b b = some .eq := Fl.ord_self (Fl.inf_notNaN HIb.out)
  have HI0 : Hid (Fl.D.word false (2047 * 2 ^ 52) = 9218868437227405312) := Lib.hid (by decide)
  have HI1 : Hid (Fl.D.word true (2047 * 2 ^ 52) = 18442240474082181120) := Lib.hid (by decide)
  cases s
  · cases t
    · go_enter Try.func44, Try.ntmps44
      go_wp2_with fail
      refine (r_inf_inf a _ HIa.out _).mono ?_
      rintro e w' ⟨rfl, rfl⟩
      go_wp2_with fail
      refine (m_inf _).mono ?_
      rintro e w' ⟨rfl, rfl⟩
      go_wp2
      go_ret
      exact ⟨_, rfl, by rw [HR.out, ← HI0.out]; exact Fl.same_refl _, Below.refl _ _⟩
    · go_enter Try.func44, Try.ntmps44
      go_wp2_with fail
      refine (r_inf_inf a _ HIa.out _).mono ?_
      rintro e w' ⟨rfl, rfl⟩
      go_wp2_with fail
      refine (m_minf _).mono ?_
      rintro e w' ⟨rfl, rfl⟩
      go_wp2
      go_ret
      exact ⟨_, rfl, by rw [HR.out, ← HI1.out]; exact Fl.same_refl _, Below.refl _ _⟩
  · cases t
    · go_enter Try.func44, Try.ntmps44
      go_wp2_with fail
      refine (r_inf_inf a _ HIa.out _).mono ?_
      rintro e w' ⟨rfl, rfl⟩
      go_wp2_with fail
      refine (m_minf _).mono ?_
      rintro e w' ⟨rfl, rfl⟩
      go_wp2
      go_ret
      exact ⟨_, rfl, by rw [HR.out, ← HI1.out]; exact Fl.same_refl _, Below.refl _ _⟩
    · go_enter Try.func44, Try.ntmps44
      go_wp2_with fail
      refine (r_inf_inf a _ HIa.out _).mono ?_
      rintro e w' ⟨rfl, rfl⟩
      go_wp2_with fail
      refine (m_inf _).mono ?_
      rintro e w' ⟨rfl, rfl⟩
      go_wp2
      go_ret
      exact ⟨_, rfl, by rw [HR.out, ← HI0.out]; exact Fl.same_refl _, Below.refl _ _⟩

set_option maxHeartbeats 2000000 in
theorem r_mul_3 (a b : Nat) (w : World) (s : Bool) (ha : Fl.D.read a = .infinity s ∧ a = Fl.D.word s (2047 * 2 ^ 52)) (hb : Fl.Fin b) (h0 : Fl.rg b ≠ 0) : Calls Try.prog 44 #[F a, F b] w (GivesA (Fl.fmul a b) w) := by
  have HR := Lib.hid (Fl.fmul_inf ha.1 hb)
  rw [if_neg h0] at HR
  obtain ⟨t, ht⟩ : ∃ t, Fl.sg b = t := ⟨_, rfl⟩
  rw [ht] at HR
  have za : FloatKind.f64.format.order a 0 = some (if s then .lt else .gt) := Fl.order_inf s ha.1 Fl.fin0
  have zb0 : (FloatKind.f64.format.order b 0 == some .eq) = false := (Fl.fin_zero hb).trans (decide_eq_false h0)
  have zb : (FloatKind.f64.format.order b 0 == some .lt) = t := (Fl.fin_neg hb h0).trans ht
  clear ht h0
  have HIa := Lib.hid ha.1
  have HWa := Lib.hid ha.2
  clear ha
  have HFb := Lib.hid hb
  clear hb
  have oa : FloatKind.f64.format.order a a = some .eq := Fl.ord_self (Fl.inf_notNaN HIa.out)
  have ob : FloatKind.f64.format.order b b = some .eq := Fl.ord_self HFb.out.notNaN
  have HI0 : Hid (Fl.D.word false (2047 * 2 ^ 52) = 9218868437227405312) := Lib.hid (by decide)
  have HI1 : Hid (Fl.D.word true (2047 * 2 ^ 52) = 18442240474082181120) := Lib.hid (by decide)
  cases s
  · cases t
    · go_enter Try.func44, Try.ntmps44
      go_wp2_with fail
      refine (r_inf_inf a _ HIa.out _).mono ?_
      rintro e w' ⟨rfl, rfl⟩
      go_wp2_with fail
      refine (m_inf _).mono ?_
      rintro e w' ⟨rfl, rfl⟩
      go_wp2
      go_ret
      exact ⟨_, rfl, by rw [HR.out, ← HI0.out]; exact Fl.same_refl _, Below.refl _ _⟩
    · go_enter Try.func44, Try.ntmps44
      go_wp2_with fail
      refine (r_inf_inf a _ HIa.out _).mono ?_
      rintro e w' ⟨rfl, rfl⟩
      go_wp2_with fail
      refine (m_minf _).mono ?_
      rintro e w' ⟨rfl, rfl⟩
      go_wp2
      go_ret
      exact ⟨_, rfl, by rw [HR.out, ← HI1.out]; exact Fl.same_refl _, Below.refl _ _⟩
  · cases t
    · go_enter Try.func44, Try.ntmps44
      go_wp2_with fail
      refine (r_inf_inf a _ HIa.out _).mono ?_
      rintro e w' ⟨rfl, rfl⟩
      go_wp2_with fail
      refine (m_minf _).mono ?_
      rintro e w' ⟨rfl, rfl⟩
      go_wp2
      go_ret
      exact ⟨_, rfl, by rw [HR.out, ← HI1.out]; exact Fl.same_refl _, Below.refl _ _⟩
    · go_enter Try.func44, Try.ntmps44
      go_wp2_with fail
      refine (r_inf_inf a _ HIa.out _).mono ?_
      rintro e w' ⟨rfl, rfl⟩
      go_wp2_with fail
      refine (m_inf _).mono ?_
      rintro e w' ⟨rfl, rfl⟩
      go_wp2
      go_ret
      exact ⟨_, rfl, by rw [HR.out, ← HI0.out]; exact Fl.same_refl _, Below.refl _ _⟩

set_option maxHeartbeats 2000000 in
theorem r_mul_4 (a b : Nat) (w : World) (t : Bool) (ha : Fl.Fin a) (hb : Fl.D.read b = .infinity t ∧ b = Fl.D.word t (2047 * 2 ^ 52)) (h0 : Fl.rg a ≠ 0) : Calls Try.prog 44 #[F a, F b] w (GivesA (Fl.fmul a b) w) := by
  have HR := Lib.hid (Fl.fmul_inf hb.1 ha)
  rw [if_neg h0, Fl.fmul_comm] at HR
  obtain ⟨s, hs⟩ : ∃ s, Fl.sg a = s := ⟨_, rfl⟩
  rw [hs] at HR
  have zb : FloatKind.f64.format.order b 0 = some (if t then .lt else .gt) := Fl.order_inf t hb.1 Fl.fin0
  have za0 : (FloatKind.f64.format.order a 0 == some .eq) = false := (Fl.fin_zero ha).trans (decide_eq_false h0)
  have za : (FloatKind.f64.format.order a 0 == some .lt) = s := (Fl.fin_neg ha h0).trans hs
  clear hs h0
  have HFa := Lib.hid ha
  clear ha
  have HIb := Lib.hid hb.1
  have HWb := Lib.hid hb.2
  clear hb
  have oa : FloatKind.f64.format.order a a = some .eq := Fl.ord_self HFa.out.notNaN
  have ob : FloatKind.f64.format.order b b = some .eq := Fl.ord_self (Fl.inf_notNaN HIb.out)
  have HI0 : Hid (Fl.D.word false (2047 * 2 ^ 52) = 9218868437227405312) := Lib.hid (by decide)
  have HI1 : Hid (Fl.D.word true (2047 * 2 ^ 52) = 18442240474082181120) := Lib.hid (by decide)
  cases s
  · cases t
    · go_enter Try.func44, Try.ntmps44
      go_wp2_with fail
      refine (r_inf_fin a HFa.out _).mono ?_
      rintro e w' ⟨rfl, rfl⟩
      go_wp2_with fail
      refine (r_inf_inf b _ HIb.out _).mono ?_
      rintro e w' ⟨rfl, rfl⟩
      go_wp2_with fail
      refine (m_inf _).mono ?_
      rintro e w' ⟨rfl, rfl⟩
      go_wp2
      go_ret
      exact ⟨_, rfl, by rw [HR.out, ← HI0.out]; exact Fl.same_refl _, Below.refl _ _⟩
    · go_enter Try.func44, Try.ntmps44
      go_wp2_with fail
      refine (r_inf_fin a HFa.out _).mono ?_
      rintro e w' ⟨rfl, rfl⟩
      go_wp2_with fail
      refine (r_inf_inf b _ HIb.out _).mono ?_
      rintro e w' ⟨rfl, rfl⟩
      go_wp2_with fail
      refine (m_minf _).mono ?_
      rintro e w' ⟨rfl, rfl⟩
      go_wp2
      go_ret
      exact ⟨_, rfl, by rw [HR.out, ← HI1.out]; exact Fl.same_refl _, Below.refl _ _⟩
  · cases t
    · go_enter Try.func44, Try.ntmps44
      go_wp2_with fail
      refine (r_inf_fin a HFa.out _).mono ?_
      rintro e w' ⟨rfl, rfl⟩
      go_wp2_with fail
      refine (r_inf_inf b _ HIb.out _).mono ?_
      rintro e w' ⟨rfl, rfl⟩
      go_wp2_with fail
      refine (m_minf _).mono ?_
      rintro e w' ⟨rfl, rfl⟩
      go_wp2
      go_ret
      exact ⟨_, rfl, by rw [HR.out, ← HI1.out]; exact Fl.same_refl _, Below.refl _ _⟩
    · go_enter Try.func44, Try.ntmps44
      go_wp2_with fail
      refine (r_inf_fin a HFa.out _).mono ?_
      rintro e w' ⟨rfl, rfl⟩
      go_wp2_with fail
      refine (r_inf_inf b _ HIb.out _).mono ?_
      rintro e w' ⟨rfl, rfl⟩
      go_wp2_with fail
      refine (m_inf _).mono ?_
      rintro e w' ⟨rfl, rfl⟩
      go_wp2
      go_ret
      exact ⟨_, rfl, by rw [HR.out, ← HI0.out]; exact Fl.same_refl _, Below.refl _ _⟩

set_option maxHeartbeats 2000000 in
theorem r_mul_5 (a b : Nat) (w : World) (s : Bool) (ha : Fl.D.read a = .infinity s ∧ a = Fl.D.word s (2047 * 2 ^ 52)) (hb : Fl.Fin b) (h0 : Fl.rg b = 0) : Calls Try.prog 44 #[F a, F b] w (GivesA (Fl.fmul a b) w) := by
  have HR := Lib.hid (Fl.fmul_inf ha.1 hb)
  rw [if_pos h0] at HR
  have za : (FloatKind.f64.format.order a 0 == some .eq) = false := by have : FloatKind.f64.format.order a 0 = some (if s then .lt else .gt) := Fl.order_inf s ha.1 Fl.fin0; rw [this]; cases s <;> rfl
  have zb0 : (FloatKind.f64.format.order b 0 == some .eq) = true := (Fl.fin_zero hb).trans (decide_eq_true h0)
  clear h0
  have HIa := Lib.hid ha.1
  have HWa := Lib.hid ha.2
  clear ha
  have HFb := Lib.hid hb
  clear hb
  have oa : FloatKind.f64.format.order a a = some .eq := Fl.ord_self (Fl.inf_notNaN HIa.out)
  have ob : FloatKind.f64.format.order b b = some .eq := Fl.ord_self HFb.out.notNaN
  go_enter Try.func44, Try.ntmps44
  go_wp2_with fail
  refine (r_inf_inf a _ HIa.out _).mono ?_
  rintro e w' ⟨rfl, rfl⟩
  go_wp2_with fail
  refine (m_nan _).mono ?_
  rintro e w' ⟨rfl, rfl⟩
  go_wp2
  go_ret
  exact ⟨_, rfl, by rw [HR.out]; exact Fl.same_refl _, Below.refl _ _⟩

set_option maxHeartbeats 2000000 in
theorem r_mul_6 (a b : Nat) (w : World) (t : Bool) (ha : Fl.Fin a) (hb : Fl.D.read b = .infinity t ∧ b = Fl.D.word t (2047 * 2 ^ 52)) (h0 : Fl.rg a = 0) : Calls Try.prog 44 #[F a, F b] w (GivesA (Fl.fmul a b) w) := by
  have HR := Lib.hid (Fl.fmul_inf hb.1 ha)
  rw [if_pos h0, Fl.fmul_comm] at HR
  have za0 : (FloatKind.f64.format.order a 0 == some .eq) = true := (Fl.fin_zero ha).trans (decide_eq_true h0)
  clear h0
  have HFa := Lib.hid ha
  clear ha
  have HIb := Lib.hid hb.1
  have HWb := Lib.hid hb.2
  clear hb
  have oa : FloatKind.f64.format.order a a = some .eq := Fl.ord_self HFa.out.notNaN
  have ob : FloatKind.f64.format.order b b = some .eq := Fl.ord_self (Fl.inf_notNaN HIb.out)
  go_enter Try.func44, Try.ntmps44
  go_wp2_with fail
  refine (r_inf_fin a HFa.out _).mono ?_
  rintro e w' ⟨rfl, rfl⟩
  go_wp2_with fail
  refine (r_inf_inf b _ HIb.out _).mono ?_
  rintro e w' ⟨rfl, rfl⟩
  go_wp2_with fail
  refine (m_nan _).mono ?_
  rintro e w' ⟨rfl, rfl⟩
  go_wp2
  go_ret
  exact ⟨_, rfl, by rw [HR.out]; exact Fl.same_refl _, Below.refl _ _⟩

set_option maxHeartbeats 4000000 in
theorem r_mul_7 (a b : Nat) (w : World) (ha : Fl.Fin a) (hb : Fl.Fin b) : Calls Try.prog 44 #[F a, F b] w (GivesA (Fl.fmul a b) w) := by
  have HFa := Lib.hid ha
  clear ha
  have HFb := Lib.hid hb
  clear hb
  have oa : FloatKind.f64.format.order a a = some .eq := Fl.ord_self HFa.out.notNaN
  have ob : FloatKind.f64.format.order b b = some .eq := Fl.ord_self HFb.out.notNaN
  have HVa := Lib.hid (Fl.VV_fin HFa.out.2)
  have HVb := Lib.hid (Fl.VV_fin HFb.out.2)
  go_enter Try.func44, Try.ntmps44
  go_wp2_with fail
  refine (r_inf_fin a HFa.out _).mono ?_
  rintro e w' ⟨rfl, rfl⟩
  go_wp2_with fail
  refine (r_inf_fin b HFb.out _).mono ?_
  rintro e w' ⟨rfl, rfl⟩
  have HB : Hid (Below w.heap.size w w) := Lib.hid (Below.refl _ _)
  go_wp2_with fail
  refine (f_of a HFa.out.1 _).mono ?_
  rintro e w1 ⟨v1, rfl, hv1, hb1⟩
  obtain ⟨n_a, a_a, l_a, k_a, E_a, rfl⟩ := hv1.shape
  have HB := Lib.hid (below_next HB.out hb1)
  have Da := Lib.hid hv1
  clear hv1 hb1
  obtain ⟨oka, hi1⟩ : ∃ i, Fl.isFin a = i := ⟨_, rfl⟩
  rw [hi1]
  have Ia := Lib.hid hi1
  clear hi1
  go_wp2_with fail
  obtain ⟨wb2, hw2⟩ : ∃ w', w1.alloc (Obj.cells #[Value.bool n_a, Value.slice a_a l_a k_a, Value.int IntKind.i64 E_a] 35) = w' := ⟨_, rfl⟩
  have hb2 : Below w1.heap.size w1 wb2 := by rw [← hw2]; exact below_alloc _ _
  obtain ⟨b5, hk2⟩ : ∃ b, w1.heap.size = b := ⟨_, rfl⟩
  have V5 : Hid (Var wb2 b5 n_a a_a l_a k_a E_a) := Lib.hid (by have := var_alloc w1 n_a a_a l_a k_a E_a; rw [show _ = wb2 from hw2, hk2] at this; exact this)
  have Da := Lib.hid (Da.out.below hb2)
  have HB := Lib.hid (below_next HB.out hb2)
  rw [hw2, hk2]
  clear hw2 hb2 hk2
  refine (f_of b HFb.out.1 _).mono ?_
  rintro e w3 ⟨v3, rfl, hv3, hb3⟩
  obtain ⟨n_b, a_b, l_b, k_b, E_b, rfl⟩ := hv3.shape
  have Da := Lib.hid (Da.out.below hb3)
  have V5 := Lib.hid (V5.out.below hb3)
  have HB := Lib.hid (below_next HB.out hb3)
  have Db := Lib.hid hv3
  clear hv3 hb3
  obtain ⟨okb, hi3⟩ : ∃ i, Fl.isFin b = i := ⟨_, rfl⟩
  rw [hi3]
  have Ib := Lib.hid hi3
  clear hi3
  have c50 := cell_at (below_alloc w3 (Obj.cells #[Value.bool n_b, Value.slice a_b l_b k_b, Value.int IntKind.i64 E_b] 35)) V5.out.lt V5.out.c0
  have c51 := cell_at (below_alloc w3 (Obj.cells #[Value.bool n_b, Value.slice a_b l_b k_b, Value.int IntKind.i64 E_b] 35)) V5.out.lt V5.out.c1
  have c52 := cell_at (below_alloc w3 (Obj.cells #[Value.bool n_b, Value.slice a_b l_b k_b, Value.int IntKind.i64 E_b] 35)) V5.out.lt V5.out.c2
  go_wp2_with fail
  clear c50 c51 c52
  obtain ⟨wb4, hw4⟩ : ∃ w', w3.alloc (Obj.cells #[Value.bool n_b, Value.slice a_b l_b k_b, Value.int IntKind.i64 E_b] 35) = w' := ⟨_, rfl⟩
  have hb4 : Below w3.heap.size w3 wb4 := by rw [← hw4]; exact below_alloc _ _
  obtain ⟨b7, hk4⟩ : ∃ b, w3.heap.size = b := ⟨_, rfl⟩
  have V7 : Hid (Var wb4 b7 n_b a_b l_b k_b E_b) := Lib.hid (by have := var_alloc w3 n_b a_b l_b k_b E_b; rw [show _ = wb4 from hw4, hk4] at this; exact this)
  have Da := Lib.hid (Da.out.below hb4)
  have V5 := Lib.hid (V5.out.below hb4)
  have Db := Lib.hid (Db.out.below hb4)
  have HB := Lib.hid (below_next HB.out hb4)
  rw [hw4, hk4]
  clear hw4 hb4 hk4
  refine (d_mul Da.out Db.out ((bd_VV a).sz (by decide)) ((bd_VV b).sz (by decide)) (((bd_VV a).mul (bd_VV b) (M := 4196) rfl).sz (by decide)) (by decide) (by decide) (by decide) (by decide)).mono ?_
  rintro e w5 ⟨v5, rfl, hv5, hb5⟩
  obtain ⟨n_t, a_t, l_t, k_t, E_t, rfl⟩ := hv5.shape
  have Da := Lib.hid (Da.out.below hb5)
  have V5 := Lib.hid (V5.out.below hb5)
  have Db := Lib.hid (Db.out.below hb5)
  have V7 := Lib.hid (V7.out.below hb5)
  have HB := Lib.hid (below_next HB.out hb5)
  have Dt := Lib.hid hv5
  clear hv5 hb5
  go_wp2_with fail
  refine (NearGives.isD Dt.out ((bd_VV a).mul (bd_VV b) (M := 4196) rfl) (by decide) (by decide) (by decide) HB.out).mono ?_
  rintro e wn ⟨x, rfl, hx, hb⟩
  rw [HVa.out, HVb.out] at hx
  have HX := Lib.hid hx
  have HBn := Lib.hid hb
  clear hx hb
  go_wp2
  go_ret
  exact ⟨_, rfl, Fl.mul_same HFa.out HFb.out HX.out, HBn.out⟩

theorem r_mul (a b : Nat) (w : World) (ha : a < 2 ^ 64) (hb : b < 2 ^ 64) : Calls Try.prog 44 #[F a, F b] w (GivesA (Fl.fmul a b) w) := by
  rcases Fl.kinds ha with h | ⟨h, h2⟩ | h
  · exact r_mul_1 a b w (.inl h)
  · rcases Fl.kinds hb with k | ⟨k, k2⟩ | k
    · exact r_mul_1 a b w (.inr k)
    · exact r_mul_2 a b w _ _ ⟨h, h2⟩ ⟨k, k2⟩
    · by_cases h0 : Fl.rg b = 0
      · exact r_mul_5 a b w _ ⟨h, h2⟩ k h0
      · exact r_mul_3 a b w _ ⟨h, h2⟩ k h0
  · rcases Fl.kinds hb with k | ⟨k, k2⟩ | k
    · exact r_mul_1 a b w (.inr k)
    · by_cases h0 : Fl.rg a = 0
      · exact r_mul_6 a b w _ h ⟨k, k2⟩ h0
      · exact r_mul_4 a b w _ h ⟨k, k2⟩ h0
    · exact r_mul_7 a b w h k
end Go.Proofs.Ytemneeknemijpaa
