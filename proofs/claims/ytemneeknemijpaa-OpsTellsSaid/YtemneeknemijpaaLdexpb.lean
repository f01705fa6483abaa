/- math.Ldexp, the whole. The power is at most 2^40, either way. -/
import Derived.Test.YtemneeknemijpaaScal
namespace Go.Proofs.Ytemneeknemijpaa
open Go.RowKit

theorem m_isnan (x : Nat) (hx : Fl.Fin x) (w : World) : Calls Try.prog 87 #[F x] w fun e w' => e = .returned (.bool false) ∧ w = w' := by
  have h1 : (FloatKind.f64.format.order x x != some .eq) = false := by
    have : FloatKind.f64.format.order x x = some .eq := Fl.ord_self hx.notNaN
    rw [this]; rfl
  clear hx
  go_enter Try.func87, Try.ntmps87
  go_wp2
  go_ret
  exact ⟨rfl, rfl⟩

namespace Fl
theorem RV_le_max {r : Nat} (h : r < 2047 * 2 ^ 52) : RV r ≤ RV (2047 * 2 ^ 52 - 1) := by
  rw [RV_eq, RV_eq]
  obtain ⟨q, hq⟩ : ∃ q, q = 2045 := ⟨_, rfl⟩
  have e2 : ex (2047 * 2 ^ 52 - 1) = q := by rw [hq]; decide
  have e1 : mant (2047 * 2 ^ 52 - 1) = 2 ^ 53 - 1 := by decide
  rw [e1, e2]
  have h1 := mant_lt r
  have h2 : ex r ≤ q := by unfold ex; omega
  exact Nat.mul_le_mul (by omega) (pow_mono h2)
theorem V_le_max {x : Nat} (h : Fin x) : V x ≤ V 9218868437227405311 ∧ V 18442240474082181119 ≤ V x := by
  have h1 := RV_le_max h.2
  have e1 : V 9218868437227405311 = (RV (2047 * 2 ^ 52 - 1) : Int) := by decide +kernel
  have e2 : V 18442240474082181119 = -(RV (2047 * 2 ^ 52 - 1) : Int) := by decide +kernel
  rw [e1, e2]
  unfold V mg
  split <;> omega
theorem gt_fin {x y : Nat} (hx : Fin x) (hy : Fin y) : (FloatKind.f64.format.order x y == some .gt) = decide (V y < V x) := by
  have : FloatKind.f64.format.order x y = some (compare (V x) (V y)) := order_fin hx hy
  rw [this]
  rcases Int.lt_trichotomy (V x) (V y) with h | h | h
  · rw [Int.compare_eq_lt.2 h]; simp; omega
  · rw [h, Int.compare_eq_eq.2 rfl]; simp
  · rw [Int.compare_eq_gt.2 h]; simp [h]
theorem eq_fin' {x y : Nat} (hx : Fin x) (hy : Fin y) : (FloatKind.f64.format.order x y == some .eq) = decide (V x = V y) := by
  have : FloatKind.f64.format.order x y = some (compare (V x) (V y)) := order_fin hx hy
  rw [this]
  rcases Int.lt_trichotomy (V x) (V y) with h | h | h
  · rw [Int.compare_eq_lt.2 h]; simp; omega
  · rw [h, Int.compare_eq_eq.2 rfl]; simp
  · rw [Int.compare_eq_gt.2 h]; simp; omega
theorem mg_pos {x : Nat} (h : rg x ≠ 0) : 0 < mg x := by
  unfold mg
  rw [RV_eq]
  refine Nat.mul_pos ?_ (Nat.two_pow_pos _)
  unfold mant
  split <;> omega
theorem V_ne {x : Nat} (h : rg x ≠ 0) : V x ≠ 0 := by have := mg_pos h; unfold V; split <;> omega
theorem V_neg {x : Nat} (h : rg x ≠ 0) : decide (V x < 0) = sg x := by
  have := mg_pos h
  unfold V
  cases sg x
  · simp
  · simp; omega
theorem sign_only (y : Nat) (hy : y < 2 ^ 64) : bits .or .u64 (bits .andNot .u64 0 9223372036854775808) (bits .and .u64 (y : Int) 9223372036854775808) = ((D.word (sg y) 0 : Nat) : Int) := by
  have e0 : bits .andNot .u64 0 9223372036854775808 = ((0 : Nat) : Int) := by decide +kernel
  have e1 := u64_and_nat y 9223372036854775808 (by simpa using hy) (by decide)
  have e : ((9223372036854775808 : Nat) : Int) = 9223372036854775808 := rfl
  rw [e] at e1
  have e2 : y &&& 9223372036854775808 = y / 2 ^ 63 % 2 * 2 ^ 63 := nat_bit 63 y
  rw [e0, e1, e2]
  have h2 : y / 2 ^ 63 % 2 < 2 := Nat.mod_lt _ (by decide)
  have e3 := u64_or_nat 0 (y / 2 ^ 63 % 2 * 2 ^ 63) (by decide) (by omega)
  rw [e3, Nat.zero_or]
  unfold sg Ieee.Format.word
  rw [signWeight]
  by_cases h : y / 2 ^ 63 % 2 = 1
  · rw [h]; rfl
  · rw [show y / 2 ^ 63 % 2 = 0 by omega]; rfl
end Fl

theorem m_isinf (x : Nat) (hx : Fl.Fin x) (w : World) : Calls Try.prog 86 #[F x, .int .i64 0] w fun e w' => e = .returned (.bool false) ∧ w = w' := by
  have h1 : (FloatKind.f64.format.order (Fl.rg x) 9218868437227405311 == some .gt) = false := by
    rw [Fl.gt_fin hx.abs ⟨by decide, by decide +kernel⟩]; simp; exact (Fl.V_le_max hx.abs).1
  have H := Lib.hid hx.1
  clear hx
  go_enter Try.func86, Try.ntmps86
  go_wp2_with fail
  refine (m_abs _ H.out _).mono ?_
  rintro e w' ⟨rfl, rfl⟩
  go_wp2
  go_ret
  exact ⟨rfl, rfl⟩

theorem m_copysign (y : Nat) (hy : y < 2 ^ 64) (w : World) : Calls Try.prog 89 #[F 0, F y] w fun e w' => e = .returned (F (Fl.D.word (Fl.sg y) 0)) ∧ w = w' := by
  have h1 := run_bits' y w
  have h2 := run_bits' 0 w
  have h3 : (callFunc 75 #[.int .u64 (bits .or .u64 (bits .andNot .u64 0 9223372036854775808) (bits .and .u64 (y : Int) 9223372036854775808))]).run Try.prog w = .ok (.value (F (Fl.D.word (Fl.sg y) 0))) w := by
    rw [Fl.sign_only y hy]
    exact run_frombits' _ w
  clear hy
  go_enter Try.func89, Try.ntmps89
  go_wp2
  go_ret
  exact ⟨rfl, rfl⟩

theorem and2047 (n : Int) : bits .and .i64 n 2047 = n % 2048 := by
  have h127 : (BitVec.ofInt 64 2047).toNat = 2 ^ 11 - 1 := by decide
  have key : (BitVec.ofInt 64 n &&& BitVec.ofInt 64 2047).toNat = (n % ((2 ^ 64 : Nat) : Int)).toNat % 2 ^ 11 := by
    rw [BitVec.toNat_and, BitVec.toNat_ofInt, h127, Nat.and_two_pow_sub_one_eq_mod]
  show IntKind.i64.wrap ((BitVec.ofInt 64 n &&& BitVec.ofInt 64 2047).toNat : Nat) = n % 2048
  rw [key, IntKind.wrap_i64]
  omega

theorem word_frombits (Z : Nat) (w : World) (v : Int) (h : v = (Z : Int)) : (callFunc 75 #[.int .u64 v]).run Try.prog w = .ok (.value (F Z)) w := by
  rw [h]; exact run_frombits' _ w

theorem drew2 (w : World) (n m : Nat) : (w.drewN n).drewN m = w.drewN (n + m) := World.drewN_drewN ..

set_option maxHeartbeats 1000000 in
theorem m_ldexp (x : Nat) (k : Int) (hx : Fl.Fin x) (h0 : Fl.rg x ≠ 0) (hk1 : -1099511627776 ≤ k) (hk2 : k ≤ 1099511627776) (w : World) : Calls Try.prog 83 #[F x, .int .i64 k] w (Gives (Fl.scal x k) w) := by
  have hz : (FloatKind.f64.format.order x 0 == some .eq) = false := by
    rw [Fl.eq_fin' hx Fl.fin0, show Fl.V 0 = 0 by decide +kernel]; simpa using Fl.V_ne h0
  have HX := Lib.hid hx
  have H0 := Lib.hid h0
  clear hx h0
  go_enter Try.func83, Try.ntmps83
  go_wp2_with fail
  refine (m_isinf _ HX.out _).mono ?_
  rintro e w' ⟨rfl, rfl⟩
  go_wp2_with fail
  refine (m_isnan _ HX.out _).mono ?_
  rintro e w' ⟨rfl, rfl⟩
  go_wp2_with fail
  refine (m_normalize _ HX.out H0.out _).mono ?_
  rintro e w' ⟨y, j, n, rfl, hn, rfl⟩
  have hj : -52 ≤ j ∧ j ≤ 0 := by rcases hn.which with h | h <;> omega
  obtain ⟨hj1, hj2⟩ := hj
  obtain ⟨c, E, hc1, hc2, hE1, hE2, hrE, hrf, hmy⟩ := Fl.norm_parts hn.big hn.fin
  have HS := Lib.hid (Fl.scal_norm hn k hE1 hmy)
  have hy0 : Fl.rg y ≠ 0 := by have := hn.big; omega
  have HN := Lib.hid hn
  have hylt := hn.fin.1
  have hn' := hrE
  clear hn hmy
  have hb := fun w => run_bits' y w
  have hE : bits .and .i64 ((y : Int) / 4503599627370496) 2047 = (E : Int) := by
    rw [and2047]
    have := hn'
    unfold Fl.rg at this
    omega
  have hdiv : (y : Int) / 4503599627370496 ≤ 4095 := by omega
  have hand : bits .andNot .u64 (y : Int) 9218868437227405312 = ((Fl.D.word (Fl.sg y) (c - 4503599627370496) : Nat) : Int) := by
    have := Fl.strike (Fl.sg y) (Fl.rg y) (Fl.rg_lt y)
    rw [Fl.word_split hylt] at this
    rw [this, hrf]
  have hE1' : (1 : Int) ≤ E := by omega
  have hE2' : (E : Int) ≤ 2046 := by omega
  have hneg : (FloatKind.f64.format.order y 0 == some .lt) = Fl.sg y := by
    rw [Fl.lt_fin HN.out.fin Fl.fin0, show Fl.V 0 = 0 by decide +kernel]; exact Fl.V_neg hy0
  have HNEG := Lib.hid hneg
  have HC := Lib.hid (And.intro hc1 hc2)
  have HY := Lib.hid hylt
  clear hn' hrE hrf hE1 hE2 hylt hc1 hc2 hy0 hneg
  by_cases hA : k + j + ((E : Int) - 1023) < -1075
  · go_wp2_with fail
    refine (m_copysign _ HY.out _).mono ?_
    rintro e w' ⟨rfl, rfl⟩
    go_wp2
    go_ret
    refine ⟨_, n, rfl, ?_, ?_, rfl⟩
    · rw [HS.out, Fl.scal_zero HC.out.1 HC.out.2 hA]; exact Fl.canon_word _ (by omega)
    · exact Fl.word_lt64 _ (by omega)
  by_cases hB : 1023 < k + j + ((E : Int) - 1023)
  · cases hs : Fl.sg y
    · have hn' : (FloatKind.f64.format.order y 0 == some .lt) = false := by rw [HNEG.out, hs]
      have hq : ∀ w, (callFunc 75 #[.int .u64 9218868437227405312]).run Try.prog w = .ok (.value (F 9218868437227405312)) w := fun w => run_frombits' _ w
      have HSG := Lib.hid hs
      clear hs
      go_wp2
      go_ret
      refine ⟨_, n, rfl, ?_, by decide, rfl⟩
      rw [HS.out, Fl.scal_inf HC.out.1 HC.out.2 hB, HSG.out]
      exact Fl.canon_word false (r := 2047 * 2 ^ 52) (Nat.le_refl _)
    · have hn' : (FloatKind.f64.format.order y 0 == some .lt) = true := by rw [HNEG.out, hs]
      have hq : ∀ w, (callFunc 75 #[.int .u64 18442240474082181120]).run Try.prog w = .ok (.value (F 18442240474082181120)) w := fun w => run_frombits' _ w
      have HSG := Lib.hid hs
      clear hs
      go_wp2
      go_ret
      refine ⟨_, n, rfl, ?_, by decide, rfl⟩
      rw [HS.out, Fl.scal_inf HC.out.1 HC.out.2 hB, HSG.out]
      exact Fl.canon_word true (r := 2047 * 2 ^ 52) (Nat.le_refl _)
  by_cases hC : k + j + ((E : Int) - 1023) < -1022
  · have hlaw := Fl.scal_sub (y := y) HC.out.1 HC.out.2 (by omega) hC
    have hjoin := Fl.join (Fl.sg y) (c - 4503599627370496) (k + j + ((E : Int) - 1023) + 53 + 1023).toNat (by have := HC.out; omega) (by omega)
    have hce : (((k + j + ((E : Int) - 1023) + 53 + 1023).toNat * 2 ^ 52 : Nat) : Int) = (k + j + ((E : Int) - 1023) + 53 + 1023) * 4503599627370496 := by omega
    rw [hce] at hjoin
    have hor := fun w => word_frombits _ w _ hjoin
    obtain ⟨r, m, hrun, hr⟩ := run_mul 4368491638549381120 (Fl.D.word (Fl.sg y) ((k + j + ((E : Int) - 1023) + 53 + 1023).toNat * 2 ^ 52 + (c - 4503599627370496))) (w.drewN n) 22 Try.prog
    rw [drew2] at hrun
    have HR := Lib.hid hr
    have HL := Lib.hid hlaw
    clear hr hlaw hjoin hce
    go_wp2
    go_ret
    exact ⟨r, _, rfl, HR.out.1.trans (HL.out.trans HS.out.symm), HR.out.2, rfl⟩
  · have hlaw := Fl.scal_plain (y := y) HC.out.1 HC.out.2 (T := k + j + ((E : Int) - 1023)) (by omega) (by omega)
    have hjoin := Fl.join (Fl.sg y) (c - 4503599627370496) (k + j + ((E : Int) - 1023) + 1023).toNat (by have := HC.out; omega) (by omega)
    have hce : (((k + j + ((E : Int) - 1023) + 1023).toNat * 2 ^ 52 : Nat) : Int) = (k + j + ((E : Int) - 1023) + 1023) * 4503599627370496 := by omega
    rw [hce] at hjoin
    have hor := fun w => word_frombits _ w _ hjoin
    obtain ⟨r, m, hrun, hr⟩ := run_mul 4607182418800017408 (Fl.D.word (Fl.sg y) ((k + j + ((E : Int) - 1023) + 1023).toNat * 2 ^ 52 + (c - 4503599627370496))) (w.drewN n) 22 Try.prog
    rw [drew2] at hrun
    have HR := Lib.hid hr
    have HL := Lib.hid hlaw
    clear hr hlaw hjoin hce
    go_wp2
    go_ret
    exact ⟨r, _, rfl, HR.out.1.trans (HL.out.trans HS.out.symm), HR.out.2, rfl⟩

/-- math.Ldexp of a finite float, and ops.Scale. -/
def Fl.scale (x : Nat) (k : Int) : Nat := if Fl.rg x < 2047 * 2 ^ 52 then Fl.scal x k else Fl.canon x

theorem Fl.scal_nought {x : Nat} (hx : x < 2 ^ 64) (h : Fl.rg x = 0) (k : Int) : Fl.scal x k = x := by
  have hm : Fl.mg x = 0 := by unfold Fl.mg; rw [h]; decide
  unfold Fl.scal Fl.rndS
  rw [hm, Nat.zero_mul]
  have e : Fl.rnd 0 (-k).toNat = Fl.rg x := by rw [h]; unfold Fl.rnd; rfl
  rw [e, Fl.word_split hx]

theorem m_ldexp_zero (x : Nat) (k : Int) (hx : x < 2 ^ 64) (h0 : Fl.rg x = 0) (w : World) : Calls Try.prog 83 #[F x, .int .i64 k] w (Gives (Fl.scal x k) w) := by
  have hf : Fl.Fin x := ⟨hx, by omega⟩
  have hz : (FloatKind.f64.format.order x 0 == some .eq) = true := by
    have e : Fl.V x = 0 := by unfold Fl.V Fl.mg; rw [h0]; split <;> decide
    rw [Fl.eq_fin' hf Fl.fin0, show Fl.V 0 = 0 by decide +kernel, e]; rfl
  have HS := Lib.hid (Fl.scal_nought hx h0 k)
  have HF := Lib.hid hf
  clear hx h0 hf
  go_enter Try.func83, Try.ntmps83
  go_wp2
  go_ret
  exact ⟨x, 0, rfl, by rw [HS.out]; exact Fl.canon_of HF.out.notNaN, HF.out.1, rfl⟩

theorem m_Ldexp (x : Nat) (k : Int) (hx : Fl.Fin x) (hk1 : -1099511627776 ≤ k) (hk2 : k ≤ 1099511627776) (w : World) : Calls Try.prog 69 #[F x, .int .i64 k] w (Gives (Fl.scal x k) w) := by
  have HX := Lib.hid hx
  clear hx
  go_enter Try.func69, Try.ntmps69
  go_wp2_with fail
  by_cases h0 : Fl.rg x = 0
  · have H0 := Lib.hid h0
    clear h0
    refine (m_ldexp_zero _ _ HX.out.1 H0.out _).mono ?_
    rintro e w' ⟨r, n, rfl, hr, hl, rfl⟩
    have HR := Lib.hid hr
    clear hr
    go_wp2
    go_ret
    exact ⟨r, n, rfl, HR.out, hl, rfl⟩
  · have H0 := Lib.hid h0
    clear h0
    refine (m_ldexp _ _ HX.out H0.out hk1 hk2 _).mono ?_
    rintro e w' ⟨r, n, rfl, hr, hl, rfl⟩
    have HR := Lib.hid hr
    clear hr
    go_wp2
    go_ret
    exact ⟨r, n, rfl, HR.out, hl, rfl⟩

theorem ops_scale (x : Nat) (k : Int) (hx : Fl.Fin x) (hk1 : -1099511627776 ≤ k) (hk2 : k ≤ 1099511627776) (w : World) : Calls Try.prog 47 #[F x, .int .i64 k] w (Gives (Fl.scal x k) w) := by
  have HX := Lib.hid hx
  clear hx
  go_enter Try.func47, Try.ntmps47
  go_wp2_with fail
  refine (m_Ldexp _ _ HX.out hk1 hk2 _).mono ?_
  rintro e w' ⟨r, n, rfl, hr, hl, rfl⟩
  have HR := Lib.hid hr
  clear hr
  go_wp2
  go_ret
  exact ⟨r, n, rfl, HR.out, hl, rfl⟩
end Go.Proofs.Ytemneeknemijpaa
