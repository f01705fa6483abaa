/- math.Ldexp: of a finite float the float nearest to it times a power of two; of others what came in. The power is at most 2^40, either way. -/
import Derived.Test.YtemneeknemijpaaRoot
import Derived.Test.YtemneeknemijpaaFits
import Derived.Test.YtemneeknemijpaaEitherWalk
import Derived.Laws.BitsAllLaws
namespace Go.Proofs.Ytemneeknemijpaa
open Go.RowKit

namespace Fl
theorem andNot_top (x : Nat) (h : x < 2 ^ 64) : bits .andNot .u64 (x : Int) 9223372036854775808 = ((rg x : Nat) : Int) := by
  have h1 := u64_andNot_nat x 9223372036854775808 (by simpa using h) (by decide)
  have e : ((9223372036854775808 : Nat) : Int) = 9223372036854775808 := rfl
  rw [e] at h1
  rw [h1]
  have : x &&& (18446744073709551615 - 9223372036854775808) = x % 2 ^ 63 := Nat.and_two_pow_sub_one_eq_mod x 63
  rw [this]; rfl

theorem rg_lt (x : Nat) : rg x < 2 ^ 63 := Nat.mod_lt _ (by decide)

/-- the exponent's bits struck -/
theorem strike (s : Bool) (r : Nat) (h : r < 2 ^ 63) : bits .andNot .u64 ((D.word s r : Nat) : Int) 9218868437227405312 = ((D.word s (r % 2 ^ 52) : Nat) : Int) := by
  have h1 := u64_andNot_nat (D.word s r) 9218868437227405312 (by have := word_lt64 s h; simpa using this) (by decide)
  have e : ((9218868437227405312 : Nat) : Int) = 9218868437227405312 := rfl
  rw [e] at h1
  rw [h1]
  congr 1
  have e2 : (18446744073709551615 - 9218868437227405312 : Nat) = 2 ^ 63 ||| (2 ^ 52 - 1) := by decide
  rw [e2, Nat.and_or_distrib_left, Nat.and_two_pow_sub_one_eq_mod, nat_bit]
  unfold Ieee.Format.word
  rw [signWeight]
  cases s
  · simp only [Bool.false_eq_true, if_false]
    rw [Nat.div_eq_of_lt h]; simp
  · simp only [if_true]
    rw [show (2 ^ 63 + r) / 2 ^ 63 % 2 = 1 by omega, show (2 ^ 63 + r) % 2 ^ 52 = r % 2 ^ 52 by omega, Nat.one_mul]
    exact nat_join 63 _ _ (by simp) (by omega)

theorem join (s : Bool) (f e : Nat) (hf : f < 2 ^ 52) (he : e < 2048) : bits .or .u64 ((D.word s f : Nat) : Int) ((e * 2 ^ 52 : Nat) : Int) = ((D.word s (e * 2 ^ 52 + f) : Nat) : Int) := by
  have h1 := u64_or_nat (D.word s f) (e * 2 ^ 52) (by have := word_lt64 s (r := f) (by omega); simpa using this) (by omega)
  rw [h1]
  congr 1
  unfold Ieee.Format.word
  rw [signWeight]
  cases s
  · simp only [Bool.false_eq_true, if_false]
    rw [Nat.or_comm]
    exact nat_join 52 _ _ (by simp) hf
  · simp only [if_true]
    have h2 : f ||| e * 2 ^ 52 = e * 2 ^ 52 + f := by rw [Nat.or_comm]; exact nat_join 52 _ _ (by simp) hf
    have h3 : 2 ^ 63 + f = 2 ^ 63 ||| f := (nat_join 63 _ _ (by simp) (by omega)).symm
    rw [h3, Nat.or_assoc, h2]
    exact nat_join 63 _ _ (by simp) (by omega)

theorem RV_small {r : Nat} : RV r < 2 ^ 52 ↔ r < 2 ^ 52 := by
  constructor
  · intro h
    apply Nat.lt_of_not_le
    intro h2
    rw [RV_eq] at h
    unfold mant at h
    rw [if_neg (by omega)] at h
    have h3 := Nat.mul_le_mul (Nat.le_add_right (2 ^ 52) (r % 2 ^ 52)) (Nat.two_pow_pos (ex r))
    omega
  · intro h; unfold RV; rw [if_pos h]; exact h

theorem rg_rg (x : Nat) : rg (rg x) = rg x := by unfold rg; omega
theorem sg_rg (x : Nat) : sg (rg x) = false := by
  unfold sg rg
  rw [Nat.div_eq_of_lt (Nat.mod_lt _ (by decide))]; rfl
theorem Fin.abs {x : Nat} (h : Fin x) : Fin (rg x) := ⟨by have := rg_lt x; omega, by rw [rg_rg]; exact h.2⟩
theorem V_abs (x : Nat) : V (rg x) = (mg x : Int) := by unfold V mg; rw [sg_rg, rg_rg]; rfl

theorem lt_fin {x y : Nat} (hx : Fin x) (hy : Fin y) : (FloatKind.f64.format.order x y == some .lt) = decide (V x < V y) := by
  have : FloatKind.f64.format.order x y = some (compare (V x) (V y)) := order_fin hx hy
  rw [this]
  rcases Int.lt_trichotomy (V x) (V y) with h | h | h
  · rw [Int.compare_eq_lt.2 h]; simp [h]
  · rw [h, Int.compare_eq_eq.2 rfl]; simp
  · rw [Int.compare_eq_gt.2 h]; simp; omega

theorem lt_min {x : Nat} (h : Fin x) : (FloatKind.f64.format.order (rg x) 4503599627370496 == some .lt) = decide (rg x < 2 ^ 52) := by
  rw [lt_fin h.abs ⟨by decide, by decide⟩, V_abs, show V 4503599627370496 = ((2 ^ 52 : Nat) : Int) by decide +kernel, decide_eq_decide]
  have := @RV_small (rg x)
  unfold mg
  omega

theorem is_2_52 : Is 4841369599423283200 (((2 ^ 52 * ONE : Nat) : Nat) : Int) := ⟨⟨by decide, by decide +kernel⟩, by decide +kernel⟩

/-- x, made normal: y, times 2^e -/
structure Norm (x y : Nat) (e : Int) : Prop where
  big : 2 ^ 52 ≤ rg y
  fin : Fin y
  sign : sg y = sg x
  which : (e = 0 ∧ mg y = mg x) ∨ (e = -52 ∧ mg y = mg x * 2 ^ 52)

theorem norm_small {x : Nat} (hx : Fin x) (h : rg x < 2 ^ 52) (h0 : rg x ≠ 0) : Norm x (fmul x 4841369599423283200) (-52) := by
  have hm : mg x = rg x := by unfold mg RV; rw [if_pos h]
  have hs : sg 4841369599423283200 = false := by decide +kernel
  have hC : mg 4841369599423283200 = 2 ^ 52 * ONE := by decide +kernel
  have e1 := fmul_fin hx is_2_52.fin
  obtain ⟨z, hz⟩ : ∃ z, z = 1074 := ⟨_, rfl⟩
  rw [hs, hC, ← Nat.mul_assoc, ONE_eq z hz, ← hz, Bool.xor_false] at e1
  have e2 := rnd_scale (mg x * 2 ^ 52) 0 z
  rw [Nat.zero_add] at e2
  rw [e2] at e1
  have hc : mg x < 2 ^ 53 := by omega
  have e3 := rnd_exact (c := mg x) (t := 52) (K := 0) hc (TOP_lt (j := 53) (z := 2045) rfl hc (by omega))
  rw [Nat.add_zero] at e3
  rw [e1]
  refine ⟨?_, Fin.word _ e3.2, sg_word _ (by omega), .inr ⟨rfl, ?_⟩⟩
  · rw [rg_word _ (by omega)]
    apply Nat.le_of_not_lt
    intro h4
    have h5 := RV_small.2 h4
    rw [e3.1, hm] at h5
    omega
  · show RV (rg (D.word (sg x) (rnd (mg x * 2 ^ 52) 0))) = mg x * 2 ^ 52
    rw [rg_word _ (by omega), e3.1]
theorem norm_big {x : Nat} (hx : Fin x) (h : 2 ^ 52 ≤ rg x) : Norm x x 0 := ⟨h, hx, rfl, .inl ⟨rfl, rfl⟩⟩
end Fl

theorem m_abs (x : Nat) (hx : x < 2 ^ 64) (w : World) : Calls Try.prog 90 #[F x] w fun e w' => e = .returned (F (Fl.rg x)) ∧ w = w' := by
  have h1 := run_bits' x w
  have h2 : (callFunc 75 #[.int .u64 (bits .andNot .u64 (x : Int) 9223372036854775808)]).run Try.prog w = .ok (.value (F (Fl.rg x))) w := by
    rw [Fl.andNot_top x hx]; exact run_frombits' _ w
  clear hx
  go_enter Try.func90, Try.ntmps90
  go_wp2
  go_ret
  exact ⟨rfl, rfl⟩

/-- What it makes of a finite float that is not 0. -/
def GivesNorm (x : Nat) (w : World) (e : Ending) (w' : World) : Prop := ∃ y k n, e = .returned (.tuple #[F y, .int .i64 k]) ∧ Fl.Norm x y k ∧ w' = w.drewN n
theorem m_normalize (x : Nat) (hx : Fl.Fin x) (h0 : Fl.rg x ≠ 0) (w : World) : Calls Try.prog 88 #[F x] w (GivesNorm x w) := by
  have HX := Lib.hid hx
  have hl := Fl.lt_min hx
  have H0 := Lib.hid h0
  clear hx h0
  by_cases h : Fl.rg x < 2 ^ 52
  · have hl' : (FloatKind.f64.format.order (Fl.rg x) 4503599627370496 == some .lt) = true := by rw [hl]; simpa using h
    obtain ⟨r, n, hrun, hr⟩ := run_mul x 4841369599423283200 w 22 Try.prog
    have HR := Lib.hid hr
    have HS := Lib.hid h
    clear hl hr h
    go_enter Try.func88, Try.ntmps88
    go_wp2_with fail
    refine (m_abs _ HX.out.1 _).mono ?_
    rintro e w' ⟨rfl, rfl⟩
    go_wp2
    go_ret2
    have hn := Fl.norm_small HX.out HS.out H0.out
    have hre : r = Fl.fmul x 4841369599423283200 := by
      have h1 := HR.out.1
      unfold Fl.canon at h1
      split at h1
      · rename_i h2
        have := hn.fin.notNaN
        rw [← h1, Fl.isNaN_qnan] at this; cases this
      · exact h1
    exact ⟨r, -52, n, rfl, by rw [hre]; exact hn, rfl⟩
  · have hl' : (FloatKind.f64.format.order (Fl.rg x) 4503599627370496 == some .lt) = false := by rw [hl]; simpa using h
    have HS := Lib.hid h
    clear hl h
    go_enter Try.func88, Try.ntmps88
    go_wp2_with fail
    refine (m_abs _ HX.out.1 _).mono ?_
    rintro e w' ⟨rfl, rfl⟩
    go_wp2
    go_ret2
    exact ⟨x, 0, 0, rfl, Fl.norm_big HX.out (by have := HS.out; omega), rfl⟩
end Go.Proofs.Ytemneeknemijpaa
