/- Floats that are alike though not the same word: with 0, and 1, nothing changes; a float and itself is twice it. No condition. -/
import Derived.Test.YtemneeknemijpaaLdexpb
import Derived.Test.YtemneeknemijpaaTurnWalk
namespace Go.Proofs.Ytemneeknemijpaa
namespace Fl
open Ieee

theorem order_canon_left (x y : Nat) : D.order (canon x) y = D.order x y := by
  cases h : isNaN x
  · rw [canon_of h]
  · rw [canon_nan h, ord_nan_left h, ord_nan_left isNaN_qnan]
theorem ord_nan_right {y : Nat} (h : isNaN y = true) (x : Nat) : D.order x y = none := by
  unfold Format.order
  unfold isNaN at h
  cases e : D.read y <;> rw [e] at h <;> simp [Datum.isNaN] at h
  cases D.read x <;> rfl
theorem order_canon_right (x y : Nat) : D.order x (canon y) = D.order x y := by
  cases h : isNaN y
  · rw [canon_of h]
  · rw [canon_nan h, ord_nan_right h, ord_nan_right isNaN_qnan]
theorem same_canon_left (x y : Nat) : same (canon x) y = same x y := by
  unfold same; rw [order_canon_left, order_canon_left, order_canon_right]
theorem same_canon_right (x y : Nat) : same x (canon y) = same x y := by
  unfold same; rw [order_canon_right, order_canon_left, order_canon_right]
theorem same_is {x y : Nat} {v : Int} (hx : Is x v) (hy : Is y v) : same x y = true := by
  unfold same; rw [hx.eql hy]; rfl
theorem same_refl (x : Nat) : same x x = true := same_of rfl

/-- a word is a NaN, an infinity, or finite -/
theorem kinds {x : Nat} (hx : x < 2 ^ 64) : isNaN x = true ∨ (D.read x = .infinity (sg x) ∧ x = D.word (sg x) (2047 * 2 ^ 52)) ∨ Fin x := by
  by_cases hf : Fin x
  · exact .inr (.inr hf)
  · rcases read_notfin hx hf with h | ⟨s, f, h⟩
    · refine .inr (.inl ⟨h, ?_⟩)
      have h1 := word_split hx
      have h2 : rg x = 2047 * 2 ^ 52 := by
        unfold Format.read at h
        simp only [signWeight, binade, infRung] at h
        unfold rg
        split at h
        · cases h
        · split at h
          · cases h
          · split at h
            · assumption
            · cases h
      rw [h2] at h1
      exact h1.symm
    · left; unfold isNaN; rw [h]; rfl

theorem add_zero_same {a : Nat} (ha : a < 2 ^ 64) : same (fadd a 0) a = true := by
  rcases kinds ha with h | ⟨h, h2⟩ | h
  · have : fadd a 0 = qnan := by unfold fadd Format.add; rw [sum_nan_left h]; rfl
    rw [this, ← same_canon_right, canon_nan h]; exact same_refl _
  · have : fadd a 0 = a := by
      unfold fadd Format.add
      rw [h, read_fin fin0]
      exact h2.symm
    rw [this]; exact same_refl _
  · exact same_is (add_zero' ⟨h, rfl⟩ is_zero) ⟨h, rfl⟩

theorem mul_one_same {a : Nat} (ha : a < 2 ^ 64) : same (fmul a 4607182418800017408) a = true := by
  rcases kinds ha with h | ⟨h, h2⟩ | h
  · have : fmul a 4607182418800017408 = qnan := by unfold fmul Format.mul; rw [product_nan_left h]; rfl
    rw [this, ← same_canon_right, canon_nan h]; exact same_refl _
  · have : fmul a 4607182418800017408 = a := by
      unfold fmul Format.mul
      rw [h, read_fin is_one.fin]
      have e : sg 4607182418800017408 = false := by decide +kernel
      have e2 : mant (rg 4607182418800017408) ≠ 0 := by decide +kernel
      simp only [Datum.product, e2, if_false, e, Bool.xor_false, Option.map_some, Option.getD_some]
      exact h2.symm
    rw [this]; exact same_refl _
  · exact same_is (by_one h) ⟨h, rfl⟩

theorem mul_mone_same {a : Nat} (ha : a < 2 ^ 64) : same (fmul a 13830554455654793216) (fneg a) = true := by
  rcases kinds ha with h | ⟨h, h2⟩ | h
  · have : fmul a 13830554455654793216 = qnan := by unfold fmul Format.mul; rw [product_nan_left h]; rfl
    have hn : isNaN (fneg a) = true := by rw [isNaN_neg ha]; exact h
    rw [this, ← same_canon_right, canon_nan hn]; exact same_refl _
  · have : fmul a 13830554455654793216 = fneg a := by
      unfold fmul Format.mul
      rw [h, read_fin is_mone.fin]
      have e : sg 13830554455654793216 = true := by decide +kernel
      have e2 : mant (rg 13830554455654793216) ≠ 0 := by decide +kernel
      simp only [Datum.product, e2, if_false, e, Bool.xor_true, Option.map_some, Option.getD_some]
      have := word_neg (sg a) (r := 2047 * 2 ^ 52) (by decide)
      rw [← h2] at this
      exact this
    rw [this]; exact same_refl _
  · exact same_is (by_mone h) (Is.neg ⟨h, rfl⟩)

theorem is_two : Is 4611686018427387904 (((2 * ONE : Nat) : Nat) : Int) := ⟨⟨by decide, by decide +kernel⟩, by decide +kernel⟩

theorem twice {a : Nat} (ha : a < 2 ^ 64) : fadd a a = fmul a 4611686018427387904 := by
  rcases kinds ha with h | ⟨h, h2⟩ | h
  · unfold fadd fmul Format.add Format.mul
    rw [sum_nan_left h, product_nan_left h]
  · have e1 : fadd a a = a := by
      unfold fadd Format.add
      rw [h]
      simp only [Datum.sum, if_true, Option.map_some, Option.getD_some]
      exact h2.symm
    have e2 : fmul a 4611686018427387904 = a := by
      unfold fmul Format.mul
      rw [h, read_fin is_two.fin]
      have e : sg 4611686018427387904 = false := by decide +kernel
      have e2 : mant (rg 4611686018427387904) ≠ 0 := by decide +kernel
      simp only [Datum.product, e2, if_false, e, Bool.xor_false, Option.map_some, Option.getD_some]
      exact h2.symm
    rw [e1, e2]
  · rw [fadd_fin h h, fmul_fin h is_two.fin]
    have e : sg 4611686018427387904 = false := by decide +kernel
    have em : mg 4611686018427387904 = 2 * ONE := by decide +kernel
    rw [e, em, Bool.xor_false]
    have hs : (if V a + V a = 0 then sg a && sg a else decide (V a + V a < 0)) = sg a := by
      by_cases h0 : rg a = 0
      · have hv : V a = 0 := by unfold V mg; rw [h0]; split <;> decide
        rw [hv]; simp
      · have hv := V_ne h0
        rw [if_neg (by omega), ← V_neg h0, decide_eq_decide]
        omega
    rw [hs]
    refine congrArg (D.word (sg a)) ?_
    have hn : (V a + V a).natAbs = mg a * 2 := by rw [mg_natAbs]; omega
    obtain ⟨z, hz⟩ : ∃ z, z = 1074 := ⟨_, rfl⟩
    rw [hn, ONE_eq z hz, ← hz, ← Nat.mul_assoc]
    have := rnd_scale (mg a * 2) 0 z
    rw [Nat.zero_add] at this
    exact this.symm
end Fl
end Go.Proofs.Ytemneeknemijpaa
