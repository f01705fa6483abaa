/- No float is nearer than the one that is rounded to: plain. No condition. -/
import Derived.Test.YtemneeknemijpaaFo
namespace Go.Proofs.Ytemneeknemijpaa.Fl

theorem rne_best (n g M : Nat) (hg : 0 < g) : (((g * rne n g : Nat) : Int) - n).natAbs ≤ (((g * M : Nat) : Int) - n).natAbs := by
  obtain ⟨h1, h2⟩ := rne_near n g hg
  generalize rne n g = N at *
  rcases Nat.lt_trichotomy N M with h | h | h
  · have h3 : g * (N + 1) ≤ g * M := Nat.mul_le_mul_left g h
    rw [Nat.mul_add, Nat.mul_one] at h3
    omega
  · subst h; exact Nat.le_refl _
  · have h3 : g * (M + 1) ≤ g * N := Nat.mul_le_mul_left g h
    rw [Nat.mul_add, Nat.mul_one] at h3
    omega

theorem far {P Q R x : Nat} (h3 : ((R : Int) - x).natAbs ≤ ((P : Int) - x).natAbs) (h4 : P ≤ x) (h5 : Q ≤ P) : ((R : Int) - x).natAbs ≤ ((Q : Int) - x).natAbs := by omega

theorem rnd_best {x K r : Nat} (hlt : rnd x K < 2047 * 2 ^ 52) : (((RV (rnd x K) * 2 ^ K : Nat) : Int) - x).natAbs ≤ (((RV r * 2 ^ K : Nat) : Int) - x).natAbs := by
  by_cases hx : x = 0
  · subst hx
    have : rnd 0 K = 0 := rfl
    rw [this, show RV 0 = 0 from rfl, Nat.zero_mul]
    simp
  have hk := kept_spec (K := K) hx
  rw [rnd_eq hx] at hlt ⊢
  have hl := Nat.log2_self_le hx
  obtain ⟨k, hkk⟩ : ∃ k, x.log2 - 52 - K = k := ⟨_, rfl⟩
  rw [hkk] at hlt hk ⊢
  rw [Nat.min_eq_left (by omega), RV_make _ _ hk.1 hk.2, RV_eq]
  have hc := mant_lt r
  generalize mant r = c at *
  generalize ex r = t at *
  have hg := Nat.two_pow_pos (k + K)
  have hb := fun M => rne_best x (2 ^ (k + K)) M hg
  have e1 : rne x (2 ^ (k + K)) * 2 ^ k * 2 ^ K = 2 ^ (k + K) * rne x (2 ^ (k + K)) := by rw [Nat.mul_assoc, ← Nat.pow_add, Nat.mul_comm]
  rw [e1]
  by_cases ht : k ≤ t
  · have e2 : c * 2 ^ t * 2 ^ K = 2 ^ (k + K) * (c * 2 ^ (t - k)) := by
      rw [Nat.mul_comm (2 ^ (k + K)), Nat.mul_assoc, Nat.mul_assoc, ← Nat.pow_add, ← Nat.pow_add]
      congr 2
      omega
    rw [e2]
    exact hb _
  · have h3 := hb (2 ^ 52)
    have h4 : 2 ^ (k + K) * 2 ^ 52 ≤ x := by
      rw [← Nat.pow_add]
      refine Nat.le_trans (Nat.le_of_eq ?_) hl
      congr 1
      omega
    have h5 : c * 2 ^ t * 2 ^ K ≤ 2 ^ (k + K) * 2 ^ 52 := by
      rw [Nat.mul_assoc, ← Nat.pow_add, ← Nat.pow_add]
      have h6 : 2 ^ (t + K) * 2 ≤ 2 ^ (k + K) := by
        rw [← Nat.pow_succ]
        exact pow_mono (by omega)
      have h7 : c * 2 ^ (t + K) ≤ 2 ^ 53 * 2 ^ (t + K) := Nat.mul_le_mul_right _ (by omega)
      rw [Nat.pow_add 2 (k + K)]
      generalize 2 ^ (t + K) = A at *
      generalize 2 ^ (k + K) = B at *
      omega
    exact far h3 h4 h5

/-- with signs -/
theorem sign_near {T Z : Int} {R r : Nat} {neg : Bool} (h : (((R : Nat) : Int) - T.natAbs).natAbs ≤ (((r : Nat) : Int) - T.natAbs).natAbs) (hn : (T = 0 ∧ R = 0) ∨ neg = decide (T < 0)) (hZ : Z.natAbs = r) :
    ((if neg then -(R : Int) else (R : Int)) - T).natAbs ≤ (Z - T).natAbs := by
  rcases hn with ⟨rfl, rfl⟩ | rfl
  · split <;> simp
  · by_cases h0 : T < 0
    · simp only [h0, decide_true, if_true]; omega
    · simp only [h0, decide_false]
      simp only [Bool.false_eq_true, if_false]
      omega

theorem fin_word {x : Nat} {s : Bool} {r : Nat} (hx : rg x < 2047 * 2 ^ 52) (h : x = D.word s r) (hr : r ≤ 2047 * 2 ^ 52) : r < 2047 * 2 ^ 52 := by
  rw [h, rg_word s (by omega)] at hx
  exact hx
theorem rnd_le (x K : Nat) : rnd x K ≤ 2047 * 2 ^ 52 := by
  unfold rnd
  split
  · omega
  · exact Nat.min_le_right _ _

theorem near_add {a b f s : Nat} (ha : Fin a) (hb : Fin b) (hs : s = fadd a b) (hf : rg s < 2047 * 2 ^ 52) : (V s - (V a + V b)).natAbs ≤ (V f - (V a + V b)).natAbs := by
  rw [fadd_fin ha hb] at hs
  have h1 := fin_word hf hs (rnd_le _ _)
  rw [hs, V_word _ (by omega)]
  have h2 := rnd_best (r := rg f) h1
  rw [Nat.pow_zero, Nat.mul_one, Nat.mul_one] at h2
  refine sign_near (T := V a + V b) (R := RV (rnd (V a + V b).natAbs 0)) h2 ?_ (mg_natAbs f).symm
  by_cases h0 : V a + V b = 0
  · left; rw [h0]; exact ⟨rfl, rfl⟩
  · right; rw [if_neg h0]

theorem sg_V {x : Nat} (h : V x ≠ 0) : sg x = decide (V x < 0) := by
  unfold V at *
  cases hsz : sg x
  · rw [hsz] at h; simp at h ⊢
  · rw [hsz] at h; simp at h ⊢; omega

theorem near_mul {a b f s : Nat} (ha : Fin a) (hb : Fin b) (hs : s = fmul a b) (hf : rg s < 2047 * 2 ^ 52) : (V s * (ONE : Int) - V a * V b).natAbs ≤ (V f * (ONE : Int) - V a * V b).natAbs := by
  rw [fmul_fin ha hb] at hs
  have h1 := fin_word hf hs (rnd_le _ _)
  rw [hs, V_word _ (by omega)]
  have h2 := rnd_best (r := rg f) h1
  obtain ⟨z, hz⟩ : ∃ z, z = 1074 := ⟨_, rfl⟩
  rw [← hz] at h2 ⊢
  rw [← ONE_eq z hz] at h2
  have h3 : mg a * mg b = (V a * V b).natAbs := by rw [mg_natAbs, mg_natAbs, Int.natAbs_mul]
  have h5 := sign_near (T := V a * V b) (Z := V f * (ONE : Int)) (R := RV (rnd (mg a * mg b) z) * ONE) (r := RV (rg f) * ONE) (neg := sg a ^^ sg b) (by rw [← h3]; exact h2) ?_ (by rw [Int.natAbs_mul, Int.natAbs_natCast, ← mg_natAbs]; rfl)
  · have e : (if (sg a ^^ sg b) = true then -(((RV (rnd (mg a * mg b) z) * ONE : Nat)) : Int) else ((RV (rnd (mg a * mg b) z) * ONE : Nat) : Int)) = (if (sg a ^^ sg b) = true then -(RV (rnd (mg a * mg b) z) : Int) else (RV (rnd (mg a * mg b) z) : Int)) * (ONE : Int) := by
      split
      · rw [Int.natCast_mul, Int.neg_mul]
      · rw [Int.natCast_mul]
    rw [e] at h5
    exact h5
  · by_cases h0 : V a * V b = 0
    · left
      refine ⟨h0, ?_⟩
      rw [h3, h0]
      have : rnd (0 : Int).natAbs z = 0 := rfl
      rw [this, show RV 0 = 0 from rfl, Nat.zero_mul]
    · right
      have ha0 : V a ≠ 0 := fun h => h0 (by rw [h, Int.zero_mul])
      have hb0 : V b ≠ 0 := fun h => h0 (by rw [h, Int.mul_zero])
      rw [sg_V ha0, sg_V hb0]
      generalize V a = x at *
      generalize V b = y at *
      by_cases hx : x < 0
      · by_cases hy : y < 0
        · have := Int.mul_pos_of_neg_of_neg hx hy
          simp [hx, hy]; omega
        · have := Int.mul_neg_of_neg_of_pos hx (show 0 < y by omega)
          simp [hx, hy, this]
      · by_cases hy : y < 0
        · have := Int.mul_neg_of_pos_of_neg (show 0 < x by omega) hy
          simp [hx, hy, this]
        · have := Int.mul_pos (show 0 < x by omega) (show 0 < y by omega)
          simp [hx, hy]; omega

theorem fin_of {x : Nat} (h : x < 2 ^ 64) (hf : isFin x = true) : Fin x := ⟨h, of_decide_eq_true hf⟩
theorem VV_of {x : Nat} (hf : isFin x = true) : VV x = V x := VV_fin (of_decide_eq_true hf)
theorem canon_fin {x y : Nat} (h : x < 2 ^ 64) (hf : isFin x = true) (hc : canon x = y) : x = y := by
  have := (fin_of h hf).notNaN
  rw [canon_of this] at hc
  exact hc
theorem cmpv_le {a b : Nat} (h : a ≤ b) : cmpv (a : Int) (b : Int) ≤ 0 := by
  unfold cmpv
  split
  · decide
  · split
    · decide
    · omega
end Go.Proofs.Ytemneeknemijpaa.Fl
