/- The squares of halfway to the floats beside a root: plain. No condition. -/
import Derived.Test.YtemneeknemijpaaRq
import Derived.Test.YtemneeknemijpaaSb
namespace Go.Proofs.Ytemneeknemijpaa.Fl
open Ieee

theorem sq_mono {a b : Nat} (h : a ≤ b) : a * a ≤ b * b := Nat.mul_le_mul h h
/-- above and below a rounded root -/
theorem root_sides {n h : Nat} (hh : 0 < h) {N : Nat} (hN : N = rne (stq n) (4 * h)) : 16 * n ≤ ((2 * N + 1) * (4 * h)) * ((2 * N + 1) * (4 * h)) ∧
    (∀ B, B ≤ 2 * stq n → B % 4 = 0 → B * B ≤ 16 * n) := by
  have hs := isq_so n
  obtain ⟨w, hw⟩ : ∃ w, isq n = w := ⟨_, rfl⟩
  rw [hw] at hs
  obtain ⟨h1, h2⟩ := rne_near (stq n) (4 * h) (by omega)
  rw [← hN] at h1 h2
  have e1 : (2 * N + 1) * (4 * h) = 4 * ((2 * N + 1) * h) := by ac_rfl
  have e0 : 2 * (4 * h * N) + 4 * h = 4 * ((2 * N + 1) * h) := by
    rw [Nat.add_mul, Nat.one_mul, Nat.mul_add, show 2 * (4 * h * N) = 4 * (2 * N * h) by ac_rfl]
  rw [e0] at h2
  rw [e1]
  generalize (2 * N + 1) * h = M at *
  have e2 : 4 * M * (4 * M) = 16 * (M * M) := by rw [Nat.mul_mul_mul_comm]
  have e3 : ∀ B, B % 4 = 0 → ∃ b, B = 4 * b ∧ B * B = 16 * (b * b) := fun B hB => ⟨B / 4, by omega, by
    have : B = 4 * (B / 4) := by omega
    generalize B / 4 = b at *
    rw [this, Nat.mul_mul_mul_comm]⟩
  have hlo := hs.lo
  have hhi := hs.hi
  by_cases he : w * w = n
  · have hv := stq_exact he
    rw [hv] at h2 ⊢
    refine ⟨?_, fun B hB h4 => ?_⟩
    · rw [e2]
      have := sq_mono (show w ≤ M by omega)
      omega
    · obtain ⟨b, hb, hbb⟩ := e3 B h4
      rw [hbb]
      have := sq_mono (show b ≤ w by omega)
      omega
  · have hv := stq_not hs he
    rw [hv] at h2 ⊢
    refine ⟨?_, fun B hB h4 => ?_⟩
    · rw [e2]
      have := sq_mono (show w + 1 ≤ M by omega)
      omega
    · obtain ⟨b, hb, hbb⟩ := e3 B h4
      rw [hbb]
      have := sq_mono (show b ≤ w by omega)
      omega

theorem stq_lt {n : Nat} (h : n < 2 ^ 110) : stq n < 2 ^ 56 := by
  have hs := isq_so n
  have hw : isq n < 2 ^ 55 := by
    apply Nat.lt_of_not_le
    intro h1
    have h2 := sq_mono h1
    have h3 := hs.lo
    have e : (2 : Nat) ^ 55 * 2 ^ 55 = 2 ^ 110 := by decide
    omega
  unfold stq
  have : (isq n * isq n != n).toNat ≤ 1 := by cases (isq n * isq n != n) <;> decide
  omega

theorem V_pos_word {r : Nat} (h : r < 2 ^ 63) : V r = (RV r : Int) ∧ sg r = false ∧ rg r = r := by
  have e1 : rg r = r := Nat.mod_eq_of_lt h
  have e2 : sg r = false := by unfold sg; rw [Nat.div_eq_of_lt h]; rfl
  refine ⟨?_, e2, e1⟩
  unfold V mg
  rw [e2, e1]
  rfl

/-- a positive float's root, and the floats beside it -/
theorem root_law {a r : Nat} (ha : Fin a) (hpos : 0 < V a) (hr : canon r = fsqrt a) : 0 < r ∧ r + 1 < 2047 * 2 ^ 52 ∧
    V a * (ONE : Int) * 4 ≤ (V r + V (r + 1)) * (V r + V (r + 1)) ∧ (V r + V (r - 1)) * (V r + V (r - 1)) ≤ V a * (ONE : Int) * 4 := by
  have hs : sg a = false := by rw [sg_V (by omega)]; exact decide_eq_false (by omega)
  have hm : rg a ≠ 0 := by
    intro h0
    have : V a = 0 := by unfold V mg; rw [h0, hs]; rfl
    omega
  obtain ⟨n, f, t, hn1, hn2, hn, hf, hq⟩ := fsqrt_val ha hs hm
  have hV : V a = ((mant (rg a) * 2 ^ ex (rg a) : Nat) : Int) := by
    have := V_eq a
    rw [hs] at this
    simpa using this
  have hx2 : ex (rg a) ≤ 2045 := by unfold ex; have := ha.2; omega
  have hm0 : mant (rg a) ≠ 0 := by unfold mant; split <;> omega
  have ht : t < 110 := by
    have h1 : 1 * 2 ^ t ≤ mant (rg a) * 2 ^ t := Nat.mul_le_mul_right _ (by omega)
    rw [← hn, Nat.one_mul] at h1
    exact (Nat.pow_lt_pow_iff_right (a := 2) (by decide)).1 (Nat.lt_of_le_of_lt h1 hn2)
  generalize mant (rg a) = m at *
  generalize ex (rg a) = X at *
  obtain ⟨κ, hκ⟩ : ∃ κ : Nat, f - 1 + 1074 = (κ : Int) := ⟨(f - 1 + 1074).toNat, by omega⟩
  obtain ⟨z, hz⟩ : ∃ z, z = 1074 := ⟨_, rfl⟩
  have hA : V a * (ONE : Int) * 4 = ((16 * n * 2 ^ (2 * κ) : Nat) : Int) := by
    rw [hV, ONE_eq z hz, hn, show (4 : Int) = ((2 ^ 2 : Nat) : Int) from rfl, ← Int.natCast_mul, ← Int.natCast_mul]
    congr 1
    rw [show (16 : Nat) = 2 ^ 4 from rfl, Nat.mul_assoc, Nat.mul_assoc, Nat.mul_comm (2 ^ 4), Nat.mul_assoc, Nat.mul_assoc, ← Nat.pow_add, ← Nat.pow_add, ← Nat.pow_add, ← Nat.pow_add]
    congr 2
    omega
  rw [hA]
  rw [hκ] at hq
  have hκ9 : κ ≤ 1559 := by omega
  clear hf hV hA
  have hl := stq_log2 hn1
  have hv56 := stq_lt hn2
  obtain ⟨v, hv⟩ : ∃ v, stq n = v := ⟨_, rfl⟩
  have hsd := fun {h : Nat} (hh : 0 < h) => root_sides (n := n) hh rfl
  rw [hv] at hl hv56 hq hsd
  have hv0 : v ≠ 0 := by intro h; rw [h] at hl; exact absurd hl (by decide)
  have hlog := Nat.log2_self_le hv0
  have hL56 : v.log2 < 56 := (Nat.log2_lt hv0).2 hv56
  obtain ⟨g, hg⟩ : ∃ g, v.log2 = g + 54 := ⟨v.log2 - 54, by omega⟩
  have hr1 := rnd_any v κ 0 (κ : Int) (by omega)
  have hvk : v * 2 ^ κ ≠ 0 := Nat.mul_ne_zero hv0 (by have := Nat.two_pow_pos κ; omega)
  have hk := kept_spec (K := 0) hvk
  rw [rnd_eq hvk] at hr1
  rw [log2_mul_pow hv0, hg] at hr1 hk
  have eq : g + 54 + κ - 52 - 0 = g + 2 + κ := by omega
  have eG : 2 ^ (g + 2) = 4 * 2 ^ g := by rw [Nat.pow_add, Nat.mul_comm]
  rw [eq] at hr1 hk
  rw [show g + 2 + κ + 0 = g + 2 + κ from rfl] at hr1 hk
  rw [Nat.pow_add 2 (g + 2) κ, rne_scale _ _ _ (Nat.two_pow_pos κ), eG] at hr1 hk
  obtain ⟨hup, hdn⟩ := hsd (Nat.two_pow_pos g)
  obtain ⟨N, hN⟩ : ∃ N, rne v (4 * 2 ^ g) = N := ⟨_, rfl⟩
  have hnear := rne_near v (4 * 2 ^ g) (by have := Nat.two_pow_pos g; omega)
  rw [hN] at hr1 hk hup hnear
  obtain ⟨q, hqq⟩ : ∃ q, g + 2 + κ = q := ⟨_, rfl⟩
  rw [hqq] at hr1 hk
  have hq9 : q ≤ 1620 := by omega
  obtain ⟨hk1, hk2⟩ := hk
  have hN52 : 2 ^ 52 ≤ N := by rcases hk2 with h | h; omega; exact h
  rw [Nat.min_eq_left (by omega)] at hr1
  obtain ⟨R, hR⟩ : ∃ R, q * 2 ^ 52 + N = R := ⟨_, rfl⟩
  rw [hR] at hr1
  have hRlt : R + 1 < 2047 * 2 ^ 52 := by omega
  have er : r = R := by
    rw [hq, ← hr1] at hr
    have := of_canon hr (isNaN_word false (by omega))
    rw [this]
    unfold Format.word
    simp
  subst er
  refine ⟨by omega, hRlt, ?_, ?_⟩
  · rw [(V_pos_word (r := r) (by omega)).1, (V_pos_word (r := r + 1) (by omega)).1, ← Int.natCast_add, ← Int.natCast_mul]
    apply Int.ofNat_le.2
    have h1 : RV r = N * 2 ^ q := by rw [← hR]; exact RV_make q N hk1 (.inr hN52)
    have h2 : (N + 1) * 2 ^ q ≤ RV (r + 1) := by
      by_cases h53 : N + 1 ≤ 2 ^ 53
      · rw [show r + 1 = q * 2 ^ 52 + (N + 1) by omega, RV_make q (N + 1) h53 (.inr (by omega))]
        exact Nat.le_refl _
      · rw [show r + 1 = (q + 1) * 2 ^ 52 + (2 ^ 52 + 1) by omega, RV_make (q + 1) (2 ^ 52 + 1) (by decide) (.inr (by decide)), Nat.pow_succ 2 q, Nat.mul_comm (2 ^ q) 2, ← Nat.mul_assoc]
        exact Nat.mul_le_mul_right _ (by omega)
    have h3 : (2 * N + 1) * (4 * 2 ^ g) * 2 ^ κ ≤ RV r + RV (r + 1) := by
      rw [← eG, Nat.mul_assoc, ← Nat.pow_add, hqq, h1]
      refine Nat.le_trans (Nat.le_of_eq ?_) (Nat.add_le_add_left h2 _)
      rw [← Nat.add_mul]
      congr 1
      omega
    have h4 := sq_mono h3
    rw [Nat.mul_mul_mul_comm, ← Nat.pow_add, show κ + κ = 2 * κ by omega] at h4
    exact Nat.le_trans (Nat.mul_le_mul_right _ hup) h4
  · rw [(V_pos_word (r := r) (by omega)).1, (V_pos_word (r := r - 1) (by omega)).1, ← Int.natCast_add, ← Int.natCast_mul]
    apply Int.ofNat_le.2
    have h1 : RV r = N * 2 ^ q := by rw [← hR]; exact RV_make q N hk1 (.inr hN52)
    have h3 : ∃ B, B ≤ 2 * v ∧ B % 4 = 0 ∧ RV r + RV (r - 1) ≤ B * 2 ^ κ := by
      by_cases h52 : N = 2 ^ 52
      · refine ⟨2 * N * (4 * 2 ^ g), ?_, ?_, ?_⟩
        · have e : 2 * N * (4 * 2 ^ g) = 2 * 2 ^ (g + 54) := by
            rw [h52, ← eG, Nat.mul_assoc, ← Nat.pow_add]; congr 2; omega
          rw [e, ← hg]
          exact Nat.mul_le_mul_left 2 hlog
        · rw [show 2 * N * (4 * 2 ^ g) = 4 * (2 * N * 2 ^ g) by ac_rfl]; exact Nat.mul_mod_right 4 _
        · have h4 : RV (r - 1) ≤ N * 2 ^ q := by
            rw [show r - 1 = (q - 1) * 2 ^ 52 + (2 ^ 53 - 1) by omega, RV_make (q - 1) (2 ^ 53 - 1) (by decide) (.inr (by decide)), h52]
            obtain ⟨p, rfl⟩ : ∃ p, q = p + 1 := ⟨q - 1, by omega⟩
            rw [Nat.add_sub_cancel, Nat.pow_succ 2 p, Nat.mul_comm (2 ^ p) 2, ← Nat.mul_assoc]
            exact Nat.mul_le_mul_right _ (by decide)
          rw [← eG, Nat.mul_assoc, ← Nat.pow_add, hqq, h1, Nat.mul_assoc 2 N]
          omega
      · refine ⟨(2 * N - 1) * (4 * 2 ^ g), ?_, ?_, ?_⟩
        · have e : (2 * N - 1) * (4 * 2 ^ g) + 4 * 2 ^ g = 2 * (4 * 2 ^ g * N) := by
            obtain ⟨p, rfl⟩ : ∃ p, N = p + 1 := ⟨N - 1, by omega⟩
            rw [show 2 * (p + 1) - 1 = 2 * p + 1 by omega, ← Nat.succ_mul, show (2 * p + 1).succ = 2 * (p + 1) by omega]
            ac_rfl
          have h5 := hnear.1
          omega
        · rw [show (2 * N - 1) * (4 * 2 ^ g) = 4 * ((2 * N - 1) * 2 ^ g) by ac_rfl]; exact Nat.mul_mod_right 4 _
        · have h4 : RV (r - 1) = (N - 1) * 2 ^ q := by
            rw [show r - 1 = q * 2 ^ 52 + (N - 1) by omega]
            exact RV_make q (N - 1) (by omega) (.inr (by omega))
          rw [← eG, Nat.mul_assoc, ← Nat.pow_add, hqq, h1, h4, ← Nat.add_mul]
          exact Nat.mul_le_mul_right _ (by omega)
    obtain ⟨B, hB1, hB2, hB3⟩ := h3
    have h4 := sq_mono hB3
    rw [Nat.mul_mul_mul_comm B, ← Nat.pow_add, show κ + κ = 2 * κ by omega] at h4
    exact Nat.le_trans h4 (Nat.mul_le_mul_right _ (hdn B hB1 hB2))
end Go.Proofs.Ytemneeknemijpaa.Fl
