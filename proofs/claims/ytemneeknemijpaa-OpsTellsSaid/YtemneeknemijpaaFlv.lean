/- Rounding to the nearest float, ties to even, as a plain function on naturals; what is representable is told without rounding. No condition. -/
import Derived.Test.YtemneeknemijpaaFl
namespace Go.Proofs.Ytemneeknemijpaa.Fl
open Ieee

/-- to the nearest multiple, ties to even: how many times -/
def rne (n g : Nat) : Nat := n / g + (g < 2 * (n % g) || (g == 2 * (n % g) && (n / g) % 2 == 1)).toNat

theorem cut_eq (s : Bool) (n d : Nat) : Toward.even.cut s n d = rne n (2 ^ d) := by
  unfold Toward.cut rne
  simp only [Nat.one_shiftLeft]
  by_cases h : d ≤ n.log2 + 2
  · rw [Nat.min_eq_left h]
  · rw [Nat.min_eq_right (by omega)]
    have h1 : n < 2 ^ (n.log2 + 1) := Nat.lt_log2_self
    have h2 : 2 ^ (n.log2 + 2) ≤ 2 ^ d := Nat.pow_le_pow_right (by decide) (by omega)
    have h3 : 2 ^ (n.log2 + 2) = 2 * 2 ^ (n.log2 + 1) := by rw [Nat.pow_succ, Nat.mul_comm]
    have e1 : n / 2 ^ (n.log2 + 2) = 0 := Nat.div_eq_of_lt (by omega)
    have e2 : n / 2 ^ d = 0 := Nat.div_eq_of_lt (by omega)
    have e3 : n % 2 ^ (n.log2 + 2) = n := Nat.mod_eq_of_lt (by omega)
    have e4 : n % 2 ^ d = n := Nat.mod_eq_of_lt (by omega)
    rw [e1, e2, e3, e4]
    have f1 : decide (2 ^ (n.log2 + 2) < 2 * n) = false := by simp; omega
    have f2 : decide (2 ^ d < 2 * n) = false := by simp; omega
    have f3 : (2 ^ (n.log2 + 2) == 2 * n) = false := by rw [beq_eq_false_iff_ne]; omega
    have f4 : (2 ^ d == 2 * n) = false := by rw [beq_eq_false_iff_ne]; omega
    rw [f1, f2, f3, f4]

theorem pow_mono {a b : Nat} (h : a ≤ b) : 2 ^ a ≤ 2 ^ b := Nat.pow_le_pow_right (by decide) h

/-- 2 to the 1024, in units of the least float -/
def TOP : Nat := 2 ^ 2098
theorem TOP_eq (n : Nat) (h : n = 2098) : TOP = 2 ^ n := by subst h; unfold TOP; rfl

theorem top_le {j z k q : Nat} (hn : j + z = 2098) (hk : 2 ^ j ≤ k) (hq : z ≤ q) : TOP ≤ k * 2 ^ q := by
  rw [TOP_eq _ hn, Nat.pow_add]
  exact Nat.mul_le_mul hk (pow_mono hq)

theorem rne_scale (n g c : Nat) (hc : 0 < c) : rne (n * c) (g * c) = rne n g := by
  unfold rne
  rw [Nat.mul_div_mul_right _ _ hc, Nat.mul_mod_mul_right]
  have e1 : decide (g * c < 2 * (n % g * c)) = decide (g < 2 * (n % g)) := by
    rw [← Nat.mul_assoc, decide_eq_decide]
    exact Nat.mul_lt_mul_right hc
  have e2 : (g * c == 2 * (n % g * c)) = (g == 2 * (n % g)) := by
    rw [← Nat.mul_assoc, Bool.eq_iff_iff, beq_iff_eq, beq_iff_eq]
    exact Nat.mul_right_cancel_iff hc
  rw [e1, e2]

theorem rne_mul (k g : Nat) (hg : 0 < g) : rne (k * g) g = k := by
  unfold rne
  rw [Nat.mul_div_cancel _ hg, Nat.mul_mod_left]
  simp
  omega

/-- how near it is -/
theorem rne_near (n g : Nat) (hg : 0 < g) : 2 * (g * rne n g) ≤ 2 * n + g ∧ 2 * n ≤ 2 * (g * rne n g) + g := by
  unfold rne
  have h := Nat.div_add_mod n g
  have h2 := Nat.mod_lt n hg
  generalize n / g = q at *
  generalize n % g = r at *
  cases hb : (decide (g < 2 * r) || (g == 2 * r && q % 2 == 1))
  · simp only [Bool.toNat_false, Nat.add_zero]
    simp only [Bool.or_eq_false_iff, decide_eq_false_iff_not, Bool.and_eq_false_iff] at hb
    omega
  · simp only [Bool.toNat_true, Nat.mul_add, Nat.mul_one]
    simp only [Bool.or_eq_true, decide_eq_true_eq, Bool.and_eq_true, beq_iff_eq] at hb
    omega

/-- the rung of 'x / 2^K', in units of the least float -/
def rnd (x K : Nat) : Nat := if x = 0 then 0 else min ((x.log2 - 52 - K) * 2 ^ 52 + rne x (2 ^ (x.log2 - 52 - K + K))) (2047 * 2 ^ 52)

theorem log2_mul_pow {m : Nat} (h : m ≠ 0) (a : Nat) : (m * 2 ^ a).log2 = m.log2 + a := by
  rw [Nat.log2_eq_iff (by have := Nat.two_pow_pos a; exact Nat.mul_ne_zero h (by omega))]
  have h1 := Nat.log2_self_le h
  have h2 := @Nat.lt_log2_self m
  rw [Nat.pow_add, show m.log2 + a + 1 = (m.log2 + 1) + a by omega, Nat.pow_add 2 (m.log2 + 1)]
  exact ⟨Nat.mul_le_mul_right _ h1, Nat.mul_lt_mul_of_pos_right h2 (Nat.two_pow_pos a)⟩

theorem rung_eq (m : Nat) (p : Int) (a K : Nat) (h : p = (a : Int) - 1074 - K) : rung m p = rnd (m * 2 ^ a) K := by
  unfold rung rnd
  by_cases hm : m = 0
  · subst hm; simp
  have hx : m * 2 ^ a ≠ 0 := Nat.mul_ne_zero hm (by have := Nat.two_pow_pos a; omega)
  rw [if_neg hm, if_neg hx, cut_eq, infRung, binade, leastPlace, log2_mul_pow hm]
  have hf : (D.fractionBits : Int) = 52 := rfl
  rw [hf]
  generalize hl : m.log2 = l
  have eq1 : (max (p + (l : Int) - 52) (-1074) - -1074).toNat = l + a - 52 - K := by omega
  rw [eq1]
  congr 2
  -- the two roundings are one
  generalize hq : l + a - 52 - K = q
  have eL : max (p + (l : Int) - 52) (-1074) = (q : Int) - 1074 := by omega
  rw [eL]
  by_cases hc : q + K ≤ a
  · -- nothing is dropped
    have d0 : ((q : Int) - 1074 - p).toNat = 0 := by omega
    have s0 : (p - ((q : Int) - 1074)).toNat = a - (q + K) := by omega
    rw [d0, s0, Nat.pow_zero, Nat.shiftLeft_eq]
    have e1 : rne (m * 2 ^ (a - (q + K))) 1 = m * 2 ^ (a - (q + K)) := by
      have := rne_mul (m * 2 ^ (a - (q + K))) 1 (by decide)
      rwa [Nat.mul_one] at this
    rw [e1]
    have e2 : m * 2 ^ a = (m * 2 ^ (a - (q + K))) * 2 ^ (q + K) := by
      rw [Nat.mul_assoc, ← Nat.pow_add, Nat.sub_add_cancel hc]
    rw [e2, rne_mul _ _ (Nat.two_pow_pos _)]
  · have d0 : ((q : Int) - 1074 - p).toNat = q + K - a := by omega
    have s0 : (p - ((q : Int) - 1074)).toNat = 0 := by omega
    rw [d0, s0, Nat.shiftLeft_zero]
    rw [← rne_scale m (2 ^ (q + K - a)) (2 ^ a) (Nat.two_pow_pos _), ← Nat.pow_add, Nat.sub_add_cancel (by omega)]

theorem rnd_scale (x K j : Nat) : rnd (x * 2 ^ j) (K + j) = rnd x K := by
  by_cases hx : x = 0
  · subst hx; simp [rnd]
  unfold rnd
  have hx2 : x * 2 ^ j ≠ 0 := Nat.mul_ne_zero hx (by have := Nat.two_pow_pos j; omega)
  rw [if_neg hx, if_neg hx2, log2_mul_pow hx]
  have e : x.log2 + j - 52 - (K + j) = x.log2 - 52 - K := by omega
  rw [e, ← Nat.add_assoc, Nat.pow_add 2 (x.log2 - 52 - K + K) j, rne_scale _ _ _ (Nat.two_pow_pos _)]

/-- the size of a rung, in units of the least float -/
def RV (r : Nat) : Nat := if r < 2 ^ 52 then r else (2 ^ 52 + r % 2 ^ 52) * 2 ^ (r / 2 ^ 52 - 1)

theorem RV_make (q k : Nat) (h : k ≤ 2 ^ 53) (h2 : q = 0 ∨ 2 ^ 52 ≤ k) : RV (q * 2 ^ 52 + k) = k * 2 ^ q := by
  unfold RV
  by_cases h0 : q * 2 ^ 52 + k < 2 ^ 52
  · have hq : q = 0 := by
      rcases h2 with h2 | h2
      · exact h2
      · omega
    subst hq
    rw [if_pos h0]; simp
  · rw [if_neg h0]
    by_cases hk : k < 2 ^ 53
    · have hk2 : 2 ^ 52 ≤ k := by rcases h2 with h2 | h2 <;> omega
      have e1 : (q * 2 ^ 52 + k) % 2 ^ 52 = k - 2 ^ 52 := by omega
      have e2 : (q * 2 ^ 52 + k) / 2 ^ 52 - 1 = q := by omega
      rw [e1, e2, show 2 ^ 52 + (k - 2 ^ 52) = k from by omega]
    · have hk3 : k = 2 ^ 53 := by omega
      have e1 : (q * 2 ^ 52 + k) % 2 ^ 52 = 0 := by omega
      have e2 : (q * 2 ^ 52 + k) / 2 ^ 52 - 1 = q + 1 := by omega
      have e3 : k = 2 ^ 52 * 2 := by omega
      rw [e1, e2, Nat.pow_succ 2 q, Nat.add_zero, e3, Nat.mul_assoc, Nat.mul_comm 2 (2 ^ q)]

/-- what is kept of a number that is rounded -/
theorem kept_spec {x K : Nat} (hx : x ≠ 0) : rne x (2 ^ (x.log2 - 52 - K + K)) ≤ 2 ^ 53 ∧ (x.log2 - 52 - K = 0 ∨ 2 ^ 52 ≤ rne x (2 ^ (x.log2 - 52 - K + K))) := by
  have h1 := Nat.log2_self_le hx
  have h2 := @Nat.lt_log2_self x
  generalize x.log2 = l at *
  generalize hq : l - 52 - K = q
  generalize hg : 2 ^ (q + K) = g
  have hgp : 0 < g := hg ▸ Nat.two_pow_pos _
  have hn := rne_near x g hgp
  generalize rne x g = k at *
  constructor
  · -- x < 2^(l+1) ≤ g * 2^53
    have h3 : 2 ^ (l + 1) ≤ g * 2 ^ 53 := by
      rw [← hg, ← Nat.pow_add]
      exact Nat.pow_le_pow_right (by decide) (by omega)
    have h4 : x < g * 2 ^ 53 := by omega
    apply Nat.le_of_not_lt
    intro h5
    have h6 : g * (2 ^ 53 + 1) ≤ g * k := Nat.mul_le_mul_left g h5
    rw [Nat.mul_add, Nat.mul_one] at h6
    omega
  · by_cases h0 : q = 0
    · exact .inl h0
    · right
      have h3 : g * 2 ^ 52 = 2 ^ l := by
        rw [← hg, ← Nat.pow_add]; congr 1; omega
      apply Nat.le_of_not_lt
      intro h5
      have h6 : g * (k + 1) ≤ g * 2 ^ 52 := Nat.mul_le_mul_left g h5
      rw [Nat.mul_add, Nat.mul_one] at h6
      omega

theorem rnd_eq {x K : Nat} (hx : x ≠ 0) : rnd x K = min ((x.log2 - 52 - K) * 2 ^ 52 + rne x (2 ^ (x.log2 - 52 - K + K))) (2047 * 2 ^ 52) := by
  unfold rnd; rw [if_neg hx]

/-- what can be told without rounding is -/
theorem rnd_exact {c t K : Nat} (hc : c < 2 ^ 53) (hlt : c * 2 ^ t < TOP) : RV (rnd (c * 2 ^ (t + K)) K) = c * 2 ^ t ∧ rnd (c * 2 ^ (t + K)) K < 2047 * 2 ^ 52 := by
  by_cases h0 : c = 0
  · subst h0; simp [rnd, RV]
  have hx : c * 2 ^ (t + K) ≠ 0 := Nat.mul_ne_zero h0 (by have := Nat.two_pow_pos (t + K); omega)
  have hk := kept_spec (K := K) hx
  rw [rnd_eq hx]
  rw [log2_mul_pow h0] at *
  have hl : c.log2 < 53 := (Nat.log2_lt h0).2 hc
  generalize hq : c.log2 + (t + K) - 52 - K = q at *
  have hqt : q ≤ t := by omega
  have e1 : c * 2 ^ (t + K) = (c * 2 ^ (t - q)) * 2 ^ (q + K) := by
    rw [Nat.mul_assoc, ← Nat.pow_add]; congr 2; omega
  have eR : rne (c * 2 ^ (t + K)) (2 ^ (q + K)) = c * 2 ^ (t - q) := by rw [e1, rne_mul _ _ (Nat.two_pow_pos _)]
  clear e1
  rw [eR] at hk ⊢
  have e2 : RV (q * 2 ^ 52 + c * 2 ^ (t - q)) = c * 2 ^ t := by
    rw [RV_make _ _ hk.1 hk.2, Nat.mul_assoc, ← Nat.pow_add, Nat.sub_add_cancel hqt]
  have hlt2 : q * 2 ^ 52 + c * 2 ^ (t - q) < 2047 * 2 ^ 52 := by
    apply Nat.lt_of_not_le
    intro hge
    -- its size would be 2^2098 at least
    rw [← e2, RV_make _ _ hk.1 hk.2] at hlt
    by_cases hq2 : 2046 ≤ q
    · have hk2 : 2 ^ 52 ≤ c * 2 ^ (t - q) := by rcases hk.2 with h | h <;> omega
      exact absurd (Nat.lt_of_le_of_lt (top_le (by decide) hk2 hq2) hlt) (Nat.lt_irrefl _)
    · have h53 := hk.1
      have hq3 : q = 2045 := by omega
      have hk3 : c * 2 ^ (t - q) = 2 ^ 53 := by omega
      exact absurd (Nat.lt_of_le_of_lt (top_le (j := 53) (z := 2045) (by decide) (Nat.le_of_eq hk3.symm) (Nat.le_of_eq hq3.symm)) hlt) (Nat.lt_irrefl _)
  rw [Nat.min_eq_left (by omega)]
  exact ⟨e2, hlt2⟩

end Go.Proofs.Ytemneeknemijpaa.Fl
