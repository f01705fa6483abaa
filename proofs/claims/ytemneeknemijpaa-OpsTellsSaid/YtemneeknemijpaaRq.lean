/- The model's square root of a float, whatever number of places it is told with: plain. No condition. -/
import Derived.Test.YtemneeknemijpaaNn
import Derived.Test.YtemneeknemijpaaFk
namespace Go.Proofs.Ytemneeknemijpaa.Fl
open Ieee

/-- w is the root of n, cut -/
structure Sq (n w : Nat) : Prop where
  lo : w * w ≤ n
  hi : n < (w + 1) * (w + 1)
theorem rootFrom_so (n : Nat) : ∀ (todo r : Nat), RootSo n r todo → Sq n (Datum.rootFrom n todo r)
  | 0, r, h => ⟨h.lo, by have := h.hi; rw [Nat.pow_zero] at this; exact this⟩
  | todo + 1, r, h => by
    rw [Datum.rootFrom]
    rw [Nat.one_shiftLeft]
    by_cases ht : (r + 2 ^ todo) * (r + 2 ^ todo) ≤ n
    · rw [if_pos ht]; exact rootFrom_so n todo _ (h.take ht)
    · rw [if_neg ht]; exact rootFrom_so n todo _ (h.skip ht)
def isq (n : Nat) : Nat := Datum.rootFrom n (n.log2 / 2 + 1) 0
theorem isq_so (n : Nat) : Sq n (isq n) := rootFrom_so n _ _ ⟨by simp, by
  rw [Nat.zero_add, ← Nat.pow_add]
  by_cases h0 : n = 0
  · subst h0; exact Nat.two_pow_pos _
  · exact Nat.lt_of_lt_of_le Nat.lt_log2_self (Nat.pow_le_pow_right (by decide) (by omega))⟩
theorem Sq.uniq {n w v : Nat} (h : Sq n w) (k : Sq n v) : w = v := by
  apply Decidable.byContradiction
  intro hne
  rcases Nat.lt_or_gt_of_ne hne with h1 | h1
  · have := Nat.mul_le_mul (show w + 1 ≤ v by omega) (show w + 1 ≤ v by omega)
    have := h.hi; have := k.lo; omega
  · have := Nat.mul_le_mul (show v + 1 ≤ w by omega) (show v + 1 ≤ w by omega)
    have := h.lo; have := k.hi; omega
/-- the root with one digit more, which is 1 where it is not whole -/
def stq (n : Nat) : Nat := 2 * isq n + (isq n * isq n != n).toNat
theorem stq_of {n w : Nat} (h : Sq n w) : stq n = 2 * w + (w * w != n).toNat := by unfold stq; rw [(isq_so n).uniq h]
theorem stq_exact {n w : Nat} (h : w * w = n) : stq n = 2 * w := by
  have : Sq n w := ⟨by omega, by rw [Nat.add_mul, Nat.mul_add]; omega⟩
  rw [stq_of this, h]; simp
theorem stq_not {n w : Nat} (h : Sq n w) (hne : w * w ≠ n) : stq n = 2 * w + 1 := by
  rw [stq_of h, show (w * w != n) = true from bne_iff_ne.2 hne]; rfl

theorem stq_step (n : Nat) : stq (4 * n) = 2 * stq n ∨ (stq n % 2 = 1 ∧ (stq (4 * n) = 2 * stq n - 1 ∨ stq (4 * n) = 2 * stq n + 1)) := by
  obtain ⟨w, hw⟩ : ∃ w, isq n = w := ⟨_, rfl⟩
  have h := isq_so n
  rw [hw] at h
  by_cases he : w * w = n
  · left
    rw [stq_exact he, stq_exact (w := 2 * w) (by rw [← he, Nat.mul_mul_mul_comm])]
  · have hv := stq_not h he
    have hlo := h.lo
    have hhi := h.hi
    rw [Nat.add_mul, Nat.mul_add, Nat.one_mul, Nat.mul_one] at hhi
    have e2 : 2 * w * (2 * w) = 4 * (w * w) := by rw [Nat.mul_mul_mul_comm]
    have e3 : (2 * w + 1) * (2 * w + 1) = 4 * (w * w) + 4 * w + 1 := by rw [Nat.add_mul, Nat.mul_add, e2]; omega
    have e4 : (2 * w + 1 + 1) * (2 * w + 1 + 1) = 4 * (w * w) + 8 * w + 4 := by rw [Nat.add_mul (2 * w + 1) 1, Nat.mul_add (2 * w + 1), e3]; omega
    generalize hW : w * w = W at *
    by_cases h1 : (2 * w + 1) * (2 * w + 1) ≤ 4 * n
    · have hs : Sq (4 * n) (2 * w + 1) := ⟨h1, by rw [e4]; omega⟩
      by_cases h2 : (2 * w + 1) * (2 * w + 1) = 4 * n
      · left; rw [stq_exact h2, hv]
      · right; rw [stq_not hs h2, hv]; omega
    · have hs : Sq (4 * n) (2 * w) := ⟨by rw [e2]; omega, by omega⟩
      right
      rw [stq_not hs (by rw [e2]; omega), hv]
      omega

theorem rne_odd {v v' h : Nat} (hh : 0 < h) (hv : v % 2 = 1) (hv' : v' = 2 * v - 1 ∨ v' = 2 * v + 1) : rne v' (2 * (4 * h)) = rne v (4 * h) := by
  obtain ⟨G, hG⟩ : ∃ G, 4 * h = G := ⟨_, rfl⟩
  rw [hG]
  have hdm := Nat.div_add_mod v G
  have hm := Nat.mod_lt v (show 0 < G by omega)
  obtain ⟨Q, hQ⟩ : ∃ Q, v / G = Q := ⟨_, rfl⟩
  obtain ⟨r, hr⟩ : ∃ r, v % G = r := ⟨_, rfl⟩
  rw [hQ, hr] at hdm
  rw [hr] at hm
  have hrodd : r % 2 = 1 := by
    have : G * Q % 2 = 0 := by rw [← hG, show 4 * h * Q = 2 * (2 * h * Q) by rw [← Nat.mul_assoc, ← Nat.mul_assoc]]; exact Nat.mul_mod_right 2 _
    omega
  have e1 : v' / (2 * G) = Q := by
    rw [Nat.div_eq_iff (by omega)]
    have e : Q * (2 * G) = 2 * (G * Q) := by rw [Nat.mul_comm Q, Nat.mul_assoc]
    rw [e]
    omega
  have e2 : v' % (2 * G) = v' - 2 * (G * Q) := by
    have := Nat.div_add_mod v' (2 * G)
    rw [e1, Nat.mul_assoc] at this
    omega
  unfold rne
  rw [e1, e2, hQ, hr]
  have d1 : decide (2 * G < 2 * (v' - 2 * (G * Q))) = decide (G < 2 * r) := decide_eq_decide.2 (by omega)
  have d2 : (2 * G == 2 * (v' - 2 * (G * Q))) = false := beq_false_of_ne (by omega)
  have d3 : (G == 2 * r) = false := beq_false_of_ne (by omega)
  rw [d1, d2, d3]

theorem log2_near {v v' : Nat} (h2 : 2 ≤ v) (hv : v % 2 = 1) (hv' : v' = 2 * v - 1 ∨ v' = 2 * v + 1) : v'.log2 = v.log2 + 1 := by
  have h0 : v ≠ 0 := by omega
  have h1 := Nat.log2_self_le h0
  have h3 := @Nat.lt_log2_self v
  have hl : v.log2 ≠ 0 := by intro h; rw [h] at h3; omega
  rw [Nat.log2_eq_iff (by omega)]
  obtain ⟨k, hk⟩ : ∃ k, v.log2 = k + 1 := ⟨v.log2 - 1, by omega⟩
  rw [hk] at h1 h3 ⊢
  rw [Nat.pow_succ] at h1 h3 ⊢
  rw [Nat.pow_succ 2 (k + 1 + 1), Nat.pow_succ 2 (k + 1), Nat.pow_succ 2 k]
  rw [Nat.pow_succ 2 k] at h3
  generalize 2 ^ k = p at *
  omega

/-- one place more tells nothing new -/
theorem rndS_step {n : Nat} (hl : 54 ≤ (stq n).log2) (κ : Int) : rndS (stq (4 * n)) (κ - 1) = rndS (stq n) κ ∧ 54 ≤ (stq (4 * n)).log2 := by
  have h0 : stq n ≠ 0 := by intro h; rw [h] at hl; simp at hl
  rcases stq_step n with h | ⟨hodd, h⟩
  · rw [h, Nat.mul_comm]
    constructor
    · have := rndS_shift (stq n) 1 (κ - 1)
      rw [Nat.pow_one] at this
      rw [this]; congr 1; omega
    · have := log2_mul_pow h0 1
      rw [Nat.pow_one] at this
      omega
  · have h2 : 2 ≤ stq n := by
      apply Nat.le_of_not_lt
      intro h3
      have h4 : stq n = 1 := by omega
      rw [h4] at hl
      exact absurd hl (by decide)
    have hlog := log2_near h2 hodd h
    refine ⟨?_, by omega⟩
    generalize stq n = v at *
    generalize stq (4 * n) = v' at *
    obtain ⟨a, b, hab⟩ : ∃ a b : Nat, (a : Int) - b = κ := ⟨κ.toNat, (-κ).toNat, by omega⟩
    have r1 := rnd_any v a b κ hab
    have r2 := rnd_any v' a (b + 1) (κ - 1) (by omega)
    have h0' : v' ≠ 0 := by omega
    have hp := Nat.two_pow_pos a
    rw [← r1, ← r2, rnd_eq (Nat.mul_ne_zero h0 (by omega)), rnd_eq (Nat.mul_ne_zero h0' (by omega)), log2_mul_pow h0, log2_mul_pow h0', hlog]
    have e1 : v.log2 + 1 + a - 52 - (b + 1) = v.log2 + a - 52 - b := by omega
    rw [e1]
    congr 2
    obtain ⟨g, hg⟩ : ∃ g, v.log2 + a - 52 - b + b = g + 2 + a := ⟨v.log2 + a - 52 - b + b - 2 - a, by omega⟩
    rw [← Nat.add_assoc, hg, show g + 2 + a + 1 = (g + 3) + a by omega, Nat.pow_add 2 (g + 3), Nat.pow_add 2 (g + 2), rne_scale _ _ _ hp, rne_scale _ _ _ hp]
    have e2 : 2 ^ (g + 2) = 4 * 2 ^ g := by rw [Nat.pow_add, Nat.mul_comm]
    have e3 : 2 ^ (g + 3) = 2 * (4 * 2 ^ g) := by rw [show g + 3 = g + 2 + 1 from rfl, Nat.pow_succ, e2, Nat.mul_comm]
    rw [e2, e3]
    exact rne_odd (Nat.two_pow_pos g) hodd h
theorem rndS_many {n : Nat} (hl : 54 ≤ (stq n).log2) (κ : Int) : ∀ d : Nat, rndS (stq (n * 4 ^ d)) (κ - d) = rndS (stq n) κ ∧ 54 ≤ (stq (n * 4 ^ d)).log2
  | 0 => by simpa using hl
  | d + 1 => by
    obtain ⟨h1, h2⟩ := rndS_many hl κ d
    obtain ⟨h3, h4⟩ := rndS_step h2 (κ - d)
    have e : n * 4 ^ (d + 1) = 4 * (n * 4 ^ d) := by rw [Nat.pow_succ, ← Nat.mul_assoc, Nat.mul_comm]
    rw [e]
    refine ⟨?_, h4⟩
    rw [← h1, ← h3]
    congr 1
    push_cast
    omega

theorem stq_log2 {n : Nat} (h : 2 ^ 108 ≤ n) : 54 ≤ (stq n).log2 := by
  have hs := isq_so n
  have hw : 2 ^ 54 ≤ isq n := by
    apply Nat.le_of_not_lt
    intro h1
    have := Nat.mul_le_mul (show isq n + 1 ≤ 2 ^ 54 by omega) (show isq n + 1 ≤ 2 ^ 54 by omega)
    have h2 := hs.hi
    have e : (2 : Nat) ^ 54 * 2 ^ 54 = 2 ^ 108 := by decide
    omega
  have hv : 2 ^ 54 ≤ stq n := by unfold stq; omega
  have h0 : stq n ≠ 0 := by omega
  exact (Nat.le_log2 h0).2 hv

/-- what the model's root is -/
theorem fsqrt_val {x : Nat} (hx : Fin x) (hs : sg x = false) (hm : rg x ≠ 0) : ∃ (n : Nat) (f : Int) (t : Nat), 2 ^ 108 ≤ n ∧ n < 2 ^ 110 ∧ n = mant (rg x) * 2 ^ t ∧ ((ex (rg x) : Nat) : Int) - 1074 - t = 2 * f ∧ fsqrt x = D.word false (rndS (stq n) (f - 1 + 1074)) := by
  obtain ⟨m, hmm⟩ : ∃ m, mant (rg x) = m := ⟨_, rfl⟩
  obtain ⟨i, hi⟩ : ∃ i : Int, ((ex (rg x) : Nat) : Int) - 1074 = i := ⟨_, rfl⟩
  have hm53 := mant_lt (rg x)
  have hm0 : m ≠ 0 := by rw [← hmm]; unfold mant; split <;> omega
  rw [hmm] at hm53
  have hl53 : m.log2 < 53 := (Nat.log2_lt hm0).2 hm53
  obtain ⟨t0, ht0⟩ : ∃ t0, 108 - m.log2 = t0 := ⟨_, rfl⟩
  obtain ⟨t, ht⟩ : ∃ t, t0 + ((i - t0) % 2).toNat = t := ⟨_, rfl⟩
  have hlog := log2_mul_pow hm0 t
  have hn0 : m * 2 ^ t ≠ 0 := Nat.mul_ne_zero hm0 (by have := Nat.two_pow_pos t; omega)
  refine ⟨m * 2 ^ t, (i - t) / 2, t, ?_, ?_, by rw [hmm], by rw [hi]; omega, ?_⟩
  · exact (Nat.le_log2 hn0).1 (by omega)
  · exact (Nat.log2_lt hn0).1 (by omega)
  · unfold fsqrt Format.sqrt
    rw [read_fin hx, hs, hmm, hi]
    unfold Datum.root
    have hd : D.fractionBits + 2 = 54 := by decide
    simp only [hd, if_neg hm0, Bool.false_eq_true, if_false, Option.map_some, Option.getD_some]
    rw [show 2 * 54 - m.log2 = t0 from ht0, ht, Nat.shiftLeft_eq]
    have e : 2 * Datum.rootFrom (m * 2 ^ t) ((m * 2 ^ t).log2 / 2 + 1) 0 + (Datum.rootFrom (m * 2 ^ t) ((m * 2 ^ t).log2 / 2 + 1) 0 * Datum.rootFrom (m * 2 ^ t) ((m * 2 ^ t).log2 / 2 + 1) 0 != m * 2 ^ t).toNat = stq (m * 2 ^ t) := rfl
    rw [e]
    simp only [Format.write, nearest_eq]
    congr 1
    obtain ⟨a, b, hab⟩ : ∃ a b : Nat, (a : Int) - b = (i - t) / 2 - 1 + 1074 := ⟨((i - t) / 2 - 1 + 1074).toNat, (-((i - t) / 2 - 1 + 1074)).toNat, by omega⟩
    rw [rung_eq (stq (m * 2 ^ t)) _ a b (by omega)]
    exact rnd_any _ a b _ hab
end Go.Proofs.Ytemneeknemijpaa.Fl
