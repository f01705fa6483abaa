/- What the document's Near makes of a dyadic number is the model's rounding of it: plain. No condition. -/
import Derived.Test.YtemneeknemijpaaFr
namespace Go.Proofs.Ytemneeknemijpaa.Fl

theorem blen_log2 {m : Nat} (h : m ≠ 0) : blen m = m.log2 + 1 := by
  have h1 := lt_blen m
  have h2 := blen_ge h
  have h3 : blen m ≠ 0 := by rw [blen_pos h]; omega
  have : m.log2 = blen m - 1 := by
    rw [Nat.log2_eq_iff h]
    exact ⟨h2, by rw [show blen m - 1 + 1 = blen m by omega]; exact h1⟩
  omega

theorem rnd_kept {N k : Nat} (hN : N ≤ 2 ^ 53) (h : k = 0 ∨ 2 ^ 52 ≤ N) : rnd (N * 2 ^ k) 0 = min (k * 2 ^ 52 + N) (2047 * 2 ^ 52) := by
  by_cases h53 : N = 2 ^ 53
  · have e : N * 2 ^ k = 2 ^ 52 * 2 ^ (k + 1) := by rw [h53, Nat.pow_succ 2 k, show (2 : Nat) ^ 53 = 2 ^ 52 * 2 from rfl, Nat.mul_assoc, Nat.mul_comm 2]
    rw [e, rnd_c (Nat.le_refl _) (by decide)]
    omega
  by_cases h52 : 2 ^ 52 ≤ N
  · exact rnd_c h52 (by omega)
  · have hk : k = 0 := by rcases h with h | h <;> omega
    subst hk
    rw [Nat.pow_zero, Nat.mul_one, Nat.zero_mul, Nat.zero_add]
    by_cases h0 : N = 0
    · subst h0; rfl
    rw [rnd_eq h0]
    have hl : N.log2 < 52 := (Nat.log2_lt h0).2 (by omega)
    rw [show N.log2 - 52 - 0 = 0 by omega, Nat.zero_mul, Nat.zero_add, Nat.add_zero]
    have := rne_mul N 1 (by decide)
    rw [Nat.mul_one] at this
    rw [Nat.pow_zero, this]

/-- the number's rung, its kept part told -/
theorem rndS_kept {m : Nat} (hm : m ≠ 0) (E : Int) (k : Nat) (hk : (k : Int) = max (E + blen m - 1 - 52) (-1074) + 1074) (a b : Nat) (hab : (a : Int) - b = E + 1074) (g : Nat) (hg : k + b = g) :
    rndS m (E + 1074) = min (k * 2 ^ 52 + rne (m * 2 ^ a) (2 ^ g)) (2047 * 2 ^ 52) ∧ rne (m * 2 ^ a) (2 ^ g) ≤ 2 ^ 53 ∧ (k = 0 ∨ 2 ^ 52 ≤ rne (m * 2 ^ a) (2 ^ g)) := by
  have hx : m * 2 ^ a ≠ 0 := Nat.mul_ne_zero hm (by have := Nat.two_pow_pos a; omega)
  have h1 := rnd_any m a b (E + 1074) hab
  rw [← h1, rnd_eq hx]
  have h2 := kept_spec (K := b) hx
  have hl := blen_log2 hm
  have hk2 : (m * 2 ^ a).log2 - 52 - b = k := by rw [log2_mul_pow hm]; omega
  rw [hk2, hg] at h2 ⊢
  exact ⟨rfl, h2.1, h2.2⟩

theorem near_up {m : Nat} (E q : Int) (hq : q = max (E + blen m - 1 - 52) (-1074)) (i : Nat) (hi : q + i = E) : rndS (m * 2 ^ i) (q + 1074) = rndS m (E + 1074) ∧ m * 2 ^ i < 2 ^ 53 := by
  refine ⟨by rw [rndS_shift]; congr 1; omega, ?_⟩
  have h1 := lt_blen m
  have h2 : blen m + i ≤ 53 := by omega
  have h3 : m * 2 ^ i < 2 ^ (blen m + i) := by rw [Nat.pow_add]; exact Nat.mul_lt_mul_of_pos_right h1 (Nat.two_pow_pos i)
  exact Nat.lt_of_lt_of_le h3 (pow_mono h2)

theorem near_dn {m : Nat} (hm : m ≠ 0) (E q : Int) (hq : q = max (E + blen m - 1 - 52) (-1074)) (i : Nat) (hi : E + i = q) : rndS (rne m (2 ^ i)) (q + 1074) = rndS m (E + 1074) ∧ rne m (2 ^ i) ≤ 2 ^ 53 ∧ m / 2 ^ i < 2 ^ 60 := by
  obtain ⟨k, hk⟩ : ∃ k : Nat, (k : Int) = q + 1074 := ⟨(q + 1074).toNat, by omega⟩
  obtain ⟨a, b, hab⟩ : ∃ a b : Nat, (a : Int) - b = E + 1074 := ⟨(E + 1074).toNat, (-(E + 1074)).toNat, by omega⟩
  have h1 := rndS_kept hm E k (by rw [hk, hq]) a b hab (i + a) (by omega)
  have h2 : rne (m * 2 ^ a) (2 ^ (i + a)) = rne m (2 ^ i) := by rw [Nat.pow_add]; exact rne_scale m (2 ^ i) (2 ^ a) (Nat.two_pow_pos a)
  rw [h2] at h1
  refine ⟨?_, h1.2.1, ?_⟩
  · rw [h1.1]
    have h3 := rnd_any (rne m (2 ^ i)) k 0 (q + 1074) (by omega)
    rw [← h3]
    exact rnd_kept h1.2.1 h1.2.2
  · have h4 : blen m ≤ i + 53 := by omega
    apply Nat.div_lt_of_lt_mul
    rw [← Nat.pow_add]
    exact Nat.lt_of_lt_of_le (lt_blen m) (pow_mono (by omega))

theorem near_inf {m : Nat} (hm : m ≠ 0) (E : Int) (h : 1023 < E + blen m - 1) : rndS m (E + 1074) = 2047 * 2 ^ 52 := by
  obtain ⟨k, hk⟩ : ∃ k : Nat, (k : Int) = max (E + blen m - 1 - 52) (-1074) + 1074 := ⟨(max (E + blen m - 1 - 52) (-1074) + 1074).toNat, by omega⟩
  obtain ⟨a, b, hab⟩ : ∃ a b : Nat, (a : Int) - b = E + 1074 := ⟨(E + 1074).toNat, (-(E + 1074)).toNat, by omega⟩
  have h1 := rndS_kept hm E k hk a b hab _ rfl
  rw [h1.1]
  generalize rne (m * 2 ^ a) (2 ^ (k + b)) = N at *
  have h2 := h1.2.2
  have h3 : 2046 ≤ k := by omega
  rcases h2 with h2 | h2
  · omega
  · omega

theorem near_nil {m : Nat} (hm : m ≠ 0) (E : Int) (h : E + blen m - 1 < -1080) : rndS m (E + 1074) = 0 := by
  obtain ⟨a, b, hab⟩ : ∃ a b : Nat, (a : Int) - b = E + 1074 := ⟨(E + 1074).toNat, (-(E + 1074)).toNat, by omega⟩
  have h1 := rndS_kept hm E 0 (by omega) a b hab _ rfl
  rw [h1.1, Nat.zero_mul, Nat.zero_add, Nat.zero_add]
  have h2 : m * 2 ^ a < 2 ^ (b - 6) := by
    have h3 : m * 2 ^ a < 2 ^ (blen m + a) := by rw [Nat.pow_add]; exact Nat.mul_lt_mul_of_pos_right (lt_blen m) (Nat.two_pow_pos a)
    exact Nat.lt_of_lt_of_le h3 (pow_mono (by omega))
  have h4 : 2 ^ b = 2 ^ (b - 6) * 64 := by rw [show b = b - 6 + 6 by omega, Nat.pow_add]; simp
  have h5 := (rne_near (m * 2 ^ a) (2 ^ b) (Nat.two_pow_pos b)).1
  have h6 : rne (m * 2 ^ a) (2 ^ b) = 0 := by
    apply Decidable.byContradiction
    intro h7
    have h8 : 2 ^ b * 1 ≤ 2 ^ b * rne (m * 2 ^ a) (2 ^ b) := Nat.mul_le_mul_left _ (by omega)
    omega
  rw [h6]; rfl

/-- what Near tells of m * 2^E with a sign -/
def NearSo (neg : Bool) (m : Nat) (E : Int) (x : Nat) : Prop := x = D.word neg (rndS m (E + 1074)) ∨ (rndS m (E + 1074) = 0 ∧ x = 0)

theorem Rep.int' {N : Nat} (h : N ≤ 2 ^ 53) : Rep ((N : Int) * (ONE : Int)) := by
  by_cases h0 : N < 2 ^ 53
  · exact Rep.int (n := (N : Int)) (by simpa using h0)
  · have e : N = 2 ^ 52 * 2 := by omega
    obtain ⟨z, hz⟩ : ∃ z, z = 1074 := ⟨_, rfl⟩
    refine ⟨2 ^ 52, z + 1, by decide, ?_, ?_⟩
    · rw [Int.natAbs_mul, Int.natAbs_natCast, Int.natAbs_natCast, e, ONE_eq z hz, Nat.pow_succ 2 z, Nat.mul_assoc, Nat.mul_comm 2]
    · exact TOP_lt (j := 53) (z := 2045) rfl (by decide) (by omega)

theorem ofInt_word {N : Nat} (h : N ≤ 2 ^ 53) : ofInt (N : Int) = D.word false (rnd (N * ONE) 0) := by
  unfold ofInt
  simp only [Ieee.Format.write, nearest_eq]
  obtain ⟨z, hz⟩ : ∃ z, z = 1074 := ⟨_, rfl⟩
  rw [rung_eq (N : Int).natAbs 0 z 0 (by omega), ← ONE_eq z hz]
  simp
  rw [show decide ((N : Int) < 0) = false from decide_eq_false (by omega)]

theorem mg_ofInt {N : Nat} (h : N ≤ 2 ^ 53) : Fin (ofInt (N : Int)) ∧ sg (ofInt (N : Int)) = false ∧ mg (ofInt (N : Int)) = N * ONE := by
  have hr := Rep.int' h
  have h2 := Is.rnd (s := false) hr (by
    by_cases h0 : N = 0
    · left; subst h0; simp
    · right
      rw [eq_comm, decide_eq_false_iff_not]
      have := ONE_pos
      exact Int.not_lt.2 (Int.mul_nonneg (by omega) (by omega))) 0
  rw [Int.natAbs_mul, Int.natAbs_natCast, Int.natAbs_natCast, Nat.pow_zero, Nat.mul_one, ← ofInt_word h] at h2
  have h3 : sg (ofInt (N : Int)) = false := by
    rw [ofInt_word h]
    exact sg_word _ (by have := rndS_le (N * ONE) 0; unfold rndS at this; simp at this; omega)
  refine ⟨h2.fin, h3, ?_⟩
  have h4 := h2.val
  unfold V at h4
  rw [h3] at h4
  simp only [Bool.false_eq_true, if_false] at h4
  have : ((N * ONE : Nat) : Int) = (N : Int) * (ONE : Int) := Int.natCast_mul _ _
  omega

theorem scal_ofInt {N : Nat} (h : N ≤ 2 ^ 53) (q : Int) : scal (ofInt (N : Int)) q = D.word false (rndS N (q + 1074)) := by
  obtain ⟨_, h2, h3⟩ := mg_ofInt h
  unfold scal
  rw [h2, h3]
  obtain ⟨z, hz⟩ : ∃ z, z = 1074 := ⟨_, rfl⟩
  rw [ONE_eq z hz, rndS_shift, hz]
  rfl
theorem scal_notNaN (x : Nat) (k : Int) : isNaN (scal x k) = false := isNaN_word _ (rndS_le _ _)
theorem of_canon {r y : Nat} (h : canon r = y) (hy : isNaN y = false) : r = y := by
  unfold canon at h
  split at h
  · rw [← h, isNaN_qnan] at hy; cases hy
  · exact h
end Go.Proofs.Ytemneeknemijpaa.Fl
