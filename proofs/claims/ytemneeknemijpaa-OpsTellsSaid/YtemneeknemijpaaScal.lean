/- A float times a power of two, as math.Ldexp reckons it: the plain law. -/
import Derived.Test.YtemneeknemijpaaLdexp
namespace Go.Proofs.Ytemneeknemijpaa.Fl

/-- the rung of m times 2^k -/
def rndS (m : Nat) (k : Int) : Nat := rnd (m * 2 ^ k.toNat) (-k).toNat

theorem rnd_any (m a b : Nat) (k : Int) (h : (a : Int) - b = k) : rnd (m * 2 ^ a) b = rndS m k := by
  unfold rndS
  by_cases hk : 0 ≤ k
  · have e1 : (-k).toNat = 0 := by omega
    have e2 : a = k.toNat + b := by omega
    rw [e1, e2, Nat.pow_add, ← Nat.mul_assoc]
    have := rnd_scale (m * 2 ^ k.toNat) 0 b
    rwa [Nat.zero_add] at this
  · have e1 : k.toNat = 0 := by omega
    have e2 : b = (-k).toNat + a := by omega
    rw [e1, e2, Nat.pow_zero, Nat.mul_one]
    exact rnd_scale m _ a

theorem rndS_shift (m i : Nat) (k : Int) : rndS (m * 2 ^ i) k = rndS m (k + i) := by
  have h1 := rnd_any (m * 2 ^ i) k.toNat (-k).toNat k (by omega)
  rw [← h1, Nat.mul_assoc, ← Nat.pow_add]
  exact rnd_any m (i + k.toNat) (-k).toNat (k + i) (by omega)

theorem log2_c {c : Nat} (h1 : 2 ^ 52 ≤ c) (h2 : c < 2 ^ 53) : c.log2 = 52 := by
  rw [Nat.log2_eq_iff (by omega)]
  exact ⟨h1, h2⟩

theorem rnd_c {c t : Nat} (h1 : 2 ^ 52 ≤ c) (h2 : c < 2 ^ 53) : rnd (c * 2 ^ t) 0 = min (t * 2 ^ 52 + c) (2047 * 2 ^ 52) := by
  have h0 : c ≠ 0 := by omega
  have hx : c * 2 ^ t ≠ 0 := Nat.mul_ne_zero h0 (by have := Nat.two_pow_pos t; omega)
  rw [rnd_eq hx, log2_mul_pow h0, log2_c h1 h2]
  have e : 52 + t - 52 - 0 = t := by omega
  rw [e, Nat.add_zero, rne_mul _ _ (Nat.two_pow_pos _)]

theorem rnd_tiny {c K : Nat} (h1 : 2 ^ 52 ≤ c) (h2 : c < 2 ^ 53) (hK : 54 ≤ K) : rnd c K = 0 := by
  rw [rnd_eq (by omega), log2_c h1 h2]
  have e : 52 - 52 - K = 0 := by omega
  rw [e, Nat.zero_mul, Nat.zero_add, Nat.zero_add]
  have h3 : 2 ^ 54 ≤ 2 ^ K := pow_mono hK
  have e0 : rne c (2 ^ K) = 0 := by
    unfold rne
    have e1 : c / 2 ^ K = 0 := Nat.div_eq_of_lt (by omega)
    have e2 : c % 2 ^ K = c := Nat.mod_eq_of_lt (by omega)
    rw [e1, e2]
    have f1 : decide (2 ^ K < 2 * c) = false := by simp; omega
    have f2 : (2 ^ K == 2 * c) = false := by rw [beq_eq_false_iff_ne]; omega
    rw [f1, f2]; rfl
  rw [e0]; rfl

def scal (x : Nat) (k : Int) : Nat := D.word (sg x) (rndS (mg x) k)

/-- what y's rung says -/
theorem norm_parts {y : Nat} (h : 2 ^ 52 ≤ rg y) (hf : Fin y) : ∃ c E : Nat, 2 ^ 52 ≤ c ∧ c < 2 ^ 53 ∧ 1 ≤ E ∧ E ≤ 2046 ∧ rg y / 2 ^ 52 = E ∧ rg y % 2 ^ 52 = c - 2 ^ 52 ∧ mg y = c * 2 ^ (E - 1) := by
  have h2 := hf.2
  refine ⟨2 ^ 52 + rg y % 2 ^ 52, rg y / 2 ^ 52, by omega, by omega, by omega, by omega, rfl, by omega, ?_⟩
  unfold mg RV
  rw [if_neg (by omega)]

theorem scal_norm {x y : Nat} {j : Int} (hn : Norm x y j) (k : Int) {c E : Nat} (hE : 1 ≤ E) (hm : mg y = c * 2 ^ (E - 1)) : scal x k = D.word (sg y) (rndS c (k + j + ((E : Int) - 1023) + 1022)) := by
  unfold scal
  rw [hn.sign]
  congr 1
  have e : rndS c (k + j + ((E : Int) - 1023) + 1022) = rndS (mg y) (k + j) := by
    rw [hm, rndS_shift]; congr 1; omega
  rw [e]
  rcases hn.which with ⟨h1, h2⟩ | ⟨h1, h2⟩
  · rw [h1, h2]; congr 1; omega
  · rw [h1, h2, rndS_shift]; congr 1; omega

theorem mg_one : mg 4607182418800017408 = ONE := by decide +kernel
theorem mg_53 : mg 4368491638549381120 * P2 53 = ONE := by decide +kernel

theorem P2_eq (n : Nat) : P2 n = 2 ^ n := rfl

theorem mg_word (s : Bool) {r : Nat} (h : r < 2 ^ 63) : mg (D.word s r) = RV r := by unfold mg; rw [rg_word s h]

/-- the plain range -/
theorem scal_plain {y c : Nat} {T : Int} (h1 : 2 ^ 52 ≤ c) (h2 : c < 2 ^ 53) (hT1 : -1022 ≤ T) (hT2 : T ≤ 1023) :
    fmul 4607182418800017408 (D.word (sg y) ((T + 1023).toNat * 2 ^ 52 + (c - 2 ^ 52))) = D.word (sg y) (rndS c (T + 1022)) := by
  have hlt : (T + 1023).toNat * 2 ^ 52 + (c - 2 ^ 52) < 2047 * 2 ^ 52 := by omega
  have hf1 : Fin 4607182418800017408 := ⟨by decide, by decide +kernel⟩
  rw [fmul_fin hf1 (Fin.word _ hlt), sg_word _ (by omega), mg_word _ (by omega), mg_one]
  have hs : sg 4607182418800017408 = false := by decide +kernel
  rw [hs, Bool.false_xor]
  refine congrArg (D.word (sg y)) ?_
  obtain ⟨t, ht⟩ : ∃ t : Nat, T + 1022 = t := ⟨(T + 1022).toNat, by omega⟩
  have e1 : (T + 1023).toNat * 2 ^ 52 + (c - 2 ^ 52) = t * 2 ^ 52 + c := by omega
  rw [e1, RV_make _ _ (by omega) (.inr h1), ht]
  obtain ⟨z, hz⟩ : ∃ z, z = 1074 := ⟨_, rfl⟩
  rw [ONE_eq z hz, ← hz, Nat.mul_comm (2 ^ z), Nat.mul_assoc, ← Nat.pow_add]
  exact rnd_any c (t + z) z _ (by omega)

/-- the subnormal range -/
theorem scal_sub {y c : Nat} {T : Int} (h1 : 2 ^ 52 ≤ c) (h2 : c < 2 ^ 53) (hT1 : -1075 ≤ T) (hT2 : T < -1022) :
    fmul 4368491638549381120 (D.word (sg y) ((T + 53 + 1023).toNat * 2 ^ 52 + (c - 2 ^ 52))) = D.word (sg y) (rndS c (T + 1022)) := by
  have hlt : (T + 53 + 1023).toNat * 2 ^ 52 + (c - 2 ^ 52) < 2047 * 2 ^ 52 := by omega
  have hf1 : Fin 4368491638549381120 := ⟨by decide, by decide +kernel⟩
  rw [fmul_fin hf1 (Fin.word _ hlt), sg_word _ (by omega), mg_word _ (by omega)]
  have hs : sg 4368491638549381120 = false := by decide +kernel
  rw [hs, Bool.false_xor]
  refine congrArg (D.word (sg y)) ?_
  obtain ⟨t, ht⟩ : ∃ t : Nat, T + 53 + 1022 = t := ⟨(T + 53 + 1022).toNat, by omega⟩
  have e1 : (T + 53 + 1023).toNat * 2 ^ 52 + (c - 2 ^ 52) = t * 2 ^ 52 + c := by omega
  rw [e1, RV_make _ _ (by omega) (.inr h1)]
  obtain ⟨z, hz⟩ : ∃ z, z = 1074 := ⟨_, rfl⟩
  -- times 2^53, above and below
  have e2 := rnd_scale (mg 4368491638549381120 * (c * 2 ^ t)) z 53
  rw [← hz, ← e2]
  have e3 : mg 4368491638549381120 * (c * 2 ^ t) * 2 ^ 53 = c * 2 ^ (t + z) := by
    have h4 : ∀ m d q : Nat, m * d * q = (m * q) * d := fun m d q => by ac_rfl
    rw [h4, ← P2_eq 53, mg_53, ONE_eq z hz, Nat.mul_comm, Nat.mul_assoc, ← Nat.pow_add]
  rw [e3]
  exact rnd_any c (t + z) (z + 53) _ (by omega)

theorem scal_zero {c : Nat} {T : Int} (h1 : 2 ^ 52 ≤ c) (h2 : c < 2 ^ 53) (hT : T < -1075) : rndS c (T + 1022) = 0 := by
  have := rnd_any c 0 (-(T + 1022)).toNat (T + 1022) (by omega)
  rw [Nat.pow_zero, Nat.mul_one] at this
  rw [← this]
  exact rnd_tiny h1 h2 (by omega)

theorem scal_inf {c : Nat} {T : Int} (h1 : 2 ^ 52 ≤ c) (h2 : c < 2 ^ 53) (hT : 1023 < T) : rndS c (T + 1022) = 2047 * 2 ^ 52 := by
  have := rnd_any c (T + 1022).toNat 0 (T + 1022) (by omega)
  rw [← this, rnd_c h1 h2]
  omega

theorem canon_word (s : Bool) {r : Nat} (h : r ≤ 2047 * 2 ^ 52) : canon (D.word s r) = D.word s r := canon_of (isNaN_word s h)

theorem rndS_le (m : Nat) (k : Int) : rndS m k ≤ 2047 * 2 ^ 52 := by
  unfold rndS rnd
  split
  · omega
  · exact Nat.min_le_right _ _

theorem canon_scal (x : Nat) (k : Int) : canon (scal x k) = scal x k := canon_word _ (rndS_le _ _)
theorem scal_lt (x : Nat) (k : Int) : scal x k < 2 ^ 64 := word_lt64 _ (by have := rndS_le (mg x) k; omega)
end Go.Proofs.Ytemneeknemijpaa.Fl
