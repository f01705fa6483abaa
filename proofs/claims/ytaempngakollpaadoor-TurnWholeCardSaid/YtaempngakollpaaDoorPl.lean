/- Angles as parts of a turn, plain: the form of an angle told by how many of 2^40 parts it has. No condition. -/
import Derived.Lib.TrailingZeros
namespace Go.Proofs.YtaempngakollpaaDoor
open Go

theorem ctzFrom_odd : ∀ f k m, k < f → Lib.ctzFrom f (2 ^ k * (2 * m + 1)) = k
  | 0, _, _, h => by omega
  | f + 1, 0, m, _ => by
    unfold Lib.ctzFrom
    rw [if_pos (by omega)]
  | f + 1, k + 1, m, h => by
    unfold Lib.ctzFrom
    have e : 2 ^ (k + 1) * (2 * m + 1) = 2 * (2 ^ k * (2 * m + 1)) := by rw [Nat.pow_succ, Nat.mul_comm (2 ^ k) 2, Nat.mul_assoc]
    rw [if_neg (by omega), e, Nat.mul_div_cancel_left _ (by decide), ctzFrom_odd f k m (by omega)]
    omega

theorem ctz_odd (k m : Nat) (h : k < 64) : Lib.ctz 64 (2 ^ k * (2 * m + 1)) = k := by
  unfold Lib.ctz
  have : 0 < 2 ^ k * (2 * m + 1) := Nat.mul_pos (Nat.pow_pos (by decide)) (by omega)
  rw [if_neg (by omega), ctzFrom_odd 64 k m h]

/-- a number that is not 0 is a power of two times an odd one -/
theorem ctz_parts (x : Nat) (h0 : x ≠ 0) (h : x < 18446744073709551616) : ∃ m, x = 2 ^ Lib.ctz 64 x * (2 * m + 1) ∧ Lib.ctz 64 x < 64 := by
  obtain ⟨m, hm, hk⟩ := Lib.ctzFrom_spec 64 x (by omega) h
  have e : Lib.ctz 64 x = Lib.ctzFrom 64 x := by simp [Lib.ctz, h0]
  exact ⟨m, by rw [e]; exact hm, by rw [e]; exact hk⟩

theorem ctz_le (x q : Nat) (h0 : x ≠ 0) (hq : q ≤ 40) (h : x < 2 ^ q) : Lib.ctz 64 x < q := by
  have h2 : (2 : Nat) ^ q ≤ 2 ^ 40 := Nat.pow_le_pow_right (by decide) hq
  obtain ⟨m, hm, _⟩ := ctz_parts x h0 (by omega)
  apply Nat.lt_of_not_le
  intro hle
  have h3 : 2 ^ q ≤ 2 ^ Lib.ctz 64 x := Nat.pow_le_pow_right (by decide) hle
  have h4 : 2 ^ Lib.ctz 64 x ≤ 2 ^ Lib.ctz 64 x * (2 * m + 1) := Nat.le_mul_of_pos_right _ (by omega)
  omega

/-- of a whole number of parts: how many of 2^40 beyond whole turns -/
def par (A : Int) : Nat := (A % 1099511627776).toNat
def fk (A : Int) : Nat := if par A = 0 then 0 else par A / 2 ^ Lib.ctz 64 (par A)
def fq (A : Int) : Nat := if par A = 0 then 0 else 40 - Lib.ctz 64 (par A)
/-- k parts of which there are 2^q -/
def val (k : Int) (q : Nat) : Int := k * 2 ^ (40 - q)

theorem par_int (A : Int) : (par A : Int) = A % 1099511627776 := by unfold par; omega
theorem par_lt (A : Int) : par A < 1099511627776 := by unfold par; omega
theorem par_congr {A B : Int} (h : A % 1099511627776 = B % 1099511627776) : par A = par B := by unfold par; rw [h]
theorem fk_congr {A B : Int} (h : A % 1099511627776 = B % 1099511627776) : fk A = fk B := by unfold fk; rw [par_congr h]
theorem fq_congr {A B : Int} (h : A % 1099511627776 = B % 1099511627776) : fq A = fq B := by unfold fq; rw [par_congr h]

/-- what the form is: none, or odd of 2^q -/
theorem form_cases (A : Int) : (par A = 0 ∧ fk A = 0 ∧ fq A = 0) ∨ (par A ≠ 0 ∧ fk A % 2 = 1 ∧ 1 ≤ fq A ∧ fq A ≤ 40 ∧ fk A < 2 ^ fq A ∧ fk A * 2 ^ (40 - fq A) = par A) := by
  by_cases h0 : par A = 0
  · exact .inl ⟨h0, by simp [fk, h0], by simp [fq, h0]⟩
  · have hl := par_lt A
    obtain ⟨m, hm, hk⟩ := ctz_parts (par A) h0 (by omega)
    have hc := ctz_le (par A) 40 h0 (by decide) hl
    have e1 : fk A = 2 * m + 1 := by
      unfold fk
      rw [if_neg h0]
      conv => lhs; arg 1; rw [hm]
      exact Nat.mul_div_cancel_left _ (Nat.pow_pos (by decide))
    have e2 : fq A = 40 - Lib.ctz 64 (par A) := by simp [fq, h0]
    have e3 : 40 - fq A = Lib.ctz 64 (par A) := by omega
    have e4 : fk A * 2 ^ (40 - fq A) = par A := by rw [e3, e1, Nat.mul_comm]; exact hm.symm
    refine .inr ⟨h0, by omega, by omega, by omega, ?_, e4⟩
    apply Nat.lt_of_mul_lt_mul_right (a := 2 ^ (40 - fq A))
    rw [e4, ← Nat.pow_add, show fq A + (40 - fq A) = 40 by omega]
    exact hl

theorem fq_le (A : Int) : fq A ≤ 40 := by rcases form_cases A with h | h <;> omega
theorem fk_le (A : Int) : fk A < 1099511627776 := by
  rcases form_cases A with h | h
  · omega
  · have : (2 : Nat) ^ fq A ≤ 2 ^ 40 := Nat.pow_le_pow_right (by decide) (fq_le A)
    omega
theorem val_form (A : Int) : val (fk A) (fq A) = par A := by
  unfold val
  rcases form_cases A with ⟨h0, h1, h2⟩ | ⟨_, _, _, _, _, h⟩
  · rw [h0, h1]; simp
  · rw [← h]; push_cast; rfl
theorem val_form_mod (A : Int) : val (fk A) (fq A) % 1099511627776 = A % 1099511627776 := by rw [val_form, par_int]; omega

theorem pow_int (q : Nat) : (2 : Int) ^ q = ((2 ^ q : Nat) : Int) := by push_cast; rfl
theorem pow_split (q : Nat) (hq : q ≤ 40) : (2 : Int) ^ q * 2 ^ (40 - q) = 1099511627776 := by
  rw [← Int.pow_add, show q + (40 - q) = 40 by omega]; rfl
theorem val_par (k : Int) (q : Nat) (hq : q ≤ 40) : (par (val k q) : Int) = (k % 2 ^ q) * 2 ^ (40 - q) := by
  rw [par_int, val, ← pow_split q hq, Int.mul_comm k, Int.mul_comm (2 ^ q), Int.mul_emod_mul_of_pos _ _ (Int.pow_pos (by decide)), Int.mul_comm]

/-- the form of k parts of 2^q: k's rest x -/
theorem form_of (k : Int) (q x : Nat) (hq : q ≤ 40) (hx : k % 2 ^ q = x) : (x = 0 → fk (val k q) = 0 ∧ fq (val k q) = 0) ∧
    (x ≠ 0 → fk (val k q) = x / 2 ^ Lib.ctz 64 x ∧ fq (val k q) = q - Lib.ctz 64 x ∧ Lib.ctz 64 x < q ∧ x < 2 ^ q) := by
  have hp := val_par k q hq
  rw [hx, pow_int, ← Int.natCast_mul] at hp
  have hp' : par (val k q) = x * 2 ^ (40 - q) := Int.ofNat_inj.1 hp
  refine ⟨fun h0 => ?_, fun h0 => ?_⟩
  · rw [h0, Nat.zero_mul] at hp'
    exact ⟨by simp [fk, hp'], by simp [fq, hp']⟩
  · have hxl : x < 2 ^ q := by
      have := Int.emod_lt_of_pos k (b := 2 ^ q) (Int.pow_pos (by decide))
      rw [hx, pow_int] at this
      exact Int.ofNat_lt.1 this
    have h2 : (2 : Nat) ^ q ≤ 2 ^ 40 := Nat.pow_le_pow_right (by decide) hq
    have hc := ctz_le x q h0 hq hxl
    obtain ⟨m, hm, _⟩ := ctz_parts x h0 (by omega)
    have e : par (val k q) = 2 ^ (Lib.ctz 64 x + (40 - q)) * (2 * m + 1) := by
      rw [hp', Nat.pow_add, Nat.mul_assoc, Nat.mul_comm (2 ^ (40 - q)), ← Nat.mul_assoc, ← hm]
    have hne : par (val k q) ≠ 0 := by
      rw [e]; exact Nat.ne_of_gt (Nat.mul_pos (Nat.pow_pos (by decide)) (by omega))
    have hcz : Lib.ctz 64 (par (val k q)) = Lib.ctz 64 x + (40 - q) := by rw [e]; exact ctz_odd _ m (by omega)
    refine ⟨?_, ?_, hc, hxl⟩
    · unfold fk
      rw [if_neg hne, hcz]
      conv => lhs; arg 1; rw [e]
      conv => rhs; arg 1; rw [hm]
      rw [Nat.mul_div_cancel_left _ (Nat.pow_pos (by decide)), Nat.mul_div_cancel_left _ (Nat.pow_pos (by decide))]
    · unfold fq
      rw [if_neg hne, hcz]
      omega
end Go.Proofs.YtaempngakollpaaDoor
