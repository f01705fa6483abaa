/- Dyadic numbers z * 2^e by their canonical form: an odd natural, a sign, a power. No condition. -/
import Derived.Test.YtemneeknemijpaaNe
namespace Go.Proofs.Ytemneeknemijpaa
open Go.RowKit

/-- how often 2 goes -/
def tz (n : Nat) : Nat := if h : n = 0 then 0 else if n % 2 = 0 then tz (n / 2) + 1 else 0
termination_by n
decreasing_by omega
theorem tz_zero : tz 0 = 0 := by rw [tz]; simp
theorem tz_odd {n : Nat} (h : n % 2 = 1) : tz n = 0 := by
  rw [tz, dif_neg (by omega), if_neg (by omega)]
theorem tz_even {n : Nat} (h0 : n ≠ 0) (h : n % 2 = 0) : tz n = tz (n / 2) + 1 := by
  conv => lhs; rw [tz]
  rw [dif_neg h0, if_pos h]
theorem tz_two {n : Nat} (h0 : n ≠ 0) : tz (n * 2) = tz n + 1 := by
  rw [tz_even (by omega) (by omega), Nat.mul_div_cancel _ (by decide)]
theorem tz_mul {n : Nat} (h0 : n ≠ 0) : ∀ k, tz (n * 2 ^ k) = tz n + k
  | 0 => by rw [Nat.pow_zero, Nat.mul_one]; rfl
  | k + 1 => by
    rw [Nat.pow_succ, ← Nat.mul_assoc, tz_two (Nat.mul_ne_zero h0 (by have := Nat.two_pow_pos k; omega)), tz_mul h0 k]
    omega
/-- the odd part -/
def od (n : Nat) : Nat := n / 2 ^ tz n
theorem od_mul_pow (n : Nat) : od n * 2 ^ tz n = n := by
  unfold od
  induction n using Nat.strongRecOn with
  | ind n ih =>
    by_cases h0 : n = 0
    · subst h0; simp
    by_cases h : n % 2 = 0
    · have := ih (n / 2) (by omega)
      rw [tz_even h0 h, Nat.pow_succ, Nat.mul_comm (2 ^ tz (n / 2)) 2, ← Nat.div_div_eq_div_mul]
      rw [Nat.mul_comm 2 (2 ^ tz (n / 2)), ← Nat.mul_assoc, this]
      omega
    · rw [tz_odd (by omega)]; simp
theorem od_odd {n : Nat} (h0 : n ≠ 0) : od n % 2 = 1 := by
  unfold od
  induction n using Nat.strongRecOn with
  | ind n ih =>
    by_cases h : n % 2 = 0
    · have := ih (n / 2) (by omega) (by omega)
      rw [tz_even h0 h, Nat.pow_succ, Nat.mul_comm (2 ^ tz (n / 2)) 2, ← Nat.div_div_eq_div_mul]
      exact this
    · rw [tz_odd (by omega)]; simp; omega
theorem od_zero : od 0 = 0 := by unfold od; simp
theorem od_mul {n : Nat} (k : Nat) : od (n * 2 ^ k) = od n := by
  by_cases h0 : n = 0
  · subst h0; simp
  · unfold od
    rw [tz_mul h0, Nat.add_comm, Nat.pow_add, ← Nat.div_div_eq_div_mul, Nat.mul_div_cancel _ (Nat.two_pow_pos _)]
theorem od_le (n : Nat) : od n ≤ n := Nat.div_le_self _ _
theorem od_ne {n : Nat} (h0 : n ≠ 0) : od n ≠ 0 := by have := od_odd h0; omega
/-- the loop's test -/
theorem div_even {n : Nat} (h0 : n ≠ 0) {k : Nat} (hk : k ≤ tz n) : (n / 2 ^ k % 2 = 0) ↔ k < tz n := by
  have e : n / 2 ^ k = od n * 2 ^ (tz n - k) := by
    conv => lhs; rw [← od_mul_pow n, show tz n = (tz n - k) + k by omega, Nat.pow_add, ← Nat.mul_assoc]
    exact Nat.mul_div_cancel _ (Nat.two_pow_pos _)
  rw [e]
  constructor
  · intro h
    apply Nat.lt_of_not_le
    intro h2
    rw [show tz n - k = 0 by omega, Nat.pow_zero, Nat.mul_one] at h
    have := od_odd h0
    omega
  · intro h
    rw [show tz n - k = (tz n - k - 1) + 1 by omega, Nat.pow_succ, ← Nat.mul_assoc]
    exact Nat.mul_mod_left _ _
theorem tz_lt {n k : Nat} (h0 : n ≠ 0) (h : n < 2 ^ k) : tz n < k := by
  have h1 := od_mul_pow n
  have h2 := od_ne h0
  apply Nat.lt_of_not_le
  intro h3
  have h4 : 2 ^ k ≤ 2 ^ tz n := Nat.pow_le_pow_right (by decide) h3
  have h5 : 1 * 2 ^ tz n ≤ od n * 2 ^ tz n := Nat.mul_le_mul_right _ (by omega)
  omega

theorem tz_len {n : Nat} (h0 : n ≠ 0) {L : Nat} (h : (digs n).length ≤ L) : tz n < 24 * L :=
  tz_lt h0 (by rw [← W_two]; exact Nat.lt_of_lt_of_le (digs_len_lt n) (W_mono h))
theorem froz_of {W W1 : World} {B : Nat} (hb : Below B W W1) {b o : Nat} (h : b < B) (hf : W.frozen? ⟨b, o, none⟩ = false) : W1.frozen? ⟨b, o, none⟩ = false := by
  rw [hb.frozen (p := ⟨b, o, none⟩) h, hf]
theorem cell_at {W W1 : World} {B : Nat} (hb : Below B W W1) {b o : Nat} {v : Value} (h : b < B) (hc : W.cell? ⟨b, o, none⟩ = some v) : W1.cell? ⟨b, o, none⟩ = some v := by
  rw [hb.cell (p := ⟨b, o, none⟩) h, hc]

/-- the canonical form of z * 2^e -/
def dM (z : Int) : Nat := od z.natAbs
def dE (z e : Int) : Int := if z = 0 then 0 else e + tz z.natAbs
theorem pow_pos_int (k : Nat) : (0 : Int) < ((2 ^ k : Nat) : Int) := by have := Nat.two_pow_pos k; omega
theorem natAbs_mul_pow (z : Int) (k : Nat) : (z * ((2 ^ k : Nat) : Int)).natAbs = z.natAbs * 2 ^ k := by rw [Int.natAbs_mul, Int.natAbs_natCast]
theorem dM_mul (z : Int) (k : Nat) : dM (z * ((2 ^ k : Nat) : Int)) = dM z := by unfold dM; rw [natAbs_mul_pow, od_mul]
theorem mul_pow_zero (z : Int) (k : Nat) : z * ((2 ^ k : Nat) : Int) = 0 ↔ z = 0 := by
  constructor
  · intro h
    rcases Int.mul_eq_zero.1 h with h | h
    · exact h
    · have := pow_pos_int k; omega
  · rintro rfl; simp
theorem mul_pow_neg (z : Int) (k : Nat) : z * ((2 ^ k : Nat) : Int) < 0 ↔ z < 0 := by
  have hp := pow_pos_int k
  constructor
  · intro h
    apply Int.lt_of_not_ge
    intro h2
    have := Int.mul_nonneg h2 (Int.le_of_lt hp)
    omega
  · intro h; exact Int.mul_neg_of_neg_of_pos h hp
theorem dE_mul (z e : Int) (k : Nat) : dE (z * ((2 ^ k : Nat) : Int)) e = dE z (e + k) := by
  unfold dE
  by_cases h : z = 0
  · subst h; simp
  · rw [if_neg h, if_neg (fun h2 => h ((mul_pow_zero z k).1 h2)), natAbs_mul_pow, tz_mul (by omega)]
    push_cast
    omega
theorem dM_pow (z : Int) : dM z * 2 ^ tz z.natAbs = z.natAbs := od_mul_pow _
theorem dM_zero : dM 0 = 0 := od_zero
theorem dE_zero (e : Int) : dE 0 e = 0 := by unfold dE; simp
theorem dM_ne {z : Int} (h : z ≠ 0) : dM z ≠ 0 := od_ne (by omega)
theorem dM_eq_zero {z : Int} : dM z = 0 ↔ z = 0 := ⟨fun h => Decidable.byContradiction fun h2 => dM_ne h2 h, fun h => by subst h; exact dM_zero⟩
/-- one form, one number -/
theorem form_inj {a b e : Int} (hs : decide (a < 0) = decide (b < 0)) (hm : dM a = dM b) (he : dE a e = dE b e) : a = b := by
  by_cases ha : a = 0
  · subst ha; rw [dM_zero] at hm; exact (dM_eq_zero.1 hm.symm).symm
  · have hb : b ≠ 0 := fun hb => by rw [hb, dM_zero] at hm; exact ha (dM_eq_zero.1 hm)
    unfold dE at he
    rw [if_neg ha, if_neg hb] at he
    have h1 := dM_pow a
    have h2 := dM_pow b
    rw [hm, show tz a.natAbs = tz b.natAbs by omega, h2] at h1
    have h3 : (a < 0) ↔ (b < 0) := decide_eq_decide.1 hs
    by_cases h4 : a < 0
    · have := h3.1 h4; omega
    · have := mt h3.2 h4; omega

/-- A dyadic number's value. -/
abbrev Dv (neg : Bool) (s : Value) (E : Int) : Value := .agg #[.bool neg, s, .int .i64 E]
/-- v is z * 2^e. -/
def IsD (w : World) (v : Value) (z e : Int) : Prop := ∃ s, v = Dv (decide (z < 0)) s (dE z e) ∧ IsN w s (dM z)
def MakesD (w : World) (z e : Int) (en : Ending) (W' : World) : Prop := ∃ v, en = .returned v ∧ IsD W' v z e ∧ Below w.heap.size w W'
theorem IsD.below {w w' : World} {v : Value} {z e : Int} (h : IsD w v z e) (hb : Below w.heap.size w w') : IsD w' v z e := by
  obtain ⟨s, h1, h2⟩ := h
  exact ⟨s, h1, h2.below hb⟩
theorem isD_shift (w : World) (v : Value) (z e : Int) (k : Nat) : IsD w v (z * ((2 ^ k : Nat) : Int)) e ↔ IsD w v z (e + k) := by
  unfold IsD
  rw [dM_mul, dE_mul, decide_eq_decide.2 (mul_pow_neg z k)]
/-- the same number, at another scale -/
theorem IsD.to {w : World} {v : Value} {z e : Int} (h : IsD w v z e) (k : Nat) {e' z' : Int} (he : e' + k = e) (hz : z * ((2 ^ k : Nat) : Int) = z') : IsD w v z' e' := by
  subst hz he
  exact (isD_shift w v z e' k).2 h
theorem IsN.slice {w : World} {v : Value} {n : Nat} (h : IsN w v n) : ∃ a l c, v = .slice a l c := by
  obtain ⟨a, l, c, h1, _⟩ := h
  exact ⟨a, l, c, h1⟩
/-- a sign, a natural -/
def sgz (neg : Bool) (m : Nat) : Int := if neg then -(m : Int) else m
theorem sgz_natAbs (neg : Bool) (m : Nat) : (sgz neg m).natAbs = m := by unfold sgz; split <;> simp
theorem sgz_zero (neg : Bool) : sgz neg 0 = 0 := by unfold sgz; split <;> simp
theorem sgz_ne {neg : Bool} {m : Nat} (h : m ≠ 0) : sgz neg m ≠ 0 := by unfold sgz; split <;> omega
theorem sgz_neg {neg : Bool} {m : Nat} (h : m ≠ 0) : decide (sgz neg m < 0) = neg := by unfold sgz; cases neg <;> simp <;> omega
theorem sgz_mul (neg : Bool) (m k : Nat) : sgz neg (m * k) = sgz neg m * (k : Int) := by unfold sgz; split <;> simp [Int.neg_mul]
theorem sgz_of (z : Int) : sgz (decide (z < 0)) z.natAbs = z := by unfold sgz; by_cases h : z < 0 <;> simp [h] <;> omega
end Go.Proofs.Ytemneeknemijpaa
