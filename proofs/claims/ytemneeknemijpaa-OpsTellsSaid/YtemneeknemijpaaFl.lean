/- Floats, every not-a-number taken for one: sums, products and their opposites, over the model's own format. No condition. -/
import Ieee.Arith
import Derived.Laws.FloatBits
namespace Go.Proofs.Ytemneeknemijpaa.Fl
open Ieee

abbrev D : Format := Ieee.double

def isNaN (x : Nat) : Bool := (D.read x).isNaN
def qnan : Nat := 0x7ff8000000000001
/-- a word, all NaNs being one -/
def canon (x : Nat) : Nat := if isNaN x then qnan else x

def fadd (x y : Nat) : Nat := (D.add x y).getD qnan
def fsub (x y : Nat) : Nat := (D.sub x y).getD qnan
def fmul (x y : Nat) : Nat := (D.mul x y).getD qnan
def fneg (x : Nat) : Nat := x ^^^ 2 ^ 63

theorem isNaN_qnan : isNaN qnan = true := by decide +kernel

theorem sum_comm (d e : Datum) : d.sum e = e.sum d := by
  cases d <;> cases e <;> simp [Datum.sum]
  · rename_i s m i t n j
    rw [Int.min_comm i j, Int.add_comm (signed t n _), Bool.and_comm]
    simp
  · rename_i s t
    by_cases h : s = t
    · simp [h]
    · rw [if_neg h, if_neg (fun e => h e.symm)]

theorem product_comm (d e : Datum) : d.product e = e.product d := by
  cases d <;> cases e <;> simp [Datum.product]
  · rw [Nat.mul_comm, Int.add_comm]; exact ⟨Bool.xor_comm .., rfl, rfl⟩
  all_goals (rw [Bool.xor_comm])
  all_goals simp

theorem opp_opp (d : Datum) : d.opposite.opposite = d := by cases d <;> simp [Datum.opposite]

theorem isNaN_opp (d : Datum) : d.opposite.isNaN = d.isNaN := by cases d <;> rfl

theorem product_opp (d e : Datum) : d.product e.opposite = (d.product e).map Datum.opposite := by
  cases d <;> cases e <;> simp [Datum.product, Datum.opposite]
  all_goals (split <;> simp [Datum.opposite])

theorem sum_notNaN {d e r : Datum} (h : d.sum e = some r) : r.isNaN = false := by
  cases d <;> cases e <;> simp [Datum.sum] at h
  all_goals first | (subst h; rfl) | (obtain ⟨_, rfl⟩ := h; rfl)

theorem product_notNaN {d e r : Datum} (h : d.product e = some r) : r.isNaN = false := by
  cases d <;> cases e <;> simp [Datum.product] at h
  all_goals first | (subst h; rfl) | (obtain ⟨_, rfl⟩ := h; rfl)

theorem sum_nan_left {d : Datum} (h : d.isNaN = true) (e : Datum) : d.sum e = none := by
  cases d <;> simp [Datum.isNaN] at h
  cases e <;> rfl
theorem product_nan_left {d : Datum} (h : d.isNaN = true) (e : Datum) : d.product e = none := by
  cases d <;> simp [Datum.isNaN] at h
  cases e <;> rfl
theorem sum_nan_right {e : Datum} (h : e.isNaN = true) (d : Datum) : d.sum e = none := by rw [sum_comm, sum_nan_left h]
theorem product_nan_right {e : Datum} (h : e.isNaN = true) (d : Datum) : d.product e = none := by rw [product_comm, product_nan_left h]

theorem signWeight : D.signWeight = 2 ^ 63 := by decide
theorem binade : D.binade = 2 ^ 52 := by decide
theorem infRung : D.infRung = 2047 * 2 ^ 52 := by decide
theorem leastPlace : D.leastPlace = -1074 := by decide
theorem width : D.width = 64 := by decide

theorem fneg_lo {x : Nat} (h : x < 2 ^ 63) : fneg x = x + 2 ^ 63 := by
  unfold fneg
  apply Nat.eq_of_testBit_eq
  intro i
  rw [Nat.testBit_xor, Nat.testBit_two_pow, Nat.add_comm, ]
  by_cases hi : i = 63
  · subst hi
    rw [Nat.testBit_two_pow_add_eq, Nat.testBit_lt_two_pow h]; rfl
  · by_cases hi2 : i < 63
    · rw [Nat.testBit_two_pow_add_gt hi2]; simp [show ¬ 63 = i from by omega]
    · have : x.testBit i = false := Nat.testBit_lt_two_pow (Nat.lt_of_lt_of_le h (Nat.pow_le_pow_right (by decide) (by omega)))
      rw [this]
      have h2 : (2 ^ 63 + x).testBit i = false := Nat.testBit_lt_two_pow (Nat.lt_of_lt_of_le (m := 2 ^ 64) (by omega) (Nat.pow_le_pow_right (by decide) (by omega)))
      rw [h2]; simp [show ¬ 63 = i from by omega]

theorem fneg_fneg (x : Nat) : fneg (fneg x) = x := by
  unfold fneg; rw [Nat.xor_assoc, Nat.xor_self, Nat.xor_zero]

theorem fneg_hi {x : Nat} (h : 2 ^ 63 ≤ x) (h2 : x < 2 ^ 64) : fneg x = x - 2 ^ 63 := by
  have h3 := fneg_lo (x := x - 2 ^ 63) (by omega)
  rw [show x - 2 ^ 63 + 2 ^ 63 = x by omega] at h3
  have h4 := congrArg fneg h3
  rw [fneg_fneg] at h4
  exact h4.symm

theorem fneg_lt {x : Nat} (h : x < 2 ^ 64) : fneg x < 2 ^ 64 := by
  by_cases h1 : x < 2 ^ 63
  · rw [fneg_lo h1]; omega
  · rw [fneg_hi (by omega) h]; omega

theorem read_neg {x : Nat} (h : x < 2 ^ 64) : D.read (fneg x) = (D.read x).opposite := by
  have e1 : fneg x % 2 ^ 63 = x % 2 ^ 63 := by
    by_cases h1 : x < 2 ^ 63
    · rw [fneg_lo h1]; omega
    · rw [fneg_hi (by omega) h]; omega
  have e2 : (fneg x / 2 ^ 63 % 2 == 1) = !(x / 2 ^ 63 % 2 == 1) := by
    by_cases h1 : x < 2 ^ 63
    · rw [fneg_lo h1, show (x + 2 ^ 63) / 2 ^ 63 = 1 by omega, show x / 2 ^ 63 = 0 by omega]; rfl
    · rw [fneg_hi (by omega) h, show (x - 2 ^ 63) / 2 ^ 63 = 0 by omega, show x / 2 ^ 63 = 1 by omega]; rfl
  unfold Format.read
  simp only [signWeight]
  rw [e1, e2]
  split
  · rfl
  · split
    · rfl
    · split <;> rfl

theorem isNaN_neg {x : Nat} (h : x < 2 ^ 64) : isNaN (fneg x) = isNaN x := by
  unfold isNaN; rw [read_neg h, isNaN_opp]

theorem word_neg (neg : Bool) {r : Nat} (h : r < 2 ^ 63) : D.word (!neg) r = fneg (D.word neg r) := by
  unfold Format.word
  rw [signWeight]
  cases neg
  · simp; rw [fneg_lo h, Nat.add_comm]
  · simp; rw [Nat.add_comm, ← fneg_lo h, fneg_fneg]

/-- the rung of the nearest word. -/
def rung (mag : Nat) (place : Int) : Nat :=
  if mag = 0 then 0 else
  min ((max (place + mag.log2 - D.fractionBits) D.leastPlace - D.leastPlace).toNat * D.binade + Toward.even.cut false (mag <<< (place - max (place + mag.log2 - D.fractionBits) D.leastPlace).toNat) (max (place + mag.log2 - D.fractionBits) D.leastPlace - place).toNat) D.infRung

theorem nearest_eq (neg : Bool) (mag : Nat) (place : Int) : D.nearest neg mag place = D.word neg (rung mag place) := by
  unfold Format.nearest rung
  split
  · rfl
  · rfl

theorem rung_le (mag : Nat) (place : Int) : rung mag place ≤ 2047 * 2 ^ 52 := by
  unfold rung
  split
  · omega
  · rw [← infRung]; exact Nat.min_le_right ..

theorem write_opp {d : Datum} (h : d.isNaN = false) : D.write d.opposite = fneg (D.write d) := by
  cases d with
  | number s m i =>
    simp only [Datum.opposite, Format.write, nearest_eq]
    exact word_neg s (Nat.lt_of_le_of_lt (rung_le m i) (by decide))
  | infinity s => exact word_neg s (by decide)
  | nan s t => simp [Datum.isNaN] at h

theorem isNaN_word (neg : Bool) {r : Nat} (h : r ≤ 2047 * 2 ^ 52) : isNaN (D.word neg r) = false := by
  unfold isNaN Format.read
  simp only [signWeight, binade, infRung]
  have e : D.word neg r % 2 ^ 63 = r := by
    unfold Format.word
    rw [signWeight]
    split <;> omega
  rw [e]
  split
  · rfl
  · split
    · rfl
    · split
      · rfl
      · omega

theorem isNaN_write {d : Datum} (h : d.isNaN = false) : isNaN (D.write d) = false := by
  cases d with
  | number s m i =>
    simp only [Format.write, nearest_eq]
    exact isNaN_word s (rung_le m i)
  | infinity s => exact isNaN_word s (by decide)
  | nan s t => simp [Datum.isNaN] at h

theorem canon_of {x : Nat} (h : isNaN x = false) : canon x = x := by unfold canon; rw [h]; rfl
theorem canon_nan {x : Nat} (h : isNaN x = true) : canon x = qnan := by unfold canon; rw [h]; rfl
theorem canon_canon (x : Nat) : canon (canon x) = canon x := by
  cases h : isNaN x
  · rw [canon_of h, canon_of h]
  · rw [canon_nan h, canon_nan isNaN_qnan]

theorem isNaN_canon (x : Nat) : isNaN (canon x) = isNaN x := by
  cases h : isNaN x
  · rw [canon_of h, h]
  · rw [canon_nan h, isNaN_qnan]

theorem add_notNaN {x y r : Nat} (h : D.add x y = some r) : isNaN r = false := by
  unfold Format.add at h
  cases e : (D.read x).sum (D.read y) with
  | none => rw [e] at h; simp at h
  | some d => rw [e] at h; simp at h; subst h; exact isNaN_write (sum_notNaN e)
theorem sub_notNaN {x y r : Nat} (h : D.sub x y = some r) : isNaN r = false := by
  unfold Format.sub at h
  cases e : (D.read x).sum (D.read y).opposite with
  | none => rw [e] at h; simp at h
  | some d => rw [e] at h; simp at h; subst h; exact isNaN_write (sum_notNaN e)
theorem mul_notNaN {x y r : Nat} (h : D.mul x y = some r) : isNaN r = false := by
  unfold Format.mul at h
  cases e : (D.read x).product (D.read y) with
  | none => rw [e] at h; simp at h
  | some d => rw [e] at h; simp at h; subst h; exact isNaN_write (product_notNaN e)

theorem canon_fadd (x y : Nat) : canon (fadd x y) = fadd x y := by
  unfold fadd
  cases h : D.add x y with
  | none => exact canon_nan isNaN_qnan
  | some r => exact canon_of (add_notNaN h)
theorem canon_fsub (x y : Nat) : canon (fsub x y) = fsub x y := by
  unfold fsub
  cases h : D.sub x y with
  | none => exact canon_nan isNaN_qnan
  | some r => exact canon_of (sub_notNaN h)
theorem canon_fmul (x y : Nat) : canon (fmul x y) = fmul x y := by
  unfold fmul
  cases h : D.mul x y with
  | none => exact canon_nan isNaN_qnan
  | some r => exact canon_of (mul_notNaN h)

theorem fadd_comm (x y : Nat) : fadd x y = fadd y x := by unfold fadd Format.add; rw [sum_comm]
theorem fmul_comm (x y : Nat) : fmul x y = fmul y x := by unfold fmul Format.mul; rw [product_comm]

theorem fadd_canon_left (x y : Nat) : fadd (canon x) y = fadd x y := by
  cases h : isNaN x
  · rw [canon_of h]
  · rw [canon_nan h]; unfold fadd Format.add
    rw [sum_nan_left h, sum_nan_left isNaN_qnan]
theorem fadd_canon_right (x y : Nat) : fadd x (canon y) = fadd x y := by rw [fadd_comm, fadd_canon_left, fadd_comm]
theorem fmul_canon_left (x y : Nat) : fmul (canon x) y = fmul x y := by
  cases h : isNaN x
  · rw [canon_of h]
  · rw [canon_nan h]; unfold fmul Format.mul
    rw [product_nan_left h, product_nan_left isNaN_qnan]
theorem fmul_canon_right (x y : Nat) : fmul x (canon y) = fmul x y := by rw [fmul_comm, fmul_canon_left, fmul_comm]
theorem fsub_canon_left (x y : Nat) : fsub (canon x) y = fsub x y := by
  cases h : isNaN x
  · rw [canon_of h]
  · rw [canon_nan h]; unfold fsub Format.sub
    rw [sum_nan_left h, sum_nan_left isNaN_qnan]
theorem fsub_canon_right (x y : Nat) : fsub x (canon y) = fsub x y := by
  cases h : isNaN y
  · rw [canon_of h]
  · rw [canon_nan h]; unfold fsub Format.sub
    rw [sum_nan_right ((isNaN_opp _).trans h), sum_nan_right ((isNaN_opp _).trans isNaN_qnan)]

theorem qnan_lt : qnan < 2 ^ 64 := by decide
theorem fadd_lt (x y : Nat) : fadd x y < 2 ^ 64 := by
  unfold fadd
  cases h : D.add x y with
  | none => exact qnan_lt
  | some r => exact width ▸ D.add_lt h
theorem fsub_lt (x y : Nat) : fsub x y < 2 ^ 64 := by
  unfold fsub
  cases h : D.sub x y with
  | none => exact qnan_lt
  | some r => exact width ▸ D.sub_lt h
theorem fmul_lt (x y : Nat) : fmul x y < 2 ^ 64 := by
  unfold fmul
  cases h : D.mul x y with
  | none => exact qnan_lt
  | some r => exact width ▸ D.mul_lt h

/-- 'a - b' is 'a + (-b)'. -/
theorem fsub_eq {y : Nat} (x : Nat) (h : y < 2 ^ 64) : fsub x y = fadd x (fneg y) := by
  unfold fsub fadd Format.sub Format.add; rw [read_neg h]
theorem fsub_neg {y : Nat} (x : Nat) (h : y < 2 ^ 64) : fsub x (fneg y) = fadd x y := by
  rw [fsub_eq x (fneg_lt h), fneg_fneg]

/-- the product with the opposite -/
theorem fmul_neg {y : Nat} (x : Nat) (h : y < 2 ^ 64) : canon (fneg (fmul x y)) = fmul x (fneg y) := by
  unfold fmul Format.mul
  rw [read_neg h, product_opp]
  cases e : (D.read x).product (D.read y) with
  | none =>
    simp
    exact canon_nan (by rw [isNaN_neg qnan_lt]; exact isNaN_qnan)
  | some d =>
    simp
    rw [write_opp (product_notNaN e)]
    exact canon_of (by rw [isNaN_neg (by have := D.write_lt d; rwa [width] at this)]; exact isNaN_write (product_notNaN e))

/-- alike: as 'a == b || a != a && b != b' -/
def same (a b : Nat) : Bool := D.order a b == some .eq || (D.order a a != some .eq && D.order b b != some .eq)

theorem order_self (d : Datum) : d.order d = if d.isNaN then none else some .eq := by
  cases d <;> simp [Datum.order, Datum.isNaN]

theorem ord_self {x : Nat} (h : isNaN x = false) : D.order x x = some .eq := by
  unfold Format.order; rw [order_self]; unfold isNaN at h; rw [h]; rfl
theorem ord_nan_left {x : Nat} (h : isNaN x = true) (y : Nat) : D.order x y = none := by
  unfold Format.order
  unfold isNaN at h
  cases e : D.read x <;> rw [e] at h <;> simp [Datum.isNaN] at h
  cases D.read y <;> rfl

theorem same_of {a b : Nat} (h : canon a = canon b) : same a b = true := by
  unfold same
  cases ha : isNaN a
  · have hb : isNaN b = false := by rw [← isNaN_canon, ← h, isNaN_canon, ha]
    rw [canon_of ha, canon_of hb] at h
    subst h
    rw [ord_self ha]; rfl
  · have hb : isNaN b = true := by rw [← isNaN_canon, ← h, isNaN_canon, ha]
    rw [ord_nan_left ha b, ord_nan_left ha a, ord_nan_left hb b]; rfl

end Go.Proofs.Ytemneeknemijpaa.Fl
