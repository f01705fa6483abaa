/- Floats that are finite, as whole numbers of the least float: sums, products, comparisons, and what comes out without rounding. No condition. -/
import Derived.Test.YtemneeknemijpaaFlv
namespace Go.Proofs.Ytemneeknemijpaa.Fl
open Ieee

/-- one, in units of the least float -/
def ONE : Nat := 2 ^ 1074
theorem ONE_eq (n : Nat) (h : n = 1074) : ONE = 2 ^ n := by subst h; unfold ONE; rfl
theorem ONE_pos : 0 < ONE := by
  obtain ⟨z, hz⟩ : ∃ z, z = 1074 := ⟨_, rfl⟩
  rw [ONE_eq z hz]; exact Nat.two_pow_pos z

/-- the sign, the rung -/
def sg (x : Nat) : Bool := x / 2 ^ 63 % 2 == 1
def rg (x : Nat) : Nat := x % 2 ^ 63
def mant (r : Nat) : Nat := if r < 2 ^ 52 then r else 2 ^ 52 + r % 2 ^ 52
def ex (r : Nat) : Nat := r / 2 ^ 52 - 1
/-- the size, in units of the least float -/
def mg (x : Nat) : Nat := RV (rg x)
def V (x : Nat) : Int := if sg x then -(mg x : Int) else (mg x : Int)
/-- finite -/
def Fin (x : Nat) : Prop := x < 2 ^ 64 ∧ rg x < 2047 * 2 ^ 52

theorem RV_eq (r : Nat) : RV r = mant r * 2 ^ ex r := by
  unfold RV mant ex
  split
  · rw [Nat.div_eq_of_lt (by assumption)]; simp
  · rfl

theorem mant_lt (r : Nat) : mant r < 2 ^ 53 := by unfold mant; split <;> omega

theorem read_fin {x : Nat} (h : Fin x) : D.read x = .number (sg x) (mant (rg x)) ((ex (rg x) : Nat) - 1074 : Int) := by
  obtain ⟨h1, h2⟩ := h
  unfold Format.read
  simp only [signWeight, binade, infRung, leastPlace]
  unfold sg rg mant ex at *
  split
  · rename_i h3
    rw [Nat.div_eq_of_lt h3]
    congr 1
  · congr 1

theorem word_split {x : Nat} (h : x < 2 ^ 64) : D.word (sg x) (rg x) = x := by
  unfold Format.word sg rg
  rw [signWeight]
  by_cases h1 : x < 2 ^ 63
  · rw [show x / 2 ^ 63 = 0 by omega]
    simp
    omega
  · rw [show x / 2 ^ 63 = 1 by omega]
    simp
    omega

theorem sg_word (s : Bool) {r : Nat} (h : r < 2 ^ 63) : sg (D.word s r) = s := by
  unfold Format.word sg
  rw [signWeight]
  cases s
  · simp; omega
  · simp; omega
theorem rg_word (s : Bool) {r : Nat} (h : r < 2 ^ 63) : rg (D.word s r) = r := by
  unfold Format.word rg
  rw [signWeight]
  cases s
  · simp; omega
  · simp; omega
theorem word_lt64 (s : Bool) {r : Nat} (h : r < 2 ^ 63) : D.word s r < 2 ^ 64 := by
  unfold Format.word
  rw [signWeight]
  split <;> omega

theorem Fin.word (s : Bool) {r : Nat} (h : r < 2047 * 2 ^ 52) : Fin (D.word s r) := ⟨word_lt64 s (by omega), by rw [rg_word s (by omega)]; exact h⟩
theorem V_word (s : Bool) {r : Nat} (h : r < 2 ^ 63) : V (D.word s r) = if s then -(RV r : Int) else (RV r : Int) := by
  unfold V mg
  rw [sg_word s h, rg_word s h]

theorem Fin.notNaN {x : Nat} (h : Fin x) : isNaN x = false := by unfold isNaN; rw [read_fin h]; rfl

theorem signed_eq (s : Bool) (m k : Nat) : signed s m k = if s then -((m * 2 ^ k : Nat) : Int) else ((m * 2 ^ k : Nat) : Int) := by
  unfold signed; rw [Nat.shiftLeft_eq]

theorem sg_mul (s : Bool) (a b : Nat) : (if s then -((a : Nat) : Int) else (a : Int)) * (b : Int) = if s then -((a * b : Nat) : Int) else ((a * b : Nat) : Int) := by
  split
  · rw [Int.neg_mul, Int.natCast_mul]
  · rw [Int.natCast_mul]

theorem signed_mul (s : Bool) (m k j : Nat) : signed s m k * ((2 ^ j : Nat) : Int) = if s then -((m * 2 ^ (k + j) : Nat) : Int) else ((m * 2 ^ (k + j) : Nat) : Int) := by
  rw [signed_eq, sg_mul, Nat.mul_assoc, ← Nat.pow_add]

theorem V_eq (x : Nat) : V x = if sg x then -((mant (rg x) * 2 ^ ex (rg x) : Nat) : Int) else ((mant (rg x) * 2 ^ ex (rg x) : Nat) : Int) := by
  unfold V mg; rw [RV_eq]

/-- two finite floats, on the coarser of their places -/
theorem parts {x y : Nat} : ∃ e i j : Nat, e = min (ex (rg x)) (ex (rg y)) ∧
    (((ex (rg x) : Nat) - 1074 : Int) - min ((ex (rg x) : Nat) - 1074 : Int) ((ex (rg y) : Nat) - 1074 : Int)).toNat = i ∧
    (((ex (rg y) : Nat) - 1074 : Int) - min ((ex (rg x) : Nat) - 1074 : Int) ((ex (rg y) : Nat) - 1074 : Int)).toNat = j ∧
    min ((ex (rg x) : Nat) - 1074 : Int) ((ex (rg y) : Nat) - 1074 : Int) = (e : Int) - 1074 ∧ i + e = ex (rg x) ∧ j + e = ex (rg y) := by
  refine ⟨_, _, _, rfl, rfl, rfl, ?_, ?_, ?_⟩ <;> omega

theorem fadd_fin {x y : Nat} (hx : Fin x) (hy : Fin y) : fadd x y = D.word (if V x + V y = 0 then sg x && sg y else decide (V x + V y < 0)) (rnd (V x + V y).natAbs 0) := by
  unfold fadd Format.add
  rw [read_fin hx, read_fin hy]
  obtain ⟨e, i, j, he, hi, hj, hb, hix, hjy⟩ := @parts x y
  simp only [Datum.sum]
  rw [hi, hj, hb]
  have hV : (signed (sg x) (mant (rg x)) i + signed (sg y) (mant (rg y)) j) * ((2 ^ e : Nat) : Int) = V x + V y := by
    rw [Int.add_mul, signed_mul, signed_mul, hix, hjy, V_eq, V_eq]
  generalize signed (sg x) (mant (rg x)) i + signed (sg y) (mant (rg y)) j = T at *
  have hp : (0 : Int) < ((2 ^ e : Nat) : Int) := by have := Nat.two_pow_pos e; omega
  have h0 : (T = 0) ↔ (V x + V y = 0) := by
    rw [← hV]
    constructor
    · intro h; rw [h, Int.zero_mul]
    · intro h
      rcases Int.mul_eq_zero.1 h with h | h
      · exact h
      · omega
  have hneg : (T < 0) ↔ (V x + V y < 0) := by
    rw [← hV]
    constructor
    · intro h; exact Int.mul_neg_of_neg_of_pos h hp
    · intro h
      apply Int.lt_of_not_ge
      intro h2
      have := Int.mul_nonneg h2 (Int.le_of_lt hp)
      omega
  simp only [Option.map_some, Option.getD_some, Format.write, nearest_eq]
  rw [rung_eq T.natAbs _ e 0 (by omega)]
  have hn : T.natAbs * 2 ^ e = (V x + V y).natAbs := by rw [← hV, Int.natAbs_mul, Int.natAbs_natCast]
  rw [hn]
  congr 1
  by_cases h : T = 0
  · rw [if_pos h, if_pos (h0.1 h)]
  · rw [if_neg h, if_neg (fun e => h (h0.2 e))]
    exact decide_eq_decide.2 hneg

theorem fmul_fin {x y : Nat} (hx : Fin x) (hy : Fin y) : fmul x y = D.word (sg x ^^ sg y) (rnd (mg x * mg y) 1074) := by
  unfold fmul Format.mul
  rw [read_fin hx, read_fin hy]
  simp only [Datum.product, Option.map_some, Option.getD_some, Format.write, nearest_eq]
  rw [rung_eq _ _ (ex (rg x) + ex (rg y)) 1074 (by omega)]
  congr 2
  unfold mg
  rw [RV_eq, RV_eq, Nat.pow_add, Nat.mul_mul_mul_comm]

theorem order_fin {x y : Nat} (hx : Fin x) (hy : Fin y) : D.order x y = some (compare (V x) (V y)) := by
  unfold Format.order
  rw [read_fin hx, read_fin hy]
  obtain ⟨e, i, j, he, hi, hj, hb, hix, hjy⟩ := @parts x y
  simp only [Datum.order]
  rw [hi, hj]
  congr 1
  have h1 : signed (sg x) (mant (rg x)) i * ((2 ^ e : Nat) : Int) = V x := by rw [signed_mul, hix, V_eq]
  have h2 : signed (sg y) (mant (rg y)) j * ((2 ^ e : Nat) : Int) = V y := by rw [signed_mul, hjy, V_eq]
  have hp : (0 : Int) < ((2 ^ e : Nat) : Int) := by have := Nat.two_pow_pos e; omega
  rw [← h1, ← h2]
  generalize signed (sg x) (mant (rg x)) i = a
  generalize signed (sg y) (mant (rg y)) j = b
  generalize ((2 ^ e : Nat) : Int) = p at *
  rcases Int.lt_trichotomy a b with h | h | h
  · rw [Int.compare_eq_lt.2 h, Int.compare_eq_lt.2 (Int.mul_lt_mul_of_pos_right h hp)]
  · rw [h, Int.compare_eq_eq.2 rfl, Int.compare_eq_eq.2 rfl]
  · rw [Int.compare_eq_gt.2 h, Int.compare_eq_gt.2 (Int.mul_lt_mul_of_pos_right h hp)]

/-- a whole number of the least float that a float can be -/
def Rep (v : Int) : Prop := ∃ c t : Nat, c < 2 ^ 53 ∧ v.natAbs = c * 2 ^ t ∧ c * 2 ^ t < TOP

/-- x is finite, and worth v -/
structure Is (x : Nat) (v : Int) : Prop where
  fin : Fin x
  val : V x = v

theorem TOP_lt {c t j z : Nat} (hn : j + z = 2098) (hc : c < 2 ^ j) (ht : t ≤ z) : c * 2 ^ t < TOP := by
  rw [TOP_eq _ hn, Nat.pow_add]
  exact Nat.lt_of_lt_of_le (Nat.mul_lt_mul_of_pos_right hc (Nat.two_pow_pos _)) (Nat.mul_le_mul_left _ (pow_mono ht))

theorem RV_lt {r : Nat} (h : r < 2047 * 2 ^ 52) : RV r < TOP := by
  rw [RV_eq]
  have h1 := mant_lt r
  have h2 : ex r ≤ 2045 := by unfold ex; omega
  exact TOP_lt (j := 53) (z := 2045) rfl h1 h2

theorem Is.rep {x : Nat} {v : Int} (h : Is x v) : Rep v := by
  refine ⟨mant (rg x), ex (rg x), mant_lt _, ?_, ?_⟩
  · rw [← h.val, V_eq]
    split
    · rw [Int.natAbs_neg, Int.natAbs_natCast]
    · rw [Int.natAbs_natCast]
  · rw [← RV_eq]; exact RV_lt h.fin.2

theorem Is.rnd {v : Int} {s : Bool} (h : Rep v) (hs : v = 0 ∨ s = decide (v < 0)) (K : Nat) : Is (D.word s (rnd (v.natAbs * 2 ^ K) K)) v := by
  obtain ⟨c, t, hc, he, hl⟩ := h
  have h1 := rnd_exact (K := K) hc hl
  rw [Nat.pow_add, ← Nat.mul_assoc, ← he] at h1
  refine ⟨Fin.word s h1.2, ?_⟩
  rw [V_word s (by omega), h1.1]
  rcases hs with rfl | rfl
  · simp
  · by_cases hv : v < 0 <;> simp [hv] <;> omega

theorem Is.add {x y : Nat} {a b : Int} (hx : Is x a) (hy : Is y b) (h : Rep (a + b)) : Is (fadd x y) (a + b) := by
  rw [fadd_fin hx.fin hy.fin, hx.val, hy.val]
  have := Is.rnd (s := if a + b = 0 then sg x && sg y else decide (a + b < 0)) h (by by_cases h0 : a + b = 0 <;> simp [h0]) 0
  simpa using this

theorem mg_natAbs (x : Nat) : mg x = (V x).natAbs := by unfold V; split <;> simp

theorem Is.mul {x y : Nat} {a b v : Int} (hx : Is x a) (hy : Is y b) (hv : a * b = v * (ONE : Int)) (h : Rep v) : Is (fmul x y) v := by
  rw [fmul_fin hx.fin hy.fin, mg_natAbs, mg_natAbs, hx.val, hy.val, ← Int.natAbs_mul, hv, Int.natAbs_mul, Int.natAbs_natCast]
  obtain ⟨z, hz⟩ : ∃ z, z = 1074 := ⟨_, rfl⟩
  rw [ONE_eq z hz, ← hz]
  refine Is.rnd h ?_ z
  by_cases h0 : v = 0
  · exact .inl h0
  right
  have hp : (0 : Int) < (ONE : Int) := by have := ONE_pos; omega
  have hab : a * b ≠ 0 := by rw [hv]; exact Int.mul_ne_zero h0 (by omega)
  have hs : ∀ z : Nat, V z ≠ 0 → sg z = decide (V z < 0) := by
    intro z hz
    unfold V at *
    cases hsz : sg z
    · rw [hsz] at hz; simp at hz ⊢
    · rw [hsz] at hz; simp at hz ⊢; omega
  have ha0 : V x ≠ 0 := by rw [hx.val]; intro h; exact hab (by rw [h, Int.zero_mul])
  have hb0 : V y ≠ 0 := by rw [hy.val]; intro h; exact hab (by rw [h, Int.mul_zero])
  rw [hs x ha0, hs y hb0, hx.val, hy.val]
  rw [hx.val] at ha0
  rw [hy.val] at hb0
  have hvs : (v < 0) ↔ (a * b < 0) := by
    rw [hv]
    constructor
    · intro h; exact Int.mul_neg_of_neg_of_pos h hp
    · intro h
      apply Int.lt_of_not_ge
      intro h2
      have := Int.mul_nonneg h2 (Int.le_of_lt hp)
      omega
  have hd : decide (v < 0) = decide (a * b < 0) := decide_eq_decide.2 hvs
  rw [hd]
  by_cases ha : a < 0
  · by_cases hb : b < 0
    · have := Int.mul_pos_of_neg_of_neg ha hb
      simp [ha, hb]; omega
    · have := Int.mul_neg_of_neg_of_pos ha (show 0 < b by omega)
      simp [ha, hb, this]
  · by_cases hb : b < 0
    · have := Int.mul_neg_of_pos_of_neg (show 0 < a by omega) hb
      simp [ha, hb, this]
    · have := Int.mul_pos (show 0 < a by omega) (show 0 < b by omega)
      simp [ha, hb]; omega

theorem Is.neg {x : Nat} {a : Int} (hx : Is x a) : Is (fneg x) (-a) := by
  obtain ⟨⟨h1, h2⟩, hv⟩ := hx
  have e : fneg x = D.word (!(sg x)) (rg x) := by rw [word_neg (sg x) (r := rg x) (by omega), word_split h1]
  rw [e]
  refine ⟨Fin.word _ h2, ?_⟩
  rw [V_word _ (by omega), ← hv]
  unfold V mg
  cases sg x <;> simp

theorem Is.sub {x y : Nat} {a b : Int} (hx : Is x a) (hy : Is y b) (h : Rep (a - b)) : Is (fsub x y) (a - b) := by
  rw [fsub_eq x hy.fin.1]
  exact hx.add hy.neg h

/-- floats of one value are equal -/
theorem Is.eql {x y : Nat} {a : Int} (hx : Is x a) (hy : Is y a) : (D.order x y == some .eq) = true := by
  rw [order_fin hx.fin hy.fin, hx.val, hy.val, Int.compare_eq_eq.2 rfl]; rfl

/-- 'float64(n)' -/
def ofInt (n : Int) : Nat := D.write (.number (n < 0) n.natAbs 0)

theorem Rep.int {n : Int} (h : n.natAbs < 2 ^ 53) : Rep (n * (ONE : Int)) := by
  obtain ⟨z, hz⟩ : ∃ z, z = 1074 := ⟨_, rfl⟩
  refine ⟨n.natAbs, z, h, by rw [Int.natAbs_mul, Int.natAbs_natCast, ONE_eq z hz], ?_⟩
  exact TOP_lt (j := 53) (z := 2045) rfl h (by omega)

theorem Is.int {n : Int} (h : n.natAbs < 2 ^ 53) : Is (ofInt n) (n * (ONE : Int)) := by
  have hr := Rep.int h
  have hp : (0 : Int) < (ONE : Int) := by have := ONE_pos; omega
  unfold ofInt
  simp only [Format.write, nearest_eq]
  obtain ⟨z, hz⟩ : ∃ z, z = 1074 := ⟨_, rfl⟩
  rw [rung_eq n.natAbs 0 z 0 (by omega), ← ONE_eq z hz]
  have h2 := Is.rnd (s := decide (n < 0)) hr ?_ 0
  · rw [Int.natAbs_mul, Int.natAbs_natCast, Nat.pow_zero, Nat.mul_one] at h2
    exact h2
  · by_cases h0 : n = 0
    · left; rw [h0, Int.zero_mul]
    · right
      rw [decide_eq_decide]
      constructor
      · intro h; exact Int.mul_neg_of_neg_of_pos h hp
      · intro h
        apply Int.lt_of_not_ge
        intro h2
        have := Int.mul_nonneg h2 (Int.le_of_lt hp)
        omega

end Go.Proofs.Ytemneeknemijpaa.Fl
