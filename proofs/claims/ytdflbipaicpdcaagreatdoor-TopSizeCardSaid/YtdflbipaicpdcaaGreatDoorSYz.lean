/- How far rounded sums and products of floats are off, told without rounding: plain. No condition. -/
import Derived.Test.YtdflbipaicpdcaaGreatDoorSAa
import Derived.Test.YtdflbipaicpdcaaGreatDoorSDa
set_option linter.unusedVariables false
set_option linter.unusedSimpArgs false
namespace Go.Proofs.YtdflbipaicpdcaaGreatDoor.Fl
theorem sign_near {T Z : Int} {R r : Nat} {neg : Bool} (h : (((R : Nat) : Int) - T.natAbs).natAbs ≤ (((r : Nat) : Int) - T.natAbs).natAbs) (hn : (T = 0 ∧ R = 0) ∨ neg = decide (T < 0)) (hZ : Z.natAbs = r) :
    ((if neg then -(R : Int) else (R : Int)) - T).natAbs ≤ (Z - T).natAbs := by
  rcases hn with ⟨rfl, rfl⟩ | rfl
  · split <;> simp
  · by_cases h0 : T < 0
    · simp only [h0, decide_true, if_true]; omega
    · simp only [h0, decide_false]
      simp only [Bool.false_eq_true, if_false]
      omega
theorem sg_V {x : Nat} (h : V x ≠ 0) : sg x = decide (V x < 0) := by
  unfold V at *
  cases hsz : sg x
  · rw [hsz] at h; simp at h ⊢
  · rw [hsz] at h; simp at h ⊢; omega
theorem rel_aux {R g x : Nat} (h1 : 2 * R ≤ 2 * x + g) (h2 : 2 * x ≤ 2 * R + g) (h4 : g * 2 ^ 52 ≤ x) : (((R : Nat) : Int) - x).natAbs * 2 ^ 53 ≤ x := by
  have h5 : (((R : Nat) : Int) - x).natAbs * 2 ≤ g := by omega
  generalize (((R : Nat) : Int) - x).natAbs = d at *
  have h6 : d * 2 * 2 ^ 52 ≤ g * 2 ^ 52 := Nat.mul_le_mul_right _ h5
  rw [Nat.mul_assoc, show (2 : Nat) * 2 ^ 52 = 2 ^ 53 from rfl] at h6
  exact Nat.le_trans h6 h4
theorem rnd_small {x K : Nat} (h : x < 2 ^ (2097 + K)) : rnd x K < 2047 * 2 ^ 52 := by
  by_cases hx : x = 0
  · subst hx
    have : rnd 0 K = 0 := rfl
    rw [this]; decide
  have hk := (kept_spec (K := K) hx).1
  rw [rnd_eq hx]
  have hl := (Nat.log2_lt hx).2 h
  have : x.log2 - 52 - K ≤ 2044 := by omega
  omega
theorem rel_err {x K : Nat} (hlt : rnd x K < 2047 * 2 ^ 52) (h : x = 0 ∨ 2 ^ (52 + K) ≤ x ∨ K = 0) : (((RV (rnd x K) * 2 ^ K : Nat) : Int) - x).natAbs * 2 ^ 53 ≤ x := by
  by_cases hx : x = 0
  · subst hx
    have : rnd 0 K = 0 := rfl
    rw [this, show RV 0 = 0 from rfl, Nat.zero_mul]
    simp
  have hk := kept_spec (K := K) hx
  rw [rnd_eq hx] at hlt ⊢
  have hl := Nat.log2_self_le hx
  have hl2 := @Nat.lt_log2_self x
  obtain ⟨k, hkk⟩ : ∃ k, x.log2 - 52 - K = k := ⟨_, rfl⟩
  rw [hkk] at hlt hk ⊢
  rw [Nat.min_eq_left (by omega), RV_make _ _ hk.1 hk.2]
  have hg := Nat.two_pow_pos (k + K)
  have hn := rne_near x (2 ^ (k + K)) hg
  have e1 : rne x (2 ^ (k + K)) * 2 ^ k * 2 ^ K = 2 ^ (k + K) * rne x (2 ^ (k + K)) := by rw [Nat.mul_assoc, ← Nat.pow_add, Nat.mul_comm]
  rw [e1]
  by_cases hb : 52 + K ≤ x.log2
  · have h4 : 2 ^ (k + K) * 2 ^ 52 ≤ x := by
      rw [← Nat.pow_add]
      refine Nat.le_trans (Nat.le_of_eq ?_) hl
      congr 1
      omega
    exact rel_aux hn.1 hn.2 h4
  · have hK : K = 0 := by
      rcases h with h | h | h
      · exact absurd h hx
      · exfalso
        have h5 : 2 ^ (52 + K) < 2 ^ (x.log2 + 1) := Nat.lt_of_le_of_lt h hl2
        have := (Nat.pow_lt_pow_iff_right (a := 2) (by decide)).1 h5
        omega
      · exact h
    subst hK
    have hk0 : k = 0 := by omega
    subst hk0
    have := rne_mul x 1 (by decide)
    rw [Nat.mul_one] at this
    simp [this]

theorem rel_err2 {x K : Nat} (hlt : rnd x K < 2047 * 2 ^ 52) : (((RV (rnd x K) * 2 ^ K : Nat) : Int) - x).natAbs * 2 ^ 53 ≤ x + 2 ^ (52 + K) := by
  by_cases hx : x = 0 ∨ 2 ^ (52 + K) ≤ x
  · exact Nat.le_trans (rel_err hlt (by rcases hx with h | h; exact .inl h; exact .inr (.inl h))) (Nat.le_add_right _ _)
  · have hx0 : x ≠ 0 := fun h => hx (.inl h)
    have hx1 : x < 2 ^ (52 + K) := Nat.lt_of_not_le fun h => hx (.inr h)
    have hk := kept_spec (K := K) hx0
    rw [rnd_eq hx0] at hlt ⊢
    have hlog : x.log2 < 52 + K := (Nat.log2_lt hx0).2 hx1
    have hz : x.log2 - 52 - K = 0 := by omega
    rw [hz] at hlt hk ⊢
    rw [Nat.min_eq_left (by omega), RV_make _ _ hk.1 hk.2]
    have hg := Nat.two_pow_pos (0 + K)
    have hn := rne_near x (2 ^ (0 + K)) hg
    have e1 : rne x (2 ^ (0 + K)) * 2 ^ 0 * 2 ^ K = 2 ^ (0 + K) * rne x (2 ^ (0 + K)) := by rw [Nat.mul_assoc, ← Nat.pow_add, Nat.mul_comm]
    rw [e1]
    have e2 : 2 ^ (52 + K) = 2 ^ (0 + K) * 2 ^ 52 := by rw [← Nat.pow_add]; congr 1; omega
    rw [e2]
    obtain ⟨R, hR⟩ : ∃ R, 2 ^ (0 + K) * rne x (2 ^ (0 + K)) = R := ⟨_, rfl⟩
    obtain ⟨g, hgg⟩ : ∃ g, 2 ^ (0 + K) = g := ⟨_, rfl⟩
    rw [hR, hgg] at hn
    rw [hR, hgg]
    clear hR e1 e2 hg hlt hk hlog hz hx1 hx0 hx
    have h5 : (((R : Nat) : Int) - x).natAbs * 2 ≤ g := by omega
    omega

theorem mul_err2 {a c : Nat} (ha : Fin a) (hc : Fin c) {z : Nat} (hz : z = 1074) (h2 : (V a * V c).natAbs < 2 ^ (2097 + z)) :
    Fin (fmul a c) ∧ (V (fmul a c) * (ONE : Int) - V a * V c).natAbs * 2 ^ 53 ≤ (V a * V c).natAbs + 2 ^ (52 + z) := by
  have h3 : mg a * mg c = (V a * V c).natAbs := by rw [mg_natAbs, mg_natAbs, Int.natAbs_mul]
  rw [fmul_fin ha hc, ← hz, h3]
  have hlt := rnd_small h2
  refine ⟨Fin.word _ hlt, ?_⟩
  rw [V_word _ (by omega)]
  have he := rel_err2 hlt
  rw [← ONE_eq z hz] at he
  refine Nat.le_trans (Nat.mul_le_mul_right _ ?_) he
  have h5 := sign_near (T := V a * V c) (Z := ((sgz (decide (V a * V c < 0)) (RV (rnd (V a * V c).natAbs z) * ONE)) : Int)) (R := RV (rnd (V a * V c).natAbs z) * ONE) (r := RV (rnd (V a * V c).natAbs z) * ONE) (neg := sg a ^^ sg c) (Nat.le_refl _) ?_ (sgz_natAbs _ _)
  · have e : (if (sg a ^^ sg c) = true then -(((RV (rnd (V a * V c).natAbs z) * ONE : Nat)) : Int) else ((RV (rnd (V a * V c).natAbs z) * ONE : Nat) : Int)) = (if (sg a ^^ sg c) = true then -(RV (rnd (V a * V c).natAbs z) : Int) else (RV (rnd (V a * V c).natAbs z) : Int)) * (ONE : Int) := by
      split
      · rw [Int.natCast_mul, Int.neg_mul]
      · rw [Int.natCast_mul]
    rw [e] at h5
    refine Nat.le_trans h5 ?_
    unfold sgz
    generalize V a * V c = T
    generalize RV (rnd T.natAbs z) * ONE = R
    by_cases h0 : T < 0 <;> simp [h0] <;> omega
  · by_cases h0 : V a * V c = 0
    · left
      refine ⟨h0, ?_⟩
      rw [h0]
      have : rnd (0 : Int).natAbs z = 0 := rfl
      rw [this, show RV 0 = 0 from rfl, Nat.zero_mul]
    · right
      have ha0 : V a ≠ 0 := fun h => h0 (by rw [h, Int.zero_mul])
      have hc0 : V c ≠ 0 := fun h => h0 (by rw [h, Int.mul_zero])
      rw [sg_V ha0, sg_V hc0]
      generalize V a = x at *
      generalize V c = y at *
      clear h2 h3 hlt he
      by_cases hx : x < 0
      · by_cases hy : y < 0
        · have := Int.mul_pos_of_neg_of_neg hx hy
          simp [hx, hy]; omega
        · have := Int.mul_neg_of_neg_of_pos hx (show 0 < y by omega)
          simp [hx, hy, this]
      · by_cases hy : y < 0
        · have := Int.mul_neg_of_pos_of_neg (show 0 < x by omega) hy
          simp [hx, hy, this]
        · have := Int.mul_pos (show 0 < x by omega) (show 0 < y by omega)
          simp [hx, hy]; omega
theorem add_err {p q : Nat} (hp : Fin p) (hq : Fin q) {n : Nat} (hn : n = 2097) (h2 : (V p + V q).natAbs < 2 ^ n) :
    Fin (fadd p q) ∧ (V (fadd p q) - (V p + V q)).natAbs * 2 ^ 53 ≤ (V p + V q).natAbs := by
  rw [fadd_fin hp hq]
  have hlt := rnd_small (K := 0) (by rw [← hn]; exact h2)
  refine ⟨Fin.word _ hlt, ?_⟩
  rw [V_word _ (by omega)]
  have he := rel_err hlt (.inr (.inr rfl))
  rw [Nat.pow_zero, Nat.mul_one] at he
  refine Nat.le_trans (Nat.mul_le_mul_right _ ?_) he
  generalize hT : V p + V q = T
  by_cases h0 : T = 0
  · subst h0
    have : rnd (0 : Int).natAbs 0 = 0 := rfl
    rw [this, show RV 0 = 0 from rfl]
    simp
  · rw [if_neg h0]
    generalize RV (rnd T.natAbs 0) = R
    by_cases h1 : T < 0 <;> simp [h1] <;> omega
theorem V_fneg {x : Nat} (h : Fin x) : Fin (fneg x) ∧ V (fneg x) = -V x := by
  have := (Is.mk h rfl : Is x (V x)).neg
  exact ⟨this.fin, this.val⟩

theorem sub_err {p q : Nat} (hp : Fin p) (hq : Fin q) {n : Nat} (hn : n = 2097) (h2 : (V p - V q).natAbs < 2 ^ n) :
    Fin (fsub p q) ∧ (V (fsub p q) - (V p - V q)).natAbs * 2 ^ 53 ≤ (V p - V q).natAbs := by
  obtain ⟨f, e⟩ := V_fneg hq
  rw [fsub_eq p hq.1]
  have := add_err hp f hn (by rw [e]; exact h2)
  rw [e] at this
  exact this
end Go.Proofs.YtdflbipaicpdcaaGreatDoor.Fl
