/- A product of complex numbers is near: plain. Under: what 'fits' lets in. -/
import Derived.Test.YtemneeknemijpaaSb
import Derived.Test.YtemneeknemijpaaFits
namespace Go.Proofs.Ytemneeknemijpaa.Fl

theorem rel_aux {R g x : Nat} (h1 : 2 * R ≤ 2 * x + g) (h2 : 2 * x ≤ 2 * R + g) (h4 : g * 2 ^ 52 ≤ x) : (((R : Nat) : Int) - x).natAbs * 2 ^ 53 ≤ x := by
  have h5 : (((R : Nat) : Int) - x).natAbs * 2 ≤ g := by omega
  generalize (((R : Nat) : Int) - x).natAbs = d at *
  have h6 : d * 2 * 2 ^ 52 ≤ g * 2 ^ 52 := Nat.mul_le_mul_right _ h5
  rw [Nat.mul_assoc, show (2 : Nat) * 2 ^ 52 = 2 ^ 53 from rfl] at h6
  exact Nat.le_trans h6 h4
theorem P2_of {n k : Nat} (h : n = k) : P2 k = 2 ^ n := by rw [h]; rfl
/-- how near a rounded number is, told by its own size -/
theorem rel_err {x K : Nat} (hlt : rnd x K < 2047 * 2 ^ 52) (h : x = 0 ∨ 2 ^ (52 + K) ≤ x ∨ K = 0) : (((RV (rnd x K) * 2 ^ K : Nat) : Int) - x).natAbs * 2 ^ 53 ≤ x := by
  by_cases hx : x = 0
  · subst hx
    have : rnd 0 K = 0 := rfl
    rw [this, show RV 0 = 0 from rfl, Nat.zero_mul]
    simp
  have hk := kept_spec (K := K) hx
  rw [rnd_eq hx] at hlt ⊢
  have hl := Nat.log2_self_le hx
  have hl2 := @Nat.lt_log2_self x
  obtain ⟨k, hkk⟩ : ∃ k, x.log2 - 52 - K = k := ⟨_, rfl⟩
  rw [hkk] at hlt hk ⊢
  rw [Nat.min_eq_left (by omega), RV_make _ _ hk.1 hk.2]
  have hg := Nat.two_pow_pos (k + K)
  have hn := rne_near x (2 ^ (k + K)) hg
  have e1 : rne x (2 ^ (k + K)) * 2 ^ k * 2 ^ K = 2 ^ (k + K) * rne x (2 ^ (k + K)) := by rw [Nat.mul_assoc, ← Nat.pow_add, Nat.mul_comm]
  rw [e1]
  by_cases hb : 52 + K ≤ x.log2
  · have h4 : 2 ^ (k + K) * 2 ^ 52 ≤ x := by
      rw [← Nat.pow_add]
      refine Nat.le_trans (Nat.le_of_eq ?_) hl
      congr 1
      omega
    exact rel_aux hn.1 hn.2 h4
  · have hK : K = 0 := by
      rcases h with h | h | h
      · exact absurd h hx
      · exfalso
        have h5 : 2 ^ (52 + K) < 2 ^ (x.log2 + 1) := Nat.lt_of_le_of_lt h hl2
        have := (Nat.pow_lt_pow_iff_right (a := 2) (by decide)).1 h5
        omega
      · exact h
    subst hK
    have hk0 : k = 0 := by omega
    subst hk0
    have := rne_mul x 1 (by decide)
    rw [Nat.mul_one] at this
    simp [this]
theorem rnd_small {x K : Nat} (h : x < 2 ^ (2097 + K)) : rnd x K < 2047 * 2 ^ 52 := by
  by_cases hx : x = 0
  · subst hx
    have : rnd 0 K = 0 := rfl
    rw [this]; decide
  have hk := (kept_spec (K := K) hx).1
  rw [rnd_eq hx]
  have hl := (Nat.log2_lt hx).2 h
  have : x.log2 - 52 - K ≤ 2044 := by omega
  omega

theorem mul_err {a c : Nat} (ha : Fin a) (hc : Fin c) {z : Nat} (hz : z = 1074) (h : V a * V c = 0 ∨ 2 ^ (52 + z) ≤ (V a * V c).natAbs) (h2 : (V a * V c).natAbs < 2 ^ (2097 + z)) :
    Fin (fmul a c) ∧ (V (fmul a c) * (ONE : Int) - V a * V c).natAbs * 2 ^ 53 ≤ (V a * V c).natAbs := by
  have h3 : mg a * mg c = (V a * V c).natAbs := by rw [mg_natAbs, mg_natAbs, Int.natAbs_mul]
  rw [fmul_fin ha hc, ← hz, h3]
  have hlt := rnd_small h2
  refine ⟨Fin.word _ hlt, ?_⟩
  rw [V_word _ (by omega)]
  have he := rel_err hlt (by rcases h with h | h; exact .inl (by rw [h]; rfl); exact .inr (.inl h))
  rw [← ONE_eq z hz] at he
  refine Nat.le_trans (Nat.mul_le_mul_right _ ?_) he
  have h5 := sign_near (T := V a * V c) (Z := ((sgz (decide (V a * V c < 0)) (RV (rnd (V a * V c).natAbs z) * ONE)) : Int)) (R := RV (rnd (V a * V c).natAbs z) * ONE) (r := RV (rnd (V a * V c).natAbs z) * ONE) (neg := sg a ^^ sg c) (Nat.le_refl _) ?_ (sgz_natAbs _ _)
  · have e : (if (sg a ^^ sg c) = true then -(((RV (rnd (V a * V c).natAbs z) * ONE : Nat)) : Int) else ((RV (rnd (V a * V c).natAbs z) * ONE : Nat) : Int)) = (if (sg a ^^ sg c) = true then -(RV (rnd (V a * V c).natAbs z) : Int) else (RV (rnd (V a * V c).natAbs z) : Int)) * (ONE : Int) := by
      split
      · rw [Int.natCast_mul, Int.neg_mul]
      · rw [Int.natCast_mul]
    rw [e] at h5
    refine Nat.le_trans h5 ?_
    unfold sgz
    generalize V a * V c = T
    generalize RV (rnd T.natAbs z) * ONE = R
    by_cases h0 : T < 0 <;> simp [h0] <;> omega
  · by_cases h0 : V a * V c = 0
    · left
      refine ⟨h0, ?_⟩
      rw [h0]
      have : rnd (0 : Int).natAbs z = 0 := rfl
      rw [this, show RV 0 = 0 from rfl, Nat.zero_mul]
    · right
      have ha0 : V a ≠ 0 := fun h => h0 (by rw [h, Int.zero_mul])
      have hc0 : V c ≠ 0 := fun h => h0 (by rw [h, Int.mul_zero])
      rw [sg_V ha0, sg_V hc0]
      generalize V a = x at *
      generalize V c = y at *
      clear h h2 h3 hlt he
      by_cases hx : x < 0
      · by_cases hy : y < 0
        · have := Int.mul_pos_of_neg_of_neg hx hy
          simp [hx, hy]; omega
        · have := Int.mul_neg_of_neg_of_pos hx (show 0 < y by omega)
          simp [hx, hy, this]
      · by_cases hy : y < 0
        · have := Int.mul_neg_of_pos_of_neg (show 0 < x by omega) hy
          simp [hx, hy, this]
        · have := Int.mul_pos (show 0 < x by omega) (show 0 < y by omega)
          simp [hx, hy]; omega

theorem add_err {p q : Nat} (hp : Fin p) (hq : Fin q) {n : Nat} (hn : n = 2097) (h2 : (V p + V q).natAbs < 2 ^ n) :
    Fin (fadd p q) ∧ (V (fadd p q) - (V p + V q)).natAbs * 2 ^ 53 ≤ (V p + V q).natAbs := by
  rw [fadd_fin hp hq]
  have hlt := rnd_small (K := 0) (by rw [← hn]; exact h2)
  refine ⟨Fin.word _ hlt, ?_⟩
  rw [V_word _ (by omega)]
  have he := rel_err hlt (.inr (.inr rfl))
  rw [Nat.pow_zero, Nat.mul_one] at he
  refine Nat.le_trans (Nat.mul_le_mul_right _ ?_) he
  generalize hT : V p + V q = T
  by_cases h0 : T = 0
  · subst h0
    have : rnd (0 : Int).natAbs 0 = 0 := rfl
    rw [this, show RV 0 = 0 from rfl]
    simp
  · rw [if_neg h0]
    generalize RV (rnd T.natAbs 0) = R
    by_cases h1 : T < 0 <;> simp [h1] <;> omega

theorem fits_mul {a c : Nat} (ha : Fits a) (hc : Fits c) {z : Nat} (hz : z = 1074) : Fin (fmul a c) ∧ (V (fmul a c) * (ONE : Int) - V a * V c).natAbs * 2 ^ 53 ≤ (V a * V c).natAbs ∧ (V a * V c).natAbs ≤ P2 1474 * P2 1474 := by
  have h1 : (V a * V c).natAbs ≤ P2 1474 * P2 1474 := by
    rw [Int.natAbs_mul]
    rcases ha.size with h | ⟨_, h⟩
    · rw [h, Int.natAbs_zero, Nat.zero_mul]; exact Nat.zero_le _
    · rcases hc.size with k | ⟨_, k⟩
      · rw [k, Int.natAbs_zero, Nat.mul_zero]; exact Nat.zero_le _
      · exact Nat.mul_le_mul h k
  obtain ⟨m, hm⟩ : ∃ m, m = 674 := ⟨_, rfl⟩
  obtain ⟨n, hn⟩ : ∃ n, n = 1474 := ⟨_, rfl⟩
  have h2 : V a * V c = 0 ∨ 2 ^ (52 + z) ≤ (V a * V c).natAbs := by
    rcases ha.size with h | ⟨h, _⟩
    · exact .inl (by rw [h, Int.zero_mul])
    · rcases hc.size with k | ⟨k, _⟩
      · exact .inl (by rw [k, Int.mul_zero])
      · right
        rw [Int.natAbs_mul]
        have h3 := Nat.mul_le_mul h k
        rw [P2_of hm, ← Nat.pow_add] at h3
        exact Nat.le_trans (Nat.pow_le_pow_right (by decide) (by omega)) h3
  have h4 : (V a * V c).natAbs < 2 ^ (2097 + z) := by
    rw [P2_of hn, ← Nat.pow_add] at h1
    exact Nat.lt_of_le_of_lt h1 (Nat.pow_lt_pow_right (by decide) (by omega))
  obtain ⟨h5, h6⟩ := mul_err ha.fin hc.fin hz h2 h4
  exact ⟨h5, h6, h1⟩

theorem err_nat {K α β γ s m n δ : Nat} (h1 : α * K ≤ s) (h2 : β * K ≤ m) (h3 : γ * K ≤ n) (hd : δ ≤ α + β + γ) (hs : s ≤ m + n + β + γ) : δ * (K * K) ≤ (2 * K + 1) * (m + n) := by
  have k1 : α * K * K ≤ s * K := Nat.mul_le_mul_right _ h1
  have k2 : β * K * K ≤ m * K := Nat.mul_le_mul_right _ h2
  have k3 : γ * K * K ≤ n * K := Nat.mul_le_mul_right _ h3
  have k4 : s * K ≤ (m + n + β + γ) * K := Nat.mul_le_mul_right _ hs
  have k5 : δ * (K * K) ≤ (α + β + γ) * (K * K) := Nat.mul_le_mul_right _ hd
  simp only [Nat.add_mul, Nat.one_mul, Nat.mul_add, ← Nat.mul_assoc] at *
  rw [Nat.mul_assoc 2 K m, Nat.mul_assoc 2 K n, Nat.mul_comm K m, Nat.mul_comm K n]
  omega
/-- what is left of a product's parts: two roundings, and a third -/
theorem two_err {P Q X Y : Int} {E : Int} (hP : (P * (ONE : Int) - X).natAbs * 2 ^ 53 ≤ X.natAbs) (hQ : (Q * (ONE : Int) - Y).natAbs * 2 ^ 53 ≤ Y.natAbs) (hE : (E - (P + Q)).natAbs * 2 ^ 53 ≤ (P + Q).natAbs) :
    (E * (ONE : Int) - (X + Y)).natAbs * 2 ^ 106 ≤ (2 ^ 54 + 1) * (X.natAbs + Y.natAbs) := by
  have hO : ∀ T : Int, (T * (ONE : Int)).natAbs = T.natAbs * ONE := fun T => by rw [Int.natAbs_mul, Int.natAbs_natCast]
  have h1 : (E * (ONE : Int) - (P + Q) * (ONE : Int)).natAbs * 2 ^ 53 ≤ ((P + Q) * (ONE : Int)).natAbs := by
    rw [← Int.sub_mul, hO, hO, Nat.mul_right_comm]
    exact Nat.mul_le_mul_right _ hE
  rw [Int.add_mul] at h1
  clear hE hO
  generalize P * (ONE : Int) = p at *
  generalize Q * (ONE : Int) = q at *
  generalize E * (ONE : Int) = e at *
  have := err_nat (K := 2 ^ 53) h1 hP hQ (δ := (e - (X + Y)).natAbs) (by clear h1 hP hQ; omega) (by clear h1 hP hQ; omega)
  rw [show (2 : Nat) ^ 53 * 2 ^ 53 = 2 ^ 106 from rfl, show (2 : Nat) * 2 ^ 53 + 1 = 2 ^ 54 + 1 from rfl] at this
  exact this

theorem sq_le (a b : Nat) : 2 * (a * b) ≤ a * a + b * b := by
  rcases Nat.le_total a b with h | h
  · obtain ⟨t, rfl⟩ : ∃ t, b = a + t := ⟨b - a, by omega⟩
    simp only [Nat.mul_add, Nat.add_mul]
    rw [Nat.mul_comm t a]
    have := Nat.zero_le (t * t)
    omega
  · obtain ⟨t, rfl⟩ : ∃ t, a = b + t := ⟨a - b, by omega⟩
    simp only [Nat.mul_add, Nat.add_mul]
    rw [Nat.mul_comm t b]
    have := Nat.zero_le (t * t)
    omega
theorem sum_sq (a b c d : Nat) : (a * c + b * d) * (a * c + b * d) + (a * d + b * c) * (a * d + b * c) ≤ 2 * ((a * a + b * b) * (c * c + d * d)) := by
  have h1 := Nat.mul_le_mul (sq_le a b) (sq_le c d)
  have e1 : 2 * (a * b) * (2 * (c * d)) = 4 * (a * b * (c * d)) := by rw [Nat.mul_mul_mul_comm]
  rw [e1] at h1
  have e2 : (a * a + b * b) * (c * c + d * d) = a * c * (a * c) + a * d * (a * d) + (b * c * (b * c) + b * d * (b * d)) := by
    rw [Nat.add_mul, Nat.mul_add, Nat.mul_add]
    congr 1 <;> congr 1 <;> ac_rfl
  rw [e2] at h1 ⊢
  have e3 : a * c * (b * d) = a * b * (c * d) := by ac_rfl
  have e4 : a * d * (b * c) = a * b * (c * d) := by ac_rfl
  rw [Nat.add_mul, Nat.mul_add, Nat.mul_add, Nat.add_mul, Nat.mul_add, Nat.mul_add, Nat.mul_comm (b * d) (a * c), Nat.mul_comm (b * c) (a * d), e3, e4]
  generalize a * b * (c * d) = m at *
  omega

theorem last_sum {u v s t S : Nat} (h1 : u * 2 ^ 106 ≤ (2 ^ 54 + 1) * s) (h2 : v * 2 ^ 106 ≤ (2 ^ 54 + 1) * t) (h3 : s * s + t * t ≤ 2 * S) : (u * u + v * v) * 2 ^ 102 ≤ S := by
  have k1 := Nat.mul_le_mul h1 h1
  have k2 := Nat.mul_le_mul h2 h2
  rw [Nat.mul_mul_mul_comm, Nat.mul_mul_mul_comm (2 ^ 54 + 1)] at k1 k2
  generalize u * u = U at *
  generalize v * v = W at *
  generalize s * s = A at *
  generalize t * t = B at *
  have n1 : (2 : Nat) ^ 106 * 2 ^ 106 = 2 ^ 102 * 2 ^ 110 := by decide
  have n2 : ((2 : Nat) ^ 54 + 1) * (2 ^ 54 + 1) * 2 ≤ 2 ^ 110 := by decide
  rw [n1] at k1 k2
  have k3 : ((2 : Nat) ^ 54 + 1) * (2 ^ 54 + 1) * (A + B) ≤ ((2 : Nat) ^ 54 + 1) * (2 ^ 54 + 1) * (2 * S) := Nat.mul_le_mul_left _ h3
  rw [← Nat.mul_assoc _ 2 S] at k3
  have k4 : ((2 : Nat) ^ 54 + 1) * (2 ^ 54 + 1) * 2 * S ≤ 2 ^ 110 * S := Nat.mul_le_mul_right _ n2
  rw [Nat.mul_add] at k3
  have k5 : (U + W) * 2 ^ 102 * 2 ^ 110 ≤ S * 2 ^ 110 := by
    rw [Nat.mul_assoc, Nat.add_mul, Nat.mul_comm S]
    exact Nat.le_trans (Nat.add_le_add k1 k2) (Nat.le_trans k3 k4)
  exact Nat.le_of_mul_le_mul_right k5 (Nat.two_pow_pos 110)

theorem small_of {X P : Int} {z n k : Nat} (hz : z = 1074) (hn : n = 1474) (hk : k = 1876) (h : (P * (ONE : Int) - X).natAbs * 2 ^ 53 ≤ X.natAbs) (h1 : X.natAbs ≤ P2 1474 * P2 1474) : P.natAbs < 2 ^ k := by
  have e : (P * (ONE : Int)).natAbs = P.natAbs * ONE := by rw [Int.natAbs_mul, Int.natAbs_natCast]
  have h2 : P.natAbs * ONE ≤ 2 * (P2 1474 * P2 1474) := by
    rw [← e]
    generalize P * (ONE : Int) = p at *
    generalize P2 1474 * P2 1474 = M at *
    omega
  rw [P2_of hn, ONE_eq z hz, ← Nat.pow_add] at h2
  apply Nat.lt_of_not_le
  intro h3
  have h4 : 2 ^ k * 2 ^ z ≤ P.natAbs * 2 ^ z := Nat.mul_le_mul_right _ h3
  rw [← Nat.pow_add] at h4
  have h5 : 2 ^ (n + n + 2) ≤ 2 ^ (k + z) := Nat.pow_le_pow_right (by decide) (by omega)
  rw [Nat.pow_add 2 (n + n)] at h5
  have := Nat.two_pow_pos (n + n)
  omega
theorem sum_small {P Q : Int} {k n : Nat} (hk : k = 1876) (hn : n = 2097) (h1 : P.natAbs < 2 ^ k) (h2 : Q.natAbs < 2 ^ k) : (P + Q).natAbs < 2 ^ n := by
  have h3 : 2 ^ (k + 1) ≤ 2 ^ n := Nat.pow_le_pow_right (by decide) (by omega)
  rw [Nat.pow_succ] at h3
  omega

theorem V_fneg {x : Nat} (h : Fin x) : Fin (fneg x) ∧ V (fneg x) = -V x := by
  have := (Is.mk h rfl : Is x (V x)).neg
  exact ⟨this.fin, this.val⟩

/-- both parts of a product -/
theorem cpx_parts {a b c d x y : Nat} (ha : Fits a) (hb : Fits b) (hc : Fits c) (hd : Fits d) (hx : canon x = fsub (fmul a c) (fmul b d)) (hy : canon y = fadd (fmul a d) (fmul b c)) :
    (Fin x ∧ (V x * (ONE : Int) - (V a * V c + -(V b * V d))).natAbs * 2 ^ 106 ≤ (2 ^ 54 + 1) * ((V a * V c).natAbs + (V b * V d).natAbs)) ∧
    (Fin y ∧ (V y * (ONE : Int) - (V a * V d + V b * V c)).natAbs * 2 ^ 106 ≤ (2 ^ 54 + 1) * ((V a * V d).natAbs + (V b * V c).natAbs)) := by
  obtain ⟨f1, e1, b1⟩ := fits_mul ha hc rfl
  obtain ⟨f2, e2, b2⟩ := fits_mul hb hd rfl
  obtain ⟨f3, e3, b3⟩ := fits_mul ha hd rfl
  obtain ⟨f4, e4, b4⟩ := fits_mul hb hc rfl
  obtain ⟨g2, n2⟩ := V_fneg f2
  obtain ⟨k, hk⟩ : ∃ k, k = 1876 := ⟨_, rfl⟩
  obtain ⟨n, hn⟩ : ∃ n, n = 2097 := ⟨_, rfl⟩
  constructor
  · rw [fsub_eq _ f2.1] at hx
    obtain ⟨k1, k2⟩ := add_err f1 g2 hn (sum_small hk hn (small_of rfl rfl hk e1 b1) (by rw [n2, Int.natAbs_neg]; exact small_of rfl rfl hk e2 b2))
    have hxx := of_canon hx k1.notNaN
    rw [hxx]
    refine ⟨k1, ?_⟩
    have := two_err (P := V (fmul a c)) (Q := V (fneg (fmul b d))) (X := V a * V c) (Y := -(V b * V d)) e1 (by rw [n2, Int.neg_mul, Int.natAbs_neg (V b * V d), show -(V (fmul b d) * (ONE : Int)) - -(V b * V d) = -(V (fmul b d) * (ONE : Int) - V b * V d) by omega, Int.natAbs_neg]; exact e2) k2
    rwa [Int.natAbs_neg] at this
  · obtain ⟨k1, k2⟩ := add_err f3 f4 hn (sum_small hk hn (small_of rfl rfl hk e3 b3) (small_of rfl rfl hk e4 b4))
    have hyy := of_canon hy k1.notNaN
    rw [hyy]
    exact ⟨k1, two_err e3 e4 k2⟩

theorem cpx_fin {a b c d x y : Nat} (ha : Fits a) (hb : Fits b) (hc : Fits c) (hd : Fits d) (hx : canon x = fsub (fmul a c) (fmul b d)) (hy : canon y = fadd (fmul a d) (fmul b c)) : isFin x = true ∧ isFin y = true := by
  obtain ⟨h1, h2⟩ := cpx_parts ha hb hc hd hx hy
  exact ⟨decide_eq_true h1.1.2, decide_eq_true h2.1.2⟩

theorem cpx_near {a b c d x y : Nat} (ha : Fits a) (hb : Fits b) (hc : Fits c) (hd : Fits d) (hx : canon x = fsub (fmul a c) (fmul b d)) (hy : canon y = fadd (fmul a d) (fmul b c)) :
    ((VV x * (ONE : Int) + -(VV a * VV c + -(VV b * VV d))) * (VV x * (ONE : Int) + -(VV a * VV c + -(VV b * VV d))) + (VV y * (ONE : Int) + -(VV a * VV d + VV b * VV c)) * (VV y * (ONE : Int) + -(VV a * VV d + VV b * VV c))) * ((2 ^ 102 : Nat) : Int) ≤ (VV a * VV a + VV b * VV b) * (VV c * VV c + VV d * VV d) := by
  obtain ⟨⟨fx, h1⟩, ⟨fy, h2⟩⟩ := cpx_parts ha hb hc hd hx hy
  rw [VV_fin fx.2, VV_fin fy.2, VV_fin ha.fin.2, VV_fin hb.fin.2, VV_fin hc.fin.2, VV_fin hd.fin.2]
  have e1 : ∀ p q : Int, p + -q = p - q := fun p q => by omega
  rw [e1 (V x * (ONE : Int)) (V a * V c + -(V b * V d)), e1 (V y * (ONE : Int)) (V a * V d + V b * V c)]
  generalize V x * (ONE : Int) - (V a * V c + -(V b * V d)) = u at *
  generalize V y * (ONE : Int) - (V a * V d + V b * V c) = v at *
  rw [Int.natAbs_mul, Int.natAbs_mul] at h1 h2
  have h3 := last_sum h1 h2 (sum_sq (V a).natAbs (V b).natAbs (V c).natAbs (V d).natAbs)
  have h4 := Int.ofNat_le.2 h3
  rw [Int.natCast_mul, Int.natCast_mul, Int.natCast_add, Int.natCast_add, Int.natCast_add, Int.natAbs_mul_self, Int.natAbs_mul_self, Int.natAbs_mul_self, Int.natAbs_mul_self, Int.natAbs_mul_self, Int.natAbs_mul_self] at h4
  exact h4
end Go.Proofs.Ytemneeknemijpaa.Fl
