/- A power of two goes through products and sums: plain. Under: what 'fits' lets in. -/
import Derived.Test.YtemneeknemijpaaCn
namespace Go.Proofs.Ytemneeknemijpaa.Fl

theorem rnd_top {X K : Nat} (hX : X ≠ 0) (h : 2 ^ (52 + K) ≤ X) (f : rnd X K < 2047 * 2 ^ 52) : ∃ k N, X.log2 = k + 52 + K ∧ N = rne X (2 ^ (k + K)) ∧ RV (rnd X K) = N * 2 ^ k := by
  have hk := kept_spec (K := K) hX
  rw [rnd_eq hX] at f ⊢
  have hl2 := @Nat.lt_log2_self X
  have h5 : 2 ^ (52 + K) < 2 ^ (X.log2 + 1) := Nat.lt_of_le_of_lt h hl2
  have h6 := (Nat.pow_lt_pow_iff_right (a := 2) (by decide)).1 h5
  obtain ⟨k, hkk⟩ : ∃ k, X.log2 - 52 - K = k := ⟨_, rfl⟩
  rw [hkk] at f hk ⊢
  rw [Nat.min_eq_left (by omega), RV_make _ _ hk.1 hk.2]
  exact ⟨k, _, by omega, rfl, rfl⟩

theorem rnd_sc {X Y K u t : Nat} (h : Y * 2 ^ u = X * 2 ^ t) (hX : X = 0 ∨ 2 ^ (52 + K) ≤ X) (hY : Y = 0 ∨ 2 ^ (52 + K) ≤ Y) (fX : rnd X K < 2047 * 2 ^ 52) (fY : rnd Y K < 2047 * 2 ^ 52) : RV (rnd Y K) * 2 ^ u = RV (rnd X K) * 2 ^ t := by
  have hz : rnd 0 K = 0 := rfl
  by_cases h0 : X = 0
  · subst h0
    have hY0 : Y = 0 := by
      rw [Nat.zero_mul] at h
      rcases Nat.mul_eq_zero.1 h with h | h
      · exact h
      · have := Nat.two_pow_pos u; omega
    subst hY0
    rw [hz, show RV 0 = 0 from rfl, Nat.zero_mul, Nat.zero_mul]
  have hY0 : Y ≠ 0 := by
    rintro rfl
    rw [Nat.zero_mul] at h
    rcases Nat.mul_eq_zero.1 h.symm with h | h
    · exact h0 h
    · have := Nat.two_pow_pos t; omega
  obtain ⟨k, N, e1, e2, e3⟩ := rnd_top h0 (by rcases hX with h | h; exact absurd h h0; exact h) fX
  obtain ⟨l, M, g1, g2, g3⟩ := rnd_top hY0 (by rcases hY with h | h; exact absurd h hY0; exact h) fY
  have hlog : Y.log2 + u = X.log2 + t := by rw [← log2_mul_pow hY0, ← log2_mul_pow h0, h]
  have hNM : M = N := by
    rw [g2, e2, ← rne_scale Y (2 ^ (l + K)) (2 ^ u) (Nat.two_pow_pos u), ← rne_scale X (2 ^ (k + K)) (2 ^ t) (Nat.two_pow_pos t), h, ← Nat.pow_add, ← Nat.pow_add, show l + K + u = k + K + t by omega]
  rw [g3, e3, hNM, Nat.mul_assoc, Nat.mul_assoc, ← Nat.pow_add, ← Nat.pow_add, show l + u = k + t by omega]

theorem rnd_dvd {X K m : Nat} (hX : X = 0 ∨ 2 ^ (52 + K + m) ≤ X) (f : rnd X K < 2047 * 2 ^ 52) : 2 ^ m ∣ RV (rnd X K) := by
  by_cases h0 : X = 0
  · subst h0
    have hz : rnd 0 K = 0 := rfl
    rw [hz, show RV 0 = 0 from rfl]
    exact Nat.dvd_zero _
  have h1 : 2 ^ (52 + K + m) ≤ X := by rcases hX with h | h; exact absurd h h0; exact h
  obtain ⟨k, N, e1, e2, e3⟩ := rnd_top h0 (Nat.le_trans (pow_mono (by omega)) h1) f
  have hl2 := @Nat.lt_log2_self X
  have h6 := (Nat.pow_lt_pow_iff_right (a := 2) (by decide)).1 (Nat.lt_of_le_of_lt h1 hl2)
  rw [e3]
  exact Nat.dvd_trans (Nat.pow_dvd_pow 2 (by omega)) (Nat.dvd_mul_left _ _)

theorem sgz_sc {T T' : Int} {R R' u t : Nat} (hT : T' * ((2 ^ u : Nat) : Int) = T * ((2 ^ t : Nat) : Int)) (hR : R' * 2 ^ u = R * 2 ^ t) : sgz (decide (T' < 0)) R' * ((2 ^ u : Nat) : Int) = sgz (decide (T < 0)) R * ((2 ^ t : Nat) : Int) := by
  have h1 : (T' < 0) ↔ (T < 0) := by rw [← mul_pow_neg T' u, hT, mul_pow_neg T t]
  rw [decide_eq_decide.2 h1, ← sgz_mul, ← sgz_mul, hR]

theorem fmul_val {x c z : Nat} (hz : z = 1074) (hx : Fin x) (hc : Fin c) (h : rnd (V x * V c).natAbs z < 2047 * 2 ^ 52) : Fin (fmul x c) ∧ V (fmul x c) = sgz (decide (V x * V c < 0)) (RV (rnd (V x * V c).natAbs z)) := by
  have h3 : mg x * mg c = (V x * V c).natAbs := by rw [mg_natAbs, mg_natAbs, Int.natAbs_mul]
  rw [fmul_fin hx hc, ← hz, h3]
  refine ⟨Fin.word _ h, ?_⟩
  rw [V_word _ (by omega)]
  by_cases h0 : V x * V c = 0
  · rw [h0]
    have : rnd (0 : Int).natAbs z = 0 := rfl
    rw [this, show RV 0 = 0 from rfl, sgz_zero]
    split <;> rfl
  · have ha0 : V x ≠ 0 := fun h => h0 (by rw [h, Int.zero_mul])
    have hc0 : V c ≠ 0 := fun h => h0 (by rw [h, Int.mul_zero])
    have hs : (sg x ^^ sg c) = decide (V x * V c < 0) := by
      rw [sg_V ha0, sg_V hc0]
      generalize V x = x at *
      generalize V c = y at *
      clear h h3
      by_cases hx : x < 0
      · by_cases hy : y < 0
        · have := Int.mul_pos_of_neg_of_neg hx hy
          simp [hx, hy]; omega
        · have := Int.mul_neg_of_neg_of_pos hx (show 0 < y by omega)
          simp [hx, hy, this]
      · by_cases hy : y < 0
        · have := Int.mul_neg_of_pos_of_neg (show 0 < x by omega) hy
          simp [hx, hy, this]
        · have := Int.mul_pos (show 0 < x by omega) (show 0 < y by omega)
          simp [hx, hy]; omega
    rw [hs]
    rfl
theorem fadd_val {x y : Nat} (hx : Fin x) (hy : Fin y) (h : rnd (V x + V y).natAbs 0 < 2047 * 2 ^ 52) : Fin (fadd x y) ∧ V (fadd x y) = sgz (decide (V x + V y < 0)) (RV (rnd (V x + V y).natAbs 0)) := by
  rw [fadd_fin hx hy]
  refine ⟨Fin.word _ h, ?_⟩
  rw [V_word _ (by omega)]
  by_cases h0 : V x + V y = 0
  · rw [h0]
    have : rnd (0 : Int).natAbs 0 = 0 := rfl
    rw [this, show RV 0 = 0 from rfl, sgz_zero]
    rw [if_pos rfl]
    split <;> rfl
  · rw [if_neg h0]
    rfl

/-- y is x times 2^t over 2^u; both are finite -/
structure Sc (x y u t : Nat) : Prop where
  fx : Fin x
  fy : Fin y
  val : V y * ((2 ^ u : Nat) : Int) = V x * ((2 ^ t : Nat) : Int)
/-- 0, or of a size from 2^lo to below 2^hi -/
structure Rg (v : Int) (lo hi : Nat) : Prop where
  lo : v = 0 ∨ 2 ^ lo ≤ v.natAbs
  hi : v.natAbs < 2 ^ hi

theorem Rg.mul {v w : Int} {a b c d : Nat} (h : Rg v a b) (k : Rg w c d) : Rg (v * w) (a + c) (b + d) := by
  constructor
  · rcases h.lo with h1 | h1
    · exact .inl (by rw [h1, Int.zero_mul])
    · rcases k.lo with k1 | k1
      · exact .inl (by rw [k1, Int.mul_zero])
      · right; rw [Int.natAbs_mul, Nat.pow_add]; exact Nat.mul_le_mul h1 k1
  · rw [Int.natAbs_mul, Nat.pow_add]; exact Nat.mul_lt_mul'' h.hi k.hi
theorem Rg.mono {v : Int} {a b c d : Nat} (h : Rg v a b) (h1 : c ≤ a) (h2 : b ≤ d) : Rg v c d :=
  ⟨h.lo.imp id (fun k => Nat.le_trans (pow_mono h1) k), Nat.lt_of_lt_of_le h.hi (pow_mono h2)⟩
theorem Rg.sz {v : Int} {a b c : Nat} (h : Rg v a b) (h1 : c ≤ a) : v.natAbs = 0 ∨ 2 ^ c ≤ v.natAbs := by
  rcases h.lo with h2 | h2
  · exact .inl (by rw [h2]; rfl)
  · exact .inr (Nat.le_trans (pow_mono h1) h2)

/-- products -/
theorem Sc.mul {x y c u t z a b a' b' : Nat} (hz : z = 1074) (h : Sc x y u t) (hc : Fin c) (hX : Rg (V x * V c) a b) (hY : Rg (V y * V c) a' b') (h1 : 52 + z ≤ a) (h2 : b ≤ 2097 + z) (h3 : 52 + z ≤ a') (h4 : b' ≤ 2097 + z) : Sc (fmul x c) (fmul y c) u t := by
  have fX := rnd_small (Nat.lt_of_lt_of_le hX.hi (pow_mono h2))
  have fY := rnd_small (Nat.lt_of_lt_of_le hY.hi (pow_mono h4))
  obtain ⟨k1, k2⟩ := fmul_val hz h.fx hc fX
  obtain ⟨k3, k4⟩ := fmul_val hz h.fy hc fY
  refine ⟨k1, k3, ?_⟩
  have hT : V y * V c * ((2 ^ u : Nat) : Int) = V x * V c * ((2 ^ t : Nat) : Int) := by rw [Int.mul_right_comm, h.val, Int.mul_right_comm]
  rw [k2, k4]
  refine sgz_sc hT (rnd_sc ?_ (hX.sz h1) (hY.sz h3) fX fY)
  have := congrArg Int.natAbs hT
  rwa [natAbs_mul_pow, natAbs_mul_pow] at this
/-- sums -/
theorem Sc.add {x y p q u t b b' n : Nat} (hn : n = 2097) (h : Sc x y u t) (k : Sc p q u t) (hX : Rg (V x + V p) 52 b) (hY : Rg (V y + V q) 52 b') (h2 : b ≤ n) (h4 : b' ≤ n) : Sc (fadd x p) (fadd y q) u t := by
  have fX := rnd_small (K := 0) (by rw [← hn]; exact Nat.lt_of_lt_of_le hX.hi (pow_mono h2))
  have fY := rnd_small (K := 0) (by rw [← hn]; exact Nat.lt_of_lt_of_le hY.hi (pow_mono h4))
  obtain ⟨k1, k2⟩ := fadd_val h.fx k.fx fX
  obtain ⟨k3, k4⟩ := fadd_val h.fy k.fy fY
  refine ⟨k1, k3, ?_⟩
  have hT : (V y + V q) * ((2 ^ u : Nat) : Int) = (V x + V p) * ((2 ^ t : Nat) : Int) := by rw [Int.add_mul, Int.add_mul, h.val, k.val]
  rw [k2, k4]
  refine sgz_sc hT (rnd_sc ?_ (hX.sz (Nat.le_refl _)) (hY.sz (Nat.le_refl _)) fX fY)
  have := congrArg Int.natAbs hT
  rwa [natAbs_mul_pow, natAbs_mul_pow] at this
theorem Sc.neg {x y u t : Nat} (h : Sc x y u t) : Sc (fneg x) (fneg y) u t := by
  obtain ⟨a1, a2⟩ := V_fneg h.fx
  obtain ⟨b1, b2⟩ := V_fneg h.fy
  exact ⟨a1, b1, by rw [a2, b2, Int.neg_mul, Int.neg_mul, h.val]⟩
/-- a sum of multiples -/
theorem rg_dvd {v w : Int} {m b : Nat} (h1 : ((2 ^ m : Nat) : Int) ∣ v) (h2 : ((2 ^ m : Nat) : Int) ∣ w) (h3 : v.natAbs < 2 ^ b) (h4 : w.natAbs < 2 ^ b) : Rg (v + w) m (b + 1) := by
  constructor
  · by_cases h0 : v + w = 0
    · exact .inl h0
    · right
      obtain ⟨k, hk⟩ := Int.dvd_add h1 h2
      rw [hk, Int.natAbs_mul, Int.natAbs_natCast]
      have : k ≠ 0 := by rintro rfl; rw [Int.mul_zero] at hk; exact h0 hk
      exact Nat.le_mul_of_pos_right _ (by omega)
  · rw [Nat.pow_succ]; omega
theorem mul_facts {x c z m a b e : Nat} (hz : z = 1074) (hx : Fin x) (hc : Fin c) (hX : Rg (V x * V c) a b) (h1 : 52 + z + m ≤ a) (h2 : b ≤ 2097 + z) (he : b + 1 ≤ e + z) : ((2 ^ m : Nat) : Int) ∣ V (fmul x c) ∧ (V (fmul x c)).natAbs < 2 ^ e := by
  have fX := rnd_small (Nat.lt_of_lt_of_le hX.hi (pow_mono h2))
  obtain ⟨_, k2⟩ := fmul_val hz hx hc fX
  have hr := rel_err fX (by rcases hX.sz (c := 52 + z) (by omega) with h | h; exact .inl h; exact .inr (.inl h))
  rw [k2]
  constructor
  · obtain ⟨q, hq⟩ := rnd_dvd (m := m) (hX.sz h1) fX
    rw [hq, Nat.mul_comm, sgz_mul]
    exact Int.dvd_mul_left _ _
  · rw [sgz_natAbs]
    have hx := hX.hi
    generalize (V x * V c).natAbs = X at *
    generalize RV (rnd X z) = R at *
    have h5 : R * 2 ^ z ≤ 2 * X := by
      generalize R * 2 ^ z = P at *
      have : (((P : Nat) : Int) - X).natAbs ≤ X := by
        generalize (((P : Nat) : Int) - X).natAbs = d at *
        exact Nat.le_trans (Nat.le_mul_of_pos_right d (by decide)) hr
      omega
    apply Nat.lt_of_not_le
    intro h6
    have h7 : 2 ^ e * 2 ^ z ≤ R * 2 ^ z := Nat.mul_le_mul_right _ h6
    rw [← Nat.pow_add] at h7
    have h8 : 2 ^ (b + 1) ≤ 2 ^ (e + z) := pow_mono he
    rw [Nat.pow_succ] at h8
    omega
end Go.Proofs.Ytemneeknemijpaa.Fl
