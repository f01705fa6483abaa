/- A power of two goes through a complex product; two halves are the whole: plain. Under: what 'fits' lets in. -/
import Derived.Test.YtemneeknemijpaaCs
import Derived.Test.YtemneeknemijpaaFk
namespace Go.Proofs.Ytemneeknemijpaa.Fl

/-- p is worth 2^(t - 30) -/
def Pw (p t : Nat) : Prop := Is p ((2 ^ (1044 + t) : Nat) : Int)

theorem near_pow {p t z : Nat} (hz : z = 1044) (ht : t ≤ 59) (h : NearSo false 1 ((t : Int) - 30) p) : Is p ((2 ^ (z + t) : Nat) : Int) := by
  have e1 : rndS 1 ((t : Int) - 30 + 1074) = rnd (1 * 2 ^ (z + t + 0)) 0 := by
    have := rnd_any 1 (z + t + 0) 0 ((t : Int) - 30 + 1074) (by omega)
    exact this.symm
  have h2 := rnd_exact (c := 1) (t := z + t) (K := 0) (by decide) (TOP_lt (j := 53) (z := 2045) rfl (by decide) (by omega))
  rw [← e1] at h2
  rcases h with h | ⟨h, _⟩
  · rw [h]
    refine ⟨Fin.word _ h2.2, ?_⟩
    rw [V_word _ (by omega), h2.1, Nat.one_mul]
    rfl
  · rw [h] at h2
    have := Nat.two_pow_pos (z + t)
    have h3 := h2.1
    rw [show RV 0 = 0 from rfl, Nat.one_mul] at h3
    omega

theorem pow_scale {x p t z w hi : Nat} (hz : z = 1044) (hw : w = 2098) (hx : Fin x) (hp : Is p ((2 ^ (z + t) : Nat) : Int)) (hr : Rg (V x) 83 hi) (hh : hi + 29 ≤ w) (ht : t ≤ 59) : Sc x (fmul x p) 30 t := by
  obtain ⟨c, s, hc, he, hl⟩ := (Is.mk hx rfl : Is x (V x)).rep
  have hs : ∃ α : Int, V x = α * ((2 ^ 30 : Nat) : Int) ∧ ∃ s' : Nat, α.natAbs = c * 2 ^ s' := by
    rcases hr.lo with h0 | h0
    · refine ⟨0, by rw [h0, Int.zero_mul], 0, ?_⟩
      rw [h0] at he
      have : c * 2 ^ s = 0 := he.symm
      rcases Nat.mul_eq_zero.1 this with h | h
      · rw [h]; rfl
      · have := Nat.two_pow_pos s; omega
    · have h30 : 30 ≤ s := by
        apply Nat.le_of_not_lt
        intro h
        have h1 : c * 2 ^ s < 2 ^ 53 * 2 ^ s := Nat.mul_lt_mul_of_pos_right hc (Nat.two_pow_pos s)
        rw [← Nat.pow_add] at h1
        have h2 : 2 ^ (53 + s) ≤ 2 ^ 83 := pow_mono (by omega)
        rw [he] at h0
        omega
      obtain ⟨s', rfl⟩ : ∃ s', s = s' + 30 := ⟨s - 30, by omega⟩
      rw [Nat.pow_add, ← Nat.mul_assoc] at he
      refine ⟨sgz (decide (V x < 0)) (c * 2 ^ s'), ?_, s', sgz_natAbs _ _⟩
      rw [← sgz_mul, ← he, sgz_of]
  obtain ⟨α, h1, s', h2⟩ := hs
  have hrep : Rep (α * ((2 ^ t : Nat) : Int)) := by
    refine ⟨c, s' + t, hc, by rw [natAbs_mul_pow, h2, Nat.mul_assoc, ← Nat.pow_add], ?_⟩
    have h3 := hr.hi
    rw [h1, natAbs_mul_pow, h2] at h3
    have h4 : c * 2 ^ (s' + t) ≤ c * 2 ^ s' * 2 ^ 30 * 2 ^ 29 := by
      rw [Nat.mul_assoc, Nat.mul_assoc, ← Nat.pow_add, ← Nat.pow_add]
      exact Nat.mul_le_mul_left _ (pow_mono (by omega))
    have h5 : c * 2 ^ s' * 2 ^ 30 * 2 ^ 29 < 2 ^ hi * 2 ^ 29 := Nat.mul_lt_mul_of_pos_right h3 (by decide)
    rw [← Nat.pow_add] at h5
    rw [TOP_eq w hw]
    exact Nat.lt_of_le_of_lt h4 (Nat.lt_of_lt_of_le h5 (pow_mono hh))
  have hm := (Is.mk hx rfl : Is x (V x)).mul hp (v := α * ((2 ^ t : Nat) : Int)) (by
    rw [h1, ONE_eq (30 + z) (by omega), Int.mul_assoc, Int.mul_assoc, ← Int.natCast_mul, ← Int.natCast_mul, ← Nat.pow_add, ← Nat.pow_add]
    congr 3
    omega) hrep
  refine ⟨hx, hm.fin, ?_⟩
  rw [hm.val, h1, Int.mul_assoc, Int.mul_assoc, ← Int.natCast_mul, ← Int.natCast_mul, Nat.mul_comm]

theorem Rg.sc {v v' : Int} {lo hi u t lo' hi' : Nat} (h : Rg v lo hi) (e : v' * ((2 ^ u : Nat) : Int) = v * ((2 ^ t : Nat) : Int)) (h1 : lo' + u ≤ lo) (h2 : hi + t ≤ hi' + u) : Rg v' lo' hi' := by
  have e2 := congrArg Int.natAbs e
  rw [natAbs_mul_pow, natAbs_mul_pow] at e2
  constructor
  · rcases h.lo with k | k
    · left
      rw [k, Int.zero_mul] at e
      exact (mul_pow_zero v' u).1 e
    · right
      apply Nat.le_of_not_lt
      intro h3
      have h4 : v'.natAbs * 2 ^ u < 2 ^ lo' * 2 ^ u := Nat.mul_lt_mul_of_pos_right h3 (Nat.two_pow_pos u)
      rw [← Nat.pow_add, e2] at h4
      have h5 : 2 ^ (lo' + u) ≤ 2 ^ lo := pow_mono h1
      have h6 := Nat.le_mul_of_pos_right v.natAbs (Nat.two_pow_pos t)
      omega
  · apply Nat.lt_of_not_le
    intro h3
    have h4 : 2 ^ hi' * 2 ^ u ≤ v'.natAbs * 2 ^ u := Nat.mul_le_mul_right _ h3
    rw [← Nat.pow_add, e2] at h4
    have h5 : v.natAbs * 2 ^ t < 2 ^ hi * 2 ^ t := Nat.mul_lt_mul_of_pos_right h.hi (Nat.two_pow_pos t)
    rw [← Nat.pow_add] at h5
    have h6 : 2 ^ (hi + t) ≤ 2 ^ (hi' + u) := pow_mono h2
    omega

theorem fits_rg {a lo hi : Nat} (h : Fits a) (hl : lo = 674) (hh : hi = 1475) : Rg (V a) lo hi := by
  obtain ⟨n, hn⟩ : ∃ n, n = 1474 := ⟨_, rfl⟩
  rcases h.size with k | ⟨k1, k2⟩
  · exact ⟨.inl k, by rw [k]; exact Nat.two_pow_pos _⟩
  · rw [P2_of hl] at k1
    rw [P2_of hn] at k2
    exact ⟨.inr k1, Nat.lt_of_le_of_lt k2 (Nat.pow_lt_pow_right (by decide) (by omega))⟩

theorem add_facts {x y b n e : Nat} (hn : n = 2097) (hx : Fin x) (hy : Fin y) (hX : Rg (V x + V y) 192 b) (h2 : b ≤ n) (he : b + 1 ≤ e) : Rg (V (fadd x y)) 140 e := by
  have fX := rnd_small (K := 0) (by rw [← hn]; exact Nat.lt_of_lt_of_le hX.hi (pow_mono h2))
  obtain ⟨_, k2⟩ := fadd_val hx hy fX
  have hr := rel_err fX (.inr (.inr rfl))
  rw [Nat.pow_zero, Nat.mul_one] at hr
  have hd := rnd_dvd (m := 140) (K := 0) (hX.sz (Nat.le_refl _)) fX
  have hh := hX.hi
  rw [k2]
  generalize (V x + V y).natAbs = X at *
  generalize RV (rnd X 0) = R at *
  constructor
  · by_cases h0 : R = 0
    · left; rw [h0, sgz_zero]
    · right
      rw [sgz_natAbs]
      exact Nat.le_of_dvd (Nat.pos_of_ne_zero h0) hd
  · rw [sgz_natAbs]
    have h5 : R ≤ 2 * X := by
      have : (((R : Nat) : Int) - X).natAbs ≤ X := by
        generalize (((R : Nat) : Int) - X).natAbs = d at *
        exact Nat.le_trans (Nat.le_mul_of_pos_right d (by decide)) hr
      omega
    have h6 : 2 ^ (b + 1) ≤ 2 ^ e := pow_mono he
    rw [Nat.pow_succ] at h6
    omega

/-- a product of a float that was scaled -/
theorem part_sc {a a' c t : Nat} (ha : Fits a) (hc : Fits c) (h : Sc a a' 30 t) (ht : t ≤ 59) : Sc (fmul a c) (fmul a' c) 30 t ∧
    (((2 ^ 192 : Nat) : Int) ∣ V (fmul a c) ∧ (V (fmul a c)).natAbs < 2 ^ 1906) ∧ (((2 ^ 192 : Nat) : Int) ∣ V (fmul a' c) ∧ (V (fmul a' c)).natAbs < 2 ^ 1906) := by
  obtain ⟨z, hz⟩ : ∃ z, z = 1074 := ⟨_, rfl⟩
  obtain ⟨lo, hlo⟩ : ∃ lo, lo = 674 := ⟨_, rfl⟩
  obtain ⟨hi, hhi⟩ : ∃ hi, hi = 1475 := ⟨_, rfl⟩
  obtain ⟨e, he⟩ : ∃ e, e = 1906 := ⟨_, rfl⟩
  have ra := fits_rg ha hlo hhi
  have rc := fits_rg hc hlo hhi
  have ra' : Rg (V a') (lo - 30) (hi + 29) := ra.sc h.val (by omega) (by omega)
  have rx := ra.mul rc
  have ry := ra'.mul rc
  rw [← he]
  exact ⟨h.mul hz hc.fin rx ry (by omega) (by omega) (by omega) (by omega), mul_facts hz ha.fin hc.fin rx (by omega) (by omega) (by omega), mul_facts hz h.fy hc.fin ry (by omega) (by omega) (by omega)⟩

/-- a sum of two -/
theorem sum_sc {x y p q w t z : Nat} (hz : z = 1044) (hw : Is w ((2 ^ (z + t) : Nat) : Int)) (ht : t ≤ 59) (h : Sc x y 30 t) (k : Sc p q 30 t)
    (hx : ((2 ^ 192 : Nat) : Int) ∣ V x ∧ (V x).natAbs < 2 ^ 1906) (hy : ((2 ^ 192 : Nat) : Int) ∣ V y ∧ (V y).natAbs < 2 ^ 1906)
    (hp : ((2 ^ 192 : Nat) : Int) ∣ V p ∧ (V p).natAbs < 2 ^ 1906) (hq : ((2 ^ 192 : Nat) : Int) ∣ V q ∧ (V q).natAbs < 2 ^ 1906) :
    Fin (fadd x p) ∧ Fin (fadd y q) ∧ Fin (fmul (fadd x p) w) ∧ V (fadd y q) = V (fmul (fadd x p) w) := by
  obtain ⟨e, he⟩ : ∃ e, e = 1906 := ⟨_, rfl⟩
  obtain ⟨n, hn⟩ : ∃ n, n = 2097 := ⟨_, rfl⟩
  rw [← he] at hx hy hp hq
  have r1 := rg_dvd hx.1 hp.1 hx.2 hp.2
  have r2 := rg_dvd hy.1 hq.1 hy.2 hq.2
  have s1 := Sc.add hn h k (r1.mono (by decide) (Nat.le_refl _)) (r2.mono (by decide) (Nat.le_refl _)) (by omega) (by omega)
  have r3 := add_facts (e := e + 2) hn h.fx k.fx r1 (by omega) (by omega)
  obtain ⟨w', hw'⟩ : ∃ w', w' = 2098 := ⟨_, rfl⟩
  have s2 := pow_scale hz hw' s1.fx hw (r3.mono (by decide) (Nat.le_refl _)) (by omega) ht
  refine ⟨s1.fx, s1.fy, s2.fy, ?_⟩
  have h3 := s1.val.trans s2.val.symm
  have hp30 := pow_pos_int 30
  exact Int.eq_of_mul_eq_mul_right (by omega) h3

theorem Sc.negs {x y t : Nat} (h : Sc x y 30 t) (hx : ((2 ^ 192 : Nat) : Int) ∣ V x ∧ (V x).natAbs < 2 ^ 1906) : ((2 ^ 192 : Nat) : Int) ∣ V (fneg x) ∧ (V (fneg x)).natAbs < 2 ^ 1906 := by
  rw [(V_fneg h.fx).2, Int.natAbs_neg]
  exact ⟨(Int.dvd_neg).2 hx.1, hx.2⟩

theorem same_val {x y : Nat} (hx : Fin x) (hy : Fin y) (h : V x = V y) : FloatKind.f64.format.order x y = some .eq := beq_iff_eq.1 (Is.eql (a := V y) ⟨hx, h⟩ ⟨hy, rfl⟩)

/-- products -/
theorem scale_parts {a b c d p t a' b' e f g h e' f' : Nat} (ht : t ≤ 59) (ha : Fits a) (hb : Fits b) (hc : Fits c) (hd : Fits d) (hp : NearSo false 1 ((t : Int) - 30) p)
    (ka : canon a' = fmul a p) (kb : canon b' = fmul b p) (he : canon e = fsub (fmul a c) (fmul b d)) (hf : canon f = fadd (fmul a d) (fmul b c))
    (hg : canon g = fsub (fmul a' c) (fmul b' d)) (hh : canon h = fadd (fmul a' d) (fmul b' c)) (ke : canon e' = fmul e p) (kf : canon f' = fmul f p) :
    FloatKind.f64.format.order g e' = some .eq ∧ FloatKind.f64.format.order h f' = some .eq := by
  obtain ⟨z, hz⟩ : ∃ z, z = 1044 := ⟨_, rfl⟩
  obtain ⟨w, hw⟩ : ∃ w, w = 2098 := ⟨_, rfl⟩
  obtain ⟨lo, hlo⟩ : ∃ lo, lo = 674 := ⟨_, rfl⟩
  obtain ⟨hi, hhi⟩ : ∃ hi, hi = 1475 := ⟨_, rfl⟩
  have hpw := near_pow hz ht hp
  have sa := pow_scale hz hw ha.fin hpw ((fits_rg ha hlo hhi).mono (c := 83) (d := hi) (by omega) (Nat.le_refl _)) (by omega) ht
  have sb := pow_scale hz hw hb.fin hpw ((fits_rg hb hlo hhi).mono (c := 83) (d := hi) (by omega) (Nat.le_refl _)) (by omega) ht
  have ea := of_canon ka sa.fy.notNaN
  have eb := of_canon kb sb.fy.notNaN
  rw [← ea] at sa
  rw [← eb] at sb
  obtain ⟨s1, x1, y1⟩ := part_sc ha hc sa ht
  obtain ⟨s2, x2, y2⟩ := part_sc hb hd sb ht
  obtain ⟨s3, x3, y3⟩ := part_sc ha hd sa ht
  obtain ⟨s4, x4, y4⟩ := part_sc hb hc sb ht
  constructor
  · rw [fsub_eq _ s2.fx.1] at he
    rw [fsub_eq _ s2.fy.1] at hg
    have y2' : ((2 ^ 192 : Nat) : Int) ∣ V (fneg (fmul b' d)) ∧ (V (fneg (fmul b' d))).natAbs < 2 ^ 1906 := by
      rw [(V_fneg s2.fy).2, Int.natAbs_neg]
      exact ⟨(Int.dvd_neg).2 y2.1, y2.2⟩
    obtain ⟨f1, f2, f3, f4⟩ := sum_sc hz hpw ht s1 s2.neg x1 y1 (s2.negs x2) y2'
    have e1 := of_canon he f1.notNaN
    have e2 := of_canon hg f2.notNaN
    rw [e1] at ke
    have e3 := of_canon ke f3.notNaN
    rw [e2, e3]
    exact same_val f2 f3 f4
  · obtain ⟨f1, f2, f3, f4⟩ := sum_sc hz hpw ht s3 s4 x3 y3 x4 y4
    have e1 := of_canon hf f1.notNaN
    have e2 := of_canon hh f2.notNaN
    rw [e1] at kf
    have e3 := of_canon kf f3.notNaN
    rw [e2, e3]
    exact same_val f2 f3 f4

/-- two halves -/
theorem two_halves {a i m : Nat} (ha : Fits a) (hi : canon i = fmul a 4602678819172646912) (hm : canon m = fadd i i) : FloatKind.f64.format.order m a = some .eq := by
  obtain ⟨z, hz⟩ : ∃ z, z = 1044 := ⟨_, rfl⟩
  obtain ⟨w, hw⟩ : ∃ w, w = 2098 := ⟨_, rfl⟩
  obtain ⟨lo, hlo⟩ : ∃ lo, lo = 674 := ⟨_, rfl⟩
  obtain ⟨hh, hhh⟩ : ∃ hh, hh = 1475 := ⟨_, rfl⟩
  have hp : Is 4602678819172646912 ((2 ^ (z + 29) : Nat) : Int) := by
    subst hz
    exact ⟨⟨by decide, by decide +kernel⟩, by decide +kernel⟩
  have sa := pow_scale hz hw ha.fin hp ((fits_rg ha hlo hhh).mono (c := 83) (d := hh) (by omega) (Nat.le_refl _)) (by omega) (by decide)
  have ei := of_canon hi sa.fy.notNaN
  rw [← ei] at sa
  have hv : V i + V i = V a := by
    have h1 := sa.val
    have e30 : ((2 ^ 30 : Nat) : Int) = 1073741824 := rfl
    have e29 : ((2 ^ 29 : Nat) : Int) = 536870912 := rfl
    rw [e30, e29] at h1
    omega
  have h2 := (Is.mk sa.fy rfl : Is i (V i)).add (Is.mk sa.fy rfl) (by rw [hv]; exact (Is.mk ha.fin rfl : Is a (V a)).rep)
  have em := of_canon hm h2.fin.notNaN
  rw [em]
  exact same_val h2.fin ha.fin (by rw [h2.val, hv])
end Go.Proofs.Ytemneeknemijpaa.Fl
