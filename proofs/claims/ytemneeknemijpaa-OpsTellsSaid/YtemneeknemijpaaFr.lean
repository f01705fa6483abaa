/- 'rounded' of the document: a natural over a power of two, to the nearest, ties to even. No condition but the sizes. -/
import Derived.Test.YtemneeknemijpaaFo
namespace Go.Proofs.Ytemneeknemijpaa
open Go.RowKit

theorem digs_pow {n j L : Nat} (h : n < 2 ^ j) (hj : j ≤ 24 * L) : (digs n).length ≤ L :=
  digs_len_le' (by rw [W_two]; exact Nat.lt_of_lt_of_le h (Nat.pow_le_pow_right (by decide) hj))
set_option maxHeartbeats 2000000 in
theorem f_round_up {u : Value} {m : Nat} {w : World} (hu : IsN w u m) (hm8 : (digs m).length ≤ 800) (k : Nat) (hk : k ≤ 20000) (hmk : m * 2 ^ k < 2 ^ 62) : Calls Try.prog 70 #[u, .int .i64 (-(k : Int))] w (Gets w (m * 2 ^ k : Nat)) := by
  have HU := Lib.hid hu
  have HM8 : Hid ((digs m).length ≤ 2000) := Lib.hid (Nat.le_trans hm8 (by decide))
  obtain ⟨n, hn⟩ : ∃ n, m * 2 ^ k = n := ⟨_, rfl⟩
  rw [hn] at hmk ⊢
  have HN := Lib.hid hn
  have HN8 := Lib.hid hmk
  have hk0 : -(k : Int) ≤ 0 := by omega
  clear hu hm8 hn hmk
  go_enter Try.func70, Try.ntmps70
  go_wp2_with fail
  refine (n_shl HU.out HM8.out k hk).mono ?_
  rintro e1 w1 ⟨v1, rfl, hv1, hb1⟩
  rw [HN.out] at hv1
  have HV1 := Lib.hid hv1
  have HB1 := Lib.hid hb1
  clear hv1 hb1
  go_wp2_with fail
  refine (n_int HV1.out HN8.out).mono ?_
  rintro e2 w2 ⟨rfl, rfl⟩
  go_wp2
  go_ret
  exact ⟨rfl, HB1.out⟩

set_option maxHeartbeats 2000000 in
theorem f_round_dn {u : Value} {m : Nat} {w : World} (hu : IsN w u m) (hm8 : (digs m).length ≤ 800) (k : Nat) (hk : k ≤ 20000) (hk0 : 0 < k) (hmk : m / 2 ^ k < 2 ^ 60) : Calls Try.prog 70 #[u, .int .i64 (k : Int)] w (Gets w (Fl.rne m (2 ^ k) : Nat)) := by
  have HU := Lib.hid hu
  have HM8 : Hid ((digs m).length ≤ 2000) := Lib.hid (Nat.le_trans hm8 (by decide))
  obtain ⟨q, hq⟩ : ∃ q, m / 2 ^ k = q := ⟨_, rfl⟩
  obtain ⟨r, hr⟩ : ∃ r, m % 2 ^ k = r := ⟨_, rfl⟩
  have hdm := Nat.div_add_mod m (2 ^ k)
  have hrk := Nat.mod_lt m (Nat.two_pow_pos k)
  rw [hq, hr, Nat.mul_comm] at hdm
  rw [hr] at hrk
  rw [hq] at hmk
  have HR : Hid (Fl.rne m (2 ^ k) = q + (decide (2 ^ k < 2 * r) || (2 ^ k == 2 * r && q % 2 == 1)).toNat) := Lib.hid (by unfold Fl.rne; rw [hq, hr])
  obtain ⟨N, hN⟩ : ∃ N, Fl.rne m (2 ^ k) = N := ⟨_, rfl⟩
  rw [hN] at HR ⊢
  have HQ := Lib.hid hq
  have HQ8 : Hid (q < 2 ^ 62) := Lib.hid (by omega)
  have hq8 : q ≤ 1152921504606846975 := by omega
  have HLE : Hid (q * 2 ^ k ≤ m) := Lib.hid (by omega)
  have HSB : Hid (m - q * 2 ^ k = r) := Lib.hid (by omega)
  have HR8 : Hid ((digs r).length ≤ 2000) := Lib.hid (Nat.le_trans (digs_mono (by omega)) HM8.out)
  have HS8 : Hid ((digs (q * 2 ^ k)).length ≤ 2000) := Lib.hid (Nat.le_trans (digs_mono HLE.out) HM8.out)
  have HQd : Hid ((digs q).length ≤ 2000) := Lib.hid (Nat.le_trans (digs_mono (by rw [← hq]; exact Nat.div_le_self _ _)) HM8.out)
  have HP8 : Hid ((digs (1 * 2 ^ k)).length ≤ 2000) := Lib.hid (Nat.le_trans (digs_pow (L := 850) (j := k + 1) (by rw [Nat.pow_succ]; have := Nat.two_pow_pos k; omega) (by omega)) (by decide))
  have HT8 : Hid ((digs (r * 2 ^ 1)).length ≤ 2000) := Lib.hid (Nat.le_trans (digs_pow (L := 850) (j := k + 1) (by rw [Nat.pow_succ]; omega) (by omega)) (by decide))
  have hki : ¬ (k : Int) ≤ 0 := by omega
  clear hu hm8 hq hr hdm hrk hmk hN
  go_enter Try.func70, Try.ntmps70
  go_wp2_with fail
  refine (n_shr HU.out HM8.out k hk).mono ?_
  rintro e1 w1 ⟨v1, rfl, hv1, hb1⟩
  rw [HQ.out] at hv1
  have HV1 := Lib.hid hv1
  have HB1 := Lib.hid hb1
  clear hv1 hb1
  go_wp2_with fail
  refine (n_int HV1.out HQ8.out).mono ?_
  rintro e2 w2 ⟨rfl, rfl⟩
  go_wp2_with fail
  refine (n_shl HV1.out HQd.out k hk).mono ?_
  rintro e3 w3 ⟨v3, rfl, hv3, hb3⟩
  have HV3 := Lib.hid hv3
  have HB3 := Lib.hid (HB1.out.trans (hb3.mono HB1.out.size))
  clear hv3 hb3
  go_wp2_with fail
  refine (n_sub (HU.out.below HB3.out) HV3.out HM8.out HS8.out HLE.out).mono ?_
  rintro e4 w4 ⟨v4, rfl, hv4, hb4⟩
  rw [HSB.out] at hv4
  have HV4 := Lib.hid hv4
  have HB4 := Lib.hid (HB3.out.trans (hb4.mono HB3.out.size))
  clear hv4 hb4
  go_wp2_with fail
  refine (n_shl HV4.out HR8.out 1 (by decide)).mono ?_
  rintro e5 w5 ⟨v5, rfl, hv5, hb5⟩
  have HV5 := Lib.hid hv5
  have HB5 := Lib.hid (HB4.out.trans (hb5.mono HB4.out.size))
  clear hv5 hb5
  go_wp2_with fail
  refine (n_shl (n := 1) (by unfold IsN; rw [digs_one]; exact ila_one _ 1 _ rfl) (by rw [digs_one]; decide) k hk).mono ?_
  rintro e6 w6 ⟨v6, rfl, hv6, hb6⟩
  have HV6 := Lib.hid hv6
  have HB56 : Hid (Below w5.heap.size w5 w6) := Lib.hid (((Below.refl _ w5).alloc (Nat.le_refl _) _).trans (hb6.mono (by simp)))
  have HB6 := Lib.hid (HB5.out.trans (HB56.out.mono HB5.out.size))
  clear hv6 hb6
  go_wp2_with fail
  refine (n_cmp (HV5.out.below HB56.out) HV6.out HT8.out HP8.out).mono ?_
  rintro e7 w7 ⟨rfl, hb7⟩
  have HB7 := Lib.hid (HB6.out.trans (hb7.mono HB6.out.size))
  clear hb7
  have HO : Hid ((r * 2 ^ 1 : Nat) = 2 * r ∧ (1 * 2 ^ k : Nat) = 2 ^ k) := Lib.hid ⟨by omega, by omega⟩
  rw [HO.out.1, HO.out.2]
  obtain ⟨p, hp⟩ : ∃ p, 2 ^ k = p := ⟨_, rfl⟩
  rw [hp] at HR ⊢
  have hq0 : (q : Int) % 2 = 0 ∨ (q : Int) % 2 = 1 := by omega
  clear hp
  rcases Nat.lt_trichotomy (2 * r) p with h | h | h
  · rw [cmpv_lt (by omega)]
    have HE : Hid (N = q) := Lib.hid (by rw [HR.out, decide_eq_false (by omega), show (p == 2 * r) = false from beq_false_of_ne (by omega)]; rfl)
    clear h hq0
    go_wp2
    go_ret
    exact ⟨by rw [HE.out]; rfl, HB7.out⟩
  · rw [cmpv_eq (by omega)]
    rcases hq0 with h0 | h0
    · have h01 : ((q : Int) % 2 == 1) = false := by rw [h0]; rfl
      have HE : Hid (N = q) := Lib.hid (by rw [HR.out, decide_eq_false (by omega), show (q % 2 == 1) = false from beq_false_of_ne (by omega), Bool.and_false]; rfl)
      clear h h0
      go_wp2
      go_ret
      exact ⟨by rw [HE.out]; rfl, HB7.out⟩
    · have h01 : ((q : Int) % 2 == 1) = true := by rw [h0]; rfl
      have HE : Hid (N = q + 1) := Lib.hid (by rw [HR.out, decide_eq_false (by omega), show (q % 2 == 1) = true from beq_iff_eq.2 (by omega), show (p == 2 * r) = true from beq_iff_eq.2 h.symm]; rfl)
      clear h h0
      go_wp2
      go_ret
      exact ⟨by rw [HE.out]; rfl, HB7.out⟩
  · rw [cmpv_gt (by omega)]
    have HE : Hid (N = q + 1) := Lib.hid (by rw [HR.out, decide_eq_true h]; rfl)
    clear h hq0
    go_wp2
    go_ret
    exact ⟨by rw [HE.out]; rfl, HB7.out⟩
end Go.Proofs.Ytemneeknemijpaa
