/- PermBits: the law's walk: it answers true. -/
import Derived.Test.YtajnjghbppcfdaaFrames
namespace Go.Proofs.Ytajnjghbppcfdaa
open Go.RowKit Go.Shelf

theorem brev_even (q k : Nat) (h : 2 * k < 2 ^ q) (h0 : 1 ≤ q) : brev q (2 * k) = brev q k / 2 := by
  obtain ⟨r, rfl⟩ : ∃ r, q = r + 1 := ⟨q - 1, by omega⟩
  rw [brev_half r k (by rw [Nat.pow_succ] at h; omega)]
  show (2 * k % 2) * 2 ^ r + brev r (2 * k / 2) = brev r k
  rw [show 2 * k % 2 = 0 by omega, show 2 * k / 2 = k by omega, Nat.zero_mul, Nat.zero_add]
theorem brev_odd (q k : Nat) (h : 2 * k < 2 ^ q) (h0 : 1 ≤ q) : brev q (2 * k + 1) = brev q k / 2 + 2 ^ q / 2 := by
  obtain ⟨r, rfl⟩ : ∃ r, q = r + 1 := ⟨q - 1, by omega⟩
  rw [brev_half r k (by rw [Nat.pow_succ] at h; omega)]
  show ((2 * k + 1) % 2) * 2 ^ r + brev r ((2 * k + 1) / 2) = brev r k + 2 ^ (r + 1) / 2
  rw [show (2 * k + 1) % 2 = 1 by omega, show (2 * k + 1) / 2 = k by omega, Nat.pow_succ]
  omega

set_option maxHeartbeats 2000000 in
theorem permBits_walk (a b : Int) (w : World) (ha0 : 0 ≤ a) (ha1 : a ≤ 255) (hb0 : 0 ≤ b) (hb1 : b ≤ 65535) : Calls Try.prog 6 #[.int .u8 a, .int .u16 b] w fun e w' => e = .returned (.bool true) ∧ Below w.heap.size w w' := by
  obtain ⟨q, hq⟩ : ∃ q : Nat, a % 11 = (q : Int) := ⟨(a % 11).toNat, by omega⟩
  have hq1 : q ≤ 10 := by omega
  have hq2 : a.tmod 11 = (q : Int) := by rw [Int.tmod_eq_emod_of_nonneg ha0]; exact hq
  obtain ⟨m, hm⟩ : ∃ m : Nat, m = 2 ^ q := ⟨_, rfl⟩
  have hw : wrap64 ((2 : Int) ^ q) = (m : Int) := by
    subst hm
    have : ∀ q : Nat, q < 13 → wrap64 ((2 : Int) ^ q) = ((2 ^ q : Nat) : Int) := by decide +kernel
    exact this q (by omega)
  have hm1 : m ≤ 1024 := by rw [hm]; exact Nat.pow_le_pow_right (n := 2) (i := q) (j := 10) (by decide) hq1
  have hm0 : 1 ≤ m := by rw [hm]; exact Nat.one_le_two_pow
  obtain ⟨k, hk⟩ : ∃ k : Nat, b % (m : Int) = (k : Int) := ⟨(b % (m : Int)).toNat, by have := Int.emod_nonneg b (b := (m : Int)) (by omega); omega⟩
  have hk2 : b.tmod (m : Int) = (k : Int) := by rw [Int.tmod_eq_emod_of_nonneg hb0]; exact hk
  have hkm : k < m := by have := Int.emod_lt_of_pos b (b := (m : Int)) (by omega); omega
  have hkm' : (k : Int) < (m : Int) := by omega
  obtain ⟨x, hx⟩ : ∃ x, brev q k = x := ⟨_, rfl⟩
  have hxm : x < m := by rw [← hx, hm]; exact brev_lt q k
  have hxm' : (x : Int) < (m : Int) := by omega
  have hback : brev q x = k := by rw [← hx]; exact brev_brev q k (by rw [← hm]; exact hkm)
  have HM := Lib.hid hm
  have HX := Lib.hid hx
  have HBK := Lib.hid hback
  clear hm hx hback hk hq
  go_enter Try.func6, Try.ntmps6
  go_wp2_with fail
  refine (l10_head _).mono ?_
  rintro e W1 ⟨rfl, hb⟩
  have BT := Lib.hid hb
  clear hb
  go_wp2_with fail
  refine (bits_c q (by omega) _).mono ?_
  rintro e W2 ⟨v, rfl, ho, hb⟩
  rw [← HM.out] at ho
  obtain ⟨g, cap, rfl, _, _, hc, _⟩ := ownsI_pos ho (by omega)
  replace BT := Lib.hid (BT.out.trans (hb.mono BT.out.size))
  have hget : ∀ j, j < m → W2.cell? ⟨g, j, none⟩ = some (I (brev q j)) := by
    intro j hj
    have := hc j hj
    rw [bits_getD q j (by rw [← HM.out]; exact hj)] at this
    exact this
  have HG := Lib.hid hget
  have ck : W2.cell? ⟨g, k, none⟩ = some (I x) := by rw [hget k hkm, HX.out]
  have cx : W2.cell? ⟨g, x, none⟩ = some (I k) := by rw [hget x hxm, HBK.out]
  clear ho hb hc hget
  by_cases h2 : 2 * k + 1 < m
  · have h2' : 2 * (k : Int) + 1 < (m : Int) := by omega
    have hq0 : 1 ≤ q := by
      have h3 := HM.out
      rcases Nat.eq_zero_or_pos q with h4 | h4
      · rw [h4] at h3; omega
      · exact h4
    obtain ⟨x2, hx2⟩ : ∃ z : Nat, x / 2 = z := ⟨_, rfl⟩
    obtain ⟨m2, hm2⟩ : ∃ z : Nat, m / 2 = z := ⟨_, rfl⟩
    have hd1 : (x : Int).tdiv 2 = (x2 : Int) := by rw [Int.tdiv_eq_ediv_of_nonneg (by omega)]; omega
    have hd2 : (m : Int).tdiv 2 = (m2 : Int) := by rw [Int.tdiv_eq_ediv_of_nonneg (by omega)]; omega
    have hx3 : x2 ≤ 1024 := by omega
    have hm3 : m2 ≤ 1024 := by omega
    have c2 : W2.cell? ⟨g, 2 * k, none⟩ = some (I x2) := by
      rw [HG.out (2 * k) (by omega), brev_even q k (by rw [← HM.out]; omega) hq0, HX.out, hx2]
    have c3 : W2.cell? ⟨g, 2 * k + 1, none⟩ = some (.int .i64 ((x2 : Int) + (m2 : Int))) := by
      rw [HG.out (2 * k + 1) (by omega), brev_odd q k (by rw [← HM.out]; omega) hq0, HX.out, hx2, ← HM.out, hm2, ← Int.natCast_add]
    clear hx2 hm2 HG
    go_wp2
    go_quiet (fail)
    go_wp2
    go_ret
    exact ⟨rfl, ⟨BT.out.os, BT.out.tape, BT.out.output, BT.out.size, BT.out.block⟩⟩
  · have h2' : (m : Int) ≤ 2 * (k : Int) + 1 := by omega
    go_wp2
    go_ret
    exact ⟨rfl, BT.out⟩
end Go.Proofs.Ytajnjghbppcfdaa
