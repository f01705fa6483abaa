/- F.Of of the document: a finite float as a dyadic number. No condition. -/
import Derived.Test.YtemneeknemijpaaDc
import Derived.Test.YtemneeknemijpaaLdexpb
namespace Go.Proofs.Ytemneeknemijpaa
open Go.RowKit

namespace Fl
/-- a finite float's value in units of the least; 0 of others -/
def VV (x : Nat) : Int := if rg x < 2047 * 2 ^ 52 then V x else 0
def isFin (x : Nat) : Bool := decide (rg x < 2047 * 2 ^ 52)
theorem VV_fin {x : Nat} (h : rg x < 2047 * 2 ^ 52) : VV x = V x := by unfold VV; rw [if_pos h]
theorem VV_inf {x : Nat} (h : ¬ rg x < 2047 * 2 ^ 52) : VV x = 0 := by unfold VV; rw [if_neg h]
theorem V_sgz (x : Nat) : V x = sgz (sg x) (mg x) := rfl
theorem and2047u (n : Nat) (h : n < 18446744073709551616) : bits .and .u64 (n : Int) 2047 = ((n % 2048 : Nat) : Int) := by
  have h1 := u64_and_nat n 2047 (by simpa using h) (by decide)
  have e : ((2047 : Nat) : Int) = 2047 := rfl
  rw [e] at h1
  rw [h1]
  congr 1
  exact Nat.and_two_pow_sub_one_eq_mod n 11
theorem and52u (n : Nat) (h : n < 18446744073709551616) : bits .and .u64 (n : Int) 4503599627370495 = ((n % 4503599627370496 : Nat) : Int) := by
  have h1 := u64_and_nat n 4503599627370495 (by simpa using h) (by decide)
  have e : ((4503599627370495 : Nat) : Int) = 4503599627370495 := rfl
  rw [e] at h1
  rw [h1]
  congr 1
  exact Nat.and_two_pow_sub_one_eq_mod n 52
end Fl

def OfSo (w : World) (x : Nat) (e : Ending) (W' : World) : Prop := ∃ v, e = .returned (.tuple #[v, .bool (Fl.isFin x)]) ∧ IsD W' v (Fl.VV x) (-1074) ∧ Below w.heap.size w W'

set_option maxHeartbeats 2000000 in
theorem f_of (x : Nat) (hx : x < 18446744073709551616) (w : World) : Calls Try.prog 31 #[F x] w (OfSo w x) := by
  have hb := fun w => run_bits' x w
  obtain ⟨s, hs⟩ : ∃ s, Fl.sg x = s := ⟨_, rfl⟩
  obtain ⟨E, hE⟩ : ∃ E, x / 4503599627370496 % 2048 = E := ⟨_, rfl⟩
  obtain ⟨m, hm⟩ : ∃ m, x % 4503599627370496 = m := ⟨_, rfl⟩
  have hsg : ((x : Int) / 9223372036854775808 == 1) = s := by
    rw [← hs]
    unfold Fl.sg
    by_cases h : x / 2 ^ 63 = 1
    · rw [h, show (x : Int) / 9223372036854775808 = 1 by omega]; rfl
    · rw [show x / 2 ^ 63 = 0 by omega, show (x : Int) / 9223372036854775808 = 0 by omega]; rfl
  have hand1 : bits .and .u64 ((x : Int) / 4503599627370496) 2047 = (E : Int) := by
    have := Fl.and2047u (x / 4503599627370496) (by omega)
    rw [hE] at this
    rw [← this]
    congr 1
  have hand2 : bits .and .u64 (x : Int) 4503599627370495 = (m : Int) := by rw [← hm]; exact Fl.and52u x hx
  have hm8 : m < 4503599627370496 := by omega
  have hE8 : E ≤ 2047 := by omega
  have hrg : Fl.rg x = E * 4503599627370496 + m := by unfold Fl.rg; omega
  have hx8 : (x : Int) ≤ 18446744073709551615 := by omega
  have hd1 : (x : Int) / 9223372036854775808 ≤ 1 := by omega
  have hd0 : (0 : Int) ≤ (x : Int) / 9223372036854775808 := by omega
  have hd2 : (x : Int) / 4503599627370496 ≤ 4095 := by omega
  have hd3 : (0 : Int) ≤ (x : Int) / 4503599627370496 := by omega
  have HSG := Lib.hid hs
  have HRG := Lib.hid hrg
  clear hs hE hm hrg
  by_cases hE0 : E = 2047
  · subst hE0
    have HF : Hid (¬ Fl.rg x < 2047 * 2 ^ 52) := Lib.hid (by rw [HRG.out]; omega)
    have HF2 : Hid (Fl.isFin x = false) := Lib.hid (decide_eq_false HF.out)
    clear hx
    go_enter Try.func31, Try.ntmps31
    go_wp2
    refine bodyPost_ret (v := .tuple #[Dv false (.slice none 0 0) 0, .bool false]) (by simp [results, Try.results31, go_sem]) rfl ⟨_, by rw [HF2.out], ?_, (Below.refl _ w).alloc (Nat.le_refl _) _⟩
    rw [Fl.VV_inf HF.out]
    exact ⟨_, by rw [dE_zero]; rfl, by rw [dM_zero]; exact isN_nil _⟩
  have hE47 : ((E : Int) == 2047) = false := beq_false_of_ne (by omega)
  have HF : Hid (Fl.rg x < 2047 * 2 ^ 52) := Lib.hid (by rw [HRG.out]; omega)
  have HF2 : Hid (Fl.isFin x = true) := Lib.hid (decide_eq_true HF.out)
  by_cases hE1 : E = 0
  · subst hE1
    have HV : Hid (Fl.VV x = sgz s m) := Lib.hid (by
      rw [Fl.VV_fin HF.out, Fl.V_sgz, HSG.out]
      unfold Fl.mg Fl.RV
      rw [HRG.out, if_pos (by omega)]
      congr 1
      omega)
    have HD8 : Hid ((digs m).length ≤ 800) := Lib.hid (Nat.le_trans (digs_len_le' (k := 3) (by have : W 3 = 4722366482869645213696 := rfl; omega)) (by decide))
    clear hx hE0
    go_enter Try.func31, Try.ntmps31
    go_wp2_with fail
    obtain ⟨w0, hw0⟩ : ∃ w0, w.alloc (Obj.cells #[Value.bool false, Value.slice none 0 0, Value.int IntKind.i64 0] 35) = w0 := ⟨_, rfl⟩
    have HB0 : Hid (Below w.heap.size w w0) := Lib.hid (by rw [← hw0]; exact (Below.refl _ w).alloc (Nat.le_refl _) _)
    have HBX0 : Hid (Box w0 w.heap.size) := Lib.hid (by have := box_alloc w; rwa [show boxed w = w0 from hw0] at this)
    have HS0 : Hid (w0.heap.size = w.heap.size + 1) := Lib.hid (by rw [← hw0]; simp)
    rw [hw0]
    clear hw0
    refine (n_of m (by omega) w0).mono ?_
    rintro e1 w1 ⟨v1, rfl, hv1, hb1⟩
    have HB1 := Lib.hid hb1
    have HV1 := Lib.hid hv1
    clear hv1 hb1
    go_wp2_with fail
    refine (d_make s HV1.out HD8.out (by omega) (by omega)).mono ?_
    rintro e2 w2 ⟨v2, rfl, hv2, hb2⟩
    have HB2 : Hid (Below w0.heap.size w0 w2) := Lib.hid (HB1.out.trans (hb2.mono HB1.out.size))
    obtain ⟨n1, a1, l1, k1, E1, rfl⟩ := hv2.shape
    have HBw : Hid (Below w.heap.size w w2) := Lib.hid (HB0.out.trans (HB2.out.mono HB0.out.size))
    have BX := Lib.hid (HBX0.out.below HB2.out (by rw [HS0.out]; omega))
    obtain ⟨c0, c1, c2, _, f0, f1, f2⟩ := BX.out
    have hvv : IsD w2 (Dv n1 (.slice a1 l1 k1) E1) (Fl.VV x) (-1074) := by rw [HV.out]; exact hv2
    have HN := Lib.hid (fun x y u => BX.out.keepD hvv x y u)
    clear hv2 hb2
    go_wp2
    exact bodyPost_ret (v := .tuple #[Dv n1 (.slice a1 l1 k1) E1, .bool true]) (by simp [results, Try.results31, go_sem, c0, c1, c2]) rfl ⟨_, by rw [HF2.out], HN.out _ _ _, Box.keepB HBw.out (by omega) _ _ _⟩
  · obtain ⟨k, hk⟩ : ∃ k : Nat, E = k + 1 := ⟨E - 1, by omega⟩
    have HV : Hid (Fl.VV x = sgz s (m + 4503599627370496) * ((2 ^ k : Nat) : Int)) := Lib.hid (by
      rw [Fl.VV_fin HF.out, Fl.V_sgz, HSG.out, ← sgz_mul]
      unfold Fl.mg Fl.RV
      rw [HRG.out, if_neg (by omega)]
      congr 1
      rw [show (E * 4503599627370496 + m) % 2 ^ 52 = m by omega, show (E * 4503599627370496 + m) / 2 ^ 52 - 1 = k by omega, Nat.add_comm (2 ^ 52) m])
    have HD8 : Hid ((digs (m + 4503599627370496)).length ≤ 800) := Lib.hid (Nat.le_trans (digs_len_le' (k := 3) (by have : W 3 = 4722366482869645213696 := rfl; omega)) (by decide))
    have hE0i : ((E : Int) == 0) = false := beq_false_of_ne (by omega)
    have HK : Hid ((E : Int) - 1075 = -1074 + k) := Lib.hid (by omega)
    have hE2 : (1 : Int) ≤ E := by omega
    obtain ⟨M, hM⟩ : ∃ M, m + 4503599627370496 = M := ⟨_, rfl⟩
    have hmi : (m : Int) + 4503599627370496 = (M : Int) := by omega
    have hM8 : M ≤ 9007199254740992 := by omega
    rw [hM] at HV HD8
    clear hx hE0 hE1 hk hM
    go_enter Try.func31, Try.ntmps31
    go_wp2_with fail
    obtain ⟨w0, hw0⟩ : ∃ w0, w.alloc (Obj.cells #[Value.bool false, Value.slice none 0 0, Value.int IntKind.i64 0] 35) = w0 := ⟨_, rfl⟩
    have HB0 : Hid (Below w.heap.size w w0) := Lib.hid (by rw [← hw0]; exact (Below.refl _ w).alloc (Nat.le_refl _) _)
    have HBX0 : Hid (Box w0 w.heap.size) := Lib.hid (by have := box_alloc w; rwa [show boxed w = w0 from hw0] at this)
    have HS0 : Hid (w0.heap.size = w.heap.size + 1) := Lib.hid (by rw [← hw0]; simp)
    rw [hw0]
    clear hw0
    refine (n_of M (by omega) w0).mono ?_
    rintro e1 w1 ⟨v1, rfl, hv1, hb1⟩
    have HB1 := Lib.hid hb1
    have HV1 := Lib.hid hv1
    clear hv1 hb1
    go_wp2_with fail
    refine (d_make s HV1.out HD8.out (by omega) (by omega)).mono ?_
    rintro e2 w2 ⟨v2, rfl, hv2, hb2⟩
    have HB2 : Hid (Below w0.heap.size w0 w2) := Lib.hid (HB1.out.trans (hb2.mono HB1.out.size))
    obtain ⟨n1, a1, l1, k1, E1, rfl⟩ := hv2.shape
    have HBw : Hid (Below w.heap.size w w2) := Lib.hid (HB0.out.trans (HB2.out.mono HB0.out.size))
    have BX := Lib.hid (HBX0.out.below HB2.out (by rw [HS0.out]; omega))
    obtain ⟨c0, c1, c2, _, f0, f1, f2⟩ := BX.out
    have hvv : IsD w2 (Dv n1 (.slice a1 l1 k1) E1) (Fl.VV x) (-1074) := by rw [HV.out]; rw [HK.out] at hv2; exact (isD_shift _ _ _ _ _).2 hv2
    have HN := Lib.hid (fun x y u => BX.out.keepD hvv x y u)
    clear hv2 hb2
    go_wp2
    exact bodyPost_ret (v := .tuple #[Dv n1 (.slice a1 l1 k1) E1, .bool true]) (by simp [results, Try.results31, go_sem, c0, c1, c2]) rfl ⟨_, by rw [HF2.out], HN.out _ _ _, Box.keepB HBw.out (by omega) _ _ _⟩
end Go.Proofs.Ytemneeknemijpaa
