/- Form of the program. Under: the library's table as its initialiser lays it. -/
import Derived.Test.YtaempngakollpaaDoorTz
namespace Go.Proofs.YtaempngakollpaaDoor
open Go.RowKit Go.Shelf

/-- An angle. -/
abbrev Ag (k : Int) (q : Int) : Value := .agg #[.int .i64 k, .int .i64 q]
/-- The angle A in its form. -/
abbrev T (A : Int) : Value := Ag (fk A : Int) (fq A : Int)
def Forms (w : World) (A : Int) : Ending → World → Prop := fun e w' => e = .returned (T A) ∧ Below w.heap.size w w'

theorem bits_mask (k : Int) (q x : Nat) (hq : q ≤ 40) (hx : k % 2 ^ q = x) : Go.bits .and .i64 k (((2 ^ q - 1 : Nat) : Int)) = (x : Int) := by
  have h2 : (2 : Nat) ^ q ≤ 2 ^ 40 := Nat.pow_le_pow_right (by decide) hq
  have hp : 0 < (2 : Nat) ^ q := Nat.pow_pos (by decide)
  have hxl : x < 2 ^ q := by
    have := Int.emod_lt_of_pos k (b := 2 ^ q) (Int.pow_pos (by decide))
    rw [hx, pow_int] at this
    exact Int.ofNat_lt.1 this
  have h1 : (BitVec.ofInt 64 k).toNat % 2 ^ q = x := by
    rw [BitVec.toNat_ofInt]
    have e : ((k % ((2 ^ 64 : Nat) : Int)).toNat : Int) = k % ((2 ^ 64 : Nat) : Int) := Int.toNat_of_nonneg (Int.emod_nonneg _ (by decide))
    have e2 : (((k % ((2 ^ 64 : Nat) : Int)).toNat % 2 ^ q : Nat) : Int) = x := by
      rw [Int.natCast_emod, e, ← hx, pow_int]
      rw [Int.emod_emod_of_dvd]
      exact Int.natCast_dvd_natCast.2 (Nat.pow_dvd_pow 2 (by omega))
    exact Int.ofNat_inj.1 e2
  have h3 : (BitVec.ofInt 64 (((2 ^ q - 1 : Nat) : Int))).toNat = 2 ^ q - 1 := by
    rw [BitVec.ofInt_natCast, BitVec.toNat_ofNat]; exact Nat.mod_eq_of_lt (by omega)
  show IntKind.i64.wrap ((BitVec.ofInt 64 k &&& BitVec.ofInt 64 (((2 ^ q - 1 : Nat) : Int))).toNat : Int) = _
  rw [BitVec.toNat_and, h3, Nat.and_two_pow_sub_one_eq_mod, h1, IntKind.wrap_i64]
  omega

set_option maxHeartbeats 2000000 in
theorem form16 (k : Int) (q : Nat) (hq : q ≤ 40) (w : World) (ht : Tab w) : Calls Tryd.prog 16 #[Ag k q] w (Forms w (val k q)) := by
  obtain ⟨x, hx⟩ : ∃ x : Nat, k % 2 ^ q = x := ⟨(k % 2 ^ q).toNat, (Int.toNat_of_nonneg (Int.emod_nonneg _ (Int.ne_of_gt (Int.pow_pos (by decide))))).symm⟩
  have hb := bits_mask k q x hq hx
  obtain ⟨f0, f1⟩ := form_of k q x hq hx
  have h2 : (2 : Nat) ^ q ≤ 2 ^ 40 := Nat.pow_le_pow_right (by decide) hq
  have hp : 0 < (2 : Nat) ^ q := Nat.pow_pos (by decide)
  obtain ⟨m, hm⟩ : ∃ m : Nat, 2 ^ q - 1 = m := ⟨_, rfl⟩
  rw [hm] at hb
  have hq1 : (q : Int) ≤ 40 := by omega
  have hw : wrap64 ((2 : Int) ^ q) = (m : Int) + 1 := by
    rw [pow_int]; unfold wrap64; omega
  have hm1 : m ≤ 1099511627776 := by omega
  clear hx h2 hp hm
  by_cases h0 : x = 0
  · obtain ⟨e1, e2⟩ := f0 h0
    have E1 := Lib.hid e1
    have E2 := Lib.hid e2
    subst h0
    clear f0 f1 e1 e2
    go_enter Tryd.func16, Tryd.ntmps16
    go_wp2_with fail
    go_region
    go_wp2
    exact bodyPost_ret (v := Ag 0 0) (by simp [results, Tryd.results16, go_sem]) rfl ⟨by rw [T, E1.out, E2.out]; rfl, (((Below.refl _ w).alloc (Nat.le_refl _) _).alloc (by simp) _).drew⟩
  · obtain ⟨e1, e2, e3, e4⟩ := f1 h0
    have hx0 : ((x : Int) == 0) = false := by simpa using h0
    have hx1 : (x : Int) ≤ 1099511627776 := by have : (2 : Nat) ^ q ≤ 2 ^ 40 := Nat.pow_le_pow_right (by decide) hq; omega
    have hx2 : (0 : Int) ≤ x := by omega
    have TZ := Lib.hid (fun w' (ht' : Tab w') => tz27 x h0 (by omega) w' ht')
    obtain ⟨v, hv⟩ : ∃ v : Nat, Lib.ctz 64 x = v := ⟨_, rfl⟩
    rw [hv] at e1 e2 e3 TZ
    have hv1 : (v : Int) < q := by omega
    have hsh : (x : Int) / 2 ^ min v 64 = ((x / 2 ^ v : Nat) : Int) := by
      rw [show min v 64 = v by omega, pow_int, Int.natCast_ediv]
    have hsh2 : (x : Int) / 2 ^ v = ((x / 2 ^ v : Nat) : Int) := by rw [pow_int, Int.natCast_ediv]
    have hy1 : x / 2 ^ v ≤ x := Nat.div_le_self _ _
    obtain ⟨y, hy⟩ : ∃ y : Nat, x / 2 ^ v = y := ⟨_, rfl⟩
    rw [hy] at e1 hsh hsh2 hy1
    have E1 := Lib.hid e1
    have E2 := Lib.hid e2
    have T0 := Lib.hid ht
    clear f0 f1 e1 e2 e3 ht hv hy e4
    go_enter Tryd.func16, Tryd.ntmps16
    go_wp2_with fail
    go_region
    go_wp2_with fail
    refine (TZ.out _ (T0.out.below ((((Below.refl _ w).alloc (Nat.le_refl _) _).alloc (by simp) _).drew))).mono ?_
    rintro e w' ⟨rfl, rfl⟩
    go_wp2_with fail
    go_region
    go_wp2
    exact bodyPost_ret (v := Ag y (q - v)) (by simp [results, Tryd.results16, go_sem]) rfl ⟨by rw [T, E1.out, E2.out, show ((q - v : Nat) : Int) = (q : Int) - v by omega], (((Below.refl _ w).alloc (Nat.le_refl _) _).alloc (by simp) _).drew.drew⟩
end Go.Proofs.YtaempngakollpaaDoor
