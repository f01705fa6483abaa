/- Form of the reference. -/
import Derived.Test.YtaempngakollpaaDoorFm
namespace Go.Proofs.YtaempngakollpaaDoor
open Go.RowKit Go.Shelf

/-- (k % n + n) % n of Go's is the rest. -/
theorem rem_twice (k : Int) (n : Nat) (hn : 0 < n) : ((k.tmod n) + n).tmod n = k % n := by
  have h1 := Int.tmod_lt_of_pos k (b := n) (by omega)
  have h2 := Int.lt_tmod_of_pos k (b := n) (by omega)
  rw [Int.tmod_eq_emod_of_nonneg (by omega), Int.add_emod_right]
  have : k.tmod n % n = k % n := by
    rw [Int.tmod_eq_emod]
    split
    · simp
    · simp
  exact this

set_option maxHeartbeats 2000000 in
theorem form17 (k : Int) (q : Nat) (hq : q ≤ 40) (w : World) : Calls Tryd.prog 17 #[Ag k q] w (Forms w (val k q)) := by
  obtain ⟨x, hx⟩ : ∃ x : Nat, k % 2 ^ q = x := ⟨(k % 2 ^ q).toNat, (Int.toNat_of_nonneg (Int.emod_nonneg _ (Int.ne_of_gt (Int.pow_pos (by decide))))).symm⟩
  obtain ⟨f0, f1⟩ := form_of k q x hq hx
  have h2 : (2 : Nat) ^ q ≤ 2 ^ 40 := Nat.pow_le_pow_right (by decide) hq
  have hp : 0 < (2 : Nat) ^ q := Nat.pow_pos (by decide)
  have hr := rem_twice k (2 ^ q) hp
  rw [← pow_int, hx] at hr
  rw [pow_int] at hr
  obtain ⟨m, hm⟩ : ∃ m : Nat, 2 ^ q = m := ⟨_, rfl⟩
  have hq1 : (q : Int) ≤ 40 := by omega
  have hw : wrap64 ((2 : Int) ^ q) = (m : Int) := by
    rw [pow_int]; unfold wrap64; omega
  rw [hm] at hr hp
  have hm1 : (m : Int) ≤ 1099511627776 := by omega
  have hm0 : (0 : Int) < m := by omega
  have h1 := Int.tmod_lt_of_pos k (b := m) (by omega)
  have h2' := Int.lt_tmod_of_pos k (b := m) (by omega)
  clear h2 hm hp
  have F0 := Lib.hid f0
  have F1 := Lib.hid f1
  have HX := Lib.hid hx
  clear f0 f1 hx
  go_enter Tryd.func17, Tryd.ntmps17
  go_wp2
  have hx0 : (x : Int) ≤ m := by
    rw [← hr]; exact Int.le_of_lt (Int.tmod_lt_of_pos _ (by omega))
  clear hr h1 h2' hw
  go_loop [4, 5] (fun a b => ∃ y r : Nat, a = .int .i64 y ∧ b = .int .i64 r ∧ y ≤ x ∧ r ≤ q ∧ Hid (∃ j, x = 2 ^ j * y ∧ r + j = q) ∧ Hid (y = 0 → x = 0)) (fun a _ => (intOf a).toNat)
  case atStart => exact ⟨x, q, rfl, rfl, Nat.le_refl _, Nat.le_refl _, Lib.hid ⟨0, by simp, by omega⟩, Lib.hid id⟩
  case round =>
    obtain ⟨y, r, rfl, rfl, hyx, hrq, J, Z⟩ := hrel
    by_cases hy : y = 0
    · subst hy
      have e := F0.out (Z.out rfl)
      have E1 := Lib.hid e.1
      have E2 := Lib.hid e.2
      clear e
      go_wp2
      exact bodyPost_ret (v := Ag 0 0) (by simp [results, Tryd.results17, go_sem]) rfl ⟨by rw [T, E1.out, E2.out]; rfl, ((Below.refl _ w).alloc (Nat.le_refl _) _).alloc (by simp) _⟩
    · have hy0 : (0 : Int) < y := by omega
      have hyi : ((y : Int) == 0) = false := by simpa using hy
      by_cases ho : y % 2 = 1
      · have ho' : ((y : Int) % 2 == 0) = false := by apply beq_false_of_ne; omega
        obtain ⟨j, hj, hrj⟩ := J.out
        have hx0' : x ≠ 0 := by
          intro h; rw [h] at hj
          have := Nat.mul_pos (Nat.pow_pos (n := j) (show 0 < 2 by decide)) (show 0 < y by omega)
          omega
        obtain ⟨e1, e2, e3, e4⟩ := F1.out hx0'
        have hc : Lib.ctz 64 x = j := by
          rw [hj, show y = 2 * (y / 2) + 1 by omega]
          exact ctz_odd j _ (by omega)
        rw [hc] at e1 e2
        have E1 := Lib.hid (e1.trans (show x / 2 ^ j = y by rw [hj]; exact Nat.mul_div_cancel_left _ (Nat.pow_pos (by decide))))
        have E2 := Lib.hid (e2.trans (show q - j = r by omega))
        clear e1 e2 e3 e4 hc hj hrj hx0' ho
        go_wp2
        exact bodyPost_ret (v := Ag y r) (by simp [results, Tryd.results17, go_sem]) rfl ⟨by rw [T, E1.out, E2.out], ((Below.refl _ w).alloc (Nat.le_refl _) _).alloc (by simp) _⟩
      · obtain ⟨z, hz⟩ : ∃ z : Nat, y / 2 = z := ⟨_, rfl⟩
        have he : (y : Int) % 2 = 0 := by omega
        have hd : (y : Int) / 2 = z := by omega
        have hr1 : (1 : Int) ≤ r := by
          obtain ⟨j, hj, hrj⟩ := J.out
          have hx0' : x ≠ 0 := fun h => hy (by
            have := Nat.mul_pos (Nat.pow_pos (n := j) (show 0 < 2 by decide)) (show 0 < y by omega)
            omega)
          obtain ⟨_, _, _, e4⟩ := F1.out hx0'
          apply Classical.byContradiction
          intro hn
          have hjq : j = q := by omega
          rw [hjq] at hj
          have : 2 ^ q ≤ 2 ^ q * y := Nat.le_mul_of_pos_right _ (by omega)
          omega
        have J2 : Hid (∃ j, x = 2 ^ j * z ∧ (r - 1) + j = q) := by
          obtain ⟨j, hj, hrj⟩ := J.out
          refine ⟨j + 1, ?_, by omega⟩
          rw [hj, Nat.pow_succ, Nat.mul_assoc]
          congr 1
          omega
        go_wp2
        go_round
        case rel => exact ⟨z, r - 1, by go_num, by go_num, by omega, by omega, J2, Lib.hid (fun h => by omega)⟩
        case measure => simp [intOf]; omega
end Go.Proofs.YtaempngakollpaaDoor
