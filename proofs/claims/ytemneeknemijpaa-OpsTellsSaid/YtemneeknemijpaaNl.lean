/- Len (bits) of the document's naturals. No condition but the sizes. -/
import Derived.Test.YtemneeknemijpaaNmw
namespace Go.Proofs.Ytemneeknemijpaa
open Go.RowKit

def blen (n : Nat) : Nat := if h : n = 0 then 0 else blen (n / 2) + 1
termination_by n
decreasing_by omega
theorem blen_zero : blen 0 = 0 := by rw [blen]; simp
theorem blen_pos {n : Nat} (h : n ≠ 0) : blen n = blen (n / 2) + 1 := by
  conv => lhs; rw [blen]
  rw [dif_neg h]
theorem blen_shift (n : Nat) : ∀ k, n / 2 ^ k ≠ 0 → blen n = k + blen (n / 2 ^ k)
  | 0, _ => by simp
  | k + 1, h => by
    have e : n / 2 ^ (k + 1) = n / 2 ^ k / 2 := by rw [Nat.pow_succ, Nat.div_div_eq_div_mul]
    have h1 : n / 2 ^ k ≠ 0 := fun h0 => h (by rw [e, h0])
    rw [blen_shift n k h1, blen_pos h1, e]
    omega
theorem blen_le : ∀ (k n : Nat), n < 2 ^ k → blen n ≤ k
  | 0, n, h => by
    have : n = 0 := by simp at h; exact h
    subst this; rw [blen_zero]; exact Nat.le_refl _
  | k + 1, n, h => by
    by_cases h0 : n = 0
    · subst h0; rw [blen_zero]; exact Nat.zero_le _
    · rw [blen_pos h0]
      have := blen_le k (n / 2) (by rw [Nat.pow_succ] at h; omega)
      omega
theorem lt_blen (n : Nat) : n < 2 ^ blen n := by
  induction n using Nat.strongRecOn with
  | ind n ih =>
    by_cases h0 : n = 0
    · subst h0; exact Nat.pow_pos (by decide)
    · rw [blen_pos h0, Nat.pow_succ]
      have := ih (n / 2) (by omega)
      omega
theorem blen_ge {n : Nat} (h0 : n ≠ 0) : 2 ^ (blen n - 1) ≤ n := by
  induction n using Nat.strongRecOn with
  | ind n ih =>
    rw [blen_pos h0]
    by_cases h1 : n / 2 = 0
    · rw [h1, blen_zero]; simp; omega
    · have := ih (n / 2) (by omega) h1
      have h2 : blen (n / 2) = blen (n / 2) - 1 + 1 := by rw [blen_pos h1]; omega
      rw [Nat.add_sub_cancel, h2, Nat.pow_succ]
      omega

set_option maxHeartbeats 1000000 in
theorem n_len {u : Value} {n : Nat} {w : World} (hu : IsN w u n) (ha8 : (digs n).length ≤ 5000) : Calls Try.prog 67 #[u] w fun e w' => e = .returned (I (blen n)) ∧ w' = w := by
  obtain ⟨aa, la, ca, rfl, hA, _⟩ := hu
  have hla := hA.1
  rw [hla] at ha8
  by_cases h0 : n = 0
  · subst h0
    rw [digs_zero] at hla
    obtain rfl : 0 = la := hla
    rw [blen_zero]
    clear hA
    go_enter Try.func67, Try.ntmps67
    go_wp2
    go_ret
    exact ⟨rfl, rfl⟩
  · have hl0 : 0 < la := by
      apply Nat.pos_of_ne_zero
      intro hl
      have h1 : digs n = [] := List.length_eq_zero_iff.1 (by rw [hla, hl])
      have := num_digs n
      rw [h1] at this
      exact h0 this.symm
    obtain ⟨k, hk⟩ : ∃ k, la = k + 1 := ⟨la - 1, by omega⟩
    subst hk
    have hle := digs_len_le n h0
    rw [hla, Nat.add_sub_cancel] at hle
    have hlt : n < W (k + 1) := by rw [← hla]; exact digs_len_lt n
    rw [W_succ, Nat.mul_comm] at hlt
    have hx16 : n / W k < 16777216 := Nat.div_lt_of_lt_mul hlt
    have hx0 : n / W k ≠ 0 := by have := (Nat.div_pos hle (W_pos k)); omega
    have hlk : limb n k = n / W k := by unfold limb; exact Nat.mod_eq_of_lt hx16
    have hbl := blen_shift n (24 * k) (by rw [← W_two]; exact hx0)
    rw [← W_two] at hbl
    obtain ⟨x, hx⟩ : ∃ x, n / W k = x := ⟨_, rfl⟩
    rw [hx] at hbl hx16 hlk
    obtain ⟨B, hB⟩ : ∃ B, blen n = B := ⟨_, rfl⟩
    rw [hB] at hbl ⊢
    have hb24 := blen_le 24 x hx16
    obtain ⟨ba, offa, rfl, ca1⟩ := isI_cell hA (show k < k + 1 by omega)
    rw [digs_limb, hlk] at ca1
    have HBL : Hid (24 * k + blen x = B) := Lib.hid hbl.symm
    have hB8 : B ≤ 200000 := by omega
    have hw1 : IntKind.i64.wrap (((k + 1 : Nat) : Int) - 1) = (k : Int) := by rw [IntKind.wrap_i64]; omega
    have hw2 : IntKind.i64.wrap (24 * (k : Int)) = ((24 * k : Nat) : Int) := by rw [IntKind.wrap_i64]; omega
    have hkn : ¬ ((k : Int) + 1 = 0) := by omega
    clear hA hla hle hlt hx0 hlk hbl hx hB h0
    go_enter Try.func67, Try.ntmps67
    go_wp2
    go_loopw [3, 4] (fun c y wr => ∃ (m z : Nat), c = .int .i64 m ∧ y = .int .i64 z ∧ Hid (m + blen z = B) ∧ z < 16777216 ∧ wr = w) (fun _ y _ => (intOf y).toNat)
    case atStart => exact ⟨24 * k, x, by go_num, rfl, HBL, hx16, rfl⟩
    case round =>
      obtain ⟨m, z, rfl, rfl, HM, hz, rfl⟩ := hrel
      by_cases hz0 : 0 < z
      · have hs := HM.out
        rw [blen_pos (by omega)] at hs
        obtain ⟨y, hy⟩ : ∃ y, z / 2 = y := ⟨_, rfl⟩
        rw [hy] at hs
        have hyi : (z : Int) / 2 = (y : Int) := by omega
        have HS : Hid (m + 1 + blen y = B) := Lib.hid (by omega)
        have hm8 : m ≤ 200000 := by omega
        have hyz : y < z := by omega
        clear hs hy
        go_wp2
        go_roundw
        case rel => exact ⟨m + 1, y, by go_num, rfl, HS, by omega, trivial⟩
        case measure => simp [intOf]; omega
      · obtain rfl : z = 0 := by omega
        have hs := HM.out
        rw [blen_zero, Nat.add_zero] at hs
        subst hs
        go_wp2
        go_ret
        exact ⟨rfl, rfl⟩
end Go.Proofs.Ytemneeknemijpaa
