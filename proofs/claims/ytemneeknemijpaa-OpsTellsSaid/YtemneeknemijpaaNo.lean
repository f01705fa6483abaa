/- Root of the document's naturals. No condition but the sizes. -/
import Derived.Test.YtemneeknemijpaaNl
namespace Go.Proofs.Ytemneeknemijpaa
open Go.RowKit

/-- ahead of bit k (k one above): r is the root down to bit k -/
structure RootSo (n r k : Nat) : Prop where
  lo : r * r ≤ n
  hi : n < (r + 2 ^ k) * (r + 2 ^ k)
theorem rootSo_zero (n k : Nat) (h : blen n ≤ 2 * k) : RootSo n 0 k := ⟨by simp, by
  rw [Nat.zero_add, ← Nat.pow_add]
  exact Nat.lt_of_lt_of_le (lt_blen n) (Nat.pow_le_pow_right (by decide) (by omega))⟩
theorem RootSo.take {n r k : Nat} (h : RootSo n r (k + 1)) (ht : (r + 2 ^ k) * (r + 2 ^ k) ≤ n) : RootSo n (r + 2 ^ k) k := ⟨ht, by
  have := h.hi
  rw [Nat.pow_succ, show r + 2 ^ k * 2 = r + 2 ^ k + 2 ^ k by omega] at this
  exact this⟩
theorem RootSo.skip {n r k : Nat} (h : RootSo n r (k + 1)) (ht : ¬ (r + 2 ^ k) * (r + 2 ^ k) ≤ n) : RootSo n r k := ⟨h.lo, by omega⟩
theorem sq_lt {r m : Nat} (h : r * r < m * m) : r < m := by
  apply Decidable.byContradiction
  intro hn
  have := Nat.mul_le_mul (show m ≤ r by omega) (show m ≤ r by omega)
  omega
theorem root_small {n r k L : Nat} (hn : n < W L) (hr : r * r ≤ n) (hk : k ≤ 12 * L + 1) : r + 2 ^ k < W (L + 1) := by
  have h1 : r < 2 ^ (12 * L) := by
    apply sq_lt
    rw [← Nat.pow_add, show 12 * L + 12 * L = 24 * L by omega, ← W_two]
    omega
  have h2 : 2 ^ k ≤ 2 ^ (12 * L + 1) := Nat.pow_le_pow_right (by decide) hk
  have h3 : 2 ^ (12 * L + 2) ≤ 2 ^ (24 * (L + 1)) := Nat.pow_le_pow_right (by decide) (by omega)
  rw [W_two]
  rw [Nat.pow_succ] at h2 h3
  rw [Nat.pow_succ] at h3
  omega
end Go.Proofs.Ytemneeknemijpaa
