/- The plain laws of layer 10. -/
import Derived.Test.YtajnjghbppcfdaaBits
namespace Go.Proofs.Ytajnjghbppcfdaa

theorem zips_back (l : List Nat) : zips (evens l) (odds l) = l := by
  apply ext_getD
  · rw [zips_length, takes_length, takes_length]; omega
  · intro k hk
    rw [zips_length, takes_length, takes_length] at hk
    rw [zips_getD _ _ _ (by rw [takes_length, takes_length]; exact hk)]
    by_cases h : k % 2 = 0
    · rw [if_pos h, takes_getD _ _ _ _ (by omega), show 2 * (k / 2) = k by omega]
    · rw [if_neg h, takes_getD _ _ _ _ (by omega), show 2 * (k / 2) + 1 = k by omega]
theorem revs_length (l : List Nat) : (revs l).length = l.length := takes_length _ _ _
theorem revs_getD (l : List Nat) (k : Nat) (h : k < l.length) : (revs l).getD k 0 = l.getD (l.length - 1 - k) 0 := takes_getD _ _ _ _ h
theorem revs_back (l : List Nat) : revs (revs l) = l := by
  apply ext_getD
  · rw [revs_length, revs_length]
  · intro k hk
    rw [revs_length, revs_length] at hk
    rw [revs_getD _ _ (by rw [revs_length]; exact hk), revs_length, revs_getD _ _ (by omega), show l.length - 1 - (l.length - 1 - k) = k by omega]
theorem signs_back (p : Nat → Bool) (l : List Nat) : signs p (signs p l) = l := by
  apply ext_getD
  · rw [signs_length, signs_length]
  · intro k hk
    rw [signs_length, signs_length] at hk
    rw [signs_getD _ _ _ (by rw [signs_length]; exact hk), signs_getD _ _ _ hk]
    by_cases h : p k = true
    · rw [if_pos h, if_pos h, Fl.fneg_fneg]
    · rw [if_neg h, if_neg h]
theorem append_getD (l m : List Nat) (k : Nat) : (l ++ m).getD k 0 = if k < l.length then l.getD k 0 else m.getD (k - l.length) 0 := by
  by_cases h : k < l.length
  · rw [if_pos h, List.getD_eq_getElem?_getD, List.getElem?_append_left h, List.getD_eq_getElem?_getD]
  · rw [if_neg h, List.getD_eq_getElem?_getD, List.getElem?_append_right (by omega), List.getD_eq_getElem?_getD]
theorem folds_length (l : List Nat) : (folds l).length = l.length := by
  rw [List.length_append, takes_length, revs_length, takes_length]; omega
theorem folds_getD (l : List Nat) (k : Nat) (h : k < l.length) : (folds l).getD k 0 = if k < (l.length + 1) / 2 then l.getD (2 * k) 0 else l.getD (2 * (l.length - 1 - k) + 1) 0 := by
  rw [append_getD, takes_length]
  by_cases h1 : k < (l.length + 1) / 2
  · rw [if_pos h1, if_pos h1, takes_getD _ _ _ _ h1]
  · rw [if_neg h1, if_neg h1, revs_getD _ _ (by rw [takes_length]; omega), takes_length, takes_getD _ _ _ _ (by omega)]
    rw [show 2 * (l.length / 2 - 1 - (k - (l.length + 1) / 2)) + 1 = 2 * (l.length - 1 - k) + 1 by omega]
theorem unfolds_length (l : List Nat) : (unfolds l).length = l.length := by
  rw [zips_length, takes_length, revs_length, takes_length]; omega
theorem unfolds_getD (l : List Nat) (k : Nat) (h : k < l.length) : (unfolds l).getD k 0 = if k % 2 = 0 then l.getD (k / 2) 0 else l.getD (l.length - 1 - k / 2) 0 := by
  rw [zips_getD _ _ _ (by rw [takes_length, revs_length, takes_length]; omega)]
  by_cases h1 : k % 2 = 0
  · rw [if_pos h1, if_pos h1, takes_getD _ _ _ _ (by omega), Nat.zero_add]
  · rw [if_neg h1, if_neg h1, revs_getD _ _ (by rw [takes_length]; omega), takes_length, takes_getD _ _ _ _ (by omega)]
    rw [show (l.length + 1) / 2 + (l.length - (l.length + 1) / 2 - 1 - k / 2) = l.length - 1 - k / 2 by omega]
theorem unfold_fold (l : List Nat) : unfolds (folds l) = l := by
  apply ext_getD
  · rw [unfolds_length, folds_length]
  · intro k hk
    rw [unfolds_length, folds_length] at hk
    rw [unfolds_getD _ _ (by rw [folds_length]; exact hk), folds_length]
    by_cases h1 : k % 2 = 0
    · rw [if_pos h1, folds_getD _ _ (by omega), if_pos (by omega), show 2 * (k / 2) = k by omega]
    · rw [if_neg h1, folds_getD _ _ (by omega), if_neg (by omega), show 2 * (l.length - 1 - (l.length - 1 - k / 2)) + 1 = k by omega]
theorem fold_unfold (l : List Nat) : folds (unfolds l) = l := by
  apply ext_getD
  · rw [folds_length, unfolds_length]
  · intro k hk
    rw [folds_length, unfolds_length] at hk
    rw [folds_getD _ _ (by rw [unfolds_length]; exact hk), unfolds_length]
    by_cases h1 : k < (l.length + 1) / 2
    · rw [if_pos h1, unfolds_getD _ _ (by omega), if_pos (by omega), show 2 * k / 2 = k by omega]
    · rw [if_neg h1, unfolds_getD _ _ (by omega), if_neg (by omega), show l.length - 1 - (2 * (l.length - 1 - k) + 1) / 2 = k by omega]
theorem evens_zips (a b : List Nat) (h : a.length = b.length ∨ a.length = b.length + 1) : evens (zips a b) = a := by
  apply ext_getD
  · rw [takes_length, zips_length]; omega
  · intro k hk
    rw [takes_length, zips_length] at hk
    rw [takes_getD _ _ _ _ (by rw [zips_length]; exact hk), zips_getD _ _ _ (by omega), if_pos (by omega), show 2 * k / 2 = k by omega]
theorem odds_zips (a b : List Nat) (h : a.length = b.length ∨ a.length = b.length + 1) : odds (zips a b) = b := by
  apply ext_getD
  · rw [takes_length, zips_length]; omega
  · intro k hk
    rw [takes_length, zips_length] at hk
    rw [takes_getD _ _ _ _ (by rw [zips_length]; exact hk), zips_getD _ _ _ (by omega), if_neg (by omega), show (2 * k + 1) / 2 = k by omega]
theorem mirrors_length (odd : Bool) (l : List Nat) : (mirrors odd l).length = l.length + (l.length - 2) := by
  rw [List.length_append]
  cases odd
  · simp only [Bool.false_eq_true, if_false, mids_length]
  · simp only [if_true, signs_length, mids_length]
theorem mirrors_low (odd : Bool) (l : List Nat) (k : Nat) (h : k < l.length) : (mirrors odd l).getD k 0 = l.getD k 0 := by
  rw [append_getD, if_pos h]
theorem mids_getD (l : List Nat) (k : Nat) (h : k < l.length - 2) : (mids l).getD k 0 = l.getD (l.length - 2 - k) 0 := by
  rw [revs_getD _ _ (by rw [takes_length]; exact h), takes_length, takes_getD _ _ _ _ (by omega), show 1 + (l.length - 2 - 1 - k) = l.length - 2 - k by omega]
theorem mirrors_high (odd : Bool) (l : List Nat) (k : Nat) (h1 : 1 ≤ k) (h : k + 1 < l.length) : (mirrors odd l).getD (2 * (l.length - 1) - k) 0 = if odd then Fl.fneg (l.getD k 0) else l.getD k 0 := by
  rw [append_getD, if_neg (by omega)]
  cases odd
  · simp only [Bool.false_eq_true, if_false]
    rw [mids_getD _ _ (by omega), show l.length - 2 - (2 * (l.length - 1) - k - l.length) = k by omega]
  · simp only [if_true]
    rw [signs_getD _ _ _ (by rw [mids_length]; omega), if_pos rfl, mids_getD _ _ (by omega), show l.length - 2 - (2 * (l.length - 1) - k - l.length) = k by omega]
theorem brev_mod : ∀ p a x, brev p (a * 2 ^ p + x) = brev p x
  | 0, _, _ => rfl
  | p + 1, a, x => by
    have h1 : (a * 2 ^ (p + 1) + x) % 2 = x % 2 := by rw [Nat.pow_succ, ← Nat.mul_assoc]; omega
    have h2 : (a * 2 ^ (p + 1) + x) / 2 = a * 2 ^ p + x / 2 := by rw [Nat.pow_succ, ← Nat.mul_assoc]; omega
    show ((a * 2 ^ (p + 1) + x) % 2) * 2 ^ p + brev p ((a * 2 ^ (p + 1) + x) / 2) = (x % 2) * 2 ^ p + brev p (x / 2)
    rw [h1, h2, brev_mod p a (x / 2)]
theorem brev_brev : ∀ p k, k < 2 ^ p → brev p (brev p k) = k
  | 0, k, h => by simp at h; subst h; rfl
  | p + 1, k, h => by
    rw [Nat.pow_succ] at h
    have e : brev (p + 1) k = (k % 2) * 2 ^ p + brev p (k / 2) := rfl
    have h1 := brev_lt p (k / 2)
    rw [brev_top p (brev (p + 1) k)]
    have e1 : brev (p + 1) k / 2 ^ p % 2 = k % 2 := by
      rw [e, Nat.add_comm, Nat.add_mul_div_right _ _ (Nat.two_pow_pos p), Nat.div_eq_of_lt h1]; omega
    have e2 : brev p (brev (p + 1) k) = k / 2 := by
      have e3 : brev p (brev (p + 1) k) = brev p (brev p (k / 2)) := by
        rw [e]; exact brev_mod p _ _
      rw [e3, brev_brev p (k / 2) (by omega)]
    rw [e1, e2]; omega
end Go.Proofs.Ytajnjghbppcfdaa
