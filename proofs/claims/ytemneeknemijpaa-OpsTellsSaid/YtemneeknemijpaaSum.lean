/- ops.Sum: floats are summed from the first on, every not-a-number taken for one. No condition but the slice's length. -/
import Derived.Test.YtemneeknemijpaaCpxe
import Derived.LoopTactic
namespace Go.Proofs.Ytemneeknemijpaa
open Go.RowKit

def fsum (s : Nat) (l : List Nat) : Nat := l.foldl Fl.fadd s

theorem fsum_canon (s : Nat) (l : List Nat) (h : Fl.canon s = s) : Fl.canon (fsum s l) = fsum s l := by
  unfold fsum
  induction l generalizing s with
  | nil => exact h
  | cons x l ih => exact ih _ (Fl.canon_fadd ..)
theorem fsum_snoc (s : Nat) (l : List Nat) (x : Nat) : fsum s (l ++ [x]) = Fl.fadd (fsum s l) x := by unfold fsum; rw [List.foldl_append]; rfl
theorem fsum_take (s : Nat) (l : List Nat) (k : Nat) (h : k < l.length) : fsum s (l.take (k + 1)) = Fl.fadd (fsum s (l.take k)) l[k] := by
  rw [List.take_succ_eq_append_getElem h, fsum_snoc]

set_option maxHeartbeats 400000 in
theorem ops_fold (x0 : Nat) (h0 : x0 < 2 ^ 64) (b off cap : Nat) (l : List Nat) (w : World) (hl : l.length ≤ 140737488351232) (hc : ∀ k, k < l.length → w.cell? ⟨b, off + k, none⟩ = some (F (l.getD k 0))) :
    Calls Try.prog 76 #[.func (.func 39) #[] #[], F x0, .slice (some ⟨b, off, none⟩) l.length cap] w (Gives (fsum (Fl.canon x0) l) w) := by
  have HC := Lib.hid hc
  have H0 := Lib.hid h0
  clear hc h0
  go_enter Try.func76, Try.ntmps76
  go_wp2
  go_loopw [1, 11] (fun s i wr => ∃ k : Nat, k ≤ l.length ∧ i = .int .i64 k ∧ ∃ r n, s = F r ∧ Hid (Fl.canon r = fsum (Fl.canon x0) (l.take k)) ∧ Hid (r < 2 ^ 64) ∧ wr = w.drewN n) (fun _ i _ => l.length - (intOf i).toNat)
  case atStart => exact ⟨0, Nat.zero_le _, rfl, x0, 0, rfl, rfl, H0, rfl⟩
  case round =>
    obtain ⟨k, hk, rfl, r, n, rfl, hr, hl, rfl⟩ := hrel
    by_cases hlt : k < l.length
    · have hcell := HC.out k hlt
      have ht := Lib.hid (fsum_take (Fl.canon x0) l k hlt)
      go_wp2_with fail
      refine (ops_add _ _ _).mono ?_
      rintro e w' ⟨r2, n2, rfl, hr2, hl2, rfl⟩
      have HR2 := Lib.hid hr2
      have HL2 := Lib.hid hl2
      clear hr2 hl2
      go_wp2
      go_roundw
      case rel => exact ⟨k + 1, by omega, by go_num, r2, _, rfl, (show Hid _ from Lib.hid (by rw [HR2.out, ht.out, ← Fl.fadd_canon_left, hr.out])), HL2, rfl⟩
      case measure => simp [intOf]; omega
    · obtain rfl : k = l.length := by omega
      go_wp2
      go_ret
      exact ⟨r, n, rfl, by rw [hr.out, List.take_length], hl.out, rfl⟩

theorem ops_fold_nil (x0 : Nat) (h0 : x0 < 2 ^ 64) (w : World) (a : Option Addr) (cap : Nat) : Calls Try.prog 76 #[.func (.func 39) #[] #[], F x0, .slice a 0 cap] w (Gives (Fl.canon x0) w) := by
  go_enter Try.func76, Try.ntmps76
  go_wp2
  go_loopw [1, 11] (fun s i wr => s = F x0 ∧ i = .int .i64 0 ∧ wr = w) (fun _ i _ => 0)
  case atStart => exact ⟨rfl, rfl, rfl⟩
  case round =>
    obtain ⟨rfl, rfl, rfl⟩ := hrel
    go_wp2
    go_ret
    exact ⟨x0, 0, rfl, rfl, h0, rfl⟩

/-- A slice of floats that reads as the list l. -/
def IsFl (w : World) (a : Option Addr) (len : Nat) (l : List Nat) : Prop :=
  l.length = len ∧ (len = 0 ∨ ∃ b off, a = some ⟨b, off, none⟩ ∧ (∀ k, k < l.length → w.cell? ⟨b, off + k, none⟩ = some (F (l.getD k 0))))

theorem ops_sum (a : Option Addr) (len cap : Nat) (l : List Nat) (w : World) (hl : len ≤ 140737488351232) (h : IsFl w a len l) :
    Calls Try.prog 51 #[.slice a len cap] w (Gives (fsum 0 l) w) := by
  obtain ⟨rfl, h⟩ := h
  have H := Lib.hid h
  clear h
  go_enter Try.func51, Try.ntmps51
  go_wp2_with fail
  rcases H.out with h0 | ⟨b, off, rfl, hc⟩
  · have hl0 := List.length_eq_zero_iff.1 h0
    subst hl0
    refine (ops_fold_nil 0 (by decide) _ _ _).mono ?_
    rintro e w' ⟨r, n, rfl, hr, hl, rfl⟩
    have HR := Lib.hid hr
    clear hr
    go_wp2
    go_ret
    exact ⟨r, n, rfl, HR.out, hl, rfl⟩
  · have HC := Lib.hid hc
    clear hc
    refine (ops_fold 0 (by decide) _ _ _ l _ hl HC.out).mono ?_
    rintro e w' ⟨r, n, rfl, hr, hl, rfl⟩
    have HR := Lib.hid hr
    clear hr
    go_wp2
    go_ret
    exact ⟨r, n, rfl, HR.out, hl, rfl⟩
end Go.Proofs.Ytemneeknemijpaa
