/- S.SameRow: rows that are one. -/
import Derived.Test.YtajnjghbppcfdaaMir
import Derived.Laws.FloatArith
import Derived.WalkLawsBesides
import Derived.BigQuiet
namespace Go.Proofs.Ytajnjghbppcfdaa
open Go.RowKit Go.Shelf

theorem f_same_yes (a b : Nat) (w : World) (h : Fl.canon a = Fl.canon b) : Calls Try.prog 29 #[F a, F b] w fun e w' => e = .returned (.bool true) ∧ w = w' := by
  have hs := Fl.same_of h
  unfold Fl.same at hs
  clear h
  by_cases h1 : (FloatKind.f64.format.order a b == some .eq) = true
  · clear hs
    go_enter Try.func29, Try.ntmps29
    go_wp2
    go_ret
    exact ⟨rfl, rfl⟩
  · have h1' : (FloatKind.f64.format.order a b == some .eq) = false := by simpa using h1
    clear h1
    have hs' : (false || (FloatKind.f64.format.order a a != some .eq && FloatKind.f64.format.order b b != some .eq)) = true := by
      rw [← h1']; exact hs
    simp only [Bool.false_or, Bool.and_eq_true] at hs'
    obtain ⟨h2, h3⟩ := hs'
    clear hs
    go_enter Try.func29, Try.ntmps29
    go_wp2
    go_ret
    exact ⟨rfl, rfl⟩


theorem sameRow_c (a a' : Option Addr) (n c c' : Nat) (l : List Nat) (w : World) (h : IsFl w a n l) (h' : IsFl w a' n l) (h8 : n ≤ 5000) : Calls Try.prog 14 #[.slice a n c, .slice a' n c'] w fun e W' => e = .returned (.bool true) ∧ Below w.heap.size w W' := by
  have HA := Lib.hid h
  have HB := Lib.hid h'
  clear h h'
  go_enter Try.func14, Try.ntmps14
  go_wp2
  go_loopw [5] (fun i wr => ∃ k : Nat, k ≤ n ∧ i = .int .i64 k ∧ Hid (Below w.heap.size w wr)) (fun i _ => n - (intOf i).toNat)
  case atStart => exact ⟨0, Nat.zero_le _, rfl, Lib.hid (Below.refl _ _)⟩
  case round =>
    obtain ⟨k, hk, rfl, hbl⟩ := hrel
    by_cases hlt : k < n
    · obtain ⟨y, hy⟩ : ∃ y, l.getD k 0 = y := ⟨_, rfl⟩
      obtain ⟨b0, off0, rfl, hc0⟩ : ∃ b off, a = some ⟨b, off, none⟩ ∧ w.cell? ⟨b, off + k, none⟩ = some (F y) := by
        rcases HA.out.2 with h | ⟨b, off, h, hc⟩
        · omega
        · exact ⟨b, off, h, by rw [← hy]; exact hc k (by rw [HA.out.1]; exact hlt)⟩
      obtain ⟨b1, off1, rfl, hc1⟩ : ∃ b off, a' = some ⟨b, off, none⟩ ∧ w.cell? ⟨b, off + k, none⟩ = some (F y) := by
        rcases HB.out.2 with h | ⟨b, off, h, hc⟩
        · omega
        · exact ⟨b, off, h, by rw [← hy]; exact hc k (by rw [HB.out.1]; exact hlt)⟩
      have hd0 := (hbl.out.cell (p := ⟨b0, off0 + k, none⟩) (cell_lt hc0)).trans hc0
      have hd1 := (hbl.out.cell (p := ⟨b1, off1 + k, none⟩) (cell_lt hc1)).trans hc1
      clear hc0 hc1 hy
      have hk3 : (k : Int) < (n : Int) := by omega
      go_wp2
      go_region_held3 (fun w' => w'.cell? ⟨b0, off0 + k, none⟩ = some (F y) ∧ w'.cell? ⟨b1, off1 + k, none⟩ = some (F y)) (go_keep)
        (first | (go_at_call 29; refine (f_same_yes y y _ rfl).mono ?_; rintro e w' ⟨rfl, rfl⟩))
      go_wp2
      go_roundw
      case rel => exact ⟨k + 1, by omega, by go_num, Lib.hid hbl.out.drew⟩
      case measure => simp [intOf]; omega
    · obtain rfl : k = n := by omega
      go_wp2
      go_ret
      exact ⟨rfl, hbl.out⟩

theorem sameRow_f {w : World} {u v : Value} {l m : List Nat} (h : Fla w u l) (h' : Fla w v m) (e : l = m) (h8 : l.length ≤ 5000) : Calls Try.prog 14 #[u, v] w fun e W' => e = .returned (.bool true) ∧ Below w.heap.size w W' := by
  subst e
  obtain ⟨a, n, c, rfl, h1, _⟩ := h
  obtain ⟨a', n', c', rfl, h1', _⟩ := h'
  have e1 := h1.1
  have e2 := h1'.1
  subst e1
  subst e2
  exact sameRow_c a a' _ c c' l w h1 h1' h8
end Go.Proofs.Ytajnjghbppcfdaa
