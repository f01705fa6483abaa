/- 'fits': a float that it lets in is finite, and 0 or of a size from 2^-400 to 2^400. No condition. -/
import Derived.Test.YtemneeknemijpaaHead9
import Derived.Test.YtemneeknemijpaaFlw
namespace Go.Proofs.Ytemneeknemijpaa
open Go.RowKit

namespace Fl
def P2 (n : Nat) : Nat := 2 ^ n

theorem read_notfin {x : Nat} (hx : x < 2 ^ 64) (h : ¬ Fin x) : D.read x = .infinity (sg x) ∨ ∃ s f, D.read x = .nan s f := by
  have h2 : ¬ rg x < 2047 * 2 ^ 52 := fun h3 => h ⟨hx, h3⟩
  unfold rg at h2
  unfold Ieee.Format.read
  simp only [signWeight, binade, infRung]
  rw [if_neg (by omega), if_neg h2]
  split
  · exact .inl rfl
  · exact .inr ⟨_, _, rfl⟩

theorem order_inf {x y : Nat} (s : Bool) (hx : D.read x = .infinity s) (hy : Fin y) : D.order x y = some (if s then .lt else .gt) := by
  unfold Ieee.Format.order
  rw [hx, read_fin hy]; rfl

theorem order_nan {x y s f} (hx : D.read x = .nan s f) : D.order x y = none := by
  unfold Ieee.Format.order
  rw [hx]
  cases D.read y <;> rfl

def ge (x y : Nat) : Bool := FloatKind.f64.format.order x y == some .gt || FloatKind.f64.format.order x y == some .eq
def le (x y : Nat) : Bool := FloatKind.f64.format.order x y == some .lt || FloatKind.f64.format.order x y == some .eq
def eq (x y : Nat) : Bool := FloatKind.f64.format.order x y == some .eq

theorem ge_fin {x y : Nat} (hx : Fin x) (hy : Fin y) : ge x y = true ↔ V y ≤ V x := by
  have : FloatKind.f64.format.order x y = some (compare (V x) (V y)) := order_fin hx hy
  unfold ge
  rw [this]
  rcases Int.lt_trichotomy (V x) (V y) with h | h | h
  · rw [Int.compare_eq_lt.2 h]; simp; omega
  · rw [h, Int.compare_eq_eq.2 rfl]; simp
  · rw [Int.compare_eq_gt.2 h]; simp; omega
theorem le_fin {x y : Nat} (hx : Fin x) (hy : Fin y) : le x y = true ↔ V x ≤ V y := by
  have : FloatKind.f64.format.order x y = some (compare (V x) (V y)) := order_fin hx hy
  unfold le
  rw [this]
  rcases Int.lt_trichotomy (V x) (V y) with h | h | h
  · rw [Int.compare_eq_lt.2 h]; simp; omega
  · rw [h, Int.compare_eq_eq.2 rfl]; simp
  · rw [Int.compare_eq_gt.2 h]; simp; omega
theorem eq_fin {x y : Nat} (hx : Fin x) (hy : Fin y) : eq x y = true ↔ V x = V y := by
  have : FloatKind.f64.format.order x y = some (compare (V x) (V y)) := order_fin hx hy
  unfold eq
  rw [this]
  rcases Int.lt_trichotomy (V x) (V y) with h | h | h
  · rw [Int.compare_eq_lt.2 h]; simp; omega
  · rw [h, Int.compare_eq_eq.2 rfl]; simp
  · rw [Int.compare_eq_gt.2 h]; simp; omega

/-- what 'fits' lets in -/
structure Fits (a : Nat) : Prop where
  fin : Fin a
  size : V a = 0 ∨ (P2 674 ≤ (V a).natAbs ∧ (V a).natAbs ≤ P2 1474)

theorem fin0 : Fin 0 := ⟨by decide, by decide +kernel⟩
theorem fin1 : Fin 2805742567851819008 := ⟨by decide, by decide +kernel⟩
theorem fin2 : Fin 6408622269748215808 := ⟨by decide, by decide +kernel⟩
theorem fin3 : Fin 12029114604706594816 := ⟨by decide, by decide +kernel⟩
theorem fin4 : Fin 15631994306602991616 := ⟨by decide, by decide +kernel⟩

theorem fits_of {a : Nat} (ha : a < 2 ^ 64) (h : (eq a 0 || (ge a 2805742567851819008 && le a 6408622269748215808) || (le a 12029114604706594816 && ge a 15631994306602991616)) = true) : Fits a := by
  by_cases hf : Fin a
  · refine ⟨hf, ?_⟩
    have v0 : V 0 = 0 := by decide +kernel
    have v1 : V 2805742567851819008 = (P2 674 : Int) := by decide +kernel
    have v2 : V 6408622269748215808 = (P2 1474 : Int) := by decide +kernel
    have v3 : V 12029114604706594816 = -(P2 674 : Int) := by decide +kernel
    have v4 : V 15631994306602991616 = -(P2 1474 : Int) := by decide +kernel
    simp only [Bool.or_eq_true, Bool.and_eq_true, eq_fin hf fin0, ge_fin hf fin1, le_fin hf fin2, le_fin hf fin3, ge_fin hf fin4] at h
    rw [v0, v1, v2, v3, v4] at h
    omega
  · exfalso
    rcases read_notfin ha hf with h2 | ⟨s, f, h2⟩
    · have e0 : FloatKind.f64.format.order a 0 = _ := order_inf _ h2 fin0
      have e1 : FloatKind.f64.format.order a 2805742567851819008 = _ := order_inf _ h2 fin1
      have e2 : FloatKind.f64.format.order a 6408622269748215808 = _ := order_inf _ h2 fin2
      have e3 : FloatKind.f64.format.order a 12029114604706594816 = _ := order_inf _ h2 fin3
      have e4 : FloatKind.f64.format.order a 15631994306602991616 = _ := order_inf _ h2 fin4
      unfold eq ge le at h
      rw [e0, e1, e2, e3, e4] at h
      revert h
      cases sg a <;> decide
    · have e : ∀ y, FloatKind.f64.format.order a y = none := fun y => order_nan h2
      unfold eq ge le at h
      simp [e] at h
end Fl

set_option maxHeartbeats 400000 in
theorem l9_fits (a : Nat) (ha : a < 2 ^ 64) (w : World) : Calls Try.prog 30 #[F a] w fun e w' => (∃ b : Bool, e = .returned (.bool b) ∧ (b = true → Fl.Fits a)) ∧ w = w' := by
  have hff : ∀ h : (Fl.eq a 0 || (Fl.ge a 2805742567851819008 && Fl.le a 6408622269748215808) || (Fl.le a 12029114604706594816 && Fl.ge a 15631994306602991616)) = true, Fl.Fits a := fun h => Fl.fits_of ha h
  have HF := Lib.hid hff
  clear hff ha
  cases h0 : (FloatKind.f64.format.order a 0 == some .eq)
  · cases h1 : (FloatKind.f64.format.order a 2805742567851819008 == some .gt || FloatKind.f64.format.order a 2805742567851819008 == some .eq)
    · cases h3 : (FloatKind.f64.format.order a 12029114604706594816 == some .lt || FloatKind.f64.format.order a 12029114604706594816 == some .eq)
      · go_enter Try.func30, Try.ntmps30
        go_wp2
        go_ret
        exact ⟨⟨_, rfl, fun h => by cases h⟩, rfl⟩
      · cases h4 : (FloatKind.f64.format.order a 15631994306602991616 == some .gt || FloatKind.f64.format.order a 15631994306602991616 == some .eq)
        · go_enter Try.func30, Try.ntmps30
          go_wp2
          go_ret
          exact ⟨⟨_, rfl, fun h => by cases h⟩, rfl⟩
        · have F := HF.out (by unfold Fl.eq Fl.ge Fl.le; rw [h0, h1, h3, h4]; rfl)
          have HF2 := Lib.hid F
          clear F
          go_enter Try.func30, Try.ntmps30
          go_wp2
          go_ret
          exact ⟨⟨_, rfl, fun _ => HF2.out⟩, rfl⟩
    · cases h2 : (FloatKind.f64.format.order a 6408622269748215808 == some .lt || FloatKind.f64.format.order a 6408622269748215808 == some .eq)
      · cases h3 : (FloatKind.f64.format.order a 12029114604706594816 == some .lt || FloatKind.f64.format.order a 12029114604706594816 == some .eq)
        · go_enter Try.func30, Try.ntmps30
          go_wp2
          go_ret
          exact ⟨⟨_, rfl, fun h => by cases h⟩, rfl⟩
        · cases h4 : (FloatKind.f64.format.order a 15631994306602991616 == some .gt || FloatKind.f64.format.order a 15631994306602991616 == some .eq)
          · go_enter Try.func30, Try.ntmps30
            go_wp2
            go_ret
            exact ⟨⟨_, rfl, fun h => by cases h⟩, rfl⟩
          · have F := HF.out (by unfold Fl.eq Fl.ge Fl.le; rw [h0, h1, h2, h3, h4]; rfl)
            have HF2 := Lib.hid F
            clear F
            go_enter Try.func30, Try.ntmps30
            go_wp2
            go_ret
            exact ⟨⟨_, rfl, fun _ => HF2.out⟩, rfl⟩
      · have F := HF.out (by unfold Fl.eq Fl.ge Fl.le; rw [h0, h1, h2]; rfl)
        have HF2 := Lib.hid F
        clear F
        go_enter Try.func30, Try.ntmps30
        go_wp2
        go_ret
        exact ⟨⟨_, rfl, fun _ => HF2.out⟩, rfl⟩
  · have F := HF.out (by unfold Fl.eq Fl.ge Fl.le; rw [h0]; rfl)
    have HF2 := Lib.hid F
    clear F
    go_enter Try.func30, Try.ntmps30
    go_wp2
    go_ret
    exact ⟨⟨_, rfl, fun _ => HF2.out⟩, rfl⟩
end Go.Proofs.Ytemneeknemijpaa
