/- F.Next of the document, of a finite float that is not 0. -/
import Derived.Test.YtemneeknemijpaaFn
namespace Go.Proofs.Ytemneeknemijpaa
open Go.RowKit

theorem max_fin : Fl.Fin 9218868437227405311 := ⟨by decide, by decide +kernel⟩

theorem f_next_pos (x : Nat) (hx : Fl.Fin x) (h0 : Fl.rg x ≠ 0) (hs : Fl.sg x = false) (w : World) : Calls Try.prog 49 #[F x] w fun e w' => e = .returned (F (x + 1)) ∧ w' = w := by
  have h1 : (FloatKind.f64.format.order x x != some .eq) = false := by
    have : FloatKind.f64.format.order x x = some .eq := Fl.ord_self hx.notNaN
    rw [this]; rfl
  have h2 : (FloatKind.f64.format.order x 9218868437227405311 == some .gt) = false := by
    rw [Fl.gt_fin hx max_fin]; simp; exact (Fl.V_le_max hx).1
  have hV0 : Fl.V 0 = 0 := by decide +kernel
  have hVp : 0 < Fl.V x := by
    have := Fl.mg_pos h0
    unfold Fl.V; rw [hs]; simp; omega
  have h3 : (FloatKind.f64.format.order x 0 == some .eq) = false := by
    rw [Fl.eq_fin' hx Fl.fin0, hV0]; simp; omega
  have h4 : (FloatKind.f64.format.order x 0 == some .gt) = true := by
    rw [Fl.gt_fin hx Fl.fin0, hV0]; simp; omega
  have hb := fun w => run_bits' x w
  have hx63 : x < 9223372036854775808 := by
    have := hx.1
    unfold Fl.sg at hs
    have h6 : ¬ x / 2 ^ 63 % 2 = 1 := by simpa using hs
    omega
  have hx8 : (x : Int) ≤ 9223372036854775807 := by omega
  have hq : ∀ w, (callFunc 75 #[.int .u64 ((x : Int) + 1)]).run Try.prog w = .ok (.value (F (x + 1))) w := fun w => word_frombits _ w _ (by push_cast; rfl)
  clear hx h0 hs hV0 hVp hx63
  go_enter Try.func49, Try.ntmps49
  go_wp2
  go_ret
  exact ⟨rfl, rfl⟩

theorem f_next_neg (x : Nat) (hx : Fl.Fin x) (h0 : Fl.rg x ≠ 0) (hs : Fl.sg x = true) (w : World) : Calls Try.prog 49 #[F x] w fun e w' => e = .returned (F (x - 1)) ∧ w' = w := by
  have h1 : (FloatKind.f64.format.order x x != some .eq) = false := by
    have : FloatKind.f64.format.order x x = some .eq := Fl.ord_self hx.notNaN
    rw [this]; rfl
  have h2 : (FloatKind.f64.format.order x 9218868437227405311 == some .gt) = false := by
    rw [Fl.gt_fin hx max_fin]; simp; exact (Fl.V_le_max hx).1
  have hV0 : Fl.V 0 = 0 := by decide +kernel
  have hVp : Fl.V x < 0 := by
    have := Fl.mg_pos h0
    unfold Fl.V; rw [hs]; simp; omega
  have h3 : (FloatKind.f64.format.order x 0 == some .eq) = false := by
    rw [Fl.eq_fin' hx Fl.fin0, hV0]; simp; omega
  have h4 : (FloatKind.f64.format.order x 0 == some .gt) = false := by
    rw [Fl.gt_fin hx Fl.fin0, hV0]; simp; omega
  have hb := fun w => run_bits' x w
  have hx1 := hx.1
  have hx63 : 1 ≤ x := by
    apply Nat.pos_of_ne_zero
    rintro rfl
    exact h0 rfl
  have hx8 : (x : Int) ≤ 18446744073709551615 := by omega
  have hx9 : (1 : Int) ≤ x := by omega
  have hq : ∀ w, (callFunc 75 #[.int .u64 ((x : Int) - 1)]).run Try.prog w = .ok (.value (F (x - 1))) w := fun w => word_frombits _ w _ (by omega)
  clear hx h0 hs hV0 hVp hx63 hx1
  go_enter Try.func49, Try.ntmps49
  go_wp2
  go_ret
  exact ⟨rfl, rfl⟩
end Go.Proofs.Ytemneeknemijpaa
