/- ops.Root: the square root, every not-a-number taken for one. No condition. -/
import Derived.Test.YtemneeknemijpaaCpxe
import Derived.Laws.Externs
namespace Go.Proofs.Ytemneeknemijpaa
open Go.RowKit

namespace Fl
open Ieee
def fsqrt (x : Nat) : Nat := (D.sqrt x).getD qnan

theorem root_notNaN {n : Nat} {d r : Datum} (h : d.root n = some r) : r.isNaN = false := by
  cases d with
  | nan => cases h
  | infinity s =>
    unfold Datum.root at h
    dsimp only at h
    split at h
    · cases h
    · cases h; rfl
  | number s m i =>
    unfold Datum.root at h
    dsimp only at h
    split at h
    · cases h; rfl
    · split at h
      · cases h
      · cases h; rfl
theorem sqrt_notNaN {x r : Nat} (h : D.sqrt x = some r) : isNaN r = false := by
  unfold Format.sqrt at h
  cases e : (D.read x).root (D.fractionBits + 2) with
  | none => rw [e] at h; simp at h
  | some d => rw [e] at h; simp at h; subst h; exact isNaN_write (root_notNaN e)
theorem canon_fsqrt (x : Nat) : canon (fsqrt x) = fsqrt x := by
  unfold fsqrt
  cases h : D.sqrt x with
  | none => exact canon_nan isNaN_qnan
  | some r => exact canon_of (sqrt_notNaN h)
theorem fsqrt_lt (x : Nat) : fsqrt x < 2 ^ 64 := by
  unfold fsqrt
  cases h : D.sqrt x with
  | none => exact qnan_lt
  | some r => exact width ▸ D.sqrt_lt h
end Fl

theorem run_sqrt0 (n : Nat) (w : World) : (callFunc 85 #[.float .f64 n]).run Try.prog w = ((Extern.MathSqrt.sqrt #[.float .f64 n]).run Try.prog w).andThen fun v w' => .ok (.value v) w' :=
  run_callFunc_extern Try.func85 (by kernel_rfl) (by kernel_rfl) (by kernel_rfl) (by kernel_rfl) _ _
theorem sqrt_is (x : Nat) : Extern.MathSqrt.sqrt #[.float .f64 x] = (match FloatKind.f64.format.sqrt x with
    | some r => pure (.float .f64 r)
    | none => do pure (.float .f64 (← choose (.nanBits .f64 x x)))) := rfl

theorem run_sqrt (x : Nat) (w : World) : ∃ r n, (callFunc 85 #[F x]).run Try.prog w = .ok (.value (F r)) (w.drewN n) ∧ Fl.canon r = Fl.fsqrt x ∧ r < 2 ^ 64 := by
  have hv := Fl.canon_fsqrt x
  have hl := Fl.fsqrt_lt x
  rw [run_sqrt0, sqrt_is]
  unfold Fl.fsqrt at *
  have hD : FloatKind.f64.format.sqrt x = Fl.D.sqrt x := rfl
  cases h : Fl.D.sqrt x with
  | some r =>
    rw [h] at hv hl
    exact ⟨r, 0, by simp [hD, h]; rfl, hv, hl⟩
  | none =>
    rw [h] at hv hl
    refine ⟨_, 1, ?_, Fl.canon_nan (nan_cut (w.tape w.drawn (.nanBits .f64 x x)) x x).1, (nan_cut (w.tape w.drawn (.nanBits .f64 x x)) x x).2⟩
    simp [hD, h, Question.forced]
    rfl

theorem ops_root (x : Nat) (w : World) : Calls Try.prog 45 #[F x] w (Gives (Fl.fsqrt x) w) := by
  obtain ⟨r, n, hrun, hr⟩ := run_sqrt x w
  have HR := Lib.hid hr
  clear hr
  go_enter Try.func45, Try.ntmps45
  go_wp2
  go_ret
  exact ⟨r, n, rfl, HR.out.1, HR.out.2, rfl⟩

theorem m_inf (w : World) : Calls Try.prog 68 #[.int .i64 1] w fun e w' => e = .returned (F 9218868437227405312) ∧ w = w' := by
  have hq : (callFunc 75 #[.int .u64 9218868437227405312]).run Try.prog w = .ok (.value (F 9218868437227405312)) w := by kernel_rfl
  go_enter Try.func68, Try.ntmps68
  go_wp2
  go_ret
  exact ⟨rfl, rfl⟩
theorem m_minf (w : World) : Calls Try.prog 68 #[.int .i64 (-1)] w fun e w' => e = .returned (F 18442240474082181120) ∧ w = w' := by
  have hq : (callFunc 75 #[.int .u64 18442240474082181120]).run Try.prog w = .ok (.value (F 18442240474082181120)) w := by kernel_rfl
  go_enter Try.func68, Try.ntmps68
  go_wp2
  go_ret
  exact ⟨rfl, rfl⟩
theorem run_bits' (n : Nat) (w : World) : (callFunc 58 #[.float .f64 n]).run Try.prog w = .ok (.value (.int .u64 n)) w := by kernel_rfl
theorem run_frombits' (n : Int) (w : World) : (callFunc 75 #[.int .u64 n]).run Try.prog w = .ok (.value (.float .f64 n.toNat)) w := by kernel_rfl

end Go.Proofs.Ytemneeknemijpaa
