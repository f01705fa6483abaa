/- The three functions of package ops that reckon with two floats: what each hands back, every not-a-number taken for one. No condition. -/
import Derived.Test.YtemneeknemijpaaProg
import Derived.Test.YtemneeknemijpaaFl
import Derived.WalkKit
import Derived.Deep.Draws
import Derived.Laws.FloatArith
import Derived.Lib.Hide
namespace Go.Proofs.Ytemneeknemijpaa
open Go.RowKit

theorem nan_cut (k : Nat) (x y : Nat) : Fl.isNaN ((Question.nanBits .f64 x y).cut k) = true ∧ (Question.nanBits .f64 x y).cut k < 2 ^ 64 := by
  have h : (Question.nanBits .f64 x y).cut k = (k % 2) * 2 ^ 63 + 0x7ff0000000000000 + 1 + (k / 2) % (2 ^ 52 - 1) := rfl
  rw [h]
  have h2 : (k / 2) % (2 ^ 52 - 1) < 2 ^ 52 - 1 := Nat.mod_lt _ (by decide)
  generalize (k / 2) % (2 ^ 52 - 1) = m at *
  have h3 : k % 2 < 2 := Nat.mod_lt _ (by decide)
  generalize k % 2 = s at *
  constructor
  · unfold Fl.isNaN Ieee.Format.read
    simp only [Fl.signWeight, Fl.binade, Fl.infRung]
    rw [if_neg (by omega), if_neg (by omega), if_neg (by omega)]
    rfl
  · omega

/-- What an operation on floats comes to. -/
theorem run_arith (op : BinOp) (v : Nat) (x y : Nat) (w : World) (t : TypeId) (P : Program)
    (h : floatBits op .f64 x y = some v ∨ (floatBits op .f64 x y = none ∧ v = Fl.qnan ∧ (op = .add ∨ op = .sub ∨ op = .mul))) (hv : Fl.canon v = v) (hl : v < 2 ^ 64) :
    ∃ r n, (binOp op t (.float .f64 x) (.float .f64 y)).run P w = .ok (.float .f64 r) (w.drewN n) ∧ Fl.canon r = v ∧ r < 2 ^ 64 := by
  rcases h with h | ⟨h, hq, hop⟩
  · exact ⟨v, 0, run_float_arith w op t .f64 x y v h, hv, hl⟩
  · refine ⟨_, 1, ?_, (Fl.canon_nan (nan_cut (w.tape w.drawn (.nanBits .f64 x y)) x y).1).trans hq.symm, (nan_cut (w.tape w.drawn (.nanBits .f64 x y)) x y).2⟩
    unfold floatBits at h
    rcases hop with rfl | rfl | rfl <;> simp only at h <;> simp [binOp, Op.floatArith, h, Question.forced] <;> rfl

theorem run_add (x y : Nat) (w : World) (t : TypeId) (P : Program) : ∃ r n, (binOp .add t (.float .f64 x) (.float .f64 y)).run P w = .ok (.float .f64 r) (w.drewN n) ∧ Fl.canon r = Fl.fadd x y ∧ r < 2 ^ 64 := by
  refine run_arith .add (Fl.fadd x y) x y w t P ?_ (Fl.canon_fadd ..) (Fl.fadd_lt ..)
  unfold Fl.fadd
  cases h : Fl.D.add x y with
  | some r => exact .inl h
  | none => exact .inr ⟨h, rfl, .inl rfl⟩
theorem run_sub (x y : Nat) (w : World) (t : TypeId) (P : Program) : ∃ r n, (binOp .sub t (.float .f64 x) (.float .f64 y)).run P w = .ok (.float .f64 r) (w.drewN n) ∧ Fl.canon r = Fl.fsub x y ∧ r < 2 ^ 64 := by
  refine run_arith .sub (Fl.fsub x y) x y w t P ?_ (Fl.canon_fsub ..) (Fl.fsub_lt ..)
  unfold Fl.fsub
  cases h : Fl.D.sub x y with
  | some r => exact .inl h
  | none => exact .inr ⟨h, rfl, .inr (.inl rfl)⟩
theorem run_mul (x y : Nat) (w : World) (t : TypeId) (P : Program) : ∃ r n, (binOp .mul t (.float .f64 x) (.float .f64 y)).run P w = .ok (.float .f64 r) (w.drewN n) ∧ Fl.canon r = Fl.fmul x y ∧ r < 2 ^ 64 := by
  refine run_arith .mul (Fl.fmul x y) x y w t P ?_ (Fl.canon_fmul ..) (Fl.fmul_lt ..)
  unfold Fl.fmul
  cases h : Fl.D.mul x y with
  | some r => exact .inl h
  | none => exact .inr ⟨h, rfl, .inr (.inr rfl)⟩

/-- A float is handed back, alike to v; the world has drawn, no more. -/
def Gives (v : Nat) (w : World) (e : Ending) (w' : World) : Prop := ∃ r n, e = .returned (.float .f64 r) ∧ Fl.canon r = v ∧ r < 2 ^ 64 ∧ w' = w.drewN n

theorem ops_add (x y : Nat) (w : World) : Calls Try.prog 39 #[.float .f64 x, .float .f64 y] w (Gives (Fl.fadd x y) w) := by
  obtain ⟨r, n, hrun, hr⟩ := run_add x y w 22 Try.prog
  have HR := Lib.hid hr
  clear hr
  go_enter Try.func39, Try.ntmps39
  go_wp2
  go_ret
  exact ⟨r, n, rfl, HR.out.1, HR.out.2, rfl⟩
theorem ops_sub (x y : Nat) (w : World) : Calls Try.prog 41 #[.float .f64 x, .float .f64 y] w (Gives (Fl.fsub x y) w) := by
  obtain ⟨r, n, hrun, hr⟩ := run_sub x y w 22 Try.prog
  have HR := Lib.hid hr
  clear hr
  go_enter Try.func41, Try.ntmps41
  go_wp2
  go_ret
  exact ⟨r, n, rfl, HR.out.1, HR.out.2, rfl⟩
theorem ops_mul (x y : Nat) (w : World) : Calls Try.prog 43 #[.float .f64 x, .float .f64 y] w (Gives (Fl.fmul x y) w) := by
  obtain ⟨r, n, hrun, hr⟩ := run_mul x y w 22 Try.prog
  have HR := Lib.hid hr
  clear hr
  go_enter Try.func43, Try.ntmps43
  go_wp2
  go_ret
  exact ⟨r, n, rfl, HR.out.1, HR.out.2, rfl⟩
end Go.Proofs.Ytemneeknemijpaa
