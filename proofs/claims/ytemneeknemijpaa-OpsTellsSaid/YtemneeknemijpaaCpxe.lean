/- Package cpx: what each of its functions hands back, every not-a-number taken for one. No condition. -/
import Derived.Test.YtemneeknemijpaaCpxd
import Derived.WalkKit
import Derived.WalkLawsBesides
import Derived.Outline
import Derived.Below
import Derived.Deep.RegionHeld3
import Derived.Lib.Hide
import Derived.BigQuiet
import Derived.Deep.QuietTactic
namespace Go.Proofs.Ytemneeknemijpaa
open Go.RowKit


/-- Two floats are handed back, alike to u, v. -/
def GivesT (u v : Nat) (w : World) (e : Ending) (w' : World) : Prop := ∃ r s, e = .returned (.tuple #[F r, F s]) ∧ (Fl.canon r = u ∧ r < 2 ^ 64) ∧ (Fl.canon s = v ∧ s < 2 ^ 64) ∧ Below w.heap.size w w'

set_option maxHeartbeats 400000 in
theorem told_add (a b c d : Nat) (w : World) :
    Calls Try.prog 53 #[.func (.func 54) #[] #[], F a, F b, F c, F d] w (GivesT (Fl.fadd a c) (Fl.fadd b d) w) := by
  go_enter Try.func53, Try.ntmps53
  go_wp2_with fail
  refine (pair_add _ _ _ _ _).mono ?_
  rintro e w' ⟨x1, x2, rfl, h1, h2, hb⟩
  have H1 := Lib.hid h1
  have H2 := Lib.hid h2
  clear h1 h2
  have HB := Lib.hid hb
  clear hb
  go_wp2
  go_quiet (fail)
  go_wp2
  go_ret2
  exact ⟨x1, x2, rfl, H1.out, H2.out, below_drewN (HB.out.alloc (HB.out.size) _) _⟩

set_option maxHeartbeats 400000 in
theorem cpx_add (a b c d : Nat) (w : World) :
    Calls Try.prog 16 #[F a, F b, F c, F d] w (GivesT (Fl.fadd a c) (Fl.fadd b d) w) := by
  go_enter Try.func16, Try.ntmps16
  go_wp2_with fail
  refine (told_add _ _ _ _ _).mono ?_
  rintro e w' ⟨x1, x2, rfl, h1, h2, hb⟩
  have H1 := Lib.hid h1
  have H2 := Lib.hid h2
  clear h1 h2
  have HB := Lib.hid hb
  clear hb
  go_wp2
  go_ret2
  exact ⟨x1, x2, rfl, H1.out, H2.out, HB.out⟩

set_option maxHeartbeats 400000 in
theorem told_sub (a b c d : Nat) (w : World) :
    Calls Try.prog 53 #[.func (.func 55) #[] #[], F a, F b, F c, F d] w (GivesT (Fl.fsub a c) (Fl.fsub b d) w) := by
  go_enter Try.func53, Try.ntmps53
  go_wp2_with fail
  refine (pair_sub _ _ _ _ _).mono ?_
  rintro e w' ⟨x1, x2, rfl, h1, h2, hb⟩
  have H1 := Lib.hid h1
  have H2 := Lib.hid h2
  clear h1 h2
  have HB := Lib.hid hb
  clear hb
  go_wp2
  go_quiet (fail)
  go_wp2
  go_ret2
  exact ⟨x1, x2, rfl, H1.out, H2.out, below_drewN (HB.out.alloc (HB.out.size) _) _⟩

set_option maxHeartbeats 400000 in
theorem cpx_sub (a b c d : Nat) (w : World) :
    Calls Try.prog 18 #[F a, F b, F c, F d] w (GivesT (Fl.fsub a c) (Fl.fsub b d) w) := by
  go_enter Try.func18, Try.ntmps18
  go_wp2_with fail
  refine (told_sub _ _ _ _ _).mono ?_
  rintro e w' ⟨x1, x2, rfl, h1, h2, hb⟩
  have H1 := Lib.hid h1
  have H2 := Lib.hid h2
  clear h1 h2
  have HB := Lib.hid hb
  clear hb
  go_wp2
  go_ret2
  exact ⟨x1, x2, rfl, H1.out, H2.out, HB.out⟩

set_option maxHeartbeats 400000 in
theorem told_mul (a b c d : Nat) (w : World) :
    Calls Try.prog 53 #[.func (.func 56) #[] #[], F a, F b, F c, F d] w (GivesT (Fl.fsub (Fl.fmul a c) (Fl.fmul b d)) (Fl.fadd (Fl.fmul a d) (Fl.fmul b c)) w) := by
  go_enter Try.func53, Try.ntmps53
  go_wp2_with fail
  refine (pair_mul _ _ _ _ _).mono ?_
  rintro e w' ⟨x1, x2, rfl, h1, h2, hb⟩
  have H1 := Lib.hid h1
  have H2 := Lib.hid h2
  clear h1 h2
  have HB := Lib.hid hb
  clear hb
  go_wp2
  go_quiet (fail)
  go_wp2
  go_ret2
  exact ⟨x1, x2, rfl, H1.out, H2.out, below_drewN (HB.out.alloc (HB.out.size) _) _⟩

set_option maxHeartbeats 400000 in
theorem cpx_mul (a b c d : Nat) (w : World) :
    Calls Try.prog 20 #[F a, F b, F c, F d] w (GivesT (Fl.fsub (Fl.fmul a c) (Fl.fmul b d)) (Fl.fadd (Fl.fmul a d) (Fl.fmul b c)) w) := by
  go_enter Try.func20, Try.ntmps20
  go_wp2_with fail
  refine (told_mul _ _ _ _ _).mono ?_
  rintro e w' ⟨x1, x2, rfl, h1, h2, hb⟩
  have H1 := Lib.hid h1
  have H2 := Lib.hid h2
  clear h1 h2
  have HB := Lib.hid hb
  clear hb
  go_wp2
  go_ret2
  exact ⟨x1, x2, rfl, H1.out, H2.out, HB.out⟩

set_option maxHeartbeats 400000 in
theorem told_turn (a b c d : Nat) (w : World) :
    Calls Try.prog 53 #[.func (.func 57) #[] #[], F a, F b, F c, F d] w (GivesT (Fl.fadd (Fl.fmul a c) (Fl.fmul b d)) (Fl.fsub (Fl.fmul b c) (Fl.fmul a d)) w) := by
  go_enter Try.func53, Try.ntmps53
  go_wp2_with fail
  refine (pair_turn _ _ _ _ _).mono ?_
  rintro e w' ⟨x1, x2, rfl, h1, h2, hb⟩
  have H1 := Lib.hid h1
  have H2 := Lib.hid h2
  clear h1 h2
  have HB := Lib.hid hb
  clear hb
  go_wp2
  go_quiet (fail)
  go_wp2
  go_ret2
  exact ⟨x1, x2, rfl, H1.out, H2.out, below_drewN (HB.out.alloc (HB.out.size) _) _⟩

set_option maxHeartbeats 400000 in
theorem cpx_turn (a b c d : Nat) (w : World) :
    Calls Try.prog 22 #[F a, F b, F c, F d] w (GivesT (Fl.fadd (Fl.fmul a c) (Fl.fmul b d)) (Fl.fsub (Fl.fmul b c) (Fl.fmul a d)) w) := by
  go_enter Try.func22, Try.ntmps22
  go_wp2_with fail
  refine (told_turn _ _ _ _ _).mono ?_
  rintro e w' ⟨x1, x2, rfl, h1, h2, hb⟩
  have H1 := Lib.hid h1
  have H2 := Lib.hid h2
  clear h1 h2
  have HB := Lib.hid hb
  clear hb
  go_wp2
  go_ret2
  exact ⟨x1, x2, rfl, H1.out, H2.out, HB.out⟩

set_option maxHeartbeats 400000 in
theorem cpx_half (a b : Nat) (w : World) :
    Calls Try.prog 24 #[F a, F b] w (GivesT (Fl.fmul a 4602678819172646912) (Fl.fmul b 4602678819172646912) w) := by
  go_enter Try.func24, Try.ntmps24
  go_wp2_with fail
  refine (ops_mul _ _ _).mono ?_
  rintro e w' ⟨r1, n1, rfl, hr, hl1, rfl⟩
  have HR1 := Lib.hid hr
  clear hr
  go_wp2_with fail
  refine (ops_mul _ _ _).mono ?_
  rintro e w' ⟨r2, n2, rfl, hr, hl2, rfl⟩
  have HR2 := Lib.hid hr
  clear hr
  go_wp2
  go_ret2
  exact ⟨r1, r2, rfl, ⟨HR1.out, hl1⟩, ⟨HR2.out, hl2⟩, by first | exact below_drewN (Below.refl _ _) _ | exact below_drewN (below_drewN (Below.refl _ _) _) _⟩

/-- One float is handed back, alike to u; nothing that was there has turned. -/
def GivesB (u : Nat) (w : World) (e : Ending) (w' : World) : Prop := ∃ r, e = .returned (F r) ∧ (Fl.canon r = u ∧ r < 2 ^ 64) ∧ Below w.heap.size w w'

set_option maxHeartbeats 400000 in
theorem cpx_square (a b : Nat) (w : World) :
    Calls Try.prog 28 #[F a, F b] w (GivesB (Fl.fadd (Fl.fmul a a) (Fl.fmul b b)) w) := by
  go_enter Try.func28, Try.ntmps28
  go_wp2_with fail
  refine (ops_mul _ _ _).mono ?_
  rintro e w' ⟨r1, n1, rfl, hr, hl1, rfl⟩
  have HR1 := Lib.hid hr
  clear hr
  go_wp2_with fail
  refine (ops_mul _ _ _).mono ?_
  rintro e w' ⟨r2, n2, rfl, hr, hl2, rfl⟩
  have HR2 := Lib.hid hr
  clear hr
  go_wp2_with fail
  refine (ops_add _ _ _).mono ?_
  rintro e w' ⟨r3, n3, rfl, hr, hl3, rfl⟩
  have HR3 := Lib.hid hr
  clear hr
  go_wp2
  go_ret
  refine ⟨r3, rfl, ⟨?_, hl3⟩, ?_⟩
  · rw [HR3.out, ← Fl.fadd_canon_left, ← Fl.fadd_canon_right, HR1.out, HR2.out]
  · exact ⟨rfl, rfl, rfl, Nat.le_refl _, fun _ _ => rfl⟩
end Go.Proofs.Ytemneeknemijpaa
