/- Package cpx: what each of its functions hands back, every not-a-number taken for one. No condition. -/
import Derived.Test.YtemneeknemijpaaCpx
import Derived.WalkKit
import Derived.WalkLawsBesides
import Derived.Outline
import Derived.Below
import Derived.Deep.RegionHeld3
import Derived.Lib.Hide
namespace Go.Proofs.Ytemneeknemijpaa
open Go.RowKit


set_option maxHeartbeats 400000 in
theorem pair_add (a b c d : Nat) (w : World) :
    Calls Try.prog 54 #[Pair a b, Pair c d] w (Gives2 (Fl.fadd a c) (Fl.fadd b d) w) := by
  go_enter Try.func54, Try.ntmps54
  go_wp2_with (go_at_call 77; refine (each_add _ _ _ _ _).mono ?_; rintro e w' ⟨r1, r2, rfl, h1, h2, hb⟩; have H1 := Lib.hid h1; have H2 := Lib.hid h2; clear h1 h2; have HB := Lib.hid hb; obtain ⟨hc, hf⟩ := bcell hb; clear hb)
  refine bodyPost_ret (v := Pair r1 r2) (by simp [results, Try.results54, go_sem, hc]) rfl ⟨r1, r2, rfl, H1.out, H2.out, ?_⟩
  exact (((((Below.refl _ w).alloc (Nat.le_refl _) _).alloc (by simp) _).alloc (by simp; omega) _).trans (HB.out.mono (by simp; omega)) |>.setCell (by show _ ≤ _; simp; omega) _).setCell (by show _ ≤ _; simp; omega) _

set_option maxHeartbeats 400000 in
theorem pair_sub (a b c d : Nat) (w : World) :
    Calls Try.prog 55 #[Pair a b, Pair c d] w (Gives2 (Fl.fsub a c) (Fl.fsub b d) w) := by
  go_enter Try.func55, Try.ntmps55
  go_wp2_with (go_at_call 77; refine (each_sub _ _ _ _ _).mono ?_; rintro e w' ⟨r1, r2, rfl, h1, h2, hb⟩; have H1 := Lib.hid h1; have H2 := Lib.hid h2; clear h1 h2; have HB := Lib.hid hb; obtain ⟨hc, hf⟩ := bcell hb; clear hb)
  refine bodyPost_ret (v := Pair r1 r2) (by simp [results, Try.results55, go_sem, hc]) rfl ⟨r1, r2, rfl, H1.out, H2.out, ?_⟩
  exact (((((Below.refl _ w).alloc (Nat.le_refl _) _).alloc (by simp) _).alloc (by simp; omega) _).trans (HB.out.mono (by simp; omega)) |>.setCell (by show _ ≤ _; simp; omega) _).setCell (by show _ ≤ _; simp; omega) _
end Go.Proofs.Ytemneeknemijpaa
