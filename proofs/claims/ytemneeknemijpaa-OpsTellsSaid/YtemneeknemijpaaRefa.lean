/- The document's answer to layer 9, how two floats are held against each other, and the live question of layer 9. No condition. -/
import Derived.Test.YtemneeknemijpaaCpxe
import Derived.BigQuiet
namespace Go.Proofs.Ytemneeknemijpaa
open Go.RowKit

theorem f_same_yes (a b : Nat) (w : World) (h : Fl.canon a = Fl.canon b) : Calls Try.prog 27 #[F a, F b] w fun e w' => e = .returned (.bool true) ∧ w = w' := by
  have hs := Fl.same_of h
  unfold Fl.same at hs
  clear h
  by_cases h1 : (FloatKind.f64.format.order a b == some .eq) = true
  · clear hs
    go_enter Try.func27, Try.ntmps27
    go_wp2
    go_ret
    exact ⟨rfl, rfl⟩
  · have h1' : (FloatKind.f64.format.order a b == some .eq) = false := by simpa using h1
    clear h1
    have hs' : (false || (FloatKind.f64.format.order a a != some .eq && FloatKind.f64.format.order b b != some .eq)) = true := by
      rw [← h1']; exact hs
    simp only [Bool.false_or, Bool.and_eq_true] at hs'
    obtain ⟨h2, h3⟩ := hs'
    clear hs
    go_enter Try.func27, Try.ntmps27
    go_wp2
    go_ret
    exact ⟨rfl, rfl⟩

theorem l9_same (a b c d : Nat) (w : World) (h : Fl.canon a = Fl.canon c) (h2 : Fl.canon b = Fl.canon d) : Calls Try.prog 26 #[F a, F b, F c, F d] w fun e w' => e = .returned (.bool true) ∧ w = w' := by
  have H := Lib.hid h
  have H2 := Lib.hid h2
  clear h h2
  go_enter Try.func26, Try.ntmps26
  go_wp2_with fail
  refine (f_same_yes _ _ _ H.out).mono ?_
  rintro e w' ⟨rfl, rfl⟩
  go_wp2_with fail
  refine (f_same_yes _ _ _ H2.out).mono ?_
  rintro e w' ⟨rfl, rfl⟩
  go_wp2
  go_ret
  exact ⟨rfl, rfl⟩

theorem run_frombits (n : Int) (w : World) : (callFunc 75 #[.int .u64 n]).run Try.prog w = .ok (.value (.float .f64 n.toNat)) w := by kernel_rfl
theorem run_bits (n : Nat) (w : World) : (callFunc 58 #[.float .f64 n]).run Try.prog w = .ok (.value (.int .u64 n)) w := by kernel_rfl

theorem m_nan (w : World) : Calls Try.prog 52 #[] w fun e w' => e = .returned (F Fl.qnan) ∧ w = w' := by
  have hq : (callFunc 75 #[.int .u64 9221120237041090561]).run Try.prog w = .ok (.value (F Fl.qnan)) w := run_frombits _ w
  go_enter Try.func52, Try.ntmps52
  go_wp2
  go_ret
  exact ⟨rfl, rfl⟩

set_option maxHeartbeats 400000 in
theorem r9_add (a b c d : Nat) (w : World) : Calls Try.prog 17 #[F a, F b, F c, F d] w (GivesT (Fl.fadd a c) (Fl.fadd b d) w) := by
  obtain ⟨r, n1, e1, h1⟩ := run_add a c w 22 Try.prog
  obtain ⟨s, n2, e2, h2⟩ := run_add b d (w.drewN (n1)) 22 Try.prog
  rw [World.drewN_drewN] at e2
  have H1 := Lib.hid h1
  have H2 := Lib.hid h2
  clear h1 h2
  go_enter Try.func17, Try.ntmps17
  go_wp2
  go_ret2
  refine ⟨r, s, rfl, ⟨?_, (H1.out).2⟩, ⟨?_, (H2.out).2⟩, ⟨rfl, rfl, rfl, Nat.le_refl _, fun _ _ => rfl⟩⟩
  · exact (H1.out).1
  · exact (H2.out).1

set_option maxHeartbeats 400000 in
theorem r9_sub (a b c d : Nat) (w : World) : Calls Try.prog 19 #[F a, F b, F c, F d] w (GivesT (Fl.fsub a c) (Fl.fsub b d) w) := by
  obtain ⟨r, n1, e1, h1⟩ := run_sub a c w 22 Try.prog
  obtain ⟨s, n2, e2, h2⟩ := run_sub b d (w.drewN (n1)) 22 Try.prog
  rw [World.drewN_drewN] at e2
  have H1 := Lib.hid h1
  have H2 := Lib.hid h2
  clear h1 h2
  go_enter Try.func19, Try.ntmps19
  go_wp2
  go_ret2
  refine ⟨r, s, rfl, ⟨?_, (H1.out).2⟩, ⟨?_, (H2.out).2⟩, ⟨rfl, rfl, rfl, Nat.le_refl _, fun _ _ => rfl⟩⟩
  · exact (H1.out).1
  · exact (H2.out).1

set_option maxHeartbeats 400000 in
theorem r9_mul (a b c d : Nat) (w : World) : Calls Try.prog 21 #[F a, F b, F c, F d] w (GivesT (Fl.fsub (Fl.fmul a c) (Fl.fmul b d)) (Fl.fadd (Fl.fmul a d) (Fl.fmul b c)) w) := by
  obtain ⟨ac, n1, e1, h1⟩ := run_mul a c w 22 Try.prog
  obtain ⟨bd, n2, e2, h2⟩ := run_mul b d (w.drewN (n1)) 22 Try.prog
  rw [World.drewN_drewN] at e2
  obtain ⟨ad, n3, e3, h3⟩ := run_mul a d (w.drewN (n1 + n2)) 22 Try.prog
  rw [World.drewN_drewN] at e3
  obtain ⟨bc, n4, e4, h4⟩ := run_mul b c (w.drewN (n1 + n2 + n3)) 22 Try.prog
  rw [World.drewN_drewN] at e4
  obtain ⟨r, n5, e5, h5⟩ := run_sub ac bd (w.drewN (n1 + n2 + n3 + n4)) 22 Try.prog
  rw [World.drewN_drewN] at e5
  obtain ⟨s, n6, e6, h6⟩ := run_add ad bc (w.drewN (n1 + n2 + n3 + n4 + n5)) 22 Try.prog
  rw [World.drewN_drewN] at e6
  have H1 := Lib.hid h1
  have H2 := Lib.hid h2
  have H3 := Lib.hid h3
  have H4 := Lib.hid h4
  have H5 := Lib.hid h5
  have H6 := Lib.hid h6
  clear h1 h2 h3 h4 h5 h6
  go_enter Try.func21, Try.ntmps21
  go_wp2
  go_ret2
  refine ⟨r, s, rfl, ⟨?_, (H5.out).2⟩, ⟨?_, (H6.out).2⟩, ⟨rfl, rfl, rfl, Nat.le_refl _, fun _ _ => rfl⟩⟩
  · rw [(H5.out).1, ← Fl.fsub_canon_left, ← Fl.fsub_canon_right, (H1.out).1, (H2.out).1]
  · rw [(H6.out).1, ← Fl.fadd_canon_left, ← Fl.fadd_canon_right, (H3.out).1, (H4.out).1]

set_option maxHeartbeats 400000 in
theorem r9_turn (a b c d : Nat) (w : World) : Calls Try.prog 23 #[F a, F b, F c, F d] w (GivesT (Fl.fadd (Fl.fmul a c) (Fl.fmul b d)) (Fl.fsub (Fl.fmul b c) (Fl.fmul a d)) w) := by
  obtain ⟨ac, n1, e1, h1⟩ := run_mul a c w 22 Try.prog
  obtain ⟨bd, n2, e2, h2⟩ := run_mul b d (w.drewN (n1)) 22 Try.prog
  rw [World.drewN_drewN] at e2
  obtain ⟨bc, n3, e3, h3⟩ := run_mul b c (w.drewN (n1 + n2)) 22 Try.prog
  rw [World.drewN_drewN] at e3
  obtain ⟨ad, n4, e4, h4⟩ := run_mul a d (w.drewN (n1 + n2 + n3)) 22 Try.prog
  rw [World.drewN_drewN] at e4
  obtain ⟨r, n5, e5, h5⟩ := run_add ac bd (w.drewN (n1 + n2 + n3 + n4)) 22 Try.prog
  rw [World.drewN_drewN] at e5
  obtain ⟨s, n6, e6, h6⟩ := run_sub bc ad (w.drewN (n1 + n2 + n3 + n4 + n5)) 22 Try.prog
  rw [World.drewN_drewN] at e6
  have H1 := Lib.hid h1
  have H2 := Lib.hid h2
  have H3 := Lib.hid h3
  have H4 := Lib.hid h4
  have H5 := Lib.hid h5
  have H6 := Lib.hid h6
  clear h1 h2 h3 h4 h5 h6
  go_enter Try.func23, Try.ntmps23
  go_wp2
  go_ret2
  refine ⟨r, s, rfl, ⟨?_, (H5.out).2⟩, ⟨?_, (H6.out).2⟩, ⟨rfl, rfl, rfl, Nat.le_refl _, fun _ _ => rfl⟩⟩
  · rw [(H5.out).1, ← Fl.fadd_canon_left, ← Fl.fadd_canon_right, (H1.out).1, (H2.out).1]
  · rw [(H6.out).1, ← Fl.fsub_canon_left, ← Fl.fsub_canon_right, (H3.out).1, (H4.out).1]

set_option maxHeartbeats 400000 in
theorem r9_half (a b : Nat) (w : World) : Calls Try.prog 25 #[F a, F b] w (GivesT (Fl.fmul a 4602678819172646912) (Fl.fmul b 4602678819172646912) w) := by
  obtain ⟨r, n1, e1, h1⟩ := run_mul a 4602678819172646912 w 22 Try.prog
  obtain ⟨s, n2, e2, h2⟩ := run_mul b 4602678819172646912 (w.drewN (n1)) 22 Try.prog
  rw [World.drewN_drewN] at e2
  have H1 := Lib.hid h1
  have H2 := Lib.hid h2
  clear h1 h2
  go_enter Try.func25, Try.ntmps25
  go_wp2
  go_ret2
  exact ⟨r, s, rfl, H1.out, H2.out, ⟨rfl, rfl, rfl, Nat.le_refl _, fun _ _ => rfl⟩⟩

set_option maxHeartbeats 400000 in
theorem r9_square (a b : Nat) (w : World) : Calls Try.prog 29 #[F a, F b] w (GivesB (Fl.fadd (Fl.fmul a a) (Fl.fmul b b)) w) := by
  obtain ⟨aa, n1, e1, h1⟩ := run_mul a a w 22 Try.prog
  obtain ⟨bb, n2, e2, h2⟩ := run_mul b b (w.drewN (n1)) 22 Try.prog
  rw [World.drewN_drewN] at e2
  obtain ⟨r, n3, e3, h3⟩ := run_add aa bb (w.drewN (n1 + n2)) 22 Try.prog
  rw [World.drewN_drewN] at e3
  have H1 := Lib.hid h1
  have H2 := Lib.hid h2
  have H3 := Lib.hid h3
  clear h1 h2 h3
  go_enter Try.func29, Try.ntmps29
  go_wp2
  go_ret
  refine ⟨r, rfl, ⟨?_, (H3.out).2⟩, ⟨rfl, rfl, rfl, Nat.le_refl _, fun _ _ => rfl⟩⟩
  · rw [(H3.out).1, ← Fl.fadd_canon_left, ← Fl.fadd_canon_right, (H1.out).1, (H2.out).1]
end Go.Proofs.Ytemneeknemijpaa
