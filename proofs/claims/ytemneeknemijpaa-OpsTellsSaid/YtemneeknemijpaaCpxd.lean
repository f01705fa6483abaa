/- Package cpx: what each of its functions hands back, every not-a-number taken for one. No condition. -/
import Derived.Test.YtemneeknemijpaaCpxc
import Derived.WalkKit
import Derived.WalkLawsBesides
import Derived.Outline
import Derived.Below
import Derived.Deep.RegionHeld3
import Derived.Lib.Hide
namespace Go.Proofs.Ytemneeknemijpaa
open Go.RowKit


set_option maxHeartbeats 1000000 in
theorem pair_mul (a b c d : Nat) (w : World) :
    Calls Try.prog 56 #[Pair a b, Pair c d] w (Gives2 (Fl.fsub (Fl.fmul a c) (Fl.fmul b d)) (Fl.fadd (Fl.fmul a d) (Fl.fmul b c)) w) := by
  go_enter Try.func56, Try.ntmps56
  go_wp2_with fail
  refine (pair_by _ _ _ _ _).mono ?_
  rintro e w' ⟨x1, x2, y1, y2, rfl, h1, h2, hb⟩
  have H1 := Lib.hid h1
  have H2 := Lib.hid h2
  clear h1 h2
  have HB := Lib.hid hb
  obtain ⟨hc, hf⟩ := bcell hb
  have hz : w.heap.size + 1 + 1 < w'.heap.size := by have := hb.size; simp at this; omega
  clear hb
  have c0 : w'.cell? ⟨w.heap.size + 1 + 1, 0, none⟩ = some (F 0) := by rw [hc _ _ (by simp)]; simp [go_sem]
  have c1 : w'.cell? ⟨w.heap.size + 1 + 1, 1, none⟩ = some (F 0) := by rw [hc _ _ (by simp)]; simp [go_sem]
  have f0 : w'.frozen? ⟨w.heap.size + 1 + 1, 0, none⟩ = false := by rw [hf _ _ (by simp)]; simp [go_sem]
  have f1 : w'.frozen? ⟨w.heap.size + 1 + 1, 1, none⟩ = false := by rw [hf _ _ (by simp)]; simp [go_sem]
  clear hc hf
  go_wp2
  have hz2 : w.heap.size + 1 + 1 < w'.heap.size + 1 := by omega
  have hne1 : ¬ (w.heap.size + 1 + 1 = w'.heap.size) := by omega
  have hne2 : ¬ (w'.heap.size = w.heap.size + 1 + 1) := by omega
  have hne3 : ¬ (w.heap.size + 1 = w'.heap.size) := by omega
  have hne4 : ¬ (w'.heap.size = w.heap.size + 1) := by omega
  have tok1 : True := trivial
  go_region_held3 (fun v => v.cell? ⟨w'.heap.size, 0, none⟩ = some (F x1) ∧ v.cell? ⟨w'.heap.size, 1, none⟩ = some (F x2) ∧ v.cell? ⟨w'.heap.size + 1, 0, none⟩ = some (F y1) ∧ v.cell? ⟨w'.heap.size + 1, 1, none⟩ = some (F y2)) (go_keep)
    (first | (go_at_call 41; have _t := tok1; refine (ops_sub _ _ _).mono ?_; rintro e w' ⟨r1, n1, rfl, hr, hl1, rfl⟩; have HR1 := Lib.hid hr; clear hr; clear tok1) | (go_at_call 39; refine (ops_add _ _ _).mono ?_; rintro e w' ⟨r2, n2, rfl, hr, hl2, rfl⟩; have HR2 := Lib.hid hr; clear hr))
  go_wp2
  refine bodyPost_ret (v := Pair r1 r2) (by simp [results, Try.results56, go_sem, c0, c1, hz, hz2]) rfl ⟨r1, r2, rfl, ⟨?_, hl1⟩, ⟨?_, hl2⟩, ?_⟩
  · rw [HR1.out, ← Fl.fsub_canon_left, ← Fl.fsub_canon_right, H1.out.1.1, H2.out.1.1]
  · rw [HR2.out, ← Fl.fadd_canon_left, ← Fl.fadd_canon_right, H1.out.2.1, H2.out.2.1]
  · exact ((below_drewN (((((((Below.refl _ w).alloc (Nat.le_refl _) _).alloc (by simp) _).alloc (by simp; omega) _).trans (HB.out.mono (by simp; omega))).alloc (by omega) _).alloc (by simp; omega) _) _).setCell (by show _ ≤ _; simp; omega) _).setCell (by show _ ≤ _; simp; omega) _

set_option maxHeartbeats 1000000 in
theorem pair_turn (a b c d : Nat) (w : World) :
    Calls Try.prog 57 #[Pair a b, Pair c d] w (Gives2 (Fl.fadd (Fl.fmul a c) (Fl.fmul b d)) (Fl.fsub (Fl.fmul b c) (Fl.fmul a d)) w) := by
  go_enter Try.func57, Try.ntmps57
  go_wp2_with fail
  refine (pair_by _ _ _ _ _).mono ?_
  rintro e w' ⟨x1, x2, y1, y2, rfl, h1, h2, hb⟩
  have H1 := Lib.hid h1
  have H2 := Lib.hid h2
  clear h1 h2
  have HB := Lib.hid hb
  obtain ⟨hc, hf⟩ := bcell hb
  have hz : w.heap.size + 1 + 1 < w'.heap.size := by have := hb.size; simp at this; omega
  clear hb
  have c0 : w'.cell? ⟨w.heap.size + 1 + 1, 0, none⟩ = some (F 0) := by rw [hc _ _ (by simp)]; simp [go_sem]
  have c1 : w'.cell? ⟨w.heap.size + 1 + 1, 1, none⟩ = some (F 0) := by rw [hc _ _ (by simp)]; simp [go_sem]
  have f0 : w'.frozen? ⟨w.heap.size + 1 + 1, 0, none⟩ = false := by rw [hf _ _ (by simp)]; simp [go_sem]
  have f1 : w'.frozen? ⟨w.heap.size + 1 + 1, 1, none⟩ = false := by rw [hf _ _ (by simp)]; simp [go_sem]
  clear hc hf
  go_wp2
  have hz2 : w.heap.size + 1 + 1 < w'.heap.size + 1 := by omega
  have hne1 : ¬ (w.heap.size + 1 + 1 = w'.heap.size) := by omega
  have hne2 : ¬ (w'.heap.size = w.heap.size + 1 + 1) := by omega
  have hne3 : ¬ (w.heap.size + 1 = w'.heap.size) := by omega
  have hne4 : ¬ (w'.heap.size = w.heap.size + 1) := by omega
  have tok1 : True := trivial
  go_region_held3 (fun v => v.cell? ⟨w'.heap.size, 0, none⟩ = some (F x1) ∧ v.cell? ⟨w'.heap.size, 1, none⟩ = some (F x2) ∧ v.cell? ⟨w'.heap.size + 1, 0, none⟩ = some (F y1) ∧ v.cell? ⟨w'.heap.size + 1, 1, none⟩ = some (F y2)) (go_keep)
    (first | (go_at_call 39; have _t := tok1; refine (ops_add _ _ _).mono ?_; rintro e w' ⟨r1, n1, rfl, hr, hl1, rfl⟩; have HR1 := Lib.hid hr; clear hr; clear tok1) | (go_at_call 41; refine (ops_sub _ _ _).mono ?_; rintro e w' ⟨r2, n2, rfl, hr, hl2, rfl⟩; have HR2 := Lib.hid hr; clear hr))
  go_wp2
  refine bodyPost_ret (v := Pair r1 r2) (by simp [results, Try.results57, go_sem, c0, c1, hz, hz2]) rfl ⟨r1, r2, rfl, ⟨?_, hl1⟩, ⟨?_, hl2⟩, ?_⟩
  · rw [HR1.out, ← Fl.fadd_canon_left, ← Fl.fadd_canon_right, H1.out.1.1, H2.out.1.1]
  · rw [HR2.out, ← Fl.fsub_canon_left, ← Fl.fsub_canon_right, H1.out.2.1, H2.out.2.1]
  · exact ((below_drewN (((((((Below.refl _ w).alloc (Nat.le_refl _) _).alloc (by simp) _).alloc (by simp; omega) _).trans (HB.out.mono (by simp; omega))).alloc (by omega) _).alloc (by simp; omega) _) _).setCell (by show _ ≤ _; simp; omega) _).setCell (by show _ ≤ _; simp; omega) _
end Go.Proofs.Ytemneeknemijpaa
