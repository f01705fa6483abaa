/- Package cpx: what each of its functions hands back, every not-a-number taken for one. No condition. -/
import Derived.Test.YtemneeknemijpaaCpxb
import Derived.WalkKit
import Derived.WalkLawsBesides
import Derived.Outline
import Derived.Below
import Derived.Deep.RegionHeld3
import Derived.Lib.Hide
namespace Go.Proofs.Ytemneeknemijpaa
open Go.RowKit


/-- Two pairs are handed back. -/
def Gives4 (u v x y : Nat) (w : World) (e : Ending) (w' : World) : Prop := ∃ r s p q, e = .returned (.tuple #[Pair r s, Pair p q]) ∧ ((Fl.canon r = u ∧ r < 2 ^ 64) ∧ (Fl.canon s = v ∧ s < 2 ^ 64)) ∧ ((Fl.canon p = x ∧ p < 2 ^ 64) ∧ (Fl.canon q = y ∧ q < 2 ^ 64)) ∧ Below w.heap.size w w'

set_option maxHeartbeats 2000000 in
theorem pair_by (a b c d : Nat) (w : World) :
    Calls Try.prog 78 #[Pair a b, Pair c d] w (Gives4 (Fl.fmul a c) (Fl.fmul a d) (Fl.fmul b d) (Fl.fmul b c) w) := by
  have hne1 : ¬ (w.heap.size + 1 + 1 = w.heap.size) := by omega
  have hne2 : ¬ (w.heap.size = w.heap.size + 1 + 1) := by omega
  have hne3 : ¬ (w.heap.size + 1 + 1 + 1 = w.heap.size) := by omega
  have hne4 : ¬ (w.heap.size = w.heap.size + 1 + 1 + 1) := by omega
  go_enter Try.func78, Try.ntmps78
  go_wp2
  have tok1 : True := trivial
  have tok2 : True := trivial
  have tok3 : True := trivial
  go_region_held3 (fun w' => w'.cell? ⟨w.heap.size, 0, none⟩ = some (F a) ∧ w'.cell? ⟨w.heap.size, 1, none⟩ = some (F b) ∧ w'.cell? ⟨w.heap.size + 1, 0, none⟩ = some (F c) ∧ w'.cell? ⟨w.heap.size + 1, 1, none⟩ = some (F d)) (go_keep)
    (first | (go_at_call 43; have _t := tok1; refine (ops_mul _ _ _).mono ?_; rintro e w' ⟨r1, n1, rfl, hr, hl1, rfl⟩; have HR1 := Lib.hid hr; clear hr; clear tok1) | (go_at_call 43; have _t := tok2; refine (ops_mul _ _ _).mono ?_; rintro e w' ⟨r2, n2, rfl, hr, hl2, rfl⟩; have HR2 := Lib.hid hr; clear hr; clear tok2) | (go_at_call 43; have _t := tok3; refine (ops_mul _ _ _).mono ?_; rintro e w' ⟨r3, n3, rfl, hr, hl3, rfl⟩; have HR3 := Lib.hid hr; clear hr; clear tok3) | (go_at_call 43; refine (ops_mul _ _ _).mono ?_; rintro e w' ⟨r4, n4, rfl, hr, hl4, rfl⟩; have HR4 := Lib.hid hr; clear hr))
  go_wp2
  refine bodyPost_ret (v := .tuple #[Pair r1 r2, Pair r3 r4]) (by simp [results, Try.results78, go_sem]) rfl ⟨r1, r2, r3, r4, rfl, ⟨⟨HR1.out, hl1⟩, ⟨HR2.out, hl2⟩⟩, ⟨⟨HR3.out, hl3⟩, ⟨HR4.out, hl4⟩⟩, ?_⟩
  exact ((((below_drewN (((((Below.refl _ w).alloc (Nat.le_refl _) _).alloc (by simp) _).alloc (by simp; omega) _).alloc (by simp; omega) _) _).setCell (by show _ ≤ _; simp; omega) _).setCell (by show _ ≤ _; simp; omega) _).setCell (by show _ ≤ _; simp; omega) _).setCell (by show _ ≤ _; simp; omega) _
end Go.Proofs.Ytemneeknemijpaa
