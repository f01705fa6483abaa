/- Package cpx: what each of its functions hands back, every not-a-number taken for one. No condition. -/
import Derived.Test.YtemneeknemijpaaOps
import Derived.WalkKit
import Derived.WalkLawsBesides
import Derived.Outline
import Derived.Below
import Derived.Deep.RegionHeld3
import Derived.Lib.Hide
namespace Go.Proofs.Ytemneeknemijpaa
open Go.RowKit

section
variable {P : Program} (w : World) (a : Addr) (m : Mode)
@[go_sem] theorem run_store_float (x : Nat) : (store a (.float .f64 x) m).run P w = stored P w a (.float .f64 x) m := run_store P w a _ m rfl
end

abbrev F (x : Nat) : Value := .float .f64 x
abbrev Pair (x y : Nat) : Value := .agg #[.float .f64 x, .float .f64 y]

/-- A pair is handed back, alike to u, v; nothing that was there has turned. -/
def Gives2 (u v : Nat) (w : World) (e : Ending) (w' : World) : Prop := ∃ r s, e = .returned (Pair r s) ∧ (Fl.canon r = u ∧ r < 2 ^ 64) ∧ (Fl.canon s = v ∧ s < 2 ^ 64) ∧ Below w.heap.size w w'

theorem below_drewN {B : Nat} {a w : World} (h : Below B a w) (n : Nat) : Below B a (w.drewN n) := ⟨h.os, h.tape, h.output, h.size, h.block⟩

theorem bcell {W w1 : World} (hb : Below W.heap.size W w1) : (∀ b o, b < W.heap.size → w1.cell? ⟨b, o, none⟩ = W.cell? ⟨b, o, none⟩) ∧ (∀ b o, b < W.heap.size → w1.frozen? ⟨b, o, none⟩ = W.frozen? ⟨b, o, none⟩) :=
  ⟨fun b o h => hb.cell (p := ⟨b, o, none⟩) h, fun b o h => hb.frozen (p := ⟨b, o, none⟩) h⟩

set_option maxHeartbeats 400000 in
theorem each_add (a b c d : Nat) (w : World) :
    Calls Try.prog 77 #[Pair a b, Pair c d, .func (.func 39) #[] #[]] w (Gives2 (Fl.fadd a c) (Fl.fadd b d) w) := by
  have hne1 : ¬ (w.heap.size + 1 + 1 = w.heap.size) := by omega
  have hne2 : ¬ (w.heap.size = w.heap.size + 1 + 1) := by omega
  go_enter Try.func77, Try.ntmps77
  go_wp2
  have tok1 : True := trivial
  go_region_held3 (fun w' => w'.cell? ⟨w.heap.size, 0, none⟩ = some (F a) ∧ w'.cell? ⟨w.heap.size, 1, none⟩ = some (F b) ∧ w'.cell? ⟨w.heap.size + 1, 0, none⟩ = some (F c) ∧ w'.cell? ⟨w.heap.size + 1, 1, none⟩ = some (F d)) (go_keep)
    (first | (go_at_call 39; have _t := tok1; refine (ops_add _ _ _).mono ?_; rintro e w' ⟨r1, n1, rfl, hr, hl1, rfl⟩; have HR1 := Lib.hid hr; clear hr; clear tok1) | (go_at_call 39; refine (ops_add _ _ _).mono ?_; rintro e w' ⟨r2, n2, rfl, hr, hl2, rfl⟩; have HR2 := Lib.hid hr; clear hr))
  go_wp2
  refine bodyPost_ret (v := Pair r1 r2) (by simp [results, Try.results77, go_sem]) rfl ⟨r1, r2, rfl, ⟨HR1.out, hl1⟩, ⟨HR2.out, hl2⟩, ?_⟩
  exact ((below_drewN ((((Below.refl _ w).alloc (Nat.le_refl _) _).alloc (by simp) _).alloc (by simp; omega) _) _).setCell (by show _ ≤ _; simp; omega) _).setCell (by show _ ≤ _; simp; omega) _

set_option maxHeartbeats 400000 in
theorem each_sub (a b c d : Nat) (w : World) :
    Calls Try.prog 77 #[Pair a b, Pair c d, .func (.func 41) #[] #[]] w (Gives2 (Fl.fsub a c) (Fl.fsub b d) w) := by
  have hne1 : ¬ (w.heap.size + 1 + 1 = w.heap.size) := by omega
  have hne2 : ¬ (w.heap.size = w.heap.size + 1 + 1) := by omega
  go_enter Try.func77, Try.ntmps77
  go_wp2
  have tok1 : True := trivial
  go_region_held3 (fun w' => w'.cell? ⟨w.heap.size, 0, none⟩ = some (F a) ∧ w'.cell? ⟨w.heap.size, 1, none⟩ = some (F b) ∧ w'.cell? ⟨w.heap.size + 1, 0, none⟩ = some (F c) ∧ w'.cell? ⟨w.heap.size + 1, 1, none⟩ = some (F d)) (go_keep)
    (first | (go_at_call 41; have _t := tok1; refine (ops_sub _ _ _).mono ?_; rintro e w' ⟨r1, n1, rfl, hr, hl1, rfl⟩; have HR1 := Lib.hid hr; clear hr; clear tok1) | (go_at_call 41; refine (ops_sub _ _ _).mono ?_; rintro e w' ⟨r2, n2, rfl, hr, hl2, rfl⟩; have HR2 := Lib.hid hr; clear hr))
  go_wp2
  refine bodyPost_ret (v := Pair r1 r2) (by simp [results, Try.results77, go_sem]) rfl ⟨r1, r2, rfl, ⟨HR1.out, hl1⟩, ⟨HR2.out, hl2⟩, ?_⟩
  exact ((below_drewN ((((Below.refl _ w).alloc (Nat.le_refl _) _).alloc (by simp) _).alloc (by simp; omega) _) _).setCell (by show _ ≤ _; simp; omega) _).setCell (by show _ ≤ _; simp; omega) _
end Go.Proofs.Ytemneeknemijpaa
