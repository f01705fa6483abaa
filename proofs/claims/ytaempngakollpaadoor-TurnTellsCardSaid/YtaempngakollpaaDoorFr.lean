/- What the six statements share: from the condition on the listed tables to what the walks ask; the start. -/
import Derived.Test.YtaempngakollpaaDoorTz
import Derived.Lib.LaidTab
import Derived.Lib.SmallJoins
import Derived.LaidMore
import Derived.OpenShut
import Derived.Stop.Joined
import Derived.Stop.LaidErr
import Derived.ChangeOld
namespace Go.Proofs.YtaempngakollpaaDoor
open Go.ChangeShapes Go.WideShapes Go.ChangeAt Go.RowKit Go.Shelf

theorem own : ownKnob Tryd.prog.godebug = none := by kernel_rfl
def laid2 : List (String × DataW Unit) := [("math/bits.deBruijn32tab", Rows.laid_math_bits_deBruijn32tab), ("math/bits.deBruijn64tab", Rows.laid_math_bits_deBruijn64tab)]
theorem door_met (os : Os) (args : Array Value) : laidMetH Tryd.prog laid2 ((World.doorLaid Tryd.prog 400 os).forCall (fun _ _ => 0) ⟨#[], args, []⟩).memory :=
  laidMetH_of_parts3 (fuel := 8) (laidMet_of_run' 8 (by kernel_rfl) (by kernel_rfl)) (by kernel_rfl) (by kernel_rfl)
theorem g64 : Tryd.prog.globalNamed "math/bits.deBruijn64tab" = some 1 := by kernel_rfl
theorem tab64 : Rows.laid_math_bits_deBruijn64tab (H := Unit) = Lib.tabData .u8 (Lib.deBruijn64tab.map fun (n : Nat) => (n : Int)) := by rfl

theorem tab_of_laid {W : World} (h : laidMetH Tryd.prog laid2 W) : Tab W := by
  rw [MakeChecks.laidMetH_plain _ _ _ (by kernel_rfl)] at h
  have h2 : laidMet Tryd.prog [("math/bits.deBruijn64tab", Rows.laid_math_bits_deBruijn64tab)] W := laidMet.tail h
  rw [tab64] at h2
  have h3 := Lib.tabIs_of_head (t := 49) (e := 5) (n := 64) g64 (by kernel_rfl) (by kernel_rfl) (by kernel_rfl) (by kernel_rfl) (by kernel_rfl) h2
  have hc : TabAt 1 Lib.deBruijn64tab W := fun j hj => by
    have := h3.cell g64 j (by simpa using hj)
    rw [this]
    congr 1
    rw [List.getD_eq_getElem?_getD, List.getElem?_map, List.getD_eq_getElem?_getD]
    rw [List.getElem?_eq_getElem hj]
    rfl
  refine ⟨?_, hc⟩
  have := World.block_lt_of_cell? W _ (hc 0 (by decide))
  exact this

section
variable {H : Type} {enc : TypeId × Value → H} {w : World} {base : Nat} {spare : Nat → Bool} {held : Bool}
theorem t_int {a : Int} (hw : (Lit.int .i64 a).wf = true) : ∃ n, DataW.trod enc Tryd.prog w base spare held n 3 [.int .i64 a] = some (.lit (.int .i64 a), []) := ⟨1, by simp [DataW.trod, Tryd.underlying3, hw]⟩
theorem shut_turn {a b : Int} (ha : (Lit.int .i64 a).wf = true) (hb : (Lit.int .i64 b).wf = true) : DataW.Trod enc Tryd.prog w base spare held 23 (.agg #[.int .i64 a, .int .i64 b]) (.agg [.lit (.int .i64 a), .lit (.int .i64 b)]) [] :=
  Go.Joins.shut_agg2 Tryd.underlying23 (by kernel_rfl) (by kernel_rfl) (t_int ha) (t_int hb)
end
end Go.Proofs.YtaempngakollpaaDoor
