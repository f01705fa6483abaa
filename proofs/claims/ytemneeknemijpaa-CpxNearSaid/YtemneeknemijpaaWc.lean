/- A region that draws, with a variable of its own made at any moment: what it leaves is told by a relation. No condition. -/
import Derived.Test.YtemneeknemijpaaSb
namespace Go.Proofs.Ytemneeknemijpaa
open Go Go.RowKit

section
variable {P : Program} {ops : Array Oper} {Q : Exit → Act → World → Prop} {md : Region.Mode} {S : World → Prop}
/-- what a region leaves -/
def cutQ (R : Act → World → Prop) (Q : Exit → Act → World → Prop) : Exit → Act → World → Prop := fun x a w => match x with
  | .normal => R a w
  | e => Q e a w
theorem cutQ_normal {R : Act → World → Prop} {a : Act} {w : World} (h : R a w) : cutQ R Q .normal a w := h
theorem wp_region_cut (R : Act → Act → World → Prop) {id : Nat} {a : Act} {w : World} (hm : P.follows .mixedOrders = true)
    (h : wpAnyR P .any ops (cutQ (R a) Q) S ops.size (Array.replicate ops.size false) a w.drew) (hR : ∀ a' w', R a a' w' → Q .normal a' w') : (Code.region id ops true).wp P Q a w := by
  refine Code.wp_mono (fun e a' w' h' => ?_) (wp_region_still hm h)
  cases e <;> first | exact hR _ _ h' | exact h'
/-- Two are ready. -/
theorem wpAnyR_two {i j : Nat} {oi oj : Oper} {fuel : Nat} {listed : Array Bool} {a : Act} {w : World} (hi : ops[i]? = some oi) (hj : ops[j]? = some oj) (hr : Region.ready md ops listed = [i, j])
    (hwi : Region.wanted oi (yielded ops a.tmps) = true) (hwj : Region.wanted oj (yielded ops a.tmps) = true)
    (h1 : Oper.wp P oi a w (fun a' w' => S w' ∧ wpAnyR P md ops Q S fuel (listed.setIfInBounds i true) a' w') Q)
    (h2 : Oper.wp P oj a w (fun a' w' => S w' ∧ wpAnyR P md ops Q S fuel (listed.setIfInBounds j true) a' w') Q) : wpAnyR P md ops Q S (fuel + 1) listed a w := by
  refine ⟨fun h0 => (by rw [hr] at h0; cases h0), fun k hk => ?_⟩
  rw [hr] at hk
  rcases List.mem_cons.1 hk with rfl | hk
  · unfold Go.wpOp
    simp only [hi]
    simp only [hwi, if_true]
    exact .inl h1
  · rw [List.mem_singleton] at hk
    subst hk
    unfold Go.wpOp
    simp only [hj]
    simp only [hwj, if_true]
    exact .inl h2
end

theorem box_store {w : World} {b : Nat} (h : Box w b) (hl : b < w.heap.size) (n : Bool) (a : Option Addr) (l c : Nat) (E : Int) : Var (((w.setCell ⟨b, 0, none⟩ (.bool n)).setCell ⟨b, 1, none⟩ (.slice a l c)).setCell ⟨b, 2, none⟩ (.int .i64 E)) b n a l c E := by
  obtain ⟨c0, c1, c2, _, f0, f1, f2⟩ := h
  exact ⟨by simp [go_sem, c0], by simp [go_sem, c1], by simp [go_sem, c2], by simp [go_sem, f0], by simpa using hl⟩
end Go.Proofs.Ytemneeknemijpaa
