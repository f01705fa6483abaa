/- What the two statements share: how a row of floats is opened; from the condition on the listed variables to the library's table; the start. No condition. -/
import Derived.Test.YtdflbipaicpdcaaGreatDoorRows
import Derived.Test.YtdflbipaicpdcaaGreatDoorSQw
import Derived.WalkKit
import Derived.ProofKit
import Derived.OpenShut
import Derived.ShutString
import Derived.ChangeOld
import Derived.Below
import Derived.Deep.Slices
import Derived.Lib.LaidTab
import Derived.LaidMore
import Derived.LaidHandle
import Derived.Stop.Joined
import Derived.Stop.LaidErr
set_option linter.unusedVariables false
set_option linter.unusedSimpArgs false
set_option maxRecDepth 100000
namespace Go.Proofs.YtdflbipaicpdcaaGreatDoor
open Go Go.ChangeShapes Go.WideShapes Go.ChangeAt Go.RowKit Go.AM

theorem own : ownKnob Tryz.prog.godebug = none := by kernel_rfl
theorem lt_of_wf {b : Nat} (h : (Lit.float .f64 b).wf = true) : b < 2 ^ 64 := by simpa [Lit.wf] using h
theorem laidOut : laidOutB Tryz.prog = true := by kernel_rfl
def laid3 : List (String × DataW Unit) := [("math/bits.deBruijn32tab", Rows.laid_math_bits_deBruijn32tab), ("math/bits.deBruijn64tab", Rows.laid_math_bits_deBruijn64tab), ("errors.errorType", Rows.laid_errors_errorType)]
theorem g64 : Tryz.prog.globalNamed "math/bits.deBruijn64tab" = some 2 := by kernel_rfl
theorem gErr : Tryz.prog.globalNamed "errors.errorType" = some 3 := by kernel_rfl
theorem tab64 : Rows.laid_math_bits_deBruijn64tab (H := Unit) = Lib.tabData .u8 (Lib.deBruijn64tab.map fun (n : Nat) => (n : Int)) := by rfl

theorem var_cells {W : World} {name : String} {g : Nat} {cs : Array Value} (hg : Tryz.prog.globalNamed name = some g) (h : W.var? Tryz.prog name = some cs) : ∃ t fz, W.heap[g]? = some (.cells cs t fz) := by
  unfold World.var? at h
  rw [hg] at h
  simp only [Option.bind_some] at h
  split at h
  · rename_i cs' t fz hc
    cases h
    exact ⟨t, fz, hc⟩
  · cases h

theorem laid_of {W : World} (h : laidMetH Tryz.prog laid3 W) : Laid W := by
  have h' : laidMet Tryz.prog [("math/bits.deBruijn32tab", Rows.laid_math_bits_deBruijn32tab), ("math/bits.deBruijn64tab", Rows.laid_math_bits_deBruijn64tab)] W ∧ handlesMet Tryz.prog [("errors.errorType", Rows.laid_errors_errorType)] W := h
  obtain ⟨ha, hb⟩ := h'
  have h2 : laidMet Tryz.prog [("math/bits.deBruijn64tab", Rows.laid_math_bits_deBruijn64tab)] W := laidMet.tail ha
  rw [tab64] at h2
  have h3 := Lib.tabIs_of_head (t := 251) (e := 5) (n := 64) g64 (by kernel_rfl) (by kernel_rfl) (by kernel_rfl) (by kernel_rfl) (by kernel_rfl) h2
  obtain ⟨t, fz, hc⟩ := var_cells g64 h3
  obtain ⟨name, u, ty, e1, e2, e3, e4, e5⟩ := hb _ (List.mem_singleton.2 rfl)
  obtain ⟨t3, fz3, hc3⟩ := var_cells gErr e5
  have := (Array.getElem?_eq_some_iff.1 hc3).1
  refine ⟨by omega, _, t, fz, hc, ?_⟩
  rfl

section
variable {H : Type} {enc : TypeId × Value → H} {w : World} {base : Nat} {spare : Nat → Bool} {held : Bool}
theorem trod_float {fuel : Nat} {v : Value} {d : DataW H} {ps : List MemPlace} (h : DataW.trod enc Tryz.prog w base spare held fuel 46 [v] = some (d, ps)) : ∃ b, v = .float .f64 b ∧ b < 2 ^ 64 := by
  cases fuel with
  | zero => simp [DataW.trod] at h
  | succ n =>
    simp only [DataW.trod, Tryz.underlying46] at h
    cases v with
    | float k b =>
      cases k with
      | f64 =>
        by_cases hw : (Lit.float .f64 b).wf = true
        · exact ⟨b, rfl, lt_of_wf hw⟩
        · simp [hw] at h
      | f32 => simp at h
    | _ => simp at h

/-- A row of floats that came in: nil, or its floats are told by f. -/
def RowIn3 (w : World) (a : Option Addr) (len cap : Nat) (f : Nat → Nat) : Prop :=
  (a = none ∧ len = 0 ∧ cap = 0) ∨ ∃ b off, a = some ⟨b, off, none⟩ ∧ b < w.heap.size ∧ len ≤ cap ∧ ∀ i, i < len → w.cell? ⟨b, off + i, none⟩ = some (.float .f64 (f i)) ∧ f i < 2 ^ 64

theorem open_floats {v : Value} {d : DataW H} {ps : List MemPlace} {base' : Nat} (hval : Value.okWide Tryz.prog w .any base' 22 v) (h : DataW.Trod enc Tryz.prog w 0 (fun _ => true) true 22 v d ps) :
    ∃ a len cap f, v = .slice a len cap ∧ RowIn3 w a len cap f := by
  obtain ⟨a0, len0, cap0, rfl⟩ := okWide_slice Tryz.underlying22 hval
  obtain ⟨fuel, hf⟩ := h
  rcases Deep.open_slice1 Tryz.underlying22 (by kernel_rfl) hf with ⟨hcs, _⟩ | ⟨a, len, cap, m, n, V, D, Pl, hcs, _, hl, hm, hmm, _, hc⟩
  · simp [Value.cells] at hcs
    obtain ⟨rfl, rfl, rfl⟩ := hcs
    exact ⟨none, 0, 0, fun _ => 0, rfl, .inl ⟨rfl, rfl, rfl⟩⟩
  · simp [Value.cells] at hcs
    obtain ⟨rfl, rfl, rfl⟩ := hcs
    simp at hmm
    subst hmm
    have hf : ∀ i, i < m → ∃ b, V i = (Value.float .f64 b) ∧ b < 2 ^ 64 := fun i hi => trod_float (hc i hi).2
    obtain ⟨z, hz⟩ := Deep.choose_lt hf
    have hhas : ∃ c, w.has Tryz.prog .any base' a 46 c := by
      have hv := hval
      simp only [Value.okWide, Cell.okWide, Cell.ok, Tryz.underlying22] at hv
      exact ⟨_, hv.2.2⟩
    obtain ⟨b, off, spot⟩ := a
    obtain ⟨_, _, hs, row, cells, hsh, _⟩ := hhas
    simp only at hs
    subst hs
    have hb : b < w.heap.size := by
      simp only [World.shape?] at hsh
      rcases Nat.lt_or_ge b w.heap.size with h' | h'
      · exact h'
      · simp [Array.getElem?_eq_none h'] at hsh
    refine ⟨_, _, _, z, rfl, .inr ⟨b, off, rfl, hb, hl, fun i hi => ?_⟩⟩
    have h1 := (hc i (by omega)).1
    rw [(hz i (by omega)).1] at h1
    have e : (⟨b, off, none⟩ : Addr).add i = ⟨b, off + i, none⟩ := by by_cases h0 : i = 0 <;> simp [Addr.add, h0]
    rw [e] at h1
    exact ⟨h1, (hz i (by omega)).2⟩
end

/-- the row's cells in memory -/
theorem cells_at {w : World} {b off n : Nat} {f : Nat → Nat} (hn : 0 < n) (h : ∀ i, i < n → w.cell? ⟨b, off + i, none⟩ = some (.float .f64 (f i)) ∧ f i < 2 ^ 64) :
    ∃ c t fz, w.heap[b]? = some (.cells c t fz) ∧ ∀ i, i < n → c[off + i]? = some (.float .f64 (f i)) := by
  have h0 := (h 0 hn).1
  cases hb : w.heap[b]? with
  | none => simp [World.cell?, hb] at h0
  | some o =>
    cases o with
    | cells c t fz =>
      refine ⟨c, t, fz, rfl, fun i hi => ?_⟩
      have := (h i hi).1
      simpa [World.cell?, hb] using this
    | _ => simp [World.cell?, hb] at h0
end Go.Proofs.YtdflbipaicpdcaaGreatDoor
