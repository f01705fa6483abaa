/- TopPairs comes to true of every row of floats: by the runs for rows of at most 64; longer ones are not looked at. Under: the library's table lies at its place. What the two statements share: how a row of floats is opened; from the condition on the listed variables to the library's table; the start. TopPairs comes to true of every row of floats, in every world with the library's table. -/
import Derived.Test.YtdflbipaicpdcaaGreatDoorXVa
import Derived.Test.YtdflbipaicpdcaaGreatDoorXVc
import Derived.Test.YtdflbipaicpdcaaGreatDoorXVe
import Derived.Test.YtdflbipaicpdcaaGreatDoorXVg
import Derived.Test.YtdflbipaicpdcaaGreatDoorXVj
import Derived.Test.YtdflbipaicpdcaaGreatDoorXVm
import Derived.Test.YtdflbipaicpdcaaGreatDoorXVn
import Derived.Test.YtdflbipaicpdcaaGreatDoorXFn
import Derived.Test.YtdflbipaicpdcaaGreatDoorXHo
import Derived.Test.YtdflbipaicpdcaaGreatDoorRows
import Derived.Test.YtdflbipaicpdcaaGreatDoorXQw
import Derived.WalkKit
import Derived.ProofKit
import Derived.OpenShut
import Derived.ShutString
import Derived.ChangeOld
import Derived.Below
import Derived.Deep.Slices
import Derived.Lib.LaidTab
import Derived.LaidMore
import Derived.LaidHandle
import Derived.Stop.Joined
import Derived.Stop.LaidErr
set_option linter.unusedVariables false
set_option linter.unusedSimpArgs false
set_option maxRecDepth 100000
namespace Go.AM
open Go Go.RowKit Go.Proofs Go.Proofs.YtdflbipaicpdcaaGreatDoor

theorem tab68_all : ∀ x ∈ tab68, 0 < x.1 ∧ ∃ plug, PlugOk Tryz.prog plug ∧ runT Tryz.prog plug 68 x.1 x.2 = true := fun x hx => by
  simp only [tab68, List.mem_cons, List.not_mem_nil, or_false] at hx
  rcases hx with rfl | rfl | rfl | rfl | rfl | rfl
  · exact ⟨by decide, _, plugT_ok, dcttwo_2_run⟩
  · exact ⟨by decide, _, plugT_ok, dcttwo_4_run⟩
  · exact ⟨by decide, _, plugT_ok, dcttwo_8_run⟩
  · exact ⟨by decide, _, plugT_ok, dcttwo_16_run⟩
  · exact ⟨by decide, _, plugU_ok, dcttwo_32_run⟩
  · exact ⟨by decide, _, plugU_ok, dcttwo_64_run⟩
theorem tab69_all : ∀ x ∈ tab69, 0 < x.1 ∧ ∃ plug, PlugOk Tryz.prog plug ∧ runT Tryz.prog plug 69 x.1 x.2 = true := fun x hx => by
  simp only [tab69, List.mem_cons, List.not_mem_nil, or_false] at hx
  rcases hx with rfl | rfl | rfl | rfl | rfl | rfl
  · exact ⟨by decide, _, plugV_ok, dctthree_2_run⟩
  · exact ⟨by decide, _, plugV_ok, dctthree_4_run⟩
  · exact ⟨by decide, _, plugV_ok, dctthree_8_run⟩
  · exact ⟨by decide, _, plugV_ok, dctthree_16_run⟩
  · exact ⟨by decide, _, plugV_ok, dctthree_32_run⟩
  · exact ⟨by decide, _, plugV_ok, dctthree_64_run⟩
theorem tab70_all : ∀ x ∈ tab70, 0 < x.1 ∧ ∃ plug, PlugOk Tryz.prog plug ∧ runT Tryz.prog plug 70 x.1 x.2 = true := fun x hx => by
  simp only [tab70, List.mem_cons, List.not_mem_nil, or_false] at hx
  rcases hx with rfl | rfl | rfl | rfl | rfl | rfl
  · exact ⟨by decide, _, plugT_ok, dctfour_2_run⟩
  · exact ⟨by decide, _, plugT_ok, dctfour_4_run⟩
  · exact ⟨by decide, _, plugT_ok, dctfour_8_run⟩
  · exact ⟨by decide, _, plugT_ok, dctfour_16_run⟩
  · exact ⟨by decide, _, plugT_ok, dctfour_32_run⟩
  · exact ⟨by decide, _, plugT_ok, dctfour_64_run⟩
theorem listE_ok : ∀ x ∈ listE, Pl1 Tryz.prog x.1 x.2 := fun x hx => by
  rcases List.mem_cons.1 hx with rfl | hx
  · exact head_ok
  rcases List.mem_cons.1 hx with rfl | hx
  · exact sameF_ok
  · exact listV_ok x hx
theorem plugE_ok : PlugOk Tryz.prog plugE := plugOf_ok _ listE_ok
theorem listP_ok : ∀ x ∈ listP, Pl1 Tryz.prog x.1 x.2 := fun x hx => by
  rcases List.mem_cons.1 hx with rfl | hx
  · exact memT_ok (hb_of (by kernel_rfl)) tab68_all
  rcases List.mem_cons.1 hx with rfl | hx
  · exact memT_ok (hb_of (by kernel_rfl)) tab69_all
  rcases List.mem_cons.1 hx with rfl | hx
  · exact memT_ok (hb_of (by kernel_rfl)) tab70_all
  · exact listE_ok x hx
theorem plugP_ok : PlugOk Tryz.prog plugP := plugOf_ok _ listP_ok

/-- what was run, and with what -/
theorem pairs_all : ∀ n, 0 < n → n ≤ 64 → ∃ plug, PlugOk Tryz.prog plug ∧ runL Tryz.prog plug 3 n = true := by
  have hE : ∀ n ∈ [1, 3, 5, 6, 7, 9, 10, 11, 12, 13, 14] ++ [15, 17, 18, 19, 20, 21, 22, 23] ++ [24, 25, 26, 27, 28, 29] ++ [30, 31, 33, 34, 35, 36] ++ [37, 38, 39, 40, 41] ++ [42, 43, 44, 45, 46] ++ [47, 48, 49, 50] ++ [51, 52, 53, 54] ++ [55, 56, 57, 58] ++ [59, 60, 61] ++ [62, 63], runL Tryz.prog plugE 3 n = true := by
    intro n hn
    simp only [List.mem_append, or_assoc] at hn
    rcases hn with h | h | h | h | h | h | h | h | h | h | h
    · exact runsL_spec pairs_Va n h
    · exact runsL_spec pairs_Vb n h
    · exact runsL_spec pairs_Vc n h
    · exact runsL_spec pairs_Vd n h
    · exact runsL_spec pairs_Ve n h
    · exact runsL_spec pairs_Vf n h
    · exact runsL_spec pairs_Vg n h
    · exact runsL_spec pairs_Vh n h
    · exact runsL_spec pairs_Vi n h
    · exact runsL_spec pairs_Vj n h
    · exact runsL_spec pairs_Vk n h
  have hP : ∀ n ∈ [2, 4, 8, 16] ++ [32] ++ [64], runL Tryz.prog plugP 3 n = true := by
    intro n hn
    simp only [List.mem_append, or_assoc] at hn
    rcases hn with h | h | h
    · exact runsL_spec pairs_Vl n h
    · exact runsL_spec pairs_Vm n h
    · exact runsL_spec pairs_Vn n h
  intro n h0 h64
  by_cases hn : n ∈ [2, 4, 8, 16] ++ [32] ++ [64]
  · exact ⟨_, plugP_ok, hP n hn⟩
  · refine ⟨_, plugE_ok, hE n ?_⟩
    have hall : ∀ k, k < 65 → 0 < k → k ∉ [2, 4, 8, 16] ++ [32] ++ [64] → k ∈ [1, 3, 5, 6, 7, 9, 10, 11, 12, 13, 14] ++ [15, 17, 18, 19, 20, 21, 22, 23] ++ [24, 25, 26, 27, 28, 29] ++ [30, 31, 33, 34, 35, 36] ++ [37, 38, 39, 40, 41] ++ [42, 43, 44, 45, 46] ++ [47, 48, 49, 50] ++ [51, 52, 53, 54] ++ [55, 56, 57, 58] ++ [59, 60, 61] ++ [62, 63] := by decide
    exact hall n (by omega) h0 hn
end Go.AM
set_option maxRecDepth 100000
namespace Go.Proofs.YtdflbipaicpdcaaGreatDoor
open Go Go.ChangeShapes Go.WideShapes Go.ChangeAt Go.RowKit Go.AM

theorem own : ownKnob Tryz.prog.godebug = none := by kernel_rfl
theorem lt_of_wf {b : Nat} (h : (Lit.float .f64 b).wf = true) : b < 2 ^ 64 := by simpa [Lit.wf] using h
theorem laidOut : laidOutB Tryz.prog = true := by kernel_rfl
def laid3 : List (String × DataW Unit) := [("math/bits.deBruijn32tab", Rows.laid_math_bits_deBruijn32tab), ("math/bits.deBruijn64tab", Rows.laid_math_bits_deBruijn64tab), ("errors.errorType", Rows.laid_errors_errorType)]
theorem g64 : Tryz.prog.globalNamed "math/bits.deBruijn64tab" = some 2 := by kernel_rfl
theorem gErr : Tryz.prog.globalNamed "errors.errorType" = some 3 := by kernel_rfl
theorem tab64 : Rows.laid_math_bits_deBruijn64tab (H := Unit) = Lib.tabData .u8 (Lib.deBruijn64tab.map fun (n : Nat) => (n : Int)) := by rfl

theorem var_cells {W : World} {name : String} {g : Nat} {cs : Array Value} (hg : Tryz.prog.globalNamed name = some g) (h : W.var? Tryz.prog name = some cs) : ∃ t fz, W.heap[g]? = some (.cells cs t fz) := by
  unfold World.var? at h
  rw [hg] at h
  simp only [Option.bind_some] at h
  split at h
  · rename_i cs' t fz hc
    cases h
    exact ⟨t, fz, hc⟩
  · cases h

theorem laid_of {W : World} (h : laidMetH Tryz.prog laid3 W) : Laid W := by
  have h' : laidMet Tryz.prog [("math/bits.deBruijn32tab", Rows.laid_math_bits_deBruijn32tab), ("math/bits.deBruijn64tab", Rows.laid_math_bits_deBruijn64tab)] W ∧ handlesMet Tryz.prog [("errors.errorType", Rows.laid_errors_errorType)] W := h
  obtain ⟨ha, hb⟩ := h'
  have h2 : laidMet Tryz.prog [("math/bits.deBruijn64tab", Rows.laid_math_bits_deBruijn64tab)] W := laidMet.tail ha
  rw [tab64] at h2
  have h3 := Lib.tabIs_of_head (t := 251) (e := 5) (n := 64) g64 (by kernel_rfl) (by kernel_rfl) (by kernel_rfl) (by kernel_rfl) (by kernel_rfl) h2
  obtain ⟨t, fz, hc⟩ := var_cells g64 h3
  obtain ⟨name, u, ty, e1, e2, e3, e4, e5⟩ := hb _ (List.mem_singleton.2 rfl)
  obtain ⟨t3, fz3, hc3⟩ := var_cells gErr e5
  have := (Array.getElem?_eq_some_iff.1 hc3).1
  refine ⟨by omega, _, t, fz, hc, ?_⟩
  rfl

section
variable {H : Type} {enc : TypeId × Value → H} {w : World} {base : Nat} {spare : Nat → Bool} {held : Bool}
theorem trod_float {fuel : Nat} {v : Value} {d : DataW H} {ps : List MemPlace} (h : DataW.trod enc Tryz.prog w base spare held fuel 46 [v] = some (d, ps)) : ∃ b, v = .float .f64 b ∧ b < 2 ^ 64 := by
  cases fuel with
  | zero => simp [DataW.trod] at h
  | succ n =>
    simp only [DataW.trod, Tryz.underlying46] at h
    cases v with
    | float k b =>
      cases k with
      | f64 =>
        by_cases hw : (Lit.float .f64 b).wf = true
        · exact ⟨b, rfl, lt_of_wf hw⟩
        · simp [hw] at h
      | f32 => simp at h
    | _ => simp at h

/-- A row of floats that came in: nil, or its floats are told by f. -/
def RowIn3 (w : World) (a : Option Addr) (len cap : Nat) (f : Nat → Nat) : Prop :=
  (a = none ∧ len = 0 ∧ cap = 0) ∨ ∃ b off, a = some ⟨b, off, none⟩ ∧ b < w.heap.size ∧ len ≤ cap ∧ ∀ i, i < len → w.cell? ⟨b, off + i, none⟩ = some (.float .f64 (f i)) ∧ f i < 2 ^ 64

theorem open_floats {v : Value} {d : DataW H} {ps : List MemPlace} {base' : Nat} (hval : Value.okWide Tryz.prog w .any base' 22 v) (h : DataW.Trod enc Tryz.prog w 0 (fun _ => true) true 22 v d ps) :
    ∃ a len cap f, v = .slice a len cap ∧ RowIn3 w a len cap f := by
  obtain ⟨a0, len0, cap0, rfl⟩ := okWide_slice Tryz.underlying22 hval
  obtain ⟨fuel, hf⟩ := h
  rcases Deep.open_slice1 Tryz.underlying22 (by kernel_rfl) hf with ⟨hcs, _⟩ | ⟨a, len, cap, m, n, V, D, Pl, hcs, _, hl, hm, hmm, _, hc⟩
  · simp [Value.cells] at hcs
    obtain ⟨rfl, rfl, rfl⟩ := hcs
    exact ⟨none, 0, 0, fun _ => 0, rfl, .inl ⟨rfl, rfl, rfl⟩⟩
  · simp [Value.cells] at hcs
    obtain ⟨rfl, rfl, rfl⟩ := hcs
    simp at hmm
    subst hmm
    have hf : ∀ i, i < m → ∃ b, V i = (Value.float .f64 b) ∧ b < 2 ^ 64 := fun i hi => trod_float (hc i hi).2
    obtain ⟨z, hz⟩ := Deep.choose_lt hf
    have hhas : ∃ c, w.has Tryz.prog .any base' a 46 c := by
      have hv := hval
      simp only [Value.okWide, Cell.okWide, Cell.ok, Tryz.underlying22] at hv
      exact ⟨_, hv.2.2⟩
    obtain ⟨b, off, spot⟩ := a
    obtain ⟨_, _, hs, row, cells, hsh, _⟩ := hhas
    simp only at hs
    subst hs
    have hb : b < w.heap.size := by
      simp only [World.shape?] at hsh
      rcases Nat.lt_or_ge b w.heap.size with h' | h'
      · exact h'
      · simp [Array.getElem?_eq_none h'] at hsh
    refine ⟨_, _, _, z, rfl, .inr ⟨b, off, rfl, hb, hl, fun i hi => ?_⟩⟩
    have h1 := (hc i (by omega)).1
    rw [(hz i (by omega)).1] at h1
    have e : (⟨b, off, none⟩ : Addr).add i = ⟨b, off + i, none⟩ := by by_cases h0 : i = 0 <;> simp [Addr.add, h0]
    rw [e] at h1
    exact ⟨h1, (hz i (by omega)).2⟩
end

/-- the row's cells in memory -/
theorem cells_at {w : World} {b off n : Nat} {f : Nat → Nat} (hn : 0 < n) (h : ∀ i, i < n → w.cell? ⟨b, off + i, none⟩ = some (.float .f64 (f i)) ∧ f i < 2 ^ 64) :
    ∃ c t fz, w.heap[b]? = some (.cells c t fz) ∧ ∀ i, i < n → c[off + i]? = some (.float .f64 (f i)) := by
  have h0 := (h 0 hn).1
  cases hb : w.heap[b]? with
  | none => simp [World.cell?, hb] at h0
  | some o =>
    cases o with
    | cells c t fz =>
      refine ⟨c, t, fz, rfl, fun i hi => ?_⟩
      have := (h i hi).1
      simpa [World.cell?, hb] using this
    | _ => simp [World.cell?, hb] at h0
end Go.Proofs.YtdflbipaicpdcaaGreatDoor
set_option maxRecDepth 100000
namespace Go.Proofs.YtdflbipaicpdcaaGreatDoor
open Go Go.RowKit Go.AM

theorem Kept.frame {w w' : World} (h : Kept w w') (may : MemPlace → Prop) : w.keptBut w' may := by
  have := h.below.frame may
  unfold World.keptBut at this ⊢
  exact this
theorem Kept.drewN {a w : World} (h : Kept a w) (n : Nat) : Kept a (w.drewN n) := ⟨h.same, h.size, h.block⟩

set_option maxHeartbeats 1000000 in
theorem pairs_long (a : Option Addr) (len cap : Nat) (w : World) (hL : Laid w) (h : (64 : Int) < (len : Int)) : Calls Tryz.prog 3 #[.slice a len cap] w fun e w' => e = .returned (.bool true) ∧ Kept w w' := by
  go_enter Tryz.func3, Tryz.ntmps3
  go_wp2_with fail
  refine (head_calls head_ok (w := _) ?_).mono ?_
  · exact hL
  rintro e W1 ⟨rfl, hb⟩
  have BT := Lib.hid hb
  clear hb
  go_wp2
  go_ret
  exact ⟨rfl, BT.out⟩

theorem pairs_walk (a : Option Addr) (len cap : Nat) (f : Nat → Nat) (w : World) (hL : Laid w) (hr : RowIn3 w a len cap f) : Calls Tryz.prog 3 #[.slice a len cap] w fun e w' => e = .returned (.bool true) ∧ Kept w w' := by
  have hf : ∃ fn, Tryz.prog.funcs[3]? = some fn ∧ fn.body ≠ none := hb_of (by kernel_rfl)
  rcases hr with ⟨rfl, rfl, rfl⟩ | ⟨b, off, rfl, hb, hcap, hc⟩
  · exact law_of_zero plugE_ok hf pairs_nil hL none (fun p e => by cases e) (.slice0 _ _ (by show 0 < 18446744073709551616; decide))
  · by_cases h0 : len = 0
    · subst h0
      refine law_of_zero plugE_ok hf pairs_none hL (some ⟨b, off, 0⟩) (fun p e => by cases e; exact hb) ?_
      have := Den.wide (J := zJ (some ⟨b, off, 0⟩)) 4 0 0 OPEN cap ⟨b, off, 0⟩ (by simp [zJ]) (Nat.le_refl _) hcap (fun h => absurd h (Nat.lt_irrefl _))
      simpa using this
    · by_cases h64 : len ≤ 64
      · obtain ⟨c, t, fz, hh, hcell⟩ := cells_at (by omega) hc
        obtain ⟨plug, hp, hrun⟩ := pairs_all len (by omega) h64
        exact law_of_run hp hf hrun hL hh (by omega) hcell (fun i hi => (hc i hi).2) hcap
      · exact pairs_long _ len cap w hL (by omega)
end Go.Proofs.YtdflbipaicpdcaaGreatDoor
