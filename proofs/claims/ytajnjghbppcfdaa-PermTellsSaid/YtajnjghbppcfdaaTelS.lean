/- The statement PermTells: all orders of any rows are the document's: for every input the law returns true. No condition. -/
import Derived.Test.YtajnjghbppcfdaaTelWalk
namespace Go.Proofs.Ytajnjghbppcfdaa
open Go.ChangeShapes Go.WideShapes Go.ChangeAt Go.RowKit
open Go.ChangeMaps (open_string shut_string)

theorem permTells_walk (a a' : Option Addr) (len cap len' cap' : Nat) (l l' : List Nat) (p : Int) (odd : Bool) (w : World) (hr : RowF w a len cap l) (hr' : RowF w a' len' cap' l') : Calls Try.prog 3 #[.slice a len cap, .slice a' len' cap', .int .i64 p, .bool odd] w fun e w' => e = .returned (.bool true) ∧ Below w.heap.size w w' := by
  by_cases h : (len : Int) ≤ 300
  · by_cases h' : (len' : Int) ≤ 300
    · by_cases hm : 6 < p ∧ p ≤ 12
      · exact permTells_mid a a' len cap len' cap' p odd w h h' hm.1 hm.2
      · by_cases hd : len = len' ∨ len = len' + 1
        · by_cases h1 : p < 0
          · exact permTells_yes_neg a a' len cap len' cap' l l' p odd w hr hr' h h' hd h1
          · by_cases h2 : 12 < p
            · exact permTells_yes_big a a' len cap len' cap' l l' p odd w hr hr' h h' hd h2
            · obtain ⟨q, rfl⟩ : ∃ q : Nat, p = (q : Int) := ⟨p.toNat, by omega⟩
              exact permTells_yes_in a a' len cap len' cap' l l' q odd w hr hr' h h' hd (by omega)
        · by_cases h1 : p < 0
          · exact permTells_no_neg a a' len cap len' cap' l l' p odd w hr hr' h h' hd h1
          · by_cases h2 : 12 < p
            · exact permTells_no_big a a' len cap len' cap' l l' p odd w hr hr' h h' hd h2
            · obtain ⟨q, rfl⟩ : ∃ q : Nat, p = (q : Int) := ⟨p.toNat, by omega⟩
              exact permTells_no_in a a' len cap len' cap' l l' q odd w hr hr' h h' hd (by omega)
    · exact permTells_long2 a a' len cap len' cap' p odd w h (by omega)
  · exact permTells_long a a' len cap len' cap' p odd w (by omega)

set_option maxRecDepth 100000 in
theorem permTells_lifted (os : Os) (started : os.Started) (H : Type) (enc : TypeId × Value → H) :
    ReturnsInHanded {} Try.checked os 3 .any (Rows.permTellsSpec.pre6 enc Try.prog Try.f3 Rows.permTellsRow.domain false) (Rows.permTellsSpec.post enc Try.prog Try.f3 false true false false) := by
  refine returnsInHanded_of_change (C := Try.checked) own started (by kernel_rfl) Try.func3
    (ChangeSpec.witness6 (enc := enc) (C := Try.checked) false ⟨#[], #[.slice none 0 0, .slice none 0 0, .int .i64 0, .bool false], []⟩ 8 (by kernel_rfl) (by kernel_rfl) (by kernel_rfl) (by kernel_rfl)) ?_
  intro W base args ds gs before hval0 hW hcnd _
  have hval : ∀ (j : Nat) t v, Try.f3.params[j]? = some t → args[j]? = some v → Value.okWide Try.prog W .any base t v := hval0
  have hW' := hW
  obtain ⟨p, q, hA0, hV, rfl, hfz, hnd⟩ := hW
  have hA : DataW.TrodAll enc Try.prog W 0 (fun _ => true) true Try.f3.params.toList args.toList ds p := hA0
  rw [Try.params3] at hA hval
  obtain ⟨v0, vs0, d0, ds0, p0, q0, hargs, rfl, rfl, h0, r0⟩ := trodAll_cons hA
  obtain ⟨v1, vs1, d1, ds1, p1, q1, rfl, rfl, rfl, h1, r1⟩ := trodAll_cons r0
  obtain ⟨v2, vs2, d2, ds2, p2, q2, rfl, rfl, rfl, h2, r2⟩ := trodAll_cons r1
  obtain ⟨v3, vs3, d3, ds3, p3, q3, rfl, rfl, rfl, h3, r3⟩ := trodAll_cons r2
  obtain ⟨rfl, rfl, rfl⟩ := trodAll_nil r3
  obtain rfl : args = #[v0, v1, v2, v3] := by cases args; simp_all
  obtain ⟨rfl, rfl⟩ := trodVars_none hV
  have k0 := h0
  have lt0 : ∀ x ∈ p0, x.block < W.heap.size := by obtain ⟨m, hm⟩ := k0; exact DataW.trod_lt m _ _ _ hm
  obtain ⟨a0, len0, cap0, l0, rfl, w0, b0⟩ := open_floats (okWide_slice Try.underlying22 (hval 0 22 v0 rfl rfl)) h0
  have k1 := h1
  have lt1 : ∀ x ∈ p1, x.block < W.heap.size := by obtain ⟨m, hm⟩ := k1; exact DataW.trod_lt m _ _ _ hm
  obtain ⟨a1, len1, cap1, l1, rfl, w1, b1⟩ := open_floats (okWide_slice Try.underlying22 (hval 1 22 v1 rfl rfl)) h1
  obtain ⟨a2, rfl, rfl, rfl, w2⟩ := open_int Try.underlying3 (hval 2 3 v2 rfl rfl) h2
  obtain ⟨a3, rfl, rfl, rfl⟩ := open_bool Try.underlying4 (hval 3 4 v3 rfl rfl) h3
  clear hA0 hval0
  refine (permTells_walk a0 a1 len0 cap0 len1 cap1 l0 l1 a2 a3 W w0 w1).mono fun e W' ⟨he, bel⟩ => ?_
  subst he
  exact ⟨_, rfl, _, _, _, [], _, [], hW', trodAll_mk1 (shut_bool Try.underlying4 _), (trodAll_cons_mk (Below.trod laidOut (by kernel_rfl) (of_decide_eq_true (by kernel_rfl)) k0 bel lt0) (trodAll_cons_mk (Below.trod laidOut (by kernel_rfl) (of_decide_eq_true (by kernel_rfl)) k1 bel lt1) (trodAll_cons_mk (shut_int Try.underlying3 w2) (trodAll_cons_mk (shut_bool Try.underlying4 _) trodAll_mk0)))), rfl, bel.frame _, fun h => by cases h⟩

/-- THE STATEMENT. -/
theorem permTells_holds : Rows.PermTellsSaid :=
  OpenClaim.holds_of_wide 3 Try.f3 rfl rfl rfl rfl rfl rfl rfl ⟨rfl, rfl, rfl, rfl, rfl⟩ rfl rfl rfl rfl rfl (by kernel_rfl) Try.func3 (by kernel_rfl)
    (of_decide_eq_true (by kernel_rfl)) (by unfold Func.isWrapper; first | (rw [if_pos (by decide +kernel)]; kernel_rfl) | (rw [if_neg (by decide +kernel)]; exact ⟨rfl, rfl⟩))
    (fun os started H enc _ => permTells_lifted os started H enc)
#print axioms permTells_holds
end Go.Proofs.Ytajnjghbppcfdaa
