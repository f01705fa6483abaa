/- The statement PermZip: of two rows that are put together these are the even and the odd ones: for every two rows the law returns true. No condition. -/
import Derived.Test.YtajnjghbppcfdaaZipWalk
namespace Go.Proofs.Ytajnjghbppcfdaa
open Go.ChangeShapes Go.WideShapes Go.ChangeAt Go.RowKit
open Go.ChangeMaps (open_string shut_string)

theorem permZip_walk (a a' : Option Addr) (len cap len' cap' : Nat) (l l' : List Nat) (w : World) (hr : RowF w a len cap l) (hr' : RowF w a' len' cap' l') : Calls Try.prog 5 #[.slice a len cap, .slice a' len' cap'] w fun e w' => e = .returned (.bool true) ∧ Below w.heap.size w w' := by
  by_cases h : (len : Int) ≤ 300
  · by_cases h' : (len' : Int) ≤ 300
    · by_cases h1 : len = len'
      · exact permZip_eq a a' len cap len' cap' l l' w hr hr' h h' h1
      · by_cases h2 : len = len' + 1
        · exact permZip_suc a a' len cap len' cap' l l' w hr hr' h h' h2
        · exact permZip_no a a' len cap len' cap' l l' w hr hr' h h' (by omega)
    · exact permZip_long2 a a' len cap len' cap' w h (by omega)
  · exact permZip_long a a' len cap len' cap' w (by omega)

set_option maxRecDepth 100000 in
theorem permZip_lifted (os : Os) (started : os.Started) (H : Type) (enc : TypeId × Value → H) :
    ReturnsInHanded {} Try.checked os 5 .any (Rows.permZipSpec.pre6 enc Try.prog Try.f5 Rows.permZipRow.domain false) (Rows.permZipSpec.post enc Try.prog Try.f5 false true false false) := by
  refine returnsInHanded_of_change (C := Try.checked) own started (by kernel_rfl) Try.func5
    (ChangeSpec.witness6 (enc := enc) (C := Try.checked) false ⟨#[], #[.slice none 0 0, .slice none 0 0], []⟩ 8 (by kernel_rfl) (by kernel_rfl) (by kernel_rfl) (by kernel_rfl)) ?_
  intro W base args ds gs before hval0 hW hcnd _
  have hval : ∀ (j : Nat) t v, Try.f5.params[j]? = some t → args[j]? = some v → Value.okWide Try.prog W .any base t v := hval0
  have hW' := hW
  obtain ⟨p, q, hA0, hV, rfl, hfz, hnd⟩ := hW
  have hA : DataW.TrodAll enc Try.prog W 0 (fun _ => true) true Try.f5.params.toList args.toList ds p := hA0
  rw [Try.params5] at hA hval
  obtain ⟨v0, vs0, d0, ds0, p0, q0, hargs, rfl, rfl, h0, r0⟩ := trodAll_cons hA
  obtain ⟨v1, vs1, d1, ds1, p1, q1, rfl, rfl, rfl, h1, r1⟩ := trodAll_cons r0
  obtain ⟨rfl, rfl, rfl⟩ := trodAll_nil r1
  obtain rfl : args = #[v0, v1] := by cases args; simp_all
  obtain ⟨rfl, rfl⟩ := trodVars_none hV
  have k0 := h0
  have lt0 : ∀ x ∈ p0, x.block < W.heap.size := by obtain ⟨m, hm⟩ := k0; exact DataW.trod_lt m _ _ _ hm
  obtain ⟨a0, len0, cap0, l0, rfl, w0, b0⟩ := open_floats (okWide_slice Try.underlying22 (hval 0 22 v0 rfl rfl)) h0
  have k1 := h1
  have lt1 : ∀ x ∈ p1, x.block < W.heap.size := by obtain ⟨m, hm⟩ := k1; exact DataW.trod_lt m _ _ _ hm
  obtain ⟨a1, len1, cap1, l1, rfl, w1, b1⟩ := open_floats (okWide_slice Try.underlying22 (hval 1 22 v1 rfl rfl)) h1
  clear hA0 hval0
  refine (permZip_walk a0 a1 len0 cap0 len1 cap1 l0 l1 W w0 w1).mono fun e W' ⟨he, bel⟩ => ?_
  subst he
  exact ⟨_, rfl, _, _, _, [], _, [], hW', trodAll_mk1 (shut_bool Try.underlying4 _), (trodAll_cons_mk (Below.trod laidOut (by kernel_rfl) (of_decide_eq_true (by kernel_rfl)) k0 bel lt0) (trodAll_cons_mk (Below.trod laidOut (by kernel_rfl) (of_decide_eq_true (by kernel_rfl)) k1 bel lt1) trodAll_mk0)), rfl, bel.frame _, fun h => by cases h⟩

/-- THE STATEMENT. -/
theorem permZip_holds : Rows.PermZipSaid :=
  OpenClaim.holds_of_wide 5 Try.f5 rfl rfl rfl rfl rfl rfl rfl ⟨rfl, rfl, rfl, rfl, rfl⟩ rfl rfl rfl rfl rfl (by kernel_rfl) Try.func5 (by kernel_rfl)
    (of_decide_eq_true (by kernel_rfl)) (by unfold Func.isWrapper; first | (rw [if_pos (by decide +kernel)]; kernel_rfl) | (rw [if_neg (by decide +kernel)]; exact ⟨rfl, rfl⟩))
    (fun os started H enc _ => permZip_lifted os started H enc)
#print axioms permZip_holds
end Go.Proofs.Ytajnjghbppcfdaa
