/- The statement PermAt: what stands at a place of a row turned round, with signs, or mirrored, is what stood at its own place: for every input the law returns true. No condition. -/
import Derived.Test.YtajnjghbppcfdaaAtWalk
namespace Go.Proofs.Ytajnjghbppcfdaa
open Go.ChangeShapes Go.WideShapes Go.ChangeAt Go.RowKit
open Go.ChangeMaps (open_string shut_string)

theorem u8_wf {a : Int} (h : (Lit.int .u8 a).wf = true) : 0 ≤ a ∧ a ≤ 255 := by simpa [Lit.wf, IntKind.min, IntKind.max, IntKind.bits, IntKind.signed] using h
theorem permAt_walk (a : Option Addr) (len cap : Nat) (l : List Nat) (at_ : Int) (odd : Bool) (w : World) (hr : RowF w a len cap l) (ha0 : 0 ≤ at_) (ha1 : at_ ≤ 255) : Calls Try.prog 7 #[.slice a len cap, .int .u8 at_, .bool odd] w fun e w' => e = .returned (.bool true) ∧ Below w.heap.size w w' := by
  by_cases h0 : len = 0
  · exact permAt_none a len cap at_ odd w h0
  by_cases h : (len : Int) ≤ 300
  · obtain ⟨k, hk⟩ : ∃ k : Nat, at_ % (len : Int) = (k : Int) := ⟨(at_ % (len : Int)).toNat, by have := Int.emod_nonneg at_ (b := (len : Int)) (by omega); omega⟩
    have hk2 : at_.tmod (len : Int) = (k : Int) := by rw [Int.tmod_eq_emod_of_nonneg ha0]; exact hk
    have hkl : k < len := by have := Int.emod_lt_of_pos at_ (b := (len : Int)) (by omega); omega
    have hp : k % 2 = 0 ∨ k % 2 = 1 := by omega
    by_cases hz : k < 1
    · exact permAt_even_zero a len cap l at_ odd k w hr (by omega) h hk2 hkl ha0 ha1 (by omega) hz
    by_cases hl : k + 1 = len
    · rcases hp with hp | hp
      · exact permAt_even_last a len cap l at_ odd k w hr (by omega) h hk2 hkl ha0 ha1 hp ⟨by omega, hl⟩
      · exact permAt_odd_last a len cap l at_ odd k w hr (by omega) h hk2 hkl ha0 ha1 hp ⟨by omega, hl⟩
    cases odd
    · rcases hp with hp | hp
      · exact permAt_even_inE a len cap l at_ k w hr (by omega) h hk2 hkl ha0 ha1 hp ⟨by omega, by omega⟩
      · exact permAt_odd_inE a len cap l at_ k w hr (by omega) h hk2 hkl ha0 ha1 hp ⟨by omega, by omega⟩
    · rcases hp with hp | hp
      · exact permAt_even_inO a len cap l at_ k w hr (by omega) h hk2 hkl ha0 ha1 hp ⟨by omega, by omega⟩
      · exact permAt_odd_inO a len cap l at_ k w hr (by omega) h hk2 hkl ha0 ha1 hp ⟨by omega, by omega⟩
  · exact permAt_long a len cap at_ odd w (by omega)

set_option maxRecDepth 100000 in
theorem permAt_lifted (os : Os) (started : os.Started) (H : Type) (enc : TypeId × Value → H) :
    ReturnsInHanded {} Try.checked os 7 .any (Rows.permAtSpec.pre6 enc Try.prog Try.f7 Rows.permAtRow.domain false) (Rows.permAtSpec.post enc Try.prog Try.f7 false true false false) := by
  refine returnsInHanded_of_change (C := Try.checked) own started (by kernel_rfl) Try.func7
    (ChangeSpec.witness6 (enc := enc) (C := Try.checked) false ⟨#[], #[.slice none 0 0, .int .u8 0, .bool false], []⟩ 8 (by kernel_rfl) (by kernel_rfl) (by kernel_rfl) (by kernel_rfl)) ?_
  intro W base args ds gs before hval0 hW hcnd _
  have hval : ∀ (j : Nat) t v, Try.f7.params[j]? = some t → args[j]? = some v → Value.okWide Try.prog W .any base t v := hval0
  have hW' := hW
  obtain ⟨p, q, hA0, hV, rfl, hfz, hnd⟩ := hW
  have hA : DataW.TrodAll enc Try.prog W 0 (fun _ => true) true Try.f7.params.toList args.toList ds p := hA0
  rw [Try.params7] at hA hval
  obtain ⟨v0, vs0, d0, ds0, p0, q0, hargs, rfl, rfl, h0, r0⟩ := trodAll_cons hA
  obtain ⟨v1, vs1, d1, ds1, p1, q1, rfl, rfl, rfl, h1, r1⟩ := trodAll_cons r0
  obtain ⟨v2, vs2, d2, ds2, p2, q2, rfl, rfl, rfl, h2, r2⟩ := trodAll_cons r1
  obtain ⟨rfl, rfl, rfl⟩ := trodAll_nil r2
  obtain rfl : args = #[v0, v1, v2] := by cases args; simp_all
  obtain ⟨rfl, rfl⟩ := trodVars_none hV
  have k0 := h0
  have lt0 : ∀ x ∈ p0, x.block < W.heap.size := by obtain ⟨m, hm⟩ := k0; exact DataW.trod_lt m _ _ _ hm
  obtain ⟨a0, len0, cap0, l0, rfl, w0, b0⟩ := open_floats (okWide_slice Try.underlying22 (hval 0 22 v0 rfl rfl)) h0
  obtain ⟨a1, rfl, rfl, rfl, w1⟩ := open_int Try.underlying5 (hval 1 5 v1 rfl rfl) h1
  obtain ⟨a2, rfl, rfl, rfl⟩ := open_bool Try.underlying4 (hval 2 4 v2 rfl rfl) h2
  clear hA0 hval0
  refine (permAt_walk a0 len0 cap0 l0 a1 a2 W w0 (u8_wf w1).1 (u8_wf w1).2).mono fun e W' ⟨he, bel⟩ => ?_
  subst he
  exact ⟨_, rfl, _, _, _, [], _, [], hW', trodAll_mk1 (shut_bool Try.underlying4 _), (trodAll_cons_mk (Below.trod laidOut (by kernel_rfl) (of_decide_eq_true (by kernel_rfl)) k0 bel lt0) (trodAll_cons_mk (shut_int Try.underlying5 w1) (trodAll_cons_mk (shut_bool Try.underlying4 _) trodAll_mk0))), rfl, bel.frame _, fun h => by cases h⟩

/-- THE STATEMENT. -/
theorem permAt_holds : Rows.PermAtSaid :=
  OpenClaim.holds_of_wide 7 Try.f7 rfl rfl rfl rfl rfl rfl rfl ⟨rfl, rfl, rfl, rfl, rfl⟩ rfl rfl rfl rfl rfl (by kernel_rfl) Try.func7 (by kernel_rfl)
    (of_decide_eq_true (by kernel_rfl)) (by unfold Func.isWrapper; first | (rw [if_pos (by decide +kernel)]; kernel_rfl) | (rw [if_neg (by decide +kernel)]; exact ⟨rfl, rfl⟩))
    (fun os started H enc _ => permAt_lifted os started H enc)
#print axioms permAt_holds
end Go.Proofs.Ytajnjghbppcfdaa
