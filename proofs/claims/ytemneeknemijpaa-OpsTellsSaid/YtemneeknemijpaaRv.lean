/- The document's scalings and roots of any floats: contracts; ops.Scale of any float. The powers are at most 5000, either way. -/
import Derived.Test.YtemneeknemijpaaRw
import Derived.Test.YtemneeknemijpaaRq
set_option maxRecDepth 100000
namespace Go.Proofs.Ytemneeknemijpaa
open Go.RowKit

/-- a float that is not finite is handed back -/
theorem ldexp_same (x : Nat) (k : Int) (hx : x < 2 ^ 64) (h : ¬ Fl.Fin x) (w : World) : Calls Try.prog 83 #[F x, .int .i64 k] w fun e w' => e = .returned (F x) ∧ w = w' := by
  have HX := Lib.hid hx
  rcases Fl.kinds hx with hk | ⟨hk, hk2⟩ | hk
  · have o1 : FloatKind.f64.format.order x 0 = none := Fl.ord_nan_left hk _
    have o2 : FloatKind.f64.format.order x x = none := Fl.ord_nan_left hk _
    have HG : Hid (FloatKind.f64.format.order (Fl.rg x) 9218868437227405311 = none) := Lib.hid (Fl.ord_nan_left (by
      have h2 : ¬ Fl.rg x < 2047 * 2 ^ 52 := fun h3 => h ⟨hx, h3⟩
      have hn := hk
      unfold Fl.isNaN Ieee.Format.read at hn ⊢
      simp only [Fl.signWeight, Fl.binade, Fl.infRung] at hn ⊢
      have e : Fl.rg x % 2 ^ 63 = x % 2 ^ 63 := by unfold Fl.rg; omega
      rw [e]
      unfold Fl.rg at h2
      rw [if_neg (by omega), if_neg h2] at hn ⊢
      split at hn
      · cases hn
      · rename_i h4; rw [if_neg h4]; rfl) _)
    clear hx h hk
    go_enter Try.func83, Try.ntmps83
    go_wp2_with fail
    have hinf : Calls Try.prog 86 #[F x, .int .i64 0] w fun e w' => e = .returned (.bool false) ∧ w = w' := by
      have hg := HG.out
      go_enter Try.func86, Try.ntmps86
      go_wp2_with fail
      refine (m_abs _ HX.out _).mono ?_
      rintro e w' ⟨rfl, rfl⟩
      go_wp2
      go_ret
      exact ⟨rfl, rfl⟩
    refine hinf.mono ?_
    rintro e w' ⟨rfl, rfl⟩
    go_wp2_with fail
    have hnan : Calls Try.prog 87 #[F x] w fun e w' => e = .returned (.bool true) ∧ w = w' := by
      go_enter Try.func87, Try.ntmps87
      go_wp2
      go_ret
      exact ⟨rfl, rfl⟩
    refine hnan.mono ?_
    rintro e w' ⟨rfl, rfl⟩
    go_wp2
    go_ret
    exact ⟨rfl, rfl⟩
  · have o1 : FloatKind.f64.format.order x 0 = some (if Fl.sg x then .lt else .gt) := Fl.order_inf _ hk Fl.fin0
    have HG : Hid (FloatKind.f64.format.order (Fl.rg x) 9218868437227405311 = some .gt) := Lib.hid (by
      have e : Fl.rg x = Fl.D.word false (2047 * 2 ^ 52) := by
        rw [hk2, Fl.rg_word _ (by decide)]; decide
      rw [e]; decide +kernel)
    clear h hk hk2 hx
    have o2 : (FloatKind.f64.format.order x 0 == some .eq) = false := by rw [o1]; cases Fl.sg x <;> rfl
    clear o1
    go_enter Try.func83, Try.ntmps83
    go_wp2_with fail
    have hinf : Calls Try.prog 86 #[F x, .int .i64 0] w fun e w' => e = .returned (.bool true) ∧ w = w' := by
      have hg := HG.out
      go_enter Try.func86, Try.ntmps86
      go_wp2_with fail
      refine (m_abs _ HX.out _).mono ?_
      rintro e w' ⟨rfl, rfl⟩
      go_wp2
      go_ret
      exact ⟨rfl, rfl⟩
    refine hinf.mono ?_
    rintro e w' ⟨rfl, rfl⟩
    go_wp2
    go_ret
    exact ⟨rfl, rfl⟩
  · exact absurd hk h
theorem ops_scale_same (x : Nat) (k : Int) (hx : x < 2 ^ 64) (h : ¬ Fl.Fin x) (w : World) : Calls Try.prog 47 #[F x, .int .i64 k] w fun e w' => e = .returned (F x) ∧ w = w' := by
  have H1 := Lib.hid (fun w => ldexp_same x k hx h w)
  clear hx h
  have H2 : Hid (∀ w, Calls Try.prog 69 #[F x, .int .i64 k] w fun e w' => e = .returned (F x) ∧ w = w') := Lib.hid (fun w => by
    go_enter Try.func69, Try.ntmps69
    go_wp2_with fail
    refine (H1.out w).mono ?_
    rintro e w' ⟨rfl, rfl⟩
    go_wp2
    go_ret
    exact ⟨rfl, rfl⟩)
  go_enter Try.func47, Try.ntmps47
  go_wp2_with fail
  refine (H2.out w).mono ?_
  rintro e w' ⟨rfl, rfl⟩
  go_wp2
  go_ret
  exact ⟨rfl, rfl⟩

set_option maxHeartbeats 2000000 in
theorem r_scale_no (a : Nat) (k : Int) (hx : a < 2 ^ 64) (h : ¬ Fl.Fin a) (w : World) : Calls Try.prog 48 #[F a, .int .i64 k] w (GivesA a w) := by
  have HX := Lib.hid hx
  have HF : Hid (Fl.isFin a = false) := Lib.hid (decide_eq_false (fun h2 => h ⟨hx, h2⟩))
  clear hx h
  go_enter Try.func48, Try.ntmps48
  have HB : Hid (Below w.heap.size w w) := Lib.hid (Below.refl _ _)
  go_wp2_with fail
  refine (f_of a HX.out _).mono ?_
  rintro e w1 ⟨v1, rfl, hv1, hb1⟩
  obtain ⟨n_a, a_a, l_a, k_a, E_a, rfl⟩ := hv1.shape
  have HB := Lib.hid (below_next HB.out hb1)
  have Da := Lib.hid hv1
  clear hv1 hb1
  obtain ⟨oka, hi1⟩ : ∃ i, Fl.isFin a = i := ⟨_, rfl⟩
  rw [hi1]
  have Ia := Lib.hid hi1
  clear hi1
  obtain rfl : oka = false := Ia.out.symm.trans HF.out
  go_wp2
  go_ret
  exact ⟨_, rfl, Fl.same_refl _, below_next HB.out (below_alloc _ _)⟩

set_option maxHeartbeats 2000000 in
theorem r_scale (a : Nat) (k : Int) (h : Fl.Fin a) (hk1 : -5000 ≤ k) (hk2 : k ≤ 5000) (w : World) : Calls Try.prog 48 #[F a, .int .i64 k] w (GivesA (Fl.scal a k) w) := by
  have HF := Lib.hid h
  have HOK : Hid (Fl.isFin a = true) := Lib.hid (decide_eq_true h.2)
  have HV := Lib.hid (Fl.VV_fin h.2)
  clear h
  go_enter Try.func48, Try.ntmps48
  have HB : Hid (Below w.heap.size w w) := Lib.hid (Below.refl _ _)
  go_wp2_with fail
  refine (f_of a HF.out.1 _).mono ?_
  rintro e w1 ⟨v1, rfl, hv1, hb1⟩
  rw [HOK.out]
  rw [HV.out] at hv1
  obtain ⟨aa, l, c, rfl, _, hs⟩ := hv1.parts
  have hsz : Sz (Fl.V a) := by have := (bd_VV a).sz (by decide); rwa [HV.out] at this
  have HM8 := Lib.hid hsz.dM
  obtain ⟨hE1, hE2⟩ := hsz.dE (e := -1074) (by decide) (by decide)
  have HS := Lib.hid hs
  have HB := Lib.hid (HB.out.trans (hb1.mono HB.out.size))
  have HSC : Hid (∀ x, Fl.NearSo (decide (Fl.V a < 0)) (dM (Fl.V a)) (dE (Fl.V a) (-1074) + k) x → Fl.same (Fl.scal a k) x = true) := Lib.hid (fun x hx => Fl.scal_same hx)
  obtain ⟨E, hE⟩ : ∃ E, dE (Fl.V a) (-1074) = E := ⟨_, rfl⟩
  obtain ⟨neg, hneg⟩ : ∃ neg, decide (Fl.V a < 0) = neg := ⟨_, rfl⟩
  have ht := hsz.tz
  have hE3 : -1074 ≤ E ∨ E = 0 := by rw [← hE]; unfold dE; split <;> omega
  rw [hE] at hE1 hE2 HSC ⊢
  rw [hneg] at HSC ⊢
  have hE4 : -1074 ≤ E := by omega
  clear hv1 hs hsz hb1 hE hneg ht hE3
  go_wp2_with fail
  refine (f_near neg (HS.out.below (below_alloc _ _)) HM8.out (by omega) (by omega)).mono ?_
  rintro e w2 ⟨x, rfl, hx, hb⟩
  have HX := Lib.hid (HSC.out x hx)
  have HB2 := Lib.hid (below_next (below_next HB.out (below_alloc _ _)) hb)
  clear hx hb
  go_wp2
  go_ret
  exact ⟨_, rfl, HX.out, HB2.out⟩

end Go.Proofs.Ytemneeknemijpaa
