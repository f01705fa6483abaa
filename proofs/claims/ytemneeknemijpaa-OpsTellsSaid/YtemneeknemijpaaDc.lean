/- Cmp, Same of the document's dyadic numbers. No condition but the sizes. -/
import Derived.Test.YtemneeknemijpaaDa
namespace Go.Proofs.Ytemneeknemijpaa
open Go.RowKit

theorem cmpv_sub (x y : Int) : cmpv (x + -y) 0 = cmpv x y := by
  unfold cmpv
  by_cases h1 : x < y
  · rw [if_pos h1, if_pos (by omega)]
  · rw [if_neg h1, if_neg (by omega)]
    by_cases h2 : x = y
    · rw [if_pos h2, if_pos (by omega)]
    · rw [if_neg h2, if_neg (by omega)]

set_option maxHeartbeats 2000000 in
theorem d_cmp {u v : Value} {x y e : Int} {w : World} (hu : IsD w u x e) (hv : IsD w v y e) (hz : (digs (x.natAbs + y.natAbs)).length ≤ 800) (he1 : -100000 ≤ e) (he2 : e ≤ 100000) : Calls Try.prog 35 #[u, v] w (Gets w (cmpv x y)) := by
  have HU := Lib.hid hu
  have HV := Lib.hid hv
  have HZ : Hid ((digs (x.natAbs + (-y).natAbs)).length ≤ 800) := Lib.hid (by rw [Int.natAbs_neg]; exact hz)
  obtain ⟨neg, a, l, c, E, rfl⟩ := hu.shape
  obtain ⟨neg', a', l', c', F, rfl⟩ := hv.shape
  clear hu hv hz
  go_enter Try.func35, Try.ntmps35
  go_wp2_with fail
  obtain ⟨w0, hw0⟩ : ∃ w0, (w.alloc (Obj.cells #[Value.bool neg, Value.slice a l c, Value.int IntKind.i64 E] 35)).alloc (Obj.cells #[Value.bool neg', Value.slice a' l' c', Value.int IntKind.i64 F] 35) = w0 := ⟨_, rfl⟩
  have HB0 : Hid (Below w.heap.size w w0) := Lib.hid (by rw [← hw0]; exact ((Below.refl _ w).alloc (Nat.le_refl _) _).alloc (by simp) _)
  have HS0 : Hid (w0.heap.size = w.heap.size + 2) := Lib.hid (by rw [← hw0]; simp)
  have A0 : Hid (w0.cell? ⟨w.heap.size, 0, none⟩ = some (.bool neg)) := Lib.hid (by rw [← hw0]; simp [go_sem])
  have A1 : Hid (w0.cell? ⟨w.heap.size, 1, none⟩ = some (.slice a l c)) := Lib.hid (by rw [← hw0]; simp [go_sem])
  have A2 : Hid (w0.cell? ⟨w.heap.size, 2, none⟩ = some (.int .i64 E)) := Lib.hid (by rw [← hw0]; simp [go_sem])
  have B0 : Hid (w0.cell? ⟨w.heap.size + 1, 0, none⟩ = some (.bool neg')) := Lib.hid (by rw [← hw0]; simp [go_sem])
  have B1 : Hid (w0.cell? ⟨w.heap.size + 1, 1, none⟩ = some (.slice a' l' c')) := Lib.hid (by rw [← hw0]; simp [go_sem])
  have B2 : Hid (w0.cell? ⟨w.heap.size + 1, 2, none⟩ = some (.int .i64 F)) := Lib.hid (by rw [← hw0]; simp [go_sem])
  rw [hw0]
  clear hw0
  refine wp_region_still (S := Below w0.heap.size w0) (by kernel_rfl) ?_
  have hS0 : Below w0.heap.size w0 w0.drew := (Below.refl _ w0).drew
  refine wpAnyR_take (i := 0) rfl (by kernel_rfl) (by kernel_rfl) (by kernel_rfl) (fun _ _ _ h => h) hS0 (.inl ⟨by kernel_rfl, fun w' hS => (by have yA0 := cell_at hS (by rw [HS0.out]; omega) A0.out; have yA1 := cell_at hS (by rw [HS0.out]; omega) A1.out; have yA2 := cell_at hS (by rw [HS0.out]; omega) A2.out; have yB0 := cell_at hS (by rw [HS0.out]; omega) B0.out; have yB1 := cell_at hS (by rw [HS0.out]; omega) B1.out; have yB2 := cell_at hS (by rw [HS0.out]; omega) B2.out; go_simp; exact ⟨rfl, rfl⟩)⟩) rfl (by go_simp; rfl) ?_
  refine wpAnyR_take (i := 1) rfl (by kernel_rfl) (by kernel_rfl) (by kernel_rfl) (fun _ _ _ h => h) hS0 (.inl ⟨by kernel_rfl, fun w' hS => (by have yA0 := cell_at hS (by rw [HS0.out]; omega) A0.out; have yA1 := cell_at hS (by rw [HS0.out]; omega) A1.out; have yA2 := cell_at hS (by rw [HS0.out]; omega) A2.out; have yB0 := cell_at hS (by rw [HS0.out]; omega) B0.out; have yB1 := cell_at hS (by rw [HS0.out]; omega) B1.out; have yB2 := cell_at hS (by rw [HS0.out]; omega) B2.out; go_simp; exact ⟨rfl, rfl⟩)⟩) rfl (by go_simp; rfl) ?_
  refine wpAnyR_one (i := 2) rfl (by kernel_rfl) rfl rfl ?_
  go_simp
  refine (d_flip (HV.out.below HB0.out.drew)).mono ?_
  rintro e1 w1 ⟨v1, rfl, hv1, hb1⟩
  have HB1 : Hid (Below w0.heap.size w0 w1) := Lib.hid ((Below.refl _ w0).drew.trans hb1)
  have HV1 := Lib.hid hv1
  clear hv1 hb1
  refine ⟨HB1.out, wpAnyR_one (i := 3) rfl (by kernel_rfl) rfl rfl ?_⟩
  go_simp
  refine (d_add ((HU.out.below HB0.out).below HB1.out) HV1.out HZ.out he1 he2).mono ?_
  rintro e2 w2 ⟨v2, rfl, hv2, hb2⟩
  have HB2 : Hid (Below w0.heap.size w0 w2) := Lib.hid (HB1.out.trans (hb2.mono HB1.out.size))
  have HV2 := Lib.hid hv2
  clear hv2 hb2
  refine ⟨HB2.out, wpAnyR_one (i := 4) rfl (by kernel_rfl) rfl rfl ?_⟩
  go_simp
  refine (d_sign HV2.out).mono ?_
  rintro e3 w3 ⟨rfl, hb3⟩
  rw [cmpv_sub]
  have HB3 : Hid (Below w0.heap.size w0 w3) := Lib.hid (HB2.out.trans (hb3.mono HB2.out.size))
  clear hb3
  refine ⟨HB3.out, wpAnyR_one (i := 5) rfl (by kernel_rfl) rfl rfl ?_⟩
  go_simp
  refine ⟨HB3.out, wpAnyR_done (by kernel_rfl) ?_ _⟩
  go_wp2
  go_ret
  exact ⟨rfl, HB0.out.trans (HB3.out.mono HB0.out.size)⟩

theorem d_same_no {u v : Value} {x y e : Int} {w : World} (hu : IsD w u x e) (hv : IsD w v y e) (h : decide (x < 0) ≠ decide (y < 0) ∨ dE x e ≠ dE y e) : Calls Try.prog 50 #[u, v] w (Tells w (decide (x = y))) := by
  have HC : Hid (decide (x = y) = false) := Lib.hid (decide_eq_false (by rintro rfl; rcases h with h | h <;> exact h rfl))
  obtain ⟨a, l, c, rfl, _, _⟩ := hu.parts
  obtain ⟨a', l', c', rfl, _, _⟩ := hv.parts
  obtain ⟨E, hE⟩ : ∃ E, dE x e = E := ⟨_, rfl⟩
  obtain ⟨F, hF⟩ : ∃ F, dE y e = F := ⟨_, rfl⟩
  obtain ⟨neg, hneg⟩ : ∃ neg, decide (x < 0) = neg := ⟨_, rfl⟩
  obtain ⟨neg', hneg'⟩ : ∃ neg', decide (y < 0) = neg' := ⟨_, rfl⟩
  rw [hE, hF, hneg, hneg'] at h ⊢
  clear hu hv hE hF hneg hneg'
  by_cases hn : neg = neg'
  · subst hn
    have h1 : (E == F) = false := beq_false_of_ne (by rcases h with h | h; exact absurd rfl h; exact h)
    have h2 : (neg == neg) = true := beq_self_eq_true _
    clear h
    go_enter Try.func50, Try.ntmps50
    go_wp2
    go_ret
    exact ⟨by rw [HC.out]; rfl, ((Below.refl _ w).alloc (Nat.le_refl _) _).alloc (by simp) _⟩
  · have h2 : (neg == neg') = false := by cases neg <;> cases neg' <;> simp at hn ⊢
    clear h hn
    go_enter Try.func50, Try.ntmps50
    go_wp2
    go_ret
    exact ⟨by rw [HC.out]; rfl, ((Below.refl _ w).alloc (Nat.le_refl _) _).alloc (by simp) _⟩

theorem d_same {u v : Value} {x y e : Int} {w : World} (hu : IsD w u x e) (hv : IsD w v y e) (hx : Sz x) (hy : Sz y) : Calls Try.prog 50 #[u, v] w (Tells w (decide (x = y))) := by
  by_cases h : decide (x < 0) ≠ decide (y < 0) ∨ dE x e ≠ dE y e
  · exact d_same_no hu hv h
  have h3 : decide (x < 0) = decide (y < 0) := Decidable.byContradiction fun h2 => h (.inl h2)
  have h4 : dE x e = dE y e := Decidable.byContradiction fun h2 => h (.inr h2)
  have HC : Hid (decide (dM x = dM y) = decide (x = y)) := Lib.hid (decide_eq_decide.2 ⟨fun h5 => form_inj h3 h5 h4, fun h5 => by rw [h5]⟩)
  have HX8 : Hid ((digs (dM x)).length ≤ 2000) := Lib.hid (Nat.le_trans hx.dM (by decide))
  have HY8 : Hid ((digs (dM y)).length ≤ 2000) := Lib.hid (Nat.le_trans hy.dM (by decide))
  obtain ⟨a, l, c, rfl, _, hs⟩ := hu.parts
  obtain ⟨a', l', c', rfl, _, hs'⟩ := hv.parts
  have HS := Lib.hid hs
  have HS' := Lib.hid hs'
  rw [← h3, ← h4]
  obtain ⟨E, hE⟩ : ∃ E, dE x e = E := ⟨_, rfl⟩
  obtain ⟨neg, hneg⟩ : ∃ neg, decide (x < 0) = neg := ⟨_, rfl⟩
  rw [hE, hneg]
  have h1 : (E == E) = true := beq_self_eq_true _
  have h2 : (neg == neg) = true := beq_self_eq_true _
  clear hu hv hE hneg h h3 h4 hx hy hs hs'
  have HB0 : Hid (Below w.heap.size w ((w.alloc (Obj.cells #[Value.bool neg, Value.slice a l c, Value.int IntKind.i64 E] 35)).alloc (Obj.cells #[Value.bool neg, Value.slice a' l' c', Value.int IntKind.i64 E] 35))) := Lib.hid (((Below.refl _ w).alloc (Nat.le_refl _) _).alloc (by simp) _)
  go_enter Try.func50, Try.ntmps50
  go_wp2_with fail
  refine (n_same (HS.out.below HB0.out) (HS'.out.below HB0.out) HX8.out HY8.out).mono ?_
  rintro e1 w1 ⟨rfl, hb1⟩
  have HB1 := Lib.hid hb1
  rw [HC.out]
  clear hb1
  go_wp2
  go_ret
  exact ⟨rfl, HB0.out.trans (HB1.out.mono HB0.out.size)⟩
end Go.Proofs.Ytemneeknemijpaa
