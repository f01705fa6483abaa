/- Mul of the document's dyadic numbers. No condition but the sizes. -/
import Derived.Test.YtemneeknemijpaaDf
namespace Go.Proofs.Ytemneeknemijpaa
open Go.RowKit

theorem sgz_mulmul (a b : Bool) (m n p q : Nat) : sgz (a != b) (m * n) * ((p * q : Nat) : Int) = (sgz a m * (p : Int)) * (sgz b n * (q : Int)) := by
  unfold sgz
  cases a <;> cases b <;> simp [Int.natCast_mul, Int.neg_mul, Int.mul_neg] <;> ac_rfl
/-- what is made of two numbers' product -/
theorem IsD.mulMade {w : World} {v : Value} {x y e f : Int} (h : IsD w v (sgz (decide (x < 0) != decide (y < 0)) (dM x * dM y)) (dE x e + dE y f)) : IsD w v (x * y) (e + f) := by
  by_cases hx : x = 0
  · subst hx
    rw [dM_zero, Nat.zero_mul, sgz_zero] at h
    rw [Int.zero_mul]
    exact isD_zero _ h
  by_cases hy : y = 0
  · subst hy
    rw [dM_zero, Nat.mul_zero, sgz_zero] at h
    rw [Int.mul_zero]
    exact isD_zero _ h
  have h1 := (isD_shift w v (sgz (decide (x < 0) != decide (y < 0)) (dM x * dM y)) (e + f) (tz x.natAbs + tz y.natAbs))
  have h2 : sgz (decide (x < 0) != decide (y < 0)) (dM x * dM y) * ((2 ^ (tz x.natAbs + tz y.natAbs) : Nat) : Int) = x * y := by
    rw [Nat.pow_add, sgz_mulmul, z_canon, z_canon]
  rw [h2] at h1
  refine h1.2 ?_
  have h3 : dE x e + dE y f = e + f + ((tz x.natAbs + tz y.natAbs : Nat) : Int) := by unfold dE; rw [if_neg hx, if_neg hy]; push_cast; omega
  rwa [h3] at h

set_option maxHeartbeats 2000000 in
theorem d_mul {u v : Value} {x y e f : Int} {w : World} (hu : IsD w u x e) (hv : IsD w v y f) (hx : Sz x) (hy : Sz y) (hxy : Sz (x * y)) (he1 : -100000 ≤ e) (he2 : e ≤ 100000) (hf1 : -100000 ≤ f) (hf2 : f ≤ 100000) : Calls Try.prog 34 #[u, v] w (MakesD w (x * y) (e + f)) := by
  have HMD : Hid (∀ W z, IsD W z (sgz (decide (x < 0) != decide (y < 0)) (dM x * dM y)) (dE x e + dE y f) → IsD W z (x * y) (e + f)) := Lib.hid (fun _ _ => IsD.mulMade)
  obtain ⟨hE1, hE2⟩ := hx.dE he1 he2
  obtain ⟨hF1, hF2⟩ := hy.dE hf1 hf2
  have HX8 : Hid ((digs (dM x)).length ≤ 2000) := Lib.hid (Nat.le_trans hx.dM (by decide))
  have HY8 : Hid ((digs (dM y)).length ≤ 2000) := Lib.hid (Nat.le_trans hy.dM (by decide))
  have HXY8 : Hid ((digs (dM x * dM y)).length ≤ 800) := Lib.hid (Nat.le_trans (digs_mono (by rw [Int.natAbs_mul]; exact Nat.mul_le_mul (od_le _) (od_le _))) hxy)
  obtain ⟨a, l, c, rfl, hl, hs⟩ := hu.parts
  obtain ⟨a', l', c', rfl, hl', hs'⟩ := hv.parts
  have HS := Lib.hid hs
  have HS' := Lib.hid hs'
  obtain ⟨E, hE⟩ : ∃ E, dE x e = E := ⟨_, rfl⟩
  obtain ⟨F, hF⟩ : ∃ F, dE y f = F := ⟨_, rfl⟩
  obtain ⟨neg, hneg⟩ : ∃ neg, decide (x < 0) = neg := ⟨_, rfl⟩
  obtain ⟨neg', hneg'⟩ : ∃ neg', decide (y < 0) = neg' := ⟨_, rfl⟩
  rw [hE, hF, hneg, hneg'] at HMD
  rw [hE] at hE1 hE2 ⊢
  rw [hF] at hF1 hF2 ⊢
  rw [hneg, hneg']
  clear hs hs' hl hl' hE hF hneg hneg' hu hv hx hy hxy
  have hwr : IntKind.i64.wrap (E + F) = E + F := by rw [IntKind.wrap_i64]; omega
  go_enter Try.func34, Try.ntmps34
  go_wp2_with fail
  obtain ⟨w0, hw0⟩ : ∃ w0, ((w.alloc (Obj.cells #[Value.bool neg, Value.slice a l c, Value.int IntKind.i64 E] 35)).alloc (Obj.cells #[Value.bool neg', Value.slice a' l' c', Value.int IntKind.i64 F] 35)).alloc (Obj.cells #[Value.bool false, Value.slice none 0 0, Value.int IntKind.i64 0] 35) = w0 := ⟨_, rfl⟩
  have HB0 : Hid (Below w.heap.size w w0) := Lib.hid (by rw [← hw0]; exact (((Below.refl _ w).alloc (Nat.le_refl _) _).alloc (by simp) _).alloc (by simp <;> omega) _)
  have HBX0 : Hid (Box w0 (w.heap.size + 1 + 1)) := Lib.hid (by have := box_alloc ((w.alloc (Obj.cells #[Value.bool neg, Value.slice a l c, Value.int IntKind.i64 E] 35)).alloc (Obj.cells #[Value.bool neg', Value.slice a' l' c', Value.int IntKind.i64 F] 35)); rw [show boxed _ = w0 from hw0] at this; simpa using this)
  have HS0 : Hid (w0.heap.size = w.heap.size + 3) := Lib.hid (by rw [← hw0]; simp)
  have A0 : Hid (w0.cell? ⟨w.heap.size, 0, none⟩ = some (.bool neg)) := Lib.hid (by rw [← hw0]; simp [go_sem])
  have A1 : Hid (w0.cell? ⟨w.heap.size, 1, none⟩ = some (.slice a l c)) := Lib.hid (by rw [← hw0]; simp [go_sem])
  have A2 : Hid (w0.cell? ⟨w.heap.size, 2, none⟩ = some (.int .i64 E)) := Lib.hid (by rw [← hw0]; simp [go_sem])
  have B0 : Hid (w0.cell? ⟨w.heap.size + 1, 0, none⟩ = some (.bool neg')) := Lib.hid (by rw [← hw0]; simp [go_sem])
  have B1 : Hid (w0.cell? ⟨w.heap.size + 1, 1, none⟩ = some (.slice a' l' c')) := Lib.hid (by rw [← hw0]; simp [go_sem])
  have B2 : Hid (w0.cell? ⟨w.heap.size + 1, 2, none⟩ = some (.int .i64 F)) := Lib.hid (by rw [← hw0]; simp [go_sem])
  rw [hw0]
  clear hw0
  refine wp_region_still (S := Below (w.heap.size + 1 + 1) w0) (by kernel_rfl) ?_
  have hS0 : Below (w.heap.size + 1 + 1) w0 w0.drew := (Below.refl _ w0).drew
  refine wpAnyR_take (i := 0) rfl (by kernel_rfl) (by kernel_rfl) (by kernel_rfl) (fun _ _ _ h => h) hS0 (.inl ⟨by kernel_rfl, fun w' hS => (by have yA0 := cell_at hS (by omega) A0.out; have yA1 := cell_at hS (by omega) A1.out; have yA2 := cell_at hS (by omega) A2.out; have yB0 := cell_at hS (by omega) B0.out; have yB1 := cell_at hS (by omega) B1.out; have yB2 := cell_at hS (by omega) B2.out; go_simp; exact ⟨rfl, rfl⟩)⟩) rfl (by go_simp; rfl) ?_
  refine wpAnyR_take (i := 1) rfl (by kernel_rfl) (by kernel_rfl) (by kernel_rfl) (fun _ _ _ h => h) hS0 (.inl ⟨by kernel_rfl, fun w' hS => (by have yA0 := cell_at hS (by omega) A0.out; have yA1 := cell_at hS (by omega) A1.out; have yA2 := cell_at hS (by omega) A2.out; have yB0 := cell_at hS (by omega) B0.out; have yB1 := cell_at hS (by omega) B1.out; have yB2 := cell_at hS (by omega) B2.out; go_simp; exact ⟨rfl, rfl⟩)⟩) rfl (by go_simp; rfl) ?_
  refine wpAnyR_take (i := 2) rfl (by kernel_rfl) (by kernel_rfl) (by kernel_rfl) (fun _ _ _ h => h) hS0 (.inl ⟨by kernel_rfl, fun w' hS => (by have yA0 := cell_at hS (by omega) A0.out; have yA1 := cell_at hS (by omega) A1.out; have yA2 := cell_at hS (by omega) A2.out; have yB0 := cell_at hS (by omega) B0.out; have yB1 := cell_at hS (by omega) B1.out; have yB2 := cell_at hS (by omega) B2.out; go_simp; exact ⟨rfl, rfl⟩)⟩) rfl (by go_simp; rfl) ?_
  refine wpAnyR_take (i := 3) rfl (by kernel_rfl) (by kernel_rfl) (by kernel_rfl) (fun _ _ _ h => h) hS0 (.inl ⟨by kernel_rfl, fun w' hS => (by have yA0 := cell_at hS (by omega) A0.out; have yA1 := cell_at hS (by omega) A1.out; have yA2 := cell_at hS (by omega) A2.out; have yB0 := cell_at hS (by omega) B0.out; have yB1 := cell_at hS (by omega) B1.out; have yB2 := cell_at hS (by omega) B2.out; go_simp; exact ⟨rfl, rfl⟩)⟩) rfl (by go_simp; rfl) ?_
  refine wpAnyR_take (i := 4) rfl (by kernel_rfl) (by kernel_rfl) (by kernel_rfl) (fun _ _ _ h => h) hS0 (.inl ⟨by kernel_rfl, fun w' hS => (by have yA0 := cell_at hS (by omega) A0.out; have yA1 := cell_at hS (by omega) A1.out; have yA2 := cell_at hS (by omega) A2.out; have yB0 := cell_at hS (by omega) B0.out; have yB1 := cell_at hS (by omega) B1.out; have yB2 := cell_at hS (by omega) B2.out; go_simp; exact ⟨rfl, rfl⟩)⟩) rfl (by go_simp; rfl) ?_
  refine wpAnyR_take (i := 5) rfl (by kernel_rfl) (by kernel_rfl) (by kernel_rfl) (fun _ _ _ h => h) hS0 (.inl ⟨by kernel_rfl, fun w' hS => (by have yA0 := cell_at hS (by omega) A0.out; have yA1 := cell_at hS (by omega) A1.out; have yA2 := cell_at hS (by omega) A2.out; have yB0 := cell_at hS (by omega) B0.out; have yB1 := cell_at hS (by omega) B1.out; have yB2 := cell_at hS (by omega) B2.out; go_simp; exact ⟨rfl, rfl⟩)⟩) rfl (by go_simp; rfl) ?_
  refine wpAnyR_take (i := 6) rfl (by kernel_rfl) (by kernel_rfl) (by kernel_rfl) (fun _ _ _ h => h) hS0 (.inl ⟨by kernel_rfl, fun w' hS => (by have yA0 := cell_at hS (by omega) A0.out; have yA1 := cell_at hS (by omega) A1.out; have yA2 := cell_at hS (by omega) A2.out; have yB0 := cell_at hS (by omega) B0.out; have yB1 := cell_at hS (by omega) B1.out; have yB2 := cell_at hS (by omega) B2.out; go_simp; exact ⟨rfl, rfl⟩)⟩) rfl (by go_simp; rfl) ?_
  refine wpAnyR_take (i := 7) rfl (by kernel_rfl) (by kernel_rfl) (by kernel_rfl) (fun _ _ _ h => h) hS0 (.inl ⟨by kernel_rfl, fun w' hS => (by have yA0 := cell_at hS (by omega) A0.out; have yA1 := cell_at hS (by omega) A1.out; have yA2 := cell_at hS (by omega) A2.out; have yB0 := cell_at hS (by omega) B0.out; have yB1 := cell_at hS (by omega) B1.out; have yB2 := cell_at hS (by omega) B2.out; go_simp; exact ⟨rfl, rfl⟩)⟩) rfl (by go_simp; rfl) ?_
  refine wpAnyR_take (i := 8) rfl (by kernel_rfl) (by kernel_rfl) (by kernel_rfl) (fun _ _ _ h => h) hS0 (.inl ⟨by kernel_rfl, fun w' hS => (by have yA0 := cell_at hS (by omega) A0.out; have yA1 := cell_at hS (by omega) A1.out; have yA2 := cell_at hS (by omega) A2.out; have yB0 := cell_at hS (by omega) B0.out; have yB1 := cell_at hS (by omega) B1.out; have yB2 := cell_at hS (by omega) B2.out; go_simp; exact ⟨rfl, rfl⟩)⟩) rfl (by go_simp; rfl) ?_
  refine wpAnyR_take (i := 10) rfl (by kernel_rfl) (by kernel_rfl) (by kernel_rfl) (fun _ _ _ h => h) hS0 (.inl ⟨by kernel_rfl, fun w' hS => (by have yA0 := cell_at hS (by omega) A0.out; have yA1 := cell_at hS (by omega) A1.out; have yA2 := cell_at hS (by omega) A2.out; have yB0 := cell_at hS (by omega) B0.out; have yB1 := cell_at hS (by omega) B1.out; have yB2 := cell_at hS (by omega) B2.out; go_simp; exact ⟨rfl, rfl⟩)⟩) rfl (by go_simp; rfl) ?_
  refine wpAnyR_take (i := 11) rfl (by kernel_rfl) (by kernel_rfl) (by kernel_rfl) (fun _ _ _ h => h) hS0 (.inl ⟨by kernel_rfl, fun w' hS => (by have yA0 := cell_at hS (by omega) A0.out; have yA1 := cell_at hS (by omega) A1.out; have yA2 := cell_at hS (by omega) A2.out; have yB0 := cell_at hS (by omega) B0.out; have yB1 := cell_at hS (by omega) B1.out; have yB2 := cell_at hS (by omega) B2.out; go_simp; exact ⟨rfl, rfl⟩)⟩) rfl (by go_simp; rfl) ?_
  refine wpAnyR_take (i := 12) rfl (by kernel_rfl) (by kernel_rfl) (by kernel_rfl) (fun _ _ _ h => h) hS0 (.inl ⟨by kernel_rfl, fun w' hS => (by have yA0 := cell_at hS (by omega) A0.out; have yA1 := cell_at hS (by omega) A1.out; have yA2 := cell_at hS (by omega) A2.out; have yB0 := cell_at hS (by omega) B0.out; have yB1 := cell_at hS (by omega) B1.out; have yB2 := cell_at hS (by omega) B2.out; go_simp; exact ⟨rfl, rfl⟩)⟩) rfl (by go_simp; rfl) ?_
  refine wpAnyR_take (i := 13) rfl (by kernel_rfl) (by kernel_rfl) (by kernel_rfl) (fun _ _ _ h => h) hS0 (.inl ⟨by kernel_rfl, fun w' hS => (by have yA0 := cell_at hS (by omega) A0.out; have yA1 := cell_at hS (by omega) A1.out; have yA2 := cell_at hS (by omega) A2.out; have yB0 := cell_at hS (by omega) B0.out; have yB1 := cell_at hS (by omega) B1.out; have yB2 := cell_at hS (by omega) B2.out; go_simp; exact ⟨rfl, rfl⟩)⟩) rfl (by go_simp; rfl) ?_
  refine wpAnyR_take (i := 14) rfl (by kernel_rfl) (by kernel_rfl) (by kernel_rfl) (fun _ _ _ h => h) hS0 (.inl ⟨by kernel_rfl, fun w' hS => (by have yA0 := cell_at hS (by omega) A0.out; have yA1 := cell_at hS (by omega) A1.out; have yA2 := cell_at hS (by omega) A2.out; have yB0 := cell_at hS (by omega) B0.out; have yB1 := cell_at hS (by omega) B1.out; have yB2 := cell_at hS (by omega) B2.out; go_simp; exact ⟨rfl, rfl⟩)⟩) rfl (by go_simp; rfl) ?_
  refine wpAnyR_one (i := 9) rfl (by kernel_rfl) rfl rfl ?_
  go_simp
  refine (n_mul (HS.out.below (HB0.out.drew)) (HS'.out.below (HB0.out.drew)) HX8.out HY8.out).mono ?_
  rintro e1 w1 ⟨v1, rfl, hv1, hb1⟩
  have HB1 : Hid (Below w0.heap.size w0 w1) := Lib.hid ((Below.refl _ w0).drew.trans hb1)
  have HV1 := Lib.hid hv1
  have HM1 : Hid (w.heap.size + 1 + 1 ≤ w0.heap.size) := Lib.hid (by rw [HS0.out]; omega)
  clear hv1 hb1
  refine ⟨HB1.out.mono HM1.out, wpAnyR_one (i := 15) rfl (by kernel_rfl) rfl rfl ?_⟩
  go_simp
  refine (d_make (neg != neg') HV1.out HXY8.out (by omega) (by omega)).mono ?_
  rintro e2 w2 ⟨v2, rfl, hv2, hb2⟩
  have HB2 : Hid (Below w0.heap.size w0 w2) := Lib.hid (HB1.out.trans (hb2.mono HB1.out.size))
  obtain ⟨n1, a1, l1, k1, E1, rfl⟩ := hv2.shape
  have HBw : Hid (Below w.heap.size w w2) := Lib.hid (HB0.out.trans (HB2.out.mono HB0.out.size))
  have BX := Lib.hid (HBX0.out.below HB2.out (by rw [HS0.out]; omega))
  obtain ⟨c0, c1, c2, _, f0, f1, f2⟩ := BX.out
  have HN := Lib.hid (fun x y u => HMD.out _ _ (BX.out.keepD hv2 x y u))
  have HSz : Hid (w0.heap.size ≤ w.heap.size + 1 + 1 + 1) := Lib.hid (by rw [HS0.out]; omega)
  clear hv2 hb2
  refine ⟨HB2.out.mono HM1.out, wpAnyR_one (i := 16) rfl (by kernel_rfl) rfl rfl ?_⟩
  go_simp
  refine ⟨Box.keepB (HB2.out.mono HM1.out) (by omega) _ _ _, wpAnyR_done (by kernel_rfl) ?_ _⟩
  go_wp2
  refine bodyPost_ret (v := Dv n1 (.slice a1 l1 k1) E1) (by simp [results, Try.results34, go_sem, c0, c1, c2]) rfl ⟨_, rfl, HN.out _ _ _, Box.keepB HBw.out (by omega) _ _ _⟩
end Go.Proofs.Ytemneeknemijpaa
