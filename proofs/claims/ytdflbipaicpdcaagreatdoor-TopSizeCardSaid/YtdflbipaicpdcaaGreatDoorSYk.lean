/- A region that draws, with a variable of its own made at any moment: what it leaves is told by a relation. The document's dyadic numbers: where a product's, and a sum's, row lies. Cmp, Same of the document's dyadic numbers. No condition but the sizes. No condition. -/
import Derived.Test.YtdflbipaicpdcaaGreatDoorSYf
set_option linter.unusedVariables false
set_option linter.unusedSimpArgs false
namespace Go.Proofs.YtdflbipaicpdcaaGreatDoor
open Go Go.RowKit

section
variable {P : Program} {ops : Array Oper} {Q : Exit → Act → World → Prop} {md : Region.Mode} {S : World → Prop}
/-- One alone is ready, and its guard lets it in. -/
theorem wpAnyR_oneG {i : Nat} {oi : Oper} {fuel : Nat} {listed listed' : Array Bool} {a : Act} {w : World} (hi : ops[i]? = some oi) (hr : Region.ready md ops listed = [i])
    (hw : Region.wanted oi (yielded ops a.tmps) = true) (hl : listed.setIfInBounds i true = listed')
    (h : Oper.wp P oi a w (fun a' w' => S w' ∧ wpAnyR P md ops Q S fuel listed' a' w') Q) : wpAnyR P md ops Q S (fuel + 1) listed a w := by
  subst hl
  refine ⟨fun h0 => (by rw [hr] at h0; cases h0), fun j hj => ?_⟩
  rw [hr, List.mem_singleton] at hj
  subst hj
  unfold Go.wpOp
  simp only [hi]
  simp only [hw, if_true]
  exact .inl h
/-- what a region leaves -/
def cutQ (R : Act → World → Prop) (Q : Exit → Act → World → Prop) : Exit → Act → World → Prop := fun x a w => match x with
  | .normal => R a w
  | e => Q e a w
theorem cutQ_normal {R : Act → World → Prop} {a : Act} {w : World} (h : R a w) : cutQ R Q .normal a w := h
theorem wp_region_cut (R : Act → Act → World → Prop) {id : Nat} {a : Act} {w : World} (hm : P.follows .mixedOrders = true)
    (h : wpAnyR P .any ops (cutQ (R a) Q) S ops.size (Array.replicate ops.size false) a w.drew) (hR : ∀ a' w', R a a' w' → Q .normal a' w') : (Code.region id ops true).wp P Q a w := by
  refine Code.wp_mono (fun e a' w' h' => ?_) (wp_region_still hm h)
  cases e <;> first | exact hR _ _ h' | exact h'
/-- Two are ready. -/
theorem wpAnyR_two {i j : Nat} {oi oj : Oper} {fuel : Nat} {listed : Array Bool} {a : Act} {w : World} (hi : ops[i]? = some oi) (hj : ops[j]? = some oj) (hr : Region.ready md ops listed = [i, j])
    (hwi : Region.wanted oi (yielded ops a.tmps) = true) (hwj : Region.wanted oj (yielded ops a.tmps) = true)
    (h1 : Oper.wp P oi a w (fun a' w' => S w' ∧ wpAnyR P md ops Q S fuel (listed.setIfInBounds i true) a' w') Q)
    (h2 : Oper.wp P oj a w (fun a' w' => S w' ∧ wpAnyR P md ops Q S fuel (listed.setIfInBounds j true) a' w') Q) : wpAnyR P md ops Q S (fuel + 1) listed a w := by
  refine ⟨fun h0 => (by rw [hr] at h0; cases h0), fun k hk => ?_⟩
  rw [hr] at hk
  rcases List.mem_cons.1 hk with rfl | hk
  · unfold Go.wpOp
    simp only [hi]
    simp only [hwi, if_true]
    exact .inl h1
  · rw [List.mem_singleton] at hk
    subst hk
    unfold Go.wpOp
    simp only [hj]
    simp only [hwj, if_true]
    exact .inl h2
end

theorem box_store {w : World} {b : Nat} (h : Box w b) (hl : b < w.heap.size) (n : Bool) (a : Option Addr) (l c : Nat) (E : Int) : Var (((w.setCell ⟨b, 0, none⟩ (.bool n)).setCell ⟨b, 1, none⟩ (.slice a l c)).setCell ⟨b, 2, none⟩ (.int .i64 E)) b n a l c E := by
  obtain ⟨c0, c1, c2, _, f0, f1, f2⟩ := h
  exact ⟨by simp [go_sem, c0], by simp [go_sem, c1], by simp [go_sem, c2], by simp [go_sem, f0], by simpa using hl⟩
end Go.Proofs.YtdflbipaicpdcaaGreatDoor
namespace Go.Proofs.YtdflbipaicpdcaaGreatDoor
open Go.RowKit
set_option maxRecDepth 100000

def MakesDo (w : World) (u v : Value) (z e : Int) (en : Ending) (W' : World) : Prop := ∃ r, en = .returned r ∧ IsD W' r z e ∧ Below w.heap.size w W' ∧ (Hid (NewDv w r) ∨ r = u ∨ r = v)

set_option maxHeartbeats 2000000 in
theorem d_mul_f {u v : Value} {x y e f : Int} {w : World} (hu : IsD w u x e) (hv : IsD w v y f) (hx : Sz x) (hy : Sz y) (hxy : Sz (x * y)) (he1 : -100000 ≤ e) (he2 : e ≤ 100000) (hf1 : -100000 ≤ f) (hf2 : f ≤ 100000) : Calls Tryz.prog 19 #[u, v] w (MakesDf w (x * y) (e + f)) := by
  have HMD : Hid (∀ W z, IsD W z (sgz (decide (x < 0) != decide (y < 0)) (dM x * dM y)) (dE x e + dE y f) → IsD W z (x * y) (e + f)) := Lib.hid (fun _ _ => IsD.mulMade)
  obtain ⟨hE1, hE2⟩ := hx.dE he1 he2
  obtain ⟨hF1, hF2⟩ := hy.dE hf1 hf2
  have HX8 : Hid ((digs (dM x)).length ≤ 2000) := Lib.hid (Nat.le_trans hx.dM (by decide))
  have HY8 : Hid ((digs (dM y)).length ≤ 2000) := Lib.hid (Nat.le_trans hy.dM (by decide))
  have HXY8 : Hid ((digs (dM x * dM y)).length ≤ 800) := Lib.hid (Nat.le_trans (digs_mono (by rw [Int.natAbs_mul]; exact Nat.mul_le_mul (od_le _) (od_le _))) hxy)
  obtain ⟨a, l, c, rfl, hl, hs⟩ := hu.parts
  obtain ⟨a', l', c', rfl, hl', hs'⟩ := hv.parts
  have HS := Lib.hid hs
  have HS' := Lib.hid hs'
  obtain ⟨E, hE⟩ : ∃ E, dE x e = E := ⟨_, rfl⟩
  obtain ⟨F, hF⟩ : ∃ F, dE y f = F := ⟨_, rfl⟩
  obtain ⟨neg, hneg⟩ : ∃ neg, decide (x < 0) = neg := ⟨_, rfl⟩
  obtain ⟨neg', hneg'⟩ : ∃ neg', decide (y < 0) = neg' := ⟨_, rfl⟩
  rw [hE, hF, hneg, hneg'] at HMD
  rw [hE] at hE1 hE2 ⊢
  rw [hF] at hF1 hF2 ⊢
  rw [hneg, hneg']
  clear hs hs' hl hl' hE hF hneg hneg' hu hv hx hy hxy
  have hwr : IntKind.i64.wrap (E + F) = E + F := by rw [IntKind.wrap_i64]; omega
  go_enter Tryz.func19, Tryz.ntmps19
  go_wp2_with fail
  obtain ⟨w0, hw0⟩ : ∃ w0, ((w.alloc (Obj.cells #[Value.bool neg, Value.slice a l c, Value.int IntKind.i64 E] 36)).alloc (Obj.cells #[Value.bool neg', Value.slice a' l' c', Value.int IntKind.i64 F] 36)).alloc (Obj.cells #[Value.bool false, Value.slice none 0 0, Value.int IntKind.i64 0] 36) = w0 := ⟨_, rfl⟩
  have HB0 : Hid (Below w.heap.size w w0) := Lib.hid (by rw [← hw0]; exact (((Below.refl _ w).alloc (Nat.le_refl _) _).alloc (by simp) _).alloc (by simp <;> omega) _)
  have HBX0 : Hid (Box w0 (w.heap.size + 1 + 1)) := Lib.hid (by have := box_alloc ((w.alloc (Obj.cells #[Value.bool neg, Value.slice a l c, Value.int IntKind.i64 E] 36)).alloc (Obj.cells #[Value.bool neg', Value.slice a' l' c', Value.int IntKind.i64 F] 36)); rw [show boxed _ = w0 from hw0] at this; simpa using this)
  have HS0 : Hid (w0.heap.size = w.heap.size + 3) := Lib.hid (by rw [← hw0]; simp)
  have A0 : Hid (w0.cell? ⟨w.heap.size, 0, none⟩ = some (.bool neg)) := Lib.hid (by rw [← hw0]; simp [go_sem])
  have A1 : Hid (w0.cell? ⟨w.heap.size, 1, none⟩ = some (.slice a l c)) := Lib.hid (by rw [← hw0]; simp [go_sem])
  have A2 : Hid (w0.cell? ⟨w.heap.size, 2, none⟩ = some (.int .i64 E)) := Lib.hid (by rw [← hw0]; simp [go_sem])
  have B0 : Hid (w0.cell? ⟨w.heap.size + 1, 0, none⟩ = some (.bool neg')) := Lib.hid (by rw [← hw0]; simp [go_sem])
  have B1 : Hid (w0.cell? ⟨w.heap.size + 1, 1, none⟩ = some (.slice a' l' c')) := Lib.hid (by rw [← hw0]; simp [go_sem])
  have B2 : Hid (w0.cell? ⟨w.heap.size + 1, 2, none⟩ = some (.int .i64 F)) := Lib.hid (by rw [← hw0]; simp [go_sem])
  rw [hw0]
  clear hw0
  refine wp_region_still (S := Below (w.heap.size + 1 + 1) w0) (by kernel_rfl) ?_
  have hS0 : Below (w.heap.size + 1 + 1) w0 w0.drew := (Below.refl _ w0).drew
  refine wpAnyR_take (i := 0) rfl (by kernel_rfl) (by kernel_rfl) (by kernel_rfl) (fun _ _ _ h => h) hS0 (.inl ⟨by kernel_rfl, fun w' hS => (by have yA0 := cell_at hS (by omega) A0.out; have yA1 := cell_at hS (by omega) A1.out; have yA2 := cell_at hS (by omega) A2.out; have yB0 := cell_at hS (by omega) B0.out; have yB1 := cell_at hS (by omega) B1.out; have yB2 := cell_at hS (by omega) B2.out; go_simp; exact ⟨rfl, rfl⟩)⟩) rfl (by go_simp; rfl) ?_
  refine wpAnyR_take (i := 1) rfl (by kernel_rfl) (by kernel_rfl) (by kernel_rfl) (fun _ _ _ h => h) hS0 (.inl ⟨by kernel_rfl, fun w' hS => (by have yA0 := cell_at hS (by omega) A0.out; have yA1 := cell_at hS (by omega) A1.out; have yA2 := cell_at hS (by omega) A2.out; have yB0 := cell_at hS (by omega) B0.out; have yB1 := cell_at hS (by omega) B1.out; have yB2 := cell_at hS (by omega) B2.out; go_simp; exact ⟨rfl, rfl⟩)⟩) rfl (by go_simp; rfl) ?_
  refine wpAnyR_take (i := 2) rfl (by kernel_rfl) (by kernel_rfl) (by kernel_rfl) (fun _ _ _ h => h) hS0 (.inl ⟨by kernel_rfl, fun w' hS => (by have yA0 := cell_at hS (by omega) A0.out; have yA1 := cell_at hS (by omega) A1.out; have yA2 := cell_at hS (by omega) A2.out; have yB0 := cell_at hS (by omega) B0.out; have yB1 := cell_at hS (by omega) B1.out; have yB2 := cell_at hS (by omega) B2.out; go_simp; exact ⟨rfl, rfl⟩)⟩) rfl (by go_simp; rfl) ?_
  refine wpAnyR_take (i := 3) rfl (by kernel_rfl) (by kernel_rfl) (by kernel_rfl) (fun _ _ _ h => h) hS0 (.inl ⟨by kernel_rfl, fun w' hS => (by have yA0 := cell_at hS (by omega) A0.out; have yA1 := cell_at hS (by omega) A1.out; have yA2 := cell_at hS (by omega) A2.out; have yB0 := cell_at hS (by omega) B0.out; have yB1 := cell_at hS (by omega) B1.out; have yB2 := cell_at hS (by omega) B2.out; go_simp; exact ⟨rfl, rfl⟩)⟩) rfl (by go_simp; rfl) ?_
  refine wpAnyR_take (i := 4) rfl (by kernel_rfl) (by kernel_rfl) (by kernel_rfl) (fun _ _ _ h => h) hS0 (.inl ⟨by kernel_rfl, fun w' hS => (by have yA0 := cell_at hS (by omega) A0.out; have yA1 := cell_at hS (by omega) A1.out; have yA2 := cell_at hS (by omega) A2.out; have yB0 := cell_at hS (by omega) B0.out; have yB1 := cell_at hS (by omega) B1.out; have yB2 := cell_at hS (by omega) B2.out; go_simp; exact ⟨rfl, rfl⟩)⟩) rfl (by go_simp; rfl) ?_
  refine wpAnyR_take (i := 5) rfl (by kernel_rfl) (by kernel_rfl) (by kernel_rfl) (fun _ _ _ h => h) hS0 (.inl ⟨by kernel_rfl, fun w' hS => (by have yA0 := cell_at hS (by omega) A0.out; have yA1 := cell_at hS (by omega) A1.out; have yA2 := cell_at hS (by omega) A2.out; have yB0 := cell_at hS (by omega) B0.out; have yB1 := cell_at hS (by omega) B1.out; have yB2 := cell_at hS (by omega) B2.out; go_simp; exact ⟨rfl, rfl⟩)⟩) rfl (by go_simp; rfl) ?_
  refine wpAnyR_take (i := 6) rfl (by kernel_rfl) (by kernel_rfl) (by kernel_rfl) (fun _ _ _ h => h) hS0 (.inl ⟨by kernel_rfl, fun w' hS => (by have yA0 := cell_at hS (by omega) A0.out; have yA1 := cell_at hS (by omega) A1.out; have yA2 := cell_at hS (by omega) A2.out; have yB0 := cell_at hS (by omega) B0.out; have yB1 := cell_at hS (by omega) B1.out; have yB2 := cell_at hS (by omega) B2.out; go_simp; exact ⟨rfl, rfl⟩)⟩) rfl (by go_simp; rfl) ?_
  refine wpAnyR_take (i := 7) rfl (by kernel_rfl) (by kernel_rfl) (by kernel_rfl) (fun _ _ _ h => h) hS0 (.inl ⟨by kernel_rfl, fun w' hS => (by have yA0 := cell_at hS (by omega) A0.out; have yA1 := cell_at hS (by omega) A1.out; have yA2 := cell_at hS (by omega) A2.out; have yB0 := cell_at hS (by omega) B0.out; have yB1 := cell_at hS (by omega) B1.out; have yB2 := cell_at hS (by omega) B2.out; go_simp; exact ⟨rfl, rfl⟩)⟩) rfl (by go_simp; rfl) ?_
  refine wpAnyR_take (i := 8) rfl (by kernel_rfl) (by kernel_rfl) (by kernel_rfl) (fun _ _ _ h => h) hS0 (.inl ⟨by kernel_rfl, fun w' hS => (by have yA0 := cell_at hS (by omega) A0.out; have yA1 := cell_at hS (by omega) A1.out; have yA2 := cell_at hS (by omega) A2.out; have yB0 := cell_at hS (by omega) B0.out; have yB1 := cell_at hS (by omega) B1.out; have yB2 := cell_at hS (by omega) B2.out; go_simp; exact ⟨rfl, rfl⟩)⟩) rfl (by go_simp; rfl) ?_
  refine wpAnyR_take (i := 10) rfl (by kernel_rfl) (by kernel_rfl) (by kernel_rfl) (fun _ _ _ h => h) hS0 (.inl ⟨by kernel_rfl, fun w' hS => (by have yA0 := cell_at hS (by omega) A0.out; have yA1 := cell_at hS (by omega) A1.out; have yA2 := cell_at hS (by omega) A2.out; have yB0 := cell_at hS (by omega) B0.out; have yB1 := cell_at hS (by omega) B1.out; have yB2 := cell_at hS (by omega) B2.out; go_simp; exact ⟨rfl, rfl⟩)⟩) rfl (by go_simp; rfl) ?_
  refine wpAnyR_take (i := 11) rfl (by kernel_rfl) (by kernel_rfl) (by kernel_rfl) (fun _ _ _ h => h) hS0 (.inl ⟨by kernel_rfl, fun w' hS => (by have yA0 := cell_at hS (by omega) A0.out; have yA1 := cell_at hS (by omega) A1.out; have yA2 := cell_at hS (by omega) A2.out; have yB0 := cell_at hS (by omega) B0.out; have yB1 := cell_at hS (by omega) B1.out; have yB2 := cell_at hS (by omega) B2.out; go_simp; exact ⟨rfl, rfl⟩)⟩) rfl (by go_simp; rfl) ?_
  refine wpAnyR_take (i := 12) rfl (by kernel_rfl) (by kernel_rfl) (by kernel_rfl) (fun _ _ _ h => h) hS0 (.inl ⟨by kernel_rfl, fun w' hS => (by have yA0 := cell_at hS (by omega) A0.out; have yA1 := cell_at hS (by omega) A1.out; have yA2 := cell_at hS (by omega) A2.out; have yB0 := cell_at hS (by omega) B0.out; have yB1 := cell_at hS (by omega) B1.out; have yB2 := cell_at hS (by omega) B2.out; go_simp; exact ⟨rfl, rfl⟩)⟩) rfl (by go_simp; rfl) ?_
  refine wpAnyR_take (i := 13) rfl (by kernel_rfl) (by kernel_rfl) (by kernel_rfl) (fun _ _ _ h => h) hS0 (.inl ⟨by kernel_rfl, fun w' hS => (by have yA0 := cell_at hS (by omega) A0.out; have yA1 := cell_at hS (by omega) A1.out; have yA2 := cell_at hS (by omega) A2.out; have yB0 := cell_at hS (by omega) B0.out; have yB1 := cell_at hS (by omega) B1.out; have yB2 := cell_at hS (by omega) B2.out; go_simp; exact ⟨rfl, rfl⟩)⟩) rfl (by go_simp; rfl) ?_
  refine wpAnyR_take (i := 14) rfl (by kernel_rfl) (by kernel_rfl) (by kernel_rfl) (fun _ _ _ h => h) hS0 (.inl ⟨by kernel_rfl, fun w' hS => (by have yA0 := cell_at hS (by omega) A0.out; have yA1 := cell_at hS (by omega) A1.out; have yA2 := cell_at hS (by omega) A2.out; have yB0 := cell_at hS (by omega) B0.out; have yB1 := cell_at hS (by omega) B1.out; have yB2 := cell_at hS (by omega) B2.out; go_simp; exact ⟨rfl, rfl⟩)⟩) rfl (by go_simp; rfl) ?_
  refine wpAnyR_one (i := 9) rfl (by kernel_rfl) rfl rfl ?_
  go_simp
  refine (n_mul (HS.out.below (HB0.out.drew)) (HS'.out.below (HB0.out.drew)) HX8.out HY8.out).mono ?_
  rintro e1 w1 ⟨v1, rfl, hv1, hb1⟩
  have HB1 : Hid (Below w0.heap.size w0 w1) := Lib.hid ((Below.refl _ w0).drew.trans hb1)
  have HV1 := Lib.hid hv1
  have HM1 : Hid (w.heap.size + 1 + 1 ≤ w0.heap.size) := Lib.hid (by rw [HS0.out]; omega)
  clear hv1 hb1
  refine ⟨HB1.out.mono HM1.out, wpAnyR_one (i := 15) rfl (by kernel_rfl) rfl rfl ?_⟩
  go_simp
  refine (d_make_f (neg != neg') HV1.out HXY8.out (by omega) (by omega)).mono ?_
  rintro e2 w2 ⟨v2, rfl, hv2, hb2, hnew⟩
  have HNEW := Lib.hid (hnew.out.mono (Nat.le_trans HB0.out.size HB1.out.size))
  clear hnew
  have HB2 : Hid (Below w0.heap.size w0 w2) := Lib.hid (HB1.out.trans (hb2.mono HB1.out.size))
  obtain ⟨n1, a1, l1, k1, E1, rfl⟩ := hv2.shape
  have HBw : Hid (Below w.heap.size w w2) := Lib.hid (HB0.out.trans (HB2.out.mono HB0.out.size))
  have BX := Lib.hid (HBX0.out.below HB2.out (by rw [HS0.out]; omega))
  obtain ⟨c0, c1, c2, _, f0, f1, f2⟩ := BX.out
  have HN := Lib.hid (fun x y u => HMD.out _ _ (BX.out.keepD hv2 x y u))
  have HSz : Hid (w0.heap.size ≤ w.heap.size + 1 + 1 + 1) := Lib.hid (by rw [HS0.out]; omega)
  clear hv2 hb2
  refine ⟨HB2.out.mono HM1.out, wpAnyR_one (i := 16) rfl (by kernel_rfl) rfl rfl ?_⟩
  go_simp
  refine ⟨Box.keepB (HB2.out.mono HM1.out) (by omega) _ _ _, wpAnyR_done (by kernel_rfl) ?_ _⟩
  go_wp2
  refine bodyPost_ret (v := Dv n1 (.slice a1 l1 k1) E1) (by simp [results, Tryz.results19, go_sem, c0, c1, c2]) rfl ⟨_, rfl, HN.out _ _ _, Box.keepB HBw.out (by omega) _ _ _, HNEW⟩

set_option maxHeartbeats 2000000 in
theorem d_add_f {u v : Value} {x y e : Int} {w : World} (hu : IsD w u x e) (hv : IsD w v y e) (hz : (digs (x.natAbs + y.natAbs)).length ≤ 800) (he1 : -100000 ≤ e) (he2 : e ≤ 100000) : Calls Tryz.prog 16 #[u, v] w (MakesDo w u v (x + y) e) := by
  have hx : Sz x := Nat.le_trans (digs_mono (Nat.le_add_right _ _)) hz
  have hy : Sz y := Nat.le_trans (digs_mono (Nat.le_add_left _ _)) hz
  have hEE := hx.dE he1 he2
  have hFF := hy.dE he1 he2
  have htx := hx.tz
  have hty := hy.tz
  have HU := Lib.hid hu
  have HV := Lib.hid hv
  obtain ⟨a, l, c, rfl, hl, hs⟩ := hu.parts
  obtain ⟨a', l', c', rfl, hl', hs'⟩ := hv.parts
  have HS := Lib.hid hs
  have HS' := Lib.hid hs'
  have hlz : l = 0 ↔ x = 0 := by rw [← hl, digs_len_zero, dM_eq_zero]
  have hlz' : l' = 0 ↔ y = 0 := by rw [← hl', digs_len_zero, dM_eq_zero]
  clear hs hs' hl hl' hu hv
  by_cases hx0 : x = 0
  · subst hx0
    obtain rfl : l = 0 := hlz.2 rfl
    obtain ⟨E, hE⟩ : ∃ E, dE 0 e = E := ⟨_, rfl⟩
    obtain ⟨F, hF⟩ : ∃ F, dE y e = F := ⟨_, rfl⟩
    obtain ⟨neg, hneg⟩ : ∃ neg, decide ((0 : Int) < 0) = neg := ⟨_, rfl⟩
    obtain ⟨neg', hneg'⟩ : ∃ neg', decide (y < 0) = neg' := ⟨_, rfl⟩
    rw [hE, hneg] at HU ⊢
    rw [hF, hneg'] at HV ⊢
    rw [Int.zero_add]
    clear hlz hlz' hEE hFF htx hty hE hF hneg hneg' hx hy hz
    go_enter Tryz.func16, Tryz.ntmps16
    go_wp2
    refine bodyPost_ret (v := Dv neg' (.slice a' l' c') F) (by simp [results, Tryz.results16, go_sem]) rfl ⟨_, rfl, HV.out.below ?_, ?_, .inr (.inr rfl)⟩
    · repeat first | exact Below.refl _ _ | refine Below.setCell ?_ (by simp) _ | refine Below.alloc ?_ (by simp <;> omega) _
    · repeat first | exact Below.refl _ _ | refine Below.setCell ?_ (by simp) _ | refine Below.alloc ?_ (by simp <;> omega) _
  by_cases hy0 : y = 0
  · subst hy0
    obtain rfl : l' = 0 := hlz'.2 rfl
    have hl0 : ¬ (l : Int) = 0 := by have := mt hlz.1 hx0; omega
    have hl1 : ((l : Int) == 0) = false := beq_false_of_ne hl0
    obtain ⟨E, hE⟩ : ∃ E, dE x e = E := ⟨_, rfl⟩
    obtain ⟨F, hF⟩ : ∃ F, dE 0 e = F := ⟨_, rfl⟩
    obtain ⟨neg, hneg⟩ : ∃ neg, decide (x < 0) = neg := ⟨_, rfl⟩
    obtain ⟨neg', hneg'⟩ : ∃ neg', decide ((0 : Int) < 0) = neg' := ⟨_, rfl⟩
    rw [hE, hneg] at HU ⊢
    rw [hF, hneg'] at HV ⊢
    rw [Int.add_zero]
    clear hlz hlz' hEE hFF htx hty hE hF hneg hneg' hx hy hz hl0 hx0
    go_enter Tryz.func16, Tryz.ntmps16
    go_wp2
    refine bodyPost_ret (v := Dv neg (.slice a l c) E) (by simp [results, Tryz.results16, go_sem]) rfl ⟨_, rfl, HU.out.below ?_, ?_, .inr (.inl rfl)⟩
    · repeat first | exact Below.refl _ _ | refine Below.setCell ?_ (by simp) _ | refine Below.alloc ?_ (by simp <;> omega) _
    · repeat first | exact Below.refl _ _ | refine Below.setCell ?_ (by simp) _ | refine Below.alloc ?_ (by simp <;> omega) _
  have hl0 : ¬ (l : Int) = 0 := by have := mt hlz.1 hx0; omega
  have hl1 : ((l : Int) == 0) = false := beq_false_of_ne hl0
  have hl0' : ¬ (l' : Int) = 0 := by have := mt hlz'.1 hy0; omega
  have hl1' : ((l' : Int) == 0) = false := beq_false_of_ne hl0'
  have hij : ∃ (g : Int) (i j : Nat), dE x e = g + i ∧ dE y e = g + j ∧ (i = 0 ∨ j = 0) ∧ g = min (dE x e) (dE y e) :=
    ⟨min (dE x e) (dE y e), (dE x e - min (dE x e) (dE y e)).toNat, (dE y e - min (dE x e) (dE y e)).toNat, by omega, by omega, by omega, rfl⟩
  obtain ⟨g, i, j, hi, hj, hij, hgm⟩ := hij
  have HMD : Hid (∀ W z, IsD W z (sgz (decide (x < 0)) (dM x * 2 ^ i) + sgz (decide (y < 0)) (dM y * 2 ^ j)) g → IsD W z (x + y) e) := Lib.hid (fun _ _ => IsD.addMade hx0 hy0 hi hj hij)
  obtain ⟨hX, hi8⟩ := part_le hx0 hy0 hi hj hij
  obtain ⟨hY, hj8⟩ := part_le hy0 hx0 hj hi hij.symm
  have HX8 : Hid ((digs (dM x)).length ≤ 2000) := Lib.hid (Nat.le_trans hx.dM (by decide))
  have HY8 : Hid ((digs (dM y)).length ≤ 2000) := Lib.hid (Nat.le_trans hy.dM (by decide))
  have hXY8 := Nat.le_trans (digs_mono (Nat.add_le_add hX hY)) hz
  have HXY8 := Lib.hid hXY8
  have HXr8 : Hid ((digs (dM x * 2 ^ i)).length ≤ 800) := Lib.hid (Nat.le_trans (digs_mono (Nat.le_add_right _ _)) hXY8)
  have HYr8 : Hid ((digs (dM y * 2 ^ j)).length ≤ 800) := Lib.hid (Nat.le_trans (digs_mono (Nat.le_add_left _ _)) hXY8)
  clear hXY8
  have hi9 : i ≤ 20000 := by omega
  have hj9 : j ≤ 20000 := by omega
  obtain ⟨E, hE⟩ : ∃ E : Int, dE x e = E := ⟨_, rfl⟩
  obtain ⟨F, hF⟩ : ∃ F : Int, dE y e = F := ⟨_, rfl⟩
  rw [hE] at HU hEE hgm hi ⊢
  rw [hF] at HV hFF hgm hj ⊢
  obtain ⟨X, hXX⟩ : ∃ X, dM x * 2 ^ i = X := ⟨_, rfl⟩
  obtain ⟨Y, hYY⟩ : ∃ Y, dM y * 2 ^ j = Y := ⟨_, rfl⟩
  rw [hXX, hYY] at HMD HXY8
  rw [hXX] at HXr8
  rw [hYY] at HYr8
  obtain ⟨mx, hmx⟩ : ∃ mx, dM x = mx := ⟨_, rfl⟩
  obtain ⟨my, hmy⟩ : ∃ my, dM y = my := ⟨_, rfl⟩
  rw [hmx] at HX8 HS hXX
  rw [hmy] at HY8 HS' hYY
  obtain ⟨neg, hneg⟩ : ∃ neg, decide (x < 0) = neg := ⟨_, rfl⟩
  obtain ⟨neg', hneg'⟩ : ∃ neg', decide (y < 0) = neg' := ⟨_, rfl⟩
  rw [hneg, hneg'] at HMD
  rw [hneg, hneg']
  have hg1 : -1000000 ≤ g := by omega
  have hg2 : g ≤ 1000000 := by omega
  have HX := Lib.hid hXX
  have HY := Lib.hid hYY
  obtain ⟨hE1, hE2⟩ := hEE
  obtain ⟨hF1, hF2⟩ := hFF
  clear hlz hlz' hX hY hi8 hj8 hx hy hz hl0 hl0' hx0 hy0 htx hty hij hE hF hneg hneg' hmx hmy hXX hYY HU HV
  by_cases hEF : E ≤ F
  · obtain rfl : g = E := by omega
    have hdiff : F - g = j := by omega
    obtain rfl : i = 0 := by omega
    have hn : ¬ F < g := by omega
    clear hi hj hgm
    go_enter Tryz.func16, Tryz.ntmps16
    go_wp2_with fail
    obtain ⟨w0, hw0⟩ : ∃ w0, ((w.alloc (Obj.cells #[Value.bool neg, Value.slice a l c, Value.int IntKind.i64 g] 36)).alloc (Obj.cells #[Value.bool neg', Value.slice a' l' c', Value.int IntKind.i64 F] 36)).alloc (Obj.cells #[Value.bool false, Value.slice none 0 0, Value.int IntKind.i64 0] 36) = w0 := ⟨_, rfl⟩
    have HB0 : Hid (Below w.heap.size w w0) := Lib.hid (by rw [← hw0]; exact (((Below.refl _ w).alloc (Nat.le_refl _) _).alloc (by simp) _).alloc (by simp <;> omega) _)
    have HBX0 : Hid (Box w0 (w.heap.size + 1 + 1)) := Lib.hid (by have := box_alloc ((w.alloc (Obj.cells #[Value.bool neg, Value.slice a l c, Value.int IntKind.i64 g] 36)).alloc (Obj.cells #[Value.bool neg', Value.slice a' l' c', Value.int IntKind.i64 F] 36)); rw [show boxed _ = w0 from hw0] at this; simpa using this)
    have HS0 : Hid (w0.heap.size = w.heap.size + 3) := Lib.hid (by rw [← hw0]; simp)
    have A0 : Hid (w0.cell? ⟨w.heap.size, 0, none⟩ = some (.bool neg)) := Lib.hid (by rw [← hw0]; simp [go_sem])
    have A1 : Hid (w0.cell? ⟨w.heap.size, 1, none⟩ = some (.slice a l c)) := Lib.hid (by rw [← hw0]; simp [go_sem])
    have A2 : Hid (w0.cell? ⟨w.heap.size, 2, none⟩ = some (.int .i64 g)) := Lib.hid (by rw [← hw0]; simp [go_sem])
    have B0 : Hid (w0.cell? ⟨w.heap.size + 1, 0, none⟩ = some (.bool neg')) := Lib.hid (by rw [← hw0]; simp [go_sem])
    have B1 : Hid (w0.cell? ⟨w.heap.size + 1, 1, none⟩ = some (.slice a' l' c')) := Lib.hid (by rw [← hw0]; simp [go_sem])
    have B2 : Hid (w0.cell? ⟨w.heap.size + 1, 2, none⟩ = some (.int .i64 F)) := Lib.hid (by rw [← hw0]; simp [go_sem])
    try rw [hdiff]
    rw [hw0]
    clear hw0
    refine (n_shl (HS.out.below HB0.out) HX8.out 0 (by omega)).mono ?_
    rintro e1 w1 ⟨v1, rfl, hv1, hb1⟩
    rw [HX.out] at hv1
    have HB1 := Lib.hid hb1
    have HV1 := Lib.hid hv1
    clear hv1 hb1
    have b1 := cell_at HB1.out (show _ < w0.heap.size by rw [HS0.out]; omega) B1.out
    have b2 := cell_at HB1.out (show _ < w0.heap.size by rw [HS0.out]; omega) B2.out
    go_wp2_with fail
    try rw [hdiff]
    refine (n_shl ((HS'.out.below HB0.out).below HB1.out) HY8.out j (by omega)).mono ?_
    rintro e2 w2 ⟨v2, rfl, hv2, hb2⟩
    rw [HY.out] at hv2
    have HW1 := Lib.hid (HV1.out.below hb2)
    have HB2 := Lib.hid (HB1.out.trans (hb2.mono HB1.out.size))
    have HV2 := Lib.hid hv2
    clear hv2 hb2 b1 b2
    have HM2 : Hid (w.heap.size + 1 + 1 ≤ w0.heap.size) := Lib.hid (by rw [HS0.out]; omega)
    have HXY2 : Hid ((digs X).length ≤ 2000) := Lib.hid (Nat.le_trans HXr8.out (by decide))
    have HXY3 : Hid ((digs Y).length ≤ 2000) := Lib.hid (Nat.le_trans HYr8.out (by decide))
    have a0 := cell_at HB2.out (show _ < w0.heap.size by rw [HS0.out]; omega) A0.out
    have b0 := cell_at HB2.out (show _ < w0.heap.size by rw [HS0.out]; omega) B0.out
    by_cases hnn : neg' = neg
    · subst hnn
      have hb0 : (neg' == neg') = true := beq_self_eq_true _
      go_wp2_with fail
      refine wp_region_still (S := Below (w.heap.size + 1 + 1) w0) (by kernel_rfl) ?_
      have hS0 : Below (w.heap.size + 1 + 1) w0 w2.drew := (HB2.out.mono HM2.out).drew
      refine wpAnyR_take (i := 0) rfl (by kernel_rfl) (by kernel_rfl) (by kernel_rfl) (fun _ _ _ h => h) hS0 (.inl ⟨by kernel_rfl, fun w' hS => (by have yA0 := cell_at hS (by omega) A0.out; go_simp; exact ⟨rfl, rfl⟩)⟩) rfl (by go_simp; rfl) ?_
      refine wpAnyR_take (i := 1) rfl (by kernel_rfl) (by kernel_rfl) (by kernel_rfl) (fun _ _ _ h => h) hS0 (.inl ⟨by kernel_rfl, fun w' hS => (by have yA0 := cell_at hS (by omega) A0.out; go_simp; exact ⟨rfl, rfl⟩)⟩) rfl (by go_simp; rfl) ?_
      refine wpAnyR_take (i := 2) rfl (by kernel_rfl) (by kernel_rfl) (by kernel_rfl) (fun _ _ _ h => h) hS0 (.inl ⟨by kernel_rfl, fun w' hS => (by have yA0 := cell_at hS (by omega) A0.out; go_simp; exact ⟨rfl, rfl⟩)⟩) rfl (by go_simp; rfl) ?_
      refine wpAnyR_take (i := 3) rfl (by kernel_rfl) (by kernel_rfl) (by kernel_rfl) (fun _ _ _ h => h) hS0 (.inl ⟨by kernel_rfl, fun w' hS => (by have yA0 := cell_at hS (by omega) A0.out; go_simp; exact ⟨rfl, rfl⟩)⟩) rfl (by go_simp; rfl) ?_
      refine wpAnyR_take (i := 5) rfl (by kernel_rfl) (by kernel_rfl) (by kernel_rfl) (fun _ _ _ h => h) hS0 (.inl ⟨by kernel_rfl, fun w' hS => (by have yA0 := cell_at hS (by omega) A0.out; go_simp; exact ⟨rfl, rfl⟩)⟩) rfl (by go_simp; rfl) ?_
      refine wpAnyR_one (i := 4) rfl (by kernel_rfl) rfl rfl ?_
      go_simp
      refine (n_add (HW1.out.below (Below.refl _ _).drew) (HV2.out.below (Below.refl _ _).drew) HXY2.out HXY3.out).mono ?_
      rintro e3 w3 ⟨v3, rfl, hv3, hb3⟩
      have HB3 : Hid (Below w0.heap.size w0 w3) := Lib.hid (HB2.out.drew.trans (hb3.mono HB2.out.drew.size))
      have HV3 := Lib.hid hv3
      clear hv3 hb3
      refine ⟨HB3.out.mono HM2.out, wpAnyR_one (i := 6) rfl (by kernel_rfl) rfl rfl ?_⟩
      go_simp
      refine (d_make_f neg' HV3.out HXY8.out hg1 hg2).mono ?_
      rintro e4 w4 ⟨v4, rfl, hv4, hb4, hnew⟩
      have HNEW := Lib.hid (hnew.out.mono (Nat.le_trans HB0.out.size HB3.out.size))
      clear hnew
      rw [sgz_add] at hv4
      have HB4 : Hid (Below w0.heap.size w0 w4) := Lib.hid (HB3.out.trans (hb4.mono HB3.out.size))
      obtain ⟨n1, a1, l1, k1, E1, rfl⟩ := hv4.shape
      have HBw : Hid (Below w.heap.size w w4) := Lib.hid (HB0.out.trans (HB4.out.mono HB0.out.size))
      have BX := Lib.hid (HBX0.out.below HB4.out (by rw [HS0.out]; omega))
      obtain ⟨c0, c1, c2, _, f0, f1, f2⟩ := BX.out
      have HN := Lib.hid (fun x y u => HMD.out _ _ (BX.out.keepD hv4 x y u))
      clear hv4 hb4
      refine ⟨HB4.out.mono HM2.out, wpAnyR_one (i := 7) rfl (by kernel_rfl) rfl rfl ?_⟩
      go_simp
      refine ⟨Box.keepB (HB4.out.mono HM2.out) (by omega) _ _ _, wpAnyR_done (by kernel_rfl) ?_ _⟩
      go_wp2
      refine bodyPost_ret (v := Dv n1 (.slice a1 l1 k1) E1) (by simp [results, Tryz.results16, go_sem, c0, c1, c2]) rfl ⟨_, rfl, HN.out _ _ _, Box.keepB HBw.out (by omega) _ _ _, .inl HNEW⟩
    · obtain rfl : neg' = !neg := by cases neg <;> cases neg' <;> simp at hnn ⊢
      have hb0 : (neg == !neg) = false := by cases neg <;> rfl
      go_wp2_with fail
      refine (n_cmp HW1.out HV2.out HXY2.out HXY3.out).mono ?_
      rintro e3 w3 ⟨rfl, hb3⟩
      have HB3s := Lib.hid hb3
      have HB3 := Lib.hid (HB2.out.trans (hb3.mono HB2.out.size))
      clear hb3 a0 b0
      by_cases hle : Y ≤ X
      · have HC : Hid (0 ≤ cmpv (X : Int) Y) := Lib.hid (by unfold cmpv; split; omega; split <;> decide)
        have HLE := Lib.hid hle
        clear hle
        obtain ⟨cc, hcc⟩ : ∃ cc, cmpv (X : Int) Y = cc := ⟨_, rfl⟩
        rw [hcc] at HC ⊢
        have hc0 := HC.out
        clear hcc HC
        go_wp2_with fail
        refine (n_sub (HW1.out.below HB3s.out) (HV2.out.below HB3s.out) HXY2.out HXY3.out HLE.out).mono ?_
        rintro e5 w5 ⟨v5, rfl, hv5, hb5⟩
        have HB5 := Lib.hid (HB3.out.trans (hb5.mono HB3.out.size))
        have HV5 := Lib.hid hv5
        have HD5 : Hid ((digs (X - Y)).length ≤ 800) := Lib.hid (Nat.le_trans (digs_mono (Nat.sub_le _ _)) HXr8.out)
        clear hv5 hb5
        have a0 := cell_at HB5.out (show _ < w0.heap.size by rw [HS0.out]; omega) A0.out
        have b0 := cell_at HB5.out (show _ < w0.heap.size by rw [HS0.out]; omega) B0.out
        go_wp2_with fail
        refine (d_make_f neg HV5.out HD5.out hg1 hg2).mono ?_
        rintro e6 w6 ⟨v6, rfl, hv6, hb6, hnew⟩
        have HNEW := Lib.hid (hnew.out.mono (Nat.le_trans HB0.out.size HB5.out.size))
        clear hnew
        rw [sgz_sub HLE.out] at hv6
        have HB6 : Hid (Below w0.heap.size w0 w6) := Lib.hid (HB5.out.trans (hb6.mono HB5.out.size))
        obtain ⟨n1, a1, l1, k1, E1, rfl⟩ := hv6.shape
        have HBw : Hid (Below w.heap.size w w6) := Lib.hid (HB0.out.trans (HB6.out.mono HB0.out.size))
        have BX := Lib.hid (HBX0.out.below HB6.out (by rw [HS0.out]; omega))
        obtain ⟨c0, c1, c2, _, f0, f1, f2⟩ := BX.out
        have HN := Lib.hid (fun x y u => HMD.out _ _ (BX.out.keepD hv6 x y u))
        clear hv6 hb6 a0 b0
        go_wp2
        refine bodyPost_ret (v := Dv n1 (.slice a1 l1 k1) E1) (by simp [results, Tryz.results16, go_sem, c0, c1, c2]) rfl ⟨_, rfl, HN.out _ _ _, Box.keepB HBw.out (by omega) _ _ _, .inl HNEW⟩
      · have HC : Hid (cmpv (X : Int) Y < 0) := Lib.hid (by rw [cmpv_lt (by omega)]; decide)
        have HLE : Hid (X ≤ Y) := Lib.hid (by omega)
        clear hle
        obtain ⟨cc, hcc⟩ : ∃ cc, cmpv (X : Int) Y = cc := ⟨_, rfl⟩
        rw [hcc] at HC ⊢
        have hc0 := HC.out
        clear hcc HC
        go_wp2_with fail
        refine (n_sub (HV2.out.below HB3s.out) (HW1.out.below HB3s.out) HXY3.out HXY2.out HLE.out).mono ?_
        rintro e5 w5 ⟨v5, rfl, hv5, hb5⟩
        have HB5 := Lib.hid (HB3.out.trans (hb5.mono HB3.out.size))
        have HV5 := Lib.hid hv5
        have HD5 : Hid ((digs (Y - X)).length ≤ 800) := Lib.hid (Nat.le_trans (digs_mono (Nat.sub_le _ _)) HYr8.out)
        clear hv5 hb5
        have a0 := cell_at HB5.out (show _ < w0.heap.size by rw [HS0.out]; omega) A0.out
        have b0 := cell_at HB5.out (show _ < w0.heap.size by rw [HS0.out]; omega) B0.out
        go_wp2_with fail
        refine (d_make_f (!neg) HV5.out HD5.out hg1 hg2).mono ?_
        rintro e6 w6 ⟨v6, rfl, hv6, hb6, hnew⟩
        have HNEW := Lib.hid (hnew.out.mono (Nat.le_trans HB0.out.size HB5.out.size))
        clear hnew
        rw [sgz_sub HLE.out, Bool.not_not, Int.add_comm] at hv6
        have HB6 : Hid (Below w0.heap.size w0 w6) := Lib.hid (HB5.out.trans (hb6.mono HB5.out.size))
        obtain ⟨n1, a1, l1, k1, E1, rfl⟩ := hv6.shape
        have HBw : Hid (Below w.heap.size w w6) := Lib.hid (HB0.out.trans (HB6.out.mono HB0.out.size))
        have BX := Lib.hid (HBX0.out.below HB6.out (by rw [HS0.out]; omega))
        obtain ⟨c0, c1, c2, _, f0, f1, f2⟩ := BX.out
        have HN := Lib.hid (fun x y u => HMD.out _ _ (BX.out.keepD hv6 x y u))
        clear hv6 hb6 a0 b0
        go_wp2
        refine bodyPost_ret (v := Dv n1 (.slice a1 l1 k1) E1) (by simp [results, Tryz.results16, go_sem, c0, c1, c2]) rfl ⟨_, rfl, HN.out _ _ _, Box.keepB HBw.out (by omega) _ _ _, .inl HNEW⟩
  · obtain rfl : g = F := by omega
    have hdiff : E - g = i := by omega
    obtain rfl : j = 0 := by omega
    have hn : g < E := by omega
    clear hi hj hgm
    go_enter Tryz.func16, Tryz.ntmps16
    go_wp2_with fail
    obtain ⟨w0, hw0⟩ : ∃ w0, ((w.alloc (Obj.cells #[Value.bool neg, Value.slice a l c, Value.int IntKind.i64 E] 36)).alloc (Obj.cells #[Value.bool neg', Value.slice a' l' c', Value.int IntKind.i64 g] 36)).alloc (Obj.cells #[Value.bool false, Value.slice none 0 0, Value.int IntKind.i64 0] 36) = w0 := ⟨_, rfl⟩
    have HB0 : Hid (Below w.heap.size w w0) := Lib.hid (by rw [← hw0]; exact (((Below.refl _ w).alloc (Nat.le_refl _) _).alloc (by simp) _).alloc (by simp <;> omega) _)
    have HBX0 : Hid (Box w0 (w.heap.size + 1 + 1)) := Lib.hid (by have := box_alloc ((w.alloc (Obj.cells #[Value.bool neg, Value.slice a l c, Value.int IntKind.i64 E] 36)).alloc (Obj.cells #[Value.bool neg', Value.slice a' l' c', Value.int IntKind.i64 g] 36)); rw [show boxed _ = w0 from hw0] at this; simpa using this)
    have HS0 : Hid (w0.heap.size = w.heap.size + 3) := Lib.hid (by rw [← hw0]; simp)
    have A0 : Hid (w0.cell? ⟨w.heap.size, 0, none⟩ = some (.bool neg)) := Lib.hid (by rw [← hw0]; simp [go_sem])
    have A1 : Hid (w0.cell? ⟨w.heap.size, 1, none⟩ = some (.slice a l c)) := Lib.hid (by rw [← hw0]; simp [go_sem])
    have A2 : Hid (w0.cell? ⟨w.heap.size, 2, none⟩ = some (.int .i64 E)) := Lib.hid (by rw [← hw0]; simp [go_sem])
    have B0 : Hid (w0.cell? ⟨w.heap.size + 1, 0, none⟩ = some (.bool neg')) := Lib.hid (by rw [← hw0]; simp [go_sem])
    have B1 : Hid (w0.cell? ⟨w.heap.size + 1, 1, none⟩ = some (.slice a' l' c')) := Lib.hid (by rw [← hw0]; simp [go_sem])
    have B2 : Hid (w0.cell? ⟨w.heap.size + 1, 2, none⟩ = some (.int .i64 g)) := Lib.hid (by rw [← hw0]; simp [go_sem])
    try rw [hdiff]
    rw [hw0]
    clear hw0
    refine (n_shl (HS.out.below HB0.out) HX8.out i (by omega)).mono ?_
    rintro e1 w1 ⟨v1, rfl, hv1, hb1⟩
    rw [HX.out] at hv1
    have HB1 := Lib.hid hb1
    have HV1 := Lib.hid hv1
    clear hv1 hb1
    have b1 := cell_at HB1.out (show _ < w0.heap.size by rw [HS0.out]; omega) B1.out
    have b2 := cell_at HB1.out (show _ < w0.heap.size by rw [HS0.out]; omega) B2.out
    go_wp2_with fail
    try rw [hdiff]
    refine (n_shl ((HS'.out.below HB0.out).below HB1.out) HY8.out 0 (by omega)).mono ?_
    rintro e2 w2 ⟨v2, rfl, hv2, hb2⟩
    rw [HY.out] at hv2
    have HW1 := Lib.hid (HV1.out.below hb2)
    have HB2 := Lib.hid (HB1.out.trans (hb2.mono HB1.out.size))
    have HV2 := Lib.hid hv2
    clear hv2 hb2 b1 b2
    have HM2 : Hid (w.heap.size + 1 + 1 ≤ w0.heap.size) := Lib.hid (by rw [HS0.out]; omega)
    have HXY2 : Hid ((digs X).length ≤ 2000) := Lib.hid (Nat.le_trans HXr8.out (by decide))
    have HXY3 : Hid ((digs Y).length ≤ 2000) := Lib.hid (Nat.le_trans HYr8.out (by decide))
    have a0 := cell_at HB2.out (show _ < w0.heap.size by rw [HS0.out]; omega) A0.out
    have b0 := cell_at HB2.out (show _ < w0.heap.size by rw [HS0.out]; omega) B0.out
    by_cases hnn : neg' = neg
    · subst hnn
      have hb0 : (neg' == neg') = true := beq_self_eq_true _
      go_wp2_with fail
      refine wp_region_still (S := Below (w.heap.size + 1 + 1) w0) (by kernel_rfl) ?_
      have hS0 : Below (w.heap.size + 1 + 1) w0 w2.drew := (HB2.out.mono HM2.out).drew
      refine wpAnyR_take (i := 0) rfl (by kernel_rfl) (by kernel_rfl) (by kernel_rfl) (fun _ _ _ h => h) hS0 (.inl ⟨by kernel_rfl, fun w' hS => (by have yA0 := cell_at hS (by omega) A0.out; go_simp; exact ⟨rfl, rfl⟩)⟩) rfl (by go_simp; rfl) ?_
      refine wpAnyR_take (i := 1) rfl (by kernel_rfl) (by kernel_rfl) (by kernel_rfl) (fun _ _ _ h => h) hS0 (.inl ⟨by kernel_rfl, fun w' hS => (by have yA0 := cell_at hS (by omega) A0.out; go_simp; exact ⟨rfl, rfl⟩)⟩) rfl (by go_simp; rfl) ?_
      refine wpAnyR_take (i := 2) rfl (by kernel_rfl) (by kernel_rfl) (by kernel_rfl) (fun _ _ _ h => h) hS0 (.inl ⟨by kernel_rfl, fun w' hS => (by have yA0 := cell_at hS (by omega) A0.out; go_simp; exact ⟨rfl, rfl⟩)⟩) rfl (by go_simp; rfl) ?_
      refine wpAnyR_take (i := 3) rfl (by kernel_rfl) (by kernel_rfl) (by kernel_rfl) (fun _ _ _ h => h) hS0 (.inl ⟨by kernel_rfl, fun w' hS => (by have yA0 := cell_at hS (by omega) A0.out; go_simp; exact ⟨rfl, rfl⟩)⟩) rfl (by go_simp; rfl) ?_
      refine wpAnyR_take (i := 5) rfl (by kernel_rfl) (by kernel_rfl) (by kernel_rfl) (fun _ _ _ h => h) hS0 (.inl ⟨by kernel_rfl, fun w' hS => (by have yA0 := cell_at hS (by omega) A0.out; go_simp; exact ⟨rfl, rfl⟩)⟩) rfl (by go_simp; rfl) ?_
      refine wpAnyR_one (i := 4) rfl (by kernel_rfl) rfl rfl ?_
      go_simp
      refine (n_add (HW1.out.below (Below.refl _ _).drew) (HV2.out.below (Below.refl _ _).drew) HXY2.out HXY3.out).mono ?_
      rintro e3 w3 ⟨v3, rfl, hv3, hb3⟩
      have HB3 : Hid (Below w0.heap.size w0 w3) := Lib.hid (HB2.out.drew.trans (hb3.mono HB2.out.drew.size))
      have HV3 := Lib.hid hv3
      clear hv3 hb3
      refine ⟨HB3.out.mono HM2.out, wpAnyR_one (i := 6) rfl (by kernel_rfl) rfl rfl ?_⟩
      go_simp
      refine (d_make_f neg' HV3.out HXY8.out hg1 hg2).mono ?_
      rintro e4 w4 ⟨v4, rfl, hv4, hb4, hnew⟩
      have HNEW := Lib.hid (hnew.out.mono (Nat.le_trans HB0.out.size HB3.out.size))
      clear hnew
      rw [sgz_add] at hv4
      have HB4 : Hid (Below w0.heap.size w0 w4) := Lib.hid (HB3.out.trans (hb4.mono HB3.out.size))
      obtain ⟨n1, a1, l1, k1, E1, rfl⟩ := hv4.shape
      have HBw : Hid (Below w.heap.size w w4) := Lib.hid (HB0.out.trans (HB4.out.mono HB0.out.size))
      have BX := Lib.hid (HBX0.out.below HB4.out (by rw [HS0.out]; omega))
      obtain ⟨c0, c1, c2, _, f0, f1, f2⟩ := BX.out
      have HN := Lib.hid (fun x y u => HMD.out _ _ (BX.out.keepD hv4 x y u))
      clear hv4 hb4
      refine ⟨HB4.out.mono HM2.out, wpAnyR_one (i := 7) rfl (by kernel_rfl) rfl rfl ?_⟩
      go_simp
      refine ⟨Box.keepB (HB4.out.mono HM2.out) (by omega) _ _ _, wpAnyR_done (by kernel_rfl) ?_ _⟩
      go_wp2
      refine bodyPost_ret (v := Dv n1 (.slice a1 l1 k1) E1) (by simp [results, Tryz.results16, go_sem, c0, c1, c2]) rfl ⟨_, rfl, HN.out _ _ _, Box.keepB HBw.out (by omega) _ _ _, .inl HNEW⟩
    · obtain rfl : neg' = !neg := by cases neg <;> cases neg' <;> simp at hnn ⊢
      have hb0 : (neg == !neg) = false := by cases neg <;> rfl
      go_wp2_with fail
      refine (n_cmp HW1.out HV2.out HXY2.out HXY3.out).mono ?_
      rintro e3 w3 ⟨rfl, hb3⟩
      have HB3s := Lib.hid hb3
      have HB3 := Lib.hid (HB2.out.trans (hb3.mono HB2.out.size))
      clear hb3 a0 b0
      by_cases hle : Y ≤ X
      · have HC : Hid (0 ≤ cmpv (X : Int) Y) := Lib.hid (by unfold cmpv; split; omega; split <;> decide)
        have HLE := Lib.hid hle
        clear hle
        obtain ⟨cc, hcc⟩ : ∃ cc, cmpv (X : Int) Y = cc := ⟨_, rfl⟩
        rw [hcc] at HC ⊢
        have hc0 := HC.out
        clear hcc HC
        go_wp2_with fail
        refine (n_sub (HW1.out.below HB3s.out) (HV2.out.below HB3s.out) HXY2.out HXY3.out HLE.out).mono ?_
        rintro e5 w5 ⟨v5, rfl, hv5, hb5⟩
        have HB5 := Lib.hid (HB3.out.trans (hb5.mono HB3.out.size))
        have HV5 := Lib.hid hv5
        have HD5 : Hid ((digs (X - Y)).length ≤ 800) := Lib.hid (Nat.le_trans (digs_mono (Nat.sub_le _ _)) HXr8.out)
        clear hv5 hb5
        have a0 := cell_at HB5.out (show _ < w0.heap.size by rw [HS0.out]; omega) A0.out
        have b0 := cell_at HB5.out (show _ < w0.heap.size by rw [HS0.out]; omega) B0.out
        go_wp2_with fail
        refine (d_make_f neg HV5.out HD5.out hg1 hg2).mono ?_
        rintro e6 w6 ⟨v6, rfl, hv6, hb6, hnew⟩
        have HNEW := Lib.hid (hnew.out.mono (Nat.le_trans HB0.out.size HB5.out.size))
        clear hnew
        rw [sgz_sub HLE.out] at hv6
        have HB6 : Hid (Below w0.heap.size w0 w6) := Lib.hid (HB5.out.trans (hb6.mono HB5.out.size))
        obtain ⟨n1, a1, l1, k1, E1, rfl⟩ := hv6.shape
        have HBw : Hid (Below w.heap.size w w6) := Lib.hid (HB0.out.trans (HB6.out.mono HB0.out.size))
        have BX := Lib.hid (HBX0.out.below HB6.out (by rw [HS0.out]; omega))
        obtain ⟨c0, c1, c2, _, f0, f1, f2⟩ := BX.out
        have HN := Lib.hid (fun x y u => HMD.out _ _ (BX.out.keepD hv6 x y u))
        clear hv6 hb6 a0 b0
        go_wp2
        refine bodyPost_ret (v := Dv n1 (.slice a1 l1 k1) E1) (by simp [results, Tryz.results16, go_sem, c0, c1, c2]) rfl ⟨_, rfl, HN.out _ _ _, Box.keepB HBw.out (by omega) _ _ _, .inl HNEW⟩
      · have HC : Hid (cmpv (X : Int) Y < 0) := Lib.hid (by rw [cmpv_lt (by omega)]; decide)
        have HLE : Hid (X ≤ Y) := Lib.hid (by omega)
        clear hle
        obtain ⟨cc, hcc⟩ : ∃ cc, cmpv (X : Int) Y = cc := ⟨_, rfl⟩
        rw [hcc] at HC ⊢
        have hc0 := HC.out
        clear hcc HC
        go_wp2_with fail
        refine (n_sub (HV2.out.below HB3s.out) (HW1.out.below HB3s.out) HXY3.out HXY2.out HLE.out).mono ?_
        rintro e5 w5 ⟨v5, rfl, hv5, hb5⟩
        have HB5 := Lib.hid (HB3.out.trans (hb5.mono HB3.out.size))
        have HV5 := Lib.hid hv5
        have HD5 : Hid ((digs (Y - X)).length ≤ 800) := Lib.hid (Nat.le_trans (digs_mono (Nat.sub_le _ _)) HYr8.out)
        clear hv5 hb5
        have a0 := cell_at HB5.out (show _ < w0.heap.size by rw [HS0.out]; omega) A0.out
        have b0 := cell_at HB5.out (show _ < w0.heap.size by rw [HS0.out]; omega) B0.out
        go_wp2_with fail
        refine (d_make_f (!neg) HV5.out HD5.out hg1 hg2).mono ?_
        rintro e6 w6 ⟨v6, rfl, hv6, hb6, hnew⟩
        have HNEW := Lib.hid (hnew.out.mono (Nat.le_trans HB0.out.size HB5.out.size))
        clear hnew
        rw [sgz_sub HLE.out, Bool.not_not, Int.add_comm] at hv6
        have HB6 : Hid (Below w0.heap.size w0 w6) := Lib.hid (HB5.out.trans (hb6.mono HB5.out.size))
        obtain ⟨n1, a1, l1, k1, E1, rfl⟩ := hv6.shape
        have HBw : Hid (Below w.heap.size w w6) := Lib.hid (HB0.out.trans (HB6.out.mono HB0.out.size))
        have BX := Lib.hid (HBX0.out.below HB6.out (by rw [HS0.out]; omega))
        obtain ⟨c0, c1, c2, _, f0, f1, f2⟩ := BX.out
        have HN := Lib.hid (fun x y u => HMD.out _ _ (BX.out.keepD hv6 x y u))
        clear hv6 hb6 a0 b0
        go_wp2
        refine bodyPost_ret (v := Dv n1 (.slice a1 l1 k1) E1) (by simp [results, Tryz.results16, go_sem, c0, c1, c2]) rfl ⟨_, rfl, HN.out _ _ _, Box.keepB HBw.out (by omega) _ _ _, .inl HNEW⟩
theorem d_mul {u v : Value} {x y e f : Int} {w : World} (hu : IsD w u x e) (hv : IsD w v y f) (hx : Sz x) (hy : Sz y) (hxy : Sz (x * y)) (he1 : -100000 ≤ e) (he2 : e ≤ 100000) (hf1 : -100000 ≤ f) (hf2 : f ≤ 100000) : Calls Tryz.prog 19 #[u, v] w (MakesD w (x * y) (e + f)) := 
  (d_mul_f hu hv hx hy hxy he1 he2 hf1 hf2).mono fun _ _ ⟨v, h1, h2, h3, _⟩ => ⟨v, h1, h2, h3⟩
theorem d_add {u v : Value} {x y e : Int} {w : World} (hu : IsD w u x e) (hv : IsD w v y e) (hz : (digs (x.natAbs + y.natAbs)).length ≤ 800) (he1 : -100000 ≤ e) (he2 : e ≤ 100000) : Calls Tryz.prog 16 #[u, v] w (MakesD w (x + y) e) := 
  (d_add_f hu hv hz he1 he2).mono fun _ _ ⟨v, h1, h2, h3, _⟩ => ⟨v, h1, h2, h3⟩
end Go.Proofs.YtdflbipaicpdcaaGreatDoor
namespace Go.Proofs.YtdflbipaicpdcaaGreatDoor
open Go.RowKit
set_option maxRecDepth 100000

set_option maxHeartbeats 2000000 in
theorem d_cmp {u v : Value} {x y e : Int} {w : World} (hu : IsD w u x e) (hv : IsD w v y e) (hz : (digs (x.natAbs + y.natAbs)).length ≤ 800) (he1 : -100000 ≤ e) (he2 : e ≤ 100000) : Calls Tryz.prog 18 #[u, v] w (Gets w (cmpv x y)) := by
  have HU := Lib.hid hu
  have HV := Lib.hid hv
  have HZ : Hid ((digs (x.natAbs + (-y).natAbs)).length ≤ 800) := Lib.hid (by rw [Int.natAbs_neg]; exact hz)
  obtain ⟨neg, a, l, c, E, rfl⟩ := hu.shape
  obtain ⟨neg', a', l', c', F, rfl⟩ := hv.shape
  clear hu hv hz
  go_enter Tryz.func18, Tryz.ntmps18
  go_wp2_with fail
  obtain ⟨w0, hw0⟩ : ∃ w0, (w.alloc (Obj.cells #[Value.bool neg, Value.slice a l c, Value.int IntKind.i64 E] 36)).alloc (Obj.cells #[Value.bool neg', Value.slice a' l' c', Value.int IntKind.i64 F] 36) = w0 := ⟨_, rfl⟩
  have HB0 : Hid (Below w.heap.size w w0) := Lib.hid (by rw [← hw0]; exact ((Below.refl _ w).alloc (Nat.le_refl _) _).alloc (by simp) _)
  have HS0 : Hid (w0.heap.size = w.heap.size + 2) := Lib.hid (by rw [← hw0]; simp)
  have A0 : Hid (w0.cell? ⟨w.heap.size, 0, none⟩ = some (.bool neg)) := Lib.hid (by rw [← hw0]; simp [go_sem])
  have A1 : Hid (w0.cell? ⟨w.heap.size, 1, none⟩ = some (.slice a l c)) := Lib.hid (by rw [← hw0]; simp [go_sem])
  have A2 : Hid (w0.cell? ⟨w.heap.size, 2, none⟩ = some (.int .i64 E)) := Lib.hid (by rw [← hw0]; simp [go_sem])
  have B0 : Hid (w0.cell? ⟨w.heap.size + 1, 0, none⟩ = some (.bool neg')) := Lib.hid (by rw [← hw0]; simp [go_sem])
  have B1 : Hid (w0.cell? ⟨w.heap.size + 1, 1, none⟩ = some (.slice a' l' c')) := Lib.hid (by rw [← hw0]; simp [go_sem])
  have B2 : Hid (w0.cell? ⟨w.heap.size + 1, 2, none⟩ = some (.int .i64 F)) := Lib.hid (by rw [← hw0]; simp [go_sem])
  rw [hw0]
  clear hw0
  refine wp_region_still (S := Below w0.heap.size w0) (by kernel_rfl) ?_
  have hS0 : Below w0.heap.size w0 w0.drew := (Below.refl _ w0).drew
  refine wpAnyR_take (i := 0) rfl (by kernel_rfl) (by kernel_rfl) (by kernel_rfl) (fun _ _ _ h => h) hS0 (.inl ⟨by kernel_rfl, fun w' hS => (by have yA0 := cell_at hS (by rw [HS0.out]; omega) A0.out; have yA1 := cell_at hS (by rw [HS0.out]; omega) A1.out; have yA2 := cell_at hS (by rw [HS0.out]; omega) A2.out; have yB0 := cell_at hS (by rw [HS0.out]; omega) B0.out; have yB1 := cell_at hS (by rw [HS0.out]; omega) B1.out; have yB2 := cell_at hS (by rw [HS0.out]; omega) B2.out; go_simp; exact ⟨rfl, rfl⟩)⟩) rfl (by go_simp; rfl) ?_
  refine wpAnyR_take (i := 1) rfl (by kernel_rfl) (by kernel_rfl) (by kernel_rfl) (fun _ _ _ h => h) hS0 (.inl ⟨by kernel_rfl, fun w' hS => (by have yA0 := cell_at hS (by rw [HS0.out]; omega) A0.out; have yA1 := cell_at hS (by rw [HS0.out]; omega) A1.out; have yA2 := cell_at hS (by rw [HS0.out]; omega) A2.out; have yB0 := cell_at hS (by rw [HS0.out]; omega) B0.out; have yB1 := cell_at hS (by rw [HS0.out]; omega) B1.out; have yB2 := cell_at hS (by rw [HS0.out]; omega) B2.out; go_simp; exact ⟨rfl, rfl⟩)⟩) rfl (by go_simp; rfl) ?_
  refine wpAnyR_one (i := 2) rfl (by kernel_rfl) rfl rfl ?_
  go_simp
  refine (d_flip (HV.out.below HB0.out.drew)).mono ?_
  rintro e1 w1 ⟨v1, rfl, hv1, hb1⟩
  have HB1 : Hid (Below w0.heap.size w0 w1) := Lib.hid ((Below.refl _ w0).drew.trans hb1)
  have HV1 := Lib.hid hv1
  clear hv1 hb1
  refine ⟨HB1.out, wpAnyR_one (i := 3) rfl (by kernel_rfl) rfl rfl ?_⟩
  go_simp
  refine (d_add ((HU.out.below HB0.out).below HB1.out) HV1.out HZ.out he1 he2).mono ?_
  rintro e2 w2 ⟨v2, rfl, hv2, hb2⟩
  have HB2 : Hid (Below w0.heap.size w0 w2) := Lib.hid (HB1.out.trans (hb2.mono HB1.out.size))
  have HV2 := Lib.hid hv2
  clear hv2 hb2
  refine ⟨HB2.out, wpAnyR_one (i := 4) rfl (by kernel_rfl) rfl rfl ?_⟩
  go_simp
  refine (d_sign HV2.out).mono ?_
  rintro e3 w3 ⟨rfl, hb3⟩
  rw [cmpv_sub]
  have HB3 : Hid (Below w0.heap.size w0 w3) := Lib.hid (HB2.out.trans (hb3.mono HB2.out.size))
  clear hb3
  refine ⟨HB3.out, wpAnyR_one (i := 5) rfl (by kernel_rfl) rfl rfl ?_⟩
  go_simp
  refine ⟨HB3.out, wpAnyR_done (by kernel_rfl) ?_ _⟩
  go_wp2
  go_ret
  exact ⟨rfl, HB0.out.trans (HB3.out.mono HB0.out.size)⟩

end Go.Proofs.YtdflbipaicpdcaaGreatDoor
