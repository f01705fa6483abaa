/- OpsExact: the law's walk, others. No condition. -/
import Derived.Test.YtemneeknemijpaaExA
import Derived.Test.YtemneeknemijpaaAlike
import Derived.Test.YtemneeknemijpaaHead4
set_option maxRecDepth 100000
namespace Go.Proofs.Ytemneeknemijpaa
open Go.RowKit

set_option maxHeartbeats 8000000 in
theorem opsExact_two (m n : Int) (a b : Nat) (w : World) (ha : a < 2 ^ 64) (hb : b < 2 ^ 64) (k1 : -67108864 < m) (k2 : ¬ m < 67108864) : Calls Try.prog 13 #[.int .i64 m, .int .i64 n, F a, F b] w fun e w' => e = .returned (.bool true) ∧ Below w.heap.size w w' := by
  have HA := Lib.hid ha
  have HBB := Lib.hid hb
  clear ha hb
  go_enter Try.func13, Try.ntmps13
  go_wp2_with fail
  refine (l4_head _).mono ?_
  rintro e w1 ⟨rfl, hb1⟩
  have HB : Hid (Below w.heap.size w w1) := Lib.hid hb1
  clear hb1
  go_wp2_with fail
  refine (f_of a HA.out _).mono ?_
  rintro e w2 ⟨v2, rfl, hv2, hb2⟩
  obtain ⟨n_a, a_a, l_a, k_a, E_a, rfl⟩ := hv2.shape
  have HB := Lib.hid (below_next HB.out hb2)
  have Da := Lib.hid hv2
  clear hv2 hb2
  obtain ⟨oka, hi2⟩ : ∃ i, Fl.isFin a = i := ⟨_, rfl⟩
  rw [hi2]
  have Ia := Lib.hid hi2
  clear hi2
  go_wp2_with fail
  obtain ⟨wb3, hw3⟩ : ∃ w', w2.alloc (Obj.cells #[Value.bool n_a, Value.slice a_a l_a k_a, Value.int IntKind.i64 E_a] 35) = w' := ⟨_, rfl⟩
  have hb3 : Below w2.heap.size w2 wb3 := by rw [← hw3]; exact below_alloc _ _
  obtain ⟨b10, hk3⟩ : ∃ b, w2.heap.size = b := ⟨_, rfl⟩
  have V10 : Hid (Var wb3 b10 n_a a_a l_a k_a E_a) := Lib.hid (by have := var_alloc w2 n_a a_a l_a k_a E_a; rw [show _ = wb3 from hw3, hk3] at this; exact this)
  have Da := Lib.hid (Da.out.below hb3)
  have HB := Lib.hid (below_next HB.out hb3)
  rw [hw3, hk3]
  clear hw3 hb3 hk3
  refine (f_of b HBB.out _).mono ?_
  rintro e w4 ⟨v4, rfl, hv4, hb4⟩
  obtain ⟨n_b, a_b, l_b, k_b, E_b, rfl⟩ := hv4.shape
  have Da := Lib.hid (Da.out.below hb4)
  have V10 := Lib.hid (V10.out.below hb4)
  have HB := Lib.hid (below_next HB.out hb4)
  have Db := Lib.hid hv4
  clear hv4 hb4
  obtain ⟨okb, hi4⟩ : ∃ i, Fl.isFin b = i := ⟨_, rfl⟩
  rw [hi4]
  have Ib := Lib.hid hi4
  clear hi4
  have HPA := Lib.hid (fun h => pos_gt HA.out h)
  have HPB := Lib.hid (fun h => pos_gt HBB.out h)
  have HT1 := Lib.hid Ia.out
  have HT2 := Lib.hid Ib.out
  go_wp2_with fail
  obtain ⟨wb5, hw5⟩ : ∃ w', w4.alloc (Obj.cells #[Value.bool n_b, Value.slice a_b l_b k_b, Value.int IntKind.i64 E_b] 35) = w' := ⟨_, rfl⟩
  have hb5 : Below w4.heap.size w4 wb5 := by rw [← hw5]; exact below_alloc _ _
  obtain ⟨b12, hk5⟩ : ∃ b, w4.heap.size = b := ⟨_, rfl⟩
  have V12 : Hid (Var wb5 b12 n_b a_b l_b k_b E_b) := Lib.hid (by have := var_alloc w4 n_b a_b l_b k_b E_b; rw [show _ = wb5 from hw5, hk5] at this; exact this)
  have Da := Lib.hid (Da.out.below hb5)
  have V10 := Lib.hid (V10.out.below hb5)
  have Db := Lib.hid (Db.out.below hb5)
  have HB := Lib.hid (below_next HB.out hb5)
  rw [hw5, hk5]
  clear hw5 hb5 hk5
  cases oka
  · refine wp_region_still (S := Below wb5.heap.size wb5) (by kernel_rfl) ?_
    have hS6 : Below wb5.heap.size wb5 wb5.drew := (Below.refl _ wb5).drew
    refine wpAnyR_take (i := 0) rfl (by kernel_rfl) (by kernel_rfl) (by kernel_rfl) (fun _ _ _ h => h) hS6 (.inl ⟨by kernel_rfl, fun w' hS => (by go_simp; exact ⟨rfl, rfl⟩)⟩) rfl (by go_simp; rfl) ?_
    refine wpAnyR_take (i := 1) rfl (by kernel_rfl) (by kernel_rfl) (by kernel_rfl) (fun _ _ _ h => h) hS6 (.inl ⟨by kernel_rfl, fun w' hS => (by go_simp; exact ⟨rfl, rfl⟩)⟩) rfl (by go_simp; rfl) ?_
    refine wpAnyR_take (i := 2) rfl (by kernel_rfl) (by kernel_rfl) (by kernel_rfl) (fun _ _ _ h => h) hS6 (.inl ⟨by kernel_rfl, fun w' hS => (by go_simp; exact ⟨rfl, rfl⟩)⟩) rfl (by go_simp; rfl) ?_
    refine wpAnyR_take (i := 3) rfl (by kernel_rfl) (by kernel_rfl) (by kernel_rfl) (fun _ _ _ h => h) hS6 (.inr ⟨by kernel_rfl, rfl⟩) rfl (by go_simp; rfl) ?_
    refine wpAnyR_take (i := 4) rfl (by kernel_rfl) (by kernel_rfl) (by kernel_rfl) (fun _ _ _ h => h) hS6 (.inr ⟨by kernel_rfl, rfl⟩) rfl (by go_simp; rfl) ?_
    refine wpAnyR_take (i := 5) rfl (by kernel_rfl) (by kernel_rfl) (by kernel_rfl) (fun _ _ _ h => h) hS6 (.inl ⟨by kernel_rfl, fun w' hS => (by go_simp; exact ⟨rfl, rfl⟩)⟩) rfl (by go_simp; rfl) ?_
    refine wpAnyR_take (i := 6) rfl (by kernel_rfl) (by kernel_rfl) (by kernel_rfl) (fun _ _ _ h => h) hS6 (.inl ⟨by kernel_rfl, fun w' hS => (by go_simp; exact ⟨rfl, rfl⟩)⟩) rfl (by go_simp; rfl) ?_
    refine wpAnyR_take (i := 7) rfl (by kernel_rfl) (by kernel_rfl) (by kernel_rfl) (fun _ _ _ h => h) hS6 (.inr ⟨by kernel_rfl, rfl⟩) rfl (by go_simp; rfl) ?_
    refine wpAnyR_take (i := 8) rfl (by kernel_rfl) (by kernel_rfl) (by kernel_rfl) (fun _ _ _ h => h) hS6 (.inr ⟨by kernel_rfl, rfl⟩) rfl (by go_simp; rfl) ?_
    refine wpAnyR_take (i := 9) rfl (by kernel_rfl) (by kernel_rfl) (by kernel_rfl) (fun _ _ _ h => h) hS6 (.inr ⟨by kernel_rfl, rfl⟩) rfl (by go_simp; rfl) ?_
    refine wpAnyR_take (i := 10) rfl (by kernel_rfl) (by kernel_rfl) (by kernel_rfl) (fun _ _ _ h => h) hS6 (.inl ⟨by kernel_rfl, fun w' hS => (by go_simp; exact ⟨rfl, rfl⟩)⟩) rfl (by go_simp; rfl) ?_
    refine wpAnyR_take (i := 11) rfl (by kernel_rfl) (by kernel_rfl) (by kernel_rfl) (fun _ _ _ h => h) hS6 (.inl ⟨by kernel_rfl, fun w' hS => (by go_simp; exact ⟨rfl, rfl⟩)⟩) rfl (by go_simp; rfl) ?_
    refine wpAnyR_take (i := 12) rfl (by kernel_rfl) (by kernel_rfl) (by kernel_rfl) (fun _ _ _ h => h) hS6 (.inr ⟨by kernel_rfl, rfl⟩) rfl (by go_simp; rfl) ?_
    refine wpAnyR_take (i := 13) rfl (by kernel_rfl) (by kernel_rfl) (by kernel_rfl) (fun _ _ _ h => h) hS6 (.inr ⟨by kernel_rfl, rfl⟩) rfl (by go_simp; rfl) ?_
    refine wpAnyR_take (i := 14) rfl (by kernel_rfl) (by kernel_rfl) (by kernel_rfl) (fun _ _ _ h => h) hS6 (.inr ⟨by kernel_rfl, rfl⟩) rfl (by go_simp; rfl) ?_
    refine wpAnyR_take (i := 15) rfl (by kernel_rfl) (by kernel_rfl) (by kernel_rfl) (fun _ _ _ h => h) hS6 (.inl ⟨by kernel_rfl, fun w' hS => (by go_simp; exact ⟨rfl, rfl⟩)⟩) rfl (by go_simp; rfl) ?_
    refine wpAnyR_take (i := 16) rfl (by kernel_rfl) (by kernel_rfl) (by kernel_rfl) (fun _ _ _ h => h) hS6 (.inl ⟨by kernel_rfl, fun w' hS => (by go_simp; exact ⟨rfl, rfl⟩)⟩) rfl (by go_simp; rfl) ?_
    refine wpAnyR_take (i := 17) rfl (by kernel_rfl) (by kernel_rfl) (by kernel_rfl) (fun _ _ _ h => h) hS6 (.inr ⟨by kernel_rfl, rfl⟩) rfl (by go_simp; rfl) ?_
    refine wpAnyR_take (i := 18) rfl (by kernel_rfl) (by kernel_rfl) (by kernel_rfl) (fun _ _ _ h => h) hS6 (.inr ⟨by kernel_rfl, rfl⟩) rfl (by go_simp; rfl) ?_
    refine wpAnyR_take (i := 19) rfl (by kernel_rfl) (by kernel_rfl) (by kernel_rfl) (fun _ _ _ h => h) hS6 (.inr ⟨by kernel_rfl, rfl⟩) rfl (by go_simp; rfl) ?_
    refine wpAnyR_take (i := 20) rfl (by kernel_rfl) (by kernel_rfl) (by kernel_rfl) (fun _ _ _ h => h) hS6 (.inr ⟨by kernel_rfl, rfl⟩) rfl (by go_simp; rfl) ?_
    refine wpAnyR_take (i := 21) rfl (by kernel_rfl) (by kernel_rfl) (by kernel_rfl) (fun _ _ _ h => h) hS6 (.inr ⟨by kernel_rfl, rfl⟩) rfl (by go_simp; rfl) ?_
    refine wpAnyR_take (i := 22) rfl (by kernel_rfl) (by kernel_rfl) (by kernel_rfl) (fun _ _ _ h => h) hS6 (.inl ⟨by kernel_rfl, fun w' hS => (by go_simp; exact ⟨rfl, rfl⟩)⟩) rfl (by go_simp; rfl) ?_
    refine wpAnyR_take (i := 23) rfl (by kernel_rfl) (by kernel_rfl) (by kernel_rfl) (fun _ _ _ h => h) hS6 (.inl ⟨by kernel_rfl, fun w' hS => (by go_simp; exact ⟨rfl, rfl⟩)⟩) rfl (by go_simp; rfl) ?_
    refine wpAnyR_take (i := 24) rfl (by kernel_rfl) (by kernel_rfl) (by kernel_rfl) (fun _ _ _ h => h) hS6 (.inr ⟨by kernel_rfl, rfl⟩) rfl (by go_simp; rfl) ?_
    refine wpAnyR_take (i := 25) rfl (by kernel_rfl) (by kernel_rfl) (by kernel_rfl) (fun _ _ _ h => h) hS6 (.inr ⟨by kernel_rfl, rfl⟩) rfl (by go_simp; rfl) ?_
    refine wpAnyR_take (i := 26) rfl (by kernel_rfl) (by kernel_rfl) (by kernel_rfl) (fun _ _ _ h => h) hS6 (.inr ⟨by kernel_rfl, rfl⟩) rfl (by go_simp; rfl) ?_
    refine wpAnyR_take (i := 27) rfl (by kernel_rfl) (by kernel_rfl) (by kernel_rfl) (fun _ _ _ h => h) hS6 (.inr ⟨by kernel_rfl, rfl⟩) rfl (by go_simp; rfl) ?_
    refine wpAnyR_take (i := 28) rfl (by kernel_rfl) (by kernel_rfl) (by kernel_rfl) (fun _ _ _ h => h) hS6 (.inr ⟨by kernel_rfl, rfl⟩) rfl (by go_simp; rfl) ?_
    refine wpAnyR_take (i := 29) rfl (by kernel_rfl) (by kernel_rfl) (by kernel_rfl) (fun _ _ _ h => h) hS6 (.inl ⟨by kernel_rfl, fun w' hS => (by go_simp; exact ⟨rfl, rfl⟩)⟩) rfl (by go_simp; rfl) ?_
    refine wpAnyR_done (by kernel_rfl) ?_ _
    obtain ⟨w7, hw7⟩ : ∃ w', wb5.drew = w' := ⟨_, rfl⟩
    rw [hw7] at hS6 ⊢
    clear hw7
    have Da := Lib.hid (Da.out.below hS6)
    have V10 := Lib.hid (V10.out.below hS6)
    have Db := Lib.hid (Db.out.below hS6)
    have V12 := Lib.hid (V12.out.below hS6)
    have HB := Lib.hid (below_next HB.out hS6)
    go_wp2
    go_ret
    exact ⟨rfl, HB.out⟩
  cases okb
  · refine wp_region_still (S := Below wb5.heap.size wb5) (by kernel_rfl) ?_
    have hS6 : Below wb5.heap.size wb5 wb5.drew := (Below.refl _ wb5).drew
    refine wpAnyR_take (i := 0) rfl (by kernel_rfl) (by kernel_rfl) (by kernel_rfl) (fun _ _ _ h => h) hS6 (.inl ⟨by kernel_rfl, fun w' hS => (by go_simp; exact ⟨rfl, rfl⟩)⟩) rfl (by go_simp; rfl) ?_
    refine wpAnyR_take (i := 1) rfl (by kernel_rfl) (by kernel_rfl) (by kernel_rfl) (fun _ _ _ h => h) hS6 (.inl ⟨by kernel_rfl, fun w' hS => (by go_simp; exact ⟨rfl, rfl⟩)⟩) rfl (by go_simp; rfl) ?_
    refine wpAnyR_take (i := 2) rfl (by kernel_rfl) (by kernel_rfl) (by kernel_rfl) (fun _ _ _ h => h) hS6 (.inl ⟨by kernel_rfl, fun w' hS => (by go_simp; exact ⟨rfl, rfl⟩)⟩) rfl (by go_simp; rfl) ?_
    refine wpAnyR_take (i := 3) rfl (by kernel_rfl) (by kernel_rfl) (by kernel_rfl) (fun _ _ _ h => h) hS6 (.inl ⟨by kernel_rfl, fun w' hS => (by go_simp; exact ⟨rfl, rfl⟩)⟩) rfl (by go_simp; rfl) ?_
    refine wpAnyR_take (i := 4) rfl (by kernel_rfl) (by kernel_rfl) (by kernel_rfl) (fun _ _ _ h => h) hS6 (.inl ⟨by kernel_rfl, fun w' hS => (by go_simp; exact ⟨rfl, rfl⟩)⟩) rfl (by go_simp; rfl) ?_
    refine wpAnyR_take (i := 5) rfl (by kernel_rfl) (by kernel_rfl) (by kernel_rfl) (fun _ _ _ h => h) hS6 (.inl ⟨by kernel_rfl, fun w' hS => (by go_simp; exact ⟨rfl, rfl⟩)⟩) rfl (by go_simp; rfl) ?_
    refine wpAnyR_take (i := 6) rfl (by kernel_rfl) (by kernel_rfl) (by kernel_rfl) (fun _ _ _ h => h) hS6 (.inl ⟨by kernel_rfl, fun w' hS => (by go_simp; exact ⟨rfl, rfl⟩)⟩) rfl (by go_simp; rfl) ?_
    refine wpAnyR_take (i := 7) rfl (by kernel_rfl) (by kernel_rfl) (by kernel_rfl) (fun _ _ _ h => h) hS6 (.inr ⟨by kernel_rfl, rfl⟩) rfl (by go_simp; rfl) ?_
    refine wpAnyR_take (i := 8) rfl (by kernel_rfl) (by kernel_rfl) (by kernel_rfl) (fun _ _ _ h => h) hS6 (.inr ⟨by kernel_rfl, rfl⟩) rfl (by go_simp; rfl) ?_
    refine wpAnyR_take (i := 9) rfl (by kernel_rfl) (by kernel_rfl) (by kernel_rfl) (fun _ _ _ h => h) hS6 (.inr ⟨by kernel_rfl, rfl⟩) rfl (by go_simp; rfl) ?_
    refine wpAnyR_take (i := 10) rfl (by kernel_rfl) (by kernel_rfl) (by kernel_rfl) (fun _ _ _ h => h) hS6 (.inl ⟨by kernel_rfl, fun w' hS => (by go_simp; exact ⟨rfl, rfl⟩)⟩) rfl (by go_simp; rfl) ?_
    refine wpAnyR_take (i := 11) rfl (by kernel_rfl) (by kernel_rfl) (by kernel_rfl) (fun _ _ _ h => h) hS6 (.inl ⟨by kernel_rfl, fun w' hS => (by go_simp; exact ⟨rfl, rfl⟩)⟩) rfl (by go_simp; rfl) ?_
    refine wpAnyR_take (i := 12) rfl (by kernel_rfl) (by kernel_rfl) (by kernel_rfl) (fun _ _ _ h => h) hS6 (.inr ⟨by kernel_rfl, rfl⟩) rfl (by go_simp; rfl) ?_
    refine wpAnyR_take (i := 13) rfl (by kernel_rfl) (by kernel_rfl) (by kernel_rfl) (fun _ _ _ h => h) hS6 (.inr ⟨by kernel_rfl, rfl⟩) rfl (by go_simp; rfl) ?_
    refine wpAnyR_take (i := 14) rfl (by kernel_rfl) (by kernel_rfl) (by kernel_rfl) (fun _ _ _ h => h) hS6 (.inr ⟨by kernel_rfl, rfl⟩) rfl (by go_simp; rfl) ?_
    refine wpAnyR_take (i := 15) rfl (by kernel_rfl) (by kernel_rfl) (by kernel_rfl) (fun _ _ _ h => h) hS6 (.inl ⟨by kernel_rfl, fun w' hS => (by go_simp; exact ⟨rfl, rfl⟩)⟩) rfl (by go_simp; rfl) ?_
    refine wpAnyR_take (i := 16) rfl (by kernel_rfl) (by kernel_rfl) (by kernel_rfl) (fun _ _ _ h => h) hS6 (.inl ⟨by kernel_rfl, fun w' hS => (by go_simp; exact ⟨rfl, rfl⟩)⟩) rfl (by go_simp; rfl) ?_
    refine wpAnyR_take (i := 17) rfl (by kernel_rfl) (by kernel_rfl) (by kernel_rfl) (fun _ _ _ h => h) hS6 (.inr ⟨by kernel_rfl, rfl⟩) rfl (by go_simp; rfl) ?_
    refine wpAnyR_take (i := 18) rfl (by kernel_rfl) (by kernel_rfl) (by kernel_rfl) (fun _ _ _ h => h) hS6 (.inr ⟨by kernel_rfl, rfl⟩) rfl (by go_simp; rfl) ?_
    refine wpAnyR_take (i := 19) rfl (by kernel_rfl) (by kernel_rfl) (by kernel_rfl) (fun _ _ _ h => h) hS6 (.inr ⟨by kernel_rfl, rfl⟩) rfl (by go_simp; rfl) ?_
    refine wpAnyR_take (i := 20) rfl (by kernel_rfl) (by kernel_rfl) (by kernel_rfl) (fun _ _ _ h => h) hS6 (.inr ⟨by kernel_rfl, rfl⟩) rfl (by go_simp; rfl) ?_
    refine wpAnyR_take (i := 21) rfl (by kernel_rfl) (by kernel_rfl) (by kernel_rfl) (fun _ _ _ h => h) hS6 (.inr ⟨by kernel_rfl, rfl⟩) rfl (by go_simp; rfl) ?_
    refine wpAnyR_take (i := 22) rfl (by kernel_rfl) (by kernel_rfl) (by kernel_rfl) (fun _ _ _ h => h) hS6 (.inl ⟨by kernel_rfl, fun w' hS => (by go_simp; exact ⟨rfl, rfl⟩)⟩) rfl (by go_simp; rfl) ?_
    refine wpAnyR_take (i := 23) rfl (by kernel_rfl) (by kernel_rfl) (by kernel_rfl) (fun _ _ _ h => h) hS6 (.inl ⟨by kernel_rfl, fun w' hS => (by go_simp; exact ⟨rfl, rfl⟩)⟩) rfl (by go_simp; rfl) ?_
    refine wpAnyR_take (i := 24) rfl (by kernel_rfl) (by kernel_rfl) (by kernel_rfl) (fun _ _ _ h => h) hS6 (.inr ⟨by kernel_rfl, rfl⟩) rfl (by go_simp; rfl) ?_
    refine wpAnyR_take (i := 25) rfl (by kernel_rfl) (by kernel_rfl) (by kernel_rfl) (fun _ _ _ h => h) hS6 (.inr ⟨by kernel_rfl, rfl⟩) rfl (by go_simp; rfl) ?_
    refine wpAnyR_take (i := 26) rfl (by kernel_rfl) (by kernel_rfl) (by kernel_rfl) (fun _ _ _ h => h) hS6 (.inr ⟨by kernel_rfl, rfl⟩) rfl (by go_simp; rfl) ?_
    refine wpAnyR_take (i := 27) rfl (by kernel_rfl) (by kernel_rfl) (by kernel_rfl) (fun _ _ _ h => h) hS6 (.inr ⟨by kernel_rfl, rfl⟩) rfl (by go_simp; rfl) ?_
    refine wpAnyR_take (i := 28) rfl (by kernel_rfl) (by kernel_rfl) (by kernel_rfl) (fun _ _ _ h => h) hS6 (.inr ⟨by kernel_rfl, rfl⟩) rfl (by go_simp; rfl) ?_
    refine wpAnyR_take (i := 29) rfl (by kernel_rfl) (by kernel_rfl) (by kernel_rfl) (fun _ _ _ h => h) hS6 (.inl ⟨by kernel_rfl, fun w' hS => (by go_simp; exact ⟨rfl, rfl⟩)⟩) rfl (by go_simp; rfl) ?_
    refine wpAnyR_done (by kernel_rfl) ?_ _
    obtain ⟨w7, hw7⟩ : ∃ w', wb5.drew = w' := ⟨_, rfl⟩
    rw [hw7] at hS6 ⊢
    clear hw7
    have Da := Lib.hid (Da.out.below hS6)
    have V10 := Lib.hid (V10.out.below hS6)
    have Db := Lib.hid (Db.out.below hS6)
    have V12 := Lib.hid (V12.out.below hS6)
    have HB := Lib.hid (below_next HB.out hS6)
    go_wp2
    go_ret
    exact ⟨rfl, HB.out⟩
  have hpa := HPA.out HT1.out
  have hpb := HPB.out HT2.out
  obtain ⟨ga, hga⟩ : ∃ g, decide (0 < Fl.VV a) = g := ⟨_, rfl⟩
  obtain ⟨gb, hgb⟩ : ∃ g, decide (0 < Fl.VV b) = g := ⟨_, rfl⟩
  rw [hga] at hpa
  rw [hgb] at hpb
  have HGA := Lib.hid hga
  have HGB := Lib.hid hgb
  clear hga hgb
  cases ga
  · refine wp_region_still (S := Below wb5.heap.size wb5) (by kernel_rfl) ?_
    have hS6 : Below wb5.heap.size wb5 wb5.drew := (Below.refl _ wb5).drew
    refine wpAnyR_take (i := 0) rfl (by kernel_rfl) (by kernel_rfl) (by kernel_rfl) (fun _ _ _ h => h) hS6 (.inl ⟨by kernel_rfl, fun w' hS => (by go_simp; exact ⟨rfl, rfl⟩)⟩) rfl (by go_simp; rfl) ?_
    refine wpAnyR_take (i := 1) rfl (by kernel_rfl) (by kernel_rfl) (by kernel_rfl) (fun _ _ _ h => h) hS6 (.inl ⟨by kernel_rfl, fun w' hS => (by go_simp; exact ⟨rfl, rfl⟩)⟩) rfl (by go_simp; rfl) ?_
    refine wpAnyR_take (i := 2) rfl (by kernel_rfl) (by kernel_rfl) (by kernel_rfl) (fun _ _ _ h => h) hS6 (.inl ⟨by kernel_rfl, fun w' hS => (by go_simp; exact ⟨rfl, rfl⟩)⟩) rfl (by go_simp; rfl) ?_
    refine wpAnyR_take (i := 3) rfl (by kernel_rfl) (by kernel_rfl) (by kernel_rfl) (fun _ _ _ h => h) hS6 (.inl ⟨by kernel_rfl, fun w' hS => (by go_simp; exact ⟨rfl, rfl⟩)⟩) rfl (by go_simp; rfl) ?_
    refine wpAnyR_take (i := 4) rfl (by kernel_rfl) (by kernel_rfl) (by kernel_rfl) (fun _ _ _ h => h) hS6 (.inl ⟨by kernel_rfl, fun w' hS => (by go_simp; exact ⟨rfl, rfl⟩)⟩) rfl (by go_simp; rfl) ?_
    refine wpAnyR_take (i := 5) rfl (by kernel_rfl) (by kernel_rfl) (by kernel_rfl) (fun _ _ _ h => h) hS6 (.inl ⟨by kernel_rfl, fun w' hS => (by go_simp; exact ⟨rfl, rfl⟩)⟩) rfl (by go_simp; rfl) ?_
    refine wpAnyR_take (i := 6) rfl (by kernel_rfl) (by kernel_rfl) (by kernel_rfl) (fun _ _ _ h => h) hS6 (.inl ⟨by kernel_rfl, fun w' hS => (by go_simp; exact ⟨rfl, rfl⟩)⟩) rfl (by go_simp; rfl) ?_
    refine wpAnyR_take (i := 7) rfl (by kernel_rfl) (by kernel_rfl) (by kernel_rfl) (fun _ _ _ h => h) hS6 (.inl ⟨by kernel_rfl, fun w' hS => (by go_simp; exact ⟨rfl, rfl⟩)⟩) rfl (by go_simp; rfl) ?_
    refine wpAnyR_take (i := 8) rfl (by kernel_rfl) (by kernel_rfl) (by kernel_rfl) (fun _ _ _ h => h) hS6 (.inl ⟨by kernel_rfl, fun w' hS => (by go_simp; exact ⟨rfl, rfl⟩)⟩) rfl (by go_simp; rfl) ?_
    refine wpAnyR_take (i := 9) rfl (by kernel_rfl) (by kernel_rfl) (by kernel_rfl) (fun _ _ _ h => h) hS6 (.inl ⟨by kernel_rfl, fun w' hS => (by go_simp; exact ⟨rfl, rfl⟩)⟩) rfl (by go_simp; rfl) ?_
    refine wpAnyR_take (i := 10) rfl (by kernel_rfl) (by kernel_rfl) (by kernel_rfl) (fun _ _ _ h => h) hS6 (.inl ⟨by kernel_rfl, fun w' hS => (by go_simp; exact ⟨rfl, rfl⟩)⟩) rfl (by go_simp; rfl) ?_
    refine wpAnyR_take (i := 11) rfl (by kernel_rfl) (by kernel_rfl) (by kernel_rfl) (fun _ _ _ h => h) hS6 (.inl ⟨by kernel_rfl, fun w' hS => (by go_simp; exact ⟨rfl, rfl⟩)⟩) rfl (by go_simp; rfl) ?_
    refine wpAnyR_take (i := 12) rfl (by kernel_rfl) (by kernel_rfl) (by kernel_rfl) (fun _ _ _ h => h) hS6 (.inr ⟨by kernel_rfl, rfl⟩) rfl (by go_simp; rfl) ?_
    refine wpAnyR_take (i := 13) rfl (by kernel_rfl) (by kernel_rfl) (by kernel_rfl) (fun _ _ _ h => h) hS6 (.inr ⟨by kernel_rfl, rfl⟩) rfl (by go_simp; rfl) ?_
    refine wpAnyR_take (i := 14) rfl (by kernel_rfl) (by kernel_rfl) (by kernel_rfl) (fun _ _ _ h => h) hS6 (.inr ⟨by kernel_rfl, rfl⟩) rfl (by go_simp; rfl) ?_
    refine wpAnyR_take (i := 15) rfl (by kernel_rfl) (by kernel_rfl) (by kernel_rfl) (fun _ _ _ h => h) hS6 (.inl ⟨by kernel_rfl, fun w' hS => (by go_simp; exact ⟨rfl, rfl⟩)⟩) rfl (by go_simp; rfl) ?_
    refine wpAnyR_take (i := 16) rfl (by kernel_rfl) (by kernel_rfl) (by kernel_rfl) (fun _ _ _ h => h) hS6 (.inl ⟨by kernel_rfl, fun w' hS => (by go_simp; exact ⟨rfl, rfl⟩)⟩) rfl (by go_simp; rfl) ?_
    refine wpAnyR_take (i := 17) rfl (by kernel_rfl) (by kernel_rfl) (by kernel_rfl) (fun _ _ _ h => h) hS6 (.inr ⟨by kernel_rfl, rfl⟩) rfl (by go_simp; rfl) ?_
    refine wpAnyR_take (i := 18) rfl (by kernel_rfl) (by kernel_rfl) (by kernel_rfl) (fun _ _ _ h => h) hS6 (.inr ⟨by kernel_rfl, rfl⟩) rfl (by go_simp; rfl) ?_
    refine wpAnyR_take (i := 19) rfl (by kernel_rfl) (by kernel_rfl) (by kernel_rfl) (fun _ _ _ h => h) hS6 (.inr ⟨by kernel_rfl, rfl⟩) rfl (by go_simp; rfl) ?_
    refine wpAnyR_take (i := 20) rfl (by kernel_rfl) (by kernel_rfl) (by kernel_rfl) (fun _ _ _ h => h) hS6 (.inr ⟨by kernel_rfl, rfl⟩) rfl (by go_simp; rfl) ?_
    refine wpAnyR_take (i := 21) rfl (by kernel_rfl) (by kernel_rfl) (by kernel_rfl) (fun _ _ _ h => h) hS6 (.inr ⟨by kernel_rfl, rfl⟩) rfl (by go_simp; rfl) ?_
    refine wpAnyR_take (i := 22) rfl (by kernel_rfl) (by kernel_rfl) (by kernel_rfl) (fun _ _ _ h => h) hS6 (.inl ⟨by kernel_rfl, fun w' hS => (by go_simp; exact ⟨rfl, rfl⟩)⟩) rfl (by go_simp; rfl) ?_
    refine wpAnyR_take (i := 23) rfl (by kernel_rfl) (by kernel_rfl) (by kernel_rfl) (fun _ _ _ h => h) hS6 (.inl ⟨by kernel_rfl, fun w' hS => (by go_simp; exact ⟨rfl, rfl⟩)⟩) rfl (by go_simp; rfl) ?_
    refine wpAnyR_take (i := 24) rfl (by kernel_rfl) (by kernel_rfl) (by kernel_rfl) (fun _ _ _ h => h) hS6 (.inr ⟨by kernel_rfl, rfl⟩) rfl (by go_simp; rfl) ?_
    refine wpAnyR_take (i := 25) rfl (by kernel_rfl) (by kernel_rfl) (by kernel_rfl) (fun _ _ _ h => h) hS6 (.inr ⟨by kernel_rfl, rfl⟩) rfl (by go_simp; rfl) ?_
    refine wpAnyR_take (i := 26) rfl (by kernel_rfl) (by kernel_rfl) (by kernel_rfl) (fun _ _ _ h => h) hS6 (.inr ⟨by kernel_rfl, rfl⟩) rfl (by go_simp; rfl) ?_
    refine wpAnyR_take (i := 27) rfl (by kernel_rfl) (by kernel_rfl) (by kernel_rfl) (fun _ _ _ h => h) hS6 (.inr ⟨by kernel_rfl, rfl⟩) rfl (by go_simp; rfl) ?_
    refine wpAnyR_take (i := 28) rfl (by kernel_rfl) (by kernel_rfl) (by kernel_rfl) (fun _ _ _ h => h) hS6 (.inr ⟨by kernel_rfl, rfl⟩) rfl (by go_simp; rfl) ?_
    refine wpAnyR_take (i := 29) rfl (by kernel_rfl) (by kernel_rfl) (by kernel_rfl) (fun _ _ _ h => h) hS6 (.inl ⟨by kernel_rfl, fun w' hS => (by go_simp; exact ⟨rfl, rfl⟩)⟩) rfl (by go_simp; rfl) ?_
    refine wpAnyR_done (by kernel_rfl) ?_ _
    obtain ⟨w7, hw7⟩ : ∃ w', wb5.drew = w' := ⟨_, rfl⟩
    rw [hw7] at hS6 ⊢
    clear hw7
    have Da := Lib.hid (Da.out.below hS6)
    have V10 := Lib.hid (V10.out.below hS6)
    have Db := Lib.hid (Db.out.below hS6)
    have V12 := Lib.hid (V12.out.below hS6)
    have HB := Lib.hid (below_next HB.out hS6)
    go_wp2
    go_ret
    exact ⟨rfl, HB.out⟩
  cases gb
  · refine wp_region_still (S := Below wb5.heap.size wb5) (by kernel_rfl) ?_
    have hS6 : Below wb5.heap.size wb5 wb5.drew := (Below.refl _ wb5).drew
    refine wpAnyR_take (i := 0) rfl (by kernel_rfl) (by kernel_rfl) (by kernel_rfl) (fun _ _ _ h => h) hS6 (.inl ⟨by kernel_rfl, fun w' hS => (by go_simp; exact ⟨rfl, rfl⟩)⟩) rfl (by go_simp; rfl) ?_
    refine wpAnyR_take (i := 1) rfl (by kernel_rfl) (by kernel_rfl) (by kernel_rfl) (fun _ _ _ h => h) hS6 (.inl ⟨by kernel_rfl, fun w' hS => (by go_simp; exact ⟨rfl, rfl⟩)⟩) rfl (by go_simp; rfl) ?_
    refine wpAnyR_take (i := 2) rfl (by kernel_rfl) (by kernel_rfl) (by kernel_rfl) (fun _ _ _ h => h) hS6 (.inl ⟨by kernel_rfl, fun w' hS => (by go_simp; exact ⟨rfl, rfl⟩)⟩) rfl (by go_simp; rfl) ?_
    refine wpAnyR_take (i := 3) rfl (by kernel_rfl) (by kernel_rfl) (by kernel_rfl) (fun _ _ _ h => h) hS6 (.inl ⟨by kernel_rfl, fun w' hS => (by go_simp; exact ⟨rfl, rfl⟩)⟩) rfl (by go_simp; rfl) ?_
    refine wpAnyR_take (i := 4) rfl (by kernel_rfl) (by kernel_rfl) (by kernel_rfl) (fun _ _ _ h => h) hS6 (.inl ⟨by kernel_rfl, fun w' hS => (by go_simp; exact ⟨rfl, rfl⟩)⟩) rfl (by go_simp; rfl) ?_
    refine wpAnyR_take (i := 5) rfl (by kernel_rfl) (by kernel_rfl) (by kernel_rfl) (fun _ _ _ h => h) hS6 (.inl ⟨by kernel_rfl, fun w' hS => (by go_simp; exact ⟨rfl, rfl⟩)⟩) rfl (by go_simp; rfl) ?_
    refine wpAnyR_take (i := 6) rfl (by kernel_rfl) (by kernel_rfl) (by kernel_rfl) (fun _ _ _ h => h) hS6 (.inl ⟨by kernel_rfl, fun w' hS => (by go_simp; exact ⟨rfl, rfl⟩)⟩) rfl (by go_simp; rfl) ?_
    refine wpAnyR_take (i := 7) rfl (by kernel_rfl) (by kernel_rfl) (by kernel_rfl) (fun _ _ _ h => h) hS6 (.inl ⟨by kernel_rfl, fun w' hS => (by go_simp; exact ⟨rfl, rfl⟩)⟩) rfl (by go_simp; rfl) ?_
    refine wpAnyR_take (i := 8) rfl (by kernel_rfl) (by kernel_rfl) (by kernel_rfl) (fun _ _ _ h => h) hS6 (.inl ⟨by kernel_rfl, fun w' hS => (by go_simp; exact ⟨rfl, rfl⟩)⟩) rfl (by go_simp; rfl) ?_
    refine wpAnyR_take (i := 9) rfl (by kernel_rfl) (by kernel_rfl) (by kernel_rfl) (fun _ _ _ h => h) hS6 (.inl ⟨by kernel_rfl, fun w' hS => (by go_simp; exact ⟨rfl, rfl⟩)⟩) rfl (by go_simp; rfl) ?_
    refine wpAnyR_take (i := 10) rfl (by kernel_rfl) (by kernel_rfl) (by kernel_rfl) (fun _ _ _ h => h) hS6 (.inl ⟨by kernel_rfl, fun w' hS => (by go_simp; exact ⟨rfl, rfl⟩)⟩) rfl (by go_simp; rfl) ?_
    refine wpAnyR_take (i := 11) rfl (by kernel_rfl) (by kernel_rfl) (by kernel_rfl) (fun _ _ _ h => h) hS6 (.inl ⟨by kernel_rfl, fun w' hS => (by go_simp; exact ⟨rfl, rfl⟩)⟩) rfl (by go_simp; rfl) ?_
    refine wpAnyR_take (i := 12) rfl (by kernel_rfl) (by kernel_rfl) (by kernel_rfl) (fun _ _ _ h => h) hS6 (.inl ⟨by kernel_rfl, fun w' hS => (by go_simp; exact ⟨rfl, rfl⟩)⟩) rfl (by go_simp; rfl) ?_
    refine wpAnyR_take (i := 13) rfl (by kernel_rfl) (by kernel_rfl) (by kernel_rfl) (fun _ _ _ h => h) hS6 (.inl ⟨by kernel_rfl, fun w' hS => (by go_simp; exact ⟨rfl, rfl⟩)⟩) rfl (by go_simp; rfl) ?_
    refine wpAnyR_take (i := 14) rfl (by kernel_rfl) (by kernel_rfl) (by kernel_rfl) (fun _ _ _ h => h) hS6 (.inl ⟨by kernel_rfl, fun w' hS => (by go_simp; exact ⟨rfl, rfl⟩)⟩) rfl (by go_simp; rfl) ?_
    refine wpAnyR_take (i := 15) rfl (by kernel_rfl) (by kernel_rfl) (by kernel_rfl) (fun _ _ _ h => h) hS6 (.inl ⟨by kernel_rfl, fun w' hS => (by go_simp; exact ⟨rfl, rfl⟩)⟩) rfl (by go_simp; rfl) ?_
    refine wpAnyR_take (i := 16) rfl (by kernel_rfl) (by kernel_rfl) (by kernel_rfl) (fun _ _ _ h => h) hS6 (.inl ⟨by kernel_rfl, fun w' hS => (by go_simp; exact ⟨rfl, rfl⟩)⟩) rfl (by go_simp; rfl) ?_
    refine wpAnyR_take (i := 17) rfl (by kernel_rfl) (by kernel_rfl) (by kernel_rfl) (fun _ _ _ h => h) hS6 (.inr ⟨by kernel_rfl, rfl⟩) rfl (by go_simp; rfl) ?_
    refine wpAnyR_take (i := 18) rfl (by kernel_rfl) (by kernel_rfl) (by kernel_rfl) (fun _ _ _ h => h) hS6 (.inr ⟨by kernel_rfl, rfl⟩) rfl (by go_simp; rfl) ?_
    refine wpAnyR_take (i := 19) rfl (by kernel_rfl) (by kernel_rfl) (by kernel_rfl) (fun _ _ _ h => h) hS6 (.inr ⟨by kernel_rfl, rfl⟩) rfl (by go_simp; rfl) ?_
    refine wpAnyR_take (i := 20) rfl (by kernel_rfl) (by kernel_rfl) (by kernel_rfl) (fun _ _ _ h => h) hS6 (.inr ⟨by kernel_rfl, rfl⟩) rfl (by go_simp; rfl) ?_
    refine wpAnyR_take (i := 21) rfl (by kernel_rfl) (by kernel_rfl) (by kernel_rfl) (fun _ _ _ h => h) hS6 (.inr ⟨by kernel_rfl, rfl⟩) rfl (by go_simp; rfl) ?_
    refine wpAnyR_take (i := 22) rfl (by kernel_rfl) (by kernel_rfl) (by kernel_rfl) (fun _ _ _ h => h) hS6 (.inl ⟨by kernel_rfl, fun w' hS => (by go_simp; exact ⟨rfl, rfl⟩)⟩) rfl (by go_simp; rfl) ?_
    refine wpAnyR_take (i := 23) rfl (by kernel_rfl) (by kernel_rfl) (by kernel_rfl) (fun _ _ _ h => h) hS6 (.inl ⟨by kernel_rfl, fun w' hS => (by go_simp; exact ⟨rfl, rfl⟩)⟩) rfl (by go_simp; rfl) ?_
    refine wpAnyR_take (i := 24) rfl (by kernel_rfl) (by kernel_rfl) (by kernel_rfl) (fun _ _ _ h => h) hS6 (.inr ⟨by kernel_rfl, rfl⟩) rfl (by go_simp; rfl) ?_
    refine wpAnyR_take (i := 25) rfl (by kernel_rfl) (by kernel_rfl) (by kernel_rfl) (fun _ _ _ h => h) hS6 (.inr ⟨by kernel_rfl, rfl⟩) rfl (by go_simp; rfl) ?_
    refine wpAnyR_take (i := 26) rfl (by kernel_rfl) (by kernel_rfl) (by kernel_rfl) (fun _ _ _ h => h) hS6 (.inr ⟨by kernel_rfl, rfl⟩) rfl (by go_simp; rfl) ?_
    refine wpAnyR_take (i := 27) rfl (by kernel_rfl) (by kernel_rfl) (by kernel_rfl) (fun _ _ _ h => h) hS6 (.inr ⟨by kernel_rfl, rfl⟩) rfl (by go_simp; rfl) ?_
    refine wpAnyR_take (i := 28) rfl (by kernel_rfl) (by kernel_rfl) (by kernel_rfl) (fun _ _ _ h => h) hS6 (.inr ⟨by kernel_rfl, rfl⟩) rfl (by go_simp; rfl) ?_
    refine wpAnyR_take (i := 29) rfl (by kernel_rfl) (by kernel_rfl) (by kernel_rfl) (fun _ _ _ h => h) hS6 (.inl ⟨by kernel_rfl, fun w' hS => (by go_simp; exact ⟨rfl, rfl⟩)⟩) rfl (by go_simp; rfl) ?_
    refine wpAnyR_done (by kernel_rfl) ?_ _
    obtain ⟨w7, hw7⟩ : ∃ w', wb5.drew = w' := ⟨_, rfl⟩
    rw [hw7] at hS6 ⊢
    clear hw7
    have Da := Lib.hid (Da.out.below hS6)
    have V10 := Lib.hid (V10.out.below hS6)
    have Db := Lib.hid (Db.out.below hS6)
    have V12 := Lib.hid (V12.out.below hS6)
    have HB := Lib.hid (below_next HB.out hS6)
    go_wp2
    go_ret
    exact ⟨rfl, HB.out⟩
  skip
  have HZ1 : Hid ((digs ((Fl.VV a).natAbs + (Fl.VV b * ((2 ^ 1 : Nat) : Int)).natAbs)).length ≤ 800) := Lib.hid (((bd_VV a).mono (by decide)).sz2 (bd_two (bd_VV b)) (by decide))
  have HZ2 : Hid ((digs ((Fl.VV b).natAbs + (Fl.VV a * ((2 ^ 1 : Nat) : Int)).natAbs)).length ≤ 800) := Lib.hid (((bd_VV b).mono (by decide)).sz2 (bd_two (bd_VV a)) (by decide))
  have HZ3 : Hid ((digs ((Fl.VV a).natAbs + (-Fl.VV b).natAbs)).length ≤ 800) := Lib.hid ((bd_VV a).sz2 (bd_VV b).neg (by decide))
  by_cases hc : Fl.VV a ≤ Fl.VV b * ((2 ^ 1 : Nat) : Int)
  · have HC0 := Lib.hid hc
    have HC1 : Hid (cmpv (Fl.VV a) (Fl.VV b * ((2 ^ 1 : Nat) : Int)) ≤ 0) := Lib.hid (by unfold cmpv; split; decide; split; decide; omega)
    clear hc
    by_cases hc : Fl.VV b ≤ Fl.VV a * ((2 ^ 1 : Nat) : Int)
    · have HC3 := Lib.hid hc
      have HC2 : Hid (cmpv (Fl.VV b) (Fl.VV a * ((2 ^ 1 : Nat) : Int)) ≤ 0) := Lib.hid (by unfold cmpv; split; decide; split; decide; omega)
      clear hc
      refine wp_region_still (S := Below wb5.heap.size wb5) (by kernel_rfl) ?_
      have hS6 : Below wb5.heap.size wb5 wb5.drew := (Below.refl _ wb5).drew
      refine wpAnyR_take (i := 0) rfl (by kernel_rfl) (by kernel_rfl) (by kernel_rfl) (fun _ _ _ h => h) hS6 (.inl ⟨by kernel_rfl, fun w' hS => (by go_simp; exact ⟨rfl, rfl⟩)⟩) rfl (by go_simp; rfl) ?_
      refine wpAnyR_take (i := 1) rfl (by kernel_rfl) (by kernel_rfl) (by kernel_rfl) (fun _ _ _ h => h) hS6 (.inl ⟨by kernel_rfl, fun w' hS => (by go_simp; exact ⟨rfl, rfl⟩)⟩) rfl (by go_simp; rfl) ?_
      refine wpAnyR_take (i := 2) rfl (by kernel_rfl) (by kernel_rfl) (by kernel_rfl) (fun _ _ _ h => h) hS6 (.inl ⟨by kernel_rfl, fun w' hS => (by go_simp; exact ⟨rfl, rfl⟩)⟩) rfl (by go_simp; rfl) ?_
      refine wpAnyR_take (i := 3) rfl (by kernel_rfl) (by kernel_rfl) (by kernel_rfl) (fun _ _ _ h => h) hS6 (.inl ⟨by kernel_rfl, fun w' hS => (by go_simp; exact ⟨rfl, rfl⟩)⟩) rfl (by go_simp; rfl) ?_
      refine wpAnyR_take (i := 4) rfl (by kernel_rfl) (by kernel_rfl) (by kernel_rfl) (fun _ _ _ h => h) hS6 (.inl ⟨by kernel_rfl, fun w' hS => (by go_simp; exact ⟨rfl, rfl⟩)⟩) rfl (by go_simp; rfl) ?_
      refine wpAnyR_take (i := 5) rfl (by kernel_rfl) (by kernel_rfl) (by kernel_rfl) (fun _ _ _ h => h) hS6 (.inl ⟨by kernel_rfl, fun w' hS => (by go_simp; exact ⟨rfl, rfl⟩)⟩) rfl (by go_simp; rfl) ?_
      refine wpAnyR_take (i := 6) rfl (by kernel_rfl) (by kernel_rfl) (by kernel_rfl) (fun _ _ _ h => h) hS6 (.inl ⟨by kernel_rfl, fun w' hS => (by go_simp; exact ⟨rfl, rfl⟩)⟩) rfl (by go_simp; rfl) ?_
      refine wpAnyR_take (i := 7) rfl (by kernel_rfl) (by kernel_rfl) (by kernel_rfl) (fun _ _ _ h => h) hS6 (.inl ⟨by kernel_rfl, fun w' hS => (by go_simp; exact ⟨rfl, rfl⟩)⟩) rfl (by go_simp; rfl) ?_
      refine wpAnyR_take (i := 8) rfl (by kernel_rfl) (by kernel_rfl) (by kernel_rfl) (fun _ _ _ h => h) hS6 (.inl ⟨by kernel_rfl, fun w' hS => (by go_simp; exact ⟨rfl, rfl⟩)⟩) rfl (by go_simp; rfl) ?_
      refine wpAnyR_take (i := 9) rfl (by kernel_rfl) (by kernel_rfl) (by kernel_rfl) (fun _ _ _ h => h) hS6 (.inl ⟨by kernel_rfl, fun w' hS => (by go_simp; exact ⟨rfl, rfl⟩)⟩) rfl (by go_simp; rfl) ?_
      refine wpAnyR_take (i := 10) rfl (by kernel_rfl) (by kernel_rfl) (by kernel_rfl) (fun _ _ _ h => h) hS6 (.inl ⟨by kernel_rfl, fun w' hS => (by go_simp; exact ⟨rfl, rfl⟩)⟩) rfl (by go_simp; rfl) ?_
      refine wpAnyR_take (i := 11) rfl (by kernel_rfl) (by kernel_rfl) (by kernel_rfl) (fun _ _ _ h => h) hS6 (.inl ⟨by kernel_rfl, fun w' hS => (by go_simp; exact ⟨rfl, rfl⟩)⟩) rfl (by go_simp; rfl) ?_
      refine wpAnyR_take (i := 12) rfl (by kernel_rfl) (by kernel_rfl) (by kernel_rfl) (fun _ _ _ h => h) hS6 (.inl ⟨by kernel_rfl, fun w' hS => (by go_simp; exact ⟨rfl, rfl⟩)⟩) rfl (by go_simp; rfl) ?_
      refine wpAnyR_take (i := 13) rfl (by kernel_rfl) (by kernel_rfl) (by kernel_rfl) (fun _ _ _ h => h) hS6 (.inl ⟨by kernel_rfl, fun w' hS => (by go_simp; exact ⟨rfl, rfl⟩)⟩) rfl (by go_simp; rfl) ?_
      refine wpAnyR_take (i := 14) rfl (by kernel_rfl) (by kernel_rfl) (by kernel_rfl) (fun _ _ _ h => h) hS6 (.inl ⟨by kernel_rfl, fun w' hS => (by go_simp; exact ⟨rfl, rfl⟩)⟩) rfl (by go_simp; rfl) ?_
      refine wpAnyR_take (i := 15) rfl (by kernel_rfl) (by kernel_rfl) (by kernel_rfl) (fun _ _ _ h => h) hS6 (.inl ⟨by kernel_rfl, fun w' hS => (by go_simp; exact ⟨rfl, rfl⟩)⟩) rfl (by go_simp; rfl) ?_
      refine wpAnyR_take (i := 16) rfl (by kernel_rfl) (by kernel_rfl) (by kernel_rfl) (fun _ _ _ h => h) hS6 (.inl ⟨by kernel_rfl, fun w' hS => (by go_simp; exact ⟨rfl, rfl⟩)⟩) rfl (by go_simp; rfl) ?_
      refine wpAnyR_take (i := 17) rfl (by kernel_rfl) (by kernel_rfl) (by kernel_rfl) (fun _ _ _ h => h) hS6 (.inl ⟨by kernel_rfl, fun w' hS => (by have y100 := cell_at hS V10.out.lt V10.out.c0; have y101 := cell_at hS V10.out.lt V10.out.c1; have y102 := cell_at hS V10.out.lt V10.out.c2; go_simp; exact ⟨rfl, rfl⟩)⟩) rfl (by go_simp; rfl) ?_
      refine wpAnyR_take (i := 18) rfl (by kernel_rfl) (by kernel_rfl) (by kernel_rfl) (fun _ _ _ h => h) hS6 (.inl ⟨by kernel_rfl, fun w' hS => (by have y120 := cell_at hS V12.out.lt V12.out.c0; have y121 := cell_at hS V12.out.lt V12.out.c1; have y122 := cell_at hS V12.out.lt V12.out.c2; go_simp; exact ⟨rfl, rfl⟩)⟩) rfl (by go_simp; rfl) ?_
      refine wpAnyR_oneG (i := 19) rfl (by kernel_rfl) (by kernel_rfl) rfl ?_
      go_simp
      refine (d_shift (Db.out.below hS6) ((bd_VV b).sz (by decide)) 1 (by decide) (by decide) (by decide) (by decide)).mono ?_
      rintro e w7 ⟨v7, rfl, hv7, hb7⟩
      obtain ⟨n_sb, a_sb, l_sb, k_sb, E_sb, rfl⟩ := hv7.shape
      have hS7 : Below wb5.heap.size wb5 w7 := below_next hS6 hb7
      have Dsb := Lib.hid hv7
      clear hv7 hb7
      refine ⟨hS7, ?_⟩
      refine wpAnyR_oneG (i := 20) rfl (by kernel_rfl) (by kernel_rfl) rfl ?_
      go_simp
      refine (d_cmp (y := Fl.VV b * ((2 ^ 1 : Nat) : Int)) (Da.out.below hS7) (Dsb.out.to 1 rfl rfl) HZ1.out (by decide) (by decide)).mono ?_
      rintro e w8 ⟨rfl, hb8⟩
      have hS8 : Below wb5.heap.size wb5 w8 := below_next hS7 hb8
      have Dsb := Lib.hid (Dsb.out.below hb8)
      clear hb8
      generalize cmpv (Fl.VV a) (Fl.VV b * ((2 ^ 1 : Nat) : Int)) = cc at HC1 ⊢
      have hc1 : ¬ 0 < cc := Int.not_lt.2 HC1.out
      refine ⟨hS8, ?_⟩
      refine wpAnyR_take (i := 21) rfl (by kernel_rfl) (by kernel_rfl) (by kernel_rfl) (fun _ _ _ h => h) hS8 (.inl ⟨by kernel_rfl, fun w' hS => (by go_simp; exact ⟨rfl, rfl⟩)⟩) rfl (by go_simp; rfl) ?_
      refine wpAnyR_take (i := 22) rfl (by kernel_rfl) (by kernel_rfl) (by kernel_rfl) (fun _ _ _ h => h) hS8 (.inl ⟨by kernel_rfl, fun w' hS => (by go_simp; exact ⟨rfl, rfl⟩)⟩) rfl (by go_simp; rfl) ?_
      refine wpAnyR_take (i := 23) rfl (by kernel_rfl) (by kernel_rfl) (by kernel_rfl) (fun _ _ _ h => h) hS8 (.inl ⟨by kernel_rfl, fun w' hS => (by go_simp; exact ⟨rfl, rfl⟩)⟩) rfl (by go_simp; rfl) ?_
      refine wpAnyR_take (i := 24) rfl (by kernel_rfl) (by kernel_rfl) (by kernel_rfl) (fun _ _ _ h => h) hS8 (.inl ⟨by kernel_rfl, fun w' hS => (by have y120 := cell_at hS V12.out.lt V12.out.c0; have y121 := cell_at hS V12.out.lt V12.out.c1; have y122 := cell_at hS V12.out.lt V12.out.c2; go_simp; exact ⟨rfl, rfl⟩)⟩) rfl (by go_simp; rfl) ?_
      refine wpAnyR_take (i := 25) rfl (by kernel_rfl) (by kernel_rfl) (by kernel_rfl) (fun _ _ _ h => h) hS8 (.inl ⟨by kernel_rfl, fun w' hS => (by have y100 := cell_at hS V10.out.lt V10.out.c0; have y101 := cell_at hS V10.out.lt V10.out.c1; have y102 := cell_at hS V10.out.lt V10.out.c2; go_simp; exact ⟨rfl, rfl⟩)⟩) rfl (by go_simp; rfl) ?_
      refine wpAnyR_oneG (i := 26) rfl (by kernel_rfl) (by kernel_rfl) rfl ?_
      go_simp
      refine (d_shift (Da.out.below hS8) ((bd_VV a).sz (by decide)) 1 (by decide) (by decide) (by decide) (by decide)).mono ?_
      rintro e w9 ⟨v9, rfl, hv9, hb9⟩
      obtain ⟨n_sa, a_sa, l_sa, k_sa, E_sa, rfl⟩ := hv9.shape
      have hS9 : Below wb5.heap.size wb5 w9 := below_next hS8 hb9
      have Dsb := Lib.hid (Dsb.out.below hb9)
      have Dsa := Lib.hid hv9
      clear hv9 hb9
      refine ⟨hS9, ?_⟩
      refine wpAnyR_oneG (i := 27) rfl (by kernel_rfl) (by kernel_rfl) rfl ?_
      go_simp
      refine (d_cmp (y := Fl.VV a * ((2 ^ 1 : Nat) : Int)) (Db.out.below hS9) (Dsa.out.to 1 rfl rfl) HZ2.out (by decide) (by decide)).mono ?_
      rintro e w10 ⟨rfl, hb10⟩
      have hS10 : Below wb5.heap.size wb5 w10 := below_next hS9 hb10
      have Dsb := Lib.hid (Dsb.out.below hb10)
      have Dsa := Lib.hid (Dsa.out.below hb10)
      clear hb10
      generalize cmpv (Fl.VV b) (Fl.VV a * ((2 ^ 1 : Nat) : Int)) = cd at HC2 ⊢
      have hc2 : ¬ 0 < cd := Int.not_lt.2 HC2.out
      refine ⟨hS10, ?_⟩
      refine wpAnyR_take (i := 28) rfl (by kernel_rfl) (by kernel_rfl) (by kernel_rfl) (fun _ _ _ h => h) hS10 (.inl ⟨by kernel_rfl, fun w' hS => (by go_simp; exact ⟨rfl, rfl⟩)⟩) rfl (by go_simp; rfl) ?_
      refine wpAnyR_take (i := 29) rfl (by kernel_rfl) (by kernel_rfl) (by kernel_rfl) (fun _ _ _ h => h) hS10 (.inl ⟨by kernel_rfl, fun w' hS => (by go_simp; exact ⟨rfl, rfl⟩)⟩) rfl (by go_simp; rfl) ?_
      refine wpAnyR_done (by kernel_rfl) ?_ _
      have Da := Lib.hid (Da.out.below hS10)
      have V10 := Lib.hid (V10.out.below hS10)
      have Db := Lib.hid (Db.out.below hS10)
      have V12 := Lib.hid (V12.out.below hS10)
      have HB := Lib.hid (below_next HB.out hS10)
      go_wp2_with fail
      refine (ops_sub a b _).mono ?_
      rintro e w11 ⟨r, n11, rfl, hx, hlr, hw11⟩
      have hb11 : Below w10.heap.size w10 w11 := by rw [hw11]; exact below_drewN (Below.refl _ _) _
      have Pr := Lib.hid (And.intro hx hlr)
      have Da := Lib.hid (Da.out.below hb11)
      have V10 := Lib.hid (V10.out.below hb11)
      have Db := Lib.hid (Db.out.below hb11)
      have V12 := Lib.hid (V12.out.below hb11)
      have Dsb := Lib.hid (Dsb.out.below hb11)
      have Dsa := Lib.hid (Dsa.out.below hb11)
      have HB := Lib.hid (below_next HB.out hb11)
      clear hx hlr hw11 hb11
      obtain ⟨hfr, hvr⟩ := Fl.sub_exact HA.out HBB.out HT1.out HT2.out (of_decide_eq_true HGA.out) (of_decide_eq_true HGB.out) (by have := HC0.out; omega) (by have := HC3.out; omega) Pr.out.1
      have HVR := Lib.hid hvr
      have HFR := Lib.hid hfr
      clear hfr hvr
      go_wp2_with fail
      refine (f_of r Pr.out.2 _).mono ?_
      rintro e w12 ⟨v12, rfl, hv12, hb12⟩
      obtain ⟨n_r, a_r, l_r, k_r, E_r, rfl⟩ := hv12.shape
      have Da := Lib.hid (Da.out.below hb12)
      have V10 := Lib.hid (V10.out.below hb12)
      have Db := Lib.hid (Db.out.below hb12)
      have V12 := Lib.hid (V12.out.below hb12)
      have Dsb := Lib.hid (Dsb.out.below hb12)
      have Dsa := Lib.hid (Dsa.out.below hb12)
      have HB := Lib.hid (below_next HB.out hb12)
      have Dr := Lib.hid hv12
      clear hv12 hb12
      obtain ⟨okr, hi12⟩ : ∃ i, Fl.isFin r = i := ⟨_, rfl⟩
      rw [hi12]
      have Ir := Lib.hid hi12
      clear hi12
      obtain rfl : okr = true := Ir.out.symm.trans HFR.out
      go_wp2_with fail
      obtain ⟨wb13, hw13⟩ : ∃ w', w12.alloc (Obj.cells #[Value.bool n_r, Value.slice a_r l_r k_r, Value.int IntKind.i64 E_r] 35) = w' := ⟨_, rfl⟩
      have hb13 : Below w12.heap.size w12 wb13 := by rw [← hw13]; exact below_alloc _ _
      obtain ⟨b14, hk13⟩ : ∃ b, w12.heap.size = b := ⟨_, rfl⟩
      have V14 : Hid (Var wb13 b14 n_r a_r l_r k_r E_r) := Lib.hid (by have := var_alloc w12 n_r a_r l_r k_r E_r; rw [show _ = wb13 from hw13, hk13] at this; exact this)
      have Da := Lib.hid (Da.out.below hb13)
      have V10 := Lib.hid (V10.out.below hb13)
      have Db := Lib.hid (Db.out.below hb13)
      have V12 := Lib.hid (V12.out.below hb13)
      have Dsb := Lib.hid (Dsb.out.below hb13)
      have Dsa := Lib.hid (Dsa.out.below hb13)
      have Dr := Lib.hid (Dr.out.below hb13)
      have HB := Lib.hid (below_next HB.out hb13)
      rw [hw13, hk13]
      clear hw13 hb13 hk13
      refine wp_region_still (S := Below wb13.heap.size wb13) (by kernel_rfl) ?_
      have hS14 : Below wb13.heap.size wb13 wb13.drew := (Below.refl _ wb13).drew
      refine wpAnyR_take (i := 0) rfl (by kernel_rfl) (by kernel_rfl) (by kernel_rfl) (fun _ _ _ h => h) hS14 (.inl ⟨by kernel_rfl, fun w' hS => (by go_simp; exact ⟨rfl, rfl⟩)⟩) rfl (by go_simp; rfl) ?_
      refine wpAnyR_take (i := 1) rfl (by kernel_rfl) (by kernel_rfl) (by kernel_rfl) (fun _ _ _ h => h) hS14 (.inl ⟨by kernel_rfl, fun w' hS => (by go_simp; exact ⟨rfl, rfl⟩)⟩) rfl (by go_simp; rfl) ?_
      refine wpAnyR_take (i := 2) rfl (by kernel_rfl) (by kernel_rfl) (by kernel_rfl) (fun _ _ _ h => h) hS14 (.inl ⟨by kernel_rfl, fun w' hS => (by go_simp; exact ⟨rfl, rfl⟩)⟩) rfl (by go_simp; rfl) ?_
      refine wpAnyR_take (i := 3) rfl (by kernel_rfl) (by kernel_rfl) (by kernel_rfl) (fun _ _ _ h => h) hS14 (.inl ⟨by kernel_rfl, fun w' hS => (by go_simp; exact ⟨rfl, rfl⟩)⟩) rfl (by go_simp; rfl) ?_
      refine wpAnyR_take (i := 4) rfl (by kernel_rfl) (by kernel_rfl) (by kernel_rfl) (fun _ _ _ h => h) hS14 (.inl ⟨by kernel_rfl, fun w' hS => (by go_simp; exact ⟨rfl, rfl⟩)⟩) rfl (by go_simp; rfl) ?_
      refine wpAnyR_take (i := 5) rfl (by kernel_rfl) (by kernel_rfl) (by kernel_rfl) (fun _ _ _ h => h) hS14 (.inl ⟨by kernel_rfl, fun w' hS => (by have y140 := cell_at hS V14.out.lt V14.out.c0; have y141 := cell_at hS V14.out.lt V14.out.c1; have y142 := cell_at hS V14.out.lt V14.out.c2; go_simp; exact ⟨rfl, rfl⟩)⟩) rfl (by go_simp; rfl) ?_
      refine wpAnyR_take (i := 6) rfl (by kernel_rfl) (by kernel_rfl) (by kernel_rfl) (fun _ _ _ h => h) hS14 (.inl ⟨by kernel_rfl, fun w' hS => (by have y100 := cell_at hS V10.out.lt V10.out.c0; have y101 := cell_at hS V10.out.lt V10.out.c1; have y102 := cell_at hS V10.out.lt V10.out.c2; go_simp; exact ⟨rfl, rfl⟩)⟩) rfl (by go_simp; rfl) ?_
      refine wpAnyR_take (i := 7) rfl (by kernel_rfl) (by kernel_rfl) (by kernel_rfl) (fun _ _ _ h => h) hS14 (.inl ⟨by kernel_rfl, fun w' hS => (by have y120 := cell_at hS V12.out.lt V12.out.c0; have y121 := cell_at hS V12.out.lt V12.out.c1; have y122 := cell_at hS V12.out.lt V12.out.c2; go_simp; exact ⟨rfl, rfl⟩)⟩) rfl (by go_simp; rfl) ?_
      refine wpAnyR_oneG (i := 8) rfl (by kernel_rfl) (by kernel_rfl) rfl ?_
      go_simp
      refine (d_flip (Db.out.below hS14)).mono ?_
      rintro e w15 ⟨v15, rfl, hv15, hb15⟩
      obtain ⟨n_fb, a_fb, l_fb, k_fb, E_fb, rfl⟩ := hv15.shape
      have hS15 : Below wb13.heap.size wb13 w15 := below_next hS14 hb15
      have Dfb := Lib.hid hv15
      clear hv15 hb15
      refine ⟨hS15, ?_⟩
      refine wpAnyR_oneG (i := 9) rfl (by kernel_rfl) (by kernel_rfl) rfl ?_
      go_simp
      refine (d_add (Da.out.below hS15) Dfb.out HZ3.out (by decide) (by decide)).mono ?_
      rintro e w16 ⟨v16, rfl, hv16, hb16⟩
      obtain ⟨n_d, a_d, l_d, k_d, E_d, rfl⟩ := hv16.shape
      have hS16 : Below wb13.heap.size wb13 w16 := below_next hS15 hb16
      have Dfb := Lib.hid (Dfb.out.below hb16)
      have Dd := Lib.hid hv16
      clear hv16 hb16
      refine ⟨hS16, ?_⟩
      refine wpAnyR_oneG (i := 10) rfl (by kernel_rfl) (by kernel_rfl) rfl ?_
      go_simp
      refine (d_same (Dr.out.below hS16) Dd.out ((bd_VV r).sz (by decide)) (((bd_VV a).add (bd_VV b).neg rfl).sz (by decide))).mono ?_
      rintro e w17 ⟨rfl, hb17⟩
      have hS17 : Below wb13.heap.size wb13 w17 := below_next hS16 hb17
      have Dfb := Lib.hid (Dfb.out.below hb17)
      have Dd := Lib.hid (Dd.out.below hb17)
      clear hb17
      rw [show decide (Fl.VV r = Fl.VV a + -Fl.VV b) = true from decide_eq_true HVR.out]
      refine ⟨hS17, ?_⟩
      refine wpAnyR_take (i := 11) rfl (by kernel_rfl) (by kernel_rfl) (by kernel_rfl) (fun _ _ _ h => h) hS17 (.inl ⟨by kernel_rfl, fun w' hS => (by go_simp; exact ⟨rfl, rfl⟩)⟩) rfl (by go_simp; rfl) ?_
      refine wpAnyR_take (i := 12) rfl (by kernel_rfl) (by kernel_rfl) (by kernel_rfl) (fun _ _ _ h => h) hS17 (.inl ⟨by kernel_rfl, fun w' hS => (by go_simp; exact ⟨rfl, rfl⟩)⟩) rfl (by go_simp; rfl) ?_
      refine wpAnyR_done (by kernel_rfl) ?_ _
      have Da := Lib.hid (Da.out.below hS17)
      have V10 := Lib.hid (V10.out.below hS17)
      have Db := Lib.hid (Db.out.below hS17)
      have V12 := Lib.hid (V12.out.below hS17)
      have Dsb := Lib.hid (Dsb.out.below hS17)
      have Dsa := Lib.hid (Dsa.out.below hS17)
      have Dr := Lib.hid (Dr.out.below hS17)
      have V14 := Lib.hid (V14.out.below hS17)
      have HB := Lib.hid (below_next HB.out hS17)
      go_wp2
      go_ret
      exact ⟨rfl, HB.out⟩
    · have HC2 : Hid (0 < cmpv (Fl.VV b) (Fl.VV a * ((2 ^ 1 : Nat) : Int))) := Lib.hid (by rw [cmpv_gt (by omega)]; decide)
      clear hc
      refine wp_region_still (S := Below wb5.heap.size wb5) (by kernel_rfl) ?_
      have hS6 : Below wb5.heap.size wb5 wb5.drew := (Below.refl _ wb5).drew
      refine wpAnyR_take (i := 0) rfl (by kernel_rfl) (by kernel_rfl) (by kernel_rfl) (fun _ _ _ h => h) hS6 (.inl ⟨by kernel_rfl, fun w' hS => (by go_simp; exact ⟨rfl, rfl⟩)⟩) rfl (by go_simp; rfl) ?_
      refine wpAnyR_take (i := 1) rfl (by kernel_rfl) (by kernel_rfl) (by kernel_rfl) (fun _ _ _ h => h) hS6 (.inl ⟨by kernel_rfl, fun w' hS => (by go_simp; exact ⟨rfl, rfl⟩)⟩) rfl (by go_simp; rfl) ?_
      refine wpAnyR_take (i := 2) rfl (by kernel_rfl) (by kernel_rfl) (by kernel_rfl) (fun _ _ _ h => h) hS6 (.inl ⟨by kernel_rfl, fun w' hS => (by go_simp; exact ⟨rfl, rfl⟩)⟩) rfl (by go_simp; rfl) ?_
      refine wpAnyR_take (i := 3) rfl (by kernel_rfl) (by kernel_rfl) (by kernel_rfl) (fun _ _ _ h => h) hS6 (.inl ⟨by kernel_rfl, fun w' hS => (by go_simp; exact ⟨rfl, rfl⟩)⟩) rfl (by go_simp; rfl) ?_
      refine wpAnyR_take (i := 4) rfl (by kernel_rfl) (by kernel_rfl) (by kernel_rfl) (fun _ _ _ h => h) hS6 (.inl ⟨by kernel_rfl, fun w' hS => (by go_simp; exact ⟨rfl, rfl⟩)⟩) rfl (by go_simp; rfl) ?_
      refine wpAnyR_take (i := 5) rfl (by kernel_rfl) (by kernel_rfl) (by kernel_rfl) (fun _ _ _ h => h) hS6 (.inl ⟨by kernel_rfl, fun w' hS => (by go_simp; exact ⟨rfl, rfl⟩)⟩) rfl (by go_simp; rfl) ?_
      refine wpAnyR_take (i := 6) rfl (by kernel_rfl) (by kernel_rfl) (by kernel_rfl) (fun _ _ _ h => h) hS6 (.inl ⟨by kernel_rfl, fun w' hS => (by go_simp; exact ⟨rfl, rfl⟩)⟩) rfl (by go_simp; rfl) ?_
      refine wpAnyR_take (i := 7) rfl (by kernel_rfl) (by kernel_rfl) (by kernel_rfl) (fun _ _ _ h => h) hS6 (.inl ⟨by kernel_rfl, fun w' hS => (by go_simp; exact ⟨rfl, rfl⟩)⟩) rfl (by go_simp; rfl) ?_
      refine wpAnyR_take (i := 8) rfl (by kernel_rfl) (by kernel_rfl) (by kernel_rfl) (fun _ _ _ h => h) hS6 (.inl ⟨by kernel_rfl, fun w' hS => (by go_simp; exact ⟨rfl, rfl⟩)⟩) rfl (by go_simp; rfl) ?_
      refine wpAnyR_take (i := 9) rfl (by kernel_rfl) (by kernel_rfl) (by kernel_rfl) (fun _ _ _ h => h) hS6 (.inl ⟨by kernel_rfl, fun w' hS => (by go_simp; exact ⟨rfl, rfl⟩)⟩) rfl (by go_simp; rfl) ?_
      refine wpAnyR_take (i := 10) rfl (by kernel_rfl) (by kernel_rfl) (by kernel_rfl) (fun _ _ _ h => h) hS6 (.inl ⟨by kernel_rfl, fun w' hS => (by go_simp; exact ⟨rfl, rfl⟩)⟩) rfl (by go_simp; rfl) ?_
      refine wpAnyR_take (i := 11) rfl (by kernel_rfl) (by kernel_rfl) (by kernel_rfl) (fun _ _ _ h => h) hS6 (.inl ⟨by kernel_rfl, fun w' hS => (by go_simp; exact ⟨rfl, rfl⟩)⟩) rfl (by go_simp; rfl) ?_
      refine wpAnyR_take (i := 12) rfl (by kernel_rfl) (by kernel_rfl) (by kernel_rfl) (fun _ _ _ h => h) hS6 (.inl ⟨by kernel_rfl, fun w' hS => (by go_simp; exact ⟨rfl, rfl⟩)⟩) rfl (by go_simp; rfl) ?_
      refine wpAnyR_take (i := 13) rfl (by kernel_rfl) (by kernel_rfl) (by kernel_rfl) (fun _ _ _ h => h) hS6 (.inl ⟨by kernel_rfl, fun w' hS => (by go_simp; exact ⟨rfl, rfl⟩)⟩) rfl (by go_simp; rfl) ?_
      refine wpAnyR_take (i := 14) rfl (by kernel_rfl) (by kernel_rfl) (by kernel_rfl) (fun _ _ _ h => h) hS6 (.inl ⟨by kernel_rfl, fun w' hS => (by go_simp; exact ⟨rfl, rfl⟩)⟩) rfl (by go_simp; rfl) ?_
      refine wpAnyR_take (i := 15) rfl (by kernel_rfl) (by kernel_rfl) (by kernel_rfl) (fun _ _ _ h => h) hS6 (.inl ⟨by kernel_rfl, fun w' hS => (by go_simp; exact ⟨rfl, rfl⟩)⟩) rfl (by go_simp; rfl) ?_
      refine wpAnyR_take (i := 16) rfl (by kernel_rfl) (by kernel_rfl) (by kernel_rfl) (fun _ _ _ h => h) hS6 (.inl ⟨by kernel_rfl, fun w' hS => (by go_simp; exact ⟨rfl, rfl⟩)⟩) rfl (by go_simp; rfl) ?_
      refine wpAnyR_take (i := 17) rfl (by kernel_rfl) (by kernel_rfl) (by kernel_rfl) (fun _ _ _ h => h) hS6 (.inl ⟨by kernel_rfl, fun w' hS => (by have y100 := cell_at hS V10.out.lt V10.out.c0; have y101 := cell_at hS V10.out.lt V10.out.c1; have y102 := cell_at hS V10.out.lt V10.out.c2; go_simp; exact ⟨rfl, rfl⟩)⟩) rfl (by go_simp; rfl) ?_
      refine wpAnyR_take (i := 18) rfl (by kernel_rfl) (by kernel_rfl) (by kernel_rfl) (fun _ _ _ h => h) hS6 (.inl ⟨by kernel_rfl, fun w' hS => (by have y120 := cell_at hS V12.out.lt V12.out.c0; have y121 := cell_at hS V12.out.lt V12.out.c1; have y122 := cell_at hS V12.out.lt V12.out.c2; go_simp; exact ⟨rfl, rfl⟩)⟩) rfl (by go_simp; rfl) ?_
      refine wpAnyR_oneG (i := 19) rfl (by kernel_rfl) (by kernel_rfl) rfl ?_
      go_simp
      refine (d_shift (Db.out.below hS6) ((bd_VV b).sz (by decide)) 1 (by decide) (by decide) (by decide) (by decide)).mono ?_
      rintro e w7 ⟨v7, rfl, hv7, hb7⟩
      obtain ⟨n_sb, a_sb, l_sb, k_sb, E_sb, rfl⟩ := hv7.shape
      have hS7 : Below wb5.heap.size wb5 w7 := below_next hS6 hb7
      have Dsb := Lib.hid hv7
      clear hv7 hb7
      refine ⟨hS7, ?_⟩
      refine wpAnyR_oneG (i := 20) rfl (by kernel_rfl) (by kernel_rfl) rfl ?_
      go_simp
      refine (d_cmp (y := Fl.VV b * ((2 ^ 1 : Nat) : Int)) (Da.out.below hS7) (Dsb.out.to 1 rfl rfl) HZ1.out (by decide) (by decide)).mono ?_
      rintro e w8 ⟨rfl, hb8⟩
      have hS8 : Below wb5.heap.size wb5 w8 := below_next hS7 hb8
      have Dsb := Lib.hid (Dsb.out.below hb8)
      clear hb8
      generalize cmpv (Fl.VV a) (Fl.VV b * ((2 ^ 1 : Nat) : Int)) = cc at HC1 ⊢
      have hc1 : ¬ 0 < cc := Int.not_lt.2 HC1.out
      refine ⟨hS8, ?_⟩
      refine wpAnyR_take (i := 21) rfl (by kernel_rfl) (by kernel_rfl) (by kernel_rfl) (fun _ _ _ h => h) hS8 (.inl ⟨by kernel_rfl, fun w' hS => (by go_simp; exact ⟨rfl, rfl⟩)⟩) rfl (by go_simp; rfl) ?_
      refine wpAnyR_take (i := 22) rfl (by kernel_rfl) (by kernel_rfl) (by kernel_rfl) (fun _ _ _ h => h) hS8 (.inl ⟨by kernel_rfl, fun w' hS => (by go_simp; exact ⟨rfl, rfl⟩)⟩) rfl (by go_simp; rfl) ?_
      refine wpAnyR_take (i := 23) rfl (by kernel_rfl) (by kernel_rfl) (by kernel_rfl) (fun _ _ _ h => h) hS8 (.inl ⟨by kernel_rfl, fun w' hS => (by go_simp; exact ⟨rfl, rfl⟩)⟩) rfl (by go_simp; rfl) ?_
      refine wpAnyR_take (i := 24) rfl (by kernel_rfl) (by kernel_rfl) (by kernel_rfl) (fun _ _ _ h => h) hS8 (.inl ⟨by kernel_rfl, fun w' hS => (by have y120 := cell_at hS V12.out.lt V12.out.c0; have y121 := cell_at hS V12.out.lt V12.out.c1; have y122 := cell_at hS V12.out.lt V12.out.c2; go_simp; exact ⟨rfl, rfl⟩)⟩) rfl (by go_simp; rfl) ?_
      refine wpAnyR_take (i := 25) rfl (by kernel_rfl) (by kernel_rfl) (by kernel_rfl) (fun _ _ _ h => h) hS8 (.inl ⟨by kernel_rfl, fun w' hS => (by have y100 := cell_at hS V10.out.lt V10.out.c0; have y101 := cell_at hS V10.out.lt V10.out.c1; have y102 := cell_at hS V10.out.lt V10.out.c2; go_simp; exact ⟨rfl, rfl⟩)⟩) rfl (by go_simp; rfl) ?_
      refine wpAnyR_oneG (i := 26) rfl (by kernel_rfl) (by kernel_rfl) rfl ?_
      go_simp
      refine (d_shift (Da.out.below hS8) ((bd_VV a).sz (by decide)) 1 (by decide) (by decide) (by decide) (by decide)).mono ?_
      rintro e w9 ⟨v9, rfl, hv9, hb9⟩
      obtain ⟨n_sa, a_sa, l_sa, k_sa, E_sa, rfl⟩ := hv9.shape
      have hS9 : Below wb5.heap.size wb5 w9 := below_next hS8 hb9
      have Dsb := Lib.hid (Dsb.out.below hb9)
      have Dsa := Lib.hid hv9
      clear hv9 hb9
      refine ⟨hS9, ?_⟩
      refine wpAnyR_oneG (i := 27) rfl (by kernel_rfl) (by kernel_rfl) rfl ?_
      go_simp
      refine (d_cmp (y := Fl.VV a * ((2 ^ 1 : Nat) : Int)) (Db.out.below hS9) (Dsa.out.to 1 rfl rfl) HZ2.out (by decide) (by decide)).mono ?_
      rintro e w10 ⟨rfl, hb10⟩
      have hS10 : Below wb5.heap.size wb5 w10 := below_next hS9 hb10
      have Dsb := Lib.hid (Dsb.out.below hb10)
      have Dsa := Lib.hid (Dsa.out.below hb10)
      clear hb10
      generalize cmpv (Fl.VV b) (Fl.VV a * ((2 ^ 1 : Nat) : Int)) = cd at HC2 ⊢
      have hc2 := HC2.out
      refine ⟨hS10, ?_⟩
      refine wpAnyR_take (i := 28) rfl (by kernel_rfl) (by kernel_rfl) (by kernel_rfl) (fun _ _ _ h => h) hS10 (.inl ⟨by kernel_rfl, fun w' hS => (by go_simp; exact ⟨rfl, rfl⟩)⟩) rfl (by go_simp; rfl) ?_
      refine wpAnyR_take (i := 29) rfl (by kernel_rfl) (by kernel_rfl) (by kernel_rfl) (fun _ _ _ h => h) hS10 (.inl ⟨by kernel_rfl, fun w' hS => (by go_simp; exact ⟨rfl, rfl⟩)⟩) rfl (by go_simp; rfl) ?_
      refine wpAnyR_done (by kernel_rfl) ?_ _
      have Da := Lib.hid (Da.out.below hS10)
      have V10 := Lib.hid (V10.out.below hS10)
      have Db := Lib.hid (Db.out.below hS10)
      have V12 := Lib.hid (V12.out.below hS10)
      have HB := Lib.hid (below_next HB.out hS10)
      go_wp2
      go_ret
      exact ⟨rfl, HB.out⟩
  · have HC1 : Hid (0 < cmpv (Fl.VV a) (Fl.VV b * ((2 ^ 1 : Nat) : Int))) := Lib.hid (by rw [cmpv_gt (by omega)]; decide)
    clear hc
    refine wp_region_still (S := Below wb5.heap.size wb5) (by kernel_rfl) ?_
    have hS6 : Below wb5.heap.size wb5 wb5.drew := (Below.refl _ wb5).drew
    refine wpAnyR_take (i := 0) rfl (by kernel_rfl) (by kernel_rfl) (by kernel_rfl) (fun _ _ _ h => h) hS6 (.inl ⟨by kernel_rfl, fun w' hS => (by go_simp; exact ⟨rfl, rfl⟩)⟩) rfl (by go_simp; rfl) ?_
    refine wpAnyR_take (i := 1) rfl (by kernel_rfl) (by kernel_rfl) (by kernel_rfl) (fun _ _ _ h => h) hS6 (.inl ⟨by kernel_rfl, fun w' hS => (by go_simp; exact ⟨rfl, rfl⟩)⟩) rfl (by go_simp; rfl) ?_
    refine wpAnyR_take (i := 2) rfl (by kernel_rfl) (by kernel_rfl) (by kernel_rfl) (fun _ _ _ h => h) hS6 (.inl ⟨by kernel_rfl, fun w' hS => (by go_simp; exact ⟨rfl, rfl⟩)⟩) rfl (by go_simp; rfl) ?_
    refine wpAnyR_take (i := 3) rfl (by kernel_rfl) (by kernel_rfl) (by kernel_rfl) (fun _ _ _ h => h) hS6 (.inl ⟨by kernel_rfl, fun w' hS => (by go_simp; exact ⟨rfl, rfl⟩)⟩) rfl (by go_simp; rfl) ?_
    refine wpAnyR_take (i := 4) rfl (by kernel_rfl) (by kernel_rfl) (by kernel_rfl) (fun _ _ _ h => h) hS6 (.inl ⟨by kernel_rfl, fun w' hS => (by go_simp; exact ⟨rfl, rfl⟩)⟩) rfl (by go_simp; rfl) ?_
    refine wpAnyR_take (i := 5) rfl (by kernel_rfl) (by kernel_rfl) (by kernel_rfl) (fun _ _ _ h => h) hS6 (.inl ⟨by kernel_rfl, fun w' hS => (by go_simp; exact ⟨rfl, rfl⟩)⟩) rfl (by go_simp; rfl) ?_
    refine wpAnyR_take (i := 6) rfl (by kernel_rfl) (by kernel_rfl) (by kernel_rfl) (fun _ _ _ h => h) hS6 (.inl ⟨by kernel_rfl, fun w' hS => (by go_simp; exact ⟨rfl, rfl⟩)⟩) rfl (by go_simp; rfl) ?_
    refine wpAnyR_take (i := 7) rfl (by kernel_rfl) (by kernel_rfl) (by kernel_rfl) (fun _ _ _ h => h) hS6 (.inl ⟨by kernel_rfl, fun w' hS => (by go_simp; exact ⟨rfl, rfl⟩)⟩) rfl (by go_simp; rfl) ?_
    refine wpAnyR_take (i := 8) rfl (by kernel_rfl) (by kernel_rfl) (by kernel_rfl) (fun _ _ _ h => h) hS6 (.inl ⟨by kernel_rfl, fun w' hS => (by go_simp; exact ⟨rfl, rfl⟩)⟩) rfl (by go_simp; rfl) ?_
    refine wpAnyR_take (i := 9) rfl (by kernel_rfl) (by kernel_rfl) (by kernel_rfl) (fun _ _ _ h => h) hS6 (.inl ⟨by kernel_rfl, fun w' hS => (by go_simp; exact ⟨rfl, rfl⟩)⟩) rfl (by go_simp; rfl) ?_
    refine wpAnyR_take (i := 10) rfl (by kernel_rfl) (by kernel_rfl) (by kernel_rfl) (fun _ _ _ h => h) hS6 (.inl ⟨by kernel_rfl, fun w' hS => (by go_simp; exact ⟨rfl, rfl⟩)⟩) rfl (by go_simp; rfl) ?_
    refine wpAnyR_take (i := 11) rfl (by kernel_rfl) (by kernel_rfl) (by kernel_rfl) (fun _ _ _ h => h) hS6 (.inl ⟨by kernel_rfl, fun w' hS => (by go_simp; exact ⟨rfl, rfl⟩)⟩) rfl (by go_simp; rfl) ?_
    refine wpAnyR_take (i := 12) rfl (by kernel_rfl) (by kernel_rfl) (by kernel_rfl) (fun _ _ _ h => h) hS6 (.inl ⟨by kernel_rfl, fun w' hS => (by go_simp; exact ⟨rfl, rfl⟩)⟩) rfl (by go_simp; rfl) ?_
    refine wpAnyR_take (i := 13) rfl (by kernel_rfl) (by kernel_rfl) (by kernel_rfl) (fun _ _ _ h => h) hS6 (.inl ⟨by kernel_rfl, fun w' hS => (by go_simp; exact ⟨rfl, rfl⟩)⟩) rfl (by go_simp; rfl) ?_
    refine wpAnyR_take (i := 14) rfl (by kernel_rfl) (by kernel_rfl) (by kernel_rfl) (fun _ _ _ h => h) hS6 (.inl ⟨by kernel_rfl, fun w' hS => (by go_simp; exact ⟨rfl, rfl⟩)⟩) rfl (by go_simp; rfl) ?_
    refine wpAnyR_take (i := 15) rfl (by kernel_rfl) (by kernel_rfl) (by kernel_rfl) (fun _ _ _ h => h) hS6 (.inl ⟨by kernel_rfl, fun w' hS => (by go_simp; exact ⟨rfl, rfl⟩)⟩) rfl (by go_simp; rfl) ?_
    refine wpAnyR_take (i := 16) rfl (by kernel_rfl) (by kernel_rfl) (by kernel_rfl) (fun _ _ _ h => h) hS6 (.inl ⟨by kernel_rfl, fun w' hS => (by go_simp; exact ⟨rfl, rfl⟩)⟩) rfl (by go_simp; rfl) ?_
    refine wpAnyR_take (i := 17) rfl (by kernel_rfl) (by kernel_rfl) (by kernel_rfl) (fun _ _ _ h => h) hS6 (.inl ⟨by kernel_rfl, fun w' hS => (by have y100 := cell_at hS V10.out.lt V10.out.c0; have y101 := cell_at hS V10.out.lt V10.out.c1; have y102 := cell_at hS V10.out.lt V10.out.c2; go_simp; exact ⟨rfl, rfl⟩)⟩) rfl (by go_simp; rfl) ?_
    refine wpAnyR_take (i := 18) rfl (by kernel_rfl) (by kernel_rfl) (by kernel_rfl) (fun _ _ _ h => h) hS6 (.inl ⟨by kernel_rfl, fun w' hS => (by have y120 := cell_at hS V12.out.lt V12.out.c0; have y121 := cell_at hS V12.out.lt V12.out.c1; have y122 := cell_at hS V12.out.lt V12.out.c2; go_simp; exact ⟨rfl, rfl⟩)⟩) rfl (by go_simp; rfl) ?_
    refine wpAnyR_oneG (i := 19) rfl (by kernel_rfl) (by kernel_rfl) rfl ?_
    go_simp
    refine (d_shift (Db.out.below hS6) ((bd_VV b).sz (by decide)) 1 (by decide) (by decide) (by decide) (by decide)).mono ?_
    rintro e w7 ⟨v7, rfl, hv7, hb7⟩
    obtain ⟨n_sb, a_sb, l_sb, k_sb, E_sb, rfl⟩ := hv7.shape
    have hS7 : Below wb5.heap.size wb5 w7 := below_next hS6 hb7
    have Dsb := Lib.hid hv7
    clear hv7 hb7
    refine ⟨hS7, ?_⟩
    refine wpAnyR_oneG (i := 20) rfl (by kernel_rfl) (by kernel_rfl) rfl ?_
    go_simp
    refine (d_cmp (y := Fl.VV b * ((2 ^ 1 : Nat) : Int)) (Da.out.below hS7) (Dsb.out.to 1 rfl rfl) HZ1.out (by decide) (by decide)).mono ?_
    rintro e w8 ⟨rfl, hb8⟩
    have hS8 : Below wb5.heap.size wb5 w8 := below_next hS7 hb8
    have Dsb := Lib.hid (Dsb.out.below hb8)
    clear hb8
    generalize cmpv (Fl.VV a) (Fl.VV b * ((2 ^ 1 : Nat) : Int)) = cc at HC1 ⊢
    have hc1 := HC1.out
    refine ⟨hS8, ?_⟩
    refine wpAnyR_take (i := 21) rfl (by kernel_rfl) (by kernel_rfl) (by kernel_rfl) (fun _ _ _ h => h) hS8 (.inl ⟨by kernel_rfl, fun w' hS => (by go_simp; exact ⟨rfl, rfl⟩)⟩) rfl (by go_simp; rfl) ?_
    refine wpAnyR_take (i := 22) rfl (by kernel_rfl) (by kernel_rfl) (by kernel_rfl) (fun _ _ _ h => h) hS8 (.inl ⟨by kernel_rfl, fun w' hS => (by go_simp; exact ⟨rfl, rfl⟩)⟩) rfl (by go_simp; rfl) ?_
    refine wpAnyR_take (i := 23) rfl (by kernel_rfl) (by kernel_rfl) (by kernel_rfl) (fun _ _ _ h => h) hS8 (.inl ⟨by kernel_rfl, fun w' hS => (by go_simp; exact ⟨rfl, rfl⟩)⟩) rfl (by go_simp; rfl) ?_
    refine wpAnyR_take (i := 24) rfl (by kernel_rfl) (by kernel_rfl) (by kernel_rfl) (fun _ _ _ h => h) hS8 (.inr ⟨by kernel_rfl, rfl⟩) rfl (by go_simp; rfl) ?_
    refine wpAnyR_take (i := 25) rfl (by kernel_rfl) (by kernel_rfl) (by kernel_rfl) (fun _ _ _ h => h) hS8 (.inr ⟨by kernel_rfl, rfl⟩) rfl (by go_simp; rfl) ?_
    refine wpAnyR_take (i := 26) rfl (by kernel_rfl) (by kernel_rfl) (by kernel_rfl) (fun _ _ _ h => h) hS8 (.inr ⟨by kernel_rfl, rfl⟩) rfl (by go_simp; rfl) ?_
    refine wpAnyR_take (i := 27) rfl (by kernel_rfl) (by kernel_rfl) (by kernel_rfl) (fun _ _ _ h => h) hS8 (.inr ⟨by kernel_rfl, rfl⟩) rfl (by go_simp; rfl) ?_
    refine wpAnyR_take (i := 28) rfl (by kernel_rfl) (by kernel_rfl) (by kernel_rfl) (fun _ _ _ h => h) hS8 (.inr ⟨by kernel_rfl, rfl⟩) rfl (by go_simp; rfl) ?_
    refine wpAnyR_take (i := 29) rfl (by kernel_rfl) (by kernel_rfl) (by kernel_rfl) (fun _ _ _ h => h) hS8 (.inl ⟨by kernel_rfl, fun w' hS => (by go_simp; exact ⟨rfl, rfl⟩)⟩) rfl (by go_simp; rfl) ?_
    refine wpAnyR_done (by kernel_rfl) ?_ _
    have Da := Lib.hid (Da.out.below hS8)
    have V10 := Lib.hid (V10.out.below hS8)
    have Db := Lib.hid (Db.out.below hS8)
    have V12 := Lib.hid (V12.out.below hS8)
    have HB := Lib.hid (below_next HB.out hS8)
    go_wp2
    go_ret
    exact ⟨rfl, HB.out⟩

set_option maxHeartbeats 8000000 in
theorem opsExact_three (m n : Int) (a b : Nat) (w : World) (ha : a < 2 ^ 64) (hb : b < 2 ^ 64) (k1 : -67108864 < m) (k2 : m < 67108864) (k3 : ¬ -67108864 < n) : Calls Try.prog 13 #[.int .i64 m, .int .i64 n, F a, F b] w fun e w' => e = .returned (.bool true) ∧ Below w.heap.size w w' := by
  have HA := Lib.hid ha
  have HBB := Lib.hid hb
  clear ha hb
  go_enter Try.func13, Try.ntmps13
  go_wp2_with fail
  refine (l4_head _).mono ?_
  rintro e w1 ⟨rfl, hb1⟩
  have HB : Hid (Below w.heap.size w w1) := Lib.hid hb1
  clear hb1
  go_wp2_with fail
  refine (f_of a HA.out _).mono ?_
  rintro e w2 ⟨v2, rfl, hv2, hb2⟩
  obtain ⟨n_a, a_a, l_a, k_a, E_a, rfl⟩ := hv2.shape
  have HB := Lib.hid (below_next HB.out hb2)
  have Da := Lib.hid hv2
  clear hv2 hb2
  obtain ⟨oka, hi2⟩ : ∃ i, Fl.isFin a = i := ⟨_, rfl⟩
  rw [hi2]
  have Ia := Lib.hid hi2
  clear hi2
  go_wp2_with fail
  obtain ⟨wb3, hw3⟩ : ∃ w', w2.alloc (Obj.cells #[Value.bool n_a, Value.slice a_a l_a k_a, Value.int IntKind.i64 E_a] 35) = w' := ⟨_, rfl⟩
  have hb3 : Below w2.heap.size w2 wb3 := by rw [← hw3]; exact below_alloc _ _
  obtain ⟨b10, hk3⟩ : ∃ b, w2.heap.size = b := ⟨_, rfl⟩
  have V10 : Hid (Var wb3 b10 n_a a_a l_a k_a E_a) := Lib.hid (by have := var_alloc w2 n_a a_a l_a k_a E_a; rw [show _ = wb3 from hw3, hk3] at this; exact this)
  have Da := Lib.hid (Da.out.below hb3)
  have HB := Lib.hid (below_next HB.out hb3)
  rw [hw3, hk3]
  clear hw3 hb3 hk3
  refine (f_of b HBB.out _).mono ?_
  rintro e w4 ⟨v4, rfl, hv4, hb4⟩
  obtain ⟨n_b, a_b, l_b, k_b, E_b, rfl⟩ := hv4.shape
  have Da := Lib.hid (Da.out.below hb4)
  have V10 := Lib.hid (V10.out.below hb4)
  have HB := Lib.hid (below_next HB.out hb4)
  have Db := Lib.hid hv4
  clear hv4 hb4
  obtain ⟨okb, hi4⟩ : ∃ i, Fl.isFin b = i := ⟨_, rfl⟩
  rw [hi4]
  have Ib := Lib.hid hi4
  clear hi4
  have HPA := Lib.hid (fun h => pos_gt HA.out h)
  have HPB := Lib.hid (fun h => pos_gt HBB.out h)
  have HT1 := Lib.hid Ia.out
  have HT2 := Lib.hid Ib.out
  go_wp2_with fail
  obtain ⟨wb5, hw5⟩ : ∃ w', w4.alloc (Obj.cells #[Value.bool n_b, Value.slice a_b l_b k_b, Value.int IntKind.i64 E_b] 35) = w' := ⟨_, rfl⟩
  have hb5 : Below w4.heap.size w4 wb5 := by rw [← hw5]; exact below_alloc _ _
  obtain ⟨b12, hk5⟩ : ∃ b, w4.heap.size = b := ⟨_, rfl⟩
  have V12 : Hid (Var wb5 b12 n_b a_b l_b k_b E_b) := Lib.hid (by have := var_alloc w4 n_b a_b l_b k_b E_b; rw [show _ = wb5 from hw5, hk5] at this; exact this)
  have Da := Lib.hid (Da.out.below hb5)
  have V10 := Lib.hid (V10.out.below hb5)
  have Db := Lib.hid (Db.out.below hb5)
  have HB := Lib.hid (below_next HB.out hb5)
  rw [hw5, hk5]
  clear hw5 hb5 hk5
  cases oka
  · refine wp_region_still (S := Below wb5.heap.size wb5) (by kernel_rfl) ?_
    have hS6 : Below wb5.heap.size wb5 wb5.drew := (Below.refl _ wb5).drew
    refine wpAnyR_take (i := 0) rfl (by kernel_rfl) (by kernel_rfl) (by kernel_rfl) (fun _ _ _ h => h) hS6 (.inl ⟨by kernel_rfl, fun w' hS => (by go_simp; exact ⟨rfl, rfl⟩)⟩) rfl (by go_simp; rfl) ?_
    refine wpAnyR_take (i := 1) rfl (by kernel_rfl) (by kernel_rfl) (by kernel_rfl) (fun _ _ _ h => h) hS6 (.inl ⟨by kernel_rfl, fun w' hS => (by go_simp; exact ⟨rfl, rfl⟩)⟩) rfl (by go_simp; rfl) ?_
    refine wpAnyR_take (i := 2) rfl (by kernel_rfl) (by kernel_rfl) (by kernel_rfl) (fun _ _ _ h => h) hS6 (.inl ⟨by kernel_rfl, fun w' hS => (by go_simp; exact ⟨rfl, rfl⟩)⟩) rfl (by go_simp; rfl) ?_
    refine wpAnyR_take (i := 3) rfl (by kernel_rfl) (by kernel_rfl) (by kernel_rfl) (fun _ _ _ h => h) hS6 (.inr ⟨by kernel_rfl, rfl⟩) rfl (by go_simp; rfl) ?_
    refine wpAnyR_take (i := 4) rfl (by kernel_rfl) (by kernel_rfl) (by kernel_rfl) (fun _ _ _ h => h) hS6 (.inr ⟨by kernel_rfl, rfl⟩) rfl (by go_simp; rfl) ?_
    refine wpAnyR_take (i := 5) rfl (by kernel_rfl) (by kernel_rfl) (by kernel_rfl) (fun _ _ _ h => h) hS6 (.inl ⟨by kernel_rfl, fun w' hS => (by go_simp; exact ⟨rfl, rfl⟩)⟩) rfl (by go_simp; rfl) ?_
    refine wpAnyR_take (i := 6) rfl (by kernel_rfl) (by kernel_rfl) (by kernel_rfl) (fun _ _ _ h => h) hS6 (.inl ⟨by kernel_rfl, fun w' hS => (by go_simp; exact ⟨rfl, rfl⟩)⟩) rfl (by go_simp; rfl) ?_
    refine wpAnyR_take (i := 7) rfl (by kernel_rfl) (by kernel_rfl) (by kernel_rfl) (fun _ _ _ h => h) hS6 (.inr ⟨by kernel_rfl, rfl⟩) rfl (by go_simp; rfl) ?_
    refine wpAnyR_take (i := 8) rfl (by kernel_rfl) (by kernel_rfl) (by kernel_rfl) (fun _ _ _ h => h) hS6 (.inr ⟨by kernel_rfl, rfl⟩) rfl (by go_simp; rfl) ?_
    refine wpAnyR_take (i := 9) rfl (by kernel_rfl) (by kernel_rfl) (by kernel_rfl) (fun _ _ _ h => h) hS6 (.inr ⟨by kernel_rfl, rfl⟩) rfl (by go_simp; rfl) ?_
    refine wpAnyR_take (i := 10) rfl (by kernel_rfl) (by kernel_rfl) (by kernel_rfl) (fun _ _ _ h => h) hS6 (.inl ⟨by kernel_rfl, fun w' hS => (by go_simp; exact ⟨rfl, rfl⟩)⟩) rfl (by go_simp; rfl) ?_
    refine wpAnyR_take (i := 11) rfl (by kernel_rfl) (by kernel_rfl) (by kernel_rfl) (fun _ _ _ h => h) hS6 (.inl ⟨by kernel_rfl, fun w' hS => (by go_simp; exact ⟨rfl, rfl⟩)⟩) rfl (by go_simp; rfl) ?_
    refine wpAnyR_take (i := 12) rfl (by kernel_rfl) (by kernel_rfl) (by kernel_rfl) (fun _ _ _ h => h) hS6 (.inr ⟨by kernel_rfl, rfl⟩) rfl (by go_simp; rfl) ?_
    refine wpAnyR_take (i := 13) rfl (by kernel_rfl) (by kernel_rfl) (by kernel_rfl) (fun _ _ _ h => h) hS6 (.inr ⟨by kernel_rfl, rfl⟩) rfl (by go_simp; rfl) ?_
    refine wpAnyR_take (i := 14) rfl (by kernel_rfl) (by kernel_rfl) (by kernel_rfl) (fun _ _ _ h => h) hS6 (.inr ⟨by kernel_rfl, rfl⟩) rfl (by go_simp; rfl) ?_
    refine wpAnyR_take (i := 15) rfl (by kernel_rfl) (by kernel_rfl) (by kernel_rfl) (fun _ _ _ h => h) hS6 (.inl ⟨by kernel_rfl, fun w' hS => (by go_simp; exact ⟨rfl, rfl⟩)⟩) rfl (by go_simp; rfl) ?_
    refine wpAnyR_take (i := 16) rfl (by kernel_rfl) (by kernel_rfl) (by kernel_rfl) (fun _ _ _ h => h) hS6 (.inl ⟨by kernel_rfl, fun w' hS => (by go_simp; exact ⟨rfl, rfl⟩)⟩) rfl (by go_simp; rfl) ?_
    refine wpAnyR_take (i := 17) rfl (by kernel_rfl) (by kernel_rfl) (by kernel_rfl) (fun _ _ _ h => h) hS6 (.inr ⟨by kernel_rfl, rfl⟩) rfl (by go_simp; rfl) ?_
    refine wpAnyR_take (i := 18) rfl (by kernel_rfl) (by kernel_rfl) (by kernel_rfl) (fun _ _ _ h => h) hS6 (.inr ⟨by kernel_rfl, rfl⟩) rfl (by go_simp; rfl) ?_
    refine wpAnyR_take (i := 19) rfl (by kernel_rfl) (by kernel_rfl) (by kernel_rfl) (fun _ _ _ h => h) hS6 (.inr ⟨by kernel_rfl, rfl⟩) rfl (by go_simp; rfl) ?_
    refine wpAnyR_take (i := 20) rfl (by kernel_rfl) (by kernel_rfl) (by kernel_rfl) (fun _ _ _ h => h) hS6 (.inr ⟨by kernel_rfl, rfl⟩) rfl (by go_simp; rfl) ?_
    refine wpAnyR_take (i := 21) rfl (by kernel_rfl) (by kernel_rfl) (by kernel_rfl) (fun _ _ _ h => h) hS6 (.inr ⟨by kernel_rfl, rfl⟩) rfl (by go_simp; rfl) ?_
    refine wpAnyR_take (i := 22) rfl (by kernel_rfl) (by kernel_rfl) (by kernel_rfl) (fun _ _ _ h => h) hS6 (.inl ⟨by kernel_rfl, fun w' hS => (by go_simp; exact ⟨rfl, rfl⟩)⟩) rfl (by go_simp; rfl) ?_
    refine wpAnyR_take (i := 23) rfl (by kernel_rfl) (by kernel_rfl) (by kernel_rfl) (fun _ _ _ h => h) hS6 (.inl ⟨by kernel_rfl, fun w' hS => (by go_simp; exact ⟨rfl, rfl⟩)⟩) rfl (by go_simp; rfl) ?_
    refine wpAnyR_take (i := 24) rfl (by kernel_rfl) (by kernel_rfl) (by kernel_rfl) (fun _ _ _ h => h) hS6 (.inr ⟨by kernel_rfl, rfl⟩) rfl (by go_simp; rfl) ?_
    refine wpAnyR_take (i := 25) rfl (by kernel_rfl) (by kernel_rfl) (by kernel_rfl) (fun _ _ _ h => h) hS6 (.inr ⟨by kernel_rfl, rfl⟩) rfl (by go_simp; rfl) ?_
    refine wpAnyR_take (i := 26) rfl (by kernel_rfl) (by kernel_rfl) (by kernel_rfl) (fun _ _ _ h => h) hS6 (.inr ⟨by kernel_rfl, rfl⟩) rfl (by go_simp; rfl) ?_
    refine wpAnyR_take (i := 27) rfl (by kernel_rfl) (by kernel_rfl) (by kernel_rfl) (fun _ _ _ h => h) hS6 (.inr ⟨by kernel_rfl, rfl⟩) rfl (by go_simp; rfl) ?_
    refine wpAnyR_take (i := 28) rfl (by kernel_rfl) (by kernel_rfl) (by kernel_rfl) (fun _ _ _ h => h) hS6 (.inr ⟨by kernel_rfl, rfl⟩) rfl (by go_simp; rfl) ?_
    refine wpAnyR_take (i := 29) rfl (by kernel_rfl) (by kernel_rfl) (by kernel_rfl) (fun _ _ _ h => h) hS6 (.inl ⟨by kernel_rfl, fun w' hS => (by go_simp; exact ⟨rfl, rfl⟩)⟩) rfl (by go_simp; rfl) ?_
    refine wpAnyR_done (by kernel_rfl) ?_ _
    obtain ⟨w7, hw7⟩ : ∃ w', wb5.drew = w' := ⟨_, rfl⟩
    rw [hw7] at hS6 ⊢
    clear hw7
    have Da := Lib.hid (Da.out.below hS6)
    have V10 := Lib.hid (V10.out.below hS6)
    have Db := Lib.hid (Db.out.below hS6)
    have V12 := Lib.hid (V12.out.below hS6)
    have HB := Lib.hid (below_next HB.out hS6)
    go_wp2
    go_ret
    exact ⟨rfl, HB.out⟩
  cases okb
  · refine wp_region_still (S := Below wb5.heap.size wb5) (by kernel_rfl) ?_
    have hS6 : Below wb5.heap.size wb5 wb5.drew := (Below.refl _ wb5).drew
    refine wpAnyR_take (i := 0) rfl (by kernel_rfl) (by kernel_rfl) (by kernel_rfl) (fun _ _ _ h => h) hS6 (.inl ⟨by kernel_rfl, fun w' hS => (by go_simp; exact ⟨rfl, rfl⟩)⟩) rfl (by go_simp; rfl) ?_
    refine wpAnyR_take (i := 1) rfl (by kernel_rfl) (by kernel_rfl) (by kernel_rfl) (fun _ _ _ h => h) hS6 (.inl ⟨by kernel_rfl, fun w' hS => (by go_simp; exact ⟨rfl, rfl⟩)⟩) rfl (by go_simp; rfl) ?_
    refine wpAnyR_take (i := 2) rfl (by kernel_rfl) (by kernel_rfl) (by kernel_rfl) (fun _ _ _ h => h) hS6 (.inl ⟨by kernel_rfl, fun w' hS => (by go_simp; exact ⟨rfl, rfl⟩)⟩) rfl (by go_simp; rfl) ?_
    refine wpAnyR_take (i := 3) rfl (by kernel_rfl) (by kernel_rfl) (by kernel_rfl) (fun _ _ _ h => h) hS6 (.inl ⟨by kernel_rfl, fun w' hS => (by go_simp; exact ⟨rfl, rfl⟩)⟩) rfl (by go_simp; rfl) ?_
    refine wpAnyR_take (i := 4) rfl (by kernel_rfl) (by kernel_rfl) (by kernel_rfl) (fun _ _ _ h => h) hS6 (.inl ⟨by kernel_rfl, fun w' hS => (by go_simp; exact ⟨rfl, rfl⟩)⟩) rfl (by go_simp; rfl) ?_
    refine wpAnyR_take (i := 5) rfl (by kernel_rfl) (by kernel_rfl) (by kernel_rfl) (fun _ _ _ h => h) hS6 (.inl ⟨by kernel_rfl, fun w' hS => (by go_simp; exact ⟨rfl, rfl⟩)⟩) rfl (by go_simp; rfl) ?_
    refine wpAnyR_take (i := 6) rfl (by kernel_rfl) (by kernel_rfl) (by kernel_rfl) (fun _ _ _ h => h) hS6 (.inl ⟨by kernel_rfl, fun w' hS => (by go_simp; exact ⟨rfl, rfl⟩)⟩) rfl (by go_simp; rfl) ?_
    refine wpAnyR_take (i := 7) rfl (by kernel_rfl) (by kernel_rfl) (by kernel_rfl) (fun _ _ _ h => h) hS6 (.inr ⟨by kernel_rfl, rfl⟩) rfl (by go_simp; rfl) ?_
    refine wpAnyR_take (i := 8) rfl (by kernel_rfl) (by kernel_rfl) (by kernel_rfl) (fun _ _ _ h => h) hS6 (.inr ⟨by kernel_rfl, rfl⟩) rfl (by go_simp; rfl) ?_
    refine wpAnyR_take (i := 9) rfl (by kernel_rfl) (by kernel_rfl) (by kernel_rfl) (fun _ _ _ h => h) hS6 (.inr ⟨by kernel_rfl, rfl⟩) rfl (by go_simp; rfl) ?_
    refine wpAnyR_take (i := 10) rfl (by kernel_rfl) (by kernel_rfl) (by kernel_rfl) (fun _ _ _ h => h) hS6 (.inl ⟨by kernel_rfl, fun w' hS => (by go_simp; exact ⟨rfl, rfl⟩)⟩) rfl (by go_simp; rfl) ?_
    refine wpAnyR_take (i := 11) rfl (by kernel_rfl) (by kernel_rfl) (by kernel_rfl) (fun _ _ _ h => h) hS6 (.inl ⟨by kernel_rfl, fun w' hS => (by go_simp; exact ⟨rfl, rfl⟩)⟩) rfl (by go_simp; rfl) ?_
    refine wpAnyR_take (i := 12) rfl (by kernel_rfl) (by kernel_rfl) (by kernel_rfl) (fun _ _ _ h => h) hS6 (.inr ⟨by kernel_rfl, rfl⟩) rfl (by go_simp; rfl) ?_
    refine wpAnyR_take (i := 13) rfl (by kernel_rfl) (by kernel_rfl) (by kernel_rfl) (fun _ _ _ h => h) hS6 (.inr ⟨by kernel_rfl, rfl⟩) rfl (by go_simp; rfl) ?_
    refine wpAnyR_take (i := 14) rfl (by kernel_rfl) (by kernel_rfl) (by kernel_rfl) (fun _ _ _ h => h) hS6 (.inr ⟨by kernel_rfl, rfl⟩) rfl (by go_simp; rfl) ?_
    refine wpAnyR_take (i := 15) rfl (by kernel_rfl) (by kernel_rfl) (by kernel_rfl) (fun _ _ _ h => h) hS6 (.inl ⟨by kernel_rfl, fun w' hS => (by go_simp; exact ⟨rfl, rfl⟩)⟩) rfl (by go_simp; rfl) ?_
    refine wpAnyR_take (i := 16) rfl (by kernel_rfl) (by kernel_rfl) (by kernel_rfl) (fun _ _ _ h => h) hS6 (.inl ⟨by kernel_rfl, fun w' hS => (by go_simp; exact ⟨rfl, rfl⟩)⟩) rfl (by go_simp; rfl) ?_
    refine wpAnyR_take (i := 17) rfl (by kernel_rfl) (by kernel_rfl) (by kernel_rfl) (fun _ _ _ h => h) hS6 (.inr ⟨by kernel_rfl, rfl⟩) rfl (by go_simp; rfl) ?_
    refine wpAnyR_take (i := 18) rfl (by kernel_rfl) (by kernel_rfl) (by kernel_rfl) (fun _ _ _ h => h) hS6 (.inr ⟨by kernel_rfl, rfl⟩) rfl (by go_simp; rfl) ?_
    refine wpAnyR_take (i := 19) rfl (by kernel_rfl) (by kernel_rfl) (by kernel_rfl) (fun _ _ _ h => h) hS6 (.inr ⟨by kernel_rfl, rfl⟩) rfl (by go_simp; rfl) ?_
    refine wpAnyR_take (i := 20) rfl (by kernel_rfl) (by kernel_rfl) (by kernel_rfl) (fun _ _ _ h => h) hS6 (.inr ⟨by kernel_rfl, rfl⟩) rfl (by go_simp; rfl) ?_
    refine wpAnyR_take (i := 21) rfl (by kernel_rfl) (by kernel_rfl) (by kernel_rfl) (fun _ _ _ h => h) hS6 (.inr ⟨by kernel_rfl, rfl⟩) rfl (by go_simp; rfl) ?_
    refine wpAnyR_take (i := 22) rfl (by kernel_rfl) (by kernel_rfl) (by kernel_rfl) (fun _ _ _ h => h) hS6 (.inl ⟨by kernel_rfl, fun w' hS => (by go_simp; exact ⟨rfl, rfl⟩)⟩) rfl (by go_simp; rfl) ?_
    refine wpAnyR_take (i := 23) rfl (by kernel_rfl) (by kernel_rfl) (by kernel_rfl) (fun _ _ _ h => h) hS6 (.inl ⟨by kernel_rfl, fun w' hS => (by go_simp; exact ⟨rfl, rfl⟩)⟩) rfl (by go_simp; rfl) ?_
    refine wpAnyR_take (i := 24) rfl (by kernel_rfl) (by kernel_rfl) (by kernel_rfl) (fun _ _ _ h => h) hS6 (.inr ⟨by kernel_rfl, rfl⟩) rfl (by go_simp; rfl) ?_
    refine wpAnyR_take (i := 25) rfl (by kernel_rfl) (by kernel_rfl) (by kernel_rfl) (fun _ _ _ h => h) hS6 (.inr ⟨by kernel_rfl, rfl⟩) rfl (by go_simp; rfl) ?_
    refine wpAnyR_take (i := 26) rfl (by kernel_rfl) (by kernel_rfl) (by kernel_rfl) (fun _ _ _ h => h) hS6 (.inr ⟨by kernel_rfl, rfl⟩) rfl (by go_simp; rfl) ?_
    refine wpAnyR_take (i := 27) rfl (by kernel_rfl) (by kernel_rfl) (by kernel_rfl) (fun _ _ _ h => h) hS6 (.inr ⟨by kernel_rfl, rfl⟩) rfl (by go_simp; rfl) ?_
    refine wpAnyR_take (i := 28) rfl (by kernel_rfl) (by kernel_rfl) (by kernel_rfl) (fun _ _ _ h => h) hS6 (.inr ⟨by kernel_rfl, rfl⟩) rfl (by go_simp; rfl) ?_
    refine wpAnyR_take (i := 29) rfl (by kernel_rfl) (by kernel_rfl) (by kernel_rfl) (fun _ _ _ h => h) hS6 (.inl ⟨by kernel_rfl, fun w' hS => (by go_simp; exact ⟨rfl, rfl⟩)⟩) rfl (by go_simp; rfl) ?_
    refine wpAnyR_done (by kernel_rfl) ?_ _
    obtain ⟨w7, hw7⟩ : ∃ w', wb5.drew = w' := ⟨_, rfl⟩
    rw [hw7] at hS6 ⊢
    clear hw7
    have Da := Lib.hid (Da.out.below hS6)
    have V10 := Lib.hid (V10.out.below hS6)
    have Db := Lib.hid (Db.out.below hS6)
    have V12 := Lib.hid (V12.out.below hS6)
    have HB := Lib.hid (below_next HB.out hS6)
    go_wp2
    go_ret
    exact ⟨rfl, HB.out⟩
  have hpa := HPA.out HT1.out
  have hpb := HPB.out HT2.out
  obtain ⟨ga, hga⟩ : ∃ g, decide (0 < Fl.VV a) = g := ⟨_, rfl⟩
  obtain ⟨gb, hgb⟩ : ∃ g, decide (0 < Fl.VV b) = g := ⟨_, rfl⟩
  rw [hga] at hpa
  rw [hgb] at hpb
  have HGA := Lib.hid hga
  have HGB := Lib.hid hgb
  clear hga hgb
  cases ga
  · refine wp_region_still (S := Below wb5.heap.size wb5) (by kernel_rfl) ?_
    have hS6 : Below wb5.heap.size wb5 wb5.drew := (Below.refl _ wb5).drew
    refine wpAnyR_take (i := 0) rfl (by kernel_rfl) (by kernel_rfl) (by kernel_rfl) (fun _ _ _ h => h) hS6 (.inl ⟨by kernel_rfl, fun w' hS => (by go_simp; exact ⟨rfl, rfl⟩)⟩) rfl (by go_simp; rfl) ?_
    refine wpAnyR_take (i := 1) rfl (by kernel_rfl) (by kernel_rfl) (by kernel_rfl) (fun _ _ _ h => h) hS6 (.inl ⟨by kernel_rfl, fun w' hS => (by go_simp; exact ⟨rfl, rfl⟩)⟩) rfl (by go_simp; rfl) ?_
    refine wpAnyR_take (i := 2) rfl (by kernel_rfl) (by kernel_rfl) (by kernel_rfl) (fun _ _ _ h => h) hS6 (.inl ⟨by kernel_rfl, fun w' hS => (by go_simp; exact ⟨rfl, rfl⟩)⟩) rfl (by go_simp; rfl) ?_
    refine wpAnyR_take (i := 3) rfl (by kernel_rfl) (by kernel_rfl) (by kernel_rfl) (fun _ _ _ h => h) hS6 (.inl ⟨by kernel_rfl, fun w' hS => (by go_simp; exact ⟨rfl, rfl⟩)⟩) rfl (by go_simp; rfl) ?_
    refine wpAnyR_take (i := 4) rfl (by kernel_rfl) (by kernel_rfl) (by kernel_rfl) (fun _ _ _ h => h) hS6 (.inl ⟨by kernel_rfl, fun w' hS => (by go_simp; exact ⟨rfl, rfl⟩)⟩) rfl (by go_simp; rfl) ?_
    refine wpAnyR_take (i := 5) rfl (by kernel_rfl) (by kernel_rfl) (by kernel_rfl) (fun _ _ _ h => h) hS6 (.inl ⟨by kernel_rfl, fun w' hS => (by go_simp; exact ⟨rfl, rfl⟩)⟩) rfl (by go_simp; rfl) ?_
    refine wpAnyR_take (i := 6) rfl (by kernel_rfl) (by kernel_rfl) (by kernel_rfl) (fun _ _ _ h => h) hS6 (.inl ⟨by kernel_rfl, fun w' hS => (by go_simp; exact ⟨rfl, rfl⟩)⟩) rfl (by go_simp; rfl) ?_
    refine wpAnyR_take (i := 7) rfl (by kernel_rfl) (by kernel_rfl) (by kernel_rfl) (fun _ _ _ h => h) hS6 (.inl ⟨by kernel_rfl, fun w' hS => (by go_simp; exact ⟨rfl, rfl⟩)⟩) rfl (by go_simp; rfl) ?_
    refine wpAnyR_take (i := 8) rfl (by kernel_rfl) (by kernel_rfl) (by kernel_rfl) (fun _ _ _ h => h) hS6 (.inl ⟨by kernel_rfl, fun w' hS => (by go_simp; exact ⟨rfl, rfl⟩)⟩) rfl (by go_simp; rfl) ?_
    refine wpAnyR_take (i := 9) rfl (by kernel_rfl) (by kernel_rfl) (by kernel_rfl) (fun _ _ _ h => h) hS6 (.inl ⟨by kernel_rfl, fun w' hS => (by go_simp; exact ⟨rfl, rfl⟩)⟩) rfl (by go_simp; rfl) ?_
    refine wpAnyR_take (i := 10) rfl (by kernel_rfl) (by kernel_rfl) (by kernel_rfl) (fun _ _ _ h => h) hS6 (.inl ⟨by kernel_rfl, fun w' hS => (by go_simp; exact ⟨rfl, rfl⟩)⟩) rfl (by go_simp; rfl) ?_
    refine wpAnyR_take (i := 11) rfl (by kernel_rfl) (by kernel_rfl) (by kernel_rfl) (fun _ _ _ h => h) hS6 (.inl ⟨by kernel_rfl, fun w' hS => (by go_simp; exact ⟨rfl, rfl⟩)⟩) rfl (by go_simp; rfl) ?_
    refine wpAnyR_take (i := 12) rfl (by kernel_rfl) (by kernel_rfl) (by kernel_rfl) (fun _ _ _ h => h) hS6 (.inr ⟨by kernel_rfl, rfl⟩) rfl (by go_simp; rfl) ?_
    refine wpAnyR_take (i := 13) rfl (by kernel_rfl) (by kernel_rfl) (by kernel_rfl) (fun _ _ _ h => h) hS6 (.inr ⟨by kernel_rfl, rfl⟩) rfl (by go_simp; rfl) ?_
    refine wpAnyR_take (i := 14) rfl (by kernel_rfl) (by kernel_rfl) (by kernel_rfl) (fun _ _ _ h => h) hS6 (.inr ⟨by kernel_rfl, rfl⟩) rfl (by go_simp; rfl) ?_
    refine wpAnyR_take (i := 15) rfl (by kernel_rfl) (by kernel_rfl) (by kernel_rfl) (fun _ _ _ h => h) hS6 (.inl ⟨by kernel_rfl, fun w' hS => (by go_simp; exact ⟨rfl, rfl⟩)⟩) rfl (by go_simp; rfl) ?_
    refine wpAnyR_take (i := 16) rfl (by kernel_rfl) (by kernel_rfl) (by kernel_rfl) (fun _ _ _ h => h) hS6 (.inl ⟨by kernel_rfl, fun w' hS => (by go_simp; exact ⟨rfl, rfl⟩)⟩) rfl (by go_simp; rfl) ?_
    refine wpAnyR_take (i := 17) rfl (by kernel_rfl) (by kernel_rfl) (by kernel_rfl) (fun _ _ _ h => h) hS6 (.inr ⟨by kernel_rfl, rfl⟩) rfl (by go_simp; rfl) ?_
    refine wpAnyR_take (i := 18) rfl (by kernel_rfl) (by kernel_rfl) (by kernel_rfl) (fun _ _ _ h => h) hS6 (.inr ⟨by kernel_rfl, rfl⟩) rfl (by go_simp; rfl) ?_
    refine wpAnyR_take (i := 19) rfl (by kernel_rfl) (by kernel_rfl) (by kernel_rfl) (fun _ _ _ h => h) hS6 (.inr ⟨by kernel_rfl, rfl⟩) rfl (by go_simp; rfl) ?_
    refine wpAnyR_take (i := 20) rfl (by kernel_rfl) (by kernel_rfl) (by kernel_rfl) (fun _ _ _ h => h) hS6 (.inr ⟨by kernel_rfl, rfl⟩) rfl (by go_simp; rfl) ?_
    refine wpAnyR_take (i := 21) rfl (by kernel_rfl) (by kernel_rfl) (by kernel_rfl) (fun _ _ _ h => h) hS6 (.inr ⟨by kernel_rfl, rfl⟩) rfl (by go_simp; rfl) ?_
    refine wpAnyR_take (i := 22) rfl (by kernel_rfl) (by kernel_rfl) (by kernel_rfl) (fun _ _ _ h => h) hS6 (.inl ⟨by kernel_rfl, fun w' hS => (by go_simp; exact ⟨rfl, rfl⟩)⟩) rfl (by go_simp; rfl) ?_
    refine wpAnyR_take (i := 23) rfl (by kernel_rfl) (by kernel_rfl) (by kernel_rfl) (fun _ _ _ h => h) hS6 (.inl ⟨by kernel_rfl, fun w' hS => (by go_simp; exact ⟨rfl, rfl⟩)⟩) rfl (by go_simp; rfl) ?_
    refine wpAnyR_take (i := 24) rfl (by kernel_rfl) (by kernel_rfl) (by kernel_rfl) (fun _ _ _ h => h) hS6 (.inr ⟨by kernel_rfl, rfl⟩) rfl (by go_simp; rfl) ?_
    refine wpAnyR_take (i := 25) rfl (by kernel_rfl) (by kernel_rfl) (by kernel_rfl) (fun _ _ _ h => h) hS6 (.inr ⟨by kernel_rfl, rfl⟩) rfl (by go_simp; rfl) ?_
    refine wpAnyR_take (i := 26) rfl (by kernel_rfl) (by kernel_rfl) (by kernel_rfl) (fun _ _ _ h => h) hS6 (.inr ⟨by kernel_rfl, rfl⟩) rfl (by go_simp; rfl) ?_
    refine wpAnyR_take (i := 27) rfl (by kernel_rfl) (by kernel_rfl) (by kernel_rfl) (fun _ _ _ h => h) hS6 (.inr ⟨by kernel_rfl, rfl⟩) rfl (by go_simp; rfl) ?_
    refine wpAnyR_take (i := 28) rfl (by kernel_rfl) (by kernel_rfl) (by kernel_rfl) (fun _ _ _ h => h) hS6 (.inr ⟨by kernel_rfl, rfl⟩) rfl (by go_simp; rfl) ?_
    refine wpAnyR_take (i := 29) rfl (by kernel_rfl) (by kernel_rfl) (by kernel_rfl) (fun _ _ _ h => h) hS6 (.inl ⟨by kernel_rfl, fun w' hS => (by go_simp; exact ⟨rfl, rfl⟩)⟩) rfl (by go_simp; rfl) ?_
    refine wpAnyR_done (by kernel_rfl) ?_ _
    obtain ⟨w7, hw7⟩ : ∃ w', wb5.drew = w' := ⟨_, rfl⟩
    rw [hw7] at hS6 ⊢
    clear hw7
    have Da := Lib.hid (Da.out.below hS6)
    have V10 := Lib.hid (V10.out.below hS6)
    have Db := Lib.hid (Db.out.below hS6)
    have V12 := Lib.hid (V12.out.below hS6)
    have HB := Lib.hid (below_next HB.out hS6)
    go_wp2
    go_ret
    exact ⟨rfl, HB.out⟩
  cases gb
  · refine wp_region_still (S := Below wb5.heap.size wb5) (by kernel_rfl) ?_
    have hS6 : Below wb5.heap.size wb5 wb5.drew := (Below.refl _ wb5).drew
    refine wpAnyR_take (i := 0) rfl (by kernel_rfl) (by kernel_rfl) (by kernel_rfl) (fun _ _ _ h => h) hS6 (.inl ⟨by kernel_rfl, fun w' hS => (by go_simp; exact ⟨rfl, rfl⟩)⟩) rfl (by go_simp; rfl) ?_
    refine wpAnyR_take (i := 1) rfl (by kernel_rfl) (by kernel_rfl) (by kernel_rfl) (fun _ _ _ h => h) hS6 (.inl ⟨by kernel_rfl, fun w' hS => (by go_simp; exact ⟨rfl, rfl⟩)⟩) rfl (by go_simp; rfl) ?_
    refine wpAnyR_take (i := 2) rfl (by kernel_rfl) (by kernel_rfl) (by kernel_rfl) (fun _ _ _ h => h) hS6 (.inl ⟨by kernel_rfl, fun w' hS => (by go_simp; exact ⟨rfl, rfl⟩)⟩) rfl (by go_simp; rfl) ?_
    refine wpAnyR_take (i := 3) rfl (by kernel_rfl) (by kernel_rfl) (by kernel_rfl) (fun _ _ _ h => h) hS6 (.inl ⟨by kernel_rfl, fun w' hS => (by go_simp; exact ⟨rfl, rfl⟩)⟩) rfl (by go_simp; rfl) ?_
    refine wpAnyR_take (i := 4) rfl (by kernel_rfl) (by kernel_rfl) (by kernel_rfl) (fun _ _ _ h => h) hS6 (.inl ⟨by kernel_rfl, fun w' hS => (by go_simp; exact ⟨rfl, rfl⟩)⟩) rfl (by go_simp; rfl) ?_
    refine wpAnyR_take (i := 5) rfl (by kernel_rfl) (by kernel_rfl) (by kernel_rfl) (fun _ _ _ h => h) hS6 (.inl ⟨by kernel_rfl, fun w' hS => (by go_simp; exact ⟨rfl, rfl⟩)⟩) rfl (by go_simp; rfl) ?_
    refine wpAnyR_take (i := 6) rfl (by kernel_rfl) (by kernel_rfl) (by kernel_rfl) (fun _ _ _ h => h) hS6 (.inl ⟨by kernel_rfl, fun w' hS => (by go_simp; exact ⟨rfl, rfl⟩)⟩) rfl (by go_simp; rfl) ?_
    refine wpAnyR_take (i := 7) rfl (by kernel_rfl) (by kernel_rfl) (by kernel_rfl) (fun _ _ _ h => h) hS6 (.inl ⟨by kernel_rfl, fun w' hS => (by go_simp; exact ⟨rfl, rfl⟩)⟩) rfl (by go_simp; rfl) ?_
    refine wpAnyR_take (i := 8) rfl (by kernel_rfl) (by kernel_rfl) (by kernel_rfl) (fun _ _ _ h => h) hS6 (.inl ⟨by kernel_rfl, fun w' hS => (by go_simp; exact ⟨rfl, rfl⟩)⟩) rfl (by go_simp; rfl) ?_
    refine wpAnyR_take (i := 9) rfl (by kernel_rfl) (by kernel_rfl) (by kernel_rfl) (fun _ _ _ h => h) hS6 (.inl ⟨by kernel_rfl, fun w' hS => (by go_simp; exact ⟨rfl, rfl⟩)⟩) rfl (by go_simp; rfl) ?_
    refine wpAnyR_take (i := 10) rfl (by kernel_rfl) (by kernel_rfl) (by kernel_rfl) (fun _ _ _ h => h) hS6 (.inl ⟨by kernel_rfl, fun w' hS => (by go_simp; exact ⟨rfl, rfl⟩)⟩) rfl (by go_simp; rfl) ?_
    refine wpAnyR_take (i := 11) rfl (by kernel_rfl) (by kernel_rfl) (by kernel_rfl) (fun _ _ _ h => h) hS6 (.inl ⟨by kernel_rfl, fun w' hS => (by go_simp; exact ⟨rfl, rfl⟩)⟩) rfl (by go_simp; rfl) ?_
    refine wpAnyR_take (i := 12) rfl (by kernel_rfl) (by kernel_rfl) (by kernel_rfl) (fun _ _ _ h => h) hS6 (.inl ⟨by kernel_rfl, fun w' hS => (by go_simp; exact ⟨rfl, rfl⟩)⟩) rfl (by go_simp; rfl) ?_
    refine wpAnyR_take (i := 13) rfl (by kernel_rfl) (by kernel_rfl) (by kernel_rfl) (fun _ _ _ h => h) hS6 (.inl ⟨by kernel_rfl, fun w' hS => (by go_simp; exact ⟨rfl, rfl⟩)⟩) rfl (by go_simp; rfl) ?_
    refine wpAnyR_take (i := 14) rfl (by kernel_rfl) (by kernel_rfl) (by kernel_rfl) (fun _ _ _ h => h) hS6 (.inl ⟨by kernel_rfl, fun w' hS => (by go_simp; exact ⟨rfl, rfl⟩)⟩) rfl (by go_simp; rfl) ?_
    refine wpAnyR_take (i := 15) rfl (by kernel_rfl) (by kernel_rfl) (by kernel_rfl) (fun _ _ _ h => h) hS6 (.inl ⟨by kernel_rfl, fun w' hS => (by go_simp; exact ⟨rfl, rfl⟩)⟩) rfl (by go_simp; rfl) ?_
    refine wpAnyR_take (i := 16) rfl (by kernel_rfl) (by kernel_rfl) (by kernel_rfl) (fun _ _ _ h => h) hS6 (.inl ⟨by kernel_rfl, fun w' hS => (by go_simp; exact ⟨rfl, rfl⟩)⟩) rfl (by go_simp; rfl) ?_
    refine wpAnyR_take (i := 17) rfl (by kernel_rfl) (by kernel_rfl) (by kernel_rfl) (fun _ _ _ h => h) hS6 (.inr ⟨by kernel_rfl, rfl⟩) rfl (by go_simp; rfl) ?_
    refine wpAnyR_take (i := 18) rfl (by kernel_rfl) (by kernel_rfl) (by kernel_rfl) (fun _ _ _ h => h) hS6 (.inr ⟨by kernel_rfl, rfl⟩) rfl (by go_simp; rfl) ?_
    refine wpAnyR_take (i := 19) rfl (by kernel_rfl) (by kernel_rfl) (by kernel_rfl) (fun _ _ _ h => h) hS6 (.inr ⟨by kernel_rfl, rfl⟩) rfl (by go_simp; rfl) ?_
    refine wpAnyR_take (i := 20) rfl (by kernel_rfl) (by kernel_rfl) (by kernel_rfl) (fun _ _ _ h => h) hS6 (.inr ⟨by kernel_rfl, rfl⟩) rfl (by go_simp; rfl) ?_
    refine wpAnyR_take (i := 21) rfl (by kernel_rfl) (by kernel_rfl) (by kernel_rfl) (fun _ _ _ h => h) hS6 (.inr ⟨by kernel_rfl, rfl⟩) rfl (by go_simp; rfl) ?_
    refine wpAnyR_take (i := 22) rfl (by kernel_rfl) (by kernel_rfl) (by kernel_rfl) (fun _ _ _ h => h) hS6 (.inl ⟨by kernel_rfl, fun w' hS => (by go_simp; exact ⟨rfl, rfl⟩)⟩) rfl (by go_simp; rfl) ?_
    refine wpAnyR_take (i := 23) rfl (by kernel_rfl) (by kernel_rfl) (by kernel_rfl) (fun _ _ _ h => h) hS6 (.inl ⟨by kernel_rfl, fun w' hS => (by go_simp; exact ⟨rfl, rfl⟩)⟩) rfl (by go_simp; rfl) ?_
    refine wpAnyR_take (i := 24) rfl (by kernel_rfl) (by kernel_rfl) (by kernel_rfl) (fun _ _ _ h => h) hS6 (.inr ⟨by kernel_rfl, rfl⟩) rfl (by go_simp; rfl) ?_
    refine wpAnyR_take (i := 25) rfl (by kernel_rfl) (by kernel_rfl) (by kernel_rfl) (fun _ _ _ h => h) hS6 (.inr ⟨by kernel_rfl, rfl⟩) rfl (by go_simp; rfl) ?_
    refine wpAnyR_take (i := 26) rfl (by kernel_rfl) (by kernel_rfl) (by kernel_rfl) (fun _ _ _ h => h) hS6 (.inr ⟨by kernel_rfl, rfl⟩) rfl (by go_simp; rfl) ?_
    refine wpAnyR_take (i := 27) rfl (by kernel_rfl) (by kernel_rfl) (by kernel_rfl) (fun _ _ _ h => h) hS6 (.inr ⟨by kernel_rfl, rfl⟩) rfl (by go_simp; rfl) ?_
    refine wpAnyR_take (i := 28) rfl (by kernel_rfl) (by kernel_rfl) (by kernel_rfl) (fun _ _ _ h => h) hS6 (.inr ⟨by kernel_rfl, rfl⟩) rfl (by go_simp; rfl) ?_
    refine wpAnyR_take (i := 29) rfl (by kernel_rfl) (by kernel_rfl) (by kernel_rfl) (fun _ _ _ h => h) hS6 (.inl ⟨by kernel_rfl, fun w' hS => (by go_simp; exact ⟨rfl, rfl⟩)⟩) rfl (by go_simp; rfl) ?_
    refine wpAnyR_done (by kernel_rfl) ?_ _
    obtain ⟨w7, hw7⟩ : ∃ w', wb5.drew = w' := ⟨_, rfl⟩
    rw [hw7] at hS6 ⊢
    clear hw7
    have Da := Lib.hid (Da.out.below hS6)
    have V10 := Lib.hid (V10.out.below hS6)
    have Db := Lib.hid (Db.out.below hS6)
    have V12 := Lib.hid (V12.out.below hS6)
    have HB := Lib.hid (below_next HB.out hS6)
    go_wp2
    go_ret
    exact ⟨rfl, HB.out⟩
  skip
  have HZ1 : Hid ((digs ((Fl.VV a).natAbs + (Fl.VV b * ((2 ^ 1 : Nat) : Int)).natAbs)).length ≤ 800) := Lib.hid (((bd_VV a).mono (by decide)).sz2 (bd_two (bd_VV b)) (by decide))
  have HZ2 : Hid ((digs ((Fl.VV b).natAbs + (Fl.VV a * ((2 ^ 1 : Nat) : Int)).natAbs)).length ≤ 800) := Lib.hid (((bd_VV b).mono (by decide)).sz2 (bd_two (bd_VV a)) (by decide))
  have HZ3 : Hid ((digs ((Fl.VV a).natAbs + (-Fl.VV b).natAbs)).length ≤ 800) := Lib.hid ((bd_VV a).sz2 (bd_VV b).neg (by decide))
  by_cases hc : Fl.VV a ≤ Fl.VV b * ((2 ^ 1 : Nat) : Int)
  · have HC0 := Lib.hid hc
    have HC1 : Hid (cmpv (Fl.VV a) (Fl.VV b * ((2 ^ 1 : Nat) : Int)) ≤ 0) := Lib.hid (by unfold cmpv; split; decide; split; decide; omega)
    clear hc
    by_cases hc : Fl.VV b ≤ Fl.VV a * ((2 ^ 1 : Nat) : Int)
    · have HC3 := Lib.hid hc
      have HC2 : Hid (cmpv (Fl.VV b) (Fl.VV a * ((2 ^ 1 : Nat) : Int)) ≤ 0) := Lib.hid (by unfold cmpv; split; decide; split; decide; omega)
      clear hc
      refine wp_region_still (S := Below wb5.heap.size wb5) (by kernel_rfl) ?_
      have hS6 : Below wb5.heap.size wb5 wb5.drew := (Below.refl _ wb5).drew
      refine wpAnyR_take (i := 0) rfl (by kernel_rfl) (by kernel_rfl) (by kernel_rfl) (fun _ _ _ h => h) hS6 (.inl ⟨by kernel_rfl, fun w' hS => (by go_simp; exact ⟨rfl, rfl⟩)⟩) rfl (by go_simp; rfl) ?_
      refine wpAnyR_take (i := 1) rfl (by kernel_rfl) (by kernel_rfl) (by kernel_rfl) (fun _ _ _ h => h) hS6 (.inl ⟨by kernel_rfl, fun w' hS => (by go_simp; exact ⟨rfl, rfl⟩)⟩) rfl (by go_simp; rfl) ?_
      refine wpAnyR_take (i := 2) rfl (by kernel_rfl) (by kernel_rfl) (by kernel_rfl) (fun _ _ _ h => h) hS6 (.inl ⟨by kernel_rfl, fun w' hS => (by go_simp; exact ⟨rfl, rfl⟩)⟩) rfl (by go_simp; rfl) ?_
      refine wpAnyR_take (i := 3) rfl (by kernel_rfl) (by kernel_rfl) (by kernel_rfl) (fun _ _ _ h => h) hS6 (.inl ⟨by kernel_rfl, fun w' hS => (by go_simp; exact ⟨rfl, rfl⟩)⟩) rfl (by go_simp; rfl) ?_
      refine wpAnyR_take (i := 4) rfl (by kernel_rfl) (by kernel_rfl) (by kernel_rfl) (fun _ _ _ h => h) hS6 (.inl ⟨by kernel_rfl, fun w' hS => (by go_simp; exact ⟨rfl, rfl⟩)⟩) rfl (by go_simp; rfl) ?_
      refine wpAnyR_take (i := 5) rfl (by kernel_rfl) (by kernel_rfl) (by kernel_rfl) (fun _ _ _ h => h) hS6 (.inl ⟨by kernel_rfl, fun w' hS => (by go_simp; exact ⟨rfl, rfl⟩)⟩) rfl (by go_simp; rfl) ?_
      refine wpAnyR_take (i := 6) rfl (by kernel_rfl) (by kernel_rfl) (by kernel_rfl) (fun _ _ _ h => h) hS6 (.inl ⟨by kernel_rfl, fun w' hS => (by go_simp; exact ⟨rfl, rfl⟩)⟩) rfl (by go_simp; rfl) ?_
      refine wpAnyR_take (i := 7) rfl (by kernel_rfl) (by kernel_rfl) (by kernel_rfl) (fun _ _ _ h => h) hS6 (.inl ⟨by kernel_rfl, fun w' hS => (by go_simp; exact ⟨rfl, rfl⟩)⟩) rfl (by go_simp; rfl) ?_
      refine wpAnyR_take (i := 8) rfl (by kernel_rfl) (by kernel_rfl) (by kernel_rfl) (fun _ _ _ h => h) hS6 (.inl ⟨by kernel_rfl, fun w' hS => (by go_simp; exact ⟨rfl, rfl⟩)⟩) rfl (by go_simp; rfl) ?_
      refine wpAnyR_take (i := 9) rfl (by kernel_rfl) (by kernel_rfl) (by kernel_rfl) (fun _ _ _ h => h) hS6 (.inl ⟨by kernel_rfl, fun w' hS => (by go_simp; exact ⟨rfl, rfl⟩)⟩) rfl (by go_simp; rfl) ?_
      refine wpAnyR_take (i := 10) rfl (by kernel_rfl) (by kernel_rfl) (by kernel_rfl) (fun _ _ _ h => h) hS6 (.inl ⟨by kernel_rfl, fun w' hS => (by go_simp; exact ⟨rfl, rfl⟩)⟩) rfl (by go_simp; rfl) ?_
      refine wpAnyR_take (i := 11) rfl (by kernel_rfl) (by kernel_rfl) (by kernel_rfl) (fun _ _ _ h => h) hS6 (.inl ⟨by kernel_rfl, fun w' hS => (by go_simp; exact ⟨rfl, rfl⟩)⟩) rfl (by go_simp; rfl) ?_
      refine wpAnyR_take (i := 12) rfl (by kernel_rfl) (by kernel_rfl) (by kernel_rfl) (fun _ _ _ h => h) hS6 (.inl ⟨by kernel_rfl, fun w' hS => (by go_simp; exact ⟨rfl, rfl⟩)⟩) rfl (by go_simp; rfl) ?_
      refine wpAnyR_take (i := 13) rfl (by kernel_rfl) (by kernel_rfl) (by kernel_rfl) (fun _ _ _ h => h) hS6 (.inl ⟨by kernel_rfl, fun w' hS => (by go_simp; exact ⟨rfl, rfl⟩)⟩) rfl (by go_simp; rfl) ?_
      refine wpAnyR_take (i := 14) rfl (by kernel_rfl) (by kernel_rfl) (by kernel_rfl) (fun _ _ _ h => h) hS6 (.inl ⟨by kernel_rfl, fun w' hS => (by go_simp; exact ⟨rfl, rfl⟩)⟩) rfl (by go_simp; rfl) ?_
      refine wpAnyR_take (i := 15) rfl (by kernel_rfl) (by kernel_rfl) (by kernel_rfl) (fun _ _ _ h => h) hS6 (.inl ⟨by kernel_rfl, fun w' hS => (by go_simp; exact ⟨rfl, rfl⟩)⟩) rfl (by go_simp; rfl) ?_
      refine wpAnyR_take (i := 16) rfl (by kernel_rfl) (by kernel_rfl) (by kernel_rfl) (fun _ _ _ h => h) hS6 (.inl ⟨by kernel_rfl, fun w' hS => (by go_simp; exact ⟨rfl, rfl⟩)⟩) rfl (by go_simp; rfl) ?_
      refine wpAnyR_take (i := 17) rfl (by kernel_rfl) (by kernel_rfl) (by kernel_rfl) (fun _ _ _ h => h) hS6 (.inl ⟨by kernel_rfl, fun w' hS => (by have y100 := cell_at hS V10.out.lt V10.out.c0; have y101 := cell_at hS V10.out.lt V10.out.c1; have y102 := cell_at hS V10.out.lt V10.out.c2; go_simp; exact ⟨rfl, rfl⟩)⟩) rfl (by go_simp; rfl) ?_
      refine wpAnyR_take (i := 18) rfl (by kernel_rfl) (by kernel_rfl) (by kernel_rfl) (fun _ _ _ h => h) hS6 (.inl ⟨by kernel_rfl, fun w' hS => (by have y120 := cell_at hS V12.out.lt V12.out.c0; have y121 := cell_at hS V12.out.lt V12.out.c1; have y122 := cell_at hS V12.out.lt V12.out.c2; go_simp; exact ⟨rfl, rfl⟩)⟩) rfl (by go_simp; rfl) ?_
      refine wpAnyR_oneG (i := 19) rfl (by kernel_rfl) (by kernel_rfl) rfl ?_
      go_simp
      refine (d_shift (Db.out.below hS6) ((bd_VV b).sz (by decide)) 1 (by decide) (by decide) (by decide) (by decide)).mono ?_
      rintro e w7 ⟨v7, rfl, hv7, hb7⟩
      obtain ⟨n_sb, a_sb, l_sb, k_sb, E_sb, rfl⟩ := hv7.shape
      have hS7 : Below wb5.heap.size wb5 w7 := below_next hS6 hb7
      have Dsb := Lib.hid hv7
      clear hv7 hb7
      refine ⟨hS7, ?_⟩
      refine wpAnyR_oneG (i := 20) rfl (by kernel_rfl) (by kernel_rfl) rfl ?_
      go_simp
      refine (d_cmp (y := Fl.VV b * ((2 ^ 1 : Nat) : Int)) (Da.out.below hS7) (Dsb.out.to 1 rfl rfl) HZ1.out (by decide) (by decide)).mono ?_
      rintro e w8 ⟨rfl, hb8⟩
      have hS8 : Below wb5.heap.size wb5 w8 := below_next hS7 hb8
      have Dsb := Lib.hid (Dsb.out.below hb8)
      clear hb8
      generalize cmpv (Fl.VV a) (Fl.VV b * ((2 ^ 1 : Nat) : Int)) = cc at HC1 ⊢
      have hc1 : ¬ 0 < cc := Int.not_lt.2 HC1.out
      refine ⟨hS8, ?_⟩
      refine wpAnyR_take (i := 21) rfl (by kernel_rfl) (by kernel_rfl) (by kernel_rfl) (fun _ _ _ h => h) hS8 (.inl ⟨by kernel_rfl, fun w' hS => (by go_simp; exact ⟨rfl, rfl⟩)⟩) rfl (by go_simp; rfl) ?_
      refine wpAnyR_take (i := 22) rfl (by kernel_rfl) (by kernel_rfl) (by kernel_rfl) (fun _ _ _ h => h) hS8 (.inl ⟨by kernel_rfl, fun w' hS => (by go_simp; exact ⟨rfl, rfl⟩)⟩) rfl (by go_simp; rfl) ?_
      refine wpAnyR_take (i := 23) rfl (by kernel_rfl) (by kernel_rfl) (by kernel_rfl) (fun _ _ _ h => h) hS8 (.inl ⟨by kernel_rfl, fun w' hS => (by go_simp; exact ⟨rfl, rfl⟩)⟩) rfl (by go_simp; rfl) ?_
      refine wpAnyR_take (i := 24) rfl (by kernel_rfl) (by kernel_rfl) (by kernel_rfl) (fun _ _ _ h => h) hS8 (.inl ⟨by kernel_rfl, fun w' hS => (by have y120 := cell_at hS V12.out.lt V12.out.c0; have y121 := cell_at hS V12.out.lt V12.out.c1; have y122 := cell_at hS V12.out.lt V12.out.c2; go_simp; exact ⟨rfl, rfl⟩)⟩) rfl (by go_simp; rfl) ?_
      refine wpAnyR_take (i := 25) rfl (by kernel_rfl) (by kernel_rfl) (by kernel_rfl) (fun _ _ _ h => h) hS8 (.inl ⟨by kernel_rfl, fun w' hS => (by have y100 := cell_at hS V10.out.lt V10.out.c0; have y101 := cell_at hS V10.out.lt V10.out.c1; have y102 := cell_at hS V10.out.lt V10.out.c2; go_simp; exact ⟨rfl, rfl⟩)⟩) rfl (by go_simp; rfl) ?_
      refine wpAnyR_oneG (i := 26) rfl (by kernel_rfl) (by kernel_rfl) rfl ?_
      go_simp
      refine (d_shift (Da.out.below hS8) ((bd_VV a).sz (by decide)) 1 (by decide) (by decide) (by decide) (by decide)).mono ?_
      rintro e w9 ⟨v9, rfl, hv9, hb9⟩
      obtain ⟨n_sa, a_sa, l_sa, k_sa, E_sa, rfl⟩ := hv9.shape
      have hS9 : Below wb5.heap.size wb5 w9 := below_next hS8 hb9
      have Dsb := Lib.hid (Dsb.out.below hb9)
      have Dsa := Lib.hid hv9
      clear hv9 hb9
      refine ⟨hS9, ?_⟩
      refine wpAnyR_oneG (i := 27) rfl (by kernel_rfl) (by kernel_rfl) rfl ?_
      go_simp
      refine (d_cmp (y := Fl.VV a * ((2 ^ 1 : Nat) : Int)) (Db.out.below hS9) (Dsa.out.to 1 rfl rfl) HZ2.out (by decide) (by decide)).mono ?_
      rintro e w10 ⟨rfl, hb10⟩
      have hS10 : Below wb5.heap.size wb5 w10 := below_next hS9 hb10
      have Dsb := Lib.hid (Dsb.out.below hb10)
      have Dsa := Lib.hid (Dsa.out.below hb10)
      clear hb10
      generalize cmpv (Fl.VV b) (Fl.VV a * ((2 ^ 1 : Nat) : Int)) = cd at HC2 ⊢
      have hc2 : ¬ 0 < cd := Int.not_lt.2 HC2.out
      refine ⟨hS10, ?_⟩
      refine wpAnyR_take (i := 28) rfl (by kernel_rfl) (by kernel_rfl) (by kernel_rfl) (fun _ _ _ h => h) hS10 (.inl ⟨by kernel_rfl, fun w' hS => (by go_simp; exact ⟨rfl, rfl⟩)⟩) rfl (by go_simp; rfl) ?_
      refine wpAnyR_take (i := 29) rfl (by kernel_rfl) (by kernel_rfl) (by kernel_rfl) (fun _ _ _ h => h) hS10 (.inl ⟨by kernel_rfl, fun w' hS => (by go_simp; exact ⟨rfl, rfl⟩)⟩) rfl (by go_simp; rfl) ?_
      refine wpAnyR_done (by kernel_rfl) ?_ _
      have Da := Lib.hid (Da.out.below hS10)
      have V10 := Lib.hid (V10.out.below hS10)
      have Db := Lib.hid (Db.out.below hS10)
      have V12 := Lib.hid (V12.out.below hS10)
      have HB := Lib.hid (below_next HB.out hS10)
      go_wp2_with fail
      refine (ops_sub a b _).mono ?_
      rintro e w11 ⟨r, n11, rfl, hx, hlr, hw11⟩
      have hb11 : Below w10.heap.size w10 w11 := by rw [hw11]; exact below_drewN (Below.refl _ _) _
      have Pr := Lib.hid (And.intro hx hlr)
      have Da := Lib.hid (Da.out.below hb11)
      have V10 := Lib.hid (V10.out.below hb11)
      have Db := Lib.hid (Db.out.below hb11)
      have V12 := Lib.hid (V12.out.below hb11)
      have Dsb := Lib.hid (Dsb.out.below hb11)
      have Dsa := Lib.hid (Dsa.out.below hb11)
      have HB := Lib.hid (below_next HB.out hb11)
      clear hx hlr hw11 hb11
      obtain ⟨hfr, hvr⟩ := Fl.sub_exact HA.out HBB.out HT1.out HT2.out (of_decide_eq_true HGA.out) (of_decide_eq_true HGB.out) (by have := HC0.out; omega) (by have := HC3.out; omega) Pr.out.1
      have HVR := Lib.hid hvr
      have HFR := Lib.hid hfr
      clear hfr hvr
      go_wp2_with fail
      refine (f_of r Pr.out.2 _).mono ?_
      rintro e w12 ⟨v12, rfl, hv12, hb12⟩
      obtain ⟨n_r, a_r, l_r, k_r, E_r, rfl⟩ := hv12.shape
      have Da := Lib.hid (Da.out.below hb12)
      have V10 := Lib.hid (V10.out.below hb12)
      have Db := Lib.hid (Db.out.below hb12)
      have V12 := Lib.hid (V12.out.below hb12)
      have Dsb := Lib.hid (Dsb.out.below hb12)
      have Dsa := Lib.hid (Dsa.out.below hb12)
      have HB := Lib.hid (below_next HB.out hb12)
      have Dr := Lib.hid hv12
      clear hv12 hb12
      obtain ⟨okr, hi12⟩ : ∃ i, Fl.isFin r = i := ⟨_, rfl⟩
      rw [hi12]
      have Ir := Lib.hid hi12
      clear hi12
      obtain rfl : okr = true := Ir.out.symm.trans HFR.out
      go_wp2_with fail
      obtain ⟨wb13, hw13⟩ : ∃ w', w12.alloc (Obj.cells #[Value.bool n_r, Value.slice a_r l_r k_r, Value.int IntKind.i64 E_r] 35) = w' := ⟨_, rfl⟩
      have hb13 : Below w12.heap.size w12 wb13 := by rw [← hw13]; exact below_alloc _ _
      obtain ⟨b14, hk13⟩ : ∃ b, w12.heap.size = b := ⟨_, rfl⟩
      have V14 : Hid (Var wb13 b14 n_r a_r l_r k_r E_r) := Lib.hid (by have := var_alloc w12 n_r a_r l_r k_r E_r; rw [show _ = wb13 from hw13, hk13] at this; exact this)
      have Da := Lib.hid (Da.out.below hb13)
      have V10 := Lib.hid (V10.out.below hb13)
      have Db := Lib.hid (Db.out.below hb13)
      have V12 := Lib.hid (V12.out.below hb13)
      have Dsb := Lib.hid (Dsb.out.below hb13)
      have Dsa := Lib.hid (Dsa.out.below hb13)
      have Dr := Lib.hid (Dr.out.below hb13)
      have HB := Lib.hid (below_next HB.out hb13)
      rw [hw13, hk13]
      clear hw13 hb13 hk13
      refine wp_region_still (S := Below wb13.heap.size wb13) (by kernel_rfl) ?_
      have hS14 : Below wb13.heap.size wb13 wb13.drew := (Below.refl _ wb13).drew
      refine wpAnyR_take (i := 0) rfl (by kernel_rfl) (by kernel_rfl) (by kernel_rfl) (fun _ _ _ h => h) hS14 (.inl ⟨by kernel_rfl, fun w' hS => (by go_simp; exact ⟨rfl, rfl⟩)⟩) rfl (by go_simp; rfl) ?_
      refine wpAnyR_take (i := 1) rfl (by kernel_rfl) (by kernel_rfl) (by kernel_rfl) (fun _ _ _ h => h) hS14 (.inl ⟨by kernel_rfl, fun w' hS => (by go_simp; exact ⟨rfl, rfl⟩)⟩) rfl (by go_simp; rfl) ?_
      refine wpAnyR_take (i := 2) rfl (by kernel_rfl) (by kernel_rfl) (by kernel_rfl) (fun _ _ _ h => h) hS14 (.inl ⟨by kernel_rfl, fun w' hS => (by go_simp; exact ⟨rfl, rfl⟩)⟩) rfl (by go_simp; rfl) ?_
      refine wpAnyR_take (i := 3) rfl (by kernel_rfl) (by kernel_rfl) (by kernel_rfl) (fun _ _ _ h => h) hS14 (.inl ⟨by kernel_rfl, fun w' hS => (by go_simp; exact ⟨rfl, rfl⟩)⟩) rfl (by go_simp; rfl) ?_
      refine wpAnyR_take (i := 4) rfl (by kernel_rfl) (by kernel_rfl) (by kernel_rfl) (fun _ _ _ h => h) hS14 (.inl ⟨by kernel_rfl, fun w' hS => (by go_simp; exact ⟨rfl, rfl⟩)⟩) rfl (by go_simp; rfl) ?_
      refine wpAnyR_take (i := 5) rfl (by kernel_rfl) (by kernel_rfl) (by kernel_rfl) (fun _ _ _ h => h) hS14 (.inl ⟨by kernel_rfl, fun w' hS => (by have y140 := cell_at hS V14.out.lt V14.out.c0; have y141 := cell_at hS V14.out.lt V14.out.c1; have y142 := cell_at hS V14.out.lt V14.out.c2; go_simp; exact ⟨rfl, rfl⟩)⟩) rfl (by go_simp; rfl) ?_
      refine wpAnyR_take (i := 6) rfl (by kernel_rfl) (by kernel_rfl) (by kernel_rfl) (fun _ _ _ h => h) hS14 (.inl ⟨by kernel_rfl, fun w' hS => (by have y100 := cell_at hS V10.out.lt V10.out.c0; have y101 := cell_at hS V10.out.lt V10.out.c1; have y102 := cell_at hS V10.out.lt V10.out.c2; go_simp; exact ⟨rfl, rfl⟩)⟩) rfl (by go_simp; rfl) ?_
      refine wpAnyR_take (i := 7) rfl (by kernel_rfl) (by kernel_rfl) (by kernel_rfl) (fun _ _ _ h => h) hS14 (.inl ⟨by kernel_rfl, fun w' hS => (by have y120 := cell_at hS V12.out.lt V12.out.c0; have y121 := cell_at hS V12.out.lt V12.out.c1; have y122 := cell_at hS V12.out.lt V12.out.c2; go_simp; exact ⟨rfl, rfl⟩)⟩) rfl (by go_simp; rfl) ?_
      refine wpAnyR_oneG (i := 8) rfl (by kernel_rfl) (by kernel_rfl) rfl ?_
      go_simp
      refine (d_flip (Db.out.below hS14)).mono ?_
      rintro e w15 ⟨v15, rfl, hv15, hb15⟩
      obtain ⟨n_fb, a_fb, l_fb, k_fb, E_fb, rfl⟩ := hv15.shape
      have hS15 : Below wb13.heap.size wb13 w15 := below_next hS14 hb15
      have Dfb := Lib.hid hv15
      clear hv15 hb15
      refine ⟨hS15, ?_⟩
      refine wpAnyR_oneG (i := 9) rfl (by kernel_rfl) (by kernel_rfl) rfl ?_
      go_simp
      refine (d_add (Da.out.below hS15) Dfb.out HZ3.out (by decide) (by decide)).mono ?_
      rintro e w16 ⟨v16, rfl, hv16, hb16⟩
      obtain ⟨n_d, a_d, l_d, k_d, E_d, rfl⟩ := hv16.shape
      have hS16 : Below wb13.heap.size wb13 w16 := below_next hS15 hb16
      have Dfb := Lib.hid (Dfb.out.below hb16)
      have Dd := Lib.hid hv16
      clear hv16 hb16
      refine ⟨hS16, ?_⟩
      refine wpAnyR_oneG (i := 10) rfl (by kernel_rfl) (by kernel_rfl) rfl ?_
      go_simp
      refine (d_same (Dr.out.below hS16) Dd.out ((bd_VV r).sz (by decide)) (((bd_VV a).add (bd_VV b).neg rfl).sz (by decide))).mono ?_
      rintro e w17 ⟨rfl, hb17⟩
      have hS17 : Below wb13.heap.size wb13 w17 := below_next hS16 hb17
      have Dfb := Lib.hid (Dfb.out.below hb17)
      have Dd := Lib.hid (Dd.out.below hb17)
      clear hb17
      rw [show decide (Fl.VV r = Fl.VV a + -Fl.VV b) = true from decide_eq_true HVR.out]
      refine ⟨hS17, ?_⟩
      refine wpAnyR_take (i := 11) rfl (by kernel_rfl) (by kernel_rfl) (by kernel_rfl) (fun _ _ _ h => h) hS17 (.inl ⟨by kernel_rfl, fun w' hS => (by go_simp; exact ⟨rfl, rfl⟩)⟩) rfl (by go_simp; rfl) ?_
      refine wpAnyR_take (i := 12) rfl (by kernel_rfl) (by kernel_rfl) (by kernel_rfl) (fun _ _ _ h => h) hS17 (.inl ⟨by kernel_rfl, fun w' hS => (by go_simp; exact ⟨rfl, rfl⟩)⟩) rfl (by go_simp; rfl) ?_
      refine wpAnyR_done (by kernel_rfl) ?_ _
      have Da := Lib.hid (Da.out.below hS17)
      have V10 := Lib.hid (V10.out.below hS17)
      have Db := Lib.hid (Db.out.below hS17)
      have V12 := Lib.hid (V12.out.below hS17)
      have Dsb := Lib.hid (Dsb.out.below hS17)
      have Dsa := Lib.hid (Dsa.out.below hS17)
      have Dr := Lib.hid (Dr.out.below hS17)
      have V14 := Lib.hid (V14.out.below hS17)
      have HB := Lib.hid (below_next HB.out hS17)
      go_wp2
      go_ret
      exact ⟨rfl, HB.out⟩
    · have HC2 : Hid (0 < cmpv (Fl.VV b) (Fl.VV a * ((2 ^ 1 : Nat) : Int))) := Lib.hid (by rw [cmpv_gt (by omega)]; decide)
      clear hc
      refine wp_region_still (S := Below wb5.heap.size wb5) (by kernel_rfl) ?_
      have hS6 : Below wb5.heap.size wb5 wb5.drew := (Below.refl _ wb5).drew
      refine wpAnyR_take (i := 0) rfl (by kernel_rfl) (by kernel_rfl) (by kernel_rfl) (fun _ _ _ h => h) hS6 (.inl ⟨by kernel_rfl, fun w' hS => (by go_simp; exact ⟨rfl, rfl⟩)⟩) rfl (by go_simp; rfl) ?_
      refine wpAnyR_take (i := 1) rfl (by kernel_rfl) (by kernel_rfl) (by kernel_rfl) (fun _ _ _ h => h) hS6 (.inl ⟨by kernel_rfl, fun w' hS => (by go_simp; exact ⟨rfl, rfl⟩)⟩) rfl (by go_simp; rfl) ?_
      refine wpAnyR_take (i := 2) rfl (by kernel_rfl) (by kernel_rfl) (by kernel_rfl) (fun _ _ _ h => h) hS6 (.inl ⟨by kernel_rfl, fun w' hS => (by go_simp; exact ⟨rfl, rfl⟩)⟩) rfl (by go_simp; rfl) ?_
      refine wpAnyR_take (i := 3) rfl (by kernel_rfl) (by kernel_rfl) (by kernel_rfl) (fun _ _ _ h => h) hS6 (.inl ⟨by kernel_rfl, fun w' hS => (by go_simp; exact ⟨rfl, rfl⟩)⟩) rfl (by go_simp; rfl) ?_
      refine wpAnyR_take (i := 4) rfl (by kernel_rfl) (by kernel_rfl) (by kernel_rfl) (fun _ _ _ h => h) hS6 (.inl ⟨by kernel_rfl, fun w' hS => (by go_simp; exact ⟨rfl, rfl⟩)⟩) rfl (by go_simp; rfl) ?_
      refine wpAnyR_take (i := 5) rfl (by kernel_rfl) (by kernel_rfl) (by kernel_rfl) (fun _ _ _ h => h) hS6 (.inl ⟨by kernel_rfl, fun w' hS => (by go_simp; exact ⟨rfl, rfl⟩)⟩) rfl (by go_simp; rfl) ?_
      refine wpAnyR_take (i := 6) rfl (by kernel_rfl) (by kernel_rfl) (by kernel_rfl) (fun _ _ _ h => h) hS6 (.inl ⟨by kernel_rfl, fun w' hS => (by go_simp; exact ⟨rfl, rfl⟩)⟩) rfl (by go_simp; rfl) ?_
      refine wpAnyR_take (i := 7) rfl (by kernel_rfl) (by kernel_rfl) (by kernel_rfl) (fun _ _ _ h => h) hS6 (.inl ⟨by kernel_rfl, fun w' hS => (by go_simp; exact ⟨rfl, rfl⟩)⟩) rfl (by go_simp; rfl) ?_
      refine wpAnyR_take (i := 8) rfl (by kernel_rfl) (by kernel_rfl) (by kernel_rfl) (fun _ _ _ h => h) hS6 (.inl ⟨by kernel_rfl, fun w' hS => (by go_simp; exact ⟨rfl, rfl⟩)⟩) rfl (by go_simp; rfl) ?_
      refine wpAnyR_take (i := 9) rfl (by kernel_rfl) (by kernel_rfl) (by kernel_rfl) (fun _ _ _ h => h) hS6 (.inl ⟨by kernel_rfl, fun w' hS => (by go_simp; exact ⟨rfl, rfl⟩)⟩) rfl (by go_simp; rfl) ?_
      refine wpAnyR_take (i := 10) rfl (by kernel_rfl) (by kernel_rfl) (by kernel_rfl) (fun _ _ _ h => h) hS6 (.inl ⟨by kernel_rfl, fun w' hS => (by go_simp; exact ⟨rfl, rfl⟩)⟩) rfl (by go_simp; rfl) ?_
      refine wpAnyR_take (i := 11) rfl (by kernel_rfl) (by kernel_rfl) (by kernel_rfl) (fun _ _ _ h => h) hS6 (.inl ⟨by kernel_rfl, fun w' hS => (by go_simp; exact ⟨rfl, rfl⟩)⟩) rfl (by go_simp; rfl) ?_
      refine wpAnyR_take (i := 12) rfl (by kernel_rfl) (by kernel_rfl) (by kernel_rfl) (fun _ _ _ h => h) hS6 (.inl ⟨by kernel_rfl, fun w' hS => (by go_simp; exact ⟨rfl, rfl⟩)⟩) rfl (by go_simp; rfl) ?_
      refine wpAnyR_take (i := 13) rfl (by kernel_rfl) (by kernel_rfl) (by kernel_rfl) (fun _ _ _ h => h) hS6 (.inl ⟨by kernel_rfl, fun w' hS => (by go_simp; exact ⟨rfl, rfl⟩)⟩) rfl (by go_simp; rfl) ?_
      refine wpAnyR_take (i := 14) rfl (by kernel_rfl) (by kernel_rfl) (by kernel_rfl) (fun _ _ _ h => h) hS6 (.inl ⟨by kernel_rfl, fun w' hS => (by go_simp; exact ⟨rfl, rfl⟩)⟩) rfl (by go_simp; rfl) ?_
      refine wpAnyR_take (i := 15) rfl (by kernel_rfl) (by kernel_rfl) (by kernel_rfl) (fun _ _ _ h => h) hS6 (.inl ⟨by kernel_rfl, fun w' hS => (by go_simp; exact ⟨rfl, rfl⟩)⟩) rfl (by go_simp; rfl) ?_
      refine wpAnyR_take (i := 16) rfl (by kernel_rfl) (by kernel_rfl) (by kernel_rfl) (fun _ _ _ h => h) hS6 (.inl ⟨by kernel_rfl, fun w' hS => (by go_simp; exact ⟨rfl, rfl⟩)⟩) rfl (by go_simp; rfl) ?_
      refine wpAnyR_take (i := 17) rfl (by kernel_rfl) (by kernel_rfl) (by kernel_rfl) (fun _ _ _ h => h) hS6 (.inl ⟨by kernel_rfl, fun w' hS => (by have y100 := cell_at hS V10.out.lt V10.out.c0; have y101 := cell_at hS V10.out.lt V10.out.c1; have y102 := cell_at hS V10.out.lt V10.out.c2; go_simp; exact ⟨rfl, rfl⟩)⟩) rfl (by go_simp; rfl) ?_
      refine wpAnyR_take (i := 18) rfl (by kernel_rfl) (by kernel_rfl) (by kernel_rfl) (fun _ _ _ h => h) hS6 (.inl ⟨by kernel_rfl, fun w' hS => (by have y120 := cell_at hS V12.out.lt V12.out.c0; have y121 := cell_at hS V12.out.lt V12.out.c1; have y122 := cell_at hS V12.out.lt V12.out.c2; go_simp; exact ⟨rfl, rfl⟩)⟩) rfl (by go_simp; rfl) ?_
      refine wpAnyR_oneG (i := 19) rfl (by kernel_rfl) (by kernel_rfl) rfl ?_
      go_simp
      refine (d_shift (Db.out.below hS6) ((bd_VV b).sz (by decide)) 1 (by decide) (by decide) (by decide) (by decide)).mono ?_
      rintro e w7 ⟨v7, rfl, hv7, hb7⟩
      obtain ⟨n_sb, a_sb, l_sb, k_sb, E_sb, rfl⟩ := hv7.shape
      have hS7 : Below wb5.heap.size wb5 w7 := below_next hS6 hb7
      have Dsb := Lib.hid hv7
      clear hv7 hb7
      refine ⟨hS7, ?_⟩
      refine wpAnyR_oneG (i := 20) rfl (by kernel_rfl) (by kernel_rfl) rfl ?_
      go_simp
      refine (d_cmp (y := Fl.VV b * ((2 ^ 1 : Nat) : Int)) (Da.out.below hS7) (Dsb.out.to 1 rfl rfl) HZ1.out (by decide) (by decide)).mono ?_
      rintro e w8 ⟨rfl, hb8⟩
      have hS8 : Below wb5.heap.size wb5 w8 := below_next hS7 hb8
      have Dsb := Lib.hid (Dsb.out.below hb8)
      clear hb8
      generalize cmpv (Fl.VV a) (Fl.VV b * ((2 ^ 1 : Nat) : Int)) = cc at HC1 ⊢
      have hc1 : ¬ 0 < cc := Int.not_lt.2 HC1.out
      refine ⟨hS8, ?_⟩
      refine wpAnyR_take (i := 21) rfl (by kernel_rfl) (by kernel_rfl) (by kernel_rfl) (fun _ _ _ h => h) hS8 (.inl ⟨by kernel_rfl, fun w' hS => (by go_simp; exact ⟨rfl, rfl⟩)⟩) rfl (by go_simp; rfl) ?_
      refine wpAnyR_take (i := 22) rfl (by kernel_rfl) (by kernel_rfl) (by kernel_rfl) (fun _ _ _ h => h) hS8 (.inl ⟨by kernel_rfl, fun w' hS => (by go_simp; exact ⟨rfl, rfl⟩)⟩) rfl (by go_simp; rfl) ?_
      refine wpAnyR_take (i := 23) rfl (by kernel_rfl) (by kernel_rfl) (by kernel_rfl) (fun _ _ _ h => h) hS8 (.inl ⟨by kernel_rfl, fun w' hS => (by go_simp; exact ⟨rfl, rfl⟩)⟩) rfl (by go_simp; rfl) ?_
      refine wpAnyR_take (i := 24) rfl (by kernel_rfl) (by kernel_rfl) (by kernel_rfl) (fun _ _ _ h => h) hS8 (.inl ⟨by kernel_rfl, fun w' hS => (by have y120 := cell_at hS V12.out.lt V12.out.c0; have y121 := cell_at hS V12.out.lt V12.out.c1; have y122 := cell_at hS V12.out.lt V12.out.c2; go_simp; exact ⟨rfl, rfl⟩)⟩) rfl (by go_simp; rfl) ?_
      refine wpAnyR_take (i := 25) rfl (by kernel_rfl) (by kernel_rfl) (by kernel_rfl) (fun _ _ _ h => h) hS8 (.inl ⟨by kernel_rfl, fun w' hS => (by have y100 := cell_at hS V10.out.lt V10.out.c0; have y101 := cell_at hS V10.out.lt V10.out.c1; have y102 := cell_at hS V10.out.lt V10.out.c2; go_simp; exact ⟨rfl, rfl⟩)⟩) rfl (by go_simp; rfl) ?_
      refine wpAnyR_oneG (i := 26) rfl (by kernel_rfl) (by kernel_rfl) rfl ?_
      go_simp
      refine (d_shift (Da.out.below hS8) ((bd_VV a).sz (by decide)) 1 (by decide) (by decide) (by decide) (by decide)).mono ?_
      rintro e w9 ⟨v9, rfl, hv9, hb9⟩
      obtain ⟨n_sa, a_sa, l_sa, k_sa, E_sa, rfl⟩ := hv9.shape
      have hS9 : Below wb5.heap.size wb5 w9 := below_next hS8 hb9
      have Dsb := Lib.hid (Dsb.out.below hb9)
      have Dsa := Lib.hid hv9
      clear hv9 hb9
      refine ⟨hS9, ?_⟩
      refine wpAnyR_oneG (i := 27) rfl (by kernel_rfl) (by kernel_rfl) rfl ?_
      go_simp
      refine (d_cmp (y := Fl.VV a * ((2 ^ 1 : Nat) : Int)) (Db.out.below hS9) (Dsa.out.to 1 rfl rfl) HZ2.out (by decide) (by decide)).mono ?_
      rintro e w10 ⟨rfl, hb10⟩
      have hS10 : Below wb5.heap.size wb5 w10 := below_next hS9 hb10
      have Dsb := Lib.hid (Dsb.out.below hb10)
      have Dsa := Lib.hid (Dsa.out.below hb10)
      clear hb10
      generalize cmpv (Fl.VV b) (Fl.VV a * ((2 ^ 1 : Nat) : Int)) = cd at HC2 ⊢
      have hc2 := HC2.out
      refine ⟨hS10, ?_⟩
      refine wpAnyR_take (i := 28) rfl (by kernel_rfl) (by kernel_rfl) (by kernel_rfl) (fun _ _ _ h => h) hS10 (.inl ⟨by kernel_rfl, fun w' hS => (by go_simp; exact ⟨rfl, rfl⟩)⟩) rfl (by go_simp; rfl) ?_
      refine wpAnyR_take (i := 29) rfl (by kernel_rfl) (by kernel_rfl) (by kernel_rfl) (fun _ _ _ h => h) hS10 (.inl ⟨by kernel_rfl, fun w' hS => (by go_simp; exact ⟨rfl, rfl⟩)⟩) rfl (by go_simp; rfl) ?_
      refine wpAnyR_done (by kernel_rfl) ?_ _
      have Da := Lib.hid (Da.out.below hS10)
      have V10 := Lib.hid (V10.out.below hS10)
      have Db := Lib.hid (Db.out.below hS10)
      have V12 := Lib.hid (V12.out.below hS10)
      have HB := Lib.hid (below_next HB.out hS10)
      go_wp2
      go_ret
      exact ⟨rfl, HB.out⟩
  · have HC1 : Hid (0 < cmpv (Fl.VV a) (Fl.VV b * ((2 ^ 1 : Nat) : Int))) := Lib.hid (by rw [cmpv_gt (by omega)]; decide)
    clear hc
    refine wp_region_still (S := Below wb5.heap.size wb5) (by kernel_rfl) ?_
    have hS6 : Below wb5.heap.size wb5 wb5.drew := (Below.refl _ wb5).drew
    refine wpAnyR_take (i := 0) rfl (by kernel_rfl) (by kernel_rfl) (by kernel_rfl) (fun _ _ _ h => h) hS6 (.inl ⟨by kernel_rfl, fun w' hS => (by go_simp; exact ⟨rfl, rfl⟩)⟩) rfl (by go_simp; rfl) ?_
    refine wpAnyR_take (i := 1) rfl (by kernel_rfl) (by kernel_rfl) (by kernel_rfl) (fun _ _ _ h => h) hS6 (.inl ⟨by kernel_rfl, fun w' hS => (by go_simp; exact ⟨rfl, rfl⟩)⟩) rfl (by go_simp; rfl) ?_
    refine wpAnyR_take (i := 2) rfl (by kernel_rfl) (by kernel_rfl) (by kernel_rfl) (fun _ _ _ h => h) hS6 (.inl ⟨by kernel_rfl, fun w' hS => (by go_simp; exact ⟨rfl, rfl⟩)⟩) rfl (by go_simp; rfl) ?_
    refine wpAnyR_take (i := 3) rfl (by kernel_rfl) (by kernel_rfl) (by kernel_rfl) (fun _ _ _ h => h) hS6 (.inl ⟨by kernel_rfl, fun w' hS => (by go_simp; exact ⟨rfl, rfl⟩)⟩) rfl (by go_simp; rfl) ?_
    refine wpAnyR_take (i := 4) rfl (by kernel_rfl) (by kernel_rfl) (by kernel_rfl) (fun _ _ _ h => h) hS6 (.inl ⟨by kernel_rfl, fun w' hS => (by go_simp; exact ⟨rfl, rfl⟩)⟩) rfl (by go_simp; rfl) ?_
    refine wpAnyR_take (i := 5) rfl (by kernel_rfl) (by kernel_rfl) (by kernel_rfl) (fun _ _ _ h => h) hS6 (.inl ⟨by kernel_rfl, fun w' hS => (by go_simp; exact ⟨rfl, rfl⟩)⟩) rfl (by go_simp; rfl) ?_
    refine wpAnyR_take (i := 6) rfl (by kernel_rfl) (by kernel_rfl) (by kernel_rfl) (fun _ _ _ h => h) hS6 (.inl ⟨by kernel_rfl, fun w' hS => (by go_simp; exact ⟨rfl, rfl⟩)⟩) rfl (by go_simp; rfl) ?_
    refine wpAnyR_take (i := 7) rfl (by kernel_rfl) (by kernel_rfl) (by kernel_rfl) (fun _ _ _ h => h) hS6 (.inl ⟨by kernel_rfl, fun w' hS => (by go_simp; exact ⟨rfl, rfl⟩)⟩) rfl (by go_simp; rfl) ?_
    refine wpAnyR_take (i := 8) rfl (by kernel_rfl) (by kernel_rfl) (by kernel_rfl) (fun _ _ _ h => h) hS6 (.inl ⟨by kernel_rfl, fun w' hS => (by go_simp; exact ⟨rfl, rfl⟩)⟩) rfl (by go_simp; rfl) ?_
    refine wpAnyR_take (i := 9) rfl (by kernel_rfl) (by kernel_rfl) (by kernel_rfl) (fun _ _ _ h => h) hS6 (.inl ⟨by kernel_rfl, fun w' hS => (by go_simp; exact ⟨rfl, rfl⟩)⟩) rfl (by go_simp; rfl) ?_
    refine wpAnyR_take (i := 10) rfl (by kernel_rfl) (by kernel_rfl) (by kernel_rfl) (fun _ _ _ h => h) hS6 (.inl ⟨by kernel_rfl, fun w' hS => (by go_simp; exact ⟨rfl, rfl⟩)⟩) rfl (by go_simp; rfl) ?_
    refine wpAnyR_take (i := 11) rfl (by kernel_rfl) (by kernel_rfl) (by kernel_rfl) (fun _ _ _ h => h) hS6 (.inl ⟨by kernel_rfl, fun w' hS => (by go_simp; exact ⟨rfl, rfl⟩)⟩) rfl (by go_simp; rfl) ?_
    refine wpAnyR_take (i := 12) rfl (by kernel_rfl) (by kernel_rfl) (by kernel_rfl) (fun _ _ _ h => h) hS6 (.inl ⟨by kernel_rfl, fun w' hS => (by go_simp; exact ⟨rfl, rfl⟩)⟩) rfl (by go_simp; rfl) ?_
    refine wpAnyR_take (i := 13) rfl (by kernel_rfl) (by kernel_rfl) (by kernel_rfl) (fun _ _ _ h => h) hS6 (.inl ⟨by kernel_rfl, fun w' hS => (by go_simp; exact ⟨rfl, rfl⟩)⟩) rfl (by go_simp; rfl) ?_
    refine wpAnyR_take (i := 14) rfl (by kernel_rfl) (by kernel_rfl) (by kernel_rfl) (fun _ _ _ h => h) hS6 (.inl ⟨by kernel_rfl, fun w' hS => (by go_simp; exact ⟨rfl, rfl⟩)⟩) rfl (by go_simp; rfl) ?_
    refine wpAnyR_take (i := 15) rfl (by kernel_rfl) (by kernel_rfl) (by kernel_rfl) (fun _ _ _ h => h) hS6 (.inl ⟨by kernel_rfl, fun w' hS => (by go_simp; exact ⟨rfl, rfl⟩)⟩) rfl (by go_simp; rfl) ?_
    refine wpAnyR_take (i := 16) rfl (by kernel_rfl) (by kernel_rfl) (by kernel_rfl) (fun _ _ _ h => h) hS6 (.inl ⟨by kernel_rfl, fun w' hS => (by go_simp; exact ⟨rfl, rfl⟩)⟩) rfl (by go_simp; rfl) ?_
    refine wpAnyR_take (i := 17) rfl (by kernel_rfl) (by kernel_rfl) (by kernel_rfl) (fun _ _ _ h => h) hS6 (.inl ⟨by kernel_rfl, fun w' hS => (by have y100 := cell_at hS V10.out.lt V10.out.c0; have y101 := cell_at hS V10.out.lt V10.out.c1; have y102 := cell_at hS V10.out.lt V10.out.c2; go_simp; exact ⟨rfl, rfl⟩)⟩) rfl (by go_simp; rfl) ?_
    refine wpAnyR_take (i := 18) rfl (by kernel_rfl) (by kernel_rfl) (by kernel_rfl) (fun _ _ _ h => h) hS6 (.inl ⟨by kernel_rfl, fun w' hS => (by have y120 := cell_at hS V12.out.lt V12.out.c0; have y121 := cell_at hS V12.out.lt V12.out.c1; have y122 := cell_at hS V12.out.lt V12.out.c2; go_simp; exact ⟨rfl, rfl⟩)⟩) rfl (by go_simp; rfl) ?_
    refine wpAnyR_oneG (i := 19) rfl (by kernel_rfl) (by kernel_rfl) rfl ?_
    go_simp
    refine (d_shift (Db.out.below hS6) ((bd_VV b).sz (by decide)) 1 (by decide) (by decide) (by decide) (by decide)).mono ?_
    rintro e w7 ⟨v7, rfl, hv7, hb7⟩
    obtain ⟨n_sb, a_sb, l_sb, k_sb, E_sb, rfl⟩ := hv7.shape
    have hS7 : Below wb5.heap.size wb5 w7 := below_next hS6 hb7
    have Dsb := Lib.hid hv7
    clear hv7 hb7
    refine ⟨hS7, ?_⟩
    refine wpAnyR_oneG (i := 20) rfl (by kernel_rfl) (by kernel_rfl) rfl ?_
    go_simp
    refine (d_cmp (y := Fl.VV b * ((2 ^ 1 : Nat) : Int)) (Da.out.below hS7) (Dsb.out.to 1 rfl rfl) HZ1.out (by decide) (by decide)).mono ?_
    rintro e w8 ⟨rfl, hb8⟩
    have hS8 : Below wb5.heap.size wb5 w8 := below_next hS7 hb8
    have Dsb := Lib.hid (Dsb.out.below hb8)
    clear hb8
    generalize cmpv (Fl.VV a) (Fl.VV b * ((2 ^ 1 : Nat) : Int)) = cc at HC1 ⊢
    have hc1 := HC1.out
    refine ⟨hS8, ?_⟩
    refine wpAnyR_take (i := 21) rfl (by kernel_rfl) (by kernel_rfl) (by kernel_rfl) (fun _ _ _ h => h) hS8 (.inl ⟨by kernel_rfl, fun w' hS => (by go_simp; exact ⟨rfl, rfl⟩)⟩) rfl (by go_simp; rfl) ?_
    refine wpAnyR_take (i := 22) rfl (by kernel_rfl) (by kernel_rfl) (by kernel_rfl) (fun _ _ _ h => h) hS8 (.inl ⟨by kernel_rfl, fun w' hS => (by go_simp; exact ⟨rfl, rfl⟩)⟩) rfl (by go_simp; rfl) ?_
    refine wpAnyR_take (i := 23) rfl (by kernel_rfl) (by kernel_rfl) (by kernel_rfl) (fun _ _ _ h => h) hS8 (.inl ⟨by kernel_rfl, fun w' hS => (by go_simp; exact ⟨rfl, rfl⟩)⟩) rfl (by go_simp; rfl) ?_
    refine wpAnyR_take (i := 24) rfl (by kernel_rfl) (by kernel_rfl) (by kernel_rfl) (fun _ _ _ h => h) hS8 (.inr ⟨by kernel_rfl, rfl⟩) rfl (by go_simp; rfl) ?_
    refine wpAnyR_take (i := 25) rfl (by kernel_rfl) (by kernel_rfl) (by kernel_rfl) (fun _ _ _ h => h) hS8 (.inr ⟨by kernel_rfl, rfl⟩) rfl (by go_simp; rfl) ?_
    refine wpAnyR_take (i := 26) rfl (by kernel_rfl) (by kernel_rfl) (by kernel_rfl) (fun _ _ _ h => h) hS8 (.inr ⟨by kernel_rfl, rfl⟩) rfl (by go_simp; rfl) ?_
    refine wpAnyR_take (i := 27) rfl (by kernel_rfl) (by kernel_rfl) (by kernel_rfl) (fun _ _ _ h => h) hS8 (.inr ⟨by kernel_rfl, rfl⟩) rfl (by go_simp; rfl) ?_
    refine wpAnyR_take (i := 28) rfl (by kernel_rfl) (by kernel_rfl) (by kernel_rfl) (fun _ _ _ h => h) hS8 (.inr ⟨by kernel_rfl, rfl⟩) rfl (by go_simp; rfl) ?_
    refine wpAnyR_take (i := 29) rfl (by kernel_rfl) (by kernel_rfl) (by kernel_rfl) (fun _ _ _ h => h) hS8 (.inl ⟨by kernel_rfl, fun w' hS => (by go_simp; exact ⟨rfl, rfl⟩)⟩) rfl (by go_simp; rfl) ?_
    refine wpAnyR_done (by kernel_rfl) ?_ _
    have Da := Lib.hid (Da.out.below hS8)
    have V10 := Lib.hid (V10.out.below hS8)
    have Db := Lib.hid (Db.out.below hS8)
    have V12 := Lib.hid (V12.out.below hS8)
    have HB := Lib.hid (below_next HB.out hS8)
    go_wp2
    go_ret
    exact ⟨rfl, HB.out⟩

set_option maxHeartbeats 8000000 in
theorem opsExact_four (m n : Int) (a b : Nat) (w : World) (ha : a < 2 ^ 64) (hb : b < 2 ^ 64) (k1 : -67108864 < m) (k2 : m < 67108864) (k3 : -67108864 < n) (k4 : ¬ n < 67108864) : Calls Try.prog 13 #[.int .i64 m, .int .i64 n, F a, F b] w fun e w' => e = .returned (.bool true) ∧ Below w.heap.size w w' := by
  have HA := Lib.hid ha
  have HBB := Lib.hid hb
  clear ha hb
  go_enter Try.func13, Try.ntmps13
  go_wp2_with fail
  refine (l4_head _).mono ?_
  rintro e w1 ⟨rfl, hb1⟩
  have HB : Hid (Below w.heap.size w w1) := Lib.hid hb1
  clear hb1
  go_wp2_with fail
  refine (f_of a HA.out _).mono ?_
  rintro e w2 ⟨v2, rfl, hv2, hb2⟩
  obtain ⟨n_a, a_a, l_a, k_a, E_a, rfl⟩ := hv2.shape
  have HB := Lib.hid (below_next HB.out hb2)
  have Da := Lib.hid hv2
  clear hv2 hb2
  obtain ⟨oka, hi2⟩ : ∃ i, Fl.isFin a = i := ⟨_, rfl⟩
  rw [hi2]
  have Ia := Lib.hid hi2
  clear hi2
  go_wp2_with fail
  obtain ⟨wb3, hw3⟩ : ∃ w', w2.alloc (Obj.cells #[Value.bool n_a, Value.slice a_a l_a k_a, Value.int IntKind.i64 E_a] 35) = w' := ⟨_, rfl⟩
  have hb3 : Below w2.heap.size w2 wb3 := by rw [← hw3]; exact below_alloc _ _
  obtain ⟨b10, hk3⟩ : ∃ b, w2.heap.size = b := ⟨_, rfl⟩
  have V10 : Hid (Var wb3 b10 n_a a_a l_a k_a E_a) := Lib.hid (by have := var_alloc w2 n_a a_a l_a k_a E_a; rw [show _ = wb3 from hw3, hk3] at this; exact this)
  have Da := Lib.hid (Da.out.below hb3)
  have HB := Lib.hid (below_next HB.out hb3)
  rw [hw3, hk3]
  clear hw3 hb3 hk3
  refine (f_of b HBB.out _).mono ?_
  rintro e w4 ⟨v4, rfl, hv4, hb4⟩
  obtain ⟨n_b, a_b, l_b, k_b, E_b, rfl⟩ := hv4.shape
  have Da := Lib.hid (Da.out.below hb4)
  have V10 := Lib.hid (V10.out.below hb4)
  have HB := Lib.hid (below_next HB.out hb4)
  have Db := Lib.hid hv4
  clear hv4 hb4
  obtain ⟨okb, hi4⟩ : ∃ i, Fl.isFin b = i := ⟨_, rfl⟩
  rw [hi4]
  have Ib := Lib.hid hi4
  clear hi4
  have HPA := Lib.hid (fun h => pos_gt HA.out h)
  have HPB := Lib.hid (fun h => pos_gt HBB.out h)
  have HT1 := Lib.hid Ia.out
  have HT2 := Lib.hid Ib.out
  go_wp2_with fail
  obtain ⟨wb5, hw5⟩ : ∃ w', w4.alloc (Obj.cells #[Value.bool n_b, Value.slice a_b l_b k_b, Value.int IntKind.i64 E_b] 35) = w' := ⟨_, rfl⟩
  have hb5 : Below w4.heap.size w4 wb5 := by rw [← hw5]; exact below_alloc _ _
  obtain ⟨b12, hk5⟩ : ∃ b, w4.heap.size = b := ⟨_, rfl⟩
  have V12 : Hid (Var wb5 b12 n_b a_b l_b k_b E_b) := Lib.hid (by have := var_alloc w4 n_b a_b l_b k_b E_b; rw [show _ = wb5 from hw5, hk5] at this; exact this)
  have Da := Lib.hid (Da.out.below hb5)
  have V10 := Lib.hid (V10.out.below hb5)
  have Db := Lib.hid (Db.out.below hb5)
  have HB := Lib.hid (below_next HB.out hb5)
  rw [hw5, hk5]
  clear hw5 hb5 hk5
  cases oka
  · refine wp_region_still (S := Below wb5.heap.size wb5) (by kernel_rfl) ?_
    have hS6 : Below wb5.heap.size wb5 wb5.drew := (Below.refl _ wb5).drew
    refine wpAnyR_take (i := 0) rfl (by kernel_rfl) (by kernel_rfl) (by kernel_rfl) (fun _ _ _ h => h) hS6 (.inl ⟨by kernel_rfl, fun w' hS => (by go_simp; exact ⟨rfl, rfl⟩)⟩) rfl (by go_simp; rfl) ?_
    refine wpAnyR_take (i := 1) rfl (by kernel_rfl) (by kernel_rfl) (by kernel_rfl) (fun _ _ _ h => h) hS6 (.inl ⟨by kernel_rfl, fun w' hS => (by go_simp; exact ⟨rfl, rfl⟩)⟩) rfl (by go_simp; rfl) ?_
    refine wpAnyR_take (i := 2) rfl (by kernel_rfl) (by kernel_rfl) (by kernel_rfl) (fun _ _ _ h => h) hS6 (.inl ⟨by kernel_rfl, fun w' hS => (by go_simp; exact ⟨rfl, rfl⟩)⟩) rfl (by go_simp; rfl) ?_
    refine wpAnyR_take (i := 3) rfl (by kernel_rfl) (by kernel_rfl) (by kernel_rfl) (fun _ _ _ h => h) hS6 (.inr ⟨by kernel_rfl, rfl⟩) rfl (by go_simp; rfl) ?_
    refine wpAnyR_take (i := 4) rfl (by kernel_rfl) (by kernel_rfl) (by kernel_rfl) (fun _ _ _ h => h) hS6 (.inr ⟨by kernel_rfl, rfl⟩) rfl (by go_simp; rfl) ?_
    refine wpAnyR_take (i := 5) rfl (by kernel_rfl) (by kernel_rfl) (by kernel_rfl) (fun _ _ _ h => h) hS6 (.inl ⟨by kernel_rfl, fun w' hS => (by go_simp; exact ⟨rfl, rfl⟩)⟩) rfl (by go_simp; rfl) ?_
    refine wpAnyR_take (i := 6) rfl (by kernel_rfl) (by kernel_rfl) (by kernel_rfl) (fun _ _ _ h => h) hS6 (.inl ⟨by kernel_rfl, fun w' hS => (by go_simp; exact ⟨rfl, rfl⟩)⟩) rfl (by go_simp; rfl) ?_
    refine wpAnyR_take (i := 7) rfl (by kernel_rfl) (by kernel_rfl) (by kernel_rfl) (fun _ _ _ h => h) hS6 (.inr ⟨by kernel_rfl, rfl⟩) rfl (by go_simp; rfl) ?_
    refine wpAnyR_take (i := 8) rfl (by kernel_rfl) (by kernel_rfl) (by kernel_rfl) (fun _ _ _ h => h) hS6 (.inr ⟨by kernel_rfl, rfl⟩) rfl (by go_simp; rfl) ?_
    refine wpAnyR_take (i := 9) rfl (by kernel_rfl) (by kernel_rfl) (by kernel_rfl) (fun _ _ _ h => h) hS6 (.inr ⟨by kernel_rfl, rfl⟩) rfl (by go_simp; rfl) ?_
    refine wpAnyR_take (i := 10) rfl (by kernel_rfl) (by kernel_rfl) (by kernel_rfl) (fun _ _ _ h => h) hS6 (.inl ⟨by kernel_rfl, fun w' hS => (by go_simp; exact ⟨rfl, rfl⟩)⟩) rfl (by go_simp; rfl) ?_
    refine wpAnyR_take (i := 11) rfl (by kernel_rfl) (by kernel_rfl) (by kernel_rfl) (fun _ _ _ h => h) hS6 (.inl ⟨by kernel_rfl, fun w' hS => (by go_simp; exact ⟨rfl, rfl⟩)⟩) rfl (by go_simp; rfl) ?_
    refine wpAnyR_take (i := 12) rfl (by kernel_rfl) (by kernel_rfl) (by kernel_rfl) (fun _ _ _ h => h) hS6 (.inr ⟨by kernel_rfl, rfl⟩) rfl (by go_simp; rfl) ?_
    refine wpAnyR_take (i := 13) rfl (by kernel_rfl) (by kernel_rfl) (by kernel_rfl) (fun _ _ _ h => h) hS6 (.inr ⟨by kernel_rfl, rfl⟩) rfl (by go_simp; rfl) ?_
    refine wpAnyR_take (i := 14) rfl (by kernel_rfl) (by kernel_rfl) (by kernel_rfl) (fun _ _ _ h => h) hS6 (.inr ⟨by kernel_rfl, rfl⟩) rfl (by go_simp; rfl) ?_
    refine wpAnyR_take (i := 15) rfl (by kernel_rfl) (by kernel_rfl) (by kernel_rfl) (fun _ _ _ h => h) hS6 (.inl ⟨by kernel_rfl, fun w' hS => (by go_simp; exact ⟨rfl, rfl⟩)⟩) rfl (by go_simp; rfl) ?_
    refine wpAnyR_take (i := 16) rfl (by kernel_rfl) (by kernel_rfl) (by kernel_rfl) (fun _ _ _ h => h) hS6 (.inl ⟨by kernel_rfl, fun w' hS => (by go_simp; exact ⟨rfl, rfl⟩)⟩) rfl (by go_simp; rfl) ?_
    refine wpAnyR_take (i := 17) rfl (by kernel_rfl) (by kernel_rfl) (by kernel_rfl) (fun _ _ _ h => h) hS6 (.inr ⟨by kernel_rfl, rfl⟩) rfl (by go_simp; rfl) ?_
    refine wpAnyR_take (i := 18) rfl (by kernel_rfl) (by kernel_rfl) (by kernel_rfl) (fun _ _ _ h => h) hS6 (.inr ⟨by kernel_rfl, rfl⟩) rfl (by go_simp; rfl) ?_
    refine wpAnyR_take (i := 19) rfl (by kernel_rfl) (by kernel_rfl) (by kernel_rfl) (fun _ _ _ h => h) hS6 (.inr ⟨by kernel_rfl, rfl⟩) rfl (by go_simp; rfl) ?_
    refine wpAnyR_take (i := 20) rfl (by kernel_rfl) (by kernel_rfl) (by kernel_rfl) (fun _ _ _ h => h) hS6 (.inr ⟨by kernel_rfl, rfl⟩) rfl (by go_simp; rfl) ?_
    refine wpAnyR_take (i := 21) rfl (by kernel_rfl) (by kernel_rfl) (by kernel_rfl) (fun _ _ _ h => h) hS6 (.inr ⟨by kernel_rfl, rfl⟩) rfl (by go_simp; rfl) ?_
    refine wpAnyR_take (i := 22) rfl (by kernel_rfl) (by kernel_rfl) (by kernel_rfl) (fun _ _ _ h => h) hS6 (.inl ⟨by kernel_rfl, fun w' hS => (by go_simp; exact ⟨rfl, rfl⟩)⟩) rfl (by go_simp; rfl) ?_
    refine wpAnyR_take (i := 23) rfl (by kernel_rfl) (by kernel_rfl) (by kernel_rfl) (fun _ _ _ h => h) hS6 (.inl ⟨by kernel_rfl, fun w' hS => (by go_simp; exact ⟨rfl, rfl⟩)⟩) rfl (by go_simp; rfl) ?_
    refine wpAnyR_take (i := 24) rfl (by kernel_rfl) (by kernel_rfl) (by kernel_rfl) (fun _ _ _ h => h) hS6 (.inr ⟨by kernel_rfl, rfl⟩) rfl (by go_simp; rfl) ?_
    refine wpAnyR_take (i := 25) rfl (by kernel_rfl) (by kernel_rfl) (by kernel_rfl) (fun _ _ _ h => h) hS6 (.inr ⟨by kernel_rfl, rfl⟩) rfl (by go_simp; rfl) ?_
    refine wpAnyR_take (i := 26) rfl (by kernel_rfl) (by kernel_rfl) (by kernel_rfl) (fun _ _ _ h => h) hS6 (.inr ⟨by kernel_rfl, rfl⟩) rfl (by go_simp; rfl) ?_
    refine wpAnyR_take (i := 27) rfl (by kernel_rfl) (by kernel_rfl) (by kernel_rfl) (fun _ _ _ h => h) hS6 (.inr ⟨by kernel_rfl, rfl⟩) rfl (by go_simp; rfl) ?_
    refine wpAnyR_take (i := 28) rfl (by kernel_rfl) (by kernel_rfl) (by kernel_rfl) (fun _ _ _ h => h) hS6 (.inr ⟨by kernel_rfl, rfl⟩) rfl (by go_simp; rfl) ?_
    refine wpAnyR_take (i := 29) rfl (by kernel_rfl) (by kernel_rfl) (by kernel_rfl) (fun _ _ _ h => h) hS6 (.inl ⟨by kernel_rfl, fun w' hS => (by go_simp; exact ⟨rfl, rfl⟩)⟩) rfl (by go_simp; rfl) ?_
    refine wpAnyR_done (by kernel_rfl) ?_ _
    obtain ⟨w7, hw7⟩ : ∃ w', wb5.drew = w' := ⟨_, rfl⟩
    rw [hw7] at hS6 ⊢
    clear hw7
    have Da := Lib.hid (Da.out.below hS6)
    have V10 := Lib.hid (V10.out.below hS6)
    have Db := Lib.hid (Db.out.below hS6)
    have V12 := Lib.hid (V12.out.below hS6)
    have HB := Lib.hid (below_next HB.out hS6)
    go_wp2
    go_ret
    exact ⟨rfl, HB.out⟩
  cases okb
  · refine wp_region_still (S := Below wb5.heap.size wb5) (by kernel_rfl) ?_
    have hS6 : Below wb5.heap.size wb5 wb5.drew := (Below.refl _ wb5).drew
    refine wpAnyR_take (i := 0) rfl (by kernel_rfl) (by kernel_rfl) (by kernel_rfl) (fun _ _ _ h => h) hS6 (.inl ⟨by kernel_rfl, fun w' hS => (by go_simp; exact ⟨rfl, rfl⟩)⟩) rfl (by go_simp; rfl) ?_
    refine wpAnyR_take (i := 1) rfl (by kernel_rfl) (by kernel_rfl) (by kernel_rfl) (fun _ _ _ h => h) hS6 (.inl ⟨by kernel_rfl, fun w' hS => (by go_simp; exact ⟨rfl, rfl⟩)⟩) rfl (by go_simp; rfl) ?_
    refine wpAnyR_take (i := 2) rfl (by kernel_rfl) (by kernel_rfl) (by kernel_rfl) (fun _ _ _ h => h) hS6 (.inl ⟨by kernel_rfl, fun w' hS => (by go_simp; exact ⟨rfl, rfl⟩)⟩) rfl (by go_simp; rfl) ?_
    refine wpAnyR_take (i := 3) rfl (by kernel_rfl) (by kernel_rfl) (by kernel_rfl) (fun _ _ _ h => h) hS6 (.inl ⟨by kernel_rfl, fun w' hS => (by go_simp; exact ⟨rfl, rfl⟩)⟩) rfl (by go_simp; rfl) ?_
    refine wpAnyR_take (i := 4) rfl (by kernel_rfl) (by kernel_rfl) (by kernel_rfl) (fun _ _ _ h => h) hS6 (.inl ⟨by kernel_rfl, fun w' hS => (by go_simp; exact ⟨rfl, rfl⟩)⟩) rfl (by go_simp; rfl) ?_
    refine wpAnyR_take (i := 5) rfl (by kernel_rfl) (by kernel_rfl) (by kernel_rfl) (fun _ _ _ h => h) hS6 (.inl ⟨by kernel_rfl, fun w' hS => (by go_simp; exact ⟨rfl, rfl⟩)⟩) rfl (by go_simp; rfl) ?_
    refine wpAnyR_take (i := 6) rfl (by kernel_rfl) (by kernel_rfl) (by kernel_rfl) (fun _ _ _ h => h) hS6 (.inl ⟨by kernel_rfl, fun w' hS => (by go_simp; exact ⟨rfl, rfl⟩)⟩) rfl (by go_simp; rfl) ?_
    refine wpAnyR_take (i := 7) rfl (by kernel_rfl) (by kernel_rfl) (by kernel_rfl) (fun _ _ _ h => h) hS6 (.inr ⟨by kernel_rfl, rfl⟩) rfl (by go_simp; rfl) ?_
    refine wpAnyR_take (i := 8) rfl (by kernel_rfl) (by kernel_rfl) (by kernel_rfl) (fun _ _ _ h => h) hS6 (.inr ⟨by kernel_rfl, rfl⟩) rfl (by go_simp; rfl) ?_
    refine wpAnyR_take (i := 9) rfl (by kernel_rfl) (by kernel_rfl) (by kernel_rfl) (fun _ _ _ h => h) hS6 (.inr ⟨by kernel_rfl, rfl⟩) rfl (by go_simp; rfl) ?_
    refine wpAnyR_take (i := 10) rfl (by kernel_rfl) (by kernel_rfl) (by kernel_rfl) (fun _ _ _ h => h) hS6 (.inl ⟨by kernel_rfl, fun w' hS => (by go_simp; exact ⟨rfl, rfl⟩)⟩) rfl (by go_simp; rfl) ?_
    refine wpAnyR_take (i := 11) rfl (by kernel_rfl) (by kernel_rfl) (by kernel_rfl) (fun _ _ _ h => h) hS6 (.inl ⟨by kernel_rfl, fun w' hS => (by go_simp; exact ⟨rfl, rfl⟩)⟩) rfl (by go_simp; rfl) ?_
    refine wpAnyR_take (i := 12) rfl (by kernel_rfl) (by kernel_rfl) (by kernel_rfl) (fun _ _ _ h => h) hS6 (.inr ⟨by kernel_rfl, rfl⟩) rfl (by go_simp; rfl) ?_
    refine wpAnyR_take (i := 13) rfl (by kernel_rfl) (by kernel_rfl) (by kernel_rfl) (fun _ _ _ h => h) hS6 (.inr ⟨by kernel_rfl, rfl⟩) rfl (by go_simp; rfl) ?_
    refine wpAnyR_take (i := 14) rfl (by kernel_rfl) (by kernel_rfl) (by kernel_rfl) (fun _ _ _ h => h) hS6 (.inr ⟨by kernel_rfl, rfl⟩) rfl (by go_simp; rfl) ?_
    refine wpAnyR_take (i := 15) rfl (by kernel_rfl) (by kernel_rfl) (by kernel_rfl) (fun _ _ _ h => h) hS6 (.inl ⟨by kernel_rfl, fun w' hS => (by go_simp; exact ⟨rfl, rfl⟩)⟩) rfl (by go_simp; rfl) ?_
    refine wpAnyR_take (i := 16) rfl (by kernel_rfl) (by kernel_rfl) (by kernel_rfl) (fun _ _ _ h => h) hS6 (.inl ⟨by kernel_rfl, fun w' hS => (by go_simp; exact ⟨rfl, rfl⟩)⟩) rfl (by go_simp; rfl) ?_
    refine wpAnyR_take (i := 17) rfl (by kernel_rfl) (by kernel_rfl) (by kernel_rfl) (fun _ _ _ h => h) hS6 (.inr ⟨by kernel_rfl, rfl⟩) rfl (by go_simp; rfl) ?_
    refine wpAnyR_take (i := 18) rfl (by kernel_rfl) (by kernel_rfl) (by kernel_rfl) (fun _ _ _ h => h) hS6 (.inr ⟨by kernel_rfl, rfl⟩) rfl (by go_simp; rfl) ?_
    refine wpAnyR_take (i := 19) rfl (by kernel_rfl) (by kernel_rfl) (by kernel_rfl) (fun _ _ _ h => h) hS6 (.inr ⟨by kernel_rfl, rfl⟩) rfl (by go_simp; rfl) ?_
    refine wpAnyR_take (i := 20) rfl (by kernel_rfl) (by kernel_rfl) (by kernel_rfl) (fun _ _ _ h => h) hS6 (.inr ⟨by kernel_rfl, rfl⟩) rfl (by go_simp; rfl) ?_
    refine wpAnyR_take (i := 21) rfl (by kernel_rfl) (by kernel_rfl) (by kernel_rfl) (fun _ _ _ h => h) hS6 (.inr ⟨by kernel_rfl, rfl⟩) rfl (by go_simp; rfl) ?_
    refine wpAnyR_take (i := 22) rfl (by kernel_rfl) (by kernel_rfl) (by kernel_rfl) (fun _ _ _ h => h) hS6 (.inl ⟨by kernel_rfl, fun w' hS => (by go_simp; exact ⟨rfl, rfl⟩)⟩) rfl (by go_simp; rfl) ?_
    refine wpAnyR_take (i := 23) rfl (by kernel_rfl) (by kernel_rfl) (by kernel_rfl) (fun _ _ _ h => h) hS6 (.inl ⟨by kernel_rfl, fun w' hS => (by go_simp; exact ⟨rfl, rfl⟩)⟩) rfl (by go_simp; rfl) ?_
    refine wpAnyR_take (i := 24) rfl (by kernel_rfl) (by kernel_rfl) (by kernel_rfl) (fun _ _ _ h => h) hS6 (.inr ⟨by kernel_rfl, rfl⟩) rfl (by go_simp; rfl) ?_
    refine wpAnyR_take (i := 25) rfl (by kernel_rfl) (by kernel_rfl) (by kernel_rfl) (fun _ _ _ h => h) hS6 (.inr ⟨by kernel_rfl, rfl⟩) rfl (by go_simp; rfl) ?_
    refine wpAnyR_take (i := 26) rfl (by kernel_rfl) (by kernel_rfl) (by kernel_rfl) (fun _ _ _ h => h) hS6 (.inr ⟨by kernel_rfl, rfl⟩) rfl (by go_simp; rfl) ?_
    refine wpAnyR_take (i := 27) rfl (by kernel_rfl) (by kernel_rfl) (by kernel_rfl) (fun _ _ _ h => h) hS6 (.inr ⟨by kernel_rfl, rfl⟩) rfl (by go_simp; rfl) ?_
    refine wpAnyR_take (i := 28) rfl (by kernel_rfl) (by kernel_rfl) (by kernel_rfl) (fun _ _ _ h => h) hS6 (.inr ⟨by kernel_rfl, rfl⟩) rfl (by go_simp; rfl) ?_
    refine wpAnyR_take (i := 29) rfl (by kernel_rfl) (by kernel_rfl) (by kernel_rfl) (fun _ _ _ h => h) hS6 (.inl ⟨by kernel_rfl, fun w' hS => (by go_simp; exact ⟨rfl, rfl⟩)⟩) rfl (by go_simp; rfl) ?_
    refine wpAnyR_done (by kernel_rfl) ?_ _
    obtain ⟨w7, hw7⟩ : ∃ w', wb5.drew = w' := ⟨_, rfl⟩
    rw [hw7] at hS6 ⊢
    clear hw7
    have Da := Lib.hid (Da.out.below hS6)
    have V10 := Lib.hid (V10.out.below hS6)
    have Db := Lib.hid (Db.out.below hS6)
    have V12 := Lib.hid (V12.out.below hS6)
    have HB := Lib.hid (below_next HB.out hS6)
    go_wp2
    go_ret
    exact ⟨rfl, HB.out⟩
  have hpa := HPA.out HT1.out
  have hpb := HPB.out HT2.out
  obtain ⟨ga, hga⟩ : ∃ g, decide (0 < Fl.VV a) = g := ⟨_, rfl⟩
  obtain ⟨gb, hgb⟩ : ∃ g, decide (0 < Fl.VV b) = g := ⟨_, rfl⟩
  rw [hga] at hpa
  rw [hgb] at hpb
  have HGA := Lib.hid hga
  have HGB := Lib.hid hgb
  clear hga hgb
  cases ga
  · refine wp_region_still (S := Below wb5.heap.size wb5) (by kernel_rfl) ?_
    have hS6 : Below wb5.heap.size wb5 wb5.drew := (Below.refl _ wb5).drew
    refine wpAnyR_take (i := 0) rfl (by kernel_rfl) (by kernel_rfl) (by kernel_rfl) (fun _ _ _ h => h) hS6 (.inl ⟨by kernel_rfl, fun w' hS => (by go_simp; exact ⟨rfl, rfl⟩)⟩) rfl (by go_simp; rfl) ?_
    refine wpAnyR_take (i := 1) rfl (by kernel_rfl) (by kernel_rfl) (by kernel_rfl) (fun _ _ _ h => h) hS6 (.inl ⟨by kernel_rfl, fun w' hS => (by go_simp; exact ⟨rfl, rfl⟩)⟩) rfl (by go_simp; rfl) ?_
    refine wpAnyR_take (i := 2) rfl (by kernel_rfl) (by kernel_rfl) (by kernel_rfl) (fun _ _ _ h => h) hS6 (.inl ⟨by kernel_rfl, fun w' hS => (by go_simp; exact ⟨rfl, rfl⟩)⟩) rfl (by go_simp; rfl) ?_
    refine wpAnyR_take (i := 3) rfl (by kernel_rfl) (by kernel_rfl) (by kernel_rfl) (fun _ _ _ h => h) hS6 (.inl ⟨by kernel_rfl, fun w' hS => (by go_simp; exact ⟨rfl, rfl⟩)⟩) rfl (by go_simp; rfl) ?_
    refine wpAnyR_take (i := 4) rfl (by kernel_rfl) (by kernel_rfl) (by kernel_rfl) (fun _ _ _ h => h) hS6 (.inl ⟨by kernel_rfl, fun w' hS => (by go_simp; exact ⟨rfl, rfl⟩)⟩) rfl (by go_simp; rfl) ?_
    refine wpAnyR_take (i := 5) rfl (by kernel_rfl) (by kernel_rfl) (by kernel_rfl) (fun _ _ _ h => h) hS6 (.inl ⟨by kernel_rfl, fun w' hS => (by go_simp; exact ⟨rfl, rfl⟩)⟩) rfl (by go_simp; rfl) ?_
    refine wpAnyR_take (i := 6) rfl (by kernel_rfl) (by kernel_rfl) (by kernel_rfl) (fun _ _ _ h => h) hS6 (.inl ⟨by kernel_rfl, fun w' hS => (by go_simp; exact ⟨rfl, rfl⟩)⟩) rfl (by go_simp; rfl) ?_
    refine wpAnyR_take (i := 7) rfl (by kernel_rfl) (by kernel_rfl) (by kernel_rfl) (fun _ _ _ h => h) hS6 (.inl ⟨by kernel_rfl, fun w' hS => (by go_simp; exact ⟨rfl, rfl⟩)⟩) rfl (by go_simp; rfl) ?_
    refine wpAnyR_take (i := 8) rfl (by kernel_rfl) (by kernel_rfl) (by kernel_rfl) (fun _ _ _ h => h) hS6 (.inl ⟨by kernel_rfl, fun w' hS => (by go_simp; exact ⟨rfl, rfl⟩)⟩) rfl (by go_simp; rfl) ?_
    refine wpAnyR_take (i := 9) rfl (by kernel_rfl) (by kernel_rfl) (by kernel_rfl) (fun _ _ _ h => h) hS6 (.inl ⟨by kernel_rfl, fun w' hS => (by go_simp; exact ⟨rfl, rfl⟩)⟩) rfl (by go_simp; rfl) ?_
    refine wpAnyR_take (i := 10) rfl (by kernel_rfl) (by kernel_rfl) (by kernel_rfl) (fun _ _ _ h => h) hS6 (.inl ⟨by kernel_rfl, fun w' hS => (by go_simp; exact ⟨rfl, rfl⟩)⟩) rfl (by go_simp; rfl) ?_
    refine wpAnyR_take (i := 11) rfl (by kernel_rfl) (by kernel_rfl) (by kernel_rfl) (fun _ _ _ h => h) hS6 (.inl ⟨by kernel_rfl, fun w' hS => (by go_simp; exact ⟨rfl, rfl⟩)⟩) rfl (by go_simp; rfl) ?_
    refine wpAnyR_take (i := 12) rfl (by kernel_rfl) (by kernel_rfl) (by kernel_rfl) (fun _ _ _ h => h) hS6 (.inr ⟨by kernel_rfl, rfl⟩) rfl (by go_simp; rfl) ?_
    refine wpAnyR_take (i := 13) rfl (by kernel_rfl) (by kernel_rfl) (by kernel_rfl) (fun _ _ _ h => h) hS6 (.inr ⟨by kernel_rfl, rfl⟩) rfl (by go_simp; rfl) ?_
    refine wpAnyR_take (i := 14) rfl (by kernel_rfl) (by kernel_rfl) (by kernel_rfl) (fun _ _ _ h => h) hS6 (.inr ⟨by kernel_rfl, rfl⟩) rfl (by go_simp; rfl) ?_
    refine wpAnyR_take (i := 15) rfl (by kernel_rfl) (by kernel_rfl) (by kernel_rfl) (fun _ _ _ h => h) hS6 (.inl ⟨by kernel_rfl, fun w' hS => (by go_simp; exact ⟨rfl, rfl⟩)⟩) rfl (by go_simp; rfl) ?_
    refine wpAnyR_take (i := 16) rfl (by kernel_rfl) (by kernel_rfl) (by kernel_rfl) (fun _ _ _ h => h) hS6 (.inl ⟨by kernel_rfl, fun w' hS => (by go_simp; exact ⟨rfl, rfl⟩)⟩) rfl (by go_simp; rfl) ?_
    refine wpAnyR_take (i := 17) rfl (by kernel_rfl) (by kernel_rfl) (by kernel_rfl) (fun _ _ _ h => h) hS6 (.inr ⟨by kernel_rfl, rfl⟩) rfl (by go_simp; rfl) ?_
    refine wpAnyR_take (i := 18) rfl (by kernel_rfl) (by kernel_rfl) (by kernel_rfl) (fun _ _ _ h => h) hS6 (.inr ⟨by kernel_rfl, rfl⟩) rfl (by go_simp; rfl) ?_
    refine wpAnyR_take (i := 19) rfl (by kernel_rfl) (by kernel_rfl) (by kernel_rfl) (fun _ _ _ h => h) hS6 (.inr ⟨by kernel_rfl, rfl⟩) rfl (by go_simp; rfl) ?_
    refine wpAnyR_take (i := 20) rfl (by kernel_rfl) (by kernel_rfl) (by kernel_rfl) (fun _ _ _ h => h) hS6 (.inr ⟨by kernel_rfl, rfl⟩) rfl (by go_simp; rfl) ?_
    refine wpAnyR_take (i := 21) rfl (by kernel_rfl) (by kernel_rfl) (by kernel_rfl) (fun _ _ _ h => h) hS6 (.inr ⟨by kernel_rfl, rfl⟩) rfl (by go_simp; rfl) ?_
    refine wpAnyR_take (i := 22) rfl (by kernel_rfl) (by kernel_rfl) (by kernel_rfl) (fun _ _ _ h => h) hS6 (.inl ⟨by kernel_rfl, fun w' hS => (by go_simp; exact ⟨rfl, rfl⟩)⟩) rfl (by go_simp; rfl) ?_
    refine wpAnyR_take (i := 23) rfl (by kernel_rfl) (by kernel_rfl) (by kernel_rfl) (fun _ _ _ h => h) hS6 (.inl ⟨by kernel_rfl, fun w' hS => (by go_simp; exact ⟨rfl, rfl⟩)⟩) rfl (by go_simp; rfl) ?_
    refine wpAnyR_take (i := 24) rfl (by kernel_rfl) (by kernel_rfl) (by kernel_rfl) (fun _ _ _ h => h) hS6 (.inr ⟨by kernel_rfl, rfl⟩) rfl (by go_simp; rfl) ?_
    refine wpAnyR_take (i := 25) rfl (by kernel_rfl) (by kernel_rfl) (by kernel_rfl) (fun _ _ _ h => h) hS6 (.inr ⟨by kernel_rfl, rfl⟩) rfl (by go_simp; rfl) ?_
    refine wpAnyR_take (i := 26) rfl (by kernel_rfl) (by kernel_rfl) (by kernel_rfl) (fun _ _ _ h => h) hS6 (.inr ⟨by kernel_rfl, rfl⟩) rfl (by go_simp; rfl) ?_
    refine wpAnyR_take (i := 27) rfl (by kernel_rfl) (by kernel_rfl) (by kernel_rfl) (fun _ _ _ h => h) hS6 (.inr ⟨by kernel_rfl, rfl⟩) rfl (by go_simp; rfl) ?_
    refine wpAnyR_take (i := 28) rfl (by kernel_rfl) (by kernel_rfl) (by kernel_rfl) (fun _ _ _ h => h) hS6 (.inr ⟨by kernel_rfl, rfl⟩) rfl (by go_simp; rfl) ?_
    refine wpAnyR_take (i := 29) rfl (by kernel_rfl) (by kernel_rfl) (by kernel_rfl) (fun _ _ _ h => h) hS6 (.inl ⟨by kernel_rfl, fun w' hS => (by go_simp; exact ⟨rfl, rfl⟩)⟩) rfl (by go_simp; rfl) ?_
    refine wpAnyR_done (by kernel_rfl) ?_ _
    obtain ⟨w7, hw7⟩ : ∃ w', wb5.drew = w' := ⟨_, rfl⟩
    rw [hw7] at hS6 ⊢
    clear hw7
    have Da := Lib.hid (Da.out.below hS6)
    have V10 := Lib.hid (V10.out.below hS6)
    have Db := Lib.hid (Db.out.below hS6)
    have V12 := Lib.hid (V12.out.below hS6)
    have HB := Lib.hid (below_next HB.out hS6)
    go_wp2
    go_ret
    exact ⟨rfl, HB.out⟩
  cases gb
  · refine wp_region_still (S := Below wb5.heap.size wb5) (by kernel_rfl) ?_
    have hS6 : Below wb5.heap.size wb5 wb5.drew := (Below.refl _ wb5).drew
    refine wpAnyR_take (i := 0) rfl (by kernel_rfl) (by kernel_rfl) (by kernel_rfl) (fun _ _ _ h => h) hS6 (.inl ⟨by kernel_rfl, fun w' hS => (by go_simp; exact ⟨rfl, rfl⟩)⟩) rfl (by go_simp; rfl) ?_
    refine wpAnyR_take (i := 1) rfl (by kernel_rfl) (by kernel_rfl) (by kernel_rfl) (fun _ _ _ h => h) hS6 (.inl ⟨by kernel_rfl, fun w' hS => (by go_simp; exact ⟨rfl, rfl⟩)⟩) rfl (by go_simp; rfl) ?_
    refine wpAnyR_take (i := 2) rfl (by kernel_rfl) (by kernel_rfl) (by kernel_rfl) (fun _ _ _ h => h) hS6 (.inl ⟨by kernel_rfl, fun w' hS => (by go_simp; exact ⟨rfl, rfl⟩)⟩) rfl (by go_simp; rfl) ?_
    refine wpAnyR_take (i := 3) rfl (by kernel_rfl) (by kernel_rfl) (by kernel_rfl) (fun _ _ _ h => h) hS6 (.inl ⟨by kernel_rfl, fun w' hS => (by go_simp; exact ⟨rfl, rfl⟩)⟩) rfl (by go_simp; rfl) ?_
    refine wpAnyR_take (i := 4) rfl (by kernel_rfl) (by kernel_rfl) (by kernel_rfl) (fun _ _ _ h => h) hS6 (.inl ⟨by kernel_rfl, fun w' hS => (by go_simp; exact ⟨rfl, rfl⟩)⟩) rfl (by go_simp; rfl) ?_
    refine wpAnyR_take (i := 5) rfl (by kernel_rfl) (by kernel_rfl) (by kernel_rfl) (fun _ _ _ h => h) hS6 (.inl ⟨by kernel_rfl, fun w' hS => (by go_simp; exact ⟨rfl, rfl⟩)⟩) rfl (by go_simp; rfl) ?_
    refine wpAnyR_take (i := 6) rfl (by kernel_rfl) (by kernel_rfl) (by kernel_rfl) (fun _ _ _ h => h) hS6 (.inl ⟨by kernel_rfl, fun w' hS => (by go_simp; exact ⟨rfl, rfl⟩)⟩) rfl (by go_simp; rfl) ?_
    refine wpAnyR_take (i := 7) rfl (by kernel_rfl) (by kernel_rfl) (by kernel_rfl) (fun _ _ _ h => h) hS6 (.inl ⟨by kernel_rfl, fun w' hS => (by go_simp; exact ⟨rfl, rfl⟩)⟩) rfl (by go_simp; rfl) ?_
    refine wpAnyR_take (i := 8) rfl (by kernel_rfl) (by kernel_rfl) (by kernel_rfl) (fun _ _ _ h => h) hS6 (.inl ⟨by kernel_rfl, fun w' hS => (by go_simp; exact ⟨rfl, rfl⟩)⟩) rfl (by go_simp; rfl) ?_
    refine wpAnyR_take (i := 9) rfl (by kernel_rfl) (by kernel_rfl) (by kernel_rfl) (fun _ _ _ h => h) hS6 (.inl ⟨by kernel_rfl, fun w' hS => (by go_simp; exact ⟨rfl, rfl⟩)⟩) rfl (by go_simp; rfl) ?_
    refine wpAnyR_take (i := 10) rfl (by kernel_rfl) (by kernel_rfl) (by kernel_rfl) (fun _ _ _ h => h) hS6 (.inl ⟨by kernel_rfl, fun w' hS => (by go_simp; exact ⟨rfl, rfl⟩)⟩) rfl (by go_simp; rfl) ?_
    refine wpAnyR_take (i := 11) rfl (by kernel_rfl) (by kernel_rfl) (by kernel_rfl) (fun _ _ _ h => h) hS6 (.inl ⟨by kernel_rfl, fun w' hS => (by go_simp; exact ⟨rfl, rfl⟩)⟩) rfl (by go_simp; rfl) ?_
    refine wpAnyR_take (i := 12) rfl (by kernel_rfl) (by kernel_rfl) (by kernel_rfl) (fun _ _ _ h => h) hS6 (.inl ⟨by kernel_rfl, fun w' hS => (by go_simp; exact ⟨rfl, rfl⟩)⟩) rfl (by go_simp; rfl) ?_
    refine wpAnyR_take (i := 13) rfl (by kernel_rfl) (by kernel_rfl) (by kernel_rfl) (fun _ _ _ h => h) hS6 (.inl ⟨by kernel_rfl, fun w' hS => (by go_simp; exact ⟨rfl, rfl⟩)⟩) rfl (by go_simp; rfl) ?_
    refine wpAnyR_take (i := 14) rfl (by kernel_rfl) (by kernel_rfl) (by kernel_rfl) (fun _ _ _ h => h) hS6 (.inl ⟨by kernel_rfl, fun w' hS => (by go_simp; exact ⟨rfl, rfl⟩)⟩) rfl (by go_simp; rfl) ?_
    refine wpAnyR_take (i := 15) rfl (by kernel_rfl) (by kernel_rfl) (by kernel_rfl) (fun _ _ _ h => h) hS6 (.inl ⟨by kernel_rfl, fun w' hS => (by go_simp; exact ⟨rfl, rfl⟩)⟩) rfl (by go_simp; rfl) ?_
    refine wpAnyR_take (i := 16) rfl (by kernel_rfl) (by kernel_rfl) (by kernel_rfl) (fun _ _ _ h => h) hS6 (.inl ⟨by kernel_rfl, fun w' hS => (by go_simp; exact ⟨rfl, rfl⟩)⟩) rfl (by go_simp; rfl) ?_
    refine wpAnyR_take (i := 17) rfl (by kernel_rfl) (by kernel_rfl) (by kernel_rfl) (fun _ _ _ h => h) hS6 (.inr ⟨by kernel_rfl, rfl⟩) rfl (by go_simp; rfl) ?_
    refine wpAnyR_take (i := 18) rfl (by kernel_rfl) (by kernel_rfl) (by kernel_rfl) (fun _ _ _ h => h) hS6 (.inr ⟨by kernel_rfl, rfl⟩) rfl (by go_simp; rfl) ?_
    refine wpAnyR_take (i := 19) rfl (by kernel_rfl) (by kernel_rfl) (by kernel_rfl) (fun _ _ _ h => h) hS6 (.inr ⟨by kernel_rfl, rfl⟩) rfl (by go_simp; rfl) ?_
    refine wpAnyR_take (i := 20) rfl (by kernel_rfl) (by kernel_rfl) (by kernel_rfl) (fun _ _ _ h => h) hS6 (.inr ⟨by kernel_rfl, rfl⟩) rfl (by go_simp; rfl) ?_
    refine wpAnyR_take (i := 21) rfl (by kernel_rfl) (by kernel_rfl) (by kernel_rfl) (fun _ _ _ h => h) hS6 (.inr ⟨by kernel_rfl, rfl⟩) rfl (by go_simp; rfl) ?_
    refine wpAnyR_take (i := 22) rfl (by kernel_rfl) (by kernel_rfl) (by kernel_rfl) (fun _ _ _ h => h) hS6 (.inl ⟨by kernel_rfl, fun w' hS => (by go_simp; exact ⟨rfl, rfl⟩)⟩) rfl (by go_simp; rfl) ?_
    refine wpAnyR_take (i := 23) rfl (by kernel_rfl) (by kernel_rfl) (by kernel_rfl) (fun _ _ _ h => h) hS6 (.inl ⟨by kernel_rfl, fun w' hS => (by go_simp; exact ⟨rfl, rfl⟩)⟩) rfl (by go_simp; rfl) ?_
    refine wpAnyR_take (i := 24) rfl (by kernel_rfl) (by kernel_rfl) (by kernel_rfl) (fun _ _ _ h => h) hS6 (.inr ⟨by kernel_rfl, rfl⟩) rfl (by go_simp; rfl) ?_
    refine wpAnyR_take (i := 25) rfl (by kernel_rfl) (by kernel_rfl) (by kernel_rfl) (fun _ _ _ h => h) hS6 (.inr ⟨by kernel_rfl, rfl⟩) rfl (by go_simp; rfl) ?_
    refine wpAnyR_take (i := 26) rfl (by kernel_rfl) (by kernel_rfl) (by kernel_rfl) (fun _ _ _ h => h) hS6 (.inr ⟨by kernel_rfl, rfl⟩) rfl (by go_simp; rfl) ?_
    refine wpAnyR_take (i := 27) rfl (by kernel_rfl) (by kernel_rfl) (by kernel_rfl) (fun _ _ _ h => h) hS6 (.inr ⟨by kernel_rfl, rfl⟩) rfl (by go_simp; rfl) ?_
    refine wpAnyR_take (i := 28) rfl (by kernel_rfl) (by kernel_rfl) (by kernel_rfl) (fun _ _ _ h => h) hS6 (.inr ⟨by kernel_rfl, rfl⟩) rfl (by go_simp; rfl) ?_
    refine wpAnyR_take (i := 29) rfl (by kernel_rfl) (by kernel_rfl) (by kernel_rfl) (fun _ _ _ h => h) hS6 (.inl ⟨by kernel_rfl, fun w' hS => (by go_simp; exact ⟨rfl, rfl⟩)⟩) rfl (by go_simp; rfl) ?_
    refine wpAnyR_done (by kernel_rfl) ?_ _
    obtain ⟨w7, hw7⟩ : ∃ w', wb5.drew = w' := ⟨_, rfl⟩
    rw [hw7] at hS6 ⊢
    clear hw7
    have Da := Lib.hid (Da.out.below hS6)
    have V10 := Lib.hid (V10.out.below hS6)
    have Db := Lib.hid (Db.out.below hS6)
    have V12 := Lib.hid (V12.out.below hS6)
    have HB := Lib.hid (below_next HB.out hS6)
    go_wp2
    go_ret
    exact ⟨rfl, HB.out⟩
  skip
  have HZ1 : Hid ((digs ((Fl.VV a).natAbs + (Fl.VV b * ((2 ^ 1 : Nat) : Int)).natAbs)).length ≤ 800) := Lib.hid (((bd_VV a).mono (by decide)).sz2 (bd_two (bd_VV b)) (by decide))
  have HZ2 : Hid ((digs ((Fl.VV b).natAbs + (Fl.VV a * ((2 ^ 1 : Nat) : Int)).natAbs)).length ≤ 800) := Lib.hid (((bd_VV b).mono (by decide)).sz2 (bd_two (bd_VV a)) (by decide))
  have HZ3 : Hid ((digs ((Fl.VV a).natAbs + (-Fl.VV b).natAbs)).length ≤ 800) := Lib.hid ((bd_VV a).sz2 (bd_VV b).neg (by decide))
  by_cases hc : Fl.VV a ≤ Fl.VV b * ((2 ^ 1 : Nat) : Int)
  · have HC0 := Lib.hid hc
    have HC1 : Hid (cmpv (Fl.VV a) (Fl.VV b * ((2 ^ 1 : Nat) : Int)) ≤ 0) := Lib.hid (by unfold cmpv; split; decide; split; decide; omega)
    clear hc
    by_cases hc : Fl.VV b ≤ Fl.VV a * ((2 ^ 1 : Nat) : Int)
    · have HC3 := Lib.hid hc
      have HC2 : Hid (cmpv (Fl.VV b) (Fl.VV a * ((2 ^ 1 : Nat) : Int)) ≤ 0) := Lib.hid (by unfold cmpv; split; decide; split; decide; omega)
      clear hc
      refine wp_region_still (S := Below wb5.heap.size wb5) (by kernel_rfl) ?_
      have hS6 : Below wb5.heap.size wb5 wb5.drew := (Below.refl _ wb5).drew
      refine wpAnyR_take (i := 0) rfl (by kernel_rfl) (by kernel_rfl) (by kernel_rfl) (fun _ _ _ h => h) hS6 (.inl ⟨by kernel_rfl, fun w' hS => (by go_simp; exact ⟨rfl, rfl⟩)⟩) rfl (by go_simp; rfl) ?_
      refine wpAnyR_take (i := 1) rfl (by kernel_rfl) (by kernel_rfl) (by kernel_rfl) (fun _ _ _ h => h) hS6 (.inl ⟨by kernel_rfl, fun w' hS => (by go_simp; exact ⟨rfl, rfl⟩)⟩) rfl (by go_simp; rfl) ?_
      refine wpAnyR_take (i := 2) rfl (by kernel_rfl) (by kernel_rfl) (by kernel_rfl) (fun _ _ _ h => h) hS6 (.inl ⟨by kernel_rfl, fun w' hS => (by go_simp; exact ⟨rfl, rfl⟩)⟩) rfl (by go_simp; rfl) ?_
      refine wpAnyR_take (i := 3) rfl (by kernel_rfl) (by kernel_rfl) (by kernel_rfl) (fun _ _ _ h => h) hS6 (.inl ⟨by kernel_rfl, fun w' hS => (by go_simp; exact ⟨rfl, rfl⟩)⟩) rfl (by go_simp; rfl) ?_
      refine wpAnyR_take (i := 4) rfl (by kernel_rfl) (by kernel_rfl) (by kernel_rfl) (fun _ _ _ h => h) hS6 (.inl ⟨by kernel_rfl, fun w' hS => (by go_simp; exact ⟨rfl, rfl⟩)⟩) rfl (by go_simp; rfl) ?_
      refine wpAnyR_take (i := 5) rfl (by kernel_rfl) (by kernel_rfl) (by kernel_rfl) (fun _ _ _ h => h) hS6 (.inl ⟨by kernel_rfl, fun w' hS => (by go_simp; exact ⟨rfl, rfl⟩)⟩) rfl (by go_simp; rfl) ?_
      refine wpAnyR_take (i := 6) rfl (by kernel_rfl) (by kernel_rfl) (by kernel_rfl) (fun _ _ _ h => h) hS6 (.inl ⟨by kernel_rfl, fun w' hS => (by go_simp; exact ⟨rfl, rfl⟩)⟩) rfl (by go_simp; rfl) ?_
      refine wpAnyR_take (i := 7) rfl (by kernel_rfl) (by kernel_rfl) (by kernel_rfl) (fun _ _ _ h => h) hS6 (.inl ⟨by kernel_rfl, fun w' hS => (by go_simp; exact ⟨rfl, rfl⟩)⟩) rfl (by go_simp; rfl) ?_
      refine wpAnyR_take (i := 8) rfl (by kernel_rfl) (by kernel_rfl) (by kernel_rfl) (fun _ _ _ h => h) hS6 (.inl ⟨by kernel_rfl, fun w' hS => (by go_simp; exact ⟨rfl, rfl⟩)⟩) rfl (by go_simp; rfl) ?_
      refine wpAnyR_take (i := 9) rfl (by kernel_rfl) (by kernel_rfl) (by kernel_rfl) (fun _ _ _ h => h) hS6 (.inl ⟨by kernel_rfl, fun w' hS => (by go_simp; exact ⟨rfl, rfl⟩)⟩) rfl (by go_simp; rfl) ?_
      refine wpAnyR_take (i := 10) rfl (by kernel_rfl) (by kernel_rfl) (by kernel_rfl) (fun _ _ _ h => h) hS6 (.inl ⟨by kernel_rfl, fun w' hS => (by go_simp; exact ⟨rfl, rfl⟩)⟩) rfl (by go_simp; rfl) ?_
      refine wpAnyR_take (i := 11) rfl (by kernel_rfl) (by kernel_rfl) (by kernel_rfl) (fun _ _ _ h => h) hS6 (.inl ⟨by kernel_rfl, fun w' hS => (by go_simp; exact ⟨rfl, rfl⟩)⟩) rfl (by go_simp; rfl) ?_
      refine wpAnyR_take (i := 12) rfl (by kernel_rfl) (by kernel_rfl) (by kernel_rfl) (fun _ _ _ h => h) hS6 (.inl ⟨by kernel_rfl, fun w' hS => (by go_simp; exact ⟨rfl, rfl⟩)⟩) rfl (by go_simp; rfl) ?_
      refine wpAnyR_take (i := 13) rfl (by kernel_rfl) (by kernel_rfl) (by kernel_rfl) (fun _ _ _ h => h) hS6 (.inl ⟨by kernel_rfl, fun w' hS => (by go_simp; exact ⟨rfl, rfl⟩)⟩) rfl (by go_simp; rfl) ?_
      refine wpAnyR_take (i := 14) rfl (by kernel_rfl) (by kernel_rfl) (by kernel_rfl) (fun _ _ _ h => h) hS6 (.inl ⟨by kernel_rfl, fun w' hS => (by go_simp; exact ⟨rfl, rfl⟩)⟩) rfl (by go_simp; rfl) ?_
      refine wpAnyR_take (i := 15) rfl (by kernel_rfl) (by kernel_rfl) (by kernel_rfl) (fun _ _ _ h => h) hS6 (.inl ⟨by kernel_rfl, fun w' hS => (by go_simp; exact ⟨rfl, rfl⟩)⟩) rfl (by go_simp; rfl) ?_
      refine wpAnyR_take (i := 16) rfl (by kernel_rfl) (by kernel_rfl) (by kernel_rfl) (fun _ _ _ h => h) hS6 (.inl ⟨by kernel_rfl, fun w' hS => (by go_simp; exact ⟨rfl, rfl⟩)⟩) rfl (by go_simp; rfl) ?_
      refine wpAnyR_take (i := 17) rfl (by kernel_rfl) (by kernel_rfl) (by kernel_rfl) (fun _ _ _ h => h) hS6 (.inl ⟨by kernel_rfl, fun w' hS => (by have y100 := cell_at hS V10.out.lt V10.out.c0; have y101 := cell_at hS V10.out.lt V10.out.c1; have y102 := cell_at hS V10.out.lt V10.out.c2; go_simp; exact ⟨rfl, rfl⟩)⟩) rfl (by go_simp; rfl) ?_
      refine wpAnyR_take (i := 18) rfl (by kernel_rfl) (by kernel_rfl) (by kernel_rfl) (fun _ _ _ h => h) hS6 (.inl ⟨by kernel_rfl, fun w' hS => (by have y120 := cell_at hS V12.out.lt V12.out.c0; have y121 := cell_at hS V12.out.lt V12.out.c1; have y122 := cell_at hS V12.out.lt V12.out.c2; go_simp; exact ⟨rfl, rfl⟩)⟩) rfl (by go_simp; rfl) ?_
      refine wpAnyR_oneG (i := 19) rfl (by kernel_rfl) (by kernel_rfl) rfl ?_
      go_simp
      refine (d_shift (Db.out.below hS6) ((bd_VV b).sz (by decide)) 1 (by decide) (by decide) (by decide) (by decide)).mono ?_
      rintro e w7 ⟨v7, rfl, hv7, hb7⟩
      obtain ⟨n_sb, a_sb, l_sb, k_sb, E_sb, rfl⟩ := hv7.shape
      have hS7 : Below wb5.heap.size wb5 w7 := below_next hS6 hb7
      have Dsb := Lib.hid hv7
      clear hv7 hb7
      refine ⟨hS7, ?_⟩
      refine wpAnyR_oneG (i := 20) rfl (by kernel_rfl) (by kernel_rfl) rfl ?_
      go_simp
      refine (d_cmp (y := Fl.VV b * ((2 ^ 1 : Nat) : Int)) (Da.out.below hS7) (Dsb.out.to 1 rfl rfl) HZ1.out (by decide) (by decide)).mono ?_
      rintro e w8 ⟨rfl, hb8⟩
      have hS8 : Below wb5.heap.size wb5 w8 := below_next hS7 hb8
      have Dsb := Lib.hid (Dsb.out.below hb8)
      clear hb8
      generalize cmpv (Fl.VV a) (Fl.VV b * ((2 ^ 1 : Nat) : Int)) = cc at HC1 ⊢
      have hc1 : ¬ 0 < cc := Int.not_lt.2 HC1.out
      refine ⟨hS8, ?_⟩
      refine wpAnyR_take (i := 21) rfl (by kernel_rfl) (by kernel_rfl) (by kernel_rfl) (fun _ _ _ h => h) hS8 (.inl ⟨by kernel_rfl, fun w' hS => (by go_simp; exact ⟨rfl, rfl⟩)⟩) rfl (by go_simp; rfl) ?_
      refine wpAnyR_take (i := 22) rfl (by kernel_rfl) (by kernel_rfl) (by kernel_rfl) (fun _ _ _ h => h) hS8 (.inl ⟨by kernel_rfl, fun w' hS => (by go_simp; exact ⟨rfl, rfl⟩)⟩) rfl (by go_simp; rfl) ?_
      refine wpAnyR_take (i := 23) rfl (by kernel_rfl) (by kernel_rfl) (by kernel_rfl) (fun _ _ _ h => h) hS8 (.inl ⟨by kernel_rfl, fun w' hS => (by go_simp; exact ⟨rfl, rfl⟩)⟩) rfl (by go_simp; rfl) ?_
      refine wpAnyR_take (i := 24) rfl (by kernel_rfl) (by kernel_rfl) (by kernel_rfl) (fun _ _ _ h => h) hS8 (.inl ⟨by kernel_rfl, fun w' hS => (by have y120 := cell_at hS V12.out.lt V12.out.c0; have y121 := cell_at hS V12.out.lt V12.out.c1; have y122 := cell_at hS V12.out.lt V12.out.c2; go_simp; exact ⟨rfl, rfl⟩)⟩) rfl (by go_simp; rfl) ?_
      refine wpAnyR_take (i := 25) rfl (by kernel_rfl) (by kernel_rfl) (by kernel_rfl) (fun _ _ _ h => h) hS8 (.inl ⟨by kernel_rfl, fun w' hS => (by have y100 := cell_at hS V10.out.lt V10.out.c0; have y101 := cell_at hS V10.out.lt V10.out.c1; have y102 := cell_at hS V10.out.lt V10.out.c2; go_simp; exact ⟨rfl, rfl⟩)⟩) rfl (by go_simp; rfl) ?_
      refine wpAnyR_oneG (i := 26) rfl (by kernel_rfl) (by kernel_rfl) rfl ?_
      go_simp
      refine (d_shift (Da.out.below hS8) ((bd_VV a).sz (by decide)) 1 (by decide) (by decide) (by decide) (by decide)).mono ?_
      rintro e w9 ⟨v9, rfl, hv9, hb9⟩
      obtain ⟨n_sa, a_sa, l_sa, k_sa, E_sa, rfl⟩ := hv9.shape
      have hS9 : Below wb5.heap.size wb5 w9 := below_next hS8 hb9
      have Dsb := Lib.hid (Dsb.out.below hb9)
      have Dsa := Lib.hid hv9
      clear hv9 hb9
      refine ⟨hS9, ?_⟩
      refine wpAnyR_oneG (i := 27) rfl (by kernel_rfl) (by kernel_rfl) rfl ?_
      go_simp
      refine (d_cmp (y := Fl.VV a * ((2 ^ 1 : Nat) : Int)) (Db.out.below hS9) (Dsa.out.to 1 rfl rfl) HZ2.out (by decide) (by decide)).mono ?_
      rintro e w10 ⟨rfl, hb10⟩
      have hS10 : Below wb5.heap.size wb5 w10 := below_next hS9 hb10
      have Dsb := Lib.hid (Dsb.out.below hb10)
      have Dsa := Lib.hid (Dsa.out.below hb10)
      clear hb10
      generalize cmpv (Fl.VV b) (Fl.VV a * ((2 ^ 1 : Nat) : Int)) = cd at HC2 ⊢
      have hc2 : ¬ 0 < cd := Int.not_lt.2 HC2.out
      refine ⟨hS10, ?_⟩
      refine wpAnyR_take (i := 28) rfl (by kernel_rfl) (by kernel_rfl) (by kernel_rfl) (fun _ _ _ h => h) hS10 (.inl ⟨by kernel_rfl, fun w' hS => (by go_simp; exact ⟨rfl, rfl⟩)⟩) rfl (by go_simp; rfl) ?_
      refine wpAnyR_take (i := 29) rfl (by kernel_rfl) (by kernel_rfl) (by kernel_rfl) (fun _ _ _ h => h) hS10 (.inl ⟨by kernel_rfl, fun w' hS => (by go_simp; exact ⟨rfl, rfl⟩)⟩) rfl (by go_simp; rfl) ?_
      refine wpAnyR_done (by kernel_rfl) ?_ _
      have Da := Lib.hid (Da.out.below hS10)
      have V10 := Lib.hid (V10.out.below hS10)
      have Db := Lib.hid (Db.out.below hS10)
      have V12 := Lib.hid (V12.out.below hS10)
      have HB := Lib.hid (below_next HB.out hS10)
      go_wp2_with fail
      refine (ops_sub a b _).mono ?_
      rintro e w11 ⟨r, n11, rfl, hx, hlr, hw11⟩
      have hb11 : Below w10.heap.size w10 w11 := by rw [hw11]; exact below_drewN (Below.refl _ _) _
      have Pr := Lib.hid (And.intro hx hlr)
      have Da := Lib.hid (Da.out.below hb11)
      have V10 := Lib.hid (V10.out.below hb11)
      have Db := Lib.hid (Db.out.below hb11)
      have V12 := Lib.hid (V12.out.below hb11)
      have Dsb := Lib.hid (Dsb.out.below hb11)
      have Dsa := Lib.hid (Dsa.out.below hb11)
      have HB := Lib.hid (below_next HB.out hb11)
      clear hx hlr hw11 hb11
      obtain ⟨hfr, hvr⟩ := Fl.sub_exact HA.out HBB.out HT1.out HT2.out (of_decide_eq_true HGA.out) (of_decide_eq_true HGB.out) (by have := HC0.out; omega) (by have := HC3.out; omega) Pr.out.1
      have HVR := Lib.hid hvr
      have HFR := Lib.hid hfr
      clear hfr hvr
      go_wp2_with fail
      refine (f_of r Pr.out.2 _).mono ?_
      rintro e w12 ⟨v12, rfl, hv12, hb12⟩
      obtain ⟨n_r, a_r, l_r, k_r, E_r, rfl⟩ := hv12.shape
      have Da := Lib.hid (Da.out.below hb12)
      have V10 := Lib.hid (V10.out.below hb12)
      have Db := Lib.hid (Db.out.below hb12)
      have V12 := Lib.hid (V12.out.below hb12)
      have Dsb := Lib.hid (Dsb.out.below hb12)
      have Dsa := Lib.hid (Dsa.out.below hb12)
      have HB := Lib.hid (below_next HB.out hb12)
      have Dr := Lib.hid hv12
      clear hv12 hb12
      obtain ⟨okr, hi12⟩ : ∃ i, Fl.isFin r = i := ⟨_, rfl⟩
      rw [hi12]
      have Ir := Lib.hid hi12
      clear hi12
      obtain rfl : okr = true := Ir.out.symm.trans HFR.out
      go_wp2_with fail
      obtain ⟨wb13, hw13⟩ : ∃ w', w12.alloc (Obj.cells #[Value.bool n_r, Value.slice a_r l_r k_r, Value.int IntKind.i64 E_r] 35) = w' := ⟨_, rfl⟩
      have hb13 : Below w12.heap.size w12 wb13 := by rw [← hw13]; exact below_alloc _ _
      obtain ⟨b14, hk13⟩ : ∃ b, w12.heap.size = b := ⟨_, rfl⟩
      have V14 : Hid (Var wb13 b14 n_r a_r l_r k_r E_r) := Lib.hid (by have := var_alloc w12 n_r a_r l_r k_r E_r; rw [show _ = wb13 from hw13, hk13] at this; exact this)
      have Da := Lib.hid (Da.out.below hb13)
      have V10 := Lib.hid (V10.out.below hb13)
      have Db := Lib.hid (Db.out.below hb13)
      have V12 := Lib.hid (V12.out.below hb13)
      have Dsb := Lib.hid (Dsb.out.below hb13)
      have Dsa := Lib.hid (Dsa.out.below hb13)
      have Dr := Lib.hid (Dr.out.below hb13)
      have HB := Lib.hid (below_next HB.out hb13)
      rw [hw13, hk13]
      clear hw13 hb13 hk13
      refine wp_region_still (S := Below wb13.heap.size wb13) (by kernel_rfl) ?_
      have hS14 : Below wb13.heap.size wb13 wb13.drew := (Below.refl _ wb13).drew
      refine wpAnyR_take (i := 0) rfl (by kernel_rfl) (by kernel_rfl) (by kernel_rfl) (fun _ _ _ h => h) hS14 (.inl ⟨by kernel_rfl, fun w' hS => (by go_simp; exact ⟨rfl, rfl⟩)⟩) rfl (by go_simp; rfl) ?_
      refine wpAnyR_take (i := 1) rfl (by kernel_rfl) (by kernel_rfl) (by kernel_rfl) (fun _ _ _ h => h) hS14 (.inl ⟨by kernel_rfl, fun w' hS => (by go_simp; exact ⟨rfl, rfl⟩)⟩) rfl (by go_simp; rfl) ?_
      refine wpAnyR_take (i := 2) rfl (by kernel_rfl) (by kernel_rfl) (by kernel_rfl) (fun _ _ _ h => h) hS14 (.inl ⟨by kernel_rfl, fun w' hS => (by go_simp; exact ⟨rfl, rfl⟩)⟩) rfl (by go_simp; rfl) ?_
      refine wpAnyR_take (i := 3) rfl (by kernel_rfl) (by kernel_rfl) (by kernel_rfl) (fun _ _ _ h => h) hS14 (.inl ⟨by kernel_rfl, fun w' hS => (by go_simp; exact ⟨rfl, rfl⟩)⟩) rfl (by go_simp; rfl) ?_
      refine wpAnyR_take (i := 4) rfl (by kernel_rfl) (by kernel_rfl) (by kernel_rfl) (fun _ _ _ h => h) hS14 (.inl ⟨by kernel_rfl, fun w' hS => (by go_simp; exact ⟨rfl, rfl⟩)⟩) rfl (by go_simp; rfl) ?_
      refine wpAnyR_take (i := 5) rfl (by kernel_rfl) (by kernel_rfl) (by kernel_rfl) (fun _ _ _ h => h) hS14 (.inl ⟨by kernel_rfl, fun w' hS => (by have y140 := cell_at hS V14.out.lt V14.out.c0; have y141 := cell_at hS V14.out.lt V14.out.c1; have y142 := cell_at hS V14.out.lt V14.out.c2; go_simp; exact ⟨rfl, rfl⟩)⟩) rfl (by go_simp; rfl) ?_
      refine wpAnyR_take (i := 6) rfl (by kernel_rfl) (by kernel_rfl) (by kernel_rfl) (fun _ _ _ h => h) hS14 (.inl ⟨by kernel_rfl, fun w' hS => (by have y100 := cell_at hS V10.out.lt V10.out.c0; have y101 := cell_at hS V10.out.lt V10.out.c1; have y102 := cell_at hS V10.out.lt V10.out.c2; go_simp; exact ⟨rfl, rfl⟩)⟩) rfl (by go_simp; rfl) ?_
      refine wpAnyR_take (i := 7) rfl (by kernel_rfl) (by kernel_rfl) (by kernel_rfl) (fun _ _ _ h => h) hS14 (.inl ⟨by kernel_rfl, fun w' hS => (by have y120 := cell_at hS V12.out.lt V12.out.c0; have y121 := cell_at hS V12.out.lt V12.out.c1; have y122 := cell_at hS V12.out.lt V12.out.c2; go_simp; exact ⟨rfl, rfl⟩)⟩) rfl (by go_simp; rfl) ?_
      refine wpAnyR_oneG (i := 8) rfl (by kernel_rfl) (by kernel_rfl) rfl ?_
      go_simp
      refine (d_flip (Db.out.below hS14)).mono ?_
      rintro e w15 ⟨v15, rfl, hv15, hb15⟩
      obtain ⟨n_fb, a_fb, l_fb, k_fb, E_fb, rfl⟩ := hv15.shape
      have hS15 : Below wb13.heap.size wb13 w15 := below_next hS14 hb15
      have Dfb := Lib.hid hv15
      clear hv15 hb15
      refine ⟨hS15, ?_⟩
      refine wpAnyR_oneG (i := 9) rfl (by kernel_rfl) (by kernel_rfl) rfl ?_
      go_simp
      refine (d_add (Da.out.below hS15) Dfb.out HZ3.out (by decide) (by decide)).mono ?_
      rintro e w16 ⟨v16, rfl, hv16, hb16⟩
      obtain ⟨n_d, a_d, l_d, k_d, E_d, rfl⟩ := hv16.shape
      have hS16 : Below wb13.heap.size wb13 w16 := below_next hS15 hb16
      have Dfb := Lib.hid (Dfb.out.below hb16)
      have Dd := Lib.hid hv16
      clear hv16 hb16
      refine ⟨hS16, ?_⟩
      refine wpAnyR_oneG (i := 10) rfl (by kernel_rfl) (by kernel_rfl) rfl ?_
      go_simp
      refine (d_same (Dr.out.below hS16) Dd.out ((bd_VV r).sz (by decide)) (((bd_VV a).add (bd_VV b).neg rfl).sz (by decide))).mono ?_
      rintro e w17 ⟨rfl, hb17⟩
      have hS17 : Below wb13.heap.size wb13 w17 := below_next hS16 hb17
      have Dfb := Lib.hid (Dfb.out.below hb17)
      have Dd := Lib.hid (Dd.out.below hb17)
      clear hb17
      rw [show decide (Fl.VV r = Fl.VV a + -Fl.VV b) = true from decide_eq_true HVR.out]
      refine ⟨hS17, ?_⟩
      refine wpAnyR_take (i := 11) rfl (by kernel_rfl) (by kernel_rfl) (by kernel_rfl) (fun _ _ _ h => h) hS17 (.inl ⟨by kernel_rfl, fun w' hS => (by go_simp; exact ⟨rfl, rfl⟩)⟩) rfl (by go_simp; rfl) ?_
      refine wpAnyR_take (i := 12) rfl (by kernel_rfl) (by kernel_rfl) (by kernel_rfl) (fun _ _ _ h => h) hS17 (.inl ⟨by kernel_rfl, fun w' hS => (by go_simp; exact ⟨rfl, rfl⟩)⟩) rfl (by go_simp; rfl) ?_
      refine wpAnyR_done (by kernel_rfl) ?_ _
      have Da := Lib.hid (Da.out.below hS17)
      have V10 := Lib.hid (V10.out.below hS17)
      have Db := Lib.hid (Db.out.below hS17)
      have V12 := Lib.hid (V12.out.below hS17)
      have Dsb := Lib.hid (Dsb.out.below hS17)
      have Dsa := Lib.hid (Dsa.out.below hS17)
      have Dr := Lib.hid (Dr.out.below hS17)
      have V14 := Lib.hid (V14.out.below hS17)
      have HB := Lib.hid (below_next HB.out hS17)
      go_wp2
      go_ret
      exact ⟨rfl, HB.out⟩
    · have HC2 : Hid (0 < cmpv (Fl.VV b) (Fl.VV a * ((2 ^ 1 : Nat) : Int))) := Lib.hid (by rw [cmpv_gt (by omega)]; decide)
      clear hc
      refine wp_region_still (S := Below wb5.heap.size wb5) (by kernel_rfl) ?_
      have hS6 : Below wb5.heap.size wb5 wb5.drew := (Below.refl _ wb5).drew
      refine wpAnyR_take (i := 0) rfl (by kernel_rfl) (by kernel_rfl) (by kernel_rfl) (fun _ _ _ h => h) hS6 (.inl ⟨by kernel_rfl, fun w' hS => (by go_simp; exact ⟨rfl, rfl⟩)⟩) rfl (by go_simp; rfl) ?_
      refine wpAnyR_take (i := 1) rfl (by kernel_rfl) (by kernel_rfl) (by kernel_rfl) (fun _ _ _ h => h) hS6 (.inl ⟨by kernel_rfl, fun w' hS => (by go_simp; exact ⟨rfl, rfl⟩)⟩) rfl (by go_simp; rfl) ?_
      refine wpAnyR_take (i := 2) rfl (by kernel_rfl) (by kernel_rfl) (by kernel_rfl) (fun _ _ _ h => h) hS6 (.inl ⟨by kernel_rfl, fun w' hS => (by go_simp; exact ⟨rfl, rfl⟩)⟩) rfl (by go_simp; rfl) ?_
      refine wpAnyR_take (i := 3) rfl (by kernel_rfl) (by kernel_rfl) (by kernel_rfl) (fun _ _ _ h => h) hS6 (.inl ⟨by kernel_rfl, fun w' hS => (by go_simp; exact ⟨rfl, rfl⟩)⟩) rfl (by go_simp; rfl) ?_
      refine wpAnyR_take (i := 4) rfl (by kernel_rfl) (by kernel_rfl) (by kernel_rfl) (fun _ _ _ h => h) hS6 (.inl ⟨by kernel_rfl, fun w' hS => (by go_simp; exact ⟨rfl, rfl⟩)⟩) rfl (by go_simp; rfl) ?_
      refine wpAnyR_take (i := 5) rfl (by kernel_rfl) (by kernel_rfl) (by kernel_rfl) (fun _ _ _ h => h) hS6 (.inl ⟨by kernel_rfl, fun w' hS => (by go_simp; exact ⟨rfl, rfl⟩)⟩) rfl (by go_simp; rfl) ?_
      refine wpAnyR_take (i := 6) rfl (by kernel_rfl) (by kernel_rfl) (by kernel_rfl) (fun _ _ _ h => h) hS6 (.inl ⟨by kernel_rfl, fun w' hS => (by go_simp; exact ⟨rfl, rfl⟩)⟩) rfl (by go_simp; rfl) ?_
      refine wpAnyR_take (i := 7) rfl (by kernel_rfl) (by kernel_rfl) (by kernel_rfl) (fun _ _ _ h => h) hS6 (.inl ⟨by kernel_rfl, fun w' hS => (by go_simp; exact ⟨rfl, rfl⟩)⟩) rfl (by go_simp; rfl) ?_
      refine wpAnyR_take (i := 8) rfl (by kernel_rfl) (by kernel_rfl) (by kernel_rfl) (fun _ _ _ h => h) hS6 (.inl ⟨by kernel_rfl, fun w' hS => (by go_simp; exact ⟨rfl, rfl⟩)⟩) rfl (by go_simp; rfl) ?_
      refine wpAnyR_take (i := 9) rfl (by kernel_rfl) (by kernel_rfl) (by kernel_rfl) (fun _ _ _ h => h) hS6 (.inl ⟨by kernel_rfl, fun w' hS => (by go_simp; exact ⟨rfl, rfl⟩)⟩) rfl (by go_simp; rfl) ?_
      refine wpAnyR_take (i := 10) rfl (by kernel_rfl) (by kernel_rfl) (by kernel_rfl) (fun _ _ _ h => h) hS6 (.inl ⟨by kernel_rfl, fun w' hS => (by go_simp; exact ⟨rfl, rfl⟩)⟩) rfl (by go_simp; rfl) ?_
      refine wpAnyR_take (i := 11) rfl (by kernel_rfl) (by kernel_rfl) (by kernel_rfl) (fun _ _ _ h => h) hS6 (.inl ⟨by kernel_rfl, fun w' hS => (by go_simp; exact ⟨rfl, rfl⟩)⟩) rfl (by go_simp; rfl) ?_
      refine wpAnyR_take (i := 12) rfl (by kernel_rfl) (by kernel_rfl) (by kernel_rfl) (fun _ _ _ h => h) hS6 (.inl ⟨by kernel_rfl, fun w' hS => (by go_simp; exact ⟨rfl, rfl⟩)⟩) rfl (by go_simp; rfl) ?_
      refine wpAnyR_take (i := 13) rfl (by kernel_rfl) (by kernel_rfl) (by kernel_rfl) (fun _ _ _ h => h) hS6 (.inl ⟨by kernel_rfl, fun w' hS => (by go_simp; exact ⟨rfl, rfl⟩)⟩) rfl (by go_simp; rfl) ?_
      refine wpAnyR_take (i := 14) rfl (by kernel_rfl) (by kernel_rfl) (by kernel_rfl) (fun _ _ _ h => h) hS6 (.inl ⟨by kernel_rfl, fun w' hS => (by go_simp; exact ⟨rfl, rfl⟩)⟩) rfl (by go_simp; rfl) ?_
      refine wpAnyR_take (i := 15) rfl (by kernel_rfl) (by kernel_rfl) (by kernel_rfl) (fun _ _ _ h => h) hS6 (.inl ⟨by kernel_rfl, fun w' hS => (by go_simp; exact ⟨rfl, rfl⟩)⟩) rfl (by go_simp; rfl) ?_
      refine wpAnyR_take (i := 16) rfl (by kernel_rfl) (by kernel_rfl) (by kernel_rfl) (fun _ _ _ h => h) hS6 (.inl ⟨by kernel_rfl, fun w' hS => (by go_simp; exact ⟨rfl, rfl⟩)⟩) rfl (by go_simp; rfl) ?_
      refine wpAnyR_take (i := 17) rfl (by kernel_rfl) (by kernel_rfl) (by kernel_rfl) (fun _ _ _ h => h) hS6 (.inl ⟨by kernel_rfl, fun w' hS => (by have y100 := cell_at hS V10.out.lt V10.out.c0; have y101 := cell_at hS V10.out.lt V10.out.c1; have y102 := cell_at hS V10.out.lt V10.out.c2; go_simp; exact ⟨rfl, rfl⟩)⟩) rfl (by go_simp; rfl) ?_
      refine wpAnyR_take (i := 18) rfl (by kernel_rfl) (by kernel_rfl) (by kernel_rfl) (fun _ _ _ h => h) hS6 (.inl ⟨by kernel_rfl, fun w' hS => (by have y120 := cell_at hS V12.out.lt V12.out.c0; have y121 := cell_at hS V12.out.lt V12.out.c1; have y122 := cell_at hS V12.out.lt V12.out.c2; go_simp; exact ⟨rfl, rfl⟩)⟩) rfl (by go_simp; rfl) ?_
      refine wpAnyR_oneG (i := 19) rfl (by kernel_rfl) (by kernel_rfl) rfl ?_
      go_simp
      refine (d_shift (Db.out.below hS6) ((bd_VV b).sz (by decide)) 1 (by decide) (by decide) (by decide) (by decide)).mono ?_
      rintro e w7 ⟨v7, rfl, hv7, hb7⟩
      obtain ⟨n_sb, a_sb, l_sb, k_sb, E_sb, rfl⟩ := hv7.shape
      have hS7 : Below wb5.heap.size wb5 w7 := below_next hS6 hb7
      have Dsb := Lib.hid hv7
      clear hv7 hb7
      refine ⟨hS7, ?_⟩
      refine wpAnyR_oneG (i := 20) rfl (by kernel_rfl) (by kernel_rfl) rfl ?_
      go_simp
      refine (d_cmp (y := Fl.VV b * ((2 ^ 1 : Nat) : Int)) (Da.out.below hS7) (Dsb.out.to 1 rfl rfl) HZ1.out (by decide) (by decide)).mono ?_
      rintro e w8 ⟨rfl, hb8⟩
      have hS8 : Below wb5.heap.size wb5 w8 := below_next hS7 hb8
      have Dsb := Lib.hid (Dsb.out.below hb8)
      clear hb8
      generalize cmpv (Fl.VV a) (Fl.VV b * ((2 ^ 1 : Nat) : Int)) = cc at HC1 ⊢
      have hc1 : ¬ 0 < cc := Int.not_lt.2 HC1.out
      refine ⟨hS8, ?_⟩
      refine wpAnyR_take (i := 21) rfl (by kernel_rfl) (by kernel_rfl) (by kernel_rfl) (fun _ _ _ h => h) hS8 (.inl ⟨by kernel_rfl, fun w' hS => (by go_simp; exact ⟨rfl, rfl⟩)⟩) rfl (by go_simp; rfl) ?_
      refine wpAnyR_take (i := 22) rfl (by kernel_rfl) (by kernel_rfl) (by kernel_rfl) (fun _ _ _ h => h) hS8 (.inl ⟨by kernel_rfl, fun w' hS => (by go_simp; exact ⟨rfl, rfl⟩)⟩) rfl (by go_simp; rfl) ?_
      refine wpAnyR_take (i := 23) rfl (by kernel_rfl) (by kernel_rfl) (by kernel_rfl) (fun _ _ _ h => h) hS8 (.inl ⟨by kernel_rfl, fun w' hS => (by go_simp; exact ⟨rfl, rfl⟩)⟩) rfl (by go_simp; rfl) ?_
      refine wpAnyR_take (i := 24) rfl (by kernel_rfl) (by kernel_rfl) (by kernel_rfl) (fun _ _ _ h => h) hS8 (.inl ⟨by kernel_rfl, fun w' hS => (by have y120 := cell_at hS V12.out.lt V12.out.c0; have y121 := cell_at hS V12.out.lt V12.out.c1; have y122 := cell_at hS V12.out.lt V12.out.c2; go_simp; exact ⟨rfl, rfl⟩)⟩) rfl (by go_simp; rfl) ?_
      refine wpAnyR_take (i := 25) rfl (by kernel_rfl) (by kernel_rfl) (by kernel_rfl) (fun _ _ _ h => h) hS8 (.inl ⟨by kernel_rfl, fun w' hS => (by have y100 := cell_at hS V10.out.lt V10.out.c0; have y101 := cell_at hS V10.out.lt V10.out.c1; have y102 := cell_at hS V10.out.lt V10.out.c2; go_simp; exact ⟨rfl, rfl⟩)⟩) rfl (by go_simp; rfl) ?_
      refine wpAnyR_oneG (i := 26) rfl (by kernel_rfl) (by kernel_rfl) rfl ?_
      go_simp
      refine (d_shift (Da.out.below hS8) ((bd_VV a).sz (by decide)) 1 (by decide) (by decide) (by decide) (by decide)).mono ?_
      rintro e w9 ⟨v9, rfl, hv9, hb9⟩
      obtain ⟨n_sa, a_sa, l_sa, k_sa, E_sa, rfl⟩ := hv9.shape
      have hS9 : Below wb5.heap.size wb5 w9 := below_next hS8 hb9
      have Dsb := Lib.hid (Dsb.out.below hb9)
      have Dsa := Lib.hid hv9
      clear hv9 hb9
      refine ⟨hS9, ?_⟩
      refine wpAnyR_oneG (i := 27) rfl (by kernel_rfl) (by kernel_rfl) rfl ?_
      go_simp
      refine (d_cmp (y := Fl.VV a * ((2 ^ 1 : Nat) : Int)) (Db.out.below hS9) (Dsa.out.to 1 rfl rfl) HZ2.out (by decide) (by decide)).mono ?_
      rintro e w10 ⟨rfl, hb10⟩
      have hS10 : Below wb5.heap.size wb5 w10 := below_next hS9 hb10
      have Dsb := Lib.hid (Dsb.out.below hb10)
      have Dsa := Lib.hid (Dsa.out.below hb10)
      clear hb10
      generalize cmpv (Fl.VV b) (Fl.VV a * ((2 ^ 1 : Nat) : Int)) = cd at HC2 ⊢
      have hc2 := HC2.out
      refine ⟨hS10, ?_⟩
      refine wpAnyR_take (i := 28) rfl (by kernel_rfl) (by kernel_rfl) (by kernel_rfl) (fun _ _ _ h => h) hS10 (.inl ⟨by kernel_rfl, fun w' hS => (by go_simp; exact ⟨rfl, rfl⟩)⟩) rfl (by go_simp; rfl) ?_
      refine wpAnyR_take (i := 29) rfl (by kernel_rfl) (by kernel_rfl) (by kernel_rfl) (fun _ _ _ h => h) hS10 (.inl ⟨by kernel_rfl, fun w' hS => (by go_simp; exact ⟨rfl, rfl⟩)⟩) rfl (by go_simp; rfl) ?_
      refine wpAnyR_done (by kernel_rfl) ?_ _
      have Da := Lib.hid (Da.out.below hS10)
      have V10 := Lib.hid (V10.out.below hS10)
      have Db := Lib.hid (Db.out.below hS10)
      have V12 := Lib.hid (V12.out.below hS10)
      have HB := Lib.hid (below_next HB.out hS10)
      go_wp2
      go_ret
      exact ⟨rfl, HB.out⟩
  · have HC1 : Hid (0 < cmpv (Fl.VV a) (Fl.VV b * ((2 ^ 1 : Nat) : Int))) := Lib.hid (by rw [cmpv_gt (by omega)]; decide)
    clear hc
    refine wp_region_still (S := Below wb5.heap.size wb5) (by kernel_rfl) ?_
    have hS6 : Below wb5.heap.size wb5 wb5.drew := (Below.refl _ wb5).drew
    refine wpAnyR_take (i := 0) rfl (by kernel_rfl) (by kernel_rfl) (by kernel_rfl) (fun _ _ _ h => h) hS6 (.inl ⟨by kernel_rfl, fun w' hS => (by go_simp; exact ⟨rfl, rfl⟩)⟩) rfl (by go_simp; rfl) ?_
    refine wpAnyR_take (i := 1) rfl (by kernel_rfl) (by kernel_rfl) (by kernel_rfl) (fun _ _ _ h => h) hS6 (.inl ⟨by kernel_rfl, fun w' hS => (by go_simp; exact ⟨rfl, rfl⟩)⟩) rfl (by go_simp; rfl) ?_
    refine wpAnyR_take (i := 2) rfl (by kernel_rfl) (by kernel_rfl) (by kernel_rfl) (fun _ _ _ h => h) hS6 (.inl ⟨by kernel_rfl, fun w' hS => (by go_simp; exact ⟨rfl, rfl⟩)⟩) rfl (by go_simp; rfl) ?_
    refine wpAnyR_take (i := 3) rfl (by kernel_rfl) (by kernel_rfl) (by kernel_rfl) (fun _ _ _ h => h) hS6 (.inl ⟨by kernel_rfl, fun w' hS => (by go_simp; exact ⟨rfl, rfl⟩)⟩) rfl (by go_simp; rfl) ?_
    refine wpAnyR_take (i := 4) rfl (by kernel_rfl) (by kernel_rfl) (by kernel_rfl) (fun _ _ _ h => h) hS6 (.inl ⟨by kernel_rfl, fun w' hS => (by go_simp; exact ⟨rfl, rfl⟩)⟩) rfl (by go_simp; rfl) ?_
    refine wpAnyR_take (i := 5) rfl (by kernel_rfl) (by kernel_rfl) (by kernel_rfl) (fun _ _ _ h => h) hS6 (.inl ⟨by kernel_rfl, fun w' hS => (by go_simp; exact ⟨rfl, rfl⟩)⟩) rfl (by go_simp; rfl) ?_
    refine wpAnyR_take (i := 6) rfl (by kernel_rfl) (by kernel_rfl) (by kernel_rfl) (fun _ _ _ h => h) hS6 (.inl ⟨by kernel_rfl, fun w' hS => (by go_simp; exact ⟨rfl, rfl⟩)⟩) rfl (by go_simp; rfl) ?_
    refine wpAnyR_take (i := 7) rfl (by kernel_rfl) (by kernel_rfl) (by kernel_rfl) (fun _ _ _ h => h) hS6 (.inl ⟨by kernel_rfl, fun w' hS => (by go_simp; exact ⟨rfl, rfl⟩)⟩) rfl (by go_simp; rfl) ?_
    refine wpAnyR_take (i := 8) rfl (by kernel_rfl) (by kernel_rfl) (by kernel_rfl) (fun _ _ _ h => h) hS6 (.inl ⟨by kernel_rfl, fun w' hS => (by go_simp; exact ⟨rfl, rfl⟩)⟩) rfl (by go_simp; rfl) ?_
    refine wpAnyR_take (i := 9) rfl (by kernel_rfl) (by kernel_rfl) (by kernel_rfl) (fun _ _ _ h => h) hS6 (.inl ⟨by kernel_rfl, fun w' hS => (by go_simp; exact ⟨rfl, rfl⟩)⟩) rfl (by go_simp; rfl) ?_
    refine wpAnyR_take (i := 10) rfl (by kernel_rfl) (by kernel_rfl) (by kernel_rfl) (fun _ _ _ h => h) hS6 (.inl ⟨by kernel_rfl, fun w' hS => (by go_simp; exact ⟨rfl, rfl⟩)⟩) rfl (by go_simp; rfl) ?_
    refine wpAnyR_take (i := 11) rfl (by kernel_rfl) (by kernel_rfl) (by kernel_rfl) (fun _ _ _ h => h) hS6 (.inl ⟨by kernel_rfl, fun w' hS => (by go_simp; exact ⟨rfl, rfl⟩)⟩) rfl (by go_simp; rfl) ?_
    refine wpAnyR_take (i := 12) rfl (by kernel_rfl) (by kernel_rfl) (by kernel_rfl) (fun _ _ _ h => h) hS6 (.inl ⟨by kernel_rfl, fun w' hS => (by go_simp; exact ⟨rfl, rfl⟩)⟩) rfl (by go_simp; rfl) ?_
    refine wpAnyR_take (i := 13) rfl (by kernel_rfl) (by kernel_rfl) (by kernel_rfl) (fun _ _ _ h => h) hS6 (.inl ⟨by kernel_rfl, fun w' hS => (by go_simp; exact ⟨rfl, rfl⟩)⟩) rfl (by go_simp; rfl) ?_
    refine wpAnyR_take (i := 14) rfl (by kernel_rfl) (by kernel_rfl) (by kernel_rfl) (fun _ _ _ h => h) hS6 (.inl ⟨by kernel_rfl, fun w' hS => (by go_simp; exact ⟨rfl, rfl⟩)⟩) rfl (by go_simp; rfl) ?_
    refine wpAnyR_take (i := 15) rfl (by kernel_rfl) (by kernel_rfl) (by kernel_rfl) (fun _ _ _ h => h) hS6 (.inl ⟨by kernel_rfl, fun w' hS => (by go_simp; exact ⟨rfl, rfl⟩)⟩) rfl (by go_simp; rfl) ?_
    refine wpAnyR_take (i := 16) rfl (by kernel_rfl) (by kernel_rfl) (by kernel_rfl) (fun _ _ _ h => h) hS6 (.inl ⟨by kernel_rfl, fun w' hS => (by go_simp; exact ⟨rfl, rfl⟩)⟩) rfl (by go_simp; rfl) ?_
    refine wpAnyR_take (i := 17) rfl (by kernel_rfl) (by kernel_rfl) (by kernel_rfl) (fun _ _ _ h => h) hS6 (.inl ⟨by kernel_rfl, fun w' hS => (by have y100 := cell_at hS V10.out.lt V10.out.c0; have y101 := cell_at hS V10.out.lt V10.out.c1; have y102 := cell_at hS V10.out.lt V10.out.c2; go_simp; exact ⟨rfl, rfl⟩)⟩) rfl (by go_simp; rfl) ?_
    refine wpAnyR_take (i := 18) rfl (by kernel_rfl) (by kernel_rfl) (by kernel_rfl) (fun _ _ _ h => h) hS6 (.inl ⟨by kernel_rfl, fun w' hS => (by have y120 := cell_at hS V12.out.lt V12.out.c0; have y121 := cell_at hS V12.out.lt V12.out.c1; have y122 := cell_at hS V12.out.lt V12.out.c2; go_simp; exact ⟨rfl, rfl⟩)⟩) rfl (by go_simp; rfl) ?_
    refine wpAnyR_oneG (i := 19) rfl (by kernel_rfl) (by kernel_rfl) rfl ?_
    go_simp
    refine (d_shift (Db.out.below hS6) ((bd_VV b).sz (by decide)) 1 (by decide) (by decide) (by decide) (by decide)).mono ?_
    rintro e w7 ⟨v7, rfl, hv7, hb7⟩
    obtain ⟨n_sb, a_sb, l_sb, k_sb, E_sb, rfl⟩ := hv7.shape
    have hS7 : Below wb5.heap.size wb5 w7 := below_next hS6 hb7
    have Dsb := Lib.hid hv7
    clear hv7 hb7
    refine ⟨hS7, ?_⟩
    refine wpAnyR_oneG (i := 20) rfl (by kernel_rfl) (by kernel_rfl) rfl ?_
    go_simp
    refine (d_cmp (y := Fl.VV b * ((2 ^ 1 : Nat) : Int)) (Da.out.below hS7) (Dsb.out.to 1 rfl rfl) HZ1.out (by decide) (by decide)).mono ?_
    rintro e w8 ⟨rfl, hb8⟩
    have hS8 : Below wb5.heap.size wb5 w8 := below_next hS7 hb8
    have Dsb := Lib.hid (Dsb.out.below hb8)
    clear hb8
    generalize cmpv (Fl.VV a) (Fl.VV b * ((2 ^ 1 : Nat) : Int)) = cc at HC1 ⊢
    have hc1 := HC1.out
    refine ⟨hS8, ?_⟩
    refine wpAnyR_take (i := 21) rfl (by kernel_rfl) (by kernel_rfl) (by kernel_rfl) (fun _ _ _ h => h) hS8 (.inl ⟨by kernel_rfl, fun w' hS => (by go_simp; exact ⟨rfl, rfl⟩)⟩) rfl (by go_simp; rfl) ?_
    refine wpAnyR_take (i := 22) rfl (by kernel_rfl) (by kernel_rfl) (by kernel_rfl) (fun _ _ _ h => h) hS8 (.inl ⟨by kernel_rfl, fun w' hS => (by go_simp; exact ⟨rfl, rfl⟩)⟩) rfl (by go_simp; rfl) ?_
    refine wpAnyR_take (i := 23) rfl (by kernel_rfl) (by kernel_rfl) (by kernel_rfl) (fun _ _ _ h => h) hS8 (.inl ⟨by kernel_rfl, fun w' hS => (by go_simp; exact ⟨rfl, rfl⟩)⟩) rfl (by go_simp; rfl) ?_
    refine wpAnyR_take (i := 24) rfl (by kernel_rfl) (by kernel_rfl) (by kernel_rfl) (fun _ _ _ h => h) hS8 (.inr ⟨by kernel_rfl, rfl⟩) rfl (by go_simp; rfl) ?_
    refine wpAnyR_take (i := 25) rfl (by kernel_rfl) (by kernel_rfl) (by kernel_rfl) (fun _ _ _ h => h) hS8 (.inr ⟨by kernel_rfl, rfl⟩) rfl (by go_simp; rfl) ?_
    refine wpAnyR_take (i := 26) rfl (by kernel_rfl) (by kernel_rfl) (by kernel_rfl) (fun _ _ _ h => h) hS8 (.inr ⟨by kernel_rfl, rfl⟩) rfl (by go_simp; rfl) ?_
    refine wpAnyR_take (i := 27) rfl (by kernel_rfl) (by kernel_rfl) (by kernel_rfl) (fun _ _ _ h => h) hS8 (.inr ⟨by kernel_rfl, rfl⟩) rfl (by go_simp; rfl) ?_
    refine wpAnyR_take (i := 28) rfl (by kernel_rfl) (by kernel_rfl) (by kernel_rfl) (fun _ _ _ h => h) hS8 (.inr ⟨by kernel_rfl, rfl⟩) rfl (by go_simp; rfl) ?_
    refine wpAnyR_take (i := 29) rfl (by kernel_rfl) (by kernel_rfl) (by kernel_rfl) (fun _ _ _ h => h) hS8 (.inl ⟨by kernel_rfl, fun w' hS => (by go_simp; exact ⟨rfl, rfl⟩)⟩) rfl (by go_simp; rfl) ?_
    refine wpAnyR_done (by kernel_rfl) ?_ _
    have Da := Lib.hid (Da.out.below hS8)
    have V10 := Lib.hid (V10.out.below hS8)
    have Db := Lib.hid (Db.out.below hS8)
    have V12 := Lib.hid (V12.out.below hS8)
    have HB := Lib.hid (below_next HB.out hS8)
    go_wp2
    go_ret
    exact ⟨rfl, HB.out⟩

theorem opsExact_walk (m n : Int) (a b : Nat) (w : World) (ha : a < 2 ^ 64) (hb : b < 2 ^ 64) : Calls Try.prog 13 #[.int .i64 m, .int .i64 n, F a, F b] w fun e w' => e = .returned (.bool true) ∧ Below w.heap.size w w' := by
  by_cases k1 : -67108864 < m
  · by_cases k2 : m < 67108864
    · by_cases k3 : -67108864 < n
      · by_cases k4 : n < 67108864
        · exact opsExact_small m n a b w ha hb ⟨⟨k1, k2⟩, k3, k4⟩
        · exact opsExact_four m n a b w ha hb k1 k2 k3 k4
      · exact opsExact_three m n a b w ha hb k1 k2 k3
    · exact opsExact_two m n a b w ha hb k1 k2
  · exact opsExact_one m n a b w ha hb k1
end Go.Proofs.Ytemneeknemijpaa
