/- TurnTells: the law's walk. Under: the library's table as its initialiser lays it. -/
import Derived.Test.YtaempngakollpaaDoorHd
import Derived.Test.YtaempngakollpaaDoorRd
import Derived.Test.YtaempngakollpaaDoorFoWalk
namespace Go.Proofs.YtaempngakollpaaDoor
open Go.RowKit Go.Shelf

theorem form17i (k q : Int) (n : Nat) (hn : q = n) (hq : n ≤ 40) (v : Value) (hv : T (val k n) = v) (w : World) : Calls Tryd.prog 17 #[Ag k q] w fun e w' => e = .returned v ∧ Below w.heap.size w w' := by
  subst hn; rw [← hv]; exact form17 k n hq w
theorem add19i (k q l r : Int) (n m : Nat) (hn : q = n) (hm : r = m) (hq : n ≤ 40) (hr : m ≤ 40) (v : Value) (hv : T (val k n + val l m) = v) (w : World) : Calls Tryd.prog 19 #[Ag k q, Ag l r] w fun e w' => e = .returned v ∧ Below w.heap.size w w' := by
  subst hn; subst hm; rw [← hv]; exact add19 k l n m hq hr w
theorem flip21i (k q : Int) (n : Nat) (hn : q = n) (hq : n ≤ 40) (h0 : -4611686018427387904 ≤ k) (h1 : k ≤ 4611686018427387904) (v : Value) (hv : T (- val k n) = v) (w : World) : Calls Tryd.prog 21 #[Ag k q] w fun e w' => e = .returned v ∧ Below w.heap.size w w' := by
  subst hn; rw [← hv]; exact flip21 k n hq h0 h1 w
theorem times23i (k q : Int) (n : Nat) (hn : q = n) (hq : n ≤ 40) (t : Int) (v : Value) (hv : T (t * val k n) = v) (w : World) : Calls Tryd.prog 23 #[Ag k q, .int .i64 t] w fun e w' => e = .returned v ∧ Below w.heap.size w w' := by
  subst hn; rw [← hv]; exact times23 k n hq t w
theorem split15i (k q : Int) (n : Nat) (hn : q = n) (hq : n ≤ 40) (v : Value) (hv : PT (val k n) = v) (w : World) : Calls Tryd.prog 15 #[Ag k q] w fun e w' => e = .returned v ∧ Below w.heap.size w w' := by
  subst hn; rw [← hv]; exact split15 k n hq w
theorem T_any (A : Int) : ∃ k q : Nat, T A = .agg #[.int .i64 k, .int .i64 q] := ⟨_, _, rfl⟩

set_option maxHeartbeats 4000000 in
theorem turnTells_no_a (xk xq ak aq bk bq n e : Int) (ha : isR ak aq = false) (w : World) (ht : Tab w) : Calls Tryd.prog 3 #[Ag xk xq, Ag ak aq, Ag bk bq, .int .i64 n, .int .i64 e] w (Says w true) := by
  have T0 := Lib.hid ht
  have HA := Lib.hid ha
  clear ht ha
  go_enter Tryd.func3, Tryd.ntmps3
  go_wp2_with fail
  obtain ⟨w0, hW⟩ : ∃ w0, (((w.alloc (.cells #[.int .i64 xk, .int .i64 xq] 23)).alloc (.cells #[.int .i64 ak, .int .i64 aq] 23)).alloc (.cells #[.int .i64 bk, .int .i64 bq] 23)) = w0 := ⟨_, rfl⟩
  have HB0 : Hid (Below w.heap.size w w0) := Lib.hid (by rw [← hW]; exact ((((Below.refl w.heap.size w).alloc (by first | exact Nat.le_refl _ | (simp; done) | (simp; omega)) _).alloc (by first | exact Nat.le_refl _ | (simp; done) | (simp; omega)) _).alloc (by first | exact Nat.le_refl _ | (simp; done) | (simp; omega)) _))
  have TW0 := Lib.hid (T0.out.below HB0.out)
  have z00 : w0.cell? ⟨w.heap.size, 0, none⟩ = some (.int .i64 xk) := by rw [← hW]; simp [go_sem]
  have z01 : w0.cell? ⟨w.heap.size, 1, none⟩ = some (.int .i64 xq) := by rw [← hW]; simp [go_sem]
  have z10 : w0.cell? ⟨w.heap.size + 1, 0, none⟩ = some (.int .i64 ak) := by rw [← hW]; simp [go_sem]
  have z11 : w0.cell? ⟨w.heap.size + 1, 1, none⟩ = some (.int .i64 aq) := by rw [← hW]; simp [go_sem]
  have z20 : w0.cell? ⟨w.heap.size + 1 + 1, 0, none⟩ = some (.int .i64 bk) := by rw [← hW]; simp [go_sem]
  have z21 : w0.cell? ⟨w.heap.size + 1 + 1, 1, none⟩ = some (.int .i64 bq) := by rw [← hW]; simp [go_sem]
  rw [hW]
  clear hW
  refine Calls.mono (l6_head _ TW0.out) ?_
  rintro e' w1 ⟨rfl, hb⟩
  have HB1 := Lib.hid (HB0.out.trans (hb.mono HB0.out.size))
  have TW1 := Lib.hid (TW0.out.below hb)
  replace z00 := cell_of hb z00
  replace z01 := cell_of hb z01
  replace z10 := cell_of hb z10
  replace z11 := cell_of hb z11
  replace z20 := cell_of hb z20
  replace z21 := cell_of hb z21
  clear hb HB0 TW0
  go_wp2_with fail
  refine Calls.mono (place10 e _) ?_
  rintro e' w2 ⟨rfl, hb⟩
  have HB2 := Lib.hid (HB1.out.trans (hb.mono HB1.out.size))
  have TW2 := Lib.hid (TW1.out.below hb)
  replace z00 := cell_of hb z00
  replace z01 := cell_of hb z01
  replace z10 := cell_of hb z10
  replace z11 := cell_of hb z11
  replace z20 := cell_of hb z20
  replace z21 := cell_of hb z21
  clear hb HB1 TW1
  go_wp2_with fail
  refine Calls.mono (place11 e _) ?_
  rintro e' w3 ⟨rfl, hb⟩
  have HB3 := Lib.hid (HB2.out.trans (hb.mono HB2.out.size))
  have TW3 := Lib.hid (TW2.out.below hb)
  replace z00 := cell_of hb z00
  replace z01 := cell_of hb z01
  replace z10 := cell_of hb z10
  replace z11 := cell_of hb z11
  replace z20 := cell_of hb z20
  replace z21 := cell_of hb z21
  clear hb HB2 TW2
  go_wp2_with fail
  generalize p1 e = pa
  generalize p2 e = pb
  generalize p3 e = pc
  have TW := TW3
  refine wp_region_det (S := Below w3.heap.size w3) (by kernel_rfl) (Below.refl _ w3).drew ?_
  refine wpAnyS_take (i := 0) rfl (by kernel_rfl) (by kernel_rfl) (by kernel_rfl) (fun _ _ _ h => h) (.inl ⟨by kernel_rfl, fun w' hS => (by have y0 := cell_of hS z00; have y1 := cell_of hS z01; have y2 := cell_of hS z10; have y3 := cell_of hS z11; have y4 := cell_of hS z20; have y5 := cell_of hS z21; go_simp; exact ⟨rfl, hS⟩)⟩) rfl (by go_simp; rfl) ?_
  refine wpAnyS_take (i := 1) rfl (by kernel_rfl) (by kernel_rfl) (by kernel_rfl) (fun _ _ _ h => h) (.inl ⟨by kernel_rfl, fun w' hS => (by go_simp; refine Calls.mono (right12 xk xq _) ?_; intro e w'' hE; obtain ⟨he, hb⟩ := hE; exact ⟨he, hS.trans (hb.mono hS.size)⟩)⟩) rfl (by go_simp; rfl) ?_
  refine wpAnyS_take (i := 2) rfl (by kernel_rfl) (by kernel_rfl) (by kernel_rfl) (fun _ _ _ h => h) (.inl ⟨by kernel_rfl, fun w' hS => (by have y0 := cell_of hS z00; have y1 := cell_of hS z01; have y2 := cell_of hS z10; have y3 := cell_of hS z11; have y4 := cell_of hS z20; have y5 := cell_of hS z21; go_simp; exact ⟨rfl, hS⟩)⟩) rfl (by go_simp; rfl) ?_
  refine wpAnyS_take (i := 3) rfl (by kernel_rfl) (by kernel_rfl) (by kernel_rfl) (fun _ _ _ h => h) (.inl ⟨by kernel_rfl, fun w' hS => (by go_simp; refine Calls.mono (right13 xk xq _) ?_; intro e w'' hE; obtain ⟨he, hb⟩ := hE; exact ⟨he, hS.trans (hb.mono hS.size)⟩)⟩) rfl (by go_simp; rfl) ?_
  refine wpAnyS_take (i := 4) rfl (by kernel_rfl) (by kernel_rfl) (by kernel_rfl) (fun _ _ _ h => h) (.inl ⟨by kernel_rfl, fun w' hS => (by have y0 := cell_of hS z00; have y1 := cell_of hS z01; have y2 := cell_of hS z10; have y3 := cell_of hS z11; have y4 := cell_of hS z20; have y5 := cell_of hS z21; go_simp; exact ⟨rfl, hS⟩)⟩) rfl (by go_simp; rfl) ?_
  refine wpAnyS_take (i := 5) rfl (by kernel_rfl) (by kernel_rfl) (by kernel_rfl) (fun _ _ _ h => h) (.inl ⟨by kernel_rfl, fun w' hS => (by have y0 := cell_of hS z00; have y1 := cell_of hS z01; have y2 := cell_of hS z10; have y3 := cell_of hS z11; have y4 := cell_of hS z20; have y5 := cell_of hS z21; go_simp; exact ⟨rfl, hS⟩)⟩) rfl (by go_simp; rfl) ?_
  refine wpAnyS_take (i := 6) rfl (by kernel_rfl) (by kernel_rfl) (by kernel_rfl) (fun _ _ _ h => h) (.inl ⟨by kernel_rfl, fun w' hS => (by have y0 := cell_of hS z00; have y1 := cell_of hS z01; have y2 := cell_of hS z10; have y3 := cell_of hS z11; have y4 := cell_of hS z20; have y5 := cell_of hS z21; go_simp; exact ⟨rfl, hS⟩)⟩) rfl (by go_simp; rfl) ?_
  refine wpAnyS_take (i := 7) rfl (by kernel_rfl) (by kernel_rfl) (by kernel_rfl) (fun _ _ _ h => h) (.inl ⟨by kernel_rfl, fun w' hS => (by have y0 := cell_of hS z00; have y1 := cell_of hS z01; have y2 := cell_of hS z10; have y3 := cell_of hS z11; have y4 := cell_of hS z20; have y5 := cell_of hS z21; go_simp; exact ⟨rfl, hS⟩)⟩) rfl (by go_simp; rfl) ?_
  refine wpAnyS_take (i := 8) rfl (by kernel_rfl) (by kernel_rfl) (by kernel_rfl) (fun _ _ _ h => h) (.inl ⟨by kernel_rfl, fun w' hS => (by have y0 := cell_of hS z00; have y1 := cell_of hS z01; have y2 := cell_of hS z10; have y3 := cell_of hS z11; have y4 := cell_of hS z20; have y5 := cell_of hS z21; go_simp; exact ⟨rfl, hS⟩)⟩) rfl (by go_simp; rfl) ?_
  refine wpAnyS_take (i := 9) rfl (by kernel_rfl) (by kernel_rfl) (by kernel_rfl) (fun _ _ _ h => h) (.inl ⟨by kernel_rfl, fun w' hS => (by have y0 := cell_of hS z00; have y1 := cell_of hS z01; have y2 := cell_of hS z10; have y3 := cell_of hS z11; have y4 := cell_of hS z20; have y5 := cell_of hS z21; go_simp; exact ⟨rfl, hS⟩)⟩) rfl (by go_simp; rfl) ?_
  refine wpAnyS_take (i := 10) rfl (by kernel_rfl) (by kernel_rfl) (by kernel_rfl) (fun _ _ _ h => h) (.inl ⟨by kernel_rfl, fun w' hS => (by have y0 := cell_of hS z00; have y1 := cell_of hS z01; have y2 := cell_of hS z10; have y3 := cell_of hS z11; have y4 := cell_of hS z20; have y5 := cell_of hS z21; go_simp; exact ⟨rfl, hS⟩)⟩) rfl (by go_simp; rfl) ?_
  refine wpAnyS_take (i := 11) rfl (by kernel_rfl) (by kernel_rfl) (by kernel_rfl) (fun _ _ _ h => h) (.inl ⟨by kernel_rfl, fun w' hS => (by have y0 := cell_of hS z00; have y1 := cell_of hS z01; have y2 := cell_of hS z10; have y3 := cell_of hS z11; have y4 := cell_of hS z20; have y5 := cell_of hS z21; go_simp; exact ⟨rfl, hS⟩)⟩) rfl (by go_simp; rfl) ?_
  refine wpAnyS_take (i := 12) rfl (by kernel_rfl) (by kernel_rfl) (by kernel_rfl) (fun _ _ _ h => h) (.inl ⟨by kernel_rfl, fun w' hS => (by have y0 := cell_of hS z00; have y1 := cell_of hS z01; have y2 := cell_of hS z10; have y3 := cell_of hS z11; have y4 := cell_of hS z20; have y5 := cell_of hS z21; go_simp; exact ⟨rfl, hS⟩)⟩) rfl (by go_simp; rfl) ?_
  refine wpAnyS_take (i := 13) rfl (by kernel_rfl) (by kernel_rfl) (by kernel_rfl) (fun _ _ _ h => h) (.inl ⟨by kernel_rfl, fun w' hS => (by have y0 := cell_of hS z00; have y1 := cell_of hS z01; have y2 := cell_of hS z10; have y3 := cell_of hS z11; have y4 := cell_of hS z20; have y5 := cell_of hS z21; go_simp; exact ⟨rfl, hS⟩)⟩) rfl (by go_simp; rfl) ?_
  refine wpAnyS_take (i := 14) rfl (by kernel_rfl) (by kernel_rfl) (by kernel_rfl) (fun _ _ _ h => h) (.inl ⟨by kernel_rfl, fun w' hS => (by have y0 := cell_of hS z00; have y1 := cell_of hS z01; have y2 := cell_of hS z10; have y3 := cell_of hS z11; have y4 := cell_of hS z20; have y5 := cell_of hS z21; go_simp; exact ⟨rfl, hS⟩)⟩) rfl (by go_simp; rfl) ?_
  refine wpAnyS_take (i := 15) rfl (by kernel_rfl) (by kernel_rfl) (by kernel_rfl) (fun _ _ _ h => h) (.inl ⟨by kernel_rfl, fun w' hS => (by have y0 := cell_of hS z00; have y1 := cell_of hS z01; have y2 := cell_of hS z10; have y3 := cell_of hS z11; have y4 := cell_of hS z20; have y5 := cell_of hS z21; go_simp; exact ⟨rfl, hS⟩)⟩) rfl (by go_simp; rfl) ?_
  refine wpAnyS_take (i := 16) rfl (by kernel_rfl) (by kernel_rfl) (by kernel_rfl) (fun _ _ _ h => h) (.inl ⟨by kernel_rfl, fun w' hS => (by have y0 := cell_of hS z00; have y1 := cell_of hS z01; have y2 := cell_of hS z10; have y3 := cell_of hS z11; have y4 := cell_of hS z20; have y5 := cell_of hS z21; go_simp; exact ⟨rfl, hS⟩)⟩) rfl (by go_simp; rfl) ?_
  refine wpAnyS_take (i := 17) rfl (by kernel_rfl) (by kernel_rfl) (by kernel_rfl) (fun _ _ _ h => h) (.inl ⟨by kernel_rfl, fun w' hS => (by have y0 := cell_of hS z00; have y1 := cell_of hS z01; have y2 := cell_of hS z10; have y3 := cell_of hS z11; have y4 := cell_of hS z20; have y5 := cell_of hS z21; go_simp; exact ⟨rfl, hS⟩)⟩) rfl (by go_simp; rfl) ?_
  refine wpAnyS_take (i := 18) rfl (by kernel_rfl) (by kernel_rfl) (by kernel_rfl) (fun _ _ _ h => h) (.inl ⟨by kernel_rfl, fun w' hS => (by have y0 := cell_of hS z00; have y1 := cell_of hS z01; have y2 := cell_of hS z10; have y3 := cell_of hS z11; have y4 := cell_of hS z20; have y5 := cell_of hS z21; go_simp; exact ⟨rfl, hS⟩)⟩) rfl (by go_simp; rfl) ?_
  refine wpAnyS_take (i := 19) rfl (by kernel_rfl) (by kernel_rfl) (by kernel_rfl) (fun _ _ _ h => h) (.inl ⟨by kernel_rfl, fun w' hS => (by have y0 := cell_of hS z00; have y1 := cell_of hS z01; have y2 := cell_of hS z10; have y3 := cell_of hS z11; have y4 := cell_of hS z20; have y5 := cell_of hS z21; go_simp; exact ⟨rfl, hS⟩)⟩) rfl (by go_simp; rfl) ?_
  refine wpAnyS_done (by kernel_rfl) (fun w4 hS => ?_) _
  have HB4 := Lib.hid (HB3.out.trans (hS.mono HB3.out.size))
  have TW4 := Lib.hid (TW3.out.below hS)
  replace z00 := cell_of hS z00
  replace z01 := cell_of hS z01
  replace z10 := cell_of hS z10
  replace z11 := cell_of hS z11
  replace z20 := cell_of hS z20
  replace z21 := cell_of hS z21
  clear hS TW HB3 TW3
  go_wp2_with fail
  refine Calls.mono (right13 ak aq _) ?_
  rintro e' w5 ⟨rfl, hb⟩
  rw [HA.out]
  have HB5 := Lib.hid (HB4.out.trans (hb.mono HB4.out.size))
  have TW5 := Lib.hid (TW4.out.below hb)
  replace z00 := cell_of hb z00
  replace z01 := cell_of hb z01
  replace z10 := cell_of hb z10
  replace z11 := cell_of hb z11
  replace z20 := cell_of hb z20
  replace z21 := cell_of hb z21
  clear hb HB4 TW4
  go_wp2
  go_ret
  exact ⟨rfl, HB5.out⟩

set_option maxHeartbeats 4000000 in
theorem turnTells_no_b (xk xq ak aq bk bq n e : Int) (ha : isR ak aq = true) (hbn : isR bk bq = false) (w : World) (ht : Tab w) : Calls Tryd.prog 3 #[Ag xk xq, Ag ak aq, Ag bk bq, .int .i64 n, .int .i64 e] w (Says w true) := by
  have T0 := Lib.hid ht
  have HA := Lib.hid ha
  have HB := Lib.hid hbn
  clear hbn
  clear ht ha
  go_enter Tryd.func3, Tryd.ntmps3
  go_wp2_with fail
  obtain ⟨w0, hW⟩ : ∃ w0, (((w.alloc (.cells #[.int .i64 xk, .int .i64 xq] 23)).alloc (.cells #[.int .i64 ak, .int .i64 aq] 23)).alloc (.cells #[.int .i64 bk, .int .i64 bq] 23)) = w0 := ⟨_, rfl⟩
  have HB0 : Hid (Below w.heap.size w w0) := Lib.hid (by rw [← hW]; exact ((((Below.refl w.heap.size w).alloc (by first | exact Nat.le_refl _ | (simp; done) | (simp; omega)) _).alloc (by first | exact Nat.le_refl _ | (simp; done) | (simp; omega)) _).alloc (by first | exact Nat.le_refl _ | (simp; done) | (simp; omega)) _))
  have TW0 := Lib.hid (T0.out.below HB0.out)
  have z00 : w0.cell? ⟨w.heap.size, 0, none⟩ = some (.int .i64 xk) := by rw [← hW]; simp [go_sem]
  have z01 : w0.cell? ⟨w.heap.size, 1, none⟩ = some (.int .i64 xq) := by rw [← hW]; simp [go_sem]
  have z10 : w0.cell? ⟨w.heap.size + 1, 0, none⟩ = some (.int .i64 ak) := by rw [← hW]; simp [go_sem]
  have z11 : w0.cell? ⟨w.heap.size + 1, 1, none⟩ = some (.int .i64 aq) := by rw [← hW]; simp [go_sem]
  have z20 : w0.cell? ⟨w.heap.size + 1 + 1, 0, none⟩ = some (.int .i64 bk) := by rw [← hW]; simp [go_sem]
  have z21 : w0.cell? ⟨w.heap.size + 1 + 1, 1, none⟩ = some (.int .i64 bq) := by rw [← hW]; simp [go_sem]
  rw [hW]
  clear hW
  refine Calls.mono (l6_head _ TW0.out) ?_
  rintro e' w1 ⟨rfl, hb⟩
  have HB1 := Lib.hid (HB0.out.trans (hb.mono HB0.out.size))
  have TW1 := Lib.hid (TW0.out.below hb)
  replace z00 := cell_of hb z00
  replace z01 := cell_of hb z01
  replace z10 := cell_of hb z10
  replace z11 := cell_of hb z11
  replace z20 := cell_of hb z20
  replace z21 := cell_of hb z21
  clear hb HB0 TW0
  go_wp2_with fail
  refine Calls.mono (place10 e _) ?_
  rintro e' w2 ⟨rfl, hb⟩
  have HB2 := Lib.hid (HB1.out.trans (hb.mono HB1.out.size))
  have TW2 := Lib.hid (TW1.out.below hb)
  replace z00 := cell_of hb z00
  replace z01 := cell_of hb z01
  replace z10 := cell_of hb z10
  replace z11 := cell_of hb z11
  replace z20 := cell_of hb z20
  replace z21 := cell_of hb z21
  clear hb HB1 TW1
  go_wp2_with fail
  refine Calls.mono (place11 e _) ?_
  rintro e' w3 ⟨rfl, hb⟩
  have HB3 := Lib.hid (HB2.out.trans (hb.mono HB2.out.size))
  have TW3 := Lib.hid (TW2.out.below hb)
  replace z00 := cell_of hb z00
  replace z01 := cell_of hb z01
  replace z10 := cell_of hb z10
  replace z11 := cell_of hb z11
  replace z20 := cell_of hb z20
  replace z21 := cell_of hb z21
  clear hb HB2 TW2
  go_wp2_with fail
  generalize p1 e = pa
  generalize p2 e = pb
  generalize p3 e = pc
  have TW := TW3
  refine wp_region_det (S := Below w3.heap.size w3) (by kernel_rfl) (Below.refl _ w3).drew ?_
  refine wpAnyS_take (i := 0) rfl (by kernel_rfl) (by kernel_rfl) (by kernel_rfl) (fun _ _ _ h => h) (.inl ⟨by kernel_rfl, fun w' hS => (by have y0 := cell_of hS z00; have y1 := cell_of hS z01; have y2 := cell_of hS z10; have y3 := cell_of hS z11; have y4 := cell_of hS z20; have y5 := cell_of hS z21; go_simp; exact ⟨rfl, hS⟩)⟩) rfl (by go_simp; rfl) ?_
  refine wpAnyS_take (i := 1) rfl (by kernel_rfl) (by kernel_rfl) (by kernel_rfl) (fun _ _ _ h => h) (.inl ⟨by kernel_rfl, fun w' hS => (by go_simp; refine Calls.mono (right12 xk xq _) ?_; intro e w'' hE; obtain ⟨he, hb⟩ := hE; exact ⟨he, hS.trans (hb.mono hS.size)⟩)⟩) rfl (by go_simp; rfl) ?_
  refine wpAnyS_take (i := 2) rfl (by kernel_rfl) (by kernel_rfl) (by kernel_rfl) (fun _ _ _ h => h) (.inl ⟨by kernel_rfl, fun w' hS => (by have y0 := cell_of hS z00; have y1 := cell_of hS z01; have y2 := cell_of hS z10; have y3 := cell_of hS z11; have y4 := cell_of hS z20; have y5 := cell_of hS z21; go_simp; exact ⟨rfl, hS⟩)⟩) rfl (by go_simp; rfl) ?_
  refine wpAnyS_take (i := 3) rfl (by kernel_rfl) (by kernel_rfl) (by kernel_rfl) (fun _ _ _ h => h) (.inl ⟨by kernel_rfl, fun w' hS => (by go_simp; refine Calls.mono (right13 xk xq _) ?_; intro e w'' hE; obtain ⟨he, hb⟩ := hE; exact ⟨he, hS.trans (hb.mono hS.size)⟩)⟩) rfl (by go_simp; rfl) ?_
  refine wpAnyS_take (i := 4) rfl (by kernel_rfl) (by kernel_rfl) (by kernel_rfl) (fun _ _ _ h => h) (.inl ⟨by kernel_rfl, fun w' hS => (by have y0 := cell_of hS z00; have y1 := cell_of hS z01; have y2 := cell_of hS z10; have y3 := cell_of hS z11; have y4 := cell_of hS z20; have y5 := cell_of hS z21; go_simp; exact ⟨rfl, hS⟩)⟩) rfl (by go_simp; rfl) ?_
  refine wpAnyS_take (i := 5) rfl (by kernel_rfl) (by kernel_rfl) (by kernel_rfl) (fun _ _ _ h => h) (.inl ⟨by kernel_rfl, fun w' hS => (by have y0 := cell_of hS z00; have y1 := cell_of hS z01; have y2 := cell_of hS z10; have y3 := cell_of hS z11; have y4 := cell_of hS z20; have y5 := cell_of hS z21; go_simp; exact ⟨rfl, hS⟩)⟩) rfl (by go_simp; rfl) ?_
  refine wpAnyS_take (i := 6) rfl (by kernel_rfl) (by kernel_rfl) (by kernel_rfl) (fun _ _ _ h => h) (.inl ⟨by kernel_rfl, fun w' hS => (by have y0 := cell_of hS z00; have y1 := cell_of hS z01; have y2 := cell_of hS z10; have y3 := cell_of hS z11; have y4 := cell_of hS z20; have y5 := cell_of hS z21; go_simp; exact ⟨rfl, hS⟩)⟩) rfl (by go_simp; rfl) ?_
  refine wpAnyS_take (i := 7) rfl (by kernel_rfl) (by kernel_rfl) (by kernel_rfl) (fun _ _ _ h => h) (.inl ⟨by kernel_rfl, fun w' hS => (by have y0 := cell_of hS z00; have y1 := cell_of hS z01; have y2 := cell_of hS z10; have y3 := cell_of hS z11; have y4 := cell_of hS z20; have y5 := cell_of hS z21; go_simp; exact ⟨rfl, hS⟩)⟩) rfl (by go_simp; rfl) ?_
  refine wpAnyS_take (i := 8) rfl (by kernel_rfl) (by kernel_rfl) (by kernel_rfl) (fun _ _ _ h => h) (.inl ⟨by kernel_rfl, fun w' hS => (by have y0 := cell_of hS z00; have y1 := cell_of hS z01; have y2 := cell_of hS z10; have y3 := cell_of hS z11; have y4 := cell_of hS z20; have y5 := cell_of hS z21; go_simp; exact ⟨rfl, hS⟩)⟩) rfl (by go_simp; rfl) ?_
  refine wpAnyS_take (i := 9) rfl (by kernel_rfl) (by kernel_rfl) (by kernel_rfl) (fun _ _ _ h => h) (.inl ⟨by kernel_rfl, fun w' hS => (by have y0 := cell_of hS z00; have y1 := cell_of hS z01; have y2 := cell_of hS z10; have y3 := cell_of hS z11; have y4 := cell_of hS z20; have y5 := cell_of hS z21; go_simp; exact ⟨rfl, hS⟩)⟩) rfl (by go_simp; rfl) ?_
  refine wpAnyS_take (i := 10) rfl (by kernel_rfl) (by kernel_rfl) (by kernel_rfl) (fun _ _ _ h => h) (.inl ⟨by kernel_rfl, fun w' hS => (by have y0 := cell_of hS z00; have y1 := cell_of hS z01; have y2 := cell_of hS z10; have y3 := cell_of hS z11; have y4 := cell_of hS z20; have y5 := cell_of hS z21; go_simp; exact ⟨rfl, hS⟩)⟩) rfl (by go_simp; rfl) ?_
  refine wpAnyS_take (i := 11) rfl (by kernel_rfl) (by kernel_rfl) (by kernel_rfl) (fun _ _ _ h => h) (.inl ⟨by kernel_rfl, fun w' hS => (by have y0 := cell_of hS z00; have y1 := cell_of hS z01; have y2 := cell_of hS z10; have y3 := cell_of hS z11; have y4 := cell_of hS z20; have y5 := cell_of hS z21; go_simp; exact ⟨rfl, hS⟩)⟩) rfl (by go_simp; rfl) ?_
  refine wpAnyS_take (i := 12) rfl (by kernel_rfl) (by kernel_rfl) (by kernel_rfl) (fun _ _ _ h => h) (.inl ⟨by kernel_rfl, fun w' hS => (by have y0 := cell_of hS z00; have y1 := cell_of hS z01; have y2 := cell_of hS z10; have y3 := cell_of hS z11; have y4 := cell_of hS z20; have y5 := cell_of hS z21; go_simp; exact ⟨rfl, hS⟩)⟩) rfl (by go_simp; rfl) ?_
  refine wpAnyS_take (i := 13) rfl (by kernel_rfl) (by kernel_rfl) (by kernel_rfl) (fun _ _ _ h => h) (.inl ⟨by kernel_rfl, fun w' hS => (by have y0 := cell_of hS z00; have y1 := cell_of hS z01; have y2 := cell_of hS z10; have y3 := cell_of hS z11; have y4 := cell_of hS z20; have y5 := cell_of hS z21; go_simp; exact ⟨rfl, hS⟩)⟩) rfl (by go_simp; rfl) ?_
  refine wpAnyS_take (i := 14) rfl (by kernel_rfl) (by kernel_rfl) (by kernel_rfl) (fun _ _ _ h => h) (.inl ⟨by kernel_rfl, fun w' hS => (by have y0 := cell_of hS z00; have y1 := cell_of hS z01; have y2 := cell_of hS z10; have y3 := cell_of hS z11; have y4 := cell_of hS z20; have y5 := cell_of hS z21; go_simp; exact ⟨rfl, hS⟩)⟩) rfl (by go_simp; rfl) ?_
  refine wpAnyS_take (i := 15) rfl (by kernel_rfl) (by kernel_rfl) (by kernel_rfl) (fun _ _ _ h => h) (.inl ⟨by kernel_rfl, fun w' hS => (by have y0 := cell_of hS z00; have y1 := cell_of hS z01; have y2 := cell_of hS z10; have y3 := cell_of hS z11; have y4 := cell_of hS z20; have y5 := cell_of hS z21; go_simp; exact ⟨rfl, hS⟩)⟩) rfl (by go_simp; rfl) ?_
  refine wpAnyS_take (i := 16) rfl (by kernel_rfl) (by kernel_rfl) (by kernel_rfl) (fun _ _ _ h => h) (.inl ⟨by kernel_rfl, fun w' hS => (by have y0 := cell_of hS z00; have y1 := cell_of hS z01; have y2 := cell_of hS z10; have y3 := cell_of hS z11; have y4 := cell_of hS z20; have y5 := cell_of hS z21; go_simp; exact ⟨rfl, hS⟩)⟩) rfl (by go_simp; rfl) ?_
  refine wpAnyS_take (i := 17) rfl (by kernel_rfl) (by kernel_rfl) (by kernel_rfl) (fun _ _ _ h => h) (.inl ⟨by kernel_rfl, fun w' hS => (by have y0 := cell_of hS z00; have y1 := cell_of hS z01; have y2 := cell_of hS z10; have y3 := cell_of hS z11; have y4 := cell_of hS z20; have y5 := cell_of hS z21; go_simp; exact ⟨rfl, hS⟩)⟩) rfl (by go_simp; rfl) ?_
  refine wpAnyS_take (i := 18) rfl (by kernel_rfl) (by kernel_rfl) (by kernel_rfl) (fun _ _ _ h => h) (.inl ⟨by kernel_rfl, fun w' hS => (by have y0 := cell_of hS z00; have y1 := cell_of hS z01; have y2 := cell_of hS z10; have y3 := cell_of hS z11; have y4 := cell_of hS z20; have y5 := cell_of hS z21; go_simp; exact ⟨rfl, hS⟩)⟩) rfl (by go_simp; rfl) ?_
  refine wpAnyS_take (i := 19) rfl (by kernel_rfl) (by kernel_rfl) (by kernel_rfl) (fun _ _ _ h => h) (.inl ⟨by kernel_rfl, fun w' hS => (by have y0 := cell_of hS z00; have y1 := cell_of hS z01; have y2 := cell_of hS z10; have y3 := cell_of hS z11; have y4 := cell_of hS z20; have y5 := cell_of hS z21; go_simp; exact ⟨rfl, hS⟩)⟩) rfl (by go_simp; rfl) ?_
  refine wpAnyS_done (by kernel_rfl) (fun w4 hS => ?_) _
  have HB4 := Lib.hid (HB3.out.trans (hS.mono HB3.out.size))
  have TW4 := Lib.hid (TW3.out.below hS)
  replace z00 := cell_of hS z00
  replace z01 := cell_of hS z01
  replace z10 := cell_of hS z10
  replace z11 := cell_of hS z11
  replace z20 := cell_of hS z20
  replace z21 := cell_of hS z21
  clear hS TW HB3 TW3
  go_wp2_with fail
  refine Calls.mono (right13 ak aq _) ?_
  rintro e' w5 ⟨rfl, hb⟩
  rw [HA.out]
  have HB5 := Lib.hid (HB4.out.trans (hb.mono HB4.out.size))
  have TW5 := Lib.hid (TW4.out.below hb)
  replace z00 := cell_of hb z00
  replace z01 := cell_of hb z01
  replace z10 := cell_of hb z10
  replace z11 := cell_of hb z11
  replace z20 := cell_of hb z20
  replace z21 := cell_of hb z21
  clear hb HB4 TW4
  go_wp2_with fail
  refine Calls.mono (right13 bk bq _) ?_
  rintro e' w6 ⟨rfl, hb⟩
  rw [HB.out]
  have HB6 := Lib.hid (HB5.out.trans (hb.mono HB5.out.size))
  have TW6 := Lib.hid (TW5.out.below hb)
  replace z00 := cell_of hb z00
  replace z01 := cell_of hb z01
  replace z10 := cell_of hb z10
  replace z11 := cell_of hb z11
  replace z20 := cell_of hb z20
  replace z21 := cell_of hb z21
  clear hb HB5 TW5
  go_wp2
  go_ret
  exact ⟨rfl, HB6.out⟩

set_option maxRecDepth 100000 in
set_option maxHeartbeats 8000000 in
theorem turnTells_lo (xk xq ak bk n e : Int) (aq bq : Nat) (ha40 : aq ≤ 40) (hb40 : bq ≤ 40) (hak0 : -1099511627776 ≤ ak) (hak1 : ak ≤ 1099511627776) (hbk0 : -1099511627776 ≤ bk) (hbk1 : bk ≤ 1099511627776) (hn : n < -1048576) (w : World) (ht : Tab w) : Calls Tryd.prog 3 #[Ag xk xq, Ag ak aq, Ag bk bq, .int .i64 n, .int .i64 e] w (Says w true) := by
  have T0 := Lib.hid ht
  have HA := Lib.hid (isR_true (k := ak) (q := aq) ⟨by omega, by omega, hak0, hak1⟩)
  have HB := Lib.hid (isR_true (k := bk) (q := bq) ⟨by omega, by omega, hbk0, hbk1⟩)
  obtain ⟨fk1, fq1, v1⟩ := T_any (val ak aq)
  obtain ⟨fk2, fq2, v2⟩ := T_any (val ak aq + val bk bq)
  obtain ⟨fk3, fq3, v3⟩ := T_any (- val ak aq)
  obtain ⟨fk4, fq4, v4⟩ := T_any (n * val ak aq)
  have VA := Lib.hid v1
  have VS := Lib.hid v2
  have VF := Lib.hid v3
  have VT := Lib.hid v4
  have hp8 := eig_lt (val ak aq)
  obtain ⟨pe, hpe⟩ : ∃ pe, eig (val ak aq) = pe := ⟨_, rfl⟩
  obtain ⟨pk, hpk⟩ : ∃ pk, fk (rst (val ak aq)) = pk := ⟨_, rfl⟩
  obtain ⟨pq, hpq⟩ : ∃ pq, fq (rst (val ak aq)) = pq := ⟨_, rfl⟩
  rw [hpe] at hp8
  have VP : Hid (PT (val ak aq) = .agg #[.int .i64 pe, .int .i64 pk, .int .i64 pq]) := Lib.hid (by rw [PT, hpe, hpk, hpq])
  have HK : Hid ((pk : Int) = (fk (rst (val ak aq)) : Nat)) := Lib.hid (by rw [hpk])
  have HQ : Hid ((pq : Int) = (fq (rst (val ak aq)) : Nat)) := Lib.hid (by rw [hpq])
  have VJ : Hid (T (joined pe (rst (val ak aq))) = .agg #[.int .i64 fk1, .int .i64 fq1]) := Lib.hid (by rw [← hpe, T_congr (joined_of (val ak aq)), v1])
  clear ht v1 v2 v3 v4 hpe hpk hpq
  have d1 : decide (n < -1048576) = true := decide_eq_true hn
  go_enter Tryd.func3, Tryd.ntmps3
  go_wp2_with fail
  obtain ⟨w0, hW⟩ : ∃ w0, (((w.alloc (.cells #[.int .i64 xk, .int .i64 xq] 23)).alloc (.cells #[.int .i64 ak, .int .i64 aq] 23)).alloc (.cells #[.int .i64 bk, .int .i64 bq] 23)) = w0 := ⟨_, rfl⟩
  have HB0 : Hid (Below w.heap.size w w0) := Lib.hid (by rw [← hW]; exact ((((Below.refl w.heap.size w).alloc (by first | exact Nat.le_refl _ | (simp; done) | (simp; omega)) _).alloc (by first | exact Nat.le_refl _ | (simp; done) | (simp; omega)) _).alloc (by first | exact Nat.le_refl _ | (simp; done) | (simp; omega)) _))
  have TW0 := Lib.hid (T0.out.below HB0.out)
  have z00 : w0.cell? ⟨w.heap.size, 0, none⟩ = some (.int .i64 xk) := by rw [← hW]; simp [go_sem]
  have z01 : w0.cell? ⟨w.heap.size, 1, none⟩ = some (.int .i64 xq) := by rw [← hW]; simp [go_sem]
  have z10 : w0.cell? ⟨w.heap.size + 1, 0, none⟩ = some (.int .i64 ak) := by rw [← hW]; simp [go_sem]
  have z11 : w0.cell? ⟨w.heap.size + 1, 1, none⟩ = some (.int .i64 aq) := by rw [← hW]; simp [go_sem]
  have z20 : w0.cell? ⟨w.heap.size + 1 + 1, 0, none⟩ = some (.int .i64 bk) := by rw [← hW]; simp [go_sem]
  have z21 : w0.cell? ⟨w.heap.size + 1 + 1, 1, none⟩ = some (.int .i64 bq) := by rw [← hW]; simp [go_sem]
  rw [hW]
  clear hW
  refine Calls.mono (l6_head _ TW0.out) ?_
  rintro e' w1 ⟨rfl, hb⟩
  have HB1 := Lib.hid (HB0.out.trans (hb.mono HB0.out.size))
  have TW1 := Lib.hid (TW0.out.below hb)
  replace z00 := cell_of hb z00
  replace z01 := cell_of hb z01
  replace z10 := cell_of hb z10
  replace z11 := cell_of hb z11
  replace z20 := cell_of hb z20
  replace z21 := cell_of hb z21
  clear hb HB0 TW0
  go_wp2_with fail
  refine Calls.mono (place10 e _) ?_
  rintro e' w2 ⟨rfl, hb⟩
  have HB2 := Lib.hid (HB1.out.trans (hb.mono HB1.out.size))
  have TW2 := Lib.hid (TW1.out.below hb)
  replace z00 := cell_of hb z00
  replace z01 := cell_of hb z01
  replace z10 := cell_of hb z10
  replace z11 := cell_of hb z11
  replace z20 := cell_of hb z20
  replace z21 := cell_of hb z21
  clear hb HB1 TW1
  go_wp2_with fail
  refine Calls.mono (place11 e _) ?_
  rintro e' w3 ⟨rfl, hb⟩
  have HB3 := Lib.hid (HB2.out.trans (hb.mono HB2.out.size))
  have TW3 := Lib.hid (TW2.out.below hb)
  replace z00 := cell_of hb z00
  replace z01 := cell_of hb z01
  replace z10 := cell_of hb z10
  replace z11 := cell_of hb z11
  replace z20 := cell_of hb z20
  replace z21 := cell_of hb z21
  clear hb HB2 TW2
  go_wp2_with fail
  generalize p1 e = pa
  generalize p2 e = pb
  generalize p3 e = pc
  have TW := TW3
  refine wp_region_det (S := Below w3.heap.size w3) (by kernel_rfl) (Below.refl _ w3).drew ?_
  refine wpAnyS_take (i := 0) rfl (by kernel_rfl) (by kernel_rfl) (by kernel_rfl) (fun _ _ _ h => h) (.inl ⟨by kernel_rfl, fun w' hS => (by have y0 := cell_of hS z00; have y1 := cell_of hS z01; have y2 := cell_of hS z10; have y3 := cell_of hS z11; have y4 := cell_of hS z20; have y5 := cell_of hS z21; go_simp; exact ⟨rfl, hS⟩)⟩) rfl (by go_simp; rfl) ?_
  refine wpAnyS_take (i := 1) rfl (by kernel_rfl) (by kernel_rfl) (by kernel_rfl) (fun _ _ _ h => h) (.inl ⟨by kernel_rfl, fun w' hS => (by go_simp; refine Calls.mono (right12 xk xq _) ?_; intro e w'' hE; obtain ⟨he, hb⟩ := hE; exact ⟨he, hS.trans (hb.mono hS.size)⟩)⟩) rfl (by go_simp; rfl) ?_
  refine wpAnyS_take (i := 2) rfl (by kernel_rfl) (by kernel_rfl) (by kernel_rfl) (fun _ _ _ h => h) (.inl ⟨by kernel_rfl, fun w' hS => (by have y0 := cell_of hS z00; have y1 := cell_of hS z01; have y2 := cell_of hS z10; have y3 := cell_of hS z11; have y4 := cell_of hS z20; have y5 := cell_of hS z21; go_simp; exact ⟨rfl, hS⟩)⟩) rfl (by go_simp; rfl) ?_
  refine wpAnyS_take (i := 3) rfl (by kernel_rfl) (by kernel_rfl) (by kernel_rfl) (fun _ _ _ h => h) (.inl ⟨by kernel_rfl, fun w' hS => (by go_simp; refine Calls.mono (right13 xk xq _) ?_; intro e w'' hE; obtain ⟨he, hb⟩ := hE; exact ⟨he, hS.trans (hb.mono hS.size)⟩)⟩) rfl (by go_simp; rfl) ?_
  refine wpAnyS_take (i := 4) rfl (by kernel_rfl) (by kernel_rfl) (by kernel_rfl) (fun _ _ _ h => h) (.inl ⟨by kernel_rfl, fun w' hS => (by have y0 := cell_of hS z00; have y1 := cell_of hS z01; have y2 := cell_of hS z10; have y3 := cell_of hS z11; have y4 := cell_of hS z20; have y5 := cell_of hS z21; go_simp; exact ⟨rfl, hS⟩)⟩) rfl (by go_simp; rfl) ?_
  refine wpAnyS_take (i := 5) rfl (by kernel_rfl) (by kernel_rfl) (by kernel_rfl) (fun _ _ _ h => h) (.inl ⟨by kernel_rfl, fun w' hS => (by have y0 := cell_of hS z00; have y1 := cell_of hS z01; have y2 := cell_of hS z10; have y3 := cell_of hS z11; have y4 := cell_of hS z20; have y5 := cell_of hS z21; go_simp; exact ⟨rfl, hS⟩)⟩) rfl (by go_simp; rfl) ?_
  refine wpAnyS_take (i := 6) rfl (by kernel_rfl) (by kernel_rfl) (by kernel_rfl) (fun _ _ _ h => h) (.inl ⟨by kernel_rfl, fun w' hS => (by have y0 := cell_of hS z00; have y1 := cell_of hS z01; have y2 := cell_of hS z10; have y3 := cell_of hS z11; have y4 := cell_of hS z20; have y5 := cell_of hS z21; go_simp; exact ⟨rfl, hS⟩)⟩) rfl (by go_simp; rfl) ?_
  refine wpAnyS_take (i := 7) rfl (by kernel_rfl) (by kernel_rfl) (by kernel_rfl) (fun _ _ _ h => h) (.inl ⟨by kernel_rfl, fun w' hS => (by have y0 := cell_of hS z00; have y1 := cell_of hS z01; have y2 := cell_of hS z10; have y3 := cell_of hS z11; have y4 := cell_of hS z20; have y5 := cell_of hS z21; go_simp; exact ⟨rfl, hS⟩)⟩) rfl (by go_simp; rfl) ?_
  refine wpAnyS_take (i := 8) rfl (by kernel_rfl) (by kernel_rfl) (by kernel_rfl) (fun _ _ _ h => h) (.inl ⟨by kernel_rfl, fun w' hS => (by have y0 := cell_of hS z00; have y1 := cell_of hS z01; have y2 := cell_of hS z10; have y3 := cell_of hS z11; have y4 := cell_of hS z20; have y5 := cell_of hS z21; go_simp; exact ⟨rfl, hS⟩)⟩) rfl (by go_simp; rfl) ?_
  refine wpAnyS_take (i := 9) rfl (by kernel_rfl) (by kernel_rfl) (by kernel_rfl) (fun _ _ _ h => h) (.inl ⟨by kernel_rfl, fun w' hS => (by have y0 := cell_of hS z00; have y1 := cell_of hS z01; have y2 := cell_of hS z10; have y3 := cell_of hS z11; have y4 := cell_of hS z20; have y5 := cell_of hS z21; go_simp; exact ⟨rfl, hS⟩)⟩) rfl (by go_simp; rfl) ?_
  refine wpAnyS_take (i := 10) rfl (by kernel_rfl) (by kernel_rfl) (by kernel_rfl) (fun _ _ _ h => h) (.inl ⟨by kernel_rfl, fun w' hS => (by have y0 := cell_of hS z00; have y1 := cell_of hS z01; have y2 := cell_of hS z10; have y3 := cell_of hS z11; have y4 := cell_of hS z20; have y5 := cell_of hS z21; go_simp; exact ⟨rfl, hS⟩)⟩) rfl (by go_simp; rfl) ?_
  refine wpAnyS_take (i := 11) rfl (by kernel_rfl) (by kernel_rfl) (by kernel_rfl) (fun _ _ _ h => h) (.inl ⟨by kernel_rfl, fun w' hS => (by have y0 := cell_of hS z00; have y1 := cell_of hS z01; have y2 := cell_of hS z10; have y3 := cell_of hS z11; have y4 := cell_of hS z20; have y5 := cell_of hS z21; go_simp; exact ⟨rfl, hS⟩)⟩) rfl (by go_simp; rfl) ?_
  refine wpAnyS_take (i := 12) rfl (by kernel_rfl) (by kernel_rfl) (by kernel_rfl) (fun _ _ _ h => h) (.inl ⟨by kernel_rfl, fun w' hS => (by have y0 := cell_of hS z00; have y1 := cell_of hS z01; have y2 := cell_of hS z10; have y3 := cell_of hS z11; have y4 := cell_of hS z20; have y5 := cell_of hS z21; go_simp; exact ⟨rfl, hS⟩)⟩) rfl (by go_simp; rfl) ?_
  refine wpAnyS_take (i := 13) rfl (by kernel_rfl) (by kernel_rfl) (by kernel_rfl) (fun _ _ _ h => h) (.inl ⟨by kernel_rfl, fun w' hS => (by have y0 := cell_of hS z00; have y1 := cell_of hS z01; have y2 := cell_of hS z10; have y3 := cell_of hS z11; have y4 := cell_of hS z20; have y5 := cell_of hS z21; go_simp; exact ⟨rfl, hS⟩)⟩) rfl (by go_simp; rfl) ?_
  refine wpAnyS_take (i := 14) rfl (by kernel_rfl) (by kernel_rfl) (by kernel_rfl) (fun _ _ _ h => h) (.inl ⟨by kernel_rfl, fun w' hS => (by have y0 := cell_of hS z00; have y1 := cell_of hS z01; have y2 := cell_of hS z10; have y3 := cell_of hS z11; have y4 := cell_of hS z20; have y5 := cell_of hS z21; go_simp; exact ⟨rfl, hS⟩)⟩) rfl (by go_simp; rfl) ?_
  refine wpAnyS_take (i := 15) rfl (by kernel_rfl) (by kernel_rfl) (by kernel_rfl) (fun _ _ _ h => h) (.inl ⟨by kernel_rfl, fun w' hS => (by have y0 := cell_of hS z00; have y1 := cell_of hS z01; have y2 := cell_of hS z10; have y3 := cell_of hS z11; have y4 := cell_of hS z20; have y5 := cell_of hS z21; go_simp; exact ⟨rfl, hS⟩)⟩) rfl (by go_simp; rfl) ?_
  refine wpAnyS_take (i := 16) rfl (by kernel_rfl) (by kernel_rfl) (by kernel_rfl) (fun _ _ _ h => h) (.inl ⟨by kernel_rfl, fun w' hS => (by have y0 := cell_of hS z00; have y1 := cell_of hS z01; have y2 := cell_of hS z10; have y3 := cell_of hS z11; have y4 := cell_of hS z20; have y5 := cell_of hS z21; go_simp; exact ⟨rfl, hS⟩)⟩) rfl (by go_simp; rfl) ?_
  refine wpAnyS_take (i := 17) rfl (by kernel_rfl) (by kernel_rfl) (by kernel_rfl) (fun _ _ _ h => h) (.inl ⟨by kernel_rfl, fun w' hS => (by have y0 := cell_of hS z00; have y1 := cell_of hS z01; have y2 := cell_of hS z10; have y3 := cell_of hS z11; have y4 := cell_of hS z20; have y5 := cell_of hS z21; go_simp; exact ⟨rfl, hS⟩)⟩) rfl (by go_simp; rfl) ?_
  refine wpAnyS_take (i := 18) rfl (by kernel_rfl) (by kernel_rfl) (by kernel_rfl) (fun _ _ _ h => h) (.inl ⟨by kernel_rfl, fun w' hS => (by have y0 := cell_of hS z00; have y1 := cell_of hS z01; have y2 := cell_of hS z10; have y3 := cell_of hS z11; have y4 := cell_of hS z20; have y5 := cell_of hS z21; go_simp; exact ⟨rfl, hS⟩)⟩) rfl (by go_simp; rfl) ?_
  refine wpAnyS_take (i := 19) rfl (by kernel_rfl) (by kernel_rfl) (by kernel_rfl) (fun _ _ _ h => h) (.inl ⟨by kernel_rfl, fun w' hS => (by have y0 := cell_of hS z00; have y1 := cell_of hS z01; have y2 := cell_of hS z10; have y3 := cell_of hS z11; have y4 := cell_of hS z20; have y5 := cell_of hS z21; go_simp; exact ⟨rfl, hS⟩)⟩) rfl (by go_simp; rfl) ?_
  refine wpAnyS_done (by kernel_rfl) (fun w4 hS => ?_) _
  have HB4 := Lib.hid (HB3.out.trans (hS.mono HB3.out.size))
  have TW4 := Lib.hid (TW3.out.below hS)
  replace z00 := cell_of hS z00
  replace z01 := cell_of hS z01
  replace z10 := cell_of hS z10
  replace z11 := cell_of hS z11
  replace z20 := cell_of hS z20
  replace z21 := cell_of hS z21
  clear hS TW HB3 TW3
  go_wp2_with fail
  refine Calls.mono (right13 ak aq _) ?_
  rintro e' w5 ⟨rfl, hb⟩
  rw [HA.out]
  have HB5 := Lib.hid (HB4.out.trans (hb.mono HB4.out.size))
  have TW5 := Lib.hid (TW4.out.below hb)
  replace z00 := cell_of hb z00
  replace z01 := cell_of hb z01
  replace z10 := cell_of hb z10
  replace z11 := cell_of hb z11
  replace z20 := cell_of hb z20
  replace z21 := cell_of hb z21
  clear hb HB4 TW4
  go_wp2_with fail
  refine Calls.mono (right13 bk bq _) ?_
  rintro e' w6 ⟨rfl, hb⟩
  rw [HB.out]
  have HB6 := Lib.hid (HB5.out.trans (hb.mono HB5.out.size))
  have TW6 := Lib.hid (TW5.out.below hb)
  replace z00 := cell_of hb z00
  replace z01 := cell_of hb z01
  replace z10 := cell_of hb z10
  replace z11 := cell_of hb z11
  replace z20 := cell_of hb z20
  replace z21 := cell_of hb z21
  clear hb HB5 TW5
  go_wp2_with fail
  refine Calls.mono (split14i ak aq aq rfl ha40 _ VP.out _ TW6.out) ?_
  rintro e' w7 ⟨rfl, hb⟩
  have HB7 := Lib.hid (HB6.out.trans (hb.mono HB6.out.size))
  have TW7 := Lib.hid (TW6.out.below hb)
  replace z00 := cell_of hb z00
  replace z01 := cell_of hb z01
  replace z10 := cell_of hb z10
  replace z11 := cell_of hb z11
  replace z20 := cell_of hb z20
  replace z21 := cell_of hb z21
  clear hb HB6 TW6
  have hlt := cell_lt z10
  go_wp2_with fail
  obtain ⟨w8, hW⟩ : ∃ w8, w7.alloc (.cells #[.int .i64 pe, .int .i64 pk, .int .i64 pq] 29) = w8 := ⟨_, rfl⟩
  have hb : Below w7.heap.size w7 w8 := by rw [← hW]; exact (Below.refl _ _).alloc (Nat.le_refl _) _
  have HB8 := Lib.hid (HB7.out.trans (hb.mono HB7.out.size))
  have TW8 := Lib.hid (TW7.out.below hb)
  replace z00 := cell_of hb z00
  replace z01 := cell_of hb z01
  replace z10 := cell_of hb z10
  replace z11 := cell_of hb z11
  replace z20 := cell_of hb z20
  replace z21 := cell_of hb z21
  have zp0 : w8.cell? ⟨w7.heap.size, 0, none⟩ = some (.int .i64 pe) := by rw [← hW]; simp [go_sem]
  have zp1 : w8.cell? ⟨w7.heap.size, 1, none⟩ = some (.int .i64 pk) := by rw [← hW]; simp [go_sem]
  have zp2 : w8.cell? ⟨w7.heap.size, 2, none⟩ = some (.int .i64 pq) := by rw [← hW]; simp [go_sem]
  rw [hW]
  clear hW hb HB7 TW7
  refine Calls.mono (split15i ak aq aq rfl ha40 _ VP.out _) ?_
  rintro e' w9 ⟨rfl, hb⟩
  have HB9 := Lib.hid (HB8.out.trans (hb.mono HB8.out.size))
  have TW9 := Lib.hid (TW8.out.below hb)
  replace z00 := cell_of hb z00
  replace z01 := cell_of hb z01
  replace z10 := cell_of hb z10
  replace z11 := cell_of hb z11
  replace z20 := cell_of hb z20
  replace z21 := cell_of hb z21
  replace zp0 := cell_of hb zp0
  replace zp1 := cell_of hb zp1
  replace zp2 := cell_of hb zp2
  clear hb HB8 TW8
  go_wp2_with fail
  obtain ⟨w10, hW⟩ : ∃ w10, w9.alloc (.cells #[.int .i64 pe, .int .i64 pk, .int .i64 pq] 29) = w10 := ⟨_, rfl⟩
  have hb : Below w9.heap.size w9 w10 := by rw [← hW]; exact (Below.refl _ _).alloc (Nat.le_refl _) _
  have HB10 := Lib.hid (HB9.out.trans (hb.mono HB9.out.size))
  have TW10 := Lib.hid (TW9.out.below hb)
  replace z00 := cell_of hb z00
  replace z01 := cell_of hb z01
  replace z10 := cell_of hb z10
  replace z11 := cell_of hb z11
  replace z20 := cell_of hb z20
  replace z21 := cell_of hb z21
  replace zp0 := cell_of hb zp0
  replace zp1 := cell_of hb zp1
  replace zp2 := cell_of hb zp2
  have zq0 : w10.cell? ⟨w9.heap.size, 0, none⟩ = some (.int .i64 pe) := by rw [← hW]; simp [go_sem]
  have zq1 : w10.cell? ⟨w9.heap.size, 1, none⟩ = some (.int .i64 pk) := by rw [← hW]; simp [go_sem]
  have zq2 : w10.cell? ⟨w9.heap.size, 2, none⟩ = some (.int .i64 pq) := by rw [← hW]; simp [go_sem]
  rw [hW]
  clear hW hb HB9 TW9
  have TW := TW10
  refine wp_region_det (S := Below w10.heap.size w10) (by kernel_rfl) (Below.refl _ w10).drew ?_
  refine wpAnyS_take (i := 0) rfl (by kernel_rfl) (by kernel_rfl) (by kernel_rfl) (fun _ _ _ h => h) (.inl ⟨by kernel_rfl, fun w' hS => (by have y0 := cell_of hS z00; have y1 := cell_of hS z01; have y2 := cell_of hS z10; have y3 := cell_of hS z11; have y4 := cell_of hS z20; have y5 := cell_of hS z21; have y6 := cell_of hS zp0; have y7 := cell_of hS zp1; have y8 := cell_of hS zp2; have y9 := cell_of hS zq0; have y10 := cell_of hS zq1; have y11 := cell_of hS zq2; go_simp; exact ⟨rfl, hS⟩)⟩) rfl (by go_simp; rfl) ?_
  refine wpAnyS_take (i := 1) rfl (by kernel_rfl) (by kernel_rfl) (by kernel_rfl) (fun _ _ _ h => h) (.inl ⟨by kernel_rfl, fun w' hS => (by have y0 := cell_of hS z00; have y1 := cell_of hS z01; have y2 := cell_of hS z10; have y3 := cell_of hS z11; have y4 := cell_of hS z20; have y5 := cell_of hS z21; have y6 := cell_of hS zp0; have y7 := cell_of hS zp1; have y8 := cell_of hS zp2; have y9 := cell_of hS zq0; have y10 := cell_of hS zq1; have y11 := cell_of hS zq2; go_simp; exact ⟨rfl, hS⟩)⟩) rfl (by go_simp; rfl) ?_
  refine wpAnyS_take (i := 2) rfl (by kernel_rfl) (by kernel_rfl) (by kernel_rfl) (fun _ _ _ h => h) (.inl ⟨by kernel_rfl, fun w' hS => (by have y0 := cell_of hS z00; have y1 := cell_of hS z01; have y2 := cell_of hS z10; have y3 := cell_of hS z11; have y4 := cell_of hS z20; have y5 := cell_of hS z21; have y6 := cell_of hS zp0; have y7 := cell_of hS zp1; have y8 := cell_of hS zp2; have y9 := cell_of hS zq0; have y10 := cell_of hS zq1; have y11 := cell_of hS zq2; go_simp; exact ⟨rfl, hS⟩)⟩) rfl (by go_simp; rfl) ?_
  refine wpAnyS_take (i := 3) rfl (by kernel_rfl) (by kernel_rfl) (by kernel_rfl) (fun _ _ _ h => h) (.inl ⟨by kernel_rfl, fun w' hS => (by go_simp; refine Calls.mono (form16i ak aq aq rfl ha40 _ VA.out _ (TW.out.below hS)) ?_; intro e w'' hE; obtain ⟨he, hb⟩ := hE; exact ⟨he, hS.trans (hb.mono hS.size)⟩)⟩) rfl (by go_simp; rfl) ?_
  refine wpAnyS_take (i := 4) rfl (by kernel_rfl) (by kernel_rfl) (by kernel_rfl) (fun _ _ _ h => h) (.inl ⟨by kernel_rfl, fun w' hS => (by have y0 := cell_of hS z00; have y1 := cell_of hS z01; have y2 := cell_of hS z10; have y3 := cell_of hS z11; have y4 := cell_of hS z20; have y5 := cell_of hS z21; have y6 := cell_of hS zp0; have y7 := cell_of hS zp1; have y8 := cell_of hS zp2; have y9 := cell_of hS zq0; have y10 := cell_of hS zq1; have y11 := cell_of hS zq2; go_simp; exact ⟨rfl, hS⟩)⟩) rfl (by go_simp; rfl) ?_
  refine wpAnyS_take (i := 5) rfl (by kernel_rfl) (by kernel_rfl) (by kernel_rfl) (fun _ _ _ h => h) (.inl ⟨by kernel_rfl, fun w' hS => (by go_simp; refine Calls.mono (form17i ak aq aq rfl ha40 _ VA.out _) ?_; intro e w'' hE; obtain ⟨he, hb⟩ := hE; exact ⟨he, hS.trans (hb.mono hS.size)⟩)⟩) rfl (by go_simp; rfl) ?_
  refine wpAnyS_take (i := 6) rfl (by kernel_rfl) (by kernel_rfl) (by kernel_rfl) (fun _ _ _ h => h) (.inl ⟨by kernel_rfl, fun w' hS => (by have y0 := cell_of hS z00; have y1 := cell_of hS z01; have y2 := cell_of hS z10; have y3 := cell_of hS z11; have y4 := cell_of hS z20; have y5 := cell_of hS z21; have y6 := cell_of hS zp0; have y7 := cell_of hS zp1; have y8 := cell_of hS zp2; have y9 := cell_of hS zq0; have y10 := cell_of hS zq1; have y11 := cell_of hS zq2; go_simp; exact ⟨rfl, hS⟩)⟩) rfl (by go_simp; rfl) ?_
  refine wpAnyS_take (i := 7) rfl (by kernel_rfl) (by kernel_rfl) (by kernel_rfl) (fun _ _ _ h => h) (.inl ⟨by kernel_rfl, fun w' hS => (by have y0 := cell_of hS z00; have y1 := cell_of hS z01; have y2 := cell_of hS z10; have y3 := cell_of hS z11; have y4 := cell_of hS z20; have y5 := cell_of hS z21; have y6 := cell_of hS zp0; have y7 := cell_of hS zp1; have y8 := cell_of hS zp2; have y9 := cell_of hS zq0; have y10 := cell_of hS zq1; have y11 := cell_of hS zq2; go_simp; exact ⟨rfl, hS⟩)⟩) rfl (by go_simp; rfl) ?_
  refine wpAnyS_take (i := 8) rfl (by kernel_rfl) (by kernel_rfl) (by kernel_rfl) (fun _ _ _ h => h) (.inl ⟨by kernel_rfl, fun w' hS => (by have y0 := cell_of hS z00; have y1 := cell_of hS z01; have y2 := cell_of hS z10; have y3 := cell_of hS z11; have y4 := cell_of hS z20; have y5 := cell_of hS z21; have y6 := cell_of hS zp0; have y7 := cell_of hS zp1; have y8 := cell_of hS zp2; have y9 := cell_of hS zq0; have y10 := cell_of hS zq1; have y11 := cell_of hS zq2; go_simp; exact ⟨rfl, hS⟩)⟩) rfl (by go_simp; rfl) ?_
  refine wpAnyS_take (i := 9) rfl (by kernel_rfl) (by kernel_rfl) (by kernel_rfl) (fun _ _ _ h => h) (.inl ⟨by kernel_rfl, fun w' hS => (by have y0 := cell_of hS z00; have y1 := cell_of hS z01; have y2 := cell_of hS z10; have y3 := cell_of hS z11; have y4 := cell_of hS z20; have y5 := cell_of hS z21; have y6 := cell_of hS zp0; have y7 := cell_of hS zp1; have y8 := cell_of hS zp2; have y9 := cell_of hS zq0; have y10 := cell_of hS zq1; have y11 := cell_of hS zq2; go_simp; exact ⟨rfl, hS⟩)⟩) rfl (by go_simp; rfl) ?_
  refine wpAnyS_take (i := 10) rfl (by kernel_rfl) (by kernel_rfl) (by kernel_rfl) (fun _ _ _ h => h) (.inl ⟨by kernel_rfl, fun w' hS => (by have y0 := cell_of hS z00; have y1 := cell_of hS z01; have y2 := cell_of hS z10; have y3 := cell_of hS z11; have y4 := cell_of hS z20; have y5 := cell_of hS z21; have y6 := cell_of hS zp0; have y7 := cell_of hS zp1; have y8 := cell_of hS zp2; have y9 := cell_of hS zq0; have y10 := cell_of hS zq1; have y11 := cell_of hS zq2; go_simp; exact ⟨rfl, hS⟩)⟩) rfl (by go_simp; rfl) ?_
  refine wpAnyS_take (i := 11) rfl (by kernel_rfl) (by kernel_rfl) (by kernel_rfl) (fun _ _ _ h => h) (.inl ⟨by kernel_rfl, fun w' hS => (by go_simp; refine Calls.mono (add18i ak aq bk bq aq bq rfl rfl ha40 hb40 _ VS.out _ (TW.out.below hS)) ?_; intro e w'' hE; obtain ⟨he, hb⟩ := hE; exact ⟨he, hS.trans (hb.mono hS.size)⟩)⟩) rfl (by go_simp; rfl) ?_
  refine wpAnyS_take (i := 12) rfl (by kernel_rfl) (by kernel_rfl) (by kernel_rfl) (fun _ _ _ h => h) (.inl ⟨by kernel_rfl, fun w' hS => (by have y0 := cell_of hS z00; have y1 := cell_of hS z01; have y2 := cell_of hS z10; have y3 := cell_of hS z11; have y4 := cell_of hS z20; have y5 := cell_of hS z21; have y6 := cell_of hS zp0; have y7 := cell_of hS zp1; have y8 := cell_of hS zp2; have y9 := cell_of hS zq0; have y10 := cell_of hS zq1; have y11 := cell_of hS zq2; go_simp; exact ⟨rfl, hS⟩)⟩) rfl (by go_simp; rfl) ?_
  refine wpAnyS_take (i := 13) rfl (by kernel_rfl) (by kernel_rfl) (by kernel_rfl) (fun _ _ _ h => h) (.inl ⟨by kernel_rfl, fun w' hS => (by have y0 := cell_of hS z00; have y1 := cell_of hS z01; have y2 := cell_of hS z10; have y3 := cell_of hS z11; have y4 := cell_of hS z20; have y5 := cell_of hS z21; have y6 := cell_of hS zp0; have y7 := cell_of hS zp1; have y8 := cell_of hS zp2; have y9 := cell_of hS zq0; have y10 := cell_of hS zq1; have y11 := cell_of hS zq2; go_simp; exact ⟨rfl, hS⟩)⟩) rfl (by go_simp; rfl) ?_
  refine wpAnyS_take (i := 14) rfl (by kernel_rfl) (by kernel_rfl) (by kernel_rfl) (fun _ _ _ h => h) (.inl ⟨by kernel_rfl, fun w' hS => (by go_simp; refine Calls.mono (add19i ak aq bk bq aq bq rfl rfl ha40 hb40 _ VS.out _) ?_; intro e w'' hE; obtain ⟨he, hb⟩ := hE; exact ⟨he, hS.trans (hb.mono hS.size)⟩)⟩) rfl (by go_simp; rfl) ?_
  refine wpAnyS_take (i := 15) rfl (by kernel_rfl) (by kernel_rfl) (by kernel_rfl) (fun _ _ _ h => h) (.inl ⟨by kernel_rfl, fun w' hS => (by have y0 := cell_of hS z00; have y1 := cell_of hS z01; have y2 := cell_of hS z10; have y3 := cell_of hS z11; have y4 := cell_of hS z20; have y5 := cell_of hS z21; have y6 := cell_of hS zp0; have y7 := cell_of hS zp1; have y8 := cell_of hS zp2; have y9 := cell_of hS zq0; have y10 := cell_of hS zq1; have y11 := cell_of hS zq2; go_simp; exact ⟨rfl, hS⟩)⟩) rfl (by go_simp; rfl) ?_
  refine wpAnyS_take (i := 16) rfl (by kernel_rfl) (by kernel_rfl) (by kernel_rfl) (fun _ _ _ h => h) (.inl ⟨by kernel_rfl, fun w' hS => (by have y0 := cell_of hS z00; have y1 := cell_of hS z01; have y2 := cell_of hS z10; have y3 := cell_of hS z11; have y4 := cell_of hS z20; have y5 := cell_of hS z21; have y6 := cell_of hS zp0; have y7 := cell_of hS zp1; have y8 := cell_of hS zp2; have y9 := cell_of hS zq0; have y10 := cell_of hS zq1; have y11 := cell_of hS zq2; go_simp; exact ⟨rfl, hS⟩)⟩) rfl (by go_simp; rfl) ?_
  refine wpAnyS_take (i := 17) rfl (by kernel_rfl) (by kernel_rfl) (by kernel_rfl) (fun _ _ _ h => h) (.inl ⟨by kernel_rfl, fun w' hS => (by have y0 := cell_of hS z00; have y1 := cell_of hS z01; have y2 := cell_of hS z10; have y3 := cell_of hS z11; have y4 := cell_of hS z20; have y5 := cell_of hS z21; have y6 := cell_of hS zp0; have y7 := cell_of hS zp1; have y8 := cell_of hS zp2; have y9 := cell_of hS zq0; have y10 := cell_of hS zq1; have y11 := cell_of hS zq2; go_simp; exact ⟨rfl, hS⟩)⟩) rfl (by go_simp; rfl) ?_
  refine wpAnyS_take (i := 18) rfl (by kernel_rfl) (by kernel_rfl) (by kernel_rfl) (fun _ _ _ h => h) (.inl ⟨by kernel_rfl, fun w' hS => (by have y0 := cell_of hS z00; have y1 := cell_of hS z01; have y2 := cell_of hS z10; have y3 := cell_of hS z11; have y4 := cell_of hS z20; have y5 := cell_of hS z21; have y6 := cell_of hS zp0; have y7 := cell_of hS zp1; have y8 := cell_of hS zp2; have y9 := cell_of hS zq0; have y10 := cell_of hS zq1; have y11 := cell_of hS zq2; go_simp; exact ⟨rfl, hS⟩)⟩) rfl (by go_simp; rfl) ?_
  refine wpAnyS_take (i := 19) rfl (by kernel_rfl) (by kernel_rfl) (by kernel_rfl) (fun _ _ _ h => h) (.inl ⟨by kernel_rfl, fun w' hS => (by go_simp; refine Calls.mono (flip20i ak aq aq rfl ha40 (by omega) (by omega) _ VF.out _ (TW.out.below hS)) ?_; intro e w'' hE; obtain ⟨he, hb⟩ := hE; exact ⟨he, hS.trans (hb.mono hS.size)⟩)⟩) rfl (by go_simp; rfl) ?_
  refine wpAnyS_take (i := 20) rfl (by kernel_rfl) (by kernel_rfl) (by kernel_rfl) (fun _ _ _ h => h) (.inl ⟨by kernel_rfl, fun w' hS => (by have y0 := cell_of hS z00; have y1 := cell_of hS z01; have y2 := cell_of hS z10; have y3 := cell_of hS z11; have y4 := cell_of hS z20; have y5 := cell_of hS z21; have y6 := cell_of hS zp0; have y7 := cell_of hS zp1; have y8 := cell_of hS zp2; have y9 := cell_of hS zq0; have y10 := cell_of hS zq1; have y11 := cell_of hS zq2; go_simp; exact ⟨rfl, hS⟩)⟩) rfl (by go_simp; rfl) ?_
  refine wpAnyS_take (i := 21) rfl (by kernel_rfl) (by kernel_rfl) (by kernel_rfl) (fun _ _ _ h => h) (.inl ⟨by kernel_rfl, fun w' hS => (by go_simp; refine Calls.mono (flip21i ak aq aq rfl ha40 (by omega) (by omega) _ VF.out _) ?_; intro e w'' hE; obtain ⟨he, hb⟩ := hE; exact ⟨he, hS.trans (hb.mono hS.size)⟩)⟩) rfl (by go_simp; rfl) ?_
  refine wpAnyS_take (i := 22) rfl (by kernel_rfl) (by kernel_rfl) (by kernel_rfl) (fun _ _ _ h => h) (.inl ⟨by kernel_rfl, fun w' hS => (by have y0 := cell_of hS z00; have y1 := cell_of hS z01; have y2 := cell_of hS z10; have y3 := cell_of hS z11; have y4 := cell_of hS z20; have y5 := cell_of hS z21; have y6 := cell_of hS zp0; have y7 := cell_of hS zp1; have y8 := cell_of hS zp2; have y9 := cell_of hS zq0; have y10 := cell_of hS zq1; have y11 := cell_of hS zq2; go_simp; exact ⟨rfl, hS⟩)⟩) rfl (by go_simp; rfl) ?_
  refine wpAnyS_take (i := 23) rfl (by kernel_rfl) (by kernel_rfl) (by kernel_rfl) (fun _ _ _ h => h) (.inl ⟨by kernel_rfl, fun w' hS => (by have y0 := cell_of hS z00; have y1 := cell_of hS z01; have y2 := cell_of hS z10; have y3 := cell_of hS z11; have y4 := cell_of hS z20; have y5 := cell_of hS z21; have y6 := cell_of hS zp0; have y7 := cell_of hS zp1; have y8 := cell_of hS zp2; have y9 := cell_of hS zq0; have y10 := cell_of hS zq1; have y11 := cell_of hS zq2; go_simp; exact ⟨rfl, hS⟩)⟩) rfl (by go_simp; rfl) ?_
  refine wpAnyS_take (i := 24) rfl (by kernel_rfl) (by kernel_rfl) (by kernel_rfl) (fun _ _ _ h => h) (.inl ⟨by kernel_rfl, fun w' hS => (by have y0 := cell_of hS z00; have y1 := cell_of hS z01; have y2 := cell_of hS z10; have y3 := cell_of hS z11; have y4 := cell_of hS z20; have y5 := cell_of hS z21; have y6 := cell_of hS zp0; have y7 := cell_of hS zp1; have y8 := cell_of hS zp2; have y9 := cell_of hS zq0; have y10 := cell_of hS zq1; have y11 := cell_of hS zq2; go_simp; exact ⟨rfl, hS⟩)⟩) rfl (by go_simp; rfl) ?_
  refine wpAnyS_take (i := 25) rfl (by kernel_rfl) (by kernel_rfl) (by kernel_rfl) (fun _ _ _ h => h) (.inl ⟨by kernel_rfl, fun w' hS => (by have y0 := cell_of hS z00; have y1 := cell_of hS z01; have y2 := cell_of hS z10; have y3 := cell_of hS z11; have y4 := cell_of hS z20; have y5 := cell_of hS z21; have y6 := cell_of hS zp0; have y7 := cell_of hS zp1; have y8 := cell_of hS zp2; have y9 := cell_of hS zq0; have y10 := cell_of hS zq1; have y11 := cell_of hS zq2; go_simp; exact ⟨rfl, hS⟩)⟩) rfl (by go_simp; rfl) ?_
  refine wpAnyS_take (i := 26) rfl (by kernel_rfl) (by kernel_rfl) (by kernel_rfl) (fun _ _ _ h => h) (.inl ⟨by kernel_rfl, fun w' hS => (by have y0 := cell_of hS z00; have y1 := cell_of hS z01; have y2 := cell_of hS z10; have y3 := cell_of hS z11; have y4 := cell_of hS z20; have y5 := cell_of hS z21; have y6 := cell_of hS zp0; have y7 := cell_of hS zp1; have y8 := cell_of hS zp2; have y9 := cell_of hS zq0; have y10 := cell_of hS zq1; have y11 := cell_of hS zq2; go_simp; exact ⟨rfl, hS⟩)⟩) rfl (by go_simp; rfl) ?_
  refine wpAnyS_take (i := 27) rfl (by kernel_rfl) (by kernel_rfl) (by kernel_rfl) (fun _ _ _ h => h) (.inl ⟨by kernel_rfl, fun w' hS => (by have y0 := cell_of hS z00; have y1 := cell_of hS z01; have y2 := cell_of hS z10; have y3 := cell_of hS z11; have y4 := cell_of hS z20; have y5 := cell_of hS z21; have y6 := cell_of hS zp0; have y7 := cell_of hS zp1; have y8 := cell_of hS zp2; have y9 := cell_of hS zq0; have y10 := cell_of hS zq1; have y11 := cell_of hS zq2; go_simp; exact ⟨rfl, hS⟩)⟩) rfl (by go_simp; rfl) ?_
  refine wpAnyS_take (i := 28) rfl (by kernel_rfl) (by kernel_rfl) (by kernel_rfl) (fun _ _ _ h => h) (.inr ⟨by kernel_rfl, rfl⟩) rfl (by go_simp; rfl) ?_
  refine wpAnyS_take (i := 29) rfl (by kernel_rfl) (by kernel_rfl) (by kernel_rfl) (fun _ _ _ h => h) (.inr ⟨by kernel_rfl, rfl⟩) rfl (by go_simp; rfl) ?_
  refine wpAnyS_take (i := 30) rfl (by kernel_rfl) (by kernel_rfl) (by kernel_rfl) (fun _ _ _ h => h) (.inl ⟨by kernel_rfl, fun w' hS => (by have y0 := cell_of hS z00; have y1 := cell_of hS z01; have y2 := cell_of hS z10; have y3 := cell_of hS z11; have y4 := cell_of hS z20; have y5 := cell_of hS z21; have y6 := cell_of hS zp0; have y7 := cell_of hS zp1; have y8 := cell_of hS zp2; have y9 := cell_of hS zq0; have y10 := cell_of hS zq1; have y11 := cell_of hS zq2; go_simp; exact ⟨rfl, hS⟩)⟩) rfl (by go_simp; rfl) ?_
  refine wpAnyS_take (i := 31) rfl (by kernel_rfl) (by kernel_rfl) (by kernel_rfl) (fun _ _ _ h => h) (.inl ⟨by kernel_rfl, fun w' hS => (by have y0 := cell_of hS z00; have y1 := cell_of hS z01; have y2 := cell_of hS z10; have y3 := cell_of hS z11; have y4 := cell_of hS z20; have y5 := cell_of hS z21; have y6 := cell_of hS zp0; have y7 := cell_of hS zp1; have y8 := cell_of hS zp2; have y9 := cell_of hS zq0; have y10 := cell_of hS zq1; have y11 := cell_of hS zq2; go_simp; exact ⟨rfl, hS⟩)⟩) rfl (by go_simp; rfl) ?_
  refine wpAnyS_take (i := 32) rfl (by kernel_rfl) (by kernel_rfl) (by kernel_rfl) (fun _ _ _ h => h) (.inr ⟨by kernel_rfl, rfl⟩) rfl (by go_simp; rfl) ?_
  refine wpAnyS_take (i := 33) rfl (by kernel_rfl) (by kernel_rfl) (by kernel_rfl) (fun _ _ _ h => h) (.inr ⟨by kernel_rfl, rfl⟩) rfl (by go_simp; rfl) ?_
  refine wpAnyS_take (i := 34) rfl (by kernel_rfl) (by kernel_rfl) (by kernel_rfl) (fun _ _ _ h => h) (.inr ⟨by kernel_rfl, rfl⟩) rfl (by go_simp; rfl) ?_
  refine wpAnyS_take (i := 35) rfl (by kernel_rfl) (by kernel_rfl) (by kernel_rfl) (fun _ _ _ h => h) (.inr ⟨by kernel_rfl, rfl⟩) rfl (by go_simp; rfl) ?_
  refine wpAnyS_take (i := 36) rfl (by kernel_rfl) (by kernel_rfl) (by kernel_rfl) (fun _ _ _ h => h) (.inr ⟨by kernel_rfl, rfl⟩) rfl (by go_simp; rfl) ?_
  refine wpAnyS_take (i := 37) rfl (by kernel_rfl) (by kernel_rfl) (by kernel_rfl) (fun _ _ _ h => h) (.inr ⟨by kernel_rfl, rfl⟩) rfl (by go_simp; rfl) ?_
  refine wpAnyS_take (i := 38) rfl (by kernel_rfl) (by kernel_rfl) (by kernel_rfl) (fun _ _ _ h => h) (.inr ⟨by kernel_rfl, rfl⟩) rfl (by go_simp; rfl) ?_
  refine wpAnyS_take (i := 39) rfl (by kernel_rfl) (by kernel_rfl) (by kernel_rfl) (fun _ _ _ h => h) (.inl ⟨by kernel_rfl, fun w' hS => (by have y0 := cell_of hS z00; have y1 := cell_of hS z01; have y2 := cell_of hS z10; have y3 := cell_of hS z11; have y4 := cell_of hS z20; have y5 := cell_of hS z21; have y6 := cell_of hS zp0; have y7 := cell_of hS zp1; have y8 := cell_of hS zp2; have y9 := cell_of hS zq0; have y10 := cell_of hS zq1; have y11 := cell_of hS zq2; go_simp; exact ⟨rfl, hS⟩)⟩) rfl (by go_simp; rfl) ?_
  refine wpAnyS_take (i := 40) rfl (by kernel_rfl) (by kernel_rfl) (by kernel_rfl) (fun _ _ _ h => h) (.inl ⟨by kernel_rfl, fun w' hS => (by have y0 := cell_of hS z00; have y1 := cell_of hS z01; have y2 := cell_of hS z10; have y3 := cell_of hS z11; have y4 := cell_of hS z20; have y5 := cell_of hS z21; have y6 := cell_of hS zp0; have y7 := cell_of hS zp1; have y8 := cell_of hS zp2; have y9 := cell_of hS zq0; have y10 := cell_of hS zq1; have y11 := cell_of hS zq2; go_simp; exact ⟨rfl, hS⟩)⟩) rfl (by go_simp; rfl) ?_
  refine wpAnyS_take (i := 41) rfl (by kernel_rfl) (by kernel_rfl) (by kernel_rfl) (fun _ _ _ h => h) (.inl ⟨by kernel_rfl, fun w' hS => (by have y0 := cell_of hS z00; have y1 := cell_of hS z01; have y2 := cell_of hS z10; have y3 := cell_of hS z11; have y4 := cell_of hS z20; have y5 := cell_of hS z21; have y6 := cell_of hS zp0; have y7 := cell_of hS zp1; have y8 := cell_of hS zp2; have y9 := cell_of hS zq0; have y10 := cell_of hS zq1; have y11 := cell_of hS zq2; go_simp; exact ⟨rfl, hS⟩)⟩) rfl (by go_simp; rfl) ?_
  refine wpAnyS_take (i := 42) rfl (by kernel_rfl) (by kernel_rfl) (by kernel_rfl) (fun _ _ _ h => h) (.inl ⟨by kernel_rfl, fun w' hS => (by have y0 := cell_of hS z00; have y1 := cell_of hS z01; have y2 := cell_of hS z10; have y3 := cell_of hS z11; have y4 := cell_of hS z20; have y5 := cell_of hS z21; have y6 := cell_of hS zp0; have y7 := cell_of hS zp1; have y8 := cell_of hS zp2; have y9 := cell_of hS zq0; have y10 := cell_of hS zq1; have y11 := cell_of hS zq2; go_simp; exact ⟨rfl, hS⟩)⟩) rfl (by go_simp; rfl) ?_
  refine wpAnyS_take (i := 43) rfl (by kernel_rfl) (by kernel_rfl) (by kernel_rfl) (fun _ _ _ h => h) (.inl ⟨by kernel_rfl, fun w' hS => (by have y0 := cell_of hS z00; have y1 := cell_of hS z01; have y2 := cell_of hS z10; have y3 := cell_of hS z11; have y4 := cell_of hS z20; have y5 := cell_of hS z21; have y6 := cell_of hS zp0; have y7 := cell_of hS zp1; have y8 := cell_of hS zp2; have y9 := cell_of hS zq0; have y10 := cell_of hS zq1; have y11 := cell_of hS zq2; go_simp; exact ⟨rfl, hS⟩)⟩) rfl (by go_simp; rfl) ?_
  refine wpAnyS_take (i := 44) rfl (by kernel_rfl) (by kernel_rfl) (by kernel_rfl) (fun _ _ _ h => h) (.inl ⟨by kernel_rfl, fun w' hS => (by have y0 := cell_of hS z00; have y1 := cell_of hS z01; have y2 := cell_of hS z10; have y3 := cell_of hS z11; have y4 := cell_of hS z20; have y5 := cell_of hS z21; have y6 := cell_of hS zp0; have y7 := cell_of hS zp1; have y8 := cell_of hS zp2; have y9 := cell_of hS zq0; have y10 := cell_of hS zq1; have y11 := cell_of hS zq2; go_simp; exact ⟨rfl, hS⟩)⟩) rfl (by go_simp; rfl) ?_
  refine wpAnyS_take (i := 45) rfl (by kernel_rfl) (by kernel_rfl) (by kernel_rfl) (fun _ _ _ h => h) (.inl ⟨by kernel_rfl, fun w' hS => (by have y0 := cell_of hS z00; have y1 := cell_of hS z01; have y2 := cell_of hS z10; have y3 := cell_of hS z11; have y4 := cell_of hS z20; have y5 := cell_of hS z21; have y6 := cell_of hS zp0; have y7 := cell_of hS zp1; have y8 := cell_of hS zp2; have y9 := cell_of hS zq0; have y10 := cell_of hS zq1; have y11 := cell_of hS zq2; go_simp; exact ⟨rfl, hS⟩)⟩) rfl (by go_simp; rfl) ?_
  refine wpAnyS_take (i := 46) rfl (by kernel_rfl) (by kernel_rfl) (by kernel_rfl) (fun _ _ _ h => h) (.inl ⟨by kernel_rfl, fun w' hS => (by have y0 := cell_of hS z00; have y1 := cell_of hS z01; have y2 := cell_of hS z10; have y3 := cell_of hS z11; have y4 := cell_of hS z20; have y5 := cell_of hS z21; have y6 := cell_of hS zp0; have y7 := cell_of hS zp1; have y8 := cell_of hS zp2; have y9 := cell_of hS zq0; have y10 := cell_of hS zq1; have y11 := cell_of hS zq2; go_simp; exact ⟨rfl, hS⟩)⟩) rfl (by go_simp; rfl) ?_
  refine wpAnyS_take (i := 47) rfl (by kernel_rfl) (by kernel_rfl) (by kernel_rfl) (fun _ _ _ h => h) (.inl ⟨by kernel_rfl, fun w' hS => (by have y0 := cell_of hS z00; have y1 := cell_of hS z01; have y2 := cell_of hS z10; have y3 := cell_of hS z11; have y4 := cell_of hS z20; have y5 := cell_of hS z21; have y6 := cell_of hS zp0; have y7 := cell_of hS zp1; have y8 := cell_of hS zp2; have y9 := cell_of hS zq0; have y10 := cell_of hS zq1; have y11 := cell_of hS zq2; go_simp; exact ⟨rfl, hS⟩)⟩) rfl (by go_simp; rfl) ?_
  refine wpAnyS_take (i := 48) rfl (by kernel_rfl) (by kernel_rfl) (by kernel_rfl) (fun _ _ _ h => h) (.inl ⟨by kernel_rfl, fun w' hS => (by go_simp; refine Calls.mono (join24i pe pk pq pe (rst (val ak aq)) rfl HK.out HQ.out hp8 _ VJ.out _ (TW.out.below hS)) ?_; intro e w'' hE; obtain ⟨he, hb⟩ := hE; exact ⟨he, hS.trans (hb.mono hS.size)⟩)⟩) rfl (by go_simp; rfl) ?_
  refine wpAnyS_take (i := 49) rfl (by kernel_rfl) (by kernel_rfl) (by kernel_rfl) (fun _ _ _ h => h) (.inl ⟨by kernel_rfl, fun w' hS => (by have y0 := cell_of hS z00; have y1 := cell_of hS z01; have y2 := cell_of hS z10; have y3 := cell_of hS z11; have y4 := cell_of hS z20; have y5 := cell_of hS z21; have y6 := cell_of hS zp0; have y7 := cell_of hS zp1; have y8 := cell_of hS zp2; have y9 := cell_of hS zq0; have y10 := cell_of hS zq1; have y11 := cell_of hS zq2; go_simp; exact ⟨rfl, hS⟩)⟩) rfl (by go_simp; rfl) ?_
  refine wpAnyS_take (i := 50) rfl (by kernel_rfl) (by kernel_rfl) (by kernel_rfl) (fun _ _ _ h => h) (.inl ⟨by kernel_rfl, fun w' hS => (by go_simp; refine Calls.mono (form17i ak aq aq rfl ha40 _ VA.out _) ?_; intro e w'' hE; obtain ⟨he, hb⟩ := hE; exact ⟨he, hS.trans (hb.mono hS.size)⟩)⟩) rfl (by go_simp; rfl) ?_
  refine wpAnyS_take (i := 51) rfl (by kernel_rfl) (by kernel_rfl) (by kernel_rfl) (fun _ _ _ h => h) (.inl ⟨by kernel_rfl, fun w' hS => (by have y0 := cell_of hS z00; have y1 := cell_of hS z01; have y2 := cell_of hS z10; have y3 := cell_of hS z11; have y4 := cell_of hS z20; have y5 := cell_of hS z21; have y6 := cell_of hS zp0; have y7 := cell_of hS zp1; have y8 := cell_of hS zp2; have y9 := cell_of hS zq0; have y10 := cell_of hS zq1; have y11 := cell_of hS zq2; go_simp; exact ⟨rfl, hS⟩)⟩) rfl (by go_simp; rfl) ?_
  refine wpAnyS_take (i := 52) rfl (by kernel_rfl) (by kernel_rfl) (by kernel_rfl) (fun _ _ _ h => h) (.inl ⟨by kernel_rfl, fun w' hS => (by have y0 := cell_of hS z00; have y1 := cell_of hS z01; have y2 := cell_of hS z10; have y3 := cell_of hS z11; have y4 := cell_of hS z20; have y5 := cell_of hS z21; have y6 := cell_of hS zp0; have y7 := cell_of hS zp1; have y8 := cell_of hS zp2; have y9 := cell_of hS zq0; have y10 := cell_of hS zq1; have y11 := cell_of hS zq2; go_simp; exact ⟨rfl, hS⟩)⟩) rfl (by go_simp; rfl) ?_
  refine wpAnyS_take (i := 53) rfl (by kernel_rfl) (by kernel_rfl) (by kernel_rfl) (fun _ _ _ h => h) (.inl ⟨by kernel_rfl, fun w' hS => (by have y0 := cell_of hS z00; have y1 := cell_of hS z01; have y2 := cell_of hS z10; have y3 := cell_of hS z11; have y4 := cell_of hS z20; have y5 := cell_of hS z21; have y6 := cell_of hS zp0; have y7 := cell_of hS zp1; have y8 := cell_of hS zp2; have y9 := cell_of hS zq0; have y10 := cell_of hS zq1; have y11 := cell_of hS zq2; go_simp; exact ⟨rfl, hS⟩)⟩) rfl (by go_simp; rfl) ?_
  refine wpAnyS_done (by kernel_rfl) (fun w11 hS => ?_) _
  have HB11 := Lib.hid (HB10.out.trans (hS.mono HB10.out.size))
  have TW11 := Lib.hid (TW10.out.below hS)
  replace z00 := cell_of hS z00
  replace z01 := cell_of hS z01
  replace z10 := cell_of hS z10
  replace z11 := cell_of hS z11
  replace z20 := cell_of hS z20
  replace z21 := cell_of hS z21
  replace zp0 := cell_of hS zp0
  replace zp1 := cell_of hS zp1
  replace zp2 := cell_of hS zp2
  replace zq0 := cell_of hS zq0
  replace zq1 := cell_of hS zq1
  replace zq2 := cell_of hS zq2
  clear hS TW HB10 TW10
  go_wp2
  go_ret
  exact ⟨rfl, HB11.out⟩

set_option maxRecDepth 100000 in
set_option maxHeartbeats 8000000 in
theorem turnTells_hi (xk xq ak bk n e : Int) (aq bq : Nat) (ha40 : aq ≤ 40) (hb40 : bq ≤ 40) (hak0 : -1099511627776 ≤ ak) (hak1 : ak ≤ 1099511627776) (hbk0 : -1099511627776 ≤ bk) (hbk1 : bk ≤ 1099511627776) (hn : 1048576 < n) (w : World) (ht : Tab w) : Calls Tryd.prog 3 #[Ag xk xq, Ag ak aq, Ag bk bq, .int .i64 n, .int .i64 e] w (Says w true) := by
  have T0 := Lib.hid ht
  have HA := Lib.hid (isR_true (k := ak) (q := aq) ⟨by omega, by omega, hak0, hak1⟩)
  have HB := Lib.hid (isR_true (k := bk) (q := bq) ⟨by omega, by omega, hbk0, hbk1⟩)
  obtain ⟨fk1, fq1, v1⟩ := T_any (val ak aq)
  obtain ⟨fk2, fq2, v2⟩ := T_any (val ak aq + val bk bq)
  obtain ⟨fk3, fq3, v3⟩ := T_any (- val ak aq)
  obtain ⟨fk4, fq4, v4⟩ := T_any (n * val ak aq)
  have VA := Lib.hid v1
  have VS := Lib.hid v2
  have VF := Lib.hid v3
  have VT := Lib.hid v4
  have hp8 := eig_lt (val ak aq)
  obtain ⟨pe, hpe⟩ : ∃ pe, eig (val ak aq) = pe := ⟨_, rfl⟩
  obtain ⟨pk, hpk⟩ : ∃ pk, fk (rst (val ak aq)) = pk := ⟨_, rfl⟩
  obtain ⟨pq, hpq⟩ : ∃ pq, fq (rst (val ak aq)) = pq := ⟨_, rfl⟩
  rw [hpe] at hp8
  have VP : Hid (PT (val ak aq) = .agg #[.int .i64 pe, .int .i64 pk, .int .i64 pq]) := Lib.hid (by rw [PT, hpe, hpk, hpq])
  have HK : Hid ((pk : Int) = (fk (rst (val ak aq)) : Nat)) := Lib.hid (by rw [hpk])
  have HQ : Hid ((pq : Int) = (fq (rst (val ak aq)) : Nat)) := Lib.hid (by rw [hpq])
  have VJ : Hid (T (joined pe (rst (val ak aq))) = .agg #[.int .i64 fk1, .int .i64 fq1]) := Lib.hid (by rw [← hpe, T_congr (joined_of (val ak aq)), v1])
  clear ht v1 v2 v3 v4 hpe hpk hpq
  have d1 : decide (n < -1048576) = false := decide_eq_false (by omega)
  have d2 : decide (1048576 < n) = true := decide_eq_true hn
  go_enter Tryd.func3, Tryd.ntmps3
  go_wp2_with fail
  obtain ⟨w0, hW⟩ : ∃ w0, (((w.alloc (.cells #[.int .i64 xk, .int .i64 xq] 23)).alloc (.cells #[.int .i64 ak, .int .i64 aq] 23)).alloc (.cells #[.int .i64 bk, .int .i64 bq] 23)) = w0 := ⟨_, rfl⟩
  have HB0 : Hid (Below w.heap.size w w0) := Lib.hid (by rw [← hW]; exact ((((Below.refl w.heap.size w).alloc (by first | exact Nat.le_refl _ | (simp; done) | (simp; omega)) _).alloc (by first | exact Nat.le_refl _ | (simp; done) | (simp; omega)) _).alloc (by first | exact Nat.le_refl _ | (simp; done) | (simp; omega)) _))
  have TW0 := Lib.hid (T0.out.below HB0.out)
  have z00 : w0.cell? ⟨w.heap.size, 0, none⟩ = some (.int .i64 xk) := by rw [← hW]; simp [go_sem]
  have z01 : w0.cell? ⟨w.heap.size, 1, none⟩ = some (.int .i64 xq) := by rw [← hW]; simp [go_sem]
  have z10 : w0.cell? ⟨w.heap.size + 1, 0, none⟩ = some (.int .i64 ak) := by rw [← hW]; simp [go_sem]
  have z11 : w0.cell? ⟨w.heap.size + 1, 1, none⟩ = some (.int .i64 aq) := by rw [← hW]; simp [go_sem]
  have z20 : w0.cell? ⟨w.heap.size + 1 + 1, 0, none⟩ = some (.int .i64 bk) := by rw [← hW]; simp [go_sem]
  have z21 : w0.cell? ⟨w.heap.size + 1 + 1, 1, none⟩ = some (.int .i64 bq) := by rw [← hW]; simp [go_sem]
  rw [hW]
  clear hW
  refine Calls.mono (l6_head _ TW0.out) ?_
  rintro e' w1 ⟨rfl, hb⟩
  have HB1 := Lib.hid (HB0.out.trans (hb.mono HB0.out.size))
  have TW1 := Lib.hid (TW0.out.below hb)
  replace z00 := cell_of hb z00
  replace z01 := cell_of hb z01
  replace z10 := cell_of hb z10
  replace z11 := cell_of hb z11
  replace z20 := cell_of hb z20
  replace z21 := cell_of hb z21
  clear hb HB0 TW0
  go_wp2_with fail
  refine Calls.mono (place10 e _) ?_
  rintro e' w2 ⟨rfl, hb⟩
  have HB2 := Lib.hid (HB1.out.trans (hb.mono HB1.out.size))
  have TW2 := Lib.hid (TW1.out.below hb)
  replace z00 := cell_of hb z00
  replace z01 := cell_of hb z01
  replace z10 := cell_of hb z10
  replace z11 := cell_of hb z11
  replace z20 := cell_of hb z20
  replace z21 := cell_of hb z21
  clear hb HB1 TW1
  go_wp2_with fail
  refine Calls.mono (place11 e _) ?_
  rintro e' w3 ⟨rfl, hb⟩
  have HB3 := Lib.hid (HB2.out.trans (hb.mono HB2.out.size))
  have TW3 := Lib.hid (TW2.out.below hb)
  replace z00 := cell_of hb z00
  replace z01 := cell_of hb z01
  replace z10 := cell_of hb z10
  replace z11 := cell_of hb z11
  replace z20 := cell_of hb z20
  replace z21 := cell_of hb z21
  clear hb HB2 TW2
  go_wp2_with fail
  generalize p1 e = pa
  generalize p2 e = pb
  generalize p3 e = pc
  have TW := TW3
  refine wp_region_det (S := Below w3.heap.size w3) (by kernel_rfl) (Below.refl _ w3).drew ?_
  refine wpAnyS_take (i := 0) rfl (by kernel_rfl) (by kernel_rfl) (by kernel_rfl) (fun _ _ _ h => h) (.inl ⟨by kernel_rfl, fun w' hS => (by have y0 := cell_of hS z00; have y1 := cell_of hS z01; have y2 := cell_of hS z10; have y3 := cell_of hS z11; have y4 := cell_of hS z20; have y5 := cell_of hS z21; go_simp; exact ⟨rfl, hS⟩)⟩) rfl (by go_simp; rfl) ?_
  refine wpAnyS_take (i := 1) rfl (by kernel_rfl) (by kernel_rfl) (by kernel_rfl) (fun _ _ _ h => h) (.inl ⟨by kernel_rfl, fun w' hS => (by go_simp; refine Calls.mono (right12 xk xq _) ?_; intro e w'' hE; obtain ⟨he, hb⟩ := hE; exact ⟨he, hS.trans (hb.mono hS.size)⟩)⟩) rfl (by go_simp; rfl) ?_
  refine wpAnyS_take (i := 2) rfl (by kernel_rfl) (by kernel_rfl) (by kernel_rfl) (fun _ _ _ h => h) (.inl ⟨by kernel_rfl, fun w' hS => (by have y0 := cell_of hS z00; have y1 := cell_of hS z01; have y2 := cell_of hS z10; have y3 := cell_of hS z11; have y4 := cell_of hS z20; have y5 := cell_of hS z21; go_simp; exact ⟨rfl, hS⟩)⟩) rfl (by go_simp; rfl) ?_
  refine wpAnyS_take (i := 3) rfl (by kernel_rfl) (by kernel_rfl) (by kernel_rfl) (fun _ _ _ h => h) (.inl ⟨by kernel_rfl, fun w' hS => (by go_simp; refine Calls.mono (right13 xk xq _) ?_; intro e w'' hE; obtain ⟨he, hb⟩ := hE; exact ⟨he, hS.trans (hb.mono hS.size)⟩)⟩) rfl (by go_simp; rfl) ?_
  refine wpAnyS_take (i := 4) rfl (by kernel_rfl) (by kernel_rfl) (by kernel_rfl) (fun _ _ _ h => h) (.inl ⟨by kernel_rfl, fun w' hS => (by have y0 := cell_of hS z00; have y1 := cell_of hS z01; have y2 := cell_of hS z10; have y3 := cell_of hS z11; have y4 := cell_of hS z20; have y5 := cell_of hS z21; go_simp; exact ⟨rfl, hS⟩)⟩) rfl (by go_simp; rfl) ?_
  refine wpAnyS_take (i := 5) rfl (by kernel_rfl) (by kernel_rfl) (by kernel_rfl) (fun _ _ _ h => h) (.inl ⟨by kernel_rfl, fun w' hS => (by have y0 := cell_of hS z00; have y1 := cell_of hS z01; have y2 := cell_of hS z10; have y3 := cell_of hS z11; have y4 := cell_of hS z20; have y5 := cell_of hS z21; go_simp; exact ⟨rfl, hS⟩)⟩) rfl (by go_simp; rfl) ?_
  refine wpAnyS_take (i := 6) rfl (by kernel_rfl) (by kernel_rfl) (by kernel_rfl) (fun _ _ _ h => h) (.inl ⟨by kernel_rfl, fun w' hS => (by have y0 := cell_of hS z00; have y1 := cell_of hS z01; have y2 := cell_of hS z10; have y3 := cell_of hS z11; have y4 := cell_of hS z20; have y5 := cell_of hS z21; go_simp; exact ⟨rfl, hS⟩)⟩) rfl (by go_simp; rfl) ?_
  refine wpAnyS_take (i := 7) rfl (by kernel_rfl) (by kernel_rfl) (by kernel_rfl) (fun _ _ _ h => h) (.inl ⟨by kernel_rfl, fun w' hS => (by have y0 := cell_of hS z00; have y1 := cell_of hS z01; have y2 := cell_of hS z10; have y3 := cell_of hS z11; have y4 := cell_of hS z20; have y5 := cell_of hS z21; go_simp; exact ⟨rfl, hS⟩)⟩) rfl (by go_simp; rfl) ?_
  refine wpAnyS_take (i := 8) rfl (by kernel_rfl) (by kernel_rfl) (by kernel_rfl) (fun _ _ _ h => h) (.inl ⟨by kernel_rfl, fun w' hS => (by have y0 := cell_of hS z00; have y1 := cell_of hS z01; have y2 := cell_of hS z10; have y3 := cell_of hS z11; have y4 := cell_of hS z20; have y5 := cell_of hS z21; go_simp; exact ⟨rfl, hS⟩)⟩) rfl (by go_simp; rfl) ?_
  refine wpAnyS_take (i := 9) rfl (by kernel_rfl) (by kernel_rfl) (by kernel_rfl) (fun _ _ _ h => h) (.inl ⟨by kernel_rfl, fun w' hS => (by have y0 := cell_of hS z00; have y1 := cell_of hS z01; have y2 := cell_of hS z10; have y3 := cell_of hS z11; have y4 := cell_of hS z20; have y5 := cell_of hS z21; go_simp; exact ⟨rfl, hS⟩)⟩) rfl (by go_simp; rfl) ?_
  refine wpAnyS_take (i := 10) rfl (by kernel_rfl) (by kernel_rfl) (by kernel_rfl) (fun _ _ _ h => h) (.inl ⟨by kernel_rfl, fun w' hS => (by have y0 := cell_of hS z00; have y1 := cell_of hS z01; have y2 := cell_of hS z10; have y3 := cell_of hS z11; have y4 := cell_of hS z20; have y5 := cell_of hS z21; go_simp; exact ⟨rfl, hS⟩)⟩) rfl (by go_simp; rfl) ?_
  refine wpAnyS_take (i := 11) rfl (by kernel_rfl) (by kernel_rfl) (by kernel_rfl) (fun _ _ _ h => h) (.inl ⟨by kernel_rfl, fun w' hS => (by have y0 := cell_of hS z00; have y1 := cell_of hS z01; have y2 := cell_of hS z10; have y3 := cell_of hS z11; have y4 := cell_of hS z20; have y5 := cell_of hS z21; go_simp; exact ⟨rfl, hS⟩)⟩) rfl (by go_simp; rfl) ?_
  refine wpAnyS_take (i := 12) rfl (by kernel_rfl) (by kernel_rfl) (by kernel_rfl) (fun _ _ _ h => h) (.inl ⟨by kernel_rfl, fun w' hS => (by have y0 := cell_of hS z00; have y1 := cell_of hS z01; have y2 := cell_of hS z10; have y3 := cell_of hS z11; have y4 := cell_of hS z20; have y5 := cell_of hS z21; go_simp; exact ⟨rfl, hS⟩)⟩) rfl (by go_simp; rfl) ?_
  refine wpAnyS_take (i := 13) rfl (by kernel_rfl) (by kernel_rfl) (by kernel_rfl) (fun _ _ _ h => h) (.inl ⟨by kernel_rfl, fun w' hS => (by have y0 := cell_of hS z00; have y1 := cell_of hS z01; have y2 := cell_of hS z10; have y3 := cell_of hS z11; have y4 := cell_of hS z20; have y5 := cell_of hS z21; go_simp; exact ⟨rfl, hS⟩)⟩) rfl (by go_simp; rfl) ?_
  refine wpAnyS_take (i := 14) rfl (by kernel_rfl) (by kernel_rfl) (by kernel_rfl) (fun _ _ _ h => h) (.inl ⟨by kernel_rfl, fun w' hS => (by have y0 := cell_of hS z00; have y1 := cell_of hS z01; have y2 := cell_of hS z10; have y3 := cell_of hS z11; have y4 := cell_of hS z20; have y5 := cell_of hS z21; go_simp; exact ⟨rfl, hS⟩)⟩) rfl (by go_simp; rfl) ?_
  refine wpAnyS_take (i := 15) rfl (by kernel_rfl) (by kernel_rfl) (by kernel_rfl) (fun _ _ _ h => h) (.inl ⟨by kernel_rfl, fun w' hS => (by have y0 := cell_of hS z00; have y1 := cell_of hS z01; have y2 := cell_of hS z10; have y3 := cell_of hS z11; have y4 := cell_of hS z20; have y5 := cell_of hS z21; go_simp; exact ⟨rfl, hS⟩)⟩) rfl (by go_simp; rfl) ?_
  refine wpAnyS_take (i := 16) rfl (by kernel_rfl) (by kernel_rfl) (by kernel_rfl) (fun _ _ _ h => h) (.inl ⟨by kernel_rfl, fun w' hS => (by have y0 := cell_of hS z00; have y1 := cell_of hS z01; have y2 := cell_of hS z10; have y3 := cell_of hS z11; have y4 := cell_of hS z20; have y5 := cell_of hS z21; go_simp; exact ⟨rfl, hS⟩)⟩) rfl (by go_simp; rfl) ?_
  refine wpAnyS_take (i := 17) rfl (by kernel_rfl) (by kernel_rfl) (by kernel_rfl) (fun _ _ _ h => h) (.inl ⟨by kernel_rfl, fun w' hS => (by have y0 := cell_of hS z00; have y1 := cell_of hS z01; have y2 := cell_of hS z10; have y3 := cell_of hS z11; have y4 := cell_of hS z20; have y5 := cell_of hS z21; go_simp; exact ⟨rfl, hS⟩)⟩) rfl (by go_simp; rfl) ?_
  refine wpAnyS_take (i := 18) rfl (by kernel_rfl) (by kernel_rfl) (by kernel_rfl) (fun _ _ _ h => h) (.inl ⟨by kernel_rfl, fun w' hS => (by have y0 := cell_of hS z00; have y1 := cell_of hS z01; have y2 := cell_of hS z10; have y3 := cell_of hS z11; have y4 := cell_of hS z20; have y5 := cell_of hS z21; go_simp; exact ⟨rfl, hS⟩)⟩) rfl (by go_simp; rfl) ?_
  refine wpAnyS_take (i := 19) rfl (by kernel_rfl) (by kernel_rfl) (by kernel_rfl) (fun _ _ _ h => h) (.inl ⟨by kernel_rfl, fun w' hS => (by have y0 := cell_of hS z00; have y1 := cell_of hS z01; have y2 := cell_of hS z10; have y3 := cell_of hS z11; have y4 := cell_of hS z20; have y5 := cell_of hS z21; go_simp; exact ⟨rfl, hS⟩)⟩) rfl (by go_simp; rfl) ?_
  refine wpAnyS_done (by kernel_rfl) (fun w4 hS => ?_) _
  have HB4 := Lib.hid (HB3.out.trans (hS.mono HB3.out.size))
  have TW4 := Lib.hid (TW3.out.below hS)
  replace z00 := cell_of hS z00
  replace z01 := cell_of hS z01
  replace z10 := cell_of hS z10
  replace z11 := cell_of hS z11
  replace z20 := cell_of hS z20
  replace z21 := cell_of hS z21
  clear hS TW HB3 TW3
  go_wp2_with fail
  refine Calls.mono (right13 ak aq _) ?_
  rintro e' w5 ⟨rfl, hb⟩
  rw [HA.out]
  have HB5 := Lib.hid (HB4.out.trans (hb.mono HB4.out.size))
  have TW5 := Lib.hid (TW4.out.below hb)
  replace z00 := cell_of hb z00
  replace z01 := cell_of hb z01
  replace z10 := cell_of hb z10
  replace z11 := cell_of hb z11
  replace z20 := cell_of hb z20
  replace z21 := cell_of hb z21
  clear hb HB4 TW4
  go_wp2_with fail
  refine Calls.mono (right13 bk bq _) ?_
  rintro e' w6 ⟨rfl, hb⟩
  rw [HB.out]
  have HB6 := Lib.hid (HB5.out.trans (hb.mono HB5.out.size))
  have TW6 := Lib.hid (TW5.out.below hb)
  replace z00 := cell_of hb z00
  replace z01 := cell_of hb z01
  replace z10 := cell_of hb z10
  replace z11 := cell_of hb z11
  replace z20 := cell_of hb z20
  replace z21 := cell_of hb z21
  clear hb HB5 TW5
  go_wp2_with fail
  refine Calls.mono (split14i ak aq aq rfl ha40 _ VP.out _ TW6.out) ?_
  rintro e' w7 ⟨rfl, hb⟩
  have HB7 := Lib.hid (HB6.out.trans (hb.mono HB6.out.size))
  have TW7 := Lib.hid (TW6.out.below hb)
  replace z00 := cell_of hb z00
  replace z01 := cell_of hb z01
  replace z10 := cell_of hb z10
  replace z11 := cell_of hb z11
  replace z20 := cell_of hb z20
  replace z21 := cell_of hb z21
  clear hb HB6 TW6
  have hlt := cell_lt z10
  go_wp2_with fail
  obtain ⟨w8, hW⟩ : ∃ w8, w7.alloc (.cells #[.int .i64 pe, .int .i64 pk, .int .i64 pq] 29) = w8 := ⟨_, rfl⟩
  have hb : Below w7.heap.size w7 w8 := by rw [← hW]; exact (Below.refl _ _).alloc (Nat.le_refl _) _
  have HB8 := Lib.hid (HB7.out.trans (hb.mono HB7.out.size))
  have TW8 := Lib.hid (TW7.out.below hb)
  replace z00 := cell_of hb z00
  replace z01 := cell_of hb z01
  replace z10 := cell_of hb z10
  replace z11 := cell_of hb z11
  replace z20 := cell_of hb z20
  replace z21 := cell_of hb z21
  have zp0 : w8.cell? ⟨w7.heap.size, 0, none⟩ = some (.int .i64 pe) := by rw [← hW]; simp [go_sem]
  have zp1 : w8.cell? ⟨w7.heap.size, 1, none⟩ = some (.int .i64 pk) := by rw [← hW]; simp [go_sem]
  have zp2 : w8.cell? ⟨w7.heap.size, 2, none⟩ = some (.int .i64 pq) := by rw [← hW]; simp [go_sem]
  rw [hW]
  clear hW hb HB7 TW7
  refine Calls.mono (split15i ak aq aq rfl ha40 _ VP.out _) ?_
  rintro e' w9 ⟨rfl, hb⟩
  have HB9 := Lib.hid (HB8.out.trans (hb.mono HB8.out.size))
  have TW9 := Lib.hid (TW8.out.below hb)
  replace z00 := cell_of hb z00
  replace z01 := cell_of hb z01
  replace z10 := cell_of hb z10
  replace z11 := cell_of hb z11
  replace z20 := cell_of hb z20
  replace z21 := cell_of hb z21
  replace zp0 := cell_of hb zp0
  replace zp1 := cell_of hb zp1
  replace zp2 := cell_of hb zp2
  clear hb HB8 TW8
  go_wp2_with fail
  obtain ⟨w10, hW⟩ : ∃ w10, w9.alloc (.cells #[.int .i64 pe, .int .i64 pk, .int .i64 pq] 29) = w10 := ⟨_, rfl⟩
  have hb : Below w9.heap.size w9 w10 := by rw [← hW]; exact (Below.refl _ _).alloc (Nat.le_refl _) _
  have HB10 := Lib.hid (HB9.out.trans (hb.mono HB9.out.size))
  have TW10 := Lib.hid (TW9.out.below hb)
  replace z00 := cell_of hb z00
  replace z01 := cell_of hb z01
  replace z10 := cell_of hb z10
  replace z11 := cell_of hb z11
  replace z20 := cell_of hb z20
  replace z21 := cell_of hb z21
  replace zp0 := cell_of hb zp0
  replace zp1 := cell_of hb zp1
  replace zp2 := cell_of hb zp2
  have zq0 : w10.cell? ⟨w9.heap.size, 0, none⟩ = some (.int .i64 pe) := by rw [← hW]; simp [go_sem]
  have zq1 : w10.cell? ⟨w9.heap.size, 1, none⟩ = some (.int .i64 pk) := by rw [← hW]; simp [go_sem]
  have zq2 : w10.cell? ⟨w9.heap.size, 2, none⟩ = some (.int .i64 pq) := by rw [← hW]; simp [go_sem]
  rw [hW]
  clear hW hb HB9 TW9
  have TW := TW10
  refine wp_region_det (S := Below w10.heap.size w10) (by kernel_rfl) (Below.refl _ w10).drew ?_
  refine wpAnyS_take (i := 0) rfl (by kernel_rfl) (by kernel_rfl) (by kernel_rfl) (fun _ _ _ h => h) (.inl ⟨by kernel_rfl, fun w' hS => (by have y0 := cell_of hS z00; have y1 := cell_of hS z01; have y2 := cell_of hS z10; have y3 := cell_of hS z11; have y4 := cell_of hS z20; have y5 := cell_of hS z21; have y6 := cell_of hS zp0; have y7 := cell_of hS zp1; have y8 := cell_of hS zp2; have y9 := cell_of hS zq0; have y10 := cell_of hS zq1; have y11 := cell_of hS zq2; go_simp; exact ⟨rfl, hS⟩)⟩) rfl (by go_simp; rfl) ?_
  refine wpAnyS_take (i := 1) rfl (by kernel_rfl) (by kernel_rfl) (by kernel_rfl) (fun _ _ _ h => h) (.inl ⟨by kernel_rfl, fun w' hS => (by have y0 := cell_of hS z00; have y1 := cell_of hS z01; have y2 := cell_of hS z10; have y3 := cell_of hS z11; have y4 := cell_of hS z20; have y5 := cell_of hS z21; have y6 := cell_of hS zp0; have y7 := cell_of hS zp1; have y8 := cell_of hS zp2; have y9 := cell_of hS zq0; have y10 := cell_of hS zq1; have y11 := cell_of hS zq2; go_simp; exact ⟨rfl, hS⟩)⟩) rfl (by go_simp; rfl) ?_
  refine wpAnyS_take (i := 2) rfl (by kernel_rfl) (by kernel_rfl) (by kernel_rfl) (fun _ _ _ h => h) (.inl ⟨by kernel_rfl, fun w' hS => (by have y0 := cell_of hS z00; have y1 := cell_of hS z01; have y2 := cell_of hS z10; have y3 := cell_of hS z11; have y4 := cell_of hS z20; have y5 := cell_of hS z21; have y6 := cell_of hS zp0; have y7 := cell_of hS zp1; have y8 := cell_of hS zp2; have y9 := cell_of hS zq0; have y10 := cell_of hS zq1; have y11 := cell_of hS zq2; go_simp; exact ⟨rfl, hS⟩)⟩) rfl (by go_simp; rfl) ?_
  refine wpAnyS_take (i := 3) rfl (by kernel_rfl) (by kernel_rfl) (by kernel_rfl) (fun _ _ _ h => h) (.inl ⟨by kernel_rfl, fun w' hS => (by go_simp; refine Calls.mono (form16i ak aq aq rfl ha40 _ VA.out _ (TW.out.below hS)) ?_; intro e w'' hE; obtain ⟨he, hb⟩ := hE; exact ⟨he, hS.trans (hb.mono hS.size)⟩)⟩) rfl (by go_simp; rfl) ?_
  refine wpAnyS_take (i := 4) rfl (by kernel_rfl) (by kernel_rfl) (by kernel_rfl) (fun _ _ _ h => h) (.inl ⟨by kernel_rfl, fun w' hS => (by have y0 := cell_of hS z00; have y1 := cell_of hS z01; have y2 := cell_of hS z10; have y3 := cell_of hS z11; have y4 := cell_of hS z20; have y5 := cell_of hS z21; have y6 := cell_of hS zp0; have y7 := cell_of hS zp1; have y8 := cell_of hS zp2; have y9 := cell_of hS zq0; have y10 := cell_of hS zq1; have y11 := cell_of hS zq2; go_simp; exact ⟨rfl, hS⟩)⟩) rfl (by go_simp; rfl) ?_
  refine wpAnyS_take (i := 5) rfl (by kernel_rfl) (by kernel_rfl) (by kernel_rfl) (fun _ _ _ h => h) (.inl ⟨by kernel_rfl, fun w' hS => (by go_simp; refine Calls.mono (form17i ak aq aq rfl ha40 _ VA.out _) ?_; intro e w'' hE; obtain ⟨he, hb⟩ := hE; exact ⟨he, hS.trans (hb.mono hS.size)⟩)⟩) rfl (by go_simp; rfl) ?_
  refine wpAnyS_take (i := 6) rfl (by kernel_rfl) (by kernel_rfl) (by kernel_rfl) (fun _ _ _ h => h) (.inl ⟨by kernel_rfl, fun w' hS => (by have y0 := cell_of hS z00; have y1 := cell_of hS z01; have y2 := cell_of hS z10; have y3 := cell_of hS z11; have y4 := cell_of hS z20; have y5 := cell_of hS z21; have y6 := cell_of hS zp0; have y7 := cell_of hS zp1; have y8 := cell_of hS zp2; have y9 := cell_of hS zq0; have y10 := cell_of hS zq1; have y11 := cell_of hS zq2; go_simp; exact ⟨rfl, hS⟩)⟩) rfl (by go_simp; rfl) ?_
  refine wpAnyS_take (i := 7) rfl (by kernel_rfl) (by kernel_rfl) (by kernel_rfl) (fun _ _ _ h => h) (.inl ⟨by kernel_rfl, fun w' hS => (by have y0 := cell_of hS z00; have y1 := cell_of hS z01; have y2 := cell_of hS z10; have y3 := cell_of hS z11; have y4 := cell_of hS z20; have y5 := cell_of hS z21; have y6 := cell_of hS zp0; have y7 := cell_of hS zp1; have y8 := cell_of hS zp2; have y9 := cell_of hS zq0; have y10 := cell_of hS zq1; have y11 := cell_of hS zq2; go_simp; exact ⟨rfl, hS⟩)⟩) rfl (by go_simp; rfl) ?_
  refine wpAnyS_take (i := 8) rfl (by kernel_rfl) (by kernel_rfl) (by kernel_rfl) (fun _ _ _ h => h) (.inl ⟨by kernel_rfl, fun w' hS => (by have y0 := cell_of hS z00; have y1 := cell_of hS z01; have y2 := cell_of hS z10; have y3 := cell_of hS z11; have y4 := cell_of hS z20; have y5 := cell_of hS z21; have y6 := cell_of hS zp0; have y7 := cell_of hS zp1; have y8 := cell_of hS zp2; have y9 := cell_of hS zq0; have y10 := cell_of hS zq1; have y11 := cell_of hS zq2; go_simp; exact ⟨rfl, hS⟩)⟩) rfl (by go_simp; rfl) ?_
  refine wpAnyS_take (i := 9) rfl (by kernel_rfl) (by kernel_rfl) (by kernel_rfl) (fun _ _ _ h => h) (.inl ⟨by kernel_rfl, fun w' hS => (by have y0 := cell_of hS z00; have y1 := cell_of hS z01; have y2 := cell_of hS z10; have y3 := cell_of hS z11; have y4 := cell_of hS z20; have y5 := cell_of hS z21; have y6 := cell_of hS zp0; have y7 := cell_of hS zp1; have y8 := cell_of hS zp2; have y9 := cell_of hS zq0; have y10 := cell_of hS zq1; have y11 := cell_of hS zq2; go_simp; exact ⟨rfl, hS⟩)⟩) rfl (by go_simp; rfl) ?_
  refine wpAnyS_take (i := 10) rfl (by kernel_rfl) (by kernel_rfl) (by kernel_rfl) (fun _ _ _ h => h) (.inl ⟨by kernel_rfl, fun w' hS => (by have y0 := cell_of hS z00; have y1 := cell_of hS z01; have y2 := cell_of hS z10; have y3 := cell_of hS z11; have y4 := cell_of hS z20; have y5 := cell_of hS z21; have y6 := cell_of hS zp0; have y7 := cell_of hS zp1; have y8 := cell_of hS zp2; have y9 := cell_of hS zq0; have y10 := cell_of hS zq1; have y11 := cell_of hS zq2; go_simp; exact ⟨rfl, hS⟩)⟩) rfl (by go_simp; rfl) ?_
  refine wpAnyS_take (i := 11) rfl (by kernel_rfl) (by kernel_rfl) (by kernel_rfl) (fun _ _ _ h => h) (.inl ⟨by kernel_rfl, fun w' hS => (by go_simp; refine Calls.mono (add18i ak aq bk bq aq bq rfl rfl ha40 hb40 _ VS.out _ (TW.out.below hS)) ?_; intro e w'' hE; obtain ⟨he, hb⟩ := hE; exact ⟨he, hS.trans (hb.mono hS.size)⟩)⟩) rfl (by go_simp; rfl) ?_
  refine wpAnyS_take (i := 12) rfl (by kernel_rfl) (by kernel_rfl) (by kernel_rfl) (fun _ _ _ h => h) (.inl ⟨by kernel_rfl, fun w' hS => (by have y0 := cell_of hS z00; have y1 := cell_of hS z01; have y2 := cell_of hS z10; have y3 := cell_of hS z11; have y4 := cell_of hS z20; have y5 := cell_of hS z21; have y6 := cell_of hS zp0; have y7 := cell_of hS zp1; have y8 := cell_of hS zp2; have y9 := cell_of hS zq0; have y10 := cell_of hS zq1; have y11 := cell_of hS zq2; go_simp; exact ⟨rfl, hS⟩)⟩) rfl (by go_simp; rfl) ?_
  refine wpAnyS_take (i := 13) rfl (by kernel_rfl) (by kernel_rfl) (by kernel_rfl) (fun _ _ _ h => h) (.inl ⟨by kernel_rfl, fun w' hS => (by have y0 := cell_of hS z00; have y1 := cell_of hS z01; have y2 := cell_of hS z10; have y3 := cell_of hS z11; have y4 := cell_of hS z20; have y5 := cell_of hS z21; have y6 := cell_of hS zp0; have y7 := cell_of hS zp1; have y8 := cell_of hS zp2; have y9 := cell_of hS zq0; have y10 := cell_of hS zq1; have y11 := cell_of hS zq2; go_simp; exact ⟨rfl, hS⟩)⟩) rfl (by go_simp; rfl) ?_
  refine wpAnyS_take (i := 14) rfl (by kernel_rfl) (by kernel_rfl) (by kernel_rfl) (fun _ _ _ h => h) (.inl ⟨by kernel_rfl, fun w' hS => (by go_simp; refine Calls.mono (add19i ak aq bk bq aq bq rfl rfl ha40 hb40 _ VS.out _) ?_; intro e w'' hE; obtain ⟨he, hb⟩ := hE; exact ⟨he, hS.trans (hb.mono hS.size)⟩)⟩) rfl (by go_simp; rfl) ?_
  refine wpAnyS_take (i := 15) rfl (by kernel_rfl) (by kernel_rfl) (by kernel_rfl) (fun _ _ _ h => h) (.inl ⟨by kernel_rfl, fun w' hS => (by have y0 := cell_of hS z00; have y1 := cell_of hS z01; have y2 := cell_of hS z10; have y3 := cell_of hS z11; have y4 := cell_of hS z20; have y5 := cell_of hS z21; have y6 := cell_of hS zp0; have y7 := cell_of hS zp1; have y8 := cell_of hS zp2; have y9 := cell_of hS zq0; have y10 := cell_of hS zq1; have y11 := cell_of hS zq2; go_simp; exact ⟨rfl, hS⟩)⟩) rfl (by go_simp; rfl) ?_
  refine wpAnyS_take (i := 16) rfl (by kernel_rfl) (by kernel_rfl) (by kernel_rfl) (fun _ _ _ h => h) (.inl ⟨by kernel_rfl, fun w' hS => (by have y0 := cell_of hS z00; have y1 := cell_of hS z01; have y2 := cell_of hS z10; have y3 := cell_of hS z11; have y4 := cell_of hS z20; have y5 := cell_of hS z21; have y6 := cell_of hS zp0; have y7 := cell_of hS zp1; have y8 := cell_of hS zp2; have y9 := cell_of hS zq0; have y10 := cell_of hS zq1; have y11 := cell_of hS zq2; go_simp; exact ⟨rfl, hS⟩)⟩) rfl (by go_simp; rfl) ?_
  refine wpAnyS_take (i := 17) rfl (by kernel_rfl) (by kernel_rfl) (by kernel_rfl) (fun _ _ _ h => h) (.inl ⟨by kernel_rfl, fun w' hS => (by have y0 := cell_of hS z00; have y1 := cell_of hS z01; have y2 := cell_of hS z10; have y3 := cell_of hS z11; have y4 := cell_of hS z20; have y5 := cell_of hS z21; have y6 := cell_of hS zp0; have y7 := cell_of hS zp1; have y8 := cell_of hS zp2; have y9 := cell_of hS zq0; have y10 := cell_of hS zq1; have y11 := cell_of hS zq2; go_simp; exact ⟨rfl, hS⟩)⟩) rfl (by go_simp; rfl) ?_
  refine wpAnyS_take (i := 18) rfl (by kernel_rfl) (by kernel_rfl) (by kernel_rfl) (fun _ _ _ h => h) (.inl ⟨by kernel_rfl, fun w' hS => (by have y0 := cell_of hS z00; have y1 := cell_of hS z01; have y2 := cell_of hS z10; have y3 := cell_of hS z11; have y4 := cell_of hS z20; have y5 := cell_of hS z21; have y6 := cell_of hS zp0; have y7 := cell_of hS zp1; have y8 := cell_of hS zp2; have y9 := cell_of hS zq0; have y10 := cell_of hS zq1; have y11 := cell_of hS zq2; go_simp; exact ⟨rfl, hS⟩)⟩) rfl (by go_simp; rfl) ?_
  refine wpAnyS_take (i := 19) rfl (by kernel_rfl) (by kernel_rfl) (by kernel_rfl) (fun _ _ _ h => h) (.inl ⟨by kernel_rfl, fun w' hS => (by go_simp; refine Calls.mono (flip20i ak aq aq rfl ha40 (by omega) (by omega) _ VF.out _ (TW.out.below hS)) ?_; intro e w'' hE; obtain ⟨he, hb⟩ := hE; exact ⟨he, hS.trans (hb.mono hS.size)⟩)⟩) rfl (by go_simp; rfl) ?_
  refine wpAnyS_take (i := 20) rfl (by kernel_rfl) (by kernel_rfl) (by kernel_rfl) (fun _ _ _ h => h) (.inl ⟨by kernel_rfl, fun w' hS => (by have y0 := cell_of hS z00; have y1 := cell_of hS z01; have y2 := cell_of hS z10; have y3 := cell_of hS z11; have y4 := cell_of hS z20; have y5 := cell_of hS z21; have y6 := cell_of hS zp0; have y7 := cell_of hS zp1; have y8 := cell_of hS zp2; have y9 := cell_of hS zq0; have y10 := cell_of hS zq1; have y11 := cell_of hS zq2; go_simp; exact ⟨rfl, hS⟩)⟩) rfl (by go_simp; rfl) ?_
  refine wpAnyS_take (i := 21) rfl (by kernel_rfl) (by kernel_rfl) (by kernel_rfl) (fun _ _ _ h => h) (.inl ⟨by kernel_rfl, fun w' hS => (by go_simp; refine Calls.mono (flip21i ak aq aq rfl ha40 (by omega) (by omega) _ VF.out _) ?_; intro e w'' hE; obtain ⟨he, hb⟩ := hE; exact ⟨he, hS.trans (hb.mono hS.size)⟩)⟩) rfl (by go_simp; rfl) ?_
  refine wpAnyS_take (i := 22) rfl (by kernel_rfl) (by kernel_rfl) (by kernel_rfl) (fun _ _ _ h => h) (.inl ⟨by kernel_rfl, fun w' hS => (by have y0 := cell_of hS z00; have y1 := cell_of hS z01; have y2 := cell_of hS z10; have y3 := cell_of hS z11; have y4 := cell_of hS z20; have y5 := cell_of hS z21; have y6 := cell_of hS zp0; have y7 := cell_of hS zp1; have y8 := cell_of hS zp2; have y9 := cell_of hS zq0; have y10 := cell_of hS zq1; have y11 := cell_of hS zq2; go_simp; exact ⟨rfl, hS⟩)⟩) rfl (by go_simp; rfl) ?_
  refine wpAnyS_take (i := 23) rfl (by kernel_rfl) (by kernel_rfl) (by kernel_rfl) (fun _ _ _ h => h) (.inl ⟨by kernel_rfl, fun w' hS => (by have y0 := cell_of hS z00; have y1 := cell_of hS z01; have y2 := cell_of hS z10; have y3 := cell_of hS z11; have y4 := cell_of hS z20; have y5 := cell_of hS z21; have y6 := cell_of hS zp0; have y7 := cell_of hS zp1; have y8 := cell_of hS zp2; have y9 := cell_of hS zq0; have y10 := cell_of hS zq1; have y11 := cell_of hS zq2; go_simp; exact ⟨rfl, hS⟩)⟩) rfl (by go_simp; rfl) ?_
  refine wpAnyS_take (i := 24) rfl (by kernel_rfl) (by kernel_rfl) (by kernel_rfl) (fun _ _ _ h => h) (.inl ⟨by kernel_rfl, fun w' hS => (by have y0 := cell_of hS z00; have y1 := cell_of hS z01; have y2 := cell_of hS z10; have y3 := cell_of hS z11; have y4 := cell_of hS z20; have y5 := cell_of hS z21; have y6 := cell_of hS zp0; have y7 := cell_of hS zp1; have y8 := cell_of hS zp2; have y9 := cell_of hS zq0; have y10 := cell_of hS zq1; have y11 := cell_of hS zq2; go_simp; exact ⟨rfl, hS⟩)⟩) rfl (by go_simp; rfl) ?_
  refine wpAnyS_take (i := 25) rfl (by kernel_rfl) (by kernel_rfl) (by kernel_rfl) (fun _ _ _ h => h) (.inl ⟨by kernel_rfl, fun w' hS => (by have y0 := cell_of hS z00; have y1 := cell_of hS z01; have y2 := cell_of hS z10; have y3 := cell_of hS z11; have y4 := cell_of hS z20; have y5 := cell_of hS z21; have y6 := cell_of hS zp0; have y7 := cell_of hS zp1; have y8 := cell_of hS zp2; have y9 := cell_of hS zq0; have y10 := cell_of hS zq1; have y11 := cell_of hS zq2; go_simp; exact ⟨rfl, hS⟩)⟩) rfl (by go_simp; rfl) ?_
  refine wpAnyS_take (i := 26) rfl (by kernel_rfl) (by kernel_rfl) (by kernel_rfl) (fun _ _ _ h => h) (.inl ⟨by kernel_rfl, fun w' hS => (by have y0 := cell_of hS z00; have y1 := cell_of hS z01; have y2 := cell_of hS z10; have y3 := cell_of hS z11; have y4 := cell_of hS z20; have y5 := cell_of hS z21; have y6 := cell_of hS zp0; have y7 := cell_of hS zp1; have y8 := cell_of hS zp2; have y9 := cell_of hS zq0; have y10 := cell_of hS zq1; have y11 := cell_of hS zq2; go_simp; exact ⟨rfl, hS⟩)⟩) rfl (by go_simp; rfl) ?_
  refine wpAnyS_take (i := 27) rfl (by kernel_rfl) (by kernel_rfl) (by kernel_rfl) (fun _ _ _ h => h) (.inl ⟨by kernel_rfl, fun w' hS => (by have y0 := cell_of hS z00; have y1 := cell_of hS z01; have y2 := cell_of hS z10; have y3 := cell_of hS z11; have y4 := cell_of hS z20; have y5 := cell_of hS z21; have y6 := cell_of hS zp0; have y7 := cell_of hS zp1; have y8 := cell_of hS zp2; have y9 := cell_of hS zq0; have y10 := cell_of hS zq1; have y11 := cell_of hS zq2; go_simp; exact ⟨rfl, hS⟩)⟩) rfl (by go_simp; rfl) ?_
  refine wpAnyS_take (i := 28) rfl (by kernel_rfl) (by kernel_rfl) (by kernel_rfl) (fun _ _ _ h => h) (.inl ⟨by kernel_rfl, fun w' hS => (by have y0 := cell_of hS z00; have y1 := cell_of hS z01; have y2 := cell_of hS z10; have y3 := cell_of hS z11; have y4 := cell_of hS z20; have y5 := cell_of hS z21; have y6 := cell_of hS zp0; have y7 := cell_of hS zp1; have y8 := cell_of hS zp2; have y9 := cell_of hS zq0; have y10 := cell_of hS zq1; have y11 := cell_of hS zq2; go_simp; exact ⟨rfl, hS⟩)⟩) rfl (by go_simp; rfl) ?_
  refine wpAnyS_take (i := 29) rfl (by kernel_rfl) (by kernel_rfl) (by kernel_rfl) (fun _ _ _ h => h) (.inl ⟨by kernel_rfl, fun w' hS => (by have y0 := cell_of hS z00; have y1 := cell_of hS z01; have y2 := cell_of hS z10; have y3 := cell_of hS z11; have y4 := cell_of hS z20; have y5 := cell_of hS z21; have y6 := cell_of hS zp0; have y7 := cell_of hS zp1; have y8 := cell_of hS zp2; have y9 := cell_of hS zq0; have y10 := cell_of hS zq1; have y11 := cell_of hS zq2; go_simp; exact ⟨rfl, hS⟩)⟩) rfl (by go_simp; rfl) ?_
  refine wpAnyS_take (i := 30) rfl (by kernel_rfl) (by kernel_rfl) (by kernel_rfl) (fun _ _ _ h => h) (.inl ⟨by kernel_rfl, fun w' hS => (by have y0 := cell_of hS z00; have y1 := cell_of hS z01; have y2 := cell_of hS z10; have y3 := cell_of hS z11; have y4 := cell_of hS z20; have y5 := cell_of hS z21; have y6 := cell_of hS zp0; have y7 := cell_of hS zp1; have y8 := cell_of hS zp2; have y9 := cell_of hS zq0; have y10 := cell_of hS zq1; have y11 := cell_of hS zq2; go_simp; exact ⟨rfl, hS⟩)⟩) rfl (by go_simp; rfl) ?_
  refine wpAnyS_take (i := 31) rfl (by kernel_rfl) (by kernel_rfl) (by kernel_rfl) (fun _ _ _ h => h) (.inl ⟨by kernel_rfl, fun w' hS => (by have y0 := cell_of hS z00; have y1 := cell_of hS z01; have y2 := cell_of hS z10; have y3 := cell_of hS z11; have y4 := cell_of hS z20; have y5 := cell_of hS z21; have y6 := cell_of hS zp0; have y7 := cell_of hS zp1; have y8 := cell_of hS zp2; have y9 := cell_of hS zq0; have y10 := cell_of hS zq1; have y11 := cell_of hS zq2; go_simp; exact ⟨rfl, hS⟩)⟩) rfl (by go_simp; rfl) ?_
  refine wpAnyS_take (i := 32) rfl (by kernel_rfl) (by kernel_rfl) (by kernel_rfl) (fun _ _ _ h => h) (.inr ⟨by kernel_rfl, rfl⟩) rfl (by go_simp; rfl) ?_
  refine wpAnyS_take (i := 33) rfl (by kernel_rfl) (by kernel_rfl) (by kernel_rfl) (fun _ _ _ h => h) (.inr ⟨by kernel_rfl, rfl⟩) rfl (by go_simp; rfl) ?_
  refine wpAnyS_take (i := 34) rfl (by kernel_rfl) (by kernel_rfl) (by kernel_rfl) (fun _ _ _ h => h) (.inr ⟨by kernel_rfl, rfl⟩) rfl (by go_simp; rfl) ?_
  refine wpAnyS_take (i := 35) rfl (by kernel_rfl) (by kernel_rfl) (by kernel_rfl) (fun _ _ _ h => h) (.inr ⟨by kernel_rfl, rfl⟩) rfl (by go_simp; rfl) ?_
  refine wpAnyS_take (i := 36) rfl (by kernel_rfl) (by kernel_rfl) (by kernel_rfl) (fun _ _ _ h => h) (.inr ⟨by kernel_rfl, rfl⟩) rfl (by go_simp; rfl) ?_
  refine wpAnyS_take (i := 37) rfl (by kernel_rfl) (by kernel_rfl) (by kernel_rfl) (fun _ _ _ h => h) (.inr ⟨by kernel_rfl, rfl⟩) rfl (by go_simp; rfl) ?_
  refine wpAnyS_take (i := 38) rfl (by kernel_rfl) (by kernel_rfl) (by kernel_rfl) (fun _ _ _ h => h) (.inr ⟨by kernel_rfl, rfl⟩) rfl (by go_simp; rfl) ?_
  refine wpAnyS_take (i := 39) rfl (by kernel_rfl) (by kernel_rfl) (by kernel_rfl) (fun _ _ _ h => h) (.inl ⟨by kernel_rfl, fun w' hS => (by have y0 := cell_of hS z00; have y1 := cell_of hS z01; have y2 := cell_of hS z10; have y3 := cell_of hS z11; have y4 := cell_of hS z20; have y5 := cell_of hS z21; have y6 := cell_of hS zp0; have y7 := cell_of hS zp1; have y8 := cell_of hS zp2; have y9 := cell_of hS zq0; have y10 := cell_of hS zq1; have y11 := cell_of hS zq2; go_simp; exact ⟨rfl, hS⟩)⟩) rfl (by go_simp; rfl) ?_
  refine wpAnyS_take (i := 40) rfl (by kernel_rfl) (by kernel_rfl) (by kernel_rfl) (fun _ _ _ h => h) (.inl ⟨by kernel_rfl, fun w' hS => (by have y0 := cell_of hS z00; have y1 := cell_of hS z01; have y2 := cell_of hS z10; have y3 := cell_of hS z11; have y4 := cell_of hS z20; have y5 := cell_of hS z21; have y6 := cell_of hS zp0; have y7 := cell_of hS zp1; have y8 := cell_of hS zp2; have y9 := cell_of hS zq0; have y10 := cell_of hS zq1; have y11 := cell_of hS zq2; go_simp; exact ⟨rfl, hS⟩)⟩) rfl (by go_simp; rfl) ?_
  refine wpAnyS_take (i := 41) rfl (by kernel_rfl) (by kernel_rfl) (by kernel_rfl) (fun _ _ _ h => h) (.inl ⟨by kernel_rfl, fun w' hS => (by have y0 := cell_of hS z00; have y1 := cell_of hS z01; have y2 := cell_of hS z10; have y3 := cell_of hS z11; have y4 := cell_of hS z20; have y5 := cell_of hS z21; have y6 := cell_of hS zp0; have y7 := cell_of hS zp1; have y8 := cell_of hS zp2; have y9 := cell_of hS zq0; have y10 := cell_of hS zq1; have y11 := cell_of hS zq2; go_simp; exact ⟨rfl, hS⟩)⟩) rfl (by go_simp; rfl) ?_
  refine wpAnyS_take (i := 42) rfl (by kernel_rfl) (by kernel_rfl) (by kernel_rfl) (fun _ _ _ h => h) (.inl ⟨by kernel_rfl, fun w' hS => (by have y0 := cell_of hS z00; have y1 := cell_of hS z01; have y2 := cell_of hS z10; have y3 := cell_of hS z11; have y4 := cell_of hS z20; have y5 := cell_of hS z21; have y6 := cell_of hS zp0; have y7 := cell_of hS zp1; have y8 := cell_of hS zp2; have y9 := cell_of hS zq0; have y10 := cell_of hS zq1; have y11 := cell_of hS zq2; go_simp; exact ⟨rfl, hS⟩)⟩) rfl (by go_simp; rfl) ?_
  refine wpAnyS_take (i := 43) rfl (by kernel_rfl) (by kernel_rfl) (by kernel_rfl) (fun _ _ _ h => h) (.inl ⟨by kernel_rfl, fun w' hS => (by have y0 := cell_of hS z00; have y1 := cell_of hS z01; have y2 := cell_of hS z10; have y3 := cell_of hS z11; have y4 := cell_of hS z20; have y5 := cell_of hS z21; have y6 := cell_of hS zp0; have y7 := cell_of hS zp1; have y8 := cell_of hS zp2; have y9 := cell_of hS zq0; have y10 := cell_of hS zq1; have y11 := cell_of hS zq2; go_simp; exact ⟨rfl, hS⟩)⟩) rfl (by go_simp; rfl) ?_
  refine wpAnyS_take (i := 44) rfl (by kernel_rfl) (by kernel_rfl) (by kernel_rfl) (fun _ _ _ h => h) (.inl ⟨by kernel_rfl, fun w' hS => (by have y0 := cell_of hS z00; have y1 := cell_of hS z01; have y2 := cell_of hS z10; have y3 := cell_of hS z11; have y4 := cell_of hS z20; have y5 := cell_of hS z21; have y6 := cell_of hS zp0; have y7 := cell_of hS zp1; have y8 := cell_of hS zp2; have y9 := cell_of hS zq0; have y10 := cell_of hS zq1; have y11 := cell_of hS zq2; go_simp; exact ⟨rfl, hS⟩)⟩) rfl (by go_simp; rfl) ?_
  refine wpAnyS_take (i := 45) rfl (by kernel_rfl) (by kernel_rfl) (by kernel_rfl) (fun _ _ _ h => h) (.inl ⟨by kernel_rfl, fun w' hS => (by have y0 := cell_of hS z00; have y1 := cell_of hS z01; have y2 := cell_of hS z10; have y3 := cell_of hS z11; have y4 := cell_of hS z20; have y5 := cell_of hS z21; have y6 := cell_of hS zp0; have y7 := cell_of hS zp1; have y8 := cell_of hS zp2; have y9 := cell_of hS zq0; have y10 := cell_of hS zq1; have y11 := cell_of hS zq2; go_simp; exact ⟨rfl, hS⟩)⟩) rfl (by go_simp; rfl) ?_
  refine wpAnyS_take (i := 46) rfl (by kernel_rfl) (by kernel_rfl) (by kernel_rfl) (fun _ _ _ h => h) (.inl ⟨by kernel_rfl, fun w' hS => (by have y0 := cell_of hS z00; have y1 := cell_of hS z01; have y2 := cell_of hS z10; have y3 := cell_of hS z11; have y4 := cell_of hS z20; have y5 := cell_of hS z21; have y6 := cell_of hS zp0; have y7 := cell_of hS zp1; have y8 := cell_of hS zp2; have y9 := cell_of hS zq0; have y10 := cell_of hS zq1; have y11 := cell_of hS zq2; go_simp; exact ⟨rfl, hS⟩)⟩) rfl (by go_simp; rfl) ?_
  refine wpAnyS_take (i := 47) rfl (by kernel_rfl) (by kernel_rfl) (by kernel_rfl) (fun _ _ _ h => h) (.inl ⟨by kernel_rfl, fun w' hS => (by have y0 := cell_of hS z00; have y1 := cell_of hS z01; have y2 := cell_of hS z10; have y3 := cell_of hS z11; have y4 := cell_of hS z20; have y5 := cell_of hS z21; have y6 := cell_of hS zp0; have y7 := cell_of hS zp1; have y8 := cell_of hS zp2; have y9 := cell_of hS zq0; have y10 := cell_of hS zq1; have y11 := cell_of hS zq2; go_simp; exact ⟨rfl, hS⟩)⟩) rfl (by go_simp; rfl) ?_
  refine wpAnyS_take (i := 48) rfl (by kernel_rfl) (by kernel_rfl) (by kernel_rfl) (fun _ _ _ h => h) (.inl ⟨by kernel_rfl, fun w' hS => (by go_simp; refine Calls.mono (join24i pe pk pq pe (rst (val ak aq)) rfl HK.out HQ.out hp8 _ VJ.out _ (TW.out.below hS)) ?_; intro e w'' hE; obtain ⟨he, hb⟩ := hE; exact ⟨he, hS.trans (hb.mono hS.size)⟩)⟩) rfl (by go_simp; rfl) ?_
  refine wpAnyS_take (i := 49) rfl (by kernel_rfl) (by kernel_rfl) (by kernel_rfl) (fun _ _ _ h => h) (.inl ⟨by kernel_rfl, fun w' hS => (by have y0 := cell_of hS z00; have y1 := cell_of hS z01; have y2 := cell_of hS z10; have y3 := cell_of hS z11; have y4 := cell_of hS z20; have y5 := cell_of hS z21; have y6 := cell_of hS zp0; have y7 := cell_of hS zp1; have y8 := cell_of hS zp2; have y9 := cell_of hS zq0; have y10 := cell_of hS zq1; have y11 := cell_of hS zq2; go_simp; exact ⟨rfl, hS⟩)⟩) rfl (by go_simp; rfl) ?_
  refine wpAnyS_take (i := 50) rfl (by kernel_rfl) (by kernel_rfl) (by kernel_rfl) (fun _ _ _ h => h) (.inl ⟨by kernel_rfl, fun w' hS => (by go_simp; refine Calls.mono (form17i ak aq aq rfl ha40 _ VA.out _) ?_; intro e w'' hE; obtain ⟨he, hb⟩ := hE; exact ⟨he, hS.trans (hb.mono hS.size)⟩)⟩) rfl (by go_simp; rfl) ?_
  refine wpAnyS_take (i := 51) rfl (by kernel_rfl) (by kernel_rfl) (by kernel_rfl) (fun _ _ _ h => h) (.inl ⟨by kernel_rfl, fun w' hS => (by have y0 := cell_of hS z00; have y1 := cell_of hS z01; have y2 := cell_of hS z10; have y3 := cell_of hS z11; have y4 := cell_of hS z20; have y5 := cell_of hS z21; have y6 := cell_of hS zp0; have y7 := cell_of hS zp1; have y8 := cell_of hS zp2; have y9 := cell_of hS zq0; have y10 := cell_of hS zq1; have y11 := cell_of hS zq2; go_simp; exact ⟨rfl, hS⟩)⟩) rfl (by go_simp; rfl) ?_
  refine wpAnyS_take (i := 52) rfl (by kernel_rfl) (by kernel_rfl) (by kernel_rfl) (fun _ _ _ h => h) (.inl ⟨by kernel_rfl, fun w' hS => (by have y0 := cell_of hS z00; have y1 := cell_of hS z01; have y2 := cell_of hS z10; have y3 := cell_of hS z11; have y4 := cell_of hS z20; have y5 := cell_of hS z21; have y6 := cell_of hS zp0; have y7 := cell_of hS zp1; have y8 := cell_of hS zp2; have y9 := cell_of hS zq0; have y10 := cell_of hS zq1; have y11 := cell_of hS zq2; go_simp; exact ⟨rfl, hS⟩)⟩) rfl (by go_simp; rfl) ?_
  refine wpAnyS_take (i := 53) rfl (by kernel_rfl) (by kernel_rfl) (by kernel_rfl) (fun _ _ _ h => h) (.inl ⟨by kernel_rfl, fun w' hS => (by have y0 := cell_of hS z00; have y1 := cell_of hS z01; have y2 := cell_of hS z10; have y3 := cell_of hS z11; have y4 := cell_of hS z20; have y5 := cell_of hS z21; have y6 := cell_of hS zp0; have y7 := cell_of hS zp1; have y8 := cell_of hS zp2; have y9 := cell_of hS zq0; have y10 := cell_of hS zq1; have y11 := cell_of hS zq2; go_simp; exact ⟨rfl, hS⟩)⟩) rfl (by go_simp; rfl) ?_
  refine wpAnyS_done (by kernel_rfl) (fun w11 hS => ?_) _
  have HB11 := Lib.hid (HB10.out.trans (hS.mono HB10.out.size))
  have TW11 := Lib.hid (TW10.out.below hS)
  replace z00 := cell_of hS z00
  replace z01 := cell_of hS z01
  replace z10 := cell_of hS z10
  replace z11 := cell_of hS z11
  replace z20 := cell_of hS z20
  replace z21 := cell_of hS z21
  replace zp0 := cell_of hS zp0
  replace zp1 := cell_of hS zp1
  replace zp2 := cell_of hS zp2
  replace zq0 := cell_of hS zq0
  replace zq1 := cell_of hS zq1
  replace zq2 := cell_of hS zq2
  clear hS TW HB10 TW10
  go_wp2
  go_ret
  exact ⟨rfl, HB11.out⟩

set_option maxRecDepth 100000 in
set_option maxHeartbeats 8000000 in
theorem turnTells_in (xk xq ak bk n e : Int) (aq bq : Nat) (ha40 : aq ≤ 40) (hb40 : bq ≤ 40) (hak0 : -1099511627776 ≤ ak) (hak1 : ak ≤ 1099511627776) (hbk0 : -1099511627776 ≤ bk) (hbk1 : bk ≤ 1099511627776) (hn : -1048576 ≤ n) (hn2 : n ≤ 1048576) (w : World) (ht : Tab w) : Calls Tryd.prog 3 #[Ag xk xq, Ag ak aq, Ag bk bq, .int .i64 n, .int .i64 e] w (Says w true) := by
  have T0 := Lib.hid ht
  have HA := Lib.hid (isR_true (k := ak) (q := aq) ⟨by omega, by omega, hak0, hak1⟩)
  have HB := Lib.hid (isR_true (k := bk) (q := bq) ⟨by omega, by omega, hbk0, hbk1⟩)
  obtain ⟨fk1, fq1, v1⟩ := T_any (val ak aq)
  obtain ⟨fk2, fq2, v2⟩ := T_any (val ak aq + val bk bq)
  obtain ⟨fk3, fq3, v3⟩ := T_any (- val ak aq)
  obtain ⟨fk4, fq4, v4⟩ := T_any (n * val ak aq)
  have VA := Lib.hid v1
  have VS := Lib.hid v2
  have VF := Lib.hid v3
  have VT := Lib.hid v4
  have hp8 := eig_lt (val ak aq)
  obtain ⟨pe, hpe⟩ : ∃ pe, eig (val ak aq) = pe := ⟨_, rfl⟩
  obtain ⟨pk, hpk⟩ : ∃ pk, fk (rst (val ak aq)) = pk := ⟨_, rfl⟩
  obtain ⟨pq, hpq⟩ : ∃ pq, fq (rst (val ak aq)) = pq := ⟨_, rfl⟩
  rw [hpe] at hp8
  have VP : Hid (PT (val ak aq) = .agg #[.int .i64 pe, .int .i64 pk, .int .i64 pq]) := Lib.hid (by rw [PT, hpe, hpk, hpq])
  have HK : Hid ((pk : Int) = (fk (rst (val ak aq)) : Nat)) := Lib.hid (by rw [hpk])
  have HQ : Hid ((pq : Int) = (fq (rst (val ak aq)) : Nat)) := Lib.hid (by rw [hpq])
  have VJ : Hid (T (joined pe (rst (val ak aq))) = .agg #[.int .i64 fk1, .int .i64 fq1]) := Lib.hid (by rw [← hpe, T_congr (joined_of (val ak aq)), v1])
  clear ht v1 v2 v3 v4 hpe hpk hpq
  have d1 : decide (n < -1048576) = false := decide_eq_false (by omega)
  have d2 : decide (1048576 < n) = false := decide_eq_false (by omega)
  go_enter Tryd.func3, Tryd.ntmps3
  go_wp2_with fail
  obtain ⟨w0, hW⟩ : ∃ w0, (((w.alloc (.cells #[.int .i64 xk, .int .i64 xq] 23)).alloc (.cells #[.int .i64 ak, .int .i64 aq] 23)).alloc (.cells #[.int .i64 bk, .int .i64 bq] 23)) = w0 := ⟨_, rfl⟩
  have HB0 : Hid (Below w.heap.size w w0) := Lib.hid (by rw [← hW]; exact ((((Below.refl w.heap.size w).alloc (by first | exact Nat.le_refl _ | (simp; done) | (simp; omega)) _).alloc (by first | exact Nat.le_refl _ | (simp; done) | (simp; omega)) _).alloc (by first | exact Nat.le_refl _ | (simp; done) | (simp; omega)) _))
  have TW0 := Lib.hid (T0.out.below HB0.out)
  have z00 : w0.cell? ⟨w.heap.size, 0, none⟩ = some (.int .i64 xk) := by rw [← hW]; simp [go_sem]
  have z01 : w0.cell? ⟨w.heap.size, 1, none⟩ = some (.int .i64 xq) := by rw [← hW]; simp [go_sem]
  have z10 : w0.cell? ⟨w.heap.size + 1, 0, none⟩ = some (.int .i64 ak) := by rw [← hW]; simp [go_sem]
  have z11 : w0.cell? ⟨w.heap.size + 1, 1, none⟩ = some (.int .i64 aq) := by rw [← hW]; simp [go_sem]
  have z20 : w0.cell? ⟨w.heap.size + 1 + 1, 0, none⟩ = some (.int .i64 bk) := by rw [← hW]; simp [go_sem]
  have z21 : w0.cell? ⟨w.heap.size + 1 + 1, 1, none⟩ = some (.int .i64 bq) := by rw [← hW]; simp [go_sem]
  rw [hW]
  clear hW
  refine Calls.mono (l6_head _ TW0.out) ?_
  rintro e' w1 ⟨rfl, hb⟩
  have HB1 := Lib.hid (HB0.out.trans (hb.mono HB0.out.size))
  have TW1 := Lib.hid (TW0.out.below hb)
  replace z00 := cell_of hb z00
  replace z01 := cell_of hb z01
  replace z10 := cell_of hb z10
  replace z11 := cell_of hb z11
  replace z20 := cell_of hb z20
  replace z21 := cell_of hb z21
  clear hb HB0 TW0
  go_wp2_with fail
  refine Calls.mono (place10 e _) ?_
  rintro e' w2 ⟨rfl, hb⟩
  have HB2 := Lib.hid (HB1.out.trans (hb.mono HB1.out.size))
  have TW2 := Lib.hid (TW1.out.below hb)
  replace z00 := cell_of hb z00
  replace z01 := cell_of hb z01
  replace z10 := cell_of hb z10
  replace z11 := cell_of hb z11
  replace z20 := cell_of hb z20
  replace z21 := cell_of hb z21
  clear hb HB1 TW1
  go_wp2_with fail
  refine Calls.mono (place11 e _) ?_
  rintro e' w3 ⟨rfl, hb⟩
  have HB3 := Lib.hid (HB2.out.trans (hb.mono HB2.out.size))
  have TW3 := Lib.hid (TW2.out.below hb)
  replace z00 := cell_of hb z00
  replace z01 := cell_of hb z01
  replace z10 := cell_of hb z10
  replace z11 := cell_of hb z11
  replace z20 := cell_of hb z20
  replace z21 := cell_of hb z21
  clear hb HB2 TW2
  go_wp2_with fail
  generalize p1 e = pa
  generalize p2 e = pb
  generalize p3 e = pc
  have TW := TW3
  refine wp_region_det (S := Below w3.heap.size w3) (by kernel_rfl) (Below.refl _ w3).drew ?_
  refine wpAnyS_take (i := 0) rfl (by kernel_rfl) (by kernel_rfl) (by kernel_rfl) (fun _ _ _ h => h) (.inl ⟨by kernel_rfl, fun w' hS => (by have y0 := cell_of hS z00; have y1 := cell_of hS z01; have y2 := cell_of hS z10; have y3 := cell_of hS z11; have y4 := cell_of hS z20; have y5 := cell_of hS z21; go_simp; exact ⟨rfl, hS⟩)⟩) rfl (by go_simp; rfl) ?_
  refine wpAnyS_take (i := 1) rfl (by kernel_rfl) (by kernel_rfl) (by kernel_rfl) (fun _ _ _ h => h) (.inl ⟨by kernel_rfl, fun w' hS => (by go_simp; refine Calls.mono (right12 xk xq _) ?_; intro e w'' hE; obtain ⟨he, hb⟩ := hE; exact ⟨he, hS.trans (hb.mono hS.size)⟩)⟩) rfl (by go_simp; rfl) ?_
  refine wpAnyS_take (i := 2) rfl (by kernel_rfl) (by kernel_rfl) (by kernel_rfl) (fun _ _ _ h => h) (.inl ⟨by kernel_rfl, fun w' hS => (by have y0 := cell_of hS z00; have y1 := cell_of hS z01; have y2 := cell_of hS z10; have y3 := cell_of hS z11; have y4 := cell_of hS z20; have y5 := cell_of hS z21; go_simp; exact ⟨rfl, hS⟩)⟩) rfl (by go_simp; rfl) ?_
  refine wpAnyS_take (i := 3) rfl (by kernel_rfl) (by kernel_rfl) (by kernel_rfl) (fun _ _ _ h => h) (.inl ⟨by kernel_rfl, fun w' hS => (by go_simp; refine Calls.mono (right13 xk xq _) ?_; intro e w'' hE; obtain ⟨he, hb⟩ := hE; exact ⟨he, hS.trans (hb.mono hS.size)⟩)⟩) rfl (by go_simp; rfl) ?_
  refine wpAnyS_take (i := 4) rfl (by kernel_rfl) (by kernel_rfl) (by kernel_rfl) (fun _ _ _ h => h) (.inl ⟨by kernel_rfl, fun w' hS => (by have y0 := cell_of hS z00; have y1 := cell_of hS z01; have y2 := cell_of hS z10; have y3 := cell_of hS z11; have y4 := cell_of hS z20; have y5 := cell_of hS z21; go_simp; exact ⟨rfl, hS⟩)⟩) rfl (by go_simp; rfl) ?_
  refine wpAnyS_take (i := 5) rfl (by kernel_rfl) (by kernel_rfl) (by kernel_rfl) (fun _ _ _ h => h) (.inl ⟨by kernel_rfl, fun w' hS => (by have y0 := cell_of hS z00; have y1 := cell_of hS z01; have y2 := cell_of hS z10; have y3 := cell_of hS z11; have y4 := cell_of hS z20; have y5 := cell_of hS z21; go_simp; exact ⟨rfl, hS⟩)⟩) rfl (by go_simp; rfl) ?_
  refine wpAnyS_take (i := 6) rfl (by kernel_rfl) (by kernel_rfl) (by kernel_rfl) (fun _ _ _ h => h) (.inl ⟨by kernel_rfl, fun w' hS => (by have y0 := cell_of hS z00; have y1 := cell_of hS z01; have y2 := cell_of hS z10; have y3 := cell_of hS z11; have y4 := cell_of hS z20; have y5 := cell_of hS z21; go_simp; exact ⟨rfl, hS⟩)⟩) rfl (by go_simp; rfl) ?_
  refine wpAnyS_take (i := 7) rfl (by kernel_rfl) (by kernel_rfl) (by kernel_rfl) (fun _ _ _ h => h) (.inl ⟨by kernel_rfl, fun w' hS => (by have y0 := cell_of hS z00; have y1 := cell_of hS z01; have y2 := cell_of hS z10; have y3 := cell_of hS z11; have y4 := cell_of hS z20; have y5 := cell_of hS z21; go_simp; exact ⟨rfl, hS⟩)⟩) rfl (by go_simp; rfl) ?_
  refine wpAnyS_take (i := 8) rfl (by kernel_rfl) (by kernel_rfl) (by kernel_rfl) (fun _ _ _ h => h) (.inl ⟨by kernel_rfl, fun w' hS => (by have y0 := cell_of hS z00; have y1 := cell_of hS z01; have y2 := cell_of hS z10; have y3 := cell_of hS z11; have y4 := cell_of hS z20; have y5 := cell_of hS z21; go_simp; exact ⟨rfl, hS⟩)⟩) rfl (by go_simp; rfl) ?_
  refine wpAnyS_take (i := 9) rfl (by kernel_rfl) (by kernel_rfl) (by kernel_rfl) (fun _ _ _ h => h) (.inl ⟨by kernel_rfl, fun w' hS => (by have y0 := cell_of hS z00; have y1 := cell_of hS z01; have y2 := cell_of hS z10; have y3 := cell_of hS z11; have y4 := cell_of hS z20; have y5 := cell_of hS z21; go_simp; exact ⟨rfl, hS⟩)⟩) rfl (by go_simp; rfl) ?_
  refine wpAnyS_take (i := 10) rfl (by kernel_rfl) (by kernel_rfl) (by kernel_rfl) (fun _ _ _ h => h) (.inl ⟨by kernel_rfl, fun w' hS => (by have y0 := cell_of hS z00; have y1 := cell_of hS z01; have y2 := cell_of hS z10; have y3 := cell_of hS z11; have y4 := cell_of hS z20; have y5 := cell_of hS z21; go_simp; exact ⟨rfl, hS⟩)⟩) rfl (by go_simp; rfl) ?_
  refine wpAnyS_take (i := 11) rfl (by kernel_rfl) (by kernel_rfl) (by kernel_rfl) (fun _ _ _ h => h) (.inl ⟨by kernel_rfl, fun w' hS => (by have y0 := cell_of hS z00; have y1 := cell_of hS z01; have y2 := cell_of hS z10; have y3 := cell_of hS z11; have y4 := cell_of hS z20; have y5 := cell_of hS z21; go_simp; exact ⟨rfl, hS⟩)⟩) rfl (by go_simp; rfl) ?_
  refine wpAnyS_take (i := 12) rfl (by kernel_rfl) (by kernel_rfl) (by kernel_rfl) (fun _ _ _ h => h) (.inl ⟨by kernel_rfl, fun w' hS => (by have y0 := cell_of hS z00; have y1 := cell_of hS z01; have y2 := cell_of hS z10; have y3 := cell_of hS z11; have y4 := cell_of hS z20; have y5 := cell_of hS z21; go_simp; exact ⟨rfl, hS⟩)⟩) rfl (by go_simp; rfl) ?_
  refine wpAnyS_take (i := 13) rfl (by kernel_rfl) (by kernel_rfl) (by kernel_rfl) (fun _ _ _ h => h) (.inl ⟨by kernel_rfl, fun w' hS => (by have y0 := cell_of hS z00; have y1 := cell_of hS z01; have y2 := cell_of hS z10; have y3 := cell_of hS z11; have y4 := cell_of hS z20; have y5 := cell_of hS z21; go_simp; exact ⟨rfl, hS⟩)⟩) rfl (by go_simp; rfl) ?_
  refine wpAnyS_take (i := 14) rfl (by kernel_rfl) (by kernel_rfl) (by kernel_rfl) (fun _ _ _ h => h) (.inl ⟨by kernel_rfl, fun w' hS => (by have y0 := cell_of hS z00; have y1 := cell_of hS z01; have y2 := cell_of hS z10; have y3 := cell_of hS z11; have y4 := cell_of hS z20; have y5 := cell_of hS z21; go_simp; exact ⟨rfl, hS⟩)⟩) rfl (by go_simp; rfl) ?_
  refine wpAnyS_take (i := 15) rfl (by kernel_rfl) (by kernel_rfl) (by kernel_rfl) (fun _ _ _ h => h) (.inl ⟨by kernel_rfl, fun w' hS => (by have y0 := cell_of hS z00; have y1 := cell_of hS z01; have y2 := cell_of hS z10; have y3 := cell_of hS z11; have y4 := cell_of hS z20; have y5 := cell_of hS z21; go_simp; exact ⟨rfl, hS⟩)⟩) rfl (by go_simp; rfl) ?_
  refine wpAnyS_take (i := 16) rfl (by kernel_rfl) (by kernel_rfl) (by kernel_rfl) (fun _ _ _ h => h) (.inl ⟨by kernel_rfl, fun w' hS => (by have y0 := cell_of hS z00; have y1 := cell_of hS z01; have y2 := cell_of hS z10; have y3 := cell_of hS z11; have y4 := cell_of hS z20; have y5 := cell_of hS z21; go_simp; exact ⟨rfl, hS⟩)⟩) rfl (by go_simp; rfl) ?_
  refine wpAnyS_take (i := 17) rfl (by kernel_rfl) (by kernel_rfl) (by kernel_rfl) (fun _ _ _ h => h) (.inl ⟨by kernel_rfl, fun w' hS => (by have y0 := cell_of hS z00; have y1 := cell_of hS z01; have y2 := cell_of hS z10; have y3 := cell_of hS z11; have y4 := cell_of hS z20; have y5 := cell_of hS z21; go_simp; exact ⟨rfl, hS⟩)⟩) rfl (by go_simp; rfl) ?_
  refine wpAnyS_take (i := 18) rfl (by kernel_rfl) (by kernel_rfl) (by kernel_rfl) (fun _ _ _ h => h) (.inl ⟨by kernel_rfl, fun w' hS => (by have y0 := cell_of hS z00; have y1 := cell_of hS z01; have y2 := cell_of hS z10; have y3 := cell_of hS z11; have y4 := cell_of hS z20; have y5 := cell_of hS z21; go_simp; exact ⟨rfl, hS⟩)⟩) rfl (by go_simp; rfl) ?_
  refine wpAnyS_take (i := 19) rfl (by kernel_rfl) (by kernel_rfl) (by kernel_rfl) (fun _ _ _ h => h) (.inl ⟨by kernel_rfl, fun w' hS => (by have y0 := cell_of hS z00; have y1 := cell_of hS z01; have y2 := cell_of hS z10; have y3 := cell_of hS z11; have y4 := cell_of hS z20; have y5 := cell_of hS z21; go_simp; exact ⟨rfl, hS⟩)⟩) rfl (by go_simp; rfl) ?_
  refine wpAnyS_done (by kernel_rfl) (fun w4 hS => ?_) _
  have HB4 := Lib.hid (HB3.out.trans (hS.mono HB3.out.size))
  have TW4 := Lib.hid (TW3.out.below hS)
  replace z00 := cell_of hS z00
  replace z01 := cell_of hS z01
  replace z10 := cell_of hS z10
  replace z11 := cell_of hS z11
  replace z20 := cell_of hS z20
  replace z21 := cell_of hS z21
  clear hS TW HB3 TW3
  go_wp2_with fail
  refine Calls.mono (right13 ak aq _) ?_
  rintro e' w5 ⟨rfl, hb⟩
  rw [HA.out]
  have HB5 := Lib.hid (HB4.out.trans (hb.mono HB4.out.size))
  have TW5 := Lib.hid (TW4.out.below hb)
  replace z00 := cell_of hb z00
  replace z01 := cell_of hb z01
  replace z10 := cell_of hb z10
  replace z11 := cell_of hb z11
  replace z20 := cell_of hb z20
  replace z21 := cell_of hb z21
  clear hb HB4 TW4
  go_wp2_with fail
  refine Calls.mono (right13 bk bq _) ?_
  rintro e' w6 ⟨rfl, hb⟩
  rw [HB.out]
  have HB6 := Lib.hid (HB5.out.trans (hb.mono HB5.out.size))
  have TW6 := Lib.hid (TW5.out.below hb)
  replace z00 := cell_of hb z00
  replace z01 := cell_of hb z01
  replace z10 := cell_of hb z10
  replace z11 := cell_of hb z11
  replace z20 := cell_of hb z20
  replace z21 := cell_of hb z21
  clear hb HB5 TW5
  go_wp2_with fail
  refine Calls.mono (split14i ak aq aq rfl ha40 _ VP.out _ TW6.out) ?_
  rintro e' w7 ⟨rfl, hb⟩
  have HB7 := Lib.hid (HB6.out.trans (hb.mono HB6.out.size))
  have TW7 := Lib.hid (TW6.out.below hb)
  replace z00 := cell_of hb z00
  replace z01 := cell_of hb z01
  replace z10 := cell_of hb z10
  replace z11 := cell_of hb z11
  replace z20 := cell_of hb z20
  replace z21 := cell_of hb z21
  clear hb HB6 TW6
  have hlt := cell_lt z10
  go_wp2_with fail
  obtain ⟨w8, hW⟩ : ∃ w8, w7.alloc (.cells #[.int .i64 pe, .int .i64 pk, .int .i64 pq] 29) = w8 := ⟨_, rfl⟩
  have hb : Below w7.heap.size w7 w8 := by rw [← hW]; exact (Below.refl _ _).alloc (Nat.le_refl _) _
  have HB8 := Lib.hid (HB7.out.trans (hb.mono HB7.out.size))
  have TW8 := Lib.hid (TW7.out.below hb)
  replace z00 := cell_of hb z00
  replace z01 := cell_of hb z01
  replace z10 := cell_of hb z10
  replace z11 := cell_of hb z11
  replace z20 := cell_of hb z20
  replace z21 := cell_of hb z21
  have zp0 : w8.cell? ⟨w7.heap.size, 0, none⟩ = some (.int .i64 pe) := by rw [← hW]; simp [go_sem]
  have zp1 : w8.cell? ⟨w7.heap.size, 1, none⟩ = some (.int .i64 pk) := by rw [← hW]; simp [go_sem]
  have zp2 : w8.cell? ⟨w7.heap.size, 2, none⟩ = some (.int .i64 pq) := by rw [← hW]; simp [go_sem]
  rw [hW]
  clear hW hb HB7 TW7
  refine Calls.mono (split15i ak aq aq rfl ha40 _ VP.out _) ?_
  rintro e' w9 ⟨rfl, hb⟩
  have HB9 := Lib.hid (HB8.out.trans (hb.mono HB8.out.size))
  have TW9 := Lib.hid (TW8.out.below hb)
  replace z00 := cell_of hb z00
  replace z01 := cell_of hb z01
  replace z10 := cell_of hb z10
  replace z11 := cell_of hb z11
  replace z20 := cell_of hb z20
  replace z21 := cell_of hb z21
  replace zp0 := cell_of hb zp0
  replace zp1 := cell_of hb zp1
  replace zp2 := cell_of hb zp2
  clear hb HB8 TW8
  go_wp2_with fail
  obtain ⟨w10, hW⟩ : ∃ w10, w9.alloc (.cells #[.int .i64 pe, .int .i64 pk, .int .i64 pq] 29) = w10 := ⟨_, rfl⟩
  have hb : Below w9.heap.size w9 w10 := by rw [← hW]; exact (Below.refl _ _).alloc (Nat.le_refl _) _
  have HB10 := Lib.hid (HB9.out.trans (hb.mono HB9.out.size))
  have TW10 := Lib.hid (TW9.out.below hb)
  replace z00 := cell_of hb z00
  replace z01 := cell_of hb z01
  replace z10 := cell_of hb z10
  replace z11 := cell_of hb z11
  replace z20 := cell_of hb z20
  replace z21 := cell_of hb z21
  replace zp0 := cell_of hb zp0
  replace zp1 := cell_of hb zp1
  replace zp2 := cell_of hb zp2
  have zq0 : w10.cell? ⟨w9.heap.size, 0, none⟩ = some (.int .i64 pe) := by rw [← hW]; simp [go_sem]
  have zq1 : w10.cell? ⟨w9.heap.size, 1, none⟩ = some (.int .i64 pk) := by rw [← hW]; simp [go_sem]
  have zq2 : w10.cell? ⟨w9.heap.size, 2, none⟩ = some (.int .i64 pq) := by rw [← hW]; simp [go_sem]
  rw [hW]
  clear hW hb HB9 TW9
  have TW := TW10
  refine wp_region_det (S := Below w10.heap.size w10) (by kernel_rfl) (Below.refl _ w10).drew ?_
  refine wpAnyS_take (i := 0) rfl (by kernel_rfl) (by kernel_rfl) (by kernel_rfl) (fun _ _ _ h => h) (.inl ⟨by kernel_rfl, fun w' hS => (by have y0 := cell_of hS z00; have y1 := cell_of hS z01; have y2 := cell_of hS z10; have y3 := cell_of hS z11; have y4 := cell_of hS z20; have y5 := cell_of hS z21; have y6 := cell_of hS zp0; have y7 := cell_of hS zp1; have y8 := cell_of hS zp2; have y9 := cell_of hS zq0; have y10 := cell_of hS zq1; have y11 := cell_of hS zq2; go_simp; exact ⟨rfl, hS⟩)⟩) rfl (by go_simp; rfl) ?_
  refine wpAnyS_take (i := 1) rfl (by kernel_rfl) (by kernel_rfl) (by kernel_rfl) (fun _ _ _ h => h) (.inl ⟨by kernel_rfl, fun w' hS => (by have y0 := cell_of hS z00; have y1 := cell_of hS z01; have y2 := cell_of hS z10; have y3 := cell_of hS z11; have y4 := cell_of hS z20; have y5 := cell_of hS z21; have y6 := cell_of hS zp0; have y7 := cell_of hS zp1; have y8 := cell_of hS zp2; have y9 := cell_of hS zq0; have y10 := cell_of hS zq1; have y11 := cell_of hS zq2; go_simp; exact ⟨rfl, hS⟩)⟩) rfl (by go_simp; rfl) ?_
  refine wpAnyS_take (i := 2) rfl (by kernel_rfl) (by kernel_rfl) (by kernel_rfl) (fun _ _ _ h => h) (.inl ⟨by kernel_rfl, fun w' hS => (by have y0 := cell_of hS z00; have y1 := cell_of hS z01; have y2 := cell_of hS z10; have y3 := cell_of hS z11; have y4 := cell_of hS z20; have y5 := cell_of hS z21; have y6 := cell_of hS zp0; have y7 := cell_of hS zp1; have y8 := cell_of hS zp2; have y9 := cell_of hS zq0; have y10 := cell_of hS zq1; have y11 := cell_of hS zq2; go_simp; exact ⟨rfl, hS⟩)⟩) rfl (by go_simp; rfl) ?_
  refine wpAnyS_take (i := 3) rfl (by kernel_rfl) (by kernel_rfl) (by kernel_rfl) (fun _ _ _ h => h) (.inl ⟨by kernel_rfl, fun w' hS => (by go_simp; refine Calls.mono (form16i ak aq aq rfl ha40 _ VA.out _ (TW.out.below hS)) ?_; intro e w'' hE; obtain ⟨he, hb⟩ := hE; exact ⟨he, hS.trans (hb.mono hS.size)⟩)⟩) rfl (by go_simp; rfl) ?_
  refine wpAnyS_take (i := 4) rfl (by kernel_rfl) (by kernel_rfl) (by kernel_rfl) (fun _ _ _ h => h) (.inl ⟨by kernel_rfl, fun w' hS => (by have y0 := cell_of hS z00; have y1 := cell_of hS z01; have y2 := cell_of hS z10; have y3 := cell_of hS z11; have y4 := cell_of hS z20; have y5 := cell_of hS z21; have y6 := cell_of hS zp0; have y7 := cell_of hS zp1; have y8 := cell_of hS zp2; have y9 := cell_of hS zq0; have y10 := cell_of hS zq1; have y11 := cell_of hS zq2; go_simp; exact ⟨rfl, hS⟩)⟩) rfl (by go_simp; rfl) ?_
  refine wpAnyS_take (i := 5) rfl (by kernel_rfl) (by kernel_rfl) (by kernel_rfl) (fun _ _ _ h => h) (.inl ⟨by kernel_rfl, fun w' hS => (by go_simp; refine Calls.mono (form17i ak aq aq rfl ha40 _ VA.out _) ?_; intro e w'' hE; obtain ⟨he, hb⟩ := hE; exact ⟨he, hS.trans (hb.mono hS.size)⟩)⟩) rfl (by go_simp; rfl) ?_
  refine wpAnyS_take (i := 6) rfl (by kernel_rfl) (by kernel_rfl) (by kernel_rfl) (fun _ _ _ h => h) (.inl ⟨by kernel_rfl, fun w' hS => (by have y0 := cell_of hS z00; have y1 := cell_of hS z01; have y2 := cell_of hS z10; have y3 := cell_of hS z11; have y4 := cell_of hS z20; have y5 := cell_of hS z21; have y6 := cell_of hS zp0; have y7 := cell_of hS zp1; have y8 := cell_of hS zp2; have y9 := cell_of hS zq0; have y10 := cell_of hS zq1; have y11 := cell_of hS zq2; go_simp; exact ⟨rfl, hS⟩)⟩) rfl (by go_simp; rfl) ?_
  refine wpAnyS_take (i := 7) rfl (by kernel_rfl) (by kernel_rfl) (by kernel_rfl) (fun _ _ _ h => h) (.inl ⟨by kernel_rfl, fun w' hS => (by have y0 := cell_of hS z00; have y1 := cell_of hS z01; have y2 := cell_of hS z10; have y3 := cell_of hS z11; have y4 := cell_of hS z20; have y5 := cell_of hS z21; have y6 := cell_of hS zp0; have y7 := cell_of hS zp1; have y8 := cell_of hS zp2; have y9 := cell_of hS zq0; have y10 := cell_of hS zq1; have y11 := cell_of hS zq2; go_simp; exact ⟨rfl, hS⟩)⟩) rfl (by go_simp; rfl) ?_
  refine wpAnyS_take (i := 8) rfl (by kernel_rfl) (by kernel_rfl) (by kernel_rfl) (fun _ _ _ h => h) (.inl ⟨by kernel_rfl, fun w' hS => (by have y0 := cell_of hS z00; have y1 := cell_of hS z01; have y2 := cell_of hS z10; have y3 := cell_of hS z11; have y4 := cell_of hS z20; have y5 := cell_of hS z21; have y6 := cell_of hS zp0; have y7 := cell_of hS zp1; have y8 := cell_of hS zp2; have y9 := cell_of hS zq0; have y10 := cell_of hS zq1; have y11 := cell_of hS zq2; go_simp; exact ⟨rfl, hS⟩)⟩) rfl (by go_simp; rfl) ?_
  refine wpAnyS_take (i := 9) rfl (by kernel_rfl) (by kernel_rfl) (by kernel_rfl) (fun _ _ _ h => h) (.inl ⟨by kernel_rfl, fun w' hS => (by have y0 := cell_of hS z00; have y1 := cell_of hS z01; have y2 := cell_of hS z10; have y3 := cell_of hS z11; have y4 := cell_of hS z20; have y5 := cell_of hS z21; have y6 := cell_of hS zp0; have y7 := cell_of hS zp1; have y8 := cell_of hS zp2; have y9 := cell_of hS zq0; have y10 := cell_of hS zq1; have y11 := cell_of hS zq2; go_simp; exact ⟨rfl, hS⟩)⟩) rfl (by go_simp; rfl) ?_
  refine wpAnyS_take (i := 10) rfl (by kernel_rfl) (by kernel_rfl) (by kernel_rfl) (fun _ _ _ h => h) (.inl ⟨by kernel_rfl, fun w' hS => (by have y0 := cell_of hS z00; have y1 := cell_of hS z01; have y2 := cell_of hS z10; have y3 := cell_of hS z11; have y4 := cell_of hS z20; have y5 := cell_of hS z21; have y6 := cell_of hS zp0; have y7 := cell_of hS zp1; have y8 := cell_of hS zp2; have y9 := cell_of hS zq0; have y10 := cell_of hS zq1; have y11 := cell_of hS zq2; go_simp; exact ⟨rfl, hS⟩)⟩) rfl (by go_simp; rfl) ?_
  refine wpAnyS_take (i := 11) rfl (by kernel_rfl) (by kernel_rfl) (by kernel_rfl) (fun _ _ _ h => h) (.inl ⟨by kernel_rfl, fun w' hS => (by go_simp; refine Calls.mono (add18i ak aq bk bq aq bq rfl rfl ha40 hb40 _ VS.out _ (TW.out.below hS)) ?_; intro e w'' hE; obtain ⟨he, hb⟩ := hE; exact ⟨he, hS.trans (hb.mono hS.size)⟩)⟩) rfl (by go_simp; rfl) ?_
  refine wpAnyS_take (i := 12) rfl (by kernel_rfl) (by kernel_rfl) (by kernel_rfl) (fun _ _ _ h => h) (.inl ⟨by kernel_rfl, fun w' hS => (by have y0 := cell_of hS z00; have y1 := cell_of hS z01; have y2 := cell_of hS z10; have y3 := cell_of hS z11; have y4 := cell_of hS z20; have y5 := cell_of hS z21; have y6 := cell_of hS zp0; have y7 := cell_of hS zp1; have y8 := cell_of hS zp2; have y9 := cell_of hS zq0; have y10 := cell_of hS zq1; have y11 := cell_of hS zq2; go_simp; exact ⟨rfl, hS⟩)⟩) rfl (by go_simp; rfl) ?_
  refine wpAnyS_take (i := 13) rfl (by kernel_rfl) (by kernel_rfl) (by kernel_rfl) (fun _ _ _ h => h) (.inl ⟨by kernel_rfl, fun w' hS => (by have y0 := cell_of hS z00; have y1 := cell_of hS z01; have y2 := cell_of hS z10; have y3 := cell_of hS z11; have y4 := cell_of hS z20; have y5 := cell_of hS z21; have y6 := cell_of hS zp0; have y7 := cell_of hS zp1; have y8 := cell_of hS zp2; have y9 := cell_of hS zq0; have y10 := cell_of hS zq1; have y11 := cell_of hS zq2; go_simp; exact ⟨rfl, hS⟩)⟩) rfl (by go_simp; rfl) ?_
  refine wpAnyS_take (i := 14) rfl (by kernel_rfl) (by kernel_rfl) (by kernel_rfl) (fun _ _ _ h => h) (.inl ⟨by kernel_rfl, fun w' hS => (by go_simp; refine Calls.mono (add19i ak aq bk bq aq bq rfl rfl ha40 hb40 _ VS.out _) ?_; intro e w'' hE; obtain ⟨he, hb⟩ := hE; exact ⟨he, hS.trans (hb.mono hS.size)⟩)⟩) rfl (by go_simp; rfl) ?_
  refine wpAnyS_take (i := 15) rfl (by kernel_rfl) (by kernel_rfl) (by kernel_rfl) (fun _ _ _ h => h) (.inl ⟨by kernel_rfl, fun w' hS => (by have y0 := cell_of hS z00; have y1 := cell_of hS z01; have y2 := cell_of hS z10; have y3 := cell_of hS z11; have y4 := cell_of hS z20; have y5 := cell_of hS z21; have y6 := cell_of hS zp0; have y7 := cell_of hS zp1; have y8 := cell_of hS zp2; have y9 := cell_of hS zq0; have y10 := cell_of hS zq1; have y11 := cell_of hS zq2; go_simp; exact ⟨rfl, hS⟩)⟩) rfl (by go_simp; rfl) ?_
  refine wpAnyS_take (i := 16) rfl (by kernel_rfl) (by kernel_rfl) (by kernel_rfl) (fun _ _ _ h => h) (.inl ⟨by kernel_rfl, fun w' hS => (by have y0 := cell_of hS z00; have y1 := cell_of hS z01; have y2 := cell_of hS z10; have y3 := cell_of hS z11; have y4 := cell_of hS z20; have y5 := cell_of hS z21; have y6 := cell_of hS zp0; have y7 := cell_of hS zp1; have y8 := cell_of hS zp2; have y9 := cell_of hS zq0; have y10 := cell_of hS zq1; have y11 := cell_of hS zq2; go_simp; exact ⟨rfl, hS⟩)⟩) rfl (by go_simp; rfl) ?_
  refine wpAnyS_take (i := 17) rfl (by kernel_rfl) (by kernel_rfl) (by kernel_rfl) (fun _ _ _ h => h) (.inl ⟨by kernel_rfl, fun w' hS => (by have y0 := cell_of hS z00; have y1 := cell_of hS z01; have y2 := cell_of hS z10; have y3 := cell_of hS z11; have y4 := cell_of hS z20; have y5 := cell_of hS z21; have y6 := cell_of hS zp0; have y7 := cell_of hS zp1; have y8 := cell_of hS zp2; have y9 := cell_of hS zq0; have y10 := cell_of hS zq1; have y11 := cell_of hS zq2; go_simp; exact ⟨rfl, hS⟩)⟩) rfl (by go_simp; rfl) ?_
  refine wpAnyS_take (i := 18) rfl (by kernel_rfl) (by kernel_rfl) (by kernel_rfl) (fun _ _ _ h => h) (.inl ⟨by kernel_rfl, fun w' hS => (by have y0 := cell_of hS z00; have y1 := cell_of hS z01; have y2 := cell_of hS z10; have y3 := cell_of hS z11; have y4 := cell_of hS z20; have y5 := cell_of hS z21; have y6 := cell_of hS zp0; have y7 := cell_of hS zp1; have y8 := cell_of hS zp2; have y9 := cell_of hS zq0; have y10 := cell_of hS zq1; have y11 := cell_of hS zq2; go_simp; exact ⟨rfl, hS⟩)⟩) rfl (by go_simp; rfl) ?_
  refine wpAnyS_take (i := 19) rfl (by kernel_rfl) (by kernel_rfl) (by kernel_rfl) (fun _ _ _ h => h) (.inl ⟨by kernel_rfl, fun w' hS => (by go_simp; refine Calls.mono (flip20i ak aq aq rfl ha40 (by omega) (by omega) _ VF.out _ (TW.out.below hS)) ?_; intro e w'' hE; obtain ⟨he, hb⟩ := hE; exact ⟨he, hS.trans (hb.mono hS.size)⟩)⟩) rfl (by go_simp; rfl) ?_
  refine wpAnyS_take (i := 20) rfl (by kernel_rfl) (by kernel_rfl) (by kernel_rfl) (fun _ _ _ h => h) (.inl ⟨by kernel_rfl, fun w' hS => (by have y0 := cell_of hS z00; have y1 := cell_of hS z01; have y2 := cell_of hS z10; have y3 := cell_of hS z11; have y4 := cell_of hS z20; have y5 := cell_of hS z21; have y6 := cell_of hS zp0; have y7 := cell_of hS zp1; have y8 := cell_of hS zp2; have y9 := cell_of hS zq0; have y10 := cell_of hS zq1; have y11 := cell_of hS zq2; go_simp; exact ⟨rfl, hS⟩)⟩) rfl (by go_simp; rfl) ?_
  refine wpAnyS_take (i := 21) rfl (by kernel_rfl) (by kernel_rfl) (by kernel_rfl) (fun _ _ _ h => h) (.inl ⟨by kernel_rfl, fun w' hS => (by go_simp; refine Calls.mono (flip21i ak aq aq rfl ha40 (by omega) (by omega) _ VF.out _) ?_; intro e w'' hE; obtain ⟨he, hb⟩ := hE; exact ⟨he, hS.trans (hb.mono hS.size)⟩)⟩) rfl (by go_simp; rfl) ?_
  refine wpAnyS_take (i := 22) rfl (by kernel_rfl) (by kernel_rfl) (by kernel_rfl) (fun _ _ _ h => h) (.inl ⟨by kernel_rfl, fun w' hS => (by have y0 := cell_of hS z00; have y1 := cell_of hS z01; have y2 := cell_of hS z10; have y3 := cell_of hS z11; have y4 := cell_of hS z20; have y5 := cell_of hS z21; have y6 := cell_of hS zp0; have y7 := cell_of hS zp1; have y8 := cell_of hS zp2; have y9 := cell_of hS zq0; have y10 := cell_of hS zq1; have y11 := cell_of hS zq2; go_simp; exact ⟨rfl, hS⟩)⟩) rfl (by go_simp; rfl) ?_
  refine wpAnyS_take (i := 23) rfl (by kernel_rfl) (by kernel_rfl) (by kernel_rfl) (fun _ _ _ h => h) (.inl ⟨by kernel_rfl, fun w' hS => (by have y0 := cell_of hS z00; have y1 := cell_of hS z01; have y2 := cell_of hS z10; have y3 := cell_of hS z11; have y4 := cell_of hS z20; have y5 := cell_of hS z21; have y6 := cell_of hS zp0; have y7 := cell_of hS zp1; have y8 := cell_of hS zp2; have y9 := cell_of hS zq0; have y10 := cell_of hS zq1; have y11 := cell_of hS zq2; go_simp; exact ⟨rfl, hS⟩)⟩) rfl (by go_simp; rfl) ?_
  refine wpAnyS_take (i := 24) rfl (by kernel_rfl) (by kernel_rfl) (by kernel_rfl) (fun _ _ _ h => h) (.inl ⟨by kernel_rfl, fun w' hS => (by have y0 := cell_of hS z00; have y1 := cell_of hS z01; have y2 := cell_of hS z10; have y3 := cell_of hS z11; have y4 := cell_of hS z20; have y5 := cell_of hS z21; have y6 := cell_of hS zp0; have y7 := cell_of hS zp1; have y8 := cell_of hS zp2; have y9 := cell_of hS zq0; have y10 := cell_of hS zq1; have y11 := cell_of hS zq2; go_simp; exact ⟨rfl, hS⟩)⟩) rfl (by go_simp; rfl) ?_
  refine wpAnyS_take (i := 25) rfl (by kernel_rfl) (by kernel_rfl) (by kernel_rfl) (fun _ _ _ h => h) (.inl ⟨by kernel_rfl, fun w' hS => (by have y0 := cell_of hS z00; have y1 := cell_of hS z01; have y2 := cell_of hS z10; have y3 := cell_of hS z11; have y4 := cell_of hS z20; have y5 := cell_of hS z21; have y6 := cell_of hS zp0; have y7 := cell_of hS zp1; have y8 := cell_of hS zp2; have y9 := cell_of hS zq0; have y10 := cell_of hS zq1; have y11 := cell_of hS zq2; go_simp; exact ⟨rfl, hS⟩)⟩) rfl (by go_simp; rfl) ?_
  refine wpAnyS_take (i := 26) rfl (by kernel_rfl) (by kernel_rfl) (by kernel_rfl) (fun _ _ _ h => h) (.inl ⟨by kernel_rfl, fun w' hS => (by have y0 := cell_of hS z00; have y1 := cell_of hS z01; have y2 := cell_of hS z10; have y3 := cell_of hS z11; have y4 := cell_of hS z20; have y5 := cell_of hS z21; have y6 := cell_of hS zp0; have y7 := cell_of hS zp1; have y8 := cell_of hS zp2; have y9 := cell_of hS zq0; have y10 := cell_of hS zq1; have y11 := cell_of hS zq2; go_simp; exact ⟨rfl, hS⟩)⟩) rfl (by go_simp; rfl) ?_
  refine wpAnyS_take (i := 27) rfl (by kernel_rfl) (by kernel_rfl) (by kernel_rfl) (fun _ _ _ h => h) (.inl ⟨by kernel_rfl, fun w' hS => (by have y0 := cell_of hS z00; have y1 := cell_of hS z01; have y2 := cell_of hS z10; have y3 := cell_of hS z11; have y4 := cell_of hS z20; have y5 := cell_of hS z21; have y6 := cell_of hS zp0; have y7 := cell_of hS zp1; have y8 := cell_of hS zp2; have y9 := cell_of hS zq0; have y10 := cell_of hS zq1; have y11 := cell_of hS zq2; go_simp; exact ⟨rfl, hS⟩)⟩) rfl (by go_simp; rfl) ?_
  refine wpAnyS_take (i := 28) rfl (by kernel_rfl) (by kernel_rfl) (by kernel_rfl) (fun _ _ _ h => h) (.inl ⟨by kernel_rfl, fun w' hS => (by have y0 := cell_of hS z00; have y1 := cell_of hS z01; have y2 := cell_of hS z10; have y3 := cell_of hS z11; have y4 := cell_of hS z20; have y5 := cell_of hS z21; have y6 := cell_of hS zp0; have y7 := cell_of hS zp1; have y8 := cell_of hS zp2; have y9 := cell_of hS zq0; have y10 := cell_of hS zq1; have y11 := cell_of hS zq2; go_simp; exact ⟨rfl, hS⟩)⟩) rfl (by go_simp; rfl) ?_
  refine wpAnyS_take (i := 29) rfl (by kernel_rfl) (by kernel_rfl) (by kernel_rfl) (fun _ _ _ h => h) (.inl ⟨by kernel_rfl, fun w' hS => (by have y0 := cell_of hS z00; have y1 := cell_of hS z01; have y2 := cell_of hS z10; have y3 := cell_of hS z11; have y4 := cell_of hS z20; have y5 := cell_of hS z21; have y6 := cell_of hS zp0; have y7 := cell_of hS zp1; have y8 := cell_of hS zp2; have y9 := cell_of hS zq0; have y10 := cell_of hS zq1; have y11 := cell_of hS zq2; go_simp; exact ⟨rfl, hS⟩)⟩) rfl (by go_simp; rfl) ?_
  refine wpAnyS_take (i := 30) rfl (by kernel_rfl) (by kernel_rfl) (by kernel_rfl) (fun _ _ _ h => h) (.inl ⟨by kernel_rfl, fun w' hS => (by have y0 := cell_of hS z00; have y1 := cell_of hS z01; have y2 := cell_of hS z10; have y3 := cell_of hS z11; have y4 := cell_of hS z20; have y5 := cell_of hS z21; have y6 := cell_of hS zp0; have y7 := cell_of hS zp1; have y8 := cell_of hS zp2; have y9 := cell_of hS zq0; have y10 := cell_of hS zq1; have y11 := cell_of hS zq2; go_simp; exact ⟨rfl, hS⟩)⟩) rfl (by go_simp; rfl) ?_
  refine wpAnyS_take (i := 31) rfl (by kernel_rfl) (by kernel_rfl) (by kernel_rfl) (fun _ _ _ h => h) (.inl ⟨by kernel_rfl, fun w' hS => (by have y0 := cell_of hS z00; have y1 := cell_of hS z01; have y2 := cell_of hS z10; have y3 := cell_of hS z11; have y4 := cell_of hS z20; have y5 := cell_of hS z21; have y6 := cell_of hS zp0; have y7 := cell_of hS zp1; have y8 := cell_of hS zp2; have y9 := cell_of hS zq0; have y10 := cell_of hS zq1; have y11 := cell_of hS zq2; go_simp; exact ⟨rfl, hS⟩)⟩) rfl (by go_simp; rfl) ?_
  refine wpAnyS_take (i := 32) rfl (by kernel_rfl) (by kernel_rfl) (by kernel_rfl) (fun _ _ _ h => h) (.inl ⟨by kernel_rfl, fun w' hS => (by have y0 := cell_of hS z00; have y1 := cell_of hS z01; have y2 := cell_of hS z10; have y3 := cell_of hS z11; have y4 := cell_of hS z20; have y5 := cell_of hS z21; have y6 := cell_of hS zp0; have y7 := cell_of hS zp1; have y8 := cell_of hS zp2; have y9 := cell_of hS zq0; have y10 := cell_of hS zq1; have y11 := cell_of hS zq2; go_simp; exact ⟨rfl, hS⟩)⟩) rfl (by go_simp; rfl) ?_
  refine wpAnyS_take (i := 33) rfl (by kernel_rfl) (by kernel_rfl) (by kernel_rfl) (fun _ _ _ h => h) (.inl ⟨by kernel_rfl, fun w' hS => (by have y0 := cell_of hS z00; have y1 := cell_of hS z01; have y2 := cell_of hS z10; have y3 := cell_of hS z11; have y4 := cell_of hS z20; have y5 := cell_of hS z21; have y6 := cell_of hS zp0; have y7 := cell_of hS zp1; have y8 := cell_of hS zp2; have y9 := cell_of hS zq0; have y10 := cell_of hS zq1; have y11 := cell_of hS zq2; go_simp; exact ⟨rfl, hS⟩)⟩) rfl (by go_simp; rfl) ?_
  refine wpAnyS_take (i := 34) rfl (by kernel_rfl) (by kernel_rfl) (by kernel_rfl) (fun _ _ _ h => h) (.inl ⟨by kernel_rfl, fun w' hS => (by go_simp; refine Calls.mono (times22i ak aq aq rfl ha40 n _ VT.out _ (TW.out.below hS)) ?_; intro e w'' hE; obtain ⟨he, hb⟩ := hE; exact ⟨he, hS.trans (hb.mono hS.size)⟩)⟩) rfl (by go_simp; rfl) ?_
  refine wpAnyS_take (i := 35) rfl (by kernel_rfl) (by kernel_rfl) (by kernel_rfl) (fun _ _ _ h => h) (.inl ⟨by kernel_rfl, fun w' hS => (by have y0 := cell_of hS z00; have y1 := cell_of hS z01; have y2 := cell_of hS z10; have y3 := cell_of hS z11; have y4 := cell_of hS z20; have y5 := cell_of hS z21; have y6 := cell_of hS zp0; have y7 := cell_of hS zp1; have y8 := cell_of hS zp2; have y9 := cell_of hS zq0; have y10 := cell_of hS zq1; have y11 := cell_of hS zq2; go_simp; exact ⟨rfl, hS⟩)⟩) rfl (by go_simp; rfl) ?_
  refine wpAnyS_take (i := 36) rfl (by kernel_rfl) (by kernel_rfl) (by kernel_rfl) (fun _ _ _ h => h) (.inl ⟨by kernel_rfl, fun w' hS => (by have y0 := cell_of hS z00; have y1 := cell_of hS z01; have y2 := cell_of hS z10; have y3 := cell_of hS z11; have y4 := cell_of hS z20; have y5 := cell_of hS z21; have y6 := cell_of hS zp0; have y7 := cell_of hS zp1; have y8 := cell_of hS zp2; have y9 := cell_of hS zq0; have y10 := cell_of hS zq1; have y11 := cell_of hS zq2; go_simp; exact ⟨rfl, hS⟩)⟩) rfl (by go_simp; rfl) ?_
  refine wpAnyS_take (i := 37) rfl (by kernel_rfl) (by kernel_rfl) (by kernel_rfl) (fun _ _ _ h => h) (.inl ⟨by kernel_rfl, fun w' hS => (by go_simp; refine Calls.mono (times23i ak aq aq rfl ha40 n _ VT.out _) ?_; intro e w'' hE; obtain ⟨he, hb⟩ := hE; exact ⟨he, hS.trans (hb.mono hS.size)⟩)⟩) rfl (by go_simp; rfl) ?_
  refine wpAnyS_take (i := 38) rfl (by kernel_rfl) (by kernel_rfl) (by kernel_rfl) (fun _ _ _ h => h) (.inl ⟨by kernel_rfl, fun w' hS => (by have y0 := cell_of hS z00; have y1 := cell_of hS z01; have y2 := cell_of hS z10; have y3 := cell_of hS z11; have y4 := cell_of hS z20; have y5 := cell_of hS z21; have y6 := cell_of hS zp0; have y7 := cell_of hS zp1; have y8 := cell_of hS zp2; have y9 := cell_of hS zq0; have y10 := cell_of hS zq1; have y11 := cell_of hS zq2; go_simp; exact ⟨rfl, hS⟩)⟩) rfl (by go_simp; rfl) ?_
  refine wpAnyS_take (i := 39) rfl (by kernel_rfl) (by kernel_rfl) (by kernel_rfl) (fun _ _ _ h => h) (.inl ⟨by kernel_rfl, fun w' hS => (by have y0 := cell_of hS z00; have y1 := cell_of hS z01; have y2 := cell_of hS z10; have y3 := cell_of hS z11; have y4 := cell_of hS z20; have y5 := cell_of hS z21; have y6 := cell_of hS zp0; have y7 := cell_of hS zp1; have y8 := cell_of hS zp2; have y9 := cell_of hS zq0; have y10 := cell_of hS zq1; have y11 := cell_of hS zq2; go_simp; exact ⟨rfl, hS⟩)⟩) rfl (by go_simp; rfl) ?_
  refine wpAnyS_take (i := 40) rfl (by kernel_rfl) (by kernel_rfl) (by kernel_rfl) (fun _ _ _ h => h) (.inl ⟨by kernel_rfl, fun w' hS => (by have y0 := cell_of hS z00; have y1 := cell_of hS z01; have y2 := cell_of hS z10; have y3 := cell_of hS z11; have y4 := cell_of hS z20; have y5 := cell_of hS z21; have y6 := cell_of hS zp0; have y7 := cell_of hS zp1; have y8 := cell_of hS zp2; have y9 := cell_of hS zq0; have y10 := cell_of hS zq1; have y11 := cell_of hS zq2; go_simp; exact ⟨rfl, hS⟩)⟩) rfl (by go_simp; rfl) ?_
  refine wpAnyS_take (i := 41) rfl (by kernel_rfl) (by kernel_rfl) (by kernel_rfl) (fun _ _ _ h => h) (.inl ⟨by kernel_rfl, fun w' hS => (by have y0 := cell_of hS z00; have y1 := cell_of hS z01; have y2 := cell_of hS z10; have y3 := cell_of hS z11; have y4 := cell_of hS z20; have y5 := cell_of hS z21; have y6 := cell_of hS zp0; have y7 := cell_of hS zp1; have y8 := cell_of hS zp2; have y9 := cell_of hS zq0; have y10 := cell_of hS zq1; have y11 := cell_of hS zq2; go_simp; exact ⟨rfl, hS⟩)⟩) rfl (by go_simp; rfl) ?_
  refine wpAnyS_take (i := 42) rfl (by kernel_rfl) (by kernel_rfl) (by kernel_rfl) (fun _ _ _ h => h) (.inl ⟨by kernel_rfl, fun w' hS => (by have y0 := cell_of hS z00; have y1 := cell_of hS z01; have y2 := cell_of hS z10; have y3 := cell_of hS z11; have y4 := cell_of hS z20; have y5 := cell_of hS z21; have y6 := cell_of hS zp0; have y7 := cell_of hS zp1; have y8 := cell_of hS zp2; have y9 := cell_of hS zq0; have y10 := cell_of hS zq1; have y11 := cell_of hS zq2; go_simp; exact ⟨rfl, hS⟩)⟩) rfl (by go_simp; rfl) ?_
  refine wpAnyS_take (i := 43) rfl (by kernel_rfl) (by kernel_rfl) (by kernel_rfl) (fun _ _ _ h => h) (.inl ⟨by kernel_rfl, fun w' hS => (by have y0 := cell_of hS z00; have y1 := cell_of hS z01; have y2 := cell_of hS z10; have y3 := cell_of hS z11; have y4 := cell_of hS z20; have y5 := cell_of hS z21; have y6 := cell_of hS zp0; have y7 := cell_of hS zp1; have y8 := cell_of hS zp2; have y9 := cell_of hS zq0; have y10 := cell_of hS zq1; have y11 := cell_of hS zq2; go_simp; exact ⟨rfl, hS⟩)⟩) rfl (by go_simp; rfl) ?_
  refine wpAnyS_take (i := 44) rfl (by kernel_rfl) (by kernel_rfl) (by kernel_rfl) (fun _ _ _ h => h) (.inl ⟨by kernel_rfl, fun w' hS => (by have y0 := cell_of hS z00; have y1 := cell_of hS z01; have y2 := cell_of hS z10; have y3 := cell_of hS z11; have y4 := cell_of hS z20; have y5 := cell_of hS z21; have y6 := cell_of hS zp0; have y7 := cell_of hS zp1; have y8 := cell_of hS zp2; have y9 := cell_of hS zq0; have y10 := cell_of hS zq1; have y11 := cell_of hS zq2; go_simp; exact ⟨rfl, hS⟩)⟩) rfl (by go_simp; rfl) ?_
  refine wpAnyS_take (i := 45) rfl (by kernel_rfl) (by kernel_rfl) (by kernel_rfl) (fun _ _ _ h => h) (.inl ⟨by kernel_rfl, fun w' hS => (by have y0 := cell_of hS z00; have y1 := cell_of hS z01; have y2 := cell_of hS z10; have y3 := cell_of hS z11; have y4 := cell_of hS z20; have y5 := cell_of hS z21; have y6 := cell_of hS zp0; have y7 := cell_of hS zp1; have y8 := cell_of hS zp2; have y9 := cell_of hS zq0; have y10 := cell_of hS zq1; have y11 := cell_of hS zq2; go_simp; exact ⟨rfl, hS⟩)⟩) rfl (by go_simp; rfl) ?_
  refine wpAnyS_take (i := 46) rfl (by kernel_rfl) (by kernel_rfl) (by kernel_rfl) (fun _ _ _ h => h) (.inl ⟨by kernel_rfl, fun w' hS => (by have y0 := cell_of hS z00; have y1 := cell_of hS z01; have y2 := cell_of hS z10; have y3 := cell_of hS z11; have y4 := cell_of hS z20; have y5 := cell_of hS z21; have y6 := cell_of hS zp0; have y7 := cell_of hS zp1; have y8 := cell_of hS zp2; have y9 := cell_of hS zq0; have y10 := cell_of hS zq1; have y11 := cell_of hS zq2; go_simp; exact ⟨rfl, hS⟩)⟩) rfl (by go_simp; rfl) ?_
  refine wpAnyS_take (i := 47) rfl (by kernel_rfl) (by kernel_rfl) (by kernel_rfl) (fun _ _ _ h => h) (.inl ⟨by kernel_rfl, fun w' hS => (by have y0 := cell_of hS z00; have y1 := cell_of hS z01; have y2 := cell_of hS z10; have y3 := cell_of hS z11; have y4 := cell_of hS z20; have y5 := cell_of hS z21; have y6 := cell_of hS zp0; have y7 := cell_of hS zp1; have y8 := cell_of hS zp2; have y9 := cell_of hS zq0; have y10 := cell_of hS zq1; have y11 := cell_of hS zq2; go_simp; exact ⟨rfl, hS⟩)⟩) rfl (by go_simp; rfl) ?_
  refine wpAnyS_take (i := 48) rfl (by kernel_rfl) (by kernel_rfl) (by kernel_rfl) (fun _ _ _ h => h) (.inl ⟨by kernel_rfl, fun w' hS => (by go_simp; refine Calls.mono (join24i pe pk pq pe (rst (val ak aq)) rfl HK.out HQ.out hp8 _ VJ.out _ (TW.out.below hS)) ?_; intro e w'' hE; obtain ⟨he, hb⟩ := hE; exact ⟨he, hS.trans (hb.mono hS.size)⟩)⟩) rfl (by go_simp; rfl) ?_
  refine wpAnyS_take (i := 49) rfl (by kernel_rfl) (by kernel_rfl) (by kernel_rfl) (fun _ _ _ h => h) (.inl ⟨by kernel_rfl, fun w' hS => (by have y0 := cell_of hS z00; have y1 := cell_of hS z01; have y2 := cell_of hS z10; have y3 := cell_of hS z11; have y4 := cell_of hS z20; have y5 := cell_of hS z21; have y6 := cell_of hS zp0; have y7 := cell_of hS zp1; have y8 := cell_of hS zp2; have y9 := cell_of hS zq0; have y10 := cell_of hS zq1; have y11 := cell_of hS zq2; go_simp; exact ⟨rfl, hS⟩)⟩) rfl (by go_simp; rfl) ?_
  refine wpAnyS_take (i := 50) rfl (by kernel_rfl) (by kernel_rfl) (by kernel_rfl) (fun _ _ _ h => h) (.inl ⟨by kernel_rfl, fun w' hS => (by go_simp; refine Calls.mono (form17i ak aq aq rfl ha40 _ VA.out _) ?_; intro e w'' hE; obtain ⟨he, hb⟩ := hE; exact ⟨he, hS.trans (hb.mono hS.size)⟩)⟩) rfl (by go_simp; rfl) ?_
  refine wpAnyS_take (i := 51) rfl (by kernel_rfl) (by kernel_rfl) (by kernel_rfl) (fun _ _ _ h => h) (.inl ⟨by kernel_rfl, fun w' hS => (by have y0 := cell_of hS z00; have y1 := cell_of hS z01; have y2 := cell_of hS z10; have y3 := cell_of hS z11; have y4 := cell_of hS z20; have y5 := cell_of hS z21; have y6 := cell_of hS zp0; have y7 := cell_of hS zp1; have y8 := cell_of hS zp2; have y9 := cell_of hS zq0; have y10 := cell_of hS zq1; have y11 := cell_of hS zq2; go_simp; exact ⟨rfl, hS⟩)⟩) rfl (by go_simp; rfl) ?_
  refine wpAnyS_take (i := 52) rfl (by kernel_rfl) (by kernel_rfl) (by kernel_rfl) (fun _ _ _ h => h) (.inl ⟨by kernel_rfl, fun w' hS => (by have y0 := cell_of hS z00; have y1 := cell_of hS z01; have y2 := cell_of hS z10; have y3 := cell_of hS z11; have y4 := cell_of hS z20; have y5 := cell_of hS z21; have y6 := cell_of hS zp0; have y7 := cell_of hS zp1; have y8 := cell_of hS zp2; have y9 := cell_of hS zq0; have y10 := cell_of hS zq1; have y11 := cell_of hS zq2; go_simp; exact ⟨rfl, hS⟩)⟩) rfl (by go_simp; rfl) ?_
  refine wpAnyS_take (i := 53) rfl (by kernel_rfl) (by kernel_rfl) (by kernel_rfl) (fun _ _ _ h => h) (.inl ⟨by kernel_rfl, fun w' hS => (by have y0 := cell_of hS z00; have y1 := cell_of hS z01; have y2 := cell_of hS z10; have y3 := cell_of hS z11; have y4 := cell_of hS z20; have y5 := cell_of hS z21; have y6 := cell_of hS zp0; have y7 := cell_of hS zp1; have y8 := cell_of hS zp2; have y9 := cell_of hS zq0; have y10 := cell_of hS zq1; have y11 := cell_of hS zq2; go_simp; exact ⟨rfl, hS⟩)⟩) rfl (by go_simp; rfl) ?_
  refine wpAnyS_done (by kernel_rfl) (fun w11 hS => ?_) _
  have HB11 := Lib.hid (HB10.out.trans (hS.mono HB10.out.size))
  have TW11 := Lib.hid (TW10.out.below hS)
  replace z00 := cell_of hS z00
  replace z01 := cell_of hS z01
  replace z10 := cell_of hS z10
  replace z11 := cell_of hS z11
  replace z20 := cell_of hS z20
  replace z21 := cell_of hS z21
  replace zp0 := cell_of hS zp0
  replace zp1 := cell_of hS zp1
  replace zp2 := cell_of hS zp2
  replace zq0 := cell_of hS zq0
  replace zq1 := cell_of hS zq1
  replace zq2 := cell_of hS zq2
  clear hS TW HB10 TW10
  go_wp2
  go_ret
  exact ⟨rfl, HB11.out⟩

theorem turnTells_walk (xk xq ak aq bk bq n e : Int) (w : World) (ht : Tab w) : Calls Tryd.prog 3 #[Ag xk xq, Ag ak aq, Ag bk bq, .int .i64 n, .int .i64 e] w (Says w true) := by
  by_cases h : 0 ≤ aq ∧ aq ≤ 40 ∧ -1099511627776 ≤ ak ∧ ak ≤ 1099511627776
  · by_cases h2 : 0 ≤ bq ∧ bq ≤ 40 ∧ -1099511627776 ≤ bk ∧ bk ≤ 1099511627776
    · obtain ⟨i, rfl⟩ : ∃ i : Nat, aq = i := ⟨aq.toNat, (Int.toNat_of_nonneg h.1).symm⟩
      obtain ⟨j, rfl⟩ : ∃ j : Nat, bq = j := ⟨bq.toNat, (Int.toNat_of_nonneg h2.1).symm⟩
      by_cases hl : n < -1048576
      · exact turnTells_lo xk xq ak bk n e i j (by omega) (by omega) h.2.2.1 h.2.2.2 h2.2.2.1 h2.2.2.2 hl w ht
      · by_cases hh : 1048576 < n
        · exact turnTells_hi xk xq ak bk n e i j (by omega) (by omega) h.2.2.1 h.2.2.2 h2.2.2.1 h2.2.2.2 hh w ht
        · exact turnTells_in xk xq ak bk n e i j (by omega) (by omega) h.2.2.1 h.2.2.2 h2.2.2.1 h2.2.2.2 (by omega) (by omega) w ht
    · exact turnTells_no_b xk xq ak aq bk bq n e (isR_true h) (isR_false h2) w ht
  · exact turnTells_no_a xk xq ak aq bk bq n e (isR_false h) w ht
end Go.Proofs.YtaempngakollpaaDoor
