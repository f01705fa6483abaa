/- What a transform's sum of squares may be off by: the document's Most, by hand. No condition. -/
import Derived.Test.YtdflbipaicpdcaaGreatDoorSYl
import Derived.Test.YtdflbipaicpdcaaGreatDoorSYk
set_option linter.unusedVariables false
set_option linter.unusedSimpArgs false
set_option maxRecDepth 100000
namespace Go.Proofs.YtdflbipaicpdcaaGreatDoor
open Go.RowKit

/-- the document's margin, of 2^j floats -/
def MM (j : Nat) (X : Int) : Int := ((1600 * (j + 4) * (j + 4) : Nat) : Int) * X + ((2 ^ j * 2 ^ j * 2 ^ (254 - j) : Nat) : Int)

theorem d_of' {z : Int} {n : Nat} (h : z = (n : Int)) (hn : n < 1000000000) (w : World) : Calls Tryz.prog 30 #[.int .i64 z] w (MakesD w (n : Int) 0) := by rw [h]; exact d_of n hn w
set_option maxHeartbeats 4000000 in
theorem most_w (k j : Nat) (hk : k = 6 ∨ k = 10) (h1 : 1 ≤ j) (h2 : j ≤ 6) {v : Value} {X : Int} {w : World} (hv : IsD w v X (-2148)) (hX : Bd X 4260) : Calls Tryz.prog 15 #[.int .i64 (k : Int), .int .i64 ((2 ^ j : Nat) : Int), v] w fun e w' => ∃ r, e = .returned (.tuple #[r, .bool true]) ∧ IsD w' r (MM j X) ((j : Int) - 2253) ∧ Below w.heap.size w w' := by
  have HF := Lib.hid (fits_pow k j hk h1 h2)
  have HZ := Lib.hid (size_w k j hk h2)
  obtain ⟨n, hn⟩ : ∃ n, 2 ^ j = n := ⟨_, rfl⟩
  have hn64 : n ≤ 64 := by rw [← hn]; exact Nat.pow_le_pow_right (by decide) h2
  have HN := Lib.hid hn
  rw [hn] at HF HZ ⊢
  have HX := Lib.hid hX
  obtain ⟨n_0, a_0, l_0, k_0, E_0, rfl⟩ := hv.shape
  have HV := Lib.hid hv
  clear hn hv hX hk
  go_enter Tryz.func15, Tryz.ntmps15
  go_wp2_with fail
  obtain ⟨w0, hw0⟩ : ∃ w0, (w.alloc (Obj.cells #[Value.bool n_0, Value.slice a_0 l_0 k_0, Value.int IntKind.i64 E_0] 36)).alloc (Obj.cells #[Value.bool false, Value.slice none 0 0, Value.int IntKind.i64 0] 36) = w0 := ⟨_, rfl⟩
  have HB0 : Hid (Below w.heap.size w w0) := Lib.hid (by rw [← hw0]; exact (below_alloc _ _).trans ((below_alloc _ _).mono (by simp)))
  have HS0 : Hid (w0.heap.size = w.heap.size + 2) := Lib.hid (by rw [← hw0]; simp)
  have HBX0 : Hid (Box w0 (w.heap.size + 1)) := Lib.hid (by have := box_alloc (w.alloc (Obj.cells #[Value.bool n_0, Value.slice a_0 l_0 k_0, Value.int IntKind.i64 E_0] 36)); rw [show boxed _ = w0 from hw0] at this; simpa using this)
  have V5 : Hid (Var w0 w.heap.size n_0 a_0 l_0 k_0 E_0) := Lib.hid (by rw [← hw0]; exact (var_alloc w n_0 a_0 l_0 k_0 E_0).below (below_alloc _ _))
  have DX : Hid (IsD w0 (Dv n_0 (.slice a_0 l_0 k_0) E_0) X (-2148)) := Lib.hid (HV.out.below HB0.out)
  rw [hw0]
  clear hw0 HV
  obtain ⟨b5, hb5⟩ : ∃ b5, w.heap.size = b5 := ⟨_, rfl⟩
  obtain ⟨b6, hb6⟩ : ∃ b6, b5 + 1 = b6 := ⟨_, rfl⟩
  have HB5 := Lib.hid hb5
  have HB6 := Lib.hid hb6
  rw [hb5] at V5 HBX0 ⊢
  rw [hb6] at HBX0 ⊢
  clear hb5 hb6
  refine (HF.out w0).mono ?_
  rintro e w1 ⟨rfl, rfl⟩
  go_wp2_with fail
  refine (HZ.out _).mono ?_
  rintro e wm ⟨rfl, rfl⟩
  have HB : Hid (Below wm.heap.size wm wm) := Lib.hid (Below.refl _ _)
  have hj1 : (1 : Int) ≤ j := by omega
  have hj2 : (j : Int) ≤ 6 := by omega
  go_wp2_with fail
  have HQ : Hid (IntKind.i64.wrap (IntKind.i64.wrap (1600 * IntKind.i64.wrap ((j : Int) + 4)) * IntKind.i64.wrap ((j : Int) + 4)) = ((1600 * (j + 4) * (j + 4) : Nat) : Int)) := Lib.hid (by rcases (by omega : j = 1 ∨ j = 2 ∨ j = 3 ∨ j = 4 ∨ j = 5 ∨ j = 6) with rfl | rfl | rfl | rfl | rfl | rfl <;> decide +kernel)
  have HQb : Hid (1600 * (j + 4) * (j + 4) < 200000) := Lib.hid (by rcases (by omega : j = 1 ∨ j = 2 ∨ j = 3 ∨ j = 4 ∨ j = 5 ∨ j = 6) with rfl | rfl | rfl | rfl | rfl | rfl <;> decide)
  have HWJ : Hid (IntKind.i64.wrap ((j : Int) - 106) = (j : Int) - 106) := Lib.hid (by rcases (by omega : j = 1 ∨ j = 2 ∨ j = 3 ∨ j = 4 ∨ j = 5 ∨ j = 6) with rfl | rfl | rfl | rfl | rfl | rfl <;> decide +kernel)
  obtain ⟨Q, hQ⟩ : ∃ Q, 1600 * (j + 4) * (j + 4) = Q := ⟨_, rfl⟩
  have HMM : Hid (MM j X = (Q : Int) * X + ((2 ^ j * 2 ^ j * 2 ^ (254 - j) : Nat) : Int)) := Lib.hid (by unfold MM; rw [hQ])
  rw [hQ] at HQ HQb
  clear hQ
  have KQ : Hid (Bd (Q : Int) 18) := Lib.hid ⟨by have := HQb.out; simp; omega⟩
  have KQX : Hid (Bd ((Q : Int) * X) 4278) := Lib.hid (KQ.out.mul HX.out rfl)
  obtain ⟨R10, hR10⟩ : ∃ R : Act → Act → World → Prop, R = (fun a0 a' w' => ∃ (u23 u24 u25 u26 u27 u28 u29 u30 u31 u32 u33 u34 : Value) (b_ : Nat) (n_ : Bool) (a_ : Option Addr) (l_ k_ : Nat) (E_ : Int), a' = (((((((((((((a0.put (some 10) (.pointer (some ⟨b_, 0, none⟩))).put (some 23) u23).put (some 24) u24).put (some 25) u25).put (some 26) u26).put (some 27) u27).put (some 28) u28).put (some 29) u29).put (some 30) u30).put (some 31) u31).put (some 32) u32).put (some 33) u33).put (some 34) u34) ∧ Below wm.heap.size wm w' ∧ Var w' b_ n_ a_ l_ k_ E_ ∧ IsD w' (Dv n_ (.slice a_ l_ k_) E_) ((Q : Int) * X) (0 + -2148 + IntKind.i64.wrap ((j : Int) - 106)) ∧ wm.heap.size ≤ b_) := ⟨_, rfl⟩
  have HR10 := Lib.hid hR10
  clear hR10
  refine wp_region_cut (S := Below wm.heap.size wm) R10 (by kernel_rfl) ?_ ?_
  · have hS1 : Below wm.heap.size wm wm.drew := (Below.refl _ wm).drew
    obtain ⟨wd1, hwd⟩ : ∃ w', wm.drew = w' := ⟨_, rfl⟩
    rw [hwd] at hS1 ⊢
    clear hwd
    refine wpAnyR_take (i := 0) rfl (by kernel_rfl) (by kernel_rfl) (by kernel_rfl) (fun _ _ _ h => h) hS1 (.inl ⟨by kernel_rfl, fun w' hS => (by go_simp; exact ⟨rfl, rfl⟩)⟩) rfl (by go_simp; rfl) ?_
    refine wpAnyR_take (i := 1) rfl (by kernel_rfl) (by kernel_rfl) (by kernel_rfl) (fun _ _ _ h => h) hS1 (.inl ⟨by kernel_rfl, fun w' hS => (by go_simp; exact ⟨rfl, rfl⟩)⟩) rfl (by go_simp; rfl) ?_
    refine wpAnyR_take (i := 2) rfl (by kernel_rfl) (by kernel_rfl) (by kernel_rfl) (fun _ _ _ h => h) hS1 (.inl ⟨by kernel_rfl, fun w' hS => (by go_simp; exact ⟨rfl, rfl⟩)⟩) rfl (by go_simp; rfl) ?_
    refine wpAnyR_take (i := 3) rfl (by kernel_rfl) (by kernel_rfl) (by kernel_rfl) (fun _ _ _ h => h) hS1 (.inl ⟨by kernel_rfl, fun w' hS => (by go_simp; exact ⟨rfl, rfl⟩)⟩) rfl (by go_simp; rfl) ?_
    refine wpAnyR_take (i := 4) rfl (by kernel_rfl) (by kernel_rfl) (by kernel_rfl) (fun _ _ _ h => h) hS1 (.inl ⟨by kernel_rfl, fun w' hS => (by go_simp; exact ⟨rfl, rfl⟩)⟩) rfl (by go_simp; rfl) ?_
    refine wpAnyR_take (i := 5) rfl (by kernel_rfl) (by kernel_rfl) (by kernel_rfl) (fun _ _ _ h => h) hS1 (.inl ⟨by kernel_rfl, fun w' hS => (by go_simp; exact ⟨rfl, rfl⟩)⟩) rfl (by go_simp; rfl) ?_
    refine wpAnyR_take (i := 7) rfl (by kernel_rfl) (by kernel_rfl) (by kernel_rfl) (fun _ _ _ h => h) hS1 (.inl ⟨by kernel_rfl, fun w' hS => (by have y50 := cell_at hS V5.out.lt V5.out.c0; have y51 := cell_at hS V5.out.lt V5.out.c1; have y52 := cell_at hS V5.out.lt V5.out.c2; go_simp; exact ⟨rfl, rfl⟩)⟩) rfl (by go_simp; rfl) ?_
    refine wpAnyR_take (i := 9) rfl (by kernel_rfl) (by kernel_rfl) (by kernel_rfl) (fun _ _ _ h => h) hS1 (.inl ⟨by kernel_rfl, fun w' hS => (by go_simp; exact ⟨rfl, rfl⟩)⟩) rfl (by go_simp; rfl) ?_
    refine wpAnyR_take (i := 10) rfl (by kernel_rfl) (by kernel_rfl) (by kernel_rfl) (fun _ _ _ h => h) hS1 (.inl ⟨by kernel_rfl, fun w' hS => (by go_simp; exact ⟨rfl, rfl⟩)⟩) rfl (by go_simp; rfl) ?_
    refine wpAnyR_two (i := 6) (j := 12) rfl rfl (by kernel_rfl) (by kernel_rfl) (by kernel_rfl) ?_ ?_
    · go_simp
      refine (d_of' HQ.out (Nat.lt_trans HQb.out (by decide)) _).mono ?_
      rintro e w2 ⟨v2, rfl, hv2, hb2⟩
      obtain ⟨n_q, a_q, l_q, k_q, E_q, rfl⟩ := hv2.shape
      have hS2 : Below wm.heap.size wm w2 := below_next hS1 hb2
      have Dq := Lib.hid hv2
      clear hv2 hb2
      refine ⟨hS2, ?_⟩
      refine wpAnyR_two (i := 8) (j := 12) rfl rfl (by kernel_rfl) (by kernel_rfl) (by kernel_rfl) ?_ ?_
      · go_simp
        refine (d_mul Dq.out (DX.out.below hS2) (KQ.out.sz (by decide)) (HX.out.sz (by decide)) (KQX.out.sz (by decide)) (by decide) (by decide) (by decide) (by decide)).mono ?_
        rintro e w3 ⟨v3, rfl, hv3, hb3⟩
        obtain ⟨n_qx, a_qx, l_qx, k_qx, E_qx, rfl⟩ := hv3.shape
        have hS3 : Below wm.heap.size wm w3 := below_next hS2 hb3
        have Dq := Lib.hid (Dq.out.below hb3)
        have Dqx := Lib.hid hv3
        clear hv3 hb3
        refine ⟨hS3, ?_⟩
        refine wpAnyR_two (i := 11) (j := 12) rfl rfl (by kernel_rfl) (by kernel_rfl) (by kernel_rfl) ?_ ?_
        · go_simp
          refine (d_shift Dqx.out (KQX.out.sz (by decide)) (IntKind.i64.wrap ((j : Int) - 106)) (by decide) (by decide) (by rw [HWJ.out]; omega) (by rw [HWJ.out]; omega)).mono ?_
          rintro e w4 ⟨v4, rfl, hv4, hb4⟩
          obtain ⟨n_sh, a_sh, l_sh, k_sh, E_sh, rfl⟩ := hv4.shape
          have hS4 : Below wm.heap.size wm w4 := below_next hS3 hb4
          have Dq := Lib.hid (Dq.out.below hb4)
          have Dqx := Lib.hid (Dqx.out.below hb4)
          have Dsh := Lib.hid hv4
          clear hv4 hb4
          refine ⟨hS4, ?_⟩
          refine wpAnyR_oneG (i := 12) rfl (by kernel_rfl) (by kernel_rfl) rfl ?_
          go_simp
          obtain ⟨w5, hw5⟩ : ∃ w', w4.alloc (Obj.cells #[Value.bool false, Value.slice none 0 0, Value.int IntKind.i64 0] 36) = w' := ⟨_, rfl⟩
          have hb5 : Below w4.heap.size w4 w5 := by rw [← hw5]; exact below_alloc _ _
          have hS5 : Below wm.heap.size wm w5 := below_next hS4 hb5
          obtain ⟨b10, hk5⟩ : ∃ b, w4.heap.size = b := ⟨_, rfl⟩
          have BX : Hid (Box w5 b10) := Lib.hid (by have := box_alloc w4; rw [show boxed _ = w5 from hw5, hk5] at this; exact this)
          have BL : Hid (b10 < w5.heap.size) := Lib.hid (by rw [← hw5, ← hk5]; simp)
          have RB : Hid (wm.heap.size ≤ b10) := Lib.hid (by rw [← hk5]; exact hS4.size)
          have Dq := Lib.hid (Dq.out.below hb5)
          have Dqx := Lib.hid (Dqx.out.below hb5)
          have Dsh := Lib.hid (Dsh.out.below hb5)
          rw [hw5]; try rw [hk5]
          clear hw5 hb5 hk5
          refine ⟨hS5, ?_⟩
          have c0 := BX.out.c0; have c1 := BX.out.c1; have c2 := BX.out.c2; have f0 := BX.out.f0; have f1 := BX.out.f1; have f2 := BX.out.f2
          refine wpAnyR_oneG (i := 13) rfl (by kernel_rfl) (by kernel_rfl) rfl ?_
          go_simp
          refine ⟨Box.keepB hS5 RB.out _ _ _, wpAnyR_done (by kernel_rfl) (cutQ_normal ?_) _⟩
          rw [HR10.out]
          refine ⟨(.int .i64 ((j : Int))), (.int .i64 (IntKind.i64.wrap ((j : Int) + 4))), (.int .i64 (IntKind.i64.wrap (1600 * IntKind.i64.wrap ((j : Int) + 4)))), (.int .i64 ((j : Int))), (.int .i64 (IntKind.i64.wrap ((j : Int) + 4))), (.int .i64 (IntKind.i64.wrap (IntKind.i64.wrap (1600 * IntKind.i64.wrap ((j : Int) + 4)) * IntKind.i64.wrap ((j : Int) + 4)))), (Dv n_q (.slice a_q l_q k_q) E_q), (Dv n_0 (.slice a_0 l_0 k_0) E_0), (Dv n_qx (.slice a_qx l_qx k_qx) E_qx), (.int .i64 ((j : Int))), (.int .i64 (IntKind.i64.wrap ((j : Int) - 106))), (Dv n_sh (.slice a_sh l_sh k_sh) E_sh), b10, n_sh, a_sh, l_sh, k_sh, E_sh, ?_, Box.keepB hS5 RB.out _ _ _, box_store BX.out BL.out _ _ _ _ _, BX.out.keepD Dsh.out _ _ _, RB.out⟩
          kernel_rfl
        · go_simp
          obtain ⟨w4, hw4⟩ : ∃ w', w3.alloc (Obj.cells #[Value.bool false, Value.slice none 0 0, Value.int IntKind.i64 0] 36) = w' := ⟨_, rfl⟩
          have hb4 : Below w3.heap.size w3 w4 := by rw [← hw4]; exact below_alloc _ _
          have hS4 : Below wm.heap.size wm w4 := below_next hS3 hb4
          obtain ⟨b10, hk4⟩ : ∃ b, w3.heap.size = b := ⟨_, rfl⟩
          have BX : Hid (Box w4 b10) := Lib.hid (by have := box_alloc w3; rw [show boxed _ = w4 from hw4, hk4] at this; exact this)
          have BL : Hid (b10 < w4.heap.size) := Lib.hid (by rw [← hw4, ← hk4]; simp)
          have RB : Hid (wm.heap.size ≤ b10) := Lib.hid (by rw [← hk4]; exact hS3.size)
          have Dq := Lib.hid (Dq.out.below hb4)
          have Dqx := Lib.hid (Dqx.out.below hb4)
          rw [hw4]; try rw [hk4]
          clear hw4 hb4 hk4
          refine ⟨hS4, ?_⟩
          refine wpAnyR_oneG (i := 11) rfl (by kernel_rfl) (by kernel_rfl) rfl ?_
          go_simp
          refine (d_shift Dqx.out (KQX.out.sz (by decide)) (IntKind.i64.wrap ((j : Int) - 106)) (by decide) (by decide) (by rw [HWJ.out]; omega) (by rw [HWJ.out]; omega)).mono ?_
          rintro e w5 ⟨v5, rfl, hv5, hb5⟩
          obtain ⟨n_sh, a_sh, l_sh, k_sh, E_sh, rfl⟩ := hv5.shape
          have hS5 : Below wm.heap.size wm w5 := below_next hS4 hb5
          have Dq := Lib.hid (Dq.out.below hb5)
          have Dqx := Lib.hid (Dqx.out.below hb5)
          have BX := Lib.hid (BX.out.below hb5 BL.out)
          have BL := Lib.hid (Nat.lt_of_lt_of_le BL.out hb5.size)
          have Dsh := Lib.hid hv5
          clear hv5 hb5
          refine ⟨hS5, ?_⟩
          have c0 := BX.out.c0; have c1 := BX.out.c1; have c2 := BX.out.c2; have f0 := BX.out.f0; have f1 := BX.out.f1; have f2 := BX.out.f2
          refine wpAnyR_oneG (i := 13) rfl (by kernel_rfl) (by kernel_rfl) rfl ?_
          go_simp
          refine ⟨Box.keepB hS5 RB.out _ _ _, wpAnyR_done (by kernel_rfl) (cutQ_normal ?_) _⟩
          rw [HR10.out]
          refine ⟨(.int .i64 ((j : Int))), (.int .i64 (IntKind.i64.wrap ((j : Int) + 4))), (.int .i64 (IntKind.i64.wrap (1600 * IntKind.i64.wrap ((j : Int) + 4)))), (.int .i64 ((j : Int))), (.int .i64 (IntKind.i64.wrap ((j : Int) + 4))), (.int .i64 (IntKind.i64.wrap (IntKind.i64.wrap (1600 * IntKind.i64.wrap ((j : Int) + 4)) * IntKind.i64.wrap ((j : Int) + 4)))), (Dv n_q (.slice a_q l_q k_q) E_q), (Dv n_0 (.slice a_0 l_0 k_0) E_0), (Dv n_qx (.slice a_qx l_qx k_qx) E_qx), (.int .i64 ((j : Int))), (.int .i64 (IntKind.i64.wrap ((j : Int) - 106))), (Dv n_sh (.slice a_sh l_sh k_sh) E_sh), b10, n_sh, a_sh, l_sh, k_sh, E_sh, ?_, Box.keepB hS5 RB.out _ _ _, box_store BX.out BL.out _ _ _ _ _, BX.out.keepD Dsh.out _ _ _, RB.out⟩
          kernel_rfl
      · go_simp
        obtain ⟨w3, hw3⟩ : ∃ w', w2.alloc (Obj.cells #[Value.bool false, Value.slice none 0 0, Value.int IntKind.i64 0] 36) = w' := ⟨_, rfl⟩
        have hb3 : Below w2.heap.size w2 w3 := by rw [← hw3]; exact below_alloc _ _
        have hS3 : Below wm.heap.size wm w3 := below_next hS2 hb3
        obtain ⟨b10, hk3⟩ : ∃ b, w2.heap.size = b := ⟨_, rfl⟩
        have BX : Hid (Box w3 b10) := Lib.hid (by have := box_alloc w2; rw [show boxed _ = w3 from hw3, hk3] at this; exact this)
        have BL : Hid (b10 < w3.heap.size) := Lib.hid (by rw [← hw3, ← hk3]; simp)
        have RB : Hid (wm.heap.size ≤ b10) := Lib.hid (by rw [← hk3]; exact hS2.size)
        have Dq := Lib.hid (Dq.out.below hb3)
        rw [hw3]; try rw [hk3]
        clear hw3 hb3 hk3
        refine ⟨hS3, ?_⟩
        refine wpAnyR_oneG (i := 8) rfl (by kernel_rfl) (by kernel_rfl) rfl ?_
        go_simp
        refine (d_mul Dq.out (DX.out.below hS3) (KQ.out.sz (by decide)) (HX.out.sz (by decide)) (KQX.out.sz (by decide)) (by decide) (by decide) (by decide) (by decide)).mono ?_
        rintro e w4 ⟨v4, rfl, hv4, hb4⟩
        obtain ⟨n_qx, a_qx, l_qx, k_qx, E_qx, rfl⟩ := hv4.shape
        have hS4 : Below wm.heap.size wm w4 := below_next hS3 hb4
        have Dq := Lib.hid (Dq.out.below hb4)
        have BX := Lib.hid (BX.out.below hb4 BL.out)
        have BL := Lib.hid (Nat.lt_of_lt_of_le BL.out hb4.size)
        have Dqx := Lib.hid hv4
        clear hv4 hb4
        refine ⟨hS4, ?_⟩
        refine wpAnyR_oneG (i := 11) rfl (by kernel_rfl) (by kernel_rfl) rfl ?_
        go_simp
        refine (d_shift Dqx.out (KQX.out.sz (by decide)) (IntKind.i64.wrap ((j : Int) - 106)) (by decide) (by decide) (by rw [HWJ.out]; omega) (by rw [HWJ.out]; omega)).mono ?_
        rintro e w5 ⟨v5, rfl, hv5, hb5⟩
        obtain ⟨n_sh, a_sh, l_sh, k_sh, E_sh, rfl⟩ := hv5.shape
        have hS5 : Below wm.heap.size wm w5 := below_next hS4 hb5
        have Dq := Lib.hid (Dq.out.below hb5)
        have Dqx := Lib.hid (Dqx.out.below hb5)
        have BX := Lib.hid (BX.out.below hb5 BL.out)
        have BL := Lib.hid (Nat.lt_of_lt_of_le BL.out hb5.size)
        have Dsh := Lib.hid hv5
        clear hv5 hb5
        refine ⟨hS5, ?_⟩
        have c0 := BX.out.c0; have c1 := BX.out.c1; have c2 := BX.out.c2; have f0 := BX.out.f0; have f1 := BX.out.f1; have f2 := BX.out.f2
        refine wpAnyR_oneG (i := 13) rfl (by kernel_rfl) (by kernel_rfl) rfl ?_
        go_simp
        refine ⟨Box.keepB hS5 RB.out _ _ _, wpAnyR_done (by kernel_rfl) (cutQ_normal ?_) _⟩
        rw [HR10.out]
        refine ⟨(.int .i64 ((j : Int))), (.int .i64 (IntKind.i64.wrap ((j : Int) + 4))), (.int .i64 (IntKind.i64.wrap (1600 * IntKind.i64.wrap ((j : Int) + 4)))), (.int .i64 ((j : Int))), (.int .i64 (IntKind.i64.wrap ((j : Int) + 4))), (.int .i64 (IntKind.i64.wrap (IntKind.i64.wrap (1600 * IntKind.i64.wrap ((j : Int) + 4)) * IntKind.i64.wrap ((j : Int) + 4)))), (Dv n_q (.slice a_q l_q k_q) E_q), (Dv n_0 (.slice a_0 l_0 k_0) E_0), (Dv n_qx (.slice a_qx l_qx k_qx) E_qx), (.int .i64 ((j : Int))), (.int .i64 (IntKind.i64.wrap ((j : Int) - 106))), (Dv n_sh (.slice a_sh l_sh k_sh) E_sh), b10, n_sh, a_sh, l_sh, k_sh, E_sh, ?_, Box.keepB hS5 RB.out _ _ _, box_store BX.out BL.out _ _ _ _ _, BX.out.keepD Dsh.out _ _ _, RB.out⟩
        kernel_rfl
    · go_simp
      obtain ⟨w2, hw2⟩ : ∃ w', wd1.alloc (Obj.cells #[Value.bool false, Value.slice none 0 0, Value.int IntKind.i64 0] 36) = w' := ⟨_, rfl⟩
      have hb2 : Below wd1.heap.size wd1 w2 := by rw [← hw2]; exact below_alloc _ _
      have hS2 : Below wm.heap.size wm w2 := below_next hS1 hb2
      obtain ⟨b10, hk2⟩ : ∃ b, wd1.heap.size = b := ⟨_, rfl⟩
      have BX : Hid (Box w2 b10) := Lib.hid (by have := box_alloc wd1; rw [show boxed _ = w2 from hw2, hk2] at this; exact this)
      have BL : Hid (b10 < w2.heap.size) := Lib.hid (by rw [← hw2, ← hk2]; simp)
      have RB : Hid (wm.heap.size ≤ b10) := Lib.hid (by rw [← hk2]; exact hS1.size)
      rw [hw2]; try rw [hk2]
      clear hw2 hb2 hk2
      refine ⟨hS2, ?_⟩
      refine wpAnyR_oneG (i := 6) rfl (by kernel_rfl) (by kernel_rfl) rfl ?_
      go_simp
      refine (d_of' HQ.out (Nat.lt_trans HQb.out (by decide)) _).mono ?_
      rintro e w3 ⟨v3, rfl, hv3, hb3⟩
      obtain ⟨n_q, a_q, l_q, k_q, E_q, rfl⟩ := hv3.shape
      have hS3 : Below wm.heap.size wm w3 := below_next hS2 hb3
      have BX := Lib.hid (BX.out.below hb3 BL.out)
      have BL := Lib.hid (Nat.lt_of_lt_of_le BL.out hb3.size)
      have Dq := Lib.hid hv3
      clear hv3 hb3
      refine ⟨hS3, ?_⟩
      refine wpAnyR_oneG (i := 8) rfl (by kernel_rfl) (by kernel_rfl) rfl ?_
      go_simp
      refine (d_mul Dq.out (DX.out.below hS3) (KQ.out.sz (by decide)) (HX.out.sz (by decide)) (KQX.out.sz (by decide)) (by decide) (by decide) (by decide) (by decide)).mono ?_
      rintro e w4 ⟨v4, rfl, hv4, hb4⟩
      obtain ⟨n_qx, a_qx, l_qx, k_qx, E_qx, rfl⟩ := hv4.shape
      have hS4 : Below wm.heap.size wm w4 := below_next hS3 hb4
      have Dq := Lib.hid (Dq.out.below hb4)
      have BX := Lib.hid (BX.out.below hb4 BL.out)
      have BL := Lib.hid (Nat.lt_of_lt_of_le BL.out hb4.size)
      have Dqx := Lib.hid hv4
      clear hv4 hb4
      refine ⟨hS4, ?_⟩
      refine wpAnyR_oneG (i := 11) rfl (by kernel_rfl) (by kernel_rfl) rfl ?_
      go_simp
      refine (d_shift Dqx.out (KQX.out.sz (by decide)) (IntKind.i64.wrap ((j : Int) - 106)) (by decide) (by decide) (by rw [HWJ.out]; omega) (by rw [HWJ.out]; omega)).mono ?_
      rintro e w5 ⟨v5, rfl, hv5, hb5⟩
      obtain ⟨n_sh, a_sh, l_sh, k_sh, E_sh, rfl⟩ := hv5.shape
      have hS5 : Below wm.heap.size wm w5 := below_next hS4 hb5
      have Dq := Lib.hid (Dq.out.below hb5)
      have Dqx := Lib.hid (Dqx.out.below hb5)
      have BX := Lib.hid (BX.out.below hb5 BL.out)
      have BL := Lib.hid (Nat.lt_of_lt_of_le BL.out hb5.size)
      have Dsh := Lib.hid hv5
      clear hv5 hb5
      refine ⟨hS5, ?_⟩
      have c0 := BX.out.c0; have c1 := BX.out.c1; have c2 := BX.out.c2; have f0 := BX.out.f0; have f1 := BX.out.f1; have f2 := BX.out.f2
      refine wpAnyR_oneG (i := 13) rfl (by kernel_rfl) (by kernel_rfl) rfl ?_
      go_simp
      refine ⟨Box.keepB hS5 RB.out _ _ _, wpAnyR_done (by kernel_rfl) (cutQ_normal ?_) _⟩
      rw [HR10.out]
      refine ⟨(.int .i64 ((j : Int))), (.int .i64 (IntKind.i64.wrap ((j : Int) + 4))), (.int .i64 (IntKind.i64.wrap (1600 * IntKind.i64.wrap ((j : Int) + 4)))), (.int .i64 ((j : Int))), (.int .i64 (IntKind.i64.wrap ((j : Int) + 4))), (.int .i64 (IntKind.i64.wrap (IntKind.i64.wrap (1600 * IntKind.i64.wrap ((j : Int) + 4)) * IntKind.i64.wrap ((j : Int) + 4)))), (Dv n_q (.slice a_q l_q k_q) E_q), (Dv n_0 (.slice a_0 l_0 k_0) E_0), (Dv n_qx (.slice a_qx l_qx k_qx) E_qx), (.int .i64 ((j : Int))), (.int .i64 (IntKind.i64.wrap ((j : Int) - 106))), (Dv n_sh (.slice a_sh l_sh k_sh) E_sh), b10, n_sh, a_sh, l_sh, k_sh, E_sh, ?_, Box.keepB hS5 RB.out _ _ _, box_store BX.out BL.out _ _ _ _ _, BX.out.keepD Dsh.out _ _ _, RB.out⟩
      kernel_rfl
  · intro a' wr10 hr
    rw [HR10.out] at hr
    obtain ⟨u23, u24, u25, u26, u27, u28, u29, u30, u31, u32, u33, u34, b10, n_sh, a_sh, l_sh, k_sh, E_sh, rfl, hbr, hvr, hdr, _⟩ := hr
    go_simp
    have V5 := Lib.hid (V5.out.below hbr)
    have DX := Lib.hid (DX.out.below hbr)
    have HB := Lib.hid (below_next HB.out hbr)
    have V10 := Lib.hid hvr
    have Dsh := Lib.hid hdr
    clear hbr hvr hdr
    have hn0 : n * n ≤ 64 * 64 := Nat.mul_le_mul hn64 hn64
    have HNN : Hid (IntKind.i64.wrap ((n : Int) * (n : Int)) = ((n * n : Nat) : Int)) := Lib.hid (by rw [IntKind.wrap_i64, ← Int.natCast_mul]; omega)
    have hnn := HNN.out
    have HNb : Hid (n * n ≤ 4096) := Lib.hid hn0
    clear hn0
    go_wp2_with fail
    clear hnn
    refine (d_of' (n := n * n) (by rfl) (Nat.lt_of_le_of_lt HNb.out (by decide)) _).mono ?_
    rintro e w1 ⟨v1, rfl, hv1, hb1⟩
    obtain ⟨n_nn, a_nn, l_nn, k_nn, E_nn, rfl⟩ := hv1.shape
    have V5 := Lib.hid (V5.out.below hb1)
    have DX := Lib.hid (DX.out.below hb1)
    have V10 := Lib.hid (V10.out.below hb1)
    have Dsh := Lib.hid (Dsh.out.below hb1)
    have HB := Lib.hid (below_next HB.out hb1)
    have Dnn := Lib.hid hv1
    clear hv1 hb1
    have KNN : Hid (Bd ((n * n : Nat) : Int) 13) := Lib.hid ⟨by have := HNb.out; rw [Int.natAbs_natCast]; omega⟩
    go_wp2_with fail
    refine (d_shift Dnn.out (KNN.out.sz (by decide)) (-2000) (by decide) (by decide) (by decide) (by decide)).mono ?_
    rintro e w2 ⟨v2, rfl, hv2, hb2⟩
    obtain ⟨n_sh2, a_sh2, l_sh2, k_sh2, E_sh2, rfl⟩ := hv2.shape
    have V5 := Lib.hid (V5.out.below hb2)
    have DX := Lib.hid (DX.out.below hb2)
    have V10 := Lib.hid (V10.out.below hb2)
    have Dsh := Lib.hid (Dsh.out.below hb2)
    have Dnn := Lib.hid (Dnn.out.below hb2)
    have HB := Lib.hid (below_next HB.out hb2)
    have Dsh2 := Lib.hid hv2
    clear hv2 hb2
    have c100 := cell_at (below_alloc w2 (Obj.cells #[Value.bool n_sh2, Value.slice a_sh2 l_sh2 k_sh2, Value.int IntKind.i64 E_sh2] 36)) V10.out.lt V10.out.c0
    have c101 := cell_at (below_alloc w2 (Obj.cells #[Value.bool n_sh2, Value.slice a_sh2 l_sh2 k_sh2, Value.int IntKind.i64 E_sh2] 36)) V10.out.lt V10.out.c1
    have c102 := cell_at (below_alloc w2 (Obj.cells #[Value.bool n_sh2, Value.slice a_sh2 l_sh2 k_sh2, Value.int IntKind.i64 E_sh2] 36)) V10.out.lt V10.out.c2
    go_wp2_with fail
    clear c100 c101 c102
    obtain ⟨wb3, hw3⟩ : ∃ w', w2.alloc (Obj.cells #[Value.bool n_sh2, Value.slice a_sh2 l_sh2 k_sh2, Value.int IntKind.i64 E_sh2] 36) = w' := ⟨_, rfl⟩
    have hb3 : Below w2.heap.size w2 wb3 := by rw [← hw3]; exact below_alloc _ _
    obtain ⟨b11, hk3⟩ : ∃ b, w2.heap.size = b := ⟨_, rfl⟩
    have V11 : Hid (Var wb3 b11 n_sh2 a_sh2 l_sh2 k_sh2 E_sh2) := Lib.hid (by have := var_alloc w2 n_sh2 a_sh2 l_sh2 k_sh2 E_sh2; rw [show _ = wb3 from hw3, hk3] at this; exact this)
    have V5 := Lib.hid (V5.out.below hb3)
    have DX := Lib.hid (DX.out.below hb3)
    have V10 := Lib.hid (V10.out.below hb3)
    have Dsh := Lib.hid (Dsh.out.below hb3)
    have Dnn := Lib.hid (Dnn.out.below hb3)
    have Dsh2 := Lib.hid (Dsh2.out.below hb3)
    have HB := Lib.hid (below_next HB.out hb3)
    rw [hw3, hk3]
    clear hw3 hb3 hk3
    have KB : Hid (Bd ((n * n : Nat) * ((2 ^ (254 - j) : Nat) : Int)) 267) := Lib.hid (KNN.out.mul (K := 13) (L := 254) ⟨by rw [Int.natAbs_natCast]; exact Nat.pow_lt_pow_right (by decide) (by omega)⟩ rfl)
    have DA := Lib.hid (Dsh.out.to 0 (e' := (j : Int) - 2254) (z' := (Q : Int) * X) (by rw [HWJ.out]; omega) (by simp))
    have DB := Lib.hid (Dsh2.out.to (254 - j) (e' := (j : Int) - 2254) (by omega) rfl)
    refine (d_add DA.out DB.out ((KQX.out.mono (by decide)).sz2 (K := 4300) (KB.out.mono (by decide)) (by decide)) (by omega) (by omega)).mono ?_
    rintro e w4 ⟨v4, rfl, hv4, hb4⟩
    obtain ⟨n_s, a_s, l_s, k_s, E_s, rfl⟩ := hv4.shape
    have V5 := Lib.hid (V5.out.below hb4)
    have DX := Lib.hid (DX.out.below hb4)
    have V10 := Lib.hid (V10.out.below hb4)
    have Dsh := Lib.hid (Dsh.out.below hb4)
    have Dnn := Lib.hid (Dnn.out.below hb4)
    have Dsh2 := Lib.hid (Dsh2.out.below hb4)
    have V11 := Lib.hid (V11.out.below hb4)
    have HB := Lib.hid (below_next HB.out hb4)
    have Ds := Lib.hid hv4
    clear hv4 hb4
    have KS : Hid (Bd ((Q : Int) * X + (n * n : Nat) * ((2 ^ (254 - j) : Nat) : Int)) 4301) := Lib.hid ((KQX.out.mono (by decide)).add (K := 4300) (KB.out.mono (by decide)) rfl)
    clear DA DB
    go_wp2_with fail
    refine (d_shift Ds.out (KS.out.sz (by decide)) 1 (by omega) (by omega) (by decide) (by decide)).mono ?_
    rintro e w5 ⟨v5, rfl, hv5, hb5⟩
    obtain ⟨n_r, a_r, l_r, k_r, E_r, rfl⟩ := hv5.shape
    have V5 := Lib.hid (V5.out.below hb5)
    have DX := Lib.hid (DX.out.below hb5)
    have V10 := Lib.hid (V10.out.below hb5)
    have Dsh := Lib.hid (Dsh.out.below hb5)
    have Dnn := Lib.hid (Dnn.out.below hb5)
    have Dsh2 := Lib.hid (Dsh2.out.below hb5)
    have V11 := Lib.hid (V11.out.below hb5)
    have Ds := Lib.hid (Ds.out.below hb5)
    have HB := Lib.hid (below_next HB.out hb5)
    have Dr := Lib.hid hv5
    clear hv5 hb5
    have HN' := HN.out
    have HE : Hid (MM j X = (Q : Int) * X + (n * n : Nat) * ((2 ^ (254 - j) : Nat) : Int)) := Lib.hid (by rw [HMM.out, HN', Int.natCast_mul (n * n)])
    have BX := Lib.hid (HBX0.out.below HB.out (by rw [HS0.out, ← HB6.out, ← HB5.out]; omega))
    have HBw := Lib.hid (HB0.out.trans (HB.out.mono HB0.out.size))
    have HK := Lib.hid (fun x y u => BX.out.keepD Dr.out x y u)
    rw [show (j : Int) - 2254 + 1 = (j : Int) - 2253 by omega, ← HE.out] at HK
    obtain ⟨c0, c1, c2, _, f0, f1, f2⟩ := BX.out
    go_wp2
    refine bodyPost_ret (v := .tuple #[Dv n_r (.slice a_r l_r k_r) E_r, .bool true]) (by simp [results, Tryz.results15, go_sem, c0, c1, c2]) rfl ⟨_, rfl, HK.out _ _ _, Box.keepB HBw.out (by rw [← HB6.out, ← HB5.out]; omega) _ _ _⟩
end Go.Proofs.YtdflbipaicpdcaaGreatDoor
