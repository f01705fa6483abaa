/- TopSize: the law's walk. No condition. -/
import Derived.Test.YtdflbipaicpdcaaGreatDoorSYp
set_option linter.unusedVariables false
set_option linter.unusedSimpArgs false
set_option maxRecDepth 100000
namespace Go.Proofs.YtdflbipaicpdcaaGreatDoor
open Go.RowKit

set_option maxHeartbeats 4000000 in
theorem size_walk_10 (a : Option Addr) (len cap : Nat) (f : Nat → Nat) (w : World) (hL : Go.AM.Laid w) (hr : RowIn3 w a len cap f) (hrun : ∀ j, 1 ≤ j → j ≤ 6 → len = 2 ^ j → (∀ i, i < len → Fl.Sz5 (f i)) → RunGood 10 j a len cap f) : Calls Tryz.prog 4 #[.slice a len cap, .bool true] w fun e w' => e = .returned (.bool true) ∧ Go.AM.Kept w w' := by
  have HL := Lib.hid hL
  have HR := Lib.hid hr
  have HRUN := Lib.hid hrun
  clear hL hr hrun
  go_enter Tryz.func4, Tryz.ntmps4
  go_wp2_with fail
  refine (Go.AM.head_calls Go.AM.head_ok HL.out).mono ?_
  rintro e w1 ⟨rfl, hk1⟩
  have HK1 := Lib.hid hk1
  have HL1 := Lib.hid (HL.out.kept hk1)
  have HRF := Lib.hid (HR.out.kept hk1)
  clear hk1
  rcases Nat.lt_or_ge 64 len with h64 | h64
  · have h64' : (64 : Int) < len := by omega
    go_wp2_with fail
    go_ret
    exact ⟨rfl, HK1.out⟩
  have h64' : (len : Int) ≤ 64 := by omega
  go_wp2_with fail
  refine (fits_w 10 len (by decide) h64 w1).mono ?_
  rintro e w2 ⟨b, rfl, hfit, hw2⟩
  rw [hw2]
  clear hw2 w2
  cases b
  · go_wp2_with fail
    go_ret
    exact ⟨rfl, HK1.out⟩
  go_wp2_with fail
  refine (sized_w a len cap f w1 HRF.out h64).mono ?_
  rintro e w2 ⟨b, rfl, hsz, hw2⟩
  rw [hw2]
  clear hw2 w2
  cases b
  · go_wp2_with fail
    go_ret
    exact ⟨rfl, HK1.out⟩
  obtain ⟨_, j, h1, _, hj⟩ := hfit (by first | rfl | trivial)
  have h2 : j ≤ 6 := by
    refine Decidable.byContradiction fun h => ?_
    have : 2 ^ 7 ≤ 2 ^ j := Nat.pow_le_pow_right (by decide) (by omega)
    omega
  have HSZ := Lib.hid (hsz (by first | rfl | trivial))
  have HG := Lib.hid (HRUN.out j h1 h2 hj HSZ.out)
  have HJ := Lib.hid hj.symm
  clear hfit hsz hj HRUN
  have HFF : Hid (∀ i, i < len → Fl.Fin (f i)) := Lib.hid fun i hi => (HSZ.out i hi).fin (by
    rcases HR.out with ⟨_, h, _⟩ | ⟨b, off, _, _, _, h⟩
    · omega
    · exact (h i hi).2)
  go_wp2_with fail
  refine (HG.out w1 HL1.out HRF.out).mono ?_
  rintro e w2 ⟨B, o, c, z, rfl, hk2, hrz, hfz, hgood⟩
  have HK2 := Lib.hid hk2
  have HRF := Lib.hid (HRF.out.kept hk2)
  have HRZ := Lib.hid hrz
  have HFZ := Lib.hid hfz
  have HGD := Lib.hid hgood
  have KX : Hid (Bd (sqs f len) 4260) := Lib.hid ((sqs_bd f len fun j hj => by rw [← Fl.VV_fin (HFF.out j hj).2]; exact bd_VV _).mono (by omega))
  have KY : Hid (Bd (sqs z len) 4260) := Lib.hid ((sqs_bd z len fun j hj => by rw [← Fl.VV_fin (hfz j hj).2]; exact bd_VV _).mono (by omega))
  obtain ⟨X, hX⟩ : ∃ X, sqs f len = X := ⟨_, rfl⟩
  obtain ⟨Y, hY⟩ : ∃ Y, sqs z len = Y := ⟨_, rfl⟩
  rw [hX] at KX HGD
  rw [hY] at KY HGD
  have HX := Lib.hid hX
  have HY := Lib.hid hY
  clear hk2 hrz hfz hgood hX hY
  have HB : Hid (Below w2.heap.size w2 w2) := Lib.hid (Below.refl _ _)
  have hj1 : (1 : Int) ≤ j := by omega
  have hj2 : (j : Int) ≤ 6 := by omega
  go_wp2_with fail
  have HWJ : Hid (IntKind.i64.wrap ((j : Int) - 1) = (j : Int) - 1) := Lib.hid (by rw [IntKind.wrap_i64]; omega)
  obtain ⟨w3, hw3⟩ : ∃ w', w2.alloc (Obj.cells #[Value.int IntKind.i64 0, Value.slice (some ⟨B, o, none⟩) len c] 26) = w' := ⟨_, rfl⟩
  have hb3 : Below w2.heap.size w2 w3 := by rw [← hw3]; exact below_alloc _ _
  obtain ⟨b8, hk3⟩ : ∃ b, w2.heap.size = b := ⟨_, rfl⟩
  have A8 : Hid (Ans w3 b8 (.slice (some ⟨B, o, none⟩) len c)) := Lib.hid (by rw [← hw3, ← hk3]; exact ⟨by simp [go_sem], by simp [go_sem], by simp⟩)
  rw [hw3]; try rw [hk3]
  clear hw3 hk3
  have HRF := Lib.hid (HRF.out.below hb3)
  have HRZ := Lib.hid (HRZ.out.below hb3)
  have HB := Lib.hid (below_next HB.out hb3)
  clear hb3
  refine (squares_w _ _ _ _ _ HRZ.out HFZ.out h64).mono ?_
  rintro e w1 ⟨v1, rfl, hv1, hb1⟩
  obtain ⟨n_y, a_y, l_y, k_y, E_y, rfl⟩ := hv1.shape
  have HRF := Lib.hid (HRF.out.below hb1)
  have HRZ := Lib.hid (HRZ.out.below hb1)
  have A8 := Lib.hid (A8.out.below hb1)
  have HB := Lib.hid (below_next HB.out hb1)
  have Dy := Lib.hid hv1
  clear hv1 hb1
  rw [HY.out] at Dy
  go_wp2_with fail
  obtain ⟨wb2, hw2⟩ : ∃ w', w1.alloc (Obj.cells #[Value.bool n_y, Value.slice a_y l_y k_y, Value.int IntKind.i64 E_y] 36) = w' := ⟨_, rfl⟩
  have hb2 : Below w1.heap.size w1 wb2 := by rw [← hw2]; exact below_alloc _ _
  obtain ⟨b9, hk2⟩ : ∃ b, w1.heap.size = b := ⟨_, rfl⟩
  have V9 : Hid (Var wb2 b9 n_y a_y l_y k_y E_y) := Lib.hid (by have := var_alloc w1 n_y a_y l_y k_y E_y; rw [show _ = wb2 from hw2, hk2] at this; exact this)
  have HRF := Lib.hid (HRF.out.below hb2)
  have HRZ := Lib.hid (HRZ.out.below hb2)
  have A8 := Lib.hid (A8.out.below hb2)
  have Dy := Lib.hid (Dy.out.below hb2)
  have HB := Lib.hid (below_next HB.out hb2)
  rw [hw2, hk2]
  clear hw2 hb2 hk2
  refine (squares_w _ _ _ _ _ HRF.out HFF.out h64).mono ?_
  rintro e w3 ⟨v3, rfl, hv3, hb3⟩
  obtain ⟨n_x, a_x, l_x, k_x, E_x, rfl⟩ := hv3.shape
  have HRF := Lib.hid (HRF.out.below hb3)
  have HRZ := Lib.hid (HRZ.out.below hb3)
  have A8 := Lib.hid (A8.out.below hb3)
  have Dy := Lib.hid (Dy.out.below hb3)
  have V9 := Lib.hid (V9.out.below hb3)
  have HB := Lib.hid (below_next HB.out hb3)
  have Dx := Lib.hid hv3
  clear hv3 hb3
  rw [HX.out] at Dx
  have c80 := cell_at (below_alloc w3 (Obj.cells #[Value.bool n_x, Value.slice a_x l_x k_x, Value.int IntKind.i64 E_x] 36)) A8.out.lt A8.out.c0
  go_wp2_with fail
  clear c80
  obtain ⟨wb4, hw4⟩ : ∃ w', w3.alloc (Obj.cells #[Value.bool n_x, Value.slice a_x l_x k_x, Value.int IntKind.i64 E_x] 36) = w' := ⟨_, rfl⟩
  have hb4 : Below w3.heap.size w3 wb4 := by rw [← hw4]; exact below_alloc _ _
  obtain ⟨b11, hk4⟩ : ∃ b, w3.heap.size = b := ⟨_, rfl⟩
  have V11 : Hid (Var wb4 b11 n_x a_x l_x k_x E_x) := Lib.hid (by have := var_alloc w3 n_x a_x l_x k_x E_x; rw [show _ = wb4 from hw4, hk4] at this; exact this)
  have HRF := Lib.hid (HRF.out.below hb4)
  have HRZ := Lib.hid (HRZ.out.below hb4)
  have A8 := Lib.hid (A8.out.below hb4)
  have Dy := Lib.hid (Dy.out.below hb4)
  have V9 := Lib.hid (V9.out.below hb4)
  have Dx := Lib.hid (Dx.out.below hb4)
  have HB := Lib.hid (below_next HB.out hb4)
  rw [hw4, hk4]
  clear hw4 hb4 hk4
  have KM : Hid (Bd (MM j X) 4280) := Lib.hid (mm_bd h1 h2 KX.out)
  obtain ⟨R13, hR13⟩ : ∃ R : Act → Act → World → Prop, R = (fun a0 a' w' => ∃ (u57 u58 u59 u60 u61 : Value) (b_ : Nat) (n_ : Bool) (a_ : Option Addr) (l_ k_ : Nat) (E_ : Int), a' = ((((((a0.put (some 13) (.pointer (some ⟨b_, 0, none⟩))).put (some 57) u57).put (some 58) u58).put (some 59) u59).put (some 60) u60).put (some 61) u61) ∧ Below wb4.heap.size wb4 w' ∧ Var w' b_ n_ a_ l_ k_ E_ ∧ IsD w' (Dv n_ (.slice a_ l_ k_) E_) X (-2148 + IntKind.i64.wrap ((j : Int) - 1)) ∧ wb4.heap.size ≤ b_) := ⟨_, rfl⟩
  have HR13 := Lib.hid hR13
  clear hR13
  refine wp_region_cut (S := Below wb4.heap.size wb4) R13 (by kernel_rfl) ?_ ?_
  · have hS5 : Below wb4.heap.size wb4 wb4.drew := (Below.refl _ wb4).drew
    obtain ⟨wd5, hwd⟩ : ∃ w', wb4.drew = w' := ⟨_, rfl⟩
    rw [hwd] at hS5 ⊢
    clear hwd
    refine wpAnyR_take (i := 0) rfl (by kernel_rfl) (by kernel_rfl) (by kernel_rfl) (fun _ _ _ h => h) hS5 (.inl ⟨by kernel_rfl, fun w' hS => (by have y110 := cell_at hS V11.out.lt V11.out.c0; have y111 := cell_at hS V11.out.lt V11.out.c1; have y112 := cell_at hS V11.out.lt V11.out.c2; go_simp; exact ⟨rfl, rfl⟩)⟩) rfl (by go_simp; rfl) ?_
    refine wpAnyR_take (i := 1) rfl (by kernel_rfl) (by kernel_rfl) (by kernel_rfl) (fun _ _ _ h => h) hS5 (.inl ⟨by kernel_rfl, fun w' hS => (by go_simp; exact ⟨rfl, rfl⟩)⟩) rfl (by go_simp; rfl) ?_
    refine wpAnyR_two (i := 2) (j := 5) rfl rfl (by kernel_rfl) (by kernel_rfl) (by kernel_rfl) ?_ ?_
    · go_simp
      refine (power_pow len j HJ.out h2 _).mono ?_
      rintro e wx ⟨rfl, hwx⟩
      rw [hwx]; clear hwx
      refine ⟨hS5, ?_⟩
      refine wpAnyR_two (i := 3) (j := 5) rfl rfl (by kernel_rfl) (by kernel_rfl) (by kernel_rfl) ?_ ?_
      · go_simp
        refine wpAnyR_two (i := 4) (j := 5) rfl rfl (by kernel_rfl) (by kernel_rfl) (by kernel_rfl) ?_ ?_
        · go_simp
          refine (d_shift (Dx.out.below hS5) (KX.out.sz (by decide)) (IntKind.i64.wrap ((j : Int) - 1)) (by decide) (by decide) (by rw [HWJ.out]; omega) (by rw [HWJ.out]; omega)).mono ?_
          rintro e w6 ⟨v6, rfl, hv6, hb6⟩
          obtain ⟨n_t, a_t, l_t, k_t, E_t, rfl⟩ := hv6.shape
          have hS6 : Below wb4.heap.size wb4 w6 := below_next hS5 hb6
          have Dt := Lib.hid hv6
          clear hv6 hb6
          refine ⟨hS6, ?_⟩
          refine wpAnyR_oneG (i := 5) rfl (by kernel_rfl) (by kernel_rfl) rfl ?_
          go_simp
          obtain ⟨w7, hw7⟩ : ∃ w', w6.alloc (Obj.cells #[Value.bool false, Value.slice none 0 0, Value.int IntKind.i64 0] 36) = w' := ⟨_, rfl⟩
          have hb7 : Below w6.heap.size w6 w7 := by rw [← hw7]; exact below_alloc _ _
          have hS7 : Below wb4.heap.size wb4 w7 := below_next hS6 hb7
          obtain ⟨b13, hk7⟩ : ∃ b, w6.heap.size = b := ⟨_, rfl⟩
          have BX : Hid (Box w7 b13) := Lib.hid (by have := box_alloc w6; rw [show boxed _ = w7 from hw7, hk7] at this; exact this)
          have BL : Hid (b13 < w7.heap.size) := Lib.hid (by rw [← hw7, ← hk7]; simp)
          have RB : Hid (wb4.heap.size ≤ b13) := Lib.hid (by rw [← hk7]; exact hS6.size)
          have Dt := Lib.hid (Dt.out.below hb7)
          rw [hw7]; try rw [hk7]
          clear hw7 hb7 hk7
          refine ⟨hS7, ?_⟩
          have c0 := BX.out.c0; have c1 := BX.out.c1; have c2 := BX.out.c2; have f0 := BX.out.f0; have f1 := BX.out.f1; have f2 := BX.out.f2
          refine wpAnyR_oneG (i := 6) rfl (by kernel_rfl) (by kernel_rfl) rfl ?_
          go_simp
          refine ⟨Box.keepB hS7 RB.out _ _ _, wpAnyR_done (by kernel_rfl) (cutQ_normal ?_) _⟩
          rw [HR13.out]
          refine ⟨(Dv n_x (.slice a_x l_x k_x) E_x), (.int .i64 ((len : Int))), (.int .i64 ((j : Int))), (.int .i64 (IntKind.i64.wrap ((j : Int) - 1))), (Dv n_t (.slice a_t l_t k_t) E_t), b13, n_t, a_t, l_t, k_t, E_t, ?_, Box.keepB hS7 RB.out _ _ _, box_store BX.out BL.out _ _ _ _ _, BX.out.keepD Dt.out _ _ _, RB.out⟩
          kernel_rfl
        · go_simp
          obtain ⟨w6, hw6⟩ : ∃ w', wd5.alloc (Obj.cells #[Value.bool false, Value.slice none 0 0, Value.int IntKind.i64 0] 36) = w' := ⟨_, rfl⟩
          have hb6 : Below wd5.heap.size wd5 w6 := by rw [← hw6]; exact below_alloc _ _
          have hS6 : Below wb4.heap.size wb4 w6 := below_next hS5 hb6
          obtain ⟨b13, hk6⟩ : ∃ b, wd5.heap.size = b := ⟨_, rfl⟩
          have BX : Hid (Box w6 b13) := Lib.hid (by have := box_alloc wd5; rw [show boxed _ = w6 from hw6, hk6] at this; exact this)
          have BL : Hid (b13 < w6.heap.size) := Lib.hid (by rw [← hw6, ← hk6]; simp)
          have RB : Hid (wb4.heap.size ≤ b13) := Lib.hid (by rw [← hk6]; exact hS5.size)
          rw [hw6]; try rw [hk6]
          clear hw6 hb6 hk6
          refine ⟨hS6, ?_⟩
          refine wpAnyR_oneG (i := 4) rfl (by kernel_rfl) (by kernel_rfl) rfl ?_
          go_simp
          refine (d_shift (Dx.out.below hS6) (KX.out.sz (by decide)) (IntKind.i64.wrap ((j : Int) - 1)) (by decide) (by decide) (by rw [HWJ.out]; omega) (by rw [HWJ.out]; omega)).mono ?_
          rintro e w7 ⟨v7, rfl, hv7, hb7⟩
          obtain ⟨n_t, a_t, l_t, k_t, E_t, rfl⟩ := hv7.shape
          have hS7 : Below wb4.heap.size wb4 w7 := below_next hS6 hb7
          have BX := Lib.hid (BX.out.below hb7 BL.out)
          have BL := Lib.hid (Nat.lt_of_lt_of_le BL.out hb7.size)
          have Dt := Lib.hid hv7
          clear hv7 hb7
          refine ⟨hS7, ?_⟩
          have c0 := BX.out.c0; have c1 := BX.out.c1; have c2 := BX.out.c2; have f0 := BX.out.f0; have f1 := BX.out.f1; have f2 := BX.out.f2
          refine wpAnyR_oneG (i := 6) rfl (by kernel_rfl) (by kernel_rfl) rfl ?_
          go_simp
          refine ⟨Box.keepB hS7 RB.out _ _ _, wpAnyR_done (by kernel_rfl) (cutQ_normal ?_) _⟩
          rw [HR13.out]
          refine ⟨(Dv n_x (.slice a_x l_x k_x) E_x), (.int .i64 ((len : Int))), (.int .i64 ((j : Int))), (.int .i64 (IntKind.i64.wrap ((j : Int) - 1))), (Dv n_t (.slice a_t l_t k_t) E_t), b13, n_t, a_t, l_t, k_t, E_t, ?_, Box.keepB hS7 RB.out _ _ _, box_store BX.out BL.out _ _ _ _ _, BX.out.keepD Dt.out _ _ _, RB.out⟩
          kernel_rfl
      · go_simp
        obtain ⟨w6, hw6⟩ : ∃ w', wd5.alloc (Obj.cells #[Value.bool false, Value.slice none 0 0, Value.int IntKind.i64 0] 36) = w' := ⟨_, rfl⟩
        have hb6 : Below wd5.heap.size wd5 w6 := by rw [← hw6]; exact below_alloc _ _
        have hS6 : Below wb4.heap.size wb4 w6 := below_next hS5 hb6
        obtain ⟨b13, hk6⟩ : ∃ b, wd5.heap.size = b := ⟨_, rfl⟩
        have BX : Hid (Box w6 b13) := Lib.hid (by have := box_alloc wd5; rw [show boxed _ = w6 from hw6, hk6] at this; exact this)
        have BL : Hid (b13 < w6.heap.size) := Lib.hid (by rw [← hw6, ← hk6]; simp)
        have RB : Hid (wb4.heap.size ≤ b13) := Lib.hid (by rw [← hk6]; exact hS5.size)
        rw [hw6]; try rw [hk6]
        clear hw6 hb6 hk6
        refine ⟨hS6, ?_⟩
        refine wpAnyR_oneG (i := 3) rfl (by kernel_rfl) (by kernel_rfl) rfl ?_
        go_simp
        refine wpAnyR_oneG (i := 4) rfl (by kernel_rfl) (by kernel_rfl) rfl ?_
        go_simp
        refine (d_shift (Dx.out.below hS6) (KX.out.sz (by decide)) (IntKind.i64.wrap ((j : Int) - 1)) (by decide) (by decide) (by rw [HWJ.out]; omega) (by rw [HWJ.out]; omega)).mono ?_
        rintro e w7 ⟨v7, rfl, hv7, hb7⟩
        obtain ⟨n_t, a_t, l_t, k_t, E_t, rfl⟩ := hv7.shape
        have hS7 : Below wb4.heap.size wb4 w7 := below_next hS6 hb7
        have BX := Lib.hid (BX.out.below hb7 BL.out)
        have BL := Lib.hid (Nat.lt_of_lt_of_le BL.out hb7.size)
        have Dt := Lib.hid hv7
        clear hv7 hb7
        refine ⟨hS7, ?_⟩
        have c0 := BX.out.c0; have c1 := BX.out.c1; have c2 := BX.out.c2; have f0 := BX.out.f0; have f1 := BX.out.f1; have f2 := BX.out.f2
        refine wpAnyR_oneG (i := 6) rfl (by kernel_rfl) (by kernel_rfl) rfl ?_
        go_simp
        refine ⟨Box.keepB hS7 RB.out _ _ _, wpAnyR_done (by kernel_rfl) (cutQ_normal ?_) _⟩
        rw [HR13.out]
        refine ⟨(Dv n_x (.slice a_x l_x k_x) E_x), (.int .i64 ((len : Int))), (.int .i64 ((j : Int))), (.int .i64 (IntKind.i64.wrap ((j : Int) - 1))), (Dv n_t (.slice a_t l_t k_t) E_t), b13, n_t, a_t, l_t, k_t, E_t, ?_, Box.keepB hS7 RB.out _ _ _, box_store BX.out BL.out _ _ _ _ _, BX.out.keepD Dt.out _ _ _, RB.out⟩
        kernel_rfl
    · go_simp
      obtain ⟨w6, hw6⟩ : ∃ w', wd5.alloc (Obj.cells #[Value.bool false, Value.slice none 0 0, Value.int IntKind.i64 0] 36) = w' := ⟨_, rfl⟩
      have hb6 : Below wd5.heap.size wd5 w6 := by rw [← hw6]; exact below_alloc _ _
      have hS6 : Below wb4.heap.size wb4 w6 := below_next hS5 hb6
      obtain ⟨b13, hk6⟩ : ∃ b, wd5.heap.size = b := ⟨_, rfl⟩
      have BX : Hid (Box w6 b13) := Lib.hid (by have := box_alloc wd5; rw [show boxed _ = w6 from hw6, hk6] at this; exact this)
      have BL : Hid (b13 < w6.heap.size) := Lib.hid (by rw [← hw6, ← hk6]; simp)
      have RB : Hid (wb4.heap.size ≤ b13) := Lib.hid (by rw [← hk6]; exact hS5.size)
      rw [hw6]; try rw [hk6]
      clear hw6 hb6 hk6
      refine ⟨hS6, ?_⟩
      refine wpAnyR_oneG (i := 2) rfl (by kernel_rfl) (by kernel_rfl) rfl ?_
      go_simp
      refine (power_pow len j HJ.out h2 _).mono ?_
      rintro e wx ⟨rfl, hwx⟩
      rw [hwx]; clear hwx
      refine ⟨hS6, ?_⟩
      refine wpAnyR_oneG (i := 3) rfl (by kernel_rfl) (by kernel_rfl) rfl ?_
      go_simp
      refine wpAnyR_oneG (i := 4) rfl (by kernel_rfl) (by kernel_rfl) rfl ?_
      go_simp
      refine (d_shift (Dx.out.below hS6) (KX.out.sz (by decide)) (IntKind.i64.wrap ((j : Int) - 1)) (by decide) (by decide) (by rw [HWJ.out]; omega) (by rw [HWJ.out]; omega)).mono ?_
      rintro e w7 ⟨v7, rfl, hv7, hb7⟩
      obtain ⟨n_t, a_t, l_t, k_t, E_t, rfl⟩ := hv7.shape
      have hS7 : Below wb4.heap.size wb4 w7 := below_next hS6 hb7
      have BX := Lib.hid (BX.out.below hb7 BL.out)
      have BL := Lib.hid (Nat.lt_of_lt_of_le BL.out hb7.size)
      have Dt := Lib.hid hv7
      clear hv7 hb7
      refine ⟨hS7, ?_⟩
      have c0 := BX.out.c0; have c1 := BX.out.c1; have c2 := BX.out.c2; have f0 := BX.out.f0; have f1 := BX.out.f1; have f2 := BX.out.f2
      refine wpAnyR_oneG (i := 6) rfl (by kernel_rfl) (by kernel_rfl) rfl ?_
      go_simp
      refine ⟨Box.keepB hS7 RB.out _ _ _, wpAnyR_done (by kernel_rfl) (cutQ_normal ?_) _⟩
      rw [HR13.out]
      refine ⟨(Dv n_x (.slice a_x l_x k_x) E_x), (.int .i64 ((len : Int))), (.int .i64 ((j : Int))), (.int .i64 (IntKind.i64.wrap ((j : Int) - 1))), (Dv n_t (.slice a_t l_t k_t) E_t), b13, n_t, a_t, l_t, k_t, E_t, ?_, Box.keepB hS7 RB.out _ _ _, box_store BX.out BL.out _ _ _ _ _, BX.out.keepD Dt.out _ _ _, RB.out⟩
      kernel_rfl
  · intro a' wr13 hr
    rw [HR13.out] at hr
    obtain ⟨u57, u58, u59, u60, u61, b13, n_t, a_t, l_t, k_t, E_t, rfl, hbr, hvr, hdr, _⟩ := hr
    go_simp
    have HRF := Lib.hid (HRF.out.below hbr)
    have HRZ := Lib.hid (HRZ.out.below hbr)
    have A8 := Lib.hid (A8.out.below hbr)
    have Dy := Lib.hid (Dy.out.below hbr)
    have V9 := Lib.hid (V9.out.below hbr)
    have Dx := Lib.hid (Dx.out.below hbr)
    have V11 := Lib.hid (V11.out.below hbr)
    have HB := Lib.hid (below_next HB.out hbr)
    have V13 := Lib.hid hvr
    have Dt := Lib.hid hdr
    clear hbr hvr hdr
    have c110 := V11.out.c0; have c111 := V11.out.c1; have c112 := V11.out.c2
    go_wp2_with fail
    clear c110 c111 c112
    refine (most_n 10 len j HJ.out (by decide) h1 h2 Dx.out KX.out).mono ?_
    rintro e w5 ⟨v5, rfl, hv5, hb5⟩
    obtain ⟨n_m, a_m, l_m, k_m, E_m, rfl⟩ := hv5.shape
    have HRF := Lib.hid (HRF.out.below hb5)
    have HRZ := Lib.hid (HRZ.out.below hb5)
    have A8 := Lib.hid (A8.out.below hb5)
    have Dy := Lib.hid (Dy.out.below hb5)
    have V9 := Lib.hid (V9.out.below hb5)
    have Dx := Lib.hid (Dx.out.below hb5)
    have V11 := Lib.hid (V11.out.below hb5)
    have V13 := Lib.hid (V13.out.below hb5)
    have Dt := Lib.hid (Dt.out.below hb5)
    have HB := Lib.hid (below_next HB.out hb5)
    have Dm := Lib.hid hv5
    clear hv5 hb5
    go_wp2_with fail
    obtain ⟨wb6, hw6⟩ : ∃ w', w5.alloc (Obj.cells #[Value.bool n_m, Value.slice a_m l_m k_m, Value.int IntKind.i64 E_m] 36) = w' := ⟨_, rfl⟩
    have hb6 : Below w5.heap.size w5 wb6 := by rw [← hw6]; exact below_alloc _ _
    obtain ⟨b14, hk6⟩ : ∃ b, w5.heap.size = b := ⟨_, rfl⟩
    have V14 : Hid (Var wb6 b14 n_m a_m l_m k_m E_m) := Lib.hid (by have := var_alloc w5 n_m a_m l_m k_m E_m; rw [show _ = wb6 from hw6, hk6] at this; exact this)
    have HRF := Lib.hid (HRF.out.below hb6)
    have HRZ := Lib.hid (HRZ.out.below hb6)
    have A8 := Lib.hid (A8.out.below hb6)
    have Dy := Lib.hid (Dy.out.below hb6)
    have V9 := Lib.hid (V9.out.below hb6)
    have Dx := Lib.hid (Dx.out.below hb6)
    have V11 := Lib.hid (V11.out.below hb6)
    have V13 := Lib.hid (V13.out.below hb6)
    have Dt := Lib.hid (Dt.out.below hb6)
    have Dm := Lib.hid (Dm.out.below hb6)
    have HB := Lib.hid (below_next HB.out hb6)
    rw [hw6, hk6]
    clear hw6 hb6 hk6
    have KT : Hid (Bd (-X * ((2 ^ (j - 1) : Nat) : Int)) 4266) := Lib.hid (KX.out.neg.mul (K := 4260) (L := 6) ⟨by rw [Int.natAbs_natCast]; exact Nat.pow_lt_pow_right (by decide) (by omega)⟩ rfl)
    have KD : Hid (Bd (Y + -X * ((2 ^ (j - 1) : Nat) : Int)) 4267) := Lib.hid ((KY.out.mono (by decide)).add KT.out rfl)
    obtain ⟨R16, hR16⟩ : ∃ R : Act → Act → World → Prop, R = (fun a0 a' w' => ∃ (u69 u70 u71 u72 : Value) (b_ : Nat) (n_ : Bool) (a_ : Option Addr) (l_ k_ : Nat) (E_ : Int), a' = (((((a0.put (some 16) (.pointer (some ⟨b_, 0, none⟩))).put (some 69) u69).put (some 70) u70).put (some 71) u71).put (some 72) u72) ∧ Below wb6.heap.size wb6 w' ∧ Var w' b_ n_ a_ l_ k_ E_ ∧ IsD w' (Dv n_ (.slice a_ l_ k_) E_) (Y + -X * ((2 ^ (j - 1) : Nat) : Int)) (-2148) ∧ wb6.heap.size ≤ b_) := ⟨_, rfl⟩
    have HR16 := Lib.hid hR16
    clear hR16
    refine wp_region_cut (S := Below wb6.heap.size wb6) R16 (by kernel_rfl) ?_ ?_
    · have hS7 : Below wb6.heap.size wb6 wb6.drew := (Below.refl _ wb6).drew
      obtain ⟨wd7, hwd⟩ : ∃ w', wb6.drew = w' := ⟨_, rfl⟩
      rw [hwd] at hS7 ⊢
      clear hwd
      refine wpAnyR_take (i := 0) rfl (by kernel_rfl) (by kernel_rfl) (by kernel_rfl) (fun _ _ _ h => h) hS7 (.inl ⟨by kernel_rfl, fun w' hS => (by have y90 := cell_at hS V9.out.lt V9.out.c0; have y91 := cell_at hS V9.out.lt V9.out.c1; have y92 := cell_at hS V9.out.lt V9.out.c2; go_simp; exact ⟨rfl, rfl⟩)⟩) rfl (by go_simp; rfl) ?_
      refine wpAnyR_take (i := 1) rfl (by kernel_rfl) (by kernel_rfl) (by kernel_rfl) (fun _ _ _ h => h) hS7 (.inl ⟨by kernel_rfl, fun w' hS => (by have y130 := cell_at hS V13.out.lt V13.out.c0; have y131 := cell_at hS V13.out.lt V13.out.c1; have y132 := cell_at hS V13.out.lt V13.out.c2; go_simp; exact ⟨rfl, rfl⟩)⟩) rfl (by go_simp; rfl) ?_
      refine wpAnyR_two (i := 2) (j := 4) rfl rfl (by kernel_rfl) (by kernel_rfl) (by kernel_rfl) ?_ ?_
      · go_simp
        refine (d_flip (Dt.out.below hS7)).mono ?_
        rintro e w8 ⟨v8, rfl, hv8, hb8⟩
        obtain ⟨n_ft, a_ft, l_ft, k_ft, E_ft, rfl⟩ := hv8.shape
        have hS8 : Below wb6.heap.size wb6 w8 := below_next hS7 hb8
        have Dft := Lib.hid hv8
        clear hv8 hb8
        refine ⟨hS8, ?_⟩
        refine wpAnyR_two (i := 3) (j := 4) rfl rfl (by kernel_rfl) (by kernel_rfl) (by kernel_rfl) ?_ ?_
        · go_simp
          refine (d_add (Dy.out.below hS8) (Dft.out.to (j - 1) (e' := -2148) (z' := -X * ((2 ^ (j - 1) : Nat) : Int)) (by rw [HWJ.out]; omega) rfl) ((KY.out.mono (by decide)).sz2 KT.out (by decide)) (by decide) (by decide)).mono ?_
          rintro e w9 ⟨v9, rfl, hv9, hb9⟩
          obtain ⟨n_d, a_d, l_d, k_d, E_d, rfl⟩ := hv9.shape
          have hS9 : Below wb6.heap.size wb6 w9 := below_next hS8 hb9
          have Dft := Lib.hid (Dft.out.below hb9)
          have Dd := Lib.hid hv9
          clear hv9 hb9
          refine ⟨hS9, ?_⟩
          refine wpAnyR_oneG (i := 4) rfl (by kernel_rfl) (by kernel_rfl) rfl ?_
          go_simp
          obtain ⟨w10, hw10⟩ : ∃ w', w9.alloc (Obj.cells #[Value.bool false, Value.slice none 0 0, Value.int IntKind.i64 0] 36) = w' := ⟨_, rfl⟩
          have hb10 : Below w9.heap.size w9 w10 := by rw [← hw10]; exact below_alloc _ _
          have hS10 : Below wb6.heap.size wb6 w10 := below_next hS9 hb10
          obtain ⟨b16, hk10⟩ : ∃ b, w9.heap.size = b := ⟨_, rfl⟩
          have BX : Hid (Box w10 b16) := Lib.hid (by have := box_alloc w9; rw [show boxed _ = w10 from hw10, hk10] at this; exact this)
          have BL : Hid (b16 < w10.heap.size) := Lib.hid (by rw [← hw10, ← hk10]; simp)
          have RB : Hid (wb6.heap.size ≤ b16) := Lib.hid (by rw [← hk10]; exact hS9.size)
          have Dft := Lib.hid (Dft.out.below hb10)
          have Dd := Lib.hid (Dd.out.below hb10)
          rw [hw10]; try rw [hk10]
          clear hw10 hb10 hk10
          refine ⟨hS10, ?_⟩
          have c0 := BX.out.c0; have c1 := BX.out.c1; have c2 := BX.out.c2; have f0 := BX.out.f0; have f1 := BX.out.f1; have f2 := BX.out.f2
          refine wpAnyR_oneG (i := 5) rfl (by kernel_rfl) (by kernel_rfl) rfl ?_
          go_simp
          refine ⟨Box.keepB hS10 RB.out _ _ _, wpAnyR_done (by kernel_rfl) (cutQ_normal ?_) _⟩
          rw [HR16.out]
          refine ⟨(Dv n_y (.slice a_y l_y k_y) E_y), (Dv n_t (.slice a_t l_t k_t) E_t), (Dv n_ft (.slice a_ft l_ft k_ft) E_ft), (Dv n_d (.slice a_d l_d k_d) E_d), b16, n_d, a_d, l_d, k_d, E_d, ?_, Box.keepB hS10 RB.out _ _ _, box_store BX.out BL.out _ _ _ _ _, BX.out.keepD Dd.out _ _ _, RB.out⟩
          kernel_rfl
        · go_simp
          obtain ⟨w9, hw9⟩ : ∃ w', w8.alloc (Obj.cells #[Value.bool false, Value.slice none 0 0, Value.int IntKind.i64 0] 36) = w' := ⟨_, rfl⟩
          have hb9 : Below w8.heap.size w8 w9 := by rw [← hw9]; exact below_alloc _ _
          have hS9 : Below wb6.heap.size wb6 w9 := below_next hS8 hb9
          obtain ⟨b16, hk9⟩ : ∃ b, w8.heap.size = b := ⟨_, rfl⟩
          have BX : Hid (Box w9 b16) := Lib.hid (by have := box_alloc w8; rw [show boxed _ = w9 from hw9, hk9] at this; exact this)
          have BL : Hid (b16 < w9.heap.size) := Lib.hid (by rw [← hw9, ← hk9]; simp)
          have RB : Hid (wb6.heap.size ≤ b16) := Lib.hid (by rw [← hk9]; exact hS8.size)
          have Dft := Lib.hid (Dft.out.below hb9)
          rw [hw9]; try rw [hk9]
          clear hw9 hb9 hk9
          refine ⟨hS9, ?_⟩
          refine wpAnyR_oneG (i := 3) rfl (by kernel_rfl) (by kernel_rfl) rfl ?_
          go_simp
          refine (d_add (Dy.out.below hS9) (Dft.out.to (j - 1) (e' := -2148) (z' := -X * ((2 ^ (j - 1) : Nat) : Int)) (by rw [HWJ.out]; omega) rfl) ((KY.out.mono (by decide)).sz2 KT.out (by decide)) (by decide) (by decide)).mono ?_
          rintro e w10 ⟨v10, rfl, hv10, hb10⟩
          obtain ⟨n_d, a_d, l_d, k_d, E_d, rfl⟩ := hv10.shape
          have hS10 : Below wb6.heap.size wb6 w10 := below_next hS9 hb10
          have Dft := Lib.hid (Dft.out.below hb10)
          have BX := Lib.hid (BX.out.below hb10 BL.out)
          have BL := Lib.hid (Nat.lt_of_lt_of_le BL.out hb10.size)
          have Dd := Lib.hid hv10
          clear hv10 hb10
          refine ⟨hS10, ?_⟩
          have c0 := BX.out.c0; have c1 := BX.out.c1; have c2 := BX.out.c2; have f0 := BX.out.f0; have f1 := BX.out.f1; have f2 := BX.out.f2
          refine wpAnyR_oneG (i := 5) rfl (by kernel_rfl) (by kernel_rfl) rfl ?_
          go_simp
          refine ⟨Box.keepB hS10 RB.out _ _ _, wpAnyR_done (by kernel_rfl) (cutQ_normal ?_) _⟩
          rw [HR16.out]
          refine ⟨(Dv n_y (.slice a_y l_y k_y) E_y), (Dv n_t (.slice a_t l_t k_t) E_t), (Dv n_ft (.slice a_ft l_ft k_ft) E_ft), (Dv n_d (.slice a_d l_d k_d) E_d), b16, n_d, a_d, l_d, k_d, E_d, ?_, Box.keepB hS10 RB.out _ _ _, box_store BX.out BL.out _ _ _ _ _, BX.out.keepD Dd.out _ _ _, RB.out⟩
          kernel_rfl
      · go_simp
        obtain ⟨w8, hw8⟩ : ∃ w', wd7.alloc (Obj.cells #[Value.bool false, Value.slice none 0 0, Value.int IntKind.i64 0] 36) = w' := ⟨_, rfl⟩
        have hb8 : Below wd7.heap.size wd7 w8 := by rw [← hw8]; exact below_alloc _ _
        have hS8 : Below wb6.heap.size wb6 w8 := below_next hS7 hb8
        obtain ⟨b16, hk8⟩ : ∃ b, wd7.heap.size = b := ⟨_, rfl⟩
        have BX : Hid (Box w8 b16) := Lib.hid (by have := box_alloc wd7; rw [show boxed _ = w8 from hw8, hk8] at this; exact this)
        have BL : Hid (b16 < w8.heap.size) := Lib.hid (by rw [← hw8, ← hk8]; simp)
        have RB : Hid (wb6.heap.size ≤ b16) := Lib.hid (by rw [← hk8]; exact hS7.size)
        rw [hw8]; try rw [hk8]
        clear hw8 hb8 hk8
        refine ⟨hS8, ?_⟩
        refine wpAnyR_oneG (i := 2) rfl (by kernel_rfl) (by kernel_rfl) rfl ?_
        go_simp
        refine (d_flip (Dt.out.below hS8)).mono ?_
        rintro e w9 ⟨v9, rfl, hv9, hb9⟩
        obtain ⟨n_ft, a_ft, l_ft, k_ft, E_ft, rfl⟩ := hv9.shape
        have hS9 : Below wb6.heap.size wb6 w9 := below_next hS8 hb9
        have BX := Lib.hid (BX.out.below hb9 BL.out)
        have BL := Lib.hid (Nat.lt_of_lt_of_le BL.out hb9.size)
        have Dft := Lib.hid hv9
        clear hv9 hb9
        refine ⟨hS9, ?_⟩
        refine wpAnyR_oneG (i := 3) rfl (by kernel_rfl) (by kernel_rfl) rfl ?_
        go_simp
        refine (d_add (Dy.out.below hS9) (Dft.out.to (j - 1) (e' := -2148) (z' := -X * ((2 ^ (j - 1) : Nat) : Int)) (by rw [HWJ.out]; omega) rfl) ((KY.out.mono (by decide)).sz2 KT.out (by decide)) (by decide) (by decide)).mono ?_
        rintro e w10 ⟨v10, rfl, hv10, hb10⟩
        obtain ⟨n_d, a_d, l_d, k_d, E_d, rfl⟩ := hv10.shape
        have hS10 : Below wb6.heap.size wb6 w10 := below_next hS9 hb10
        have Dft := Lib.hid (Dft.out.below hb10)
        have BX := Lib.hid (BX.out.below hb10 BL.out)
        have BL := Lib.hid (Nat.lt_of_lt_of_le BL.out hb10.size)
        have Dd := Lib.hid hv10
        clear hv10 hb10
        refine ⟨hS10, ?_⟩
        have c0 := BX.out.c0; have c1 := BX.out.c1; have c2 := BX.out.c2; have f0 := BX.out.f0; have f1 := BX.out.f1; have f2 := BX.out.f2
        refine wpAnyR_oneG (i := 5) rfl (by kernel_rfl) (by kernel_rfl) rfl ?_
        go_simp
        refine ⟨Box.keepB hS10 RB.out _ _ _, wpAnyR_done (by kernel_rfl) (cutQ_normal ?_) _⟩
        rw [HR16.out]
        refine ⟨(Dv n_y (.slice a_y l_y k_y) E_y), (Dv n_t (.slice a_t l_t k_t) E_t), (Dv n_ft (.slice a_ft l_ft k_ft) E_ft), (Dv n_d (.slice a_d l_d k_d) E_d), b16, n_d, a_d, l_d, k_d, E_d, ?_, Box.keepB hS10 RB.out _ _ _, box_store BX.out BL.out _ _ _ _ _, BX.out.keepD Dd.out _ _ _, RB.out⟩
        kernel_rfl
    · intro a' wr16 hr
      rw [HR16.out] at hr
      obtain ⟨u69, u70, u71, u72, b16, n_d, a_d, l_d, k_d, E_d, rfl, hbr, hvr, hdr, _⟩ := hr
      go_simp
      have HRF := Lib.hid (HRF.out.below hbr)
      have HRZ := Lib.hid (HRZ.out.below hbr)
      have A8 := Lib.hid (A8.out.below hbr)
      have Dy := Lib.hid (Dy.out.below hbr)
      have V9 := Lib.hid (V9.out.below hbr)
      have Dx := Lib.hid (Dx.out.below hbr)
      have V11 := Lib.hid (V11.out.below hbr)
      have V13 := Lib.hid (V13.out.below hbr)
      have Dt := Lib.hid (Dt.out.below hbr)
      have Dm := Lib.hid (Dm.out.below hbr)
      have V14 := Lib.hid (V14.out.below hbr)
      have HB := Lib.hid (below_next HB.out hbr)
      have V16 := Lib.hid hvr
      have Dd := Lib.hid hdr
      clear hbr hvr hdr
      have KDD : Hid (Bd ((Y + -X * ((2 ^ (j - 1) : Nat) : Int)) * (Y + -X * ((2 ^ (j - 1) : Nat) : Int))) 8534) := Lib.hid (KD.out.mul KD.out rfl)
      have KMM : Hid (Bd (MM j X * MM j X) 8560) := Lib.hid (KM.out.mul KM.out rfl)
      have KMX : Hid (Bd (MM j X * X) 8540) := Lib.hid (KM.out.mul KX.out rfl)
      have KMX2 : Hid (Bd (MM j X * X * ((2 ^ 106 : Nat) : Int)) 8647) := Lib.hid (KMX.out.mul (K := 8540) (L := 107) ⟨by rw [Int.natAbs_natCast]; exact Nat.pow_lt_pow_right (by decide) (by decide)⟩ rfl)
      have KDD2 : Hid (Bd ((Y + -X * ((2 ^ (j - 1) : Nat) : Int)) * (Y + -X * ((2 ^ (j - 1) : Nat) : Int)) * ((2 ^ (209 - 2 * j) : Nat) : Int)) 8744) := Lib.hid (KDD.out.mul (K := 8534) (L := 210) ⟨by rw [Int.natAbs_natCast]; exact Nat.pow_lt_pow_right (by decide) (by omega)⟩ rfl)
      have KS : Hid (Bd (MM j X * MM j X + MM j X * X * ((2 ^ 106 : Nat) : Int)) 8744) := Lib.hid (((KMM.out.mono (by decide)).add (KMX2.out) rfl).mono (by decide))
      have HC : Hid (cmpv ((Y + -X * ((2 ^ (j - 1) : Nat) : Int)) * (Y + -X * ((2 ^ (j - 1) : Nat) : Int)) * ((2 ^ (209 - 2 * j) : Nat) : Int)) (MM j X * MM j X + MM j X * X * ((2 ^ 106 : Nat) : Int)) ≤ 0) := Lib.hid (by have := HGD.out; unfold Good at this; unfold cmpv; split; decide; split; decide; omega)
      go_wp2_with fail
      refine wp_region_still (S := Below wr16.heap.size wr16) (by kernel_rfl) ?_
      have hS7 : Below wr16.heap.size wr16 wr16.drew := (Below.refl _ wr16).drew
      refine wpAnyR_take (i := 0) rfl (by kernel_rfl) (by kernel_rfl) (by kernel_rfl) (fun _ _ _ h => h) hS7 (.inl ⟨by kernel_rfl, fun w' hS => (by go_simp; exact ⟨rfl, rfl⟩)⟩) rfl (by go_simp; rfl) ?_
      refine wpAnyR_take (i := 1) rfl (by kernel_rfl) (by kernel_rfl) (by kernel_rfl) (fun _ _ _ h => h) hS7 (.inl ⟨by kernel_rfl, fun w' hS => (by go_simp; exact ⟨rfl, rfl⟩)⟩) rfl (by go_simp; rfl) ?_
      refine wpAnyR_take (i := 2) rfl (by kernel_rfl) (by kernel_rfl) (by kernel_rfl) (fun _ _ _ h => h) hS7 (.inl ⟨by kernel_rfl, fun w' hS => (by have y160 := cell_at hS V16.out.lt V16.out.c0; have y161 := cell_at hS V16.out.lt V16.out.c1; have y162 := cell_at hS V16.out.lt V16.out.c2; go_simp; exact ⟨rfl, rfl⟩)⟩) rfl (by go_simp; rfl) ?_
      refine wpAnyR_take (i := 3) rfl (by kernel_rfl) (by kernel_rfl) (by kernel_rfl) (fun _ _ _ h => h) hS7 (.inl ⟨by kernel_rfl, fun w' hS => (by have y160 := cell_at hS V16.out.lt V16.out.c0; have y161 := cell_at hS V16.out.lt V16.out.c1; have y162 := cell_at hS V16.out.lt V16.out.c2; go_simp; exact ⟨rfl, rfl⟩)⟩) rfl (by go_simp; rfl) ?_
      refine wpAnyR_take (i := 5) rfl (by kernel_rfl) (by kernel_rfl) (by kernel_rfl) (fun _ _ _ h => h) hS7 (.inl ⟨by kernel_rfl, fun w' hS => (by have y140 := cell_at hS V14.out.lt V14.out.c0; have y141 := cell_at hS V14.out.lt V14.out.c1; have y142 := cell_at hS V14.out.lt V14.out.c2; go_simp; exact ⟨rfl, rfl⟩)⟩) rfl (by go_simp; rfl) ?_
      refine wpAnyR_take (i := 6) rfl (by kernel_rfl) (by kernel_rfl) (by kernel_rfl) (fun _ _ _ h => h) hS7 (.inl ⟨by kernel_rfl, fun w' hS => (by have y140 := cell_at hS V14.out.lt V14.out.c0; have y141 := cell_at hS V14.out.lt V14.out.c1; have y142 := cell_at hS V14.out.lt V14.out.c2; go_simp; exact ⟨rfl, rfl⟩)⟩) rfl (by go_simp; rfl) ?_
      refine wpAnyR_take (i := 9) rfl (by kernel_rfl) (by kernel_rfl) (by kernel_rfl) (fun _ _ _ h => h) hS7 (.inl ⟨by kernel_rfl, fun w' hS => (by have y140 := cell_at hS V14.out.lt V14.out.c0; have y141 := cell_at hS V14.out.lt V14.out.c1; have y142 := cell_at hS V14.out.lt V14.out.c2; go_simp; exact ⟨rfl, rfl⟩)⟩) rfl (by go_simp; rfl) ?_
      refine wpAnyR_take (i := 10) rfl (by kernel_rfl) (by kernel_rfl) (by kernel_rfl) (fun _ _ _ h => h) hS7 (.inl ⟨by kernel_rfl, fun w' hS => (by have y130 := cell_at hS V13.out.lt V13.out.c0; have y131 := cell_at hS V13.out.lt V13.out.c1; have y132 := cell_at hS V13.out.lt V13.out.c2; go_simp; exact ⟨rfl, rfl⟩)⟩) rfl (by go_simp; rfl) ?_
      refine wpAnyR_oneG (i := 4) rfl (by kernel_rfl) (by kernel_rfl) rfl ?_
      go_simp
      refine (d_mul (Dd.out.below hS7) (Dd.out.below hS7) (KD.out.sz (by decide)) (KD.out.sz (by decide)) (KDD.out.sz (by decide)) (by decide) (by decide) (by decide) (by decide)).mono ?_
      rintro e w8 ⟨v8, rfl, hv8, hb8⟩
      obtain ⟨n_dd, a_dd, l_dd, k_dd, E_dd, rfl⟩ := hv8.shape
      have hS8 : Below wr16.heap.size wr16 w8 := below_next hS7 hb8
      have Ddd := Lib.hid hv8
      clear hv8 hb8
      refine ⟨hS8, ?_⟩
      refine wpAnyR_oneG (i := 7) rfl (by kernel_rfl) (by kernel_rfl) rfl ?_
      go_simp
      refine (d_mul (Dm.out.below hS8) (Dm.out.below hS8) (KM.out.sz (by decide)) (KM.out.sz (by decide)) (KMM.out.sz (by decide)) (by omega) (by omega) (by omega) (by omega)).mono ?_
      rintro e w9 ⟨v9, rfl, hv9, hb9⟩
      obtain ⟨n_mm, a_mm, l_mm, k_mm, E_mm, rfl⟩ := hv9.shape
      have hS9 : Below wr16.heap.size wr16 w9 := below_next hS8 hb9
      have Ddd := Lib.hid (Ddd.out.below hb9)
      have Dmm := Lib.hid hv9
      clear hv9 hb9
      refine ⟨hS9, ?_⟩
      refine wpAnyR_oneG (i := 8) rfl (by kernel_rfl) (by kernel_rfl) rfl ?_
      go_simp
      refine (d_shift Dmm.out (KMM.out.sz (by decide)) 1 (by omega) (by omega) (by decide) (by decide)).mono ?_
      rintro e w10 ⟨v10, rfl, hv10, hb10⟩
      obtain ⟨n_m2, a_m2, l_m2, k_m2, E_m2, rfl⟩ := hv10.shape
      have hS10 : Below wr16.heap.size wr16 w10 := below_next hS9 hb10
      have Ddd := Lib.hid (Ddd.out.below hb10)
      have Dmm := Lib.hid (Dmm.out.below hb10)
      have Dm2 := Lib.hid hv10
      clear hv10 hb10
      refine ⟨hS10, ?_⟩
      refine wpAnyR_oneG (i := 11) rfl (by kernel_rfl) (by kernel_rfl) rfl ?_
      go_simp
      refine (d_mul (Dm.out.below hS10) (Dt.out.below hS10) (KM.out.sz (by decide)) (KX.out.sz (by decide)) (KMX.out.sz (by decide)) (by omega) (by omega) (by rw [HWJ.out]; omega) (by rw [HWJ.out]; omega)).mono ?_
      rintro e w11 ⟨v11, rfl, hv11, hb11⟩
      obtain ⟨n_mt, a_mt, l_mt, k_mt, E_mt, rfl⟩ := hv11.shape
      have hS11 : Below wr16.heap.size wr16 w11 := below_next hS10 hb11
      have Ddd := Lib.hid (Ddd.out.below hb11)
      have Dmm := Lib.hid (Dmm.out.below hb11)
      have Dm2 := Lib.hid (Dm2.out.below hb11)
      have Dmt := Lib.hid hv11
      clear hv11 hb11
      refine ⟨hS11, ?_⟩
      refine wpAnyR_oneG (i := 12) rfl (by kernel_rfl) (by kernel_rfl) rfl ?_
      go_simp
      refine (d_shift Dmt.out (KMX.out.sz (by decide)) 3 (by rw [HWJ.out]; omega) (by rw [HWJ.out]; omega) (by decide) (by decide)).mono ?_
      rintro e w12 ⟨v12, rfl, hv12, hb12⟩
      obtain ⟨n_m8, a_m8, l_m8, k_m8, E_m8, rfl⟩ := hv12.shape
      have hS12 : Below wr16.heap.size wr16 w12 := below_next hS11 hb12
      have Ddd := Lib.hid (Ddd.out.below hb12)
      have Dmm := Lib.hid (Dmm.out.below hb12)
      have Dm2 := Lib.hid (Dm2.out.below hb12)
      have Dmt := Lib.hid (Dmt.out.below hb12)
      have Dm8 := Lib.hid hv12
      clear hv12 hb12
      refine ⟨hS12, ?_⟩
      refine wpAnyR_oneG (i := 13) rfl (by kernel_rfl) (by kernel_rfl) rfl ?_
      go_simp
      refine (d_add (Dm2.out.to 0 (e' := 2 * (j : Int) - 4505) (z' := MM j X * MM j X) (by omega) (by simp)) (Dm8.out.to 106 (e' := 2 * (j : Int) - 4505) (by rw [HWJ.out]; omega) rfl) ((KMM.out.mono (by decide)).sz2 KMX2.out (by decide)) (by omega) (by omega)).mono ?_
      rintro e w13 ⟨v13, rfl, hv13, hb13⟩
      obtain ⟨n_s, a_s, l_s, k_s, E_s, rfl⟩ := hv13.shape
      have hS13 : Below wr16.heap.size wr16 w13 := below_next hS12 hb13
      have Ddd := Lib.hid (Ddd.out.below hb13)
      have Dmm := Lib.hid (Dmm.out.below hb13)
      have Dm2 := Lib.hid (Dm2.out.below hb13)
      have Dmt := Lib.hid (Dmt.out.below hb13)
      have Dm8 := Lib.hid (Dm8.out.below hb13)
      have Ds := Lib.hid hv13
      clear hv13 hb13
      refine ⟨hS13, ?_⟩
      refine wpAnyR_oneG (i := 14) rfl (by kernel_rfl) (by kernel_rfl) rfl ?_
      go_simp
      refine (d_cmp (Ddd.out.to (209 - 2 * j) (e' := 2 * (j : Int) - 4505) (by omega) rfl) Ds.out (KDD2.out.sz2 KS.out (by decide)) (by omega) (by omega)).mono ?_
      rintro e w14 ⟨rfl, hb14⟩
      have hS14 : Below wr16.heap.size wr16 w14 := below_next hS13 hb14
      have Ddd := Lib.hid (Ddd.out.below hb14)
      have Dmm := Lib.hid (Dmm.out.below hb14)
      have Dm2 := Lib.hid (Dm2.out.below hb14)
      have Dmt := Lib.hid (Dmt.out.below hb14)
      have Dm8 := Lib.hid (Dm8.out.below hb14)
      have Ds := Lib.hid (Ds.out.below hb14)
      clear hb14
      generalize cmpv ((Y + -X * ((2 ^ (j - 1) : Nat) : Int)) * (Y + -X * ((2 ^ (j - 1) : Nat) : Int)) * ((2 ^ (209 - 2 * j) : Nat) : Int)) (MM j X * MM j X + MM j X * X * ((2 ^ 106 : Nat) : Int)) = cc at HC ⊢
      have hcc := HC.out
      refine ⟨hS14, ?_⟩
      refine wpAnyR_take (i := 15) rfl (by kernel_rfl) (by kernel_rfl) (by kernel_rfl) (fun _ _ _ h => h) hS14 (.inl ⟨by kernel_rfl, fun w' hS => (by go_simp; exact ⟨rfl, rfl⟩)⟩) rfl (by go_simp; rfl) ?_
      refine wpAnyR_take (i := 16) rfl (by kernel_rfl) (by kernel_rfl) (by kernel_rfl) (fun _ _ _ h => h) hS14 (.inl ⟨by kernel_rfl, fun w' hS => (by go_simp; exact ⟨rfl, rfl⟩)⟩) rfl (by go_simp; rfl) ?_
      refine wpAnyR_take (i := 17) rfl (by kernel_rfl) (by kernel_rfl) (by kernel_rfl) (fun _ _ _ h => h) hS14 (.inl ⟨by kernel_rfl, fun w' hS => (by go_simp; exact ⟨rfl, rfl⟩)⟩) rfl (by go_simp; rfl) ?_
      refine wpAnyR_done (by kernel_rfl) ?_ _
      have HRF := Lib.hid (HRF.out.below hS14)
      have HRZ := Lib.hid (HRZ.out.below hS14)
      have A8 := Lib.hid (A8.out.below hS14)
      have Dy := Lib.hid (Dy.out.below hS14)
      have V9 := Lib.hid (V9.out.below hS14)
      have Dx := Lib.hid (Dx.out.below hS14)
      have V11 := Lib.hid (V11.out.below hS14)
      have V13 := Lib.hid (V13.out.below hS14)
      have Dt := Lib.hid (Dt.out.below hS14)
      have Dm := Lib.hid (Dm.out.below hS14)
      have V14 := Lib.hid (V14.out.below hS14)
      have V16 := Lib.hid (V16.out.below hS14)
      have Dd := Lib.hid (Dd.out.below hS14)
      have HB := Lib.hid (below_next HB.out hS14)
      go_wp2
      go_ret
      exact ⟨rfl, kept_end HK1.out HK2.out HB.out⟩
end Go.Proofs.YtdflbipaicpdcaaGreatDoor
