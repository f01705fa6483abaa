/- OpsNear: the law's walk. No condition. -/
import Derived.Test.YtemneeknemijpaaWv
import Derived.Test.YtemneeknemijpaaNn
import Derived.Test.YtemneeknemijpaaAlike
import Derived.Test.YtemneeknemijpaaHead4
set_option maxRecDepth 100000
namespace Go.Proofs.Ytemneeknemijpaa
open Go.RowKit

set_option maxHeartbeats 4000000 in
theorem opsNear_walk (a b f : Nat) (w : World) (ha : a < 2 ^ 64) (hb : b < 2 ^ 64) (hf : f < 2 ^ 64) : Calls Try.prog 11 #[F a, F b, F f] w fun e w' => e = .returned (.bool true) ∧ Below w.heap.size w w' := by
  have HA := Lib.hid ha
  have HBB := Lib.hid hb
  have HF := Lib.hid hf
  clear ha hb hf
  go_enter Try.func11, Try.ntmps11
  go_wp2_with fail
  refine (l4_head _).mono ?_
  rintro e w1 ⟨rfl, hb1⟩
  have HB : Hid (Below w.heap.size w w1) := Lib.hid hb1
  clear hb1
  go_wp2_with fail
  refine (f_of a HA.out _).mono ?_
  rintro e w2 ⟨v2, rfl, hv2, hb2⟩
  obtain ⟨n_a, a_a, l_a, k_a, E_a, rfl⟩ := hv2.shape
  have HB := Lib.hid (below_next HB.out hb2)
  have Da := Lib.hid hv2
  clear hv2 hb2
  obtain ⟨oka, hi2⟩ : ∃ i, Fl.isFin a = i := ⟨_, rfl⟩
  rw [hi2]
  have Ia := Lib.hid hi2
  clear hi2
  go_wp2_with fail
  obtain ⟨wb3, hw3⟩ : ∃ w', w2.alloc (Obj.cells #[Value.bool n_a, Value.slice a_a l_a k_a, Value.int IntKind.i64 E_a] 35) = w' := ⟨_, rfl⟩
  have hb3 : Below w2.heap.size w2 wb3 := by rw [← hw3]; exact below_alloc _ _
  obtain ⟨b8, hk3⟩ : ∃ b, w2.heap.size = b := ⟨_, rfl⟩
  have V8 : Hid (Var wb3 b8 n_a a_a l_a k_a E_a) := Lib.hid (by have := var_alloc w2 n_a a_a l_a k_a E_a; rw [show _ = wb3 from hw3, hk3] at this; exact this)
  have Da := Lib.hid (Da.out.below hb3)
  have HB := Lib.hid (below_next HB.out hb3)
  rw [hw3, hk3]
  clear hw3 hb3 hk3
  refine (f_of b HBB.out _).mono ?_
  rintro e w4 ⟨v4, rfl, hv4, hb4⟩
  obtain ⟨n_b, a_b, l_b, k_b, E_b, rfl⟩ := hv4.shape
  have Da := Lib.hid (Da.out.below hb4)
  have V8 := Lib.hid (V8.out.below hb4)
  have HB := Lib.hid (below_next HB.out hb4)
  have Db := Lib.hid hv4
  clear hv4 hb4
  obtain ⟨okb, hi4⟩ : ∃ i, Fl.isFin b = i := ⟨_, rfl⟩
  rw [hi4]
  have Ib := Lib.hid hi4
  clear hi4
  go_wp2_with fail
  obtain ⟨wb5, hw5⟩ : ∃ w', w4.alloc (Obj.cells #[Value.bool n_b, Value.slice a_b l_b k_b, Value.int IntKind.i64 E_b] 35) = w' := ⟨_, rfl⟩
  have hb5 : Below w4.heap.size w4 wb5 := by rw [← hw5]; exact below_alloc _ _
  obtain ⟨b10, hk5⟩ : ∃ b, w4.heap.size = b := ⟨_, rfl⟩
  have V10 : Hid (Var wb5 b10 n_b a_b l_b k_b E_b) := Lib.hid (by have := var_alloc w4 n_b a_b l_b k_b E_b; rw [show _ = wb5 from hw5, hk5] at this; exact this)
  have Da := Lib.hid (Da.out.below hb5)
  have V8 := Lib.hid (V8.out.below hb5)
  have Db := Lib.hid (Db.out.below hb5)
  have HB := Lib.hid (below_next HB.out hb5)
  rw [hw5, hk5]
  clear hw5 hb5 hk5
  refine (f_of f HF.out _).mono ?_
  rintro e w6 ⟨v6, rfl, hv6, hb6⟩
  obtain ⟨n_f, a_f, l_f, k_f, E_f, rfl⟩ := hv6.shape
  have Da := Lib.hid (Da.out.below hb6)
  have V8 := Lib.hid (V8.out.below hb6)
  have Db := Lib.hid (Db.out.below hb6)
  have V10 := Lib.hid (V10.out.below hb6)
  have HB := Lib.hid (below_next HB.out hb6)
  have Df := Lib.hid hv6
  clear hv6 hb6
  obtain ⟨okf, hi6⟩ : ∃ i, Fl.isFin f = i := ⟨_, rfl⟩
  rw [hi6]
  have If := Lib.hid hi6
  clear hi6
  go_wp2_with fail
  obtain ⟨wb7, hw7⟩ : ∃ w', w6.alloc (Obj.cells #[Value.bool n_f, Value.slice a_f l_f k_f, Value.int IntKind.i64 E_f] 35) = w' := ⟨_, rfl⟩
  have hb7 : Below w6.heap.size w6 wb7 := by rw [← hw7]; exact below_alloc _ _
  obtain ⟨b12, hk7⟩ : ∃ b, w6.heap.size = b := ⟨_, rfl⟩
  have V12 : Hid (Var wb7 b12 n_f a_f l_f k_f E_f) := Lib.hid (by have := var_alloc w6 n_f a_f l_f k_f E_f; rw [show _ = wb7 from hw7, hk7] at this; exact this)
  have Da := Lib.hid (Da.out.below hb7)
  have V8 := Lib.hid (V8.out.below hb7)
  have Db := Lib.hid (Db.out.below hb7)
  have V10 := Lib.hid (V10.out.below hb7)
  have Df := Lib.hid (Df.out.below hb7)
  have HB := Lib.hid (below_next HB.out hb7)
  rw [hw7, hk7]
  clear hw7 hb7 hk7
  refine (ops_add a b _).mono ?_
  rintro e w8 ⟨s, n8, rfl, hx, hls, hw8⟩
  have hb8 : Below wb7.heap.size wb7 w8 := by rw [hw8]; exact below_drewN (Below.refl _ _) _
  have Ps := Lib.hid (And.intro hx hls)
  have Da := Lib.hid (Da.out.below hb8)
  have V8 := Lib.hid (V8.out.below hb8)
  have Db := Lib.hid (Db.out.below hb8)
  have V10 := Lib.hid (V10.out.below hb8)
  have Df := Lib.hid (Df.out.below hb8)
  have V12 := Lib.hid (V12.out.below hb8)
  have HB := Lib.hid (below_next HB.out hb8)
  clear hx hls hw8 hb8
  go_wp2_with fail
  refine (f_of s Ps.out.2 _).mono ?_
  rintro e w9 ⟨v9, rfl, hv9, hb9⟩
  obtain ⟨n_s, a_s, l_s, k_s, E_s, rfl⟩ := hv9.shape
  have Da := Lib.hid (Da.out.below hb9)
  have V8 := Lib.hid (V8.out.below hb9)
  have Db := Lib.hid (Db.out.below hb9)
  have V10 := Lib.hid (V10.out.below hb9)
  have Df := Lib.hid (Df.out.below hb9)
  have V12 := Lib.hid (V12.out.below hb9)
  have HB := Lib.hid (below_next HB.out hb9)
  have Ds := Lib.hid hv9
  clear hv9 hb9
  obtain ⟨oks, hi9⟩ : ∃ i, Fl.isFin s = i := ⟨_, rfl⟩
  rw [hi9]
  have Is := Lib.hid hi9
  clear hi9
  go_wp2_with fail
  obtain ⟨wb10, hw10⟩ : ∃ w', w9.alloc (Obj.cells #[Value.bool n_s, Value.slice a_s l_s k_s, Value.int IntKind.i64 E_s] 35) = w' := ⟨_, rfl⟩
  have hb10 : Below w9.heap.size w9 wb10 := by rw [← hw10]; exact below_alloc _ _
  obtain ⟨b14, hk10⟩ : ∃ b, w9.heap.size = b := ⟨_, rfl⟩
  have V14 : Hid (Var wb10 b14 n_s a_s l_s k_s E_s) := Lib.hid (by have := var_alloc w9 n_s a_s l_s k_s E_s; rw [show _ = wb10 from hw10, hk10] at this; exact this)
  have Da := Lib.hid (Da.out.below hb10)
  have V8 := Lib.hid (V8.out.below hb10)
  have Db := Lib.hid (Db.out.below hb10)
  have V10 := Lib.hid (V10.out.below hb10)
  have Df := Lib.hid (Df.out.below hb10)
  have V12 := Lib.hid (V12.out.below hb10)
  have Ds := Lib.hid (Ds.out.below hb10)
  have HB := Lib.hid (below_next HB.out hb10)
  rw [hw10, hk10]
  clear hw10 hb10 hk10
  refine (ops_mul a b _).mono ?_
  rintro e w11 ⟨p, n11, rfl, hx, hlp, hw11⟩
  have hb11 : Below wb10.heap.size wb10 w11 := by rw [hw11]; exact below_drewN (Below.refl _ _) _
  have Pp := Lib.hid (And.intro hx hlp)
  have Da := Lib.hid (Da.out.below hb11)
  have V8 := Lib.hid (V8.out.below hb11)
  have Db := Lib.hid (Db.out.below hb11)
  have V10 := Lib.hid (V10.out.below hb11)
  have Df := Lib.hid (Df.out.below hb11)
  have V12 := Lib.hid (V12.out.below hb11)
  have Ds := Lib.hid (Ds.out.below hb11)
  have V14 := Lib.hid (V14.out.below hb11)
  have HB := Lib.hid (below_next HB.out hb11)
  clear hx hlp hw11 hb11
  go_wp2_with fail
  refine (f_of p Pp.out.2 _).mono ?_
  rintro e w12 ⟨v12, rfl, hv12, hb12⟩
  obtain ⟨n_p, a_p, l_p, k_p, E_p, rfl⟩ := hv12.shape
  have Da := Lib.hid (Da.out.below hb12)
  have V8 := Lib.hid (V8.out.below hb12)
  have Db := Lib.hid (Db.out.below hb12)
  have V10 := Lib.hid (V10.out.below hb12)
  have Df := Lib.hid (Df.out.below hb12)
  have V12 := Lib.hid (V12.out.below hb12)
  have Ds := Lib.hid (Ds.out.below hb12)
  have V14 := Lib.hid (V14.out.below hb12)
  have HB := Lib.hid (below_next HB.out hb12)
  have Dp := Lib.hid hv12
  clear hv12 hb12
  obtain ⟨okp, hi12⟩ : ∃ i, Fl.isFin p = i := ⟨_, rfl⟩
  rw [hi12]
  have Ip := Lib.hid hi12
  clear hi12
  cases oka
  · go_wp2
    go_ret
    exact ⟨rfl, below_next HB.out (below_alloc _ _)⟩
  cases okb
  · go_wp2
    go_ret
    exact ⟨rfl, below_next HB.out (below_alloc _ _)⟩
  cases okf
  · go_wp2
    go_ret
    exact ⟨rfl, below_next HB.out (below_alloc _ _)⟩
  have c80 := cell_at (below_alloc w12 (Obj.cells #[Value.bool n_p, Value.slice a_p l_p k_p, Value.int IntKind.i64 E_p] 35)) V8.out.lt V8.out.c0
  have c81 := cell_at (below_alloc w12 (Obj.cells #[Value.bool n_p, Value.slice a_p l_p k_p, Value.int IntKind.i64 E_p] 35)) V8.out.lt V8.out.c1
  have c82 := cell_at (below_alloc w12 (Obj.cells #[Value.bool n_p, Value.slice a_p l_p k_p, Value.int IntKind.i64 E_p] 35)) V8.out.lt V8.out.c2
  have c100 := cell_at (below_alloc w12 (Obj.cells #[Value.bool n_p, Value.slice a_p l_p k_p, Value.int IntKind.i64 E_p] 35)) V10.out.lt V10.out.c0
  have c101 := cell_at (below_alloc w12 (Obj.cells #[Value.bool n_p, Value.slice a_p l_p k_p, Value.int IntKind.i64 E_p] 35)) V10.out.lt V10.out.c1
  have c102 := cell_at (below_alloc w12 (Obj.cells #[Value.bool n_p, Value.slice a_p l_p k_p, Value.int IntKind.i64 E_p] 35)) V10.out.lt V10.out.c2
  go_wp2_with fail
  clear c80 c81 c82 c100 c101 c102
  obtain ⟨wb13, hw13⟩ : ∃ w', w12.alloc (Obj.cells #[Value.bool n_p, Value.slice a_p l_p k_p, Value.int IntKind.i64 E_p] 35) = w' := ⟨_, rfl⟩
  have hb13 : Below w12.heap.size w12 wb13 := by rw [← hw13]; exact below_alloc _ _
  obtain ⟨b16, hk13⟩ : ∃ b, w12.heap.size = b := ⟨_, rfl⟩
  have V16 : Hid (Var wb13 b16 n_p a_p l_p k_p E_p) := Lib.hid (by have := var_alloc w12 n_p a_p l_p k_p E_p; rw [show _ = wb13 from hw13, hk13] at this; exact this)
  have Da := Lib.hid (Da.out.below hb13)
  have V8 := Lib.hid (V8.out.below hb13)
  have Db := Lib.hid (Db.out.below hb13)
  have V10 := Lib.hid (V10.out.below hb13)
  have Df := Lib.hid (Df.out.below hb13)
  have V12 := Lib.hid (V12.out.below hb13)
  have Ds := Lib.hid (Ds.out.below hb13)
  have V14 := Lib.hid (V14.out.below hb13)
  have Dp := Lib.hid (Dp.out.below hb13)
  have HB := Lib.hid (below_next HB.out hb13)
  rw [hw13, hk13]
  clear hw13 hb13 hk13
  have HZ1 := Lib.hid ((bd_VV a).sz2 (bd_VV b) (by decide))
  have BT : Hid (Bd (Fl.VV a + Fl.VV b) 2099) := Lib.hid ((bd_VV a).add (bd_VV b) rfl)
  have BM : Hid (Bd (Fl.VV a * Fl.VV b) 4196) := Lib.hid ((bd_VV a).mul (bd_VV b) rfl)
  refine (d_add Da.out Db.out HZ1.out (by decide) (by decide)).mono ?_
  rintro e w14 ⟨v14, rfl, hv14, hb14⟩
  obtain ⟨n_t, a_t, l_t, k_t, E_t, rfl⟩ := hv14.shape
  have Da := Lib.hid (Da.out.below hb14)
  have V8 := Lib.hid (V8.out.below hb14)
  have Db := Lib.hid (Db.out.below hb14)
  have V10 := Lib.hid (V10.out.below hb14)
  have Df := Lib.hid (Df.out.below hb14)
  have V12 := Lib.hid (V12.out.below hb14)
  have Ds := Lib.hid (Ds.out.below hb14)
  have V14 := Lib.hid (V14.out.below hb14)
  have Dp := Lib.hid (Dp.out.below hb14)
  have V16 := Lib.hid (V16.out.below hb14)
  have HB := Lib.hid (below_next HB.out hb14)
  have Dt := Lib.hid hv14
  clear hv14 hb14
  go_wp2_with fail
  refine (d_flip Dt.out).mono ?_
  rintro e w15 ⟨v15, rfl, hv15, hb15⟩
  obtain ⟨n_e, a_e, l_e, k_e, E_e, rfl⟩ := hv15.shape
  have Da := Lib.hid (Da.out.below hb15)
  have V8 := Lib.hid (V8.out.below hb15)
  have Db := Lib.hid (Db.out.below hb15)
  have V10 := Lib.hid (V10.out.below hb15)
  have Df := Lib.hid (Df.out.below hb15)
  have V12 := Lib.hid (V12.out.below hb15)
  have Ds := Lib.hid (Ds.out.below hb15)
  have V14 := Lib.hid (V14.out.below hb15)
  have Dp := Lib.hid (Dp.out.below hb15)
  have V16 := Lib.hid (V16.out.below hb15)
  have Dt := Lib.hid (Dt.out.below hb15)
  have HB := Lib.hid (below_next HB.out hb15)
  have De := Lib.hid hv15
  clear hv15 hb15
  have c80 := cell_at (below_alloc w15 (Obj.cells #[Value.bool n_e, Value.slice a_e l_e k_e, Value.int IntKind.i64 E_e] 35)) V8.out.lt V8.out.c0
  have c81 := cell_at (below_alloc w15 (Obj.cells #[Value.bool n_e, Value.slice a_e l_e k_e, Value.int IntKind.i64 E_e] 35)) V8.out.lt V8.out.c1
  have c82 := cell_at (below_alloc w15 (Obj.cells #[Value.bool n_e, Value.slice a_e l_e k_e, Value.int IntKind.i64 E_e] 35)) V8.out.lt V8.out.c2
  have c100 := cell_at (below_alloc w15 (Obj.cells #[Value.bool n_e, Value.slice a_e l_e k_e, Value.int IntKind.i64 E_e] 35)) V10.out.lt V10.out.c0
  have c101 := cell_at (below_alloc w15 (Obj.cells #[Value.bool n_e, Value.slice a_e l_e k_e, Value.int IntKind.i64 E_e] 35)) V10.out.lt V10.out.c1
  have c102 := cell_at (below_alloc w15 (Obj.cells #[Value.bool n_e, Value.slice a_e l_e k_e, Value.int IntKind.i64 E_e] 35)) V10.out.lt V10.out.c2
  go_wp2_with fail
  clear c80 c81 c82 c100 c101 c102
  obtain ⟨wb16, hw16⟩ : ∃ w', w15.alloc (Obj.cells #[Value.bool n_e, Value.slice a_e l_e k_e, Value.int IntKind.i64 E_e] 35) = w' := ⟨_, rfl⟩
  have hb16 : Below w15.heap.size w15 wb16 := by rw [← hw16]; exact below_alloc _ _
  obtain ⟨b18, hk16⟩ : ∃ b, w15.heap.size = b := ⟨_, rfl⟩
  have V18 : Hid (Var wb16 b18 n_e a_e l_e k_e E_e) := Lib.hid (by have := var_alloc w15 n_e a_e l_e k_e E_e; rw [show _ = wb16 from hw16, hk16] at this; exact this)
  have Da := Lib.hid (Da.out.below hb16)
  have V8 := Lib.hid (V8.out.below hb16)
  have Db := Lib.hid (Db.out.below hb16)
  have V10 := Lib.hid (V10.out.below hb16)
  have Df := Lib.hid (Df.out.below hb16)
  have V12 := Lib.hid (V12.out.below hb16)
  have Ds := Lib.hid (Ds.out.below hb16)
  have V14 := Lib.hid (V14.out.below hb16)
  have Dp := Lib.hid (Dp.out.below hb16)
  have V16 := Lib.hid (V16.out.below hb16)
  have Dt := Lib.hid (Dt.out.below hb16)
  have De := Lib.hid (De.out.below hb16)
  have HB := Lib.hid (below_next HB.out hb16)
  rw [hw16, hk16]
  clear hw16 hb16 hk16
  refine (d_mul Da.out Db.out ((bd_VV a).sz (by decide)) ((bd_VV b).sz (by decide)) (BM.out.sz (by decide)) (by decide) (by decide) (by decide) (by decide)).mono ?_
  rintro e w17 ⟨v17, rfl, hv17, hb17⟩
  obtain ⟨n_m, a_m, l_m, k_m, E_m, rfl⟩ := hv17.shape
  have Da := Lib.hid (Da.out.below hb17)
  have V8 := Lib.hid (V8.out.below hb17)
  have Db := Lib.hid (Db.out.below hb17)
  have V10 := Lib.hid (V10.out.below hb17)
  have Df := Lib.hid (Df.out.below hb17)
  have V12 := Lib.hid (V12.out.below hb17)
  have Ds := Lib.hid (Ds.out.below hb17)
  have V14 := Lib.hid (V14.out.below hb17)
  have Dp := Lib.hid (Dp.out.below hb17)
  have V16 := Lib.hid (V16.out.below hb17)
  have Dt := Lib.hid (Dt.out.below hb17)
  have De := Lib.hid (De.out.below hb17)
  have V18 := Lib.hid (V18.out.below hb17)
  have HB := Lib.hid (below_next HB.out hb17)
  have Dm := Lib.hid hv17
  clear hv17 hb17
  go_wp2_with fail
  refine (d_flip Dm.out).mono ?_
  rintro e w18 ⟨v18, rfl, hv18, hb18⟩
  obtain ⟨n_g, a_g, l_g, k_g, E_g, rfl⟩ := hv18.shape
  have Da := Lib.hid (Da.out.below hb18)
  have V8 := Lib.hid (V8.out.below hb18)
  have Db := Lib.hid (Db.out.below hb18)
  have V10 := Lib.hid (V10.out.below hb18)
  have Df := Lib.hid (Df.out.below hb18)
  have V12 := Lib.hid (V12.out.below hb18)
  have Ds := Lib.hid (Ds.out.below hb18)
  have V14 := Lib.hid (V14.out.below hb18)
  have Dp := Lib.hid (Dp.out.below hb18)
  have V16 := Lib.hid (V16.out.below hb18)
  have Dt := Lib.hid (Dt.out.below hb18)
  have De := Lib.hid (De.out.below hb18)
  have V18 := Lib.hid (V18.out.below hb18)
  have Dm := Lib.hid (Dm.out.below hb18)
  have HB := Lib.hid (below_next HB.out hb18)
  have Dg := Lib.hid hv18
  clear hv18 hb18
  have c140 := cell_at (below_alloc w18 (Obj.cells #[Value.bool n_g, Value.slice a_g l_g k_g, Value.int IntKind.i64 E_g] 35)) V14.out.lt V14.out.c0
  have c141 := cell_at (below_alloc w18 (Obj.cells #[Value.bool n_g, Value.slice a_g l_g k_g, Value.int IntKind.i64 E_g] 35)) V14.out.lt V14.out.c1
  have c142 := cell_at (below_alloc w18 (Obj.cells #[Value.bool n_g, Value.slice a_g l_g k_g, Value.int IntKind.i64 E_g] 35)) V14.out.lt V14.out.c2
  have c180 := cell_at (below_alloc w18 (Obj.cells #[Value.bool n_g, Value.slice a_g l_g k_g, Value.int IntKind.i64 E_g] 35)) V18.out.lt V18.out.c0
  have c181 := cell_at (below_alloc w18 (Obj.cells #[Value.bool n_g, Value.slice a_g l_g k_g, Value.int IntKind.i64 E_g] 35)) V18.out.lt V18.out.c1
  have c182 := cell_at (below_alloc w18 (Obj.cells #[Value.bool n_g, Value.slice a_g l_g k_g, Value.int IntKind.i64 E_g] 35)) V18.out.lt V18.out.c2
  go_wp2_with fail
  clear c140 c141 c142 c180 c181 c182
  obtain ⟨wb19, hw19⟩ : ∃ w', w18.alloc (Obj.cells #[Value.bool n_g, Value.slice a_g l_g k_g, Value.int IntKind.i64 E_g] 35) = w' := ⟨_, rfl⟩
  have hb19 : Below w18.heap.size w18 wb19 := by rw [← hw19]; exact below_alloc _ _
  obtain ⟨b19, hk19⟩ : ∃ b, w18.heap.size = b := ⟨_, rfl⟩
  have V19 : Hid (Var wb19 b19 n_g a_g l_g k_g E_g) := Lib.hid (by have := var_alloc w18 n_g a_g l_g k_g E_g; rw [show _ = wb19 from hw19, hk19] at this; exact this)
  have Da := Lib.hid (Da.out.below hb19)
  have V8 := Lib.hid (V8.out.below hb19)
  have Db := Lib.hid (Db.out.below hb19)
  have V10 := Lib.hid (V10.out.below hb19)
  have Df := Lib.hid (Df.out.below hb19)
  have V12 := Lib.hid (V12.out.below hb19)
  have Ds := Lib.hid (Ds.out.below hb19)
  have V14 := Lib.hid (V14.out.below hb19)
  have Dp := Lib.hid (Dp.out.below hb19)
  have V16 := Lib.hid (V16.out.below hb19)
  have Dt := Lib.hid (Dt.out.below hb19)
  have De := Lib.hid (De.out.below hb19)
  have V18 := Lib.hid (V18.out.below hb19)
  have Dm := Lib.hid (Dm.out.below hb19)
  have Dg := Lib.hid (Dg.out.below hb19)
  have HB := Lib.hid (below_next HB.out hb19)
  rw [hw19, hk19]
  clear hw19 hb19 hk19
  refine (d_add Ds.out De.out (((bd_VV s).mono (by decide)).sz2 BT.out.neg (by decide)) (by decide) (by decide)).mono ?_
  rintro e w20 ⟨v20, rfl, hv20, hb20⟩
  obtain ⟨n_u, a_u, l_u, k_u, E_u, rfl⟩ := hv20.shape
  have Da := Lib.hid (Da.out.below hb20)
  have V8 := Lib.hid (V8.out.below hb20)
  have Db := Lib.hid (Db.out.below hb20)
  have V10 := Lib.hid (V10.out.below hb20)
  have Df := Lib.hid (Df.out.below hb20)
  have V12 := Lib.hid (V12.out.below hb20)
  have Ds := Lib.hid (Ds.out.below hb20)
  have V14 := Lib.hid (V14.out.below hb20)
  have Dp := Lib.hid (Dp.out.below hb20)
  have V16 := Lib.hid (V16.out.below hb20)
  have Dt := Lib.hid (Dt.out.below hb20)
  have De := Lib.hid (De.out.below hb20)
  have V18 := Lib.hid (V18.out.below hb20)
  have Dm := Lib.hid (Dm.out.below hb20)
  have Dg := Lib.hid (Dg.out.below hb20)
  have V19 := Lib.hid (V19.out.below hb20)
  have HB := Lib.hid (below_next HB.out hb20)
  have Du := Lib.hid hv20
  clear hv20 hb20
  have c120 := cell_at (below_alloc w20 (Obj.cells #[Value.bool n_u, Value.slice a_u l_u k_u, Value.int IntKind.i64 E_u] 35)) V12.out.lt V12.out.c0
  have c121 := cell_at (below_alloc w20 (Obj.cells #[Value.bool n_u, Value.slice a_u l_u k_u, Value.int IntKind.i64 E_u] 35)) V12.out.lt V12.out.c1
  have c122 := cell_at (below_alloc w20 (Obj.cells #[Value.bool n_u, Value.slice a_u l_u k_u, Value.int IntKind.i64 E_u] 35)) V12.out.lt V12.out.c2
  have c180 := cell_at (below_alloc w20 (Obj.cells #[Value.bool n_u, Value.slice a_u l_u k_u, Value.int IntKind.i64 E_u] 35)) V18.out.lt V18.out.c0
  have c181 := cell_at (below_alloc w20 (Obj.cells #[Value.bool n_u, Value.slice a_u l_u k_u, Value.int IntKind.i64 E_u] 35)) V18.out.lt V18.out.c1
  have c182 := cell_at (below_alloc w20 (Obj.cells #[Value.bool n_u, Value.slice a_u l_u k_u, Value.int IntKind.i64 E_u] 35)) V18.out.lt V18.out.c2
  go_wp2_with fail
  clear c120 c121 c122 c180 c181 c182
  obtain ⟨wb21, hw21⟩ : ∃ w', w20.alloc (Obj.cells #[Value.bool n_u, Value.slice a_u l_u k_u, Value.int IntKind.i64 E_u] 35) = w' := ⟨_, rfl⟩
  have hb21 : Below w20.heap.size w20 wb21 := by rw [← hw21]; exact below_alloc _ _
  obtain ⟨b20, hk21⟩ : ∃ b, w20.heap.size = b := ⟨_, rfl⟩
  have V20 : Hid (Var wb21 b20 n_u a_u l_u k_u E_u) := Lib.hid (by have := var_alloc w20 n_u a_u l_u k_u E_u; rw [show _ = wb21 from hw21, hk21] at this; exact this)
  have le20 : Hid (w.heap.size ≤ b20) := Lib.hid (by rw [← hk21]; exact HB.out.size)
  have Da := Lib.hid (Da.out.below hb21)
  have V8 := Lib.hid (V8.out.below hb21)
  have Db := Lib.hid (Db.out.below hb21)
  have V10 := Lib.hid (V10.out.below hb21)
  have Df := Lib.hid (Df.out.below hb21)
  have V12 := Lib.hid (V12.out.below hb21)
  have Ds := Lib.hid (Ds.out.below hb21)
  have V14 := Lib.hid (V14.out.below hb21)
  have Dp := Lib.hid (Dp.out.below hb21)
  have V16 := Lib.hid (V16.out.below hb21)
  have Dt := Lib.hid (Dt.out.below hb21)
  have De := Lib.hid (De.out.below hb21)
  have V18 := Lib.hid (V18.out.below hb21)
  have Dm := Lib.hid (Dm.out.below hb21)
  have Dg := Lib.hid (Dg.out.below hb21)
  have V19 := Lib.hid (V19.out.below hb21)
  have Du := Lib.hid (Du.out.below hb21)
  have HB := Lib.hid (below_next HB.out hb21)
  rw [hw21, hk21]
  clear hw21 hb21 hk21
  refine (d_add Df.out De.out (((bd_VV f).mono (by decide)).sz2 BT.out.neg (by decide)) (by decide) (by decide)).mono ?_
  rintro e w22 ⟨v22, rfl, hv22, hb22⟩
  obtain ⟨n_v, a_v, l_v, k_v, E_v, rfl⟩ := hv22.shape
  have Da := Lib.hid (Da.out.below hb22)
  have V8 := Lib.hid (V8.out.below hb22)
  have Db := Lib.hid (Db.out.below hb22)
  have V10 := Lib.hid (V10.out.below hb22)
  have Df := Lib.hid (Df.out.below hb22)
  have V12 := Lib.hid (V12.out.below hb22)
  have Ds := Lib.hid (Ds.out.below hb22)
  have V14 := Lib.hid (V14.out.below hb22)
  have Dp := Lib.hid (Dp.out.below hb22)
  have V16 := Lib.hid (V16.out.below hb22)
  have Dt := Lib.hid (Dt.out.below hb22)
  have De := Lib.hid (De.out.below hb22)
  have V18 := Lib.hid (V18.out.below hb22)
  have Dm := Lib.hid (Dm.out.below hb22)
  have Dg := Lib.hid (Dg.out.below hb22)
  have V19 := Lib.hid (V19.out.below hb22)
  have Du := Lib.hid (Du.out.below hb22)
  have V20 := Lib.hid (V20.out.below hb22)
  have HB := Lib.hid (below_next HB.out hb22)
  have Dv := Lib.hid hv22
  clear hv22 hb22
  have c160 := cell_at (below_alloc w22 (Obj.cells #[Value.bool n_v, Value.slice a_v l_v k_v, Value.int IntKind.i64 E_v] 35)) V16.out.lt V16.out.c0
  have c161 := cell_at (below_alloc w22 (Obj.cells #[Value.bool n_v, Value.slice a_v l_v k_v, Value.int IntKind.i64 E_v] 35)) V16.out.lt V16.out.c1
  have c162 := cell_at (below_alloc w22 (Obj.cells #[Value.bool n_v, Value.slice a_v l_v k_v, Value.int IntKind.i64 E_v] 35)) V16.out.lt V16.out.c2
  have c190 := cell_at (below_alloc w22 (Obj.cells #[Value.bool n_v, Value.slice a_v l_v k_v, Value.int IntKind.i64 E_v] 35)) V19.out.lt V19.out.c0
  have c191 := cell_at (below_alloc w22 (Obj.cells #[Value.bool n_v, Value.slice a_v l_v k_v, Value.int IntKind.i64 E_v] 35)) V19.out.lt V19.out.c1
  have c192 := cell_at (below_alloc w22 (Obj.cells #[Value.bool n_v, Value.slice a_v l_v k_v, Value.int IntKind.i64 E_v] 35)) V19.out.lt V19.out.c2
  go_wp2_with fail
  clear c160 c161 c162 c190 c191 c192
  obtain ⟨wb23, hw23⟩ : ∃ w', w22.alloc (Obj.cells #[Value.bool n_v, Value.slice a_v l_v k_v, Value.int IntKind.i64 E_v] 35) = w' := ⟨_, rfl⟩
  have hb23 : Below w22.heap.size w22 wb23 := by rw [← hw23]; exact below_alloc _ _
  obtain ⟨b21, hk23⟩ : ∃ b, w22.heap.size = b := ⟨_, rfl⟩
  have V21 : Hid (Var wb23 b21 n_v a_v l_v k_v E_v) := Lib.hid (by have := var_alloc w22 n_v a_v l_v k_v E_v; rw [show _ = wb23 from hw23, hk23] at this; exact this)
  have ne20_21 : Hid (b20 ≠ b21) := Lib.hid (by rw [← hk23]; exact Nat.ne_of_lt V20.out.lt)
  have le21 : Hid (w.heap.size ≤ b21) := Lib.hid (by rw [← hk23]; exact HB.out.size)
  have Da := Lib.hid (Da.out.below hb23)
  have V8 := Lib.hid (V8.out.below hb23)
  have Db := Lib.hid (Db.out.below hb23)
  have V10 := Lib.hid (V10.out.below hb23)
  have Df := Lib.hid (Df.out.below hb23)
  have V12 := Lib.hid (V12.out.below hb23)
  have Ds := Lib.hid (Ds.out.below hb23)
  have V14 := Lib.hid (V14.out.below hb23)
  have Dp := Lib.hid (Dp.out.below hb23)
  have V16 := Lib.hid (V16.out.below hb23)
  have Dt := Lib.hid (Dt.out.below hb23)
  have De := Lib.hid (De.out.below hb23)
  have V18 := Lib.hid (V18.out.below hb23)
  have Dm := Lib.hid (Dm.out.below hb23)
  have Dg := Lib.hid (Dg.out.below hb23)
  have V19 := Lib.hid (V19.out.below hb23)
  have Du := Lib.hid (Du.out.below hb23)
  have V20 := Lib.hid (V20.out.below hb23)
  have Dv := Lib.hid (Dv.out.below hb23)
  have HB := Lib.hid (below_next HB.out hb23)
  rw [hw23, hk23]
  clear hw23 hb23 hk23
  refine (d_add (Dp.out.down (e' := -1074 + -1074) (by decide)) Dg.out (((bd_ONE (bd_VV p) rfl).mono (by decide)).sz2 BM.out.neg (by decide)) (by decide) (by decide)).mono ?_
  rintro e w24 ⟨v24, rfl, hv24, hb24⟩
  obtain ⟨n_y, a_y, l_y, k_y, E_y, rfl⟩ := hv24.shape
  have Da := Lib.hid (Da.out.below hb24)
  have V8 := Lib.hid (V8.out.below hb24)
  have Db := Lib.hid (Db.out.below hb24)
  have V10 := Lib.hid (V10.out.below hb24)
  have Df := Lib.hid (Df.out.below hb24)
  have V12 := Lib.hid (V12.out.below hb24)
  have Ds := Lib.hid (Ds.out.below hb24)
  have V14 := Lib.hid (V14.out.below hb24)
  have Dp := Lib.hid (Dp.out.below hb24)
  have V16 := Lib.hid (V16.out.below hb24)
  have Dt := Lib.hid (Dt.out.below hb24)
  have De := Lib.hid (De.out.below hb24)
  have V18 := Lib.hid (V18.out.below hb24)
  have Dm := Lib.hid (Dm.out.below hb24)
  have Dg := Lib.hid (Dg.out.below hb24)
  have V19 := Lib.hid (V19.out.below hb24)
  have Du := Lib.hid (Du.out.below hb24)
  have V20 := Lib.hid (V20.out.below hb24)
  have Dv := Lib.hid (Dv.out.below hb24)
  have V21 := Lib.hid (V21.out.below hb24)
  have HB := Lib.hid (below_next HB.out hb24)
  have Dy := Lib.hid hv24
  clear hv24 hb24
  have c120 := cell_at (below_alloc w24 (Obj.cells #[Value.bool n_y, Value.slice a_y l_y k_y, Value.int IntKind.i64 E_y] 35)) V12.out.lt V12.out.c0
  have c121 := cell_at (below_alloc w24 (Obj.cells #[Value.bool n_y, Value.slice a_y l_y k_y, Value.int IntKind.i64 E_y] 35)) V12.out.lt V12.out.c1
  have c122 := cell_at (below_alloc w24 (Obj.cells #[Value.bool n_y, Value.slice a_y l_y k_y, Value.int IntKind.i64 E_y] 35)) V12.out.lt V12.out.c2
  have c190 := cell_at (below_alloc w24 (Obj.cells #[Value.bool n_y, Value.slice a_y l_y k_y, Value.int IntKind.i64 E_y] 35)) V19.out.lt V19.out.c0
  have c191 := cell_at (below_alloc w24 (Obj.cells #[Value.bool n_y, Value.slice a_y l_y k_y, Value.int IntKind.i64 E_y] 35)) V19.out.lt V19.out.c1
  have c192 := cell_at (below_alloc w24 (Obj.cells #[Value.bool n_y, Value.slice a_y l_y k_y, Value.int IntKind.i64 E_y] 35)) V19.out.lt V19.out.c2
  go_wp2_with fail
  clear c120 c121 c122 c190 c191 c192
  obtain ⟨wb25, hw25⟩ : ∃ w', w24.alloc (Obj.cells #[Value.bool n_y, Value.slice a_y l_y k_y, Value.int IntKind.i64 E_y] 35) = w' := ⟨_, rfl⟩
  have hb25 : Below w24.heap.size w24 wb25 := by rw [← hw25]; exact below_alloc _ _
  obtain ⟨b22, hk25⟩ : ∃ b, w24.heap.size = b := ⟨_, rfl⟩
  have V22 : Hid (Var wb25 b22 n_y a_y l_y k_y E_y) := Lib.hid (by have := var_alloc w24 n_y a_y l_y k_y E_y; rw [show _ = wb25 from hw25, hk25] at this; exact this)
  have ne20_22 : Hid (b20 ≠ b22) := Lib.hid (by rw [← hk25]; exact Nat.ne_of_lt V20.out.lt)
  have ne21_22 : Hid (b21 ≠ b22) := Lib.hid (by rw [← hk25]; exact Nat.ne_of_lt V21.out.lt)
  have le22 : Hid (w.heap.size ≤ b22) := Lib.hid (by rw [← hk25]; exact HB.out.size)
  have Da := Lib.hid (Da.out.below hb25)
  have V8 := Lib.hid (V8.out.below hb25)
  have Db := Lib.hid (Db.out.below hb25)
  have V10 := Lib.hid (V10.out.below hb25)
  have Df := Lib.hid (Df.out.below hb25)
  have V12 := Lib.hid (V12.out.below hb25)
  have Ds := Lib.hid (Ds.out.below hb25)
  have V14 := Lib.hid (V14.out.below hb25)
  have Dp := Lib.hid (Dp.out.below hb25)
  have V16 := Lib.hid (V16.out.below hb25)
  have Dt := Lib.hid (Dt.out.below hb25)
  have De := Lib.hid (De.out.below hb25)
  have V18 := Lib.hid (V18.out.below hb25)
  have Dm := Lib.hid (Dm.out.below hb25)
  have Dg := Lib.hid (Dg.out.below hb25)
  have V19 := Lib.hid (V19.out.below hb25)
  have Du := Lib.hid (Du.out.below hb25)
  have V20 := Lib.hid (V20.out.below hb25)
  have Dv := Lib.hid (Dv.out.below hb25)
  have V21 := Lib.hid (V21.out.below hb25)
  have Dy := Lib.hid (Dy.out.below hb25)
  have HB := Lib.hid (below_next HB.out hb25)
  rw [hw25, hk25]
  clear hw25 hb25 hk25
  refine (d_add (Df.out.down (e' := -1074 + -1074) (by decide)) Dg.out (((bd_ONE (bd_VV f) rfl).mono (by decide)).sz2 BM.out.neg (by decide)) (by decide) (by decide)).mono ?_
  rintro e w26 ⟨v26, rfl, hv26, hb26⟩
  obtain ⟨n_q, a_q, l_q, k_q, E_q, rfl⟩ := hv26.shape
  have Da := Lib.hid (Da.out.below hb26)
  have V8 := Lib.hid (V8.out.below hb26)
  have Db := Lib.hid (Db.out.below hb26)
  have V10 := Lib.hid (V10.out.below hb26)
  have Df := Lib.hid (Df.out.below hb26)
  have V12 := Lib.hid (V12.out.below hb26)
  have Ds := Lib.hid (Ds.out.below hb26)
  have V14 := Lib.hid (V14.out.below hb26)
  have Dp := Lib.hid (Dp.out.below hb26)
  have V16 := Lib.hid (V16.out.below hb26)
  have Dt := Lib.hid (Dt.out.below hb26)
  have De := Lib.hid (De.out.below hb26)
  have V18 := Lib.hid (V18.out.below hb26)
  have Dm := Lib.hid (Dm.out.below hb26)
  have Dg := Lib.hid (Dg.out.below hb26)
  have V19 := Lib.hid (V19.out.below hb26)
  have Du := Lib.hid (Du.out.below hb26)
  have V20 := Lib.hid (V20.out.below hb26)
  have Dv := Lib.hid (Dv.out.below hb26)
  have V21 := Lib.hid (V21.out.below hb26)
  have Dy := Lib.hid (Dy.out.below hb26)
  have V22 := Lib.hid (V22.out.below hb26)
  have HB := Lib.hid (below_next HB.out hb26)
  have Dq := Lib.hid hv26
  clear hv26 hb26
  clear Da
  clear V8
  clear Db
  clear V10
  clear Df
  clear V12
  clear Ds
  clear V14
  clear Dp
  clear V16
  clear Dt
  clear De
  clear V18
  clear Dm
  clear Dg
  clear V19
  obtain ⟨wb27, hw27⟩ : ∃ w', w26.alloc (Obj.cells #[Value.bool n_q, Value.slice a_q l_q k_q, Value.int IntKind.i64 E_q] 35) = w' := ⟨_, rfl⟩
  have hb27 : Below w26.heap.size w26 wb27 := by rw [← hw27]; exact below_alloc _ _
  obtain ⟨b23, hk27⟩ : ∃ b, w26.heap.size = b := ⟨_, rfl⟩
  have V23 : Hid (Var wb27 b23 n_q a_q l_q k_q E_q) := Lib.hid (by have := var_alloc w26 n_q a_q l_q k_q E_q; rw [show _ = wb27 from hw27, hk27] at this; exact this)
  have ne20_23 : Hid (b20 ≠ b23) := Lib.hid (by rw [← hk27]; exact Nat.ne_of_lt V20.out.lt)
  have ne21_23 : Hid (b21 ≠ b23) := Lib.hid (by rw [← hk27]; exact Nat.ne_of_lt V21.out.lt)
  have ne22_23 : Hid (b22 ≠ b23) := Lib.hid (by rw [← hk27]; exact Nat.ne_of_lt V22.out.lt)
  have le23 : Hid (w.heap.size ≤ b23) := Lib.hid (by rw [← hk27]; exact HB.out.size)
  have Du := Lib.hid (Du.out.below hb27)
  have V20 := Lib.hid (V20.out.below hb27)
  have Dv := Lib.hid (Dv.out.below hb27)
  have V21 := Lib.hid (V21.out.below hb27)
  have Dy := Lib.hid (Dy.out.below hb27)
  have V22 := Lib.hid (V22.out.below hb27)
  have Dq := Lib.hid (Dq.out.below hb27)
  have HB := Lib.hid (below_next HB.out hb27)
  clear hb27
  have g20 := V20.out.c0; have f20 := V20.out.f0
  rw [← hw27] at g20 f20
  obtain ⟨ws20, hs20⟩ : ∃ w', wb27.setCell ⟨b20, 0, none⟩ (Value.bool false) = w' := ⟨_, rfl⟩
  have Du := Lib.hid (Du.out.set0 V20.out.c0 (Value.bool false)); rw [hs20] at Du
  have Dv := Lib.hid (Dv.out.set0 V20.out.c0 (Value.bool false)); rw [hs20] at Dv
  have Dy := Lib.hid (Dy.out.set0 V20.out.c0 (Value.bool false)); rw [hs20] at Dy
  have Dq := Lib.hid (Dq.out.set0 V20.out.c0 (Value.bool false)); rw [hs20] at Dq
  have V21 := Lib.hid (V21.out.other ne20_21.out 0 (Value.bool false)); rw [hs20] at V21
  have V22 := Lib.hid (V22.out.other ne20_22.out 0 (Value.bool false)); rw [hs20] at V22
  have V23 := Lib.hid (V23.out.other ne20_23.out 0 (Value.bool false)); rw [hs20] at V23
  have V20 := Lib.hid V20.out.struck; rw [hs20] at V20
  have HB := Lib.hid (HB.out.setCell (p := ⟨b20, 0, none⟩) le20.out (Value.bool false)); rw [hs20] at HB
  have g21 := V21.out.c0; have f21 := V21.out.f0
  rw [← hs20, ← hw27] at g21 f21
  obtain ⟨ws21, hs21⟩ : ∃ w', ws20.setCell ⟨b21, 0, none⟩ (Value.bool false) = w' := ⟨_, rfl⟩
  have Du := Lib.hid (Du.out.set0 V21.out.c0 (Value.bool false)); rw [hs21] at Du
  have Dv := Lib.hid (Dv.out.set0 V21.out.c0 (Value.bool false)); rw [hs21] at Dv
  have Dy := Lib.hid (Dy.out.set0 V21.out.c0 (Value.bool false)); rw [hs21] at Dy
  have Dq := Lib.hid (Dq.out.set0 V21.out.c0 (Value.bool false)); rw [hs21] at Dq
  have V20 := Lib.hid (V20.out.other (Ne.symm ne20_21.out) 0 (Value.bool false)); rw [hs21] at V20
  have V22 := Lib.hid (V22.out.other ne21_22.out 0 (Value.bool false)); rw [hs21] at V22
  have V23 := Lib.hid (V23.out.other ne21_23.out 0 (Value.bool false)); rw [hs21] at V23
  have V21 := Lib.hid V21.out.struck; rw [hs21] at V21
  have HB := Lib.hid (HB.out.setCell (p := ⟨b21, 0, none⟩) le21.out (Value.bool false)); rw [hs21] at HB
  have g22 := V22.out.c0; have f22 := V22.out.f0
  rw [← hs21, ← hs20, ← hw27] at g22 f22
  obtain ⟨ws22, hs22⟩ : ∃ w', ws21.setCell ⟨b22, 0, none⟩ (Value.bool false) = w' := ⟨_, rfl⟩
  have Du := Lib.hid (Du.out.set0 V22.out.c0 (Value.bool false)); rw [hs22] at Du
  have Dv := Lib.hid (Dv.out.set0 V22.out.c0 (Value.bool false)); rw [hs22] at Dv
  have Dy := Lib.hid (Dy.out.set0 V22.out.c0 (Value.bool false)); rw [hs22] at Dy
  have Dq := Lib.hid (Dq.out.set0 V22.out.c0 (Value.bool false)); rw [hs22] at Dq
  have V20 := Lib.hid (V20.out.other (Ne.symm ne20_22.out) 0 (Value.bool false)); rw [hs22] at V20
  have V21 := Lib.hid (V21.out.other (Ne.symm ne21_22.out) 0 (Value.bool false)); rw [hs22] at V21
  have V23 := Lib.hid (V23.out.other ne22_23.out 0 (Value.bool false)); rw [hs22] at V23
  have V22 := Lib.hid V22.out.struck; rw [hs22] at V22
  have HB := Lib.hid (HB.out.setCell (p := ⟨b22, 0, none⟩) le22.out (Value.bool false)); rw [hs22] at HB
  have g23 := V23.out.c0; have f23 := V23.out.f0
  rw [← hs22, ← hs21, ← hs20, ← hw27, ← hk27] at g23 f23
  obtain ⟨ws23, hs23⟩ : ∃ w', ws22.setCell ⟨b23, 0, none⟩ (Value.bool false) = w' := ⟨_, rfl⟩
  have Du := Lib.hid (Du.out.set0 V23.out.c0 (Value.bool false)); rw [hs23] at Du
  have Dv := Lib.hid (Dv.out.set0 V23.out.c0 (Value.bool false)); rw [hs23] at Dv
  have Dy := Lib.hid (Dy.out.set0 V23.out.c0 (Value.bool false)); rw [hs23] at Dy
  have Dq := Lib.hid (Dq.out.set0 V23.out.c0 (Value.bool false)); rw [hs23] at Dq
  have V20 := Lib.hid (V20.out.other (Ne.symm ne20_23.out) 0 (Value.bool false)); rw [hs23] at V20
  have V21 := Lib.hid (V21.out.other (Ne.symm ne21_23.out) 0 (Value.bool false)); rw [hs23] at V21
  have V22 := Lib.hid (V22.out.other (Ne.symm ne22_23.out) 0 (Value.bool false)); rw [hs23] at V22
  have V23 := Lib.hid V23.out.struck; rw [hs23] at V23
  have HB := Lib.hid (HB.out.setCell (p := ⟨b23, 0, none⟩) le23.out (Value.bool false)); rw [hs23] at HB
  have c200 := V20.out.c0; have c201 := V20.out.c1; have c202 := V20.out.c2
  rw [← hs23, ← hs22, ← hs21, ← hs20, ← hw27, ← hk27] at c200 c201 c202
  have c210 := V21.out.c0; have c211 := V21.out.c1; have c212 := V21.out.c2
  rw [← hs23, ← hs22, ← hs21, ← hs20, ← hw27, ← hk27] at c210 c211 c212
  have c220 := V22.out.c0; have c221 := V22.out.c1; have c222 := V22.out.c2
  rw [← hs23, ← hs22, ← hs21, ← hs20, ← hw27, ← hk27] at c220 c221 c222
  have c230 := V23.out.c0; have c231 := V23.out.c1; have c232 := V23.out.c2
  rw [← hs23, ← hs22, ← hs21, ← hs20, ← hw27, ← hk27] at c230 c231 c232
  clear ne20_21 ne20_22 ne20_23 ne21_22 ne21_23 ne22_23 le20 le21 le22 le23
  have Q1 := Lib.hid hw27
  have Q2 := Lib.hid hs20
  have Q3 := Lib.hid hs21
  have Q4 := Lib.hid hs22
  have Q5 := Lib.hid hk27
  have Q6 := Lib.hid hs23
  clear hw27 hs20 hs21 hs22 hk27 hs23
  have HS1 : Hid (oks = true → cmpv ((Fl.VV s + -(Fl.VV a + Fl.VV b)).natAbs : Int) ((Fl.VV f + -(Fl.VV a + Fl.VV b)).natAbs : Int) ≤ 0) := Lib.hid (fun h => by
    have hs := Is.out.trans h
    rw [Fl.VV_of hs, Fl.VV_of Ia.out, Fl.VV_of Ib.out, Fl.VV_of If.out]
    exact Fl.cmpv_le (Fl.near_add (Fl.fin_of HA.out Ia.out) (Fl.fin_of HBB.out Ib.out) (Fl.canon_fin Ps.out.2 hs Ps.out.1) (of_decide_eq_true hs)))
  have HS2 : Hid (okp = true → cmpv ((Fl.VV p * (Fl.ONE : Int) + -(Fl.VV a * Fl.VV b)).natAbs : Int) ((Fl.VV f * (Fl.ONE : Int) + -(Fl.VV a * Fl.VV b)).natAbs : Int) ≤ 0) := Lib.hid (fun h => by
    have hs := Ip.out.trans h
    rw [Fl.VV_of hs, Fl.VV_of Ia.out, Fl.VV_of Ib.out, Fl.VV_of If.out]
    exact Fl.cmpv_le (Fl.near_mul (Fl.fin_of HA.out Ia.out) (Fl.fin_of HBB.out Ib.out) (Fl.canon_fin Pp.out.2 hs Pp.out.1) (of_decide_eq_true hs)))
  have HZ3 := Lib.hid (((((bd_VV s).mono (by decide)).add BT.out.neg rfl).abs).sz2 ((((bd_VV f).mono (by decide)).add BT.out.neg rfl).abs) (by decide))
  have HZ4 := Lib.hid (((((bd_ONE (bd_VV p) rfl).mono (by decide)).add BM.out.neg rfl).abs).sz2 ((((bd_ONE (bd_VV f) rfl).mono (by decide)).add BM.out.neg rfl).abs) (by decide))
  cases oks
  · cases okp
    · go_wp2
      go_ret
      rw [Q1.out, Q2.out, Q3.out, Q4.out, Q5.out, Q6.out]
      exact ⟨rfl, HB.out⟩
    · have hle2 := HS2.out (by first | rfl | trivial)
      go_wp2_with fail
      rw [Q1.out, Q2.out, Q3.out, Q4.out, Q5.out, Q6.out]
      refine (d_cmp Dy.out.abs Dq.out.abs HZ4.out (by decide) (by decide)).mono ?_
      rintro e wd ⟨rfl, hbd⟩
      clear g20 f20 c200 c201 c202 g21 f21 c210 c211 c212 g22 f22 c220 c221 c222 g23 f23 c230 c231 c232
      generalize cmpv ((Fl.VV p * (Fl.ONE : Int) + -(Fl.VV a * Fl.VV b)).natAbs : Int) ((Fl.VV f * (Fl.ONE : Int) + -(Fl.VV a * Fl.VV b)).natAbs : Int) = cd at hle2 ⊢
      have Du := Lib.hid (Du.out.below hbd)
      have Dv := Lib.hid (Dv.out.below hbd)
      have Dy := Lib.hid (Dy.out.below hbd)
      have Dq := Lib.hid (Dq.out.below hbd)
      have V20 := Lib.hid (V20.out.below hbd)
      have V21 := Lib.hid (V21.out.below hbd)
      have V22 := Lib.hid (V22.out.below hbd)
      have V23 := Lib.hid (V23.out.below hbd)
      have HB := Lib.hid (below_next HB.out hbd)
      go_wp2
      go_ret
      exact ⟨rfl, HB.out⟩
  · cases okp
    · have hle := HS1.out (by first | rfl | trivial)
      go_wp2_with fail
      rw [Q1.out, Q2.out, Q3.out, Q4.out, Q5.out, Q6.out]
      refine (d_cmp Du.out.abs Dv.out.abs HZ3.out (by decide) (by decide)).mono ?_
      rintro e wc ⟨rfl, hbc⟩
      clear g20 f20 c200 c201 c202 g21 f21 c210 c211 c212 g22 f22 c220 c221 c222 g23 f23 c230 c231 c232
      have Du := Lib.hid (Du.out.below hbc)
      have Dv := Lib.hid (Dv.out.below hbc)
      have Dy := Lib.hid (Dy.out.below hbc)
      have Dq := Lib.hid (Dq.out.below hbc)
      have V20 := Lib.hid (V20.out.below hbc)
      have V21 := Lib.hid (V21.out.below hbc)
      have V22 := Lib.hid (V22.out.below hbc)
      have V23 := Lib.hid (V23.out.below hbc)
      have HB := Lib.hid (below_next HB.out hbc)
      clear hbc
      generalize cmpv ((Fl.VV s + -(Fl.VV a + Fl.VV b)).natAbs : Int) ((Fl.VV f + -(Fl.VV a + Fl.VV b)).natAbs : Int) = cc at hle ⊢
      go_wp2
      go_ret
      exact ⟨rfl, HB.out⟩
    · have hle := HS1.out (by first | rfl | trivial)
      go_wp2_with fail
      rw [Q1.out, Q2.out, Q3.out, Q4.out, Q5.out, Q6.out]
      refine (d_cmp Du.out.abs Dv.out.abs HZ3.out (by decide) (by decide)).mono ?_
      rintro e wc ⟨rfl, hbc⟩
      clear g20 f20 c200 c201 c202 g21 f21 c210 c211 c212 g22 f22 c220 c221 c222 g23 f23 c230 c231 c232
      have Du := Lib.hid (Du.out.below hbc)
      have Dv := Lib.hid (Dv.out.below hbc)
      have Dy := Lib.hid (Dy.out.below hbc)
      have Dq := Lib.hid (Dq.out.below hbc)
      have V20 := Lib.hid (V20.out.below hbc)
      have V21 := Lib.hid (V21.out.below hbc)
      have V22 := Lib.hid (V22.out.below hbc)
      have V23 := Lib.hid (V23.out.below hbc)
      have HB := Lib.hid (below_next HB.out hbc)
      clear hbc
      generalize cmpv ((Fl.VV s + -(Fl.VV a + Fl.VV b)).natAbs : Int) ((Fl.VV f + -(Fl.VV a + Fl.VV b)).natAbs : Int) = cc at hle ⊢
      have hle2 := HS2.out (by first | rfl | trivial)
      have c220 := V22.out.c0; have c221 := V22.out.c1; have c222 := V22.out.c2
      have c230 := V23.out.c0; have c231 := V23.out.c1; have c232 := V23.out.c2
      go_wp2_with fail
      clear c220 c221 c222 c230 c231 c232
      refine (d_cmp Dy.out.abs Dq.out.abs HZ4.out (by decide) (by decide)).mono ?_
      rintro e wd ⟨rfl, hbd⟩
      generalize cmpv ((Fl.VV p * (Fl.ONE : Int) + -(Fl.VV a * Fl.VV b)).natAbs : Int) ((Fl.VV f * (Fl.ONE : Int) + -(Fl.VV a * Fl.VV b)).natAbs : Int) = cd at hle2 ⊢
      have Du := Lib.hid (Du.out.below hbd)
      have Dv := Lib.hid (Dv.out.below hbd)
      have Dy := Lib.hid (Dy.out.below hbd)
      have Dq := Lib.hid (Dq.out.below hbd)
      have V20 := Lib.hid (V20.out.below hbd)
      have V21 := Lib.hid (V21.out.below hbd)
      have V22 := Lib.hid (V22.out.below hbd)
      have V23 := Lib.hid (V23.out.below hbd)
      have HB := Lib.hid (below_next HB.out hbd)
      go_wp2
      go_ret
      exact ⟨rfl, HB.out⟩
end Go.Proofs.Ytemneeknemijpaa
