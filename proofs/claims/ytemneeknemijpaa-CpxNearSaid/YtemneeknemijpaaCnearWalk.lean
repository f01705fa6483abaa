/- CpxNear: the law's walk. No condition. -/
import Derived.Test.YtemneeknemijpaaWc
import Derived.Test.YtemneeknemijpaaFits
set_option maxRecDepth 100000
namespace Go.Proofs.Ytemneeknemijpaa
open Go.RowKit

theorem bd_pow {a : Int} {K j L : Nat} (h : Bd a K) (hL : L = K + j) : Bd (a * ((2 ^ j : Nat) : Int)) L := ⟨by
  have := h.lt
  rw [hL, Int.natAbs_mul, Int.natAbs_natCast, Nat.pow_add 2 K]
  exact Nat.mul_lt_mul_of_pos_right this (Nat.two_pow_pos j)⟩

set_option maxHeartbeats 40000000 in
theorem cpxNear_walk (a b c d : Nat) (w : World) (ha : a < 2 ^ 64) (hb : b < 2 ^ 64) (hc : c < 2 ^ 64) (hd : d < 2 ^ 64)
    (hfin : Fl.Fits a → Fl.Fits b → Fl.Fits c → Fl.Fits d → ∀ x y, Fl.canon x = Fl.fsub (Fl.fmul a c) (Fl.fmul b d) → Fl.canon y = Fl.fadd (Fl.fmul a d) (Fl.fmul b c) → Fl.isFin x = true ∧ Fl.isFin y = true)
    (hnear : Fl.Fits a → Fl.Fits b → Fl.Fits c → Fl.Fits d → ∀ x y, Fl.canon x = Fl.fsub (Fl.fmul a c) (Fl.fmul b d) → Fl.canon y = Fl.fadd (Fl.fmul a d) (Fl.fmul b c) → ((Fl.VV x * (Fl.ONE : Int) + -(Fl.VV a * Fl.VV c + -(Fl.VV b * Fl.VV d))) * (Fl.VV x * (Fl.ONE : Int) + -(Fl.VV a * Fl.VV c + -(Fl.VV b * Fl.VV d))) + (Fl.VV y * (Fl.ONE : Int) + -(Fl.VV a * Fl.VV d + Fl.VV b * Fl.VV c)) * (Fl.VV y * (Fl.ONE : Int) + -(Fl.VV a * Fl.VV d + Fl.VV b * Fl.VV c))) * ((2 ^ 102 : Nat) : Int) ≤ (Fl.VV a * Fl.VV a + Fl.VV b * Fl.VV b) * (Fl.VV c * Fl.VV c + Fl.VV d * Fl.VV d)) : Calls Try.prog 7 #[F a, F b, F c, F d] w fun e w' => e = .returned (.bool true) ∧ Below w.heap.size w w' := by
  have HLa := Lib.hid ha
  have HLb := Lib.hid hb
  have HLc := Lib.hid hc
  have HLd := Lib.hid hd
  have HFI := Lib.hid hfin
  have HNE := Lib.hid hnear
  clear ha hb hc hd hfin hnear
  go_enter Try.func7, Try.ntmps7
  go_wp2_with fail
  refine (l9_head _).mono ?_
  rintro e w1 ⟨rfl, hb1⟩
  have HB : Hid (Below w.heap.size w w1) := Lib.hid hb1
  clear hb1
  go_wp2_with fail
  refine (l9_fits a HLa.out _).mono ?_
  rintro e wz ⟨⟨fa, rfl, hfa⟩, rfl⟩
  cases fa
  · clear hfa
    go_wp2
    go_ret
    exact ⟨rfl, HB.out⟩
  have FTa := Lib.hid (hfa rfl)
  clear hfa
  go_wp2_with fail
  refine (l9_fits b HLb.out _).mono ?_
  rintro e wz ⟨⟨fb, rfl, hfb⟩, rfl⟩
  cases fb
  · clear hfb
    go_wp2
    go_ret
    exact ⟨rfl, HB.out⟩
  have FTb := Lib.hid (hfb rfl)
  clear hfb
  go_wp2_with fail
  refine (l9_fits c HLc.out _).mono ?_
  rintro e wz ⟨⟨fc, rfl, hfc⟩, rfl⟩
  cases fc
  · clear hfc
    go_wp2
    go_ret
    exact ⟨rfl, HB.out⟩
  have FTc := Lib.hid (hfc rfl)
  clear hfc
  go_wp2_with fail
  refine (l9_fits d HLd.out _).mono ?_
  rintro e wz ⟨⟨fd, rfl, hfd⟩, rfl⟩
  cases fd
  · clear hfd
    go_wp2
    go_ret
    exact ⟨rfl, HB.out⟩
  have FTd := Lib.hid (hfd rfl)
  clear hfd
  go_wp2_with fail
  refine (cpx_mul a b c d _).mono ?_
  rintro e wm ⟨x, y, rfl, hx, hy, hbm⟩
  have Px := Lib.hid hx
  have Py := Lib.hid hy
  clear hx hy
  have HB := Lib.hid (below_next HB.out hbm)
  clear hbm
  go_wp2_with fail
  refine (f_of x Px.out.2 _).mono ?_
  rintro e w3 ⟨v3, rfl, hv3, hb3⟩
  obtain ⟨n_x, a_x, l_x, k_x, E_x, rfl⟩ := hv3.shape
  have HB := Lib.hid (below_next HB.out hb3)
  have Dx := Lib.hid hv3
  clear hv3 hb3
  obtain ⟨okx, hi3⟩ : ∃ i, Fl.isFin x = i := ⟨_, rfl⟩
  rw [hi3]
  have Ix := Lib.hid hi3
  clear hi3
  go_wp2_with fail
  obtain ⟨wb4, hw4⟩ : ∃ w', w3.alloc (Obj.cells #[Value.bool n_x, Value.slice a_x l_x k_x, Value.int IntKind.i64 E_x] 35) = w' := ⟨_, rfl⟩
  have hb4 : Below w3.heap.size w3 wb4 := by rw [← hw4]; exact below_alloc _ _
  obtain ⟨b12, hk4⟩ : ∃ b, w3.heap.size = b := ⟨_, rfl⟩
  have V12 : Hid (Var wb4 b12 n_x a_x l_x k_x E_x) := Lib.hid (by have := var_alloc w3 n_x a_x l_x k_x E_x; rw [show _ = wb4 from hw4, hk4] at this; exact this)
  have Dx := Lib.hid (Dx.out.below hb4)
  have HB := Lib.hid (below_next HB.out hb4)
  rw [hw4, hk4]
  clear hw4 hb4 hk4
  refine (f_of y Py.out.2 _).mono ?_
  rintro e w5 ⟨v5, rfl, hv5, hb5⟩
  obtain ⟨n_y, a_y, l_y, k_y, E_y, rfl⟩ := hv5.shape
  have Dx := Lib.hid (Dx.out.below hb5)
  have V12 := Lib.hid (V12.out.below hb5)
  have HB := Lib.hid (below_next HB.out hb5)
  have Dy := Lib.hid hv5
  clear hv5 hb5
  obtain ⟨oky, hi5⟩ : ∃ i, Fl.isFin y = i := ⟨_, rfl⟩
  rw [hi5]
  have Iy := Lib.hid hi5
  clear hi5
  have HXY := Lib.hid (HFI.out FTa.out FTb.out FTc.out FTd.out x y Px.out.1 Py.out.1)
  obtain rfl : okx = true := Ix.out.symm.trans HXY.out.1
  obtain rfl : oky = true := Iy.out.symm.trans HXY.out.2
  go_wp2_with fail
  obtain ⟨wb6, hw6⟩ : ∃ w', w5.alloc (Obj.cells #[Value.bool n_y, Value.slice a_y l_y k_y, Value.int IntKind.i64 E_y] 35) = w' := ⟨_, rfl⟩
  have hb6 : Below w5.heap.size w5 wb6 := by rw [← hw6]; exact below_alloc _ _
  obtain ⟨b14, hk6⟩ : ∃ b, w5.heap.size = b := ⟨_, rfl⟩
  have V14 : Hid (Var wb6 b14 n_y a_y l_y k_y E_y) := Lib.hid (by have := var_alloc w5 n_y a_y l_y k_y E_y; rw [show _ = wb6 from hw6, hk6] at this; exact this)
  have Dx := Lib.hid (Dx.out.below hb6)
  have V12 := Lib.hid (V12.out.below hb6)
  have Dy := Lib.hid (Dy.out.below hb6)
  have HB := Lib.hid (below_next HB.out hb6)
  rw [hw6, hk6]
  clear hw6 hb6 hk6
  refine (f_of a HLa.out _).mono ?_
  rintro e w7 ⟨v7, rfl, hv7, hb7⟩
  obtain ⟨n_pa, a_pa, l_pa, k_pa, E_pa, rfl⟩ := hv7.shape
  have Dx := Lib.hid (Dx.out.below hb7)
  have V12 := Lib.hid (V12.out.below hb7)
  have Dy := Lib.hid (Dy.out.below hb7)
  have V14 := Lib.hid (V14.out.below hb7)
  have HB := Lib.hid (below_next HB.out hb7)
  have Dpa := Lib.hid hv7
  clear hv7 hb7
  obtain ⟨okpa, hi7⟩ : ∃ i, Fl.isFin a = i := ⟨_, rfl⟩
  rw [hi7]
  have Ipa := Lib.hid hi7
  clear hi7
  go_wp2_with fail
  obtain ⟨wb8, hw8⟩ : ∃ w', w7.alloc (Obj.cells #[Value.bool n_pa, Value.slice a_pa l_pa k_pa, Value.int IntKind.i64 E_pa] 35) = w' := ⟨_, rfl⟩
  have hb8 : Below w7.heap.size w7 wb8 := by rw [← hw8]; exact below_alloc _ _
  obtain ⟨b16, hk8⟩ : ∃ b, w7.heap.size = b := ⟨_, rfl⟩
  have V16 : Hid (Var wb8 b16 n_pa a_pa l_pa k_pa E_pa) := Lib.hid (by have := var_alloc w7 n_pa a_pa l_pa k_pa E_pa; rw [show _ = wb8 from hw8, hk8] at this; exact this)
  have Dx := Lib.hid (Dx.out.below hb8)
  have V12 := Lib.hid (V12.out.below hb8)
  have Dy := Lib.hid (Dy.out.below hb8)
  have V14 := Lib.hid (V14.out.below hb8)
  have Dpa := Lib.hid (Dpa.out.below hb8)
  have HB := Lib.hid (below_next HB.out hb8)
  rw [hw8, hk8]
  clear hw8 hb8 hk8
  refine (f_of b HLb.out _).mono ?_
  rintro e w9 ⟨v9, rfl, hv9, hb9⟩
  obtain ⟨n_pb, a_pb, l_pb, k_pb, E_pb, rfl⟩ := hv9.shape
  have Dx := Lib.hid (Dx.out.below hb9)
  have V12 := Lib.hid (V12.out.below hb9)
  have Dy := Lib.hid (Dy.out.below hb9)
  have V14 := Lib.hid (V14.out.below hb9)
  have Dpa := Lib.hid (Dpa.out.below hb9)
  have V16 := Lib.hid (V16.out.below hb9)
  have HB := Lib.hid (below_next HB.out hb9)
  have Dpb := Lib.hid hv9
  clear hv9 hb9
  obtain ⟨okpb, hi9⟩ : ∃ i, Fl.isFin b = i := ⟨_, rfl⟩
  rw [hi9]
  have Ipb := Lib.hid hi9
  clear hi9
  go_wp2_with fail
  obtain ⟨wb10, hw10⟩ : ∃ w', w9.alloc (Obj.cells #[Value.bool n_pb, Value.slice a_pb l_pb k_pb, Value.int IntKind.i64 E_pb] 35) = w' := ⟨_, rfl⟩
  have hb10 : Below w9.heap.size w9 wb10 := by rw [← hw10]; exact below_alloc _ _
  obtain ⟨b18, hk10⟩ : ∃ b, w9.heap.size = b := ⟨_, rfl⟩
  have V18 : Hid (Var wb10 b18 n_pb a_pb l_pb k_pb E_pb) := Lib.hid (by have := var_alloc w9 n_pb a_pb l_pb k_pb E_pb; rw [show _ = wb10 from hw10, hk10] at this; exact this)
  have Dx := Lib.hid (Dx.out.below hb10)
  have V12 := Lib.hid (V12.out.below hb10)
  have Dy := Lib.hid (Dy.out.below hb10)
  have V14 := Lib.hid (V14.out.below hb10)
  have Dpa := Lib.hid (Dpa.out.below hb10)
  have V16 := Lib.hid (V16.out.below hb10)
  have Dpb := Lib.hid (Dpb.out.below hb10)
  have HB := Lib.hid (below_next HB.out hb10)
  rw [hw10, hk10]
  clear hw10 hb10 hk10
  refine (f_of c HLc.out _).mono ?_
  rintro e w11 ⟨v11, rfl, hv11, hb11⟩
  obtain ⟨n_pc, a_pc, l_pc, k_pc, E_pc, rfl⟩ := hv11.shape
  have Dx := Lib.hid (Dx.out.below hb11)
  have V12 := Lib.hid (V12.out.below hb11)
  have Dy := Lib.hid (Dy.out.below hb11)
  have V14 := Lib.hid (V14.out.below hb11)
  have Dpa := Lib.hid (Dpa.out.below hb11)
  have V16 := Lib.hid (V16.out.below hb11)
  have Dpb := Lib.hid (Dpb.out.below hb11)
  have V18 := Lib.hid (V18.out.below hb11)
  have HB := Lib.hid (below_next HB.out hb11)
  have Dpc := Lib.hid hv11
  clear hv11 hb11
  obtain ⟨okpc, hi11⟩ : ∃ i, Fl.isFin c = i := ⟨_, rfl⟩
  rw [hi11]
  have Ipc := Lib.hid hi11
  clear hi11
  go_wp2_with fail
  obtain ⟨wb12, hw12⟩ : ∃ w', w11.alloc (Obj.cells #[Value.bool n_pc, Value.slice a_pc l_pc k_pc, Value.int IntKind.i64 E_pc] 35) = w' := ⟨_, rfl⟩
  have hb12 : Below w11.heap.size w11 wb12 := by rw [← hw12]; exact below_alloc _ _
  obtain ⟨b20, hk12⟩ : ∃ b, w11.heap.size = b := ⟨_, rfl⟩
  have V20 : Hid (Var wb12 b20 n_pc a_pc l_pc k_pc E_pc) := Lib.hid (by have := var_alloc w11 n_pc a_pc l_pc k_pc E_pc; rw [show _ = wb12 from hw12, hk12] at this; exact this)
  have Dx := Lib.hid (Dx.out.below hb12)
  have V12 := Lib.hid (V12.out.below hb12)
  have Dy := Lib.hid (Dy.out.below hb12)
  have V14 := Lib.hid (V14.out.below hb12)
  have Dpa := Lib.hid (Dpa.out.below hb12)
  have V16 := Lib.hid (V16.out.below hb12)
  have Dpb := Lib.hid (Dpb.out.below hb12)
  have V18 := Lib.hid (V18.out.below hb12)
  have Dpc := Lib.hid (Dpc.out.below hb12)
  have HB := Lib.hid (below_next HB.out hb12)
  rw [hw12, hk12]
  clear hw12 hb12 hk12
  refine (f_of d HLd.out _).mono ?_
  rintro e w13 ⟨v13, rfl, hv13, hb13⟩
  obtain ⟨n_pd, a_pd, l_pd, k_pd, E_pd, rfl⟩ := hv13.shape
  have Dx := Lib.hid (Dx.out.below hb13)
  have V12 := Lib.hid (V12.out.below hb13)
  have Dy := Lib.hid (Dy.out.below hb13)
  have V14 := Lib.hid (V14.out.below hb13)
  have Dpa := Lib.hid (Dpa.out.below hb13)
  have V16 := Lib.hid (V16.out.below hb13)
  have Dpb := Lib.hid (Dpb.out.below hb13)
  have V18 := Lib.hid (V18.out.below hb13)
  have Dpc := Lib.hid (Dpc.out.below hb13)
  have V20 := Lib.hid (V20.out.below hb13)
  have HB := Lib.hid (below_next HB.out hb13)
  have Dpd := Lib.hid hv13
  clear hv13 hb13
  obtain ⟨okpd, hi13⟩ : ∃ i, Fl.isFin d = i := ⟨_, rfl⟩
  rw [hi13]
  have Ipd := Lib.hid hi13
  clear hi13
  go_wp2_with fail
  obtain ⟨wb14, hw14⟩ : ∃ w', w13.alloc (Obj.cells #[Value.bool n_pd, Value.slice a_pd l_pd k_pd, Value.int IntKind.i64 E_pd] 35) = w' := ⟨_, rfl⟩
  have hb14 : Below w13.heap.size w13 wb14 := by rw [← hw14]; exact below_alloc _ _
  obtain ⟨b22, hk14⟩ : ∃ b, w13.heap.size = b := ⟨_, rfl⟩
  have V22 : Hid (Var wb14 b22 n_pd a_pd l_pd k_pd E_pd) := Lib.hid (by have := var_alloc w13 n_pd a_pd l_pd k_pd E_pd; rw [show _ = wb14 from hw14, hk14] at this; exact this)
  have Dx := Lib.hid (Dx.out.below hb14)
  have V12 := Lib.hid (V12.out.below hb14)
  have Dy := Lib.hid (Dy.out.below hb14)
  have V14 := Lib.hid (V14.out.below hb14)
  have Dpa := Lib.hid (Dpa.out.below hb14)
  have V16 := Lib.hid (V16.out.below hb14)
  have Dpb := Lib.hid (Dpb.out.below hb14)
  have V18 := Lib.hid (V18.out.below hb14)
  have Dpc := Lib.hid (Dpc.out.below hb14)
  have V20 := Lib.hid (V20.out.below hb14)
  have Dpd := Lib.hid (Dpd.out.below hb14)
  have HB := Lib.hid (below_next HB.out hb14)
  rw [hw14, hk14]
  clear hw14 hb14 hk14
  have Ka := Lib.hid (bd_VV a)
  have Kb := Lib.hid (bd_VV b)
  have Kc := Lib.hid (bd_VV c)
  have Kd := Lib.hid (bd_VV d)
  have Kx := Lib.hid (bd_VV x)
  have Ky := Lib.hid (bd_VV y)
  have Kac : Hid (Bd (Fl.VV a * Fl.VV c) 4196) := Lib.hid (Bd.mul (Ka.out) (Kc.out) rfl)
  have Kbd : Hid (Bd (Fl.VV b * Fl.VV d) 4196) := Lib.hid (Bd.mul (Kb.out) (Kd.out) rfl)
  have Kad : Hid (Bd (Fl.VV a * Fl.VV d) 4196) := Lib.hid (Bd.mul (Ka.out) (Kd.out) rfl)
  have Kbc : Hid (Bd (Fl.VV b * Fl.VV c) 4196) := Lib.hid (Bd.mul (Kb.out) (Kc.out) rfl)
  have Kaa : Hid (Bd (Fl.VV a * Fl.VV a) 4196) := Lib.hid (Bd.mul (Ka.out) (Ka.out) rfl)
  have Kbb : Hid (Bd (Fl.VV b * Fl.VV b) 4196) := Lib.hid (Bd.mul (Kb.out) (Kb.out) rfl)
  have Kcc : Hid (Bd (Fl.VV c * Fl.VV c) 4196) := Lib.hid (Bd.mul (Kc.out) (Kc.out) rfl)
  have Kdd : Hid (Bd (Fl.VV d * Fl.VV d) 4196) := Lib.hid (Bd.mul (Kd.out) (Kd.out) rfl)
  have Kt1 : Hid (Bd (Fl.VV a * Fl.VV c + -(Fl.VV b * Fl.VV d)) 4197) := Lib.hid (Kac.out.add Kbd.out.neg rfl)
  have Kt2 : Hid (Bd (Fl.VV a * Fl.VV d + Fl.VV b * Fl.VV c) 4197) := Lib.hid (Kad.out.add Kbc.out rfl)
  have Ku : Hid (Bd (Fl.VV x * (Fl.ONE : Int) + -(Fl.VV a * Fl.VV c + -(Fl.VV b * Fl.VV d))) 4198) := Lib.hid (((bd_ONE Kx.out rfl).mono (by decide)).add Kt1.out.neg rfl)
  have Kv : Hid (Bd (Fl.VV y * (Fl.ONE : Int) + -(Fl.VV a * Fl.VV d + Fl.VV b * Fl.VV c)) 4198) := Lib.hid (((bd_ONE Ky.out rfl).mono (by decide)).add Kt2.out.neg rfl)
  have Kuu : Hid (Bd ((Fl.VV x * (Fl.ONE : Int) + -(Fl.VV a * Fl.VV c + -(Fl.VV b * Fl.VV d))) * (Fl.VV x * (Fl.ONE : Int) + -(Fl.VV a * Fl.VV c + -(Fl.VV b * Fl.VV d)))) 8396) := Lib.hid (Ku.out.mul Ku.out rfl)
  have Kvv : Hid (Bd ((Fl.VV y * (Fl.ONE : Int) + -(Fl.VV a * Fl.VV d + Fl.VV b * Fl.VV c)) * (Fl.VV y * (Fl.ONE : Int) + -(Fl.VV a * Fl.VV d + Fl.VV b * Fl.VV c))) 8396) := Lib.hid (Kv.out.mul Kv.out rfl)
  have Ks1 : Hid (Bd (Fl.VV a * Fl.VV a + Fl.VV b * Fl.VV b) 4197) := Lib.hid (Kaa.out.add Kbb.out rfl)
  have Ks2 : Hid (Bd (Fl.VV c * Fl.VV c + Fl.VV d * Fl.VV d) 4197) := Lib.hid (Kcc.out.add Kdd.out rfl)
  have Koff : Hid (Bd ((Fl.VV x * (Fl.ONE : Int) + -(Fl.VV a * Fl.VV c + -(Fl.VV b * Fl.VV d))) * (Fl.VV x * (Fl.ONE : Int) + -(Fl.VV a * Fl.VV c + -(Fl.VV b * Fl.VV d))) + (Fl.VV y * (Fl.ONE : Int) + -(Fl.VV a * Fl.VV d + Fl.VV b * Fl.VV c)) * (Fl.VV y * (Fl.ONE : Int) + -(Fl.VV a * Fl.VV d + Fl.VV b * Fl.VV c))) 8397) := Lib.hid (Kuu.out.add Kvv.out rfl)
  have Ksz : Hid (Bd ((Fl.VV a * Fl.VV a + Fl.VV b * Fl.VV b) * (Fl.VV c * Fl.VV c + Fl.VV d * Fl.VV d)) 8394) := Lib.hid (Ks1.out.mul Ks2.out rfl)
  obtain ⟨R24, hR24⟩ : ∃ R : Act → Act → World → Prop, R = (fun a0 a' w' => ∃ (u92 u93 u94 u95 u96 u97 u98 u99 u100 u101 u102 : Value) (b_ : Nat) (n_ : Bool) (a_ : Option Addr) (l_ k_ : Nat) (E_ : Int), a' = ((((((((((((a0.put (some 24) (.pointer (some ⟨b_, 0, none⟩))).put (some 92) u92).put (some 93) u93).put (some 94) u94).put (some 95) u95).put (some 96) u96).put (some 97) u97).put (some 98) u98).put (some 99) u99).put (some 100) u100).put (some 101) u101).put (some 102) u102) ∧ Below wb14.heap.size wb14 w' ∧ Var w' b_ n_ a_ l_ k_ E_ ∧ IsD w' (Dv n_ (.slice a_ l_ k_) E_) (Fl.VV x * (Fl.ONE : Int) + -(Fl.VV a * Fl.VV c + -(Fl.VV b * Fl.VV d))) (-1074 + -1074) ∧ wb14.heap.size ≤ b_) := ⟨_, rfl⟩
  have HR24 := Lib.hid hR24
  clear hR24
  refine wp_region_cut (S := Below wb14.heap.size wb14) R24 (by kernel_rfl) ?_ ?_
  · have hS15 : Below wb14.heap.size wb14 wb14.drew := (Below.refl _ wb14).drew
    obtain ⟨wd15, hwd⟩ : ∃ w', wb14.drew = w' := ⟨_, rfl⟩
    rw [hwd] at hS15 ⊢
    clear hwd
    refine wpAnyR_take (i := 0) rfl (by kernel_rfl) (by kernel_rfl) (by kernel_rfl) (fun _ _ _ h => h) hS15 (.inl ⟨by kernel_rfl, fun w' hS => (by have y120 := cell_at hS V12.out.lt V12.out.c0; have y121 := cell_at hS V12.out.lt V12.out.c1; have y122 := cell_at hS V12.out.lt V12.out.c2; go_simp; exact ⟨rfl, rfl⟩)⟩) rfl (by go_simp; rfl) ?_
    refine wpAnyR_take (i := 1) rfl (by kernel_rfl) (by kernel_rfl) (by kernel_rfl) (fun _ _ _ h => h) hS15 (.inl ⟨by kernel_rfl, fun w' hS => (by have y160 := cell_at hS V16.out.lt V16.out.c0; have y161 := cell_at hS V16.out.lt V16.out.c1; have y162 := cell_at hS V16.out.lt V16.out.c2; go_simp; exact ⟨rfl, rfl⟩)⟩) rfl (by go_simp; rfl) ?_
    refine wpAnyR_take (i := 2) rfl (by kernel_rfl) (by kernel_rfl) (by kernel_rfl) (fun _ _ _ h => h) hS15 (.inl ⟨by kernel_rfl, fun w' hS => (by have y200 := cell_at hS V20.out.lt V20.out.c0; have y201 := cell_at hS V20.out.lt V20.out.c1; have y202 := cell_at hS V20.out.lt V20.out.c2; go_simp; exact ⟨rfl, rfl⟩)⟩) rfl (by go_simp; rfl) ?_
    refine wpAnyR_take (i := 4) rfl (by kernel_rfl) (by kernel_rfl) (by kernel_rfl) (fun _ _ _ h => h) hS15 (.inl ⟨by kernel_rfl, fun w' hS => (by have y180 := cell_at hS V18.out.lt V18.out.c0; have y181 := cell_at hS V18.out.lt V18.out.c1; have y182 := cell_at hS V18.out.lt V18.out.c2; go_simp; exact ⟨rfl, rfl⟩)⟩) rfl (by go_simp; rfl) ?_
    refine wpAnyR_take (i := 5) rfl (by kernel_rfl) (by kernel_rfl) (by kernel_rfl) (fun _ _ _ h => h) hS15 (.inl ⟨by kernel_rfl, fun w' hS => (by have y220 := cell_at hS V22.out.lt V22.out.c0; have y221 := cell_at hS V22.out.lt V22.out.c1; have y222 := cell_at hS V22.out.lt V22.out.c2; go_simp; exact ⟨rfl, rfl⟩)⟩) rfl (by go_simp; rfl) ?_
    refine wpAnyR_two (i := 3) (j := 11) rfl rfl (by kernel_rfl) (by kernel_rfl) (by kernel_rfl) ?_ ?_
    · go_simp
      refine (d_mul (Dpa.out.below hS15) (Dpc.out.below hS15) (Ka.out.sz (by decide)) (Kc.out.sz (by decide)) (Kac.out.sz (by decide)) (by decide) (by decide) (by decide) (by decide)).mono ?_
      rintro e w16 ⟨v16, rfl, hv16, hb16⟩
      obtain ⟨n_ac, a_ac, l_ac, k_ac, E_ac, rfl⟩ := hv16.shape
      have hS16 : Below wb14.heap.size wb14 w16 := below_next hS15 hb16
      have Dac := Lib.hid hv16
      clear hv16 hb16
      refine ⟨hS16, ?_⟩
      refine wpAnyR_two (i := 6) (j := 11) rfl rfl (by kernel_rfl) (by kernel_rfl) (by kernel_rfl) ?_ ?_
      · go_simp
        refine (d_mul (Dpb.out.below hS16) (Dpd.out.below hS16) (Kb.out.sz (by decide)) (Kd.out.sz (by decide)) (Kbd.out.sz (by decide)) (by decide) (by decide) (by decide) (by decide)).mono ?_
        rintro e w17 ⟨v17, rfl, hv17, hb17⟩
        obtain ⟨n_bd, a_bd, l_bd, k_bd, E_bd, rfl⟩ := hv17.shape
        have hS17 : Below wb14.heap.size wb14 w17 := below_next hS16 hb17
        have Dac := Lib.hid (Dac.out.below hb17)
        have Dbd := Lib.hid hv17
        clear hv17 hb17
        refine ⟨hS17, ?_⟩
        refine wpAnyR_two (i := 7) (j := 11) rfl rfl (by kernel_rfl) (by kernel_rfl) (by kernel_rfl) ?_ ?_
        · go_simp
          refine (d_flip Dbd.out).mono ?_
          rintro e w18 ⟨v18, rfl, hv18, hb18⟩
          obtain ⟨n_nbd, a_nbd, l_nbd, k_nbd, E_nbd, rfl⟩ := hv18.shape
          have hS18 : Below wb14.heap.size wb14 w18 := below_next hS17 hb18
          have Dac := Lib.hid (Dac.out.below hb18)
          have Dbd := Lib.hid (Dbd.out.below hb18)
          have Dnbd := Lib.hid hv18
          clear hv18 hb18
          refine ⟨hS18, ?_⟩
          refine wpAnyR_two (i := 8) (j := 11) rfl rfl (by kernel_rfl) (by kernel_rfl) (by kernel_rfl) ?_ ?_
          · go_simp
            refine (d_add Dac.out Dnbd.out (Kac.out.sz2 Kbd.out.neg (by decide)) (by decide) (by decide)).mono ?_
            rintro e w19 ⟨v19, rfl, hv19, hb19⟩
            obtain ⟨n_t1, a_t1, l_t1, k_t1, E_t1, rfl⟩ := hv19.shape
            have hS19 : Below wb14.heap.size wb14 w19 := below_next hS18 hb19
            have Dac := Lib.hid (Dac.out.below hb19)
            have Dbd := Lib.hid (Dbd.out.below hb19)
            have Dnbd := Lib.hid (Dnbd.out.below hb19)
            have Dt1 := Lib.hid hv19
            clear hv19 hb19
            refine ⟨hS19, ?_⟩
            refine wpAnyR_two (i := 9) (j := 11) rfl rfl (by kernel_rfl) (by kernel_rfl) (by kernel_rfl) ?_ ?_
            · go_simp
              refine (d_flip Dt1.out).mono ?_
              rintro e w20 ⟨v20, rfl, hv20, hb20⟩
              obtain ⟨n_nt1, a_nt1, l_nt1, k_nt1, E_nt1, rfl⟩ := hv20.shape
              have hS20 : Below wb14.heap.size wb14 w20 := below_next hS19 hb20
              have Dac := Lib.hid (Dac.out.below hb20)
              have Dbd := Lib.hid (Dbd.out.below hb20)
              have Dnbd := Lib.hid (Dnbd.out.below hb20)
              have Dt1 := Lib.hid (Dt1.out.below hb20)
              have Dnt1 := Lib.hid hv20
              clear hv20 hb20
              refine ⟨hS20, ?_⟩
              refine wpAnyR_two (i := 10) (j := 11) rfl rfl (by kernel_rfl) (by kernel_rfl) (by kernel_rfl) ?_ ?_
              · go_simp
                refine (d_add ((Dx.out.below hS20).down (e' := -1074 + -1074) (by decide)) Dnt1.out (((bd_ONE Kx.out rfl).mono (by decide)).sz2 Kt1.out.neg (by decide)) (by decide) (by decide)).mono ?_
                rintro e w21 ⟨v21, rfl, hv21, hb21⟩
                obtain ⟨n_u, a_u, l_u, k_u, E_u, rfl⟩ := hv21.shape
                have hS21 : Below wb14.heap.size wb14 w21 := below_next hS20 hb21
                have Dac := Lib.hid (Dac.out.below hb21)
                have Dbd := Lib.hid (Dbd.out.below hb21)
                have Dnbd := Lib.hid (Dnbd.out.below hb21)
                have Dt1 := Lib.hid (Dt1.out.below hb21)
                have Dnt1 := Lib.hid (Dnt1.out.below hb21)
                have Du := Lib.hid hv21
                clear hv21 hb21
                refine ⟨hS21, ?_⟩
                refine wpAnyR_oneG (i := 11) rfl (by kernel_rfl) (by kernel_rfl) rfl ?_
                go_simp
                obtain ⟨w22, hw22⟩ : ∃ w', w21.alloc (Obj.cells #[Value.bool false, Value.slice none 0 0, Value.int IntKind.i64 0] 35) = w' := ⟨_, rfl⟩
                have hb22 : Below w21.heap.size w21 w22 := by rw [← hw22]; exact below_alloc _ _
                have hS22 : Below wb14.heap.size wb14 w22 := below_next hS21 hb22
                obtain ⟨b24, hk22⟩ : ∃ b, w21.heap.size = b := ⟨_, rfl⟩
                have BX : Hid (Box w22 b24) := Lib.hid (by have := box_alloc w21; rw [show boxed _ = w22 from hw22, hk22] at this; exact this)
                have BL : Hid (b24 < w22.heap.size) := Lib.hid (by rw [← hw22, ← hk22]; simp)
                have RB : Hid (wb14.heap.size ≤ b24) := Lib.hid (by rw [← hk22]; exact hS21.size)
                have Dac := Lib.hid (Dac.out.below hb22)
                have Dbd := Lib.hid (Dbd.out.below hb22)
                have Dnbd := Lib.hid (Dnbd.out.below hb22)
                have Dt1 := Lib.hid (Dt1.out.below hb22)
                have Dnt1 := Lib.hid (Dnt1.out.below hb22)
                have Du := Lib.hid (Du.out.below hb22)
                rw [hw22]; try rw [hk22]
                clear hw22 hb22 hk22
                refine ⟨hS22, ?_⟩
                have c0 := BX.out.c0; have c1 := BX.out.c1; have c2 := BX.out.c2; have f0 := BX.out.f0; have f1 := BX.out.f1; have f2 := BX.out.f2
                refine wpAnyR_oneG (i := 12) rfl (by kernel_rfl) (by kernel_rfl) rfl ?_
                go_simp
                refine ⟨Box.keepB hS22 RB.out _ _ _, wpAnyR_done (by kernel_rfl) (cutQ_normal ?_) _⟩
                rw [HR24.out]
                refine ⟨(Dv n_x (.slice a_x l_x k_x) E_x), (Dv n_pa (.slice a_pa l_pa k_pa) E_pa), (Dv n_pc (.slice a_pc l_pc k_pc) E_pc), (Dv n_ac (.slice a_ac l_ac k_ac) E_ac), (Dv n_pb (.slice a_pb l_pb k_pb) E_pb), (Dv n_pd (.slice a_pd l_pd k_pd) E_pd), (Dv n_bd (.slice a_bd l_bd k_bd) E_bd), (Dv n_nbd (.slice a_nbd l_nbd k_nbd) E_nbd), (Dv n_t1 (.slice a_t1 l_t1 k_t1) E_t1), (Dv n_nt1 (.slice a_nt1 l_nt1 k_nt1) E_nt1), (Dv n_u (.slice a_u l_u k_u) E_u), b24, n_u, a_u, l_u, k_u, E_u, ?_, Box.keepB hS22 RB.out _ _ _, box_store BX.out BL.out _ _ _ _ _, BX.out.keepD Du.out _ _ _, RB.out⟩
                kernel_rfl
              · go_simp
                obtain ⟨w21, hw21⟩ : ∃ w', w20.alloc (Obj.cells #[Value.bool false, Value.slice none 0 0, Value.int IntKind.i64 0] 35) = w' := ⟨_, rfl⟩
                have hb21 : Below w20.heap.size w20 w21 := by rw [← hw21]; exact below_alloc _ _
                have hS21 : Below wb14.heap.size wb14 w21 := below_next hS20 hb21
                obtain ⟨b24, hk21⟩ : ∃ b, w20.heap.size = b := ⟨_, rfl⟩
                have BX : Hid (Box w21 b24) := Lib.hid (by have := box_alloc w20; rw [show boxed _ = w21 from hw21, hk21] at this; exact this)
                have BL : Hid (b24 < w21.heap.size) := Lib.hid (by rw [← hw21, ← hk21]; simp)
                have RB : Hid (wb14.heap.size ≤ b24) := Lib.hid (by rw [← hk21]; exact hS20.size)
                have Dac := Lib.hid (Dac.out.below hb21)
                have Dbd := Lib.hid (Dbd.out.below hb21)
                have Dnbd := Lib.hid (Dnbd.out.below hb21)
                have Dt1 := Lib.hid (Dt1.out.below hb21)
                have Dnt1 := Lib.hid (Dnt1.out.below hb21)
                rw [hw21]; try rw [hk21]
                clear hw21 hb21 hk21
                refine ⟨hS21, ?_⟩
                refine wpAnyR_oneG (i := 10) rfl (by kernel_rfl) (by kernel_rfl) rfl ?_
                go_simp
                refine (d_add ((Dx.out.below hS21).down (e' := -1074 + -1074) (by decide)) Dnt1.out (((bd_ONE Kx.out rfl).mono (by decide)).sz2 Kt1.out.neg (by decide)) (by decide) (by decide)).mono ?_
                rintro e w22 ⟨v22, rfl, hv22, hb22⟩
                obtain ⟨n_u, a_u, l_u, k_u, E_u, rfl⟩ := hv22.shape
                have hS22 : Below wb14.heap.size wb14 w22 := below_next hS21 hb22
                have Dac := Lib.hid (Dac.out.below hb22)
                have Dbd := Lib.hid (Dbd.out.below hb22)
                have Dnbd := Lib.hid (Dnbd.out.below hb22)
                have Dt1 := Lib.hid (Dt1.out.below hb22)
                have Dnt1 := Lib.hid (Dnt1.out.below hb22)
                have BX := Lib.hid (BX.out.below hb22 BL.out)
                have BL := Lib.hid (Nat.lt_of_lt_of_le BL.out hb22.size)
                have Du := Lib.hid hv22
                clear hv22 hb22
                refine ⟨hS22, ?_⟩
                have c0 := BX.out.c0; have c1 := BX.out.c1; have c2 := BX.out.c2; have f0 := BX.out.f0; have f1 := BX.out.f1; have f2 := BX.out.f2
                refine wpAnyR_oneG (i := 12) rfl (by kernel_rfl) (by kernel_rfl) rfl ?_
                go_simp
                refine ⟨Box.keepB hS22 RB.out _ _ _, wpAnyR_done (by kernel_rfl) (cutQ_normal ?_) _⟩
                rw [HR24.out]
                refine ⟨(Dv n_x (.slice a_x l_x k_x) E_x), (Dv n_pa (.slice a_pa l_pa k_pa) E_pa), (Dv n_pc (.slice a_pc l_pc k_pc) E_pc), (Dv n_ac (.slice a_ac l_ac k_ac) E_ac), (Dv n_pb (.slice a_pb l_pb k_pb) E_pb), (Dv n_pd (.slice a_pd l_pd k_pd) E_pd), (Dv n_bd (.slice a_bd l_bd k_bd) E_bd), (Dv n_nbd (.slice a_nbd l_nbd k_nbd) E_nbd), (Dv n_t1 (.slice a_t1 l_t1 k_t1) E_t1), (Dv n_nt1 (.slice a_nt1 l_nt1 k_nt1) E_nt1), (Dv n_u (.slice a_u l_u k_u) E_u), b24, n_u, a_u, l_u, k_u, E_u, ?_, Box.keepB hS22 RB.out _ _ _, box_store BX.out BL.out _ _ _ _ _, BX.out.keepD Du.out _ _ _, RB.out⟩
                kernel_rfl
            · go_simp
              obtain ⟨w20, hw20⟩ : ∃ w', w19.alloc (Obj.cells #[Value.bool false, Value.slice none 0 0, Value.int IntKind.i64 0] 35) = w' := ⟨_, rfl⟩
              have hb20 : Below w19.heap.size w19 w20 := by rw [← hw20]; exact below_alloc _ _
              have hS20 : Below wb14.heap.size wb14 w20 := below_next hS19 hb20
              obtain ⟨b24, hk20⟩ : ∃ b, w19.heap.size = b := ⟨_, rfl⟩
              have BX : Hid (Box w20 b24) := Lib.hid (by have := box_alloc w19; rw [show boxed _ = w20 from hw20, hk20] at this; exact this)
              have BL : Hid (b24 < w20.heap.size) := Lib.hid (by rw [← hw20, ← hk20]; simp)
              have RB : Hid (wb14.heap.size ≤ b24) := Lib.hid (by rw [← hk20]; exact hS19.size)
              have Dac := Lib.hid (Dac.out.below hb20)
              have Dbd := Lib.hid (Dbd.out.below hb20)
              have Dnbd := Lib.hid (Dnbd.out.below hb20)
              have Dt1 := Lib.hid (Dt1.out.below hb20)
              rw [hw20]; try rw [hk20]
              clear hw20 hb20 hk20
              refine ⟨hS20, ?_⟩
              refine wpAnyR_oneG (i := 9) rfl (by kernel_rfl) (by kernel_rfl) rfl ?_
              go_simp
              refine (d_flip Dt1.out).mono ?_
              rintro e w21 ⟨v21, rfl, hv21, hb21⟩
              obtain ⟨n_nt1, a_nt1, l_nt1, k_nt1, E_nt1, rfl⟩ := hv21.shape
              have hS21 : Below wb14.heap.size wb14 w21 := below_next hS20 hb21
              have Dac := Lib.hid (Dac.out.below hb21)
              have Dbd := Lib.hid (Dbd.out.below hb21)
              have Dnbd := Lib.hid (Dnbd.out.below hb21)
              have Dt1 := Lib.hid (Dt1.out.below hb21)
              have BX := Lib.hid (BX.out.below hb21 BL.out)
              have BL := Lib.hid (Nat.lt_of_lt_of_le BL.out hb21.size)
              have Dnt1 := Lib.hid hv21
              clear hv21 hb21
              refine ⟨hS21, ?_⟩
              refine wpAnyR_oneG (i := 10) rfl (by kernel_rfl) (by kernel_rfl) rfl ?_
              go_simp
              refine (d_add ((Dx.out.below hS21).down (e' := -1074 + -1074) (by decide)) Dnt1.out (((bd_ONE Kx.out rfl).mono (by decide)).sz2 Kt1.out.neg (by decide)) (by decide) (by decide)).mono ?_
              rintro e w22 ⟨v22, rfl, hv22, hb22⟩
              obtain ⟨n_u, a_u, l_u, k_u, E_u, rfl⟩ := hv22.shape
              have hS22 : Below wb14.heap.size wb14 w22 := below_next hS21 hb22
              have Dac := Lib.hid (Dac.out.below hb22)
              have Dbd := Lib.hid (Dbd.out.below hb22)
              have Dnbd := Lib.hid (Dnbd.out.below hb22)
              have Dt1 := Lib.hid (Dt1.out.below hb22)
              have Dnt1 := Lib.hid (Dnt1.out.below hb22)
              have BX := Lib.hid (BX.out.below hb22 BL.out)
              have BL := Lib.hid (Nat.lt_of_lt_of_le BL.out hb22.size)
              have Du := Lib.hid hv22
              clear hv22 hb22
              refine ⟨hS22, ?_⟩
              have c0 := BX.out.c0; have c1 := BX.out.c1; have c2 := BX.out.c2; have f0 := BX.out.f0; have f1 := BX.out.f1; have f2 := BX.out.f2
              refine wpAnyR_oneG (i := 12) rfl (by kernel_rfl) (by kernel_rfl) rfl ?_
              go_simp
              refine ⟨Box.keepB hS22 RB.out _ _ _, wpAnyR_done (by kernel_rfl) (cutQ_normal ?_) _⟩
              rw [HR24.out]
              refine ⟨(Dv n_x (.slice a_x l_x k_x) E_x), (Dv n_pa (.slice a_pa l_pa k_pa) E_pa), (Dv n_pc (.slice a_pc l_pc k_pc) E_pc), (Dv n_ac (.slice a_ac l_ac k_ac) E_ac), (Dv n_pb (.slice a_pb l_pb k_pb) E_pb), (Dv n_pd (.slice a_pd l_pd k_pd) E_pd), (Dv n_bd (.slice a_bd l_bd k_bd) E_bd), (Dv n_nbd (.slice a_nbd l_nbd k_nbd) E_nbd), (Dv n_t1 (.slice a_t1 l_t1 k_t1) E_t1), (Dv n_nt1 (.slice a_nt1 l_nt1 k_nt1) E_nt1), (Dv n_u (.slice a_u l_u k_u) E_u), b24, n_u, a_u, l_u, k_u, E_u, ?_, Box.keepB hS22 RB.out _ _ _, box_store BX.out BL.out _ _ _ _ _, BX.out.keepD Du.out _ _ _, RB.out⟩
              kernel_rfl
          · go_simp
            obtain ⟨w19, hw19⟩ : ∃ w', w18.alloc (Obj.cells #[Value.bool false, Value.slice none 0 0, Value.int IntKind.i64 0] 35) = w' := ⟨_, rfl⟩
            have hb19 : Below w18.heap.size w18 w19 := by rw [← hw19]; exact below_alloc _ _
            have hS19 : Below wb14.heap.size wb14 w19 := below_next hS18 hb19
            obtain ⟨b24, hk19⟩ : ∃ b, w18.heap.size = b := ⟨_, rfl⟩
            have BX : Hid (Box w19 b24) := Lib.hid (by have := box_alloc w18; rw [show boxed _ = w19 from hw19, hk19] at this; exact this)
            have BL : Hid (b24 < w19.heap.size) := Lib.hid (by rw [← hw19, ← hk19]; simp)
            have RB : Hid (wb14.heap.size ≤ b24) := Lib.hid (by rw [← hk19]; exact hS18.size)
            have Dac := Lib.hid (Dac.out.below hb19)
            have Dbd := Lib.hid (Dbd.out.below hb19)
            have Dnbd := Lib.hid (Dnbd.out.below hb19)
            rw [hw19]; try rw [hk19]
            clear hw19 hb19 hk19
            refine ⟨hS19, ?_⟩
            refine wpAnyR_oneG (i := 8) rfl (by kernel_rfl) (by kernel_rfl) rfl ?_
            go_simp
            refine (d_add Dac.out Dnbd.out (Kac.out.sz2 Kbd.out.neg (by decide)) (by decide) (by decide)).mono ?_
            rintro e w20 ⟨v20, rfl, hv20, hb20⟩
            obtain ⟨n_t1, a_t1, l_t1, k_t1, E_t1, rfl⟩ := hv20.shape
            have hS20 : Below wb14.heap.size wb14 w20 := below_next hS19 hb20
            have Dac := Lib.hid (Dac.out.below hb20)
            have Dbd := Lib.hid (Dbd.out.below hb20)
            have Dnbd := Lib.hid (Dnbd.out.below hb20)
            have BX := Lib.hid (BX.out.below hb20 BL.out)
            have BL := Lib.hid (Nat.lt_of_lt_of_le BL.out hb20.size)
            have Dt1 := Lib.hid hv20
            clear hv20 hb20
            refine ⟨hS20, ?_⟩
            refine wpAnyR_oneG (i := 9) rfl (by kernel_rfl) (by kernel_rfl) rfl ?_
            go_simp
            refine (d_flip Dt1.out).mono ?_
            rintro e w21 ⟨v21, rfl, hv21, hb21⟩
            obtain ⟨n_nt1, a_nt1, l_nt1, k_nt1, E_nt1, rfl⟩ := hv21.shape
            have hS21 : Below wb14.heap.size wb14 w21 := below_next hS20 hb21
            have Dac := Lib.hid (Dac.out.below hb21)
            have Dbd := Lib.hid (Dbd.out.below hb21)
            have Dnbd := Lib.hid (Dnbd.out.below hb21)
            have Dt1 := Lib.hid (Dt1.out.below hb21)
            have BX := Lib.hid (BX.out.below hb21 BL.out)
            have BL := Lib.hid (Nat.lt_of_lt_of_le BL.out hb21.size)
            have Dnt1 := Lib.hid hv21
            clear hv21 hb21
            refine ⟨hS21, ?_⟩
            refine wpAnyR_oneG (i := 10) rfl (by kernel_rfl) (by kernel_rfl) rfl ?_
            go_simp
            refine (d_add ((Dx.out.below hS21).down (e' := -1074 + -1074) (by decide)) Dnt1.out (((bd_ONE Kx.out rfl).mono (by decide)).sz2 Kt1.out.neg (by decide)) (by decide) (by decide)).mono ?_
            rintro e w22 ⟨v22, rfl, hv22, hb22⟩
            obtain ⟨n_u, a_u, l_u, k_u, E_u, rfl⟩ := hv22.shape
            have hS22 : Below wb14.heap.size wb14 w22 := below_next hS21 hb22
            have Dac := Lib.hid (Dac.out.below hb22)
            have Dbd := Lib.hid (Dbd.out.below hb22)
            have Dnbd := Lib.hid (Dnbd.out.below hb22)
            have Dt1 := Lib.hid (Dt1.out.below hb22)
            have Dnt1 := Lib.hid (Dnt1.out.below hb22)
            have BX := Lib.hid (BX.out.below hb22 BL.out)
            have BL := Lib.hid (Nat.lt_of_lt_of_le BL.out hb22.size)
            have Du := Lib.hid hv22
            clear hv22 hb22
            refine ⟨hS22, ?_⟩
            have c0 := BX.out.c0; have c1 := BX.out.c1; have c2 := BX.out.c2; have f0 := BX.out.f0; have f1 := BX.out.f1; have f2 := BX.out.f2
            refine wpAnyR_oneG (i := 12) rfl (by kernel_rfl) (by kernel_rfl) rfl ?_
            go_simp
            refine ⟨Box.keepB hS22 RB.out _ _ _, wpAnyR_done (by kernel_rfl) (cutQ_normal ?_) _⟩
            rw [HR24.out]
            refine ⟨(Dv n_x (.slice a_x l_x k_x) E_x), (Dv n_pa (.slice a_pa l_pa k_pa) E_pa), (Dv n_pc (.slice a_pc l_pc k_pc) E_pc), (Dv n_ac (.slice a_ac l_ac k_ac) E_ac), (Dv n_pb (.slice a_pb l_pb k_pb) E_pb), (Dv n_pd (.slice a_pd l_pd k_pd) E_pd), (Dv n_bd (.slice a_bd l_bd k_bd) E_bd), (Dv n_nbd (.slice a_nbd l_nbd k_nbd) E_nbd), (Dv n_t1 (.slice a_t1 l_t1 k_t1) E_t1), (Dv n_nt1 (.slice a_nt1 l_nt1 k_nt1) E_nt1), (Dv n_u (.slice a_u l_u k_u) E_u), b24, n_u, a_u, l_u, k_u, E_u, ?_, Box.keepB hS22 RB.out _ _ _, box_store BX.out BL.out _ _ _ _ _, BX.out.keepD Du.out _ _ _, RB.out⟩
            kernel_rfl
        · go_simp
          obtain ⟨w18, hw18⟩ : ∃ w', w17.alloc (Obj.cells #[Value.bool false, Value.slice none 0 0, Value.int IntKind.i64 0] 35) = w' := ⟨_, rfl⟩
          have hb18 : Below w17.heap.size w17 w18 := by rw [← hw18]; exact below_alloc _ _
          have hS18 : Below wb14.heap.size wb14 w18 := below_next hS17 hb18
          obtain ⟨b24, hk18⟩ : ∃ b, w17.heap.size = b := ⟨_, rfl⟩
          have BX : Hid (Box w18 b24) := Lib.hid (by have := box_alloc w17; rw [show boxed _ = w18 from hw18, hk18] at this; exact this)
          have BL : Hid (b24 < w18.heap.size) := Lib.hid (by rw [← hw18, ← hk18]; simp)
          have RB : Hid (wb14.heap.size ≤ b24) := Lib.hid (by rw [← hk18]; exact hS17.size)
          have Dac := Lib.hid (Dac.out.below hb18)
          have Dbd := Lib.hid (Dbd.out.below hb18)
          rw [hw18]; try rw [hk18]
          clear hw18 hb18 hk18
          refine ⟨hS18, ?_⟩
          refine wpAnyR_oneG (i := 7) rfl (by kernel_rfl) (by kernel_rfl) rfl ?_
          go_simp
          refine (d_flip Dbd.out).mono ?_
          rintro e w19 ⟨v19, rfl, hv19, hb19⟩
          obtain ⟨n_nbd, a_nbd, l_nbd, k_nbd, E_nbd, rfl⟩ := hv19.shape
          have hS19 : Below wb14.heap.size wb14 w19 := below_next hS18 hb19
          have Dac := Lib.hid (Dac.out.below hb19)
          have Dbd := Lib.hid (Dbd.out.below hb19)
          have BX := Lib.hid (BX.out.below hb19 BL.out)
          have BL := Lib.hid (Nat.lt_of_lt_of_le BL.out hb19.size)
          have Dnbd := Lib.hid hv19
          clear hv19 hb19
          refine ⟨hS19, ?_⟩
          refine wpAnyR_oneG (i := 8) rfl (by kernel_rfl) (by kernel_rfl) rfl ?_
          go_simp
          refine (d_add Dac.out Dnbd.out (Kac.out.sz2 Kbd.out.neg (by decide)) (by decide) (by decide)).mono ?_
          rintro e w20 ⟨v20, rfl, hv20, hb20⟩
          obtain ⟨n_t1, a_t1, l_t1, k_t1, E_t1, rfl⟩ := hv20.shape
          have hS20 : Below wb14.heap.size wb14 w20 := below_next hS19 hb20
          have Dac := Lib.hid (Dac.out.below hb20)
          have Dbd := Lib.hid (Dbd.out.below hb20)
          have Dnbd := Lib.hid (Dnbd.out.below hb20)
          have BX := Lib.hid (BX.out.below hb20 BL.out)
          have BL := Lib.hid (Nat.lt_of_lt_of_le BL.out hb20.size)
          have Dt1 := Lib.hid hv20
          clear hv20 hb20
          refine ⟨hS20, ?_⟩
          refine wpAnyR_oneG (i := 9) rfl (by kernel_rfl) (by kernel_rfl) rfl ?_
          go_simp
          refine (d_flip Dt1.out).mono ?_
          rintro e w21 ⟨v21, rfl, hv21, hb21⟩
          obtain ⟨n_nt1, a_nt1, l_nt1, k_nt1, E_nt1, rfl⟩ := hv21.shape
          have hS21 : Below wb14.heap.size wb14 w21 := below_next hS20 hb21
          have Dac := Lib.hid (Dac.out.below hb21)
          have Dbd := Lib.hid (Dbd.out.below hb21)
          have Dnbd := Lib.hid (Dnbd.out.below hb21)
          have Dt1 := Lib.hid (Dt1.out.below hb21)
          have BX := Lib.hid (BX.out.below hb21 BL.out)
          have BL := Lib.hid (Nat.lt_of_lt_of_le BL.out hb21.size)
          have Dnt1 := Lib.hid hv21
          clear hv21 hb21
          refine ⟨hS21, ?_⟩
          refine wpAnyR_oneG (i := 10) rfl (by kernel_rfl) (by kernel_rfl) rfl ?_
          go_simp
          refine (d_add ((Dx.out.below hS21).down (e' := -1074 + -1074) (by decide)) Dnt1.out (((bd_ONE Kx.out rfl).mono (by decide)).sz2 Kt1.out.neg (by decide)) (by decide) (by decide)).mono ?_
          rintro e w22 ⟨v22, rfl, hv22, hb22⟩
          obtain ⟨n_u, a_u, l_u, k_u, E_u, rfl⟩ := hv22.shape
          have hS22 : Below wb14.heap.size wb14 w22 := below_next hS21 hb22
          have Dac := Lib.hid (Dac.out.below hb22)
          have Dbd := Lib.hid (Dbd.out.below hb22)
          have Dnbd := Lib.hid (Dnbd.out.below hb22)
          have Dt1 := Lib.hid (Dt1.out.below hb22)
          have Dnt1 := Lib.hid (Dnt1.out.below hb22)
          have BX := Lib.hid (BX.out.below hb22 BL.out)
          have BL := Lib.hid (Nat.lt_of_lt_of_le BL.out hb22.size)
          have Du := Lib.hid hv22
          clear hv22 hb22
          refine ⟨hS22, ?_⟩
          have c0 := BX.out.c0; have c1 := BX.out.c1; have c2 := BX.out.c2; have f0 := BX.out.f0; have f1 := BX.out.f1; have f2 := BX.out.f2
          refine wpAnyR_oneG (i := 12) rfl (by kernel_rfl) (by kernel_rfl) rfl ?_
          go_simp
          refine ⟨Box.keepB hS22 RB.out _ _ _, wpAnyR_done (by kernel_rfl) (cutQ_normal ?_) _⟩
          rw [HR24.out]
          refine ⟨(Dv n_x (.slice a_x l_x k_x) E_x), (Dv n_pa (.slice a_pa l_pa k_pa) E_pa), (Dv n_pc (.slice a_pc l_pc k_pc) E_pc), (Dv n_ac (.slice a_ac l_ac k_ac) E_ac), (Dv n_pb (.slice a_pb l_pb k_pb) E_pb), (Dv n_pd (.slice a_pd l_pd k_pd) E_pd), (Dv n_bd (.slice a_bd l_bd k_bd) E_bd), (Dv n_nbd (.slice a_nbd l_nbd k_nbd) E_nbd), (Dv n_t1 (.slice a_t1 l_t1 k_t1) E_t1), (Dv n_nt1 (.slice a_nt1 l_nt1 k_nt1) E_nt1), (Dv n_u (.slice a_u l_u k_u) E_u), b24, n_u, a_u, l_u, k_u, E_u, ?_, Box.keepB hS22 RB.out _ _ _, box_store BX.out BL.out _ _ _ _ _, BX.out.keepD Du.out _ _ _, RB.out⟩
          kernel_rfl
      · go_simp
        obtain ⟨w17, hw17⟩ : ∃ w', w16.alloc (Obj.cells #[Value.bool false, Value.slice none 0 0, Value.int IntKind.i64 0] 35) = w' := ⟨_, rfl⟩
        have hb17 : Below w16.heap.size w16 w17 := by rw [← hw17]; exact below_alloc _ _
        have hS17 : Below wb14.heap.size wb14 w17 := below_next hS16 hb17
        obtain ⟨b24, hk17⟩ : ∃ b, w16.heap.size = b := ⟨_, rfl⟩
        have BX : Hid (Box w17 b24) := Lib.hid (by have := box_alloc w16; rw [show boxed _ = w17 from hw17, hk17] at this; exact this)
        have BL : Hid (b24 < w17.heap.size) := Lib.hid (by rw [← hw17, ← hk17]; simp)
        have RB : Hid (wb14.heap.size ≤ b24) := Lib.hid (by rw [← hk17]; exact hS16.size)
        have Dac := Lib.hid (Dac.out.below hb17)
        rw [hw17]; try rw [hk17]
        clear hw17 hb17 hk17
        refine ⟨hS17, ?_⟩
        refine wpAnyR_oneG (i := 6) rfl (by kernel_rfl) (by kernel_rfl) rfl ?_
        go_simp
        refine (d_mul (Dpb.out.below hS17) (Dpd.out.below hS17) (Kb.out.sz (by decide)) (Kd.out.sz (by decide)) (Kbd.out.sz (by decide)) (by decide) (by decide) (by decide) (by decide)).mono ?_
        rintro e w18 ⟨v18, rfl, hv18, hb18⟩
        obtain ⟨n_bd, a_bd, l_bd, k_bd, E_bd, rfl⟩ := hv18.shape
        have hS18 : Below wb14.heap.size wb14 w18 := below_next hS17 hb18
        have Dac := Lib.hid (Dac.out.below hb18)
        have BX := Lib.hid (BX.out.below hb18 BL.out)
        have BL := Lib.hid (Nat.lt_of_lt_of_le BL.out hb18.size)
        have Dbd := Lib.hid hv18
        clear hv18 hb18
        refine ⟨hS18, ?_⟩
        refine wpAnyR_oneG (i := 7) rfl (by kernel_rfl) (by kernel_rfl) rfl ?_
        go_simp
        refine (d_flip Dbd.out).mono ?_
        rintro e w19 ⟨v19, rfl, hv19, hb19⟩
        obtain ⟨n_nbd, a_nbd, l_nbd, k_nbd, E_nbd, rfl⟩ := hv19.shape
        have hS19 : Below wb14.heap.size wb14 w19 := below_next hS18 hb19
        have Dac := Lib.hid (Dac.out.below hb19)
        have Dbd := Lib.hid (Dbd.out.below hb19)
        have BX := Lib.hid (BX.out.below hb19 BL.out)
        have BL := Lib.hid (Nat.lt_of_lt_of_le BL.out hb19.size)
        have Dnbd := Lib.hid hv19
        clear hv19 hb19
        refine ⟨hS19, ?_⟩
        refine wpAnyR_oneG (i := 8) rfl (by kernel_rfl) (by kernel_rfl) rfl ?_
        go_simp
        refine (d_add Dac.out Dnbd.out (Kac.out.sz2 Kbd.out.neg (by decide)) (by decide) (by decide)).mono ?_
        rintro e w20 ⟨v20, rfl, hv20, hb20⟩
        obtain ⟨n_t1, a_t1, l_t1, k_t1, E_t1, rfl⟩ := hv20.shape
        have hS20 : Below wb14.heap.size wb14 w20 := below_next hS19 hb20
        have Dac := Lib.hid (Dac.out.below hb20)
        have Dbd := Lib.hid (Dbd.out.below hb20)
        have Dnbd := Lib.hid (Dnbd.out.below hb20)
        have BX := Lib.hid (BX.out.below hb20 BL.out)
        have BL := Lib.hid (Nat.lt_of_lt_of_le BL.out hb20.size)
        have Dt1 := Lib.hid hv20
        clear hv20 hb20
        refine ⟨hS20, ?_⟩
        refine wpAnyR_oneG (i := 9) rfl (by kernel_rfl) (by kernel_rfl) rfl ?_
        go_simp
        refine (d_flip Dt1.out).mono ?_
        rintro e w21 ⟨v21, rfl, hv21, hb21⟩
        obtain ⟨n_nt1, a_nt1, l_nt1, k_nt1, E_nt1, rfl⟩ := hv21.shape
        have hS21 : Below wb14.heap.size wb14 w21 := below_next hS20 hb21
        have Dac := Lib.hid (Dac.out.below hb21)
        have Dbd := Lib.hid (Dbd.out.below hb21)
        have Dnbd := Lib.hid (Dnbd.out.below hb21)
        have Dt1 := Lib.hid (Dt1.out.below hb21)
        have BX := Lib.hid (BX.out.below hb21 BL.out)
        have BL := Lib.hid (Nat.lt_of_lt_of_le BL.out hb21.size)
        have Dnt1 := Lib.hid hv21
        clear hv21 hb21
        refine ⟨hS21, ?_⟩
        refine wpAnyR_oneG (i := 10) rfl (by kernel_rfl) (by kernel_rfl) rfl ?_
        go_simp
        refine (d_add ((Dx.out.below hS21).down (e' := -1074 + -1074) (by decide)) Dnt1.out (((bd_ONE Kx.out rfl).mono (by decide)).sz2 Kt1.out.neg (by decide)) (by decide) (by decide)).mono ?_
        rintro e w22 ⟨v22, rfl, hv22, hb22⟩
        obtain ⟨n_u, a_u, l_u, k_u, E_u, rfl⟩ := hv22.shape
        have hS22 : Below wb14.heap.size wb14 w22 := below_next hS21 hb22
        have Dac := Lib.hid (Dac.out.below hb22)
        have Dbd := Lib.hid (Dbd.out.below hb22)
        have Dnbd := Lib.hid (Dnbd.out.below hb22)
        have Dt1 := Lib.hid (Dt1.out.below hb22)
        have Dnt1 := Lib.hid (Dnt1.out.below hb22)
        have BX := Lib.hid (BX.out.below hb22 BL.out)
        have BL := Lib.hid (Nat.lt_of_lt_of_le BL.out hb22.size)
        have Du := Lib.hid hv22
        clear hv22 hb22
        refine ⟨hS22, ?_⟩
        have c0 := BX.out.c0; have c1 := BX.out.c1; have c2 := BX.out.c2; have f0 := BX.out.f0; have f1 := BX.out.f1; have f2 := BX.out.f2
        refine wpAnyR_oneG (i := 12) rfl (by kernel_rfl) (by kernel_rfl) rfl ?_
        go_simp
        refine ⟨Box.keepB hS22 RB.out _ _ _, wpAnyR_done (by kernel_rfl) (cutQ_normal ?_) _⟩
        rw [HR24.out]
        refine ⟨(Dv n_x (.slice a_x l_x k_x) E_x), (Dv n_pa (.slice a_pa l_pa k_pa) E_pa), (Dv n_pc (.slice a_pc l_pc k_pc) E_pc), (Dv n_ac (.slice a_ac l_ac k_ac) E_ac), (Dv n_pb (.slice a_pb l_pb k_pb) E_pb), (Dv n_pd (.slice a_pd l_pd k_pd) E_pd), (Dv n_bd (.slice a_bd l_bd k_bd) E_bd), (Dv n_nbd (.slice a_nbd l_nbd k_nbd) E_nbd), (Dv n_t1 (.slice a_t1 l_t1 k_t1) E_t1), (Dv n_nt1 (.slice a_nt1 l_nt1 k_nt1) E_nt1), (Dv n_u (.slice a_u l_u k_u) E_u), b24, n_u, a_u, l_u, k_u, E_u, ?_, Box.keepB hS22 RB.out _ _ _, box_store BX.out BL.out _ _ _ _ _, BX.out.keepD Du.out _ _ _, RB.out⟩
        kernel_rfl
    · go_simp
      obtain ⟨w16, hw16⟩ : ∃ w', wd15.alloc (Obj.cells #[Value.bool false, Value.slice none 0 0, Value.int IntKind.i64 0] 35) = w' := ⟨_, rfl⟩
      have hb16 : Below wd15.heap.size wd15 w16 := by rw [← hw16]; exact below_alloc _ _
      have hS16 : Below wb14.heap.size wb14 w16 := below_next hS15 hb16
      obtain ⟨b24, hk16⟩ : ∃ b, wd15.heap.size = b := ⟨_, rfl⟩
      have BX : Hid (Box w16 b24) := Lib.hid (by have := box_alloc wd15; rw [show boxed _ = w16 from hw16, hk16] at this; exact this)
      have BL : Hid (b24 < w16.heap.size) := Lib.hid (by rw [← hw16, ← hk16]; simp)
      have RB : Hid (wb14.heap.size ≤ b24) := Lib.hid (by rw [← hk16]; exact hS15.size)
      rw [hw16]; try rw [hk16]
      clear hw16 hb16 hk16
      refine ⟨hS16, ?_⟩
      refine wpAnyR_oneG (i := 3) rfl (by kernel_rfl) (by kernel_rfl) rfl ?_
      go_simp
      refine (d_mul (Dpa.out.below hS16) (Dpc.out.below hS16) (Ka.out.sz (by decide)) (Kc.out.sz (by decide)) (Kac.out.sz (by decide)) (by decide) (by decide) (by decide) (by decide)).mono ?_
      rintro e w17 ⟨v17, rfl, hv17, hb17⟩
      obtain ⟨n_ac, a_ac, l_ac, k_ac, E_ac, rfl⟩ := hv17.shape
      have hS17 : Below wb14.heap.size wb14 w17 := below_next hS16 hb17
      have BX := Lib.hid (BX.out.below hb17 BL.out)
      have BL := Lib.hid (Nat.lt_of_lt_of_le BL.out hb17.size)
      have Dac := Lib.hid hv17
      clear hv17 hb17
      refine ⟨hS17, ?_⟩
      refine wpAnyR_oneG (i := 6) rfl (by kernel_rfl) (by kernel_rfl) rfl ?_
      go_simp
      refine (d_mul (Dpb.out.below hS17) (Dpd.out.below hS17) (Kb.out.sz (by decide)) (Kd.out.sz (by decide)) (Kbd.out.sz (by decide)) (by decide) (by decide) (by decide) (by decide)).mono ?_
      rintro e w18 ⟨v18, rfl, hv18, hb18⟩
      obtain ⟨n_bd, a_bd, l_bd, k_bd, E_bd, rfl⟩ := hv18.shape
      have hS18 : Below wb14.heap.size wb14 w18 := below_next hS17 hb18
      have Dac := Lib.hid (Dac.out.below hb18)
      have BX := Lib.hid (BX.out.below hb18 BL.out)
      have BL := Lib.hid (Nat.lt_of_lt_of_le BL.out hb18.size)
      have Dbd := Lib.hid hv18
      clear hv18 hb18
      refine ⟨hS18, ?_⟩
      refine wpAnyR_oneG (i := 7) rfl (by kernel_rfl) (by kernel_rfl) rfl ?_
      go_simp
      refine (d_flip Dbd.out).mono ?_
      rintro e w19 ⟨v19, rfl, hv19, hb19⟩
      obtain ⟨n_nbd, a_nbd, l_nbd, k_nbd, E_nbd, rfl⟩ := hv19.shape
      have hS19 : Below wb14.heap.size wb14 w19 := below_next hS18 hb19
      have Dac := Lib.hid (Dac.out.below hb19)
      have Dbd := Lib.hid (Dbd.out.below hb19)
      have BX := Lib.hid (BX.out.below hb19 BL.out)
      have BL := Lib.hid (Nat.lt_of_lt_of_le BL.out hb19.size)
      have Dnbd := Lib.hid hv19
      clear hv19 hb19
      refine ⟨hS19, ?_⟩
      refine wpAnyR_oneG (i := 8) rfl (by kernel_rfl) (by kernel_rfl) rfl ?_
      go_simp
      refine (d_add Dac.out Dnbd.out (Kac.out.sz2 Kbd.out.neg (by decide)) (by decide) (by decide)).mono ?_
      rintro e w20 ⟨v20, rfl, hv20, hb20⟩
      obtain ⟨n_t1, a_t1, l_t1, k_t1, E_t1, rfl⟩ := hv20.shape
      have hS20 : Below wb14.heap.size wb14 w20 := below_next hS19 hb20
      have Dac := Lib.hid (Dac.out.below hb20)
      have Dbd := Lib.hid (Dbd.out.below hb20)
      have Dnbd := Lib.hid (Dnbd.out.below hb20)
      have BX := Lib.hid (BX.out.below hb20 BL.out)
      have BL := Lib.hid (Nat.lt_of_lt_of_le BL.out hb20.size)
      have Dt1 := Lib.hid hv20
      clear hv20 hb20
      refine ⟨hS20, ?_⟩
      refine wpAnyR_oneG (i := 9) rfl (by kernel_rfl) (by kernel_rfl) rfl ?_
      go_simp
      refine (d_flip Dt1.out).mono ?_
      rintro e w21 ⟨v21, rfl, hv21, hb21⟩
      obtain ⟨n_nt1, a_nt1, l_nt1, k_nt1, E_nt1, rfl⟩ := hv21.shape
      have hS21 : Below wb14.heap.size wb14 w21 := below_next hS20 hb21
      have Dac := Lib.hid (Dac.out.below hb21)
      have Dbd := Lib.hid (Dbd.out.below hb21)
      have Dnbd := Lib.hid (Dnbd.out.below hb21)
      have Dt1 := Lib.hid (Dt1.out.below hb21)
      have BX := Lib.hid (BX.out.below hb21 BL.out)
      have BL := Lib.hid (Nat.lt_of_lt_of_le BL.out hb21.size)
      have Dnt1 := Lib.hid hv21
      clear hv21 hb21
      refine ⟨hS21, ?_⟩
      refine wpAnyR_oneG (i := 10) rfl (by kernel_rfl) (by kernel_rfl) rfl ?_
      go_simp
      refine (d_add ((Dx.out.below hS21).down (e' := -1074 + -1074) (by decide)) Dnt1.out (((bd_ONE Kx.out rfl).mono (by decide)).sz2 Kt1.out.neg (by decide)) (by decide) (by decide)).mono ?_
      rintro e w22 ⟨v22, rfl, hv22, hb22⟩
      obtain ⟨n_u, a_u, l_u, k_u, E_u, rfl⟩ := hv22.shape
      have hS22 : Below wb14.heap.size wb14 w22 := below_next hS21 hb22
      have Dac := Lib.hid (Dac.out.below hb22)
      have Dbd := Lib.hid (Dbd.out.below hb22)
      have Dnbd := Lib.hid (Dnbd.out.below hb22)
      have Dt1 := Lib.hid (Dt1.out.below hb22)
      have Dnt1 := Lib.hid (Dnt1.out.below hb22)
      have BX := Lib.hid (BX.out.below hb22 BL.out)
      have BL := Lib.hid (Nat.lt_of_lt_of_le BL.out hb22.size)
      have Du := Lib.hid hv22
      clear hv22 hb22
      refine ⟨hS22, ?_⟩
      have c0 := BX.out.c0; have c1 := BX.out.c1; have c2 := BX.out.c2; have f0 := BX.out.f0; have f1 := BX.out.f1; have f2 := BX.out.f2
      refine wpAnyR_oneG (i := 12) rfl (by kernel_rfl) (by kernel_rfl) rfl ?_
      go_simp
      refine ⟨Box.keepB hS22 RB.out _ _ _, wpAnyR_done (by kernel_rfl) (cutQ_normal ?_) _⟩
      rw [HR24.out]
      refine ⟨(Dv n_x (.slice a_x l_x k_x) E_x), (Dv n_pa (.slice a_pa l_pa k_pa) E_pa), (Dv n_pc (.slice a_pc l_pc k_pc) E_pc), (Dv n_ac (.slice a_ac l_ac k_ac) E_ac), (Dv n_pb (.slice a_pb l_pb k_pb) E_pb), (Dv n_pd (.slice a_pd l_pd k_pd) E_pd), (Dv n_bd (.slice a_bd l_bd k_bd) E_bd), (Dv n_nbd (.slice a_nbd l_nbd k_nbd) E_nbd), (Dv n_t1 (.slice a_t1 l_t1 k_t1) E_t1), (Dv n_nt1 (.slice a_nt1 l_nt1 k_nt1) E_nt1), (Dv n_u (.slice a_u l_u k_u) E_u), b24, n_u, a_u, l_u, k_u, E_u, ?_, Box.keepB hS22 RB.out _ _ _, box_store BX.out BL.out _ _ _ _ _, BX.out.keepD Du.out _ _ _, RB.out⟩
      kernel_rfl
  · intro a' wr24 hr
    rw [HR24.out] at hr
    obtain ⟨u92, u93, u94, u95, u96, u97, u98, u99, u100, u101, u102, b24, n_u, a_u, l_u, k_u, E_u, rfl, hbr, hvr, hdr, _⟩ := hr
    go_simp
    have Dx := Lib.hid (Dx.out.below hbr)
    have V12 := Lib.hid (V12.out.below hbr)
    have Dy := Lib.hid (Dy.out.below hbr)
    have V14 := Lib.hid (V14.out.below hbr)
    have Dpa := Lib.hid (Dpa.out.below hbr)
    have V16 := Lib.hid (V16.out.below hbr)
    have Dpb := Lib.hid (Dpb.out.below hbr)
    have V18 := Lib.hid (V18.out.below hbr)
    have Dpc := Lib.hid (Dpc.out.below hbr)
    have V20 := Lib.hid (V20.out.below hbr)
    have Dpd := Lib.hid (Dpd.out.below hbr)
    have V22 := Lib.hid (V22.out.below hbr)
    have HB := Lib.hid (below_next HB.out hbr)
    have V24 := Lib.hid hvr
    have Du := Lib.hid hdr
    clear hbr hvr hdr
    go_wp2_with fail
    obtain ⟨R25, hR25⟩ : ∃ R : Act → Act → World → Prop, R = (fun a0 a' w' => ∃ (u103 u104 u105 u106 u107 u108 u109 u110 u111 u112 : Value) (b_ : Nat) (n_ : Bool) (a_ : Option Addr) (l_ k_ : Nat) (E_ : Int), a' = (((((((((((a0.put (some 25) (.pointer (some ⟨b_, 0, none⟩))).put (some 103) u103).put (some 104) u104).put (some 105) u105).put (some 106) u106).put (some 107) u107).put (some 108) u108).put (some 109) u109).put (some 110) u110).put (some 111) u111).put (some 112) u112) ∧ Below wr24.heap.size wr24 w' ∧ Var w' b_ n_ a_ l_ k_ E_ ∧ IsD w' (Dv n_ (.slice a_ l_ k_) E_) (Fl.VV y * (Fl.ONE : Int) + -(Fl.VV a * Fl.VV d + Fl.VV b * Fl.VV c)) (-1074 + -1074) ∧ wr24.heap.size ≤ b_) := ⟨_, rfl⟩
    have HR25 := Lib.hid hR25
    clear hR25
    refine wp_region_cut (S := Below wr24.heap.size wr24) R25 (by kernel_rfl) ?_ ?_
    · have hS15 : Below wr24.heap.size wr24 wr24.drew := (Below.refl _ wr24).drew
      obtain ⟨wd15, hwd⟩ : ∃ w', wr24.drew = w' := ⟨_, rfl⟩
      rw [hwd] at hS15 ⊢
      clear hwd
      refine wpAnyR_take (i := 0) rfl (by kernel_rfl) (by kernel_rfl) (by kernel_rfl) (fun _ _ _ h => h) hS15 (.inl ⟨by kernel_rfl, fun w' hS => (by have y140 := cell_at hS V14.out.lt V14.out.c0; have y141 := cell_at hS V14.out.lt V14.out.c1; have y142 := cell_at hS V14.out.lt V14.out.c2; go_simp; exact ⟨rfl, rfl⟩)⟩) rfl (by go_simp; rfl) ?_
      refine wpAnyR_take (i := 1) rfl (by kernel_rfl) (by kernel_rfl) (by kernel_rfl) (fun _ _ _ h => h) hS15 (.inl ⟨by kernel_rfl, fun w' hS => (by have y160 := cell_at hS V16.out.lt V16.out.c0; have y161 := cell_at hS V16.out.lt V16.out.c1; have y162 := cell_at hS V16.out.lt V16.out.c2; go_simp; exact ⟨rfl, rfl⟩)⟩) rfl (by go_simp; rfl) ?_
      refine wpAnyR_take (i := 2) rfl (by kernel_rfl) (by kernel_rfl) (by kernel_rfl) (fun _ _ _ h => h) hS15 (.inl ⟨by kernel_rfl, fun w' hS => (by have y220 := cell_at hS V22.out.lt V22.out.c0; have y221 := cell_at hS V22.out.lt V22.out.c1; have y222 := cell_at hS V22.out.lt V22.out.c2; go_simp; exact ⟨rfl, rfl⟩)⟩) rfl (by go_simp; rfl) ?_
      refine wpAnyR_take (i := 4) rfl (by kernel_rfl) (by kernel_rfl) (by kernel_rfl) (fun _ _ _ h => h) hS15 (.inl ⟨by kernel_rfl, fun w' hS => (by have y180 := cell_at hS V18.out.lt V18.out.c0; have y181 := cell_at hS V18.out.lt V18.out.c1; have y182 := cell_at hS V18.out.lt V18.out.c2; go_simp; exact ⟨rfl, rfl⟩)⟩) rfl (by go_simp; rfl) ?_
      refine wpAnyR_take (i := 5) rfl (by kernel_rfl) (by kernel_rfl) (by kernel_rfl) (fun _ _ _ h => h) hS15 (.inl ⟨by kernel_rfl, fun w' hS => (by have y200 := cell_at hS V20.out.lt V20.out.c0; have y201 := cell_at hS V20.out.lt V20.out.c1; have y202 := cell_at hS V20.out.lt V20.out.c2; go_simp; exact ⟨rfl, rfl⟩)⟩) rfl (by go_simp; rfl) ?_
      refine wpAnyR_two (i := 3) (j := 10) rfl rfl (by kernel_rfl) (by kernel_rfl) (by kernel_rfl) ?_ ?_
      · go_simp
        refine (d_mul (Dpa.out.below hS15) (Dpd.out.below hS15) (Ka.out.sz (by decide)) (Kd.out.sz (by decide)) (Kad.out.sz (by decide)) (by decide) (by decide) (by decide) (by decide)).mono ?_
        rintro e w16 ⟨v16, rfl, hv16, hb16⟩
        obtain ⟨n_ad, a_ad, l_ad, k_ad, E_ad, rfl⟩ := hv16.shape
        have hS16 : Below wr24.heap.size wr24 w16 := below_next hS15 hb16
        have Dad := Lib.hid hv16
        clear hv16 hb16
        refine ⟨hS16, ?_⟩
        refine wpAnyR_two (i := 6) (j := 10) rfl rfl (by kernel_rfl) (by kernel_rfl) (by kernel_rfl) ?_ ?_
        · go_simp
          refine (d_mul (Dpb.out.below hS16) (Dpc.out.below hS16) (Kb.out.sz (by decide)) (Kc.out.sz (by decide)) (Kbc.out.sz (by decide)) (by decide) (by decide) (by decide) (by decide)).mono ?_
          rintro e w17 ⟨v17, rfl, hv17, hb17⟩
          obtain ⟨n_bc, a_bc, l_bc, k_bc, E_bc, rfl⟩ := hv17.shape
          have hS17 : Below wr24.heap.size wr24 w17 := below_next hS16 hb17
          have Dad := Lib.hid (Dad.out.below hb17)
          have Dbc := Lib.hid hv17
          clear hv17 hb17
          refine ⟨hS17, ?_⟩
          refine wpAnyR_two (i := 7) (j := 10) rfl rfl (by kernel_rfl) (by kernel_rfl) (by kernel_rfl) ?_ ?_
          · go_simp
            refine (d_add Dad.out Dbc.out (Kad.out.sz2 Kbc.out (by decide)) (by decide) (by decide)).mono ?_
            rintro e w18 ⟨v18, rfl, hv18, hb18⟩
            obtain ⟨n_t2, a_t2, l_t2, k_t2, E_t2, rfl⟩ := hv18.shape
            have hS18 : Below wr24.heap.size wr24 w18 := below_next hS17 hb18
            have Dad := Lib.hid (Dad.out.below hb18)
            have Dbc := Lib.hid (Dbc.out.below hb18)
            have Dt2 := Lib.hid hv18
            clear hv18 hb18
            refine ⟨hS18, ?_⟩
            refine wpAnyR_two (i := 8) (j := 10) rfl rfl (by kernel_rfl) (by kernel_rfl) (by kernel_rfl) ?_ ?_
            · go_simp
              refine (d_flip Dt2.out).mono ?_
              rintro e w19 ⟨v19, rfl, hv19, hb19⟩
              obtain ⟨n_nt2, a_nt2, l_nt2, k_nt2, E_nt2, rfl⟩ := hv19.shape
              have hS19 : Below wr24.heap.size wr24 w19 := below_next hS18 hb19
              have Dad := Lib.hid (Dad.out.below hb19)
              have Dbc := Lib.hid (Dbc.out.below hb19)
              have Dt2 := Lib.hid (Dt2.out.below hb19)
              have Dnt2 := Lib.hid hv19
              clear hv19 hb19
              refine ⟨hS19, ?_⟩
              refine wpAnyR_two (i := 9) (j := 10) rfl rfl (by kernel_rfl) (by kernel_rfl) (by kernel_rfl) ?_ ?_
              · go_simp
                refine (d_add ((Dy.out.below hS19).down (e' := -1074 + -1074) (by decide)) Dnt2.out (((bd_ONE Ky.out rfl).mono (by decide)).sz2 Kt2.out.neg (by decide)) (by decide) (by decide)).mono ?_
                rintro e w20 ⟨v20, rfl, hv20, hb20⟩
                obtain ⟨n_vq, a_vq, l_vq, k_vq, E_vq, rfl⟩ := hv20.shape
                have hS20 : Below wr24.heap.size wr24 w20 := below_next hS19 hb20
                have Dad := Lib.hid (Dad.out.below hb20)
                have Dbc := Lib.hid (Dbc.out.below hb20)
                have Dt2 := Lib.hid (Dt2.out.below hb20)
                have Dnt2 := Lib.hid (Dnt2.out.below hb20)
                have Dvq := Lib.hid hv20
                clear hv20 hb20
                refine ⟨hS20, ?_⟩
                refine wpAnyR_oneG (i := 10) rfl (by kernel_rfl) (by kernel_rfl) rfl ?_
                go_simp
                obtain ⟨w21, hw21⟩ : ∃ w', w20.alloc (Obj.cells #[Value.bool false, Value.slice none 0 0, Value.int IntKind.i64 0] 35) = w' := ⟨_, rfl⟩
                have hb21 : Below w20.heap.size w20 w21 := by rw [← hw21]; exact below_alloc _ _
                have hS21 : Below wr24.heap.size wr24 w21 := below_next hS20 hb21
                obtain ⟨b25, hk21⟩ : ∃ b, w20.heap.size = b := ⟨_, rfl⟩
                have BX : Hid (Box w21 b25) := Lib.hid (by have := box_alloc w20; rw [show boxed _ = w21 from hw21, hk21] at this; exact this)
                have BL : Hid (b25 < w21.heap.size) := Lib.hid (by rw [← hw21, ← hk21]; simp)
                have RB : Hid (wr24.heap.size ≤ b25) := Lib.hid (by rw [← hk21]; exact hS20.size)
                have Dad := Lib.hid (Dad.out.below hb21)
                have Dbc := Lib.hid (Dbc.out.below hb21)
                have Dt2 := Lib.hid (Dt2.out.below hb21)
                have Dnt2 := Lib.hid (Dnt2.out.below hb21)
                have Dvq := Lib.hid (Dvq.out.below hb21)
                rw [hw21]; try rw [hk21]
                clear hw21 hb21 hk21
                refine ⟨hS21, ?_⟩
                have c0 := BX.out.c0; have c1 := BX.out.c1; have c2 := BX.out.c2; have f0 := BX.out.f0; have f1 := BX.out.f1; have f2 := BX.out.f2
                refine wpAnyR_oneG (i := 11) rfl (by kernel_rfl) (by kernel_rfl) rfl ?_
                go_simp
                refine ⟨Box.keepB hS21 RB.out _ _ _, wpAnyR_done (by kernel_rfl) (cutQ_normal ?_) _⟩
                rw [HR25.out]
                refine ⟨(Dv n_y (.slice a_y l_y k_y) E_y), (Dv n_pa (.slice a_pa l_pa k_pa) E_pa), (Dv n_pd (.slice a_pd l_pd k_pd) E_pd), (Dv n_ad (.slice a_ad l_ad k_ad) E_ad), (Dv n_pb (.slice a_pb l_pb k_pb) E_pb), (Dv n_pc (.slice a_pc l_pc k_pc) E_pc), (Dv n_bc (.slice a_bc l_bc k_bc) E_bc), (Dv n_t2 (.slice a_t2 l_t2 k_t2) E_t2), (Dv n_nt2 (.slice a_nt2 l_nt2 k_nt2) E_nt2), (Dv n_vq (.slice a_vq l_vq k_vq) E_vq), b25, n_vq, a_vq, l_vq, k_vq, E_vq, ?_, Box.keepB hS21 RB.out _ _ _, box_store BX.out BL.out _ _ _ _ _, BX.out.keepD Dvq.out _ _ _, RB.out⟩
                kernel_rfl
              · go_simp
                obtain ⟨w20, hw20⟩ : ∃ w', w19.alloc (Obj.cells #[Value.bool false, Value.slice none 0 0, Value.int IntKind.i64 0] 35) = w' := ⟨_, rfl⟩
                have hb20 : Below w19.heap.size w19 w20 := by rw [← hw20]; exact below_alloc _ _
                have hS20 : Below wr24.heap.size wr24 w20 := below_next hS19 hb20
                obtain ⟨b25, hk20⟩ : ∃ b, w19.heap.size = b := ⟨_, rfl⟩
                have BX : Hid (Box w20 b25) := Lib.hid (by have := box_alloc w19; rw [show boxed _ = w20 from hw20, hk20] at this; exact this)
                have BL : Hid (b25 < w20.heap.size) := Lib.hid (by rw [← hw20, ← hk20]; simp)
                have RB : Hid (wr24.heap.size ≤ b25) := Lib.hid (by rw [← hk20]; exact hS19.size)
                have Dad := Lib.hid (Dad.out.below hb20)
                have Dbc := Lib.hid (Dbc.out.below hb20)
                have Dt2 := Lib.hid (Dt2.out.below hb20)
                have Dnt2 := Lib.hid (Dnt2.out.below hb20)
                rw [hw20]; try rw [hk20]
                clear hw20 hb20 hk20
                refine ⟨hS20, ?_⟩
                refine wpAnyR_oneG (i := 9) rfl (by kernel_rfl) (by kernel_rfl) rfl ?_
                go_simp
                refine (d_add ((Dy.out.below hS20).down (e' := -1074 + -1074) (by decide)) Dnt2.out (((bd_ONE Ky.out rfl).mono (by decide)).sz2 Kt2.out.neg (by decide)) (by decide) (by decide)).mono ?_
                rintro e w21 ⟨v21, rfl, hv21, hb21⟩
                obtain ⟨n_vq, a_vq, l_vq, k_vq, E_vq, rfl⟩ := hv21.shape
                have hS21 : Below wr24.heap.size wr24 w21 := below_next hS20 hb21
                have Dad := Lib.hid (Dad.out.below hb21)
                have Dbc := Lib.hid (Dbc.out.below hb21)
                have Dt2 := Lib.hid (Dt2.out.below hb21)
                have Dnt2 := Lib.hid (Dnt2.out.below hb21)
                have BX := Lib.hid (BX.out.below hb21 BL.out)
                have BL := Lib.hid (Nat.lt_of_lt_of_le BL.out hb21.size)
                have Dvq := Lib.hid hv21
                clear hv21 hb21
                refine ⟨hS21, ?_⟩
                have c0 := BX.out.c0; have c1 := BX.out.c1; have c2 := BX.out.c2; have f0 := BX.out.f0; have f1 := BX.out.f1; have f2 := BX.out.f2
                refine wpAnyR_oneG (i := 11) rfl (by kernel_rfl) (by kernel_rfl) rfl ?_
                go_simp
                refine ⟨Box.keepB hS21 RB.out _ _ _, wpAnyR_done (by kernel_rfl) (cutQ_normal ?_) _⟩
                rw [HR25.out]
                refine ⟨(Dv n_y (.slice a_y l_y k_y) E_y), (Dv n_pa (.slice a_pa l_pa k_pa) E_pa), (Dv n_pd (.slice a_pd l_pd k_pd) E_pd), (Dv n_ad (.slice a_ad l_ad k_ad) E_ad), (Dv n_pb (.slice a_pb l_pb k_pb) E_pb), (Dv n_pc (.slice a_pc l_pc k_pc) E_pc), (Dv n_bc (.slice a_bc l_bc k_bc) E_bc), (Dv n_t2 (.slice a_t2 l_t2 k_t2) E_t2), (Dv n_nt2 (.slice a_nt2 l_nt2 k_nt2) E_nt2), (Dv n_vq (.slice a_vq l_vq k_vq) E_vq), b25, n_vq, a_vq, l_vq, k_vq, E_vq, ?_, Box.keepB hS21 RB.out _ _ _, box_store BX.out BL.out _ _ _ _ _, BX.out.keepD Dvq.out _ _ _, RB.out⟩
                kernel_rfl
            · go_simp
              obtain ⟨w19, hw19⟩ : ∃ w', w18.alloc (Obj.cells #[Value.bool false, Value.slice none 0 0, Value.int IntKind.i64 0] 35) = w' := ⟨_, rfl⟩
              have hb19 : Below w18.heap.size w18 w19 := by rw [← hw19]; exact below_alloc _ _
              have hS19 : Below wr24.heap.size wr24 w19 := below_next hS18 hb19
              obtain ⟨b25, hk19⟩ : ∃ b, w18.heap.size = b := ⟨_, rfl⟩
              have BX : Hid (Box w19 b25) := Lib.hid (by have := box_alloc w18; rw [show boxed _ = w19 from hw19, hk19] at this; exact this)
              have BL : Hid (b25 < w19.heap.size) := Lib.hid (by rw [← hw19, ← hk19]; simp)
              have RB : Hid (wr24.heap.size ≤ b25) := Lib.hid (by rw [← hk19]; exact hS18.size)
              have Dad := Lib.hid (Dad.out.below hb19)
              have Dbc := Lib.hid (Dbc.out.below hb19)
              have Dt2 := Lib.hid (Dt2.out.below hb19)
              rw [hw19]; try rw [hk19]
              clear hw19 hb19 hk19
              refine ⟨hS19, ?_⟩
              refine wpAnyR_oneG (i := 8) rfl (by kernel_rfl) (by kernel_rfl) rfl ?_
              go_simp
              refine (d_flip Dt2.out).mono ?_
              rintro e w20 ⟨v20, rfl, hv20, hb20⟩
              obtain ⟨n_nt2, a_nt2, l_nt2, k_nt2, E_nt2, rfl⟩ := hv20.shape
              have hS20 : Below wr24.heap.size wr24 w20 := below_next hS19 hb20
              have Dad := Lib.hid (Dad.out.below hb20)
              have Dbc := Lib.hid (Dbc.out.below hb20)
              have Dt2 := Lib.hid (Dt2.out.below hb20)
              have BX := Lib.hid (BX.out.below hb20 BL.out)
              have BL := Lib.hid (Nat.lt_of_lt_of_le BL.out hb20.size)
              have Dnt2 := Lib.hid hv20
              clear hv20 hb20
              refine ⟨hS20, ?_⟩
              refine wpAnyR_oneG (i := 9) rfl (by kernel_rfl) (by kernel_rfl) rfl ?_
              go_simp
              refine (d_add ((Dy.out.below hS20).down (e' := -1074 + -1074) (by decide)) Dnt2.out (((bd_ONE Ky.out rfl).mono (by decide)).sz2 Kt2.out.neg (by decide)) (by decide) (by decide)).mono ?_
              rintro e w21 ⟨v21, rfl, hv21, hb21⟩
              obtain ⟨n_vq, a_vq, l_vq, k_vq, E_vq, rfl⟩ := hv21.shape
              have hS21 : Below wr24.heap.size wr24 w21 := below_next hS20 hb21
              have Dad := Lib.hid (Dad.out.below hb21)
              have Dbc := Lib.hid (Dbc.out.below hb21)
              have Dt2 := Lib.hid (Dt2.out.below hb21)
              have Dnt2 := Lib.hid (Dnt2.out.below hb21)
              have BX := Lib.hid (BX.out.below hb21 BL.out)
              have BL := Lib.hid (Nat.lt_of_lt_of_le BL.out hb21.size)
              have Dvq := Lib.hid hv21
              clear hv21 hb21
              refine ⟨hS21, ?_⟩
              have c0 := BX.out.c0; have c1 := BX.out.c1; have c2 := BX.out.c2; have f0 := BX.out.f0; have f1 := BX.out.f1; have f2 := BX.out.f2
              refine wpAnyR_oneG (i := 11) rfl (by kernel_rfl) (by kernel_rfl) rfl ?_
              go_simp
              refine ⟨Box.keepB hS21 RB.out _ _ _, wpAnyR_done (by kernel_rfl) (cutQ_normal ?_) _⟩
              rw [HR25.out]
              refine ⟨(Dv n_y (.slice a_y l_y k_y) E_y), (Dv n_pa (.slice a_pa l_pa k_pa) E_pa), (Dv n_pd (.slice a_pd l_pd k_pd) E_pd), (Dv n_ad (.slice a_ad l_ad k_ad) E_ad), (Dv n_pb (.slice a_pb l_pb k_pb) E_pb), (Dv n_pc (.slice a_pc l_pc k_pc) E_pc), (Dv n_bc (.slice a_bc l_bc k_bc) E_bc), (Dv n_t2 (.slice a_t2 l_t2 k_t2) E_t2), (Dv n_nt2 (.slice a_nt2 l_nt2 k_nt2) E_nt2), (Dv n_vq (.slice a_vq l_vq k_vq) E_vq), b25, n_vq, a_vq, l_vq, k_vq, E_vq, ?_, Box.keepB hS21 RB.out _ _ _, box_store BX.out BL.out _ _ _ _ _, BX.out.keepD Dvq.out _ _ _, RB.out⟩
              kernel_rfl
          · go_simp
            obtain ⟨w18, hw18⟩ : ∃ w', w17.alloc (Obj.cells #[Value.bool false, Value.slice none 0 0, Value.int IntKind.i64 0] 35) = w' := ⟨_, rfl⟩
            have hb18 : Below w17.heap.size w17 w18 := by rw [← hw18]; exact below_alloc _ _
            have hS18 : Below wr24.heap.size wr24 w18 := below_next hS17 hb18
            obtain ⟨b25, hk18⟩ : ∃ b, w17.heap.size = b := ⟨_, rfl⟩
            have BX : Hid (Box w18 b25) := Lib.hid (by have := box_alloc w17; rw [show boxed _ = w18 from hw18, hk18] at this; exact this)
            have BL : Hid (b25 < w18.heap.size) := Lib.hid (by rw [← hw18, ← hk18]; simp)
            have RB : Hid (wr24.heap.size ≤ b25) := Lib.hid (by rw [← hk18]; exact hS17.size)
            have Dad := Lib.hid (Dad.out.below hb18)
            have Dbc := Lib.hid (Dbc.out.below hb18)
            rw [hw18]; try rw [hk18]
            clear hw18 hb18 hk18
            refine ⟨hS18, ?_⟩
            refine wpAnyR_oneG (i := 7) rfl (by kernel_rfl) (by kernel_rfl) rfl ?_
            go_simp
            refine (d_add Dad.out Dbc.out (Kad.out.sz2 Kbc.out (by decide)) (by decide) (by decide)).mono ?_
            rintro e w19 ⟨v19, rfl, hv19, hb19⟩
            obtain ⟨n_t2, a_t2, l_t2, k_t2, E_t2, rfl⟩ := hv19.shape
            have hS19 : Below wr24.heap.size wr24 w19 := below_next hS18 hb19
            have Dad := Lib.hid (Dad.out.below hb19)
            have Dbc := Lib.hid (Dbc.out.below hb19)
            have BX := Lib.hid (BX.out.below hb19 BL.out)
            have BL := Lib.hid (Nat.lt_of_lt_of_le BL.out hb19.size)
            have Dt2 := Lib.hid hv19
            clear hv19 hb19
            refine ⟨hS19, ?_⟩
            refine wpAnyR_oneG (i := 8) rfl (by kernel_rfl) (by kernel_rfl) rfl ?_
            go_simp
            refine (d_flip Dt2.out).mono ?_
            rintro e w20 ⟨v20, rfl, hv20, hb20⟩
            obtain ⟨n_nt2, a_nt2, l_nt2, k_nt2, E_nt2, rfl⟩ := hv20.shape
            have hS20 : Below wr24.heap.size wr24 w20 := below_next hS19 hb20
            have Dad := Lib.hid (Dad.out.below hb20)
            have Dbc := Lib.hid (Dbc.out.below hb20)
            have Dt2 := Lib.hid (Dt2.out.below hb20)
            have BX := Lib.hid (BX.out.below hb20 BL.out)
            have BL := Lib.hid (Nat.lt_of_lt_of_le BL.out hb20.size)
            have Dnt2 := Lib.hid hv20
            clear hv20 hb20
            refine ⟨hS20, ?_⟩
            refine wpAnyR_oneG (i := 9) rfl (by kernel_rfl) (by kernel_rfl) rfl ?_
            go_simp
            refine (d_add ((Dy.out.below hS20).down (e' := -1074 + -1074) (by decide)) Dnt2.out (((bd_ONE Ky.out rfl).mono (by decide)).sz2 Kt2.out.neg (by decide)) (by decide) (by decide)).mono ?_
            rintro e w21 ⟨v21, rfl, hv21, hb21⟩
            obtain ⟨n_vq, a_vq, l_vq, k_vq, E_vq, rfl⟩ := hv21.shape
            have hS21 : Below wr24.heap.size wr24 w21 := below_next hS20 hb21
            have Dad := Lib.hid (Dad.out.below hb21)
            have Dbc := Lib.hid (Dbc.out.below hb21)
            have Dt2 := Lib.hid (Dt2.out.below hb21)
            have Dnt2 := Lib.hid (Dnt2.out.below hb21)
            have BX := Lib.hid (BX.out.below hb21 BL.out)
            have BL := Lib.hid (Nat.lt_of_lt_of_le BL.out hb21.size)
            have Dvq := Lib.hid hv21
            clear hv21 hb21
            refine ⟨hS21, ?_⟩
            have c0 := BX.out.c0; have c1 := BX.out.c1; have c2 := BX.out.c2; have f0 := BX.out.f0; have f1 := BX.out.f1; have f2 := BX.out.f2
            refine wpAnyR_oneG (i := 11) rfl (by kernel_rfl) (by kernel_rfl) rfl ?_
            go_simp
            refine ⟨Box.keepB hS21 RB.out _ _ _, wpAnyR_done (by kernel_rfl) (cutQ_normal ?_) _⟩
            rw [HR25.out]
            refine ⟨(Dv n_y (.slice a_y l_y k_y) E_y), (Dv n_pa (.slice a_pa l_pa k_pa) E_pa), (Dv n_pd (.slice a_pd l_pd k_pd) E_pd), (Dv n_ad (.slice a_ad l_ad k_ad) E_ad), (Dv n_pb (.slice a_pb l_pb k_pb) E_pb), (Dv n_pc (.slice a_pc l_pc k_pc) E_pc), (Dv n_bc (.slice a_bc l_bc k_bc) E_bc), (Dv n_t2 (.slice a_t2 l_t2 k_t2) E_t2), (Dv n_nt2 (.slice a_nt2 l_nt2 k_nt2) E_nt2), (Dv n_vq (.slice a_vq l_vq k_vq) E_vq), b25, n_vq, a_vq, l_vq, k_vq, E_vq, ?_, Box.keepB hS21 RB.out _ _ _, box_store BX.out BL.out _ _ _ _ _, BX.out.keepD Dvq.out _ _ _, RB.out⟩
            kernel_rfl
        · go_simp
          obtain ⟨w17, hw17⟩ : ∃ w', w16.alloc (Obj.cells #[Value.bool false, Value.slice none 0 0, Value.int IntKind.i64 0] 35) = w' := ⟨_, rfl⟩
          have hb17 : Below w16.heap.size w16 w17 := by rw [← hw17]; exact below_alloc _ _
          have hS17 : Below wr24.heap.size wr24 w17 := below_next hS16 hb17
          obtain ⟨b25, hk17⟩ : ∃ b, w16.heap.size = b := ⟨_, rfl⟩
          have BX : Hid (Box w17 b25) := Lib.hid (by have := box_alloc w16; rw [show boxed _ = w17 from hw17, hk17] at this; exact this)
          have BL : Hid (b25 < w17.heap.size) := Lib.hid (by rw [← hw17, ← hk17]; simp)
          have RB : Hid (wr24.heap.size ≤ b25) := Lib.hid (by rw [← hk17]; exact hS16.size)
          have Dad := Lib.hid (Dad.out.below hb17)
          rw [hw17]; try rw [hk17]
          clear hw17 hb17 hk17
          refine ⟨hS17, ?_⟩
          refine wpAnyR_oneG (i := 6) rfl (by kernel_rfl) (by kernel_rfl) rfl ?_
          go_simp
          refine (d_mul (Dpb.out.below hS17) (Dpc.out.below hS17) (Kb.out.sz (by decide)) (Kc.out.sz (by decide)) (Kbc.out.sz (by decide)) (by decide) (by decide) (by decide) (by decide)).mono ?_
          rintro e w18 ⟨v18, rfl, hv18, hb18⟩
          obtain ⟨n_bc, a_bc, l_bc, k_bc, E_bc, rfl⟩ := hv18.shape
          have hS18 : Below wr24.heap.size wr24 w18 := below_next hS17 hb18
          have Dad := Lib.hid (Dad.out.below hb18)
          have BX := Lib.hid (BX.out.below hb18 BL.out)
          have BL := Lib.hid (Nat.lt_of_lt_of_le BL.out hb18.size)
          have Dbc := Lib.hid hv18
          clear hv18 hb18
          refine ⟨hS18, ?_⟩
          refine wpAnyR_oneG (i := 7) rfl (by kernel_rfl) (by kernel_rfl) rfl ?_
          go_simp
          refine (d_add Dad.out Dbc.out (Kad.out.sz2 Kbc.out (by decide)) (by decide) (by decide)).mono ?_
          rintro e w19 ⟨v19, rfl, hv19, hb19⟩
          obtain ⟨n_t2, a_t2, l_t2, k_t2, E_t2, rfl⟩ := hv19.shape
          have hS19 : Below wr24.heap.size wr24 w19 := below_next hS18 hb19
          have Dad := Lib.hid (Dad.out.below hb19)
          have Dbc := Lib.hid (Dbc.out.below hb19)
          have BX := Lib.hid (BX.out.below hb19 BL.out)
          have BL := Lib.hid (Nat.lt_of_lt_of_le BL.out hb19.size)
          have Dt2 := Lib.hid hv19
          clear hv19 hb19
          refine ⟨hS19, ?_⟩
          refine wpAnyR_oneG (i := 8) rfl (by kernel_rfl) (by kernel_rfl) rfl ?_
          go_simp
          refine (d_flip Dt2.out).mono ?_
          rintro e w20 ⟨v20, rfl, hv20, hb20⟩
          obtain ⟨n_nt2, a_nt2, l_nt2, k_nt2, E_nt2, rfl⟩ := hv20.shape
          have hS20 : Below wr24.heap.size wr24 w20 := below_next hS19 hb20
          have Dad := Lib.hid (Dad.out.below hb20)
          have Dbc := Lib.hid (Dbc.out.below hb20)
          have Dt2 := Lib.hid (Dt2.out.below hb20)
          have BX := Lib.hid (BX.out.below hb20 BL.out)
          have BL := Lib.hid (Nat.lt_of_lt_of_le BL.out hb20.size)
          have Dnt2 := Lib.hid hv20
          clear hv20 hb20
          refine ⟨hS20, ?_⟩
          refine wpAnyR_oneG (i := 9) rfl (by kernel_rfl) (by kernel_rfl) rfl ?_
          go_simp
          refine (d_add ((Dy.out.below hS20).down (e' := -1074 + -1074) (by decide)) Dnt2.out (((bd_ONE Ky.out rfl).mono (by decide)).sz2 Kt2.out.neg (by decide)) (by decide) (by decide)).mono ?_
          rintro e w21 ⟨v21, rfl, hv21, hb21⟩
          obtain ⟨n_vq, a_vq, l_vq, k_vq, E_vq, rfl⟩ := hv21.shape
          have hS21 : Below wr24.heap.size wr24 w21 := below_next hS20 hb21
          have Dad := Lib.hid (Dad.out.below hb21)
          have Dbc := Lib.hid (Dbc.out.below hb21)
          have Dt2 := Lib.hid (Dt2.out.below hb21)
          have Dnt2 := Lib.hid (Dnt2.out.below hb21)
          have BX := Lib.hid (BX.out.below hb21 BL.out)
          have BL := Lib.hid (Nat.lt_of_lt_of_le BL.out hb21.size)
          have Dvq := Lib.hid hv21
          clear hv21 hb21
          refine ⟨hS21, ?_⟩
          have c0 := BX.out.c0; have c1 := BX.out.c1; have c2 := BX.out.c2; have f0 := BX.out.f0; have f1 := BX.out.f1; have f2 := BX.out.f2
          refine wpAnyR_oneG (i := 11) rfl (by kernel_rfl) (by kernel_rfl) rfl ?_
          go_simp
          refine ⟨Box.keepB hS21 RB.out _ _ _, wpAnyR_done (by kernel_rfl) (cutQ_normal ?_) _⟩
          rw [HR25.out]
          refine ⟨(Dv n_y (.slice a_y l_y k_y) E_y), (Dv n_pa (.slice a_pa l_pa k_pa) E_pa), (Dv n_pd (.slice a_pd l_pd k_pd) E_pd), (Dv n_ad (.slice a_ad l_ad k_ad) E_ad), (Dv n_pb (.slice a_pb l_pb k_pb) E_pb), (Dv n_pc (.slice a_pc l_pc k_pc) E_pc), (Dv n_bc (.slice a_bc l_bc k_bc) E_bc), (Dv n_t2 (.slice a_t2 l_t2 k_t2) E_t2), (Dv n_nt2 (.slice a_nt2 l_nt2 k_nt2) E_nt2), (Dv n_vq (.slice a_vq l_vq k_vq) E_vq), b25, n_vq, a_vq, l_vq, k_vq, E_vq, ?_, Box.keepB hS21 RB.out _ _ _, box_store BX.out BL.out _ _ _ _ _, BX.out.keepD Dvq.out _ _ _, RB.out⟩
          kernel_rfl
      · go_simp
        obtain ⟨w16, hw16⟩ : ∃ w', wd15.alloc (Obj.cells #[Value.bool false, Value.slice none 0 0, Value.int IntKind.i64 0] 35) = w' := ⟨_, rfl⟩
        have hb16 : Below wd15.heap.size wd15 w16 := by rw [← hw16]; exact below_alloc _ _
        have hS16 : Below wr24.heap.size wr24 w16 := below_next hS15 hb16
        obtain ⟨b25, hk16⟩ : ∃ b, wd15.heap.size = b := ⟨_, rfl⟩
        have BX : Hid (Box w16 b25) := Lib.hid (by have := box_alloc wd15; rw [show boxed _ = w16 from hw16, hk16] at this; exact this)
        have BL : Hid (b25 < w16.heap.size) := Lib.hid (by rw [← hw16, ← hk16]; simp)
        have RB : Hid (wr24.heap.size ≤ b25) := Lib.hid (by rw [← hk16]; exact hS15.size)
        rw [hw16]; try rw [hk16]
        clear hw16 hb16 hk16
        refine ⟨hS16, ?_⟩
        refine wpAnyR_oneG (i := 3) rfl (by kernel_rfl) (by kernel_rfl) rfl ?_
        go_simp
        refine (d_mul (Dpa.out.below hS16) (Dpd.out.below hS16) (Ka.out.sz (by decide)) (Kd.out.sz (by decide)) (Kad.out.sz (by decide)) (by decide) (by decide) (by decide) (by decide)).mono ?_
        rintro e w17 ⟨v17, rfl, hv17, hb17⟩
        obtain ⟨n_ad, a_ad, l_ad, k_ad, E_ad, rfl⟩ := hv17.shape
        have hS17 : Below wr24.heap.size wr24 w17 := below_next hS16 hb17
        have BX := Lib.hid (BX.out.below hb17 BL.out)
        have BL := Lib.hid (Nat.lt_of_lt_of_le BL.out hb17.size)
        have Dad := Lib.hid hv17
        clear hv17 hb17
        refine ⟨hS17, ?_⟩
        refine wpAnyR_oneG (i := 6) rfl (by kernel_rfl) (by kernel_rfl) rfl ?_
        go_simp
        refine (d_mul (Dpb.out.below hS17) (Dpc.out.below hS17) (Kb.out.sz (by decide)) (Kc.out.sz (by decide)) (Kbc.out.sz (by decide)) (by decide) (by decide) (by decide) (by decide)).mono ?_
        rintro e w18 ⟨v18, rfl, hv18, hb18⟩
        obtain ⟨n_bc, a_bc, l_bc, k_bc, E_bc, rfl⟩ := hv18.shape
        have hS18 : Below wr24.heap.size wr24 w18 := below_next hS17 hb18
        have Dad := Lib.hid (Dad.out.below hb18)
        have BX := Lib.hid (BX.out.below hb18 BL.out)
        have BL := Lib.hid (Nat.lt_of_lt_of_le BL.out hb18.size)
        have Dbc := Lib.hid hv18
        clear hv18 hb18
        refine ⟨hS18, ?_⟩
        refine wpAnyR_oneG (i := 7) rfl (by kernel_rfl) (by kernel_rfl) rfl ?_
        go_simp
        refine (d_add Dad.out Dbc.out (Kad.out.sz2 Kbc.out (by decide)) (by decide) (by decide)).mono ?_
        rintro e w19 ⟨v19, rfl, hv19, hb19⟩
        obtain ⟨n_t2, a_t2, l_t2, k_t2, E_t2, rfl⟩ := hv19.shape
        have hS19 : Below wr24.heap.size wr24 w19 := below_next hS18 hb19
        have Dad := Lib.hid (Dad.out.below hb19)
        have Dbc := Lib.hid (Dbc.out.below hb19)
        have BX := Lib.hid (BX.out.below hb19 BL.out)
        have BL := Lib.hid (Nat.lt_of_lt_of_le BL.out hb19.size)
        have Dt2 := Lib.hid hv19
        clear hv19 hb19
        refine ⟨hS19, ?_⟩
        refine wpAnyR_oneG (i := 8) rfl (by kernel_rfl) (by kernel_rfl) rfl ?_
        go_simp
        refine (d_flip Dt2.out).mono ?_
        rintro e w20 ⟨v20, rfl, hv20, hb20⟩
        obtain ⟨n_nt2, a_nt2, l_nt2, k_nt2, E_nt2, rfl⟩ := hv20.shape
        have hS20 : Below wr24.heap.size wr24 w20 := below_next hS19 hb20
        have Dad := Lib.hid (Dad.out.below hb20)
        have Dbc := Lib.hid (Dbc.out.below hb20)
        have Dt2 := Lib.hid (Dt2.out.below hb20)
        have BX := Lib.hid (BX.out.below hb20 BL.out)
        have BL := Lib.hid (Nat.lt_of_lt_of_le BL.out hb20.size)
        have Dnt2 := Lib.hid hv20
        clear hv20 hb20
        refine ⟨hS20, ?_⟩
        refine wpAnyR_oneG (i := 9) rfl (by kernel_rfl) (by kernel_rfl) rfl ?_
        go_simp
        refine (d_add ((Dy.out.below hS20).down (e' := -1074 + -1074) (by decide)) Dnt2.out (((bd_ONE Ky.out rfl).mono (by decide)).sz2 Kt2.out.neg (by decide)) (by decide) (by decide)).mono ?_
        rintro e w21 ⟨v21, rfl, hv21, hb21⟩
        obtain ⟨n_vq, a_vq, l_vq, k_vq, E_vq, rfl⟩ := hv21.shape
        have hS21 : Below wr24.heap.size wr24 w21 := below_next hS20 hb21
        have Dad := Lib.hid (Dad.out.below hb21)
        have Dbc := Lib.hid (Dbc.out.below hb21)
        have Dt2 := Lib.hid (Dt2.out.below hb21)
        have Dnt2 := Lib.hid (Dnt2.out.below hb21)
        have BX := Lib.hid (BX.out.below hb21 BL.out)
        have BL := Lib.hid (Nat.lt_of_lt_of_le BL.out hb21.size)
        have Dvq := Lib.hid hv21
        clear hv21 hb21
        refine ⟨hS21, ?_⟩
        have c0 := BX.out.c0; have c1 := BX.out.c1; have c2 := BX.out.c2; have f0 := BX.out.f0; have f1 := BX.out.f1; have f2 := BX.out.f2
        refine wpAnyR_oneG (i := 11) rfl (by kernel_rfl) (by kernel_rfl) rfl ?_
        go_simp
        refine ⟨Box.keepB hS21 RB.out _ _ _, wpAnyR_done (by kernel_rfl) (cutQ_normal ?_) _⟩
        rw [HR25.out]
        refine ⟨(Dv n_y (.slice a_y l_y k_y) E_y), (Dv n_pa (.slice a_pa l_pa k_pa) E_pa), (Dv n_pd (.slice a_pd l_pd k_pd) E_pd), (Dv n_ad (.slice a_ad l_ad k_ad) E_ad), (Dv n_pb (.slice a_pb l_pb k_pb) E_pb), (Dv n_pc (.slice a_pc l_pc k_pc) E_pc), (Dv n_bc (.slice a_bc l_bc k_bc) E_bc), (Dv n_t2 (.slice a_t2 l_t2 k_t2) E_t2), (Dv n_nt2 (.slice a_nt2 l_nt2 k_nt2) E_nt2), (Dv n_vq (.slice a_vq l_vq k_vq) E_vq), b25, n_vq, a_vq, l_vq, k_vq, E_vq, ?_, Box.keepB hS21 RB.out _ _ _, box_store BX.out BL.out _ _ _ _ _, BX.out.keepD Dvq.out _ _ _, RB.out⟩
        kernel_rfl
    · intro a' wr25 hr
      rw [HR25.out] at hr
      obtain ⟨u103, u104, u105, u106, u107, u108, u109, u110, u111, u112, b25, n_vq, a_vq, l_vq, k_vq, E_vq, rfl, hbr, hvr, hdr, _⟩ := hr
      go_simp
      have Dx := Lib.hid (Dx.out.below hbr)
      have V12 := Lib.hid (V12.out.below hbr)
      have Dy := Lib.hid (Dy.out.below hbr)
      have V14 := Lib.hid (V14.out.below hbr)
      have Dpa := Lib.hid (Dpa.out.below hbr)
      have V16 := Lib.hid (V16.out.below hbr)
      have Dpb := Lib.hid (Dpb.out.below hbr)
      have V18 := Lib.hid (V18.out.below hbr)
      have Dpc := Lib.hid (Dpc.out.below hbr)
      have V20 := Lib.hid (V20.out.below hbr)
      have Dpd := Lib.hid (Dpd.out.below hbr)
      have V22 := Lib.hid (V22.out.below hbr)
      have V24 := Lib.hid (V24.out.below hbr)
      have Du := Lib.hid (Du.out.below hbr)
      have HB := Lib.hid (below_next HB.out hbr)
      have V25 := Lib.hid hvr
      have Dvq := Lib.hid hdr
      clear hbr hvr hdr
      go_wp2_with fail
      obtain ⟨R26, hR26⟩ : ∃ R : Act → Act → World → Prop, R = (fun a0 a' w' => ∃ (u113 u114 u115 u116 u117 u118 u119 : Value) (b_ : Nat) (n_ : Bool) (a_ : Option Addr) (l_ k_ : Nat) (E_ : Int), a' = ((((((((a0.put (some 26) (.pointer (some ⟨b_, 0, none⟩))).put (some 113) u113).put (some 114) u114).put (some 115) u115).put (some 116) u116).put (some 117) u117).put (some 118) u118).put (some 119) u119) ∧ Below wr25.heap.size wr25 w' ∧ Var w' b_ n_ a_ l_ k_ E_ ∧ IsD w' (Dv n_ (.slice a_ l_ k_) E_) ((Fl.VV x * (Fl.ONE : Int) + -(Fl.VV a * Fl.VV c + -(Fl.VV b * Fl.VV d))) * (Fl.VV x * (Fl.ONE : Int) + -(Fl.VV a * Fl.VV c + -(Fl.VV b * Fl.VV d))) + (Fl.VV y * (Fl.ONE : Int) + -(Fl.VV a * Fl.VV d + Fl.VV b * Fl.VV c)) * (Fl.VV y * (Fl.ONE : Int) + -(Fl.VV a * Fl.VV d + Fl.VV b * Fl.VV c))) (-1074 + -1074 + (-1074 + -1074)) ∧ wr25.heap.size ≤ b_) := ⟨_, rfl⟩
      have HR26 := Lib.hid hR26
      clear hR26
      refine wp_region_cut (S := Below wr25.heap.size wr25) R26 (by kernel_rfl) ?_ ?_
      · have hS15 : Below wr25.heap.size wr25 wr25.drew := (Below.refl _ wr25).drew
        obtain ⟨wd15, hwd⟩ : ∃ w', wr25.drew = w' := ⟨_, rfl⟩
        rw [hwd] at hS15 ⊢
        clear hwd
        refine wpAnyR_take (i := 0) rfl (by kernel_rfl) (by kernel_rfl) (by kernel_rfl) (fun _ _ _ h => h) hS15 (.inl ⟨by kernel_rfl, fun w' hS => (by have y240 := cell_at hS V24.out.lt V24.out.c0; have y241 := cell_at hS V24.out.lt V24.out.c1; have y242 := cell_at hS V24.out.lt V24.out.c2; go_simp; exact ⟨rfl, rfl⟩)⟩) rfl (by go_simp; rfl) ?_
        refine wpAnyR_take (i := 1) rfl (by kernel_rfl) (by kernel_rfl) (by kernel_rfl) (fun _ _ _ h => h) hS15 (.inl ⟨by kernel_rfl, fun w' hS => (by have y240 := cell_at hS V24.out.lt V24.out.c0; have y241 := cell_at hS V24.out.lt V24.out.c1; have y242 := cell_at hS V24.out.lt V24.out.c2; go_simp; exact ⟨rfl, rfl⟩)⟩) rfl (by go_simp; rfl) ?_
        refine wpAnyR_take (i := 3) rfl (by kernel_rfl) (by kernel_rfl) (by kernel_rfl) (fun _ _ _ h => h) hS15 (.inl ⟨by kernel_rfl, fun w' hS => (by have y250 := cell_at hS V25.out.lt V25.out.c0; have y251 := cell_at hS V25.out.lt V25.out.c1; have y252 := cell_at hS V25.out.lt V25.out.c2; go_simp; exact ⟨rfl, rfl⟩)⟩) rfl (by go_simp; rfl) ?_
        refine wpAnyR_take (i := 4) rfl (by kernel_rfl) (by kernel_rfl) (by kernel_rfl) (fun _ _ _ h => h) hS15 (.inl ⟨by kernel_rfl, fun w' hS => (by have y250 := cell_at hS V25.out.lt V25.out.c0; have y251 := cell_at hS V25.out.lt V25.out.c1; have y252 := cell_at hS V25.out.lt V25.out.c2; go_simp; exact ⟨rfl, rfl⟩)⟩) rfl (by go_simp; rfl) ?_
        refine wpAnyR_two (i := 2) (j := 7) rfl rfl (by kernel_rfl) (by kernel_rfl) (by kernel_rfl) ?_ ?_
        · go_simp
          refine (d_mul (Du.out.below hS15) (Du.out.below hS15) (Ku.out.sz (by decide)) (Ku.out.sz (by decide)) (Kuu.out.sz (by decide)) (by decide) (by decide) (by decide) (by decide)).mono ?_
          rintro e w16 ⟨v16, rfl, hv16, hb16⟩
          obtain ⟨n_uu, a_uu, l_uu, k_uu, E_uu, rfl⟩ := hv16.shape
          have hS16 : Below wr25.heap.size wr25 w16 := below_next hS15 hb16
          have Duu := Lib.hid hv16
          clear hv16 hb16
          refine ⟨hS16, ?_⟩
          refine wpAnyR_two (i := 5) (j := 7) rfl rfl (by kernel_rfl) (by kernel_rfl) (by kernel_rfl) ?_ ?_
          · go_simp
            refine (d_mul (Dvq.out.below hS16) (Dvq.out.below hS16) (Kv.out.sz (by decide)) (Kv.out.sz (by decide)) (Kvv.out.sz (by decide)) (by decide) (by decide) (by decide) (by decide)).mono ?_
            rintro e w17 ⟨v17, rfl, hv17, hb17⟩
            obtain ⟨n_vv, a_vv, l_vv, k_vv, E_vv, rfl⟩ := hv17.shape
            have hS17 : Below wr25.heap.size wr25 w17 := below_next hS16 hb17
            have Duu := Lib.hid (Duu.out.below hb17)
            have Dvv := Lib.hid hv17
            clear hv17 hb17
            refine ⟨hS17, ?_⟩
            refine wpAnyR_two (i := 6) (j := 7) rfl rfl (by kernel_rfl) (by kernel_rfl) (by kernel_rfl) ?_ ?_
            · go_simp
              refine (d_add Duu.out Dvv.out (Kuu.out.sz2 Kvv.out (by decide)) (by decide) (by decide)).mono ?_
              rintro e w18 ⟨v18, rfl, hv18, hb18⟩
              obtain ⟨n_off, a_off, l_off, k_off, E_off, rfl⟩ := hv18.shape
              have hS18 : Below wr25.heap.size wr25 w18 := below_next hS17 hb18
              have Duu := Lib.hid (Duu.out.below hb18)
              have Dvv := Lib.hid (Dvv.out.below hb18)
              have Doff := Lib.hid hv18
              clear hv18 hb18
              refine ⟨hS18, ?_⟩
              refine wpAnyR_oneG (i := 7) rfl (by kernel_rfl) (by kernel_rfl) rfl ?_
              go_simp
              obtain ⟨w19, hw19⟩ : ∃ w', w18.alloc (Obj.cells #[Value.bool false, Value.slice none 0 0, Value.int IntKind.i64 0] 35) = w' := ⟨_, rfl⟩
              have hb19 : Below w18.heap.size w18 w19 := by rw [← hw19]; exact below_alloc _ _
              have hS19 : Below wr25.heap.size wr25 w19 := below_next hS18 hb19
              obtain ⟨b26, hk19⟩ : ∃ b, w18.heap.size = b := ⟨_, rfl⟩
              have BX : Hid (Box w19 b26) := Lib.hid (by have := box_alloc w18; rw [show boxed _ = w19 from hw19, hk19] at this; exact this)
              have BL : Hid (b26 < w19.heap.size) := Lib.hid (by rw [← hw19, ← hk19]; simp)
              have RB : Hid (wr25.heap.size ≤ b26) := Lib.hid (by rw [← hk19]; exact hS18.size)
              have Duu := Lib.hid (Duu.out.below hb19)
              have Dvv := Lib.hid (Dvv.out.below hb19)
              have Doff := Lib.hid (Doff.out.below hb19)
              rw [hw19]; try rw [hk19]
              clear hw19 hb19 hk19
              refine ⟨hS19, ?_⟩
              have c0 := BX.out.c0; have c1 := BX.out.c1; have c2 := BX.out.c2; have f0 := BX.out.f0; have f1 := BX.out.f1; have f2 := BX.out.f2
              refine wpAnyR_oneG (i := 8) rfl (by kernel_rfl) (by kernel_rfl) rfl ?_
              go_simp
              refine ⟨Box.keepB hS19 RB.out _ _ _, wpAnyR_done (by kernel_rfl) (cutQ_normal ?_) _⟩
              rw [HR26.out]
              refine ⟨(Dv n_u (.slice a_u l_u k_u) E_u), (Dv n_u (.slice a_u l_u k_u) E_u), (Dv n_uu (.slice a_uu l_uu k_uu) E_uu), (Dv n_vq (.slice a_vq l_vq k_vq) E_vq), (Dv n_vq (.slice a_vq l_vq k_vq) E_vq), (Dv n_vv (.slice a_vv l_vv k_vv) E_vv), (Dv n_off (.slice a_off l_off k_off) E_off), b26, n_off, a_off, l_off, k_off, E_off, ?_, Box.keepB hS19 RB.out _ _ _, box_store BX.out BL.out _ _ _ _ _, BX.out.keepD Doff.out _ _ _, RB.out⟩
              kernel_rfl
            · go_simp
              obtain ⟨w18, hw18⟩ : ∃ w', w17.alloc (Obj.cells #[Value.bool false, Value.slice none 0 0, Value.int IntKind.i64 0] 35) = w' := ⟨_, rfl⟩
              have hb18 : Below w17.heap.size w17 w18 := by rw [← hw18]; exact below_alloc _ _
              have hS18 : Below wr25.heap.size wr25 w18 := below_next hS17 hb18
              obtain ⟨b26, hk18⟩ : ∃ b, w17.heap.size = b := ⟨_, rfl⟩
              have BX : Hid (Box w18 b26) := Lib.hid (by have := box_alloc w17; rw [show boxed _ = w18 from hw18, hk18] at this; exact this)
              have BL : Hid (b26 < w18.heap.size) := Lib.hid (by rw [← hw18, ← hk18]; simp)
              have RB : Hid (wr25.heap.size ≤ b26) := Lib.hid (by rw [← hk18]; exact hS17.size)
              have Duu := Lib.hid (Duu.out.below hb18)
              have Dvv := Lib.hid (Dvv.out.below hb18)
              rw [hw18]; try rw [hk18]
              clear hw18 hb18 hk18
              refine ⟨hS18, ?_⟩
              refine wpAnyR_oneG (i := 6) rfl (by kernel_rfl) (by kernel_rfl) rfl ?_
              go_simp
              refine (d_add Duu.out Dvv.out (Kuu.out.sz2 Kvv.out (by decide)) (by decide) (by decide)).mono ?_
              rintro e w19 ⟨v19, rfl, hv19, hb19⟩
              obtain ⟨n_off, a_off, l_off, k_off, E_off, rfl⟩ := hv19.shape
              have hS19 : Below wr25.heap.size wr25 w19 := below_next hS18 hb19
              have Duu := Lib.hid (Duu.out.below hb19)
              have Dvv := Lib.hid (Dvv.out.below hb19)
              have BX := Lib.hid (BX.out.below hb19 BL.out)
              have BL := Lib.hid (Nat.lt_of_lt_of_le BL.out hb19.size)
              have Doff := Lib.hid hv19
              clear hv19 hb19
              refine ⟨hS19, ?_⟩
              have c0 := BX.out.c0; have c1 := BX.out.c1; have c2 := BX.out.c2; have f0 := BX.out.f0; have f1 := BX.out.f1; have f2 := BX.out.f2
              refine wpAnyR_oneG (i := 8) rfl (by kernel_rfl) (by kernel_rfl) rfl ?_
              go_simp
              refine ⟨Box.keepB hS19 RB.out _ _ _, wpAnyR_done (by kernel_rfl) (cutQ_normal ?_) _⟩
              rw [HR26.out]
              refine ⟨(Dv n_u (.slice a_u l_u k_u) E_u), (Dv n_u (.slice a_u l_u k_u) E_u), (Dv n_uu (.slice a_uu l_uu k_uu) E_uu), (Dv n_vq (.slice a_vq l_vq k_vq) E_vq), (Dv n_vq (.slice a_vq l_vq k_vq) E_vq), (Dv n_vv (.slice a_vv l_vv k_vv) E_vv), (Dv n_off (.slice a_off l_off k_off) E_off), b26, n_off, a_off, l_off, k_off, E_off, ?_, Box.keepB hS19 RB.out _ _ _, box_store BX.out BL.out _ _ _ _ _, BX.out.keepD Doff.out _ _ _, RB.out⟩
              kernel_rfl
          · go_simp
            obtain ⟨w17, hw17⟩ : ∃ w', w16.alloc (Obj.cells #[Value.bool false, Value.slice none 0 0, Value.int IntKind.i64 0] 35) = w' := ⟨_, rfl⟩
            have hb17 : Below w16.heap.size w16 w17 := by rw [← hw17]; exact below_alloc _ _
            have hS17 : Below wr25.heap.size wr25 w17 := below_next hS16 hb17
            obtain ⟨b26, hk17⟩ : ∃ b, w16.heap.size = b := ⟨_, rfl⟩
            have BX : Hid (Box w17 b26) := Lib.hid (by have := box_alloc w16; rw [show boxed _ = w17 from hw17, hk17] at this; exact this)
            have BL : Hid (b26 < w17.heap.size) := Lib.hid (by rw [← hw17, ← hk17]; simp)
            have RB : Hid (wr25.heap.size ≤ b26) := Lib.hid (by rw [← hk17]; exact hS16.size)
            have Duu := Lib.hid (Duu.out.below hb17)
            rw [hw17]; try rw [hk17]
            clear hw17 hb17 hk17
            refine ⟨hS17, ?_⟩
            refine wpAnyR_oneG (i := 5) rfl (by kernel_rfl) (by kernel_rfl) rfl ?_
            go_simp
            refine (d_mul (Dvq.out.below hS17) (Dvq.out.below hS17) (Kv.out.sz (by decide)) (Kv.out.sz (by decide)) (Kvv.out.sz (by decide)) (by decide) (by decide) (by decide) (by decide)).mono ?_
            rintro e w18 ⟨v18, rfl, hv18, hb18⟩
            obtain ⟨n_vv, a_vv, l_vv, k_vv, E_vv, rfl⟩ := hv18.shape
            have hS18 : Below wr25.heap.size wr25 w18 := below_next hS17 hb18
            have Duu := Lib.hid (Duu.out.below hb18)
            have BX := Lib.hid (BX.out.below hb18 BL.out)
            have BL := Lib.hid (Nat.lt_of_lt_of_le BL.out hb18.size)
            have Dvv := Lib.hid hv18
            clear hv18 hb18
            refine ⟨hS18, ?_⟩
            refine wpAnyR_oneG (i := 6) rfl (by kernel_rfl) (by kernel_rfl) rfl ?_
            go_simp
            refine (d_add Duu.out Dvv.out (Kuu.out.sz2 Kvv.out (by decide)) (by decide) (by decide)).mono ?_
            rintro e w19 ⟨v19, rfl, hv19, hb19⟩
            obtain ⟨n_off, a_off, l_off, k_off, E_off, rfl⟩ := hv19.shape
            have hS19 : Below wr25.heap.size wr25 w19 := below_next hS18 hb19
            have Duu := Lib.hid (Duu.out.below hb19)
            have Dvv := Lib.hid (Dvv.out.below hb19)
            have BX := Lib.hid (BX.out.below hb19 BL.out)
            have BL := Lib.hid (Nat.lt_of_lt_of_le BL.out hb19.size)
            have Doff := Lib.hid hv19
            clear hv19 hb19
            refine ⟨hS19, ?_⟩
            have c0 := BX.out.c0; have c1 := BX.out.c1; have c2 := BX.out.c2; have f0 := BX.out.f0; have f1 := BX.out.f1; have f2 := BX.out.f2
            refine wpAnyR_oneG (i := 8) rfl (by kernel_rfl) (by kernel_rfl) rfl ?_
            go_simp
            refine ⟨Box.keepB hS19 RB.out _ _ _, wpAnyR_done (by kernel_rfl) (cutQ_normal ?_) _⟩
            rw [HR26.out]
            refine ⟨(Dv n_u (.slice a_u l_u k_u) E_u), (Dv n_u (.slice a_u l_u k_u) E_u), (Dv n_uu (.slice a_uu l_uu k_uu) E_uu), (Dv n_vq (.slice a_vq l_vq k_vq) E_vq), (Dv n_vq (.slice a_vq l_vq k_vq) E_vq), (Dv n_vv (.slice a_vv l_vv k_vv) E_vv), (Dv n_off (.slice a_off l_off k_off) E_off), b26, n_off, a_off, l_off, k_off, E_off, ?_, Box.keepB hS19 RB.out _ _ _, box_store BX.out BL.out _ _ _ _ _, BX.out.keepD Doff.out _ _ _, RB.out⟩
            kernel_rfl
        · go_simp
          obtain ⟨w16, hw16⟩ : ∃ w', wd15.alloc (Obj.cells #[Value.bool false, Value.slice none 0 0, Value.int IntKind.i64 0] 35) = w' := ⟨_, rfl⟩
          have hb16 : Below wd15.heap.size wd15 w16 := by rw [← hw16]; exact below_alloc _ _
          have hS16 : Below wr25.heap.size wr25 w16 := below_next hS15 hb16
          obtain ⟨b26, hk16⟩ : ∃ b, wd15.heap.size = b := ⟨_, rfl⟩
          have BX : Hid (Box w16 b26) := Lib.hid (by have := box_alloc wd15; rw [show boxed _ = w16 from hw16, hk16] at this; exact this)
          have BL : Hid (b26 < w16.heap.size) := Lib.hid (by rw [← hw16, ← hk16]; simp)
          have RB : Hid (wr25.heap.size ≤ b26) := Lib.hid (by rw [← hk16]; exact hS15.size)
          rw [hw16]; try rw [hk16]
          clear hw16 hb16 hk16
          refine ⟨hS16, ?_⟩
          refine wpAnyR_oneG (i := 2) rfl (by kernel_rfl) (by kernel_rfl) rfl ?_
          go_simp
          refine (d_mul (Du.out.below hS16) (Du.out.below hS16) (Ku.out.sz (by decide)) (Ku.out.sz (by decide)) (Kuu.out.sz (by decide)) (by decide) (by decide) (by decide) (by decide)).mono ?_
          rintro e w17 ⟨v17, rfl, hv17, hb17⟩
          obtain ⟨n_uu, a_uu, l_uu, k_uu, E_uu, rfl⟩ := hv17.shape
          have hS17 : Below wr25.heap.size wr25 w17 := below_next hS16 hb17
          have BX := Lib.hid (BX.out.below hb17 BL.out)
          have BL := Lib.hid (Nat.lt_of_lt_of_le BL.out hb17.size)
          have Duu := Lib.hid hv17
          clear hv17 hb17
          refine ⟨hS17, ?_⟩
          refine wpAnyR_oneG (i := 5) rfl (by kernel_rfl) (by kernel_rfl) rfl ?_
          go_simp
          refine (d_mul (Dvq.out.below hS17) (Dvq.out.below hS17) (Kv.out.sz (by decide)) (Kv.out.sz (by decide)) (Kvv.out.sz (by decide)) (by decide) (by decide) (by decide) (by decide)).mono ?_
          rintro e w18 ⟨v18, rfl, hv18, hb18⟩
          obtain ⟨n_vv, a_vv, l_vv, k_vv, E_vv, rfl⟩ := hv18.shape
          have hS18 : Below wr25.heap.size wr25 w18 := below_next hS17 hb18
          have Duu := Lib.hid (Duu.out.below hb18)
          have BX := Lib.hid (BX.out.below hb18 BL.out)
          have BL := Lib.hid (Nat.lt_of_lt_of_le BL.out hb18.size)
          have Dvv := Lib.hid hv18
          clear hv18 hb18
          refine ⟨hS18, ?_⟩
          refine wpAnyR_oneG (i := 6) rfl (by kernel_rfl) (by kernel_rfl) rfl ?_
          go_simp
          refine (d_add Duu.out Dvv.out (Kuu.out.sz2 Kvv.out (by decide)) (by decide) (by decide)).mono ?_
          rintro e w19 ⟨v19, rfl, hv19, hb19⟩
          obtain ⟨n_off, a_off, l_off, k_off, E_off, rfl⟩ := hv19.shape
          have hS19 : Below wr25.heap.size wr25 w19 := below_next hS18 hb19
          have Duu := Lib.hid (Duu.out.below hb19)
          have Dvv := Lib.hid (Dvv.out.below hb19)
          have BX := Lib.hid (BX.out.below hb19 BL.out)
          have BL := Lib.hid (Nat.lt_of_lt_of_le BL.out hb19.size)
          have Doff := Lib.hid hv19
          clear hv19 hb19
          refine ⟨hS19, ?_⟩
          have c0 := BX.out.c0; have c1 := BX.out.c1; have c2 := BX.out.c2; have f0 := BX.out.f0; have f1 := BX.out.f1; have f2 := BX.out.f2
          refine wpAnyR_oneG (i := 8) rfl (by kernel_rfl) (by kernel_rfl) rfl ?_
          go_simp
          refine ⟨Box.keepB hS19 RB.out _ _ _, wpAnyR_done (by kernel_rfl) (cutQ_normal ?_) _⟩
          rw [HR26.out]
          refine ⟨(Dv n_u (.slice a_u l_u k_u) E_u), (Dv n_u (.slice a_u l_u k_u) E_u), (Dv n_uu (.slice a_uu l_uu k_uu) E_uu), (Dv n_vq (.slice a_vq l_vq k_vq) E_vq), (Dv n_vq (.slice a_vq l_vq k_vq) E_vq), (Dv n_vv (.slice a_vv l_vv k_vv) E_vv), (Dv n_off (.slice a_off l_off k_off) E_off), b26, n_off, a_off, l_off, k_off, E_off, ?_, Box.keepB hS19 RB.out _ _ _, box_store BX.out BL.out _ _ _ _ _, BX.out.keepD Doff.out _ _ _, RB.out⟩
          kernel_rfl
      · intro a' wr26 hr
        rw [HR26.out] at hr
        obtain ⟨u113, u114, u115, u116, u117, u118, u119, b26, n_off, a_off, l_off, k_off, E_off, rfl, hbr, hvr, hdr, _⟩ := hr
        go_simp
        have Dx := Lib.hid (Dx.out.below hbr)
        have V12 := Lib.hid (V12.out.below hbr)
        have Dy := Lib.hid (Dy.out.below hbr)
        have V14 := Lib.hid (V14.out.below hbr)
        have Dpa := Lib.hid (Dpa.out.below hbr)
        have V16 := Lib.hid (V16.out.below hbr)
        have Dpb := Lib.hid (Dpb.out.below hbr)
        have V18 := Lib.hid (V18.out.below hbr)
        have Dpc := Lib.hid (Dpc.out.below hbr)
        have V20 := Lib.hid (V20.out.below hbr)
        have Dpd := Lib.hid (Dpd.out.below hbr)
        have V22 := Lib.hid (V22.out.below hbr)
        have V24 := Lib.hid (V24.out.below hbr)
        have Du := Lib.hid (Du.out.below hbr)
        have V25 := Lib.hid (V25.out.below hbr)
        have Dvq := Lib.hid (Dvq.out.below hbr)
        have HB := Lib.hid (below_next HB.out hbr)
        have V26 := Lib.hid hvr
        have Doff := Lib.hid hdr
        clear hbr hvr hdr
        go_wp2_with fail
        obtain ⟨R27, hR27⟩ : ∃ R : Act → Act → World → Prop, R = (fun a0 a' w' => ∃ (u120 u121 u122 u123 u124 u125 u126 u127 u128 u129 u130 u131 u132 u133 u134 : Value) (b_ : Nat) (n_ : Bool) (a_ : Option Addr) (l_ k_ : Nat) (E_ : Int), a' = ((((((((((((((((a0.put (some 27) (.pointer (some ⟨b_, 0, none⟩))).put (some 120) u120).put (some 121) u121).put (some 122) u122).put (some 123) u123).put (some 124) u124).put (some 125) u125).put (some 126) u126).put (some 127) u127).put (some 128) u128).put (some 129) u129).put (some 130) u130).put (some 131) u131).put (some 132) u132).put (some 133) u133).put (some 134) u134) ∧ Below wr26.heap.size wr26 w' ∧ Var w' b_ n_ a_ l_ k_ E_ ∧ IsD w' (Dv n_ (.slice a_ l_ k_) E_) ((Fl.VV a * Fl.VV a + Fl.VV b * Fl.VV b) * (Fl.VV c * Fl.VV c + Fl.VV d * Fl.VV d)) (-1074 + -1074 + (-1074 + -1074)) ∧ wr26.heap.size ≤ b_) := ⟨_, rfl⟩
        have HR27 := Lib.hid hR27
        clear hR27
        refine wp_region_cut (S := Below wr26.heap.size wr26) R27 (by kernel_rfl) ?_ ?_
        · have hS15 : Below wr26.heap.size wr26 wr26.drew := (Below.refl _ wr26).drew
          obtain ⟨wd15, hwd⟩ : ∃ w', wr26.drew = w' := ⟨_, rfl⟩
          rw [hwd] at hS15 ⊢
          clear hwd
          refine wpAnyR_take (i := 0) rfl (by kernel_rfl) (by kernel_rfl) (by kernel_rfl) (fun _ _ _ h => h) hS15 (.inl ⟨by kernel_rfl, fun w' hS => (by have y160 := cell_at hS V16.out.lt V16.out.c0; have y161 := cell_at hS V16.out.lt V16.out.c1; have y162 := cell_at hS V16.out.lt V16.out.c2; go_simp; exact ⟨rfl, rfl⟩)⟩) rfl (by go_simp; rfl) ?_
          refine wpAnyR_take (i := 1) rfl (by kernel_rfl) (by kernel_rfl) (by kernel_rfl) (fun _ _ _ h => h) hS15 (.inl ⟨by kernel_rfl, fun w' hS => (by have y160 := cell_at hS V16.out.lt V16.out.c0; have y161 := cell_at hS V16.out.lt V16.out.c1; have y162 := cell_at hS V16.out.lt V16.out.c2; go_simp; exact ⟨rfl, rfl⟩)⟩) rfl (by go_simp; rfl) ?_
          refine wpAnyR_take (i := 3) rfl (by kernel_rfl) (by kernel_rfl) (by kernel_rfl) (fun _ _ _ h => h) hS15 (.inl ⟨by kernel_rfl, fun w' hS => (by have y180 := cell_at hS V18.out.lt V18.out.c0; have y181 := cell_at hS V18.out.lt V18.out.c1; have y182 := cell_at hS V18.out.lt V18.out.c2; go_simp; exact ⟨rfl, rfl⟩)⟩) rfl (by go_simp; rfl) ?_
          refine wpAnyR_take (i := 4) rfl (by kernel_rfl) (by kernel_rfl) (by kernel_rfl) (fun _ _ _ h => h) hS15 (.inl ⟨by kernel_rfl, fun w' hS => (by have y180 := cell_at hS V18.out.lt V18.out.c0; have y181 := cell_at hS V18.out.lt V18.out.c1; have y182 := cell_at hS V18.out.lt V18.out.c2; go_simp; exact ⟨rfl, rfl⟩)⟩) rfl (by go_simp; rfl) ?_
          refine wpAnyR_take (i := 7) rfl (by kernel_rfl) (by kernel_rfl) (by kernel_rfl) (fun _ _ _ h => h) hS15 (.inl ⟨by kernel_rfl, fun w' hS => (by have y200 := cell_at hS V20.out.lt V20.out.c0; have y201 := cell_at hS V20.out.lt V20.out.c1; have y202 := cell_at hS V20.out.lt V20.out.c2; go_simp; exact ⟨rfl, rfl⟩)⟩) rfl (by go_simp; rfl) ?_
          refine wpAnyR_take (i := 8) rfl (by kernel_rfl) (by kernel_rfl) (by kernel_rfl) (fun _ _ _ h => h) hS15 (.inl ⟨by kernel_rfl, fun w' hS => (by have y200 := cell_at hS V20.out.lt V20.out.c0; have y201 := cell_at hS V20.out.lt V20.out.c1; have y202 := cell_at hS V20.out.lt V20.out.c2; go_simp; exact ⟨rfl, rfl⟩)⟩) rfl (by go_simp; rfl) ?_
          refine wpAnyR_take (i := 10) rfl (by kernel_rfl) (by kernel_rfl) (by kernel_rfl) (fun _ _ _ h => h) hS15 (.inl ⟨by kernel_rfl, fun w' hS => (by have y220 := cell_at hS V22.out.lt V22.out.c0; have y221 := cell_at hS V22.out.lt V22.out.c1; have y222 := cell_at hS V22.out.lt V22.out.c2; go_simp; exact ⟨rfl, rfl⟩)⟩) rfl (by go_simp; rfl) ?_
          refine wpAnyR_take (i := 11) rfl (by kernel_rfl) (by kernel_rfl) (by kernel_rfl) (fun _ _ _ h => h) hS15 (.inl ⟨by kernel_rfl, fun w' hS => (by have y220 := cell_at hS V22.out.lt V22.out.c0; have y221 := cell_at hS V22.out.lt V22.out.c1; have y222 := cell_at hS V22.out.lt V22.out.c2; go_simp; exact ⟨rfl, rfl⟩)⟩) rfl (by go_simp; rfl) ?_
          refine wpAnyR_two (i := 2) (j := 15) rfl rfl (by kernel_rfl) (by kernel_rfl) (by kernel_rfl) ?_ ?_
          · go_simp
            refine (d_mul (Dpa.out.below hS15) (Dpa.out.below hS15) (Ka.out.sz (by decide)) (Ka.out.sz (by decide)) (Kaa.out.sz (by decide)) (by decide) (by decide) (by decide) (by decide)).mono ?_
            rintro e w16 ⟨v16, rfl, hv16, hb16⟩
            obtain ⟨n_aa, a_aa, l_aa, k_aa, E_aa, rfl⟩ := hv16.shape
            have hS16 : Below wr26.heap.size wr26 w16 := below_next hS15 hb16
            have Daa := Lib.hid hv16
            clear hv16 hb16
            refine ⟨hS16, ?_⟩
            refine wpAnyR_two (i := 5) (j := 15) rfl rfl (by kernel_rfl) (by kernel_rfl) (by kernel_rfl) ?_ ?_
            · go_simp
              refine (d_mul (Dpb.out.below hS16) (Dpb.out.below hS16) (Kb.out.sz (by decide)) (Kb.out.sz (by decide)) (Kbb.out.sz (by decide)) (by decide) (by decide) (by decide) (by decide)).mono ?_
              rintro e w17 ⟨v17, rfl, hv17, hb17⟩
              obtain ⟨n_bb, a_bb, l_bb, k_bb, E_bb, rfl⟩ := hv17.shape
              have hS17 : Below wr26.heap.size wr26 w17 := below_next hS16 hb17
              have Daa := Lib.hid (Daa.out.below hb17)
              have Dbb := Lib.hid hv17
              clear hv17 hb17
              refine ⟨hS17, ?_⟩
              refine wpAnyR_two (i := 6) (j := 15) rfl rfl (by kernel_rfl) (by kernel_rfl) (by kernel_rfl) ?_ ?_
              · go_simp
                refine (d_add Daa.out Dbb.out (Kaa.out.sz2 Kbb.out (by decide)) (by decide) (by decide)).mono ?_
                rintro e w18 ⟨v18, rfl, hv18, hb18⟩
                obtain ⟨n_s1, a_s1, l_s1, k_s1, E_s1, rfl⟩ := hv18.shape
                have hS18 : Below wr26.heap.size wr26 w18 := below_next hS17 hb18
                have Daa := Lib.hid (Daa.out.below hb18)
                have Dbb := Lib.hid (Dbb.out.below hb18)
                have Ds1 := Lib.hid hv18
                clear hv18 hb18
                refine ⟨hS18, ?_⟩
                refine wpAnyR_two (i := 9) (j := 15) rfl rfl (by kernel_rfl) (by kernel_rfl) (by kernel_rfl) ?_ ?_
                · go_simp
                  refine (d_mul (Dpc.out.below hS18) (Dpc.out.below hS18) (Kc.out.sz (by decide)) (Kc.out.sz (by decide)) (Kcc.out.sz (by decide)) (by decide) (by decide) (by decide) (by decide)).mono ?_
                  rintro e w19 ⟨v19, rfl, hv19, hb19⟩
                  obtain ⟨n_cc, a_cc, l_cc, k_cc, E_cc, rfl⟩ := hv19.shape
                  have hS19 : Below wr26.heap.size wr26 w19 := below_next hS18 hb19
                  have Daa := Lib.hid (Daa.out.below hb19)
                  have Dbb := Lib.hid (Dbb.out.below hb19)
                  have Ds1 := Lib.hid (Ds1.out.below hb19)
                  have Dcc := Lib.hid hv19
                  clear hv19 hb19
                  refine ⟨hS19, ?_⟩
                  refine wpAnyR_two (i := 12) (j := 15) rfl rfl (by kernel_rfl) (by kernel_rfl) (by kernel_rfl) ?_ ?_
                  · go_simp
                    refine (d_mul (Dpd.out.below hS19) (Dpd.out.below hS19) (Kd.out.sz (by decide)) (Kd.out.sz (by decide)) (Kdd.out.sz (by decide)) (by decide) (by decide) (by decide) (by decide)).mono ?_
                    rintro e w20 ⟨v20, rfl, hv20, hb20⟩
                    obtain ⟨n_dd, a_dd, l_dd, k_dd, E_dd, rfl⟩ := hv20.shape
                    have hS20 : Below wr26.heap.size wr26 w20 := below_next hS19 hb20
                    have Daa := Lib.hid (Daa.out.below hb20)
                    have Dbb := Lib.hid (Dbb.out.below hb20)
                    have Ds1 := Lib.hid (Ds1.out.below hb20)
                    have Dcc := Lib.hid (Dcc.out.below hb20)
                    have Ddd := Lib.hid hv20
                    clear hv20 hb20
                    refine ⟨hS20, ?_⟩
                    refine wpAnyR_two (i := 13) (j := 15) rfl rfl (by kernel_rfl) (by kernel_rfl) (by kernel_rfl) ?_ ?_
                    · go_simp
                      refine (d_add Dcc.out Ddd.out (Kcc.out.sz2 Kdd.out (by decide)) (by decide) (by decide)).mono ?_
                      rintro e w21 ⟨v21, rfl, hv21, hb21⟩
                      obtain ⟨n_s2, a_s2, l_s2, k_s2, E_s2, rfl⟩ := hv21.shape
                      have hS21 : Below wr26.heap.size wr26 w21 := below_next hS20 hb21
                      have Daa := Lib.hid (Daa.out.below hb21)
                      have Dbb := Lib.hid (Dbb.out.below hb21)
                      have Ds1 := Lib.hid (Ds1.out.below hb21)
                      have Dcc := Lib.hid (Dcc.out.below hb21)
                      have Ddd := Lib.hid (Ddd.out.below hb21)
                      have Ds2 := Lib.hid hv21
                      clear hv21 hb21
                      refine ⟨hS21, ?_⟩
                      refine wpAnyR_two (i := 14) (j := 15) rfl rfl (by kernel_rfl) (by kernel_rfl) (by kernel_rfl) ?_ ?_
                      · go_simp
                        refine (d_mul Ds1.out Ds2.out (Ks1.out.sz (by decide)) (Ks2.out.sz (by decide)) (Ksz.out.sz (by decide)) (by decide) (by decide) (by decide) (by decide)).mono ?_
                        rintro e w22 ⟨v22, rfl, hv22, hb22⟩
                        obtain ⟨n_sz, a_sz, l_sz, k_sz, E_sz, rfl⟩ := hv22.shape
                        have hS22 : Below wr26.heap.size wr26 w22 := below_next hS21 hb22
                        have Daa := Lib.hid (Daa.out.below hb22)
                        have Dbb := Lib.hid (Dbb.out.below hb22)
                        have Ds1 := Lib.hid (Ds1.out.below hb22)
                        have Dcc := Lib.hid (Dcc.out.below hb22)
                        have Ddd := Lib.hid (Ddd.out.below hb22)
                        have Ds2 := Lib.hid (Ds2.out.below hb22)
                        have Dsz := Lib.hid hv22
                        clear hv22 hb22
                        refine ⟨hS22, ?_⟩
                        refine wpAnyR_oneG (i := 15) rfl (by kernel_rfl) (by kernel_rfl) rfl ?_
                        go_simp
                        obtain ⟨w23, hw23⟩ : ∃ w', w22.alloc (Obj.cells #[Value.bool false, Value.slice none 0 0, Value.int IntKind.i64 0] 35) = w' := ⟨_, rfl⟩
                        have hb23 : Below w22.heap.size w22 w23 := by rw [← hw23]; exact below_alloc _ _
                        have hS23 : Below wr26.heap.size wr26 w23 := below_next hS22 hb23
                        obtain ⟨b27, hk23⟩ : ∃ b, w22.heap.size = b := ⟨_, rfl⟩
                        have BX : Hid (Box w23 b27) := Lib.hid (by have := box_alloc w22; rw [show boxed _ = w23 from hw23, hk23] at this; exact this)
                        have BL : Hid (b27 < w23.heap.size) := Lib.hid (by rw [← hw23, ← hk23]; simp)
                        have RB : Hid (wr26.heap.size ≤ b27) := Lib.hid (by rw [← hk23]; exact hS22.size)
                        have Daa := Lib.hid (Daa.out.below hb23)
                        have Dbb := Lib.hid (Dbb.out.below hb23)
                        have Ds1 := Lib.hid (Ds1.out.below hb23)
                        have Dcc := Lib.hid (Dcc.out.below hb23)
                        have Ddd := Lib.hid (Ddd.out.below hb23)
                        have Ds2 := Lib.hid (Ds2.out.below hb23)
                        have Dsz := Lib.hid (Dsz.out.below hb23)
                        rw [hw23]; try rw [hk23]
                        clear hw23 hb23 hk23
                        refine ⟨hS23, ?_⟩
                        have c0 := BX.out.c0; have c1 := BX.out.c1; have c2 := BX.out.c2; have f0 := BX.out.f0; have f1 := BX.out.f1; have f2 := BX.out.f2
                        refine wpAnyR_oneG (i := 16) rfl (by kernel_rfl) (by kernel_rfl) rfl ?_
                        go_simp
                        refine ⟨Box.keepB hS23 RB.out _ _ _, wpAnyR_done (by kernel_rfl) (cutQ_normal ?_) _⟩
                        rw [HR27.out]
                        refine ⟨(Dv n_pa (.slice a_pa l_pa k_pa) E_pa), (Dv n_pa (.slice a_pa l_pa k_pa) E_pa), (Dv n_aa (.slice a_aa l_aa k_aa) E_aa), (Dv n_pb (.slice a_pb l_pb k_pb) E_pb), (Dv n_pb (.slice a_pb l_pb k_pb) E_pb), (Dv n_bb (.slice a_bb l_bb k_bb) E_bb), (Dv n_s1 (.slice a_s1 l_s1 k_s1) E_s1), (Dv n_pc (.slice a_pc l_pc k_pc) E_pc), (Dv n_pc (.slice a_pc l_pc k_pc) E_pc), (Dv n_cc (.slice a_cc l_cc k_cc) E_cc), (Dv n_pd (.slice a_pd l_pd k_pd) E_pd), (Dv n_pd (.slice a_pd l_pd k_pd) E_pd), (Dv n_dd (.slice a_dd l_dd k_dd) E_dd), (Dv n_s2 (.slice a_s2 l_s2 k_s2) E_s2), (Dv n_sz (.slice a_sz l_sz k_sz) E_sz), b27, n_sz, a_sz, l_sz, k_sz, E_sz, ?_, Box.keepB hS23 RB.out _ _ _, box_store BX.out BL.out _ _ _ _ _, BX.out.keepD Dsz.out _ _ _, RB.out⟩
                        kernel_rfl
                      · go_simp
                        obtain ⟨w22, hw22⟩ : ∃ w', w21.alloc (Obj.cells #[Value.bool false, Value.slice none 0 0, Value.int IntKind.i64 0] 35) = w' := ⟨_, rfl⟩
                        have hb22 : Below w21.heap.size w21 w22 := by rw [← hw22]; exact below_alloc _ _
                        have hS22 : Below wr26.heap.size wr26 w22 := below_next hS21 hb22
                        obtain ⟨b27, hk22⟩ : ∃ b, w21.heap.size = b := ⟨_, rfl⟩
                        have BX : Hid (Box w22 b27) := Lib.hid (by have := box_alloc w21; rw [show boxed _ = w22 from hw22, hk22] at this; exact this)
                        have BL : Hid (b27 < w22.heap.size) := Lib.hid (by rw [← hw22, ← hk22]; simp)
                        have RB : Hid (wr26.heap.size ≤ b27) := Lib.hid (by rw [← hk22]; exact hS21.size)
                        have Daa := Lib.hid (Daa.out.below hb22)
                        have Dbb := Lib.hid (Dbb.out.below hb22)
                        have Ds1 := Lib.hid (Ds1.out.below hb22)
                        have Dcc := Lib.hid (Dcc.out.below hb22)
                        have Ddd := Lib.hid (Ddd.out.below hb22)
                        have Ds2 := Lib.hid (Ds2.out.below hb22)
                        rw [hw22]; try rw [hk22]
                        clear hw22 hb22 hk22
                        refine ⟨hS22, ?_⟩
                        refine wpAnyR_oneG (i := 14) rfl (by kernel_rfl) (by kernel_rfl) rfl ?_
                        go_simp
                        refine (d_mul Ds1.out Ds2.out (Ks1.out.sz (by decide)) (Ks2.out.sz (by decide)) (Ksz.out.sz (by decide)) (by decide) (by decide) (by decide) (by decide)).mono ?_
                        rintro e w23 ⟨v23, rfl, hv23, hb23⟩
                        obtain ⟨n_sz, a_sz, l_sz, k_sz, E_sz, rfl⟩ := hv23.shape
                        have hS23 : Below wr26.heap.size wr26 w23 := below_next hS22 hb23
                        have Daa := Lib.hid (Daa.out.below hb23)
                        have Dbb := Lib.hid (Dbb.out.below hb23)
                        have Ds1 := Lib.hid (Ds1.out.below hb23)
                        have Dcc := Lib.hid (Dcc.out.below hb23)
                        have Ddd := Lib.hid (Ddd.out.below hb23)
                        have Ds2 := Lib.hid (Ds2.out.below hb23)
                        have BX := Lib.hid (BX.out.below hb23 BL.out)
                        have BL := Lib.hid (Nat.lt_of_lt_of_le BL.out hb23.size)
                        have Dsz := Lib.hid hv23
                        clear hv23 hb23
                        refine ⟨hS23, ?_⟩
                        have c0 := BX.out.c0; have c1 := BX.out.c1; have c2 := BX.out.c2; have f0 := BX.out.f0; have f1 := BX.out.f1; have f2 := BX.out.f2
                        refine wpAnyR_oneG (i := 16) rfl (by kernel_rfl) (by kernel_rfl) rfl ?_
                        go_simp
                        refine ⟨Box.keepB hS23 RB.out _ _ _, wpAnyR_done (by kernel_rfl) (cutQ_normal ?_) _⟩
                        rw [HR27.out]
                        refine ⟨(Dv n_pa (.slice a_pa l_pa k_pa) E_pa), (Dv n_pa (.slice a_pa l_pa k_pa) E_pa), (Dv n_aa (.slice a_aa l_aa k_aa) E_aa), (Dv n_pb (.slice a_pb l_pb k_pb) E_pb), (Dv n_pb (.slice a_pb l_pb k_pb) E_pb), (Dv n_bb (.slice a_bb l_bb k_bb) E_bb), (Dv n_s1 (.slice a_s1 l_s1 k_s1) E_s1), (Dv n_pc (.slice a_pc l_pc k_pc) E_pc), (Dv n_pc (.slice a_pc l_pc k_pc) E_pc), (Dv n_cc (.slice a_cc l_cc k_cc) E_cc), (Dv n_pd (.slice a_pd l_pd k_pd) E_pd), (Dv n_pd (.slice a_pd l_pd k_pd) E_pd), (Dv n_dd (.slice a_dd l_dd k_dd) E_dd), (Dv n_s2 (.slice a_s2 l_s2 k_s2) E_s2), (Dv n_sz (.slice a_sz l_sz k_sz) E_sz), b27, n_sz, a_sz, l_sz, k_sz, E_sz, ?_, Box.keepB hS23 RB.out _ _ _, box_store BX.out BL.out _ _ _ _ _, BX.out.keepD Dsz.out _ _ _, RB.out⟩
                        kernel_rfl
                    · go_simp
                      obtain ⟨w21, hw21⟩ : ∃ w', w20.alloc (Obj.cells #[Value.bool false, Value.slice none 0 0, Value.int IntKind.i64 0] 35) = w' := ⟨_, rfl⟩
                      have hb21 : Below w20.heap.size w20 w21 := by rw [← hw21]; exact below_alloc _ _
                      have hS21 : Below wr26.heap.size wr26 w21 := below_next hS20 hb21
                      obtain ⟨b27, hk21⟩ : ∃ b, w20.heap.size = b := ⟨_, rfl⟩
                      have BX : Hid (Box w21 b27) := Lib.hid (by have := box_alloc w20; rw [show boxed _ = w21 from hw21, hk21] at this; exact this)
                      have BL : Hid (b27 < w21.heap.size) := Lib.hid (by rw [← hw21, ← hk21]; simp)
                      have RB : Hid (wr26.heap.size ≤ b27) := Lib.hid (by rw [← hk21]; exact hS20.size)
                      have Daa := Lib.hid (Daa.out.below hb21)
                      have Dbb := Lib.hid (Dbb.out.below hb21)
                      have Ds1 := Lib.hid (Ds1.out.below hb21)
                      have Dcc := Lib.hid (Dcc.out.below hb21)
                      have Ddd := Lib.hid (Ddd.out.below hb21)
                      rw [hw21]; try rw [hk21]
                      clear hw21 hb21 hk21
                      refine ⟨hS21, ?_⟩
                      refine wpAnyR_oneG (i := 13) rfl (by kernel_rfl) (by kernel_rfl) rfl ?_
                      go_simp
                      refine (d_add Dcc.out Ddd.out (Kcc.out.sz2 Kdd.out (by decide)) (by decide) (by decide)).mono ?_
                      rintro e w22 ⟨v22, rfl, hv22, hb22⟩
                      obtain ⟨n_s2, a_s2, l_s2, k_s2, E_s2, rfl⟩ := hv22.shape
                      have hS22 : Below wr26.heap.size wr26 w22 := below_next hS21 hb22
                      have Daa := Lib.hid (Daa.out.below hb22)
                      have Dbb := Lib.hid (Dbb.out.below hb22)
                      have Ds1 := Lib.hid (Ds1.out.below hb22)
                      have Dcc := Lib.hid (Dcc.out.below hb22)
                      have Ddd := Lib.hid (Ddd.out.below hb22)
                      have BX := Lib.hid (BX.out.below hb22 BL.out)
                      have BL := Lib.hid (Nat.lt_of_lt_of_le BL.out hb22.size)
                      have Ds2 := Lib.hid hv22
                      clear hv22 hb22
                      refine ⟨hS22, ?_⟩
                      refine wpAnyR_oneG (i := 14) rfl (by kernel_rfl) (by kernel_rfl) rfl ?_
                      go_simp
                      refine (d_mul Ds1.out Ds2.out (Ks1.out.sz (by decide)) (Ks2.out.sz (by decide)) (Ksz.out.sz (by decide)) (by decide) (by decide) (by decide) (by decide)).mono ?_
                      rintro e w23 ⟨v23, rfl, hv23, hb23⟩
                      obtain ⟨n_sz, a_sz, l_sz, k_sz, E_sz, rfl⟩ := hv23.shape
                      have hS23 : Below wr26.heap.size wr26 w23 := below_next hS22 hb23
                      have Daa := Lib.hid (Daa.out.below hb23)
                      have Dbb := Lib.hid (Dbb.out.below hb23)
                      have Ds1 := Lib.hid (Ds1.out.below hb23)
                      have Dcc := Lib.hid (Dcc.out.below hb23)
                      have Ddd := Lib.hid (Ddd.out.below hb23)
                      have Ds2 := Lib.hid (Ds2.out.below hb23)
                      have BX := Lib.hid (BX.out.below hb23 BL.out)
                      have BL := Lib.hid (Nat.lt_of_lt_of_le BL.out hb23.size)
                      have Dsz := Lib.hid hv23
                      clear hv23 hb23
                      refine ⟨hS23, ?_⟩
                      have c0 := BX.out.c0; have c1 := BX.out.c1; have c2 := BX.out.c2; have f0 := BX.out.f0; have f1 := BX.out.f1; have f2 := BX.out.f2
                      refine wpAnyR_oneG (i := 16) rfl (by kernel_rfl) (by kernel_rfl) rfl ?_
                      go_simp
                      refine ⟨Box.keepB hS23 RB.out _ _ _, wpAnyR_done (by kernel_rfl) (cutQ_normal ?_) _⟩
                      rw [HR27.out]
                      refine ⟨(Dv n_pa (.slice a_pa l_pa k_pa) E_pa), (Dv n_pa (.slice a_pa l_pa k_pa) E_pa), (Dv n_aa (.slice a_aa l_aa k_aa) E_aa), (Dv n_pb (.slice a_pb l_pb k_pb) E_pb), (Dv n_pb (.slice a_pb l_pb k_pb) E_pb), (Dv n_bb (.slice a_bb l_bb k_bb) E_bb), (Dv n_s1 (.slice a_s1 l_s1 k_s1) E_s1), (Dv n_pc (.slice a_pc l_pc k_pc) E_pc), (Dv n_pc (.slice a_pc l_pc k_pc) E_pc), (Dv n_cc (.slice a_cc l_cc k_cc) E_cc), (Dv n_pd (.slice a_pd l_pd k_pd) E_pd), (Dv n_pd (.slice a_pd l_pd k_pd) E_pd), (Dv n_dd (.slice a_dd l_dd k_dd) E_dd), (Dv n_s2 (.slice a_s2 l_s2 k_s2) E_s2), (Dv n_sz (.slice a_sz l_sz k_sz) E_sz), b27, n_sz, a_sz, l_sz, k_sz, E_sz, ?_, Box.keepB hS23 RB.out _ _ _, box_store BX.out BL.out _ _ _ _ _, BX.out.keepD Dsz.out _ _ _, RB.out⟩
                      kernel_rfl
                  · go_simp
                    obtain ⟨w20, hw20⟩ : ∃ w', w19.alloc (Obj.cells #[Value.bool false, Value.slice none 0 0, Value.int IntKind.i64 0] 35) = w' := ⟨_, rfl⟩
                    have hb20 : Below w19.heap.size w19 w20 := by rw [← hw20]; exact below_alloc _ _
                    have hS20 : Below wr26.heap.size wr26 w20 := below_next hS19 hb20
                    obtain ⟨b27, hk20⟩ : ∃ b, w19.heap.size = b := ⟨_, rfl⟩
                    have BX : Hid (Box w20 b27) := Lib.hid (by have := box_alloc w19; rw [show boxed _ = w20 from hw20, hk20] at this; exact this)
                    have BL : Hid (b27 < w20.heap.size) := Lib.hid (by rw [← hw20, ← hk20]; simp)
                    have RB : Hid (wr26.heap.size ≤ b27) := Lib.hid (by rw [← hk20]; exact hS19.size)
                    have Daa := Lib.hid (Daa.out.below hb20)
                    have Dbb := Lib.hid (Dbb.out.below hb20)
                    have Ds1 := Lib.hid (Ds1.out.below hb20)
                    have Dcc := Lib.hid (Dcc.out.below hb20)
                    rw [hw20]; try rw [hk20]
                    clear hw20 hb20 hk20
                    refine ⟨hS20, ?_⟩
                    refine wpAnyR_oneG (i := 12) rfl (by kernel_rfl) (by kernel_rfl) rfl ?_
                    go_simp
                    refine (d_mul (Dpd.out.below hS20) (Dpd.out.below hS20) (Kd.out.sz (by decide)) (Kd.out.sz (by decide)) (Kdd.out.sz (by decide)) (by decide) (by decide) (by decide) (by decide)).mono ?_
                    rintro e w21 ⟨v21, rfl, hv21, hb21⟩
                    obtain ⟨n_dd, a_dd, l_dd, k_dd, E_dd, rfl⟩ := hv21.shape
                    have hS21 : Below wr26.heap.size wr26 w21 := below_next hS20 hb21
                    have Daa := Lib.hid (Daa.out.below hb21)
                    have Dbb := Lib.hid (Dbb.out.below hb21)
                    have Ds1 := Lib.hid (Ds1.out.below hb21)
                    have Dcc := Lib.hid (Dcc.out.below hb21)
                    have BX := Lib.hid (BX.out.below hb21 BL.out)
                    have BL := Lib.hid (Nat.lt_of_lt_of_le BL.out hb21.size)
                    have Ddd := Lib.hid hv21
                    clear hv21 hb21
                    refine ⟨hS21, ?_⟩
                    refine wpAnyR_oneG (i := 13) rfl (by kernel_rfl) (by kernel_rfl) rfl ?_
                    go_simp
                    refine (d_add Dcc.out Ddd.out (Kcc.out.sz2 Kdd.out (by decide)) (by decide) (by decide)).mono ?_
                    rintro e w22 ⟨v22, rfl, hv22, hb22⟩
                    obtain ⟨n_s2, a_s2, l_s2, k_s2, E_s2, rfl⟩ := hv22.shape
                    have hS22 : Below wr26.heap.size wr26 w22 := below_next hS21 hb22
                    have Daa := Lib.hid (Daa.out.below hb22)
                    have Dbb := Lib.hid (Dbb.out.below hb22)
                    have Ds1 := Lib.hid (Ds1.out.below hb22)
                    have Dcc := Lib.hid (Dcc.out.below hb22)
                    have Ddd := Lib.hid (Ddd.out.below hb22)
                    have BX := Lib.hid (BX.out.below hb22 BL.out)
                    have BL := Lib.hid (Nat.lt_of_lt_of_le BL.out hb22.size)
                    have Ds2 := Lib.hid hv22
                    clear hv22 hb22
                    refine ⟨hS22, ?_⟩
                    refine wpAnyR_oneG (i := 14) rfl (by kernel_rfl) (by kernel_rfl) rfl ?_
                    go_simp
                    refine (d_mul Ds1.out Ds2.out (Ks1.out.sz (by decide)) (Ks2.out.sz (by decide)) (Ksz.out.sz (by decide)) (by decide) (by decide) (by decide) (by decide)).mono ?_
                    rintro e w23 ⟨v23, rfl, hv23, hb23⟩
                    obtain ⟨n_sz, a_sz, l_sz, k_sz, E_sz, rfl⟩ := hv23.shape
                    have hS23 : Below wr26.heap.size wr26 w23 := below_next hS22 hb23
                    have Daa := Lib.hid (Daa.out.below hb23)
                    have Dbb := Lib.hid (Dbb.out.below hb23)
                    have Ds1 := Lib.hid (Ds1.out.below hb23)
                    have Dcc := Lib.hid (Dcc.out.below hb23)
                    have Ddd := Lib.hid (Ddd.out.below hb23)
                    have Ds2 := Lib.hid (Ds2.out.below hb23)
                    have BX := Lib.hid (BX.out.below hb23 BL.out)
                    have BL := Lib.hid (Nat.lt_of_lt_of_le BL.out hb23.size)
                    have Dsz := Lib.hid hv23
                    clear hv23 hb23
                    refine ⟨hS23, ?_⟩
                    have c0 := BX.out.c0; have c1 := BX.out.c1; have c2 := BX.out.c2; have f0 := BX.out.f0; have f1 := BX.out.f1; have f2 := BX.out.f2
                    refine wpAnyR_oneG (i := 16) rfl (by kernel_rfl) (by kernel_rfl) rfl ?_
                    go_simp
                    refine ⟨Box.keepB hS23 RB.out _ _ _, wpAnyR_done (by kernel_rfl) (cutQ_normal ?_) _⟩
                    rw [HR27.out]
                    refine ⟨(Dv n_pa (.slice a_pa l_pa k_pa) E_pa), (Dv n_pa (.slice a_pa l_pa k_pa) E_pa), (Dv n_aa (.slice a_aa l_aa k_aa) E_aa), (Dv n_pb (.slice a_pb l_pb k_pb) E_pb), (Dv n_pb (.slice a_pb l_pb k_pb) E_pb), (Dv n_bb (.slice a_bb l_bb k_bb) E_bb), (Dv n_s1 (.slice a_s1 l_s1 k_s1) E_s1), (Dv n_pc (.slice a_pc l_pc k_pc) E_pc), (Dv n_pc (.slice a_pc l_pc k_pc) E_pc), (Dv n_cc (.slice a_cc l_cc k_cc) E_cc), (Dv n_pd (.slice a_pd l_pd k_pd) E_pd), (Dv n_pd (.slice a_pd l_pd k_pd) E_pd), (Dv n_dd (.slice a_dd l_dd k_dd) E_dd), (Dv n_s2 (.slice a_s2 l_s2 k_s2) E_s2), (Dv n_sz (.slice a_sz l_sz k_sz) E_sz), b27, n_sz, a_sz, l_sz, k_sz, E_sz, ?_, Box.keepB hS23 RB.out _ _ _, box_store BX.out BL.out _ _ _ _ _, BX.out.keepD Dsz.out _ _ _, RB.out⟩
                    kernel_rfl
                · go_simp
                  obtain ⟨w19, hw19⟩ : ∃ w', w18.alloc (Obj.cells #[Value.bool false, Value.slice none 0 0, Value.int IntKind.i64 0] 35) = w' := ⟨_, rfl⟩
                  have hb19 : Below w18.heap.size w18 w19 := by rw [← hw19]; exact below_alloc _ _
                  have hS19 : Below wr26.heap.size wr26 w19 := below_next hS18 hb19
                  obtain ⟨b27, hk19⟩ : ∃ b, w18.heap.size = b := ⟨_, rfl⟩
                  have BX : Hid (Box w19 b27) := Lib.hid (by have := box_alloc w18; rw [show boxed _ = w19 from hw19, hk19] at this; exact this)
                  have BL : Hid (b27 < w19.heap.size) := Lib.hid (by rw [← hw19, ← hk19]; simp)
                  have RB : Hid (wr26.heap.size ≤ b27) := Lib.hid (by rw [← hk19]; exact hS18.size)
                  have Daa := Lib.hid (Daa.out.below hb19)
                  have Dbb := Lib.hid (Dbb.out.below hb19)
                  have Ds1 := Lib.hid (Ds1.out.below hb19)
                  rw [hw19]; try rw [hk19]
                  clear hw19 hb19 hk19
                  refine ⟨hS19, ?_⟩
                  refine wpAnyR_oneG (i := 9) rfl (by kernel_rfl) (by kernel_rfl) rfl ?_
                  go_simp
                  refine (d_mul (Dpc.out.below hS19) (Dpc.out.below hS19) (Kc.out.sz (by decide)) (Kc.out.sz (by decide)) (Kcc.out.sz (by decide)) (by decide) (by decide) (by decide) (by decide)).mono ?_
                  rintro e w20 ⟨v20, rfl, hv20, hb20⟩
                  obtain ⟨n_cc, a_cc, l_cc, k_cc, E_cc, rfl⟩ := hv20.shape
                  have hS20 : Below wr26.heap.size wr26 w20 := below_next hS19 hb20
                  have Daa := Lib.hid (Daa.out.below hb20)
                  have Dbb := Lib.hid (Dbb.out.below hb20)
                  have Ds1 := Lib.hid (Ds1.out.below hb20)
                  have BX := Lib.hid (BX.out.below hb20 BL.out)
                  have BL := Lib.hid (Nat.lt_of_lt_of_le BL.out hb20.size)
                  have Dcc := Lib.hid hv20
                  clear hv20 hb20
                  refine ⟨hS20, ?_⟩
                  refine wpAnyR_oneG (i := 12) rfl (by kernel_rfl) (by kernel_rfl) rfl ?_
                  go_simp
                  refine (d_mul (Dpd.out.below hS20) (Dpd.out.below hS20) (Kd.out.sz (by decide)) (Kd.out.sz (by decide)) (Kdd.out.sz (by decide)) (by decide) (by decide) (by decide) (by decide)).mono ?_
                  rintro e w21 ⟨v21, rfl, hv21, hb21⟩
                  obtain ⟨n_dd, a_dd, l_dd, k_dd, E_dd, rfl⟩ := hv21.shape
                  have hS21 : Below wr26.heap.size wr26 w21 := below_next hS20 hb21
                  have Daa := Lib.hid (Daa.out.below hb21)
                  have Dbb := Lib.hid (Dbb.out.below hb21)
                  have Ds1 := Lib.hid (Ds1.out.below hb21)
                  have Dcc := Lib.hid (Dcc.out.below hb21)
                  have BX := Lib.hid (BX.out.below hb21 BL.out)
                  have BL := Lib.hid (Nat.lt_of_lt_of_le BL.out hb21.size)
                  have Ddd := Lib.hid hv21
                  clear hv21 hb21
                  refine ⟨hS21, ?_⟩
                  refine wpAnyR_oneG (i := 13) rfl (by kernel_rfl) (by kernel_rfl) rfl ?_
                  go_simp
                  refine (d_add Dcc.out Ddd.out (Kcc.out.sz2 Kdd.out (by decide)) (by decide) (by decide)).mono ?_
                  rintro e w22 ⟨v22, rfl, hv22, hb22⟩
                  obtain ⟨n_s2, a_s2, l_s2, k_s2, E_s2, rfl⟩ := hv22.shape
                  have hS22 : Below wr26.heap.size wr26 w22 := below_next hS21 hb22
                  have Daa := Lib.hid (Daa.out.below hb22)
                  have Dbb := Lib.hid (Dbb.out.below hb22)
                  have Ds1 := Lib.hid (Ds1.out.below hb22)
                  have Dcc := Lib.hid (Dcc.out.below hb22)
                  have Ddd := Lib.hid (Ddd.out.below hb22)
                  have BX := Lib.hid (BX.out.below hb22 BL.out)
                  have BL := Lib.hid (Nat.lt_of_lt_of_le BL.out hb22.size)
                  have Ds2 := Lib.hid hv22
                  clear hv22 hb22
                  refine ⟨hS22, ?_⟩
                  refine wpAnyR_oneG (i := 14) rfl (by kernel_rfl) (by kernel_rfl) rfl ?_
                  go_simp
                  refine (d_mul Ds1.out Ds2.out (Ks1.out.sz (by decide)) (Ks2.out.sz (by decide)) (Ksz.out.sz (by decide)) (by decide) (by decide) (by decide) (by decide)).mono ?_
                  rintro e w23 ⟨v23, rfl, hv23, hb23⟩
                  obtain ⟨n_sz, a_sz, l_sz, k_sz, E_sz, rfl⟩ := hv23.shape
                  have hS23 : Below wr26.heap.size wr26 w23 := below_next hS22 hb23
                  have Daa := Lib.hid (Daa.out.below hb23)
                  have Dbb := Lib.hid (Dbb.out.below hb23)
                  have Ds1 := Lib.hid (Ds1.out.below hb23)
                  have Dcc := Lib.hid (Dcc.out.below hb23)
                  have Ddd := Lib.hid (Ddd.out.below hb23)
                  have Ds2 := Lib.hid (Ds2.out.below hb23)
                  have BX := Lib.hid (BX.out.below hb23 BL.out)
                  have BL := Lib.hid (Nat.lt_of_lt_of_le BL.out hb23.size)
                  have Dsz := Lib.hid hv23
                  clear hv23 hb23
                  refine ⟨hS23, ?_⟩
                  have c0 := BX.out.c0; have c1 := BX.out.c1; have c2 := BX.out.c2; have f0 := BX.out.f0; have f1 := BX.out.f1; have f2 := BX.out.f2
                  refine wpAnyR_oneG (i := 16) rfl (by kernel_rfl) (by kernel_rfl) rfl ?_
                  go_simp
                  refine ⟨Box.keepB hS23 RB.out _ _ _, wpAnyR_done (by kernel_rfl) (cutQ_normal ?_) _⟩
                  rw [HR27.out]
                  refine ⟨(Dv n_pa (.slice a_pa l_pa k_pa) E_pa), (Dv n_pa (.slice a_pa l_pa k_pa) E_pa), (Dv n_aa (.slice a_aa l_aa k_aa) E_aa), (Dv n_pb (.slice a_pb l_pb k_pb) E_pb), (Dv n_pb (.slice a_pb l_pb k_pb) E_pb), (Dv n_bb (.slice a_bb l_bb k_bb) E_bb), (Dv n_s1 (.slice a_s1 l_s1 k_s1) E_s1), (Dv n_pc (.slice a_pc l_pc k_pc) E_pc), (Dv n_pc (.slice a_pc l_pc k_pc) E_pc), (Dv n_cc (.slice a_cc l_cc k_cc) E_cc), (Dv n_pd (.slice a_pd l_pd k_pd) E_pd), (Dv n_pd (.slice a_pd l_pd k_pd) E_pd), (Dv n_dd (.slice a_dd l_dd k_dd) E_dd), (Dv n_s2 (.slice a_s2 l_s2 k_s2) E_s2), (Dv n_sz (.slice a_sz l_sz k_sz) E_sz), b27, n_sz, a_sz, l_sz, k_sz, E_sz, ?_, Box.keepB hS23 RB.out _ _ _, box_store BX.out BL.out _ _ _ _ _, BX.out.keepD Dsz.out _ _ _, RB.out⟩
                  kernel_rfl
              · go_simp
                obtain ⟨w18, hw18⟩ : ∃ w', w17.alloc (Obj.cells #[Value.bool false, Value.slice none 0 0, Value.int IntKind.i64 0] 35) = w' := ⟨_, rfl⟩
                have hb18 : Below w17.heap.size w17 w18 := by rw [← hw18]; exact below_alloc _ _
                have hS18 : Below wr26.heap.size wr26 w18 := below_next hS17 hb18
                obtain ⟨b27, hk18⟩ : ∃ b, w17.heap.size = b := ⟨_, rfl⟩
                have BX : Hid (Box w18 b27) := Lib.hid (by have := box_alloc w17; rw [show boxed _ = w18 from hw18, hk18] at this; exact this)
                have BL : Hid (b27 < w18.heap.size) := Lib.hid (by rw [← hw18, ← hk18]; simp)
                have RB : Hid (wr26.heap.size ≤ b27) := Lib.hid (by rw [← hk18]; exact hS17.size)
                have Daa := Lib.hid (Daa.out.below hb18)
                have Dbb := Lib.hid (Dbb.out.below hb18)
                rw [hw18]; try rw [hk18]
                clear hw18 hb18 hk18
                refine ⟨hS18, ?_⟩
                refine wpAnyR_oneG (i := 6) rfl (by kernel_rfl) (by kernel_rfl) rfl ?_
                go_simp
                refine (d_add Daa.out Dbb.out (Kaa.out.sz2 Kbb.out (by decide)) (by decide) (by decide)).mono ?_
                rintro e w19 ⟨v19, rfl, hv19, hb19⟩
                obtain ⟨n_s1, a_s1, l_s1, k_s1, E_s1, rfl⟩ := hv19.shape
                have hS19 : Below wr26.heap.size wr26 w19 := below_next hS18 hb19
                have Daa := Lib.hid (Daa.out.below hb19)
                have Dbb := Lib.hid (Dbb.out.below hb19)
                have BX := Lib.hid (BX.out.below hb19 BL.out)
                have BL := Lib.hid (Nat.lt_of_lt_of_le BL.out hb19.size)
                have Ds1 := Lib.hid hv19
                clear hv19 hb19
                refine ⟨hS19, ?_⟩
                refine wpAnyR_oneG (i := 9) rfl (by kernel_rfl) (by kernel_rfl) rfl ?_
                go_simp
                refine (d_mul (Dpc.out.below hS19) (Dpc.out.below hS19) (Kc.out.sz (by decide)) (Kc.out.sz (by decide)) (Kcc.out.sz (by decide)) (by decide) (by decide) (by decide) (by decide)).mono ?_
                rintro e w20 ⟨v20, rfl, hv20, hb20⟩
                obtain ⟨n_cc, a_cc, l_cc, k_cc, E_cc, rfl⟩ := hv20.shape
                have hS20 : Below wr26.heap.size wr26 w20 := below_next hS19 hb20
                have Daa := Lib.hid (Daa.out.below hb20)
                have Dbb := Lib.hid (Dbb.out.below hb20)
                have Ds1 := Lib.hid (Ds1.out.below hb20)
                have BX := Lib.hid (BX.out.below hb20 BL.out)
                have BL := Lib.hid (Nat.lt_of_lt_of_le BL.out hb20.size)
                have Dcc := Lib.hid hv20
                clear hv20 hb20
                refine ⟨hS20, ?_⟩
                refine wpAnyR_oneG (i := 12) rfl (by kernel_rfl) (by kernel_rfl) rfl ?_
                go_simp
                refine (d_mul (Dpd.out.below hS20) (Dpd.out.below hS20) (Kd.out.sz (by decide)) (Kd.out.sz (by decide)) (Kdd.out.sz (by decide)) (by decide) (by decide) (by decide) (by decide)).mono ?_
                rintro e w21 ⟨v21, rfl, hv21, hb21⟩
                obtain ⟨n_dd, a_dd, l_dd, k_dd, E_dd, rfl⟩ := hv21.shape
                have hS21 : Below wr26.heap.size wr26 w21 := below_next hS20 hb21
                have Daa := Lib.hid (Daa.out.below hb21)
                have Dbb := Lib.hid (Dbb.out.below hb21)
                have Ds1 := Lib.hid (Ds1.out.below hb21)
                have Dcc := Lib.hid (Dcc.out.below hb21)
                have BX := Lib.hid (BX.out.below hb21 BL.out)
                have BL := Lib.hid (Nat.lt_of_lt_of_le BL.out hb21.size)
                have Ddd := Lib.hid hv21
                clear hv21 hb21
                refine ⟨hS21, ?_⟩
                refine wpAnyR_oneG (i := 13) rfl (by kernel_rfl) (by kernel_rfl) rfl ?_
                go_simp
                refine (d_add Dcc.out Ddd.out (Kcc.out.sz2 Kdd.out (by decide)) (by decide) (by decide)).mono ?_
                rintro e w22 ⟨v22, rfl, hv22, hb22⟩
                obtain ⟨n_s2, a_s2, l_s2, k_s2, E_s2, rfl⟩ := hv22.shape
                have hS22 : Below wr26.heap.size wr26 w22 := below_next hS21 hb22
                have Daa := Lib.hid (Daa.out.below hb22)
                have Dbb := Lib.hid (Dbb.out.below hb22)
                have Ds1 := Lib.hid (Ds1.out.below hb22)
                have Dcc := Lib.hid (Dcc.out.below hb22)
                have Ddd := Lib.hid (Ddd.out.below hb22)
                have BX := Lib.hid (BX.out.below hb22 BL.out)
                have BL := Lib.hid (Nat.lt_of_lt_of_le BL.out hb22.size)
                have Ds2 := Lib.hid hv22
                clear hv22 hb22
                refine ⟨hS22, ?_⟩
                refine wpAnyR_oneG (i := 14) rfl (by kernel_rfl) (by kernel_rfl) rfl ?_
                go_simp
                refine (d_mul Ds1.out Ds2.out (Ks1.out.sz (by decide)) (Ks2.out.sz (by decide)) (Ksz.out.sz (by decide)) (by decide) (by decide) (by decide) (by decide)).mono ?_
                rintro e w23 ⟨v23, rfl, hv23, hb23⟩
                obtain ⟨n_sz, a_sz, l_sz, k_sz, E_sz, rfl⟩ := hv23.shape
                have hS23 : Below wr26.heap.size wr26 w23 := below_next hS22 hb23
                have Daa := Lib.hid (Daa.out.below hb23)
                have Dbb := Lib.hid (Dbb.out.below hb23)
                have Ds1 := Lib.hid (Ds1.out.below hb23)
                have Dcc := Lib.hid (Dcc.out.below hb23)
                have Ddd := Lib.hid (Ddd.out.below hb23)
                have Ds2 := Lib.hid (Ds2.out.below hb23)
                have BX := Lib.hid (BX.out.below hb23 BL.out)
                have BL := Lib.hid (Nat.lt_of_lt_of_le BL.out hb23.size)
                have Dsz := Lib.hid hv23
                clear hv23 hb23
                refine ⟨hS23, ?_⟩
                have c0 := BX.out.c0; have c1 := BX.out.c1; have c2 := BX.out.c2; have f0 := BX.out.f0; have f1 := BX.out.f1; have f2 := BX.out.f2
                refine wpAnyR_oneG (i := 16) rfl (by kernel_rfl) (by kernel_rfl) rfl ?_
                go_simp
                refine ⟨Box.keepB hS23 RB.out _ _ _, wpAnyR_done (by kernel_rfl) (cutQ_normal ?_) _⟩
                rw [HR27.out]
                refine ⟨(Dv n_pa (.slice a_pa l_pa k_pa) E_pa), (Dv n_pa (.slice a_pa l_pa k_pa) E_pa), (Dv n_aa (.slice a_aa l_aa k_aa) E_aa), (Dv n_pb (.slice a_pb l_pb k_pb) E_pb), (Dv n_pb (.slice a_pb l_pb k_pb) E_pb), (Dv n_bb (.slice a_bb l_bb k_bb) E_bb), (Dv n_s1 (.slice a_s1 l_s1 k_s1) E_s1), (Dv n_pc (.slice a_pc l_pc k_pc) E_pc), (Dv n_pc (.slice a_pc l_pc k_pc) E_pc), (Dv n_cc (.slice a_cc l_cc k_cc) E_cc), (Dv n_pd (.slice a_pd l_pd k_pd) E_pd), (Dv n_pd (.slice a_pd l_pd k_pd) E_pd), (Dv n_dd (.slice a_dd l_dd k_dd) E_dd), (Dv n_s2 (.slice a_s2 l_s2 k_s2) E_s2), (Dv n_sz (.slice a_sz l_sz k_sz) E_sz), b27, n_sz, a_sz, l_sz, k_sz, E_sz, ?_, Box.keepB hS23 RB.out _ _ _, box_store BX.out BL.out _ _ _ _ _, BX.out.keepD Dsz.out _ _ _, RB.out⟩
                kernel_rfl
            · go_simp
              obtain ⟨w17, hw17⟩ : ∃ w', w16.alloc (Obj.cells #[Value.bool false, Value.slice none 0 0, Value.int IntKind.i64 0] 35) = w' := ⟨_, rfl⟩
              have hb17 : Below w16.heap.size w16 w17 := by rw [← hw17]; exact below_alloc _ _
              have hS17 : Below wr26.heap.size wr26 w17 := below_next hS16 hb17
              obtain ⟨b27, hk17⟩ : ∃ b, w16.heap.size = b := ⟨_, rfl⟩
              have BX : Hid (Box w17 b27) := Lib.hid (by have := box_alloc w16; rw [show boxed _ = w17 from hw17, hk17] at this; exact this)
              have BL : Hid (b27 < w17.heap.size) := Lib.hid (by rw [← hw17, ← hk17]; simp)
              have RB : Hid (wr26.heap.size ≤ b27) := Lib.hid (by rw [← hk17]; exact hS16.size)
              have Daa := Lib.hid (Daa.out.below hb17)
              rw [hw17]; try rw [hk17]
              clear hw17 hb17 hk17
              refine ⟨hS17, ?_⟩
              refine wpAnyR_oneG (i := 5) rfl (by kernel_rfl) (by kernel_rfl) rfl ?_
              go_simp
              refine (d_mul (Dpb.out.below hS17) (Dpb.out.below hS17) (Kb.out.sz (by decide)) (Kb.out.sz (by decide)) (Kbb.out.sz (by decide)) (by decide) (by decide) (by decide) (by decide)).mono ?_
              rintro e w18 ⟨v18, rfl, hv18, hb18⟩
              obtain ⟨n_bb, a_bb, l_bb, k_bb, E_bb, rfl⟩ := hv18.shape
              have hS18 : Below wr26.heap.size wr26 w18 := below_next hS17 hb18
              have Daa := Lib.hid (Daa.out.below hb18)
              have BX := Lib.hid (BX.out.below hb18 BL.out)
              have BL := Lib.hid (Nat.lt_of_lt_of_le BL.out hb18.size)
              have Dbb := Lib.hid hv18
              clear hv18 hb18
              refine ⟨hS18, ?_⟩
              refine wpAnyR_oneG (i := 6) rfl (by kernel_rfl) (by kernel_rfl) rfl ?_
              go_simp
              refine (d_add Daa.out Dbb.out (Kaa.out.sz2 Kbb.out (by decide)) (by decide) (by decide)).mono ?_
              rintro e w19 ⟨v19, rfl, hv19, hb19⟩
              obtain ⟨n_s1, a_s1, l_s1, k_s1, E_s1, rfl⟩ := hv19.shape
              have hS19 : Below wr26.heap.size wr26 w19 := below_next hS18 hb19
              have Daa := Lib.hid (Daa.out.below hb19)
              have Dbb := Lib.hid (Dbb.out.below hb19)
              have BX := Lib.hid (BX.out.below hb19 BL.out)
              have BL := Lib.hid (Nat.lt_of_lt_of_le BL.out hb19.size)
              have Ds1 := Lib.hid hv19
              clear hv19 hb19
              refine ⟨hS19, ?_⟩
              refine wpAnyR_oneG (i := 9) rfl (by kernel_rfl) (by kernel_rfl) rfl ?_
              go_simp
              refine (d_mul (Dpc.out.below hS19) (Dpc.out.below hS19) (Kc.out.sz (by decide)) (Kc.out.sz (by decide)) (Kcc.out.sz (by decide)) (by decide) (by decide) (by decide) (by decide)).mono ?_
              rintro e w20 ⟨v20, rfl, hv20, hb20⟩
              obtain ⟨n_cc, a_cc, l_cc, k_cc, E_cc, rfl⟩ := hv20.shape
              have hS20 : Below wr26.heap.size wr26 w20 := below_next hS19 hb20
              have Daa := Lib.hid (Daa.out.below hb20)
              have Dbb := Lib.hid (Dbb.out.below hb20)
              have Ds1 := Lib.hid (Ds1.out.below hb20)
              have BX := Lib.hid (BX.out.below hb20 BL.out)
              have BL := Lib.hid (Nat.lt_of_lt_of_le BL.out hb20.size)
              have Dcc := Lib.hid hv20
              clear hv20 hb20
              refine ⟨hS20, ?_⟩
              refine wpAnyR_oneG (i := 12) rfl (by kernel_rfl) (by kernel_rfl) rfl ?_
              go_simp
              refine (d_mul (Dpd.out.below hS20) (Dpd.out.below hS20) (Kd.out.sz (by decide)) (Kd.out.sz (by decide)) (Kdd.out.sz (by decide)) (by decide) (by decide) (by decide) (by decide)).mono ?_
              rintro e w21 ⟨v21, rfl, hv21, hb21⟩
              obtain ⟨n_dd, a_dd, l_dd, k_dd, E_dd, rfl⟩ := hv21.shape
              have hS21 : Below wr26.heap.size wr26 w21 := below_next hS20 hb21
              have Daa := Lib.hid (Daa.out.below hb21)
              have Dbb := Lib.hid (Dbb.out.below hb21)
              have Ds1 := Lib.hid (Ds1.out.below hb21)
              have Dcc := Lib.hid (Dcc.out.below hb21)
              have BX := Lib.hid (BX.out.below hb21 BL.out)
              have BL := Lib.hid (Nat.lt_of_lt_of_le BL.out hb21.size)
              have Ddd := Lib.hid hv21
              clear hv21 hb21
              refine ⟨hS21, ?_⟩
              refine wpAnyR_oneG (i := 13) rfl (by kernel_rfl) (by kernel_rfl) rfl ?_
              go_simp
              refine (d_add Dcc.out Ddd.out (Kcc.out.sz2 Kdd.out (by decide)) (by decide) (by decide)).mono ?_
              rintro e w22 ⟨v22, rfl, hv22, hb22⟩
              obtain ⟨n_s2, a_s2, l_s2, k_s2, E_s2, rfl⟩ := hv22.shape
              have hS22 : Below wr26.heap.size wr26 w22 := below_next hS21 hb22
              have Daa := Lib.hid (Daa.out.below hb22)
              have Dbb := Lib.hid (Dbb.out.below hb22)
              have Ds1 := Lib.hid (Ds1.out.below hb22)
              have Dcc := Lib.hid (Dcc.out.below hb22)
              have Ddd := Lib.hid (Ddd.out.below hb22)
              have BX := Lib.hid (BX.out.below hb22 BL.out)
              have BL := Lib.hid (Nat.lt_of_lt_of_le BL.out hb22.size)
              have Ds2 := Lib.hid hv22
              clear hv22 hb22
              refine ⟨hS22, ?_⟩
              refine wpAnyR_oneG (i := 14) rfl (by kernel_rfl) (by kernel_rfl) rfl ?_
              go_simp
              refine (d_mul Ds1.out Ds2.out (Ks1.out.sz (by decide)) (Ks2.out.sz (by decide)) (Ksz.out.sz (by decide)) (by decide) (by decide) (by decide) (by decide)).mono ?_
              rintro e w23 ⟨v23, rfl, hv23, hb23⟩
              obtain ⟨n_sz, a_sz, l_sz, k_sz, E_sz, rfl⟩ := hv23.shape
              have hS23 : Below wr26.heap.size wr26 w23 := below_next hS22 hb23
              have Daa := Lib.hid (Daa.out.below hb23)
              have Dbb := Lib.hid (Dbb.out.below hb23)
              have Ds1 := Lib.hid (Ds1.out.below hb23)
              have Dcc := Lib.hid (Dcc.out.below hb23)
              have Ddd := Lib.hid (Ddd.out.below hb23)
              have Ds2 := Lib.hid (Ds2.out.below hb23)
              have BX := Lib.hid (BX.out.below hb23 BL.out)
              have BL := Lib.hid (Nat.lt_of_lt_of_le BL.out hb23.size)
              have Dsz := Lib.hid hv23
              clear hv23 hb23
              refine ⟨hS23, ?_⟩
              have c0 := BX.out.c0; have c1 := BX.out.c1; have c2 := BX.out.c2; have f0 := BX.out.f0; have f1 := BX.out.f1; have f2 := BX.out.f2
              refine wpAnyR_oneG (i := 16) rfl (by kernel_rfl) (by kernel_rfl) rfl ?_
              go_simp
              refine ⟨Box.keepB hS23 RB.out _ _ _, wpAnyR_done (by kernel_rfl) (cutQ_normal ?_) _⟩
              rw [HR27.out]
              refine ⟨(Dv n_pa (.slice a_pa l_pa k_pa) E_pa), (Dv n_pa (.slice a_pa l_pa k_pa) E_pa), (Dv n_aa (.slice a_aa l_aa k_aa) E_aa), (Dv n_pb (.slice a_pb l_pb k_pb) E_pb), (Dv n_pb (.slice a_pb l_pb k_pb) E_pb), (Dv n_bb (.slice a_bb l_bb k_bb) E_bb), (Dv n_s1 (.slice a_s1 l_s1 k_s1) E_s1), (Dv n_pc (.slice a_pc l_pc k_pc) E_pc), (Dv n_pc (.slice a_pc l_pc k_pc) E_pc), (Dv n_cc (.slice a_cc l_cc k_cc) E_cc), (Dv n_pd (.slice a_pd l_pd k_pd) E_pd), (Dv n_pd (.slice a_pd l_pd k_pd) E_pd), (Dv n_dd (.slice a_dd l_dd k_dd) E_dd), (Dv n_s2 (.slice a_s2 l_s2 k_s2) E_s2), (Dv n_sz (.slice a_sz l_sz k_sz) E_sz), b27, n_sz, a_sz, l_sz, k_sz, E_sz, ?_, Box.keepB hS23 RB.out _ _ _, box_store BX.out BL.out _ _ _ _ _, BX.out.keepD Dsz.out _ _ _, RB.out⟩
              kernel_rfl
          · go_simp
            obtain ⟨w16, hw16⟩ : ∃ w', wd15.alloc (Obj.cells #[Value.bool false, Value.slice none 0 0, Value.int IntKind.i64 0] 35) = w' := ⟨_, rfl⟩
            have hb16 : Below wd15.heap.size wd15 w16 := by rw [← hw16]; exact below_alloc _ _
            have hS16 : Below wr26.heap.size wr26 w16 := below_next hS15 hb16
            obtain ⟨b27, hk16⟩ : ∃ b, wd15.heap.size = b := ⟨_, rfl⟩
            have BX : Hid (Box w16 b27) := Lib.hid (by have := box_alloc wd15; rw [show boxed _ = w16 from hw16, hk16] at this; exact this)
            have BL : Hid (b27 < w16.heap.size) := Lib.hid (by rw [← hw16, ← hk16]; simp)
            have RB : Hid (wr26.heap.size ≤ b27) := Lib.hid (by rw [← hk16]; exact hS15.size)
            rw [hw16]; try rw [hk16]
            clear hw16 hb16 hk16
            refine ⟨hS16, ?_⟩
            refine wpAnyR_oneG (i := 2) rfl (by kernel_rfl) (by kernel_rfl) rfl ?_
            go_simp
            refine (d_mul (Dpa.out.below hS16) (Dpa.out.below hS16) (Ka.out.sz (by decide)) (Ka.out.sz (by decide)) (Kaa.out.sz (by decide)) (by decide) (by decide) (by decide) (by decide)).mono ?_
            rintro e w17 ⟨v17, rfl, hv17, hb17⟩
            obtain ⟨n_aa, a_aa, l_aa, k_aa, E_aa, rfl⟩ := hv17.shape
            have hS17 : Below wr26.heap.size wr26 w17 := below_next hS16 hb17
            have BX := Lib.hid (BX.out.below hb17 BL.out)
            have BL := Lib.hid (Nat.lt_of_lt_of_le BL.out hb17.size)
            have Daa := Lib.hid hv17
            clear hv17 hb17
            refine ⟨hS17, ?_⟩
            refine wpAnyR_oneG (i := 5) rfl (by kernel_rfl) (by kernel_rfl) rfl ?_
            go_simp
            refine (d_mul (Dpb.out.below hS17) (Dpb.out.below hS17) (Kb.out.sz (by decide)) (Kb.out.sz (by decide)) (Kbb.out.sz (by decide)) (by decide) (by decide) (by decide) (by decide)).mono ?_
            rintro e w18 ⟨v18, rfl, hv18, hb18⟩
            obtain ⟨n_bb, a_bb, l_bb, k_bb, E_bb, rfl⟩ := hv18.shape
            have hS18 : Below wr26.heap.size wr26 w18 := below_next hS17 hb18
            have Daa := Lib.hid (Daa.out.below hb18)
            have BX := Lib.hid (BX.out.below hb18 BL.out)
            have BL := Lib.hid (Nat.lt_of_lt_of_le BL.out hb18.size)
            have Dbb := Lib.hid hv18
            clear hv18 hb18
            refine ⟨hS18, ?_⟩
            refine wpAnyR_oneG (i := 6) rfl (by kernel_rfl) (by kernel_rfl) rfl ?_
            go_simp
            refine (d_add Daa.out Dbb.out (Kaa.out.sz2 Kbb.out (by decide)) (by decide) (by decide)).mono ?_
            rintro e w19 ⟨v19, rfl, hv19, hb19⟩
            obtain ⟨n_s1, a_s1, l_s1, k_s1, E_s1, rfl⟩ := hv19.shape
            have hS19 : Below wr26.heap.size wr26 w19 := below_next hS18 hb19
            have Daa := Lib.hid (Daa.out.below hb19)
            have Dbb := Lib.hid (Dbb.out.below hb19)
            have BX := Lib.hid (BX.out.below hb19 BL.out)
            have BL := Lib.hid (Nat.lt_of_lt_of_le BL.out hb19.size)
            have Ds1 := Lib.hid hv19
            clear hv19 hb19
            refine ⟨hS19, ?_⟩
            refine wpAnyR_oneG (i := 9) rfl (by kernel_rfl) (by kernel_rfl) rfl ?_
            go_simp
            refine (d_mul (Dpc.out.below hS19) (Dpc.out.below hS19) (Kc.out.sz (by decide)) (Kc.out.sz (by decide)) (Kcc.out.sz (by decide)) (by decide) (by decide) (by decide) (by decide)).mono ?_
            rintro e w20 ⟨v20, rfl, hv20, hb20⟩
            obtain ⟨n_cc, a_cc, l_cc, k_cc, E_cc, rfl⟩ := hv20.shape
            have hS20 : Below wr26.heap.size wr26 w20 := below_next hS19 hb20
            have Daa := Lib.hid (Daa.out.below hb20)
            have Dbb := Lib.hid (Dbb.out.below hb20)
            have Ds1 := Lib.hid (Ds1.out.below hb20)
            have BX := Lib.hid (BX.out.below hb20 BL.out)
            have BL := Lib.hid (Nat.lt_of_lt_of_le BL.out hb20.size)
            have Dcc := Lib.hid hv20
            clear hv20 hb20
            refine ⟨hS20, ?_⟩
            refine wpAnyR_oneG (i := 12) rfl (by kernel_rfl) (by kernel_rfl) rfl ?_
            go_simp
            refine (d_mul (Dpd.out.below hS20) (Dpd.out.below hS20) (Kd.out.sz (by decide)) (Kd.out.sz (by decide)) (Kdd.out.sz (by decide)) (by decide) (by decide) (by decide) (by decide)).mono ?_
            rintro e w21 ⟨v21, rfl, hv21, hb21⟩
            obtain ⟨n_dd, a_dd, l_dd, k_dd, E_dd, rfl⟩ := hv21.shape
            have hS21 : Below wr26.heap.size wr26 w21 := below_next hS20 hb21
            have Daa := Lib.hid (Daa.out.below hb21)
            have Dbb := Lib.hid (Dbb.out.below hb21)
            have Ds1 := Lib.hid (Ds1.out.below hb21)
            have Dcc := Lib.hid (Dcc.out.below hb21)
            have BX := Lib.hid (BX.out.below hb21 BL.out)
            have BL := Lib.hid (Nat.lt_of_lt_of_le BL.out hb21.size)
            have Ddd := Lib.hid hv21
            clear hv21 hb21
            refine ⟨hS21, ?_⟩
            refine wpAnyR_oneG (i := 13) rfl (by kernel_rfl) (by kernel_rfl) rfl ?_
            go_simp
            refine (d_add Dcc.out Ddd.out (Kcc.out.sz2 Kdd.out (by decide)) (by decide) (by decide)).mono ?_
            rintro e w22 ⟨v22, rfl, hv22, hb22⟩
            obtain ⟨n_s2, a_s2, l_s2, k_s2, E_s2, rfl⟩ := hv22.shape
            have hS22 : Below wr26.heap.size wr26 w22 := below_next hS21 hb22
            have Daa := Lib.hid (Daa.out.below hb22)
            have Dbb := Lib.hid (Dbb.out.below hb22)
            have Ds1 := Lib.hid (Ds1.out.below hb22)
            have Dcc := Lib.hid (Dcc.out.below hb22)
            have Ddd := Lib.hid (Ddd.out.below hb22)
            have BX := Lib.hid (BX.out.below hb22 BL.out)
            have BL := Lib.hid (Nat.lt_of_lt_of_le BL.out hb22.size)
            have Ds2 := Lib.hid hv22
            clear hv22 hb22
            refine ⟨hS22, ?_⟩
            refine wpAnyR_oneG (i := 14) rfl (by kernel_rfl) (by kernel_rfl) rfl ?_
            go_simp
            refine (d_mul Ds1.out Ds2.out (Ks1.out.sz (by decide)) (Ks2.out.sz (by decide)) (Ksz.out.sz (by decide)) (by decide) (by decide) (by decide) (by decide)).mono ?_
            rintro e w23 ⟨v23, rfl, hv23, hb23⟩
            obtain ⟨n_sz, a_sz, l_sz, k_sz, E_sz, rfl⟩ := hv23.shape
            have hS23 : Below wr26.heap.size wr26 w23 := below_next hS22 hb23
            have Daa := Lib.hid (Daa.out.below hb23)
            have Dbb := Lib.hid (Dbb.out.below hb23)
            have Ds1 := Lib.hid (Ds1.out.below hb23)
            have Dcc := Lib.hid (Dcc.out.below hb23)
            have Ddd := Lib.hid (Ddd.out.below hb23)
            have Ds2 := Lib.hid (Ds2.out.below hb23)
            have BX := Lib.hid (BX.out.below hb23 BL.out)
            have BL := Lib.hid (Nat.lt_of_lt_of_le BL.out hb23.size)
            have Dsz := Lib.hid hv23
            clear hv23 hb23
            refine ⟨hS23, ?_⟩
            have c0 := BX.out.c0; have c1 := BX.out.c1; have c2 := BX.out.c2; have f0 := BX.out.f0; have f1 := BX.out.f1; have f2 := BX.out.f2
            refine wpAnyR_oneG (i := 16) rfl (by kernel_rfl) (by kernel_rfl) rfl ?_
            go_simp
            refine ⟨Box.keepB hS23 RB.out _ _ _, wpAnyR_done (by kernel_rfl) (cutQ_normal ?_) _⟩
            rw [HR27.out]
            refine ⟨(Dv n_pa (.slice a_pa l_pa k_pa) E_pa), (Dv n_pa (.slice a_pa l_pa k_pa) E_pa), (Dv n_aa (.slice a_aa l_aa k_aa) E_aa), (Dv n_pb (.slice a_pb l_pb k_pb) E_pb), (Dv n_pb (.slice a_pb l_pb k_pb) E_pb), (Dv n_bb (.slice a_bb l_bb k_bb) E_bb), (Dv n_s1 (.slice a_s1 l_s1 k_s1) E_s1), (Dv n_pc (.slice a_pc l_pc k_pc) E_pc), (Dv n_pc (.slice a_pc l_pc k_pc) E_pc), (Dv n_cc (.slice a_cc l_cc k_cc) E_cc), (Dv n_pd (.slice a_pd l_pd k_pd) E_pd), (Dv n_pd (.slice a_pd l_pd k_pd) E_pd), (Dv n_dd (.slice a_dd l_dd k_dd) E_dd), (Dv n_s2 (.slice a_s2 l_s2 k_s2) E_s2), (Dv n_sz (.slice a_sz l_sz k_sz) E_sz), b27, n_sz, a_sz, l_sz, k_sz, E_sz, ?_, Box.keepB hS23 RB.out _ _ _, box_store BX.out BL.out _ _ _ _ _, BX.out.keepD Dsz.out _ _ _, RB.out⟩
            kernel_rfl
        · intro a' wr27 hr
          rw [HR27.out] at hr
          obtain ⟨u120, u121, u122, u123, u124, u125, u126, u127, u128, u129, u130, u131, u132, u133, u134, b27, n_sz, a_sz, l_sz, k_sz, E_sz, rfl, hbr, hvr, hdr, _⟩ := hr
          go_simp
          have Dx := Lib.hid (Dx.out.below hbr)
          have V12 := Lib.hid (V12.out.below hbr)
          have Dy := Lib.hid (Dy.out.below hbr)
          have V14 := Lib.hid (V14.out.below hbr)
          have Dpa := Lib.hid (Dpa.out.below hbr)
          have V16 := Lib.hid (V16.out.below hbr)
          have Dpb := Lib.hid (Dpb.out.below hbr)
          have V18 := Lib.hid (V18.out.below hbr)
          have Dpc := Lib.hid (Dpc.out.below hbr)
          have V20 := Lib.hid (V20.out.below hbr)
          have Dpd := Lib.hid (Dpd.out.below hbr)
          have V22 := Lib.hid (V22.out.below hbr)
          have V24 := Lib.hid (V24.out.below hbr)
          have Du := Lib.hid (Du.out.below hbr)
          have V25 := Lib.hid (V25.out.below hbr)
          have Dvq := Lib.hid (Dvq.out.below hbr)
          have V26 := Lib.hid (V26.out.below hbr)
          have Doff := Lib.hid (Doff.out.below hbr)
          have HB := Lib.hid (below_next HB.out hbr)
          have V27 := Lib.hid hvr
          have Dsz := Lib.hid hdr
          clear hbr hvr hdr
          have HL := Lib.hid (HNE.out FTa.out FTb.out FTc.out FTd.out x y Px.out.1 Py.out.1)
          have HZL : Hid ((digs ((((Fl.VV x * (Fl.ONE : Int) + -(Fl.VV a * Fl.VV c + -(Fl.VV b * Fl.VV d))) * (Fl.VV x * (Fl.ONE : Int) + -(Fl.VV a * Fl.VV c + -(Fl.VV b * Fl.VV d))) + (Fl.VV y * (Fl.ONE : Int) + -(Fl.VV a * Fl.VV d + Fl.VV b * Fl.VV c)) * (Fl.VV y * (Fl.ONE : Int) + -(Fl.VV a * Fl.VV d + Fl.VV b * Fl.VV c))) * ((2 ^ 102 : Nat) : Int)).natAbs + ((Fl.VV a * Fl.VV a + Fl.VV b * Fl.VV b) * (Fl.VV c * Fl.VV c + Fl.VV d * Fl.VV d)).natAbs)).length ≤ 800) := Lib.hid ((bd_pow (L := 8499) Koff.out rfl).sz2 (Ksz.out.mono (by decide)) (by decide))
          have HC : Hid (cmpv (((Fl.VV x * (Fl.ONE : Int) + -(Fl.VV a * Fl.VV c + -(Fl.VV b * Fl.VV d))) * (Fl.VV x * (Fl.ONE : Int) + -(Fl.VV a * Fl.VV c + -(Fl.VV b * Fl.VV d))) + (Fl.VV y * (Fl.ONE : Int) + -(Fl.VV a * Fl.VV d + Fl.VV b * Fl.VV c)) * (Fl.VV y * (Fl.ONE : Int) + -(Fl.VV a * Fl.VV d + Fl.VV b * Fl.VV c))) * ((2 ^ 102 : Nat) : Int)) ((Fl.VV a * Fl.VV a + Fl.VV b * Fl.VV b) * (Fl.VV c * Fl.VV c + Fl.VV d * Fl.VV d)) ≤ 0) := Lib.hid (by have := HL.out; unfold cmpv; split; decide; split; decide; omega)
          go_wp2_with fail
          refine wp_region_still (S := Below wr27.heap.size wr27) (by kernel_rfl) ?_
          have hS15 : Below wr27.heap.size wr27 wr27.drew := (Below.refl _ wr27).drew
          refine wpAnyR_take (i := 0) rfl (by kernel_rfl) (by kernel_rfl) (by kernel_rfl) (fun _ _ _ h => h) hS15 (.inl ⟨by kernel_rfl, fun w' hS => (by go_simp; exact ⟨rfl, rfl⟩)⟩) rfl (by go_simp; rfl) ?_
          refine wpAnyR_take (i := 1) rfl (by kernel_rfl) (by kernel_rfl) (by kernel_rfl) (fun _ _ _ h => h) hS15 (.inl ⟨by kernel_rfl, fun w' hS => (by go_simp; exact ⟨rfl, rfl⟩)⟩) rfl (by go_simp; rfl) ?_
          refine wpAnyR_take (i := 2) rfl (by kernel_rfl) (by kernel_rfl) (by kernel_rfl) (fun _ _ _ h => h) hS15 (.inl ⟨by kernel_rfl, fun w' hS => (by have y260 := cell_at hS V26.out.lt V26.out.c0; have y261 := cell_at hS V26.out.lt V26.out.c1; have y262 := cell_at hS V26.out.lt V26.out.c2; go_simp; exact ⟨rfl, rfl⟩)⟩) rfl (by go_simp; rfl) ?_
          refine wpAnyR_take (i := 3) rfl (by kernel_rfl) (by kernel_rfl) (by kernel_rfl) (fun _ _ _ h => h) hS15 (.inl ⟨by kernel_rfl, fun w' hS => (by have y270 := cell_at hS V27.out.lt V27.out.c0; have y271 := cell_at hS V27.out.lt V27.out.c1; have y272 := cell_at hS V27.out.lt V27.out.c2; go_simp; exact ⟨rfl, rfl⟩)⟩) rfl (by go_simp; rfl) ?_
          refine wpAnyR_oneG (i := 4) rfl (by kernel_rfl) (by kernel_rfl) rfl ?_
          go_simp
          refine (d_shift (Dsz.out.below hS15) (Ksz.out.sz (by decide)) (-102) (by decide) (by decide) (by decide) (by decide)).mono ?_
          rintro e w16 ⟨v16, rfl, hv16, hb16⟩
          obtain ⟨n_sh, a_sh, l_sh, k_sh, E_sh, rfl⟩ := hv16.shape
          have hS16 : Below wr27.heap.size wr27 w16 := below_next hS15 hb16
          have Dsh := Lib.hid hv16
          clear hv16 hb16
          refine ⟨hS16, ?_⟩
          refine wpAnyR_oneG (i := 5) rfl (by kernel_rfl) (by kernel_rfl) rfl ?_
          go_simp
          refine (d_cmp ((Doff.out.below hS16).to 102 (e' := -1074 + -1074 + (-1074 + -1074) + -102) (by decide) rfl) Dsh.out HZL.out (by decide) (by decide)).mono ?_
          rintro e w17 ⟨rfl, hb17⟩
          have hS17 : Below wr27.heap.size wr27 w17 := below_next hS16 hb17
          have Dsh := Lib.hid (Dsh.out.below hb17)
          clear hb17
          generalize cmpv (((Fl.VV x * (Fl.ONE : Int) + -(Fl.VV a * Fl.VV c + -(Fl.VV b * Fl.VV d))) * (Fl.VV x * (Fl.ONE : Int) + -(Fl.VV a * Fl.VV c + -(Fl.VV b * Fl.VV d))) + (Fl.VV y * (Fl.ONE : Int) + -(Fl.VV a * Fl.VV d + Fl.VV b * Fl.VV c)) * (Fl.VV y * (Fl.ONE : Int) + -(Fl.VV a * Fl.VV d + Fl.VV b * Fl.VV c))) * ((2 ^ 102 : Nat) : Int)) ((Fl.VV a * Fl.VV a + Fl.VV b * Fl.VV b) * (Fl.VV c * Fl.VV c + Fl.VV d * Fl.VV d)) = cc at HC ⊢
          have hcc := HC.out
          refine ⟨hS17, ?_⟩
          refine wpAnyR_take (i := 6) rfl (by kernel_rfl) (by kernel_rfl) (by kernel_rfl) (fun _ _ _ h => h) hS17 (.inl ⟨by kernel_rfl, fun w' hS => (by go_simp; exact ⟨rfl, rfl⟩)⟩) rfl (by go_simp; rfl) ?_
          refine wpAnyR_take (i := 7) rfl (by kernel_rfl) (by kernel_rfl) (by kernel_rfl) (fun _ _ _ h => h) hS17 (.inl ⟨by kernel_rfl, fun w' hS => (by go_simp; exact ⟨rfl, rfl⟩)⟩) rfl (by go_simp; rfl) ?_
          refine wpAnyR_take (i := 8) rfl (by kernel_rfl) (by kernel_rfl) (by kernel_rfl) (fun _ _ _ h => h) hS17 (.inl ⟨by kernel_rfl, fun w' hS => (by go_simp; exact ⟨rfl, rfl⟩)⟩) rfl (by go_simp; rfl) ?_
          refine wpAnyR_done (by kernel_rfl) ?_ _
          have Dx := Lib.hid (Dx.out.below hS17)
          have V12 := Lib.hid (V12.out.below hS17)
          have Dy := Lib.hid (Dy.out.below hS17)
          have V14 := Lib.hid (V14.out.below hS17)
          have Dpa := Lib.hid (Dpa.out.below hS17)
          have V16 := Lib.hid (V16.out.below hS17)
          have Dpb := Lib.hid (Dpb.out.below hS17)
          have V18 := Lib.hid (V18.out.below hS17)
          have Dpc := Lib.hid (Dpc.out.below hS17)
          have V20 := Lib.hid (V20.out.below hS17)
          have Dpd := Lib.hid (Dpd.out.below hS17)
          have V22 := Lib.hid (V22.out.below hS17)
          have V24 := Lib.hid (V24.out.below hS17)
          have Du := Lib.hid (Du.out.below hS17)
          have V25 := Lib.hid (V25.out.below hS17)
          have Dvq := Lib.hid (Dvq.out.below hS17)
          have V26 := Lib.hid (V26.out.below hS17)
          have Doff := Lib.hid (Doff.out.below hS17)
          have V27 := Lib.hid (V27.out.below hS17)
          have Dsz := Lib.hid (Dsz.out.below hS17)
          have HB := Lib.hid (below_next HB.out hS17)
          go_wp2
          go_ret
          exact ⟨rfl, HB.out⟩
end Go.Proofs.Ytemneeknemijpaa
