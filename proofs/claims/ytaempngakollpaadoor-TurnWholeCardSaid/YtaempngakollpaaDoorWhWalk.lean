/- TurnWhole: the law's walk. Under: the library's table as its initialiser lays it. -/
import Derived.Test.YtaempngakollpaaDoorPlcWalk
namespace Go.Proofs.YtaempngakollpaaDoor
open Go.RowKit Go.Shelf

/-- What stands at the head of either loop: the angle that is turned, in a block of its own. -/
def LpSt (V : World) (B : Nat) (ck cq : Int) (wr : World) : Prop := (Below V.heap.size V wr ∧ B = V.heap.size) ∧ wr.cell? ⟨B, 0, none⟩ = some (.int .i64 ck) ∧ wr.cell? ⟨B, 1, none⟩ = some (.int .i64 cq) ∧ wr.frozen? ⟨B, 0, none⟩ = false ∧ wr.frozen? ⟨B, 1, none⟩ = false
theorem LpSt.set0 {V wr : World} {B : Nat} {ck cq : Int} (h : LpSt V B ck cq wr) (x : Int) : LpSt V B x cq (wr.setCell ⟨B, 0, none⟩ (.int .i64 x)) := by
  obtain ⟨⟨h1, rfl⟩, s0, s1, s2, s3⟩ := h
  exact ⟨⟨h1.setCell (Nat.le_refl _) _, rfl⟩, by simp [go_sem, s0], by simp [go_sem, s1], by simp [go_sem, s2], by simp [go_sem, s3]⟩
theorem LpSt.set1 {V wr : World} {B : Nat} {ck cq : Int} (h : LpSt V B ck cq wr) (x : Int) : LpSt V B ck x (wr.setCell ⟨B, 1, none⟩ (.int .i64 x)) := by
  obtain ⟨⟨h1, rfl⟩, s0, s1, s2, s3⟩ := h
  exact ⟨⟨h1.setCell (Nat.le_refl _) _, rfl⟩, by simp [go_sem, s0], by simp [go_sem, s1], by simp [go_sem, s2], by simp [go_sem, s3]⟩
theorem LpSt.new (V : World) (ck cq : Int) : LpSt V V.heap.size ck cq (V.alloc (.cells #[.int .i64 ck, .int .i64 cq] 23)) :=
  ⟨⟨(Below.refl _ _).alloc (Nat.le_refl _) _, rfl⟩, by simp [go_sem], by simp [go_sem], by simp [go_sem], by simp [go_sem]⟩

theorem whole_val (ak : Int) (aq j : Nat) (hq : aq ≤ 40) : val (ak + j * ((2 ^ aq : Nat) : Int)) aq % 1099511627776 = val ak aq % 1099511627776 := by
  rw [val_add]
  have : val ((j : Int) * ((2 ^ aq : Nat) : Int)) aq = 1099511627776 * j := by
    unfold val
    rw [← pow_int, Int.mul_assoc, pow_split aq hq, Int.mul_comm]
  rw [this, Int.add_mul_emod_self_left]
theorem parts_val (ak : Int) (aq j : Nat) (hq : aq + j ≤ 40) : val (ak * 2 ^ j) (aq + j) = val ak aq := by
  have := val_shift ak aq (aq + j) (by omega) hq
  rw [show aq + j - aq = j by omega] at this
  exact this

set_option maxHeartbeats 2000000 in
theorem turnWhole_no_r (ak aq n k : Int) (hr : isR ak aq = false) (w : World) (ht : Tab w) : Calls Tryd.prog 7 #[Ag ak aq, .int .u8 n, .int .u8 k] w (Says w true) := by
  have T0 := Lib.hid ht
  have HR := Lib.hid hr
  clear ht hr
  go_enter Tryd.func7, Tryd.ntmps7
  go_wp2_with fail
  obtain ⟨w0, hW⟩ : ∃ w0, (w.alloc (.cells #[.int .i64 ak, .int .i64 aq] 23)) = w0 := ⟨_, rfl⟩
  have HB0 : Hid (Below w.heap.size w w0) := Lib.hid (by rw [← hW]; exact ((Below.refl w.heap.size w).alloc (by first | exact Nat.le_refl _ | (simp; done) | (simp; omega)) _))
  have TW0 := Lib.hid (T0.out.below HB0.out)
  have z00 : w0.cell? ⟨w.heap.size, 0, none⟩ = some (.int .i64 ak) := by rw [← hW]; simp [go_sem]
  have z01 : w0.cell? ⟨w.heap.size, 1, none⟩ = some (.int .i64 aq) := by rw [← hW]; simp [go_sem]
  rw [hW]
  clear hW
  refine Calls.mono (l6_head _ TW0.out) ?_
  rintro e' w1 ⟨rfl, hb⟩
  have HB1 := Lib.hid (HB0.out.trans (hb.mono HB0.out.size))
  have TW1 := Lib.hid (TW0.out.below hb)
  replace z00 := cell_of hb z00
  replace z01 := cell_of hb z01
  clear hb HB0 TW0
  go_wp2_with fail
  refine Calls.mono (right13 ak aq _) ?_
  rintro e' w2 ⟨rfl, hb⟩
  rw [HR.out]
  have HB2 := Lib.hid (HB1.out.trans (hb.mono HB1.out.size))
  have TW2 := Lib.hid (TW1.out.below hb)
  replace z00 := cell_of hb z00
  replace z01 := cell_of hb z01
  clear hb HB1 TW1
  go_wp2
  go_ret
  exact ⟨rfl, HB2.out⟩

set_option maxHeartbeats 2000000 in
theorem turnWhole_no_q (ak aq n k : Int) (hr : isR ak aq = true) (h : 25 < aq) (w : World) (ht : Tab w) : Calls Tryd.prog 7 #[Ag ak aq, .int .u8 n, .int .u8 k] w (Says w true) := by
  have T0 := Lib.hid ht
  have HR := Lib.hid hr
  clear ht hr
  go_enter Tryd.func7, Tryd.ntmps7
  go_wp2_with fail
  obtain ⟨w0, hW⟩ : ∃ w0, (w.alloc (.cells #[.int .i64 ak, .int .i64 aq] 23)) = w0 := ⟨_, rfl⟩
  have HB0 : Hid (Below w.heap.size w w0) := Lib.hid (by rw [← hW]; exact ((Below.refl w.heap.size w).alloc (by first | exact Nat.le_refl _ | (simp; done) | (simp; omega)) _))
  have TW0 := Lib.hid (T0.out.below HB0.out)
  have z00 : w0.cell? ⟨w.heap.size, 0, none⟩ = some (.int .i64 ak) := by rw [← hW]; simp [go_sem]
  have z01 : w0.cell? ⟨w.heap.size, 1, none⟩ = some (.int .i64 aq) := by rw [← hW]; simp [go_sem]
  rw [hW]
  clear hW
  refine Calls.mono (l6_head _ TW0.out) ?_
  rintro e' w1 ⟨rfl, hb⟩
  have HB1 := Lib.hid (HB0.out.trans (hb.mono HB0.out.size))
  have TW1 := Lib.hid (TW0.out.below hb)
  replace z00 := cell_of hb z00
  replace z01 := cell_of hb z01
  clear hb HB0 TW0
  go_wp2_with fail
  refine Calls.mono (right13 ak aq _) ?_
  rintro e' w2 ⟨rfl, hb⟩
  rw [HR.out]
  have HB2 := Lib.hid (HB1.out.trans (hb.mono HB1.out.size))
  have TW2 := Lib.hid (TW1.out.below hb)
  replace z00 := cell_of hb z00
  replace z01 := cell_of hb z01
  clear hb HB1 TW1
  go_wp2
  go_ret
  exact ⟨rfl, HB2.out⟩

set_option maxHeartbeats 2000000 in
theorem turnWhole_no_k (ak aq n k : Int) (hr : isR ak aq = true) (h2 : aq ≤ 25) (h : 33554432 < ak) (w : World) (ht : Tab w) : Calls Tryd.prog 7 #[Ag ak aq, .int .u8 n, .int .u8 k] w (Says w true) := by
  have T0 := Lib.hid ht
  have HR := Lib.hid hr
  clear ht hr
  go_enter Tryd.func7, Tryd.ntmps7
  go_wp2_with fail
  obtain ⟨w0, hW⟩ : ∃ w0, (w.alloc (.cells #[.int .i64 ak, .int .i64 aq] 23)) = w0 := ⟨_, rfl⟩
  have HB0 : Hid (Below w.heap.size w w0) := Lib.hid (by rw [← hW]; exact ((Below.refl w.heap.size w).alloc (by first | exact Nat.le_refl _ | (simp; done) | (simp; omega)) _))
  have TW0 := Lib.hid (T0.out.below HB0.out)
  have z00 : w0.cell? ⟨w.heap.size, 0, none⟩ = some (.int .i64 ak) := by rw [← hW]; simp [go_sem]
  have z01 : w0.cell? ⟨w.heap.size, 1, none⟩ = some (.int .i64 aq) := by rw [← hW]; simp [go_sem]
  rw [hW]
  clear hW
  refine Calls.mono (l6_head _ TW0.out) ?_
  rintro e' w1 ⟨rfl, hb⟩
  have HB1 := Lib.hid (HB0.out.trans (hb.mono HB0.out.size))
  have TW1 := Lib.hid (TW0.out.below hb)
  replace z00 := cell_of hb z00
  replace z01 := cell_of hb z01
  clear hb HB0 TW0
  go_wp2_with fail
  refine Calls.mono (right13 ak aq _) ?_
  rintro e' w2 ⟨rfl, hb⟩
  rw [HR.out]
  have HB2 := Lib.hid (HB1.out.trans (hb.mono HB1.out.size))
  have TW2 := Lib.hid (TW1.out.below hb)
  replace z00 := cell_of hb z00
  replace z01 := cell_of hb z01
  clear hb HB1 TW1
  go_wp2
  go_ret
  exact ⟨rfl, HB2.out⟩

set_option maxHeartbeats 2000000 in
theorem turnWhole_no_l (ak aq n k : Int) (hr : isR ak aq = true) (h2 : aq ≤ 25) (h3 : ak ≤ 33554432) (h : ak < -33554432) (w : World) (ht : Tab w) : Calls Tryd.prog 7 #[Ag ak aq, .int .u8 n, .int .u8 k] w (Says w true) := by
  have T0 := Lib.hid ht
  have HR := Lib.hid hr
  clear ht hr
  go_enter Tryd.func7, Tryd.ntmps7
  go_wp2_with fail
  obtain ⟨w0, hW⟩ : ∃ w0, (w.alloc (.cells #[.int .i64 ak, .int .i64 aq] 23)) = w0 := ⟨_, rfl⟩
  have HB0 : Hid (Below w.heap.size w w0) := Lib.hid (by rw [← hW]; exact ((Below.refl w.heap.size w).alloc (by first | exact Nat.le_refl _ | (simp; done) | (simp; omega)) _))
  have TW0 := Lib.hid (T0.out.below HB0.out)
  have z00 : w0.cell? ⟨w.heap.size, 0, none⟩ = some (.int .i64 ak) := by rw [← hW]; simp [go_sem]
  have z01 : w0.cell? ⟨w.heap.size, 1, none⟩ = some (.int .i64 aq) := by rw [← hW]; simp [go_sem]
  rw [hW]
  clear hW
  refine Calls.mono (l6_head _ TW0.out) ?_
  rintro e' w1 ⟨rfl, hb⟩
  have HB1 := Lib.hid (HB0.out.trans (hb.mono HB0.out.size))
  have TW1 := Lib.hid (TW0.out.below hb)
  replace z00 := cell_of hb z00
  replace z01 := cell_of hb z01
  clear hb HB0 TW0
  go_wp2_with fail
  refine Calls.mono (right13 ak aq _) ?_
  rintro e' w2 ⟨rfl, hb⟩
  rw [HR.out]
  have HB2 := Lib.hid (HB1.out.trans (hb.mono HB1.out.size))
  have TW2 := Lib.hid (TW1.out.below hb)
  replace z00 := cell_of hb z00
  replace z01 := cell_of hb z01
  clear hb HB1 TW1
  go_wp2
  go_ret
  exact ⟨rfl, HB2.out⟩

theorem pow_bound (ak : Int) (i : Nat) (hi : i ≤ 6) (h0 : -33554432 ≤ ak) (h1 : ak ≤ 33554432) : -2147483648 ≤ ak * 2 ^ i ∧ ak * 2 ^ i ≤ 2147483648 := by
  have hc : i = 0 ∨ i = 1 ∨ i = 2 ∨ i = 3 ∨ i = 4 ∨ i = 5 ∨ i = 6 := by omega
  rcases hc with rfl | rfl | rfl | rfl | rfl | rfl | rfl <;> (simp only [Int.pow_succ, Int.pow_zero, Int.one_mul]; omega)

set_option maxRecDepth 100000 in
set_option maxHeartbeats 8000000 in
theorem turnWhole_yes (ak : Int) (aq n kk : Nat) (ha25 : aq ≤ 25) (h0 : -33554432 ≤ ak) (h1 : ak ≤ 33554432) (hn : n ≤ 255) (hk : kk ≤ 255) (w : World) (ht : Tab w) : Calls Tryd.prog 7 #[Ag ak aq, .int .u8 n, .int .u8 kk] w (Says w true) := by
  have T0 := Lib.hid ht
  have HA := Lib.hid (isR_true (k := ak) (q := aq) ⟨by omega, by omega, by omega, by omega⟩)
  have ha40 : aq ≤ 40 := by omega
  obtain ⟨yk, yq, vy⟩ := T_any' (val ak aq)
  have VA := Lib.hid vy
  obtain ⟨e, he⟩ : ∃ e, eig (val ak aq) = e := ⟨_, rfl⟩
  obtain ⟨pk, hpk⟩ : ∃ e, fk (rst (val ak aq)) = e := ⟨_, rfl⟩
  obtain ⟨pq, hpq⟩ : ∃ e, fq (rst (val ak aq)) = e := ⟨_, rfl⟩
  have VP : Hid (PT (val ak aq) = .agg #[.int .i64 e, .int .i64 pk, .int .i64 pq]) := Lib.hid (by rw [PT, he, hpk, hpq])
  have h2 : (2 : Nat) ^ aq ≤ 33554432 := Nat.pow_le_pow_right (n := 2) (by decide) ha25
  have hpp : 0 < (2 : Nat) ^ aq := Nat.pow_pos (by decide)
  obtain ⟨m, hm⟩ : ∃ m : Nat, 2 ^ aq = m := ⟨_, rfl⟩
  rw [hm] at h2 hpp
  have hw : wrap64 ((2 : Int) ^ aq) = (m : Int) := by rw [pow_int, hm]; clear hm; unfold wrap64; omega
  have HM := Lib.hid hm
  clear hm
  have hm0 : (0 : Int) < m := by clear hw; omega
  have hm1 : (m : Int) ≤ 33554432 := by clear hw; omega
  have hn1 : (n : Int) ≤ 255 := by omega
  have hk1 : (kk : Int) ≤ 255 := by omega
  obtain ⟨k8, hk8⟩ : ∃ k8 : Nat, kk % 8 = k8 := ⟨_, rfl⟩
  have hk8i : (kk : Int) % 8 = (k8 : Int) := by omega
  have hk87 : k8 ≤ 7 := by omega
  have hq1 : (aq : Int) ≤ 25 := by omega
  clear ht vy he hpk hpq h2 hpp hk8
  go_enter Tryd.func7, Tryd.ntmps7
  go_wp2_with fail
  obtain ⟨w0, hW⟩ : ∃ w0, (w.alloc (.cells #[.int .i64 ak, .int .i64 aq] 23)) = w0 := ⟨_, rfl⟩
  have HB0 : Hid (Below w.heap.size w w0) := Lib.hid (by rw [← hW]; exact ((Below.refl w.heap.size w).alloc (by first | exact Nat.le_refl _ | (simp; done) | (simp; omega)) _))
  have TW0 := Lib.hid (T0.out.below HB0.out)
  have z00 : w0.cell? ⟨w.heap.size, 0, none⟩ = some (.int .i64 ak) := by rw [← hW]; simp [go_sem]
  have z01 : w0.cell? ⟨w.heap.size, 1, none⟩ = some (.int .i64 aq) := by rw [← hW]; simp [go_sem]
  rw [hW]
  clear hW
  refine Calls.mono (l6_head _ TW0.out) ?_
  rintro e' w1 ⟨rfl, hb⟩
  have HB1 := Lib.hid (HB0.out.trans (hb.mono HB0.out.size))
  have TW1 := Lib.hid (TW0.out.below hb)
  replace z00 := cell_of hb z00
  replace z01 := cell_of hb z01
  clear hb HB0 TW0
  go_wp2_with fail
  refine Calls.mono (right13 ak aq _) ?_
  rintro e' w2 ⟨rfl, hb⟩
  rw [HA.out]
  have HB2 := Lib.hid (HB1.out.trans (hb.mono HB1.out.size))
  have TW2 := Lib.hid (TW1.out.below hb)
  replace z00 := cell_of hb z00
  replace z01 := cell_of hb z01
  clear hb HB1 TW1
  have hlt := cell_lt z00
  go_wp2_with fail
  have HST := Lib.hid (LpSt.new w2 ak aq)
  obtain ⟨B, hB⟩ : ∃ B, w2.heap.size = B := ⟨_, rfl⟩
  obtain ⟨wl, hW⟩ : ∃ wl, w2.alloc (.cells #[.int .i64 ak, .int .i64 aq] 23) = wl := ⟨_, rfl⟩
  rw [hW, hB] at HST
  rw [hW, hB]
  have HBB := Lib.hid hB
  clear hW hB hlt
  go_loopw [11] (fun i wr => ∃ (j : Nat) (x : Int), j ≤ n ∧ i = .int .i64 j ∧ -33554432 ≤ x ∧ x ≤ 33554432 + (j : Int) * 33554432 ∧ Hid (x = ak + j * m) ∧ Hid (LpSt w2 B x aq wr)) (fun i _ => n - (intOf i).toNat)
  case atStart => exact ⟨0, ak, Nat.zero_le _, rfl, by omega, by omega, Lib.hid (by simp), HST⟩
  case round =>
    obtain ⟨j, x, hj, rfl, hx0, hx1, HX, HS⟩ := hrel
    clear HST
    by_cases hlt : j < n
    · obtain ⟨hx, s0, s1, s2, s3⟩ := HS.out
      clear hx
      have hji : (j : Int) < n := by omega
      have hxn : (j : Int) ≤ 255 := by omega
      have HS2 := Lib.hid (HS.out.set0 (x + m))
      go_wp2
      go_roundw
      case rel => exact ⟨j + 1, x + m, by omega, by go_num, by omega, by push_cast; omega, Lib.hid (by rw [HX.out]; push_cast; rw [Int.add_mul, Int.one_mul, Int.add_assoc]), HS2⟩
      case measure => simp [intOf]; omega
    · obtain rfl : j = n := by omega
      obtain ⟨⟨hb, hx⟩, s0, s1, hx2, hx3⟩ := HS.out
      clear hx hx2 hx3
      have HB3 := Lib.hid (HB2.out.trans (hb.mono HB2.out.size))
      have TW3 := Lib.hid (TW2.out.below hb)
      replace z00 := cell_of hb z00
      replace z01 := cell_of hb z01
      clear hb HB2 TW2 HS hx0 hx1 hj
      have VB : Hid (T (val x aq) = .agg #[.int .i64 yk, .int .i64 yq]) := Lib.hid (by rw [← VA.out]; apply T_congr; rw [HX.out, ← HM.out]; exact whole_val ak aq j (by omega))
      have VPB : Hid (PT (val x aq) = .agg #[.int .i64 e, .int .i64 pk, .int .i64 pq]) := Lib.hid (by rw [← VP.out]; apply PT_congr; rw [HX.out, ← HM.out]; exact whole_val ak aq j (by omega))
      clear HX
      have hlt := cell_lt z00
      have hlt2 := cell_lt s0
      go_wp2_with fail
      obtain ⟨wv, hwv⟩ : ∃ v, v = wr := ⟨_, rfl⟩
      subst hwv
      have HST := Lib.hid (LpSt.new wv ak aq)
      obtain ⟨C, hC⟩ : ∃ C, wv.heap.size = C := ⟨_, rfl⟩
      obtain ⟨wm, hW⟩ : ∃ wm, wv.alloc (.cells #[.int .i64 ak, .int .i64 aq] 23) = wm := ⟨_, rfl⟩
      rw [hW, hC] at HST
      rw [hW, hC]
      clear hW hC hlt hlt2
      go_loopw [13] (fun i wr => ∃ (j : Nat) (y : Int), j ≤ k8 ∧ i = .int .i64 j ∧ Hid (y = ak * 2 ^ j) ∧ Hid (LpSt wv C y ((aq : Int) + j) wr)) (fun i _ => k8 - (intOf i).toNat)
      case atStart => exact ⟨0, ak, Nat.zero_le _, rfl, Lib.hid (by simp), by simpa using HST⟩
      case round =>
        obtain ⟨i, y, hj, rfl, HY, HS⟩ := hrel
        clear HST
        by_cases hlt : i < k8
        · obtain ⟨hx, u0, u1, u2, u3⟩ := HS.out
          clear hx
          have hji : (i : Int) < k8 := by omega
          have hy : -2147483648 ≤ y ∧ y ≤ 2147483648 := by rw [HY.out]; exact pow_bound ak i (by omega) h0 h1
          obtain ⟨hy0, hy1⟩ := hy
          have HS2 := Lib.hid ((HS.out.set0 (2 * y)).set1 ((aq : Int) + i + 1))
          go_wp2
          go_roundw
          case rel => exact ⟨i + 1, 2 * y, by omega, by go_num, Lib.hid (by rw [HY.out, Int.pow_succ, Int.mul_comm (2 ^ i) 2, ← Int.mul_assoc, ← Int.mul_assoc, Int.mul_comm 2 ak]), by rw [show (aq : Int) + ((i + 1 : Nat) : Int) = (aq : Int) + i + 1 by push_cast; omega]; exact HS2⟩
          case measure => simp [intOf]; omega
        · obtain rfl : i = k8 := by omega
          obtain ⟨⟨hb, hx⟩, u0, u1, hx2, hx3⟩ := HS.out
          clear hx hx2 hx3
          have HB0 := Lib.hid (HB3.out.trans (hb.mono HB3.out.size))
          have TW0 := Lib.hid (TW3.out.below hb)
          replace z00 := cell_of hb z00
          replace z01 := cell_of hb z01
          replace s0 := cell_of hb s0
          replace s1 := cell_of hb s1
          clear hb HB3 TW3 HS hj
          have VC : Hid (T (val y (aq + i)) = .agg #[.int .i64 yk, .int .i64 yq]) := Lib.hid (by rw [← VA.out, HY.out, parts_val ak aq i (by omega)])
          have VPC : Hid (PT (val y (aq + i)) = .agg #[.int .i64 e, .int .i64 pk, .int .i64 pq]) := Lib.hid (by rw [← VP.out, HY.out, parts_val ak aq i (by omega)])
          have hcq : (aq : Int) + i = ((aq + i : Nat) : Int) := by push_cast; rfl
          have HCQ := Lib.hid hcq
          clear hcq HY
          have hc40 : aq + i ≤ 40 := by omega
          go_wp2_with fail
          have TW := TW0
          refine wp_region_det (S := Below wr.heap.size wr) (by kernel_rfl) (Below.refl _ wr).drew ?_
          refine wpAnyS_take (i := 0) rfl (by kernel_rfl) (by kernel_rfl) (by kernel_rfl) (fun _ _ _ h => h) (.inl ⟨by kernel_rfl, fun w' hS => (by have y0 := cell_of hS z00; have y1 := cell_of hS z01; have y2 := cell_of hS s0; have y3 := cell_of hS s1; have y4 := cell_of hS u0; have y5 := cell_of hS u1; go_simp; exact ⟨rfl, hS⟩)⟩) rfl (by go_simp; rfl) ?_
          refine wpAnyS_take (i := 1) rfl (by kernel_rfl) (by kernel_rfl) (by kernel_rfl) (fun _ _ _ h => h) (.inl ⟨by kernel_rfl, fun w' hS => (by have y0 := cell_of hS z00; have y1 := cell_of hS z01; have y2 := cell_of hS s0; have y3 := cell_of hS s1; have y4 := cell_of hS u0; have y5 := cell_of hS u1; go_simp; exact ⟨rfl, hS⟩)⟩) rfl (by go_simp; rfl) ?_
          refine wpAnyS_take (i := 2) rfl (by kernel_rfl) (by kernel_rfl) (by kernel_rfl) (fun _ _ _ h => h) (.inl ⟨by kernel_rfl, fun w' hS => (by have y0 := cell_of hS z00; have y1 := cell_of hS z01; have y2 := cell_of hS s0; have y3 := cell_of hS s1; have y4 := cell_of hS u0; have y5 := cell_of hS u1; go_simp; exact ⟨rfl, hS⟩)⟩) rfl (by go_simp; rfl) ?_
          refine wpAnyS_take (i := 3) rfl (by kernel_rfl) (by kernel_rfl) (by kernel_rfl) (fun _ _ _ h => h) (.inl ⟨by kernel_rfl, fun w' hS => (by go_simp; refine Calls.mono (form16i x aq aq rfl ha40 _ VB.out _ (TW.out.below hS)) ?_; intro e w'' hE; obtain ⟨he, hb⟩ := hE; exact ⟨he, hS.trans (hb.mono hS.size)⟩)⟩) rfl (by go_simp; rfl) ?_
          refine wpAnyS_take (i := 4) rfl (by kernel_rfl) (by kernel_rfl) (by kernel_rfl) (fun _ _ _ h => h) (.inl ⟨by kernel_rfl, fun w' hS => (by have y0 := cell_of hS z00; have y1 := cell_of hS z01; have y2 := cell_of hS s0; have y3 := cell_of hS s1; have y4 := cell_of hS u0; have y5 := cell_of hS u1; go_simp; exact ⟨rfl, hS⟩)⟩) rfl (by go_simp; rfl) ?_
          refine wpAnyS_take (i := 5) rfl (by kernel_rfl) (by kernel_rfl) (by kernel_rfl) (fun _ _ _ h => h) (.inl ⟨by kernel_rfl, fun w' hS => (by go_simp; refine Calls.mono (form16i ak aq aq rfl ha40 _ VA.out _ (TW.out.below hS)) ?_; intro e w'' hE; obtain ⟨he, hb⟩ := hE; exact ⟨he, hS.trans (hb.mono hS.size)⟩)⟩) rfl (by go_simp; rfl) ?_
          refine wpAnyS_take (i := 6) rfl (by kernel_rfl) (by kernel_rfl) (by kernel_rfl) (fun _ _ _ h => h) (.inl ⟨by kernel_rfl, fun w' hS => (by have y0 := cell_of hS z00; have y1 := cell_of hS z01; have y2 := cell_of hS s0; have y3 := cell_of hS s1; have y4 := cell_of hS u0; have y5 := cell_of hS u1; go_simp; exact ⟨rfl, hS⟩)⟩) rfl (by go_simp; rfl) ?_
          refine wpAnyS_take (i := 7) rfl (by kernel_rfl) (by kernel_rfl) (by kernel_rfl) (fun _ _ _ h => h) (.inl ⟨by kernel_rfl, fun w' hS => (by have y0 := cell_of hS z00; have y1 := cell_of hS z01; have y2 := cell_of hS s0; have y3 := cell_of hS s1; have y4 := cell_of hS u0; have y5 := cell_of hS u1; go_simp; exact ⟨rfl, hS⟩)⟩) rfl (by go_simp; rfl) ?_
          refine wpAnyS_take (i := 8) rfl (by kernel_rfl) (by kernel_rfl) (by kernel_rfl) (fun _ _ _ h => h) (.inl ⟨by kernel_rfl, fun w' hS => (by have y0 := cell_of hS z00; have y1 := cell_of hS z01; have y2 := cell_of hS s0; have y3 := cell_of hS s1; have y4 := cell_of hS u0; have y5 := cell_of hS u1; go_simp; exact ⟨rfl, hS⟩)⟩) rfl (by go_simp; rfl) ?_
          refine wpAnyS_take (i := 9) rfl (by kernel_rfl) (by kernel_rfl) (by kernel_rfl) (fun _ _ _ h => h) (.inl ⟨by kernel_rfl, fun w' hS => (by have y0 := cell_of hS z00; have y1 := cell_of hS z01; have y2 := cell_of hS s0; have y3 := cell_of hS s1; have y4 := cell_of hS u0; have y5 := cell_of hS u1; go_simp; exact ⟨rfl, hS⟩)⟩) rfl (by go_simp; rfl) ?_
          refine wpAnyS_take (i := 10) rfl (by kernel_rfl) (by kernel_rfl) (by kernel_rfl) (fun _ _ _ h => h) (.inl ⟨by kernel_rfl, fun w' hS => (by go_simp; refine Calls.mono (form16i y ((aq : Int) + i) (aq + i) HCQ.out hc40 _ VC.out _ (TW.out.below hS)) ?_; intro e w'' hE; obtain ⟨he, hb⟩ := hE; exact ⟨he, hS.trans (hb.mono hS.size)⟩)⟩) rfl (by go_simp; rfl) ?_
          refine wpAnyS_take (i := 11) rfl (by kernel_rfl) (by kernel_rfl) (by kernel_rfl) (fun _ _ _ h => h) (.inl ⟨by kernel_rfl, fun w' hS => (by have y0 := cell_of hS z00; have y1 := cell_of hS z01; have y2 := cell_of hS s0; have y3 := cell_of hS s1; have y4 := cell_of hS u0; have y5 := cell_of hS u1; go_simp; exact ⟨rfl, hS⟩)⟩) rfl (by go_simp; rfl) ?_
          refine wpAnyS_take (i := 12) rfl (by kernel_rfl) (by kernel_rfl) (by kernel_rfl) (fun _ _ _ h => h) (.inl ⟨by kernel_rfl, fun w' hS => (by go_simp; refine Calls.mono (form16i ak aq aq rfl ha40 _ VA.out _ (TW.out.below hS)) ?_; intro e w'' hE; obtain ⟨he, hb⟩ := hE; exact ⟨he, hS.trans (hb.mono hS.size)⟩)⟩) rfl (by go_simp; rfl) ?_
          refine wpAnyS_take (i := 13) rfl (by kernel_rfl) (by kernel_rfl) (by kernel_rfl) (fun _ _ _ h => h) (.inl ⟨by kernel_rfl, fun w' hS => (by have y0 := cell_of hS z00; have y1 := cell_of hS z01; have y2 := cell_of hS s0; have y3 := cell_of hS s1; have y4 := cell_of hS u0; have y5 := cell_of hS u1; go_simp; exact ⟨rfl, hS⟩)⟩) rfl (by go_simp; rfl) ?_
          refine wpAnyS_take (i := 14) rfl (by kernel_rfl) (by kernel_rfl) (by kernel_rfl) (fun _ _ _ h => h) (.inl ⟨by kernel_rfl, fun w' hS => (by have y0 := cell_of hS z00; have y1 := cell_of hS z01; have y2 := cell_of hS s0; have y3 := cell_of hS s1; have y4 := cell_of hS u0; have y5 := cell_of hS u1; go_simp; exact ⟨rfl, hS⟩)⟩) rfl (by go_simp; rfl) ?_
          refine wpAnyS_take (i := 15) rfl (by kernel_rfl) (by kernel_rfl) (by kernel_rfl) (fun _ _ _ h => h) (.inl ⟨by kernel_rfl, fun w' hS => (by have y0 := cell_of hS z00; have y1 := cell_of hS z01; have y2 := cell_of hS s0; have y3 := cell_of hS s1; have y4 := cell_of hS u0; have y5 := cell_of hS u1; go_simp; exact ⟨rfl, hS⟩)⟩) rfl (by go_simp; rfl) ?_
          refine wpAnyS_take (i := 16) rfl (by kernel_rfl) (by kernel_rfl) (by kernel_rfl) (fun _ _ _ h => h) (.inl ⟨by kernel_rfl, fun w' hS => (by have y0 := cell_of hS z00; have y1 := cell_of hS z01; have y2 := cell_of hS s0; have y3 := cell_of hS s1; have y4 := cell_of hS u0; have y5 := cell_of hS u1; go_simp; exact ⟨rfl, hS⟩)⟩) rfl (by go_simp; rfl) ?_
          refine wpAnyS_take (i := 17) rfl (by kernel_rfl) (by kernel_rfl) (by kernel_rfl) (fun _ _ _ h => h) (.inl ⟨by kernel_rfl, fun w' hS => (by go_simp; refine Calls.mono (split14i x aq aq rfl ha40 _ VPB.out _ (TW.out.below hS)) ?_; intro e w'' hE; obtain ⟨he, hb⟩ := hE; exact ⟨he, hS.trans (hb.mono hS.size)⟩)⟩) rfl (by go_simp; rfl) ?_
          refine wpAnyS_take (i := 18) rfl (by kernel_rfl) (by kernel_rfl) (by kernel_rfl) (fun _ _ _ h => h) (.inl ⟨by kernel_rfl, fun w' hS => (by have y0 := cell_of hS z00; have y1 := cell_of hS z01; have y2 := cell_of hS s0; have y3 := cell_of hS s1; have y4 := cell_of hS u0; have y5 := cell_of hS u1; go_simp; exact ⟨rfl, hS⟩)⟩) rfl (by go_simp; rfl) ?_
          refine wpAnyS_take (i := 19) rfl (by kernel_rfl) (by kernel_rfl) (by kernel_rfl) (fun _ _ _ h => h) (.inl ⟨by kernel_rfl, fun w' hS => (by go_simp; refine Calls.mono (split14i ak aq aq rfl ha40 _ VP.out _ (TW.out.below hS)) ?_; intro e w'' hE; obtain ⟨he, hb⟩ := hE; exact ⟨he, hS.trans (hb.mono hS.size)⟩)⟩) rfl (by go_simp; rfl) ?_
          refine wpAnyS_take (i := 20) rfl (by kernel_rfl) (by kernel_rfl) (by kernel_rfl) (fun _ _ _ h => h) (.inl ⟨by kernel_rfl, fun w' hS => (by have y0 := cell_of hS z00; have y1 := cell_of hS z01; have y2 := cell_of hS s0; have y3 := cell_of hS s1; have y4 := cell_of hS u0; have y5 := cell_of hS u1; go_simp; exact ⟨rfl, hS⟩)⟩) rfl (by go_simp; rfl) ?_
          refine wpAnyS_take (i := 21) rfl (by kernel_rfl) (by kernel_rfl) (by kernel_rfl) (fun _ _ _ h => h) (.inl ⟨by kernel_rfl, fun w' hS => (by have y0 := cell_of hS z00; have y1 := cell_of hS z01; have y2 := cell_of hS s0; have y3 := cell_of hS s1; have y4 := cell_of hS u0; have y5 := cell_of hS u1; go_simp; exact ⟨rfl, hS⟩)⟩) rfl (by go_simp; rfl) ?_
          refine wpAnyS_take (i := 22) rfl (by kernel_rfl) (by kernel_rfl) (by kernel_rfl) (fun _ _ _ h => h) (.inl ⟨by kernel_rfl, fun w' hS => (by have y0 := cell_of hS z00; have y1 := cell_of hS z01; have y2 := cell_of hS s0; have y3 := cell_of hS s1; have y4 := cell_of hS u0; have y5 := cell_of hS u1; go_simp; exact ⟨rfl, hS⟩)⟩) rfl (by go_simp; rfl) ?_
          refine wpAnyS_take (i := 23) rfl (by kernel_rfl) (by kernel_rfl) (by kernel_rfl) (fun _ _ _ h => h) (.inl ⟨by kernel_rfl, fun w' hS => (by have y0 := cell_of hS z00; have y1 := cell_of hS z01; have y2 := cell_of hS s0; have y3 := cell_of hS s1; have y4 := cell_of hS u0; have y5 := cell_of hS u1; go_simp; exact ⟨rfl, hS⟩)⟩) rfl (by go_simp; rfl) ?_
          refine wpAnyS_take (i := 24) rfl (by kernel_rfl) (by kernel_rfl) (by kernel_rfl) (fun _ _ _ h => h) (.inl ⟨by kernel_rfl, fun w' hS => (by go_simp; refine Calls.mono (split14i y ((aq : Int) + i) (aq + i) HCQ.out hc40 _ VPC.out _ (TW.out.below hS)) ?_; intro e w'' hE; obtain ⟨he, hb⟩ := hE; exact ⟨he, hS.trans (hb.mono hS.size)⟩)⟩) rfl (by go_simp; rfl) ?_
          refine wpAnyS_take (i := 25) rfl (by kernel_rfl) (by kernel_rfl) (by kernel_rfl) (fun _ _ _ h => h) (.inl ⟨by kernel_rfl, fun w' hS => (by have y0 := cell_of hS z00; have y1 := cell_of hS z01; have y2 := cell_of hS s0; have y3 := cell_of hS s1; have y4 := cell_of hS u0; have y5 := cell_of hS u1; go_simp; exact ⟨rfl, hS⟩)⟩) rfl (by go_simp; rfl) ?_
          refine wpAnyS_take (i := 26) rfl (by kernel_rfl) (by kernel_rfl) (by kernel_rfl) (fun _ _ _ h => h) (.inl ⟨by kernel_rfl, fun w' hS => (by go_simp; refine Calls.mono (split14i ak aq aq rfl ha40 _ VP.out _ (TW.out.below hS)) ?_; intro e w'' hE; obtain ⟨he, hb⟩ := hE; exact ⟨he, hS.trans (hb.mono hS.size)⟩)⟩) rfl (by go_simp; rfl) ?_
          refine wpAnyS_take (i := 27) rfl (by kernel_rfl) (by kernel_rfl) (by kernel_rfl) (fun _ _ _ h => h) (.inl ⟨by kernel_rfl, fun w' hS => (by have y0 := cell_of hS z00; have y1 := cell_of hS z01; have y2 := cell_of hS s0; have y3 := cell_of hS s1; have y4 := cell_of hS u0; have y5 := cell_of hS u1; go_simp; exact ⟨rfl, hS⟩)⟩) rfl (by go_simp; rfl) ?_
          refine wpAnyS_take (i := 28) rfl (by kernel_rfl) (by kernel_rfl) (by kernel_rfl) (fun _ _ _ h => h) (.inl ⟨by kernel_rfl, fun w' hS => (by have y0 := cell_of hS z00; have y1 := cell_of hS z01; have y2 := cell_of hS s0; have y3 := cell_of hS s1; have y4 := cell_of hS u0; have y5 := cell_of hS u1; go_simp; exact ⟨rfl, hS⟩)⟩) rfl (by go_simp; rfl) ?_
          refine wpAnyS_take (i := 29) rfl (by kernel_rfl) (by kernel_rfl) (by kernel_rfl) (fun _ _ _ h => h) (.inl ⟨by kernel_rfl, fun w' hS => (by have y0 := cell_of hS z00; have y1 := cell_of hS z01; have y2 := cell_of hS s0; have y3 := cell_of hS s1; have y4 := cell_of hS u0; have y5 := cell_of hS u1; go_simp; exact ⟨rfl, hS⟩)⟩) rfl (by go_simp; rfl) ?_
          refine wpAnyS_done (by kernel_rfl) (fun wz hS => ?_) _
          go_wp2
          go_ret
          exact ⟨rfl, HB0.out.trans (hS.mono HB0.out.size)⟩

theorem turnWhole_walk (ak aq n k : Int) (w : World) (hn : 0 ≤ n ∧ n ≤ 255) (hk : 0 ≤ k ∧ k ≤ 255) (ht : Tab w) : Calls Tryd.prog 7 #[Ag ak aq, .int .u8 n, .int .u8 k] w (Says w true) := by
  by_cases h : 0 ≤ aq ∧ aq ≤ 40 ∧ -1099511627776 ≤ ak ∧ ak ≤ 1099511627776
  · by_cases h2 : 25 < aq
    · exact turnWhole_no_q ak aq n k (isR_true h) h2 w ht
    · by_cases h3 : 33554432 < ak
      · exact turnWhole_no_k ak aq n k (isR_true h) (by omega) h3 w ht
      · by_cases h4 : ak < -33554432
        · exact turnWhole_no_l ak aq n k (isR_true h) (by omega) (by omega) h4 w ht
        · obtain ⟨i, rfl⟩ : ∃ i : Nat, aq = i := ⟨aq.toNat, (Int.toNat_of_nonneg h.1).symm⟩
          obtain ⟨j, rfl⟩ : ∃ j : Nat, n = j := ⟨n.toNat, (Int.toNat_of_nonneg hn.1).symm⟩
          obtain ⟨l, rfl⟩ : ∃ l : Nat, k = l := ⟨k.toNat, (Int.toNat_of_nonneg hk.1).symm⟩
          exact turnWhole_yes ak i j l (by omega) (by omega) (by omega) (by omega) (by omega) w ht
  · exact turnWhole_no_r ak aq n k (isR_false h) w ht
end Go.Proofs.YtaempngakollpaaDoor
