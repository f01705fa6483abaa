/- TurnAdd: the law's walk. Under: the library's table as its initialiser lays it. -/
import Derived.Test.YtaempngakollpaaDoorSlWalk
namespace Go.Proofs.YtaempngakollpaaDoor
open Go.RowKit Go.Shelf

/-- What stands at the head of the loop: the three angles, the sum so far. -/
def AddSt (w : World) (B : Nat) (ak aq bk bq ck cq : Int) (A : Int) (wr : World) : Prop :=
  (Below w.heap.size w wr ∧ Tab wr ∧ w.heap.size + 1 + 1 < B) ∧
  (wr.cell? ⟨w.heap.size, 0, none⟩ = some (.int .i64 ak) ∧ wr.cell? ⟨w.heap.size, 1, none⟩ = some (.int .i64 aq) ∧ wr.cell? ⟨w.heap.size + 1, 0, none⟩ = some (.int .i64 bk) ∧ wr.cell? ⟨w.heap.size + 1, 1, none⟩ = some (.int .i64 bq) ∧ wr.cell? ⟨w.heap.size + 1 + 1, 0, none⟩ = some (.int .i64 ck) ∧ wr.cell? ⟨w.heap.size + 1 + 1, 1, none⟩ = some (.int .i64 cq)) ∧
  (wr.cell? ⟨B, 0, none⟩ = some (.int .i64 (fk A)) ∧ wr.cell? ⟨B, 1, none⟩ = some (.int .i64 (fq A)) ∧ wr.frozen? ⟨B, 0, none⟩ = false ∧ wr.frozen? ⟨B, 1, none⟩ = false)

theorem Tab.set {w : World} (h : Tab w) {B o : Nat} (hb : 2 ≤ B) (v : Value) : Tab (w.setCell ⟨B, o, none⟩ v) := by
  have hs : w.heap.size = (w.setCell ⟨B, o, none⟩ v).heap.size := by simp
  have hbel : Below 2 w (w.setCell ⟨B, o, none⟩ v) := (Below.refl 2 w).setCell hb v
  refine ⟨by rw [← hs]; exact h.1, fun j hj => ?_⟩
  rw [hbel.cell (p := ⟨1, j, none⟩) (by show 1 < 2; decide)]
  exact h.2 j hj

theorem addSt_step {w wr w2 w3 : World} {B : Nat} {ak aq bk bq ck cq A A' : Int} (h : AddSt w B ak aq bk bq ck cq A wr) (hb : Below wr.heap.size wr w2)
    (hb3 : Below ((w2.setCell ⟨B, 0, none⟩ (.int .i64 (fk A'))).setCell ⟨B, 1, none⟩ (.int .i64 (fq A'))).heap.size ((w2.setCell ⟨B, 0, none⟩ (.int .i64 (fk A'))).setCell ⟨B, 1, none⟩ (.int .i64 (fq A'))) w3) : AddSt w B ak aq bk bq ck cq A' w3 := by
  obtain ⟨⟨h1, h2, h3⟩, ⟨a0, a1, b0, b1, c0, c1⟩, ⟨s0, s1, s2, s3⟩⟩ := h
  replace a0 := cell_of hb a0
  replace a1 := cell_of hb a1
  replace b0 := cell_of hb b0
  replace b1 := cell_of hb b1
  replace c0 := cell_of hb c0
  replace c1 := cell_of hb c1
  have sl := cell_lt s0
  replace s0 := cell_of hb s0
  replace s1 := cell_of hb s1
  replace s2 := froz_of hb sl s2
  replace s3 := froz_of hb sl s3
  have sl2 := cell_lt s0
  have hbw : Below w.heap.size w w2 := h1.trans (hb.mono h1.size)
  have ht2 : Tab w2 := h2.below hb
  have hw2 := h2.1
  have hbs : Below w.heap.size w ((w2.setCell ⟨B, 0, none⟩ (.int .i64 (fk A'))).setCell ⟨B, 1, none⟩ (.int .i64 (fq A'))) := (hbw.setCell (by show _ ≤ B; omega) _).setCell (by show _ ≤ B; omega) _
  have hB2 : 2 ≤ B := by have := h1.size; omega
  refine ⟨⟨hbs.trans (hb3.mono hbs.size), (Tab.set (Tab.set ht2 hB2 _) hB2 _).below hb3, h3⟩, ⟨cell_of hb3 ?_, cell_of hb3 ?_, cell_of hb3 ?_, cell_of hb3 ?_, cell_of hb3 ?_, cell_of hb3 ?_⟩, ⟨cell_of hb3 ?_, cell_of hb3 ?_, froz_of hb3 (by simpa using sl2) ?_, froz_of hb3 (by simpa using sl2) ?_⟩⟩ <;> simp [go_sem, a0, a1, b0, b1, c0, c1, s0, s1, s2, s3]

set_option maxHeartbeats 2000000 in
theorem turnAdd_no_a (ak aq bk bq ck cq : Int) (n : Int) (ha : isR ak aq = false) (w : World) (ht : Tab w) : Calls Tryd.prog 5 #[Ag ak aq, Ag bk bq, Ag ck cq, .int .u8 n] w (Says w true) := by
  have T0 := Lib.hid ht
  have Ha := Lib.hid ha
  clear ht ha
  go_enter Tryd.func5, Tryd.ntmps5
  go_wp2_with fail
  obtain ⟨w0, hW⟩ : ∃ w0, (((w.alloc (.cells #[.int .i64 ak, .int .i64 aq] 23)).alloc (.cells #[.int .i64 bk, .int .i64 bq] 23)).alloc (.cells #[.int .i64 ck, .int .i64 cq] 23)) = w0 := ⟨_, rfl⟩
  have HB0 : Hid (Below w.heap.size w w0) := Lib.hid (by rw [← hW]; exact ((((Below.refl w.heap.size w).alloc (by first | exact Nat.le_refl _ | (simp; done) | (simp; omega)) _).alloc (by first | exact Nat.le_refl _ | (simp; done) | (simp; omega)) _).alloc (by first | exact Nat.le_refl _ | (simp; done) | (simp; omega)) _))
  have TW0 := Lib.hid (T0.out.below HB0.out)
  have z00 : w0.cell? ⟨w.heap.size, 0, none⟩ = some (.int .i64 ak) := by rw [← hW]; simp [go_sem]
  have z01 : w0.cell? ⟨w.heap.size, 1, none⟩ = some (.int .i64 aq) := by rw [← hW]; simp [go_sem]
  have z10 : w0.cell? ⟨w.heap.size + 1, 0, none⟩ = some (.int .i64 bk) := by rw [← hW]; simp [go_sem]
  have z11 : w0.cell? ⟨w.heap.size + 1, 1, none⟩ = some (.int .i64 bq) := by rw [← hW]; simp [go_sem]
  have z20 : w0.cell? ⟨w.heap.size + 1 + 1, 0, none⟩ = some (.int .i64 ck) := by rw [← hW]; simp [go_sem]
  have z21 : w0.cell? ⟨w.heap.size + 1 + 1, 1, none⟩ = some (.int .i64 cq) := by rw [← hW]; simp [go_sem]
  rw [hW]
  clear hW
  refine Calls.mono (l6_head _ TW0.out) ?_
  rintro e' w1 ⟨rfl, hb⟩
  have HB1 := Lib.hid (HB0.out.trans (hb.mono HB0.out.size))
  have TW1 := Lib.hid (TW0.out.below hb)
  replace z00 := cell_of hb z00
  replace z01 := cell_of hb z01
  replace z10 := cell_of hb z10
  replace z11 := cell_of hb z11
  replace z20 := cell_of hb z20
  replace z21 := cell_of hb z21
  clear hb HB0 TW0
  go_wp2_with fail
  refine Calls.mono (right13 ak aq _) ?_
  rintro e' w2 ⟨rfl, hb⟩
  rw [Ha.out]
  have HB2 := Lib.hid (HB1.out.trans (hb.mono HB1.out.size))
  have TW2 := Lib.hid (TW1.out.below hb)
  replace z00 := cell_of hb z00
  replace z01 := cell_of hb z01
  replace z10 := cell_of hb z10
  replace z11 := cell_of hb z11
  replace z20 := cell_of hb z20
  replace z21 := cell_of hb z21
  clear hb HB1 TW1
  go_wp2
  go_ret
  exact ⟨rfl, HB2.out⟩

set_option maxHeartbeats 2000000 in
theorem turnAdd_no_b (ak aq bk bq ck cq : Int) (n : Int) (ha : isR ak aq = true) (hb : isR bk bq = false) (w : World) (ht : Tab w) : Calls Tryd.prog 5 #[Ag ak aq, Ag bk bq, Ag ck cq, .int .u8 n] w (Says w true) := by
  have T0 := Lib.hid ht
  have Ha := Lib.hid ha
  have Hb := Lib.hid hb
  clear ht ha hb
  go_enter Tryd.func5, Tryd.ntmps5
  go_wp2_with fail
  obtain ⟨w0, hW⟩ : ∃ w0, (((w.alloc (.cells #[.int .i64 ak, .int .i64 aq] 23)).alloc (.cells #[.int .i64 bk, .int .i64 bq] 23)).alloc (.cells #[.int .i64 ck, .int .i64 cq] 23)) = w0 := ⟨_, rfl⟩
  have HB0 : Hid (Below w.heap.size w w0) := Lib.hid (by rw [← hW]; exact ((((Below.refl w.heap.size w).alloc (by first | exact Nat.le_refl _ | (simp; done) | (simp; omega)) _).alloc (by first | exact Nat.le_refl _ | (simp; done) | (simp; omega)) _).alloc (by first | exact Nat.le_refl _ | (simp; done) | (simp; omega)) _))
  have TW0 := Lib.hid (T0.out.below HB0.out)
  have z00 : w0.cell? ⟨w.heap.size, 0, none⟩ = some (.int .i64 ak) := by rw [← hW]; simp [go_sem]
  have z01 : w0.cell? ⟨w.heap.size, 1, none⟩ = some (.int .i64 aq) := by rw [← hW]; simp [go_sem]
  have z10 : w0.cell? ⟨w.heap.size + 1, 0, none⟩ = some (.int .i64 bk) := by rw [← hW]; simp [go_sem]
  have z11 : w0.cell? ⟨w.heap.size + 1, 1, none⟩ = some (.int .i64 bq) := by rw [← hW]; simp [go_sem]
  have z20 : w0.cell? ⟨w.heap.size + 1 + 1, 0, none⟩ = some (.int .i64 ck) := by rw [← hW]; simp [go_sem]
  have z21 : w0.cell? ⟨w.heap.size + 1 + 1, 1, none⟩ = some (.int .i64 cq) := by rw [← hW]; simp [go_sem]
  rw [hW]
  clear hW
  refine Calls.mono (l6_head _ TW0.out) ?_
  rintro e' w1 ⟨rfl, hb⟩
  have HB1 := Lib.hid (HB0.out.trans (hb.mono HB0.out.size))
  have TW1 := Lib.hid (TW0.out.below hb)
  replace z00 := cell_of hb z00
  replace z01 := cell_of hb z01
  replace z10 := cell_of hb z10
  replace z11 := cell_of hb z11
  replace z20 := cell_of hb z20
  replace z21 := cell_of hb z21
  clear hb HB0 TW0
  go_wp2_with fail
  refine Calls.mono (right13 ak aq _) ?_
  rintro e' w2 ⟨rfl, hb⟩
  rw [Ha.out]
  have HB2 := Lib.hid (HB1.out.trans (hb.mono HB1.out.size))
  have TW2 := Lib.hid (TW1.out.below hb)
  replace z00 := cell_of hb z00
  replace z01 := cell_of hb z01
  replace z10 := cell_of hb z10
  replace z11 := cell_of hb z11
  replace z20 := cell_of hb z20
  replace z21 := cell_of hb z21
  clear hb HB1 TW1
  go_wp2_with fail
  refine Calls.mono (right13 bk bq _) ?_
  rintro e' w3 ⟨rfl, hb⟩
  rw [Hb.out]
  have HB3 := Lib.hid (HB2.out.trans (hb.mono HB2.out.size))
  have TW3 := Lib.hid (TW2.out.below hb)
  replace z00 := cell_of hb z00
  replace z01 := cell_of hb z01
  replace z10 := cell_of hb z10
  replace z11 := cell_of hb z11
  replace z20 := cell_of hb z20
  replace z21 := cell_of hb z21
  clear hb HB2 TW2
  go_wp2
  go_ret
  exact ⟨rfl, HB3.out⟩

set_option maxHeartbeats 2000000 in
theorem turnAdd_no_c (ak aq bk bq ck cq : Int) (n : Int) (ha : isR ak aq = true) (hb : isR bk bq = true) (hc : isR ck cq = false) (w : World) (ht : Tab w) : Calls Tryd.prog 5 #[Ag ak aq, Ag bk bq, Ag ck cq, .int .u8 n] w (Says w true) := by
  have T0 := Lib.hid ht
  have Ha := Lib.hid ha
  have Hb := Lib.hid hb
  have Hc := Lib.hid hc
  clear ht ha hb hc
  go_enter Tryd.func5, Tryd.ntmps5
  go_wp2_with fail
  obtain ⟨w0, hW⟩ : ∃ w0, (((w.alloc (.cells #[.int .i64 ak, .int .i64 aq] 23)).alloc (.cells #[.int .i64 bk, .int .i64 bq] 23)).alloc (.cells #[.int .i64 ck, .int .i64 cq] 23)) = w0 := ⟨_, rfl⟩
  have HB0 : Hid (Below w.heap.size w w0) := Lib.hid (by rw [← hW]; exact ((((Below.refl w.heap.size w).alloc (by first | exact Nat.le_refl _ | (simp; done) | (simp; omega)) _).alloc (by first | exact Nat.le_refl _ | (simp; done) | (simp; omega)) _).alloc (by first | exact Nat.le_refl _ | (simp; done) | (simp; omega)) _))
  have TW0 := Lib.hid (T0.out.below HB0.out)
  have z00 : w0.cell? ⟨w.heap.size, 0, none⟩ = some (.int .i64 ak) := by rw [← hW]; simp [go_sem]
  have z01 : w0.cell? ⟨w.heap.size, 1, none⟩ = some (.int .i64 aq) := by rw [← hW]; simp [go_sem]
  have z10 : w0.cell? ⟨w.heap.size + 1, 0, none⟩ = some (.int .i64 bk) := by rw [← hW]; simp [go_sem]
  have z11 : w0.cell? ⟨w.heap.size + 1, 1, none⟩ = some (.int .i64 bq) := by rw [← hW]; simp [go_sem]
  have z20 : w0.cell? ⟨w.heap.size + 1 + 1, 0, none⟩ = some (.int .i64 ck) := by rw [← hW]; simp [go_sem]
  have z21 : w0.cell? ⟨w.heap.size + 1 + 1, 1, none⟩ = some (.int .i64 cq) := by rw [← hW]; simp [go_sem]
  rw [hW]
  clear hW
  refine Calls.mono (l6_head _ TW0.out) ?_
  rintro e' w1 ⟨rfl, hb⟩
  have HB1 := Lib.hid (HB0.out.trans (hb.mono HB0.out.size))
  have TW1 := Lib.hid (TW0.out.below hb)
  replace z00 := cell_of hb z00
  replace z01 := cell_of hb z01
  replace z10 := cell_of hb z10
  replace z11 := cell_of hb z11
  replace z20 := cell_of hb z20
  replace z21 := cell_of hb z21
  clear hb HB0 TW0
  go_wp2_with fail
  refine Calls.mono (right13 ak aq _) ?_
  rintro e' w2 ⟨rfl, hb⟩
  rw [Ha.out]
  have HB2 := Lib.hid (HB1.out.trans (hb.mono HB1.out.size))
  have TW2 := Lib.hid (TW1.out.below hb)
  replace z00 := cell_of hb z00
  replace z01 := cell_of hb z01
  replace z10 := cell_of hb z10
  replace z11 := cell_of hb z11
  replace z20 := cell_of hb z20
  replace z21 := cell_of hb z21
  clear hb HB1 TW1
  go_wp2_with fail
  refine Calls.mono (right13 bk bq _) ?_
  rintro e' w3 ⟨rfl, hb⟩
  rw [Hb.out]
  have HB3 := Lib.hid (HB2.out.trans (hb.mono HB2.out.size))
  have TW3 := Lib.hid (TW2.out.below hb)
  replace z00 := cell_of hb z00
  replace z01 := cell_of hb z01
  replace z10 := cell_of hb z10
  replace z11 := cell_of hb z11
  replace z20 := cell_of hb z20
  replace z21 := cell_of hb z21
  clear hb HB2 TW2
  go_wp2_with fail
  refine Calls.mono (right13 ck cq _) ?_
  rintro e' w4 ⟨rfl, hb⟩
  rw [Hc.out]
  have HB4 := Lib.hid (HB3.out.trans (hb.mono HB3.out.size))
  have TW4 := Lib.hid (TW3.out.below hb)
  replace z00 := cell_of hb z00
  replace z01 := cell_of hb z01
  replace z10 := cell_of hb z10
  replace z11 := cell_of hb z11
  replace z20 := cell_of hb z20
  replace z21 := cell_of hb z21
  clear hb HB3 TW3
  go_wp2
  go_ret
  exact ⟨rfl, HB4.out⟩

set_option maxRecDepth 100000 in
set_option maxHeartbeats 8000000 in
theorem turnAdd_yes (ak bk ck : Int) (aq bq cq n : Nat) (ha40 : aq ≤ 40) (hb40 : bq ≤ 40) (hc40 : cq ≤ 40) (ha0 : -1099511627776 ≤ ak) (ha1 : ak ≤ 1099511627776) (hb0 : -1099511627776 ≤ bk) (hb1 : bk ≤ 1099511627776) (hc0 : -1099511627776 ≤ ck) (hc1 : ck ≤ 1099511627776) (hn : n ≤ 255) (w : World) (ht : Tab w) : Calls Tryd.prog 5 #[Ag ak aq, Ag bk bq, Ag ck cq, .int .u8 n] w (Says w true) := by
  have T0 := Lib.hid ht
  have Ha := Lib.hid (isR_true (k := ak) (q := aq) ⟨by omega, by omega, ha0, ha1⟩)
  have Hb := Lib.hid (isR_true (k := bk) (q := bq) ⟨by omega, by omega, hb0, hb1⟩)
  have Hc := Lib.hid (isR_true (k := ck) (q := cq) ⟨by omega, by omega, hc0, hc1⟩)
  have hn1 : (n : Int) ≤ 255 := by omega
  have hcv : IntKind.i64.wrap (n : Int) = n := by rw [IntKind.wrap_i64]; omega
  have hng : IntKind.i64.wrap (-(n : Int)) = -(n : Int) := by rw [IntKind.wrap_i64]; omega
  obtain ⟨dk, dq, hd40, hdk, vd, vdm⟩ : ∃ dk dq : Nat, dq ≤ 40 ∧ dk < 1099511627776 ∧ T (val ak aq + val bk bq) = .agg #[.int .i64 dk, .int .i64 dq] ∧ val dk dq % 1099511627776 = (val ak aq + val bk bq) % 1099511627776 := ⟨_, _, fq_le _, fk_le _, rfl, val_form_mod _⟩
  obtain ⟨ek, eq, he40, hek, ve, vem⟩ : ∃ dk dq : Nat, dq ≤ 40 ∧ dk < 1099511627776 ∧ T (val bk bq + val ck cq) = .agg #[.int .i64 dk, .int .i64 dq] ∧ val dk dq % 1099511627776 = (val bk bq + val ck cq) % 1099511627776 := ⟨_, _, fq_le _, fk_le _, rfl, val_form_mod _⟩
  obtain ⟨xk, xq, hx40, vx, vxm⟩ : ∃ dk dq : Nat, dq ≤ 40 ∧ T (- val ak aq) = .agg #[.int .i64 dk, .int .i64 dq] ∧ val dk dq % 1099511627776 = (- val ak aq) % 1099511627776 := ⟨_, _, fq_le _, rfl, val_form_mod _⟩
  obtain ⟨gk, gq, vg⟩ := T_any' (val dk dq + val ck cq)
  obtain ⟨yk, yq, vy⟩ := T_any' (val ak aq)
  have VD := Lib.hid vd
  have VD2 : Hid (T (val bk bq + val ak aq) = .agg #[.int .i64 dk, .int .i64 dq]) := Lib.hid (by rw [Int.add_comm]; exact vd)
  have VE := Lib.hid ve
  have VX := Lib.hid vx
  have VG := Lib.hid vg
  have VG2 : Hid (T (val ak aq + val ek eq) = .agg #[.int .i64 gk, .int .i64 gq]) := Lib.hid (by rw [← vg]; apply T_congr; omega)
  have VZ : Hid (T (val ak aq + val xk xq) = .agg #[.int .i64 0, .int .i64 0]) := Lib.hid (by rw [show (.agg #[.int .i64 0, .int .i64 0] : Value) = T 0 by rw [T, show fk 0 = 0 by decide +kernel, show fq 0 = 0 by decide +kernel]; rfl]; apply T_congr; omega)
  have VY := Lib.hid vy
  have VY0 : Hid (T (val ak aq + val 0 0) = .agg #[.int .i64 yk, .int .i64 yq]) := Lib.hid (by rw [← vy]; unfold val; simp)
  have HRd := Lib.hid (isR_true (k := (dk : Int)) (q := (dq : Int)) ⟨by omega, by omega, by omega, by omega⟩)
  have HRe := Lib.hid (isR_true (k := (ek : Int)) (q := (eq : Int)) ⟨by omega, by omega, by omega, by omega⟩)
  clear ht vd vdm ve vem vx vxm vg vy
  go_enter Tryd.func5, Tryd.ntmps5
  go_wp2_with fail
  obtain ⟨w0, hW⟩ : ∃ w0, (((w.alloc (.cells #[.int .i64 ak, .int .i64 aq] 23)).alloc (.cells #[.int .i64 bk, .int .i64 bq] 23)).alloc (.cells #[.int .i64 ck, .int .i64 cq] 23)) = w0 := ⟨_, rfl⟩
  have HB0 : Hid (Below w.heap.size w w0) := Lib.hid (by rw [← hW]; exact ((((Below.refl w.heap.size w).alloc (by first | exact Nat.le_refl _ | (simp; done) | (simp; omega)) _).alloc (by first | exact Nat.le_refl _ | (simp; done) | (simp; omega)) _).alloc (by first | exact Nat.le_refl _ | (simp; done) | (simp; omega)) _))
  have TW0 := Lib.hid (T0.out.below HB0.out)
  have z00 : w0.cell? ⟨w.heap.size, 0, none⟩ = some (.int .i64 ak) := by rw [← hW]; simp [go_sem]
  have z01 : w0.cell? ⟨w.heap.size, 1, none⟩ = some (.int .i64 aq) := by rw [← hW]; simp [go_sem]
  have z10 : w0.cell? ⟨w.heap.size + 1, 0, none⟩ = some (.int .i64 bk) := by rw [← hW]; simp [go_sem]
  have z11 : w0.cell? ⟨w.heap.size + 1, 1, none⟩ = some (.int .i64 bq) := by rw [← hW]; simp [go_sem]
  have z20 : w0.cell? ⟨w.heap.size + 1 + 1, 0, none⟩ = some (.int .i64 ck) := by rw [← hW]; simp [go_sem]
  have z21 : w0.cell? ⟨w.heap.size + 1 + 1, 1, none⟩ = some (.int .i64 cq) := by rw [← hW]; simp [go_sem]
  rw [hW]
  clear hW
  refine Calls.mono (l6_head _ TW0.out) ?_
  rintro e' w1 ⟨rfl, hb⟩
  have HB1 := Lib.hid (HB0.out.trans (hb.mono HB0.out.size))
  have TW1 := Lib.hid (TW0.out.below hb)
  replace z00 := cell_of hb z00
  replace z01 := cell_of hb z01
  replace z10 := cell_of hb z10
  replace z11 := cell_of hb z11
  replace z20 := cell_of hb z20
  replace z21 := cell_of hb z21
  clear hb HB0 TW0
  go_wp2_with fail
  refine Calls.mono (right13 ak aq _) ?_
  rintro e' w2 ⟨rfl, hb⟩
  rw [Ha.out]
  have HB2 := Lib.hid (HB1.out.trans (hb.mono HB1.out.size))
  have TW2 := Lib.hid (TW1.out.below hb)
  replace z00 := cell_of hb z00
  replace z01 := cell_of hb z01
  replace z10 := cell_of hb z10
  replace z11 := cell_of hb z11
  replace z20 := cell_of hb z20
  replace z21 := cell_of hb z21
  clear hb HB1 TW1
  go_wp2_with fail
  refine Calls.mono (right13 bk bq _) ?_
  rintro e' w3 ⟨rfl, hb⟩
  rw [Hb.out]
  have HB3 := Lib.hid (HB2.out.trans (hb.mono HB2.out.size))
  have TW3 := Lib.hid (TW2.out.below hb)
  replace z00 := cell_of hb z00
  replace z01 := cell_of hb z01
  replace z10 := cell_of hb z10
  replace z11 := cell_of hb z11
  replace z20 := cell_of hb z20
  replace z21 := cell_of hb z21
  clear hb HB2 TW2
  go_wp2_with fail
  refine Calls.mono (right13 ck cq _) ?_
  rintro e' w4 ⟨rfl, hb⟩
  rw [Hc.out]
  have HB4 := Lib.hid (HB3.out.trans (hb.mono HB3.out.size))
  have TW4 := Lib.hid (TW3.out.below hb)
  replace z00 := cell_of hb z00
  replace z01 := cell_of hb z01
  replace z10 := cell_of hb z10
  replace z11 := cell_of hb z11
  replace z20 := cell_of hb z20
  replace z21 := cell_of hb z21
  clear hb HB3 TW3
  have hlt := cell_lt z21
  go_wp2_with fail
  obtain ⟨wl, hW⟩ : ∃ wl, w4.alloc (.cells #[.int .i64 0, .int .i64 0] 23) = wl := ⟨_, rfl⟩
  have hst : AddSt w w4.heap.size ak aq bk bq ck cq 0 wl := by
    rw [← hW]
    have hlo : w.heap.size + 1 + 1 < w4.heap.size := cell_lt z21
    refine ⟨⟨HB4.out.alloc (by omega) _, TW4.out.below ((Below.refl _ _).alloc (Nat.le_refl _) _), hlo⟩, ⟨?_, ?_, ?_, ?_, ?_, ?_⟩, ⟨?_, ?_, ?_, ?_⟩⟩
    all_goals first | (refine cell_of ((Below.refl _ w4).alloc (Nat.le_refl _) _) ?_; assumption) | (rw [show fk 0 = 0 by decide +kernel]; simp [go_sem]; done) | (rw [show fq 0 = 0 by decide +kernel]; simp [go_sem]; done) | simp [go_sem]
  rw [hW]
  have HST := Lib.hid hst
  obtain ⟨B, hB⟩ : ∃ B, w4.heap.size = B := ⟨_, rfl⟩
  rw [hB] at HST
  rw [hB]
  clear hst hW hB HB4 TW4 hlt z00 z01 z10 z11 z20 z21 Ha Hb Hc
  go_loopw [11] (fun i wr => ∃ j : Nat, j ≤ n ∧ i = .int .i64 j ∧ Hid (AddSt w B ak aq bk bq ck cq (j * val ak aq) wr)) (fun i _ => n - (intOf i).toNat)
  case atStart => exact ⟨0, Nat.zero_le _, rfl, by simpa using HST⟩
  case round =>
    obtain ⟨j, hj, rfl, HS⟩ := hrel
    obtain ⟨⟨h1, h2, h3⟩, ⟨z00, z01, z10, z11, z20, z21⟩, ⟨s0, s1, s2, s3⟩⟩ := HS.out
    have HB0 := Lib.hid h1
    have TW0 := Lib.hid h2
    clear h1 h2 HST
    by_cases hlt : j < n
    · have HM : Hid (T (val (fk (j * val ak aq)) (fq (j * val ak aq)) + val ak aq) = T (((j : Int) + 1) * val ak aq)) := Lib.hid (T_congr (by rw [Int.add_emod, val_form_mod, ← Int.add_emod]; congr 1; rw [Int.add_mul, Int.one_mul]))
      have HR := Lib.hid (isR_true (k := (fk (((j : Int) + 1) * val ak aq) : Int)) (q := (fq (((j : Int) + 1) * val ak aq) : Int)) ⟨by omega, by have := fq_le (((j : Int) + 1) * val ak aq); omega, by omega, by have := fk_le (((j : Int) + 1) * val ak aq); omega⟩)
      have sl := cell_lt s0
      have hlti : (j : Int) < (n : Int) := by omega
      clear h3
      go_wp2_with fail
      refine Calls.mono (add18 _ ak _ aq (fq_le _) ha40 _ TW0.out) ?_
      rintro e' w2 ⟨rfl, hb⟩
      rw [HM.out]
      have t0 := cell_of hb s0
      have t1 := cell_of hb s1
      have t2 := froz_of hb sl s2
      have t3 := froz_of hb sl s3
      have HB2 := Lib.hid hb
      clear hb
      go_wp2_with fail
      refine Calls.mono (right13 _ _ _) ?_
      rintro e' w3 ⟨rfl, hb⟩
      rw [HR.out]
      have HS3 := Lib.hid (addSt_step HS.out HB2.out hb)
      clear hb t0 t1 t2 t3 s0 s1 s2 s3 sl z00 z01 z10 z11 z20 z21 HB2 TW0 HM HR HS
      go_wp2
      go_roundw
      case rel => exact ⟨j + 1, by omega, by go_num, by rw [show ((j + 1 : Nat) : Int) = (j : Int) + 1 by push_cast; rfl]; exact HS3⟩
      case measure => simp [intOf]; omega
    · obtain rfl : j = n := by omega
      have TS : Hid (T ((j : Int) * val ak aq) = .agg #[.int .i64 (fk ((j : Int) * val ak aq)), .int .i64 (fq ((j : Int) * val ak aq))]) := Lib.hid rfl
      have VSV : Hid (val (fk ((j : Int) * val ak aq)) (fq ((j : Int) * val ak aq)) % 1099511627776 = ((j : Int) * val ak aq) % 1099511627776) := Lib.hid (val_form_mod _)
      have sk40 := fk_le ((j : Int) * val ak aq)
      have sq40 := fq_le ((j : Int) * val ak aq)
      generalize hsk : fk ((j : Int) * val ak aq) = sk at *
      generalize hsq : fq ((j : Int) * val ak aq) = sq at *
      have VM : Hid (T (- val sk sq) = T (-(j : Int) * val ak aq)) := Lib.hid (T_congr (by rw [Int.neg_mul]; have h := VSV.out; omega))
      obtain ⟨mk, mq, vm⟩ := T_any' (-(j : Int) * val ak aq)
      have VN := Lib.hid vm
      have VN2 := Lib.hid (VM.out.trans vm)
      clear vm hsk hsq VSV VM HS hj
      clear s2 s3
      have hlt1 := cell_lt z00
      have hlt2 := cell_lt z10
      have hlt3 := cell_lt z20
      go_wp2_with fail
      refine Calls.mono (add18i ak aq bk bq aq bq rfl rfl ha40 hb40 _ VD.out _ TW0.out) ?_
      rintro e' w1 ⟨rfl, hb⟩
      have HB1 := Lib.hid (HB0.out.trans (hb.mono HB0.out.size))
      have TW1 := Lib.hid (TW0.out.below hb)
      replace z00 := cell_of hb z00
      replace z01 := cell_of hb z01
      replace z10 := cell_of hb z10
      replace z11 := cell_of hb z11
      replace z20 := cell_of hb z20
      replace z21 := cell_of hb z21
      replace s0 := cell_of hb s0
      replace s1 := cell_of hb s1
      clear hb HB0 TW0
      clear hlt1 hlt2 hlt3
      have hlt2 := cell_lt z10
      have hlt3 := cell_lt z20
      go_wp2_with fail
      obtain ⟨w2, hW⟩ : ∃ w2, w1.alloc (.cells #[.int .i64 dk, .int .i64 dq] 23) = w2 := ⟨_, rfl⟩
      have hb : Below w1.heap.size w1 w2 := by rw [← hW]; exact (Below.refl _ _).alloc (Nat.le_refl _) _
      have HB2 := Lib.hid (HB1.out.trans (hb.mono HB1.out.size))
      have TW2 := Lib.hid (TW1.out.below hb)
      replace z00 := cell_of hb z00
      replace z01 := cell_of hb z01
      replace z10 := cell_of hb z10
      replace z11 := cell_of hb z11
      replace z20 := cell_of hb z20
      replace z21 := cell_of hb z21
      replace s0 := cell_of hb s0
      replace s1 := cell_of hb s1
      have zd0 : w2.cell? ⟨w1.heap.size, 0, none⟩ = some (.int .i64 dk) := by rw [← hW]; simp [go_sem]
      have zd1 : w2.cell? ⟨w1.heap.size, 1, none⟩ = some (.int .i64 dq) := by rw [← hW]; simp [go_sem]
      rw [hW]
      clear hW hb HB1 TW1
      refine Calls.mono (add18i bk bq ck cq bq cq rfl rfl hb40 hc40 _ VE.out _ TW2.out) ?_
      rintro e' w3 ⟨rfl, hb⟩
      have HB3 := Lib.hid (HB2.out.trans (hb.mono HB2.out.size))
      have TW3 := Lib.hid (TW2.out.below hb)
      replace z00 := cell_of hb z00
      replace z01 := cell_of hb z01
      replace z10 := cell_of hb z10
      replace z11 := cell_of hb z11
      replace z20 := cell_of hb z20
      replace z21 := cell_of hb z21
      replace s0 := cell_of hb s0
      replace s1 := cell_of hb s1
      replace zd0 := cell_of hb zd0
      replace zd1 := cell_of hb zd1
      clear hb HB2 TW2
      have hltd := cell_lt zd0
      go_wp2_with fail
      obtain ⟨w4, hW⟩ : ∃ w4, w3.alloc (.cells #[.int .i64 ek, .int .i64 eq] 23) = w4 := ⟨_, rfl⟩
      have hb : Below w3.heap.size w3 w4 := by rw [← hW]; exact (Below.refl _ _).alloc (Nat.le_refl _) _
      have HB4 := Lib.hid (HB3.out.trans (hb.mono HB3.out.size))
      have TW4 := Lib.hid (TW3.out.below hb)
      replace z00 := cell_of hb z00
      replace z01 := cell_of hb z01
      replace z10 := cell_of hb z10
      replace z11 := cell_of hb z11
      replace z20 := cell_of hb z20
      replace z21 := cell_of hb z21
      replace s0 := cell_of hb s0
      replace s1 := cell_of hb s1
      replace zd0 := cell_of hb zd0
      replace zd1 := cell_of hb zd1
      have ze0 : w4.cell? ⟨w3.heap.size, 0, none⟩ = some (.int .i64 ek) := by rw [← hW]; simp [go_sem]
      have ze1 : w4.cell? ⟨w3.heap.size, 1, none⟩ = some (.int .i64 eq) := by rw [← hW]; simp [go_sem]
      rw [hW]
      clear hW hb HB3 TW3
      refine Calls.mono (rightT dk dq _ HRd.out) ?_
      rintro e' w5 ⟨rfl, hb⟩
      have HB5 := Lib.hid (HB4.out.trans (hb.mono HB4.out.size))
      have TW5 := Lib.hid (TW4.out.below hb)
      replace z00 := cell_of hb z00
      replace z01 := cell_of hb z01
      replace z10 := cell_of hb z10
      replace z11 := cell_of hb z11
      replace z20 := cell_of hb z20
      replace z21 := cell_of hb z21
      replace s0 := cell_of hb s0
      replace s1 := cell_of hb s1
      replace zd0 := cell_of hb zd0
      replace zd1 := cell_of hb zd1
      replace ze0 := cell_of hb ze0
      replace ze1 := cell_of hb ze1
      clear hb HB4 TW4
      go_wp2_with fail
      refine Calls.mono (rightT ek eq _ HRe.out) ?_
      rintro e' w6 ⟨rfl, hb⟩
      have HB6 := Lib.hid (HB5.out.trans (hb.mono HB5.out.size))
      have TW6 := Lib.hid (TW5.out.below hb)
      replace z00 := cell_of hb z00
      replace z01 := cell_of hb z01
      replace z10 := cell_of hb z10
      replace z11 := cell_of hb z11
      replace z20 := cell_of hb z20
      replace z21 := cell_of hb z21
      replace s0 := cell_of hb s0
      replace s1 := cell_of hb s1
      replace zd0 := cell_of hb zd0
      replace zd1 := cell_of hb zd1
      replace ze0 := cell_of hb ze0
      replace ze1 := cell_of hb ze1
      clear hb HB5 TW5
      go_wp2_with fail
      have TW := TW6
      refine wp_region_det (S := Below w6.heap.size w6) (by kernel_rfl) (Below.refl _ w6).drew ?_
      refine wpAnyS_take (i := 0) rfl (by kernel_rfl) (by kernel_rfl) (by kernel_rfl) (fun _ _ _ h => h) (.inl ⟨by kernel_rfl, fun w' hS => (by have y0 := cell_of hS z00; have y1 := cell_of hS z01; have y2 := cell_of hS z10; have y3 := cell_of hS z11; have y4 := cell_of hS z20; have y5 := cell_of hS z21; have y6 := cell_of hS s0; have y7 := cell_of hS s1; have y8 := cell_of hS zd0; have y9 := cell_of hS zd1; have y10 := cell_of hS ze0; have y11 := cell_of hS ze1; go_simp; exact ⟨rfl, hS⟩)⟩) rfl (by go_simp; rfl) ?_
      refine wpAnyS_take (i := 1) rfl (by kernel_rfl) (by kernel_rfl) (by kernel_rfl) (fun _ _ _ h => h) (.inl ⟨by kernel_rfl, fun w' hS => (by have y0 := cell_of hS z00; have y1 := cell_of hS z01; have y2 := cell_of hS z10; have y3 := cell_of hS z11; have y4 := cell_of hS z20; have y5 := cell_of hS z21; have y6 := cell_of hS s0; have y7 := cell_of hS s1; have y8 := cell_of hS zd0; have y9 := cell_of hS zd1; have y10 := cell_of hS ze0; have y11 := cell_of hS ze1; go_simp; exact ⟨rfl, hS⟩)⟩) rfl (by go_simp; rfl) ?_
      refine wpAnyS_take (i := 2) rfl (by kernel_rfl) (by kernel_rfl) (by kernel_rfl) (fun _ _ _ h => h) (.inl ⟨by kernel_rfl, fun w' hS => (by have y0 := cell_of hS z00; have y1 := cell_of hS z01; have y2 := cell_of hS z10; have y3 := cell_of hS z11; have y4 := cell_of hS z20; have y5 := cell_of hS z21; have y6 := cell_of hS s0; have y7 := cell_of hS s1; have y8 := cell_of hS zd0; have y9 := cell_of hS zd1; have y10 := cell_of hS ze0; have y11 := cell_of hS ze1; go_simp; exact ⟨rfl, hS⟩)⟩) rfl (by go_simp; rfl) ?_
      refine wpAnyS_take (i := 3) rfl (by kernel_rfl) (by kernel_rfl) (by kernel_rfl) (fun _ _ _ h => h) (.inl ⟨by kernel_rfl, fun w' hS => (by have y0 := cell_of hS z00; have y1 := cell_of hS z01; have y2 := cell_of hS z10; have y3 := cell_of hS z11; have y4 := cell_of hS z20; have y5 := cell_of hS z21; have y6 := cell_of hS s0; have y7 := cell_of hS s1; have y8 := cell_of hS zd0; have y9 := cell_of hS zd1; have y10 := cell_of hS ze0; have y11 := cell_of hS ze1; go_simp; exact ⟨rfl, hS⟩)⟩) rfl (by go_simp; rfl) ?_
      refine wpAnyS_take (i := 4) rfl (by kernel_rfl) (by kernel_rfl) (by kernel_rfl) (fun _ _ _ h => h) (.inl ⟨by kernel_rfl, fun w' hS => (by have y0 := cell_of hS z00; have y1 := cell_of hS z01; have y2 := cell_of hS z10; have y3 := cell_of hS z11; have y4 := cell_of hS z20; have y5 := cell_of hS z21; have y6 := cell_of hS s0; have y7 := cell_of hS s1; have y8 := cell_of hS zd0; have y9 := cell_of hS zd1; have y10 := cell_of hS ze0; have y11 := cell_of hS ze1; go_simp; exact ⟨rfl, hS⟩)⟩) rfl (by go_simp; rfl) ?_
      refine wpAnyS_take (i := 5) rfl (by kernel_rfl) (by kernel_rfl) (by kernel_rfl) (fun _ _ _ h => h) (.inl ⟨by kernel_rfl, fun w' hS => (by go_simp; refine Calls.mono (add18i bk bq ak aq bq aq rfl rfl hb40 ha40 _ VD2.out _ (TW.out.below hS)) ?_; intro e w'' hE; obtain ⟨he, hb⟩ := hE; exact ⟨he, hS.trans (hb.mono hS.size)⟩)⟩) rfl (by go_simp; rfl) ?_
      refine wpAnyS_take (i := 6) rfl (by kernel_rfl) (by kernel_rfl) (by kernel_rfl) (fun _ _ _ h => h) (.inl ⟨by kernel_rfl, fun w' hS => (by have y0 := cell_of hS z00; have y1 := cell_of hS z01; have y2 := cell_of hS z10; have y3 := cell_of hS z11; have y4 := cell_of hS z20; have y5 := cell_of hS z21; have y6 := cell_of hS s0; have y7 := cell_of hS s1; have y8 := cell_of hS zd0; have y9 := cell_of hS zd1; have y10 := cell_of hS ze0; have y11 := cell_of hS ze1; go_simp; exact ⟨rfl, hS⟩)⟩) rfl (by go_simp; rfl) ?_
      refine wpAnyS_take (i := 7) rfl (by kernel_rfl) (by kernel_rfl) (by kernel_rfl) (fun _ _ _ h => h) (.inl ⟨by kernel_rfl, fun w' hS => (by have y0 := cell_of hS z00; have y1 := cell_of hS z01; have y2 := cell_of hS z10; have y3 := cell_of hS z11; have y4 := cell_of hS z20; have y5 := cell_of hS z21; have y6 := cell_of hS s0; have y7 := cell_of hS s1; have y8 := cell_of hS zd0; have y9 := cell_of hS zd1; have y10 := cell_of hS ze0; have y11 := cell_of hS ze1; go_simp; exact ⟨rfl, hS⟩)⟩) rfl (by go_simp; rfl) ?_
      refine wpAnyS_take (i := 8) rfl (by kernel_rfl) (by kernel_rfl) (by kernel_rfl) (fun _ _ _ h => h) (.inl ⟨by kernel_rfl, fun w' hS => (by have y0 := cell_of hS z00; have y1 := cell_of hS z01; have y2 := cell_of hS z10; have y3 := cell_of hS z11; have y4 := cell_of hS z20; have y5 := cell_of hS z21; have y6 := cell_of hS s0; have y7 := cell_of hS s1; have y8 := cell_of hS zd0; have y9 := cell_of hS zd1; have y10 := cell_of hS ze0; have y11 := cell_of hS ze1; go_simp; exact ⟨rfl, hS⟩)⟩) rfl (by go_simp; rfl) ?_
      refine wpAnyS_take (i := 9) rfl (by kernel_rfl) (by kernel_rfl) (by kernel_rfl) (fun _ _ _ h => h) (.inl ⟨by kernel_rfl, fun w' hS => (by have y0 := cell_of hS z00; have y1 := cell_of hS z01; have y2 := cell_of hS z10; have y3 := cell_of hS z11; have y4 := cell_of hS z20; have y5 := cell_of hS z21; have y6 := cell_of hS s0; have y7 := cell_of hS s1; have y8 := cell_of hS zd0; have y9 := cell_of hS zd1; have y10 := cell_of hS ze0; have y11 := cell_of hS ze1; go_simp; exact ⟨rfl, hS⟩)⟩) rfl (by go_simp; rfl) ?_
      refine wpAnyS_take (i := 10) rfl (by kernel_rfl) (by kernel_rfl) (by kernel_rfl) (fun _ _ _ h => h) (.inl ⟨by kernel_rfl, fun w' hS => (by have y0 := cell_of hS z00; have y1 := cell_of hS z01; have y2 := cell_of hS z10; have y3 := cell_of hS z11; have y4 := cell_of hS z20; have y5 := cell_of hS z21; have y6 := cell_of hS s0; have y7 := cell_of hS s1; have y8 := cell_of hS zd0; have y9 := cell_of hS zd1; have y10 := cell_of hS ze0; have y11 := cell_of hS ze1; go_simp; exact ⟨rfl, hS⟩)⟩) rfl (by go_simp; rfl) ?_
      refine wpAnyS_take (i := 11) rfl (by kernel_rfl) (by kernel_rfl) (by kernel_rfl) (fun _ _ _ h => h) (.inl ⟨by kernel_rfl, fun w' hS => (by go_simp; refine Calls.mono (add18i dk dq ck cq dq cq rfl rfl hd40 hc40 _ VG.out _ (TW.out.below hS)) ?_; intro e w'' hE; obtain ⟨he, hb⟩ := hE; exact ⟨he, hS.trans (hb.mono hS.size)⟩)⟩) rfl (by go_simp; rfl) ?_
      refine wpAnyS_take (i := 12) rfl (by kernel_rfl) (by kernel_rfl) (by kernel_rfl) (fun _ _ _ h => h) (.inl ⟨by kernel_rfl, fun w' hS => (by have y0 := cell_of hS z00; have y1 := cell_of hS z01; have y2 := cell_of hS z10; have y3 := cell_of hS z11; have y4 := cell_of hS z20; have y5 := cell_of hS z21; have y6 := cell_of hS s0; have y7 := cell_of hS s1; have y8 := cell_of hS zd0; have y9 := cell_of hS zd1; have y10 := cell_of hS ze0; have y11 := cell_of hS ze1; go_simp; exact ⟨rfl, hS⟩)⟩) rfl (by go_simp; rfl) ?_
      refine wpAnyS_take (i := 13) rfl (by kernel_rfl) (by kernel_rfl) (by kernel_rfl) (fun _ _ _ h => h) (.inl ⟨by kernel_rfl, fun w' hS => (by have y0 := cell_of hS z00; have y1 := cell_of hS z01; have y2 := cell_of hS z10; have y3 := cell_of hS z11; have y4 := cell_of hS z20; have y5 := cell_of hS z21; have y6 := cell_of hS s0; have y7 := cell_of hS s1; have y8 := cell_of hS zd0; have y9 := cell_of hS zd1; have y10 := cell_of hS ze0; have y11 := cell_of hS ze1; go_simp; exact ⟨rfl, hS⟩)⟩) rfl (by go_simp; rfl) ?_
      refine wpAnyS_take (i := 14) rfl (by kernel_rfl) (by kernel_rfl) (by kernel_rfl) (fun _ _ _ h => h) (.inl ⟨by kernel_rfl, fun w' hS => (by go_simp; refine Calls.mono (add18i ak aq ek eq aq eq rfl rfl ha40 he40 _ VG2.out _ (TW.out.below hS)) ?_; intro e w'' hE; obtain ⟨he, hb⟩ := hE; exact ⟨he, hS.trans (hb.mono hS.size)⟩)⟩) rfl (by go_simp; rfl) ?_
      refine wpAnyS_take (i := 15) rfl (by kernel_rfl) (by kernel_rfl) (by kernel_rfl) (fun _ _ _ h => h) (.inl ⟨by kernel_rfl, fun w' hS => (by have y0 := cell_of hS z00; have y1 := cell_of hS z01; have y2 := cell_of hS z10; have y3 := cell_of hS z11; have y4 := cell_of hS z20; have y5 := cell_of hS z21; have y6 := cell_of hS s0; have y7 := cell_of hS s1; have y8 := cell_of hS zd0; have y9 := cell_of hS zd1; have y10 := cell_of hS ze0; have y11 := cell_of hS ze1; go_simp; exact ⟨rfl, hS⟩)⟩) rfl (by go_simp; rfl) ?_
      refine wpAnyS_take (i := 16) rfl (by kernel_rfl) (by kernel_rfl) (by kernel_rfl) (fun _ _ _ h => h) (.inl ⟨by kernel_rfl, fun w' hS => (by have y0 := cell_of hS z00; have y1 := cell_of hS z01; have y2 := cell_of hS z10; have y3 := cell_of hS z11; have y4 := cell_of hS z20; have y5 := cell_of hS z21; have y6 := cell_of hS s0; have y7 := cell_of hS s1; have y8 := cell_of hS zd0; have y9 := cell_of hS zd1; have y10 := cell_of hS ze0; have y11 := cell_of hS ze1; go_simp; exact ⟨rfl, hS⟩)⟩) rfl (by go_simp; rfl) ?_
      refine wpAnyS_take (i := 17) rfl (by kernel_rfl) (by kernel_rfl) (by kernel_rfl) (fun _ _ _ h => h) (.inl ⟨by kernel_rfl, fun w' hS => (by have y0 := cell_of hS z00; have y1 := cell_of hS z01; have y2 := cell_of hS z10; have y3 := cell_of hS z11; have y4 := cell_of hS z20; have y5 := cell_of hS z21; have y6 := cell_of hS s0; have y7 := cell_of hS s1; have y8 := cell_of hS zd0; have y9 := cell_of hS zd1; have y10 := cell_of hS ze0; have y11 := cell_of hS ze1; go_simp; exact ⟨rfl, hS⟩)⟩) rfl (by go_simp; rfl) ?_
      refine wpAnyS_take (i := 18) rfl (by kernel_rfl) (by kernel_rfl) (by kernel_rfl) (fun _ _ _ h => h) (.inl ⟨by kernel_rfl, fun w' hS => (by have y0 := cell_of hS z00; have y1 := cell_of hS z01; have y2 := cell_of hS z10; have y3 := cell_of hS z11; have y4 := cell_of hS z20; have y5 := cell_of hS z21; have y6 := cell_of hS s0; have y7 := cell_of hS s1; have y8 := cell_of hS zd0; have y9 := cell_of hS zd1; have y10 := cell_of hS ze0; have y11 := cell_of hS ze1; go_simp; exact ⟨rfl, hS⟩)⟩) rfl (by go_simp; rfl) ?_
      refine wpAnyS_take (i := 19) rfl (by kernel_rfl) (by kernel_rfl) (by kernel_rfl) (fun _ _ _ h => h) (.inl ⟨by kernel_rfl, fun w' hS => (by have y0 := cell_of hS z00; have y1 := cell_of hS z01; have y2 := cell_of hS z10; have y3 := cell_of hS z11; have y4 := cell_of hS z20; have y5 := cell_of hS z21; have y6 := cell_of hS s0; have y7 := cell_of hS s1; have y8 := cell_of hS zd0; have y9 := cell_of hS zd1; have y10 := cell_of hS ze0; have y11 := cell_of hS ze1; go_simp; exact ⟨rfl, hS⟩)⟩) rfl (by go_simp; rfl) ?_
      refine wpAnyS_take (i := 20) rfl (by kernel_rfl) (by kernel_rfl) (by kernel_rfl) (fun _ _ _ h => h) (.inl ⟨by kernel_rfl, fun w' hS => (by go_simp; refine Calls.mono (flip20i ak aq aq rfl ha40 (by omega) (by omega) _ VX.out _ (TW.out.below hS)) ?_; intro e w'' hE; obtain ⟨he, hb⟩ := hE; exact ⟨he, hS.trans (hb.mono hS.size)⟩)⟩) rfl (by go_simp; rfl) ?_
      refine wpAnyS_take (i := 21) rfl (by kernel_rfl) (by kernel_rfl) (by kernel_rfl) (fun _ _ _ h => h) (.inl ⟨by kernel_rfl, fun w' hS => (by go_simp; refine Calls.mono (add18i ak aq xk xq aq xq rfl rfl ha40 hx40 _ VZ.out _ (TW.out.below hS)) ?_; intro e w'' hE; obtain ⟨he, hb⟩ := hE; exact ⟨he, hS.trans (hb.mono hS.size)⟩)⟩) rfl (by go_simp; rfl) ?_
      refine wpAnyS_take (i := 22) rfl (by kernel_rfl) (by kernel_rfl) (by kernel_rfl) (fun _ _ _ h => h) (.inl ⟨by kernel_rfl, fun w' hS => (by have y0 := cell_of hS z00; have y1 := cell_of hS z01; have y2 := cell_of hS z10; have y3 := cell_of hS z11; have y4 := cell_of hS z20; have y5 := cell_of hS z21; have y6 := cell_of hS s0; have y7 := cell_of hS s1; have y8 := cell_of hS zd0; have y9 := cell_of hS zd1; have y10 := cell_of hS ze0; have y11 := cell_of hS ze1; go_simp; exact ⟨rfl, hS⟩)⟩) rfl (by go_simp; rfl) ?_
      refine wpAnyS_take (i := 23) rfl (by kernel_rfl) (by kernel_rfl) (by kernel_rfl) (fun _ _ _ h => h) (.inl ⟨by kernel_rfl, fun w' hS => (by have y0 := cell_of hS z00; have y1 := cell_of hS z01; have y2 := cell_of hS z10; have y3 := cell_of hS z11; have y4 := cell_of hS z20; have y5 := cell_of hS z21; have y6 := cell_of hS s0; have y7 := cell_of hS s1; have y8 := cell_of hS zd0; have y9 := cell_of hS zd1; have y10 := cell_of hS ze0; have y11 := cell_of hS ze1; go_simp; exact ⟨rfl, hS⟩)⟩) rfl (by go_simp; rfl) ?_
      refine wpAnyS_take (i := 24) rfl (by kernel_rfl) (by kernel_rfl) (by kernel_rfl) (fun _ _ _ h => h) (.inl ⟨by kernel_rfl, fun w' hS => (by have y0 := cell_of hS z00; have y1 := cell_of hS z01; have y2 := cell_of hS z10; have y3 := cell_of hS z11; have y4 := cell_of hS z20; have y5 := cell_of hS z21; have y6 := cell_of hS s0; have y7 := cell_of hS s1; have y8 := cell_of hS zd0; have y9 := cell_of hS zd1; have y10 := cell_of hS ze0; have y11 := cell_of hS ze1; go_simp; exact ⟨rfl, hS⟩)⟩) rfl (by go_simp; rfl) ?_
      refine wpAnyS_take (i := 25) rfl (by kernel_rfl) (by kernel_rfl) (by kernel_rfl) (fun _ _ _ h => h) (.inl ⟨by kernel_rfl, fun w' hS => (by have y0 := cell_of hS z00; have y1 := cell_of hS z01; have y2 := cell_of hS z10; have y3 := cell_of hS z11; have y4 := cell_of hS z20; have y5 := cell_of hS z21; have y6 := cell_of hS s0; have y7 := cell_of hS s1; have y8 := cell_of hS zd0; have y9 := cell_of hS zd1; have y10 := cell_of hS ze0; have y11 := cell_of hS ze1; go_simp; exact ⟨rfl, hS⟩)⟩) rfl (by go_simp; rfl) ?_
      refine wpAnyS_take (i := 26) rfl (by kernel_rfl) (by kernel_rfl) (by kernel_rfl) (fun _ _ _ h => h) (.inl ⟨by kernel_rfl, fun w' hS => (by have y0 := cell_of hS z00; have y1 := cell_of hS z01; have y2 := cell_of hS z10; have y3 := cell_of hS z11; have y4 := cell_of hS z20; have y5 := cell_of hS z21; have y6 := cell_of hS s0; have y7 := cell_of hS s1; have y8 := cell_of hS zd0; have y9 := cell_of hS zd1; have y10 := cell_of hS ze0; have y11 := cell_of hS ze1; go_simp; exact ⟨rfl, hS⟩)⟩) rfl (by go_simp; rfl) ?_
      refine wpAnyS_take (i := 27) rfl (by kernel_rfl) (by kernel_rfl) (by kernel_rfl) (fun _ _ _ h => h) (.inl ⟨by kernel_rfl, fun w' hS => (by have y0 := cell_of hS z00; have y1 := cell_of hS z01; have y2 := cell_of hS z10; have y3 := cell_of hS z11; have y4 := cell_of hS z20; have y5 := cell_of hS z21; have y6 := cell_of hS s0; have y7 := cell_of hS s1; have y8 := cell_of hS zd0; have y9 := cell_of hS zd1; have y10 := cell_of hS ze0; have y11 := cell_of hS ze1; go_simp; exact ⟨rfl, hS⟩)⟩) rfl (by go_simp; rfl) ?_
      refine wpAnyS_take (i := 28) rfl (by kernel_rfl) (by kernel_rfl) (by kernel_rfl) (fun _ _ _ h => h) (.inl ⟨by kernel_rfl, fun w' hS => (by go_simp; refine Calls.mono (add18i ak aq 0 0 aq 0 rfl rfl ha40 (by decide) _ VY0.out _ (TW.out.below hS)) ?_; intro e w'' hE; obtain ⟨he, hb⟩ := hE; exact ⟨he, hS.trans (hb.mono hS.size)⟩)⟩) rfl (by go_simp; rfl) ?_
      refine wpAnyS_take (i := 29) rfl (by kernel_rfl) (by kernel_rfl) (by kernel_rfl) (fun _ _ _ h => h) (.inl ⟨by kernel_rfl, fun w' hS => (by have y0 := cell_of hS z00; have y1 := cell_of hS z01; have y2 := cell_of hS z10; have y3 := cell_of hS z11; have y4 := cell_of hS z20; have y5 := cell_of hS z21; have y6 := cell_of hS s0; have y7 := cell_of hS s1; have y8 := cell_of hS zd0; have y9 := cell_of hS zd1; have y10 := cell_of hS ze0; have y11 := cell_of hS ze1; go_simp; exact ⟨rfl, hS⟩)⟩) rfl (by go_simp; rfl) ?_
      refine wpAnyS_take (i := 30) rfl (by kernel_rfl) (by kernel_rfl) (by kernel_rfl) (fun _ _ _ h => h) (.inl ⟨by kernel_rfl, fun w' hS => (by go_simp; refine Calls.mono (form16i ak aq aq rfl ha40 _ VY.out _ (TW.out.below hS)) ?_; intro e w'' hE; obtain ⟨he, hb⟩ := hE; exact ⟨he, hS.trans (hb.mono hS.size)⟩)⟩) rfl (by go_simp; rfl) ?_
      refine wpAnyS_take (i := 31) rfl (by kernel_rfl) (by kernel_rfl) (by kernel_rfl) (fun _ _ _ h => h) (.inl ⟨by kernel_rfl, fun w' hS => (by have y0 := cell_of hS z00; have y1 := cell_of hS z01; have y2 := cell_of hS z10; have y3 := cell_of hS z11; have y4 := cell_of hS z20; have y5 := cell_of hS z21; have y6 := cell_of hS s0; have y7 := cell_of hS s1; have y8 := cell_of hS zd0; have y9 := cell_of hS zd1; have y10 := cell_of hS ze0; have y11 := cell_of hS ze1; go_simp; exact ⟨rfl, hS⟩)⟩) rfl (by go_simp; rfl) ?_
      refine wpAnyS_take (i := 32) rfl (by kernel_rfl) (by kernel_rfl) (by kernel_rfl) (fun _ _ _ h => h) (.inl ⟨by kernel_rfl, fun w' hS => (by have y0 := cell_of hS z00; have y1 := cell_of hS z01; have y2 := cell_of hS z10; have y3 := cell_of hS z11; have y4 := cell_of hS z20; have y5 := cell_of hS z21; have y6 := cell_of hS s0; have y7 := cell_of hS s1; have y8 := cell_of hS zd0; have y9 := cell_of hS zd1; have y10 := cell_of hS ze0; have y11 := cell_of hS ze1; go_simp; exact ⟨rfl, hS⟩)⟩) rfl (by go_simp; rfl) ?_
      refine wpAnyS_take (i := 33) rfl (by kernel_rfl) (by kernel_rfl) (by kernel_rfl) (fun _ _ _ h => h) (.inl ⟨by kernel_rfl, fun w' hS => (by have y0 := cell_of hS z00; have y1 := cell_of hS z01; have y2 := cell_of hS z10; have y3 := cell_of hS z11; have y4 := cell_of hS z20; have y5 := cell_of hS z21; have y6 := cell_of hS s0; have y7 := cell_of hS s1; have y8 := cell_of hS zd0; have y9 := cell_of hS zd1; have y10 := cell_of hS ze0; have y11 := cell_of hS ze1; go_simp; exact ⟨rfl, hS⟩)⟩) rfl (by go_simp; rfl) ?_
      refine wpAnyS_take (i := 34) rfl (by kernel_rfl) (by kernel_rfl) (by kernel_rfl) (fun _ _ _ h => h) (.inl ⟨by kernel_rfl, fun w' hS => (by have y0 := cell_of hS z00; have y1 := cell_of hS z01; have y2 := cell_of hS z10; have y3 := cell_of hS z11; have y4 := cell_of hS z20; have y5 := cell_of hS z21; have y6 := cell_of hS s0; have y7 := cell_of hS s1; have y8 := cell_of hS zd0; have y9 := cell_of hS zd1; have y10 := cell_of hS ze0; have y11 := cell_of hS ze1; go_simp; exact ⟨rfl, hS⟩)⟩) rfl (by go_simp; rfl) ?_
      refine wpAnyS_take (i := 35) rfl (by kernel_rfl) (by kernel_rfl) (by kernel_rfl) (fun _ _ _ h => h) (.inl ⟨by kernel_rfl, fun w' hS => (by have y0 := cell_of hS z00; have y1 := cell_of hS z01; have y2 := cell_of hS z10; have y3 := cell_of hS z11; have y4 := cell_of hS z20; have y5 := cell_of hS z21; have y6 := cell_of hS s0; have y7 := cell_of hS s1; have y8 := cell_of hS zd0; have y9 := cell_of hS zd1; have y10 := cell_of hS ze0; have y11 := cell_of hS ze1; go_simp; exact ⟨rfl, hS⟩)⟩) rfl (by go_simp; rfl) ?_
      refine wpAnyS_take (i := 36) rfl (by kernel_rfl) (by kernel_rfl) (by kernel_rfl) (fun _ _ _ h => h) (.inl ⟨by kernel_rfl, fun w' hS => (by have y0 := cell_of hS z00; have y1 := cell_of hS z01; have y2 := cell_of hS z10; have y3 := cell_of hS z11; have y4 := cell_of hS z20; have y5 := cell_of hS z21; have y6 := cell_of hS s0; have y7 := cell_of hS s1; have y8 := cell_of hS zd0; have y9 := cell_of hS zd1; have y10 := cell_of hS ze0; have y11 := cell_of hS ze1; go_simp; exact ⟨rfl, hS⟩)⟩) rfl (by go_simp; rfl) ?_
      refine wpAnyS_take (i := 37) rfl (by kernel_rfl) (by kernel_rfl) (by kernel_rfl) (fun _ _ _ h => h) (.inl ⟨by kernel_rfl, fun w' hS => (by go_simp; refine Calls.mono (times22i ak aq aq rfl ha40 j _ TS.out _ (TW.out.below hS)) ?_; intro e w'' hE; obtain ⟨he, hb⟩ := hE; exact ⟨he, hS.trans (hb.mono hS.size)⟩)⟩) rfl (by go_simp; rfl) ?_
      refine wpAnyS_take (i := 38) rfl (by kernel_rfl) (by kernel_rfl) (by kernel_rfl) (fun _ _ _ h => h) (.inl ⟨by kernel_rfl, fun w' hS => (by have y0 := cell_of hS z00; have y1 := cell_of hS z01; have y2 := cell_of hS z10; have y3 := cell_of hS z11; have y4 := cell_of hS z20; have y5 := cell_of hS z21; have y6 := cell_of hS s0; have y7 := cell_of hS s1; have y8 := cell_of hS zd0; have y9 := cell_of hS zd1; have y10 := cell_of hS ze0; have y11 := cell_of hS ze1; go_simp; exact ⟨rfl, hS⟩)⟩) rfl (by go_simp; rfl) ?_
      refine wpAnyS_take (i := 39) rfl (by kernel_rfl) (by kernel_rfl) (by kernel_rfl) (fun _ _ _ h => h) (.inl ⟨by kernel_rfl, fun w' hS => (by have y0 := cell_of hS z00; have y1 := cell_of hS z01; have y2 := cell_of hS z10; have y3 := cell_of hS z11; have y4 := cell_of hS z20; have y5 := cell_of hS z21; have y6 := cell_of hS s0; have y7 := cell_of hS s1; have y8 := cell_of hS zd0; have y9 := cell_of hS zd1; have y10 := cell_of hS ze0; have y11 := cell_of hS ze1; go_simp; exact ⟨rfl, hS⟩)⟩) rfl (by go_simp; rfl) ?_
      refine wpAnyS_take (i := 40) rfl (by kernel_rfl) (by kernel_rfl) (by kernel_rfl) (fun _ _ _ h => h) (.inl ⟨by kernel_rfl, fun w' hS => (by have y0 := cell_of hS z00; have y1 := cell_of hS z01; have y2 := cell_of hS z10; have y3 := cell_of hS z11; have y4 := cell_of hS z20; have y5 := cell_of hS z21; have y6 := cell_of hS s0; have y7 := cell_of hS s1; have y8 := cell_of hS zd0; have y9 := cell_of hS zd1; have y10 := cell_of hS ze0; have y11 := cell_of hS ze1; go_simp; exact ⟨rfl, hS⟩)⟩) rfl (by go_simp; rfl) ?_
      refine wpAnyS_take (i := 41) rfl (by kernel_rfl) (by kernel_rfl) (by kernel_rfl) (fun _ _ _ h => h) (.inl ⟨by kernel_rfl, fun w' hS => (by have y0 := cell_of hS z00; have y1 := cell_of hS z01; have y2 := cell_of hS z10; have y3 := cell_of hS z11; have y4 := cell_of hS z20; have y5 := cell_of hS z21; have y6 := cell_of hS s0; have y7 := cell_of hS s1; have y8 := cell_of hS zd0; have y9 := cell_of hS zd1; have y10 := cell_of hS ze0; have y11 := cell_of hS ze1; go_simp; exact ⟨rfl, hS⟩)⟩) rfl (by go_simp; rfl) ?_
      refine wpAnyS_take (i := 42) rfl (by kernel_rfl) (by kernel_rfl) (by kernel_rfl) (fun _ _ _ h => h) (.inl ⟨by kernel_rfl, fun w' hS => (by have y0 := cell_of hS z00; have y1 := cell_of hS z01; have y2 := cell_of hS z10; have y3 := cell_of hS z11; have y4 := cell_of hS z20; have y5 := cell_of hS z21; have y6 := cell_of hS s0; have y7 := cell_of hS s1; have y8 := cell_of hS zd0; have y9 := cell_of hS zd1; have y10 := cell_of hS ze0; have y11 := cell_of hS ze1; go_simp; exact ⟨rfl, hS⟩)⟩) rfl (by go_simp; rfl) ?_
      refine wpAnyS_take (i := 43) rfl (by kernel_rfl) (by kernel_rfl) (by kernel_rfl) (fun _ _ _ h => h) (.inl ⟨by kernel_rfl, fun w' hS => (by have y0 := cell_of hS z00; have y1 := cell_of hS z01; have y2 := cell_of hS z10; have y3 := cell_of hS z11; have y4 := cell_of hS z20; have y5 := cell_of hS z21; have y6 := cell_of hS s0; have y7 := cell_of hS s1; have y8 := cell_of hS zd0; have y9 := cell_of hS zd1; have y10 := cell_of hS ze0; have y11 := cell_of hS ze1; go_simp; exact ⟨rfl, hS⟩)⟩) rfl (by go_simp; rfl) ?_
      refine wpAnyS_take (i := 44) rfl (by kernel_rfl) (by kernel_rfl) (by kernel_rfl) (fun _ _ _ h => h) (.inl ⟨by kernel_rfl, fun w' hS => (by have y0 := cell_of hS z00; have y1 := cell_of hS z01; have y2 := cell_of hS z10; have y3 := cell_of hS z11; have y4 := cell_of hS z20; have y5 := cell_of hS z21; have y6 := cell_of hS s0; have y7 := cell_of hS s1; have y8 := cell_of hS zd0; have y9 := cell_of hS zd1; have y10 := cell_of hS ze0; have y11 := cell_of hS ze1; go_simp; exact ⟨rfl, hS⟩)⟩) rfl (by go_simp; rfl) ?_
      refine wpAnyS_take (i := 45) rfl (by kernel_rfl) (by kernel_rfl) (by kernel_rfl) (fun _ _ _ h => h) (.inl ⟨by kernel_rfl, fun w' hS => (by have y0 := cell_of hS z00; have y1 := cell_of hS z01; have y2 := cell_of hS z10; have y3 := cell_of hS z11; have y4 := cell_of hS z20; have y5 := cell_of hS z21; have y6 := cell_of hS s0; have y7 := cell_of hS s1; have y8 := cell_of hS zd0; have y9 := cell_of hS zd1; have y10 := cell_of hS ze0; have y11 := cell_of hS ze1; go_simp; exact ⟨rfl, hS⟩)⟩) rfl (by go_simp; rfl) ?_
      refine wpAnyS_take (i := 46) rfl (by kernel_rfl) (by kernel_rfl) (by kernel_rfl) (fun _ _ _ h => h) (.inl ⟨by kernel_rfl, fun w' hS => (by go_simp; refine Calls.mono (times22i ak aq aq rfl ha40 (-(j : Int)) _ VN.out _ (TW.out.below hS)) ?_; intro e w'' hE; obtain ⟨he, hb⟩ := hE; exact ⟨he, hS.trans (hb.mono hS.size)⟩)⟩) rfl (by go_simp; rfl) ?_
      refine wpAnyS_take (i := 47) rfl (by kernel_rfl) (by kernel_rfl) (by kernel_rfl) (fun _ _ _ h => h) (.inl ⟨by kernel_rfl, fun w' hS => (by have y0 := cell_of hS z00; have y1 := cell_of hS z01; have y2 := cell_of hS z10; have y3 := cell_of hS z11; have y4 := cell_of hS z20; have y5 := cell_of hS z21; have y6 := cell_of hS s0; have y7 := cell_of hS s1; have y8 := cell_of hS zd0; have y9 := cell_of hS zd1; have y10 := cell_of hS ze0; have y11 := cell_of hS ze1; go_simp; exact ⟨rfl, hS⟩)⟩) rfl (by go_simp; rfl) ?_
      refine wpAnyS_take (i := 48) rfl (by kernel_rfl) (by kernel_rfl) (by kernel_rfl) (fun _ _ _ h => h) (.inl ⟨by kernel_rfl, fun w' hS => (by go_simp; refine Calls.mono (flip20i sk sq sq rfl sq40 (by omega) (by omega) _ VN2.out _ (TW.out.below hS)) ?_; intro e w'' hE; obtain ⟨he, hb⟩ := hE; exact ⟨he, hS.trans (hb.mono hS.size)⟩)⟩) rfl (by go_simp; rfl) ?_
      refine wpAnyS_take (i := 49) rfl (by kernel_rfl) (by kernel_rfl) (by kernel_rfl) (fun _ _ _ h => h) (.inl ⟨by kernel_rfl, fun w' hS => (by have y0 := cell_of hS z00; have y1 := cell_of hS z01; have y2 := cell_of hS z10; have y3 := cell_of hS z11; have y4 := cell_of hS z20; have y5 := cell_of hS z21; have y6 := cell_of hS s0; have y7 := cell_of hS s1; have y8 := cell_of hS zd0; have y9 := cell_of hS zd1; have y10 := cell_of hS ze0; have y11 := cell_of hS ze1; go_simp; exact ⟨rfl, hS⟩)⟩) rfl (by go_simp; rfl) ?_
      refine wpAnyS_take (i := 50) rfl (by kernel_rfl) (by kernel_rfl) (by kernel_rfl) (fun _ _ _ h => h) (.inl ⟨by kernel_rfl, fun w' hS => (by have y0 := cell_of hS z00; have y1 := cell_of hS z01; have y2 := cell_of hS z10; have y3 := cell_of hS z11; have y4 := cell_of hS z20; have y5 := cell_of hS z21; have y6 := cell_of hS s0; have y7 := cell_of hS s1; have y8 := cell_of hS zd0; have y9 := cell_of hS zd1; have y10 := cell_of hS ze0; have y11 := cell_of hS ze1; go_simp; exact ⟨rfl, hS⟩)⟩) rfl (by go_simp; rfl) ?_
      refine wpAnyS_take (i := 51) rfl (by kernel_rfl) (by kernel_rfl) (by kernel_rfl) (fun _ _ _ h => h) (.inl ⟨by kernel_rfl, fun w' hS => (by have y0 := cell_of hS z00; have y1 := cell_of hS z01; have y2 := cell_of hS z10; have y3 := cell_of hS z11; have y4 := cell_of hS z20; have y5 := cell_of hS z21; have y6 := cell_of hS s0; have y7 := cell_of hS s1; have y8 := cell_of hS zd0; have y9 := cell_of hS zd1; have y10 := cell_of hS ze0; have y11 := cell_of hS ze1; go_simp; exact ⟨rfl, hS⟩)⟩) rfl (by go_simp; rfl) ?_
      refine wpAnyS_done (by kernel_rfl) (fun w7 hS => ?_) _
      have HB7 := Lib.hid (HB6.out.trans (hS.mono HB6.out.size))
      have TW7 := Lib.hid (TW6.out.below hS)
      replace z00 := cell_of hS z00
      replace z01 := cell_of hS z01
      replace z10 := cell_of hS z10
      replace z11 := cell_of hS z11
      replace z20 := cell_of hS z20
      replace z21 := cell_of hS z21
      replace s0 := cell_of hS s0
      replace s1 := cell_of hS s1
      replace zd0 := cell_of hS zd0
      replace zd1 := cell_of hS zd1
      replace ze0 := cell_of hS ze0
      replace ze1 := cell_of hS ze1
      clear hS TW HB6 TW6
      go_wp2
      go_ret
      exact ⟨rfl, HB7.out⟩

theorem turnAdd_walk (ak aq bk bq ck cq n : Int) (w : World) (hn : 0 ≤ n ∧ n ≤ 255) (ht : Tab w) : Calls Tryd.prog 5 #[Ag ak aq, Ag bk bq, Ag ck cq, .int .u8 n] w (Says w true) := by
  by_cases h : 0 ≤ aq ∧ aq ≤ 40 ∧ -1099511627776 ≤ ak ∧ ak ≤ 1099511627776
  · by_cases h2 : 0 ≤ bq ∧ bq ≤ 40 ∧ -1099511627776 ≤ bk ∧ bk ≤ 1099511627776
    · by_cases h3 : 0 ≤ cq ∧ cq ≤ 40 ∧ -1099511627776 ≤ ck ∧ ck ≤ 1099511627776
      · obtain ⟨i, rfl⟩ : ∃ i : Nat, aq = i := ⟨aq.toNat, (Int.toNat_of_nonneg h.1).symm⟩
        obtain ⟨j, rfl⟩ : ∃ j : Nat, bq = j := ⟨bq.toNat, (Int.toNat_of_nonneg h2.1).symm⟩
        obtain ⟨l, rfl⟩ : ∃ l : Nat, cq = l := ⟨cq.toNat, (Int.toNat_of_nonneg h3.1).symm⟩
        obtain ⟨m, rfl⟩ : ∃ m : Nat, n = m := ⟨n.toNat, (Int.toNat_of_nonneg hn.1).symm⟩
        exact turnAdd_yes ak bk ck i j l m (by omega) (by omega) (by omega) h.2.2.1 h.2.2.2 h2.2.2.1 h2.2.2.2 h3.2.2.1 h3.2.2.2 (by omega) w ht
      · exact turnAdd_no_c ak aq bk bq ck cq n (isR_true h) (isR_true h2) (isR_false h3) w ht
    · exact turnAdd_no_b ak aq bk bq ck cq n (isR_true h) (isR_false h2) w ht
  · exact turnAdd_no_a ak aq bk bq ck cq n (isR_false h) w ht
end Go.Proofs.YtaempngakollpaaDoor
