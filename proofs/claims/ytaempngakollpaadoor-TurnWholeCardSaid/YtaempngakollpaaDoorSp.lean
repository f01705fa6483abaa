/- Split of the program. -/
import Derived.Test.YtaempngakollpaaDoorAd
namespace Go.Proofs.YtaempngakollpaaDoor
open Go.RowKit Go.Shelf

/-- which eighth -/
def eig (A : Int) : Nat := par A / 137438953472
/-- the rest of an eighth -/
def rst (A : Int) : Int := if eig A % 2 = 0 then A - eig A * 137438953472 else (eig A + 1) * 137438953472 - A
abbrev Pt (e k q : Int) : Value := .agg #[.int .i64 e, .int .i64 k, .int .i64 q]
abbrev PT (A : Int) : Value := Pt (eig A : Int) (fk (rst A) : Int) (fq (rst A) : Int)

theorem eig_lt (A : Int) : eig A < 8 := by have := par_lt A; unfold eig; omega
theorem eig_congr {A B : Int} (h : A % 1099511627776 = B % 1099511627776) : eig A = eig B := by unfold eig; rw [par_congr h]

theorem eig_of (A : Int) (K Q : Nat) (hQ : 3 ≤ Q) (hq : Q ≤ 40) (h : K * 2 ^ (40 - Q) = par A) : K / 2 ^ (Q - 3) = eig A := by
  unfold eig
  rw [← h, show (137438953472 : Nat) = 2 ^ (Q - 3) * 2 ^ (40 - Q) by rw [← Nat.pow_add, show Q - 3 + (40 - Q) = 37 by omega], Nat.mul_div_mul_right _ _ (Nat.pow_pos (by decide))]

theorem val3 (e : Int) : val e 3 = e * 137438953472 := by unfold val; rfl

set_option maxHeartbeats 1000000 in
theorem spl25 (e : Int) (h0 : 0 ≤ e) (h1 : e ≤ 8) (w : World) (ht : Tab w) : Calls Tryd.prog 25 #[.int .i64 e] w (Forms w (- val e 3)) := by
  have T0 := Lib.hid ht
  clear ht
  go_enter Tryd.func25, Tryd.ntmps25
  go_wp2_with fail
  refine (flip20 e 3 (by decide) (by omega) (by omega) _ (T0.out.below ((Below.refl _ w).alloc (Nat.le_refl _) _))).mono ?_
  rintro e' w' ⟨rfl, hb⟩
  have c0 := cell_of hb (b := w.heap.size) (o := 0) (v := .int .i64 0) (by simp [go_sem])
  have c1 := cell_of hb (b := w.heap.size) (o := 1) (v := .int .i64 0) (by simp [go_sem])
  have f0 := froz_of hb (b := w.heap.size) (o := 0) (by simp) (by simp [go_sem])
  have f1 := froz_of hb (b := w.heap.size) (o := 1) (by simp) (by simp [go_sem])
  have HB := Lib.hid hb
  clear hb
  go_wp2
  refine bodyPost_ret (v := T (- val e 3)) (by simp [results, Tryd.results25, go_sem, c0, c1]) rfl ⟨rfl, ?_⟩
  exact ((((Below.refl _ w).alloc (Nat.le_refl _) _).trans (HB.out.mono (by simp))).setCell (by simp) _).setCell (by simp) _

theorem bits_one (e : Nat) (h : e < 8) : Go.bits .and .i64 (e : Int) 1 = ((e % 2 : Nat) : Int) := by
  have : ∀ x : Nat, x < 8 → Go.bits .and .i64 (x : Int) 1 = ((x % 2 : Nat) : Int) := by decide +kernel
  exact this e h
theorem pt_zero (A : Int) (h : par A = 0) : PT A = Pt 0 0 0 := by
  have e : eig A = 0 := by unfold eig; omega
  have r : rst A = A := by unfold rst; rw [e]; simp
  rcases form_cases A with h1 | h1
  · rw [PT, e, r, h1.2.1, h1.2.2]; rfl
  · omega
theorem rst_even (A : Int) (K Q e : Nat) (h : val K Q = par A) (he : e = eig A) (h2 : e % 2 = 0) : (val K Q + val (fk (- val e 3)) (fq (- val e 3))) % 1099511627776 = rst A % 1099511627776 := by
  have h3 := val_form_mod (- val e 3)
  rw [Int.add_emod, h3, ← Int.add_emod, h, val3, par_int, he]
  unfold rst
  rw [if_pos (by omega)]
  omega
theorem rst_odd' (A : Int) (e : Nat) (he : e = eig A) (h2 : e % 2 = 1) (V B C : Int) (hV : V = par A) (hB : B % 1099511627776 = (- val ((e : Int) + 1) 3) % 1099511627776) (hC : C % 1099511627776 = (V + B) % 1099511627776) : (-C) % 1099511627776 = rst A % 1099511627776 := by
  have hp := par_int A
  rw [val3] at hB
  unfold rst
  rw [if_neg (by omega), ← he]
  omega
theorem rst_odd (A : Int) (K Q e : Nat) (h : val K Q = par A) (he : e = eig A) (h2 : e % 2 = 1) : (- val (fk (val K Q + val (fk (- val ((e : Int) + 1) 3)) (fq (- val ((e : Int) + 1) 3)))) (fq (val K Q + val (fk (- val ((e : Int) + 1) 3)) (fq (- val ((e : Int) + 1) 3))))) % 1099511627776 = rst A % 1099511627776 :=
  rst_odd' A e he h2 _ _ _ h (val_form_mod _) (val_form_mod _)
theorem spl_low (A : Int) (k' q' : Nat) (hv : val k' q' = par A) (h3 : q' < 3) (h1 : 1 ≤ k') : ∃ K : Nat, wrap64 ((k' : Int) * 2 ^ (3 - q')) = K ∧ val K 3 = par A ∧ K = eig A ∧ (K : Int) < 8 ∧ (1 : Int) ≤ K := by
  have h8 := eig_lt A
  have e1 : ((k' * 2 ^ (3 - q') : Nat) : Int) = (k' : Int) * 2 ^ (3 - q') := by rw [Int.natCast_mul, pow_int]
  have hKv : val ((k' * 2 ^ (3 - q') : Nat) : Int) 3 = par A := by rw [e1, val_shift (k' : Int) q' 3 (by omega) (by decide), hv]
  have hpos : 0 < k' * 2 ^ (3 - q') := Nat.mul_pos (by omega) (Nat.pow_pos (by decide))
  refine ⟨k' * 2 ^ (3 - q'), ?_, hKv, ?_, ?_, by omega⟩
  all_goals
    have hKe : k' * 2 ^ (3 - q') = eig A := by
      have h := hKv
      rw [val_nat] at h
      have := eig_of A (k' * 2 ^ (3 - q')) 3 (by decide) (by decide) (Int.ofNat_inj.1 h)
      simpa using this
  · rw [← e1]; unfold wrap64; omega
  · exact hKe
  · omega
theorem spl_high (A : Int) (k' q' : Nat) (p5 : k' * 2 ^ (40 - q') = par A) (h3 : 3 ≤ q') (hq : q' ≤ 40) : ∃ e : Nat, (k' : Int) / 2 ^ (q' - 3) = e ∧ e = eig A ∧ (e : Int) < 8 := by
  have h8 := eig_lt A
  have := eig_of A k' q' h3 hq p5
  exact ⟨k' / 2 ^ (q' - 3), by rw [pow_int, Int.natCast_ediv], this, by omega⟩
theorem three {W W1 : World} {B : Nat} (hb : Below W.heap.size W W1) (c0 : W.cell? ⟨B, 0, none⟩ = some (.int .i64 0)) (c1 : W.cell? ⟨B, 1, none⟩ = some (.int .i64 0)) (c2 : W.cell? ⟨B, 2, none⟩ = some (.int .i64 0)) (f0 : W.frozen? ⟨B, 0, none⟩ = false) (f1 : W.frozen? ⟨B, 1, none⟩ = false) (f2 : W.frozen? ⟨B, 2, none⟩ = false) :
    W1.cell? ⟨B, 0, none⟩ = some (.int .i64 0) ∧ W1.cell? ⟨B, 1, none⟩ = some (.int .i64 0) ∧ W1.cell? ⟨B, 2, none⟩ = some (.int .i64 0) ∧ W1.frozen? ⟨B, 0, none⟩ = false ∧ W1.frozen? ⟨B, 1, none⟩ = false ∧ W1.frozen? ⟨B, 2, none⟩ = false :=
  ⟨cell_of hb c0, cell_of hb c1, cell_of hb c2, froz_of hb (cell_lt c0) f0, froz_of hb (cell_lt c0) f1, froz_of hb (cell_lt c0) f2⟩
theorem add18_3 (k l : Int) (r : Nat) (hr : r ≤ 40) (w : World) (ht : Tab w) : Calls Tryd.prog 18 #[Ag k 3, Ag l r] w (Forms w (val k 3 + val l r)) := by
  have h := add18 k l 3 r (by decide) hr w ht
  rw [show ((3 : Nat) : Int) = 3 from rfl] at h
  exact h

set_option maxRecDepth 100000 in
set_option maxHeartbeats 4000000 in
theorem split14 (k : Int) (q : Nat) (hq : q ≤ 40) (w : World) (ht : Tab w) : Calls Tryd.prog 14 #[Ag k q] w fun e w' => e = .returned (PT (val k q)) ∧ Below w.heap.size w w' := by
  have T0 := Lib.hid ht
  clear ht
  go_enter Tryd.func14, Tryd.ntmps14
  go_wp2_with fail
  refine (form16 _ q hq _ (T0.out.below (((Below.refl _ w).alloc (Nat.le_refl _) _).alloc (by simp) _))).mono ?_
  rintro e w1 ⟨rfl, hb⟩
  have c0 := cell_of hb (b := w.heap.size + 1) (o := 0) (v := .int .i64 0) (by simp [go_sem])
  have c1 := cell_of hb (b := w.heap.size + 1) (o := 1) (v := .int .i64 0) (by simp [go_sem])
  have c2 := cell_of hb (b := w.heap.size + 1) (o := 2) (v := .int .i64 0) (by simp [go_sem])
  have f0 := froz_of hb (b := w.heap.size + 1) (o := 0) (by simp) (by simp [go_sem])
  have f1 := froz_of hb (b := w.heap.size + 1) (o := 1) (by simp) (by simp [go_sem])
  have f2 := froz_of hb (b := w.heap.size + 1) (o := 2) (by simp) (by simp [go_sem])
  have T1 := Lib.hid ((T0.out.below (((Below.refl _ w).alloc (Nat.le_refl _) _).alloc (by simp) _)).below hb)
  have HB1 := Lib.hid hb
  have hz : w.heap.size + 1 < w1.heap.size := cell_lt c0
  clear hb
  obtain ⟨A, hA⟩ : ∃ A, val k q = A := ⟨_, rfl⟩
  rw [hA]
  rcases form_cases A with ⟨p0, p1, p2⟩ | ⟨p0, p1, p2, p3, p4, p5⟩
  · rw [show T A = Ag 0 0 by rw [T, p1, p2]; rfl]
    go_wp2
    refine bodyPost_ret (v := PT A) (by rw [pt_zero A p0]; simp [results, Tryd.results14, go_sem, c0, c1, c2, hz]) rfl ⟨by rw [hA], ?_⟩
    exact ((((((Below.refl _ w).alloc (Nat.le_refl _) _).alloc (by simp) _).trans (HB1.out.mono (by simp; omega))).setCell (by simp) _).setCell (by simp) _ |>.setCell (by simp) _).alloc (by simp; omega) _
  · have hqA := fq_le A
    have hv := val_form A
    have h8 := eig_lt A
    obtain ⟨k', hk'⟩ : ∃ x, fk A = x := ⟨_, rfl⟩
    obtain ⟨q', hq'⟩ : ∃ x, fq A = x := ⟨_, rfl⟩
    rw [show T A = Ag k' q' by rw [T, hk', hq']]
    rw [hk', hq'] at p5
    rw [hk', hq'] at hv p4
    rw [hk'] at p1
    rw [hq'] at p2 p3
    clear hk' hq' hqA p0
    by_cases h3 : q' < 3
    · obtain ⟨K, hw, hKv, hKe, hK8, hK1⟩ := spl_low A k' q' hv h3 (by omega)
      have hbo := bits_one K (by omega)
      have hk1 : (1 : Int) ≤ k' := by omega
      have hq1 : (1 : Int) ≤ q' := by omega
      have hq3 : (q' : Int) < 3 := by omega
      have HV := Lib.hid hKv
      have HE := Lib.hid hKe
      have hKi : ((K : Int) == 0) = false := by apply beq_false_of_ne; omega
      clear hKv hKe hv h8 p1 p2 p3 p4 p5 h3
      by_cases hodd : K % 2 = 0
      · rw [hodd] at hbo
        go_wp2_with fail
        have TX1 : Hid (Tab (w1.alloc (.cells #[.int .i64 K, .int .i64 3] 23)).drew) := Lib.hid (T1.out.below ((Below.refl _ w1).alloc (Nat.le_refl _) _).drew)
        have HBX : Hid (Below w.heap.size w (w1.alloc (.cells #[.int .i64 K, .int .i64 3] 23)).drew) := Lib.hid (((((Below.refl _ w).alloc (Nat.le_refl _) _).alloc (by simp) _).trans (HB1.out.mono (by simp; omega))).alloc (by omega) _).drew
        obtain ⟨W0, hW0⟩ : ∃ W0, w1.alloc (.cells #[.int .i64 K, .int .i64 3] 23) = W0 := ⟨_, rfl⟩
        obtain ⟨x0, x1, x2, y0, y1, y2⟩ := three (W := w1) (W1 := W0.drew) (by rw [← hW0]; exact ((Below.refl _ w1).alloc (Nat.le_refl _) _).drew) c0 c1 c2 f0 f1 f2
        have z0 : W0.drew.cell? ⟨w1.heap.size, 0, none⟩ = some (.int .i64 K) := by rw [← hW0]; simp [go_sem]
        have z1 : W0.drew.cell? ⟨w1.heap.size, 1, none⟩ = some (.int .i64 3) := by rw [← hW0]; simp [go_sem]
        have zz0 : W0.cell? ⟨w1.heap.size, 0, none⟩ = some (.int .i64 K) := by rw [← hW0]; simp [go_sem]
        have zz1 : W0.cell? ⟨w1.heap.size, 1, none⟩ = some (.int .i64 3) := by rw [← hW0]; simp [go_sem]
        rw [hW0] at TX1 HBX
        have HW := Lib.hid hW0
        clear hW0
        replace HB1 := HBX
        clear HBX
        have HR := Lib.hid (rst_even A K 3 K HV.out HE.out hodd)
        clear hodd
        rw [HW.out]
        go_region_with (first
          | (go_at_call 25; (with_reducible refine (spl25 _ (by omega) (by omega) _ TX1.out).mono ?_); rintro e' w2 ⟨rfl, hb⟩; obtain ⟨a2, b2, d2, g2, h2, m2⟩ := three hb x0 x1 x2 y0 y1 y2; have xa2 := cell_of hb z0; have xb2 := cell_of hb z1; clear x0 x1 x2 y0 y1 y2 z0 z1; have x0 := a2; have x1 := b2; have x2 := d2; have y0 := g2; have y1 := h2; have y2 := m2; have z0 := xa2; have z1 := xb2; clear a2 b2 d2 g2 h2 m2 xa2 xb2; have TX2 := Lib.hid (TX1.out.below hb); have HB2 := Lib.hid (HB1.out.trans (hb.mono HB1.out.size)); clear hb)
          | (go_at_call 18; (with_reducible refine (add18_3 _ _ _ (fq_le _) _ TX2.out).mono ?_); rintro e' w3 ⟨rfl, hb⟩; obtain ⟨a3, b3, d3, g3, h3, m3⟩ := three hb x0 x1 x2 y0 y1 y2; have xa3 := cell_of hb z0; have xb3 := cell_of hb z1; clear x0 x1 x2 y0 y1 y2 z0 z1; have x0 := a3; have x1 := b3; have x2 := d3; have y0 := g3; have y1 := h3; have y2 := m3; have z0 := xa3; have z1 := xb3; clear a3 b3 d3 g3 h3 m3 xa3 xb3; have TX3 := Lib.hid (TX2.out.below hb); have HB3 := Lib.hid (HB2.out.trans (hb.mono HB2.out.size)); clear hb; rw [T_congr HR.out]))
        all_goals
          go_wp2
          refine bodyPost_ret (v := PT A) (by rw [PT, ← HE.out]; simp [results, Tryd.results14, go_sem, x0, x1, x2]) rfl ⟨by rw [hA], ?_⟩
          exact ((HB3.out.setCell (by simp) _).setCell (by simp) _).setCell (by simp) _
      · replace hodd : K % 2 = 1 := by omega
        rw [hodd] at hbo
        go_wp2_with fail
        have TX1 : Hid (Tab (w1.alloc (.cells #[.int .i64 K, .int .i64 3] 23)).drew) := Lib.hid (T1.out.below ((Below.refl _ w1).alloc (Nat.le_refl _) _).drew)
        have HBX : Hid (Below w.heap.size w (w1.alloc (.cells #[.int .i64 K, .int .i64 3] 23)).drew) := Lib.hid (((((Below.refl _ w).alloc (Nat.le_refl _) _).alloc (by simp) _).trans (HB1.out.mono (by simp; omega))).alloc (by omega) _).drew
        obtain ⟨W0, hW0⟩ : ∃ W0, w1.alloc (.cells #[.int .i64 K, .int .i64 3] 23) = W0 := ⟨_, rfl⟩
        obtain ⟨x0, x1, x2, y0, y1, y2⟩ := three (W := w1) (W1 := W0.drew) (by rw [← hW0]; exact ((Below.refl _ w1).alloc (Nat.le_refl _) _).drew) c0 c1 c2 f0 f1 f2
        have z0 : W0.drew.cell? ⟨w1.heap.size, 0, none⟩ = some (.int .i64 K) := by rw [← hW0]; simp [go_sem]
        have z1 : W0.drew.cell? ⟨w1.heap.size, 1, none⟩ = some (.int .i64 3) := by rw [← hW0]; simp [go_sem]
        have zz0 : W0.cell? ⟨w1.heap.size, 0, none⟩ = some (.int .i64 K) := by rw [← hW0]; simp [go_sem]
        have zz1 : W0.cell? ⟨w1.heap.size, 1, none⟩ = some (.int .i64 3) := by rw [← hW0]; simp [go_sem]
        rw [hW0] at TX1 HBX
        have HW := Lib.hid hW0
        clear hW0
        replace HB1 := HBX
        clear HBX
        have HR := Lib.hid (rst_odd A K 3 K HV.out HE.out hodd)
        clear hodd
        have hwe : IntKind.i64.wrap ((K : Int) + 1) = (K : Int) + 1 := by rw [IntKind.wrap_i64]; omega
        rw [HW.out]
        go_region_with (first
          | (go_at_call 25; (with_reducible refine (spl25 _ (by omega) (by omega) _ TX1.out).mono ?_); rintro e' w2 ⟨rfl, hb⟩; obtain ⟨a2, b2, d2, g2, h2, m2⟩ := three hb x0 x1 x2 y0 y1 y2; have xa2 := cell_of hb z0; have xb2 := cell_of hb z1; clear x0 x1 x2 y0 y1 y2 z0 z1; have x0 := a2; have x1 := b2; have x2 := d2; have y0 := g2; have y1 := h2; have y2 := m2; have z0 := xa2; have z1 := xb2; clear a2 b2 d2 g2 h2 m2 xa2 xb2; have TX2 := Lib.hid (TX1.out.below hb); have HB2 := Lib.hid (HB1.out.trans (hb.mono HB1.out.size)); clear hb)
          | (go_at_call 18; (with_reducible refine (add18_3 _ _ _ (fq_le _) _ TX2.out).mono ?_); rintro e' w3 ⟨rfl, hb⟩; obtain ⟨a3, b3, d3, g3, h3, m3⟩ := three hb x0 x1 x2 y0 y1 y2; have xa3 := cell_of hb z0; have xb3 := cell_of hb z1; clear x0 x1 x2 y0 y1 y2 z0 z1; have x0 := a3; have x1 := b3; have x2 := d3; have y0 := g3; have y1 := h3; have y2 := m3; have z0 := xa3; have z1 := xb3; clear a3 b3 d3 g3 h3 m3 xa3 xb3; have TX3 := Lib.hid (TX2.out.below hb); have HB3 := Lib.hid (HB2.out.trans (hb.mono HB2.out.size)); clear hb)
          | (go_at_call 20; (with_reducible refine (flip20 _ _ (fq_le _) (by omega) (by have := fk_le (val (K : Int) 3 + val (fk (- val ((K : Int) + 1) 3)) (fq (- val ((K : Int) + 1) 3))); omega) _ TX3.out).mono ?_); rintro e' w4 ⟨rfl, hb⟩; obtain ⟨a4, b4, d4, g4, h4, m4⟩ := three hb x0 x1 x2 y0 y1 y2; have xa4 := cell_of hb z0; have xb4 := cell_of hb z1; clear x0 x1 x2 y0 y1 y2 z0 z1; have x0 := a4; have x1 := b4; have x2 := d4; have y0 := g4; have y1 := h4; have y2 := m4; have z0 := xa4; have z1 := xb4; clear a4 b4 d4 g4 h4 m4 xa4 xb4; have TX4 := Lib.hid (TX3.out.below hb); have HB4 := Lib.hid (HB3.out.trans (hb.mono HB3.out.size)); clear hb; rw [T_congr HR.out]))
        all_goals
          go_wp2
          refine bodyPost_ret (v := PT A) (by rw [PT, ← HE.out]; simp [results, Tryd.results14, go_sem, x0, x1, x2]) rfl ⟨by rw [hA], ?_⟩
          exact ((HB4.out.setCell (by simp) _).setCell (by simp) _).setCell (by simp) _
    · obtain ⟨e, hsh, hee, he8⟩ := spl_high A k' q' p5 (by omega) p3
      have hbo := bits_one e (by omega)
      have hk1 : (1 : Int) ≤ k' := by omega
      have hq3 : (3 : Int) ≤ q' := by omega
      have hq4 : (q' : Int) ≤ 40 := by omega
      have HV := Lib.hid hv
      have HE := Lib.hid hee
      have hKi : ((k' : Int) == 0) = false := by apply beq_false_of_ne; omega
      clear hee hv h8 p1 p2 p4 p5
      by_cases hodd : e % 2 = 0
      · rw [hodd] at hbo
        go_wp2_with fail
        have TX1 : Hid (Tab (w1.alloc (.cells #[.int .i64 k', .int .i64 q'] 23)).drew) := Lib.hid (T1.out.below ((Below.refl _ w1).alloc (Nat.le_refl _) _).drew)
        have HBX : Hid (Below w.heap.size w (w1.alloc (.cells #[.int .i64 k', .int .i64 q'] 23)).drew) := Lib.hid (((((Below.refl _ w).alloc (Nat.le_refl _) _).alloc (by simp) _).trans (HB1.out.mono (by simp; omega))).alloc (by omega) _).drew
        obtain ⟨W0, hW0⟩ : ∃ W0, w1.alloc (.cells #[.int .i64 k', .int .i64 q'] 23) = W0 := ⟨_, rfl⟩
        obtain ⟨x0, x1, x2, y0, y1, y2⟩ := three (W := w1) (W1 := W0.drew) (by rw [← hW0]; exact ((Below.refl _ w1).alloc (Nat.le_refl _) _).drew) c0 c1 c2 f0 f1 f2
        have z0 : W0.drew.cell? ⟨w1.heap.size, 0, none⟩ = some (.int .i64 k') := by rw [← hW0]; simp [go_sem]
        have z1 : W0.drew.cell? ⟨w1.heap.size, 1, none⟩ = some (.int .i64 q') := by rw [← hW0]; simp [go_sem]
        have zz0 : W0.cell? ⟨w1.heap.size, 0, none⟩ = some (.int .i64 k') := by rw [← hW0]; simp [go_sem]
        have zz1 : W0.cell? ⟨w1.heap.size, 1, none⟩ = some (.int .i64 q') := by rw [← hW0]; simp [go_sem]
        rw [hW0] at TX1 HBX
        have HW := Lib.hid hW0
        clear hW0
        replace HB1 := HBX
        clear HBX
        have HR := Lib.hid (rst_even A k' q' e HV.out HE.out hodd)
        clear hodd
        rw [HW.out]
        go_region_with (first
          | (go_at_call 25; (with_reducible refine (spl25 _ (by omega) (by omega) _ TX1.out).mono ?_); rintro e' w2 ⟨rfl, hb⟩; obtain ⟨a2, b2, d2, g2, h2, m2⟩ := three hb x0 x1 x2 y0 y1 y2; have xa2 := cell_of hb z0; have xb2 := cell_of hb z1; clear x0 x1 x2 y0 y1 y2 z0 z1; have x0 := a2; have x1 := b2; have x2 := d2; have y0 := g2; have y1 := h2; have y2 := m2; have z0 := xa2; have z1 := xb2; clear a2 b2 d2 g2 h2 m2 xa2 xb2; have TX2 := Lib.hid (TX1.out.below hb); have HB2 := Lib.hid (HB1.out.trans (hb.mono HB1.out.size)); clear hb)
          | (go_at_call 18; (with_reducible refine (add18 _ _ q' _ (by omega) (fq_le _) _ TX2.out).mono ?_); rintro e' w3 ⟨rfl, hb⟩; obtain ⟨a3, b3, d3, g3, h3, m3⟩ := three hb x0 x1 x2 y0 y1 y2; have xa3 := cell_of hb z0; have xb3 := cell_of hb z1; clear x0 x1 x2 y0 y1 y2 z0 z1; have x0 := a3; have x1 := b3; have x2 := d3; have y0 := g3; have y1 := h3; have y2 := m3; have z0 := xa3; have z1 := xb3; clear a3 b3 d3 g3 h3 m3 xa3 xb3; have TX3 := Lib.hid (TX2.out.below hb); have HB3 := Lib.hid (HB2.out.trans (hb.mono HB2.out.size)); clear hb; rw [T_congr HR.out]))
        all_goals
          go_wp2
          refine bodyPost_ret (v := PT A) (by rw [PT, ← HE.out]; simp [results, Tryd.results14, go_sem, x0, x1, x2]) rfl ⟨by rw [hA], ?_⟩
          exact ((HB3.out.setCell (by simp) _).setCell (by simp) _).setCell (by simp) _
      · replace hodd : e % 2 = 1 := by omega
        rw [hodd] at hbo
        go_wp2_with fail
        have TX1 : Hid (Tab (w1.alloc (.cells #[.int .i64 k', .int .i64 q'] 23)).drew) := Lib.hid (T1.out.below ((Below.refl _ w1).alloc (Nat.le_refl _) _).drew)
        have HBX : Hid (Below w.heap.size w (w1.alloc (.cells #[.int .i64 k', .int .i64 q'] 23)).drew) := Lib.hid (((((Below.refl _ w).alloc (Nat.le_refl _) _).alloc (by simp) _).trans (HB1.out.mono (by simp; omega))).alloc (by omega) _).drew
        obtain ⟨W0, hW0⟩ : ∃ W0, w1.alloc (.cells #[.int .i64 k', .int .i64 q'] 23) = W0 := ⟨_, rfl⟩
        obtain ⟨x0, x1, x2, y0, y1, y2⟩ := three (W := w1) (W1 := W0.drew) (by rw [← hW0]; exact ((Below.refl _ w1).alloc (Nat.le_refl _) _).drew) c0 c1 c2 f0 f1 f2
        have z0 : W0.drew.cell? ⟨w1.heap.size, 0, none⟩ = some (.int .i64 k') := by rw [← hW0]; simp [go_sem]
        have z1 : W0.drew.cell? ⟨w1.heap.size, 1, none⟩ = some (.int .i64 q') := by rw [← hW0]; simp [go_sem]
        have zz0 : W0.cell? ⟨w1.heap.size, 0, none⟩ = some (.int .i64 k') := by rw [← hW0]; simp [go_sem]
        have zz1 : W0.cell? ⟨w1.heap.size, 1, none⟩ = some (.int .i64 q') := by rw [← hW0]; simp [go_sem]
        rw [hW0] at TX1 HBX
        have HW := Lib.hid hW0
        clear hW0
        replace HB1 := HBX
        clear HBX
        have HR := Lib.hid (rst_odd A k' q' e HV.out HE.out hodd)
        clear hodd
        have hwe : IntKind.i64.wrap ((e : Int) + 1) = (e : Int) + 1 := by rw [IntKind.wrap_i64]; omega
        rw [HW.out]
        go_region_with (first
          | (go_at_call 25; (with_reducible refine (spl25 _ (by omega) (by omega) _ TX1.out).mono ?_); rintro e' w2 ⟨rfl, hb⟩; obtain ⟨a2, b2, d2, g2, h2, m2⟩ := three hb x0 x1 x2 y0 y1 y2; have xa2 := cell_of hb z0; have xb2 := cell_of hb z1; clear x0 x1 x2 y0 y1 y2 z0 z1; have x0 := a2; have x1 := b2; have x2 := d2; have y0 := g2; have y1 := h2; have y2 := m2; have z0 := xa2; have z1 := xb2; clear a2 b2 d2 g2 h2 m2 xa2 xb2; have TX2 := Lib.hid (TX1.out.below hb); have HB2 := Lib.hid (HB1.out.trans (hb.mono HB1.out.size)); clear hb)
          | (go_at_call 18; (with_reducible refine (add18 _ _ q' _ (by omega) (fq_le _) _ TX2.out).mono ?_); rintro e' w3 ⟨rfl, hb⟩; obtain ⟨a3, b3, d3, g3, h3, m3⟩ := three hb x0 x1 x2 y0 y1 y2; have xa3 := cell_of hb z0; have xb3 := cell_of hb z1; clear x0 x1 x2 y0 y1 y2 z0 z1; have x0 := a3; have x1 := b3; have x2 := d3; have y0 := g3; have y1 := h3; have y2 := m3; have z0 := xa3; have z1 := xb3; clear a3 b3 d3 g3 h3 m3 xa3 xb3; have TX3 := Lib.hid (TX2.out.below hb); have HB3 := Lib.hid (HB2.out.trans (hb.mono HB2.out.size)); clear hb)
          | (go_at_call 20; (with_reducible refine (flip20 _ _ (fq_le _) (by omega) (by have := fk_le (val (k' : Int) q' + val (fk (- val ((e : Int) + 1) 3)) (fq (- val ((e : Int) + 1) 3))); omega) _ TX3.out).mono ?_); rintro e' w4 ⟨rfl, hb⟩; obtain ⟨a4, b4, d4, g4, h4, m4⟩ := three hb x0 x1 x2 y0 y1 y2; have xa4 := cell_of hb z0; have xb4 := cell_of hb z1; clear x0 x1 x2 y0 y1 y2 z0 z1; have x0 := a4; have x1 := b4; have x2 := d4; have y0 := g4; have y1 := h4; have y2 := m4; have z0 := xa4; have z1 := xb4; clear a4 b4 d4 g4 h4 m4 xa4 xb4; have TX4 := Lib.hid (TX3.out.below hb); have HB4 := Lib.hid (HB3.out.trans (hb.mono HB3.out.size)); clear hb; rw [T_congr HR.out]))
        all_goals
          go_wp2
          refine bodyPost_ret (v := PT A) (by rw [PT, ← HE.out]; simp [results, Tryd.results14, go_sem, x0, x1, x2]) rfl ⟨by rw [hA], ?_⟩
          exact ((HB4.out.setCell (by simp) _).setCell (by simp) _).setCell (by simp) _
end Go.Proofs.YtaempngakollpaaDoor
