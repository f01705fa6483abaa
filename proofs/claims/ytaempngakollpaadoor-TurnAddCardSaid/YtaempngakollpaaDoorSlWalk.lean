/- TurnSplit: the law's walk. Under: the library's table as its initialiser lays it. -/
import Derived.Test.YtaempngakollpaaDoorFoWalk
namespace Go.Proofs.YtaempngakollpaaDoor
open Go.RowKit Go.Shelf

/-- an angle's part, told by numbers -/
structure PartOk (A : Int) (e k q n m : Nat) : Prop where
  pt : PT A = .agg #[.int .i64 e, .int .i64 k, .int .i64 q]
  e8 : e < 8
  ee : eig A = e
  kk : (k : Int) = (fk (rst A) : Nat)
  qq : (q : Int) = (fq (rst A) : Nat)
  q40 : q ≤ 40
  k40 : k < 1099511627776
  fo : T (val k q) = .agg #[.int .i64 k, .int .i64 q]
  jo : T (joined e (rst A)) = T A
  nn : IntKind.i64.wrap ((2 : Int) ^ q) = n
  mm : IntKind.i64.wrap (8 * (k : Int)) = m
  mn : m ≤ n
  none : (k = 0 ∧ q = 0) ∨ k ≠ 0
  ev : e % 2 = 0 → m ≠ n
  od : e % 2 = 1 → k ≠ 0

theorem rst_par (A : Int) : (par (rst A) : Int) = if eig A % 2 = 0 then (par A : Int) - eig A * 137438953472 else ((eig A : Int) + 1) * 137438953472 - par A := by
  have hp := par_int A
  have hl := par_lt A
  have he : eig A = par A / 137438953472 := rfl
  rw [par_int]
  unfold rst
  split <;> omega

theorem partOk (A : Int) : ∃ e k q n m, PartOk A e k q n m := by
  have hr := rst_par A
  have hl := par_lt A
  have he : eig A = par A / 137438953472 := rfl
  have h8 := eig_lt A
  have hq := fq_le (rst A)
  have hk := fk_le (rst A)
  have hvm := val_form_mod (rst A)
  have hv := val_form (rst A)
  rw [val_nat] at hv
  have hv := Int.ofNat_inj.1 hv
  have hcs := form_cases (rst A)
  obtain ⟨e, hee⟩ : ∃ e, eig A = e := ⟨_, rfl⟩
  obtain ⟨k, hkk⟩ : ∃ k, fk (rst A) = k := ⟨_, rfl⟩
  obtain ⟨q, hqq⟩ : ∃ q, fq (rst A) = q := ⟨_, rfl⟩
  obtain ⟨R, hR⟩ : ∃ R, par (rst A) = R := ⟨_, rfl⟩
  obtain ⟨a, ha⟩ : ∃ a, par A = a := ⟨_, rfl⟩
  have hfo : T (val k q) = .agg #[.int .i64 k, .int .i64 q] := by rw [← hkk, ← hqq, T_congr hvm]
  have hjo : T (joined e (rst A)) = T A := by rw [← hee]; exact T_congr (joined_of A)
  have hpt : PT A = .agg #[.int .i64 e, .int .i64 k, .int .i64 q] := by rw [PT, hee, hkk, hqq]
  rw [hkk, hqq, hR] at hv hcs
  rw [hqq] at hq
  rw [hkk] at hk
  rw [hR, hee, ha] at hr
  rw [hee, ha] at he
  rw [ha] at hl
  rw [hee] at h8
  have hpos : 0 < (2 : Nat) ^ (40 - q) := Nat.pow_pos (by decide)
  have hsplit : (2 : Nat) ^ q * 2 ^ (40 - q) = 1099511627776 := by rw [← Nat.pow_add, show q + (40 - q) = 40 by omega]
  have h2 : (2 : Nat) ^ q ≤ 1099511627776 := Nat.pow_le_pow_right (n := 2) (by decide) hq
  have hRl : R ≤ 137438953472 := by
    split at hr <;> omega
  have h8k : 8 * k * 2 ^ (40 - q) = 8 * R := by rw [Nat.mul_assoc, hv]
  have hle : 8 * k ≤ 2 ^ q := by
    apply Nat.le_of_mul_le_mul_right _ hpos
    rw [h8k, hsplit]
    omega
  refine ⟨e, k, q, 2 ^ q, 8 * k, hpt, h8, hee, by rw [hkk], by rw [hqq], hq, hk, hfo, hjo, ?_, ?_, hle, ?_, ?_, ?_⟩
  · rw [pow_int, IntKind.wrap_i64]
    generalize 2 ^ q = n at h2 ⊢
    omega
  · rw [IntKind.wrap_i64]
    generalize 2 ^ q = n at h2 hle
    omega
  · rcases hcs with ⟨_, h1, h2⟩ | ⟨_, h1, _⟩
    · exact .inl ⟨h1, h2⟩
    · exact .inr (by omega)
  · intro h0 heq
    rw [if_pos h0] at hr
    rw [heq, hsplit] at h8k
    omega
  · intro h1 hk0
    rw [if_neg (by omega)] at hr
    rw [hk0, Nat.zero_mul] at hv
    omega

theorem rightT (k q : Int) (w : World) (h : isR k q = true) : Calls Tryd.prog 13 #[Ag k q] w fun e w' => e = .returned (.bool true) ∧ Below w.heap.size w w' := (right13 k q w).mono fun e w' hh => by rw [h] at hh; exact hh
theorem T_any' (A : Int) : ∃ k q : Nat, T A = .agg #[.int .i64 k, .int .i64 q] := ⟨_, _, rfl⟩

set_option maxRecDepth 100000 in
set_option maxHeartbeats 8000000 in
theorem turnSplit_e0 (ak : Int) (aq : Nat) (ha40 : aq ≤ 40) (h0 : -1099511627776 ≤ ak) (h1 : ak ≤ 1099511627776) (e k q n m : Nat) (N : PartOk (val ak aq) e k q n m) (hpar : e % 2 = 0) (hk0 : k = 0) (hq0 : q = 0) (hed : m ≠ n) (w : World) (ht : Tab w) : Calls Tryd.prog 6 #[Ag ak aq] w (Says w true) := by
  have T0 := Lib.hid ht
  have HA := Lib.hid (isR_true (k := ak) (q := aq) ⟨by omega, by omega, h0, h1⟩)
  subst hk0
  subst hq0
  obtain ⟨f1, f2, v1⟩ := T_any' (val ak aq)
  have VA := Lib.hid v1
  have VP : Hid (PT (val ak aq) = .agg #[.int .i64 e, .int .i64 0, .int .i64 0]) := Lib.hid N.pt
  have HK : Hid (((0 : Nat) : Int) = (fk (rst (val ak aq)) : Nat)) := Lib.hid N.kk
  have HQ : Hid (((0 : Nat) : Int) = (fq (rst (val ak aq)) : Nat)) := Lib.hid N.qq
  have VJ := Lib.hid (N.jo.trans v1)
  have VF : Hid (T (val ((0 : Nat) : Int) 0) = .agg #[.int .i64 0, .int .i64 0]) := Lib.hid N.fo
  have he8 := N.e8
  have hq40 : 0 ≤ 40 := by decide
  have hk40 : 0 < 1099511627776 := by decide
  have HRR := Lib.hid (isR_true (k := ((0 : Nat) : Int)) (q := ((0 : Nat) : Int)) ⟨by omega, by omega, by omega, by omega⟩)
  have hwn := N.nn
  have hwm := N.mm
  have hmn := N.mn
  have ho1 : (e : Int).tmod 2 = 0 := by rw [Int.tmod_eq_emod_of_nonneg (by omega)]; omega
  have d7 : decide ((7 : Int) < e) = false := decide_eq_false (by omega)
  have d0 : decide ((e : Int) < 0) = false := decide_eq_false (by omega)
  have dm : decide (n < m) = false := decide_eq_false (by omega)
  have dq1 : ((m : Int) == n) = false := by apply beq_false_of_ne; omega
  have hq41 : (0 : Int) ≤ 40 := by omega
  clear ht v1 N hpar hmn hed
  go_enter Tryd.func6, Tryd.ntmps6
  go_wp2_with fail
  obtain ⟨w0, hW⟩ : ∃ w0, (w.alloc (.cells #[.int .i64 ak, .int .i64 aq] 23)) = w0 := ⟨_, rfl⟩
  have HB0 : Hid (Below w.heap.size w w0) := Lib.hid (by rw [← hW]; exact ((Below.refl w.heap.size w).alloc (by first | exact Nat.le_refl _ | (simp; done) | (simp; omega)) _))
  have TW0 := Lib.hid (T0.out.below HB0.out)
  have z00 : w0.cell? ⟨w.heap.size, 0, none⟩ = some (.int .i64 ak) := by rw [← hW]; simp [go_sem]
  have z01 : w0.cell? ⟨w.heap.size, 1, none⟩ = some (.int .i64 aq) := by rw [← hW]; simp [go_sem]
  rw [hW]
  clear hW
  refine Calls.mono (l6_head _ TW0.out) ?_
  rintro e' w1 ⟨rfl, hb⟩
  have HB1 := Lib.hid (HB0.out.trans (hb.mono HB0.out.size))
  have TW1 := Lib.hid (TW0.out.below hb)
  replace z00 := cell_of hb z00
  replace z01 := cell_of hb z01
  clear hb HB0 TW0
  go_wp2_with fail
  refine Calls.mono (right13 ak aq _) ?_
  rintro e' w2 ⟨rfl, hb⟩
  rw [HA.out]
  have HB2 := Lib.hid (HB1.out.trans (hb.mono HB1.out.size))
  have TW2 := Lib.hid (TW1.out.below hb)
  replace z00 := cell_of hb z00
  replace z01 := cell_of hb z01
  clear hb HB1 TW1
  go_wp2_with fail
  refine Calls.mono (split14i ak aq aq rfl ha40 _ VP.out _ TW2.out) ?_
  rintro e' w3 ⟨rfl, hb⟩
  have HB3 := Lib.hid (HB2.out.trans (hb.mono HB2.out.size))
  have TW3 := Lib.hid (TW2.out.below hb)
  replace z00 := cell_of hb z00
  replace z01 := cell_of hb z01
  clear hb HB2 TW2
  have hlt := cell_lt z00
  go_wp2_with fail
  obtain ⟨w4, hW⟩ : ∃ w4, w3.alloc (.cells #[.int .i64 e, .int .i64 0, .int .i64 0] 29) = w4 := ⟨_, rfl⟩
  have hb : Below w3.heap.size w3 w4 := by rw [← hW]; exact (Below.refl _ _).alloc (Nat.le_refl _) _
  have HB4 := Lib.hid (HB3.out.trans (hb.mono HB3.out.size))
  have TW4 := Lib.hid (TW3.out.below hb)
  replace z00 := cell_of hb z00
  replace z01 := cell_of hb z01
  have zp0 : w4.cell? ⟨w3.heap.size, 0, none⟩ = some (.int .i64 e) := by rw [← hW]; simp [go_sem]
  have zp1 : w4.cell? ⟨w3.heap.size, 1, none⟩ = some (.int .i64 0) := by rw [← hW]; simp [go_sem]
  have zp2 : w4.cell? ⟨w3.heap.size, 2, none⟩ = some (.int .i64 0) := by rw [← hW]; simp [go_sem]
  rw [hW]
  clear hW hb HB3 TW3
  have TW := TW4
  refine wp_region_det (S := Below w4.heap.size w4) (by kernel_rfl) (Below.refl _ w4).drew ?_
  refine wpAnyS_take (i := 0) rfl (by kernel_rfl) (by kernel_rfl) (by kernel_rfl) (fun _ _ _ h => h) (.inl ⟨by kernel_rfl, fun w' hS => (by have y0 := cell_of hS z00; have y1 := cell_of hS z01; have y2 := cell_of hS zp0; have y3 := cell_of hS zp1; have y4 := cell_of hS zp2; go_simp; exact ⟨rfl, hS⟩)⟩) rfl (by go_simp; rfl) ?_
  refine wpAnyS_take (i := 1) rfl (by kernel_rfl) (by kernel_rfl) (by kernel_rfl) (fun _ _ _ h => h) (.inl ⟨by kernel_rfl, fun w' hS => (by have y0 := cell_of hS z00; have y1 := cell_of hS z01; have y2 := cell_of hS zp0; have y3 := cell_of hS zp1; have y4 := cell_of hS zp2; go_simp; exact ⟨rfl, hS⟩)⟩) rfl (by go_simp; rfl) ?_
  refine wpAnyS_take (i := 2) rfl (by kernel_rfl) (by kernel_rfl) (by kernel_rfl) (fun _ _ _ h => h) (.inl ⟨by kernel_rfl, fun w' hS => (by have y0 := cell_of hS z00; have y1 := cell_of hS z01; have y2 := cell_of hS zp0; have y3 := cell_of hS zp1; have y4 := cell_of hS zp2; go_simp; exact ⟨rfl, hS⟩)⟩) rfl (by go_simp; rfl) ?_
  refine wpAnyS_take (i := 3) rfl (by kernel_rfl) (by kernel_rfl) (by kernel_rfl) (fun _ _ _ h => h) (.inl ⟨by kernel_rfl, fun w' hS => (by have y0 := cell_of hS z00; have y1 := cell_of hS z01; have y2 := cell_of hS zp0; have y3 := cell_of hS zp1; have y4 := cell_of hS zp2; go_simp; exact ⟨rfl, hS⟩)⟩) rfl (by go_simp; rfl) ?_
  refine wpAnyS_take (i := 4) rfl (by kernel_rfl) (by kernel_rfl) (by kernel_rfl) (fun _ _ _ h => h) (.inl ⟨by kernel_rfl, fun w' hS => (by have y0 := cell_of hS z00; have y1 := cell_of hS z01; have y2 := cell_of hS zp0; have y3 := cell_of hS zp1; have y4 := cell_of hS zp2; go_simp; exact ⟨rfl, hS⟩)⟩) rfl (by go_simp; rfl) ?_
  refine wpAnyS_take (i := 5) rfl (by kernel_rfl) (by kernel_rfl) (by kernel_rfl) (fun _ _ _ h => h) (.inl ⟨by kernel_rfl, fun w' hS => (by have y0 := cell_of hS z00; have y1 := cell_of hS z01; have y2 := cell_of hS zp0; have y3 := cell_of hS zp1; have y4 := cell_of hS zp2; go_simp; exact ⟨rfl, hS⟩)⟩) rfl (by go_simp; rfl) ?_
  refine wpAnyS_take (i := 6) rfl (by kernel_rfl) (by kernel_rfl) (by kernel_rfl) (fun _ _ _ h => h) (.inl ⟨by kernel_rfl, fun w' hS => (by have y0 := cell_of hS z00; have y1 := cell_of hS z01; have y2 := cell_of hS zp0; have y3 := cell_of hS zp1; have y4 := cell_of hS zp2; go_simp; exact ⟨rfl, hS⟩)⟩) rfl (by go_simp; rfl) ?_
  refine wpAnyS_take (i := 7) rfl (by kernel_rfl) (by kernel_rfl) (by kernel_rfl) (fun _ _ _ h => h) (.inl ⟨by kernel_rfl, fun w' hS => (by have y0 := cell_of hS z00; have y1 := cell_of hS z01; have y2 := cell_of hS zp0; have y3 := cell_of hS zp1; have y4 := cell_of hS zp2; go_simp; exact ⟨rfl, hS⟩)⟩) rfl (by go_simp; rfl) ?_
  refine wpAnyS_take (i := 8) rfl (by kernel_rfl) (by kernel_rfl) (by kernel_rfl) (fun _ _ _ h => h) (.inl ⟨by kernel_rfl, fun w' hS => (by have y0 := cell_of hS z00; have y1 := cell_of hS z01; have y2 := cell_of hS zp0; have y3 := cell_of hS zp1; have y4 := cell_of hS zp2; go_simp; exact ⟨rfl, hS⟩)⟩) rfl (by go_simp; rfl) ?_
  refine wpAnyS_take (i := 9) rfl (by kernel_rfl) (by kernel_rfl) (by kernel_rfl) (fun _ _ _ h => h) (.inl ⟨by kernel_rfl, fun w' hS => (by have y0 := cell_of hS z00; have y1 := cell_of hS z01; have y2 := cell_of hS zp0; have y3 := cell_of hS zp1; have y4 := cell_of hS zp2; go_simp; exact ⟨rfl, hS⟩)⟩) rfl (by go_simp; rfl) ?_
  refine wpAnyS_take (i := 10) rfl (by kernel_rfl) (by kernel_rfl) (by kernel_rfl) (fun _ _ _ h => h) (.inl ⟨by kernel_rfl, fun w' hS => (by have y0 := cell_of hS z00; have y1 := cell_of hS z01; have y2 := cell_of hS zp0; have y3 := cell_of hS zp1; have y4 := cell_of hS zp2; go_simp; exact ⟨rfl, hS⟩)⟩) rfl (by go_simp; rfl) ?_
  refine wpAnyS_take (i := 11) rfl (by kernel_rfl) (by kernel_rfl) (by kernel_rfl) (fun _ _ _ h => h) (.inl ⟨by kernel_rfl, fun w' hS => (by go_simp; refine Calls.mono (rightT 0 0 _ HRR.out) ?_; intro e w'' hE; obtain ⟨he, hb⟩ := hE; exact ⟨he, hS.trans (hb.mono hS.size)⟩)⟩) rfl (by go_simp; rfl) ?_
  refine wpAnyS_take (i := 12) rfl (by kernel_rfl) (by kernel_rfl) (by kernel_rfl) (fun _ _ _ h => h) (.inl ⟨by kernel_rfl, fun w' hS => (by have y0 := cell_of hS z00; have y1 := cell_of hS z01; have y2 := cell_of hS zp0; have y3 := cell_of hS zp1; have y4 := cell_of hS zp2; go_simp; exact ⟨rfl, hS⟩)⟩) rfl (by go_simp; rfl) ?_
  refine wpAnyS_take (i := 13) rfl (by kernel_rfl) (by kernel_rfl) (by kernel_rfl) (fun _ _ _ h => h) (.inl ⟨by kernel_rfl, fun w' hS => (by have y0 := cell_of hS z00; have y1 := cell_of hS z01; have y2 := cell_of hS zp0; have y3 := cell_of hS zp1; have y4 := cell_of hS zp2; go_simp; exact ⟨rfl, hS⟩)⟩) rfl (by go_simp; rfl) ?_
  refine wpAnyS_take (i := 14) rfl (by kernel_rfl) (by kernel_rfl) (by kernel_rfl) (fun _ _ _ h => h) (.inl ⟨by kernel_rfl, fun w' hS => (by have y0 := cell_of hS z00; have y1 := cell_of hS z01; have y2 := cell_of hS zp0; have y3 := cell_of hS zp1; have y4 := cell_of hS zp2; go_simp; exact ⟨rfl, hS⟩)⟩) rfl (by go_simp; rfl) ?_
  refine wpAnyS_take (i := 15) rfl (by kernel_rfl) (by kernel_rfl) (by kernel_rfl) (fun _ _ _ h => h) (.inl ⟨by kernel_rfl, fun w' hS => (by have y0 := cell_of hS z00; have y1 := cell_of hS z01; have y2 := cell_of hS zp0; have y3 := cell_of hS zp1; have y4 := cell_of hS zp2; go_simp; exact ⟨rfl, hS⟩)⟩) rfl (by go_simp; rfl) ?_
  refine wpAnyS_take (i := 16) rfl (by kernel_rfl) (by kernel_rfl) (by kernel_rfl) (fun _ _ _ h => h) (.inl ⟨by kernel_rfl, fun w' hS => (by have y0 := cell_of hS z00; have y1 := cell_of hS z01; have y2 := cell_of hS zp0; have y3 := cell_of hS zp1; have y4 := cell_of hS zp2; go_simp; exact ⟨rfl, hS⟩)⟩) rfl (by go_simp; rfl) ?_
  refine wpAnyS_take (i := 17) rfl (by kernel_rfl) (by kernel_rfl) (by kernel_rfl) (fun _ _ _ h => h) (.inl ⟨by kernel_rfl, fun w' hS => (by have y0 := cell_of hS z00; have y1 := cell_of hS z01; have y2 := cell_of hS zp0; have y3 := cell_of hS zp1; have y4 := cell_of hS zp2; go_simp; exact ⟨rfl, hS⟩)⟩) rfl (by go_simp; rfl) ?_
  refine wpAnyS_take (i := 18) rfl (by kernel_rfl) (by kernel_rfl) (by kernel_rfl) (fun _ _ _ h => h) (.inl ⟨by kernel_rfl, fun w' hS => (by have y0 := cell_of hS z00; have y1 := cell_of hS z01; have y2 := cell_of hS zp0; have y3 := cell_of hS zp1; have y4 := cell_of hS zp2; go_simp; exact ⟨rfl, hS⟩)⟩) rfl (by go_simp; rfl) ?_
  refine wpAnyS_take (i := 19) rfl (by kernel_rfl) (by kernel_rfl) (by kernel_rfl) (fun _ _ _ h => h) (.inl ⟨by kernel_rfl, fun w' hS => (by go_simp; refine Calls.mono (form16i 0 0 0 rfl hq40 _ VF.out _ (TW.out.below hS)) ?_; intro e w'' hE; obtain ⟨he, hb⟩ := hE; exact ⟨he, hS.trans (hb.mono hS.size)⟩)⟩) rfl (by go_simp; rfl) ?_
  refine wpAnyS_take (i := 20) rfl (by kernel_rfl) (by kernel_rfl) (by kernel_rfl) (fun _ _ _ h => h) (.inl ⟨by kernel_rfl, fun w' hS => (by have y0 := cell_of hS z00; have y1 := cell_of hS z01; have y2 := cell_of hS zp0; have y3 := cell_of hS zp1; have y4 := cell_of hS zp2; go_simp; exact ⟨rfl, hS⟩)⟩) rfl (by go_simp; rfl) ?_
  refine wpAnyS_take (i := 21) rfl (by kernel_rfl) (by kernel_rfl) (by kernel_rfl) (fun _ _ _ h => h) (.inl ⟨by kernel_rfl, fun w' hS => (by have y0 := cell_of hS z00; have y1 := cell_of hS z01; have y2 := cell_of hS zp0; have y3 := cell_of hS zp1; have y4 := cell_of hS zp2; go_simp; exact ⟨rfl, hS⟩)⟩) rfl (by go_simp; rfl) ?_
  refine wpAnyS_take (i := 22) rfl (by kernel_rfl) (by kernel_rfl) (by kernel_rfl) (fun _ _ _ h => h) (.inl ⟨by kernel_rfl, fun w' hS => (by have y0 := cell_of hS z00; have y1 := cell_of hS z01; have y2 := cell_of hS zp0; have y3 := cell_of hS zp1; have y4 := cell_of hS zp2; go_simp; exact ⟨rfl, hS⟩)⟩) rfl (by go_simp; rfl) ?_
  refine wpAnyS_take (i := 23) rfl (by kernel_rfl) (by kernel_rfl) (by kernel_rfl) (fun _ _ _ h => h) (.inl ⟨by kernel_rfl, fun w' hS => (by have y0 := cell_of hS z00; have y1 := cell_of hS z01; have y2 := cell_of hS zp0; have y3 := cell_of hS zp1; have y4 := cell_of hS zp2; go_simp; exact ⟨rfl, hS⟩)⟩) rfl (by go_simp; rfl) ?_
  refine wpAnyS_take (i := 24) rfl (by kernel_rfl) (by kernel_rfl) (by kernel_rfl) (fun _ _ _ h => h) (.inl ⟨by kernel_rfl, fun w' hS => (by have y0 := cell_of hS z00; have y1 := cell_of hS z01; have y2 := cell_of hS zp0; have y3 := cell_of hS zp1; have y4 := cell_of hS zp2; go_simp; exact ⟨rfl, hS⟩)⟩) rfl (by go_simp; rfl) ?_
  refine wpAnyS_take (i := 25) rfl (by kernel_rfl) (by kernel_rfl) (by kernel_rfl) (fun _ _ _ h => h) (.inl ⟨by kernel_rfl, fun w' hS => (by have y0 := cell_of hS z00; have y1 := cell_of hS z01; have y2 := cell_of hS zp0; have y3 := cell_of hS zp1; have y4 := cell_of hS zp2; go_simp; exact ⟨rfl, hS⟩)⟩) rfl (by go_simp; rfl) ?_
  refine wpAnyS_take (i := 26) rfl (by kernel_rfl) (by kernel_rfl) (by kernel_rfl) (fun _ _ _ h => h) (.inl ⟨by kernel_rfl, fun w' hS => (by have y0 := cell_of hS z00; have y1 := cell_of hS z01; have y2 := cell_of hS zp0; have y3 := cell_of hS zp1; have y4 := cell_of hS zp2; go_simp; exact ⟨rfl, hS⟩)⟩) rfl (by go_simp; rfl) ?_
  refine wpAnyS_take (i := 27) rfl (by kernel_rfl) (by kernel_rfl) (by kernel_rfl) (fun _ _ _ h => h) (.inl ⟨by kernel_rfl, fun w' hS => (by have y0 := cell_of hS z00; have y1 := cell_of hS z01; have y2 := cell_of hS zp0; have y3 := cell_of hS zp1; have y4 := cell_of hS zp2; go_simp; exact ⟨rfl, hS⟩)⟩) rfl (by go_simp; rfl) ?_
  refine wpAnyS_take (i := 28) rfl (by kernel_rfl) (by kernel_rfl) (by kernel_rfl) (fun _ _ _ h => h) (.inl ⟨by kernel_rfl, fun w' hS => (by have y0 := cell_of hS z00; have y1 := cell_of hS z01; have y2 := cell_of hS zp0; have y3 := cell_of hS zp1; have y4 := cell_of hS zp2; go_simp; exact ⟨rfl, hS⟩)⟩) rfl (by go_simp; rfl) ?_
  refine wpAnyS_take (i := 29) rfl (by kernel_rfl) (by kernel_rfl) (by kernel_rfl) (fun _ _ _ h => h) (.inl ⟨by kernel_rfl, fun w' hS => (by have y0 := cell_of hS z00; have y1 := cell_of hS z01; have y2 := cell_of hS zp0; have y3 := cell_of hS zp1; have y4 := cell_of hS zp2; go_simp; exact ⟨rfl, hS⟩)⟩) rfl (by go_simp; rfl) ?_
  refine wpAnyS_take (i := 30) rfl (by kernel_rfl) (by kernel_rfl) (by kernel_rfl) (fun _ _ _ h => h) (.inl ⟨by kernel_rfl, fun w' hS => (by have y0 := cell_of hS z00; have y1 := cell_of hS z01; have y2 := cell_of hS zp0; have y3 := cell_of hS zp1; have y4 := cell_of hS zp2; go_simp; exact ⟨rfl, hS⟩)⟩) rfl (by go_simp; rfl) ?_
  refine wpAnyS_take (i := 31) rfl (by kernel_rfl) (by kernel_rfl) (by kernel_rfl) (fun _ _ _ h => h) (.inl ⟨by kernel_rfl, fun w' hS => (by have y0 := cell_of hS z00; have y1 := cell_of hS z01; have y2 := cell_of hS zp0; have y3 := cell_of hS zp1; have y4 := cell_of hS zp2; go_simp; exact ⟨rfl, hS⟩)⟩) rfl (by go_simp; rfl) ?_
  refine wpAnyS_take (i := 32) rfl (by kernel_rfl) (by kernel_rfl) (by kernel_rfl) (fun _ _ _ h => h) (.inl ⟨by kernel_rfl, fun w' hS => (by have y0 := cell_of hS z00; have y1 := cell_of hS z01; have y2 := cell_of hS zp0; have y3 := cell_of hS zp1; have y4 := cell_of hS zp2; go_simp; exact ⟨rfl, hS⟩)⟩) rfl (by go_simp; rfl) ?_
  refine wpAnyS_done (by kernel_rfl) (fun w5 hS => ?_) _
  have HB5 := Lib.hid (HB4.out.trans (hS.mono HB4.out.size))
  have TW5 := Lib.hid (TW4.out.below hS)
  replace z00 := cell_of hS z00
  replace z01 := cell_of hS z01
  replace zp0 := cell_of hS zp0
  replace zp1 := cell_of hS zp1
  replace zp2 := cell_of hS zp2
  clear hS TW HB4 TW4
  go_wp2_with fail
  have TW := TW5
  refine wp_region_det (S := Below w5.heap.size w5) (by kernel_rfl) (Below.refl _ w5).drew ?_
  refine wpAnyS_take (i := 0) rfl (by kernel_rfl) (by kernel_rfl) (by kernel_rfl) (fun _ _ _ h => h) (.inl ⟨by kernel_rfl, fun w' hS => (by have y0 := cell_of hS z00; have y1 := cell_of hS z01; have y2 := cell_of hS zp0; have y3 := cell_of hS zp1; have y4 := cell_of hS zp2; go_simp; exact ⟨rfl, hS⟩)⟩) rfl (by go_simp; rfl) ?_
  refine wpAnyS_take (i := 1) rfl (by kernel_rfl) (by kernel_rfl) (by kernel_rfl) (fun _ _ _ h => h) (.inl ⟨by kernel_rfl, fun w' hS => (by have y0 := cell_of hS z00; have y1 := cell_of hS z01; have y2 := cell_of hS zp0; have y3 := cell_of hS zp1; have y4 := cell_of hS zp2; go_simp; exact ⟨rfl, hS⟩)⟩) rfl (by go_simp; rfl) ?_
  refine wpAnyS_take (i := 2) rfl (by kernel_rfl) (by kernel_rfl) (by kernel_rfl) (fun _ _ _ h => h) (.inl ⟨by kernel_rfl, fun w' hS => (by have y0 := cell_of hS z00; have y1 := cell_of hS z01; have y2 := cell_of hS zp0; have y3 := cell_of hS zp1; have y4 := cell_of hS zp2; go_simp; exact ⟨rfl, hS⟩)⟩) rfl (by go_simp; rfl) ?_
  refine wpAnyS_take (i := 3) rfl (by kernel_rfl) (by kernel_rfl) (by kernel_rfl) (fun _ _ _ h => h) (.inl ⟨by kernel_rfl, fun w' hS => (by have y0 := cell_of hS z00; have y1 := cell_of hS z01; have y2 := cell_of hS zp0; have y3 := cell_of hS zp1; have y4 := cell_of hS zp2; go_simp; exact ⟨rfl, hS⟩)⟩) rfl (by go_simp; rfl) ?_
  refine wpAnyS_take (i := 4) rfl (by kernel_rfl) (by kernel_rfl) (by kernel_rfl) (fun _ _ _ h => h) (.inl ⟨by kernel_rfl, fun w' hS => (by have y0 := cell_of hS z00; have y1 := cell_of hS z01; have y2 := cell_of hS zp0; have y3 := cell_of hS zp1; have y4 := cell_of hS zp2; go_simp; exact ⟨rfl, hS⟩)⟩) rfl (by go_simp; rfl) ?_
  refine wpAnyS_take (i := 5) rfl (by kernel_rfl) (by kernel_rfl) (by kernel_rfl) (fun _ _ _ h => h) (.inl ⟨by kernel_rfl, fun w' hS => (by have y0 := cell_of hS z00; have y1 := cell_of hS z01; have y2 := cell_of hS zp0; have y3 := cell_of hS zp1; have y4 := cell_of hS zp2; go_simp; exact ⟨rfl, hS⟩)⟩) rfl (by go_simp; rfl) ?_
  refine wpAnyS_take (i := 6) rfl (by kernel_rfl) (by kernel_rfl) (by kernel_rfl) (fun _ _ _ h => h) (.inl ⟨by kernel_rfl, fun w' hS => (by have y0 := cell_of hS z00; have y1 := cell_of hS z01; have y2 := cell_of hS zp0; have y3 := cell_of hS zp1; have y4 := cell_of hS zp2; go_simp; exact ⟨rfl, hS⟩)⟩) rfl (by go_simp; rfl) ?_
  refine wpAnyS_take (i := 7) rfl (by kernel_rfl) (by kernel_rfl) (by kernel_rfl) (fun _ _ _ h => h) (.inl ⟨by kernel_rfl, fun w' hS => (by have y0 := cell_of hS z00; have y1 := cell_of hS z01; have y2 := cell_of hS zp0; have y3 := cell_of hS zp1; have y4 := cell_of hS zp2; go_simp; exact ⟨rfl, hS⟩)⟩) rfl (by go_simp; rfl) ?_
  refine wpAnyS_take (i := 8) rfl (by kernel_rfl) (by kernel_rfl) (by kernel_rfl) (fun _ _ _ h => h) (.inl ⟨by kernel_rfl, fun w' hS => (by have y0 := cell_of hS z00; have y1 := cell_of hS z01; have y2 := cell_of hS zp0; have y3 := cell_of hS zp1; have y4 := cell_of hS zp2; go_simp; exact ⟨rfl, hS⟩)⟩) rfl (by go_simp; rfl) ?_
  refine wpAnyS_take (i := 9) rfl (by kernel_rfl) (by kernel_rfl) (by kernel_rfl) (fun _ _ _ h => h) (.inl ⟨by kernel_rfl, fun w' hS => (by have y0 := cell_of hS z00; have y1 := cell_of hS z01; have y2 := cell_of hS zp0; have y3 := cell_of hS zp1; have y4 := cell_of hS zp2; go_simp; exact ⟨rfl, hS⟩)⟩) rfl (by go_simp; rfl) ?_
  refine wpAnyS_done (by kernel_rfl) (fun w6 hS => ?_) _
  have HB6 := Lib.hid (HB5.out.trans (hS.mono HB5.out.size))
  have TW6 := Lib.hid (TW5.out.below hS)
  replace z00 := cell_of hS z00
  replace z01 := cell_of hS z01
  replace zp0 := cell_of hS zp0
  replace zp1 := cell_of hS zp1
  replace zp2 := cell_of hS zp2
  clear hS TW HB5 TW5
  go_wp2_with fail
  have TW := TW6
  refine wp_region_det (S := Below w6.heap.size w6) (by kernel_rfl) (Below.refl _ w6).drew ?_
  refine wpAnyS_take (i := 0) rfl (by kernel_rfl) (by kernel_rfl) (by kernel_rfl) (fun _ _ _ h => h) (.inl ⟨by kernel_rfl, fun w' hS => (by have y0 := cell_of hS z00; have y1 := cell_of hS z01; have y2 := cell_of hS zp0; have y3 := cell_of hS zp1; have y4 := cell_of hS zp2; go_simp; exact ⟨rfl, hS⟩)⟩) rfl (by go_simp; rfl) ?_
  refine wpAnyS_take (i := 1) rfl (by kernel_rfl) (by kernel_rfl) (by kernel_rfl) (fun _ _ _ h => h) (.inl ⟨by kernel_rfl, fun w' hS => (by have y0 := cell_of hS z00; have y1 := cell_of hS z01; have y2 := cell_of hS zp0; have y3 := cell_of hS zp1; have y4 := cell_of hS zp2; go_simp; exact ⟨rfl, hS⟩)⟩) rfl (by go_simp; rfl) ?_
  refine wpAnyS_take (i := 2) rfl (by kernel_rfl) (by kernel_rfl) (by kernel_rfl) (fun _ _ _ h => h) (.inl ⟨by kernel_rfl, fun w' hS => (by have y0 := cell_of hS z00; have y1 := cell_of hS z01; have y2 := cell_of hS zp0; have y3 := cell_of hS zp1; have y4 := cell_of hS zp2; go_simp; exact ⟨rfl, hS⟩)⟩) rfl (by go_simp; rfl) ?_
  refine wpAnyS_take (i := 3) rfl (by kernel_rfl) (by kernel_rfl) (by kernel_rfl) (fun _ _ _ h => h) (.inl ⟨by kernel_rfl, fun w' hS => (by go_simp; refine Calls.mono (join24i e 0 0 e (rst (val ak aq)) rfl HK.out HQ.out he8 _ VJ.out _ (TW.out.below hS)) ?_; intro e w'' hE; obtain ⟨he, hb⟩ := hE; exact ⟨he, hS.trans (hb.mono hS.size)⟩)⟩) rfl (by go_simp; rfl) ?_
  refine wpAnyS_take (i := 4) rfl (by kernel_rfl) (by kernel_rfl) (by kernel_rfl) (fun _ _ _ h => h) (.inl ⟨by kernel_rfl, fun w' hS => (by have y0 := cell_of hS z00; have y1 := cell_of hS z01; have y2 := cell_of hS zp0; have y3 := cell_of hS zp1; have y4 := cell_of hS zp2; go_simp; exact ⟨rfl, hS⟩)⟩) rfl (by go_simp; rfl) ?_
  refine wpAnyS_take (i := 5) rfl (by kernel_rfl) (by kernel_rfl) (by kernel_rfl) (fun _ _ _ h => h) (.inl ⟨by kernel_rfl, fun w' hS => (by go_simp; refine Calls.mono (form16i ak aq aq rfl ha40 _ VA.out _ (TW.out.below hS)) ?_; intro e w'' hE; obtain ⟨he, hb⟩ := hE; exact ⟨he, hS.trans (hb.mono hS.size)⟩)⟩) rfl (by go_simp; rfl) ?_
  refine wpAnyS_take (i := 6) rfl (by kernel_rfl) (by kernel_rfl) (by kernel_rfl) (fun _ _ _ h => h) (.inl ⟨by kernel_rfl, fun w' hS => (by have y0 := cell_of hS z00; have y1 := cell_of hS z01; have y2 := cell_of hS zp0; have y3 := cell_of hS zp1; have y4 := cell_of hS zp2; go_simp; exact ⟨rfl, hS⟩)⟩) rfl (by go_simp; rfl) ?_
  refine wpAnyS_take (i := 7) rfl (by kernel_rfl) (by kernel_rfl) (by kernel_rfl) (fun _ _ _ h => h) (.inl ⟨by kernel_rfl, fun w' hS => (by have y0 := cell_of hS z00; have y1 := cell_of hS z01; have y2 := cell_of hS zp0; have y3 := cell_of hS zp1; have y4 := cell_of hS zp2; go_simp; exact ⟨rfl, hS⟩)⟩) rfl (by go_simp; rfl) ?_
  refine wpAnyS_take (i := 8) rfl (by kernel_rfl) (by kernel_rfl) (by kernel_rfl) (fun _ _ _ h => h) (.inl ⟨by kernel_rfl, fun w' hS => (by have y0 := cell_of hS z00; have y1 := cell_of hS z01; have y2 := cell_of hS zp0; have y3 := cell_of hS zp1; have y4 := cell_of hS zp2; go_simp; exact ⟨rfl, hS⟩)⟩) rfl (by go_simp; rfl) ?_
  refine wpAnyS_take (i := 9) rfl (by kernel_rfl) (by kernel_rfl) (by kernel_rfl) (fun _ _ _ h => h) (.inl ⟨by kernel_rfl, fun w' hS => (by have y0 := cell_of hS z00; have y1 := cell_of hS z01; have y2 := cell_of hS zp0; have y3 := cell_of hS zp1; have y4 := cell_of hS zp2; go_simp; exact ⟨rfl, hS⟩)⟩) rfl (by go_simp; rfl) ?_
  refine wpAnyS_take (i := 10) rfl (by kernel_rfl) (by kernel_rfl) (by kernel_rfl) (fun _ _ _ h => h) (.inl ⟨by kernel_rfl, fun w' hS => (by have y0 := cell_of hS z00; have y1 := cell_of hS z01; have y2 := cell_of hS zp0; have y3 := cell_of hS zp1; have y4 := cell_of hS zp2; go_simp; exact ⟨rfl, hS⟩)⟩) rfl (by go_simp; rfl) ?_
  refine wpAnyS_take (i := 11) rfl (by kernel_rfl) (by kernel_rfl) (by kernel_rfl) (fun _ _ _ h => h) (.inl ⟨by kernel_rfl, fun w' hS => (by have y0 := cell_of hS z00; have y1 := cell_of hS z01; have y2 := cell_of hS zp0; have y3 := cell_of hS zp1; have y4 := cell_of hS zp2; go_simp; exact ⟨rfl, hS⟩)⟩) rfl (by go_simp; rfl) ?_
  refine wpAnyS_take (i := 12) rfl (by kernel_rfl) (by kernel_rfl) (by kernel_rfl) (fun _ _ _ h => h) (.inl ⟨by kernel_rfl, fun w' hS => (by have y0 := cell_of hS z00; have y1 := cell_of hS z01; have y2 := cell_of hS zp0; have y3 := cell_of hS zp1; have y4 := cell_of hS zp2; go_simp; exact ⟨rfl, hS⟩)⟩) rfl (by go_simp; rfl) ?_
  refine wpAnyS_take (i := 13) rfl (by kernel_rfl) (by kernel_rfl) (by kernel_rfl) (fun _ _ _ h => h) (.inl ⟨by kernel_rfl, fun w' hS => (by have y0 := cell_of hS z00; have y1 := cell_of hS z01; have y2 := cell_of hS zp0; have y3 := cell_of hS zp1; have y4 := cell_of hS zp2; go_simp; exact ⟨rfl, hS⟩)⟩) rfl (by go_simp; rfl) ?_
  refine wpAnyS_take (i := 14) rfl (by kernel_rfl) (by kernel_rfl) (by kernel_rfl) (fun _ _ _ h => h) (.inl ⟨by kernel_rfl, fun w' hS => (by have y0 := cell_of hS z00; have y1 := cell_of hS z01; have y2 := cell_of hS zp0; have y3 := cell_of hS zp1; have y4 := cell_of hS zp2; go_simp; exact ⟨rfl, hS⟩)⟩) rfl (by go_simp; rfl) ?_
  refine wpAnyS_take (i := 15) rfl (by kernel_rfl) (by kernel_rfl) (by kernel_rfl) (fun _ _ _ h => h) (.inl ⟨by kernel_rfl, fun w' hS => (by have y0 := cell_of hS z00; have y1 := cell_of hS z01; have y2 := cell_of hS zp0; have y3 := cell_of hS zp1; have y4 := cell_of hS zp2; go_simp; exact ⟨rfl, hS⟩)⟩) rfl (by go_simp; rfl) ?_
  refine wpAnyS_take (i := 16) rfl (by kernel_rfl) (by kernel_rfl) (by kernel_rfl) (fun _ _ _ h => h) (.inl ⟨by kernel_rfl, fun w' hS => (by have y0 := cell_of hS z00; have y1 := cell_of hS z01; have y2 := cell_of hS zp0; have y3 := cell_of hS zp1; have y4 := cell_of hS zp2; go_simp; exact ⟨rfl, hS⟩)⟩) rfl (by go_simp; rfl) ?_
  refine wpAnyS_take (i := 17) rfl (by kernel_rfl) (by kernel_rfl) (by kernel_rfl) (fun _ _ _ h => h) (.inl ⟨by kernel_rfl, fun w' hS => (by have y0 := cell_of hS z00; have y1 := cell_of hS z01; have y2 := cell_of hS zp0; have y3 := cell_of hS zp1; have y4 := cell_of hS zp2; go_simp; exact ⟨rfl, hS⟩)⟩) rfl (by go_simp; rfl) ?_
  refine wpAnyS_take (i := 18) rfl (by kernel_rfl) (by kernel_rfl) (by kernel_rfl) (fun _ _ _ h => h) (.inl ⟨by kernel_rfl, fun w' hS => (by have y0 := cell_of hS z00; have y1 := cell_of hS z01; have y2 := cell_of hS zp0; have y3 := cell_of hS zp1; have y4 := cell_of hS zp2; go_simp; exact ⟨rfl, hS⟩)⟩) rfl (by go_simp; rfl) ?_
  refine wpAnyS_take (i := 19) rfl (by kernel_rfl) (by kernel_rfl) (by kernel_rfl) (fun _ _ _ h => h) (.inl ⟨by kernel_rfl, fun w' hS => (by have y0 := cell_of hS z00; have y1 := cell_of hS z01; have y2 := cell_of hS zp0; have y3 := cell_of hS zp1; have y4 := cell_of hS zp2; go_simp; exact ⟨rfl, hS⟩)⟩) rfl (by go_simp; rfl) ?_
  refine wpAnyS_take (i := 20) rfl (by kernel_rfl) (by kernel_rfl) (by kernel_rfl) (fun _ _ _ h => h) (.inl ⟨by kernel_rfl, fun w' hS => (by have y0 := cell_of hS z00; have y1 := cell_of hS z01; have y2 := cell_of hS zp0; have y3 := cell_of hS zp1; have y4 := cell_of hS zp2; go_simp; exact ⟨rfl, hS⟩)⟩) rfl (by go_simp; rfl) ?_
  refine wpAnyS_take (i := 21) rfl (by kernel_rfl) (by kernel_rfl) (by kernel_rfl) (fun _ _ _ h => h) (.inl ⟨by kernel_rfl, fun w' hS => (by have y0 := cell_of hS z00; have y1 := cell_of hS z01; have y2 := cell_of hS zp0; have y3 := cell_of hS zp1; have y4 := cell_of hS zp2; go_simp; exact ⟨rfl, hS⟩)⟩) rfl (by go_simp; rfl) ?_
  refine wpAnyS_take (i := 22) rfl (by kernel_rfl) (by kernel_rfl) (by kernel_rfl) (fun _ _ _ h => h) (.inl ⟨by kernel_rfl, fun w' hS => (by have y0 := cell_of hS z00; have y1 := cell_of hS z01; have y2 := cell_of hS zp0; have y3 := cell_of hS zp1; have y4 := cell_of hS zp2; go_simp; exact ⟨rfl, hS⟩)⟩) rfl (by go_simp; rfl) ?_
  refine wpAnyS_take (i := 23) rfl (by kernel_rfl) (by kernel_rfl) (by kernel_rfl) (fun _ _ _ h => h) (.inl ⟨by kernel_rfl, fun w' hS => (by have y0 := cell_of hS z00; have y1 := cell_of hS z01; have y2 := cell_of hS zp0; have y3 := cell_of hS zp1; have y4 := cell_of hS zp2; go_simp; exact ⟨rfl, hS⟩)⟩) rfl (by go_simp; rfl) ?_
  refine wpAnyS_take (i := 24) rfl (by kernel_rfl) (by kernel_rfl) (by kernel_rfl) (fun _ _ _ h => h) (.inr ⟨by kernel_rfl, rfl⟩) rfl (by go_simp; rfl) ?_
  refine wpAnyS_take (i := 25) rfl (by kernel_rfl) (by kernel_rfl) (by kernel_rfl) (fun _ _ _ h => h) (.inr ⟨by kernel_rfl, rfl⟩) rfl (by go_simp; rfl) ?_
  refine wpAnyS_take (i := 26) rfl (by kernel_rfl) (by kernel_rfl) (by kernel_rfl) (fun _ _ _ h => h) (.inl ⟨by kernel_rfl, fun w' hS => (by have y0 := cell_of hS z00; have y1 := cell_of hS z01; have y2 := cell_of hS zp0; have y3 := cell_of hS zp1; have y4 := cell_of hS zp2; go_simp; exact ⟨rfl, hS⟩)⟩) rfl (by go_simp; rfl) ?_
  refine wpAnyS_take (i := 27) rfl (by kernel_rfl) (by kernel_rfl) (by kernel_rfl) (fun _ _ _ h => h) (.inl ⟨by kernel_rfl, fun w' hS => (by have y0 := cell_of hS z00; have y1 := cell_of hS z01; have y2 := cell_of hS zp0; have y3 := cell_of hS zp1; have y4 := cell_of hS zp2; go_simp; exact ⟨rfl, hS⟩)⟩) rfl (by go_simp; rfl) ?_
  refine wpAnyS_take (i := 28) rfl (by kernel_rfl) (by kernel_rfl) (by kernel_rfl) (fun _ _ _ h => h) (.inl ⟨by kernel_rfl, fun w' hS => (by have y0 := cell_of hS z00; have y1 := cell_of hS z01; have y2 := cell_of hS zp0; have y3 := cell_of hS zp1; have y4 := cell_of hS zp2; go_simp; exact ⟨rfl, hS⟩)⟩) rfl (by go_simp; rfl) ?_
  refine wpAnyS_done (by kernel_rfl) (fun w7 hS => ?_) _
  have HB7 := Lib.hid (HB6.out.trans (hS.mono HB6.out.size))
  have TW7 := Lib.hid (TW6.out.below hS)
  replace z00 := cell_of hS z00
  replace z01 := cell_of hS z01
  replace zp0 := cell_of hS zp0
  replace zp1 := cell_of hS zp1
  replace zp2 := cell_of hS zp2
  clear hS TW HB6 TW6
  go_wp2
  go_ret
  exact ⟨rfl, HB7.out⟩

set_option maxRecDepth 100000 in
set_option maxHeartbeats 8000000 in
theorem turnSplit_e1 (ak : Int) (aq : Nat) (ha40 : aq ≤ 40) (h0 : -1099511627776 ≤ ak) (h1 : ak ≤ 1099511627776) (e k q n m : Nat) (N : PartOk (val ak aq) e k q n m) (hpar : e % 2 = 0) (hk0 : k ≠ 0) (hed : m ≠ n) (w : World) (ht : Tab w) : Calls Tryd.prog 6 #[Ag ak aq] w (Says w true) := by
  have T0 := Lib.hid ht
  have HA := Lib.hid (isR_true (k := ak) (q := aq) ⟨by omega, by omega, h0, h1⟩)
  obtain ⟨f1, f2, v1⟩ := T_any' (val ak aq)
  have VA := Lib.hid v1
  have VP : Hid (PT (val ak aq) = .agg #[.int .i64 e, .int .i64 k, .int .i64 q]) := Lib.hid N.pt
  have HK : Hid (((k : Nat) : Int) = (fk (rst (val ak aq)) : Nat)) := Lib.hid N.kk
  have HQ : Hid (((q : Nat) : Int) = (fq (rst (val ak aq)) : Nat)) := Lib.hid N.qq
  have VJ := Lib.hid (N.jo.trans v1)
  have VF : Hid (T (val ((k : Nat) : Int) q) = .agg #[.int .i64 k, .int .i64 q]) := Lib.hid N.fo
  have he8 := N.e8
  have hq40 : q ≤ 40 := N.q40
  have hk40 : k < 1099511627776 := N.k40
  have HRR := Lib.hid (isR_true (k := ((k : Nat) : Int)) (q := ((q : Nat) : Int)) ⟨by omega, by omega, by omega, by omega⟩)
  have hwn := N.nn
  have hwm := N.mm
  have hmn := N.mn
  have ho1 : (e : Int).tmod 2 = 0 := by rw [Int.tmod_eq_emod_of_nonneg (by omega)]; omega
  have d7 : decide ((7 : Int) < e) = false := decide_eq_false (by omega)
  have d0 : decide ((e : Int) < 0) = false := decide_eq_false (by omega)
  have dm : decide (n < m) = false := decide_eq_false (by omega)
  have dq1 : ((m : Int) == n) = false := by apply beq_false_of_ne; omega
  have hq41 : (q : Int) ≤ 40 := by omega
  have hk1 : ((k : Int) == 0) = false := by apply beq_false_of_ne; omega
  clear ht v1 N hpar hmn hed
  go_enter Tryd.func6, Tryd.ntmps6
  go_wp2_with fail
  obtain ⟨w0, hW⟩ : ∃ w0, (w.alloc (.cells #[.int .i64 ak, .int .i64 aq] 23)) = w0 := ⟨_, rfl⟩
  have HB0 : Hid (Below w.heap.size w w0) := Lib.hid (by rw [← hW]; exact ((Below.refl w.heap.size w).alloc (by first | exact Nat.le_refl _ | (simp; done) | (simp; omega)) _))
  have TW0 := Lib.hid (T0.out.below HB0.out)
  have z00 : w0.cell? ⟨w.heap.size, 0, none⟩ = some (.int .i64 ak) := by rw [← hW]; simp [go_sem]
  have z01 : w0.cell? ⟨w.heap.size, 1, none⟩ = some (.int .i64 aq) := by rw [← hW]; simp [go_sem]
  rw [hW]
  clear hW
  refine Calls.mono (l6_head _ TW0.out) ?_
  rintro e' w1 ⟨rfl, hb⟩
  have HB1 := Lib.hid (HB0.out.trans (hb.mono HB0.out.size))
  have TW1 := Lib.hid (TW0.out.below hb)
  replace z00 := cell_of hb z00
  replace z01 := cell_of hb z01
  clear hb HB0 TW0
  go_wp2_with fail
  refine Calls.mono (right13 ak aq _) ?_
  rintro e' w2 ⟨rfl, hb⟩
  rw [HA.out]
  have HB2 := Lib.hid (HB1.out.trans (hb.mono HB1.out.size))
  have TW2 := Lib.hid (TW1.out.below hb)
  replace z00 := cell_of hb z00
  replace z01 := cell_of hb z01
  clear hb HB1 TW1
  go_wp2_with fail
  refine Calls.mono (split14i ak aq aq rfl ha40 _ VP.out _ TW2.out) ?_
  rintro e' w3 ⟨rfl, hb⟩
  have HB3 := Lib.hid (HB2.out.trans (hb.mono HB2.out.size))
  have TW3 := Lib.hid (TW2.out.below hb)
  replace z00 := cell_of hb z00
  replace z01 := cell_of hb z01
  clear hb HB2 TW2
  have hlt := cell_lt z00
  go_wp2_with fail
  obtain ⟨w4, hW⟩ : ∃ w4, w3.alloc (.cells #[.int .i64 e, .int .i64 k, .int .i64 q] 29) = w4 := ⟨_, rfl⟩
  have hb : Below w3.heap.size w3 w4 := by rw [← hW]; exact (Below.refl _ _).alloc (Nat.le_refl _) _
  have HB4 := Lib.hid (HB3.out.trans (hb.mono HB3.out.size))
  have TW4 := Lib.hid (TW3.out.below hb)
  replace z00 := cell_of hb z00
  replace z01 := cell_of hb z01
  have zp0 : w4.cell? ⟨w3.heap.size, 0, none⟩ = some (.int .i64 e) := by rw [← hW]; simp [go_sem]
  have zp1 : w4.cell? ⟨w3.heap.size, 1, none⟩ = some (.int .i64 k) := by rw [← hW]; simp [go_sem]
  have zp2 : w4.cell? ⟨w3.heap.size, 2, none⟩ = some (.int .i64 q) := by rw [← hW]; simp [go_sem]
  rw [hW]
  clear hW hb HB3 TW3
  have TW := TW4
  refine wp_region_det (S := Below w4.heap.size w4) (by kernel_rfl) (Below.refl _ w4).drew ?_
  refine wpAnyS_take (i := 0) rfl (by kernel_rfl) (by kernel_rfl) (by kernel_rfl) (fun _ _ _ h => h) (.inl ⟨by kernel_rfl, fun w' hS => (by have y0 := cell_of hS z00; have y1 := cell_of hS z01; have y2 := cell_of hS zp0; have y3 := cell_of hS zp1; have y4 := cell_of hS zp2; go_simp; exact ⟨rfl, hS⟩)⟩) rfl (by go_simp; rfl) ?_
  refine wpAnyS_take (i := 1) rfl (by kernel_rfl) (by kernel_rfl) (by kernel_rfl) (fun _ _ _ h => h) (.inl ⟨by kernel_rfl, fun w' hS => (by have y0 := cell_of hS z00; have y1 := cell_of hS z01; have y2 := cell_of hS zp0; have y3 := cell_of hS zp1; have y4 := cell_of hS zp2; go_simp; exact ⟨rfl, hS⟩)⟩) rfl (by go_simp; rfl) ?_
  refine wpAnyS_take (i := 2) rfl (by kernel_rfl) (by kernel_rfl) (by kernel_rfl) (fun _ _ _ h => h) (.inl ⟨by kernel_rfl, fun w' hS => (by have y0 := cell_of hS z00; have y1 := cell_of hS z01; have y2 := cell_of hS zp0; have y3 := cell_of hS zp1; have y4 := cell_of hS zp2; go_simp; exact ⟨rfl, hS⟩)⟩) rfl (by go_simp; rfl) ?_
  refine wpAnyS_take (i := 3) rfl (by kernel_rfl) (by kernel_rfl) (by kernel_rfl) (fun _ _ _ h => h) (.inl ⟨by kernel_rfl, fun w' hS => (by have y0 := cell_of hS z00; have y1 := cell_of hS z01; have y2 := cell_of hS zp0; have y3 := cell_of hS zp1; have y4 := cell_of hS zp2; go_simp; exact ⟨rfl, hS⟩)⟩) rfl (by go_simp; rfl) ?_
  refine wpAnyS_take (i := 4) rfl (by kernel_rfl) (by kernel_rfl) (by kernel_rfl) (fun _ _ _ h => h) (.inl ⟨by kernel_rfl, fun w' hS => (by have y0 := cell_of hS z00; have y1 := cell_of hS z01; have y2 := cell_of hS zp0; have y3 := cell_of hS zp1; have y4 := cell_of hS zp2; go_simp; exact ⟨rfl, hS⟩)⟩) rfl (by go_simp; rfl) ?_
  refine wpAnyS_take (i := 5) rfl (by kernel_rfl) (by kernel_rfl) (by kernel_rfl) (fun _ _ _ h => h) (.inl ⟨by kernel_rfl, fun w' hS => (by have y0 := cell_of hS z00; have y1 := cell_of hS z01; have y2 := cell_of hS zp0; have y3 := cell_of hS zp1; have y4 := cell_of hS zp2; go_simp; exact ⟨rfl, hS⟩)⟩) rfl (by go_simp; rfl) ?_
  refine wpAnyS_take (i := 6) rfl (by kernel_rfl) (by kernel_rfl) (by kernel_rfl) (fun _ _ _ h => h) (.inl ⟨by kernel_rfl, fun w' hS => (by have y0 := cell_of hS z00; have y1 := cell_of hS z01; have y2 := cell_of hS zp0; have y3 := cell_of hS zp1; have y4 := cell_of hS zp2; go_simp; exact ⟨rfl, hS⟩)⟩) rfl (by go_simp; rfl) ?_
  refine wpAnyS_take (i := 7) rfl (by kernel_rfl) (by kernel_rfl) (by kernel_rfl) (fun _ _ _ h => h) (.inl ⟨by kernel_rfl, fun w' hS => (by have y0 := cell_of hS z00; have y1 := cell_of hS z01; have y2 := cell_of hS zp0; have y3 := cell_of hS zp1; have y4 := cell_of hS zp2; go_simp; exact ⟨rfl, hS⟩)⟩) rfl (by go_simp; rfl) ?_
  refine wpAnyS_take (i := 8) rfl (by kernel_rfl) (by kernel_rfl) (by kernel_rfl) (fun _ _ _ h => h) (.inl ⟨by kernel_rfl, fun w' hS => (by have y0 := cell_of hS z00; have y1 := cell_of hS z01; have y2 := cell_of hS zp0; have y3 := cell_of hS zp1; have y4 := cell_of hS zp2; go_simp; exact ⟨rfl, hS⟩)⟩) rfl (by go_simp; rfl) ?_
  refine wpAnyS_take (i := 9) rfl (by kernel_rfl) (by kernel_rfl) (by kernel_rfl) (fun _ _ _ h => h) (.inl ⟨by kernel_rfl, fun w' hS => (by have y0 := cell_of hS z00; have y1 := cell_of hS z01; have y2 := cell_of hS zp0; have y3 := cell_of hS zp1; have y4 := cell_of hS zp2; go_simp; exact ⟨rfl, hS⟩)⟩) rfl (by go_simp; rfl) ?_
  refine wpAnyS_take (i := 10) rfl (by kernel_rfl) (by kernel_rfl) (by kernel_rfl) (fun _ _ _ h => h) (.inl ⟨by kernel_rfl, fun w' hS => (by have y0 := cell_of hS z00; have y1 := cell_of hS z01; have y2 := cell_of hS zp0; have y3 := cell_of hS zp1; have y4 := cell_of hS zp2; go_simp; exact ⟨rfl, hS⟩)⟩) rfl (by go_simp; rfl) ?_
  refine wpAnyS_take (i := 11) rfl (by kernel_rfl) (by kernel_rfl) (by kernel_rfl) (fun _ _ _ h => h) (.inl ⟨by kernel_rfl, fun w' hS => (by go_simp; refine Calls.mono (rightT k q _ HRR.out) ?_; intro e w'' hE; obtain ⟨he, hb⟩ := hE; exact ⟨he, hS.trans (hb.mono hS.size)⟩)⟩) rfl (by go_simp; rfl) ?_
  refine wpAnyS_take (i := 12) rfl (by kernel_rfl) (by kernel_rfl) (by kernel_rfl) (fun _ _ _ h => h) (.inl ⟨by kernel_rfl, fun w' hS => (by have y0 := cell_of hS z00; have y1 := cell_of hS z01; have y2 := cell_of hS zp0; have y3 := cell_of hS zp1; have y4 := cell_of hS zp2; go_simp; exact ⟨rfl, hS⟩)⟩) rfl (by go_simp; rfl) ?_
  refine wpAnyS_take (i := 13) rfl (by kernel_rfl) (by kernel_rfl) (by kernel_rfl) (fun _ _ _ h => h) (.inl ⟨by kernel_rfl, fun w' hS => (by have y0 := cell_of hS z00; have y1 := cell_of hS z01; have y2 := cell_of hS zp0; have y3 := cell_of hS zp1; have y4 := cell_of hS zp2; go_simp; exact ⟨rfl, hS⟩)⟩) rfl (by go_simp; rfl) ?_
  refine wpAnyS_take (i := 14) rfl (by kernel_rfl) (by kernel_rfl) (by kernel_rfl) (fun _ _ _ h => h) (.inl ⟨by kernel_rfl, fun w' hS => (by have y0 := cell_of hS z00; have y1 := cell_of hS z01; have y2 := cell_of hS zp0; have y3 := cell_of hS zp1; have y4 := cell_of hS zp2; go_simp; exact ⟨rfl, hS⟩)⟩) rfl (by go_simp; rfl) ?_
  refine wpAnyS_take (i := 15) rfl (by kernel_rfl) (by kernel_rfl) (by kernel_rfl) (fun _ _ _ h => h) (.inl ⟨by kernel_rfl, fun w' hS => (by have y0 := cell_of hS z00; have y1 := cell_of hS z01; have y2 := cell_of hS zp0; have y3 := cell_of hS zp1; have y4 := cell_of hS zp2; go_simp; exact ⟨rfl, hS⟩)⟩) rfl (by go_simp; rfl) ?_
  refine wpAnyS_take (i := 16) rfl (by kernel_rfl) (by kernel_rfl) (by kernel_rfl) (fun _ _ _ h => h) (.inl ⟨by kernel_rfl, fun w' hS => (by have y0 := cell_of hS z00; have y1 := cell_of hS z01; have y2 := cell_of hS zp0; have y3 := cell_of hS zp1; have y4 := cell_of hS zp2; go_simp; exact ⟨rfl, hS⟩)⟩) rfl (by go_simp; rfl) ?_
  refine wpAnyS_take (i := 17) rfl (by kernel_rfl) (by kernel_rfl) (by kernel_rfl) (fun _ _ _ h => h) (.inl ⟨by kernel_rfl, fun w' hS => (by have y0 := cell_of hS z00; have y1 := cell_of hS z01; have y2 := cell_of hS zp0; have y3 := cell_of hS zp1; have y4 := cell_of hS zp2; go_simp; exact ⟨rfl, hS⟩)⟩) rfl (by go_simp; rfl) ?_
  refine wpAnyS_take (i := 18) rfl (by kernel_rfl) (by kernel_rfl) (by kernel_rfl) (fun _ _ _ h => h) (.inl ⟨by kernel_rfl, fun w' hS => (by have y0 := cell_of hS z00; have y1 := cell_of hS z01; have y2 := cell_of hS zp0; have y3 := cell_of hS zp1; have y4 := cell_of hS zp2; go_simp; exact ⟨rfl, hS⟩)⟩) rfl (by go_simp; rfl) ?_
  refine wpAnyS_take (i := 19) rfl (by kernel_rfl) (by kernel_rfl) (by kernel_rfl) (fun _ _ _ h => h) (.inl ⟨by kernel_rfl, fun w' hS => (by go_simp; refine Calls.mono (form16i k q q rfl hq40 _ VF.out _ (TW.out.below hS)) ?_; intro e w'' hE; obtain ⟨he, hb⟩ := hE; exact ⟨he, hS.trans (hb.mono hS.size)⟩)⟩) rfl (by go_simp; rfl) ?_
  refine wpAnyS_take (i := 20) rfl (by kernel_rfl) (by kernel_rfl) (by kernel_rfl) (fun _ _ _ h => h) (.inl ⟨by kernel_rfl, fun w' hS => (by have y0 := cell_of hS z00; have y1 := cell_of hS z01; have y2 := cell_of hS zp0; have y3 := cell_of hS zp1; have y4 := cell_of hS zp2; go_simp; exact ⟨rfl, hS⟩)⟩) rfl (by go_simp; rfl) ?_
  refine wpAnyS_take (i := 21) rfl (by kernel_rfl) (by kernel_rfl) (by kernel_rfl) (fun _ _ _ h => h) (.inl ⟨by kernel_rfl, fun w' hS => (by have y0 := cell_of hS z00; have y1 := cell_of hS z01; have y2 := cell_of hS zp0; have y3 := cell_of hS zp1; have y4 := cell_of hS zp2; go_simp; exact ⟨rfl, hS⟩)⟩) rfl (by go_simp; rfl) ?_
  refine wpAnyS_take (i := 22) rfl (by kernel_rfl) (by kernel_rfl) (by kernel_rfl) (fun _ _ _ h => h) (.inl ⟨by kernel_rfl, fun w' hS => (by have y0 := cell_of hS z00; have y1 := cell_of hS z01; have y2 := cell_of hS zp0; have y3 := cell_of hS zp1; have y4 := cell_of hS zp2; go_simp; exact ⟨rfl, hS⟩)⟩) rfl (by go_simp; rfl) ?_
  refine wpAnyS_take (i := 23) rfl (by kernel_rfl) (by kernel_rfl) (by kernel_rfl) (fun _ _ _ h => h) (.inl ⟨by kernel_rfl, fun w' hS => (by have y0 := cell_of hS z00; have y1 := cell_of hS z01; have y2 := cell_of hS zp0; have y3 := cell_of hS zp1; have y4 := cell_of hS zp2; go_simp; exact ⟨rfl, hS⟩)⟩) rfl (by go_simp; rfl) ?_
  refine wpAnyS_take (i := 24) rfl (by kernel_rfl) (by kernel_rfl) (by kernel_rfl) (fun _ _ _ h => h) (.inl ⟨by kernel_rfl, fun w' hS => (by have y0 := cell_of hS z00; have y1 := cell_of hS z01; have y2 := cell_of hS zp0; have y3 := cell_of hS zp1; have y4 := cell_of hS zp2; go_simp; exact ⟨rfl, hS⟩)⟩) rfl (by go_simp; rfl) ?_
  refine wpAnyS_take (i := 25) rfl (by kernel_rfl) (by kernel_rfl) (by kernel_rfl) (fun _ _ _ h => h) (.inl ⟨by kernel_rfl, fun w' hS => (by have y0 := cell_of hS z00; have y1 := cell_of hS z01; have y2 := cell_of hS zp0; have y3 := cell_of hS zp1; have y4 := cell_of hS zp2; go_simp; exact ⟨rfl, hS⟩)⟩) rfl (by go_simp; rfl) ?_
  refine wpAnyS_take (i := 26) rfl (by kernel_rfl) (by kernel_rfl) (by kernel_rfl) (fun _ _ _ h => h) (.inl ⟨by kernel_rfl, fun w' hS => (by have y0 := cell_of hS z00; have y1 := cell_of hS z01; have y2 := cell_of hS zp0; have y3 := cell_of hS zp1; have y4 := cell_of hS zp2; go_simp; exact ⟨rfl, hS⟩)⟩) rfl (by go_simp; rfl) ?_
  refine wpAnyS_take (i := 27) rfl (by kernel_rfl) (by kernel_rfl) (by kernel_rfl) (fun _ _ _ h => h) (.inl ⟨by kernel_rfl, fun w' hS => (by have y0 := cell_of hS z00; have y1 := cell_of hS z01; have y2 := cell_of hS zp0; have y3 := cell_of hS zp1; have y4 := cell_of hS zp2; go_simp; exact ⟨rfl, hS⟩)⟩) rfl (by go_simp; rfl) ?_
  refine wpAnyS_take (i := 28) rfl (by kernel_rfl) (by kernel_rfl) (by kernel_rfl) (fun _ _ _ h => h) (.inl ⟨by kernel_rfl, fun w' hS => (by have y0 := cell_of hS z00; have y1 := cell_of hS z01; have y2 := cell_of hS zp0; have y3 := cell_of hS zp1; have y4 := cell_of hS zp2; go_simp; exact ⟨rfl, hS⟩)⟩) rfl (by go_simp; rfl) ?_
  refine wpAnyS_take (i := 29) rfl (by kernel_rfl) (by kernel_rfl) (by kernel_rfl) (fun _ _ _ h => h) (.inl ⟨by kernel_rfl, fun w' hS => (by have y0 := cell_of hS z00; have y1 := cell_of hS z01; have y2 := cell_of hS zp0; have y3 := cell_of hS zp1; have y4 := cell_of hS zp2; go_simp; exact ⟨rfl, hS⟩)⟩) rfl (by go_simp; rfl) ?_
  refine wpAnyS_take (i := 30) rfl (by kernel_rfl) (by kernel_rfl) (by kernel_rfl) (fun _ _ _ h => h) (.inl ⟨by kernel_rfl, fun w' hS => (by have y0 := cell_of hS z00; have y1 := cell_of hS z01; have y2 := cell_of hS zp0; have y3 := cell_of hS zp1; have y4 := cell_of hS zp2; go_simp; exact ⟨rfl, hS⟩)⟩) rfl (by go_simp; rfl) ?_
  refine wpAnyS_take (i := 31) rfl (by kernel_rfl) (by kernel_rfl) (by kernel_rfl) (fun _ _ _ h => h) (.inl ⟨by kernel_rfl, fun w' hS => (by have y0 := cell_of hS z00; have y1 := cell_of hS z01; have y2 := cell_of hS zp0; have y3 := cell_of hS zp1; have y4 := cell_of hS zp2; go_simp; exact ⟨rfl, hS⟩)⟩) rfl (by go_simp; rfl) ?_
  refine wpAnyS_take (i := 32) rfl (by kernel_rfl) (by kernel_rfl) (by kernel_rfl) (fun _ _ _ h => h) (.inl ⟨by kernel_rfl, fun w' hS => (by have y0 := cell_of hS z00; have y1 := cell_of hS z01; have y2 := cell_of hS zp0; have y3 := cell_of hS zp1; have y4 := cell_of hS zp2; go_simp; exact ⟨rfl, hS⟩)⟩) rfl (by go_simp; rfl) ?_
  refine wpAnyS_done (by kernel_rfl) (fun w5 hS => ?_) _
  have HB5 := Lib.hid (HB4.out.trans (hS.mono HB4.out.size))
  have TW5 := Lib.hid (TW4.out.below hS)
  replace z00 := cell_of hS z00
  replace z01 := cell_of hS z01
  replace zp0 := cell_of hS zp0
  replace zp1 := cell_of hS zp1
  replace zp2 := cell_of hS zp2
  clear hS TW HB4 TW4
  go_wp2_with fail
  have TW := TW5
  refine wp_region_det (S := Below w5.heap.size w5) (by kernel_rfl) (Below.refl _ w5).drew ?_
  refine wpAnyS_take (i := 0) rfl (by kernel_rfl) (by kernel_rfl) (by kernel_rfl) (fun _ _ _ h => h) (.inl ⟨by kernel_rfl, fun w' hS => (by have y0 := cell_of hS z00; have y1 := cell_of hS z01; have y2 := cell_of hS zp0; have y3 := cell_of hS zp1; have y4 := cell_of hS zp2; go_simp; exact ⟨rfl, hS⟩)⟩) rfl (by go_simp; rfl) ?_
  refine wpAnyS_take (i := 1) rfl (by kernel_rfl) (by kernel_rfl) (by kernel_rfl) (fun _ _ _ h => h) (.inl ⟨by kernel_rfl, fun w' hS => (by have y0 := cell_of hS z00; have y1 := cell_of hS z01; have y2 := cell_of hS zp0; have y3 := cell_of hS zp1; have y4 := cell_of hS zp2; go_simp; exact ⟨rfl, hS⟩)⟩) rfl (by go_simp; rfl) ?_
  refine wpAnyS_take (i := 2) rfl (by kernel_rfl) (by kernel_rfl) (by kernel_rfl) (fun _ _ _ h => h) (.inl ⟨by kernel_rfl, fun w' hS => (by have y0 := cell_of hS z00; have y1 := cell_of hS z01; have y2 := cell_of hS zp0; have y3 := cell_of hS zp1; have y4 := cell_of hS zp2; go_simp; exact ⟨rfl, hS⟩)⟩) rfl (by go_simp; rfl) ?_
  refine wpAnyS_take (i := 3) rfl (by kernel_rfl) (by kernel_rfl) (by kernel_rfl) (fun _ _ _ h => h) (.inl ⟨by kernel_rfl, fun w' hS => (by have y0 := cell_of hS z00; have y1 := cell_of hS z01; have y2 := cell_of hS zp0; have y3 := cell_of hS zp1; have y4 := cell_of hS zp2; go_simp; exact ⟨rfl, hS⟩)⟩) rfl (by go_simp; rfl) ?_
  refine wpAnyS_take (i := 4) rfl (by kernel_rfl) (by kernel_rfl) (by kernel_rfl) (fun _ _ _ h => h) (.inl ⟨by kernel_rfl, fun w' hS => (by have y0 := cell_of hS z00; have y1 := cell_of hS z01; have y2 := cell_of hS zp0; have y3 := cell_of hS zp1; have y4 := cell_of hS zp2; go_simp; exact ⟨rfl, hS⟩)⟩) rfl (by go_simp; rfl) ?_
  refine wpAnyS_take (i := 5) rfl (by kernel_rfl) (by kernel_rfl) (by kernel_rfl) (fun _ _ _ h => h) (.inl ⟨by kernel_rfl, fun w' hS => (by have y0 := cell_of hS z00; have y1 := cell_of hS z01; have y2 := cell_of hS zp0; have y3 := cell_of hS zp1; have y4 := cell_of hS zp2; go_simp; exact ⟨rfl, hS⟩)⟩) rfl (by go_simp; rfl) ?_
  refine wpAnyS_take (i := 6) rfl (by kernel_rfl) (by kernel_rfl) (by kernel_rfl) (fun _ _ _ h => h) (.inl ⟨by kernel_rfl, fun w' hS => (by have y0 := cell_of hS z00; have y1 := cell_of hS z01; have y2 := cell_of hS zp0; have y3 := cell_of hS zp1; have y4 := cell_of hS zp2; go_simp; exact ⟨rfl, hS⟩)⟩) rfl (by go_simp; rfl) ?_
  refine wpAnyS_take (i := 7) rfl (by kernel_rfl) (by kernel_rfl) (by kernel_rfl) (fun _ _ _ h => h) (.inl ⟨by kernel_rfl, fun w' hS => (by have y0 := cell_of hS z00; have y1 := cell_of hS z01; have y2 := cell_of hS zp0; have y3 := cell_of hS zp1; have y4 := cell_of hS zp2; go_simp; exact ⟨rfl, hS⟩)⟩) rfl (by go_simp; rfl) ?_
  refine wpAnyS_take (i := 8) rfl (by kernel_rfl) (by kernel_rfl) (by kernel_rfl) (fun _ _ _ h => h) (.inl ⟨by kernel_rfl, fun w' hS => (by have y0 := cell_of hS z00; have y1 := cell_of hS z01; have y2 := cell_of hS zp0; have y3 := cell_of hS zp1; have y4 := cell_of hS zp2; go_simp; exact ⟨rfl, hS⟩)⟩) rfl (by go_simp; rfl) ?_
  refine wpAnyS_take (i := 9) rfl (by kernel_rfl) (by kernel_rfl) (by kernel_rfl) (fun _ _ _ h => h) (.inl ⟨by kernel_rfl, fun w' hS => (by have y0 := cell_of hS z00; have y1 := cell_of hS z01; have y2 := cell_of hS zp0; have y3 := cell_of hS zp1; have y4 := cell_of hS zp2; go_simp; exact ⟨rfl, hS⟩)⟩) rfl (by go_simp; rfl) ?_
  refine wpAnyS_done (by kernel_rfl) (fun w6 hS => ?_) _
  have HB6 := Lib.hid (HB5.out.trans (hS.mono HB5.out.size))
  have TW6 := Lib.hid (TW5.out.below hS)
  replace z00 := cell_of hS z00
  replace z01 := cell_of hS z01
  replace zp0 := cell_of hS zp0
  replace zp1 := cell_of hS zp1
  replace zp2 := cell_of hS zp2
  clear hS TW HB5 TW5
  go_wp2_with fail
  have TW := TW6
  refine wp_region_det (S := Below w6.heap.size w6) (by kernel_rfl) (Below.refl _ w6).drew ?_
  refine wpAnyS_take (i := 0) rfl (by kernel_rfl) (by kernel_rfl) (by kernel_rfl) (fun _ _ _ h => h) (.inl ⟨by kernel_rfl, fun w' hS => (by have y0 := cell_of hS z00; have y1 := cell_of hS z01; have y2 := cell_of hS zp0; have y3 := cell_of hS zp1; have y4 := cell_of hS zp2; go_simp; exact ⟨rfl, hS⟩)⟩) rfl (by go_simp; rfl) ?_
  refine wpAnyS_take (i := 1) rfl (by kernel_rfl) (by kernel_rfl) (by kernel_rfl) (fun _ _ _ h => h) (.inl ⟨by kernel_rfl, fun w' hS => (by have y0 := cell_of hS z00; have y1 := cell_of hS z01; have y2 := cell_of hS zp0; have y3 := cell_of hS zp1; have y4 := cell_of hS zp2; go_simp; exact ⟨rfl, hS⟩)⟩) rfl (by go_simp; rfl) ?_
  refine wpAnyS_take (i := 2) rfl (by kernel_rfl) (by kernel_rfl) (by kernel_rfl) (fun _ _ _ h => h) (.inl ⟨by kernel_rfl, fun w' hS => (by have y0 := cell_of hS z00; have y1 := cell_of hS z01; have y2 := cell_of hS zp0; have y3 := cell_of hS zp1; have y4 := cell_of hS zp2; go_simp; exact ⟨rfl, hS⟩)⟩) rfl (by go_simp; rfl) ?_
  refine wpAnyS_take (i := 3) rfl (by kernel_rfl) (by kernel_rfl) (by kernel_rfl) (fun _ _ _ h => h) (.inl ⟨by kernel_rfl, fun w' hS => (by go_simp; refine Calls.mono (join24i e k q e (rst (val ak aq)) rfl HK.out HQ.out he8 _ VJ.out _ (TW.out.below hS)) ?_; intro e w'' hE; obtain ⟨he, hb⟩ := hE; exact ⟨he, hS.trans (hb.mono hS.size)⟩)⟩) rfl (by go_simp; rfl) ?_
  refine wpAnyS_take (i := 4) rfl (by kernel_rfl) (by kernel_rfl) (by kernel_rfl) (fun _ _ _ h => h) (.inl ⟨by kernel_rfl, fun w' hS => (by have y0 := cell_of hS z00; have y1 := cell_of hS z01; have y2 := cell_of hS zp0; have y3 := cell_of hS zp1; have y4 := cell_of hS zp2; go_simp; exact ⟨rfl, hS⟩)⟩) rfl (by go_simp; rfl) ?_
  refine wpAnyS_take (i := 5) rfl (by kernel_rfl) (by kernel_rfl) (by kernel_rfl) (fun _ _ _ h => h) (.inl ⟨by kernel_rfl, fun w' hS => (by go_simp; refine Calls.mono (form16i ak aq aq rfl ha40 _ VA.out _ (TW.out.below hS)) ?_; intro e w'' hE; obtain ⟨he, hb⟩ := hE; exact ⟨he, hS.trans (hb.mono hS.size)⟩)⟩) rfl (by go_simp; rfl) ?_
  refine wpAnyS_take (i := 6) rfl (by kernel_rfl) (by kernel_rfl) (by kernel_rfl) (fun _ _ _ h => h) (.inl ⟨by kernel_rfl, fun w' hS => (by have y0 := cell_of hS z00; have y1 := cell_of hS z01; have y2 := cell_of hS zp0; have y3 := cell_of hS zp1; have y4 := cell_of hS zp2; go_simp; exact ⟨rfl, hS⟩)⟩) rfl (by go_simp; rfl) ?_
  refine wpAnyS_take (i := 7) rfl (by kernel_rfl) (by kernel_rfl) (by kernel_rfl) (fun _ _ _ h => h) (.inl ⟨by kernel_rfl, fun w' hS => (by have y0 := cell_of hS z00; have y1 := cell_of hS z01; have y2 := cell_of hS zp0; have y3 := cell_of hS zp1; have y4 := cell_of hS zp2; go_simp; exact ⟨rfl, hS⟩)⟩) rfl (by go_simp; rfl) ?_
  refine wpAnyS_take (i := 8) rfl (by kernel_rfl) (by kernel_rfl) (by kernel_rfl) (fun _ _ _ h => h) (.inl ⟨by kernel_rfl, fun w' hS => (by have y0 := cell_of hS z00; have y1 := cell_of hS z01; have y2 := cell_of hS zp0; have y3 := cell_of hS zp1; have y4 := cell_of hS zp2; go_simp; exact ⟨rfl, hS⟩)⟩) rfl (by go_simp; rfl) ?_
  refine wpAnyS_take (i := 9) rfl (by kernel_rfl) (by kernel_rfl) (by kernel_rfl) (fun _ _ _ h => h) (.inl ⟨by kernel_rfl, fun w' hS => (by have y0 := cell_of hS z00; have y1 := cell_of hS z01; have y2 := cell_of hS zp0; have y3 := cell_of hS zp1; have y4 := cell_of hS zp2; go_simp; exact ⟨rfl, hS⟩)⟩) rfl (by go_simp; rfl) ?_
  refine wpAnyS_take (i := 10) rfl (by kernel_rfl) (by kernel_rfl) (by kernel_rfl) (fun _ _ _ h => h) (.inl ⟨by kernel_rfl, fun w' hS => (by have y0 := cell_of hS z00; have y1 := cell_of hS z01; have y2 := cell_of hS zp0; have y3 := cell_of hS zp1; have y4 := cell_of hS zp2; go_simp; exact ⟨rfl, hS⟩)⟩) rfl (by go_simp; rfl) ?_
  refine wpAnyS_take (i := 11) rfl (by kernel_rfl) (by kernel_rfl) (by kernel_rfl) (fun _ _ _ h => h) (.inl ⟨by kernel_rfl, fun w' hS => (by have y0 := cell_of hS z00; have y1 := cell_of hS z01; have y2 := cell_of hS zp0; have y3 := cell_of hS zp1; have y4 := cell_of hS zp2; go_simp; exact ⟨rfl, hS⟩)⟩) rfl (by go_simp; rfl) ?_
  refine wpAnyS_take (i := 12) rfl (by kernel_rfl) (by kernel_rfl) (by kernel_rfl) (fun _ _ _ h => h) (.inl ⟨by kernel_rfl, fun w' hS => (by have y0 := cell_of hS z00; have y1 := cell_of hS z01; have y2 := cell_of hS zp0; have y3 := cell_of hS zp1; have y4 := cell_of hS zp2; go_simp; exact ⟨rfl, hS⟩)⟩) rfl (by go_simp; rfl) ?_
  refine wpAnyS_take (i := 13) rfl (by kernel_rfl) (by kernel_rfl) (by kernel_rfl) (fun _ _ _ h => h) (.inl ⟨by kernel_rfl, fun w' hS => (by have y0 := cell_of hS z00; have y1 := cell_of hS z01; have y2 := cell_of hS zp0; have y3 := cell_of hS zp1; have y4 := cell_of hS zp2; go_simp; exact ⟨rfl, hS⟩)⟩) rfl (by go_simp; rfl) ?_
  refine wpAnyS_take (i := 14) rfl (by kernel_rfl) (by kernel_rfl) (by kernel_rfl) (fun _ _ _ h => h) (.inl ⟨by kernel_rfl, fun w' hS => (by have y0 := cell_of hS z00; have y1 := cell_of hS z01; have y2 := cell_of hS zp0; have y3 := cell_of hS zp1; have y4 := cell_of hS zp2; go_simp; exact ⟨rfl, hS⟩)⟩) rfl (by go_simp; rfl) ?_
  refine wpAnyS_take (i := 15) rfl (by kernel_rfl) (by kernel_rfl) (by kernel_rfl) (fun _ _ _ h => h) (.inl ⟨by kernel_rfl, fun w' hS => (by have y0 := cell_of hS z00; have y1 := cell_of hS z01; have y2 := cell_of hS zp0; have y3 := cell_of hS zp1; have y4 := cell_of hS zp2; go_simp; exact ⟨rfl, hS⟩)⟩) rfl (by go_simp; rfl) ?_
  refine wpAnyS_take (i := 16) rfl (by kernel_rfl) (by kernel_rfl) (by kernel_rfl) (fun _ _ _ h => h) (.inl ⟨by kernel_rfl, fun w' hS => (by have y0 := cell_of hS z00; have y1 := cell_of hS z01; have y2 := cell_of hS zp0; have y3 := cell_of hS zp1; have y4 := cell_of hS zp2; go_simp; exact ⟨rfl, hS⟩)⟩) rfl (by go_simp; rfl) ?_
  refine wpAnyS_take (i := 17) rfl (by kernel_rfl) (by kernel_rfl) (by kernel_rfl) (fun _ _ _ h => h) (.inl ⟨by kernel_rfl, fun w' hS => (by have y0 := cell_of hS z00; have y1 := cell_of hS z01; have y2 := cell_of hS zp0; have y3 := cell_of hS zp1; have y4 := cell_of hS zp2; go_simp; exact ⟨rfl, hS⟩)⟩) rfl (by go_simp; rfl) ?_
  refine wpAnyS_take (i := 18) rfl (by kernel_rfl) (by kernel_rfl) (by kernel_rfl) (fun _ _ _ h => h) (.inl ⟨by kernel_rfl, fun w' hS => (by have y0 := cell_of hS z00; have y1 := cell_of hS z01; have y2 := cell_of hS zp0; have y3 := cell_of hS zp1; have y4 := cell_of hS zp2; go_simp; exact ⟨rfl, hS⟩)⟩) rfl (by go_simp; rfl) ?_
  refine wpAnyS_take (i := 19) rfl (by kernel_rfl) (by kernel_rfl) (by kernel_rfl) (fun _ _ _ h => h) (.inl ⟨by kernel_rfl, fun w' hS => (by have y0 := cell_of hS z00; have y1 := cell_of hS z01; have y2 := cell_of hS zp0; have y3 := cell_of hS zp1; have y4 := cell_of hS zp2; go_simp; exact ⟨rfl, hS⟩)⟩) rfl (by go_simp; rfl) ?_
  refine wpAnyS_take (i := 20) rfl (by kernel_rfl) (by kernel_rfl) (by kernel_rfl) (fun _ _ _ h => h) (.inl ⟨by kernel_rfl, fun w' hS => (by have y0 := cell_of hS z00; have y1 := cell_of hS z01; have y2 := cell_of hS zp0; have y3 := cell_of hS zp1; have y4 := cell_of hS zp2; go_simp; exact ⟨rfl, hS⟩)⟩) rfl (by go_simp; rfl) ?_
  refine wpAnyS_take (i := 21) rfl (by kernel_rfl) (by kernel_rfl) (by kernel_rfl) (fun _ _ _ h => h) (.inl ⟨by kernel_rfl, fun w' hS => (by have y0 := cell_of hS z00; have y1 := cell_of hS z01; have y2 := cell_of hS zp0; have y3 := cell_of hS zp1; have y4 := cell_of hS zp2; go_simp; exact ⟨rfl, hS⟩)⟩) rfl (by go_simp; rfl) ?_
  refine wpAnyS_take (i := 22) rfl (by kernel_rfl) (by kernel_rfl) (by kernel_rfl) (fun _ _ _ h => h) (.inl ⟨by kernel_rfl, fun w' hS => (by have y0 := cell_of hS z00; have y1 := cell_of hS z01; have y2 := cell_of hS zp0; have y3 := cell_of hS zp1; have y4 := cell_of hS zp2; go_simp; exact ⟨rfl, hS⟩)⟩) rfl (by go_simp; rfl) ?_
  refine wpAnyS_take (i := 23) rfl (by kernel_rfl) (by kernel_rfl) (by kernel_rfl) (fun _ _ _ h => h) (.inl ⟨by kernel_rfl, fun w' hS => (by have y0 := cell_of hS z00; have y1 := cell_of hS z01; have y2 := cell_of hS zp0; have y3 := cell_of hS zp1; have y4 := cell_of hS zp2; go_simp; exact ⟨rfl, hS⟩)⟩) rfl (by go_simp; rfl) ?_
  refine wpAnyS_take (i := 24) rfl (by kernel_rfl) (by kernel_rfl) (by kernel_rfl) (fun _ _ _ h => h) (.inr ⟨by kernel_rfl, rfl⟩) rfl (by go_simp; rfl) ?_
  refine wpAnyS_take (i := 25) rfl (by kernel_rfl) (by kernel_rfl) (by kernel_rfl) (fun _ _ _ h => h) (.inr ⟨by kernel_rfl, rfl⟩) rfl (by go_simp; rfl) ?_
  refine wpAnyS_take (i := 26) rfl (by kernel_rfl) (by kernel_rfl) (by kernel_rfl) (fun _ _ _ h => h) (.inl ⟨by kernel_rfl, fun w' hS => (by have y0 := cell_of hS z00; have y1 := cell_of hS z01; have y2 := cell_of hS zp0; have y3 := cell_of hS zp1; have y4 := cell_of hS zp2; go_simp; exact ⟨rfl, hS⟩)⟩) rfl (by go_simp; rfl) ?_
  refine wpAnyS_take (i := 27) rfl (by kernel_rfl) (by kernel_rfl) (by kernel_rfl) (fun _ _ _ h => h) (.inl ⟨by kernel_rfl, fun w' hS => (by have y0 := cell_of hS z00; have y1 := cell_of hS z01; have y2 := cell_of hS zp0; have y3 := cell_of hS zp1; have y4 := cell_of hS zp2; go_simp; exact ⟨rfl, hS⟩)⟩) rfl (by go_simp; rfl) ?_
  refine wpAnyS_take (i := 28) rfl (by kernel_rfl) (by kernel_rfl) (by kernel_rfl) (fun _ _ _ h => h) (.inl ⟨by kernel_rfl, fun w' hS => (by have y0 := cell_of hS z00; have y1 := cell_of hS z01; have y2 := cell_of hS zp0; have y3 := cell_of hS zp1; have y4 := cell_of hS zp2; go_simp; exact ⟨rfl, hS⟩)⟩) rfl (by go_simp; rfl) ?_
  refine wpAnyS_done (by kernel_rfl) (fun w7 hS => ?_) _
  have HB7 := Lib.hid (HB6.out.trans (hS.mono HB6.out.size))
  have TW7 := Lib.hid (TW6.out.below hS)
  replace z00 := cell_of hS z00
  replace z01 := cell_of hS z01
  replace zp0 := cell_of hS zp0
  replace zp1 := cell_of hS zp1
  replace zp2 := cell_of hS zp2
  clear hS TW HB6 TW6
  go_wp2
  go_ret
  exact ⟨rfl, HB7.out⟩

set_option maxRecDepth 100000 in
set_option maxHeartbeats 8000000 in
theorem turnSplit_o1 (ak : Int) (aq : Nat) (ha40 : aq ≤ 40) (h0 : -1099511627776 ≤ ak) (h1 : ak ≤ 1099511627776) (e k q n m : Nat) (N : PartOk (val ak aq) e k q n m) (hpar : e % 2 = 1) (hk0 : k ≠ 0) (hed : m = n) (w : World) (ht : Tab w) : Calls Tryd.prog 6 #[Ag ak aq] w (Says w true) := by
  have T0 := Lib.hid ht
  have HA := Lib.hid (isR_true (k := ak) (q := aq) ⟨by omega, by omega, h0, h1⟩)
  obtain ⟨f1, f2, v1⟩ := T_any' (val ak aq)
  have VA := Lib.hid v1
  have VP : Hid (PT (val ak aq) = .agg #[.int .i64 e, .int .i64 k, .int .i64 q]) := Lib.hid N.pt
  have HK : Hid (((k : Nat) : Int) = (fk (rst (val ak aq)) : Nat)) := Lib.hid N.kk
  have HQ : Hid (((q : Nat) : Int) = (fq (rst (val ak aq)) : Nat)) := Lib.hid N.qq
  have VJ := Lib.hid (N.jo.trans v1)
  have VF : Hid (T (val ((k : Nat) : Int) q) = .agg #[.int .i64 k, .int .i64 q]) := Lib.hid N.fo
  have he8 := N.e8
  have hq40 : q ≤ 40 := N.q40
  have hk40 : k < 1099511627776 := N.k40
  have HRR := Lib.hid (isR_true (k := ((k : Nat) : Int)) (q := ((q : Nat) : Int)) ⟨by omega, by omega, by omega, by omega⟩)
  have hwn := N.nn
  have hwm := N.mm
  have hmn := N.mn
  have ho1 : (e : Int).tmod 2 = 1 := by rw [Int.tmod_eq_emod_of_nonneg (by omega)]; omega
  have d7 : decide ((7 : Int) < e) = false := decide_eq_false (by omega)
  have d0 : decide ((e : Int) < 0) = false := decide_eq_false (by omega)
  have dm : decide (n < m) = false := decide_eq_false (by omega)
  have dq1 : ((m : Int) == n) = true := by rw [beq_iff_eq]; omega
  have hq41 : (q : Int) ≤ 40 := by omega
  have hk1 : ((k : Int) == 0) = false := by apply beq_false_of_ne; omega
  clear ht v1 N hpar hmn hed
  go_enter Tryd.func6, Tryd.ntmps6
  go_wp2_with fail
  obtain ⟨w0, hW⟩ : ∃ w0, (w.alloc (.cells #[.int .i64 ak, .int .i64 aq] 23)) = w0 := ⟨_, rfl⟩
  have HB0 : Hid (Below w.heap.size w w0) := Lib.hid (by rw [← hW]; exact ((Below.refl w.heap.size w).alloc (by first | exact Nat.le_refl _ | (simp; done) | (simp; omega)) _))
  have TW0 := Lib.hid (T0.out.below HB0.out)
  have z00 : w0.cell? ⟨w.heap.size, 0, none⟩ = some (.int .i64 ak) := by rw [← hW]; simp [go_sem]
  have z01 : w0.cell? ⟨w.heap.size, 1, none⟩ = some (.int .i64 aq) := by rw [← hW]; simp [go_sem]
  rw [hW]
  clear hW
  refine Calls.mono (l6_head _ TW0.out) ?_
  rintro e' w1 ⟨rfl, hb⟩
  have HB1 := Lib.hid (HB0.out.trans (hb.mono HB0.out.size))
  have TW1 := Lib.hid (TW0.out.below hb)
  replace z00 := cell_of hb z00
  replace z01 := cell_of hb z01
  clear hb HB0 TW0
  go_wp2_with fail
  refine Calls.mono (right13 ak aq _) ?_
  rintro e' w2 ⟨rfl, hb⟩
  rw [HA.out]
  have HB2 := Lib.hid (HB1.out.trans (hb.mono HB1.out.size))
  have TW2 := Lib.hid (TW1.out.below hb)
  replace z00 := cell_of hb z00
  replace z01 := cell_of hb z01
  clear hb HB1 TW1
  go_wp2_with fail
  refine Calls.mono (split14i ak aq aq rfl ha40 _ VP.out _ TW2.out) ?_
  rintro e' w3 ⟨rfl, hb⟩
  have HB3 := Lib.hid (HB2.out.trans (hb.mono HB2.out.size))
  have TW3 := Lib.hid (TW2.out.below hb)
  replace z00 := cell_of hb z00
  replace z01 := cell_of hb z01
  clear hb HB2 TW2
  have hlt := cell_lt z00
  go_wp2_with fail
  obtain ⟨w4, hW⟩ : ∃ w4, w3.alloc (.cells #[.int .i64 e, .int .i64 k, .int .i64 q] 29) = w4 := ⟨_, rfl⟩
  have hb : Below w3.heap.size w3 w4 := by rw [← hW]; exact (Below.refl _ _).alloc (Nat.le_refl _) _
  have HB4 := Lib.hid (HB3.out.trans (hb.mono HB3.out.size))
  have TW4 := Lib.hid (TW3.out.below hb)
  replace z00 := cell_of hb z00
  replace z01 := cell_of hb z01
  have zp0 : w4.cell? ⟨w3.heap.size, 0, none⟩ = some (.int .i64 e) := by rw [← hW]; simp [go_sem]
  have zp1 : w4.cell? ⟨w3.heap.size, 1, none⟩ = some (.int .i64 k) := by rw [← hW]; simp [go_sem]
  have zp2 : w4.cell? ⟨w3.heap.size, 2, none⟩ = some (.int .i64 q) := by rw [← hW]; simp [go_sem]
  rw [hW]
  clear hW hb HB3 TW3
  have TW := TW4
  refine wp_region_det (S := Below w4.heap.size w4) (by kernel_rfl) (Below.refl _ w4).drew ?_
  refine wpAnyS_take (i := 0) rfl (by kernel_rfl) (by kernel_rfl) (by kernel_rfl) (fun _ _ _ h => h) (.inl ⟨by kernel_rfl, fun w' hS => (by have y0 := cell_of hS z00; have y1 := cell_of hS z01; have y2 := cell_of hS zp0; have y3 := cell_of hS zp1; have y4 := cell_of hS zp2; go_simp; exact ⟨rfl, hS⟩)⟩) rfl (by go_simp; rfl) ?_
  refine wpAnyS_take (i := 1) rfl (by kernel_rfl) (by kernel_rfl) (by kernel_rfl) (fun _ _ _ h => h) (.inl ⟨by kernel_rfl, fun w' hS => (by have y0 := cell_of hS z00; have y1 := cell_of hS z01; have y2 := cell_of hS zp0; have y3 := cell_of hS zp1; have y4 := cell_of hS zp2; go_simp; exact ⟨rfl, hS⟩)⟩) rfl (by go_simp; rfl) ?_
  refine wpAnyS_take (i := 2) rfl (by kernel_rfl) (by kernel_rfl) (by kernel_rfl) (fun _ _ _ h => h) (.inl ⟨by kernel_rfl, fun w' hS => (by have y0 := cell_of hS z00; have y1 := cell_of hS z01; have y2 := cell_of hS zp0; have y3 := cell_of hS zp1; have y4 := cell_of hS zp2; go_simp; exact ⟨rfl, hS⟩)⟩) rfl (by go_simp; rfl) ?_
  refine wpAnyS_take (i := 3) rfl (by kernel_rfl) (by kernel_rfl) (by kernel_rfl) (fun _ _ _ h => h) (.inl ⟨by kernel_rfl, fun w' hS => (by have y0 := cell_of hS z00; have y1 := cell_of hS z01; have y2 := cell_of hS zp0; have y3 := cell_of hS zp1; have y4 := cell_of hS zp2; go_simp; exact ⟨rfl, hS⟩)⟩) rfl (by go_simp; rfl) ?_
  refine wpAnyS_take (i := 4) rfl (by kernel_rfl) (by kernel_rfl) (by kernel_rfl) (fun _ _ _ h => h) (.inl ⟨by kernel_rfl, fun w' hS => (by have y0 := cell_of hS z00; have y1 := cell_of hS z01; have y2 := cell_of hS zp0; have y3 := cell_of hS zp1; have y4 := cell_of hS zp2; go_simp; exact ⟨rfl, hS⟩)⟩) rfl (by go_simp; rfl) ?_
  refine wpAnyS_take (i := 5) rfl (by kernel_rfl) (by kernel_rfl) (by kernel_rfl) (fun _ _ _ h => h) (.inl ⟨by kernel_rfl, fun w' hS => (by have y0 := cell_of hS z00; have y1 := cell_of hS z01; have y2 := cell_of hS zp0; have y3 := cell_of hS zp1; have y4 := cell_of hS zp2; go_simp; exact ⟨rfl, hS⟩)⟩) rfl (by go_simp; rfl) ?_
  refine wpAnyS_take (i := 6) rfl (by kernel_rfl) (by kernel_rfl) (by kernel_rfl) (fun _ _ _ h => h) (.inl ⟨by kernel_rfl, fun w' hS => (by have y0 := cell_of hS z00; have y1 := cell_of hS z01; have y2 := cell_of hS zp0; have y3 := cell_of hS zp1; have y4 := cell_of hS zp2; go_simp; exact ⟨rfl, hS⟩)⟩) rfl (by go_simp; rfl) ?_
  refine wpAnyS_take (i := 7) rfl (by kernel_rfl) (by kernel_rfl) (by kernel_rfl) (fun _ _ _ h => h) (.inl ⟨by kernel_rfl, fun w' hS => (by have y0 := cell_of hS z00; have y1 := cell_of hS z01; have y2 := cell_of hS zp0; have y3 := cell_of hS zp1; have y4 := cell_of hS zp2; go_simp; exact ⟨rfl, hS⟩)⟩) rfl (by go_simp; rfl) ?_
  refine wpAnyS_take (i := 8) rfl (by kernel_rfl) (by kernel_rfl) (by kernel_rfl) (fun _ _ _ h => h) (.inl ⟨by kernel_rfl, fun w' hS => (by have y0 := cell_of hS z00; have y1 := cell_of hS z01; have y2 := cell_of hS zp0; have y3 := cell_of hS zp1; have y4 := cell_of hS zp2; go_simp; exact ⟨rfl, hS⟩)⟩) rfl (by go_simp; rfl) ?_
  refine wpAnyS_take (i := 9) rfl (by kernel_rfl) (by kernel_rfl) (by kernel_rfl) (fun _ _ _ h => h) (.inl ⟨by kernel_rfl, fun w' hS => (by have y0 := cell_of hS z00; have y1 := cell_of hS z01; have y2 := cell_of hS zp0; have y3 := cell_of hS zp1; have y4 := cell_of hS zp2; go_simp; exact ⟨rfl, hS⟩)⟩) rfl (by go_simp; rfl) ?_
  refine wpAnyS_take (i := 10) rfl (by kernel_rfl) (by kernel_rfl) (by kernel_rfl) (fun _ _ _ h => h) (.inl ⟨by kernel_rfl, fun w' hS => (by have y0 := cell_of hS z00; have y1 := cell_of hS z01; have y2 := cell_of hS zp0; have y3 := cell_of hS zp1; have y4 := cell_of hS zp2; go_simp; exact ⟨rfl, hS⟩)⟩) rfl (by go_simp; rfl) ?_
  refine wpAnyS_take (i := 11) rfl (by kernel_rfl) (by kernel_rfl) (by kernel_rfl) (fun _ _ _ h => h) (.inl ⟨by kernel_rfl, fun w' hS => (by go_simp; refine Calls.mono (rightT k q _ HRR.out) ?_; intro e w'' hE; obtain ⟨he, hb⟩ := hE; exact ⟨he, hS.trans (hb.mono hS.size)⟩)⟩) rfl (by go_simp; rfl) ?_
  refine wpAnyS_take (i := 12) rfl (by kernel_rfl) (by kernel_rfl) (by kernel_rfl) (fun _ _ _ h => h) (.inl ⟨by kernel_rfl, fun w' hS => (by have y0 := cell_of hS z00; have y1 := cell_of hS z01; have y2 := cell_of hS zp0; have y3 := cell_of hS zp1; have y4 := cell_of hS zp2; go_simp; exact ⟨rfl, hS⟩)⟩) rfl (by go_simp; rfl) ?_
  refine wpAnyS_take (i := 13) rfl (by kernel_rfl) (by kernel_rfl) (by kernel_rfl) (fun _ _ _ h => h) (.inl ⟨by kernel_rfl, fun w' hS => (by have y0 := cell_of hS z00; have y1 := cell_of hS z01; have y2 := cell_of hS zp0; have y3 := cell_of hS zp1; have y4 := cell_of hS zp2; go_simp; exact ⟨rfl, hS⟩)⟩) rfl (by go_simp; rfl) ?_
  refine wpAnyS_take (i := 14) rfl (by kernel_rfl) (by kernel_rfl) (by kernel_rfl) (fun _ _ _ h => h) (.inl ⟨by kernel_rfl, fun w' hS => (by have y0 := cell_of hS z00; have y1 := cell_of hS z01; have y2 := cell_of hS zp0; have y3 := cell_of hS zp1; have y4 := cell_of hS zp2; go_simp; exact ⟨rfl, hS⟩)⟩) rfl (by go_simp; rfl) ?_
  refine wpAnyS_take (i := 15) rfl (by kernel_rfl) (by kernel_rfl) (by kernel_rfl) (fun _ _ _ h => h) (.inl ⟨by kernel_rfl, fun w' hS => (by have y0 := cell_of hS z00; have y1 := cell_of hS z01; have y2 := cell_of hS zp0; have y3 := cell_of hS zp1; have y4 := cell_of hS zp2; go_simp; exact ⟨rfl, hS⟩)⟩) rfl (by go_simp; rfl) ?_
  refine wpAnyS_take (i := 16) rfl (by kernel_rfl) (by kernel_rfl) (by kernel_rfl) (fun _ _ _ h => h) (.inl ⟨by kernel_rfl, fun w' hS => (by have y0 := cell_of hS z00; have y1 := cell_of hS z01; have y2 := cell_of hS zp0; have y3 := cell_of hS zp1; have y4 := cell_of hS zp2; go_simp; exact ⟨rfl, hS⟩)⟩) rfl (by go_simp; rfl) ?_
  refine wpAnyS_take (i := 17) rfl (by kernel_rfl) (by kernel_rfl) (by kernel_rfl) (fun _ _ _ h => h) (.inl ⟨by kernel_rfl, fun w' hS => (by have y0 := cell_of hS z00; have y1 := cell_of hS z01; have y2 := cell_of hS zp0; have y3 := cell_of hS zp1; have y4 := cell_of hS zp2; go_simp; exact ⟨rfl, hS⟩)⟩) rfl (by go_simp; rfl) ?_
  refine wpAnyS_take (i := 18) rfl (by kernel_rfl) (by kernel_rfl) (by kernel_rfl) (fun _ _ _ h => h) (.inl ⟨by kernel_rfl, fun w' hS => (by have y0 := cell_of hS z00; have y1 := cell_of hS z01; have y2 := cell_of hS zp0; have y3 := cell_of hS zp1; have y4 := cell_of hS zp2; go_simp; exact ⟨rfl, hS⟩)⟩) rfl (by go_simp; rfl) ?_
  refine wpAnyS_take (i := 19) rfl (by kernel_rfl) (by kernel_rfl) (by kernel_rfl) (fun _ _ _ h => h) (.inl ⟨by kernel_rfl, fun w' hS => (by go_simp; refine Calls.mono (form16i k q q rfl hq40 _ VF.out _ (TW.out.below hS)) ?_; intro e w'' hE; obtain ⟨he, hb⟩ := hE; exact ⟨he, hS.trans (hb.mono hS.size)⟩)⟩) rfl (by go_simp; rfl) ?_
  refine wpAnyS_take (i := 20) rfl (by kernel_rfl) (by kernel_rfl) (by kernel_rfl) (fun _ _ _ h => h) (.inl ⟨by kernel_rfl, fun w' hS => (by have y0 := cell_of hS z00; have y1 := cell_of hS z01; have y2 := cell_of hS zp0; have y3 := cell_of hS zp1; have y4 := cell_of hS zp2; go_simp; exact ⟨rfl, hS⟩)⟩) rfl (by go_simp; rfl) ?_
  refine wpAnyS_take (i := 21) rfl (by kernel_rfl) (by kernel_rfl) (by kernel_rfl) (fun _ _ _ h => h) (.inl ⟨by kernel_rfl, fun w' hS => (by have y0 := cell_of hS z00; have y1 := cell_of hS z01; have y2 := cell_of hS zp0; have y3 := cell_of hS zp1; have y4 := cell_of hS zp2; go_simp; exact ⟨rfl, hS⟩)⟩) rfl (by go_simp; rfl) ?_
  refine wpAnyS_take (i := 22) rfl (by kernel_rfl) (by kernel_rfl) (by kernel_rfl) (fun _ _ _ h => h) (.inl ⟨by kernel_rfl, fun w' hS => (by have y0 := cell_of hS z00; have y1 := cell_of hS z01; have y2 := cell_of hS zp0; have y3 := cell_of hS zp1; have y4 := cell_of hS zp2; go_simp; exact ⟨rfl, hS⟩)⟩) rfl (by go_simp; rfl) ?_
  refine wpAnyS_take (i := 23) rfl (by kernel_rfl) (by kernel_rfl) (by kernel_rfl) (fun _ _ _ h => h) (.inl ⟨by kernel_rfl, fun w' hS => (by have y0 := cell_of hS z00; have y1 := cell_of hS z01; have y2 := cell_of hS zp0; have y3 := cell_of hS zp1; have y4 := cell_of hS zp2; go_simp; exact ⟨rfl, hS⟩)⟩) rfl (by go_simp; rfl) ?_
  refine wpAnyS_take (i := 24) rfl (by kernel_rfl) (by kernel_rfl) (by kernel_rfl) (fun _ _ _ h => h) (.inl ⟨by kernel_rfl, fun w' hS => (by have y0 := cell_of hS z00; have y1 := cell_of hS z01; have y2 := cell_of hS zp0; have y3 := cell_of hS zp1; have y4 := cell_of hS zp2; go_simp; exact ⟨rfl, hS⟩)⟩) rfl (by go_simp; rfl) ?_
  refine wpAnyS_take (i := 25) rfl (by kernel_rfl) (by kernel_rfl) (by kernel_rfl) (fun _ _ _ h => h) (.inl ⟨by kernel_rfl, fun w' hS => (by have y0 := cell_of hS z00; have y1 := cell_of hS z01; have y2 := cell_of hS zp0; have y3 := cell_of hS zp1; have y4 := cell_of hS zp2; go_simp; exact ⟨rfl, hS⟩)⟩) rfl (by go_simp; rfl) ?_
  refine wpAnyS_take (i := 26) rfl (by kernel_rfl) (by kernel_rfl) (by kernel_rfl) (fun _ _ _ h => h) (.inl ⟨by kernel_rfl, fun w' hS => (by have y0 := cell_of hS z00; have y1 := cell_of hS z01; have y2 := cell_of hS zp0; have y3 := cell_of hS zp1; have y4 := cell_of hS zp2; go_simp; exact ⟨rfl, hS⟩)⟩) rfl (by go_simp; rfl) ?_
  refine wpAnyS_take (i := 27) rfl (by kernel_rfl) (by kernel_rfl) (by kernel_rfl) (fun _ _ _ h => h) (.inl ⟨by kernel_rfl, fun w' hS => (by have y0 := cell_of hS z00; have y1 := cell_of hS z01; have y2 := cell_of hS zp0; have y3 := cell_of hS zp1; have y4 := cell_of hS zp2; go_simp; exact ⟨rfl, hS⟩)⟩) rfl (by go_simp; rfl) ?_
  refine wpAnyS_take (i := 28) rfl (by kernel_rfl) (by kernel_rfl) (by kernel_rfl) (fun _ _ _ h => h) (.inl ⟨by kernel_rfl, fun w' hS => (by have y0 := cell_of hS z00; have y1 := cell_of hS z01; have y2 := cell_of hS zp0; have y3 := cell_of hS zp1; have y4 := cell_of hS zp2; go_simp; exact ⟨rfl, hS⟩)⟩) rfl (by go_simp; rfl) ?_
  refine wpAnyS_take (i := 29) rfl (by kernel_rfl) (by kernel_rfl) (by kernel_rfl) (fun _ _ _ h => h) (.inl ⟨by kernel_rfl, fun w' hS => (by have y0 := cell_of hS z00; have y1 := cell_of hS z01; have y2 := cell_of hS zp0; have y3 := cell_of hS zp1; have y4 := cell_of hS zp2; go_simp; exact ⟨rfl, hS⟩)⟩) rfl (by go_simp; rfl) ?_
  refine wpAnyS_take (i := 30) rfl (by kernel_rfl) (by kernel_rfl) (by kernel_rfl) (fun _ _ _ h => h) (.inl ⟨by kernel_rfl, fun w' hS => (by have y0 := cell_of hS z00; have y1 := cell_of hS z01; have y2 := cell_of hS zp0; have y3 := cell_of hS zp1; have y4 := cell_of hS zp2; go_simp; exact ⟨rfl, hS⟩)⟩) rfl (by go_simp; rfl) ?_
  refine wpAnyS_take (i := 31) rfl (by kernel_rfl) (by kernel_rfl) (by kernel_rfl) (fun _ _ _ h => h) (.inl ⟨by kernel_rfl, fun w' hS => (by have y0 := cell_of hS z00; have y1 := cell_of hS z01; have y2 := cell_of hS zp0; have y3 := cell_of hS zp1; have y4 := cell_of hS zp2; go_simp; exact ⟨rfl, hS⟩)⟩) rfl (by go_simp; rfl) ?_
  refine wpAnyS_take (i := 32) rfl (by kernel_rfl) (by kernel_rfl) (by kernel_rfl) (fun _ _ _ h => h) (.inl ⟨by kernel_rfl, fun w' hS => (by have y0 := cell_of hS z00; have y1 := cell_of hS z01; have y2 := cell_of hS zp0; have y3 := cell_of hS zp1; have y4 := cell_of hS zp2; go_simp; exact ⟨rfl, hS⟩)⟩) rfl (by go_simp; rfl) ?_
  refine wpAnyS_done (by kernel_rfl) (fun w5 hS => ?_) _
  have HB5 := Lib.hid (HB4.out.trans (hS.mono HB4.out.size))
  have TW5 := Lib.hid (TW4.out.below hS)
  replace z00 := cell_of hS z00
  replace z01 := cell_of hS z01
  replace zp0 := cell_of hS zp0
  replace zp1 := cell_of hS zp1
  replace zp2 := cell_of hS zp2
  clear hS TW HB4 TW4
  go_wp2_with fail
  have TW := TW5
  refine wp_region_det (S := Below w5.heap.size w5) (by kernel_rfl) (Below.refl _ w5).drew ?_
  refine wpAnyS_take (i := 0) rfl (by kernel_rfl) (by kernel_rfl) (by kernel_rfl) (fun _ _ _ h => h) (.inl ⟨by kernel_rfl, fun w' hS => (by have y0 := cell_of hS z00; have y1 := cell_of hS z01; have y2 := cell_of hS zp0; have y3 := cell_of hS zp1; have y4 := cell_of hS zp2; go_simp; exact ⟨rfl, hS⟩)⟩) rfl (by go_simp; rfl) ?_
  refine wpAnyS_take (i := 1) rfl (by kernel_rfl) (by kernel_rfl) (by kernel_rfl) (fun _ _ _ h => h) (.inl ⟨by kernel_rfl, fun w' hS => (by have y0 := cell_of hS z00; have y1 := cell_of hS z01; have y2 := cell_of hS zp0; have y3 := cell_of hS zp1; have y4 := cell_of hS zp2; go_simp; exact ⟨rfl, hS⟩)⟩) rfl (by go_simp; rfl) ?_
  refine wpAnyS_take (i := 2) rfl (by kernel_rfl) (by kernel_rfl) (by kernel_rfl) (fun _ _ _ h => h) (.inl ⟨by kernel_rfl, fun w' hS => (by have y0 := cell_of hS z00; have y1 := cell_of hS z01; have y2 := cell_of hS zp0; have y3 := cell_of hS zp1; have y4 := cell_of hS zp2; go_simp; exact ⟨rfl, hS⟩)⟩) rfl (by go_simp; rfl) ?_
  refine wpAnyS_take (i := 3) rfl (by kernel_rfl) (by kernel_rfl) (by kernel_rfl) (fun _ _ _ h => h) (.inl ⟨by kernel_rfl, fun w' hS => (by have y0 := cell_of hS z00; have y1 := cell_of hS z01; have y2 := cell_of hS zp0; have y3 := cell_of hS zp1; have y4 := cell_of hS zp2; go_simp; exact ⟨rfl, hS⟩)⟩) rfl (by go_simp; rfl) ?_
  refine wpAnyS_take (i := 4) rfl (by kernel_rfl) (by kernel_rfl) (by kernel_rfl) (fun _ _ _ h => h) (.inl ⟨by kernel_rfl, fun w' hS => (by have y0 := cell_of hS z00; have y1 := cell_of hS z01; have y2 := cell_of hS zp0; have y3 := cell_of hS zp1; have y4 := cell_of hS zp2; go_simp; exact ⟨rfl, hS⟩)⟩) rfl (by go_simp; rfl) ?_
  refine wpAnyS_take (i := 5) rfl (by kernel_rfl) (by kernel_rfl) (by kernel_rfl) (fun _ _ _ h => h) (.inl ⟨by kernel_rfl, fun w' hS => (by have y0 := cell_of hS z00; have y1 := cell_of hS z01; have y2 := cell_of hS zp0; have y3 := cell_of hS zp1; have y4 := cell_of hS zp2; go_simp; exact ⟨rfl, hS⟩)⟩) rfl (by go_simp; rfl) ?_
  refine wpAnyS_take (i := 6) rfl (by kernel_rfl) (by kernel_rfl) (by kernel_rfl) (fun _ _ _ h => h) (.inl ⟨by kernel_rfl, fun w' hS => (by have y0 := cell_of hS z00; have y1 := cell_of hS z01; have y2 := cell_of hS zp0; have y3 := cell_of hS zp1; have y4 := cell_of hS zp2; go_simp; exact ⟨rfl, hS⟩)⟩) rfl (by go_simp; rfl) ?_
  refine wpAnyS_take (i := 7) rfl (by kernel_rfl) (by kernel_rfl) (by kernel_rfl) (fun _ _ _ h => h) (.inl ⟨by kernel_rfl, fun w' hS => (by have y0 := cell_of hS z00; have y1 := cell_of hS z01; have y2 := cell_of hS zp0; have y3 := cell_of hS zp1; have y4 := cell_of hS zp2; go_simp; exact ⟨rfl, hS⟩)⟩) rfl (by go_simp; rfl) ?_
  refine wpAnyS_take (i := 8) rfl (by kernel_rfl) (by kernel_rfl) (by kernel_rfl) (fun _ _ _ h => h) (.inl ⟨by kernel_rfl, fun w' hS => (by have y0 := cell_of hS z00; have y1 := cell_of hS z01; have y2 := cell_of hS zp0; have y3 := cell_of hS zp1; have y4 := cell_of hS zp2; go_simp; exact ⟨rfl, hS⟩)⟩) rfl (by go_simp; rfl) ?_
  refine wpAnyS_take (i := 9) rfl (by kernel_rfl) (by kernel_rfl) (by kernel_rfl) (fun _ _ _ h => h) (.inl ⟨by kernel_rfl, fun w' hS => (by have y0 := cell_of hS z00; have y1 := cell_of hS z01; have y2 := cell_of hS zp0; have y3 := cell_of hS zp1; have y4 := cell_of hS zp2; go_simp; exact ⟨rfl, hS⟩)⟩) rfl (by go_simp; rfl) ?_
  refine wpAnyS_done (by kernel_rfl) (fun w6 hS => ?_) _
  have HB6 := Lib.hid (HB5.out.trans (hS.mono HB5.out.size))
  have TW6 := Lib.hid (TW5.out.below hS)
  replace z00 := cell_of hS z00
  replace z01 := cell_of hS z01
  replace zp0 := cell_of hS zp0
  replace zp1 := cell_of hS zp1
  replace zp2 := cell_of hS zp2
  clear hS TW HB5 TW5
  go_wp2_with fail
  have TW := TW6
  refine wp_region_det (S := Below w6.heap.size w6) (by kernel_rfl) (Below.refl _ w6).drew ?_
  refine wpAnyS_take (i := 0) rfl (by kernel_rfl) (by kernel_rfl) (by kernel_rfl) (fun _ _ _ h => h) (.inl ⟨by kernel_rfl, fun w' hS => (by have y0 := cell_of hS z00; have y1 := cell_of hS z01; have y2 := cell_of hS zp0; have y3 := cell_of hS zp1; have y4 := cell_of hS zp2; go_simp; exact ⟨rfl, hS⟩)⟩) rfl (by go_simp; rfl) ?_
  refine wpAnyS_take (i := 1) rfl (by kernel_rfl) (by kernel_rfl) (by kernel_rfl) (fun _ _ _ h => h) (.inl ⟨by kernel_rfl, fun w' hS => (by have y0 := cell_of hS z00; have y1 := cell_of hS z01; have y2 := cell_of hS zp0; have y3 := cell_of hS zp1; have y4 := cell_of hS zp2; go_simp; exact ⟨rfl, hS⟩)⟩) rfl (by go_simp; rfl) ?_
  refine wpAnyS_take (i := 2) rfl (by kernel_rfl) (by kernel_rfl) (by kernel_rfl) (fun _ _ _ h => h) (.inl ⟨by kernel_rfl, fun w' hS => (by have y0 := cell_of hS z00; have y1 := cell_of hS z01; have y2 := cell_of hS zp0; have y3 := cell_of hS zp1; have y4 := cell_of hS zp2; go_simp; exact ⟨rfl, hS⟩)⟩) rfl (by go_simp; rfl) ?_
  refine wpAnyS_take (i := 3) rfl (by kernel_rfl) (by kernel_rfl) (by kernel_rfl) (fun _ _ _ h => h) (.inl ⟨by kernel_rfl, fun w' hS => (by go_simp; refine Calls.mono (join24i e k q e (rst (val ak aq)) rfl HK.out HQ.out he8 _ VJ.out _ (TW.out.below hS)) ?_; intro e w'' hE; obtain ⟨he, hb⟩ := hE; exact ⟨he, hS.trans (hb.mono hS.size)⟩)⟩) rfl (by go_simp; rfl) ?_
  refine wpAnyS_take (i := 4) rfl (by kernel_rfl) (by kernel_rfl) (by kernel_rfl) (fun _ _ _ h => h) (.inl ⟨by kernel_rfl, fun w' hS => (by have y0 := cell_of hS z00; have y1 := cell_of hS z01; have y2 := cell_of hS zp0; have y3 := cell_of hS zp1; have y4 := cell_of hS zp2; go_simp; exact ⟨rfl, hS⟩)⟩) rfl (by go_simp; rfl) ?_
  refine wpAnyS_take (i := 5) rfl (by kernel_rfl) (by kernel_rfl) (by kernel_rfl) (fun _ _ _ h => h) (.inl ⟨by kernel_rfl, fun w' hS => (by go_simp; refine Calls.mono (form16i ak aq aq rfl ha40 _ VA.out _ (TW.out.below hS)) ?_; intro e w'' hE; obtain ⟨he, hb⟩ := hE; exact ⟨he, hS.trans (hb.mono hS.size)⟩)⟩) rfl (by go_simp; rfl) ?_
  refine wpAnyS_take (i := 6) rfl (by kernel_rfl) (by kernel_rfl) (by kernel_rfl) (fun _ _ _ h => h) (.inl ⟨by kernel_rfl, fun w' hS => (by have y0 := cell_of hS z00; have y1 := cell_of hS z01; have y2 := cell_of hS zp0; have y3 := cell_of hS zp1; have y4 := cell_of hS zp2; go_simp; exact ⟨rfl, hS⟩)⟩) rfl (by go_simp; rfl) ?_
  refine wpAnyS_take (i := 7) rfl (by kernel_rfl) (by kernel_rfl) (by kernel_rfl) (fun _ _ _ h => h) (.inl ⟨by kernel_rfl, fun w' hS => (by have y0 := cell_of hS z00; have y1 := cell_of hS z01; have y2 := cell_of hS zp0; have y3 := cell_of hS zp1; have y4 := cell_of hS zp2; go_simp; exact ⟨rfl, hS⟩)⟩) rfl (by go_simp; rfl) ?_
  refine wpAnyS_take (i := 8) rfl (by kernel_rfl) (by kernel_rfl) (by kernel_rfl) (fun _ _ _ h => h) (.inl ⟨by kernel_rfl, fun w' hS => (by have y0 := cell_of hS z00; have y1 := cell_of hS z01; have y2 := cell_of hS zp0; have y3 := cell_of hS zp1; have y4 := cell_of hS zp2; go_simp; exact ⟨rfl, hS⟩)⟩) rfl (by go_simp; rfl) ?_
  refine wpAnyS_take (i := 9) rfl (by kernel_rfl) (by kernel_rfl) (by kernel_rfl) (fun _ _ _ h => h) (.inl ⟨by kernel_rfl, fun w' hS => (by have y0 := cell_of hS z00; have y1 := cell_of hS z01; have y2 := cell_of hS zp0; have y3 := cell_of hS zp1; have y4 := cell_of hS zp2; go_simp; exact ⟨rfl, hS⟩)⟩) rfl (by go_simp; rfl) ?_
  refine wpAnyS_take (i := 10) rfl (by kernel_rfl) (by kernel_rfl) (by kernel_rfl) (fun _ _ _ h => h) (.inl ⟨by kernel_rfl, fun w' hS => (by have y0 := cell_of hS z00; have y1 := cell_of hS z01; have y2 := cell_of hS zp0; have y3 := cell_of hS zp1; have y4 := cell_of hS zp2; go_simp; exact ⟨rfl, hS⟩)⟩) rfl (by go_simp; rfl) ?_
  refine wpAnyS_take (i := 11) rfl (by kernel_rfl) (by kernel_rfl) (by kernel_rfl) (fun _ _ _ h => h) (.inl ⟨by kernel_rfl, fun w' hS => (by have y0 := cell_of hS z00; have y1 := cell_of hS z01; have y2 := cell_of hS zp0; have y3 := cell_of hS zp1; have y4 := cell_of hS zp2; go_simp; exact ⟨rfl, hS⟩)⟩) rfl (by go_simp; rfl) ?_
  refine wpAnyS_take (i := 12) rfl (by kernel_rfl) (by kernel_rfl) (by kernel_rfl) (fun _ _ _ h => h) (.inl ⟨by kernel_rfl, fun w' hS => (by have y0 := cell_of hS z00; have y1 := cell_of hS z01; have y2 := cell_of hS zp0; have y3 := cell_of hS zp1; have y4 := cell_of hS zp2; go_simp; exact ⟨rfl, hS⟩)⟩) rfl (by go_simp; rfl) ?_
  refine wpAnyS_take (i := 13) rfl (by kernel_rfl) (by kernel_rfl) (by kernel_rfl) (fun _ _ _ h => h) (.inl ⟨by kernel_rfl, fun w' hS => (by have y0 := cell_of hS z00; have y1 := cell_of hS z01; have y2 := cell_of hS zp0; have y3 := cell_of hS zp1; have y4 := cell_of hS zp2; go_simp; exact ⟨rfl, hS⟩)⟩) rfl (by go_simp; rfl) ?_
  refine wpAnyS_take (i := 14) rfl (by kernel_rfl) (by kernel_rfl) (by kernel_rfl) (fun _ _ _ h => h) (.inr ⟨by kernel_rfl, rfl⟩) rfl (by go_simp; rfl) ?_
  refine wpAnyS_take (i := 15) rfl (by kernel_rfl) (by kernel_rfl) (by kernel_rfl) (fun _ _ _ h => h) (.inr ⟨by kernel_rfl, rfl⟩) rfl (by go_simp; rfl) ?_
  refine wpAnyS_take (i := 16) rfl (by kernel_rfl) (by kernel_rfl) (by kernel_rfl) (fun _ _ _ h => h) (.inl ⟨by kernel_rfl, fun w' hS => (by have y0 := cell_of hS z00; have y1 := cell_of hS z01; have y2 := cell_of hS zp0; have y3 := cell_of hS zp1; have y4 := cell_of hS zp2; go_simp; exact ⟨rfl, hS⟩)⟩) rfl (by go_simp; rfl) ?_
  refine wpAnyS_take (i := 17) rfl (by kernel_rfl) (by kernel_rfl) (by kernel_rfl) (fun _ _ _ h => h) (.inl ⟨by kernel_rfl, fun w' hS => (by have y0 := cell_of hS z00; have y1 := cell_of hS z01; have y2 := cell_of hS zp0; have y3 := cell_of hS zp1; have y4 := cell_of hS zp2; go_simp; exact ⟨rfl, hS⟩)⟩) rfl (by go_simp; rfl) ?_
  refine wpAnyS_take (i := 18) rfl (by kernel_rfl) (by kernel_rfl) (by kernel_rfl) (fun _ _ _ h => h) (.inl ⟨by kernel_rfl, fun w' hS => (by have y0 := cell_of hS z00; have y1 := cell_of hS z01; have y2 := cell_of hS zp0; have y3 := cell_of hS zp1; have y4 := cell_of hS zp2; go_simp; exact ⟨rfl, hS⟩)⟩) rfl (by go_simp; rfl) ?_
  refine wpAnyS_take (i := 19) rfl (by kernel_rfl) (by kernel_rfl) (by kernel_rfl) (fun _ _ _ h => h) (.inl ⟨by kernel_rfl, fun w' hS => (by have y0 := cell_of hS z00; have y1 := cell_of hS z01; have y2 := cell_of hS zp0; have y3 := cell_of hS zp1; have y4 := cell_of hS zp2; go_simp; exact ⟨rfl, hS⟩)⟩) rfl (by go_simp; rfl) ?_
  refine wpAnyS_take (i := 20) rfl (by kernel_rfl) (by kernel_rfl) (by kernel_rfl) (fun _ _ _ h => h) (.inl ⟨by kernel_rfl, fun w' hS => (by have y0 := cell_of hS z00; have y1 := cell_of hS z01; have y2 := cell_of hS zp0; have y3 := cell_of hS zp1; have y4 := cell_of hS zp2; go_simp; exact ⟨rfl, hS⟩)⟩) rfl (by go_simp; rfl) ?_
  refine wpAnyS_take (i := 21) rfl (by kernel_rfl) (by kernel_rfl) (by kernel_rfl) (fun _ _ _ h => h) (.inl ⟨by kernel_rfl, fun w' hS => (by have y0 := cell_of hS z00; have y1 := cell_of hS z01; have y2 := cell_of hS zp0; have y3 := cell_of hS zp1; have y4 := cell_of hS zp2; go_simp; exact ⟨rfl, hS⟩)⟩) rfl (by go_simp; rfl) ?_
  refine wpAnyS_take (i := 22) rfl (by kernel_rfl) (by kernel_rfl) (by kernel_rfl) (fun _ _ _ h => h) (.inl ⟨by kernel_rfl, fun w' hS => (by have y0 := cell_of hS z00; have y1 := cell_of hS z01; have y2 := cell_of hS zp0; have y3 := cell_of hS zp1; have y4 := cell_of hS zp2; go_simp; exact ⟨rfl, hS⟩)⟩) rfl (by go_simp; rfl) ?_
  refine wpAnyS_take (i := 23) rfl (by kernel_rfl) (by kernel_rfl) (by kernel_rfl) (fun _ _ _ h => h) (.inl ⟨by kernel_rfl, fun w' hS => (by have y0 := cell_of hS z00; have y1 := cell_of hS z01; have y2 := cell_of hS zp0; have y3 := cell_of hS zp1; have y4 := cell_of hS zp2; go_simp; exact ⟨rfl, hS⟩)⟩) rfl (by go_simp; rfl) ?_
  refine wpAnyS_take (i := 24) rfl (by kernel_rfl) (by kernel_rfl) (by kernel_rfl) (fun _ _ _ h => h) (.inl ⟨by kernel_rfl, fun w' hS => (by have y0 := cell_of hS z00; have y1 := cell_of hS z01; have y2 := cell_of hS zp0; have y3 := cell_of hS zp1; have y4 := cell_of hS zp2; go_simp; exact ⟨rfl, hS⟩)⟩) rfl (by go_simp; rfl) ?_
  refine wpAnyS_take (i := 25) rfl (by kernel_rfl) (by kernel_rfl) (by kernel_rfl) (fun _ _ _ h => h) (.inl ⟨by kernel_rfl, fun w' hS => (by have y0 := cell_of hS z00; have y1 := cell_of hS z01; have y2 := cell_of hS zp0; have y3 := cell_of hS zp1; have y4 := cell_of hS zp2; go_simp; exact ⟨rfl, hS⟩)⟩) rfl (by go_simp; rfl) ?_
  refine wpAnyS_take (i := 26) rfl (by kernel_rfl) (by kernel_rfl) (by kernel_rfl) (fun _ _ _ h => h) (.inl ⟨by kernel_rfl, fun w' hS => (by have y0 := cell_of hS z00; have y1 := cell_of hS z01; have y2 := cell_of hS zp0; have y3 := cell_of hS zp1; have y4 := cell_of hS zp2; go_simp; exact ⟨rfl, hS⟩)⟩) rfl (by go_simp; rfl) ?_
  refine wpAnyS_take (i := 27) rfl (by kernel_rfl) (by kernel_rfl) (by kernel_rfl) (fun _ _ _ h => h) (.inl ⟨by kernel_rfl, fun w' hS => (by have y0 := cell_of hS z00; have y1 := cell_of hS z01; have y2 := cell_of hS zp0; have y3 := cell_of hS zp1; have y4 := cell_of hS zp2; go_simp; exact ⟨rfl, hS⟩)⟩) rfl (by go_simp; rfl) ?_
  refine wpAnyS_take (i := 28) rfl (by kernel_rfl) (by kernel_rfl) (by kernel_rfl) (fun _ _ _ h => h) (.inl ⟨by kernel_rfl, fun w' hS => (by have y0 := cell_of hS z00; have y1 := cell_of hS z01; have y2 := cell_of hS zp0; have y3 := cell_of hS zp1; have y4 := cell_of hS zp2; go_simp; exact ⟨rfl, hS⟩)⟩) rfl (by go_simp; rfl) ?_
  refine wpAnyS_done (by kernel_rfl) (fun w7 hS => ?_) _
  have HB7 := Lib.hid (HB6.out.trans (hS.mono HB6.out.size))
  have TW7 := Lib.hid (TW6.out.below hS)
  replace z00 := cell_of hS z00
  replace z01 := cell_of hS z01
  replace zp0 := cell_of hS zp0
  replace zp1 := cell_of hS zp1
  replace zp2 := cell_of hS zp2
  clear hS TW HB6 TW6
  go_wp2
  go_ret
  exact ⟨rfl, HB7.out⟩

set_option maxRecDepth 100000 in
set_option maxHeartbeats 8000000 in
theorem turnSplit_o2 (ak : Int) (aq : Nat) (ha40 : aq ≤ 40) (h0 : -1099511627776 ≤ ak) (h1 : ak ≤ 1099511627776) (e k q n m : Nat) (N : PartOk (val ak aq) e k q n m) (hpar : e % 2 = 1) (hk0 : k ≠ 0) (hed : m ≠ n) (w : World) (ht : Tab w) : Calls Tryd.prog 6 #[Ag ak aq] w (Says w true) := by
  have T0 := Lib.hid ht
  have HA := Lib.hid (isR_true (k := ak) (q := aq) ⟨by omega, by omega, h0, h1⟩)
  obtain ⟨f1, f2, v1⟩ := T_any' (val ak aq)
  have VA := Lib.hid v1
  have VP : Hid (PT (val ak aq) = .agg #[.int .i64 e, .int .i64 k, .int .i64 q]) := Lib.hid N.pt
  have HK : Hid (((k : Nat) : Int) = (fk (rst (val ak aq)) : Nat)) := Lib.hid N.kk
  have HQ : Hid (((q : Nat) : Int) = (fq (rst (val ak aq)) : Nat)) := Lib.hid N.qq
  have VJ := Lib.hid (N.jo.trans v1)
  have VF : Hid (T (val ((k : Nat) : Int) q) = .agg #[.int .i64 k, .int .i64 q]) := Lib.hid N.fo
  have he8 := N.e8
  have hq40 : q ≤ 40 := N.q40
  have hk40 : k < 1099511627776 := N.k40
  have HRR := Lib.hid (isR_true (k := ((k : Nat) : Int)) (q := ((q : Nat) : Int)) ⟨by omega, by omega, by omega, by omega⟩)
  have hwn := N.nn
  have hwm := N.mm
  have hmn := N.mn
  have ho1 : (e : Int).tmod 2 = 1 := by rw [Int.tmod_eq_emod_of_nonneg (by omega)]; omega
  have d7 : decide ((7 : Int) < e) = false := decide_eq_false (by omega)
  have d0 : decide ((e : Int) < 0) = false := decide_eq_false (by omega)
  have dm : decide (n < m) = false := decide_eq_false (by omega)
  have dq1 : ((m : Int) == n) = false := by apply beq_false_of_ne; omega
  have hq41 : (q : Int) ≤ 40 := by omega
  have hk1 : ((k : Int) == 0) = false := by apply beq_false_of_ne; omega
  clear ht v1 N hpar hmn hed
  go_enter Tryd.func6, Tryd.ntmps6
  go_wp2_with fail
  obtain ⟨w0, hW⟩ : ∃ w0, (w.alloc (.cells #[.int .i64 ak, .int .i64 aq] 23)) = w0 := ⟨_, rfl⟩
  have HB0 : Hid (Below w.heap.size w w0) := Lib.hid (by rw [← hW]; exact ((Below.refl w.heap.size w).alloc (by first | exact Nat.le_refl _ | (simp; done) | (simp; omega)) _))
  have TW0 := Lib.hid (T0.out.below HB0.out)
  have z00 : w0.cell? ⟨w.heap.size, 0, none⟩ = some (.int .i64 ak) := by rw [← hW]; simp [go_sem]
  have z01 : w0.cell? ⟨w.heap.size, 1, none⟩ = some (.int .i64 aq) := by rw [← hW]; simp [go_sem]
  rw [hW]
  clear hW
  refine Calls.mono (l6_head _ TW0.out) ?_
  rintro e' w1 ⟨rfl, hb⟩
  have HB1 := Lib.hid (HB0.out.trans (hb.mono HB0.out.size))
  have TW1 := Lib.hid (TW0.out.below hb)
  replace z00 := cell_of hb z00
  replace z01 := cell_of hb z01
  clear hb HB0 TW0
  go_wp2_with fail
  refine Calls.mono (right13 ak aq _) ?_
  rintro e' w2 ⟨rfl, hb⟩
  rw [HA.out]
  have HB2 := Lib.hid (HB1.out.trans (hb.mono HB1.out.size))
  have TW2 := Lib.hid (TW1.out.below hb)
  replace z00 := cell_of hb z00
  replace z01 := cell_of hb z01
  clear hb HB1 TW1
  go_wp2_with fail
  refine Calls.mono (split14i ak aq aq rfl ha40 _ VP.out _ TW2.out) ?_
  rintro e' w3 ⟨rfl, hb⟩
  have HB3 := Lib.hid (HB2.out.trans (hb.mono HB2.out.size))
  have TW3 := Lib.hid (TW2.out.below hb)
  replace z00 := cell_of hb z00
  replace z01 := cell_of hb z01
  clear hb HB2 TW2
  have hlt := cell_lt z00
  go_wp2_with fail
  obtain ⟨w4, hW⟩ : ∃ w4, w3.alloc (.cells #[.int .i64 e, .int .i64 k, .int .i64 q] 29) = w4 := ⟨_, rfl⟩
  have hb : Below w3.heap.size w3 w4 := by rw [← hW]; exact (Below.refl _ _).alloc (Nat.le_refl _) _
  have HB4 := Lib.hid (HB3.out.trans (hb.mono HB3.out.size))
  have TW4 := Lib.hid (TW3.out.below hb)
  replace z00 := cell_of hb z00
  replace z01 := cell_of hb z01
  have zp0 : w4.cell? ⟨w3.heap.size, 0, none⟩ = some (.int .i64 e) := by rw [← hW]; simp [go_sem]
  have zp1 : w4.cell? ⟨w3.heap.size, 1, none⟩ = some (.int .i64 k) := by rw [← hW]; simp [go_sem]
  have zp2 : w4.cell? ⟨w3.heap.size, 2, none⟩ = some (.int .i64 q) := by rw [← hW]; simp [go_sem]
  rw [hW]
  clear hW hb HB3 TW3
  have TW := TW4
  refine wp_region_det (S := Below w4.heap.size w4) (by kernel_rfl) (Below.refl _ w4).drew ?_
  refine wpAnyS_take (i := 0) rfl (by kernel_rfl) (by kernel_rfl) (by kernel_rfl) (fun _ _ _ h => h) (.inl ⟨by kernel_rfl, fun w' hS => (by have y0 := cell_of hS z00; have y1 := cell_of hS z01; have y2 := cell_of hS zp0; have y3 := cell_of hS zp1; have y4 := cell_of hS zp2; go_simp; exact ⟨rfl, hS⟩)⟩) rfl (by go_simp; rfl) ?_
  refine wpAnyS_take (i := 1) rfl (by kernel_rfl) (by kernel_rfl) (by kernel_rfl) (fun _ _ _ h => h) (.inl ⟨by kernel_rfl, fun w' hS => (by have y0 := cell_of hS z00; have y1 := cell_of hS z01; have y2 := cell_of hS zp0; have y3 := cell_of hS zp1; have y4 := cell_of hS zp2; go_simp; exact ⟨rfl, hS⟩)⟩) rfl (by go_simp; rfl) ?_
  refine wpAnyS_take (i := 2) rfl (by kernel_rfl) (by kernel_rfl) (by kernel_rfl) (fun _ _ _ h => h) (.inl ⟨by kernel_rfl, fun w' hS => (by have y0 := cell_of hS z00; have y1 := cell_of hS z01; have y2 := cell_of hS zp0; have y3 := cell_of hS zp1; have y4 := cell_of hS zp2; go_simp; exact ⟨rfl, hS⟩)⟩) rfl (by go_simp; rfl) ?_
  refine wpAnyS_take (i := 3) rfl (by kernel_rfl) (by kernel_rfl) (by kernel_rfl) (fun _ _ _ h => h) (.inl ⟨by kernel_rfl, fun w' hS => (by have y0 := cell_of hS z00; have y1 := cell_of hS z01; have y2 := cell_of hS zp0; have y3 := cell_of hS zp1; have y4 := cell_of hS zp2; go_simp; exact ⟨rfl, hS⟩)⟩) rfl (by go_simp; rfl) ?_
  refine wpAnyS_take (i := 4) rfl (by kernel_rfl) (by kernel_rfl) (by kernel_rfl) (fun _ _ _ h => h) (.inl ⟨by kernel_rfl, fun w' hS => (by have y0 := cell_of hS z00; have y1 := cell_of hS z01; have y2 := cell_of hS zp0; have y3 := cell_of hS zp1; have y4 := cell_of hS zp2; go_simp; exact ⟨rfl, hS⟩)⟩) rfl (by go_simp; rfl) ?_
  refine wpAnyS_take (i := 5) rfl (by kernel_rfl) (by kernel_rfl) (by kernel_rfl) (fun _ _ _ h => h) (.inl ⟨by kernel_rfl, fun w' hS => (by have y0 := cell_of hS z00; have y1 := cell_of hS z01; have y2 := cell_of hS zp0; have y3 := cell_of hS zp1; have y4 := cell_of hS zp2; go_simp; exact ⟨rfl, hS⟩)⟩) rfl (by go_simp; rfl) ?_
  refine wpAnyS_take (i := 6) rfl (by kernel_rfl) (by kernel_rfl) (by kernel_rfl) (fun _ _ _ h => h) (.inl ⟨by kernel_rfl, fun w' hS => (by have y0 := cell_of hS z00; have y1 := cell_of hS z01; have y2 := cell_of hS zp0; have y3 := cell_of hS zp1; have y4 := cell_of hS zp2; go_simp; exact ⟨rfl, hS⟩)⟩) rfl (by go_simp; rfl) ?_
  refine wpAnyS_take (i := 7) rfl (by kernel_rfl) (by kernel_rfl) (by kernel_rfl) (fun _ _ _ h => h) (.inl ⟨by kernel_rfl, fun w' hS => (by have y0 := cell_of hS z00; have y1 := cell_of hS z01; have y2 := cell_of hS zp0; have y3 := cell_of hS zp1; have y4 := cell_of hS zp2; go_simp; exact ⟨rfl, hS⟩)⟩) rfl (by go_simp; rfl) ?_
  refine wpAnyS_take (i := 8) rfl (by kernel_rfl) (by kernel_rfl) (by kernel_rfl) (fun _ _ _ h => h) (.inl ⟨by kernel_rfl, fun w' hS => (by have y0 := cell_of hS z00; have y1 := cell_of hS z01; have y2 := cell_of hS zp0; have y3 := cell_of hS zp1; have y4 := cell_of hS zp2; go_simp; exact ⟨rfl, hS⟩)⟩) rfl (by go_simp; rfl) ?_
  refine wpAnyS_take (i := 9) rfl (by kernel_rfl) (by kernel_rfl) (by kernel_rfl) (fun _ _ _ h => h) (.inl ⟨by kernel_rfl, fun w' hS => (by have y0 := cell_of hS z00; have y1 := cell_of hS z01; have y2 := cell_of hS zp0; have y3 := cell_of hS zp1; have y4 := cell_of hS zp2; go_simp; exact ⟨rfl, hS⟩)⟩) rfl (by go_simp; rfl) ?_
  refine wpAnyS_take (i := 10) rfl (by kernel_rfl) (by kernel_rfl) (by kernel_rfl) (fun _ _ _ h => h) (.inl ⟨by kernel_rfl, fun w' hS => (by have y0 := cell_of hS z00; have y1 := cell_of hS z01; have y2 := cell_of hS zp0; have y3 := cell_of hS zp1; have y4 := cell_of hS zp2; go_simp; exact ⟨rfl, hS⟩)⟩) rfl (by go_simp; rfl) ?_
  refine wpAnyS_take (i := 11) rfl (by kernel_rfl) (by kernel_rfl) (by kernel_rfl) (fun _ _ _ h => h) (.inl ⟨by kernel_rfl, fun w' hS => (by go_simp; refine Calls.mono (rightT k q _ HRR.out) ?_; intro e w'' hE; obtain ⟨he, hb⟩ := hE; exact ⟨he, hS.trans (hb.mono hS.size)⟩)⟩) rfl (by go_simp; rfl) ?_
  refine wpAnyS_take (i := 12) rfl (by kernel_rfl) (by kernel_rfl) (by kernel_rfl) (fun _ _ _ h => h) (.inl ⟨by kernel_rfl, fun w' hS => (by have y0 := cell_of hS z00; have y1 := cell_of hS z01; have y2 := cell_of hS zp0; have y3 := cell_of hS zp1; have y4 := cell_of hS zp2; go_simp; exact ⟨rfl, hS⟩)⟩) rfl (by go_simp; rfl) ?_
  refine wpAnyS_take (i := 13) rfl (by kernel_rfl) (by kernel_rfl) (by kernel_rfl) (fun _ _ _ h => h) (.inl ⟨by kernel_rfl, fun w' hS => (by have y0 := cell_of hS z00; have y1 := cell_of hS z01; have y2 := cell_of hS zp0; have y3 := cell_of hS zp1; have y4 := cell_of hS zp2; go_simp; exact ⟨rfl, hS⟩)⟩) rfl (by go_simp; rfl) ?_
  refine wpAnyS_take (i := 14) rfl (by kernel_rfl) (by kernel_rfl) (by kernel_rfl) (fun _ _ _ h => h) (.inl ⟨by kernel_rfl, fun w' hS => (by have y0 := cell_of hS z00; have y1 := cell_of hS z01; have y2 := cell_of hS zp0; have y3 := cell_of hS zp1; have y4 := cell_of hS zp2; go_simp; exact ⟨rfl, hS⟩)⟩) rfl (by go_simp; rfl) ?_
  refine wpAnyS_take (i := 15) rfl (by kernel_rfl) (by kernel_rfl) (by kernel_rfl) (fun _ _ _ h => h) (.inl ⟨by kernel_rfl, fun w' hS => (by have y0 := cell_of hS z00; have y1 := cell_of hS z01; have y2 := cell_of hS zp0; have y3 := cell_of hS zp1; have y4 := cell_of hS zp2; go_simp; exact ⟨rfl, hS⟩)⟩) rfl (by go_simp; rfl) ?_
  refine wpAnyS_take (i := 16) rfl (by kernel_rfl) (by kernel_rfl) (by kernel_rfl) (fun _ _ _ h => h) (.inl ⟨by kernel_rfl, fun w' hS => (by have y0 := cell_of hS z00; have y1 := cell_of hS z01; have y2 := cell_of hS zp0; have y3 := cell_of hS zp1; have y4 := cell_of hS zp2; go_simp; exact ⟨rfl, hS⟩)⟩) rfl (by go_simp; rfl) ?_
  refine wpAnyS_take (i := 17) rfl (by kernel_rfl) (by kernel_rfl) (by kernel_rfl) (fun _ _ _ h => h) (.inl ⟨by kernel_rfl, fun w' hS => (by have y0 := cell_of hS z00; have y1 := cell_of hS z01; have y2 := cell_of hS zp0; have y3 := cell_of hS zp1; have y4 := cell_of hS zp2; go_simp; exact ⟨rfl, hS⟩)⟩) rfl (by go_simp; rfl) ?_
  refine wpAnyS_take (i := 18) rfl (by kernel_rfl) (by kernel_rfl) (by kernel_rfl) (fun _ _ _ h => h) (.inl ⟨by kernel_rfl, fun w' hS => (by have y0 := cell_of hS z00; have y1 := cell_of hS z01; have y2 := cell_of hS zp0; have y3 := cell_of hS zp1; have y4 := cell_of hS zp2; go_simp; exact ⟨rfl, hS⟩)⟩) rfl (by go_simp; rfl) ?_
  refine wpAnyS_take (i := 19) rfl (by kernel_rfl) (by kernel_rfl) (by kernel_rfl) (fun _ _ _ h => h) (.inl ⟨by kernel_rfl, fun w' hS => (by go_simp; refine Calls.mono (form16i k q q rfl hq40 _ VF.out _ (TW.out.below hS)) ?_; intro e w'' hE; obtain ⟨he, hb⟩ := hE; exact ⟨he, hS.trans (hb.mono hS.size)⟩)⟩) rfl (by go_simp; rfl) ?_
  refine wpAnyS_take (i := 20) rfl (by kernel_rfl) (by kernel_rfl) (by kernel_rfl) (fun _ _ _ h => h) (.inl ⟨by kernel_rfl, fun w' hS => (by have y0 := cell_of hS z00; have y1 := cell_of hS z01; have y2 := cell_of hS zp0; have y3 := cell_of hS zp1; have y4 := cell_of hS zp2; go_simp; exact ⟨rfl, hS⟩)⟩) rfl (by go_simp; rfl) ?_
  refine wpAnyS_take (i := 21) rfl (by kernel_rfl) (by kernel_rfl) (by kernel_rfl) (fun _ _ _ h => h) (.inl ⟨by kernel_rfl, fun w' hS => (by have y0 := cell_of hS z00; have y1 := cell_of hS z01; have y2 := cell_of hS zp0; have y3 := cell_of hS zp1; have y4 := cell_of hS zp2; go_simp; exact ⟨rfl, hS⟩)⟩) rfl (by go_simp; rfl) ?_
  refine wpAnyS_take (i := 22) rfl (by kernel_rfl) (by kernel_rfl) (by kernel_rfl) (fun _ _ _ h => h) (.inl ⟨by kernel_rfl, fun w' hS => (by have y0 := cell_of hS z00; have y1 := cell_of hS z01; have y2 := cell_of hS zp0; have y3 := cell_of hS zp1; have y4 := cell_of hS zp2; go_simp; exact ⟨rfl, hS⟩)⟩) rfl (by go_simp; rfl) ?_
  refine wpAnyS_take (i := 23) rfl (by kernel_rfl) (by kernel_rfl) (by kernel_rfl) (fun _ _ _ h => h) (.inl ⟨by kernel_rfl, fun w' hS => (by have y0 := cell_of hS z00; have y1 := cell_of hS z01; have y2 := cell_of hS zp0; have y3 := cell_of hS zp1; have y4 := cell_of hS zp2; go_simp; exact ⟨rfl, hS⟩)⟩) rfl (by go_simp; rfl) ?_
  refine wpAnyS_take (i := 24) rfl (by kernel_rfl) (by kernel_rfl) (by kernel_rfl) (fun _ _ _ h => h) (.inl ⟨by kernel_rfl, fun w' hS => (by have y0 := cell_of hS z00; have y1 := cell_of hS z01; have y2 := cell_of hS zp0; have y3 := cell_of hS zp1; have y4 := cell_of hS zp2; go_simp; exact ⟨rfl, hS⟩)⟩) rfl (by go_simp; rfl) ?_
  refine wpAnyS_take (i := 25) rfl (by kernel_rfl) (by kernel_rfl) (by kernel_rfl) (fun _ _ _ h => h) (.inl ⟨by kernel_rfl, fun w' hS => (by have y0 := cell_of hS z00; have y1 := cell_of hS z01; have y2 := cell_of hS zp0; have y3 := cell_of hS zp1; have y4 := cell_of hS zp2; go_simp; exact ⟨rfl, hS⟩)⟩) rfl (by go_simp; rfl) ?_
  refine wpAnyS_take (i := 26) rfl (by kernel_rfl) (by kernel_rfl) (by kernel_rfl) (fun _ _ _ h => h) (.inl ⟨by kernel_rfl, fun w' hS => (by have y0 := cell_of hS z00; have y1 := cell_of hS z01; have y2 := cell_of hS zp0; have y3 := cell_of hS zp1; have y4 := cell_of hS zp2; go_simp; exact ⟨rfl, hS⟩)⟩) rfl (by go_simp; rfl) ?_
  refine wpAnyS_take (i := 27) rfl (by kernel_rfl) (by kernel_rfl) (by kernel_rfl) (fun _ _ _ h => h) (.inl ⟨by kernel_rfl, fun w' hS => (by have y0 := cell_of hS z00; have y1 := cell_of hS z01; have y2 := cell_of hS zp0; have y3 := cell_of hS zp1; have y4 := cell_of hS zp2; go_simp; exact ⟨rfl, hS⟩)⟩) rfl (by go_simp; rfl) ?_
  refine wpAnyS_take (i := 28) rfl (by kernel_rfl) (by kernel_rfl) (by kernel_rfl) (fun _ _ _ h => h) (.inl ⟨by kernel_rfl, fun w' hS => (by have y0 := cell_of hS z00; have y1 := cell_of hS z01; have y2 := cell_of hS zp0; have y3 := cell_of hS zp1; have y4 := cell_of hS zp2; go_simp; exact ⟨rfl, hS⟩)⟩) rfl (by go_simp; rfl) ?_
  refine wpAnyS_take (i := 29) rfl (by kernel_rfl) (by kernel_rfl) (by kernel_rfl) (fun _ _ _ h => h) (.inl ⟨by kernel_rfl, fun w' hS => (by have y0 := cell_of hS z00; have y1 := cell_of hS z01; have y2 := cell_of hS zp0; have y3 := cell_of hS zp1; have y4 := cell_of hS zp2; go_simp; exact ⟨rfl, hS⟩)⟩) rfl (by go_simp; rfl) ?_
  refine wpAnyS_take (i := 30) rfl (by kernel_rfl) (by kernel_rfl) (by kernel_rfl) (fun _ _ _ h => h) (.inl ⟨by kernel_rfl, fun w' hS => (by have y0 := cell_of hS z00; have y1 := cell_of hS z01; have y2 := cell_of hS zp0; have y3 := cell_of hS zp1; have y4 := cell_of hS zp2; go_simp; exact ⟨rfl, hS⟩)⟩) rfl (by go_simp; rfl) ?_
  refine wpAnyS_take (i := 31) rfl (by kernel_rfl) (by kernel_rfl) (by kernel_rfl) (fun _ _ _ h => h) (.inl ⟨by kernel_rfl, fun w' hS => (by have y0 := cell_of hS z00; have y1 := cell_of hS z01; have y2 := cell_of hS zp0; have y3 := cell_of hS zp1; have y4 := cell_of hS zp2; go_simp; exact ⟨rfl, hS⟩)⟩) rfl (by go_simp; rfl) ?_
  refine wpAnyS_take (i := 32) rfl (by kernel_rfl) (by kernel_rfl) (by kernel_rfl) (fun _ _ _ h => h) (.inl ⟨by kernel_rfl, fun w' hS => (by have y0 := cell_of hS z00; have y1 := cell_of hS z01; have y2 := cell_of hS zp0; have y3 := cell_of hS zp1; have y4 := cell_of hS zp2; go_simp; exact ⟨rfl, hS⟩)⟩) rfl (by go_simp; rfl) ?_
  refine wpAnyS_done (by kernel_rfl) (fun w5 hS => ?_) _
  have HB5 := Lib.hid (HB4.out.trans (hS.mono HB4.out.size))
  have TW5 := Lib.hid (TW4.out.below hS)
  replace z00 := cell_of hS z00
  replace z01 := cell_of hS z01
  replace zp0 := cell_of hS zp0
  replace zp1 := cell_of hS zp1
  replace zp2 := cell_of hS zp2
  clear hS TW HB4 TW4
  go_wp2_with fail
  have TW := TW5
  refine wp_region_det (S := Below w5.heap.size w5) (by kernel_rfl) (Below.refl _ w5).drew ?_
  refine wpAnyS_take (i := 0) rfl (by kernel_rfl) (by kernel_rfl) (by kernel_rfl) (fun _ _ _ h => h) (.inl ⟨by kernel_rfl, fun w' hS => (by have y0 := cell_of hS z00; have y1 := cell_of hS z01; have y2 := cell_of hS zp0; have y3 := cell_of hS zp1; have y4 := cell_of hS zp2; go_simp; exact ⟨rfl, hS⟩)⟩) rfl (by go_simp; rfl) ?_
  refine wpAnyS_take (i := 1) rfl (by kernel_rfl) (by kernel_rfl) (by kernel_rfl) (fun _ _ _ h => h) (.inl ⟨by kernel_rfl, fun w' hS => (by have y0 := cell_of hS z00; have y1 := cell_of hS z01; have y2 := cell_of hS zp0; have y3 := cell_of hS zp1; have y4 := cell_of hS zp2; go_simp; exact ⟨rfl, hS⟩)⟩) rfl (by go_simp; rfl) ?_
  refine wpAnyS_take (i := 2) rfl (by kernel_rfl) (by kernel_rfl) (by kernel_rfl) (fun _ _ _ h => h) (.inl ⟨by kernel_rfl, fun w' hS => (by have y0 := cell_of hS z00; have y1 := cell_of hS z01; have y2 := cell_of hS zp0; have y3 := cell_of hS zp1; have y4 := cell_of hS zp2; go_simp; exact ⟨rfl, hS⟩)⟩) rfl (by go_simp; rfl) ?_
  refine wpAnyS_take (i := 3) rfl (by kernel_rfl) (by kernel_rfl) (by kernel_rfl) (fun _ _ _ h => h) (.inl ⟨by kernel_rfl, fun w' hS => (by have y0 := cell_of hS z00; have y1 := cell_of hS z01; have y2 := cell_of hS zp0; have y3 := cell_of hS zp1; have y4 := cell_of hS zp2; go_simp; exact ⟨rfl, hS⟩)⟩) rfl (by go_simp; rfl) ?_
  refine wpAnyS_take (i := 4) rfl (by kernel_rfl) (by kernel_rfl) (by kernel_rfl) (fun _ _ _ h => h) (.inl ⟨by kernel_rfl, fun w' hS => (by have y0 := cell_of hS z00; have y1 := cell_of hS z01; have y2 := cell_of hS zp0; have y3 := cell_of hS zp1; have y4 := cell_of hS zp2; go_simp; exact ⟨rfl, hS⟩)⟩) rfl (by go_simp; rfl) ?_
  refine wpAnyS_take (i := 5) rfl (by kernel_rfl) (by kernel_rfl) (by kernel_rfl) (fun _ _ _ h => h) (.inl ⟨by kernel_rfl, fun w' hS => (by have y0 := cell_of hS z00; have y1 := cell_of hS z01; have y2 := cell_of hS zp0; have y3 := cell_of hS zp1; have y4 := cell_of hS zp2; go_simp; exact ⟨rfl, hS⟩)⟩) rfl (by go_simp; rfl) ?_
  refine wpAnyS_take (i := 6) rfl (by kernel_rfl) (by kernel_rfl) (by kernel_rfl) (fun _ _ _ h => h) (.inl ⟨by kernel_rfl, fun w' hS => (by have y0 := cell_of hS z00; have y1 := cell_of hS z01; have y2 := cell_of hS zp0; have y3 := cell_of hS zp1; have y4 := cell_of hS zp2; go_simp; exact ⟨rfl, hS⟩)⟩) rfl (by go_simp; rfl) ?_
  refine wpAnyS_take (i := 7) rfl (by kernel_rfl) (by kernel_rfl) (by kernel_rfl) (fun _ _ _ h => h) (.inl ⟨by kernel_rfl, fun w' hS => (by have y0 := cell_of hS z00; have y1 := cell_of hS z01; have y2 := cell_of hS zp0; have y3 := cell_of hS zp1; have y4 := cell_of hS zp2; go_simp; exact ⟨rfl, hS⟩)⟩) rfl (by go_simp; rfl) ?_
  refine wpAnyS_take (i := 8) rfl (by kernel_rfl) (by kernel_rfl) (by kernel_rfl) (fun _ _ _ h => h) (.inl ⟨by kernel_rfl, fun w' hS => (by have y0 := cell_of hS z00; have y1 := cell_of hS z01; have y2 := cell_of hS zp0; have y3 := cell_of hS zp1; have y4 := cell_of hS zp2; go_simp; exact ⟨rfl, hS⟩)⟩) rfl (by go_simp; rfl) ?_
  refine wpAnyS_take (i := 9) rfl (by kernel_rfl) (by kernel_rfl) (by kernel_rfl) (fun _ _ _ h => h) (.inl ⟨by kernel_rfl, fun w' hS => (by have y0 := cell_of hS z00; have y1 := cell_of hS z01; have y2 := cell_of hS zp0; have y3 := cell_of hS zp1; have y4 := cell_of hS zp2; go_simp; exact ⟨rfl, hS⟩)⟩) rfl (by go_simp; rfl) ?_
  refine wpAnyS_done (by kernel_rfl) (fun w6 hS => ?_) _
  have HB6 := Lib.hid (HB5.out.trans (hS.mono HB5.out.size))
  have TW6 := Lib.hid (TW5.out.below hS)
  replace z00 := cell_of hS z00
  replace z01 := cell_of hS z01
  replace zp0 := cell_of hS zp0
  replace zp1 := cell_of hS zp1
  replace zp2 := cell_of hS zp2
  clear hS TW HB5 TW5
  go_wp2_with fail
  have TW := TW6
  refine wp_region_det (S := Below w6.heap.size w6) (by kernel_rfl) (Below.refl _ w6).drew ?_
  refine wpAnyS_take (i := 0) rfl (by kernel_rfl) (by kernel_rfl) (by kernel_rfl) (fun _ _ _ h => h) (.inl ⟨by kernel_rfl, fun w' hS => (by have y0 := cell_of hS z00; have y1 := cell_of hS z01; have y2 := cell_of hS zp0; have y3 := cell_of hS zp1; have y4 := cell_of hS zp2; go_simp; exact ⟨rfl, hS⟩)⟩) rfl (by go_simp; rfl) ?_
  refine wpAnyS_take (i := 1) rfl (by kernel_rfl) (by kernel_rfl) (by kernel_rfl) (fun _ _ _ h => h) (.inl ⟨by kernel_rfl, fun w' hS => (by have y0 := cell_of hS z00; have y1 := cell_of hS z01; have y2 := cell_of hS zp0; have y3 := cell_of hS zp1; have y4 := cell_of hS zp2; go_simp; exact ⟨rfl, hS⟩)⟩) rfl (by go_simp; rfl) ?_
  refine wpAnyS_take (i := 2) rfl (by kernel_rfl) (by kernel_rfl) (by kernel_rfl) (fun _ _ _ h => h) (.inl ⟨by kernel_rfl, fun w' hS => (by have y0 := cell_of hS z00; have y1 := cell_of hS z01; have y2 := cell_of hS zp0; have y3 := cell_of hS zp1; have y4 := cell_of hS zp2; go_simp; exact ⟨rfl, hS⟩)⟩) rfl (by go_simp; rfl) ?_
  refine wpAnyS_take (i := 3) rfl (by kernel_rfl) (by kernel_rfl) (by kernel_rfl) (fun _ _ _ h => h) (.inl ⟨by kernel_rfl, fun w' hS => (by go_simp; refine Calls.mono (join24i e k q e (rst (val ak aq)) rfl HK.out HQ.out he8 _ VJ.out _ (TW.out.below hS)) ?_; intro e w'' hE; obtain ⟨he, hb⟩ := hE; exact ⟨he, hS.trans (hb.mono hS.size)⟩)⟩) rfl (by go_simp; rfl) ?_
  refine wpAnyS_take (i := 4) rfl (by kernel_rfl) (by kernel_rfl) (by kernel_rfl) (fun _ _ _ h => h) (.inl ⟨by kernel_rfl, fun w' hS => (by have y0 := cell_of hS z00; have y1 := cell_of hS z01; have y2 := cell_of hS zp0; have y3 := cell_of hS zp1; have y4 := cell_of hS zp2; go_simp; exact ⟨rfl, hS⟩)⟩) rfl (by go_simp; rfl) ?_
  refine wpAnyS_take (i := 5) rfl (by kernel_rfl) (by kernel_rfl) (by kernel_rfl) (fun _ _ _ h => h) (.inl ⟨by kernel_rfl, fun w' hS => (by go_simp; refine Calls.mono (form16i ak aq aq rfl ha40 _ VA.out _ (TW.out.below hS)) ?_; intro e w'' hE; obtain ⟨he, hb⟩ := hE; exact ⟨he, hS.trans (hb.mono hS.size)⟩)⟩) rfl (by go_simp; rfl) ?_
  refine wpAnyS_take (i := 6) rfl (by kernel_rfl) (by kernel_rfl) (by kernel_rfl) (fun _ _ _ h => h) (.inl ⟨by kernel_rfl, fun w' hS => (by have y0 := cell_of hS z00; have y1 := cell_of hS z01; have y2 := cell_of hS zp0; have y3 := cell_of hS zp1; have y4 := cell_of hS zp2; go_simp; exact ⟨rfl, hS⟩)⟩) rfl (by go_simp; rfl) ?_
  refine wpAnyS_take (i := 7) rfl (by kernel_rfl) (by kernel_rfl) (by kernel_rfl) (fun _ _ _ h => h) (.inl ⟨by kernel_rfl, fun w' hS => (by have y0 := cell_of hS z00; have y1 := cell_of hS z01; have y2 := cell_of hS zp0; have y3 := cell_of hS zp1; have y4 := cell_of hS zp2; go_simp; exact ⟨rfl, hS⟩)⟩) rfl (by go_simp; rfl) ?_
  refine wpAnyS_take (i := 8) rfl (by kernel_rfl) (by kernel_rfl) (by kernel_rfl) (fun _ _ _ h => h) (.inl ⟨by kernel_rfl, fun w' hS => (by have y0 := cell_of hS z00; have y1 := cell_of hS z01; have y2 := cell_of hS zp0; have y3 := cell_of hS zp1; have y4 := cell_of hS zp2; go_simp; exact ⟨rfl, hS⟩)⟩) rfl (by go_simp; rfl) ?_
  refine wpAnyS_take (i := 9) rfl (by kernel_rfl) (by kernel_rfl) (by kernel_rfl) (fun _ _ _ h => h) (.inl ⟨by kernel_rfl, fun w' hS => (by have y0 := cell_of hS z00; have y1 := cell_of hS z01; have y2 := cell_of hS zp0; have y3 := cell_of hS zp1; have y4 := cell_of hS zp2; go_simp; exact ⟨rfl, hS⟩)⟩) rfl (by go_simp; rfl) ?_
  refine wpAnyS_take (i := 10) rfl (by kernel_rfl) (by kernel_rfl) (by kernel_rfl) (fun _ _ _ h => h) (.inl ⟨by kernel_rfl, fun w' hS => (by have y0 := cell_of hS z00; have y1 := cell_of hS z01; have y2 := cell_of hS zp0; have y3 := cell_of hS zp1; have y4 := cell_of hS zp2; go_simp; exact ⟨rfl, hS⟩)⟩) rfl (by go_simp; rfl) ?_
  refine wpAnyS_take (i := 11) rfl (by kernel_rfl) (by kernel_rfl) (by kernel_rfl) (fun _ _ _ h => h) (.inl ⟨by kernel_rfl, fun w' hS => (by have y0 := cell_of hS z00; have y1 := cell_of hS z01; have y2 := cell_of hS zp0; have y3 := cell_of hS zp1; have y4 := cell_of hS zp2; go_simp; exact ⟨rfl, hS⟩)⟩) rfl (by go_simp; rfl) ?_
  refine wpAnyS_take (i := 12) rfl (by kernel_rfl) (by kernel_rfl) (by kernel_rfl) (fun _ _ _ h => h) (.inl ⟨by kernel_rfl, fun w' hS => (by have y0 := cell_of hS z00; have y1 := cell_of hS z01; have y2 := cell_of hS zp0; have y3 := cell_of hS zp1; have y4 := cell_of hS zp2; go_simp; exact ⟨rfl, hS⟩)⟩) rfl (by go_simp; rfl) ?_
  refine wpAnyS_take (i := 13) rfl (by kernel_rfl) (by kernel_rfl) (by kernel_rfl) (fun _ _ _ h => h) (.inl ⟨by kernel_rfl, fun w' hS => (by have y0 := cell_of hS z00; have y1 := cell_of hS z01; have y2 := cell_of hS zp0; have y3 := cell_of hS zp1; have y4 := cell_of hS zp2; go_simp; exact ⟨rfl, hS⟩)⟩) rfl (by go_simp; rfl) ?_
  refine wpAnyS_take (i := 14) rfl (by kernel_rfl) (by kernel_rfl) (by kernel_rfl) (fun _ _ _ h => h) (.inr ⟨by kernel_rfl, rfl⟩) rfl (by go_simp; rfl) ?_
  refine wpAnyS_take (i := 15) rfl (by kernel_rfl) (by kernel_rfl) (by kernel_rfl) (fun _ _ _ h => h) (.inr ⟨by kernel_rfl, rfl⟩) rfl (by go_simp; rfl) ?_
  refine wpAnyS_take (i := 16) rfl (by kernel_rfl) (by kernel_rfl) (by kernel_rfl) (fun _ _ _ h => h) (.inl ⟨by kernel_rfl, fun w' hS => (by have y0 := cell_of hS z00; have y1 := cell_of hS z01; have y2 := cell_of hS zp0; have y3 := cell_of hS zp1; have y4 := cell_of hS zp2; go_simp; exact ⟨rfl, hS⟩)⟩) rfl (by go_simp; rfl) ?_
  refine wpAnyS_take (i := 17) rfl (by kernel_rfl) (by kernel_rfl) (by kernel_rfl) (fun _ _ _ h => h) (.inl ⟨by kernel_rfl, fun w' hS => (by have y0 := cell_of hS z00; have y1 := cell_of hS z01; have y2 := cell_of hS zp0; have y3 := cell_of hS zp1; have y4 := cell_of hS zp2; go_simp; exact ⟨rfl, hS⟩)⟩) rfl (by go_simp; rfl) ?_
  refine wpAnyS_take (i := 18) rfl (by kernel_rfl) (by kernel_rfl) (by kernel_rfl) (fun _ _ _ h => h) (.inl ⟨by kernel_rfl, fun w' hS => (by have y0 := cell_of hS z00; have y1 := cell_of hS z01; have y2 := cell_of hS zp0; have y3 := cell_of hS zp1; have y4 := cell_of hS zp2; go_simp; exact ⟨rfl, hS⟩)⟩) rfl (by go_simp; rfl) ?_
  refine wpAnyS_take (i := 19) rfl (by kernel_rfl) (by kernel_rfl) (by kernel_rfl) (fun _ _ _ h => h) (.inl ⟨by kernel_rfl, fun w' hS => (by have y0 := cell_of hS z00; have y1 := cell_of hS z01; have y2 := cell_of hS zp0; have y3 := cell_of hS zp1; have y4 := cell_of hS zp2; go_simp; exact ⟨rfl, hS⟩)⟩) rfl (by go_simp; rfl) ?_
  refine wpAnyS_take (i := 20) rfl (by kernel_rfl) (by kernel_rfl) (by kernel_rfl) (fun _ _ _ h => h) (.inl ⟨by kernel_rfl, fun w' hS => (by have y0 := cell_of hS z00; have y1 := cell_of hS z01; have y2 := cell_of hS zp0; have y3 := cell_of hS zp1; have y4 := cell_of hS zp2; go_simp; exact ⟨rfl, hS⟩)⟩) rfl (by go_simp; rfl) ?_
  refine wpAnyS_take (i := 21) rfl (by kernel_rfl) (by kernel_rfl) (by kernel_rfl) (fun _ _ _ h => h) (.inl ⟨by kernel_rfl, fun w' hS => (by have y0 := cell_of hS z00; have y1 := cell_of hS z01; have y2 := cell_of hS zp0; have y3 := cell_of hS zp1; have y4 := cell_of hS zp2; go_simp; exact ⟨rfl, hS⟩)⟩) rfl (by go_simp; rfl) ?_
  refine wpAnyS_take (i := 22) rfl (by kernel_rfl) (by kernel_rfl) (by kernel_rfl) (fun _ _ _ h => h) (.inl ⟨by kernel_rfl, fun w' hS => (by have y0 := cell_of hS z00; have y1 := cell_of hS z01; have y2 := cell_of hS zp0; have y3 := cell_of hS zp1; have y4 := cell_of hS zp2; go_simp; exact ⟨rfl, hS⟩)⟩) rfl (by go_simp; rfl) ?_
  refine wpAnyS_take (i := 23) rfl (by kernel_rfl) (by kernel_rfl) (by kernel_rfl) (fun _ _ _ h => h) (.inl ⟨by kernel_rfl, fun w' hS => (by have y0 := cell_of hS z00; have y1 := cell_of hS z01; have y2 := cell_of hS zp0; have y3 := cell_of hS zp1; have y4 := cell_of hS zp2; go_simp; exact ⟨rfl, hS⟩)⟩) rfl (by go_simp; rfl) ?_
  refine wpAnyS_take (i := 24) rfl (by kernel_rfl) (by kernel_rfl) (by kernel_rfl) (fun _ _ _ h => h) (.inl ⟨by kernel_rfl, fun w' hS => (by have y0 := cell_of hS z00; have y1 := cell_of hS z01; have y2 := cell_of hS zp0; have y3 := cell_of hS zp1; have y4 := cell_of hS zp2; go_simp; exact ⟨rfl, hS⟩)⟩) rfl (by go_simp; rfl) ?_
  refine wpAnyS_take (i := 25) rfl (by kernel_rfl) (by kernel_rfl) (by kernel_rfl) (fun _ _ _ h => h) (.inl ⟨by kernel_rfl, fun w' hS => (by have y0 := cell_of hS z00; have y1 := cell_of hS z01; have y2 := cell_of hS zp0; have y3 := cell_of hS zp1; have y4 := cell_of hS zp2; go_simp; exact ⟨rfl, hS⟩)⟩) rfl (by go_simp; rfl) ?_
  refine wpAnyS_take (i := 26) rfl (by kernel_rfl) (by kernel_rfl) (by kernel_rfl) (fun _ _ _ h => h) (.inl ⟨by kernel_rfl, fun w' hS => (by have y0 := cell_of hS z00; have y1 := cell_of hS z01; have y2 := cell_of hS zp0; have y3 := cell_of hS zp1; have y4 := cell_of hS zp2; go_simp; exact ⟨rfl, hS⟩)⟩) rfl (by go_simp; rfl) ?_
  refine wpAnyS_take (i := 27) rfl (by kernel_rfl) (by kernel_rfl) (by kernel_rfl) (fun _ _ _ h => h) (.inl ⟨by kernel_rfl, fun w' hS => (by have y0 := cell_of hS z00; have y1 := cell_of hS z01; have y2 := cell_of hS zp0; have y3 := cell_of hS zp1; have y4 := cell_of hS zp2; go_simp; exact ⟨rfl, hS⟩)⟩) rfl (by go_simp; rfl) ?_
  refine wpAnyS_take (i := 28) rfl (by kernel_rfl) (by kernel_rfl) (by kernel_rfl) (fun _ _ _ h => h) (.inl ⟨by kernel_rfl, fun w' hS => (by have y0 := cell_of hS z00; have y1 := cell_of hS z01; have y2 := cell_of hS zp0; have y3 := cell_of hS zp1; have y4 := cell_of hS zp2; go_simp; exact ⟨rfl, hS⟩)⟩) rfl (by go_simp; rfl) ?_
  refine wpAnyS_done (by kernel_rfl) (fun w7 hS => ?_) _
  have HB7 := Lib.hid (HB6.out.trans (hS.mono HB6.out.size))
  have TW7 := Lib.hid (TW6.out.below hS)
  replace z00 := cell_of hS z00
  replace z01 := cell_of hS z01
  replace zp0 := cell_of hS zp0
  replace zp1 := cell_of hS zp1
  replace zp2 := cell_of hS zp2
  clear hS TW HB6 TW6
  go_wp2
  go_ret
  exact ⟨rfl, HB7.out⟩
end Go.Proofs.YtaempngakollpaaDoor
