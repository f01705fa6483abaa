/- TurnForm: the law's walk. Under: the library's table as its initialiser lays it. -/
import Derived.Test.YtaempngakollpaaDoorHd
namespace Go.Proofs.YtaempngakollpaaDoor
open Go.RowKit Go.Shelf

theorem isR_false {k q : Int} (h : ¬ (0 ≤ q ∧ q ≤ 40 ∧ -1099511627776 ≤ k ∧ k ≤ 1099511627776)) : isR k q = false := decide_eq_false h
theorem isR_true {k q : Int} (h : 0 ≤ q ∧ q ≤ 40 ∧ -1099511627776 ≤ k ∧ k ≤ 1099511627776) : isR k q = true := decide_eq_true h

theorem turnForm_no (k q : Int) (hr : isR k q = false) (w : World) (ht : Tab w) : Calls Tryd.prog 4 #[Ag k q] w (Says w true) := by
  have T0 := Lib.hid ht
  have HR := Lib.hid hr
  clear ht hr
  go_enter Tryd.func4, Tryd.ntmps4
  go_wp2_with fail
  refine (l6_head _ (T0.out.below ((Below.refl _ w).alloc (Nat.le_refl _) _))).mono ?_
  rintro e w1 ⟨rfl, hb⟩
  have z0 := cell_of hb (b := w.heap.size) (o := 0) (v := .int .i64 k) (by simp [go_sem])
  have z1 := cell_of hb (b := w.heap.size) (o := 1) (v := .int .i64 q) (by simp [go_sem])
  have HB := Lib.hid (((Below.refl _ w).alloc (Nat.le_refl _) _).trans (hb.mono (by simp)))
  clear hb
  go_wp2_with fail
  refine (right13 k q _).mono ?_
  rintro e w2 ⟨rfl, hb⟩
  rw [HR.out]
  have HB2 := Lib.hid (HB.out.trans (hb.mono HB.out.size))
  clear hb
  go_wp2
  go_ret
  exact ⟨rfl, HB2.out⟩

theorem tmod_zero_of (k : Int) (m : Nat) (h : k % m = 0) : k.tmod m = 0 := Int.tmod_eq_zero_of_dvd (Int.dvd_of_emod_eq_zero h)

set_option maxHeartbeats 2000000 in
theorem turnForm_zero (k : Int) (q : Nat) (hq : q ≤ 40) (h0 : -1099511627776 ≤ k) (h1 : k ≤ 1099511627776) (hp : par (val k q) = 0) (w : World) (ht : Tab w) : Calls Tryd.prog 4 #[Ag k q] w (Says w true) := by
  have T0 := Lib.hid ht
  have HR := Lib.hid (isR_true (k := k) (q := q) ⟨by omega, by omega, h0, h1⟩)
  have HZ : Hid (T (val k q) = .agg #[.int .i64 0, .int .i64 0]) := Lib.hid (by
    rcases form_cases (val k q) with ⟨_, a, b⟩ | ⟨a, _⟩
    · rw [T, a, b]; rfl
    · exact absurd hp a)
  have hmod : k % ((2 ^ q : Nat) : Int) = 0 := by
    have h := val_par k q hq
    rw [hp] at h
    have hpos : (0 : Int) < 2 ^ (40 - q) := Int.pow_pos (by decide)
    rcases Int.mul_eq_zero.1 h.symm with h | h
    · rw [← pow_int]; exact h
    · rw [h] at hpos; exact absurd hpos (by decide)
  have htm := tmod_zero_of k (2 ^ q) hmod
  have h2 : (2 : Nat) ^ q ≤ 1099511627776 := Nat.pow_le_pow_right (n := 2) (by decide) hq
  have hpp : 0 < (2 : Nat) ^ q := Nat.pow_pos (by decide)
  have hw : IntKind.i64.wrap ((2 : Int) ^ q) = ((2 ^ q : Nat) : Int) := by
    rw [pow_int, IntKind.wrap_i64]; clear hmod htm; generalize 2 ^ q = m at h2 hpp ⊢; omega
  generalize 2 ^ q = m at htm h2 hpp hw
  have hm2 : ¬ ((m : Int) = 0) := by omega
  have hm3 : ¬ (m = 0) := by omega
  have hq1 : (q : Int) ≤ 40 := by omega
  clear ht hp hmod
  go_enter Tryd.func4, Tryd.ntmps4
  go_wp2_with fail
  refine (l6_head _ (T0.out.below ((Below.refl _ w).alloc (Nat.le_refl _) _))).mono ?_
  rintro e w1 ⟨rfl, hb⟩
  have z0 := cell_of hb (b := w.heap.size) (o := 0) (v := .int .i64 k) (by simp [go_sem])
  have z1 := cell_of hb (b := w.heap.size) (o := 1) (v := .int .i64 q) (by simp [go_sem])
  have HB := Lib.hid (((Below.refl _ w).alloc (Nat.le_refl _) _).trans (hb.mono (by simp)))
  have T1 := Lib.hid (T0.out.below (((Below.refl _ w).alloc (Nat.le_refl _) _).trans (hb.mono (by simp))))
  clear hb
  go_wp2_with fail
  refine (right13 k q _).mono ?_
  rintro e w2 ⟨rfl, hb⟩
  rw [HR.out]
  have HB2 := Lib.hid (HB.out.trans (hb.mono HB.out.size))
  have T2 := Lib.hid (T1.out.below hb)
  replace z0 := cell_of hb z0
  replace z1 := cell_of hb z1
  clear hb
  go_wp2_with fail
  refine (form16 k q hq _ T2.out).mono ?_
  rintro e w3 ⟨rfl, hb⟩
  rw [HZ.out]
  have HB3 := Lib.hid (HB2.out.trans (hb.mono HB2.out.size))
  replace z0 := cell_of hb z0
  replace z1 := cell_of hb z1
  have hz := cell_lt z0
  clear hb
  go_wp2_with fail
  go_quiet (fail)
  go_wp2
  go_ret
  exact ⟨rfl, below_drewN (HB3.out.alloc (by omega) _) _⟩

/-- what the law asks of a form that is not none -/
structure FormOk (k : Int) (q a b m n d x y : Nat) : Prop where
  ab : T (val k q) = .agg #[.int .i64 a, .int .i64 b]
  odd : a % 2 = 1
  b1 : 1 ≤ b
  b2 : b ≤ q
  n2 : IntKind.i64.wrap ((2 : Int) ^ b) = n
  an : a < n
  m2 : IntKind.i64.wrap ((2 : Int) ^ q) = m
  m0 : 0 < m
  dq : q = b + d
  ax : IntKind.i64.wrap ((a : Int) * 2 ^ d) = x
  xl : x ≤ 1099511627776
  ym : (k - x).tmod m = 0
  fo : T (val a b) = .agg #[.int .i64 a, .int .i64 b]

theorem fq_val' (k : Int) (q : Nat) (hq : q ≤ 40) : fq (val k q) ≤ q := by
  obtain ⟨x, hx⟩ : ∃ x : Nat, k % 2 ^ q = x := ⟨(k % 2 ^ q).toNat, (Int.toNat_of_nonneg (Int.emod_nonneg _ (Int.ne_of_gt (Int.pow_pos (by decide))))).symm⟩
  obtain ⟨f0, f1⟩ := form_of k q x hq hx
  by_cases h : x = 0
  · rw [(f0 h).2]; omega
  · rw [(f1 h).2.1]; omega

theorem formOk (k : Int) (q : Nat) (hq : q ≤ 40) (hp : par (val k q) ≠ 0) : ∃ a b m n d x y, FormOk k q a b m n d x y := by
  have hv := val_form (val k q)
  have hvm := val_form_mod (val k q)
  have hfl := fq_val' k q hq
  have hkm := val_par k q hq
  rcases form_cases (val k q) with ⟨h, _⟩ | ⟨_, ho, hb1, hb40, hlt, hpar⟩
  · exact absurd h hp
  obtain ⟨a, ha⟩ : ∃ a, fk (val k q) = a := ⟨_, rfl⟩
  obtain ⟨b, hb⟩ : ∃ b, fq (val k q) = b := ⟨_, rfl⟩
  rw [ha, hb] at hv hvm hpar hlt
  rw [ha] at ho
  rw [hb] at hb1 hb40 hfl
  obtain ⟨d, hd⟩ : ∃ d, q = b + d := ⟨q - b, by omega⟩
  have e1 : (a : Int) * 2 ^ d = ((a * 2 ^ d : Nat) : Int) := by rw [Int.natCast_mul, pow_int]
  have hxl : a * 2 ^ d ≤ 1099511627776 := by
    have h1 : a * 2 ^ d ≤ a * 2 ^ (40 - b) := Nat.mul_le_mul_left _ (Nat.pow_le_pow_right (by decide) (by omega))
    have := par_lt (val k q)
    omega
  have hpow : ∀ c : Nat, c ≤ 40 → IntKind.i64.wrap ((2 : Int) ^ c) = ((2 ^ c : Nat) : Int) := fun c hc => by
    have h2 : (2 : Nat) ^ c ≤ 1099511627776 := Nat.pow_le_pow_right (n := 2) (by decide) hc
    rw [pow_int, IntKind.wrap_i64]
    generalize 2 ^ c = m at h2 ⊢
    omega
  refine ⟨a, b, 2 ^ q, 2 ^ b, d, a * 2 ^ d, 0, ?_, ho, hb1, hfl, hpow b hb40, hlt, hpow q hq, Nat.pow_pos (by decide), hd, ?_, hxl, ?_, ?_⟩
  · rw [T, ha, hb]
  · rw [e1, IntKind.wrap_i64]
    generalize a * 2 ^ d = x at hxl ⊢
    omega
  · apply tmod_zero_of
    rw [← e1, ← pow_int]
    have h5 : (k % 2 ^ q) * 2 ^ (40 - q) = ((a : Int) * 2 ^ d) * 2 ^ (40 - q) := by
      rw [← hkm, ← hv]
      unfold val
      rw [Int.mul_assoc, ← Int.pow_add, show d + (40 - q) = 40 - b by omega]
    have h6 : k % 2 ^ q = (a : Int) * 2 ^ d := Int.eq_of_mul_eq_mul_right (Int.ne_of_gt (Int.pow_pos (by decide))) h5
    rw [← h6]
    exact Int.emod_eq_zero_of_dvd (Int.dvd_self_sub_of_emod_eq rfl)
  · rw [T_congr hvm, T, ha, hb]

set_option maxHeartbeats 4000000 in
theorem turnForm_odd (k : Int) (q : Nat) (hq : q ≤ 40) (h0 : -1099511627776 ≤ k) (h1 : k ≤ 1099511627776) (hp : par (val k q) ≠ 0) (w : World) (ht : Tab w) : Calls Tryd.prog 4 #[Ag k q] w (Says w true) := by
  have T0 := Lib.hid ht
  have HR := Lib.hid (isR_true (k := k) (q := q) ⟨by omega, by omega, h0, h1⟩)
  obtain ⟨a, b, m, n, d, x, y, N⟩ := formOk k q hq hp
  have HZ := Lib.hid N.ab
  have HF := Lib.hid N.fo
  have ho : (a : Int).tmod 2 = 1 := by rw [Int.tmod_eq_emod_of_nonneg (by omega)]; have := N.odd; omega
  have hb1 : (1 : Int) ≤ b := by have := N.b1; omega
  have ha1 : (1 : Int) ≤ a := by have := N.odd; omega
  have hb2 : (b : Int) ≤ q := by have := N.b2; omega
  have hn := N.n2
  have han : (a : Int) < n := by have := N.an; omega
  have hm := N.m2
  have hm0 : (0 : Int) < m := by have := N.m0; omega
  have hm2 : ¬ ((m : Int) = 0) := by omega
  have hm3 : ¬ (m = 0) := by omega
  have hdq := N.dq
  have hwd : IntKind.i64.wrap ((q : Int) - b) = d := by rw [IntKind.wrap_i64]; omega
  have hax := N.ax
  have hxl := N.xl
  have hwk : IntKind.i64.wrap (k - x) = k - x := by rw [IntKind.wrap_i64]; omega
  have hym := N.ym
  have hb40 : b ≤ 40 := by omega
  have hq1 : (q : Int) ≤ 40 := by omega
  have hb41 : (b : Int) ≤ 40 := by omega
  have hd1 : (d : Int) ≤ 40 := by omega
  have hd0 : (0 : Int) ≤ d := by omega
  have hai : ((a : Int) == 0) = false := by apply beq_false_of_ne; omega
  clear ht hp hdq N hxl
  go_enter Tryd.func4, Tryd.ntmps4
  go_wp2_with fail
  refine (l6_head _ (T0.out.below ((Below.refl _ w).alloc (Nat.le_refl _) _))).mono ?_
  rintro e w1 ⟨rfl, hb⟩
  have z0 := cell_of hb (b := w.heap.size) (o := 0) (v := .int .i64 k) (by simp [go_sem])
  have z1 := cell_of hb (b := w.heap.size) (o := 1) (v := .int .i64 q) (by simp [go_sem])
  have HB := Lib.hid (((Below.refl _ w).alloc (Nat.le_refl _) _).trans (hb.mono (by simp)))
  have T1 := Lib.hid (T0.out.below (((Below.refl _ w).alloc (Nat.le_refl _) _).trans (hb.mono (by simp))))
  clear hb
  go_wp2_with fail
  refine (right13 k q _).mono ?_
  rintro e w2 ⟨rfl, hb⟩
  rw [HR.out]
  have HB2 := Lib.hid (HB.out.trans (hb.mono HB.out.size))
  have T2 := Lib.hid (T1.out.below hb)
  replace z0 := cell_of hb z0
  replace z1 := cell_of hb z1
  clear hb
  go_wp2_with fail
  refine (form16 k q hq _ T2.out).mono ?_
  rintro e w3 ⟨rfl, hb⟩
  rw [HZ.out]
  have HB3 := Lib.hid (HB2.out.trans (hb.mono HB2.out.size))
  have T3 := Lib.hid (T2.out.below hb)
  replace z0 := cell_of hb z0
  replace z1 := cell_of hb z1
  have hz := cell_lt z0
  clear hb
  go_wp2_with fail
  have q1 : decide ((a : Int) < 1) = false := decide_eq_false (by omega)
  have q2 : decide ((b : Int) < 1) = false := decide_eq_false (by omega)
  have q3 : decide (q < b) = false := decide_eq_false (by omega)
  have q4 : decide (n ≤ a) = false := decide_eq_false (by omega)
  go_quiet (fail)
  clear q1 q2 q3 q4
  go_wp2_with fail
  obtain ⟨W, hW⟩ : ∃ W, (w3.alloc (.cells #[.int .i64 a, .int .i64 b] 23)).drewN nq = W := ⟨_, rfl⟩
  have hBW : Below w3.heap.size w3 W := by rw [← hW]; exact below_drewN ((Below.refl _ w3).alloc (Nat.le_refl _) _) _
  have T4 := Lib.hid (T3.out.below hBW)
  have HB4 := Lib.hid (HB3.out.trans (hBW.mono HB3.out.size))
  replace z0 := cell_of hBW z0
  replace z1 := cell_of hBW z1
  have u0 : W.cell? ⟨w3.heap.size, 0, none⟩ = some (.int .i64 a) := by rw [← hW]; simp [go_sem]
  have u1 : W.cell? ⟨w3.heap.size, 1, none⟩ = some (.int .i64 b) := by rw [← hW]; simp [go_sem]
  rw [hW]
  clear hW hBW
  have TW := T4
  have TW := T4
  refine wp_region_det (S := Below W.heap.size W) (by kernel_rfl) (Below.refl _ W).drew ?_
  refine wpAnyS_take (i := 0) rfl (by kernel_rfl) (by kernel_rfl) (by kernel_rfl) (fun _ _ _ h => h) (.inl ⟨by kernel_rfl, fun w' hS => (by have y0 := cell_of hS z0; have y1 := cell_of hS z1; have y2 := cell_of hS u0; have y3 := cell_of hS u1; go_simp; exact ⟨rfl, hS⟩)⟩) rfl (by go_simp; rfl) ?_
  refine wpAnyS_take (i := 1) rfl (by kernel_rfl) (by kernel_rfl) (by kernel_rfl) (fun _ _ _ h => h) (.inl ⟨by kernel_rfl, fun w' hS => (by have y0 := cell_of hS z0; have y1 := cell_of hS z1; have y2 := cell_of hS u0; have y3 := cell_of hS u1; go_simp; exact ⟨rfl, hS⟩)⟩) rfl (by go_simp; rfl) ?_
  refine wpAnyS_take (i := 2) rfl (by kernel_rfl) (by kernel_rfl) (by kernel_rfl) (fun _ _ _ h => h) (.inl ⟨by kernel_rfl, fun w' hS => (by have y0 := cell_of hS z0; have y1 := cell_of hS z1; have y2 := cell_of hS u0; have y3 := cell_of hS u1; go_simp; exact ⟨rfl, hS⟩)⟩) rfl (by go_simp; rfl) ?_
  refine wpAnyS_take (i := 3) rfl (by kernel_rfl) (by kernel_rfl) (by kernel_rfl) (fun _ _ _ h => h) (.inl ⟨by kernel_rfl, fun w' hS => (by have y0 := cell_of hS z0; have y1 := cell_of hS z1; have y2 := cell_of hS u0; have y3 := cell_of hS u1; go_simp; exact ⟨rfl, hS⟩)⟩) rfl (by go_simp; rfl) ?_
  refine wpAnyS_take (i := 4) rfl (by kernel_rfl) (by kernel_rfl) (by kernel_rfl) (fun _ _ _ h => h) (.inl ⟨by kernel_rfl, fun w' hS => (by have y0 := cell_of hS z0; have y1 := cell_of hS z1; have y2 := cell_of hS u0; have y3 := cell_of hS u1; go_simp; exact ⟨rfl, hS⟩)⟩) rfl (by go_simp; rfl) ?_
  refine wpAnyS_take (i := 5) rfl (by kernel_rfl) (by kernel_rfl) (by kernel_rfl) (fun _ _ _ h => h) (.inl ⟨by kernel_rfl, fun w' hS => (by have y0 := cell_of hS z0; have y1 := cell_of hS z1; have y2 := cell_of hS u0; have y3 := cell_of hS u1; go_simp; exact ⟨rfl, hS⟩)⟩) rfl (by go_simp; rfl) ?_
  refine wpAnyS_take (i := 6) rfl (by kernel_rfl) (by kernel_rfl) (by kernel_rfl) (fun _ _ _ h => h) (.inl ⟨by kernel_rfl, fun w' hS => (by have y0 := cell_of hS z0; have y1 := cell_of hS z1; have y2 := cell_of hS u0; have y3 := cell_of hS u1; go_simp; exact ⟨rfl, hS⟩)⟩) rfl (by go_simp; rfl) ?_
  refine wpAnyS_take (i := 7) rfl (by kernel_rfl) (by kernel_rfl) (by kernel_rfl) (fun _ _ _ h => h) (.inl ⟨by kernel_rfl, fun w' hS => (by have y0 := cell_of hS z0; have y1 := cell_of hS z1; have y2 := cell_of hS u0; have y3 := cell_of hS u1; go_simp; exact ⟨rfl, hS⟩)⟩) rfl (by go_simp; rfl) ?_
  refine wpAnyS_take (i := 8) rfl (by kernel_rfl) (by kernel_rfl) (by kernel_rfl) (fun _ _ _ h => h) (.inl ⟨by kernel_rfl, fun w' hS => (by have y0 := cell_of hS z0; have y1 := cell_of hS z1; have y2 := cell_of hS u0; have y3 := cell_of hS u1; go_simp; exact ⟨rfl, hS⟩)⟩) rfl (by go_simp; rfl) ?_
  refine wpAnyS_take (i := 9) rfl (by kernel_rfl) (by kernel_rfl) (by kernel_rfl) (fun _ _ _ h => h) (.inl ⟨by kernel_rfl, fun w' hS => (by have y0 := cell_of hS z0; have y1 := cell_of hS z1; have y2 := cell_of hS u0; have y3 := cell_of hS u1; go_simp; exact ⟨rfl, hS⟩)⟩) rfl (by go_simp; rfl) ?_
  refine wpAnyS_take (i := 10) rfl (by kernel_rfl) (by kernel_rfl) (by kernel_rfl) (fun _ _ _ h => h) (.inl ⟨by kernel_rfl, fun w' hS => (by have y0 := cell_of hS z0; have y1 := cell_of hS z1; have y2 := cell_of hS u0; have y3 := cell_of hS u1; go_simp; exact ⟨rfl, hS⟩)⟩) rfl (by go_simp; rfl) ?_
  refine wpAnyS_take (i := 11) rfl (by kernel_rfl) (by kernel_rfl) (by kernel_rfl) (fun _ _ _ h => h) (.inl ⟨by kernel_rfl, fun w' hS => (by have y0 := cell_of hS z0; have y1 := cell_of hS z1; have y2 := cell_of hS u0; have y3 := cell_of hS u1; go_simp; exact ⟨rfl, hS⟩)⟩) rfl (by go_simp; rfl) ?_
  refine wpAnyS_take (i := 12) rfl (by kernel_rfl) (by kernel_rfl) (by kernel_rfl) (fun _ _ _ h => h) (.inl ⟨by kernel_rfl, fun w' hS => (by have y0 := cell_of hS z0; have y1 := cell_of hS z1; have y2 := cell_of hS u0; have y3 := cell_of hS u1; go_simp; exact ⟨rfl, hS⟩)⟩) rfl (by go_simp; rfl) ?_
  refine wpAnyS_take (i := 13) rfl (by kernel_rfl) (by kernel_rfl) (by kernel_rfl) (fun _ _ _ h => h) (.inl ⟨by kernel_rfl, fun w' hS => (by have y0 := cell_of hS z0; have y1 := cell_of hS z1; have y2 := cell_of hS u0; have y3 := cell_of hS u1; go_simp; exact ⟨rfl, hS⟩)⟩) rfl (by go_simp; rfl) ?_
  refine wpAnyS_take (i := 14) rfl (by kernel_rfl) (by kernel_rfl) (by kernel_rfl) (fun _ _ _ h => h) (.inl ⟨by kernel_rfl, fun w' hS => (by have y0 := cell_of hS z0; have y1 := cell_of hS z1; have y2 := cell_of hS u0; have y3 := cell_of hS u1; go_simp; exact ⟨rfl, hS⟩)⟩) rfl (by go_simp; rfl) ?_
  refine wpAnyS_take (i := 15) rfl (by kernel_rfl) (by kernel_rfl) (by kernel_rfl) (fun _ _ _ h => h) (.inl ⟨by kernel_rfl, fun w' hS => (by have y0 := cell_of hS z0; have y1 := cell_of hS z1; have y2 := cell_of hS u0; have y3 := cell_of hS u1; go_simp; exact ⟨rfl, hS⟩)⟩) rfl (by go_simp; rfl) ?_
  refine wpAnyS_take (i := 16) rfl (by kernel_rfl) (by kernel_rfl) (by kernel_rfl) (fun _ _ _ h => h) (.inl ⟨by kernel_rfl, fun w' hS => (by have y0 := cell_of hS z0; have y1 := cell_of hS z1; have y2 := cell_of hS u0; have y3 := cell_of hS u1; go_simp; exact ⟨rfl, hS⟩)⟩) rfl (by go_simp; rfl) ?_
  refine wpAnyS_take (i := 17) rfl (by kernel_rfl) (by kernel_rfl) (by kernel_rfl) (fun _ _ _ h => h) (.inl ⟨by kernel_rfl, fun w' hS => (by have y0 := cell_of hS z0; have y1 := cell_of hS z1; have y2 := cell_of hS u0; have y3 := cell_of hS u1; go_simp; exact ⟨rfl, hS⟩)⟩) rfl (by go_simp; rfl) ?_
  refine wpAnyS_take (i := 18) rfl (by kernel_rfl) (by kernel_rfl) (by kernel_rfl) (fun _ _ _ h => h) (.inl ⟨by kernel_rfl, fun w' hS => (by have y0 := cell_of hS z0; have y1 := cell_of hS z1; have y2 := cell_of hS u0; have y3 := cell_of hS u1; go_simp; exact ⟨rfl, hS⟩)⟩) rfl (by go_simp; rfl) ?_
  refine wpAnyS_take (i := 19) rfl (by kernel_rfl) (by kernel_rfl) (by kernel_rfl) (fun _ _ _ h => h) (.inl ⟨by kernel_rfl, fun w' hS => (by have y0 := cell_of hS z0; have y1 := cell_of hS z1; have y2 := cell_of hS u0; have y3 := cell_of hS u1; go_simp; exact ⟨rfl, hS⟩)⟩) rfl (by go_simp; rfl) ?_
  refine wpAnyS_take (i := 20) rfl (by kernel_rfl) (by kernel_rfl) (by kernel_rfl) (fun _ _ _ h => h) (.inl ⟨by kernel_rfl, fun w' hS => (by have y0 := cell_of hS z0; have y1 := cell_of hS z1; have y2 := cell_of hS u0; have y3 := cell_of hS u1; go_simp; exact ⟨rfl, hS⟩)⟩) rfl (by go_simp; rfl) ?_
  refine wpAnyS_take (i := 21) rfl (by kernel_rfl) (by kernel_rfl) (by kernel_rfl) (fun _ _ _ h => h) (.inl ⟨by kernel_rfl, fun w' hS => (by go_simp; refine Calls.mono (form16i (a : Int) (b : Int) b rfl hb40 _ HF.out _ (TW.out.below hS)) ?_; intro e w'' hE; obtain ⟨he, hb⟩ := hE; exact ⟨he, hS.trans (hb.mono hS.size)⟩)⟩) rfl (by go_simp; rfl) ?_
  refine wpAnyS_take (i := 22) rfl (by kernel_rfl) (by kernel_rfl) (by kernel_rfl) (fun _ _ _ h => h) (.inl ⟨by kernel_rfl, fun w' hS => (by have y0 := cell_of hS z0; have y1 := cell_of hS z1; have y2 := cell_of hS u0; have y3 := cell_of hS u1; go_simp; exact ⟨rfl, hS⟩)⟩) rfl (by go_simp; rfl) ?_
  refine wpAnyS_take (i := 23) rfl (by kernel_rfl) (by kernel_rfl) (by kernel_rfl) (fun _ _ _ h => h) (.inl ⟨by kernel_rfl, fun w' hS => (by have y0 := cell_of hS z0; have y1 := cell_of hS z1; have y2 := cell_of hS u0; have y3 := cell_of hS u1; go_simp; exact ⟨rfl, hS⟩)⟩) rfl (by go_simp; rfl) ?_
  refine wpAnyS_take (i := 24) rfl (by kernel_rfl) (by kernel_rfl) (by kernel_rfl) (fun _ _ _ h => h) (.inl ⟨by kernel_rfl, fun w' hS => (by have y0 := cell_of hS z0; have y1 := cell_of hS z1; have y2 := cell_of hS u0; have y3 := cell_of hS u1; go_simp; exact ⟨rfl, hS⟩)⟩) rfl (by go_simp; rfl) ?_
  refine wpAnyS_take (i := 25) rfl (by kernel_rfl) (by kernel_rfl) (by kernel_rfl) (fun _ _ _ h => h) (.inl ⟨by kernel_rfl, fun w' hS => (by have y0 := cell_of hS z0; have y1 := cell_of hS z1; have y2 := cell_of hS u0; have y3 := cell_of hS u1; go_simp; exact ⟨rfl, hS⟩)⟩) rfl (by go_simp; rfl) ?_
  refine wpAnyS_done (by kernel_rfl) (fun w' hS => ?_) _
  go_wp2
  go_ret
  exact ⟨rfl, HB4.out.trans (hS.mono HB4.out.size)⟩

theorem turnForm_walk (k q : Int) (w : World) (ht : Tab w) : Calls Tryd.prog 4 #[Ag k q] w (Says w true) := by
  by_cases h : 0 ≤ q ∧ q ≤ 40 ∧ -1099511627776 ≤ k ∧ k ≤ 1099511627776
  · obtain ⟨n, rfl⟩ : ∃ n : Nat, q = n := ⟨q.toNat, (Int.toNat_of_nonneg h.1).symm⟩
    by_cases hp : par (val k n) = 0
    · exact turnForm_zero k n (by omega) h.2.2.1 h.2.2.2 hp w ht
    · exact turnForm_odd k n (by omega) h.2.2.1 h.2.2.2 hp w ht
  · exact turnForm_no k q (isR_false h) w ht
end Go.Proofs.YtaempngakollpaaDoor
