/- TurnPlace: the law's walk. Under: the library's table as its initialiser lays it. -/
import Derived.Test.YtaempngakollpaaDoorSlEnd
namespace Go.Proofs.YtaempngakollpaaDoor
open Go.RowKit Go.Shelf

theorem rst_congr {A B : Int} (h : A % 1099511627776 = B % 1099511627776) : rst A % 1099511627776 = rst B % 1099511627776 := by
  have he := eig_congr h
  unfold rst
  rw [he]
  split <;> omega
theorem PT_of {A B : Int} (he : eig A = eig B) (hr : rst A % 1099511627776 = rst B % 1099511627776) : PT A = PT B := by rw [PT, PT, he, fk_congr hr, fq_congr hr]
theorem PT_congr {A B : Int} (h : A % 1099511627776 = B % 1099511627776) : PT A = PT B := PT_of (eig_congr h) (rst_congr h)

/-- a quarter more -/
theorem quarter (A : Int) : eig (A + 274877906944) = (eig A + 2) % 8 ∧ rst (A + 274877906944) % 1099511627776 = rst A % 1099511627776 := by
  have hp := par_int A
  have hl := par_lt A
  have hp2 := par_int (A + 274877906944)
  have hl2 := par_lt (A + 274877906944)
  have e1 : eig A = par A / 137438953472 := rfl
  have e2 : eig (A + 274877906944) = par (A + 274877906944) / 137438953472 := rfl
  generalize par A = a at hp hl e1
  generalize par (A + 274877906944) = b at hp2 hl2 e2
  have he : eig (A + 274877906944) = (eig A + 2) % 8 := by omega
  refine ⟨he, ?_⟩
  unfold rst
  rw [he]
  generalize eig A = e at *
  have : (e + 2) % 8 % 2 = e % 2 := by omega
  rw [this]
  split <;> omega

/-- the opposite -/
theorem opposite (A : Int) : rst (-A) % 1099511627776 = rst A % 1099511627776 ∧ (par A % 137438953472 ≠ 0 → eig (-A) + eig A = 7) := by
  have hp := par_int A
  have hl := par_lt A
  have hp2 := par_int (-A)
  have hl2 := par_lt (-A)
  have e1 : eig A = par A / 137438953472 := rfl
  have e2 : eig (-A) = par (-A) / 137438953472 := rfl
  generalize par A = a at hp hl e1 ⊢
  generalize par (-A) = b at hp2 hl2 e2
  by_cases h0 : a % 137438953472 = 0
  · have he : eig (-A) = (8 - eig A) % 8 := by omega
    refine ⟨?_, fun h => absurd h0 h⟩
    have h8 : eig A < 8 := by omega
    have ha : (a : Int) = eig A * 137438953472 := by omega
    unfold rst
    rw [he]
    generalize eig A = e at *
    have : (8 - e) % 8 % 2 = e % 2 := by omega
    rw [this]
    split <;> omega
  · have he : eig (-A) + eig A = 7 := by omega
    refine ⟨?_, fun _ => he⟩
    unfold rst
    generalize eig A = e at *
    generalize eig (-A) = f at *
    by_cases hv : e % 2 = 0
    · rw [if_neg (by omega), if_pos hv]; omega
    · rw [if_pos (by omega), if_neg hv]; omega

theorem part_edge {A : Int} {e k q n m : Nat} (N : PartOk A e k q n m) (hk : k ≠ 0) (hm : m ≠ n) : par A % 137438953472 ≠ 0 := by
  intro h0
  have hr := rst_par A
  have hl := par_lt A
  have he : eig A = par A / 137438953472 := rfl
  have hv := val_form (rst A)
  rw [val_nat, ← Int.ofNat_inj.1 N.kk, ← Int.ofNat_inj.1 N.qq] at hv
  have hv := Int.ofNat_inj.1 hv
  have hq := N.q40
  have hk4 := N.k40
  have hsplit : (2 : Nat) ^ q * 2 ^ (40 - q) = 1099511627776 := by rw [← Nat.pow_add, show q + (40 - q) = 40 by omega]
  have hpos : 0 < (2 : Nat) ^ (40 - q) := Nat.pow_pos (by decide)
  have h2 : (2 : Nat) ^ q ≤ 1099511627776 := Nat.pow_le_pow_right (n := 2) (by decide) hq
  have hn := N.nn
  have hmm := N.mm
  rw [pow_int, IntKind.wrap_i64] at hn
  rw [IntKind.wrap_i64] at hmm
  have hn' : n = 2 ^ q := by
    generalize 2 ^ q = x at h2 hn ⊢
    omega
  have hm' : m = 8 * k := by
    clear hn hsplit hv h2 hpos hn'
    omega
  generalize par A = a at *
  generalize par (rst A) = R at *
  generalize eig A = e' at *
  have h8k : 8 * k * 2 ^ (40 - q) = 8 * R := by rw [Nat.mul_assoc, hv]
  by_cases hp : e' % 2 = 0
  · rw [if_pos hp] at hr
    have hR : R = 0 := by
      clear hn hsplit hv h2 hpos hn' h8k hmm hm'
      omega
    rw [hR] at hv
    rcases Nat.mul_eq_zero.1 hv with h | h
    · exact hk h
    · rw [h] at hpos; exact absurd hpos (by decide)
  · rw [if_neg hp] at hr
    have hR : 8 * R = 1099511627776 := by
      clear hn hsplit hv h2 hpos hn' h8k hmm hm'
      omega
    apply hm
    rw [hm', hn']
    apply Nat.eq_of_mul_eq_mul_right hpos
    rw [h8k, hsplit, hR]

theorem p_quarter (e : Nat) (h : e < 8) : p1 (((e + 2) % 8 : Nat) : Int) = !p1 e ∧ p2 (((e + 2) % 8 : Nat) : Int) = !p3 e ∧ p3 (((e + 2) % 8 : Nat) : Int) = p2 e := by
  have : ∀ x : Nat, x < 8 → p1 (((x + 2) % 8 : Nat) : Int) = !p1 x ∧ p2 (((x + 2) % 8 : Nat) : Int) = !p3 x ∧ p3 (((x + 2) % 8 : Nat) : Int) = p2 x := by decide +kernel
  exact this e h
theorem p_opposite (e f : Nat) (h : f + e = 7) : p1 (f : Int) = p1 e ∧ p2 (f : Int) = p2 e ∧ p3 (f : Int) = !p3 e := by
  have : ∀ x : Nat, x < 8 → p1 ((7 - x : Nat) : Int) = p1 x ∧ p2 ((7 - x : Nat) : Int) = p2 x ∧ p3 ((7 - x : Nat) : Int) = !p3 x := by decide +kernel
  have h2 := this e (by omega)
  rw [show f = 7 - e by omega]
  exact h2
theorem val12 : val 1 2 = 274877906944 := by unfold val; rfl

set_option maxRecDepth 100000 in
set_option maxHeartbeats 8000000 in
theorem turnPlace_none (ak : Int) (aq : Nat) (ha40 : aq ≤ 40) (h0 : -1099511627776 ≤ ak) (h1 : ak ≤ 1099511627776) (e k q n m : Nat) (N : PartOk (val ak aq) e k q n m) (hk0 : k = 0) (hq0 : q = 0) (w : World) (ht : Tab w) : Calls Tryd.prog 8 #[Ag ak aq] w (Says w true) := by
  have T0 := Lib.hid ht
  have HA := Lib.hid (isR_true (k := ak) (q := aq) ⟨by omega, by omega, h0, h1⟩)
  obtain ⟨hq1, hq2⟩ := quarter (val ak aq)
  obtain ⟨ho1, ho2⟩ := opposite (val ak aq)
  clear ho2
  subst hk0
  subst hq0
  have VP : Hid (PT (val ak aq) = .agg #[.int .i64 e, .int .i64 0, .int .i64 0]) := Lib.hid N.pt
  have he8 := N.e8
  have hee := N.ee
  obtain ⟨e2, he2⟩ : ∃ e2, eig (val ak aq + 274877906944) = e2 := ⟨_, rfl⟩
  obtain ⟨e3, he3⟩ : ∃ e3, eig (- val ak aq) = e3 := ⟨_, rfl⟩
  have VPT : ∀ B x, eig B = x → rst B % 1099511627776 = rst (val ak aq) % 1099511627776 → PT B = .agg #[.int .i64 x, .int .i64 0, .int .i64 0] := fun B x hx hr => by
    have h := VP.out
    rw [PT] at h
    rw [PT, hx, fk_congr hr, fq_congr hr]
    simp only [Value.agg.injEq, Array.mk.injEq, List.cons.injEq, Value.int.injEq, and_true, true_and] at h ⊢
    exact ⟨h.2.1, h.2.2⟩
  obtain ⟨sk, sq, hs40, vs, hvs⟩ : ∃ sk sq : Nat, sq ≤ 40 ∧ T (val ak aq + val 1 2) = .agg #[.int .i64 sk, .int .i64 sq] ∧ val sk sq % 1099511627776 = (val ak aq + 274877906944) % 1099511627776 := ⟨_, _, fq_le _, rfl, by rw [val_form_mod, val12]⟩
  obtain ⟨nk, nq, hn40, vn, hvn⟩ : ∃ nk nq : Nat, nq ≤ 40 ∧ T (- val ak aq) = .agg #[.int .i64 nk, .int .i64 nq] ∧ val nk nq % 1099511627776 = (- val ak aq) % 1099511627776 := ⟨_, _, fq_le _, rfl, val_form_mod _⟩
  have VS := Lib.hid vs
  have VF := Lib.hid vn
  have VPS : Hid (PT (val sk sq) = .agg #[.int .i64 e2, .int .i64 0, .int .i64 0]) := Lib.hid (by rw [PT_congr hvs]; exact VPT _ _ he2 hq2)
  have VPF : Hid (PT (val nk nq) = .agg #[.int .i64 e3, .int .i64 0, .int .i64 0]) := Lib.hid (by rw [PT_congr hvn]; exact VPT _ _ he3 ho1)
  have hq1' : e2 = (e + 2) % 8 := by rw [← he2, hq1, hee]
  obtain ⟨a1, a2, a3⟩ := p_quarter e he8
  rw [← hq1'] at a1 a2 a3
  obtain ⟨pa, hpa⟩ : ∃ pa, p1 (e : Int) = pa := ⟨_, rfl⟩
  obtain ⟨pb, hpb⟩ : ∃ pb, p2 (e : Int) = pb := ⟨_, rfl⟩
  obtain ⟨pc, hpc⟩ : ∃ pc, p3 (e : Int) = pc := ⟨_, rfl⟩
  obtain ⟨ra, hra⟩ : ∃ pa, p1 (e3 : Int) = pa := ⟨_, rfl⟩
  obtain ⟨rb, hrb⟩ : ∃ pa, p2 (e3 : Int) = pa := ⟨_, rfl⟩
  obtain ⟨rc, hrc⟩ : ∃ pa, p3 (e3 : Int) = pa := ⟨_, rfl⟩
  have R1 := Lib.hid hra
  have R2 := Lib.hid hrb
  have R3 := Lib.hid hrc
  clear hra hrb hrc
  rw [hpa] at a1
  rw [hpc] at a2
  rw [hpb] at a3
  have P1 := Lib.hid hpa
  have P2 := Lib.hid hpb
  have P3 := Lib.hid hpc
  have Q1 := Lib.hid a1
  have Q2 := Lib.hid a2
  have Q3 := Lib.hid a3
  have hwn := N.nn
  have hwm := N.mm
  have hq41 : (0 : Int) ≤ 40 := by have : 0 ≤ 40 := (by decide); omega
  clear ht a1 a2 a3 hpa hpb hpc N VPT vs hvs vn hvn hq1 hq2 ho1 hq1' hee he2 he3 he8
  go_enter Tryd.func8, Tryd.ntmps8
  go_wp2_with fail
  obtain ⟨w0, hW⟩ : ∃ w0, (w.alloc (.cells #[.int .i64 ak, .int .i64 aq] 23)) = w0 := ⟨_, rfl⟩
  have HB0 : Hid (Below w.heap.size w w0) := Lib.hid (by rw [← hW]; exact ((Below.refl w.heap.size w).alloc (by first | exact Nat.le_refl _ | (simp; done) | (simp; omega)) _))
  have TW0 := Lib.hid (T0.out.below HB0.out)
  have z00 : w0.cell? ⟨w.heap.size, 0, none⟩ = some (.int .i64 ak) := by rw [← hW]; simp [go_sem]
  have z01 : w0.cell? ⟨w.heap.size, 1, none⟩ = some (.int .i64 aq) := by rw [← hW]; simp [go_sem]
  rw [hW]
  clear hW
  refine Calls.mono (l6_head _ TW0.out) ?_
  rintro e' w1 ⟨rfl, hb⟩
  have HB1 := Lib.hid (HB0.out.trans (hb.mono HB0.out.size))
  have TW1 := Lib.hid (TW0.out.below hb)
  replace z00 := cell_of hb z00
  replace z01 := cell_of hb z01
  clear hb HB0 TW0
  go_wp2_with fail
  refine Calls.mono (right13 ak aq _) ?_
  rintro e' w2 ⟨rfl, hb⟩
  rw [HA.out]
  have HB2 := Lib.hid (HB1.out.trans (hb.mono HB1.out.size))
  have TW2 := Lib.hid (TW1.out.below hb)
  replace z00 := cell_of hb z00
  replace z01 := cell_of hb z01
  clear hb HB1 TW1
  go_wp2_with fail
  refine Calls.mono (split14i ak aq aq rfl ha40 _ VP.out _ TW2.out) ?_
  rintro e' w3 ⟨rfl, hb⟩
  have HB3 := Lib.hid (HB2.out.trans (hb.mono HB2.out.size))
  have TW3 := Lib.hid (TW2.out.below hb)
  replace z00 := cell_of hb z00
  replace z01 := cell_of hb z01
  clear hb HB2 TW2
  have hlt := cell_lt z00
  go_wp2_with fail
  obtain ⟨w4, hW⟩ : ∃ w4, w3.alloc (.cells #[.int .i64 e, .int .i64 0, .int .i64 0] 29) = w4 := ⟨_, rfl⟩
  have hb : Below w3.heap.size w3 w4 := by rw [← hW]; exact (Below.refl _ _).alloc (Nat.le_refl _) _
  have HB4 := Lib.hid (HB3.out.trans (hb.mono HB3.out.size))
  have TW4 := Lib.hid (TW3.out.below hb)
  replace z00 := cell_of hb z00
  replace z01 := cell_of hb z01
  have zp0 : w4.cell? ⟨w3.heap.size, 0, none⟩ = some (.int .i64 e) := by rw [← hW]; simp [go_sem]
  have zp1 : w4.cell? ⟨w3.heap.size, 1, none⟩ = some (.int .i64 0) := by rw [← hW]; simp [go_sem]
  have zp2 : w4.cell? ⟨w3.heap.size, 2, none⟩ = some (.int .i64 0) := by rw [← hW]; simp [go_sem]
  rw [hW]
  clear hW hb HB3 TW3
  refine Calls.mono (add18i ak aq 1 2 aq 2 rfl rfl ha40 (by decide) _ VS.out _ TW4.out) ?_
  rintro e' w5 ⟨rfl, hb⟩
  have HB5 := Lib.hid (HB4.out.trans (hb.mono HB4.out.size))
  have TW5 := Lib.hid (TW4.out.below hb)
  replace z00 := cell_of hb z00
  replace z01 := cell_of hb z01
  replace zp0 := cell_of hb zp0
  replace zp1 := cell_of hb zp1
  replace zp2 := cell_of hb zp2
  clear hb HB4 TW4
  go_wp2_with fail
  refine Calls.mono (split14i sk sq sq rfl hs40 _ VPS.out _ TW5.out) ?_
  rintro e' w6 ⟨rfl, hb⟩
  have HB6 := Lib.hid (HB5.out.trans (hb.mono HB5.out.size))
  have TW6 := Lib.hid (TW5.out.below hb)
  replace z00 := cell_of hb z00
  replace z01 := cell_of hb z01
  replace zp0 := cell_of hb zp0
  replace zp1 := cell_of hb zp1
  replace zp2 := cell_of hb zp2
  clear hb HB5 TW5
  clear hlt
  have hlt := cell_lt z00
  go_wp2_with fail
  obtain ⟨w7, hW⟩ : ∃ w7, w6.alloc (.cells #[.int .i64 e2, .int .i64 0, .int .i64 0] 29) = w7 := ⟨_, rfl⟩
  have hb : Below w6.heap.size w6 w7 := by rw [← hW]; exact (Below.refl _ _).alloc (Nat.le_refl _) _
  have HB7 := Lib.hid (HB6.out.trans (hb.mono HB6.out.size))
  have TW7 := Lib.hid (TW6.out.below hb)
  replace z00 := cell_of hb z00
  replace z01 := cell_of hb z01
  replace zp0 := cell_of hb zp0
  replace zp1 := cell_of hb zp1
  replace zp2 := cell_of hb zp2
  have zq0 : w7.cell? ⟨w6.heap.size, 0, none⟩ = some (.int .i64 e2) := by rw [← hW]; simp [go_sem]
  have zq1 : w7.cell? ⟨w6.heap.size, 1, none⟩ = some (.int .i64 0) := by rw [← hW]; simp [go_sem]
  have zq2 : w7.cell? ⟨w6.heap.size, 2, none⟩ = some (.int .i64 0) := by rw [← hW]; simp [go_sem]
  rw [hW]
  clear hW hb HB6 TW6
  refine Calls.mono (flip20i ak aq aq rfl ha40 (by omega) (by omega) _ VF.out _ TW7.out) ?_
  rintro e' w8 ⟨rfl, hb⟩
  have HB8 := Lib.hid (HB7.out.trans (hb.mono HB7.out.size))
  have TW8 := Lib.hid (TW7.out.below hb)
  replace z00 := cell_of hb z00
  replace z01 := cell_of hb z01
  replace zp0 := cell_of hb zp0
  replace zp1 := cell_of hb zp1
  replace zp2 := cell_of hb zp2
  replace zq0 := cell_of hb zq0
  replace zq1 := cell_of hb zq1
  replace zq2 := cell_of hb zq2
  clear hb HB7 TW7
  go_wp2_with fail
  refine Calls.mono (split14i nk nq nq rfl hn40 _ VPF.out _ TW8.out) ?_
  rintro e' w9 ⟨rfl, hb⟩
  have HB9 := Lib.hid (HB8.out.trans (hb.mono HB8.out.size))
  have TW9 := Lib.hid (TW8.out.below hb)
  replace z00 := cell_of hb z00
  replace z01 := cell_of hb z01
  replace zp0 := cell_of hb zp0
  replace zp1 := cell_of hb zp1
  replace zp2 := cell_of hb zp2
  replace zq0 := cell_of hb zq0
  replace zq1 := cell_of hb zq1
  replace zq2 := cell_of hb zq2
  clear hb HB8 TW8
  clear hlt
  have hlt := cell_lt z00
  have hlp := cell_lt zp0
  have hlq := cell_lt zq0
  go_wp2_with fail
  obtain ⟨w10, hW⟩ : ∃ w10, w9.alloc (.cells #[.int .i64 e3, .int .i64 0, .int .i64 0] 29) = w10 := ⟨_, rfl⟩
  have hb : Below w9.heap.size w9 w10 := by rw [← hW]; exact (Below.refl _ _).alloc (Nat.le_refl _) _
  have HB10 := Lib.hid (HB9.out.trans (hb.mono HB9.out.size))
  have TW10 := Lib.hid (TW9.out.below hb)
  replace z00 := cell_of hb z00
  replace z01 := cell_of hb z01
  replace zp0 := cell_of hb zp0
  replace zp1 := cell_of hb zp1
  replace zp2 := cell_of hb zp2
  replace zq0 := cell_of hb zq0
  replace zq1 := cell_of hb zq1
  replace zq2 := cell_of hb zq2
  have zr0 : w10.cell? ⟨w9.heap.size, 0, none⟩ = some (.int .i64 e3) := by rw [← hW]; simp [go_sem]
  have zr1 : w10.cell? ⟨w9.heap.size, 1, none⟩ = some (.int .i64 0) := by rw [← hW]; simp [go_sem]
  have zr2 : w10.cell? ⟨w9.heap.size, 2, none⟩ = some (.int .i64 0) := by rw [← hW]; simp [go_sem]
  rw [hW]
  clear hW hb HB9 TW9
  refine Calls.mono (place10 e _) ?_
  rintro e' w11 ⟨rfl, hb⟩
  rw [P1.out]
  rw [P2.out]
  rw [P3.out]
  have HB11 := Lib.hid (HB10.out.trans (hb.mono HB10.out.size))
  have TW11 := Lib.hid (TW10.out.below hb)
  replace z00 := cell_of hb z00
  replace z01 := cell_of hb z01
  replace zp0 := cell_of hb zp0
  replace zp1 := cell_of hb zp1
  replace zp2 := cell_of hb zp2
  replace zq0 := cell_of hb zq0
  replace zq1 := cell_of hb zq1
  replace zq2 := cell_of hb zq2
  replace zr0 := cell_of hb zr0
  replace zr1 := cell_of hb zr1
  replace zr2 := cell_of hb zr2
  clear hb HB10 TW10
  go_wp2_with fail
  refine Calls.mono (place10 e2 _) ?_
  rintro e' w12 ⟨rfl, hb⟩
  rw [Q1.out]
  rw [Q2.out]
  rw [Q3.out]
  have HB12 := Lib.hid (HB11.out.trans (hb.mono HB11.out.size))
  have TW12 := Lib.hid (TW11.out.below hb)
  replace z00 := cell_of hb z00
  replace z01 := cell_of hb z01
  replace zp0 := cell_of hb zp0
  replace zp1 := cell_of hb zp1
  replace zp2 := cell_of hb zp2
  replace zq0 := cell_of hb zq0
  replace zq1 := cell_of hb zq1
  replace zq2 := cell_of hb zq2
  replace zr0 := cell_of hb zr0
  replace zr1 := cell_of hb zr1
  replace zr2 := cell_of hb zr2
  clear hb HB11 TW11
  go_wp2_with fail
  refine Calls.mono (place10 e3 _) ?_
  rintro e' w13 ⟨rfl, hb⟩
  rw [R1.out]
  rw [R2.out]
  rw [R3.out]
  have HB13 := Lib.hid (HB12.out.trans (hb.mono HB12.out.size))
  have TW13 := Lib.hid (TW12.out.below hb)
  replace z00 := cell_of hb z00
  replace z01 := cell_of hb z01
  replace zp0 := cell_of hb zp0
  replace zp1 := cell_of hb zp1
  replace zp2 := cell_of hb zp2
  replace zq0 := cell_of hb zq0
  replace zq1 := cell_of hb zq1
  replace zq2 := cell_of hb zq2
  replace zr0 := cell_of hb zr0
  replace zr1 := cell_of hb zr1
  replace zr2 := cell_of hb zr2
  clear hb HB12 TW12
  go_wp2_with fail
  have TW := TW13
  refine wp_region_det (S := Below w13.heap.size w13) (by kernel_rfl) (Below.refl _ w13).drew ?_
  refine wpAnyS_take (i := 0) rfl (by kernel_rfl) (by kernel_rfl) (by kernel_rfl) (fun _ _ _ h => h) (.inl ⟨by kernel_rfl, fun w' hS => (by have y0 := cell_of hS z00; have y1 := cell_of hS z01; have y2 := cell_of hS zp0; have y3 := cell_of hS zp1; have y4 := cell_of hS zp2; have y5 := cell_of hS zq0; have y6 := cell_of hS zq1; have y7 := cell_of hS zq2; have y8 := cell_of hS zr0; have y9 := cell_of hS zr1; have y10 := cell_of hS zr2; go_simp; exact ⟨rfl, hS⟩)⟩) rfl (by go_simp; rfl) ?_
  refine wpAnyS_take (i := 1) rfl (by kernel_rfl) (by kernel_rfl) (by kernel_rfl) (fun _ _ _ h => h) (.inl ⟨by kernel_rfl, fun w' hS => (by have y0 := cell_of hS z00; have y1 := cell_of hS z01; have y2 := cell_of hS zp0; have y3 := cell_of hS zp1; have y4 := cell_of hS zp2; have y5 := cell_of hS zq0; have y6 := cell_of hS zq1; have y7 := cell_of hS zq2; have y8 := cell_of hS zr0; have y9 := cell_of hS zr1; have y10 := cell_of hS zr2; go_simp; exact ⟨rfl, hS⟩)⟩) rfl (by go_simp; rfl) ?_
  refine wpAnyS_take (i := 2) rfl (by kernel_rfl) (by kernel_rfl) (by kernel_rfl) (fun _ _ _ h => h) (.inl ⟨by kernel_rfl, fun w' hS => (by have y0 := cell_of hS z00; have y1 := cell_of hS z01; have y2 := cell_of hS zp0; have y3 := cell_of hS zp1; have y4 := cell_of hS zp2; have y5 := cell_of hS zq0; have y6 := cell_of hS zq1; have y7 := cell_of hS zq2; have y8 := cell_of hS zr0; have y9 := cell_of hS zr1; have y10 := cell_of hS zr2; go_simp; exact ⟨rfl, hS⟩)⟩) rfl (by go_simp; rfl) ?_
  refine wpAnyS_take (i := 3) rfl (by kernel_rfl) (by kernel_rfl) (by kernel_rfl) (fun _ _ _ h => h) (.inl ⟨by kernel_rfl, fun w' hS => (by have y0 := cell_of hS z00; have y1 := cell_of hS z01; have y2 := cell_of hS zp0; have y3 := cell_of hS zp1; have y4 := cell_of hS zp2; have y5 := cell_of hS zq0; have y6 := cell_of hS zq1; have y7 := cell_of hS zq2; have y8 := cell_of hS zr0; have y9 := cell_of hS zr1; have y10 := cell_of hS zr2; go_simp; exact ⟨rfl, hS⟩)⟩) rfl (by go_simp; rfl) ?_
  refine wpAnyS_take (i := 4) rfl (by kernel_rfl) (by kernel_rfl) (by kernel_rfl) (fun _ _ _ h => h) (.inl ⟨by kernel_rfl, fun w' hS => (by have y0 := cell_of hS z00; have y1 := cell_of hS z01; have y2 := cell_of hS zp0; have y3 := cell_of hS zp1; have y4 := cell_of hS zp2; have y5 := cell_of hS zq0; have y6 := cell_of hS zq1; have y7 := cell_of hS zq2; have y8 := cell_of hS zr0; have y9 := cell_of hS zr1; have y10 := cell_of hS zr2; go_simp; exact ⟨rfl, hS⟩)⟩) rfl (by go_simp; rfl) ?_
  refine wpAnyS_take (i := 5) rfl (by kernel_rfl) (by kernel_rfl) (by kernel_rfl) (fun _ _ _ h => h) (.inr ⟨by kernel_rfl, rfl⟩) rfl (by go_simp; rfl) ?_
  refine wpAnyS_take (i := 6) rfl (by kernel_rfl) (by kernel_rfl) (by kernel_rfl) (fun _ _ _ h => h) (.inr ⟨by kernel_rfl, rfl⟩) rfl (by go_simp; rfl) ?_
  refine wpAnyS_take (i := 7) rfl (by kernel_rfl) (by kernel_rfl) (by kernel_rfl) (fun _ _ _ h => h) (.inr ⟨by kernel_rfl, rfl⟩) rfl (by go_simp; rfl) ?_
  refine wpAnyS_take (i := 8) rfl (by kernel_rfl) (by kernel_rfl) (by kernel_rfl) (fun _ _ _ h => h) (.inr ⟨by kernel_rfl, rfl⟩) rfl (by go_simp; rfl) ?_
  refine wpAnyS_take (i := 9) rfl (by kernel_rfl) (by kernel_rfl) (by kernel_rfl) (fun _ _ _ h => h) (.inr ⟨by kernel_rfl, rfl⟩) rfl (by go_simp; rfl) ?_
  refine wpAnyS_take (i := 10) rfl (by kernel_rfl) (by kernel_rfl) (by kernel_rfl) (fun _ _ _ h => h) (.inr ⟨by kernel_rfl, rfl⟩) rfl (by go_simp; rfl) ?_
  refine wpAnyS_take (i := 11) rfl (by kernel_rfl) (by kernel_rfl) (by kernel_rfl) (fun _ _ _ h => h) (.inr ⟨by kernel_rfl, rfl⟩) rfl (by go_simp; rfl) ?_
  refine wpAnyS_take (i := 12) rfl (by kernel_rfl) (by kernel_rfl) (by kernel_rfl) (fun _ _ _ h => h) (.inr ⟨by kernel_rfl, rfl⟩) rfl (by go_simp; rfl) ?_
  refine wpAnyS_take (i := 13) rfl (by kernel_rfl) (by kernel_rfl) (by kernel_rfl) (fun _ _ _ h => h) (.inr ⟨by kernel_rfl, rfl⟩) rfl (by go_simp; rfl) ?_
  refine wpAnyS_take (i := 14) rfl (by kernel_rfl) (by kernel_rfl) (by kernel_rfl) (fun _ _ _ h => h) (.inl ⟨by kernel_rfl, fun w' hS => (by have y0 := cell_of hS z00; have y1 := cell_of hS z01; have y2 := cell_of hS zp0; have y3 := cell_of hS zp1; have y4 := cell_of hS zp2; have y5 := cell_of hS zq0; have y6 := cell_of hS zq1; have y7 := cell_of hS zq2; have y8 := cell_of hS zr0; have y9 := cell_of hS zr1; have y10 := cell_of hS zr2; go_simp; exact ⟨rfl, hS⟩)⟩) rfl (by go_simp; rfl) ?_
  refine wpAnyS_done (by kernel_rfl) (fun w14 hS => ?_) _
  have HB14 := Lib.hid (HB13.out.trans (hS.mono HB13.out.size))
  have TW14 := Lib.hid (TW13.out.below hS)
  replace z00 := cell_of hS z00
  replace z01 := cell_of hS z01
  replace zp0 := cell_of hS zp0
  replace zp1 := cell_of hS zp1
  replace zp2 := cell_of hS zp2
  replace zq0 := cell_of hS zq0
  replace zq1 := cell_of hS zq1
  replace zq2 := cell_of hS zq2
  replace zr0 := cell_of hS zr0
  replace zr1 := cell_of hS zr1
  replace zr2 := cell_of hS zr2
  clear hS TW HB13 TW13
  go_wp2
  go_ret
  exact ⟨rfl, HB14.out⟩

set_option maxRecDepth 100000 in
set_option maxHeartbeats 8000000 in
theorem turnPlace_edge (ak : Int) (aq : Nat) (ha40 : aq ≤ 40) (h0 : -1099511627776 ≤ ak) (h1 : ak ≤ 1099511627776) (e k q n m : Nat) (N : PartOk (val ak aq) e k q n m) (hk0 : k ≠ 0) (hed : m = n) (w : World) (ht : Tab w) : Calls Tryd.prog 8 #[Ag ak aq] w (Says w true) := by
  have T0 := Lib.hid ht
  have HA := Lib.hid (isR_true (k := ak) (q := aq) ⟨by omega, by omega, h0, h1⟩)
  obtain ⟨hq1, hq2⟩ := quarter (val ak aq)
  obtain ⟨ho1, ho2⟩ := opposite (val ak aq)
  clear ho2
  have VP : Hid (PT (val ak aq) = .agg #[.int .i64 e, .int .i64 k, .int .i64 q]) := Lib.hid N.pt
  have he8 := N.e8
  have hee := N.ee
  obtain ⟨e2, he2⟩ : ∃ e2, eig (val ak aq + 274877906944) = e2 := ⟨_, rfl⟩
  obtain ⟨e3, he3⟩ : ∃ e3, eig (- val ak aq) = e3 := ⟨_, rfl⟩
  have VPT : ∀ B x, eig B = x → rst B % 1099511627776 = rst (val ak aq) % 1099511627776 → PT B = .agg #[.int .i64 x, .int .i64 k, .int .i64 q] := fun B x hx hr => by
    have h := VP.out
    rw [PT] at h
    rw [PT, hx, fk_congr hr, fq_congr hr]
    simp only [Value.agg.injEq, Array.mk.injEq, List.cons.injEq, Value.int.injEq, and_true, true_and] at h ⊢
    exact ⟨h.2.1, h.2.2⟩
  obtain ⟨sk, sq, hs40, vs, hvs⟩ : ∃ sk sq : Nat, sq ≤ 40 ∧ T (val ak aq + val 1 2) = .agg #[.int .i64 sk, .int .i64 sq] ∧ val sk sq % 1099511627776 = (val ak aq + 274877906944) % 1099511627776 := ⟨_, _, fq_le _, rfl, by rw [val_form_mod, val12]⟩
  obtain ⟨nk, nq, hn40, vn, hvn⟩ : ∃ nk nq : Nat, nq ≤ 40 ∧ T (- val ak aq) = .agg #[.int .i64 nk, .int .i64 nq] ∧ val nk nq % 1099511627776 = (- val ak aq) % 1099511627776 := ⟨_, _, fq_le _, rfl, val_form_mod _⟩
  have VS := Lib.hid vs
  have VF := Lib.hid vn
  have VPS : Hid (PT (val sk sq) = .agg #[.int .i64 e2, .int .i64 k, .int .i64 q]) := Lib.hid (by rw [PT_congr hvs]; exact VPT _ _ he2 hq2)
  have VPF : Hid (PT (val nk nq) = .agg #[.int .i64 e3, .int .i64 k, .int .i64 q]) := Lib.hid (by rw [PT_congr hvn]; exact VPT _ _ he3 ho1)
  have hq1' : e2 = (e + 2) % 8 := by rw [← he2, hq1, hee]
  obtain ⟨a1, a2, a3⟩ := p_quarter e he8
  rw [← hq1'] at a1 a2 a3
  obtain ⟨pa, hpa⟩ : ∃ pa, p1 (e : Int) = pa := ⟨_, rfl⟩
  obtain ⟨pb, hpb⟩ : ∃ pb, p2 (e : Int) = pb := ⟨_, rfl⟩
  obtain ⟨pc, hpc⟩ : ∃ pc, p3 (e : Int) = pc := ⟨_, rfl⟩
  obtain ⟨ra, hra⟩ : ∃ pa, p1 (e3 : Int) = pa := ⟨_, rfl⟩
  obtain ⟨rb, hrb⟩ : ∃ pa, p2 (e3 : Int) = pa := ⟨_, rfl⟩
  obtain ⟨rc, hrc⟩ : ∃ pa, p3 (e3 : Int) = pa := ⟨_, rfl⟩
  have R1 := Lib.hid hra
  have R2 := Lib.hid hrb
  have R3 := Lib.hid hrc
  clear hra hrb hrc
  rw [hpa] at a1
  rw [hpc] at a2
  rw [hpb] at a3
  have P1 := Lib.hid hpa
  have P2 := Lib.hid hpb
  have P3 := Lib.hid hpc
  have Q1 := Lib.hid a1
  have Q2 := Lib.hid a2
  have Q3 := Lib.hid a3
  have hwn := N.nn
  have hwm := N.mm
  have hq41 : (q : Int) ≤ 40 := by have : q ≤ 40 := N.q40; omega
  have hk1 : ((k : Int) == 0) = false := by apply beq_false_of_ne; omega
  have dq1 : ((m : Int) == n) = true := by rw [beq_iff_eq]; omega
  clear hed
  clear ht a1 a2 a3 hpa hpb hpc N VPT vs hvs vn hvn hq1 hq2 ho1 hq1' hee he2 he3 he8
  go_enter Tryd.func8, Tryd.ntmps8
  go_wp2_with fail
  obtain ⟨w0, hW⟩ : ∃ w0, (w.alloc (.cells #[.int .i64 ak, .int .i64 aq] 23)) = w0 := ⟨_, rfl⟩
  have HB0 : Hid (Below w.heap.size w w0) := Lib.hid (by rw [← hW]; exact ((Below.refl w.heap.size w).alloc (by first | exact Nat.le_refl _ | (simp; done) | (simp; omega)) _))
  have TW0 := Lib.hid (T0.out.below HB0.out)
  have z00 : w0.cell? ⟨w.heap.size, 0, none⟩ = some (.int .i64 ak) := by rw [← hW]; simp [go_sem]
  have z01 : w0.cell? ⟨w.heap.size, 1, none⟩ = some (.int .i64 aq) := by rw [← hW]; simp [go_sem]
  rw [hW]
  clear hW
  refine Calls.mono (l6_head _ TW0.out) ?_
  rintro e' w1 ⟨rfl, hb⟩
  have HB1 := Lib.hid (HB0.out.trans (hb.mono HB0.out.size))
  have TW1 := Lib.hid (TW0.out.below hb)
  replace z00 := cell_of hb z00
  replace z01 := cell_of hb z01
  clear hb HB0 TW0
  go_wp2_with fail
  refine Calls.mono (right13 ak aq _) ?_
  rintro e' w2 ⟨rfl, hb⟩
  rw [HA.out]
  have HB2 := Lib.hid (HB1.out.trans (hb.mono HB1.out.size))
  have TW2 := Lib.hid (TW1.out.below hb)
  replace z00 := cell_of hb z00
  replace z01 := cell_of hb z01
  clear hb HB1 TW1
  go_wp2_with fail
  refine Calls.mono (split14i ak aq aq rfl ha40 _ VP.out _ TW2.out) ?_
  rintro e' w3 ⟨rfl, hb⟩
  have HB3 := Lib.hid (HB2.out.trans (hb.mono HB2.out.size))
  have TW3 := Lib.hid (TW2.out.below hb)
  replace z00 := cell_of hb z00
  replace z01 := cell_of hb z01
  clear hb HB2 TW2
  have hlt := cell_lt z00
  go_wp2_with fail
  obtain ⟨w4, hW⟩ : ∃ w4, w3.alloc (.cells #[.int .i64 e, .int .i64 k, .int .i64 q] 29) = w4 := ⟨_, rfl⟩
  have hb : Below w3.heap.size w3 w4 := by rw [← hW]; exact (Below.refl _ _).alloc (Nat.le_refl _) _
  have HB4 := Lib.hid (HB3.out.trans (hb.mono HB3.out.size))
  have TW4 := Lib.hid (TW3.out.below hb)
  replace z00 := cell_of hb z00
  replace z01 := cell_of hb z01
  have zp0 : w4.cell? ⟨w3.heap.size, 0, none⟩ = some (.int .i64 e) := by rw [← hW]; simp [go_sem]
  have zp1 : w4.cell? ⟨w3.heap.size, 1, none⟩ = some (.int .i64 k) := by rw [← hW]; simp [go_sem]
  have zp2 : w4.cell? ⟨w3.heap.size, 2, none⟩ = some (.int .i64 q) := by rw [← hW]; simp [go_sem]
  rw [hW]
  clear hW hb HB3 TW3
  refine Calls.mono (add18i ak aq 1 2 aq 2 rfl rfl ha40 (by decide) _ VS.out _ TW4.out) ?_
  rintro e' w5 ⟨rfl, hb⟩
  have HB5 := Lib.hid (HB4.out.trans (hb.mono HB4.out.size))
  have TW5 := Lib.hid (TW4.out.below hb)
  replace z00 := cell_of hb z00
  replace z01 := cell_of hb z01
  replace zp0 := cell_of hb zp0
  replace zp1 := cell_of hb zp1
  replace zp2 := cell_of hb zp2
  clear hb HB4 TW4
  go_wp2_with fail
  refine Calls.mono (split14i sk sq sq rfl hs40 _ VPS.out _ TW5.out) ?_
  rintro e' w6 ⟨rfl, hb⟩
  have HB6 := Lib.hid (HB5.out.trans (hb.mono HB5.out.size))
  have TW6 := Lib.hid (TW5.out.below hb)
  replace z00 := cell_of hb z00
  replace z01 := cell_of hb z01
  replace zp0 := cell_of hb zp0
  replace zp1 := cell_of hb zp1
  replace zp2 := cell_of hb zp2
  clear hb HB5 TW5
  clear hlt
  have hlt := cell_lt z00
  go_wp2_with fail
  obtain ⟨w7, hW⟩ : ∃ w7, w6.alloc (.cells #[.int .i64 e2, .int .i64 k, .int .i64 q] 29) = w7 := ⟨_, rfl⟩
  have hb : Below w6.heap.size w6 w7 := by rw [← hW]; exact (Below.refl _ _).alloc (Nat.le_refl _) _
  have HB7 := Lib.hid (HB6.out.trans (hb.mono HB6.out.size))
  have TW7 := Lib.hid (TW6.out.below hb)
  replace z00 := cell_of hb z00
  replace z01 := cell_of hb z01
  replace zp0 := cell_of hb zp0
  replace zp1 := cell_of hb zp1
  replace zp2 := cell_of hb zp2
  have zq0 : w7.cell? ⟨w6.heap.size, 0, none⟩ = some (.int .i64 e2) := by rw [← hW]; simp [go_sem]
  have zq1 : w7.cell? ⟨w6.heap.size, 1, none⟩ = some (.int .i64 k) := by rw [← hW]; simp [go_sem]
  have zq2 : w7.cell? ⟨w6.heap.size, 2, none⟩ = some (.int .i64 q) := by rw [← hW]; simp [go_sem]
  rw [hW]
  clear hW hb HB6 TW6
  refine Calls.mono (flip20i ak aq aq rfl ha40 (by omega) (by omega) _ VF.out _ TW7.out) ?_
  rintro e' w8 ⟨rfl, hb⟩
  have HB8 := Lib.hid (HB7.out.trans (hb.mono HB7.out.size))
  have TW8 := Lib.hid (TW7.out.below hb)
  replace z00 := cell_of hb z00
  replace z01 := cell_of hb z01
  replace zp0 := cell_of hb zp0
  replace zp1 := cell_of hb zp1
  replace zp2 := cell_of hb zp2
  replace zq0 := cell_of hb zq0
  replace zq1 := cell_of hb zq1
  replace zq2 := cell_of hb zq2
  clear hb HB7 TW7
  go_wp2_with fail
  refine Calls.mono (split14i nk nq nq rfl hn40 _ VPF.out _ TW8.out) ?_
  rintro e' w9 ⟨rfl, hb⟩
  have HB9 := Lib.hid (HB8.out.trans (hb.mono HB8.out.size))
  have TW9 := Lib.hid (TW8.out.below hb)
  replace z00 := cell_of hb z00
  replace z01 := cell_of hb z01
  replace zp0 := cell_of hb zp0
  replace zp1 := cell_of hb zp1
  replace zp2 := cell_of hb zp2
  replace zq0 := cell_of hb zq0
  replace zq1 := cell_of hb zq1
  replace zq2 := cell_of hb zq2
  clear hb HB8 TW8
  clear hlt
  have hlt := cell_lt z00
  have hlp := cell_lt zp0
  have hlq := cell_lt zq0
  go_wp2_with fail
  obtain ⟨w10, hW⟩ : ∃ w10, w9.alloc (.cells #[.int .i64 e3, .int .i64 k, .int .i64 q] 29) = w10 := ⟨_, rfl⟩
  have hb : Below w9.heap.size w9 w10 := by rw [← hW]; exact (Below.refl _ _).alloc (Nat.le_refl _) _
  have HB10 := Lib.hid (HB9.out.trans (hb.mono HB9.out.size))
  have TW10 := Lib.hid (TW9.out.below hb)
  replace z00 := cell_of hb z00
  replace z01 := cell_of hb z01
  replace zp0 := cell_of hb zp0
  replace zp1 := cell_of hb zp1
  replace zp2 := cell_of hb zp2
  replace zq0 := cell_of hb zq0
  replace zq1 := cell_of hb zq1
  replace zq2 := cell_of hb zq2
  have zr0 : w10.cell? ⟨w9.heap.size, 0, none⟩ = some (.int .i64 e3) := by rw [← hW]; simp [go_sem]
  have zr1 : w10.cell? ⟨w9.heap.size, 1, none⟩ = some (.int .i64 k) := by rw [← hW]; simp [go_sem]
  have zr2 : w10.cell? ⟨w9.heap.size, 2, none⟩ = some (.int .i64 q) := by rw [← hW]; simp [go_sem]
  rw [hW]
  clear hW hb HB9 TW9
  refine Calls.mono (place10 e _) ?_
  rintro e' w11 ⟨rfl, hb⟩
  rw [P1.out]
  rw [P2.out]
  rw [P3.out]
  have HB11 := Lib.hid (HB10.out.trans (hb.mono HB10.out.size))
  have TW11 := Lib.hid (TW10.out.below hb)
  replace z00 := cell_of hb z00
  replace z01 := cell_of hb z01
  replace zp0 := cell_of hb zp0
  replace zp1 := cell_of hb zp1
  replace zp2 := cell_of hb zp2
  replace zq0 := cell_of hb zq0
  replace zq1 := cell_of hb zq1
  replace zq2 := cell_of hb zq2
  replace zr0 := cell_of hb zr0
  replace zr1 := cell_of hb zr1
  replace zr2 := cell_of hb zr2
  clear hb HB10 TW10
  go_wp2_with fail
  refine Calls.mono (place10 e2 _) ?_
  rintro e' w12 ⟨rfl, hb⟩
  rw [Q1.out]
  rw [Q2.out]
  rw [Q3.out]
  have HB12 := Lib.hid (HB11.out.trans (hb.mono HB11.out.size))
  have TW12 := Lib.hid (TW11.out.below hb)
  replace z00 := cell_of hb z00
  replace z01 := cell_of hb z01
  replace zp0 := cell_of hb zp0
  replace zp1 := cell_of hb zp1
  replace zp2 := cell_of hb zp2
  replace zq0 := cell_of hb zq0
  replace zq1 := cell_of hb zq1
  replace zq2 := cell_of hb zq2
  replace zr0 := cell_of hb zr0
  replace zr1 := cell_of hb zr1
  replace zr2 := cell_of hb zr2
  clear hb HB11 TW11
  go_wp2_with fail
  refine Calls.mono (place10 e3 _) ?_
  rintro e' w13 ⟨rfl, hb⟩
  rw [R1.out]
  rw [R2.out]
  rw [R3.out]
  have HB13 := Lib.hid (HB12.out.trans (hb.mono HB12.out.size))
  have TW13 := Lib.hid (TW12.out.below hb)
  replace z00 := cell_of hb z00
  replace z01 := cell_of hb z01
  replace zp0 := cell_of hb zp0
  replace zp1 := cell_of hb zp1
  replace zp2 := cell_of hb zp2
  replace zq0 := cell_of hb zq0
  replace zq1 := cell_of hb zq1
  replace zq2 := cell_of hb zq2
  replace zr0 := cell_of hb zr0
  replace zr1 := cell_of hb zr1
  replace zr2 := cell_of hb zr2
  clear hb HB12 TW12
  go_wp2_with fail
  have TW := TW13
  refine wp_region_det (S := Below w13.heap.size w13) (by kernel_rfl) (Below.refl _ w13).drew ?_
  refine wpAnyS_take (i := 0) rfl (by kernel_rfl) (by kernel_rfl) (by kernel_rfl) (fun _ _ _ h => h) (.inl ⟨by kernel_rfl, fun w' hS => (by have y0 := cell_of hS z00; have y1 := cell_of hS z01; have y2 := cell_of hS zp0; have y3 := cell_of hS zp1; have y4 := cell_of hS zp2; have y5 := cell_of hS zq0; have y6 := cell_of hS zq1; have y7 := cell_of hS zq2; have y8 := cell_of hS zr0; have y9 := cell_of hS zr1; have y10 := cell_of hS zr2; go_simp; exact ⟨rfl, hS⟩)⟩) rfl (by go_simp; rfl) ?_
  refine wpAnyS_take (i := 1) rfl (by kernel_rfl) (by kernel_rfl) (by kernel_rfl) (fun _ _ _ h => h) (.inl ⟨by kernel_rfl, fun w' hS => (by have y0 := cell_of hS z00; have y1 := cell_of hS z01; have y2 := cell_of hS zp0; have y3 := cell_of hS zp1; have y4 := cell_of hS zp2; have y5 := cell_of hS zq0; have y6 := cell_of hS zq1; have y7 := cell_of hS zq2; have y8 := cell_of hS zr0; have y9 := cell_of hS zr1; have y10 := cell_of hS zr2; go_simp; exact ⟨rfl, hS⟩)⟩) rfl (by go_simp; rfl) ?_
  refine wpAnyS_take (i := 2) rfl (by kernel_rfl) (by kernel_rfl) (by kernel_rfl) (fun _ _ _ h => h) (.inl ⟨by kernel_rfl, fun w' hS => (by have y0 := cell_of hS z00; have y1 := cell_of hS z01; have y2 := cell_of hS zp0; have y3 := cell_of hS zp1; have y4 := cell_of hS zp2; have y5 := cell_of hS zq0; have y6 := cell_of hS zq1; have y7 := cell_of hS zq2; have y8 := cell_of hS zr0; have y9 := cell_of hS zr1; have y10 := cell_of hS zr2; go_simp; exact ⟨rfl, hS⟩)⟩) rfl (by go_simp; rfl) ?_
  refine wpAnyS_take (i := 3) rfl (by kernel_rfl) (by kernel_rfl) (by kernel_rfl) (fun _ _ _ h => h) (.inl ⟨by kernel_rfl, fun w' hS => (by have y0 := cell_of hS z00; have y1 := cell_of hS z01; have y2 := cell_of hS zp0; have y3 := cell_of hS zp1; have y4 := cell_of hS zp2; have y5 := cell_of hS zq0; have y6 := cell_of hS zq1; have y7 := cell_of hS zq2; have y8 := cell_of hS zr0; have y9 := cell_of hS zr1; have y10 := cell_of hS zr2; go_simp; exact ⟨rfl, hS⟩)⟩) rfl (by go_simp; rfl) ?_
  refine wpAnyS_take (i := 4) rfl (by kernel_rfl) (by kernel_rfl) (by kernel_rfl) (fun _ _ _ h => h) (.inl ⟨by kernel_rfl, fun w' hS => (by have y0 := cell_of hS z00; have y1 := cell_of hS z01; have y2 := cell_of hS zp0; have y3 := cell_of hS zp1; have y4 := cell_of hS zp2; have y5 := cell_of hS zq0; have y6 := cell_of hS zq1; have y7 := cell_of hS zq2; have y8 := cell_of hS zr0; have y9 := cell_of hS zr1; have y10 := cell_of hS zr2; go_simp; exact ⟨rfl, hS⟩)⟩) rfl (by go_simp; rfl) ?_
  refine wpAnyS_take (i := 5) rfl (by kernel_rfl) (by kernel_rfl) (by kernel_rfl) (fun _ _ _ h => h) (.inl ⟨by kernel_rfl, fun w' hS => (by have y0 := cell_of hS z00; have y1 := cell_of hS z01; have y2 := cell_of hS zp0; have y3 := cell_of hS zp1; have y4 := cell_of hS zp2; have y5 := cell_of hS zq0; have y6 := cell_of hS zq1; have y7 := cell_of hS zq2; have y8 := cell_of hS zr0; have y9 := cell_of hS zr1; have y10 := cell_of hS zr2; go_simp; exact ⟨rfl, hS⟩)⟩) rfl (by go_simp; rfl) ?_
  refine wpAnyS_take (i := 6) rfl (by kernel_rfl) (by kernel_rfl) (by kernel_rfl) (fun _ _ _ h => h) (.inl ⟨by kernel_rfl, fun w' hS => (by have y0 := cell_of hS z00; have y1 := cell_of hS z01; have y2 := cell_of hS zp0; have y3 := cell_of hS zp1; have y4 := cell_of hS zp2; have y5 := cell_of hS zq0; have y6 := cell_of hS zq1; have y7 := cell_of hS zq2; have y8 := cell_of hS zr0; have y9 := cell_of hS zr1; have y10 := cell_of hS zr2; go_simp; exact ⟨rfl, hS⟩)⟩) rfl (by go_simp; rfl) ?_
  refine wpAnyS_take (i := 7) rfl (by kernel_rfl) (by kernel_rfl) (by kernel_rfl) (fun _ _ _ h => h) (.inl ⟨by kernel_rfl, fun w' hS => (by have y0 := cell_of hS z00; have y1 := cell_of hS z01; have y2 := cell_of hS zp0; have y3 := cell_of hS zp1; have y4 := cell_of hS zp2; have y5 := cell_of hS zq0; have y6 := cell_of hS zq1; have y7 := cell_of hS zq2; have y8 := cell_of hS zr0; have y9 := cell_of hS zr1; have y10 := cell_of hS zr2; go_simp; exact ⟨rfl, hS⟩)⟩) rfl (by go_simp; rfl) ?_
  refine wpAnyS_take (i := 8) rfl (by kernel_rfl) (by kernel_rfl) (by kernel_rfl) (fun _ _ _ h => h) (.inl ⟨by kernel_rfl, fun w' hS => (by have y0 := cell_of hS z00; have y1 := cell_of hS z01; have y2 := cell_of hS zp0; have y3 := cell_of hS zp1; have y4 := cell_of hS zp2; have y5 := cell_of hS zq0; have y6 := cell_of hS zq1; have y7 := cell_of hS zq2; have y8 := cell_of hS zr0; have y9 := cell_of hS zr1; have y10 := cell_of hS zr2; go_simp; exact ⟨rfl, hS⟩)⟩) rfl (by go_simp; rfl) ?_
  refine wpAnyS_take (i := 9) rfl (by kernel_rfl) (by kernel_rfl) (by kernel_rfl) (fun _ _ _ h => h) (.inl ⟨by kernel_rfl, fun w' hS => (by have y0 := cell_of hS z00; have y1 := cell_of hS z01; have y2 := cell_of hS zp0; have y3 := cell_of hS zp1; have y4 := cell_of hS zp2; have y5 := cell_of hS zq0; have y6 := cell_of hS zq1; have y7 := cell_of hS zq2; have y8 := cell_of hS zr0; have y9 := cell_of hS zr1; have y10 := cell_of hS zr2; go_simp; exact ⟨rfl, hS⟩)⟩) rfl (by go_simp; rfl) ?_
  refine wpAnyS_take (i := 10) rfl (by kernel_rfl) (by kernel_rfl) (by kernel_rfl) (fun _ _ _ h => h) (.inl ⟨by kernel_rfl, fun w' hS => (by have y0 := cell_of hS z00; have y1 := cell_of hS z01; have y2 := cell_of hS zp0; have y3 := cell_of hS zp1; have y4 := cell_of hS zp2; have y5 := cell_of hS zq0; have y6 := cell_of hS zq1; have y7 := cell_of hS zq2; have y8 := cell_of hS zr0; have y9 := cell_of hS zr1; have y10 := cell_of hS zr2; go_simp; exact ⟨rfl, hS⟩)⟩) rfl (by go_simp; rfl) ?_
  refine wpAnyS_take (i := 11) rfl (by kernel_rfl) (by kernel_rfl) (by kernel_rfl) (fun _ _ _ h => h) (.inl ⟨by kernel_rfl, fun w' hS => (by have y0 := cell_of hS z00; have y1 := cell_of hS z01; have y2 := cell_of hS zp0; have y3 := cell_of hS zp1; have y4 := cell_of hS zp2; have y5 := cell_of hS zq0; have y6 := cell_of hS zq1; have y7 := cell_of hS zq2; have y8 := cell_of hS zr0; have y9 := cell_of hS zr1; have y10 := cell_of hS zr2; go_simp; exact ⟨rfl, hS⟩)⟩) rfl (by go_simp; rfl) ?_
  refine wpAnyS_take (i := 12) rfl (by kernel_rfl) (by kernel_rfl) (by kernel_rfl) (fun _ _ _ h => h) (.inl ⟨by kernel_rfl, fun w' hS => (by have y0 := cell_of hS z00; have y1 := cell_of hS z01; have y2 := cell_of hS zp0; have y3 := cell_of hS zp1; have y4 := cell_of hS zp2; have y5 := cell_of hS zq0; have y6 := cell_of hS zq1; have y7 := cell_of hS zq2; have y8 := cell_of hS zr0; have y9 := cell_of hS zr1; have y10 := cell_of hS zr2; go_simp; exact ⟨rfl, hS⟩)⟩) rfl (by go_simp; rfl) ?_
  refine wpAnyS_take (i := 13) rfl (by kernel_rfl) (by kernel_rfl) (by kernel_rfl) (fun _ _ _ h => h) (.inl ⟨by kernel_rfl, fun w' hS => (by have y0 := cell_of hS z00; have y1 := cell_of hS z01; have y2 := cell_of hS zp0; have y3 := cell_of hS zp1; have y4 := cell_of hS zp2; have y5 := cell_of hS zq0; have y6 := cell_of hS zq1; have y7 := cell_of hS zq2; have y8 := cell_of hS zr0; have y9 := cell_of hS zr1; have y10 := cell_of hS zr2; go_simp; exact ⟨rfl, hS⟩)⟩) rfl (by go_simp; rfl) ?_
  refine wpAnyS_take (i := 14) rfl (by kernel_rfl) (by kernel_rfl) (by kernel_rfl) (fun _ _ _ h => h) (.inl ⟨by kernel_rfl, fun w' hS => (by have y0 := cell_of hS z00; have y1 := cell_of hS z01; have y2 := cell_of hS zp0; have y3 := cell_of hS zp1; have y4 := cell_of hS zp2; have y5 := cell_of hS zq0; have y6 := cell_of hS zq1; have y7 := cell_of hS zq2; have y8 := cell_of hS zr0; have y9 := cell_of hS zr1; have y10 := cell_of hS zr2; go_simp; exact ⟨rfl, hS⟩)⟩) rfl (by go_simp; rfl) ?_
  refine wpAnyS_done (by kernel_rfl) (fun w14 hS => ?_) _
  have HB14 := Lib.hid (HB13.out.trans (hS.mono HB13.out.size))
  have TW14 := Lib.hid (TW13.out.below hS)
  replace z00 := cell_of hS z00
  replace z01 := cell_of hS z01
  replace zp0 := cell_of hS zp0
  replace zp1 := cell_of hS zp1
  replace zp2 := cell_of hS zp2
  replace zq0 := cell_of hS zq0
  replace zq1 := cell_of hS zq1
  replace zq2 := cell_of hS zq2
  replace zr0 := cell_of hS zr0
  replace zr1 := cell_of hS zr1
  replace zr2 := cell_of hS zr2
  clear hS TW HB13 TW13
  go_wp2
  go_ret
  exact ⟨rfl, HB14.out⟩

set_option maxRecDepth 100000 in
set_option maxHeartbeats 8000000 in
theorem turnPlace_else (ak : Int) (aq : Nat) (ha40 : aq ≤ 40) (h0 : -1099511627776 ≤ ak) (h1 : ak ≤ 1099511627776) (e k q n m : Nat) (N : PartOk (val ak aq) e k q n m) (hk0 : k ≠ 0) (hed : m ≠ n) (w : World) (ht : Tab w) : Calls Tryd.prog 8 #[Ag ak aq] w (Says w true) := by
  have T0 := Lib.hid ht
  have HA := Lib.hid (isR_true (k := ak) (q := aq) ⟨by omega, by omega, h0, h1⟩)
  obtain ⟨hq1, hq2⟩ := quarter (val ak aq)
  obtain ⟨ho1, ho2⟩ := opposite (val ak aq)
  replace ho2 := ho2 (part_edge N hk0 hed)
  have VP : Hid (PT (val ak aq) = .agg #[.int .i64 e, .int .i64 k, .int .i64 q]) := Lib.hid N.pt
  have he8 := N.e8
  have hee := N.ee
  obtain ⟨e2, he2⟩ : ∃ e2, eig (val ak aq + 274877906944) = e2 := ⟨_, rfl⟩
  obtain ⟨e3, he3⟩ : ∃ e3, eig (- val ak aq) = e3 := ⟨_, rfl⟩
  have VPT : ∀ B x, eig B = x → rst B % 1099511627776 = rst (val ak aq) % 1099511627776 → PT B = .agg #[.int .i64 x, .int .i64 k, .int .i64 q] := fun B x hx hr => by
    have h := VP.out
    rw [PT] at h
    rw [PT, hx, fk_congr hr, fq_congr hr]
    simp only [Value.agg.injEq, Array.mk.injEq, List.cons.injEq, Value.int.injEq, and_true, true_and] at h ⊢
    exact ⟨h.2.1, h.2.2⟩
  obtain ⟨sk, sq, hs40, vs, hvs⟩ : ∃ sk sq : Nat, sq ≤ 40 ∧ T (val ak aq + val 1 2) = .agg #[.int .i64 sk, .int .i64 sq] ∧ val sk sq % 1099511627776 = (val ak aq + 274877906944) % 1099511627776 := ⟨_, _, fq_le _, rfl, by rw [val_form_mod, val12]⟩
  obtain ⟨nk, nq, hn40, vn, hvn⟩ : ∃ nk nq : Nat, nq ≤ 40 ∧ T (- val ak aq) = .agg #[.int .i64 nk, .int .i64 nq] ∧ val nk nq % 1099511627776 = (- val ak aq) % 1099511627776 := ⟨_, _, fq_le _, rfl, val_form_mod _⟩
  have VS := Lib.hid vs
  have VF := Lib.hid vn
  have VPS : Hid (PT (val sk sq) = .agg #[.int .i64 e2, .int .i64 k, .int .i64 q]) := Lib.hid (by rw [PT_congr hvs]; exact VPT _ _ he2 hq2)
  have VPF : Hid (PT (val nk nq) = .agg #[.int .i64 e3, .int .i64 k, .int .i64 q]) := Lib.hid (by rw [PT_congr hvn]; exact VPT _ _ he3 ho1)
  have hq1' : e2 = (e + 2) % 8 := by rw [← he2, hq1, hee]
  obtain ⟨a1, a2, a3⟩ := p_quarter e he8
  rw [← hq1'] at a1 a2 a3
  obtain ⟨pa, hpa⟩ : ∃ pa, p1 (e : Int) = pa := ⟨_, rfl⟩
  obtain ⟨pb, hpb⟩ : ∃ pb, p2 (e : Int) = pb := ⟨_, rfl⟩
  obtain ⟨pc, hpc⟩ : ∃ pc, p3 (e : Int) = pc := ⟨_, rfl⟩
  obtain ⟨b1, b2, b3⟩ := p_opposite e e3 (by rw [← he3, ← hee]; exact ho2)
  rw [hpa] at b1
  rw [hpb] at b2
  rw [hpc] at b3
  have R1 := Lib.hid b1
  have R2 := Lib.hid b2
  have R3 := Lib.hid b3
  clear b1 b2 b3 ho2
  rw [hpa] at a1
  rw [hpc] at a2
  rw [hpb] at a3
  have P1 := Lib.hid hpa
  have P2 := Lib.hid hpb
  have P3 := Lib.hid hpc
  have Q1 := Lib.hid a1
  have Q2 := Lib.hid a2
  have Q3 := Lib.hid a3
  have hwn := N.nn
  have hwm := N.mm
  have hq41 : (q : Int) ≤ 40 := by have : q ≤ 40 := N.q40; omega
  have hk1 : ((k : Int) == 0) = false := by apply beq_false_of_ne; omega
  have dq1 : ((m : Int) == n) = false := by apply beq_false_of_ne; omega
  clear hed
  clear ht a1 a2 a3 hpa hpb hpc N VPT vs hvs vn hvn hq1 hq2 ho1 hq1' hee he2 he3 he8
  go_enter Tryd.func8, Tryd.ntmps8
  go_wp2_with fail
  obtain ⟨w0, hW⟩ : ∃ w0, (w.alloc (.cells #[.int .i64 ak, .int .i64 aq] 23)) = w0 := ⟨_, rfl⟩
  have HB0 : Hid (Below w.heap.size w w0) := Lib.hid (by rw [← hW]; exact ((Below.refl w.heap.size w).alloc (by first | exact Nat.le_refl _ | (simp; done) | (simp; omega)) _))
  have TW0 := Lib.hid (T0.out.below HB0.out)
  have z00 : w0.cell? ⟨w.heap.size, 0, none⟩ = some (.int .i64 ak) := by rw [← hW]; simp [go_sem]
  have z01 : w0.cell? ⟨w.heap.size, 1, none⟩ = some (.int .i64 aq) := by rw [← hW]; simp [go_sem]
  rw [hW]
  clear hW
  refine Calls.mono (l6_head _ TW0.out) ?_
  rintro e' w1 ⟨rfl, hb⟩
  have HB1 := Lib.hid (HB0.out.trans (hb.mono HB0.out.size))
  have TW1 := Lib.hid (TW0.out.below hb)
  replace z00 := cell_of hb z00
  replace z01 := cell_of hb z01
  clear hb HB0 TW0
  go_wp2_with fail
  refine Calls.mono (right13 ak aq _) ?_
  rintro e' w2 ⟨rfl, hb⟩
  rw [HA.out]
  have HB2 := Lib.hid (HB1.out.trans (hb.mono HB1.out.size))
  have TW2 := Lib.hid (TW1.out.below hb)
  replace z00 := cell_of hb z00
  replace z01 := cell_of hb z01
  clear hb HB1 TW1
  go_wp2_with fail
  refine Calls.mono (split14i ak aq aq rfl ha40 _ VP.out _ TW2.out) ?_
  rintro e' w3 ⟨rfl, hb⟩
  have HB3 := Lib.hid (HB2.out.trans (hb.mono HB2.out.size))
  have TW3 := Lib.hid (TW2.out.below hb)
  replace z00 := cell_of hb z00
  replace z01 := cell_of hb z01
  clear hb HB2 TW2
  have hlt := cell_lt z00
  go_wp2_with fail
  obtain ⟨w4, hW⟩ : ∃ w4, w3.alloc (.cells #[.int .i64 e, .int .i64 k, .int .i64 q] 29) = w4 := ⟨_, rfl⟩
  have hb : Below w3.heap.size w3 w4 := by rw [← hW]; exact (Below.refl _ _).alloc (Nat.le_refl _) _
  have HB4 := Lib.hid (HB3.out.trans (hb.mono HB3.out.size))
  have TW4 := Lib.hid (TW3.out.below hb)
  replace z00 := cell_of hb z00
  replace z01 := cell_of hb z01
  have zp0 : w4.cell? ⟨w3.heap.size, 0, none⟩ = some (.int .i64 e) := by rw [← hW]; simp [go_sem]
  have zp1 : w4.cell? ⟨w3.heap.size, 1, none⟩ = some (.int .i64 k) := by rw [← hW]; simp [go_sem]
  have zp2 : w4.cell? ⟨w3.heap.size, 2, none⟩ = some (.int .i64 q) := by rw [← hW]; simp [go_sem]
  rw [hW]
  clear hW hb HB3 TW3
  refine Calls.mono (add18i ak aq 1 2 aq 2 rfl rfl ha40 (by decide) _ VS.out _ TW4.out) ?_
  rintro e' w5 ⟨rfl, hb⟩
  have HB5 := Lib.hid (HB4.out.trans (hb.mono HB4.out.size))
  have TW5 := Lib.hid (TW4.out.below hb)
  replace z00 := cell_of hb z00
  replace z01 := cell_of hb z01
  replace zp0 := cell_of hb zp0
  replace zp1 := cell_of hb zp1
  replace zp2 := cell_of hb zp2
  clear hb HB4 TW4
  go_wp2_with fail
  refine Calls.mono (split14i sk sq sq rfl hs40 _ VPS.out _ TW5.out) ?_
  rintro e' w6 ⟨rfl, hb⟩
  have HB6 := Lib.hid (HB5.out.trans (hb.mono HB5.out.size))
  have TW6 := Lib.hid (TW5.out.below hb)
  replace z00 := cell_of hb z00
  replace z01 := cell_of hb z01
  replace zp0 := cell_of hb zp0
  replace zp1 := cell_of hb zp1
  replace zp2 := cell_of hb zp2
  clear hb HB5 TW5
  clear hlt
  have hlt := cell_lt z00
  go_wp2_with fail
  obtain ⟨w7, hW⟩ : ∃ w7, w6.alloc (.cells #[.int .i64 e2, .int .i64 k, .int .i64 q] 29) = w7 := ⟨_, rfl⟩
  have hb : Below w6.heap.size w6 w7 := by rw [← hW]; exact (Below.refl _ _).alloc (Nat.le_refl _) _
  have HB7 := Lib.hid (HB6.out.trans (hb.mono HB6.out.size))
  have TW7 := Lib.hid (TW6.out.below hb)
  replace z00 := cell_of hb z00
  replace z01 := cell_of hb z01
  replace zp0 := cell_of hb zp0
  replace zp1 := cell_of hb zp1
  replace zp2 := cell_of hb zp2
  have zq0 : w7.cell? ⟨w6.heap.size, 0, none⟩ = some (.int .i64 e2) := by rw [← hW]; simp [go_sem]
  have zq1 : w7.cell? ⟨w6.heap.size, 1, none⟩ = some (.int .i64 k) := by rw [← hW]; simp [go_sem]
  have zq2 : w7.cell? ⟨w6.heap.size, 2, none⟩ = some (.int .i64 q) := by rw [← hW]; simp [go_sem]
  rw [hW]
  clear hW hb HB6 TW6
  refine Calls.mono (flip20i ak aq aq rfl ha40 (by omega) (by omega) _ VF.out _ TW7.out) ?_
  rintro e' w8 ⟨rfl, hb⟩
  have HB8 := Lib.hid (HB7.out.trans (hb.mono HB7.out.size))
  have TW8 := Lib.hid (TW7.out.below hb)
  replace z00 := cell_of hb z00
  replace z01 := cell_of hb z01
  replace zp0 := cell_of hb zp0
  replace zp1 := cell_of hb zp1
  replace zp2 := cell_of hb zp2
  replace zq0 := cell_of hb zq0
  replace zq1 := cell_of hb zq1
  replace zq2 := cell_of hb zq2
  clear hb HB7 TW7
  go_wp2_with fail
  refine Calls.mono (split14i nk nq nq rfl hn40 _ VPF.out _ TW8.out) ?_
  rintro e' w9 ⟨rfl, hb⟩
  have HB9 := Lib.hid (HB8.out.trans (hb.mono HB8.out.size))
  have TW9 := Lib.hid (TW8.out.below hb)
  replace z00 := cell_of hb z00
  replace z01 := cell_of hb z01
  replace zp0 := cell_of hb zp0
  replace zp1 := cell_of hb zp1
  replace zp2 := cell_of hb zp2
  replace zq0 := cell_of hb zq0
  replace zq1 := cell_of hb zq1
  replace zq2 := cell_of hb zq2
  clear hb HB8 TW8
  clear hlt
  have hlt := cell_lt z00
  have hlp := cell_lt zp0
  have hlq := cell_lt zq0
  go_wp2_with fail
  obtain ⟨w10, hW⟩ : ∃ w10, w9.alloc (.cells #[.int .i64 e3, .int .i64 k, .int .i64 q] 29) = w10 := ⟨_, rfl⟩
  have hb : Below w9.heap.size w9 w10 := by rw [← hW]; exact (Below.refl _ _).alloc (Nat.le_refl _) _
  have HB10 := Lib.hid (HB9.out.trans (hb.mono HB9.out.size))
  have TW10 := Lib.hid (TW9.out.below hb)
  replace z00 := cell_of hb z00
  replace z01 := cell_of hb z01
  replace zp0 := cell_of hb zp0
  replace zp1 := cell_of hb zp1
  replace zp2 := cell_of hb zp2
  replace zq0 := cell_of hb zq0
  replace zq1 := cell_of hb zq1
  replace zq2 := cell_of hb zq2
  have zr0 : w10.cell? ⟨w9.heap.size, 0, none⟩ = some (.int .i64 e3) := by rw [← hW]; simp [go_sem]
  have zr1 : w10.cell? ⟨w9.heap.size, 1, none⟩ = some (.int .i64 k) := by rw [← hW]; simp [go_sem]
  have zr2 : w10.cell? ⟨w9.heap.size, 2, none⟩ = some (.int .i64 q) := by rw [← hW]; simp [go_sem]
  rw [hW]
  clear hW hb HB9 TW9
  refine Calls.mono (place10 e _) ?_
  rintro e' w11 ⟨rfl, hb⟩
  rw [P1.out]
  rw [P2.out]
  rw [P3.out]
  have HB11 := Lib.hid (HB10.out.trans (hb.mono HB10.out.size))
  have TW11 := Lib.hid (TW10.out.below hb)
  replace z00 := cell_of hb z00
  replace z01 := cell_of hb z01
  replace zp0 := cell_of hb zp0
  replace zp1 := cell_of hb zp1
  replace zp2 := cell_of hb zp2
  replace zq0 := cell_of hb zq0
  replace zq1 := cell_of hb zq1
  replace zq2 := cell_of hb zq2
  replace zr0 := cell_of hb zr0
  replace zr1 := cell_of hb zr1
  replace zr2 := cell_of hb zr2
  clear hb HB10 TW10
  go_wp2_with fail
  refine Calls.mono (place10 e2 _) ?_
  rintro e' w12 ⟨rfl, hb⟩
  rw [Q1.out]
  rw [Q2.out]
  rw [Q3.out]
  have HB12 := Lib.hid (HB11.out.trans (hb.mono HB11.out.size))
  have TW12 := Lib.hid (TW11.out.below hb)
  replace z00 := cell_of hb z00
  replace z01 := cell_of hb z01
  replace zp0 := cell_of hb zp0
  replace zp1 := cell_of hb zp1
  replace zp2 := cell_of hb zp2
  replace zq0 := cell_of hb zq0
  replace zq1 := cell_of hb zq1
  replace zq2 := cell_of hb zq2
  replace zr0 := cell_of hb zr0
  replace zr1 := cell_of hb zr1
  replace zr2 := cell_of hb zr2
  clear hb HB11 TW11
  go_wp2_with fail
  refine Calls.mono (place10 e3 _) ?_
  rintro e' w13 ⟨rfl, hb⟩
  rw [R1.out]
  rw [R2.out]
  rw [R3.out]
  have HB13 := Lib.hid (HB12.out.trans (hb.mono HB12.out.size))
  have TW13 := Lib.hid (TW12.out.below hb)
  replace z00 := cell_of hb z00
  replace z01 := cell_of hb z01
  replace zp0 := cell_of hb zp0
  replace zp1 := cell_of hb zp1
  replace zp2 := cell_of hb zp2
  replace zq0 := cell_of hb zq0
  replace zq1 := cell_of hb zq1
  replace zq2 := cell_of hb zq2
  replace zr0 := cell_of hb zr0
  replace zr1 := cell_of hb zr1
  replace zr2 := cell_of hb zr2
  clear hb HB12 TW12
  go_wp2_with fail
  have TW := TW13
  refine wp_region_det (S := Below w13.heap.size w13) (by kernel_rfl) (Below.refl _ w13).drew ?_
  refine wpAnyS_take (i := 0) rfl (by kernel_rfl) (by kernel_rfl) (by kernel_rfl) (fun _ _ _ h => h) (.inl ⟨by kernel_rfl, fun w' hS => (by have y0 := cell_of hS z00; have y1 := cell_of hS z01; have y2 := cell_of hS zp0; have y3 := cell_of hS zp1; have y4 := cell_of hS zp2; have y5 := cell_of hS zq0; have y6 := cell_of hS zq1; have y7 := cell_of hS zq2; have y8 := cell_of hS zr0; have y9 := cell_of hS zr1; have y10 := cell_of hS zr2; go_simp; exact ⟨rfl, hS⟩)⟩) rfl (by go_simp; rfl) ?_
  refine wpAnyS_take (i := 1) rfl (by kernel_rfl) (by kernel_rfl) (by kernel_rfl) (fun _ _ _ h => h) (.inl ⟨by kernel_rfl, fun w' hS => (by have y0 := cell_of hS z00; have y1 := cell_of hS z01; have y2 := cell_of hS zp0; have y3 := cell_of hS zp1; have y4 := cell_of hS zp2; have y5 := cell_of hS zq0; have y6 := cell_of hS zq1; have y7 := cell_of hS zq2; have y8 := cell_of hS zr0; have y9 := cell_of hS zr1; have y10 := cell_of hS zr2; go_simp; exact ⟨rfl, hS⟩)⟩) rfl (by go_simp; rfl) ?_
  refine wpAnyS_take (i := 2) rfl (by kernel_rfl) (by kernel_rfl) (by kernel_rfl) (fun _ _ _ h => h) (.inl ⟨by kernel_rfl, fun w' hS => (by have y0 := cell_of hS z00; have y1 := cell_of hS z01; have y2 := cell_of hS zp0; have y3 := cell_of hS zp1; have y4 := cell_of hS zp2; have y5 := cell_of hS zq0; have y6 := cell_of hS zq1; have y7 := cell_of hS zq2; have y8 := cell_of hS zr0; have y9 := cell_of hS zr1; have y10 := cell_of hS zr2; go_simp; exact ⟨rfl, hS⟩)⟩) rfl (by go_simp; rfl) ?_
  refine wpAnyS_take (i := 3) rfl (by kernel_rfl) (by kernel_rfl) (by kernel_rfl) (fun _ _ _ h => h) (.inl ⟨by kernel_rfl, fun w' hS => (by have y0 := cell_of hS z00; have y1 := cell_of hS z01; have y2 := cell_of hS zp0; have y3 := cell_of hS zp1; have y4 := cell_of hS zp2; have y5 := cell_of hS zq0; have y6 := cell_of hS zq1; have y7 := cell_of hS zq2; have y8 := cell_of hS zr0; have y9 := cell_of hS zr1; have y10 := cell_of hS zr2; go_simp; exact ⟨rfl, hS⟩)⟩) rfl (by go_simp; rfl) ?_
  refine wpAnyS_take (i := 4) rfl (by kernel_rfl) (by kernel_rfl) (by kernel_rfl) (fun _ _ _ h => h) (.inl ⟨by kernel_rfl, fun w' hS => (by have y0 := cell_of hS z00; have y1 := cell_of hS z01; have y2 := cell_of hS zp0; have y3 := cell_of hS zp1; have y4 := cell_of hS zp2; have y5 := cell_of hS zq0; have y6 := cell_of hS zq1; have y7 := cell_of hS zq2; have y8 := cell_of hS zr0; have y9 := cell_of hS zr1; have y10 := cell_of hS zr2; go_simp; exact ⟨rfl, hS⟩)⟩) rfl (by go_simp; rfl) ?_
  refine wpAnyS_take (i := 5) rfl (by kernel_rfl) (by kernel_rfl) (by kernel_rfl) (fun _ _ _ h => h) (.inl ⟨by kernel_rfl, fun w' hS => (by have y0 := cell_of hS z00; have y1 := cell_of hS z01; have y2 := cell_of hS zp0; have y3 := cell_of hS zp1; have y4 := cell_of hS zp2; have y5 := cell_of hS zq0; have y6 := cell_of hS zq1; have y7 := cell_of hS zq2; have y8 := cell_of hS zr0; have y9 := cell_of hS zr1; have y10 := cell_of hS zr2; go_simp; exact ⟨rfl, hS⟩)⟩) rfl (by go_simp; rfl) ?_
  refine wpAnyS_take (i := 6) rfl (by kernel_rfl) (by kernel_rfl) (by kernel_rfl) (fun _ _ _ h => h) (.inl ⟨by kernel_rfl, fun w' hS => (by have y0 := cell_of hS z00; have y1 := cell_of hS z01; have y2 := cell_of hS zp0; have y3 := cell_of hS zp1; have y4 := cell_of hS zp2; have y5 := cell_of hS zq0; have y6 := cell_of hS zq1; have y7 := cell_of hS zq2; have y8 := cell_of hS zr0; have y9 := cell_of hS zr1; have y10 := cell_of hS zr2; go_simp; exact ⟨rfl, hS⟩)⟩) rfl (by go_simp; rfl) ?_
  refine wpAnyS_take (i := 7) rfl (by kernel_rfl) (by kernel_rfl) (by kernel_rfl) (fun _ _ _ h => h) (.inl ⟨by kernel_rfl, fun w' hS => (by have y0 := cell_of hS z00; have y1 := cell_of hS z01; have y2 := cell_of hS zp0; have y3 := cell_of hS zp1; have y4 := cell_of hS zp2; have y5 := cell_of hS zq0; have y6 := cell_of hS zq1; have y7 := cell_of hS zq2; have y8 := cell_of hS zr0; have y9 := cell_of hS zr1; have y10 := cell_of hS zr2; go_simp; exact ⟨rfl, hS⟩)⟩) rfl (by go_simp; rfl) ?_
  refine wpAnyS_take (i := 8) rfl (by kernel_rfl) (by kernel_rfl) (by kernel_rfl) (fun _ _ _ h => h) (.inl ⟨by kernel_rfl, fun w' hS => (by have y0 := cell_of hS z00; have y1 := cell_of hS z01; have y2 := cell_of hS zp0; have y3 := cell_of hS zp1; have y4 := cell_of hS zp2; have y5 := cell_of hS zq0; have y6 := cell_of hS zq1; have y7 := cell_of hS zq2; have y8 := cell_of hS zr0; have y9 := cell_of hS zr1; have y10 := cell_of hS zr2; go_simp; exact ⟨rfl, hS⟩)⟩) rfl (by go_simp; rfl) ?_
  refine wpAnyS_take (i := 9) rfl (by kernel_rfl) (by kernel_rfl) (by kernel_rfl) (fun _ _ _ h => h) (.inl ⟨by kernel_rfl, fun w' hS => (by have y0 := cell_of hS z00; have y1 := cell_of hS z01; have y2 := cell_of hS zp0; have y3 := cell_of hS zp1; have y4 := cell_of hS zp2; have y5 := cell_of hS zq0; have y6 := cell_of hS zq1; have y7 := cell_of hS zq2; have y8 := cell_of hS zr0; have y9 := cell_of hS zr1; have y10 := cell_of hS zr2; go_simp; exact ⟨rfl, hS⟩)⟩) rfl (by go_simp; rfl) ?_
  refine wpAnyS_take (i := 10) rfl (by kernel_rfl) (by kernel_rfl) (by kernel_rfl) (fun _ _ _ h => h) (.inl ⟨by kernel_rfl, fun w' hS => (by have y0 := cell_of hS z00; have y1 := cell_of hS z01; have y2 := cell_of hS zp0; have y3 := cell_of hS zp1; have y4 := cell_of hS zp2; have y5 := cell_of hS zq0; have y6 := cell_of hS zq1; have y7 := cell_of hS zq2; have y8 := cell_of hS zr0; have y9 := cell_of hS zr1; have y10 := cell_of hS zr2; go_simp; exact ⟨rfl, hS⟩)⟩) rfl (by go_simp; rfl) ?_
  refine wpAnyS_take (i := 11) rfl (by kernel_rfl) (by kernel_rfl) (by kernel_rfl) (fun _ _ _ h => h) (.inl ⟨by kernel_rfl, fun w' hS => (by have y0 := cell_of hS z00; have y1 := cell_of hS z01; have y2 := cell_of hS zp0; have y3 := cell_of hS zp1; have y4 := cell_of hS zp2; have y5 := cell_of hS zq0; have y6 := cell_of hS zq1; have y7 := cell_of hS zq2; have y8 := cell_of hS zr0; have y9 := cell_of hS zr1; have y10 := cell_of hS zr2; go_simp; exact ⟨rfl, hS⟩)⟩) rfl (by go_simp; rfl) ?_
  refine wpAnyS_take (i := 12) rfl (by kernel_rfl) (by kernel_rfl) (by kernel_rfl) (fun _ _ _ h => h) (.inl ⟨by kernel_rfl, fun w' hS => (by have y0 := cell_of hS z00; have y1 := cell_of hS z01; have y2 := cell_of hS zp0; have y3 := cell_of hS zp1; have y4 := cell_of hS zp2; have y5 := cell_of hS zq0; have y6 := cell_of hS zq1; have y7 := cell_of hS zq2; have y8 := cell_of hS zr0; have y9 := cell_of hS zr1; have y10 := cell_of hS zr2; go_simp; exact ⟨rfl, hS⟩)⟩) rfl (by go_simp; rfl) ?_
  refine wpAnyS_take (i := 13) rfl (by kernel_rfl) (by kernel_rfl) (by kernel_rfl) (fun _ _ _ h => h) (.inl ⟨by kernel_rfl, fun w' hS => (by have y0 := cell_of hS z00; have y1 := cell_of hS z01; have y2 := cell_of hS zp0; have y3 := cell_of hS zp1; have y4 := cell_of hS zp2; have y5 := cell_of hS zq0; have y6 := cell_of hS zq1; have y7 := cell_of hS zq2; have y8 := cell_of hS zr0; have y9 := cell_of hS zr1; have y10 := cell_of hS zr2; go_simp; exact ⟨rfl, hS⟩)⟩) rfl (by go_simp; rfl) ?_
  refine wpAnyS_take (i := 14) rfl (by kernel_rfl) (by kernel_rfl) (by kernel_rfl) (fun _ _ _ h => h) (.inl ⟨by kernel_rfl, fun w' hS => (by have y0 := cell_of hS z00; have y1 := cell_of hS z01; have y2 := cell_of hS zp0; have y3 := cell_of hS zp1; have y4 := cell_of hS zp2; have y5 := cell_of hS zq0; have y6 := cell_of hS zq1; have y7 := cell_of hS zq2; have y8 := cell_of hS zr0; have y9 := cell_of hS zr1; have y10 := cell_of hS zr2; go_simp; exact ⟨rfl, hS⟩)⟩) rfl (by go_simp; rfl) ?_
  refine wpAnyS_done (by kernel_rfl) (fun w14 hS => ?_) _
  have HB14 := Lib.hid (HB13.out.trans (hS.mono HB13.out.size))
  have TW14 := Lib.hid (TW13.out.below hS)
  replace z00 := cell_of hS z00
  replace z01 := cell_of hS z01
  replace zp0 := cell_of hS zp0
  replace zp1 := cell_of hS zp1
  replace zp2 := cell_of hS zp2
  replace zq0 := cell_of hS zq0
  replace zq1 := cell_of hS zq1
  replace zq2 := cell_of hS zq2
  replace zr0 := cell_of hS zr0
  replace zr1 := cell_of hS zr1
  replace zr2 := cell_of hS zr2
  clear hS TW HB13 TW13
  go_wp2
  go_ret
  exact ⟨rfl, HB14.out⟩

theorem turnPlace_no (k q : Int) (hr : isR k q = false) (w : World) (ht : Tab w) : Calls Tryd.prog 8 #[Ag k q] w (Says w true) := by
  have T0 := Lib.hid ht
  have HR := Lib.hid hr
  clear ht hr
  go_enter Tryd.func8, Tryd.ntmps8
  go_wp2_with fail
  obtain ⟨w0, hW⟩ : ∃ w0, (w.alloc (.cells #[.int .i64 k, .int .i64 q] 23)) = w0 := ⟨_, rfl⟩
  have HB0 : Hid (Below w.heap.size w w0) := Lib.hid (by rw [← hW]; exact ((Below.refl w.heap.size w).alloc (by first | exact Nat.le_refl _ | (simp; done) | (simp; omega)) _))
  have TW0 := Lib.hid (T0.out.below HB0.out)
  have z00 : w0.cell? ⟨w.heap.size, 0, none⟩ = some (.int .i64 k) := by rw [← hW]; simp [go_sem]
  have z01 : w0.cell? ⟨w.heap.size, 1, none⟩ = some (.int .i64 q) := by rw [← hW]; simp [go_sem]
  rw [hW]
  clear hW
  refine Calls.mono (l6_head _ TW0.out) ?_
  rintro e' w1 ⟨rfl, hb⟩
  have HB1 := Lib.hid (HB0.out.trans (hb.mono HB0.out.size))
  have TW1 := Lib.hid (TW0.out.below hb)
  replace z00 := cell_of hb z00
  replace z01 := cell_of hb z01
  clear hb HB0 TW0
  go_wp2_with fail
  refine Calls.mono (right13 k q _) ?_
  rintro e' w2 ⟨rfl, hb⟩
  rw [HR.out]
  have HB2 := Lib.hid (HB1.out.trans (hb.mono HB1.out.size))
  have TW2 := Lib.hid (TW1.out.below hb)
  replace z00 := cell_of hb z00
  replace z01 := cell_of hb z01
  clear hb HB1 TW1
  go_wp2
  go_ret
  exact ⟨rfl, HB2.out⟩

theorem turnPlace_walk (ak aq : Int) (w : World) (ht : Tab w) : Calls Tryd.prog 8 #[Ag ak aq] w (Says w true) := by
  by_cases h : 0 ≤ aq ∧ aq ≤ 40 ∧ -1099511627776 ≤ ak ∧ ak ≤ 1099511627776
  · obtain ⟨i, rfl⟩ : ∃ i : Nat, aq = i := ⟨aq.toNat, (Int.toNat_of_nonneg h.1).symm⟩
    obtain ⟨e, k, q, n, m, N⟩ := partOk (val ak i)
    rcases N.none with ⟨hk, hq⟩ | hk
    · exact turnPlace_none ak i (by omega) h.2.2.1 h.2.2.2 e k q n m N hk hq w ht
    · by_cases hm : m = n
      · exact turnPlace_edge ak i (by omega) h.2.2.1 h.2.2.2 e k q n m N hk hm w ht
      · exact turnPlace_else ak i (by omega) h.2.2.1 h.2.2.2 e k q n m N hk hm w ht
  · exact turnPlace_no ak aq (isR_false h) w ht
end Go.Proofs.YtaempngakollpaaDoor
