/- The document's root of any float: contract. No condition. -/
import Derived.Test.YtemneeknemijpaaRv
set_option maxRecDepth 100000
namespace Go.Proofs.Ytemneeknemijpaa
open Go.RowKit

namespace Fl
open Ieee
theorem fsqrt_nan' {x : Nat} (h : isNaN x = true) : fsqrt x = qnan := by
  unfold fsqrt Format.sqrt
  unfold isNaN at h
  cases e : D.read x <;> rw [e] at h <;> simp [Datum.isNaN] at h
  rfl
theorem fsqrt_inf' {x : Nat} {s : Bool} (h : D.read x = .infinity s) : fsqrt x = if s then qnan else D.word false (2047 * 2 ^ 52) := by
  unfold fsqrt Format.sqrt
  rw [h]
  cases s <;> rfl
theorem fsqrt_zero' {x : Nat} (hx : Fin x) (h : rg x = 0) : fsqrt x = x := by
  unfold fsqrt Format.sqrt
  rw [read_fin hx, show mant (rg x) = 0 from mant_zero'.2 h]
  show (some (D.write (Datum.number (sg x) 0 _))).getD qnan = x
  simp only [Option.getD_some, Format.write, nearest_eq]
  have e : rung 0 (((ex (rg x) : Nat) : Int) - 1074) = rg x := by rw [h]; rfl
  rw [e, word_split hx.1]
theorem fsqrt_neg' {x : Nat} (hx : Fin x) (hs : sg x = true) (h : rg x ≠ 0) : fsqrt x = qnan := by
  unfold fsqrt Format.sqrt
  rw [read_fin hx, hs]
  unfold Datum.root
  simp only [if_neg (mt mant_zero'.1 h), if_true]
  rfl
/-- the root, told with other places -/
theorem root_same {a k : Nat} {e : Int} (ha : Fin a) (hpos : 0 < V a) (hk : 160 ≤ k) (he : dE (V a) (-1074) - k = 2 * e) : fsqrt a = D.word false (rndS (stq (dM (V a) * 2 ^ k)) (e - 1 + 1074)) := by
  have hs : sg a = false := by rw [sg_nz (by omega)]; exact decide_eq_false (by omega)
  have hm : rg a ≠ 0 := by
    intro h0
    have : V a = 0 := by unfold V mg; rw [h0, hs]; rfl
    omega
  obtain ⟨n, f, t, hn1, hn2, hn, hf, hq⟩ := fsqrt_val ha hs hm
  have hV : V a = ((mant (rg a) * 2 ^ ex (rg a) : Nat) : Int) := by
    have := V_eq a
    rw [hs] at this
    simpa using this
  have hM := dM_pow (V a)
  have hM0 := dM_ne (z := V a) (by omega)
  unfold dE at he
  rw [if_neg (by omega)] at he
  generalize dM (V a) = M at *
  generalize tz (V a).natAbs = s at *
  rw [hV, Int.natAbs_natCast] at hM
  rw [hq]
  generalize mant (rg a) = m at *
  generalize ex (rg a) = X at *
  congr 1
  by_cases hd : e ≤ f
  · obtain ⟨d, hdd⟩ : ∃ d : Nat, f - e = d := ⟨(f - e).toNat, by omega⟩
    have h1 := (rndS_many (stq_log2 hn1) (f - 1 + 1074) d).1
    have e2 : n * 4 ^ d = M * 2 ^ k := by
      have h4 : (4 : Nat) ^ d = 2 ^ (2 * d) := by rw [Nat.pow_mul]
      apply Nat.eq_of_mul_eq_mul_right (Nat.two_pow_pos s)
      rw [Nat.mul_right_comm M, hM, hn, h4, Nat.mul_assoc, Nat.mul_assoc, Nat.mul_assoc, ← Nat.pow_add, ← Nat.pow_add, ← Nat.pow_add]
      congr 2
      omega
    rw [e2] at h1
    rw [← h1]
    congr 1
    omega
  · exfalso
    obtain ⟨d, hdd⟩ : ∃ d : Nat, e - f = d := ⟨(e - f).toNat, by omega⟩
    have e2 : M * 2 ^ k * 4 ^ d = n := by
      have h4 : (4 : Nat) ^ d = 2 ^ (2 * d) := by rw [Nat.pow_mul]
      apply Nat.eq_of_mul_eq_mul_right (Nat.two_pow_pos s)
      rw [Nat.mul_right_comm, Nat.mul_right_comm M, hM, hn, h4, Nat.mul_assoc, Nat.mul_assoc, Nat.mul_assoc, ← Nat.pow_add, ← Nat.pow_add, ← Nat.pow_add]
      congr 2
      omega
    have h5 : 1 * 2 ^ k ≤ M * 2 ^ k := Nat.mul_le_mul_right _ (by omega)
    have h6 : M * 2 ^ k * 1 ≤ M * 2 ^ k * 4 ^ d := Nat.mul_le_mul_left _ (Nat.pow_pos (by decide))
    have h7 : (2 : Nat) ^ 160 ≤ 2 ^ k := pow_mono hk
    have h8 : (2 : Nat) ^ 110 ≤ 2 ^ 160 := by decide
    omega
end Fl

set_option maxHeartbeats 2000000 in
theorem r_root_nan (a : Nat) (w : World) (h : Fl.isNaN a = true) : Calls Try.prog 46 #[F a] w (GivesA (Fl.fsqrt a) w) := by
  have HR := Lib.hid (Fl.fsqrt_nan' h)
  have o1 : FloatKind.f64.format.order a a = none := Fl.ord_nan_left h _
  clear h
  go_enter Try.func46, Try.ntmps46
  go_wp2_with fail
  refine (m_nan _).mono ?_
  rintro e w' ⟨rfl, rfl⟩
  go_wp2
  go_ret
  exact ⟨_, rfl, by rw [HR.out]; exact Fl.same_refl _, Below.refl _ _⟩

set_option maxHeartbeats 2000000 in
theorem r_root_minf (a : Nat) (w : World) (h : Fl.D.read a = .infinity true) : Calls Try.prog 46 #[F a] w (GivesA (Fl.fsqrt a) w) := by
  have HR : Hid (Fl.fsqrt a = Fl.qnan) := Lib.hid (Fl.fsqrt_inf' h)
  have o1 : FloatKind.f64.format.order a a = some .eq := Fl.ord_self (Fl.inf_notNaN h)
  have o2 : FloatKind.f64.format.order a 0 = some .lt := Fl.order_inf true h Fl.fin0
  clear h
  go_enter Try.func46, Try.ntmps46
  go_wp2_with fail
  refine (m_nan _).mono ?_
  rintro e w' ⟨rfl, rfl⟩
  go_wp2
  go_ret
  exact ⟨_, rfl, by rw [HR.out]; exact Fl.same_refl _, Below.refl _ _⟩

set_option maxHeartbeats 2000000 in
theorem r_root_neg (a : Nat) (w : World) (h : Fl.Fin a) (hn : Fl.V a < 0) : Calls Try.prog 46 #[F a] w (GivesA (Fl.fsqrt a) w) := by
  have HR : Hid (Fl.fsqrt a = Fl.qnan) := Lib.hid (Fl.fsqrt_neg' h (by rw [Fl.sg_nz (by omega)]; exact decide_eq_true hn) (by intro h0; unfold Fl.V Fl.mg at hn; rw [h0] at hn; split at hn <;> simp [Fl.RV] at hn))
  have o1 : FloatKind.f64.format.order a a = some .eq := Fl.ord_self h.notNaN
  have o2 : FloatKind.f64.format.order a 0 = some .lt := by have := Fl.order_fin h Fl.fin0; rw [show Fl.V 0 = 0 by decide +kernel, Int.compare_eq_lt.2 hn] at this; exact this
  clear h hn
  go_enter Try.func46, Try.ntmps46
  go_wp2_with fail
  refine (m_nan _).mono ?_
  rintro e w' ⟨rfl, rfl⟩
  go_wp2
  go_ret
  exact ⟨_, rfl, by rw [HR.out]; exact Fl.same_refl _, Below.refl _ _⟩

set_option maxHeartbeats 2000000 in
theorem r_root_zero (a : Nat) (w : World) (h : Fl.Fin a) (h0 : Fl.rg a = 0) : Calls Try.prog 46 #[F a] w (GivesA (Fl.fsqrt a) w) := by
  have HR := Lib.hid (Fl.fsqrt_zero' h h0)
  have o1 : FloatKind.f64.format.order a a = some .eq := Fl.ord_self h.notNaN
  have o2 : FloatKind.f64.format.order a 0 = some .eq := by have := Fl.order_fin h Fl.fin0; rw [show Fl.V 0 = 0 by decide +kernel, show Fl.V a = 0 by unfold Fl.V Fl.mg; rw [h0]; split <;> rfl, Int.compare_eq_eq.2 rfl] at this; exact this
  clear h h0
  go_enter Try.func46, Try.ntmps46
  go_wp2
  go_ret
  exact ⟨_, rfl, by rw [HR.out]; exact Fl.same_refl _, Below.refl _ _⟩

set_option maxHeartbeats 2000000 in
theorem r_root_pinf (a : Nat) (w : World) (h : Fl.D.read a = .infinity false) (h2 : a = Fl.D.word false (2047 * 2 ^ 52)) : Calls Try.prog 46 #[F a] w (GivesA (Fl.fsqrt a) w) := by
  have HR : Hid (Fl.fsqrt a = a) := Lib.hid ((Fl.fsqrt_inf' h).trans h2.symm)
  have H := Lib.hid h
  have o1 : FloatKind.f64.format.order a a = some .eq := Fl.ord_self (Fl.inf_notNaN h)
  have o2 : FloatKind.f64.format.order a 0 = some .gt := Fl.order_inf false h Fl.fin0
  clear h h2
  go_enter Try.func46, Try.ntmps46
  go_wp2_with fail
  refine (r_inf_inf a _ H.out _).mono ?_
  rintro e w' ⟨rfl, rfl⟩
  go_wp2
  go_ret
  exact ⟨_, rfl, by rw [HR.out]; exact Fl.same_refl _, Below.refl _ _⟩

theorem lt_two_digs {n L K : Nat} (hK : K = 24 * L) (h : (digs n).length ≤ L) : n < 2 ^ K := by
  rw [hK, ← W_two]
  exact Nat.lt_of_lt_of_le (digs_len_lt _) (W_mono h)
theorem root_bound {r n L j : Nat} (hL : L = 24 * 800) (h : r * r ≤ n) (hn : n < 2 ^ (L + j)) (hj : j ≤ 161 := by decide) : r < 2 ^ 9700 := by
  obtain ⟨p, hp⟩ : ∃ p, p = 9700 := ⟨_, rfl⟩
  rw [← hp]
  apply sq_lt
  rw [← Nat.pow_add]
  exact Nat.lt_of_le_of_lt h (Nat.lt_of_lt_of_le hn (Nat.pow_le_pow_right (by decide) (by omega)))
theorem bd_root {r p : Nat} (h : r < 2 ^ p) : Bd (sgz false r) p := ⟨by rw [sgz_natAbs]; exact h⟩
theorem bd_root2 {r p : Nat} (h : r < 2 ^ p) : r * 2 ^ 1 + 1 < 2 ^ (p + 1) := by rw [Nat.pow_succ 2 p]; omega
theorem root_end {y T x : Nat} {e : Int} {R : Nat} (hy : y = Fl.D.word false R) (hR : Fl.rndS T (e + 1074) = R) (h : Fl.NearSo (decide (sgz false T < 0)) (dM (sgz false T)) (dE (sgz false T) e) x) : Fl.same y x = true := by
  have hn : decide (sgz false T < 0) = false := decide_eq_false (by show ¬ (T : Int) < 0; omega)
  rw [hn] at h
  rw [hy]
  refine Fl.near_same h ?_ (fun _ => rfl)
  rw [Fl.rndS_form, sgz_natAbs]
  exact hR

set_option maxHeartbeats 4000000 in
theorem r_root_even (a : Nat) (w : World) (h : Fl.Fin a) (hp : 0 < Fl.V a) (q : Int) (hq : dE (Fl.V a) (-1074) - (160 : Nat) = 2 * q) : Calls Try.prog 46 #[F a] w (GivesA (Fl.fsqrt a) w) := by
  have HF := Lib.hid h
  have HP := Lib.hid hp
  have HOK : Hid (Fl.isFin a = true) := Lib.hid (decide_eq_true h.2)
  have HV := Lib.hid (Fl.VV_fin h.2)
  have o1 : FloatKind.f64.format.order a a = some .eq := Fl.ord_self h.notNaN
  have o2 : FloatKind.f64.format.order a 0 = some .gt := by have := Fl.order_fin h Fl.fin0; rw [show Fl.V 0 = 0 by decide +kernel, Int.compare_eq_gt.2 hp] at this; exact this
  have HRS := Lib.hid (Fl.root_same (k := 160) (e := q) h hp (by decide) hq)
  clear h hp
  go_enter Try.func46, Try.ntmps46
  go_wp2_with fail
  refine (r_inf_fin a HF.out _).mono ?_
  rintro e w' ⟨rfl, rfl⟩
  have HB : Hid (Below w.heap.size w w) := Lib.hid (Below.refl _ _)
  go_wp2_with fail
  refine (f_of a HF.out.1 _).mono ?_
  rintro e w1 ⟨v1, rfl, hv1, hb1⟩
  rw [HOK.out]
  rw [HV.out] at hv1
  obtain ⟨aa, l, c, rfl, _, hs⟩ := hv1.parts
  have hsz : Sz (Fl.V a) := by have := (bd_VV a).sz (by decide); rwa [HV.out] at this
  have HM8 : Hid ((digs (dM (Fl.V a))).length ≤ 2000) := Lib.hid (Nat.le_trans hsz.dM (by decide))
  obtain ⟨L, hL⟩ : ∃ L, L = 24 * 800 := ⟨_, rfl⟩
  have hMb : dM (Fl.V a) < 2 ^ L := lt_two_digs hL hsz.dM
  obtain ⟨hE1, hE2⟩ := hsz.dE (e := -1074) (by decide) (by decide)
  have ht := hsz.tz
  have hE3 : -1074 ≤ dE (Fl.V a) (-1074) ∧ dE (Fl.V a) (-1074) ≤ 20000 := by unfold dE; split <;> omega
  have HS := Lib.hid hs
  have HB := Lib.hid (HB.out.trans (hb1.mono HB.out.size))
  obtain ⟨E, hE⟩ : ∃ E, dE (Fl.V a) (-1074) = E := ⟨_, rfl⟩
  obtain ⟨neg, hneg⟩ : ∃ neg, decide (Fl.V a < 0) = neg := ⟨_, rfl⟩
  obtain ⟨M, hM⟩ : ∃ M, dM (Fl.V a) = M := ⟨_, rfl⟩
  rw [hE] at hE3 hq ⊢
  rw [hM] at HS HM8 hMb HRS
  rw [hneg]
  have hn2 : M * 2 ^ 160 < 2 ^ (L + 160) := by rw [Nat.pow_add]; exact Nat.mul_lt_mul_of_pos_right hMb (Nat.two_pow_pos _)
  have HN9 : Hid ((digs (M * 2 ^ 160)).length ≤ 900) := Lib.hid (digs_pow hn2 (by omega))
  have HRB : Hid (∀ r, r * r ≤ M * 2 ^ 160 → r < 2 ^ 9700) := Lib.hid (fun r hr => root_bound hL hr hn2)
  have hEq : E = 2 * q + 160 := by omega
  have hq1 : -700 ≤ q := by omega
  have hq2 : q ≤ 10000 := by omega
  clear hv1 hs hsz hb1 hE hneg hE1 hE2 ht hM hMb hn2 hE3 hq hL
  subst hEq
  go_wp2_with fail
  skip
  obtain ⟨wb1, hw1⟩ : ∃ w', w1.alloc (Obj.cells #[Value.bool neg, Value.slice aa l c, Value.int IntKind.i64 (2 * q + 160)] 35) = w' := ⟨_, rfl⟩
  have hb1 : Below w1.heap.size w1 wb1 := by rw [← hw1]; exact below_alloc _ _
  obtain ⟨b3, hk1⟩ : ∃ b, w1.heap.size = b := ⟨_, rfl⟩
  have V3 : Hid (Var wb1 b3 neg aa l c (2 * q + 160)) := Lib.hid (by have := var_alloc w1 neg aa l c (2 * q + 160); rw [show _ = wb1 from hw1, hk1] at this; exact this)
  have HS := Lib.hid (HS.out.below hb1)
  have HB := Lib.hid (below_next HB.out hb1)
  rw [hw1, hk1]
  clear hw1 hb1 hk1
  refine (n_shl HS.out HM8.out 160 (by decide)).mono ?_
  rintro e w2 ⟨v2, rfl, hv2, hb2⟩
  have HS := Lib.hid (HS.out.below hb2)
  have V3 := Lib.hid (V3.out.below hb2)
  have HB := Lib.hid (below_next HB.out hb2)
  have HV2 := Lib.hid hv2
  clear hv2 hb2
  go_wp2_with fail
  refine (n_root HV2.out HN9.out).mono ?_
  rintro e w3 ⟨v3, r, rfl, hv3, hlo, hhi, hb3⟩
  have HS := Lib.hid (HS.out.below hb3)
  have V3 := Lib.hid (V3.out.below hb3)
  have HB := Lib.hid (below_next HB.out hb3)
  have HV2 := Lib.hid (HV2.out.below hb3)
  have HV3 := Lib.hid hv3
  have HSQ : Hid (Fl.Sq (M * 2 ^ 160) r) := Lib.hid ⟨hlo, hhi⟩
  have HR9 := Lib.hid (HRB.out r hlo)
  have HRD : Hid ((digs r).length ≤ 800) := Lib.hid (digs_pow HR9.out (by decide))
  have HRD2 : Hid ((digs r).length ≤ 2000) := Lib.hid (Nat.le_trans HRD.out (by decide))
  have HQD : Hid ((digs (r * r)).length ≤ 2000) := Lib.hid (Nat.le_trans (digs_mono hlo) (Nat.le_trans HN9.out (by decide)))
  have HND : Hid ((digs (M * 2 ^ 160)).length ≤ 2000) := Lib.hid (Nat.le_trans HN9.out (by decide))
  clear hv3 hlo hhi hb3
  have c30 := V3.out.c0; have c31 := V3.out.c1; have c32 := V3.out.c2
  go_wp2_with fail
  clear c30 c31 c32
  refine (n_mul HV3.out HV3.out HRD2.out HRD2.out).mono ?_
  rintro e w4 ⟨v4, rfl, hv4, hb4⟩
  have HS := Lib.hid (HS.out.below hb4)
  have V3 := Lib.hid (V3.out.below hb4)
  have HB := Lib.hid (below_next HB.out hb4)
  have HV2 := Lib.hid (HV2.out.below hb4)
  have HV3 := Lib.hid (HV3.out.below hb4)
  have HV4 := Lib.hid hv4
  clear hv4 hb4
  go_wp2_with fail
  refine (n_same HV4.out HV2.out HQD.out HND.out).mono ?_
  rintro e w5 ⟨rfl, hb5⟩
  have HS := Lib.hid (HS.out.below hb5)
  have V3 := Lib.hid (V3.out.below hb5)
  have HB := Lib.hid (below_next HB.out hb5)
  have HV3 := Lib.hid (HV3.out.below hb5)
  clear hb5
  by_cases hex : r * r = M * 2 ^ 160
  · rw [decide_eq_true hex]
    have HE : Hid (Fl.rndS r (q + 1074) = Fl.rndS (Fl.stq (M * 2 ^ 160)) (q - 1 + 1074)) := Lib.hid (by rw [Fl.stq_exact hex]; have := Fl.rndS_shift r 1 (q - 1 + 1074); rw [Nat.pow_one, Nat.mul_comm] at this; rw [this]; congr 1; omega)
    clear hex
    go_wp2_with fail
    refine (d_make false HV3.out HRD.out (by omega) (by omega)).mono ?_
    rintro e w2 ⟨v2, rfl, hv2, hb2⟩
    obtain ⟨n_m, a_m, l_m, k_m, E_m, rfl⟩ := hv2.shape
    have HS := Lib.hid (HS.out.below hb2)
    have V3 := Lib.hid (V3.out.below hb2)
    have HB := Lib.hid (below_next HB.out hb2)
    have Dm := Lib.hid hv2
    clear hv2 hb2
    go_wp2_with fail
    refine (NearGives.isD Dm.out (bd_root HR9.out) (by decide) (by omega) (by omega) HB.out).mono ?_
    rintro e wn ⟨x, rfl, hx, hb⟩
    have HX := Lib.hid (root_end HRS.out HE.out hx)
    have HBn := Lib.hid hb
    clear hx hb
    go_wp2
    go_ret
    exact ⟨_, rfl, HX.out, HBn.out⟩
  · rw [decide_eq_false hex]
    have HE : Hid (Fl.rndS (r * 2 ^ 1 + 1) (q - 1 + 1074) = Fl.rndS (Fl.stq (M * 2 ^ 160)) (q - 1 + 1074)) := Lib.hid (by rw [Fl.stq_not HSQ.out hex, Nat.pow_one, Nat.mul_comm])
    clear hex
    go_wp2_with fail
    refine (n_shl HV3.out HRD2.out 1 (by decide)).mono ?_
    rintro e w6 ⟨v6, rfl, hv6, hb6⟩
    have HS := Lib.hid (HS.out.below hb6)
    have V3 := Lib.hid (V3.out.below hb6)
    have HB := Lib.hid (below_next HB.out hb6)
    have HV6 := Lib.hid hv6
    clear hv6 hb6
    have HR2 := Lib.hid (bd_root2 HR9.out)
    have HD6 : Hid ((digs (r * 2 ^ 1)).length ≤ 2000) := Lib.hid (Nat.le_trans (digs_pow (L := 800) (Nat.lt_of_le_of_lt (Nat.le_add_right _ 1) HR2.out) (by decide)) (by decide))
    have HD7 : Hid ((digs (r * 2 ^ 1 + 1)).length ≤ 800) := Lib.hid (digs_pow HR2.out (by decide))
    go_wp2_with fail
    refine (n_add (HV6.out.below (below_alloc _ _)) (b := 1) (by unfold IsN; rw [digs_one]; exact ila_one _ 1 _ rfl) HD6.out (by rw [digs_one]; decide)).mono ?_
    rintro e w7 ⟨v7, rfl, hv7, hb7⟩
    have hb7' := below_next (below_alloc w6 _) hb7
    have HS := Lib.hid (HS.out.below hb7')
    have V3 := Lib.hid (V3.out.below hb7')
    have HB := Lib.hid (below_next HB.out hb7')
    have HV7 := Lib.hid hv7
    clear hv7 hb7 hb7'
    go_wp2_with fail
    refine (d_make false HV7.out HD7.out (by omega) (by omega)).mono ?_
    rintro e w2 ⟨v2, rfl, hv2, hb2⟩
    obtain ⟨n_m, a_m, l_m, k_m, E_m, rfl⟩ := hv2.shape
    have HS := Lib.hid (HS.out.below hb2)
    have V3 := Lib.hid (V3.out.below hb2)
    have HB := Lib.hid (below_next HB.out hb2)
    have Dm := Lib.hid hv2
    clear hv2 hb2
    go_wp2_with fail
    refine (NearGives.isD Dm.out (bd_root HR2.out) (by decide) (by omega) (by omega) HB.out).mono ?_
    rintro e wn ⟨x, rfl, hx, hb⟩
    have HX := Lib.hid (root_end HRS.out HE.out hx)
    have HBn := Lib.hid hb
    clear hx hb
    go_wp2
    go_ret
    exact ⟨_, rfl, HX.out, HBn.out⟩

theorem odd_tmod (q : Int) : (2 * q + 161 - 160).tmod 2 ≠ 0 := by
  intro h
  have := Int.dvd_of_tmod_eq_zero h
  omega
theorem odd_wrap (q : Int) : IntKind.i64.wrap ((2 * q + 1).tmod 2) = (2 * q + 1).tmod 2 := by
  rw [IntKind.wrap_i64]
  have h1 : (2 * q + 1).tmod 2 < 2 := Int.tmod_lt_of_pos _ (by decide)
  have h2 : -2 < (2 * q + 1).tmod 2 := by
    rcases Int.lt_or_le (2 * q + 1) 0 with h | h
    · have e : (2 * q + 1).tmod 2 = -((-(2 * q + 1)).tmod 2) := by rw [Int.neg_tmod]; omega
      have := Int.tmod_lt_of_pos (-(2 * q + 1)) (show (0 : Int) < 2 by decide)
      omega
    · have := Int.tmod_nonneg 2 h
      omega
  omega

set_option maxHeartbeats 4000000 in
theorem r_root_odd (a : Nat) (w : World) (h : Fl.Fin a) (hp : 0 < Fl.V a) (q : Int) (hq : dE (Fl.V a) (-1074) - (161 : Nat) = 2 * q) : Calls Try.prog 46 #[F a] w (GivesA (Fl.fsqrt a) w) := by
  have HF := Lib.hid h
  have HP := Lib.hid hp
  have HOK : Hid (Fl.isFin a = true) := Lib.hid (decide_eq_true h.2)
  have HV := Lib.hid (Fl.VV_fin h.2)
  have o1 : FloatKind.f64.format.order a a = some .eq := Fl.ord_self h.notNaN
  have o2 : FloatKind.f64.format.order a 0 = some .gt := by have := Fl.order_fin h Fl.fin0; rw [show Fl.V 0 = 0 by decide +kernel, Int.compare_eq_gt.2 hp] at this; exact this
  have HRS := Lib.hid (Fl.root_same (k := 161) (e := q) h hp (by decide) hq)
  clear h hp
  go_enter Try.func46, Try.ntmps46
  go_wp2_with fail
  refine (r_inf_fin a HF.out _).mono ?_
  rintro e w' ⟨rfl, rfl⟩
  have HB : Hid (Below w.heap.size w w) := Lib.hid (Below.refl _ _)
  go_wp2_with fail
  refine (f_of a HF.out.1 _).mono ?_
  rintro e w1 ⟨v1, rfl, hv1, hb1⟩
  rw [HOK.out]
  rw [HV.out] at hv1
  obtain ⟨aa, l, c, rfl, _, hs⟩ := hv1.parts
  have hsz : Sz (Fl.V a) := by have := (bd_VV a).sz (by decide); rwa [HV.out] at this
  have HM8 : Hid ((digs (dM (Fl.V a))).length ≤ 2000) := Lib.hid (Nat.le_trans hsz.dM (by decide))
  obtain ⟨L, hL⟩ : ∃ L, L = 24 * 800 := ⟨_, rfl⟩
  have hMb : dM (Fl.V a) < 2 ^ L := lt_two_digs hL hsz.dM
  obtain ⟨hE1, hE2⟩ := hsz.dE (e := -1074) (by decide) (by decide)
  have ht := hsz.tz
  have hE3 : -1074 ≤ dE (Fl.V a) (-1074) ∧ dE (Fl.V a) (-1074) ≤ 20000 := by unfold dE; split <;> omega
  have HS := Lib.hid hs
  have HB := Lib.hid (HB.out.trans (hb1.mono HB.out.size))
  obtain ⟨E, hE⟩ : ∃ E, dE (Fl.V a) (-1074) = E := ⟨_, rfl⟩
  obtain ⟨neg, hneg⟩ : ∃ neg, decide (Fl.V a < 0) = neg := ⟨_, rfl⟩
  obtain ⟨M, hM⟩ : ∃ M, dM (Fl.V a) = M := ⟨_, rfl⟩
  rw [hE] at hE3 hq ⊢
  rw [hM] at HS HM8 hMb HRS
  rw [hneg]
  have hn2 : M * 2 ^ 161 < 2 ^ (L + 161) := by rw [Nat.pow_add]; exact Nat.mul_lt_mul_of_pos_right hMb (Nat.two_pow_pos _)
  have HN9 : Hid ((digs (M * 2 ^ 161)).length ≤ 900) := Lib.hid (digs_pow hn2 (by omega))
  have HRB : Hid (∀ r, r * r ≤ M * 2 ^ 161 → r < 2 ^ 9700) := Lib.hid (fun r hr => root_bound hL hr hn2)
  have hEq : E = 2 * q + 161 := by omega
  have hq1 : -700 ≤ q := by omega
  have hq2 : q ≤ 10000 := by omega
  clear hv1 hs hsz hb1 hE hneg hE1 hE2 ht hM hMb hn2 hE3 hq hL
  subst hEq
  obtain ⟨u, hu, hu0⟩ : ∃ u, (2 * q + 161 - 160).tmod 2 = u ∧ u ≠ 0 := ⟨_, rfl, odd_tmod q⟩
  have hu' : (2 * q + 1).tmod 2 = u := by rw [← hu]; congr 1; omega
  have hw9 : IntKind.i64.wrap u = u := by rw [← hu']; exact odd_wrap q
  have hu1 : (u == 0) = false := beq_false_of_ne hu0
  go_wp2_with fail
  skip
  obtain ⟨wb1, hw1⟩ : ∃ w', w1.alloc (Obj.cells #[Value.bool neg, Value.slice aa l c, Value.int IntKind.i64 (2 * q + 161)] 35) = w' := ⟨_, rfl⟩
  have hb1 : Below w1.heap.size w1 wb1 := by rw [← hw1]; exact below_alloc _ _
  obtain ⟨b3, hk1⟩ : ∃ b, w1.heap.size = b := ⟨_, rfl⟩
  have V3 : Hid (Var wb1 b3 neg aa l c (2 * q + 161)) := Lib.hid (by have := var_alloc w1 neg aa l c (2 * q + 161); rw [show _ = wb1 from hw1, hk1] at this; exact this)
  have HS := Lib.hid (HS.out.below hb1)
  have HB := Lib.hid (below_next HB.out hb1)
  rw [hw1, hk1]
  clear hw1 hb1 hk1
  refine (n_shl HS.out HM8.out 161 (by decide)).mono ?_
  rintro e w2 ⟨v2, rfl, hv2, hb2⟩
  have HS := Lib.hid (HS.out.below hb2)
  have V3 := Lib.hid (V3.out.below hb2)
  have HB := Lib.hid (below_next HB.out hb2)
  have HV2 := Lib.hid hv2
  clear hv2 hb2
  go_wp2_with fail
  refine (n_root HV2.out HN9.out).mono ?_
  rintro e w3 ⟨v3, r, rfl, hv3, hlo, hhi, hb3⟩
  have HS := Lib.hid (HS.out.below hb3)
  have V3 := Lib.hid (V3.out.below hb3)
  have HB := Lib.hid (below_next HB.out hb3)
  have HV2 := Lib.hid (HV2.out.below hb3)
  have HV3 := Lib.hid hv3
  have HSQ : Hid (Fl.Sq (M * 2 ^ 161) r) := Lib.hid ⟨hlo, hhi⟩
  have HR9 := Lib.hid (HRB.out r hlo)
  have HRD : Hid ((digs r).length ≤ 800) := Lib.hid (digs_pow HR9.out (by decide))
  have HRD2 : Hid ((digs r).length ≤ 2000) := Lib.hid (Nat.le_trans HRD.out (by decide))
  have HQD : Hid ((digs (r * r)).length ≤ 2000) := Lib.hid (Nat.le_trans (digs_mono hlo) (Nat.le_trans HN9.out (by decide)))
  have HND : Hid ((digs (M * 2 ^ 161)).length ≤ 2000) := Lib.hid (Nat.le_trans HN9.out (by decide))
  clear hv3 hlo hhi hb3
  have c30 := V3.out.c0; have c31 := V3.out.c1; have c32 := V3.out.c2
  go_wp2_with fail
  clear c30 c31 c32
  refine (n_mul HV3.out HV3.out HRD2.out HRD2.out).mono ?_
  rintro e w4 ⟨v4, rfl, hv4, hb4⟩
  have HS := Lib.hid (HS.out.below hb4)
  have V3 := Lib.hid (V3.out.below hb4)
  have HB := Lib.hid (below_next HB.out hb4)
  have HV2 := Lib.hid (HV2.out.below hb4)
  have HV3 := Lib.hid (HV3.out.below hb4)
  have HV4 := Lib.hid hv4
  clear hv4 hb4
  go_wp2_with fail
  refine (n_same HV4.out HV2.out HQD.out HND.out).mono ?_
  rintro e w5 ⟨rfl, hb5⟩
  have HS := Lib.hid (HS.out.below hb5)
  have V3 := Lib.hid (V3.out.below hb5)
  have HB := Lib.hid (below_next HB.out hb5)
  have HV3 := Lib.hid (HV3.out.below hb5)
  clear hb5
  by_cases hex : r * r = M * 2 ^ 161
  · rw [decide_eq_true hex]
    have HE : Hid (Fl.rndS r (q + 1074) = Fl.rndS (Fl.stq (M * 2 ^ 161)) (q - 1 + 1074)) := Lib.hid (by rw [Fl.stq_exact hex]; have := Fl.rndS_shift r 1 (q - 1 + 1074); rw [Nat.pow_one, Nat.mul_comm] at this; rw [this]; congr 1; omega)
    clear hex
    go_wp2_with fail
    refine (d_make false HV3.out HRD.out (by omega) (by omega)).mono ?_
    rintro e w2 ⟨v2, rfl, hv2, hb2⟩
    obtain ⟨n_m, a_m, l_m, k_m, E_m, rfl⟩ := hv2.shape
    have HS := Lib.hid (HS.out.below hb2)
    have V3 := Lib.hid (V3.out.below hb2)
    have HB := Lib.hid (below_next HB.out hb2)
    have Dm := Lib.hid hv2
    clear hv2 hb2
    go_wp2_with fail
    refine (NearGives.isD Dm.out (bd_root HR9.out) (by decide) (by omega) (by omega) HB.out).mono ?_
    rintro e wn ⟨x, rfl, hx, hb⟩
    have HX := Lib.hid (root_end HRS.out HE.out hx)
    have HBn := Lib.hid hb
    clear hx hb
    go_wp2
    go_ret
    exact ⟨_, rfl, HX.out, HBn.out⟩
  · rw [decide_eq_false hex]
    have HE : Hid (Fl.rndS (r * 2 ^ 1 + 1) (q - 1 + 1074) = Fl.rndS (Fl.stq (M * 2 ^ 161)) (q - 1 + 1074)) := Lib.hid (by rw [Fl.stq_not HSQ.out hex, Nat.pow_one, Nat.mul_comm])
    clear hex
    go_wp2_with fail
    refine (n_shl HV3.out HRD2.out 1 (by decide)).mono ?_
    rintro e w6 ⟨v6, rfl, hv6, hb6⟩
    have HS := Lib.hid (HS.out.below hb6)
    have V3 := Lib.hid (V3.out.below hb6)
    have HB := Lib.hid (below_next HB.out hb6)
    have HV6 := Lib.hid hv6
    clear hv6 hb6
    have HR2 := Lib.hid (bd_root2 HR9.out)
    have HD6 : Hid ((digs (r * 2 ^ 1)).length ≤ 2000) := Lib.hid (Nat.le_trans (digs_pow (L := 800) (Nat.lt_of_le_of_lt (Nat.le_add_right _ 1) HR2.out) (by decide)) (by decide))
    have HD7 : Hid ((digs (r * 2 ^ 1 + 1)).length ≤ 800) := Lib.hid (digs_pow HR2.out (by decide))
    go_wp2_with fail
    refine (n_add (HV6.out.below (below_alloc _ _)) (b := 1) (by unfold IsN; rw [digs_one]; exact ila_one _ 1 _ rfl) HD6.out (by rw [digs_one]; decide)).mono ?_
    rintro e w7 ⟨v7, rfl, hv7, hb7⟩
    have hb7' := below_next (below_alloc w6 _) hb7
    have HS := Lib.hid (HS.out.below hb7')
    have V3 := Lib.hid (V3.out.below hb7')
    have HB := Lib.hid (below_next HB.out hb7')
    have HV7 := Lib.hid hv7
    clear hv7 hb7 hb7'
    go_wp2_with fail
    refine (d_make false HV7.out HD7.out (by omega) (by omega)).mono ?_
    rintro e w2 ⟨v2, rfl, hv2, hb2⟩
    obtain ⟨n_m, a_m, l_m, k_m, E_m, rfl⟩ := hv2.shape
    have HS := Lib.hid (HS.out.below hb2)
    have V3 := Lib.hid (V3.out.below hb2)
    have HB := Lib.hid (below_next HB.out hb2)
    have Dm := Lib.hid hv2
    clear hv2 hb2
    go_wp2_with fail
    refine (NearGives.isD Dm.out (bd_root HR2.out) (by decide) (by omega) (by omega) HB.out).mono ?_
    rintro e wn ⟨x, rfl, hx, hb⟩
    have HX := Lib.hid (root_end HRS.out HE.out hx)
    have HBn := Lib.hid hb
    clear hx hb
    go_wp2
    go_ret
    exact ⟨_, rfl, HX.out, HBn.out⟩

theorem r_root (a : Nat) (w : World) (ha : a < 2 ^ 64) : Calls Try.prog 46 #[F a] w (GivesA (Fl.fsqrt a) w) := by
  rcases Fl.kinds ha with h | ⟨h, h2⟩ | h
  · exact r_root_nan a w h
  · cases hs : Fl.sg a
    · rw [hs] at h h2; exact r_root_pinf a w h h2
    · rw [hs] at h; exact r_root_minf a w h
  · rcases Int.lt_trichotomy (Fl.V a) 0 with hv | hv | hv
    · exact r_root_neg a w h hv
    · exact r_root_zero a w h (Decidable.byContradiction fun h0 => Fl.V_ne h0 hv)
    · by_cases he : dE (Fl.V a) (-1074) % 2 = 0
      · exact r_root_even a w h hv ((dE (Fl.V a) (-1074) - 160) / 2) (by omega)
      · exact r_root_odd a w h hv ((dE (Fl.V a) (-1074) - 161) / 2) (by omega)
end Go.Proofs.Ytemneeknemijpaa
