/- Split of the reference. -/
import Derived.Test.YtaempngakollpaaDoorRc
namespace Go.Proofs.YtaempngakollpaaDoor
open Go.RowKit Go.Shelf

theorem spl_ref (A : Int) (x q : Nat) (hq3 : 3 ≤ q) (hq : q ≤ 40) (hx : x * 2 ^ (40 - q) = par A) :
    x / 2 ^ (q - 3) = eig A ∧ (eig A % 2 = 0 → val ((x : Int) - eig A * 2 ^ (q - 3)) q % 1099511627776 = rst A % 1099511627776) ∧ (eig A % 2 = 1 → val (((eig A : Int) + 1) * 2 ^ (q - 3) - x) q % 1099511627776 = rst A % 1099511627776) := by
  have hv : val (x : Int) q = par A := by rw [val_nat, hx]
  have hp : (2 : Int) ^ (q - 3) * 2 ^ (40 - q) = 137438953472 := by rw [← Int.pow_add, show q - 3 + (40 - q) = 37 by omega]; rfl
  have hs : ∀ e : Int, val (e * 2 ^ (q - 3)) q = e * 137438953472 := fun e => by unfold val; rw [Int.mul_assoc, hp]
  have hsub : ∀ a b : Int, val (a - b) q = val a q - val b q := fun a b => by unfold val; rw [Int.sub_mul]
  refine ⟨eig_of A x q hq3 hq hx, fun h => ?_, fun h => ?_⟩
  · have hpi := par_int A
    rw [hsub, hs, hv]; unfold rst; rw [if_pos h]; clear hx hp hs hsub hv; omega
  · have hpi := par_int A
    rw [hsub, hs, hv]; unfold rst; rw [if_neg (by clear hx hp hs hsub hv; omega)]; clear hx hp hs hsub hv; omega

/-- the reference's numbers of an angle of 2^q parts -/
structure Nums (A : Int) (q x m e : Nat) : Prop where
  px : prt A q = x
  wm : wrap64 ((2 : Int) ^ (q - 3)) = m
  de : (x : Int) / m = e
  ee : e = eig A
  e8 : e < 8
  m0 : 0 < m
  m1 : m ≤ 137438953472
  x1 : x < 1099511627776
  lo : e * m ≤ x
  hi : x < (e + 1) * m
  up : (e + 1) * m ≤ 1099511627776
  ev : e % 2 = 0 → val ((x : Int) - e * m) q % 1099511627776 = rst A % 1099511627776
  od : e % 2 = 1 → val (((e : Int) + 1) * m - x) q % 1099511627776 = rst A % 1099511627776

theorem nums (A : Int) (q : Nat) (hq3 : 3 ≤ q) (hq : q ≤ 40) (hfq : fq A ≤ q) : ∃ x m e, Nums A q x m e := by
  have hx2 := (prt_eq A q hfq hq).2
  have hxl := prt_le A q
  obtain ⟨x, hx⟩ : ∃ x, prt A q = x := ⟨_, rfl⟩
  rw [hx] at hx2 hxl
  obtain ⟨s1, s2, s3⟩ := spl_ref A x q hq3 hq hx2
  clear hx2 hfq
  have h8 := eig_lt A
  have hpw : (2 : Nat) ^ (q - 3) ≤ 137438953472 := Nat.pow_le_pow_right (n := 2) (by decide) (show q - 3 ≤ 37 by omega)
  have hpp : 0 < (2 : Nat) ^ (q - 3) := Nat.pow_pos (by decide)
  obtain ⟨e, he⟩ : ∃ e, eig A = e := ⟨_, rfl⟩
  rw [he] at s1 s2 s3 h8
  rw [pow_int] at s2 s3
  have hw : wrap64 ((2 : Int) ^ (q - 3)) = ((2 ^ (q - 3) : Nat) : Int) := by
    rw [pow_int]
    clear s1 s2 s3
    generalize 2 ^ (q - 3) = m at hpw hpp ⊢
    unfold wrap64; omega
  generalize 2 ^ (q - 3) = m at s1 s2 s3 hw hpw hpp
  have hlo : e * m ≤ x := by rw [← s1]; exact Nat.div_mul_le_self x m
  have hhi : x < (e + 1) * m := by rw [← s1, Nat.add_mul, Nat.one_mul]; exact Nat.lt_div_mul_add hpp
  have hup : (e + 1) * m ≤ 1099511627776 := by
    have : (e + 1) * m ≤ 8 * 137438953472 := Nat.mul_le_mul h8 hpw
    omega
  exact ⟨x, m, e, hx, hw, by rw [← Int.natCast_ediv, s1], he.symm, h8, hpp, hpw, hxl, hlo, hhi, hup, s2, s3⟩

set_option maxHeartbeats 2000000 in
theorem split15_hi (k : Int) (q : Nat) (hq3 : ¬ q < 3) (hq : q ≤ 40) (w : World) : Calls Tryd.prog 15 #[Ag k q] w fun e w' => e = .returned (PT (val k q)) ∧ Below w.heap.size w w' := by
  obtain ⟨A, hA⟩ : ∃ A, val k q = A := ⟨_, rfl⟩
  obtain ⟨x, m, e, N⟩ := nums A q (by omega) hq (by rw [← hA]; exact fq_val k q hq)
  have PP := Lib.hid (parts26 k q q (Nat.le_refl _) hq)
  rw [hA, N.px] at PP
  rw [hA]
  have hw := N.wm
  have hdiv := N.de
  have he := N.ee
  have h8 := N.e8
  have hm0 : (0 : Int) < m := by have := N.m0; omega
  have hm1 : (m : Int) ≤ 137438953472 := by have := N.m1; omega
  have hx1 : (x : Int) < 1099511627776 := by have := N.x1; omega
  have hq3' : (3 : Int) ≤ q := by omega
  have hq40' : (q : Int) ≤ 40 := by omega
  have he8 : (e : Int) < 8 := by omega
  have hm2 : ¬ ((m : Int) = 0) := by omega
  have hm3 : ¬ (m = 0) := by omega
  have NN := Lib.hid N
  have HPT : Hid (PT A = Pt e (fk (rst A)) (fq (rst A))) := Lib.hid (by rw [PT, he])
  clear N he
  by_cases hodd : e % 2 = 0
  · have HS := Lib.hid (NN.out.ev hodd)
    obtain ⟨p, hp⟩ : ∃ p : Nat, e * m = p := ⟨_, rfl⟩
    have hpi : (e : Int) * m = p := by rw [← hp]; push_cast; rfl
    have hpx : p ≤ x := by rw [← hp]; exact NN.out.lo
    have hw2 : wrap64 ((e : Int) * m) = p := by rw [hpi]; unfold wrap64; omega
    rw [hpi] at HS
    obtain ⟨y, hy⟩ : ∃ y : Nat, x = p + y := ⟨x - p, (Nat.add_sub_cancel' hpx).symm⟩
    have hw3 : (x : Int) - p = y := by clear hw hdiv hw2 hpi hp hodd; omega
    have HSy : Hid (val (y : Int) q % 1099511627776 = rst A % 1099511627776) := Lib.hid (by rw [← hw3]; exact HS.out)
    have hoi : (e : Int) % 2 = 0 := by clear hw hdiv hw2 hpi hp hw3 hpx hy; omega
    clear hodd hp hpi HS hy
    go_enter Tryd.func15, Tryd.ntmps15
    go_wp2_with fail
    refine (PP.out _).mono ?_
    rintro e' w1 ⟨rfl, hb⟩
    obtain ⟨x0, x1, x2, y0, y1, y2⟩ := three (B := w.heap.size + 1) hb (by simp [go_sem]) (by simp [go_sem]) (by simp [go_sem]) (by simp [go_sem]) (by simp [go_sem]) (by simp [go_sem])
    have HB1 : Hid (Below w.heap.size w w1) := Lib.hid (((((Below.refl w.heap.size w).alloc (Nat.le_refl _) _).alloc (by simp) _)).trans (hb.mono (by simp; omega)))
    clear hb
    go_wp2_with fail
    refine (form17 _ q hq _).mono ?_
    rintro e' w2 ⟨rfl, hb⟩
    rw [T_congr HSy.out]
    obtain ⟨z0, z1, z2, u0, u1, u2⟩ := three (B := w.heap.size + 1) hb x0 x1 x2 y0 y1 y2
    have HB2 : Hid (Below w.heap.size w w2) := Lib.hid (HB1.out.trans (hb.mono HB1.out.size))
    clear hb x0 x1 x2 y0 y1 y2
    go_wp2
    refine bodyPost_ret (v := PT A) (by rw [HPT.out]; simp [results, Tryd.results15, go_sem, z0, z1, z2]) rfl ⟨rfl, ?_⟩
    exact ((HB2.out.setCell (by simp) _).setCell (by simp) _).setCell (by simp) _
  · replace hodd : e % 2 = 1 := by omega
    have HS := Lib.hid (NN.out.od hodd)
    obtain ⟨p, hp⟩ : ∃ p : Nat, (e + 1) * m = p := ⟨_, rfl⟩
    have hpi : ((e : Int) + 1) * m = p := by rw [← hp]; push_cast; rfl
    have hpx : x < p := by rw [← hp]; exact NN.out.hi
    have hpu : p ≤ 1099511627776 := by rw [← hp]; exact NN.out.up
    have hw2 : wrap64 (((e : Int) + 1) * m) = p := by rw [hpi]; unfold wrap64; omega
    rw [hpi] at HS
    obtain ⟨y, hy⟩ : ∃ y : Nat, p = x + y := ⟨p - x, (Nat.add_sub_cancel' (Nat.le_of_lt hpx)).symm⟩
    have hw3 : (p : Int) - x = y := by clear hw hdiv hw2 hpi hp hodd; omega
    have HSy : Hid (val (y : Int) q % 1099511627776 = rst A % 1099511627776) := Lib.hid (by rw [← hw3]; exact HS.out)
    have hoi : (e : Int) % 2 = 1 := by clear hw hdiv hw2 hpi hp hw3 hpx hy; omega
    clear hodd hp hpi HS hy
    go_enter Tryd.func15, Tryd.ntmps15
    go_wp2_with fail
    refine (PP.out _).mono ?_
    rintro e' w1 ⟨rfl, hb⟩
    obtain ⟨x0, x1, x2, y0, y1, y2⟩ := three (B := w.heap.size + 1) hb (by simp [go_sem]) (by simp [go_sem]) (by simp [go_sem]) (by simp [go_sem]) (by simp [go_sem]) (by simp [go_sem])
    have HB1 : Hid (Below w.heap.size w w1) := Lib.hid (((((Below.refl w.heap.size w).alloc (Nat.le_refl _) _).alloc (by simp) _)).trans (hb.mono (by simp; omega)))
    clear hb
    go_wp2_with fail
    refine (form17 _ q hq _).mono ?_
    rintro e' w2 ⟨rfl, hb⟩
    rw [T_congr HSy.out]
    obtain ⟨z0, z1, z2, u0, u1, u2⟩ := three (B := w.heap.size + 1) hb x0 x1 x2 y0 y1 y2
    have HB2 : Hid (Below w.heap.size w w2) := Lib.hid (HB1.out.trans (hb.mono HB1.out.size))
    clear hb x0 x1 x2 y0 y1 y2
    go_wp2
    refine bodyPost_ret (v := PT A) (by rw [HPT.out]; simp [results, Tryd.results15, go_sem, z0, z1, z2]) rfl ⟨rfl, ?_⟩
    exact ((HB2.out.setCell (by simp) _).setCell (by simp) _).setCell (by simp) _

theorem form17_3 (k : Int) (w : World) : Calls Tryd.prog 17 #[Ag k 3] w (Forms w (val k 3)) := by
  have h := form17 k 3 (by decide) w
  rw [show ((3 : Nat) : Int) = 3 from rfl] at h
  exact h

set_option maxHeartbeats 2000000 in
theorem split15_lo (k : Int) (q : Nat) (hq3 : q < 3) (w : World) : Calls Tryd.prog 15 #[Ag k q] w fun e w' => e = .returned (PT (val k q)) ∧ Below w.heap.size w w' := by
  obtain ⟨A, hA⟩ : ∃ A, val k q = A := ⟨_, rfl⟩
  obtain ⟨x, m, e, N⟩ := nums A 3 (by omega) (by omega) (by rw [← hA]; exact Nat.le_trans (fq_val k q (by omega)) (by omega))
  have PP := Lib.hid (parts26 k q 3 (by omega) (by omega))
  rw [hA, N.px, show ((3 : Nat) : Int) = 3 from rfl] at PP
  rw [hA]
  have hm1 : (m : Int) = 1 := by rw [← N.wm]; decide +kernel
  have hm1' : m = 1 := by omega
  subst hm1'
  have hxe : x = e := by have := N.de; simp at this; omega
  subst hxe
  have he := N.ee
  have h8 := N.e8
  have he8 : (x : Int) < 8 := by omega
  have hq3' : (q : Int) < 3 := by omega
  have NN := Lib.hid N
  have HPT : Hid (PT A = Pt x (fk (rst A)) (fq (rst A))) := Lib.hid (by rw [PT, he])
  clear N he hm1
  by_cases hodd : x % 2 = 0
  · have HSy : Hid (val 0 3 % 1099511627776 = rst A % 1099511627776) := Lib.hid (by have h := NN.out.ev hodd; simpa using h)
    have hoi : (x : Int) % 2 = 0 := by omega
    clear hodd
    go_enter Tryd.func15, Tryd.ntmps15
    go_wp2_with fail
    refine (PP.out _).mono ?_
    rintro e' w1 ⟨rfl, hb⟩
    obtain ⟨x0, x1, x2, y0, y1, y2⟩ := three (B := w.heap.size + 1) hb (by simp [go_sem]) (by simp [go_sem]) (by simp [go_sem]) (by simp [go_sem]) (by simp [go_sem]) (by simp [go_sem])
    have HB1 : Hid (Below w.heap.size w w1) := Lib.hid (((((Below.refl w.heap.size w).alloc (Nat.le_refl _) _).alloc (by simp) _)).trans (hb.mono (by simp; omega)))
    clear hb
    go_wp2_with fail
    refine (form17_3 _ _).mono ?_
    rintro e' w2 ⟨rfl, hb⟩
    rw [T_congr HSy.out]
    obtain ⟨z0, z1, z2, u0, u1, u2⟩ := three (B := w.heap.size + 1) hb x0 x1 x2 y0 y1 y2
    have HB2 : Hid (Below w.heap.size w w2) := Lib.hid (HB1.out.trans (hb.mono HB1.out.size))
    clear hb x0 x1 x2 y0 y1 y2
    go_wp2
    refine bodyPost_ret (v := PT A) (by rw [HPT.out]; simp [results, Tryd.results15, go_sem, z0, z1, z2]) rfl ⟨rfl, ?_⟩
    exact ((HB2.out.setCell (by simp) _).setCell (by simp) _).setCell (by simp) _
  · replace hodd : x % 2 = 1 := by omega
    have HSy : Hid (val 1 3 % 1099511627776 = rst A % 1099511627776) := Lib.hid (by have h := NN.out.od hodd; rw [show ((x : Int) + 1) * ((1 : Nat) : Int) - x = 1 by omega] at h; exact h)
    have hw3 : (x : Int) + 1 - x = 1 := by omega
    have hoi : (x : Int) % 2 = 1 := by omega
    clear hodd
    go_enter Tryd.func15, Tryd.ntmps15
    go_wp2_with fail
    refine (PP.out _).mono ?_
    rintro e' w1 ⟨rfl, hb⟩
    obtain ⟨x0, x1, x2, y0, y1, y2⟩ := three (B := w.heap.size + 1) hb (by simp [go_sem]) (by simp [go_sem]) (by simp [go_sem]) (by simp [go_sem]) (by simp [go_sem]) (by simp [go_sem])
    have HB1 : Hid (Below w.heap.size w w1) := Lib.hid (((((Below.refl w.heap.size w).alloc (Nat.le_refl _) _).alloc (by simp) _)).trans (hb.mono (by simp; omega)))
    clear hb
    go_wp2_with fail
    refine (form17_3 _ _).mono ?_
    rintro e' w2 ⟨rfl, hb⟩
    rw [T_congr HSy.out]
    obtain ⟨z0, z1, z2, u0, u1, u2⟩ := three (B := w.heap.size + 1) hb x0 x1 x2 y0 y1 y2
    have HB2 : Hid (Below w.heap.size w w2) := Lib.hid (HB1.out.trans (hb.mono HB1.out.size))
    clear hb x0 x1 x2 y0 y1 y2
    go_wp2
    refine bodyPost_ret (v := PT A) (by rw [HPT.out]; simp [results, Tryd.results15, go_sem, z0, z1, z2]) rfl ⟨rfl, ?_⟩
    exact ((HB2.out.setCell (by simp) _).setCell (by simp) _).setCell (by simp) _

theorem split15 (k : Int) (q : Nat) (hq : q ≤ 40) (w : World) : Calls Tryd.prog 15 #[Ag k q] w fun e w' => e = .returned (PT (val k q)) ∧ Below w.heap.size w w' := by
  by_cases h : q < 3
  · exact split15_lo k q h w
  · exact split15_hi k q h hq w
end Go.Proofs.YtaempngakollpaaDoor
