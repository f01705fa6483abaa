/- Flip, Shift, Sign of the document's dyadic numbers. No condition but the sizes. -/
import Derived.Test.YtemneeknemijpaaDm
namespace Go.Proofs.Ytemneeknemijpaa
open Go.RowKit

theorem dM_neg (z : Int) : dM (-z) = dM z := by unfold dM; rw [Int.natAbs_neg]
theorem dE_neg (z e : Int) : dE (-z) e = dE z e := by unfold dE; rw [Int.natAbs_neg]; by_cases h : z = 0 <;> simp [h]
theorem IsN.parts {w : World} {v : Value} {n : Nat} (h : IsN w v n) : ∃ a l c, v = .slice a l c ∧ (digs n).length = l := by
  obtain ⟨a, l, c, h1, h2, _⟩ := h
  exact ⟨a, l, c, h1, h2.1⟩
theorem digs_len_zero {n : Nat} : (digs n).length = 0 ↔ n = 0 := by
  constructor
  · intro h
    have h1 : digs n = [] := List.length_eq_zero_iff.1 h
    have := num_digs n
    rw [h1] at this
    exact this.symm
  · rintro rfl; rw [digs_zero]; rfl

set_option maxHeartbeats 1000000 in
theorem d_flip {v : Value} {z e : Int} {w : World} (hv : IsD w v z e) : Calls Try.prog 33 #[v] w (MakesD w (-z) e) := by
  obtain ⟨s, rfl, hs⟩ := hv
  obtain ⟨a, l, c, rfl, hl⟩ := hs.parts
  have HS := Lib.hid hs
  have hlz : l = 0 ↔ z = 0 := by rw [← hl, digs_len_zero, dM_eq_zero]
  obtain ⟨E, hE⟩ : ∃ E, dE z e = E := ⟨_, rfl⟩
  rw [hE]
  have HM : Hid (dM (-z) = dM z) := Lib.hid (dM_neg z)
  have HE : Hid (dE (-z) e = E) := Lib.hid (by rw [dE_neg, hE])
  clear hs hl hE
  by_cases hz : z < 0
  · have hd : decide (z < 0) = true := decide_eq_true hz
    have HN : Hid (decide (-z < 0) = false) := Lib.hid (decide_eq_false (by omega))
    rw [hd]
    clear hz hd hlz
    go_enter Try.func33, Try.ntmps33
    go_wp2
    refine bodyPost_ret (v := Dv false (.slice a l c) E) (by simp [results, Try.results33, go_sem]) rfl ⟨_, rfl, ⟨.slice a l c, by rw [HN.out, HE.out], ?_⟩, ?_⟩
    · rw [HM.out]
      refine HS.out.below ?_
      repeat first | exact Below.refl _ _ | refine Below.setCell ?_ (by simp) _ | refine Below.alloc ?_ (by simp) _
    · repeat first | exact Below.refl _ _ | refine Below.setCell ?_ (by simp) _ | refine Below.alloc ?_ (by simp) _
  · have hd : decide (z < 0) = false := decide_eq_false hz
    have HN : Hid (decide (-z < 0) = decide (0 < l)) := Lib.hid (by rw [decide_eq_decide]; omega)
    rw [hd]
    clear hz hd hlz
    go_enter Try.func33, Try.ntmps33
    go_wp2
    refine bodyPost_ret (v := Dv (decide (0 < l)) (.slice a l c) E) (by simp [results, Try.results33, go_sem]) rfl ⟨_, rfl, ⟨.slice a l c, by rw [HN.out, HE.out], ?_⟩, ?_⟩
    · rw [HM.out]
      refine HS.out.below ?_
      repeat first | exact Below.refl _ _ | refine Below.setCell ?_ (by simp) _ | refine Below.alloc ?_ (by simp) _
    · repeat first | exact Below.refl _ _ | refine Below.setCell ?_ (by simp) _ | refine Below.alloc ?_ (by simp) _

theorem digs_mono {a b : Nat} (h : a ≤ b) : (digs a).length ≤ (digs b).length := digs_len_le' (Nat.lt_of_le_of_lt h (digs_len_lt b))
/-- of no more limbs than are allowed -/
def Sz (z : Int) : Prop := (digs z.natAbs).length ≤ 800
theorem Sz.dM {z : Int} (h : Sz z) : (digs (dM z)).length ≤ 800 := Nat.le_trans (digs_mono (od_le _)) h
theorem Sz.tz {z : Int} (h : Sz z) : tz z.natAbs ≤ 19200 := by
  by_cases h0 : z = 0
  · subst h0; rw [show (0 : Int).natAbs = 0 by rfl, tz_zero]; omega
  · have := tz_len (n := z.natAbs) (by omega) h; omega
theorem Sz.dE {z e : Int} (h : Sz z) (he1 : -100000 ≤ e) (he2 : e ≤ 100000) : -100000 ≤ dE z e ∧ dE z e ≤ 120000 := by
  have := h.tz
  unfold Ytemneeknemijpaa.dE
  split <;> omega
theorem isD_zero {w : World} {v : Value} {e : Int} (e' : Int) (h : IsD w v 0 e) : IsD w v 0 e' := by
  obtain ⟨s, rfl, h2⟩ := h
  exact ⟨s, by rw [dE_zero, dE_zero], h2⟩
theorem z_canon (z : Int) : sgz (decide (z < 0)) (Ytemneeknemijpaa.dM z) * ((2 ^ Ytemneeknemijpaa.tz z.natAbs : Nat) : Int) = z := by
  rw [← sgz_mul, dM_pow, sgz_of]
/-- what is made of a number's parts -/
theorem IsD.made {w : World} {v : Value} {z e : Int} {k : Int} (h : IsD w v (sgz (decide (z < 0)) (dM z)) (dE z e + k)) : IsD w v z (e + k) := by
  by_cases h0 : z = 0
  · subst h0
    rw [dM_zero, sgz_zero] at h
    exact isD_zero _ h
  · have h1 := (isD_shift w v (sgz (decide (z < 0)) (dM z)) (e + k) (tz z.natAbs))
    rw [z_canon] at h1
    refine h1.2 ?_
    have h2 : dE z e + k = e + k + tz z.natAbs := by unfold dE; rw [if_neg h0]; omega
    rwa [h2] at h
theorem IsD.parts {w : World} {v : Value} {z e : Int} (h : IsD w v z e) : ∃ a l c, v = Dv (decide (z < 0)) (.slice a l c) (dE z e) ∧ (digs (dM z)).length = l ∧ IsN w (.slice a l c) (dM z) := by
  obtain ⟨s, h1, h2⟩ := h
  obtain ⟨a, l, c, rfl, h3⟩ := h2.parts
  exact ⟨a, l, c, h1, h3, h2⟩
theorem IsD.shape {w : World} {v : Value} {z e : Int} (h : IsD w v z e) : ∃ n a l c E, v = Dv n (.slice a l c) E := by
  obtain ⟨a, l, c, h1, _⟩ := h.parts
  exact ⟨_, a, l, c, _, h1⟩
theorem Box.keepD {w : World} {B : Nat} (hB : Box w B) {v : Value} {z e : Int} (h : IsD w v z e) (x y u : Value) : IsD (((w.setCell ⟨B, 0, none⟩ x).setCell ⟨B, 1, none⟩ y).setCell ⟨B, 2, none⟩ u) v z e := by
  obtain ⟨s, h1, h2⟩ := h
  exact ⟨s, h1, hB.keep h2 x y u⟩
theorem Box.keepB {w w0 : World} {B b : Nat} (h : Below b w0 w) (hb : b ≤ B) (x y u : Value) : Below b w0 (((w.setCell ⟨B, 0, none⟩ x).setCell ⟨B, 1, none⟩ y).setCell ⟨B, 2, none⟩ u) :=
  ((h.setCell hb _).setCell hb _).setCell hb _

set_option maxHeartbeats 1000000 in
theorem d_shift {v : Value} {z e : Int} {w : World} (hv : IsD w v z e) (hz : Sz z) (k : Int) (he1 : -100000 ≤ e) (he2 : e ≤ 100000) (hk1 : -100000 ≤ k) (hk2 : k ≤ 100000) : Calls Try.prog 36 #[v, .int .i64 k] w (MakesD w z (e + k)) := by
  have HMD : Hid (∀ W x, IsD W x (sgz (decide (z < 0)) (dM z)) (dE z e + k) → IsD W x z (e + k)) := Lib.hid (fun _ _ => IsD.made)
  obtain ⟨hE1, hE2⟩ := hz.dE he1 he2
  have HD8 := Lib.hid hz.dM
  obtain ⟨a, l, c, rfl, hl, hs⟩ := hv.parts
  have HS := Lib.hid hs
  obtain ⟨E, hE⟩ : ∃ E, dE z e = E := ⟨_, rfl⟩
  obtain ⟨neg, hneg⟩ : ∃ neg, decide (z < 0) = neg := ⟨_, rfl⟩
  rw [hE] at HMD hE1 hE2 ⊢
  rw [hneg] at HMD ⊢
  clear hs hl hE hneg hv
  go_enter Try.func36, Try.ntmps36
  go_wp2_with fail
  obtain ⟨w0, hw0⟩ : ∃ w0, (w.alloc (Obj.cells #[Value.bool neg, Value.slice a l c, Value.int IntKind.i64 E] 35)).alloc (Obj.cells #[Value.bool false, Value.slice none 0 0, Value.int IntKind.i64 0] 35) = w0 := ⟨_, rfl⟩
  have HB0 : Hid (Below w.heap.size w w0) := Lib.hid (by rw [← hw0]; exact ((Below.refl _ w).alloc (Nat.le_refl _) _).alloc (by simp) _)
  have HBX0 : Hid (Box w0 (w.heap.size + 1)) := Lib.hid (by have := box_alloc (w.alloc (Obj.cells #[Value.bool neg, Value.slice a l c, Value.int IntKind.i64 E] 35)); rw [show boxed _ = w0 from hw0] at this; simpa using this)
  have HS0 : Hid (w0.heap.size = w.heap.size + 2) := Lib.hid (by rw [← hw0]; simp)
  rw [hw0]
  clear hw0
  refine (d_make neg (HS.out.below HB0.out) HD8.out (by omega) (by omega)).mono ?_
  rintro e1 w1 ⟨v1, rfl, hv1, hb1⟩
  obtain ⟨n1, a1, l1, k1, E1, rfl⟩ := hv1.shape
  have HBw : Hid (Below w.heap.size w w1) := Lib.hid (HB0.out.trans (hb1.mono HB0.out.size))
  have BX := Lib.hid (HBX0.out.below hb1 (by rw [HS0.out]; omega))
  obtain ⟨c0, c1, c2, _, f0, f1, f2⟩ := BX.out
  have HN := Lib.hid (fun x y u => HMD.out _ _ (BX.out.keepD hv1 x y u))
  clear hv1 hb1
  go_wp2
  refine bodyPost_ret (v := Dv n1 (.slice a1 l1 k1) E1) (by simp [results, Try.results36, go_sem, c0, c1, c2]) rfl ⟨_, rfl, HN.out _ _ _, Box.keepB HBw.out (by omega) _ _ _⟩

/-- 1, 0, -1 -/
theorem d_sign {v : Value} {z e : Int} {w : World} (hv : IsD w v z e) : Calls Try.prog 66 #[v] w (Gets w (cmpv z 0)) := by
  obtain ⟨a, l, c, rfl, hl, hs⟩ := hv.parts
  have hlz : l = 0 ↔ z = 0 := by rw [← hl, digs_len_zero, dM_eq_zero]
  obtain ⟨E, hE⟩ : ∃ E, dE z e = E := ⟨_, rfl⟩
  rw [hE]
  clear hv hl hs hE
  rcases Int.lt_trichotomy z 0 with hz | hz | hz
  · have hd : decide (z < 0) = true := decide_eq_true hz
    have HC := Lib.hid (cmpv_lt hz)
    have hl0 : ((l : Int) == 0) = false := by apply beq_false_of_ne; omega
    rw [hd]
    clear hz hd hlz
    go_enter Try.func66, Try.ntmps66
    go_wp2
    go_ret
    exact ⟨by rw [HC.out]; rfl, (Below.refl _ _).alloc (Nat.le_refl _) _⟩
  · have hd : decide (z < 0) = false := decide_eq_false (by omega)
    have HC := Lib.hid (cmpv_eq hz)
    obtain rfl : l = 0 := by omega
    rw [hd]
    clear hz hd hlz
    go_enter Try.func66, Try.ntmps66
    go_wp2
    go_ret
    exact ⟨by rw [HC.out]; rfl, (Below.refl _ _).alloc (Nat.le_refl _) _⟩
  · have hd : decide (z < 0) = false := decide_eq_false (by omega)
    have HC := Lib.hid (cmpv_gt hz)
    have hl0 : ((l : Int) == 0) = false := by apply beq_false_of_ne; omega
    rw [hd]
    clear hz hd hlz
    go_enter Try.func66, Try.ntmps66
    go_wp2
    go_ret
    exact ⟨by rw [HC.out]; rfl, (Below.refl _ _).alloc (Nat.le_refl _) _⟩
end Go.Proofs.Ytemneeknemijpaa
