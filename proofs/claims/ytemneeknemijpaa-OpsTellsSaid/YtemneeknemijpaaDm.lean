/- Make of the document's dyadic numbers. No condition but the sizes. -/
import Derived.Test.YtemneeknemijpaaDp
import Derived.Deep.RegionHeld
namespace Go.Proofs.Ytemneeknemijpaa
open Go.RowKit

/-- a row of a number that is not 0 begins -/
theorem isN_cell {w : World} {v : Value} {n : Nat} (h : IsN w v n) (hn : n ≠ 0) : ∃ b off len cap, v = .slice (some ⟨b, off, none⟩) (len + 1) cap ∧ w.cell? ⟨b, off, none⟩ = some (I (n % 16777216)) := by
  obtain ⟨a, len, cap, rfl, h1, _⟩ := h
  have hl := h1.1
  have hp : 0 < len := by
    apply Nat.pos_of_ne_zero
    intro h0
    have h2 : digs n = [] := List.length_eq_zero_iff.1 (by rw [hl, h0])
    have := num_digs n
    rw [h2] at this
    exact hn this.symm
  obtain ⟨k, rfl⟩ : ∃ k, len = k + 1 := ⟨len - 1, by omega⟩
  obtain ⟨b, off, rfl, hc⟩ := isI_cell h1 hp
  rw [digs_limb, Nat.add_zero] at hc
  unfold limb at hc
  rw [W_zero, Nat.div_one] at hc
  exact ⟨b, off, k, cap, rfl, hc⟩

/-- the result's own box, as it was made -/
structure Box (w : World) (B : Nat) : Prop where
  c0 : w.cell? ⟨B, 0, none⟩ = some (.bool false)
  c1 : w.cell? ⟨B, 1, none⟩ = some (.slice none 0 0)
  c2 : w.cell? ⟨B, 2, none⟩ = some (.int .i64 0)
  c3 : ∀ k, w.cell? ⟨B, k + 3, none⟩ = none
  f0 : w.frozen? ⟨B, 0, none⟩ = false
  f1 : w.frozen? ⟨B, 1, none⟩ = false
  f2 : w.frozen? ⟨B, 2, none⟩ = false
abbrev boxed (w : World) : World := w.alloc (Obj.cells #[Value.bool false, Value.slice none 0 0, Value.int IntKind.i64 0] 35)
theorem box_alloc (w : World) : Box (boxed w) w.heap.size :=
  ⟨by simp [go_sem], by simp [go_sem], by simp [go_sem], fun k => by simp [go_sem],by simp [go_sem], by simp [go_sem], by simp [go_sem]⟩
theorem Box.below {w w' : World} {B b : Nat} (h : Box w b) (hb : Below B w w') (hlt : b < B) : Box w' b :=
  ⟨cell_at hb hlt h.c0, cell_at hb hlt h.c1, cell_at hb hlt h.c2, fun k => by rw [hb.cell (p := ⟨b, k + 3, none⟩) hlt]; exact h.c3 k, froz_of hb hlt h.f0, froz_of hb hlt h.f1, froz_of hb hlt h.f2⟩
/-- a number's row lies elsewhere -/
theorem Box.away {w : World} {B n : Nat} (hB : Box w B) {a : Option Addr} {len : Nat} (h : IsI w a len (digs n)) : len = 0 ∨ ∃ b off, a = some ⟨b, off, none⟩ ∧ b ≠ B ∧ (∀ k, k < (digs n).length → w.cell? ⟨b, off + k, none⟩ = some (I ((digs n).getD k 0))) := by
  rcases h.2 with h0 | ⟨b, off, rfl, hc⟩
  · exact .inl h0
  by_cases hl : len = 0
  · exact .inl hl
  refine .inr ⟨b, off, rfl, ?_, hc⟩
  rintro rfl
  have hlen := h.1
  have h0 := hc 0 (by omega)
  rw [Nat.add_zero] at h0
  match off, h0 with
  | 0, h0 => rw [hB.c0] at h0; simp at h0
  | 1, h0 => rw [hB.c1] at h0; simp at h0
  | 2, h0 =>
    by_cases h2 : len = 1
    · have hne : digs n ≠ [] := by intro h3; rw [h3] at hlen; simp at hlen; omega
      have hl := digs_ne_last n hne
      rw [hB.c2] at h0
      obtain ⟨x, hx⟩ : ∃ x, digs n = [x] := List.length_eq_one_iff.1 (by omega)
      simp [hx] at h0 hl
      omega
    · have h1 := hc 1 (by omega)
      rw [show 2 + 1 = 0 + 3 by rfl, hB.c3] at h1
      cases h1
  | k + 3, h0 => rw [hB.c3] at h0; cases h0
theorem Box.keep {w : World} {B n : Nat} (hB : Box w B) {v : Value} (h : IsN w v n) (x y z : Value) : IsN (((w.setCell ⟨B, 0, none⟩ x).setCell ⟨B, 1, none⟩ y).setCell ⟨B, 2, none⟩ z) v n := by
  obtain ⟨a, len, c, rfl, h1, h2⟩ := h
  refine ⟨a, len, c, rfl, ⟨h1.1, ?_⟩, h2⟩
  rcases hB.away h1 with h3 | ⟨b, off, rfl, hb, hc⟩
  · exact .inl h3
  · refine .inr ⟨b, off, rfl, fun k hk => ?_⟩
    rw [World.cell?_setCell_far _ _ _ _ (fun h => hb h.symm), World.cell?_setCell_far _ _ _ _ (fun h => hb h.symm), World.cell?_setCell_far _ _ _ _ (fun h => hb h.symm)]
    exact hc k hk

set_option maxHeartbeats 2000000 in
theorem d_make (neg : Bool) {u : Value} {n : Nat} {e : Int} {w : World} (hu : IsN w u n) (ha8 : (digs n).length ≤ 800) (he1 : -1000000 ≤ e) (he2 : e ≤ 1000000) : Calls Try.prog 59 #[.bool neg, u, .int .i64 e] w (MakesD w (sgz neg n) e) := by
  have HU := Lib.hid hu
  have HA8 := Lib.hid ha8
  by_cases h0 : n = 0
  · subst h0
    obtain ⟨aa, la, ca, rfl, hA, _⟩ := hu
    have hla := hA.1
    rw [digs_zero] at hla
    obtain rfl : 0 = la := hla
    have HZ := Lib.hid (sgz_zero neg)
    clear hA ha8
    go_enter Try.func59, Try.ntmps59
    go_wp2_with fail
    refine bodyPost_ret (v := Dv false (.slice none 0 0) 0) (by simp [results, Try.results59, go_sem]) rfl ⟨_, rfl, ⟨.slice none 0 0, ?_, ?_⟩, ((Below.refl _ w).alloc (Nat.le_refl _) _)⟩
    · rw [HZ.out, dE_zero]; rfl
    · rw [HZ.out, dM_zero]; exact isN_nil _
  · obtain ⟨T, hT⟩ : ∃ T, tz n = T := ⟨_, rfl⟩
    have hT8 : T ≤ 19200 := by have := tz_len h0 ha8; omega
    obtain ⟨aa, la, ca, rfl, hA, _⟩ := hu
    have hla := hA.1
    have hl0 : ¬ (la : Int) = 0 := by
      intro hl
      have h1 : digs n = [] := List.length_eq_zero_iff.1 (by rw [hla]; omega)
      have := num_digs n
      rw [h1] at this
      exact h0 this.symm
    have H0 := Lib.hid h0
    have HT := Lib.hid hT
    have hl1 : ((la : Int) == 0) = false := by apply beq_false_of_ne; exact hl0
    clear hA hla hT h0 hl0 ha8
    go_enter Try.func59, Try.ntmps59
    go_wp2_with fail
    obtain ⟨w0, hw0⟩ : ∃ w0, w.alloc (Obj.cells #[Value.bool false, Value.slice none 0 0, Value.int IntKind.i64 0] 35) = w0 := ⟨_, rfl⟩
    have HB0 : Hid (Below w.heap.size w w0) := Lib.hid (by rw [← hw0]; exact (Below.refl _ w).alloc (Nat.le_refl _) _)
    have HS0 : Hid (w0.heap.size = w.heap.size + 1) := Lib.hid (by rw [← hw0]; simp)
    have BX0 : Hid (Box w0 w.heap.size) := Lib.hid (by rw [← hw0]; exact box_alloc w)
    have HU0 : Hid (IsN w0 (.slice aa la ca) n) := Lib.hid (HU.out.below HB0.out)
    rw [hw0]
    clear hw0
    go_loopw [7] (fun i wr => ∃ k : Nat, k ≤ T ∧ i = .int .i64 (k : Int) ∧ Hid (Below w0.heap.size w0 wr)) (fun i _ => T - (intOf i).toNat)
    case atStart => exact ⟨0, Nat.zero_le _, rfl, Lib.hid (Below.refl _ _)⟩
    case round =>
      obtain ⟨k, hk, rfl, hbl⟩ := hrel
      have hk8 : k ≤ 20000 := by omega
      have HUr : Hid (IsN wr (.slice aa la ca) n) := Lib.hid (HU0.out.below hbl.out)
      have HD8 : Hid ((digs n).length ≤ 2000) := Lib.hid (by have := HA8.out; omega)
      go_wp2_with fail
      refine (n_shr HUr.out HD8.out k hk8).mono ?_
      rintro e1 w1 ⟨v1, rfl, hv1, hb1⟩
      have hq0 : n / 2 ^ k ≠ 0 := by
        intro h2
        have := Nat.div_eq_zero_iff.1 h2
        have hp := Nat.two_pow_pos k
        have h3 : 2 ^ k ≤ 2 ^ tz n := Nat.pow_le_pow_right (by decide) (by rw [HT.out]; exact hk)
        have h4 : 2 ^ tz n ≤ n := by have := od_mul_pow n; have h5 := Nat.le_mul_of_pos_left (2 ^ tz n) (Nat.pos_of_ne_zero (od_ne H0.out)); omega
        omega
      have hev := div_even H0.out (k := k) (by rw [HT.out]; exact hk)
      rw [HT.out] at hev
      obtain ⟨b, off, len, cap, rfl, hc⟩ := isN_cell hv1 hq0
      obtain ⟨q, hq⟩ : ∃ q, n / 2 ^ k = q := ⟨_, rfl⟩
      rw [hq] at hev hc
      obtain ⟨x, hx⟩ : ∃ x, q % 16777216 = x := ⟨_, rfl⟩
      rw [hx] at hc
      have HB1 := Lib.hid (hbl.out.trans (hb1.mono hbl.out.size))
      clear hv1 hb1 hq0 hq
      by_cases hkT : k < T
      · have hq2 := hev.2 hkT
        have hx2 : (x : Int) % 2 = 0 := by omega
        have hxe : ((x : Int) % 2 == 0) = true := by rw [hx2]; rfl
        clear hq2 hev hx hx2
        go_wp2
        go_roundw
        case rel => exact ⟨k + 1, by omega, by go_num, HB1⟩
        case measure => simp [intOf] <;> omega
      · obtain rfl : k = T := by omega
        have hq2 : ¬ q % 2 = 0 := fun h => hkT (hev.1 h)
        have hxe : ((x : Int) % 2 == 0) = false := by apply beq_false_of_ne; omega
        have HU1 : Hid (IsN w1 (.slice aa la ca) n) := Lib.hid (HU0.out.below HB1.out)
        clear hq2 hev hx hkT
        go_wp2_with fail
        refine (n_shr HU1.out HD8.out k hk8).mono ?_
        rintro e2 w2 ⟨v2, rfl, hv2, hb2⟩
        have HB2 := Lib.hid (HB1.out.trans (hb2.mono HB1.out.size))
        obtain ⟨a2, l2, k2, rfl⟩ := hv2.slice
        have HV2 := Lib.hid hv2
        have BX := Lib.hid (BX0.out.below HB2.out (by rw [HS0.out]; omega))
        obtain ⟨c0, c1, c2, _, f0, f1, f2⟩ := BX.out
        have HBw : Hid (Below w.heap.size w w2) := Lib.hid (HB0.out.trans (HB2.out.mono HB0.out.size))
        have HE : Hid (dE (sgz neg n) e = e + k) := Lib.hid (by unfold dE; rw [if_neg (sgz_ne H0.out), sgz_natAbs, HT.out])
        have HM : Hid (dM (sgz neg n) = n / 2 ^ k) := Lib.hid (by unfold dM od; rw [sgz_natAbs, HT.out])
        have HN : Hid (decide (sgz neg n < 0) = neg) := Lib.hid (sgz_neg H0.out)
        clear hv2 hb2
        go_wp2
        refine bodyPost_ret (v := Dv neg (.slice a2 l2 k2) (e + k)) (by simp [results, Try.results59, go_sem, c0, c1, c2]) rfl ⟨_, rfl, ⟨.slice a2 l2 k2, by rw [HN.out, HE.out], ?_⟩, ?_⟩
        · rw [HM.out]; exact BX.out.keep HV2.out _ _ _
        · exact ((HBw.out.setCell (by simp) _).setCell (by simp) _).setCell (by simp) _
end Go.Proofs.Ytemneeknemijpaa
