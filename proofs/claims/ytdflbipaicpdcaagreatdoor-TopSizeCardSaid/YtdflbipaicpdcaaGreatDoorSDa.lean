/- Dyadic numbers z * 2^e by their canonical form: an odd natural, a sign, a power. Make of the document's dyadic numbers. No condition but the sizes. Flip, Shift, Sign of the document's dyadic numbers. No condition but the sizes. Mul of the document's dyadic numbers. No condition but the sizes. Add of the document's dyadic numbers. No condition but the sizes. No condition. -/
import Derived.Test.YtdflbipaicpdcaaGreatDoorSNa
import Derived.Deep.RegionHeld
set_option linter.unusedVariables false
set_option linter.unusedSimpArgs false
namespace Go.Proofs.YtdflbipaicpdcaaGreatDoor
open Go.RowKit
set_option maxRecDepth 100000

/-- how often 2 goes -/
def tz (n : Nat) : Nat := if h : n = 0 then 0 else if n % 2 = 0 then tz (n / 2) + 1 else 0
termination_by n
decreasing_by omega
theorem tz_zero : tz 0 = 0 := by rw [tz]; simp
theorem tz_odd {n : Nat} (h : n % 2 = 1) : tz n = 0 := by
  rw [tz, dif_neg (by omega), if_neg (by omega)]
theorem tz_even {n : Nat} (h0 : n ≠ 0) (h : n % 2 = 0) : tz n = tz (n / 2) + 1 := by
  conv => lhs; rw [tz]
  rw [dif_neg h0, if_pos h]
theorem tz_two {n : Nat} (h0 : n ≠ 0) : tz (n * 2) = tz n + 1 := by
  rw [tz_even (by omega) (by omega), Nat.mul_div_cancel _ (by decide)]
theorem tz_mul {n : Nat} (h0 : n ≠ 0) : ∀ k, tz (n * 2 ^ k) = tz n + k
  | 0 => by rw [Nat.pow_zero, Nat.mul_one]; rfl
  | k + 1 => by
    rw [Nat.pow_succ, ← Nat.mul_assoc, tz_two (Nat.mul_ne_zero h0 (by have := Nat.two_pow_pos k; omega)), tz_mul h0 k]
    omega
/-- the odd part -/
def od (n : Nat) : Nat := n / 2 ^ tz n
theorem od_mul_pow (n : Nat) : od n * 2 ^ tz n = n := by
  unfold od
  induction n using Nat.strongRecOn with
  | ind n ih =>
    by_cases h0 : n = 0
    · subst h0; simp
    by_cases h : n % 2 = 0
    · have := ih (n / 2) (by omega)
      rw [tz_even h0 h, Nat.pow_succ, Nat.mul_comm (2 ^ tz (n / 2)) 2, ← Nat.div_div_eq_div_mul]
      rw [Nat.mul_comm 2 (2 ^ tz (n / 2)), ← Nat.mul_assoc, this]
      omega
    · rw [tz_odd (by omega)]; simp
theorem od_odd {n : Nat} (h0 : n ≠ 0) : od n % 2 = 1 := by
  unfold od
  induction n using Nat.strongRecOn with
  | ind n ih =>
    by_cases h : n % 2 = 0
    · have := ih (n / 2) (by omega) (by omega)
      rw [tz_even h0 h, Nat.pow_succ, Nat.mul_comm (2 ^ tz (n / 2)) 2, ← Nat.div_div_eq_div_mul]
      exact this
    · rw [tz_odd (by omega)]; simp; omega
theorem od_zero : od 0 = 0 := by unfold od; simp
theorem od_mul {n : Nat} (k : Nat) : od (n * 2 ^ k) = od n := by
  by_cases h0 : n = 0
  · subst h0; simp
  · unfold od
    rw [tz_mul h0, Nat.add_comm, Nat.pow_add, ← Nat.div_div_eq_div_mul, Nat.mul_div_cancel _ (Nat.two_pow_pos _)]
theorem od_le (n : Nat) : od n ≤ n := Nat.div_le_self _ _
theorem od_ne {n : Nat} (h0 : n ≠ 0) : od n ≠ 0 := by have := od_odd h0; omega
/-- the loop's test -/
theorem div_even {n : Nat} (h0 : n ≠ 0) {k : Nat} (hk : k ≤ tz n) : (n / 2 ^ k % 2 = 0) ↔ k < tz n := by
  have e : n / 2 ^ k = od n * 2 ^ (tz n - k) := by
    conv => lhs; rw [← od_mul_pow n, show tz n = (tz n - k) + k by omega, Nat.pow_add, ← Nat.mul_assoc]
    exact Nat.mul_div_cancel _ (Nat.two_pow_pos _)
  rw [e]
  constructor
  · intro h
    apply Nat.lt_of_not_le
    intro h2
    rw [show tz n - k = 0 by omega, Nat.pow_zero, Nat.mul_one] at h
    have := od_odd h0
    omega
  · intro h
    rw [show tz n - k = (tz n - k - 1) + 1 by omega, Nat.pow_succ, ← Nat.mul_assoc]
    exact Nat.mul_mod_left _ _
theorem tz_lt {n k : Nat} (h0 : n ≠ 0) (h : n < 2 ^ k) : tz n < k := by
  have h1 := od_mul_pow n
  have h2 := od_ne h0
  apply Nat.lt_of_not_le
  intro h3
  have h4 : 2 ^ k ≤ 2 ^ tz n := Nat.pow_le_pow_right (by decide) h3
  have h5 : 1 * 2 ^ tz n ≤ od n * 2 ^ tz n := Nat.mul_le_mul_right _ (by omega)
  omega

theorem tz_len {n : Nat} (h0 : n ≠ 0) {L : Nat} (h : (digs n).length ≤ L) : tz n < 24 * L :=
  tz_lt h0 (by rw [← W_two]; exact Nat.lt_of_lt_of_le (digs_len_lt n) (W_mono h))
theorem froz_of {W W1 : World} {B : Nat} (hb : Below B W W1) {b o : Nat} (h : b < B) (hf : W.frozen? ⟨b, o, none⟩ = false) : W1.frozen? ⟨b, o, none⟩ = false := by
  rw [hb.frozen (p := ⟨b, o, none⟩) h, hf]
theorem cell_at {W W1 : World} {B : Nat} (hb : Below B W W1) {b o : Nat} {v : Value} (h : b < B) (hc : W.cell? ⟨b, o, none⟩ = some v) : W1.cell? ⟨b, o, none⟩ = some v := by
  rw [hb.cell (p := ⟨b, o, none⟩) h, hc]

/-- the canonical form of z * 2^e -/
def dM (z : Int) : Nat := od z.natAbs
def dE (z e : Int) : Int := if z = 0 then 0 else e + tz z.natAbs
theorem pow_pos_int (k : Nat) : (0 : Int) < ((2 ^ k : Nat) : Int) := by have := Nat.two_pow_pos k; omega
theorem natAbs_mul_pow (z : Int) (k : Nat) : (z * ((2 ^ k : Nat) : Int)).natAbs = z.natAbs * 2 ^ k := by rw [Int.natAbs_mul, Int.natAbs_natCast]
theorem dM_mul (z : Int) (k : Nat) : dM (z * ((2 ^ k : Nat) : Int)) = dM z := by unfold dM; rw [natAbs_mul_pow, od_mul]
theorem mul_pow_zero (z : Int) (k : Nat) : z * ((2 ^ k : Nat) : Int) = 0 ↔ z = 0 := by
  constructor
  · intro h
    rcases Int.mul_eq_zero.1 h with h | h
    · exact h
    · have := pow_pos_int k; omega
  · rintro rfl; simp
theorem mul_pow_neg (z : Int) (k : Nat) : z * ((2 ^ k : Nat) : Int) < 0 ↔ z < 0 := by
  have hp := pow_pos_int k
  constructor
  · intro h
    apply Int.lt_of_not_ge
    intro h2
    have := Int.mul_nonneg h2 (Int.le_of_lt hp)
    omega
  · intro h; exact Int.mul_neg_of_neg_of_pos h hp
theorem dE_mul (z e : Int) (k : Nat) : dE (z * ((2 ^ k : Nat) : Int)) e = dE z (e + k) := by
  unfold dE
  by_cases h : z = 0
  · subst h; simp
  · rw [if_neg h, if_neg (fun h2 => h ((mul_pow_zero z k).1 h2)), natAbs_mul_pow, tz_mul (by omega)]
    push_cast
    omega
theorem dM_pow (z : Int) : dM z * 2 ^ tz z.natAbs = z.natAbs := od_mul_pow _
theorem dM_zero : dM 0 = 0 := od_zero
theorem dE_zero (e : Int) : dE 0 e = 0 := by unfold dE; simp
theorem dM_ne {z : Int} (h : z ≠ 0) : dM z ≠ 0 := od_ne (by omega)
theorem dM_eq_zero {z : Int} : dM z = 0 ↔ z = 0 := ⟨fun h => Decidable.byContradiction fun h2 => dM_ne h2 h, fun h => by subst h; exact dM_zero⟩
/-- A dyadic number's value. -/
abbrev Dv (neg : Bool) (s : Value) (E : Int) : Value := .agg #[.bool neg, s, .int .i64 E]
/-- v is z * 2^e. -/
def IsD (w : World) (v : Value) (z e : Int) : Prop := ∃ s, v = Dv (decide (z < 0)) s (dE z e) ∧ IsN w s (dM z)
def MakesD (w : World) (z e : Int) (en : Ending) (W' : World) : Prop := ∃ v, en = .returned v ∧ IsD W' v z e ∧ Below w.heap.size w W'
theorem IsD.below {w w' : World} {v : Value} {z e : Int} (h : IsD w v z e) (hb : Below w.heap.size w w') : IsD w' v z e := by
  obtain ⟨s, h1, h2⟩ := h
  exact ⟨s, h1, h2.below hb⟩
theorem isD_shift (w : World) (v : Value) (z e : Int) (k : Nat) : IsD w v (z * ((2 ^ k : Nat) : Int)) e ↔ IsD w v z (e + k) := by
  unfold IsD
  rw [dM_mul, dE_mul, decide_eq_decide.2 (mul_pow_neg z k)]
/-- the same number, at another scale -/
theorem IsD.to {w : World} {v : Value} {z e : Int} (h : IsD w v z e) (k : Nat) {e' z' : Int} (he : e' + k = e) (hz : z * ((2 ^ k : Nat) : Int) = z') : IsD w v z' e' := by
  subst hz he
  exact (isD_shift w v z e' k).2 h
theorem IsN.slice {w : World} {v : Value} {n : Nat} (h : IsN w v n) : ∃ a l c, v = .slice a l c := by
  obtain ⟨a, l, c, h1, _⟩ := h
  exact ⟨a, l, c, h1⟩
/-- a sign, a natural -/
def sgz (neg : Bool) (m : Nat) : Int := if neg then -(m : Int) else m
theorem sgz_natAbs (neg : Bool) (m : Nat) : (sgz neg m).natAbs = m := by unfold sgz; split <;> simp
theorem sgz_zero (neg : Bool) : sgz neg 0 = 0 := by unfold sgz; split <;> simp
theorem sgz_ne {neg : Bool} {m : Nat} (h : m ≠ 0) : sgz neg m ≠ 0 := by unfold sgz; split <;> omega
theorem sgz_neg {neg : Bool} {m : Nat} (h : m ≠ 0) : decide (sgz neg m < 0) = neg := by unfold sgz; cases neg <;> simp <;> omega
theorem sgz_mul (neg : Bool) (m k : Nat) : sgz neg (m * k) = sgz neg m * (k : Int) := by unfold sgz; split <;> simp [Int.neg_mul]
theorem sgz_of (z : Int) : sgz (decide (z < 0)) z.natAbs = z := by unfold sgz; by_cases h : z < 0 <;> simp [h] <;> omega
end Go.Proofs.YtdflbipaicpdcaaGreatDoor
namespace Go.Proofs.YtdflbipaicpdcaaGreatDoor
open Go.RowKit
set_option maxRecDepth 100000

/-- a row of a number that is not 0 begins -/
theorem isN_cell {w : World} {v : Value} {n : Nat} (h : IsN w v n) (hn : n ≠ 0) : ∃ b off len cap, v = .slice (some ⟨b, off, none⟩) (len + 1) cap ∧ w.cell? ⟨b, off, none⟩ = some (I (n % 16777216)) := by
  obtain ⟨a, len, cap, rfl, h1, _⟩ := h
  have hl := h1.1
  have hp : 0 < len := by
    apply Nat.pos_of_ne_zero
    intro h0
    have h2 : digs n = [] := List.length_eq_zero_iff.1 (by rw [hl, h0])
    have := num_digs n
    rw [h2] at this
    exact hn this.symm
  obtain ⟨k, rfl⟩ : ∃ k, len = k + 1 := ⟨len - 1, by omega⟩
  obtain ⟨b, off, rfl, hc⟩ := isI_cell h1 hp
  rw [digs_limb, Nat.add_zero] at hc
  unfold limb at hc
  rw [W_zero, Nat.div_one] at hc
  exact ⟨b, off, k, cap, rfl, hc⟩

/-- the result's own box, as it was made -/
structure Box (w : World) (B : Nat) : Prop where
  c0 : w.cell? ⟨B, 0, none⟩ = some (.bool false)
  c1 : w.cell? ⟨B, 1, none⟩ = some (.slice none 0 0)
  c2 : w.cell? ⟨B, 2, none⟩ = some (.int .i64 0)
  c3 : ∀ k, w.cell? ⟨B, k + 3, none⟩ = none
  f0 : w.frozen? ⟨B, 0, none⟩ = false
  f1 : w.frozen? ⟨B, 1, none⟩ = false
  f2 : w.frozen? ⟨B, 2, none⟩ = false
abbrev boxed (w : World) : World := w.alloc (Obj.cells #[Value.bool false, Value.slice none 0 0, Value.int IntKind.i64 0] 36)
theorem box_alloc (w : World) : Box (boxed w) w.heap.size :=
  ⟨by simp [go_sem], by simp [go_sem], by simp [go_sem], fun k => by simp [go_sem],by simp [go_sem], by simp [go_sem], by simp [go_sem]⟩
theorem Box.below {w w' : World} {B b : Nat} (h : Box w b) (hb : Below B w w') (hlt : b < B) : Box w' b :=
  ⟨cell_at hb hlt h.c0, cell_at hb hlt h.c1, cell_at hb hlt h.c2, fun k => by rw [hb.cell (p := ⟨b, k + 3, none⟩) hlt]; exact h.c3 k, froz_of hb hlt h.f0, froz_of hb hlt h.f1, froz_of hb hlt h.f2⟩
/-- a number's row lies elsewhere -/
theorem Box.away {w : World} {B n : Nat} (hB : Box w B) {a : Option Addr} {len : Nat} (h : IsI w a len (digs n)) : len = 0 ∨ ∃ b off, a = some ⟨b, off, none⟩ ∧ b ≠ B ∧ (∀ k, k < (digs n).length → w.cell? ⟨b, off + k, none⟩ = some (I ((digs n).getD k 0))) := by
  rcases h.2 with h0 | ⟨b, off, rfl, hc⟩
  · exact .inl h0
  by_cases hl : len = 0
  · exact .inl hl
  refine .inr ⟨b, off, rfl, ?_, hc⟩
  rintro rfl
  have hlen := h.1
  have h0 := hc 0 (by omega)
  rw [Nat.add_zero] at h0
  match off, h0 with
  | 0, h0 => rw [hB.c0] at h0; simp at h0
  | 1, h0 => rw [hB.c1] at h0; simp at h0
  | 2, h0 =>
    by_cases h2 : len = 1
    · have hne : digs n ≠ [] := by intro h3; rw [h3] at hlen; simp at hlen; omega
      have hl := digs_ne_last n hne
      rw [hB.c2] at h0
      obtain ⟨x, hx⟩ : ∃ x, digs n = [x] := List.length_eq_one_iff.1 (by omega)
      simp [hx] at h0 hl
      omega
    · have h1 := hc 1 (by omega)
      rw [show 2 + 1 = 0 + 3 by rfl, hB.c3] at h1
      cases h1
  | k + 3, h0 => rw [hB.c3] at h0; cases h0
theorem Box.keep {w : World} {B n : Nat} (hB : Box w B) {v : Value} (h : IsN w v n) (x y z : Value) : IsN (((w.setCell ⟨B, 0, none⟩ x).setCell ⟨B, 1, none⟩ y).setCell ⟨B, 2, none⟩ z) v n := by
  obtain ⟨a, len, c, rfl, h1, h2⟩ := h
  refine ⟨a, len, c, rfl, ⟨h1.1, ?_⟩, h2⟩
  rcases hB.away h1 with h3 | ⟨b, off, rfl, hb, hc⟩
  · exact .inl h3
  · refine .inr ⟨b, off, rfl, fun k hk => ?_⟩
    rw [World.cell?_setCell_far _ _ _ _ (fun h => hb h.symm), World.cell?_setCell_far _ _ _ _ (fun h => hb h.symm), World.cell?_setCell_far _ _ _ _ (fun h => hb h.symm)]
    exact hc k hk

set_option maxHeartbeats 2000000 in
theorem d_make (neg : Bool) {u : Value} {n : Nat} {e : Int} {w : World} (hu : IsN w u n) (ha8 : (digs n).length ≤ 800) (he1 : -1000000 ≤ e) (he2 : e ≤ 1000000) : Calls Tryz.prog 28 #[.bool neg, u, .int .i64 e] w (MakesD w (sgz neg n) e) := by
  have HU := Lib.hid hu
  have HA8 := Lib.hid ha8
  by_cases h0 : n = 0
  · subst h0
    obtain ⟨aa, la, ca, rfl, hA, _⟩ := hu
    have hla := hA.1
    rw [digs_zero] at hla
    obtain rfl : 0 = la := hla
    have HZ := Lib.hid (sgz_zero neg)
    clear hA ha8
    go_enter Tryz.func28, Tryz.ntmps28
    go_wp2_with fail
    refine bodyPost_ret (v := Dv false (.slice none 0 0) 0) (by simp [results, Tryz.results28, go_sem]) rfl ⟨_, rfl, ⟨.slice none 0 0, ?_, ?_⟩, ((Below.refl _ w).alloc (Nat.le_refl _) _)⟩
    · rw [HZ.out, dE_zero]; rfl
    · rw [HZ.out, dM_zero]; exact isN_nil _
  · obtain ⟨T, hT⟩ : ∃ T, tz n = T := ⟨_, rfl⟩
    have hT8 : T ≤ 19200 := by have := tz_len h0 ha8; omega
    obtain ⟨aa, la, ca, rfl, hA, _⟩ := hu
    have hla := hA.1
    have hl0 : ¬ (la : Int) = 0 := by
      intro hl
      have h1 : digs n = [] := List.length_eq_zero_iff.1 (by rw [hla]; omega)
      have := num_digs n
      rw [h1] at this
      exact h0 this.symm
    have H0 := Lib.hid h0
    have HT := Lib.hid hT
    have hl1 : ((la : Int) == 0) = false := by apply beq_false_of_ne; exact hl0
    clear hA hla hT h0 hl0 ha8
    go_enter Tryz.func28, Tryz.ntmps28
    go_wp2_with fail
    obtain ⟨w0, hw0⟩ : ∃ w0, w.alloc (Obj.cells #[Value.bool false, Value.slice none 0 0, Value.int IntKind.i64 0] 36) = w0 := ⟨_, rfl⟩
    have HB0 : Hid (Below w.heap.size w w0) := Lib.hid (by rw [← hw0]; exact (Below.refl _ w).alloc (Nat.le_refl _) _)
    have HS0 : Hid (w0.heap.size = w.heap.size + 1) := Lib.hid (by rw [← hw0]; simp)
    have BX0 : Hid (Box w0 w.heap.size) := Lib.hid (by rw [← hw0]; exact box_alloc w)
    have HU0 : Hid (IsN w0 (.slice aa la ca) n) := Lib.hid (HU.out.below HB0.out)
    rw [hw0]
    clear hw0
    go_loopw [7] (fun i wr => ∃ k : Nat, k ≤ T ∧ i = .int .i64 (k : Int) ∧ Hid (Below w0.heap.size w0 wr)) (fun i _ => T - (intOf i).toNat)
    case atStart => exact ⟨0, Nat.zero_le _, rfl, Lib.hid (Below.refl _ _)⟩
    case round =>
      obtain ⟨k, hk, rfl, hbl⟩ := hrel
      have hk8 : k ≤ 20000 := by omega
      have HUr : Hid (IsN wr (.slice aa la ca) n) := Lib.hid (HU0.out.below hbl.out)
      have HD8 : Hid ((digs n).length ≤ 2000) := Lib.hid (by have := HA8.out; omega)
      go_wp2_with fail
      refine (n_shr HUr.out HD8.out k hk8).mono ?_
      rintro e1 w1 ⟨v1, rfl, hv1, hb1⟩
      have hq0 : n / 2 ^ k ≠ 0 := by
        intro h2
        have := Nat.div_eq_zero_iff.1 h2
        have hp := Nat.two_pow_pos k
        have h3 : 2 ^ k ≤ 2 ^ tz n := Nat.pow_le_pow_right (by decide) (by rw [HT.out]; exact hk)
        have h4 : 2 ^ tz n ≤ n := by have := od_mul_pow n; have h5 := Nat.le_mul_of_pos_left (2 ^ tz n) (Nat.pos_of_ne_zero (od_ne H0.out)); omega
        omega
      have hev := div_even H0.out (k := k) (by rw [HT.out]; exact hk)
      rw [HT.out] at hev
      obtain ⟨b, off, len, cap, rfl, hc⟩ := isN_cell hv1 hq0
      obtain ⟨q, hq⟩ : ∃ q, n / 2 ^ k = q := ⟨_, rfl⟩
      rw [hq] at hev hc
      obtain ⟨x, hx⟩ : ∃ x, q % 16777216 = x := ⟨_, rfl⟩
      rw [hx] at hc
      have HB1 := Lib.hid (hbl.out.trans (hb1.mono hbl.out.size))
      clear hv1 hb1 hq0 hq
      by_cases hkT : k < T
      · have hq2 := hev.2 hkT
        have hx2 : (x : Int) % 2 = 0 := by omega
        have hxe : ((x : Int) % 2 == 0) = true := by rw [hx2]; rfl
        clear hq2 hev hx hx2
        go_wp2
        go_roundw
        case rel => exact ⟨k + 1, by omega, by go_num, HB1⟩
        case measure => simp [intOf] <;> omega
      · obtain rfl : k = T := by omega
        have hq2 : ¬ q % 2 = 0 := fun h => hkT (hev.1 h)
        have hxe : ((x : Int) % 2 == 0) = false := by apply beq_false_of_ne; omega
        have HU1 : Hid (IsN w1 (.slice aa la ca) n) := Lib.hid (HU0.out.below HB1.out)
        clear hq2 hev hx hkT
        go_wp2_with fail
        refine (n_shr HU1.out HD8.out k hk8).mono ?_
        rintro e2 w2 ⟨v2, rfl, hv2, hb2⟩
        have HB2 := Lib.hid (HB1.out.trans (hb2.mono HB1.out.size))
        obtain ⟨a2, l2, k2, rfl⟩ := hv2.slice
        have HV2 := Lib.hid hv2
        have BX := Lib.hid (BX0.out.below HB2.out (by rw [HS0.out]; omega))
        obtain ⟨c0, c1, c2, _, f0, f1, f2⟩ := BX.out
        have HBw : Hid (Below w.heap.size w w2) := Lib.hid (HB0.out.trans (HB2.out.mono HB0.out.size))
        have HE : Hid (dE (sgz neg n) e = e + k) := Lib.hid (by unfold dE; rw [if_neg (sgz_ne H0.out), sgz_natAbs, HT.out])
        have HM : Hid (dM (sgz neg n) = n / 2 ^ k) := Lib.hid (by unfold dM od; rw [sgz_natAbs, HT.out])
        have HN : Hid (decide (sgz neg n < 0) = neg) := Lib.hid (sgz_neg H0.out)
        clear hv2 hb2
        go_wp2
        refine bodyPost_ret (v := Dv neg (.slice a2 l2 k2) (e + k)) (by simp [results, Tryz.results28, go_sem, c0, c1, c2]) rfl ⟨_, rfl, ⟨.slice a2 l2 k2, by rw [HN.out, HE.out], ?_⟩, ?_⟩
        · rw [HM.out]; exact BX.out.keep HV2.out _ _ _
        · exact ((HBw.out.setCell (by simp) _).setCell (by simp) _).setCell (by simp) _
end Go.Proofs.YtdflbipaicpdcaaGreatDoor
namespace Go.Proofs.YtdflbipaicpdcaaGreatDoor
open Go.RowKit
set_option maxRecDepth 100000

theorem dM_neg (z : Int) : dM (-z) = dM z := by unfold dM; rw [Int.natAbs_neg]
theorem dE_neg (z e : Int) : dE (-z) e = dE z e := by unfold dE; rw [Int.natAbs_neg]; by_cases h : z = 0 <;> simp [h]
theorem IsN.parts {w : World} {v : Value} {n : Nat} (h : IsN w v n) : ∃ a l c, v = .slice a l c ∧ (digs n).length = l := by
  obtain ⟨a, l, c, h1, h2, _⟩ := h
  exact ⟨a, l, c, h1, h2.1⟩
theorem digs_len_zero {n : Nat} : (digs n).length = 0 ↔ n = 0 := by
  constructor
  · intro h
    have h1 : digs n = [] := List.length_eq_zero_iff.1 h
    have := num_digs n
    rw [h1] at this
    exact this.symm
  · rintro rfl; rw [digs_zero]; rfl

set_option maxHeartbeats 1000000 in
theorem d_flip {v : Value} {z e : Int} {w : World} (hv : IsD w v z e) : Calls Tryz.prog 17 #[v] w (MakesD w (-z) e) := by
  obtain ⟨s, rfl, hs⟩ := hv
  obtain ⟨a, l, c, rfl, hl⟩ := hs.parts
  have HS := Lib.hid hs
  have hlz : l = 0 ↔ z = 0 := by rw [← hl, digs_len_zero, dM_eq_zero]
  obtain ⟨E, hE⟩ : ∃ E, dE z e = E := ⟨_, rfl⟩
  rw [hE]
  have HM : Hid (dM (-z) = dM z) := Lib.hid (dM_neg z)
  have HE : Hid (dE (-z) e = E) := Lib.hid (by rw [dE_neg, hE])
  clear hs hl hE
  by_cases hz : z < 0
  · have hd : decide (z < 0) = true := decide_eq_true hz
    have HN : Hid (decide (-z < 0) = false) := Lib.hid (decide_eq_false (by omega))
    rw [hd]
    clear hz hd hlz
    go_enter Tryz.func17, Tryz.ntmps17
    go_wp2
    refine bodyPost_ret (v := Dv false (.slice a l c) E) (by simp [results, Tryz.results17, go_sem]) rfl ⟨_, rfl, ⟨.slice a l c, by rw [HN.out, HE.out], ?_⟩, ?_⟩
    · rw [HM.out]
      refine HS.out.below ?_
      repeat first | exact Below.refl _ _ | refine Below.setCell ?_ (by simp) _ | refine Below.alloc ?_ (by simp) _
    · repeat first | exact Below.refl _ _ | refine Below.setCell ?_ (by simp) _ | refine Below.alloc ?_ (by simp) _
  · have hd : decide (z < 0) = false := decide_eq_false hz
    have HN : Hid (decide (-z < 0) = decide (0 < l)) := Lib.hid (by rw [decide_eq_decide]; omega)
    rw [hd]
    clear hz hd hlz
    go_enter Tryz.func17, Tryz.ntmps17
    go_wp2
    refine bodyPost_ret (v := Dv (decide (0 < l)) (.slice a l c) E) (by simp [results, Tryz.results17, go_sem]) rfl ⟨_, rfl, ⟨.slice a l c, by rw [HN.out, HE.out], ?_⟩, ?_⟩
    · rw [HM.out]
      refine HS.out.below ?_
      repeat first | exact Below.refl _ _ | refine Below.setCell ?_ (by simp) _ | refine Below.alloc ?_ (by simp) _
    · repeat first | exact Below.refl _ _ | refine Below.setCell ?_ (by simp) _ | refine Below.alloc ?_ (by simp) _

theorem digs_mono {a b : Nat} (h : a ≤ b) : (digs a).length ≤ (digs b).length := digs_len_le' (Nat.lt_of_le_of_lt h (digs_len_lt b))
/-- of no more limbs than are allowed -/
def Sz (z : Int) : Prop := (digs z.natAbs).length ≤ 800
theorem Sz.dM {z : Int} (h : Sz z) : (digs (dM z)).length ≤ 800 := Nat.le_trans (digs_mono (od_le _)) h
theorem Sz.tz {z : Int} (h : Sz z) : tz z.natAbs ≤ 19200 := by
  by_cases h0 : z = 0
  · subst h0; rw [show (0 : Int).natAbs = 0 by rfl, tz_zero]; omega
  · have := tz_len (n := z.natAbs) (by omega) h; omega
theorem Sz.dE {z e : Int} (h : Sz z) (he1 : -100000 ≤ e) (he2 : e ≤ 100000) : -100000 ≤ dE z e ∧ dE z e ≤ 120000 := by
  have := h.tz
  unfold YtdflbipaicpdcaaGreatDoor.dE
  split <;> omega
theorem isD_zero {w : World} {v : Value} {e : Int} (e' : Int) (h : IsD w v 0 e) : IsD w v 0 e' := by
  obtain ⟨s, rfl, h2⟩ := h
  exact ⟨s, by rw [dE_zero, dE_zero], h2⟩
theorem z_canon (z : Int) : sgz (decide (z < 0)) (YtdflbipaicpdcaaGreatDoor.dM z) * ((2 ^ YtdflbipaicpdcaaGreatDoor.tz z.natAbs : Nat) : Int) = z := by
  rw [← sgz_mul, dM_pow, sgz_of]
/-- what is made of a number's parts -/
theorem IsD.made {w : World} {v : Value} {z e : Int} {k : Int} (h : IsD w v (sgz (decide (z < 0)) (dM z)) (dE z e + k)) : IsD w v z (e + k) := by
  by_cases h0 : z = 0
  · subst h0
    rw [dM_zero, sgz_zero] at h
    exact isD_zero _ h
  · have h1 := (isD_shift w v (sgz (decide (z < 0)) (dM z)) (e + k) (tz z.natAbs))
    rw [z_canon] at h1
    refine h1.2 ?_
    have h2 : dE z e + k = e + k + tz z.natAbs := by unfold dE; rw [if_neg h0]; omega
    rwa [h2] at h
theorem IsD.parts {w : World} {v : Value} {z e : Int} (h : IsD w v z e) : ∃ a l c, v = Dv (decide (z < 0)) (.slice a l c) (dE z e) ∧ (digs (dM z)).length = l ∧ IsN w (.slice a l c) (dM z) := by
  obtain ⟨s, h1, h2⟩ := h
  obtain ⟨a, l, c, rfl, h3⟩ := h2.parts
  exact ⟨a, l, c, h1, h3, h2⟩
theorem IsD.shape {w : World} {v : Value} {z e : Int} (h : IsD w v z e) : ∃ n a l c E, v = Dv n (.slice a l c) E := by
  obtain ⟨a, l, c, h1, _⟩ := h.parts
  exact ⟨_, a, l, c, _, h1⟩
theorem Box.keepD {w : World} {B : Nat} (hB : Box w B) {v : Value} {z e : Int} (h : IsD w v z e) (x y u : Value) : IsD (((w.setCell ⟨B, 0, none⟩ x).setCell ⟨B, 1, none⟩ y).setCell ⟨B, 2, none⟩ u) v z e := by
  obtain ⟨s, h1, h2⟩ := h
  exact ⟨s, h1, hB.keep h2 x y u⟩
theorem Box.keepB {w w0 : World} {B b : Nat} (h : Below b w0 w) (hb : b ≤ B) (x y u : Value) : Below b w0 (((w.setCell ⟨B, 0, none⟩ x).setCell ⟨B, 1, none⟩ y).setCell ⟨B, 2, none⟩ u) :=
  ((h.setCell hb _).setCell hb _).setCell hb _

set_option maxHeartbeats 1000000 in
theorem d_shift {v : Value} {z e : Int} {w : World} (hv : IsD w v z e) (hz : Sz z) (k : Int) (he1 : -100000 ≤ e) (he2 : e ≤ 100000) (hk1 : -100000 ≤ k) (hk2 : k ≤ 100000) : Calls Tryz.prog 13 #[v, .int .i64 k] w (MakesD w z (e + k)) := by
  have HMD : Hid (∀ W x, IsD W x (sgz (decide (z < 0)) (dM z)) (dE z e + k) → IsD W x z (e + k)) := Lib.hid (fun _ _ => IsD.made)
  obtain ⟨hE1, hE2⟩ := hz.dE he1 he2
  have HD8 := Lib.hid hz.dM
  obtain ⟨a, l, c, rfl, hl, hs⟩ := hv.parts
  have HS := Lib.hid hs
  obtain ⟨E, hE⟩ : ∃ E, dE z e = E := ⟨_, rfl⟩
  obtain ⟨neg, hneg⟩ : ∃ neg, decide (z < 0) = neg := ⟨_, rfl⟩
  rw [hE] at HMD hE1 hE2 ⊢
  rw [hneg] at HMD ⊢
  clear hs hl hE hneg hv
  go_enter Tryz.func13, Tryz.ntmps13
  go_wp2_with fail
  obtain ⟨w0, hw0⟩ : ∃ w0, (w.alloc (Obj.cells #[Value.bool neg, Value.slice a l c, Value.int IntKind.i64 E] 36)).alloc (Obj.cells #[Value.bool false, Value.slice none 0 0, Value.int IntKind.i64 0] 36) = w0 := ⟨_, rfl⟩
  have HB0 : Hid (Below w.heap.size w w0) := Lib.hid (by rw [← hw0]; exact ((Below.refl _ w).alloc (Nat.le_refl _) _).alloc (by simp) _)
  have HBX0 : Hid (Box w0 (w.heap.size + 1)) := Lib.hid (by have := box_alloc (w.alloc (Obj.cells #[Value.bool neg, Value.slice a l c, Value.int IntKind.i64 E] 36)); rw [show boxed _ = w0 from hw0] at this; simpa using this)
  have HS0 : Hid (w0.heap.size = w.heap.size + 2) := Lib.hid (by rw [← hw0]; simp)
  rw [hw0]
  clear hw0
  refine (d_make neg (HS.out.below HB0.out) HD8.out (by omega) (by omega)).mono ?_
  rintro e1 w1 ⟨v1, rfl, hv1, hb1⟩
  obtain ⟨n1, a1, l1, k1, E1, rfl⟩ := hv1.shape
  have HBw : Hid (Below w.heap.size w w1) := Lib.hid (HB0.out.trans (hb1.mono HB0.out.size))
  have BX := Lib.hid (HBX0.out.below hb1 (by rw [HS0.out]; omega))
  obtain ⟨c0, c1, c2, _, f0, f1, f2⟩ := BX.out
  have HN := Lib.hid (fun x y u => HMD.out _ _ (BX.out.keepD hv1 x y u))
  clear hv1 hb1
  go_wp2
  refine bodyPost_ret (v := Dv n1 (.slice a1 l1 k1) E1) (by simp [results, Tryz.results13, go_sem, c0, c1, c2]) rfl ⟨_, rfl, HN.out _ _ _, Box.keepB HBw.out (by omega) _ _ _⟩

/-- 1, 0, -1 -/
theorem d_sign {v : Value} {z e : Int} {w : World} (hv : IsD w v z e) : Calls Tryz.prog 35 #[v] w (Gets w (cmpv z 0)) := by
  obtain ⟨a, l, c, rfl, hl, hs⟩ := hv.parts
  have hlz : l = 0 ↔ z = 0 := by rw [← hl, digs_len_zero, dM_eq_zero]
  obtain ⟨E, hE⟩ : ∃ E, dE z e = E := ⟨_, rfl⟩
  rw [hE]
  clear hv hl hs hE
  rcases Int.lt_trichotomy z 0 with hz | hz | hz
  · have hd : decide (z < 0) = true := decide_eq_true hz
    have HC := Lib.hid (cmpv_lt hz)
    have hl0 : ((l : Int) == 0) = false := by apply beq_false_of_ne; omega
    rw [hd]
    clear hz hd hlz
    go_enter Tryz.func35, Tryz.ntmps35
    go_wp2
    go_ret
    exact ⟨by rw [HC.out]; rfl, (Below.refl _ _).alloc (Nat.le_refl _) _⟩
  · have hd : decide (z < 0) = false := decide_eq_false (by omega)
    have HC := Lib.hid (cmpv_eq hz)
    obtain rfl : l = 0 := by omega
    rw [hd]
    clear hz hd hlz
    go_enter Tryz.func35, Tryz.ntmps35
    go_wp2
    go_ret
    exact ⟨by rw [HC.out]; rfl, (Below.refl _ _).alloc (Nat.le_refl _) _⟩
  · have hd : decide (z < 0) = false := decide_eq_false (by omega)
    have HC := Lib.hid (cmpv_gt hz)
    have hl0 : ((l : Int) == 0) = false := by apply beq_false_of_ne; omega
    rw [hd]
    clear hz hd hlz
    go_enter Tryz.func35, Tryz.ntmps35
    go_wp2
    go_ret
    exact ⟨by rw [HC.out]; rfl, (Below.refl _ _).alloc (Nat.le_refl _) _⟩
end Go.Proofs.YtdflbipaicpdcaaGreatDoor
namespace Go.Proofs.YtdflbipaicpdcaaGreatDoor
open Go.RowKit
set_option maxRecDepth 100000

theorem sgz_mulmul (a b : Bool) (m n p q : Nat) : sgz (a != b) (m * n) * ((p * q : Nat) : Int) = (sgz a m * (p : Int)) * (sgz b n * (q : Int)) := by
  unfold sgz
  cases a <;> cases b <;> simp [Int.natCast_mul, Int.neg_mul, Int.mul_neg] <;> ac_rfl
/-- what is made of two numbers' product -/
theorem IsD.mulMade {w : World} {v : Value} {x y e f : Int} (h : IsD w v (sgz (decide (x < 0) != decide (y < 0)) (dM x * dM y)) (dE x e + dE y f)) : IsD w v (x * y) (e + f) := by
  by_cases hx : x = 0
  · subst hx
    rw [dM_zero, Nat.zero_mul, sgz_zero] at h
    rw [Int.zero_mul]
    exact isD_zero _ h
  by_cases hy : y = 0
  · subst hy
    rw [dM_zero, Nat.mul_zero, sgz_zero] at h
    rw [Int.mul_zero]
    exact isD_zero _ h
  have h1 := (isD_shift w v (sgz (decide (x < 0) != decide (y < 0)) (dM x * dM y)) (e + f) (tz x.natAbs + tz y.natAbs))
  have h2 : sgz (decide (x < 0) != decide (y < 0)) (dM x * dM y) * ((2 ^ (tz x.natAbs + tz y.natAbs) : Nat) : Int) = x * y := by
    rw [Nat.pow_add, sgz_mulmul, z_canon, z_canon]
  rw [h2] at h1
  refine h1.2 ?_
  have h3 : dE x e + dE y f = e + f + ((tz x.natAbs + tz y.natAbs : Nat) : Int) := by unfold dE; rw [if_neg hx, if_neg hy]; push_cast; omega
  rwa [h3] at h

end Go.Proofs.YtdflbipaicpdcaaGreatDoor
namespace Go.Proofs.YtdflbipaicpdcaaGreatDoor
open Go.RowKit
set_option maxRecDepth 100000

theorem part_pow {x e g : Int} (hx : x ≠ 0) {i : Nat} (hi : dE x e = g + i) {k : Nat} (hk : e + k = g) : sgz (decide (x < 0)) (dM x * 2 ^ i) * ((2 ^ k : Nat) : Int) = x := by
  have h1 := z_canon x
  unfold dE at hi
  rw [if_neg hx] at hi
  rw [← sgz_mul, Nat.mul_assoc, ← Nat.pow_add, show i + k = tz x.natAbs by omega, sgz_mul]
  exact h1
theorem IsD.addMade {w : World} {v : Value} {x y e g : Int} {i j : Nat} (hx : x ≠ 0) (hy : y ≠ 0) (hi : dE x e = g + i) (hj : dE y e = g + j) (hij : i = 0 ∨ j = 0) (h : IsD w v (sgz (decide (x < 0)) (dM x * 2 ^ i) + sgz (decide (y < 0)) (dM y * 2 ^ j)) g) : IsD w v (x + y) e := by
  have hge : e ≤ g := by
    unfold dE at hi hj
    rw [if_neg hx] at hi
    rw [if_neg hy] at hj
    omega
  obtain ⟨k, hk⟩ : ∃ k : Nat, e + k = g := ⟨(g - e).toNat, by omega⟩
  refine h.to k hk ?_
  rw [Int.add_mul, part_pow hx hi hk, part_pow hy hj hk]
theorem part_le {x e g : Int} (hx : x ≠ 0) {i j : Nat} {y : Int} (hy : y ≠ 0) (hi : dE x e = g + i) (hj : dE y e = g + j) (hij : i = 0 ∨ j = 0) : dM x * 2 ^ i ≤ x.natAbs ∧ i ≤ tz x.natAbs := by
  have h1 := dM_pow x
  unfold dE at hi hj
  rw [if_neg hx] at hi
  rw [if_neg hy] at hj
  have h2 : i ≤ tz x.natAbs := by omega
  refine ⟨?_, h2⟩
  rw [← h1]
  exact Nat.mul_le_mul_left _ (Nat.pow_le_pow_right (by decide) h2)
theorem sgz_add (n : Bool) (a b : Nat) : sgz n (a + b) = sgz n a + sgz n b := by unfold sgz; cases n <;> simp <;> omega
theorem sgz_sub {n : Bool} {a b : Nat} (h : b ≤ a) : sgz n (a - b) = sgz n a + sgz (!n) b := by unfold sgz; cases n <;> simp <;> omega

theorem cmpv_sub (x y : Int) : cmpv (x + -y) 0 = cmpv x y := by
  unfold cmpv
  by_cases h1 : x < y
  · rw [if_pos h1, if_pos (by omega)]
  · rw [if_neg h1, if_neg (by omega)]
    by_cases h2 : x = y
    · rw [if_pos h2, if_pos (by omega)]
    · rw [if_neg h2, if_neg (by omega)]

end Go.Proofs.YtdflbipaicpdcaaGreatDoor
