/- perm.Bits. -/
import Derived.Test.YtajnjghbppcfdaaSame
import Derived.StillTailTactics
namespace Go.Proofs.Ytajnjghbppcfdaa
open Go.RowKit Go.Shelf

/-- p bits turned round -/
def brev : Nat → Nat → Nat
  | 0, _ => 0
  | p + 1, k => (k % 2) * 2 ^ p + brev p (k / 2)
theorem brev_zero : ∀ p, brev p 0 = 0
  | 0 => rfl
  | p + 1 => by simp [brev, brev_zero p]
theorem brev_lt : ∀ p k, brev p k < 2 ^ p
  | 0, _ => by simp [brev]
  | p + 1, k => by
    have := brev_lt p (k / 2)
    have h2 : k % 2 < 2 := Nat.mod_lt _ (by decide)
    have h3 : (k % 2) * 2 ^ p ≤ 1 * 2 ^ p := Nat.mul_le_mul_right _ (by omega)
    simp only [brev, Nat.pow_succ]
    omega
theorem brev_top : ∀ p k, brev (p + 1) k = 2 * brev p k + k / 2 ^ p % 2
  | 0, k => by simp [brev]
  | p + 1, k => by
    have ih := brev_top p (k / 2)
    have e : k / 2 / 2 ^ p = k / 2 ^ (p + 1) := by rw [Nat.div_div_eq_div_mul, Nat.pow_succ, Nat.mul_comm 2]
    rw [e] at ih
    show (k % 2) * 2 ^ (p + 1) + brev (p + 1) (k / 2) = 2 * ((k % 2) * 2 ^ p + brev p (k / 2)) + k / 2 ^ (p + 1) % 2
    rw [ih, Nat.pow_succ]
    have : (k % 2) * (2 ^ p * 2) = 2 * ((k % 2) * 2 ^ p) := by rw [← Nat.mul_assoc, Nat.mul_comm _ 2]
    omega
theorem brev_half (p k : Nat) (h : k < 2 ^ p) : brev (p + 1) k / 2 = brev p k := by
  rw [brev_top, Nat.div_eq_of_lt h]; omega
theorem brev_step (p k : Nat) (h : k < 2 ^ (p + 1)) : brev (p + 1) k = (k % 2) * 2 ^ p + brev (p + 1) (k / 2) / 2 := by
  have h2 : k / 2 < 2 ^ p := by rw [Nat.pow_succ] at h; omega
  rw [brev_half p (k / 2) h2]; rfl
def bits (p : Nat) : List Nat := (List.range (2 ^ p)).map (brev p)
theorem bits_length (p : Nat) : (bits p).length = 2 ^ p := by simp [bits]
theorem bits_getD (p k : Nat) (h : k < 2 ^ p) : (bits p).getD k 0 = brev p k := by simp [bits, h]
abbrev I (x : Nat) : Value := .int .i64 x
theorem ownsI_pos {w : World} {base len : Nat} {v : Value} {l : List Nat} (h : w.ownsRow base 3 1 v len (l.map I)) (hp : 0 < len) :
    ∃ g cap, v = .slice (some ⟨g, 0, none⟩) len cap ∧ base ≤ g ∧ g < w.heap.size ∧ (∀ k, k < len → w.cell? ⟨g, k, none⟩ = some (I (l.getD k 0))) ∧ (∀ k, w.frozen? ⟨g, k, none⟩ = false) := by
  have hl : l.length = len := by have := h.1; simpa using this
  rcases h.2 with ⟨rfl, h0⟩ | ⟨g, cap, cur, rfl, hg, hh, hr⟩
  · omega
  · refine ⟨g, cap, rfl, hg, (Array.getElem?_eq_some_iff.1 hh).1, fun k hk => ?_, fun k => ?_⟩
    · rw [World.ownsRow.cellAt h k (by omega), List.getElem?_map, List.getElem?_eq_getElem (by omega), List.getD_eq_getElem?_getD, List.getElem?_eq_getElem (by omega)]
      rfl
    · simp [World.frozen?, show w.heap[g]? = _ from hh]
theorem ownsI_set {w : World} {base g len cap : Nat} {l : List Nat} (h : w.ownsRow base 3 1 (.slice (some ⟨g, 0, none⟩) len cap) len (l.map I)) (j x : Nat) :
    (w.setCell ⟨g, j, none⟩ (I x)).ownsRow base 3 1 (.slice (some ⟨g, 0, none⟩) len cap) len ((l.set j x).map I) := by
  rw [List.map_set]; exact (h.stored j (I x)).1
theorem bits_and_nat (a b : Nat) (ha : a < 9223372036854775808) (hb : b < 9223372036854775808) : Go.bits .and .i64 (a : Int) (b : Int) = ((a &&& b : Nat) : Int) := by
  have hx : a &&& b < 2 ^ 63 := Nat.and_lt_two_pow _ (by omega)
  have h1 : (BitVec.ofInt 64 (a : Int)).toNat = a := by
    rw [BitVec.ofInt_natCast, BitVec.toNat_ofNat]; exact Nat.mod_eq_of_lt (by omega)
  have h2 : (BitVec.ofInt 64 (b : Int)).toNat = b := by
    rw [BitVec.ofInt_natCast, BitVec.toNat_ofNat]; exact Nat.mod_eq_of_lt (by omega)
  show IntKind.i64.wrap ((BitVec.ofInt 64 (a : Int) &&& BitVec.ofInt 64 (b : Int)).toNat : Int) = _
  rw [BitVec.toNat_and, h1, h2, IntKind.wrap_i64]
  omega
theorem bits_or_nat (a b : Nat) (ha : a < 9223372036854775808) (hb : b < 9223372036854775808) : Go.bits .or .i64 (a : Int) (b : Int) = ((a ||| b : Nat) : Int) := by
  have hx : a ||| b < 2 ^ 63 := Nat.or_lt_two_pow (by omega) (by omega)
  have h1 : (BitVec.ofInt 64 (a : Int)).toNat = a := by
    rw [BitVec.ofInt_natCast, BitVec.toNat_ofNat]; exact Nat.mod_eq_of_lt (by omega)
  have h2 : (BitVec.ofInt 64 (b : Int)).toNat = b := by
    rw [BitVec.ofInt_natCast, BitVec.toNat_ofNat]; exact Nat.mod_eq_of_lt (by omega)
  show IntKind.i64.wrap ((BitVec.ofInt 64 (a : Int) ||| BitVec.ofInt 64 (b : Int)).toNat : Int) = _
  rw [BitVec.toNat_or, h1, h2, IntKind.wrap_i64]
  omega
theorem info3 : (Try.prog.info? 3).map (fun i => (i.zero, i.size, i.bytes)) = some (some (.int .i64 0), 1, 8) := by kernel_rfl

set_option maxHeartbeats 1000000 in
theorem bits_c (p : Nat) (hp : p ≤ 12) (w : World) : Calls Try.prog 12 #[.int .i64 p] w fun e W' => ∃ v, e = .returned v ∧ W'.ownsRow w.heap.size 3 1 v (2 ^ p) ((bits p).map I) ∧ Below w.heap.size w W' := by
  obtain ⟨i0, hi, hz0, hz1, hz2⟩ := info_parts info3
  have hp1 : (p : Int) ≤ 12 := by omega
  obtain ⟨m, hm⟩ : ∃ m : Nat, m = 2 ^ p := ⟨_, rfl⟩
  have hw : wrap64 ((2 : Int) ^ p) = (m : Int) := by
    subst hm
    have : ∀ q : Nat, q < 13 → wrap64 ((2 : Int) ^ q) = ((2 ^ q : Nat) : Int) := by decide +kernel
    exact this p (by omega)
  have hm1 : m ≤ 4096 := by rw [hm]; exact Nat.pow_le_pow_right (by decide) hp
  have hm0 : 1 ≤ m := by rw [hm]; exact Nat.one_le_two_pow
  have HM := Lib.hid hm
  clear hm
  go_enter Try.func12, Try.ntmps12
  go_wp2_with (at_make; go_loud (refine wpList_make_full _ rfl _ _ 26 rfl w.heap.size 3 i0 (.int .i64 0) 1 Try.underlying26 hi hz0 hz1 .i64 .i64 _ _ m rfl rfl (by omega) (by omega) (by rw [hz2]; omega) (by unfold maxLen; omega) (Nat.le_refl _) ?_); intro w1 hown hgr)
  have hsets : (madeCells (Value.int .i64 0).cells (m * 1)).toList = (List.replicate m 0).map I := by
    rw [Nat.mul_one]
    apply List.ext_getElem
    · simp [madeCells]
    · intro i h1 h2
      simp [madeCells, Value.cells, Nat.mod_one]
  rw [hsets] at hown
  clear hsets
  go_loopw [16] (fun i wr => ∃ k : Nat, k ≤ m ∧ i = .int .i64 k ∧ ∃ l : List Nat, Hid (wr.ownsRow w.heap.size 3 1 (.slice (some ⟨w.heap.size, 0, none⟩) m m) m (l.map I)) ∧ Hid (Below w.heap.size w wr) ∧ Hid (l.length = m ∧ (∀ j, j < k → l.getD j 0 = brev p j) ∧ l.getD 0 0 = 0)) (fun i _ => m - (intOf i).toNat)
  case atStart => exact ⟨0, Nat.zero_le _, rfl, _, Lib.hid hown, Lib.hid ((Below.refl _ w).grown hgr (Nat.le_refl _) (by simp)), Lib.hid ⟨List.length_replicate, fun j hj => absurd hj (Nat.not_lt_zero _), by rw [List.getD_eq_getElem?_getD, List.getElem?_replicate]; split <;> rfl⟩⟩
  case round =>
    obtain ⟨k, hk, rfl, l, hz, hbl, hl⟩ := hrel
    by_cases hlt : k < m
    · by_cases hk0 : 0 < k
      · have hko : (0 : Int) < k := by omega
        obtain ⟨g, cap2, he, hg0, hg1, hcs, hfz⟩ := ownsI_pos hz.out (by omega)
        simp only [Value.slice.injEq, Option.some.injEq, Addr.mk.injEq, and_true, true_and] at he
        obtain ⟨rfl, rfl⟩ := he
        obtain ⟨h, hh⟩ : ∃ h : Nat, k / 2 = h := ⟨_, rfl⟩
        have hki : (k : Int) / 2 = (h : Int) := by omega
        have hhm : (h : Int) < (m : Int) := by omega
        have hh0 : (0 : Int) ≤ (h : Int) := by omega
        have hp0 : (1 : Int) ≤ (p : Int) := by
          have : p ≠ 0 := by rintro rfl; have := HM.out; omega
          omega
        obtain ⟨q, hq⟩ : ∃ q : Nat, p = q + 1 := ⟨p - 1, by omega⟩
        have hpw : IntKind.i64.wrap ((p : Int) - 1) = (q : Int) := by rw [IntKind.wrap_i64]; omega
        have hq1 : (q : Int) ≤ 11 := by omega
        have HQ := Lib.hid hq
        clear hq
        obtain ⟨b, hb⟩ : ∃ b : Nat, k % 2 = b := ⟨_, rfl⟩
        have hand : Go.bits BinOp.and IntKind.i64 (k : Int) 1 = (b : Int) := by
          rw [show (1 : Int) = ((1 : Nat) : Int) from rfl, bits_and_nat k 1 (by omega) (by decide), Nat.and_one_is_mod, hb]
        have hcx := hcs h (by omega)
        obtain ⟨y, hy⟩ : ∃ y, l.getD h 0 = y := ⟨_, rfl⟩
        have HH := Lib.hid hh
        clear hh
        obtain ⟨y2, hy2⟩ : ∃ h : Nat, y / 2 = h := ⟨_, rfl⟩
        have hyi : (y : Int) / 2 = (y2 : Int) := by omega
        have HY2 := Lib.hid hy2
        clear hy2
        rw [hy] at hcx
        have HY := Lib.hid hy
        have hck := hcs k hlt
        obtain ⟨z, hz0⟩ : ∃ z, l.getD k 0 = z := ⟨_, rfl⟩
        rw [hz0] at hck
        have hfk := hfz k
        have hyb : y = brev p h := by rw [← hy]; exact hl.out.2.1 h (by have := HH.out; omega)
        have hkq : h < 2 ^ q := by
          have h1 := HM.out
          rw [HQ.out, Nat.pow_succ] at h1
          have h2 := HH.out
          omega
        have hy2b : y2 = brev q h := by rw [← HY2.out, hyb, HQ.out, brev_half q h hkq]
        have hy2l : y2 < 2 ^ q := by rw [hy2b]; exact brev_lt q h
        have h2q : 2 ^ q ≤ 2 ^ 11 := Nat.pow_le_pow_right (by decide) (by omega)
        obtain ⟨t, ht⟩ : ∃ t : Nat, b * 2 ^ q = t := ⟨_, rfl⟩
        have hb2 : b < 2 := by rw [← hb]; exact Nat.mod_lt _ (by decide)
        have htl : t ≤ 2 ^ 11 := by
          have : b * 2 ^ q ≤ 1 * 2 ^ q := Nat.mul_le_mul_right _ (by omega)
          omega
        have hsh : IntKind.i64.wrap ((b : Int) * 2 ^ q) = (t : Int) := by
          have : (b : Int) * 2 ^ q = (t : Int) := by rw [← ht, Int.natCast_mul, Int.natCast_pow]; rfl
          rw [this, IntKind.wrap_i64]
          omega
        obtain ⟨x, hx⟩ : ∃ x, brev p k = x := ⟨_, rfl⟩
        have hor : Go.bits BinOp.or IntKind.i64 (y2 : Int) (t : Int) = (x : Int) := by
          rw [bits_or_nat _ _ (by omega) (by omega)]
          have h1 : y2 ||| t = x := by
            have h3 := Nat.two_pow_add_eq_or_of_lt hy2l b
            rw [Nat.or_comm, ← ht, Nat.mul_comm, ← h3, ← hx, HQ.out, hy2b, ← hb, ← HH.out, Nat.mul_comm]
            rfl
          rw [h1]
        have HX := Lib.hid hx
        clear hcs hfz hy hz0 hx hyb hkq hy2b hy2l h2q ht hb2 htl hb
        go_wp2
        go_still_tail 15, (by kernel_rfl)
        change wpList _ _ _ _ _ wr.drew
        have hz3 := Lib.hid (show (wr.drew.setCell ⟨w.heap.size, k, none⟩ (I x)).ownsRow w.heap.size 3 1 (.slice (some ⟨w.heap.size, 0, none⟩) m m) m ((l.set k x).map I) from ownsI_set (show wr.drew.ownsRow _ 3 1 _ _ _ from hz.out) k x)
        have hb3 : Hid (Below w.heap.size w (wr.drew.setCell ⟨w.heap.size, k, none⟩ (I x))) := Lib.hid ((hbl.out.drew).setCell (by show _ ≤ _; exact Nat.le_refl _) _)
        have hck' : wr.drew.cell? ⟨w.heap.size, k, none⟩ = some (I z) := hck
        have hfk' : wr.drew.frozen? ⟨w.heap.size, k, none⟩ = false := hfk
        generalize hwd : wr.drew = w2 at hz3 hb3 hck' hfk' ⊢
        go_wp2
        go_roundw
        case rel =>
          refine ⟨k + 1, by omega, by go_num, _, hz3, hb3, Lib.hid ⟨by rw [List.length_set]; exact hl.out.1, fun j hj => ?_, ?_⟩⟩
          · by_cases hjk : k = j
            · rw [List.getD_eq_getElem?_getD, hjk, List.getElem?_set_self (by rw [hl.out.1]; omega), ← hjk, HX.out]; rfl
            · rw [List.getD_eq_getElem?_getD, List.getElem?_set_ne hjk, ← List.getD_eq_getElem?_getD]
              exact hl.out.2.1 j (by omega)
          · rw [List.getD_eq_getElem?_getD, List.getElem?_set_ne (by omega), ← List.getD_eq_getElem?_getD]
            exact hl.out.2.2
        case measure => simp [intOf]; omega
      · have hk00 : k = 0 := by omega
        subst hk00
        go_wp2
        go_roundw
        case rel =>
          refine ⟨1, by omega, by go_num, l, hz, hbl, Lib.hid ⟨hl.out.1, fun j hj => ?_, hl.out.2.2⟩⟩
          have hj0 : j = 0 := by omega
          subst hj0
          rw [hl.out.2.2, brev_zero]
        case measure => simp [intOf]; omega
    · have hkm : k = m := by omega
      subst hkm
      go_wp2
      go_ret
      have hlb : l = bits p := by
        apply ext_getD
        · rw [hl.out.1, bits_length, HM.out]
        · intro j hj
          rw [hl.out.1] at hj
          rw [hl.out.2.1 j hj, bits_getD p j (by rw [← HM.out]; exact hj)]
      have hz4 := hz.out
      rw [hlb] at hz4
      exact ⟨_, rfl, by rw [← HM.out]; exact hz4, hbl.out⟩
end Go.Proofs.Ytajnjghbppcfdaa
