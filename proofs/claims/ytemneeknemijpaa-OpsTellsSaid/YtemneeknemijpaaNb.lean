/- Sub of the document's naturals. No condition but the sizes. -/
import Derived.Test.YtemneeknemijpaaNc
import Derived.Deep.RegionHeld3
namespace Go.Proofs.Ytemneeknemijpaa
open Go.RowKit

structure SubSo (a b i c : Nat) (l : List Nat) : Prop where
  len : l.length = i
  lt : ∀ d ∈ l, d < 16777216
  sum : num l + low b i = low a i + W i * c
  c1 : c ≤ 1
theorem subSo_zero (a b : Nat) : SubSo a b 0 0 [] := ⟨rfl, (fun _ h => by cases h), by rw [low_zero, low_zero, num, W_zero], Nat.zero_le _⟩
/-- a limb, with what is borrowed -/
theorem subSo_succ {a b i c : Nat} {l : List Nat} (h : SubSo a b i c l) {d c' : Nat} (hd : d + limb b i + c = limb a i + 16777216 * c') (hdl : d < 16777216) (hc' : c' ≤ 1) : SubSo a b (i + 1) c' (l ++ [d]) := by
  obtain ⟨h1, h2, h3, h4⟩ := h
  refine ⟨by rw [List.length_append, h1]; rfl, fun x hx => ?_, ?_, hc'⟩
  · rcases List.mem_append.1 hx with hx | hx
    · exact h2 x hx
    · rw [List.mem_singleton.1 hx]; exact hdl
  · rw [num_snoc, low_succ, low_succ, h1, W_succ]
    have e : W i * (d + limb b i + c) = W i * (limb a i + 16777216 * c') := by rw [hd]
    rw [Nat.mul_add, Nat.mul_add, Nat.mul_add] at e
    have e2 : 16777216 * W i * c' = W i * (16777216 * c') := by rw [Nat.mul_comm 16777216, Nat.mul_assoc]
    omega
theorem subSo_end {a b i c : Nat} {l : List Nat} (h : SubSo a b i c l) (ha : (digs a).length ≤ i) (hab : b ≤ a) : digs (num l) = digs (a - b) := by
  have ha1 := Nat.lt_of_lt_of_le (digs_len_lt a) (W_mono ha)
  have h3 := h.sum
  rw [low_all ha1, low_all (by omega : b < W i)] at h3
  have h5 := num_lt l h.lt
  rw [h.len] at h5
  have h4 := h.c1
  have hc : c = 0 := by
    rcases Nat.eq_zero_or_pos c with h0 | h0
    · exact h0
    · have h1 : c = 1 := by omega
      rw [h1, Nat.mul_one] at h3
      omega
  rw [hc, Nat.mul_zero] at h3
  congr 1
  omega

theorem n_at_q {a : Option Addr} {len cap n : Nat} {w : World} (h : IsI w a len (digs n)) (i y : Nat) (hy : limb n i = y) : Calls Try.prog 81 #[.slice a len cap, .int .i64 i] w fun e w' => e = .returned (I y) ∧ w' = w := by
  rw [← hy]; exact (n_at' h i).mono fun _ _ hh => ⟨hh.1, hh.2.symm⟩

def Gets2 (w : World) (n : Nat) (e : Ending) (w' : World) : Prop := ∃ v, e = .returned (.tuple #[v, .bool true]) ∧ IsN w' v n ∧ Below w.heap.size w w'

set_option maxHeartbeats 2000000 in
theorem n_sub {u v : Value} {a b : Nat} {w : World} (hu : IsN w u a) (hv : IsN w v b) (ha8 : (digs a).length ≤ 2000) (hb8 : (digs b).length ≤ 2000) (hab : b ≤ a) : Calls Try.prog 64 #[u, v] w (Gets2 w (a - b)) := by
  have HU := Lib.hid hu
  have HV := Lib.hid hv
  obtain ⟨aa, la, ca, rfl, hA, _⟩ := hu
  obtain ⟨ab, lb, cb, rfl, hB, _⟩ := hv
  have hla := hA.1
  have HA8 := Lib.hid ha8
  have HB8 := Lib.hid hb8
  rw [hla] at ha8
  have HA := Lib.hid hA
  have HB := Lib.hid hB
  have HLA := Lib.hid hla
  obtain ⟨r, hr, hr0⟩ : ∃ r, cmpv a b = r ∧ 0 ≤ r := by
    rcases Nat.lt_or_ge b a with h | h
    · exact ⟨1, cmpv_gt (by omega), by omega⟩
    · exact ⟨0, cmpv_eq (by omega), by omega⟩
  have HR := Lib.hid hr
  have HAB := Lib.hid hab
  clear hA hB hla hb8 hr hab
  go_enter Try.func64, Try.ntmps64
  go_wp2_with fail
  refine (n_cmp HU.out HV.out HA8.out HB8.out).mono ?_
  rintro e w1 ⟨rfl, hb⟩
  rw [HR.out]
  have HBL := Lib.hid hb
  clear hb
  go_wp2
  go_loopw [6, 7, 8] (fun s cy i wr => ∃ (k c : Nat) (l : List Nat), k ≤ la ∧ c ≤ 1 ∧ i = .int .i64 k ∧ cy = .int .i64 c ∧ Hid (SubSo a b k c l) ∧ Hid (wr.ownsRow w.heap.size 3 1 s k (l.map I)) ∧ Hid (Below w.heap.size w wr)) (fun _ _ i _ => la - (intOf i).toNat)
  case atStart => exact ⟨0, 0, [], by omega, by omega, rfl, rfl, Lib.hid (subSo_zero a b), Lib.hid (World.ownsRow_nil _ _ _ _), HBL⟩
  case round =>
    obtain ⟨k, c, l, hk, hc, rfl, rfl, HS, hz, hbl⟩ := hrel
    by_cases hkl : k < la
    · have HB2 := Lib.hid (HB.out.below (hbl.out.mono (Nat.le_refl _)))
      obtain ⟨ba, offa, rfl, ca1⟩ := isI_cell (HA.out.below (hbl.out.mono (Nat.le_refl _))) hkl
      rw [digs_limb] at ca1
      have hx := limb_lt a k
      have hy := limb_lt b k
      obtain ⟨x, hxx⟩ : ∃ x, limb a k = x := ⟨_, rfl⟩
      obtain ⟨y, hyy⟩ : ∃ y, limb b k = y := ⟨_, rfl⟩
      rw [hxx] at hx ca1
      rw [hyy] at hy
      have HY := Lib.hid hyy
      have hki : (k : Int) < la := by omega
      by_cases hneg : x < y + c
      · obtain ⟨d, hd⟩ : ∃ d, d + y + c = x + 16777216 := ⟨x + 16777216 - y - c, by omega⟩
        have hdl : d < 16777216 := by omega
        have HS2 := Lib.hid (subSo_succ HS.out (d := d) (c' := 1) (by rw [hxx, hyy]; omega) hdl (by omega))
        have hw1 : IntKind.i64.wrap ((x : Int) - y) = (x : Int) - y := by rw [IntKind.wrap_i64]; omega
        have hw2 : IntKind.i64.wrap ((x : Int) - y - c) = (d : Int) - 16777216 := by rw [IntKind.wrap_i64]; omega
        clear hxx hyy hneg hd HS
        go_wp2_with fail
        go_quiet ((go_at_call 81; first | exact Calls.quiet_of_same (n_at_q (HB2.out.below (Below.refl _ _).drew) k y HY.out) | exact Calls.quiet_of_same (n_at_q (HB2.out.below (below_drewN (Below.refl _ _) _)) k y HY.out)))
        clear hw1 hw2
        obtain ⟨W, hW⟩ : ∃ W, wr.drewN nq = W := ⟨_, rfl⟩
        have hzq : Hid (W.ownsRow w.heap.size 3 1 u6 k (l.map I)) := by rw [← hW]; exact hz
        have HBW : Hid (Below w.heap.size w W) := by rw [← hW]; exact Lib.hid (below_drewN hbl.out _)
        rw [hW]
        clear hW hz hbl ca1 HB2
        have hdn : (d : Int) - 16777216 < 0 := by omega
        go_wp2_with (at_builtin; refine n_append rfl (.tmp 34) (.tmp 36) rfl w.heap.size _ k l rfl (hzq.out.alloc _) _ [d] rfl (ila_one _ d _ rfl) (by simp; omega) (Nat.le_trans HBW.out.size (by simp)) ?_; intro v' w' ho hb)
        go_roundw
        case rel => exact ⟨k + 1, 1, l ++ [d], by omega, by omega, by go_num, rfl, HS2, Lib.hid ho, Lib.hid ((HBW.out.alloc HBW.out.size _).trans hb)⟩
        case measure => simp [intOf]; omega
      · obtain ⟨d, hd⟩ : ∃ d, d + y + c = x := ⟨x - y - c, by omega⟩
        have hdl : d < 16777216 := by omega
        have HS2 := Lib.hid (subSo_succ HS.out (d := d) (c' := 0) (by rw [hxx, hyy]; omega) hdl (by omega))
        have hw1 : IntKind.i64.wrap ((x : Int) - y) = (x : Int) - y := by rw [IntKind.wrap_i64]; omega
        have hw2 : IntKind.i64.wrap ((x : Int) - y - c) = (d : Int) := by rw [IntKind.wrap_i64]; omega
        clear hxx hyy hneg hd HS
        go_wp2_with fail
        go_quiet ((go_at_call 81; first | exact Calls.quiet_of_same (n_at_q (HB2.out.below (Below.refl _ _).drew) k y HY.out) | exact Calls.quiet_of_same (n_at_q (HB2.out.below (below_drewN (Below.refl _ _) _)) k y HY.out)))
        clear hw1 hw2
        obtain ⟨W, hW⟩ : ∃ W, wr.drewN nq = W := ⟨_, rfl⟩
        have hzq : Hid (W.ownsRow w.heap.size 3 1 u6 k (l.map I)) := by rw [← hW]; exact hz
        have HBW : Hid (Below w.heap.size w W) := by rw [← hW]; exact Lib.hid (below_drewN hbl.out _)
        rw [hW]
        clear hW hz hbl ca1 HB2
        have hdn : ¬ (d : Int) < 0 := by omega
        go_wp2_with (at_builtin; refine n_append rfl (.tmp 34) (.tmp 36) rfl w.heap.size _ k l rfl (hzq.out.alloc _) _ [d] rfl (ila_one _ d _ rfl) (by simp; omega) (Nat.le_trans HBW.out.size (by simp)) ?_; intro v' w' ho hb)
        go_roundw
        case rel => exact ⟨k + 1, 0, l ++ [d], by omega, by omega, by go_num, rfl, HS2, Lib.hid ho, Lib.hid ((HBW.out.alloc HBW.out.size _).trans hb)⟩
        case measure => simp [intOf]; omega
    · obtain rfl : k = la := by omega
      have HE := Lib.hid (subSo_end HS.out (by rw [HLA.out]; exact Nat.le_refl _) HAB.out)
      have HLT := Lib.hid HS.out.lt
      have HLN := Lib.hid HS.out.len
      clear HS
      go_wp2_with fail
      refine (n_trim (ila_own hz.out) HLT.out (by rw [HLN.out]; omega)).mono ?_
      rintro e w2 hmk
      rw [HE.out] at hmk
      obtain ⟨v, rfl, hv, hb⟩ := hmk.makesN
      have HV2 := Lib.hid hv
      have HBB := Lib.hid hb
      clear hv hb hmk
      go_wp2
      go_ret2
      exact ⟨_, rfl, HV2.out, hbl.out.trans (HBB.out.mono hbl.out.size)⟩
end Go.Proofs.Ytemneeknemijpaa
