/- Cmp, Same of the document's naturals. No condition but the sizes. -/
import Derived.Test.YtemneeknemijpaaNa
import Derived.Deep.QuietTactic
import Derived.BigQuiet
namespace Go.Proofs.Ytemneeknemijpaa
open Go.RowKit

/-- -1, 0, 1: below, alike, above -/
def cmpv (a b : Int) : Int := if a < b then -1 else if a = b then 0 else 1
theorem cmpv_lt {a b : Int} (h : a < b) : cmpv a b = -1 := by unfold cmpv; rw [if_pos h]
theorem cmpv_eq {a b : Int} (h : a = b) : cmpv a b = 0 := by unfold cmpv; rw [if_neg (by omega), if_pos h]
theorem cmpv_gt {a b : Int} (h : b < a) : cmpv a b = 1 := by unfold cmpv; rw [if_neg (by omega), if_neg (by omega)]
theorem len_lt {a b : Nat} (h : (digs a).length < (digs b).length) : a < b := by
  have h1 := digs_len_lt a
  have h2 := W_mono (show (digs a).length ≤ (digs b).length - 1 by omega)
  have hb : b ≠ 0 := by intro h0; subst h0; rw [digs_zero] at h; simp at h
  have := digs_len_le b hb
  omega
theorem div_step (a i : Nat) : a / W i = 16777216 * (a / W (i + 1)) + limb a i := by
  unfold limb
  have e : a / W (i + 1) = a / W i / 16777216 := by rw [W_succ, Nat.mul_comm, Nat.div_div_eq_div_mul]
  omega
theorem lt_of_div {a b i : Nat} (h : a / W i < b / W i) : a < b := by
  apply Nat.lt_of_not_le
  intro hle
  have := Nat.div_le_div_right (c := W i) hle
  omega
theorem below_drewN {B : Nat} {a w : World} (h : Below B a w) (n : Nat) : Below B a (w.drewN n) := ⟨h.os, h.tape, h.output, h.size, h.block⟩
def Gets (w : World) (x : Int) (e : Ending) (w' : World) : Prop := e = .returned (.int .i64 x) ∧ Below w.heap.size w w'

theorem isI_cell {w : World} {a : Option Addr} {len : Nat} {l : List Nat} (h : IsI w a len l) {i : Nat} (hi : i < len) : ∃ b off, a = some ⟨b, off, none⟩ ∧ w.cell? ⟨b, off + i, none⟩ = some (I (l.getD i 0)) := by
  rcases h.2 with h0 | ⟨b, off, h1, hc⟩
  · omega
  · exact ⟨b, off, h1, hc i (by rw [h.1]; exact hi)⟩

set_option maxHeartbeats 2000000 in
theorem n_cmp {u v : Value} {a b : Nat} {w : World} (hu : IsN w u a) (hv : IsN w v b) (ha8 : (digs a).length ≤ 2000) (hb8 : (digs b).length ≤ 2000) : Calls Try.prog 63 #[u, v] w (Gets w (cmpv a b)) := by
  obtain ⟨aa, la, ca, rfl, hA, _⟩ := hu
  obtain ⟨ab, lb, cb, rfl, hB, _⟩ := hv
  have hla := hA.1
  have hlb := hB.1
  rw [hla] at ha8
  rw [hlb] at hb8
  have HA := Lib.hid hA
  have HB := Lib.hid hB
  by_cases hne : la = lb
  · subst hne
    have hda : a / W la = 0 := Nat.div_eq_of_lt (by have := digs_len_lt a; rwa [hla] at this)
    have hdb : b / W la = 0 := Nat.div_eq_of_lt (by have := digs_len_lt b; rwa [hlb] at this)
    have H0 : Hid (a / W la = b / W la) := Lib.hid (by rw [hda, hdb])
    clear hA hB hla hlb hda hdb
    go_enter Try.func63, Try.ntmps63
    go_wp2
    go_loopw [5] (fun i wr => ∃ k : Nat, k ≤ la ∧ i = .int .i64 ((k : Int) - 1) ∧ Hid (a / W k = b / W k) ∧ Hid (Below w.heap.size w wr)) (fun i _ => (intOf i + 1).toNat)
    case atStart => exact ⟨la, Nat.le_refl _, rfl, H0, Lib.hid (Below.refl _ _)⟩
    case round =>
      obtain ⟨k, hk, rfl, HE, hbl⟩ := hrel
      by_cases h0 : k = 0
      · subst h0
        have hab : a = b := by have := HE.out; rwa [W_zero, Nat.div_one, Nat.div_one] at this
        have HC := Lib.hid (cmpv_eq (show (a : Int) = b by omega))
        clear hab
        go_wp2
        go_ret
        exact ⟨(by rw [HC.out] <;> rfl), hbl.out⟩
      · obtain ⟨j, rfl⟩ : ∃ j, k = j + 1 := ⟨k - 1, by omega⟩
        obtain ⟨ba, offa, rfl, ca1⟩ := isI_cell (HA.out.below (hbl.out.mono (Nat.le_refl _))) (show j < la by omega)
        obtain ⟨bb, offb, rfl, cb1⟩ := isI_cell (HB.out.below (hbl.out.mono (Nat.le_refl _))) (show j < la by omega)
        rw [digs_limb] at ca1 cb1
        have hsa := div_step a j
        have hsb := div_step b j
        have hEE := HE.out
        have hkj : ((j + 1 : Nat) : Int) - 1 = (j : Int) := by omega
        rw [hkj]
        have hji : (j : Int) < la := by omega
        have hjl : j < la := by omega
        obtain ⟨x, hx⟩ : ∃ x, limb a j = x := ⟨_, rfl⟩
        obtain ⟨y, hy⟩ : ∃ y, limb b j = y := ⟨_, rfl⟩
        rw [hx] at ca1 hsa
        rw [hy] at cb1 hsb
        rw [hEE] at hsa
        rcases Nat.lt_trichotomy x y with hxy | hxy | hxy
        · have HC := Lib.hid (cmpv_lt (show (a : Int) < b by have := lt_of_div (a := a) (b := b) (i := j) (by omega); omega))
          have q1 : decide (x < y) = true := decide_eq_true hxy
          clear hsa hsb hEE hx hy hkj hxy h0
          go_wp2_with fail
          go_quiet (fail)
          go_wp2
          go_ret
          exact ⟨(by rw [HC.out] <;> rfl), below_drewN hbl.out _⟩
        · have HE2 : Hid (a / W j = b / W j) := Lib.hid (by omega)
          subst hxy
          have q1 : decide (x < x) = false := decide_eq_false (Nat.lt_irrefl _)
          clear hsa hsb hEE hx hy hkj h0
          go_wp2_with fail
          go_quiet (fail)
          go_wp2_with fail
          go_quiet (fail)
          go_wp2
          go_roundw
          case rel => exact ⟨j, by omega, rfl, HE2, Lib.hid (by first | exact below_drewN (below_drewN hbl.out _) _ | exact below_drewN hbl.out _)⟩
          case measure => simp [intOf] <;> omega
        · have HC := Lib.hid (cmpv_gt (show (b : Int) < a by have := lt_of_div (a := b) (b := a) (i := j) (by omega); omega))
          have q1 : decide (x < y) = false := decide_eq_false (by omega)
          have q2 : decide (y < x) = true := decide_eq_true hxy
          clear hsa hsb hEE hx hy hkj hxy h0
          go_wp2_with fail
          go_quiet (fail)
          go_wp2_with fail
          go_quiet (fail)
          go_wp2
          go_ret
          exact ⟨(by rw [HC.out] <;> rfl), by first | exact below_drewN (below_drewN hbl.out _) _ | exact below_drewN hbl.out _⟩
  · have hnl : ((la : Int) == lb) = false := by apply beq_false_of_ne; omega
    rcases Nat.lt_or_ge la lb with hlt | hge
    · have HC := Lib.hid (cmpv_lt (show (a : Int) < b by have := len_lt (a := a) (b := b) (by rw [hla, hlb]; exact hlt); omega))
      have f1 : (la : Int) < lb := by omega
      clear hA hB hla hlb
      go_enter Try.func63, Try.ntmps63
      go_wp2
      go_ret
      exact ⟨(by rw [HC.out] <;> rfl), Below.refl _ _⟩
    · have HC := Lib.hid (cmpv_gt (show (b : Int) < a by have := len_lt (a := b) (b := a) (by rw [hla, hlb]; omega); omega))
      have f1 : ¬ (la : Int) < lb := by omega
      clear hA hB hla hlb
      go_enter Try.func63, Try.ntmps63
      go_wp2
      go_ret
      exact ⟨(by rw [HC.out] <;> rfl), Below.refl _ _⟩
end Go.Proofs.Ytemneeknemijpaa
