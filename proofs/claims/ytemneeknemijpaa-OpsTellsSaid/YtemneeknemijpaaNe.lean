/- Same, Int of the document's naturals. No condition but the sizes. -/
import Derived.Test.YtemneeknemijpaaNow
namespace Go.Proofs.Ytemneeknemijpaa
open Go.RowKit

/-- A bool; what was there is as it was. -/
def Tells (w : World) (x : Bool) (e : Ending) (w' : World) : Prop := e = .returned (.bool x) ∧ Below w.heap.size w w'

set_option maxHeartbeats 2000000 in
theorem n_same {u v : Value} {a b : Nat} {w : World} (hu : IsN w u a) (hv : IsN w v b) (ha8 : (digs a).length ≤ 2000) (hb8 : (digs b).length ≤ 2000) : Calls Try.prog 74 #[u, v] w (Tells w (decide (a = b))) := by
  obtain ⟨aa, la, ca, rfl, hA, _⟩ := hu
  obtain ⟨ab, lb, cb, rfl, hB, _⟩ := hv
  have hla := hA.1
  have hlb := hB.1
  rw [hla] at ha8
  rw [hlb] at hb8
  have HA := Lib.hid hA
  have HB := Lib.hid hB
  by_cases hne : la = lb
  · subst hne
    have hda : a < W la := by rw [← hla]; exact digs_len_lt a
    have hdb : b < W la := by rw [← hlb]; exact digs_len_lt b
    have HDA := Lib.hid (low_all hda)
    have HDB := Lib.hid (low_all hdb)
    clear hA hB hla hlb hda hdb
    go_enter Try.func74, Try.ntmps74
    go_wp2
    go_loopw [5] (fun i wr => ∃ k : Nat, k ≤ la ∧ i = .int .i64 (k : Int) ∧ Hid (low a k = low b k) ∧ Hid (Below w.heap.size w wr)) (fun i _ => la - (intOf i).toNat)
    case atStart => exact ⟨0, Nat.zero_le _, rfl, Lib.hid (by rw [low_zero, low_zero]), Lib.hid (Below.refl _ _)⟩
    case round =>
      obtain ⟨k, hk, rfl, HE, hbl⟩ := hrel
      by_cases h0 : k = la
      · subst h0
        have hab : a = b := by have := HE.out; rwa [HDA.out, HDB.out] at this
        have HC := Lib.hid (decide_eq_true hab)
        clear hab
        go_wp2
        go_ret
        exact ⟨(by rw [HC.out] <;> rfl), hbl.out⟩
      · have hkl : k < la := by omega
        obtain ⟨ba, offa, rfl, ca1⟩ := isI_cell (HA.out.below (hbl.out.mono (Nat.le_refl _))) hkl
        obtain ⟨bb, offb, rfl, cb1⟩ := isI_cell (HB.out.below (hbl.out.mono (Nat.le_refl _))) hkl
        rw [digs_limb] at ca1 cb1
        have hki : (k : Int) < la := by omega
        obtain ⟨x, hx⟩ : ∃ x, limb a k = x := ⟨_, rfl⟩
        obtain ⟨y, hy⟩ : ∃ y, limb b k = y := ⟨_, rfl⟩
        rw [hx] at ca1
        rw [hy] at cb1
        by_cases hxy : x = y
        · subst hxy
          have HE2 : Hid (low a (k + 1) = low b (k + 1)) := Lib.hid (by rw [low_succ, low_succ, HE.out, hx, hy])
          have q1 : (x == x) = true := beq_self_eq_true x
          clear hx hy h0
          go_wp2_with fail
          go_quiet (fail)
          go_wp2
          go_roundw
          case rel => exact ⟨k + 1, by omega, by go_num, HE2, Lib.hid (below_drewN hbl.out _)⟩
          case measure => simp [intOf] <;> omega
        · have HC : Hid (decide (a = b) = false) := Lib.hid (decide_eq_false fun hab => hxy (by rw [← hx, ← hy, hab]))
          have q1 : ((x : Int) == y) = false := by apply beq_false_of_ne; omega
          clear hx hy h0 hxy
          go_wp2_with fail
          go_quiet (fail)
          go_wp2
          go_ret
          exact ⟨(by rw [HC.out] <;> rfl), below_drewN hbl.out _⟩
  · have hnl : ((la : Int) == lb) = false := by apply beq_false_of_ne; omega
    have HC : Hid (decide (a = b) = false) := Lib.hid (decide_eq_false fun hab => hne (by rw [← hla, ← hlb, hab]))
    clear hA hB hla hlb
    go_enter Try.func74, Try.ntmps74
    go_wp2
    go_ret
    exact ⟨(by rw [HC.out] <;> rfl), Below.refl _ _⟩

set_option maxHeartbeats 2000000 in
theorem n_int {u : Value} {n : Nat} {w : World} (hu : IsN w u n) (hn : n < 2 ^ 62) : Calls Try.prog 84 #[u] w fun e w' => e = .returned (.tuple #[I n, .bool true]) ∧ w' = w := by
  have h8 : (digs n).length ≤ 3 := digs_len_le' (by have : W 3 = 4722366482869645213696 := rfl; omega)
  have hl := blen_le 62 n hn
  have HLN := n_len hu (by omega)
  obtain ⟨B, hB⟩ : ∃ B, blen n = B := ⟨_, rfl⟩
  rw [hB] at hl HLN
  obtain ⟨aa, la, ca, rfl, hA, _⟩ := hu
  have hla := hA.1
  rw [hla] at h8
  have HA := Lib.hid hA
  have HLI := Lib.hid HLN
  have hda : n / W la = 0 := Nat.div_eq_of_lt (by rw [← hla]; exact digs_len_lt n)
  have HDA := Lib.hid hda
  have hn9 : n ≤ 4611686018427387903 := by have : (2 : Nat) ^ 62 = 4611686018427387904 := rfl; omega
  have HN9 := Lib.hid hn9
  clear hA hla hB hda hn HLN
  go_enter Try.func84, Try.ntmps84
  go_wp2_with fail
  refine HLI.out.mono ?_
  rintro e w1 ⟨rfl, rfl⟩
  go_wp2
  go_loopw [4, 5] (fun x i wr => ∃ k : Nat, k ≤ la ∧ i = .int .i64 ((k : Int) - 1) ∧ x = I (n / W k) ∧ wr = w1) (fun _ i _ => (intOf i + 1).toNat)
  case atStart => exact ⟨la, Nat.le_refl _, by go_num, by rw [HDA.out]; rfl, rfl⟩
  case round =>
    obtain ⟨k, hk, rfl, rfl, rfl⟩ := hrel
    by_cases h0 : k = 0
    · subst h0
      rw [W_zero, Nat.div_one]
      go_wp2
      exact bodyPost_ret (v := .tuple #[I n, .bool true]) (by simp [results, Try.results84, go_sem]) rfl ⟨rfl, rfl⟩
    · obtain ⟨j, rfl⟩ : ∃ j, k = j + 1 := ⟨k - 1, by omega⟩
      obtain ⟨ba, offa, rfl, ca1⟩ := isI_cell HA.out (show j < la by omega)
      rw [digs_limb] at ca1
      have hsa := div_step n j
      have hle : n / W j ≤ 4611686018427387903 := Nat.le_trans (Nat.div_le_self _ _) hn9
      obtain ⟨x, hx⟩ : ∃ x, limb n j = x := ⟨_, rfl⟩
      obtain ⟨q, hq⟩ : ∃ q, n / W (j + 1) = q := ⟨_, rfl⟩
      obtain ⟨t, ht⟩ : ∃ t, n / W j = t := ⟨_, rfl⟩
      rw [hx, hq, ht] at hsa
      rw [ht] at hle
      rw [hx] at ca1
      rw [hq]
      have HT := Lib.hid ht
      have hkj : ((j + 1 : Nat) : Int) - 1 = (j : Int) := by omega
      rw [hkj]
      have hji : (j : Int) < la := by omega
      have hti : (q : Int) * 16777216 + x = t := by omega
      have hq9 : (q : Int) * 16777216 ≤ 4611686018427387903 := by omega
      have ht9 : (t : Int) ≤ 4611686018427387903 := by omega
      clear hx hq ht hkj h0 hsa hn9
      go_wp2
      go_roundw
      case rel => exact ⟨j, by omega, by go_num, by rw [HT.out], trivial⟩
      case measure => simp [intOf] <;> omega
end Go.Proofs.Ytemneeknemijpaa
