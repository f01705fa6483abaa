/- Root of the document's naturals: the walk. No condition but the sizes. -/
import Derived.Test.YtemneeknemijpaaNo
namespace Go.Proofs.Ytemneeknemijpaa
open Go.RowKit

theorem digs_one : digs 1 = [1] := by rw [digs_pos (by decide), show (1 : Nat) / 16777216 = 0 by decide, digs_zero]
/-- A new row of n's root. -/
def MakesR (w : World) (n : Nat) (e : Ending) (W' : World) : Prop := ∃ v r, e = .returned v ∧ IsN W' v r ∧ r * r ≤ n ∧ n < (r + 1) * (r + 1) ∧ Below w.heap.size w W'

set_option maxHeartbeats 2000000 in
theorem n_root {u : Value} {n : Nat} {w : World} (hu : IsN w u n) (ha8 : (digs n).length ≤ 900) : Calls Try.prog 73 #[u] w (MakesR w n) := by
  obtain ⟨L, hL⟩ : ∃ L, (digs n).length = L := ⟨_, rfl⟩
  have hnL : n < W L := by rw [← hL]; exact digs_len_lt n
  have hb := blen_le (24 * L) n (by rw [← W_two]; exact hnL)
  obtain ⟨B, hB⟩ : ∃ B, blen n = B := ⟨_, rfl⟩
  have hLI := n_len hu (by omega)
  rw [hB] at hb hLI
  obtain ⟨k0, hk0⟩ : ∃ k0, (B + 1) / 2 = k0 := ⟨_, rfl⟩
  have HR0 := Lib.hid (rootSo_zero n (k0 + 1) (by omega))
  have HU := Lib.hid hu
  have HL := Lib.hid hnL
  have HK : Hid (k0 ≤ 12 * L + 1) := Lib.hid (by omega)
  have HLI := Lib.hid hLI
  have hk8 : k0 ≤ 20000 := by omega
  have hki : ((B : Int) + 1) / 2 = (k0 : Int) := by omega
  have hL8 : L ≤ 900 := by omega
  have hB8 : B ≤ 30000 := by omega
  have HDL := Lib.hid hL
  clear hu hLI hnL hB hk0 hL ha8 hb
  go_enter Try.func73, Try.ntmps73
  go_wp2_with fail
  refine HLI.out.mono ?_
  rintro e w1 ⟨rfl, rfl⟩
  go_wp2
  rw [hki]
  go_loopw [3, 4] (fun rv i wr => ∃ (k r : Nat), k ≤ k0 + 1 ∧ i = .int .i64 ((k : Int) - 1) ∧ Hid (IsN wr rv r) ∧ Hid (RootSo n r k) ∧ Hid (Below w1.heap.size w1 wr)) (fun _ i _ => (intOf i + 1).toNat)
  case atStart => exact ⟨k0 + 1, 0, Nat.le_refl _, by go_num, Lib.hid (isN_nil _), HR0, Lib.hid (Below.refl _ _)⟩
  case round =>
    obtain ⟨k, r, hk, rfl, HN, HS, hbl⟩ := hrel
    by_cases h0 : k = 0
    · subst h0
      have HE : Hid (r * r ≤ n ∧ n < (r + 1) * (r + 1)) := Lib.hid ⟨HS.out.lo, by have := HS.out.hi; simpa using this⟩
      clear HS
      go_wp2
      go_ret
      exact ⟨_, _, rfl, HN.out, HE.out.1, HE.out.2, hbl.out⟩
    · obtain ⟨m, rfl⟩ : ∃ m, k = m + 1 := ⟨k - 1, by omega⟩
      have hm8 : m ≤ 20000 := by omega
      have hmk : ((m + 1 : Nat) : Int) - 1 = (m : Int) := by omega
      rw [hmk]
      have HT : Hid (r + 2 ^ m < W (L + 1)) := Lib.hid (root_small HL.out HS.out.lo (by have := HK.out; omega))
      have HRD : Hid ((digs r).length ≤ 2000) := Lib.hid (Nat.le_trans (digs_len_le' (k := L + 1) (Nat.lt_of_le_of_lt (Nat.le_add_right r _) HT.out)) (by omega))
      have HPD : Hid ((digs (1 * 2 ^ m)).length ≤ 2000) := Lib.hid (Nat.le_trans (digs_len_le' (k := L + 1) (by rw [Nat.one_mul]; exact Nat.lt_of_le_of_lt (Nat.le_add_left _ r) HT.out)) (by omega))
      have HTD : Hid ((digs (r + 1 * 2 ^ m)).length ≤ 2000) := Lib.hid (Nat.le_trans (digs_len_le' (k := L + 1) (by rw [Nat.one_mul]; exact HT.out)) (by omega))
      have HND : Hid ((digs n).length ≤ 2000) := Lib.hid (by rw [HDL.out]; omega)
      clear hmk
      go_wp2_with fail
      refine (n_shl (n := 1) (by unfold IsN; rw [digs_one]; exact ila_one _ 1 _ rfl) (by rw [digs_one]; decide) m hm8).mono ?_
      rintro e w2 ⟨v2, rfl, hv2, hb2⟩
      have HB2 : Hid (Below wr.heap.size wr w2) := Lib.hid (((Below.refl _ wr).alloc (Nat.le_refl _) _).trans (hb2.mono (by simp)))
      have HV2 := Lib.hid hv2
      clear hv2 hb2
      go_wp2_with fail
      refine (n_add (HN.out.below HB2.out) HV2.out HRD.out HPD.out).mono ?_
      rintro e w3 ⟨v3, rfl, hv3, hb3⟩
      have HB3 : Hid (Below wr.heap.size wr w3) := Lib.hid (HB2.out.trans (hb3.mono HB2.out.size))
      have HV3 := Lib.hid hv3
      clear hv3 hb3
      go_wp2_with fail
      refine (n_mul HV3.out HV3.out HTD.out HTD.out).mono ?_
      rintro e w4 ⟨v4, rfl, hv4, hb4⟩
      have HB4 : Hid (Below w3.heap.size w3 w4) := Lib.hid hb4
      have HV4 := Lib.hid hv4
      clear hv4 hb4
      go_wp2_with fail
      have HTT : Hid ((digs ((r + 1 * 2 ^ m) * (r + 1 * 2 ^ m))).length ≤ 2000) := Lib.hid (Nat.le_trans (digs_len_le' (k := (L + 1) + (L + 1)) (by rw [W_add, Nat.one_mul]; exact Nat.mul_lt_mul'' HT.out HT.out)) (by omega))
      have HB14 : Hid (Below w1.heap.size w1 w4) := Lib.hid ((hbl.out.trans (HB3.out.mono hbl.out.size)).trans (HB4.out.mono (Nat.le_trans hbl.out.size HB3.out.size)))
      refine (n_cmp HV4.out (HU.out.below HB14.out) HTT.out HND.out).mono ?_
      rintro e w5 ⟨rfl, hb5⟩
      have HB15 : Hid (Below w1.heap.size w1 w5) := Lib.hid (HB14.out.trans (hb5.mono HB14.out.size))
      have HB35 : Hid (Below w3.heap.size w3 w5) := Lib.hid (HB4.out.trans (hb5.mono HB4.out.size))
      clear hb5
      have HKM : Hid (m ≤ k0 + 1) := Lib.hid (by omega)
      by_cases ht : (r + 2 ^ m) * (r + 2 ^ m) ≤ n
      · have HS2 := Lib.hid (HS.out.take ht)
        have HC : Hid (cmpv (((r + 1 * 2 ^ m) * (r + 1 * 2 ^ m) : Nat) : Int) n ≤ 0) := Lib.hid (by rw [Nat.one_mul]; unfold cmpv; split; decide; split; decide; omega)
        obtain ⟨cc, hcc⟩ : ∃ cc, cmpv (((r + 1 * 2 ^ m) * (r + 1 * 2 ^ m) : Nat) : Int) n = cc := ⟨_, rfl⟩
        rw [hcc] at HC ⊢
        have hc0 := HC.out
        clear hcc ht HC
        go_wp2
        go_roundw
        case rel => exact ⟨m, r + 2 ^ m, HKM.out, by go_num, Lib.hid (by have := HV3.out.below HB35.out; rwa [Nat.one_mul] at this), HS2, HB15⟩
        case measure => simp [intOf] <;> omega
      · have HS2 := Lib.hid (HS.out.skip ht)
        have HC : Hid (¬ cmpv (((r + 1 * 2 ^ m) * (r + 1 * 2 ^ m) : Nat) : Int) n ≤ 0) := Lib.hid (by rw [Nat.one_mul]; unfold cmpv; split; omega; split; omega; decide)
        obtain ⟨cc, hcc⟩ : ∃ cc, cmpv (((r + 1 * 2 ^ m) * (r + 1 * 2 ^ m) : Nat) : Int) n = cc := ⟨_, rfl⟩
        rw [hcc] at HC ⊢
        have hc0 := HC.out
        clear hcc ht HC
        go_wp2
        go_roundw
        case rel => exact ⟨m, r, HKM.out, by go_num, Lib.hid (HN.out.below (HB3.out.trans (HB35.out.mono HB3.out.size))), HS2, HB15⟩
        case measure => simp [intOf] <;> omega
end Go.Proofs.Ytemneeknemijpaa
