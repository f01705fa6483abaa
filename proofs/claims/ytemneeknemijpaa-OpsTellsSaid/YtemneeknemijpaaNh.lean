/- Shl of the document's naturals. No condition but the sizes. -/
import Derived.Test.YtemneeknemijpaaNb
import Derived.Laws.MakeOwn
namespace Go.Proofs.Ytemneeknemijpaa
open Go.RowKit

structure ShlSo (n z s i c : Nat) (l : List Nat) : Prop where
  len : l.length = z + i
  lt : ∀ d ∈ l, d < 16777216
  sum : num l + W (z + i) * c = low n i * (2 ^ s * W z)
  cl : c < 2 ^ s
theorem num_zeros : ∀ z, num (List.replicate z 0) = 0
  | 0 => rfl
  | z + 1 => by rw [List.replicate_succ, num, num_zeros z]
theorem shlSo_zero (n z s : Nat) : ShlSo n z s 0 0 (List.replicate z 0) :=
  ⟨by simp, (fun d hd => by rw [(List.mem_replicate.1 hd).2]; decide), by rw [num_zeros, low_zero]; simp, Nat.pow_pos (by decide)⟩
theorem shlSo_succ {n z s i c : Nat} {l : List Nat} (h : ShlSo n z s i c l) : ShlSo n z s (i + 1) ((limb n i * 2 ^ s + c) / 16777216) (l ++ [(limb n i * 2 ^ s + c) % 16777216]) := by
  obtain ⟨h1, h2, h3, h4⟩ := h
  have hx := limb_lt n i
  have hb : limb n i * 2 ^ s + c < 16777216 * 2 ^ s := by
    have : limb n i * 2 ^ s ≤ 16777215 * 2 ^ s := Nat.mul_le_mul_right _ (by omega)
    omega
  generalize ht : limb n i * 2 ^ s + c = t at hb
  refine ⟨by rw [List.length_append, h1]; rfl, fun d hd => ?_, ?_, by omega⟩
  · rcases List.mem_append.1 hd with hd | hd
    · exact h2 d hd
    · rw [List.mem_singleton.1 hd]; exact Nat.mod_lt _ (by decide)
  · rw [num_snoc, h1, low_succ, ← Nat.add_assoc, W_succ]
    have e : W (z + i) * (t % 16777216) + 16777216 * W (z + i) * (t / 16777216) = W (z + i) * t := by
      rw [Nat.mul_comm 16777216, Nat.mul_assoc, ← Nat.mul_add, Nat.mod_add_div]
    have e2 : W (z + i) * t = W i * limb n i * (2 ^ s * W z) + W (z + i) * c := by
      rw [← ht, Nat.mul_add, W_add]
      congr 1
      simp only [Nat.mul_assoc, Nat.mul_comm, Nat.mul_left_comm]
    rw [Nat.add_mul]
    omega
theorem W_two (i : Nat) : W i = 2 ^ (24 * i) := by
  unfold W
  rw [show (16777216 : Nat) = 2 ^ 24 by rfl, ← Nat.pow_mul]
theorem shlSo_end {n z s i c : Nat} {l : List Nat} (h : ShlSo n z s i c l) (hn : (digs n).length ≤ i) (k : Nat) (hk : 24 * z + s = k) : digs (num (l ++ [c])) = digs (n * 2 ^ k) := by
  have h3 := h.sum
  rw [low_all (Nat.lt_of_lt_of_le (digs_len_lt n) (W_mono hn))] at h3
  rw [num_snoc, h.len, h3, W_two, ← hk, ← Nat.pow_add, Nat.add_comm s]

theorem n_trim' {u : Value} {n : Nat} {w : World} (hu : IsN w u n) (h8 : (digs n).length ≤ 5000) : Calls Try.prog 80 #[u] w (MakesN w n) :=
  (n_trim hu (digs_lt n) h8).mono fun e w' h => by rw [num_digs] at h; exact h.makesN

theorem n_shl_le {u : Value} {n : Nat} {w : World} (hu : IsN w u n) (ha8 : (digs n).length ≤ 2000) (k : Int) (hk : k ≤ 0) : Calls Try.prog 61 #[u, .int .i64 k] w (MakesN w n) := by
  have HU := Lib.hid hu
  obtain ⟨aa, la, ca, rfl, hA, _⟩ := hu
  have hl := hA.1
  rw [hl] at ha8
  have HL := Lib.hid hl
  clear hA hl
  go_enter Try.func61, Try.ntmps61
  go_wp2_with fail
  refine (n_trim' HU.out (by rw [HL.out]; omega)).mono ?_
  rintro e w1 ⟨v, rfl, hv, hb⟩
  have HV := Lib.hid hv
  have HB := Lib.hid hb
  clear hv hb
  go_wp2
  go_ret
  exact ⟨_, rfl, HV.out, HB.out⟩

set_option maxHeartbeats 2000000 in
theorem n_shl_pos {u : Value} {n : Nat} {w : World} (hu : IsN w u n) (ha8 : (digs n).length ≤ 2000) (k : Nat) (hk : 0 < k) (hk8 : k ≤ 20000) (hn0 : n ≠ 0) : Calls Try.prog 61 #[u, .int .i64 k] w (MakesN w (n * 2 ^ k)) := by
  obtain ⟨i0, hi, hz0, hz1, hz2⟩ := info_parts info3
  obtain ⟨aa, la, ca, rfl, hA, _⟩ := hu
  have hla := hA.1
  rw [hla] at ha8
  have hla0 : 0 < la := by
    apply Nat.pos_of_ne_zero
    intro h0
    have h1 : digs n = [] := List.length_eq_zero_iff.1 (by rw [hla, h0])
    have := num_digs n
    rw [h1] at this
    exact hn0 this.symm
  have HA := Lib.hid hA
  have HLA := Lib.hid hla
  obtain ⟨z, hz⟩ : ∃ z, k / 24 = z := ⟨_, rfl⟩
  obtain ⟨s, hs⟩ : ∃ s, k % 24 = s := ⟨_, rfl⟩
  have hzi : (k : Int) / 24 = (z : Int) := by omega
  have hsi : (k : Int) % 24 = (s : Int) := by omega
  have hs24 : (s : Int) < 24 := by omega
  have hs0 : (0 : Int) ≤ s := by omega
  have hz8 : z ≤ 1000 := by omega
  have HK : Hid (24 * z + s = k) := Lib.hid (by omega)
  have hp23 : (2 : Nat) ^ s ≤ 8388608 := Nat.pow_le_pow_right (n := 2) (by decide) (show s ≤ 23 by omega)
  have hpp : 0 < (2 : Nat) ^ s := Nat.pow_pos (by decide)
  obtain ⟨p, hp⟩ : ∃ p, 2 ^ s = p := ⟨_, rfl⟩
  have hw : wrap64 ((2 : Int) ^ s) = (p : Int) := by
    rw [show (2 : Int) ^ s = ((2 ^ s : Nat) : Int) by push_cast; rfl, hp]
    rw [hp] at hp23
    clear hp
    unfold wrap64; omega
  rw [hp] at hp23 hpp
  have HP := Lib.hid hp
  have hk0 : (0 : Int) < k := by omega
  have hli : (0 : Int) < la := by omega
  have hln : ((la : Int) == 0) = false := by apply beq_false_of_ne; omega
  clear hA hla hz hs hp hn0
  go_enter Try.func61, Try.ntmps61
  go_wp2_with (at_make; go_loud (refine wpList_make_full _ rfl _ _ 33 rfl w.heap.size 3 i0 (.int .i64 0) 1 Try.underlying33 hi hz0 hz1 .i64 .i64 _ _ z rfl rfl (by omega) (by omega) (by rw [hz2]; omega) (by unfold maxLen; omega) (Nat.le_refl _) ?_); intro w1 hown hgr)
  have hsets : (madeCells (Value.int .i64 0).cells (z * 1)).toList = (List.replicate z 0).map I := by
    rw [Nat.mul_one]
    apply List.ext_getElem
    · simp [madeCells]
    · intro i h1 h2
      simp [madeCells, Value.cells, Nat.mod_one]
  rw [hsets] at hown
  have HO := Lib.hid hown
  have HB1 : Hid (Below w.heap.size w w1) := Lib.hid ((Below.refl _ w).grown hgr (Nat.le_refl _) (by simp))
  rw [hw, hsi]
  clear hsets hown hgr hw
  go_loopw [5, 7, 8] (fun o cy i wr => ∃ (j c : Nat) (l : List Nat), j ≤ la ∧ c < p ∧ i = .int .i64 j ∧ cy = .int .i64 c ∧ Hid (ShlSo n z s j c l) ∧ Hid (wr.ownsRow w.heap.size 3 1 o (z + j) (l.map I)) ∧ Hid (Below w.heap.size w wr)) (fun _ _ i _ => la - (intOf i).toNat)
  case atStart => exact ⟨0, 0, _, Nat.zero_le _, by omega, rfl, rfl, Lib.hid (shlSo_zero n z s), HO, HB1⟩
  case round =>
    obtain ⟨j, c, l, hj, hc, rfl, rfl, HS, hz, hbl⟩ := hrel
    by_cases hjl : j < la
    · obtain ⟨ba, offa, rfl, ca1⟩ := isI_cell (HA.out.below (hbl.out.mono (Nat.le_refl _))) hjl
      rw [digs_limb] at ca1
      have hx := limb_lt n j
      have HS2 := Lib.hid (shlSo_succ HS.out)
      have hc2 := HS2.out.cl
      obtain ⟨x, hxx⟩ : ∃ x, limb n j = x := ⟨_, rfl⟩
      rw [hxx, HP.out] at HS2 hc2
      rw [hxx] at hx ca1
      have hxp : x * p ≤ 16777215 * 8388608 := Nat.mul_le_mul (by omega) hp23
      obtain ⟨m, hm⟩ : ∃ m, x * p = m := ⟨_, rfl⟩
      rw [hm] at HS2 hc2 hxp
      have hmi : (x : Int) * p = (m : Int) := by rw [← hm]; push_cast; rfl
      have hwm : wrap64 ((x : Int) * p) = m := by rw [hmi]; clear hmi hm hsi hzi; unfold wrap64; omega
      have HWM := Lib.hid hwm
      clear hmi hm hwm
      obtain ⟨t, ht⟩ : ∃ t, m + c = t := ⟨_, rfl⟩
      rw [ht] at HS2 hc2
      have hti : (m : Int) + c = (t : Int) := by omega
      obtain ⟨d, hd⟩ : ∃ d, t % 16777216 = d := ⟨_, rfl⟩
      obtain ⟨q, hq⟩ : ∃ q, t / 16777216 = q := ⟨_, rfl⟩
      rw [hd, hq] at HS2
      rw [hq] at hc2
      have ht0 : (t : Int) ≤ 140737488355327 := by omega
      have hdi : (t : Int) % 16777216 = (d : Int) := by omega
      have hqi : (t : Int) / 16777216 = (q : Int) := by omega
      have hji : (j : Int) < la := by omega
      have hm9 : (m : Int) ≤ 140737479966720 := by omega
      have hc9 : (c : Int) ≤ 8388608 := by omega
      clear hxx ht hd hq hxp HS
      have hwm := HWM.out
      go_wp2_with (at_builtin; refine n_append rfl (.tmp 39) (.tmp 42) rfl w.heap.size _ (z + j) l rfl (hz.out.alloc _) _ [d] rfl (ila_one _ d _ rfl) (by simp; omega) (Nat.le_trans hbl.out.size (by simp)) ?_; intro v' w' ho hb)
      go_roundw
      case rel => exact ⟨j + 1, q, l ++ [d], by omega, hc2, by go_num, rfl, HS2, Lib.hid ho, Lib.hid ((hbl.out.alloc hbl.out.size _).trans hb)⟩
      case measure => simp [intOf]; omega
    · obtain rfl : j = la := by omega
      have HE := Lib.hid (shlSo_end HS.out (by rw [HLA.out]; exact Nat.le_refl _) k HK.out)
      have HLT : Hid (∀ d ∈ l ++ [c], d < 16777216) := Lib.hid (fun d hd => by
        rcases List.mem_append.1 hd with hd | hd
        · exact HS.out.lt d hd
        · rw [List.mem_singleton.1 hd]; omega)
      have HLN : Hid ((l ++ [c]).length ≤ 5000) := Lib.hid (by rw [List.length_append, HS.out.len, List.length_singleton]; omega)
      clear HS
      go_wp2_with (first | (at_builtin; refine n_append rfl (.tmp 46) (.tmp 48) rfl w.heap.size _ (z + j) l rfl (hz.out.alloc _) _ [c] rfl (ila_one _ c _ rfl) (by simp; omega) (Nat.le_trans hbl.out.size (by simp)) ?_; intro v' w' ho hb) | (go_at_call 80; fail))
      refine (n_trim (ila_own ho) HLT.out HLN.out).mono ?_
      rintro e w2 hmk
      rw [HE.out] at hmk
      obtain ⟨v, rfl, hv, hb2⟩ := hmk.makesN
      have HV2 := Lib.hid hv
      have HBB := Lib.hid hb2
      have HB3 := Lib.hid ((hbl.out.alloc hbl.out.size _).trans hb)
      clear hv hb2 hmk hb ho
      go_wp2
      go_ret
      exact ⟨_, rfl, HV2.out, HB3.out.trans (HBB.out.mono HB3.out.size)⟩

theorem n_shl {u : Value} {n : Nat} {w : World} (hu : IsN w u n) (ha8 : (digs n).length ≤ 2000) (k : Nat) (hk8 : k ≤ 20000) : Calls Try.prog 61 #[u, .int .i64 k] w (MakesN w (n * 2 ^ k)) := by
  by_cases h0 : k = 0
  · subst h0
    have := n_shl_le hu ha8 ((0 : Nat) : Int) (by omega)
    simpa using this
  · by_cases hn : n = 0
    · subst hn
      rw [Nat.zero_mul]
      have HU := Lib.hid hu
      obtain ⟨aa, la, ca, rfl, hA, _⟩ := hu
      have hl := hA.1
      rw [digs_zero] at hl
      obtain rfl : 0 = la := hl
      have hki : (0 : Int) < k := by omega
      clear hA
      go_enter Try.func61, Try.ntmps61
      go_wp2_with fail
      refine (n_trim' HU.out (by rw [digs_zero]; exact Nat.zero_le _)).mono ?_
      rintro e w1 ⟨v, rfl, hv, hb⟩
      have HV := Lib.hid hv
      have HB := Lib.hid hb
      clear hv hb
      go_wp2
      go_ret
      exact ⟨_, rfl, HV.out, HB.out⟩
    · exact n_shl_pos hu ha8 k (by omega) hk8 hn
end Go.Proofs.Ytemneeknemijpaa
