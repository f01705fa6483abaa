/- Len, Shl of the program's naturals. No condition but the sizes. Shl of the program's naturals. No condition but the sizes. Shr of the program's naturals. No condition but the sizes. up of the program's naturals. No condition but the sizes. reversed of the program's naturals. No condition but the sizes. Compare, take of the program's naturals. No condition but the sizes. take of the program's naturals. No condition but the sizes. Root of the program's naturals. No condition but the sizes. No condition. -/
import Derived.Test.YtdflbipaicpdcaaGreatDoorSPa
import Derived.Test.YtdflbipaicpdcaaGreatDoorSBl
import Derived.Test.YtdflbipaicpdcaaGreatDoorSNa
import Derived.StillTailTactics
import Derived.Lib.SliceRun
import Derived.RegionTactic
import Derived.BigRegion
import Derived.Deep.RegionWith
import Derived.Deep.DeepCutAuto
set_option linter.unusedVariables false
set_option linter.unusedSimpArgs false
namespace Go.Proofs.YtdflbipaicpdcaaGreatDoor
open Go.RowKit
set_option maxRecDepth 100000

def blen (n : Nat) : Nat := if h : n = 0 then 0 else blen (n / 2) + 1
termination_by n
decreasing_by omega
theorem blen_zero : blen 0 = 0 := by rw [blen]; simp
theorem blen_pos {n : Nat} (h : n ≠ 0) : blen n = blen (n / 2) + 1 := by
  conv => lhs; rw [blen]
  rw [dif_neg h]
theorem blen_shift (n : Nat) : ∀ k, n / 2 ^ k ≠ 0 → blen n = k + blen (n / 2 ^ k)
  | 0, _ => by simp
  | k + 1, h => by
    have e : n / 2 ^ (k + 1) = n / 2 ^ k / 2 := by rw [Nat.pow_succ, Nat.div_div_eq_div_mul]
    have h1 : n / 2 ^ k ≠ 0 := fun h0 => h (by rw [e, h0])
    rw [blen_shift n k h1, blen_pos h1, e]
    omega
theorem blen_le : ∀ (k n : Nat), n < 2 ^ k → blen n ≤ k
  | 0, n, h => by
    have : n = 0 := by simp at h; exact h
    subst this; rw [blen_zero]; exact Nat.le_refl _
  | k + 1, n, h => by
    by_cases h0 : n = 0
    · subst h0; rw [blen_zero]; exact Nat.zero_le _
    · rw [blen_pos h0]
      have := blen_le k (n / 2) (by rw [Nat.pow_succ] at h; omega)
      omega
theorem lt_blen (n : Nat) : n < 2 ^ blen n := by
  induction n using Nat.strongRecOn with
  | ind n ih =>
    by_cases h0 : n = 0
    · subst h0; exact Nat.pow_pos (by decide)
    · rw [blen_pos h0, Nat.pow_succ]
      have := ih (n / 2) (by omega)
      omega
theorem blen_ge {n : Nat} (h0 : n ≠ 0) : 2 ^ (blen n - 1) ≤ n := by
  induction n using Nat.strongRecOn with
  | ind n ih =>
    rw [blen_pos h0]
    by_cases h1 : n / 2 = 0
    · rw [h1, blen_zero]; simp; omega
    · have := ih (n / 2) (by omega) h1
      have h2 : blen (n / 2) = blen (n / 2) - 1 + 1 := by rw [blen_pos h1]; omega
      rw [Nat.add_sub_cancel, h2, Nat.pow_succ]
      omega


theorem bitLenAux_blen : ∀ (f x : Nat), x < 2 ^ f → Lib.bitLenAux f x = blen x
  | 0, x, h => by have : x = 0 := by simp at h; exact h
                  subst this; rw [blen_zero]; rfl
  | f + 1, x, h => by
    unfold Lib.bitLenAux
    by_cases h0 : x = 0
    · subst h0; rw [blen_zero]; rfl
    · rw [if_neg h0, blen_pos h0, bitLenAux_blen f (x / 2) (by rw [Nat.pow_succ] at h; omega), Nat.add_comm]
theorem bitLen_blen {x : Nat} (h : x < 18446744073709551616) : Lib.bitLen x = blen x := bitLenAux_blen 64 x h

theorem blen_limbs {n la : Nat} (h : (digs n).length = la + 1) : blen n = 24 * la + blen (limb n la) ∧ limb n la ≠ 0 := by
  have h1 := digs_len_lt n
  rw [h, W_succ] at h1
  have h0 : n ≠ 0 := fun e => by subst e; rw [digs_zero] at h; simp at h
  have h2 := digs_len_le n h0
  rw [h, Nat.add_sub_cancel] at h2
  have h3 : n / W la < 16777216 := Nat.div_lt_of_lt_mul (by rw [Nat.mul_comm]; exact h1)
  have h4 : limb n la = n / W la := by unfold limb; exact Nat.mod_eq_of_lt h3
  have h5 : n / W la ≠ 0 := by
    have := Nat.div_pos h2 (W_pos la)
    omega
  rw [h4]
  refine ⟨?_, h5⟩
  rw [W_two] at h5 ⊢
  exact blen_shift n _ h5

theorem p_len {u : Value} {n : Nat} {w : World} (hu : IsN w u n) (ha8 : (digs n).length ≤ 5000) : Calls Tryz.prog 252 #[u] w fun e w' => e = .returned (I (blen n)) ∧ w' = w := by
  obtain ⟨aa, la, ca, rfl, hA, _⟩ := hu
  have hl := hA.1
  rw [hl] at ha8
  by_cases h0 : la = 0
  · subst h0
    have hn : n = 0 := by
      have := num_digs n
      rw [List.length_eq_zero_iff.1 hl] at this
      exact this.symm
    subst hn
    have HB := Lib.hid blen_zero
    clear hA hl
    go_enter Tryz.func252, Tryz.ntmps252
    go_wp2
    go_ret
    exact ⟨by rw [HB.out] <;> rfl, rfl⟩
  · obtain ⟨j, rfl⟩ : ∃ j, la = j + 1 := ⟨la - 1, by omega⟩
    obtain ⟨h1, h2⟩ := blen_limbs hl
    have h3 := limb_lt n j
    obtain ⟨ba, offa, rfl, ca1⟩ := isI_cell hA (show j < j + 1 by omega)
    rw [digs_limb] at ca1
    obtain ⟨x, hx⟩ : ∃ x, limb n j = x := ⟨_, rfl⟩
    rw [hx] at ca1 h1 h2 h3
    have h4 := bitLen_blen (x := x) (by omega)
    have h5 := blen_le 24 x h3
    have HR := Lib.hid (b_len (x : Int))
    obtain ⟨y, hy⟩ : ∃ y, blen x = y := ⟨_, rfl⟩
    have HX : Hid (Lib.bitLen (x : Int).toNat = y) := Lib.hid (by rw [Int.toNat_natCast, h4, hy])
    rw [hy] at h1 h5
    have HB := Lib.hid h1
    have hj : ((j + 1 : Nat) : Int) = (j : Int) + 1 := by push_cast; rfl
    have hjj : (j : Int) ≤ 5000 := by omega
    have hx0 : (0 : Int) ≤ x := by omega
    have hx1 : (x : Int) ≤ 16777215 := by omega
    have hn0 : ((j : Int) + 1 == 0) = false := by simp; omega
    have hw1 : (24 : Int) * j + y = ((24 * j + y : Nat) : Int) := by push_cast; rfl
    have HW := Lib.hid hw1
    have hy5 : (y : Int) ≤ 24 := by omega
    clear hA hl hx h1 h2 h4 hy h5 hw1 h0
    go_enter Tryz.func252, Tryz.ntmps252
    go_wp2_with fail
    refine (HR.out _ (by omega) (by omega)).mono ?_
    rw [HX.out]
    rintro e w' ⟨rfl, rfl⟩
    go_wp2
    go_ret
    exact ⟨by rw [HB.out, HW.out] <;> rfl, rfl⟩
end Go.Proofs.YtdflbipaicpdcaaGreatDoor
namespace Go.Proofs.YtdflbipaicpdcaaGreatDoor
open Go.RowKit
set_option maxRecDepth 100000

theorem info3s : (Tryz.prog.info? 3).map (·.size) = some 1 := by kernel_rfl

theorem isI_src {w : World} {a : Option Addr} {n : Nat} {l : List Nat} (h : IsI w a n l) (h0 : 0 < (l.map I).length) : ∃ ad, a = some ad ∧ ∀ j v, (l.map I)[j]? = some v → w.cell? (ad.add j) = some v := by
  rcases h.2 with h1 | ⟨b, off, h1, _⟩
  · have := h.1; rw [List.length_map] at h0; omega
  · subst h1; exact ⟨_, rfl, isI_cells h⟩
theorem shl_full {n z s c la : Nat} {l : List Nat} (h : ShlSo n z s (la + 1) c l) (hla : (digs n).length = la) (k : Nat) (hk : 24 * z + s = k) (hs : s < 24) : digs (num l) = digs (n * 2 ^ k) := by
  have h3 := h.sum
  have hn := digs_len_lt n
  rw [hla] at hn
  rw [low_all (Nat.lt_of_lt_of_le hn (W_mono (Nat.le_succ _)))] at h3
  have h5 : n * (2 ^ s * W z) < W (z + (la + 1)) := by
    have e : W (z + (la + 1)) = W la * (16777216 * W z) := by
      rw [W_add, W_succ]; simp only [Nat.mul_comm, Nat.mul_left_comm, Nat.mul_assoc]
    rw [e]
    have h6 : 2 ^ s * W z ≤ 16777216 * W z := Nat.mul_le_mul_right _ (Nat.le_of_lt (Nat.pow_lt_pow_right (a := 2) (by decide) (show s < 24 by omega)))
    have h7 : 0 < 16777216 * W z := Nat.mul_pos (by decide) (W_pos z)
    exact Nat.lt_of_le_of_lt (Nat.mul_le_mul_left n h6) (Nat.mul_lt_mul_of_pos_right hn h7)
  have hc : c = 0 := by
    rcases Nat.eq_zero_or_pos c with h0 | h0
    · exact h0
    · have := Nat.le_mul_of_pos_right (W (z + (la + 1))) h0
      omega
  rw [hc, Nat.mul_zero, Nat.add_zero] at h3
  rw [h3, W_two, ← hk, ← Nat.pow_add, Nat.add_comm s]

theorem shl_wrap {x s y : Nat} (h : x * 2 ^ s = y) (hy : y ≤ 1000000000000000) : wrap64 ((x : Int) * 2 ^ s) = (y : Int) := by
  have e : (x : Int) * 2 ^ s = (y : Int) := by rw [← h]; push_cast; rfl
  rw [e]
  clear h e
  unfold wrap64; omega
/-- what is still to be shifted -/
theorem rest_at {n la j : Nat} (h : (digs n).length = la) : (digs n ++ [0]).getD j 0 = limb n j := by
  rw [← digs_limb]
  simp only [List.getD_eq_getElem?_getD]
  by_cases hj : j < la
  · rw [List.getElem?_append_left (by omega)]
  · rw [List.getElem?_append_right (by omega), show (digs n)[j]? = none from List.getElem?_eq_none (by omega)]
    cases h2 : j - (digs n).length with
    | zero => rfl
    | succ k => simp
theorem mid_getD {l r : List Nat} {i j : Nat} (hl : l.length = i) : (l ++ r.drop j).getD i 0 = r.getD j 0 := by
  simp only [List.getD_eq_getElem?_getD]
  rw [List.getElem?_append_right (by omega), hl, Nat.sub_self, List.getElem?_drop, Nat.add_zero]
theorem mid_set {l r : List Nat} {i j d : Nat} (hl : l.length = i) (hj : j < r.length) : (l ++ r.drop j).set i d = (l ++ [d]) ++ r.drop (j + 1) := by
  rw [List.set_append_right _ _ (by omega), hl, Nat.sub_self, List.drop_eq_getElem_cons hj, List.set_cons_zero, List.append_assoc]
  rfl

set_option maxHeartbeats 2000000 in
theorem p_shl_f {u : Value} {n : Nat} {w : World} (hu : IsN w u n) (ha8 : (digs n).length ≤ 2000) (k : Nat) (hk8 : k ≤ 20000) : Calls Tryz.prog 223 #[u, .int .i64 k] w (MakesR w (n * 2 ^ k)) := by
  obtain ⟨i0, hi, hz0, hz1, hz2⟩ := info_parts info3
  obtain ⟨aa, la, ca, rfl, hA, hn1, hn2⟩ := hu
  have hla := hA.1
  rw [hla] at ha8
  have HA := Lib.hid hA
  have HLA := Lib.hid hla
  obtain ⟨z, hz⟩ : ∃ z, k / 24 = z := ⟨_, rfl⟩
  obtain ⟨s, hs⟩ : ∃ s, k % 24 = s := ⟨_, rfl⟩
  have hzi : (k : Int) / 24 = (z : Int) := by omega
  have hsi : (k : Int) % 24 = (s : Int) := by omega
  have hs24 : s < 24 := by omega
  have hz8 : z ≤ 1000 := by omega
  have HK : Hid (24 * z + s = k) := Lib.hid (by omega)
  have hk0 : (0 : Int) ≤ k := by omega
  have hk1 : ¬ (k : Int) < 0 := by omega
  clear hA hla hz hs
  obtain ⟨m, hm⟩ : ∃ m, z + la + 1 = m := ⟨_, rfl⟩
  have hmi : (z : Int) + la + 1 = (m : Int) := by omega
  have HM := Lib.hid hm
  have hm8 : m ≤ 4000 := by omega
  clear hm
  go_enter Tryz.func223, Tryz.ntmps223
  go_wp2_with (first
    | (at_make; go_loud (refine wpList_make_full _ rfl _ _ 34 rfl w.heap.size 3 i0 (.int .i64 0) 1 Tryz.underlying34 hi hz0 hz1 .i64 .i64 _ _ m rfl rfl (by omega) (by omega) (by rw [hz2]; omega) (by unfold maxLen; omega) (Nat.le_refl _) ?_); intro w1 hown hgr; have HO := Lib.hid (rw_make hown); have HB1 : Hid (Below w.heap.size w w1) := Lib.hid ((Below.refl _ w).grown hgr (Nat.le_refl _) (by simp)); clear hown hgr)
    | ((refine wpList_copy_splice rfl (.tmp 24) (.tmp 25) 34 34 rfl 3 Tryz.underlying34 info3s _ _ _ _ _ _ rfl rfl w.heap.size z ((List.replicate m 0).map I) 3 HO.out ((digs n).map I) (by rw [List.length_map, HLA.out]; exact (Nat.min_eq_left (by omega)).symm) (fun h0 => ⟨rfl, isI_src (HA.out.below HB1.out) h0⟩) (by rw [List.length_map, List.length_map, List.length_replicate, HLA.out]; omega) (oneI _) w.heap.size w HB1.out (Nat.le_refl _) ?_); intro w2 hw2 hb2))
  have hs2 := hb2.size
  have HR2 := Lib.hid (splice_rw hw2.out)
  have hr3 : ((List.replicate m 0).take z ++ (digs n ++ (List.replicate m 0).drop (z + (digs n).length))) = List.replicate z 0 ++ (digs n ++ [0]).drop 0 := by
    rw [HLA.out, List.take_replicate, List.drop_replicate, Nat.min_eq_left (by omega), show m - (z + la) = 1 by omega]
    rfl
  rw [hr3] at HR2
  obtain ⟨pc, hpc⟩ : ∃ pc, w2.heap.size = pc := ⟨_, rfl⟩
  have C4 : Hid ((w2.alloc (.cells #[.int .i64 0] 277)).cell? ⟨pc, 0, none⟩ = some (.int .i64 0)) := Lib.hid (by rw [← hpc]; go_simp)
  have F4 : Hid ((w2.alloc (.cells #[.int .i64 0] 277)).frozen? ⟨pc, 0, none⟩ = false) := Lib.hid (by rw [← hpc]; go_simp)
  have HR4 := Lib.hid (HR2.out.alloc (.cells #[.int .i64 0] 277))
  have HB4 := Lib.hid (hb2.alloc hs2 (.cells #[.int .i64 0] 277))
  have hpg : w.heap.size < pc := by have := HR2.out.lt; omega
  rw [hpc]
  clear hpc hr3 HR2 hw2 hb2 hs2
  generalize w2.alloc (.cells #[.int .i64 0] 277) = w5 at *
  have hp23 : (2 : Nat) ^ s ≤ 8388608 := Nat.pow_le_pow_right (n := 2) (by decide) (show s ≤ 23 by omega)
  go_loopw [9] (fun i wr => ∃ (j c : Nat) (l : List Nat), j ≤ la + 1 ∧ i = .int .i64 ((z + j : Nat) : Int) ∧ Hid (ShlSo n z s j c l) ∧ Hid (Rw wr w.heap.size (l ++ (digs n ++ [0]).drop j)) ∧ Hid (Below w.heap.size w wr) ∧ Hid (wr.cell? ⟨pc, 0, none⟩ = some (.int .i64 c)) ∧ Hid (wr.frozen? ⟨pc, 0, none⟩ = false)) (fun i _ => m - (intOf i).toNat)
  case atStart => exact ⟨0, 0, _, Nat.zero_le _, rfl, Lib.hid (shlSo_zero n z s), HR4, HB4, C4, F4⟩
  case round =>
    obtain ⟨j, c, l, hj, rfl, HS, HR, HB, HC, HF⟩ := hrel
    by_cases hjl : j ≤ la
    · have hll := HS.out.len
      have hrl : (digs n ++ [0]).length = la + 1 := by rw [List.length_append, HLA.out]; rfl
      have ca1 := HR.out.cell (i := z + j) (by rw [List.length_append, hll, List.length_drop, hrl]; omega)
      have fr1 := HR.out.froz (z + j)
      rw [mid_getD hll, rest_at HLA.out] at ca1
      have hx := limb_lt n j
      have HS2 := shlSo_succ HS.out
      have hcl := HS.out.cl
      obtain ⟨x, hxx⟩ : ∃ x, limb n j = x := ⟨_, rfl⟩
      rw [hxx] at HS2 hx ca1
      obtain ⟨i, hi⟩ : ∃ i, z + j = i := ⟨_, rfl⟩
      rw [hi] at ca1 fr1 hll ⊢
      have him : (i : Int) < m := by have := HM.out; omega
      have himn : i < m := by omega
      obtain ⟨d, hd⟩ : ∃ d, (x * 2 ^ s + c) % 16777216 = d := ⟨_, rfl⟩
      obtain ⟨q, hq⟩ : ∃ q, (x * 2 ^ s + c) / 16777216 = q := ⟨_, rfl⟩
      rw [hd, hq] at HS2
      have HS3 := Lib.hid HS2
      have hxp : x * 2 ^ s ≤ 16777215 * 8388608 := Nat.mul_le_mul (by omega) hp23
      obtain ⟨y, hy⟩ : ∃ y, x * 2 ^ s = y := ⟨_, rfl⟩
      rw [hy] at hd hq hxp
      have HY := Lib.hid hy
      have HDI : Hid (((y : Int) + c) % 16777216 = (d : Int)) := Lib.hid (by omega)
      have HQI : Hid (((y : Int) + c) / 16777216 = (q : Int)) := Lib.hid (by omega)
      have HLL := Lib.hid hll
      have HRL := Lib.hid hrl
      clear hll hrl HS2 hxx hd hq hy HS
      go_wp2_with fail
      rw [shl_wrap HY.out (by omega)]
      refine (p_put pc c (y : Int) _ HC.out HF.out (by omega) (by omega) (by omega) (by omega)).mono ?_
      rw [HDI.out, HQI.out]
      have HR5 := HR.out.other (p := ⟨pc, 0, none⟩) (show pc ≠ w.heap.size by omega) (.int .i64 q)
      have ca5 := HR5.cell (i := i) (by rw [List.length_append, HLL.out, List.length_drop, HRL.out]; omega)
      have fr5 := HR5.froz i
      have HR6 := HR5.set i d
      rw [mid_set HLL.out (by rw [HRL.out]; omega)] at HR6
      have HR7 := Lib.hid HR6
      have HB6 := Lib.hid ((HB.out.setCell (p := ⟨pc, 0, none⟩) (by show _ ≤ pc; omega) (.int .i64 q)).setCell (p := ⟨w.heap.size, i, none⟩) (Nat.le_refl _) (I d))
      have HC6 : Hid (((wr.setCell ⟨pc, 0, none⟩ (.int .i64 q)).setCell ⟨w.heap.size, i, none⟩ (I d)).cell? ⟨pc, 0, none⟩ = some (.int .i64 q)) := Lib.hid (by
        rw [cell_set_ne _ (show w.heap.size ≠ pc by omega)]
        exact World.cell?_setCell_same _ _ _ HC.out)
      have HF6 : Hid (((wr.setCell ⟨pc, 0, none⟩ (.int .i64 q)).setCell ⟨w.heap.size, i, none⟩ (I d)).frozen? ⟨pc, 0, none⟩ = false) := Lib.hid (by
        rw [World.frozen?_setCell, World.frozen?_setCell]; exact HF.out)
      rintro e w6 ⟨rfl, rfl⟩
      obtain ⟨w6, hw6⟩ : ∃ w6, wr.setCell ⟨pc, 0, none⟩ (.int .i64 q) = w6 := ⟨_, rfl⟩
      rw [hw6] at ca5 fr5 HR7 HB6 HC6 HF6 ⊢
      clear hw6 HR5 HR6 HR HB HC HF ca1 fr1 hp23
      have HI := Lib.hid hi
      clear hi
      have him2 : (i : Int) ≤ 4000 := by omega
      go_wp2
      go_roundw
      case rel => exact ⟨j + 1, q, l ++ [d], by omega, by have := HI.out; go_num, HS3, HR7, HB6, HC6, HF6⟩
      case measure => simp [intOf]; omega
    · obtain rfl : j = la + 1 := by omega
      have HE := Lib.hid (shl_full HS.out HLA.out k HK.out hs24)
      have HLT := Lib.hid HS.out.lt
      have HLN := Lib.hid HS.out.len
      have HR2 := HR.out
      have hrl : (digs n ++ [0]).length = la + 1 := by rw [List.length_append, HLA.out]; rfl
      rw [List.drop_of_length_le (by omega), List.append_nil] at HR2
      have hml : z + (la + 1) = m := by have := HM.out; omega
      have hlm : l.length = m := by rw [HLN.out]; exact hml
      have HR3 : Hid (wr.ownsRow w.heap.size 3 1 (.slice (some ⟨w.heap.size, 0, none⟩) m m) m (l.map I)) := Lib.hid (by have := HR2.owns (Nat.le_refl _) (by omega); rwa [hlm] at this)
      clear hlm
      rw [hml] at HLN ⊢
      clear HS HR2 HR hrl hml hp23
      go_wp2_with fail
      refine (p_trim_own HR3.out HLT.out (by rw [HLN.out]; omega) HE.out).mono ?_
      rintro e w2 ⟨v, rfl, hv, rfl⟩
      have HV2 := Lib.hid hv
      clear hv
      go_wp2
      go_ret
      exact ⟨_, rfl, HV2.out, HB.out⟩
theorem p_shl {u : Value} {n : Nat} {w : World} (hu : IsN w u n) (ha8 : (digs n).length ≤ 2000) (k : Nat) (hk8 : k ≤ 20000) : Calls Tryz.prog 223 #[u, .int .i64 k] w (MakesN w (n * 2 ^ k)) :=
  (p_shl_f hu ha8 k hk8).mono fun _ _ h => h.makesN
end Go.Proofs.YtdflbipaicpdcaaGreatDoor
namespace Go.Proofs.YtdflbipaicpdcaaGreatDoor
open Go.RowKit
set_option maxRecDepth 100000

theorem eql34_some (p : Addr) (n c : Nat) (w : World) : (binOp .eql 34 (.slice (some p) n c) (.slice none 0 0)).run Tryz.prog w = .ok (.bool false) w :=
  Go.Lib.run_eql_slice_nil w 34 3 (some p) n c 0 0 Tryz.underlying34
theorem eql34_none (n c : Nat) (w : World) : (binOp .eql 34 (.slice none n c) (.slice none 0 0)).run Tryz.prog w = .ok (.bool true) w :=
  Go.Lib.run_eql_slice_nil w 34 3 none n c 0 0 Tryz.underlying34

theorem p_clone {w : World} {v : Value} {l : List Nat} (hv : Ila w v l) (h8 : l.length ≤ 5000) : Calls Tryz.prog 247 #[v] w (MakesI w l) := by
  obtain ⟨a, n, c, rfl, h, ha, hc⟩ := hv
  have hn := h.1
  have HA := Lib.hid h
  have HN := Lib.hid hn
  cases a with
  | none =>
    obtain ⟨rfl, rfl⟩ := ha rfl
    have hl0 : l = [] := List.length_eq_zero_iff.1 hn
    subst hl0
    have he := eql34_none 0 0
    clear h hn ha
    go_enter Tryz.func247, Tryz.ntmps247
    go_wp2
    go_ret
    exact ⟨_, rfl, World.ownsRow_nil _ _ _ _, Below.refl _ _⟩
  | some ad =>
    have he := eql34_some ad n c
    clear h hn ha
    go_enter Tryz.func247, Tryz.ntmps247
    go_wp2_with (at_builtin; refine n_append rfl (.tmp 5) (.tmp 6) rfl w.heap.size _ 0 [] rfl (n_nil_own w) _ l rfl ⟨some ad, n, c, rfl, HA.out.below ((Below.refl _ w).alloc (Nat.le_refl _) _), (fun h => by cases h), hc⟩ (by rw [HN.out]; have := HN.out; omega) (by simp) ?_; intro v' w' ho hb)
    go_ret
    exact ⟨_, rfl, by simpa using ho, ((Below.refl _ w).alloc (Nat.le_refl _) _).trans hb⟩

theorem or24 {a b t : Nat} (ha : a < 2 ^ t) (ht : t ≤ 24) (hb : b * 2 ^ t < 16777216) : bits .or .i64 (a : Int) ((b * 2 ^ t : Nat) : Int) = ((a + b * 2 ^ t : Nat) : Int) := by
  have ha2 : a < 16777216 := Nat.lt_of_lt_of_le ha (Nat.pow_le_pow_right (by decide) ht)
  have e : a ||| (b * 2 ^ t) = a + b * 2 ^ t := by
    have := Nat.two_pow_add_eq_or_of_lt ha b
    rw [Nat.or_comm, Nat.mul_comm b, ← this, Nat.add_comm]
  generalize hy : b * 2 ^ t = y at hb e ⊢
  show IntKind.i64.wrap (((BitVec.ofInt 64 (a : Int)) ||| (BitVec.ofInt 64 (y : Int))).toNat : Nat) = _
  rw [BitVec.toNat_or, BitVec.toNat_ofInt, BitVec.toNat_ofInt]
  have e1 : ((a : Int) % ((2 ^ 64 : Nat) : Int)).toNat = a := by omega
  have e2 : ((y : Int) % ((2 ^ 64 : Nat) : Int)).toNat = y := by omega
  rw [e1, e2, e, IntKind.wrap_i64]
  omega

theorem drop_getD {l : List Nat} {i j : Nat} : (l.drop i).getD j 0 = l.getD (i + j) 0 := by
  simp only [List.getD_eq_getElem?_getD, List.getElem?_drop]

theorem shl24 {y s t : Nat} (hy : y < 16777216) (h : s + t = 24) : bits .and .i64 (wrap64 ((y : Int) * 2 ^ t)) 16777215 = ((y % 2 ^ s * 2 ^ t : Nat) : Int) := by
  have h1 : y * 2 ^ t ≤ 16777215 * 16777216 := Nat.mul_le_mul (by omega) (Nat.pow_le_pow_right (n := 2) (by decide) (show t ≤ 24 by omega))
  rw [shl_wrap rfl (by omega), and24]
  clear hy
  have e : (16777216 : Nat) = 2 ^ t * 2 ^ s := by rw [← Nat.pow_add, Nat.add_comm, h]
  have e2 : y * 2 ^ t % 16777216 = y % 2 ^ s * 2 ^ t := by rw [e, Nat.mul_comm y, Nat.mul_mod_mul_left, Nat.mul_comm]
  rw [← e2]
  rfl

/-- nothing is handed back -/
def NilZ (n : Nat) (w : World) (e : Ending) (w' : World) : Prop := n = 0 ∧ e = .returned (.slice none 0 0) ∧ w' = w
theorem p_shr_zero {u : Value} {n : Nat} {w : World} (hu : IsN w u n) (ha8 : (digs n).length ≤ 2000) (k : Nat) (hk8 : k ≤ 100000) (hz : (digs n).length ≤ k / 24) : Calls Tryz.prog 226 #[u, .int .i64 k] w (NilZ (n / 2 ^ k) w) := by
  obtain ⟨aa, la, ca, rfl, hA, _⟩ := hu
  have hla := hA.1
  rw [hla] at ha8 hz
  have h0 : n / 2 ^ k = 0 := by
    apply Nat.div_eq_of_lt
    have h1 := digs_len_lt n
    rw [hla, W_two] at h1
    exact Nat.lt_of_lt_of_le h1 (Nat.pow_le_pow_right (by decide) (by omega))
  have H0 := Lib.hid h0
  obtain ⟨z, hzz⟩ : ∃ z, k / 24 = z := ⟨_, rfl⟩
  obtain ⟨s, hs⟩ : ∃ s, k % 24 = s := ⟨_, rfl⟩
  have hzi : (k : Int) / 24 = (z : Int) := by omega
  have hsi : (k : Int) % 24 = (s : Int) := by omega
  have hk0 : (0 : Int) ≤ k := by omega
  have hk1 : ¬ (k : Int) < 0 := by omega
  have hlz : (la : Int) ≤ z := by omega
  clear hA hla h0 hzz hs hz
  go_enter Tryz.func226, Tryz.ntmps226
  go_wp2
  go_ret
  exact ⟨H0.out, rfl, rfl⟩

theorem shr_fits {n z s j : Nat} (hs : s < 24) : limb n (z + j) / 2 ^ s < 2 ^ (24 - s) ∧ limb n (z + j + 1) % 2 ^ s * 2 ^ (24 - s) < 16777216 ∧ limb (n / 2 ^ (24 * z + s)) j = limb n (z + j) / 2 ^ s + limb n (z + j + 1) % 2 ^ s * 2 ^ (24 - s) := by
  have hB : (16777216 : Nat) = 2 ^ s * 2 ^ (24 - s) := by rw [← Nat.pow_add, show s + (24 - s) = 24 by omega]
  have hp : 0 < (2 : Nat) ^ s := Nat.pow_pos (by decide)
  have hq : 0 < (2 : Nat) ^ (24 - s) := Nat.pow_pos (by decide)
  refine ⟨Nat.div_lt_of_lt_mul (by rw [← hB]; exact limb_lt _ _), ?_, ?_⟩
  · conv => rhs; rw [hB]
    exact Nat.mul_lt_mul_of_pos_right (Nat.mod_lt _ hp) hq
  · rw [shr_limb n z s j hs]
    congr 2
    rw [hB]
    exact Nat.mul_div_cancel_left _ hp

set_option maxHeartbeats 4000000 in
theorem p_shr_pos {u : Value} {n : Nat} {w : World} (hu : IsN w u n) (ha8 : (digs n).length ≤ 2000) (k : Nat) (hk8 : k ≤ 100000) (hz : k / 24 < (digs n).length) : Calls Tryz.prog 226 #[u, .int .i64 k] w (MakesR w (n / 2 ^ k)) := by
  obtain ⟨aa, la, ca, rfl, hA, hn1, hn2⟩ := hu
  have hla := hA.1
  rw [hla] at ha8 hz
  have HA := Lib.hid hA
  have HLA := Lib.hid hla
  obtain ⟨z, hzz⟩ : ∃ z, k / 24 = z := ⟨_, rfl⟩
  obtain ⟨s, hs⟩ : ∃ s, k % 24 = s := ⟨_, rfl⟩
  have hzi : (k : Int) / 24 = (z : Int) := by omega
  have hsi : (k : Int) % 24 = (s : Int) := by omega
  have hs24 : s < 24 := by omega
  have HK : Hid (24 * z + s = k) := Lib.hid (by omega)
  have hk0 : (0 : Int) ≤ k := by omega
  have hk1 : ¬ (k : Int) < 0 := by omega
  rw [hzz] at hz
  have hlz : (z : Int) < la := by omega
  clear hA hla hzz hs
  obtain ⟨m, hm⟩ : ∃ m, la - z = m := ⟨_, rfl⟩
  have HM := Lib.hid hm
  have hm0 : 0 < m := by omega
  obtain ⟨ba, offa, rfl, -⟩ := isI_cell HA.out (show 0 < la by omega)
  have hcz : ¬ ca = z := by omega
  have HD : Hid (IsI w (some ⟨ba, offa + z, none⟩) m ((digs n).drop z)) := Lib.hid (by
    refine ⟨by rw [List.length_drop, HLA.out, hm], .inr ⟨ba, offa + z, rfl, fun i hi => ?_⟩⟩
    rw [List.length_drop, HLA.out] at hi
    obtain ⟨b', o', h1, h2⟩ := isI_cell HA.out (show z + i < la by omega)
    cases h1
    rw [Nat.add_assoc, h2, drop_getD])
  have hm8 : m ≤ 2000 := by omega
  go_enter Tryz.func226, Tryz.ntmps226
  go_wp2_with fail
  refine (p_clone (l := (digs n).drop z) ⟨_, m, ca - z, rfl, HD.out, (fun h => by cases h), by omega⟩ (by rw [List.length_drop, HLA.out]; omega)).mono ?_
  rintro e w1 ⟨v, rfl, ho, hb⟩
  have HRL : Hid (((digs n).drop z).length = m) := Lib.hid (by rw [List.length_drop, HLA.out]; exact HM.out)
  rw [HRL.out] at ho
  obtain ⟨g, cap, rfl, hg0, hg1, -, -⟩ := ownsI_pos ho hm0
  have HO := Lib.hid ho
  have HB1 := Lib.hid hb
  clear ho hb hcz hlz
  have hmi : (0 : Int) < m := by omega
  go_wp2
  go_loopw [25] (fun i wr => ∃ (j : Nat) (l : List Nat), j ≤ m ∧ i = .int .i64 (j : Int) ∧ Hid (LowSo (n / 2 ^ k) j l) ∧ Hid (wr.ownsRow w.heap.size 3 1 (.slice (some ⟨g, 0, none⟩) m cap) m ((l ++ ((digs n).drop z).drop j).map I)) ∧ Hid (Below w.heap.size w wr)) (fun i _ => m - (intOf i).toNat)
  case atStart => exact ⟨0, [], Nat.zero_le _, rfl, Lib.hid (lowSo_zero _), HO, HB1⟩
  case round =>
    obtain ⟨j, l, hj, rfl, HS, HR, HB⟩ := hrel
    by_cases hjm : j < m
    · have hll := HS.out.len
      obtain ⟨g2, cap2, he, hg0', hg1', hcs, hfz⟩ := ownsI_pos HR.out hm0
      simp only [Value.slice.injEq, Option.some.injEq, Addr.mk.injEq, and_true, true_and] at he
      obtain ⟨rfl, rfl⟩ := he
      have cx := hcs j hjm
      have fx := hfz j
      rw [mid_getD hll, drop_getD, digs_limb] at cx
      obtain ⟨f1, f2, f3⟩ := shr_fits (n := n) (z := z) (j := j) hs24
      rw [HK.out] at f3
      have hx := limb_lt n (z + j)
      have hy := limb_lt n (z + j + 1)
      have HS2 := lowSo_succ HS.out
      rw [f3] at HS2
      have hxs : limb n (z + j) / 2 ^ s ≤ limb n (z + j) := Nat.div_le_self _ _
      have hwx : (limb n (z + j) : Int) / 2 ^ s = ((limb n (z + j) / 2 ^ s : Nat) : Int) := by push_cast; rfl
      have hor := or24 f1 (by omega) f2
      have hand := shl24 (y := limb n (z + j + 1)) hy (show s + (24 - s) = 24 by omega)
      obtain ⟨x, hxx⟩ : ∃ x, limb n (z + j) = x := ⟨_, rfl⟩
      obtain ⟨y, hyy⟩ : ∃ y, limb n (z + j + 1) = y := ⟨_, rfl⟩
      obtain ⟨t, ht⟩ : ∃ t, 24 - s = t := ⟨_, rfl⟩
      rw [hxx] at cx hx hxs hwx
      rw [hxx, hyy, ht] at HS2 hor
      rw [hyy] at hy
      rw [hyy, ht] at hand
      obtain ⟨d, hd⟩ : ∃ d, x / 2 ^ s = d := ⟨_, rfl⟩
      obtain ⟨e, he⟩ : ∃ e, y % 2 ^ s * 2 ^ t = e := ⟨_, rfl⟩
      rw [hd] at hwx hxs
      rw [hd, he] at hor HS2
      rw [he] at hand
      have HO2 := Lib.hid (ownsI_set HR.out j d)
      rw [mid_set hll (by rw [HRL.out]; exact hjm)] at HO2
      have HB2 := Lib.hid (HB.out.setCell (p := ⟨g, j, none⟩) hg0 (I d))
      have HLE := Lib.hid hll
      have HOR := Lib.hid hor
      have HAND := Lib.hid hand
      have HT := Lib.hid ht
      have HS3 := Lib.hid HS2
      have hji : (j : Int) < m := by omega
      by_cases hj2 : j + 1 < m
      · have hq : z + j + 1 < la := by have := HM.out; omega
        obtain ⟨b', o', h1, cy⟩ := isI_cell (HA.out.below HB.out) hq
        cases h1
        rw [digs_limb, hyy] at cy
        have hbg : ba < w.heap.size := HA.out.lt ba offa rfl (by omega)
        have cy6 : (wr.setCell ⟨g, j, none⟩ (I d)).cell? ⟨ba, offa + (z + j + 1), none⟩ = some (I y) := by rw [cell_set_ne _ (show g ≠ ba by omega)]; exact cy
        have cx6 : (wr.setCell ⟨g, j, none⟩ (I d)).cell? ⟨g, j, none⟩ = some (I d) := World.cell?_setCell_same _ _ _ cx
        have fx6 : (wr.setCell ⟨g, j, none⟩ (I d)).frozen? ⟨g, j, none⟩ = false := by rw [World.frozen?_setCell]; exact fx
        have HC6 := Lib.hid cy6
        have HX6 := Lib.hid cx6
        have HF6 := Lib.hid fx6
        obtain ⟨q, hqq⟩ : ∃ q, z + j + 1 = q := ⟨_, rfl⟩
        have hqi : (z : Int) + j + 1 = (q : Int) := by omega
        rw [hqq] at hq HC6
        have hqi2 : (q : Int) < la := by omega
        have HQ := Lib.hid hqq
        clear hll f1 f2 f3 hor hand HS2 hx hy hxx hyy ht hd he HS cy cy6 cx6 fx6 hcs hfz hqq hxs
        go_wp2_with fail
        generalize wr.setCell ⟨g, j, none⟩ (I d) = w6 at HO2 HB2 HC6 HX6 HF6 ⊢
        obtain ⟨p, hp⟩ : ∃ p, z + j = p := ⟨_, rfl⟩
        have hw1 : IntKind.i64.wrap ((z : Int) + j) = (p : Int) := by rw [IntKind.wrap_i64]; omega
        have hw2 : IntKind.i64.wrap ((p : Int) + 1) = (q : Int) := by rw [IntKind.wrap_i64]; have := HQ.out; omega
        have hw3 : IntKind.i64.wrap (24 - (s : Int)) = (t : Int) := by rw [IntKind.wrap_i64]; have := HT.out; omega
        have ht24 : (t : Int) ≤ 24 := by have := HT.out; omega
        have cy := HC6.out
        clear cx fx
        have cx7 := HX6.out
        have fx7 := HF6.out
        clear hp
        go_still_tail 17, (by kernel_rfl)
        change wpList _ _ _ _ _ w6.drew
        have cx8 : w6.drew.cell? ⟨g, j, none⟩ = some (I d) := cx7
        have fx8 : w6.drew.frozen? ⟨g, j, none⟩ = false := fx7
        have HO3 := Lib.hid (ownsI_set (w := w6.drew) HO2.out j (d + e))
        have HB3 := Lib.hid (HB2.out.drew.setCell (p := ⟨g, j, none⟩) hg0 (I (d + e)))
        have hset : ((l ++ [d]) ++ ((digs n).drop z).drop (j + 1)).set j (d + e) = (l ++ [d + e]) ++ ((digs n).drop z).drop (j + 1) := by
          rw [List.append_assoc, List.set_append_right _ _ (by have := HLE.out; omega), HLE.out, Nat.sub_self]
          simp
        rw [hset] at HO3
        clear hset hw1 hw2 hw3 cy cx7 fx7
        generalize w6.drew = w7 at HO3 HB3 cx8 fx8 ⊢
        have hj3 : (j : Int) ≤ 2000 := by omega
        go_wp2
        go_roundw
        case rel => refine ⟨j + 1, l ++ [d + e], by omega, by go_num, HS3, ?_, ?_⟩ <;> (rw [HAND.out, HOR.out]; first | exact HO3 | exact HB3)
        case measure => simp [intOf]; omega
      · have hy0 : y = 0 := by
          rw [← hyy]
          apply limb_zero_of
          have h1 := digs_len_lt n
          rw [HLA.out] at h1
          exact Nat.lt_of_lt_of_le h1 (W_mono (by omega))
        have he0 : e = 0 := by rw [← he, hy0, Nat.zero_mod, Nat.zero_mul]
        rw [he0, Nat.add_zero] at HS3
        obtain ⟨q, hqq⟩ : ∃ q, z + j + 1 = q := ⟨_, rfl⟩
        have hqi : (z : Int) + j + 1 = (q : Int) := by omega
        have hqi2 : ¬ (q : Int) < la := by omega
        have hj3 : (j : Int) ≤ 2000 := by omega
        clear hll f1 f2 f3 hor hand HS2 hx hy hxx hyy ht hd he HS hcs hfz hqq hxs hy0 he0 HOR HAND
        go_wp2
        go_roundw
        case rel => exact ⟨j + 1, l ++ [d], by omega, by go_num, HS3, HO2, HB2⟩
        case measure => simp [intOf]; omega
    · obtain rfl : j = m := by omega
      have hfin : n / 2 ^ k < W j := by
        have h1 := shr_end n z s la (by have := digs_len_lt n; rwa [HLA.out] at this)
        rw [HK.out, HM.out] at h1
        exact h1
      have HE := Lib.hid (lowSo_end HS.out hfin)
      have HLT := Lib.hid HS.out.lt
      have HLN := Lib.hid HS.out.len
      have HR2 := HR.out
      rw [List.drop_of_length_le (by rw [HRL.out]; exact Nat.le_refl _), List.append_nil] at HR2
      have HR3 := Lib.hid HR2
      clear HS HR2 HR hfin
      go_wp2_with fail
      refine (p_trim_own HR3.out HLT.out (by rw [HLN.out]; omega) HE.out).mono ?_
      rintro e w2 ⟨v, rfl, hv, rfl⟩
      have HV2 := Lib.hid hv
      clear hv
      go_wp2
      go_ret
      exact ⟨_, rfl, HV2.out, HB.out⟩

theorem p_shr_f {u : Value} {n : Nat} {w : World} (hu : IsN w u n) (ha8 : (digs n).length ≤ 2000) (k : Nat) (hk8 : k ≤ 100000) : Calls Tryz.prog 226 #[u, .int .i64 k] w (MakesF w (n / 2 ^ k)) := by
  by_cases h : k / 24 < (digs n).length
  · exact (p_shr_pos hu ha8 k hk8 h).mono fun _ _ h => h.makesF
  · exact (p_shr_zero hu ha8 k hk8 (by omega)).mono fun _ _ ⟨h1, h2, h3⟩ => ⟨_, h2, .inl ⟨h1, rfl⟩, by rw [h3]; exact Below.refl _ _⟩
theorem p_shr {u : Value} {n : Nat} {w : World} (hu : IsN w u n) (ha8 : (digs n).length ≤ 2000) (k : Nat) (hk8 : k ≤ 100000) : Calls Tryz.prog 226 #[u, .int .i64 k] w (MakesN w (n / 2 ^ k)) :=
  (p_shr_f hu ha8 k hk8).mono fun _ _ h => h.makesN
end Go.Proofs.YtdflbipaicpdcaaGreatDoor
namespace Go.Proofs.YtdflbipaicpdcaaGreatDoor
open Go.RowKit
set_option maxRecDepth 100000

/-- all that was there is as it was, but for block g -/
structure Besides (g : Nat) (w w' : World) : Prop where
  os : w'.os = w.os
  tape : w'.tape = w.tape
  output : w'.output = w.output
  size : w.heap.size ≤ w'.heap.size
  block : ∀ k, k < w.heap.size → k ≠ g → w'.heap[k]? = w.heap[k]?
theorem Besides.refl (g : Nat) (w : World) : Besides g w w := ⟨rfl, rfl, rfl, Nat.le_refl _, fun _ _ _ => rfl⟩
theorem Besides.trans {g : Nat} {a b c : World} (h : Besides g a b) (k : Besides g b c) : Besides g a c :=
  ⟨k.os.trans h.os, k.tape.trans h.tape, k.output.trans h.output, Nat.le_trans h.size k.size, fun i hi hg => (k.block i (Nat.lt_of_lt_of_le hi h.size) hg).trans (h.block i hi hg)⟩
theorem Besides.of_below {g : Nat} {w w' : World} (h : Below w.heap.size w w') : Besides g w w' := ⟨h.os, h.tape, h.output, h.size, fun k hk _ => h.block k hk⟩
theorem Besides.below {g B : Nat} {a w w' : World} (hb : Below B a w) (h : Besides g w w') (hB : B ≤ w.heap.size) (hg : B ≤ g) : Below B a w' :=
  hb.trans ⟨h.os, h.tape, h.output, h.size, fun k hk => h.block k (by omega) (by omega)⟩
theorem Besides.alloc {g : Nat} {w w' : World} (h : Besides g w w') (o : Obj) : Besides g w (w'.alloc o) :=
  h.trans (Besides.of_below ((Below.refl _ w').alloc (Nat.le_refl _) o))
theorem Besides.drew {g : Nat} {w w' : World} (h : Besides g w w') : Besides g w w'.drew := ⟨h.os, h.tape, h.output, h.size, h.block⟩
theorem Besides.set {g : Nat} {w w' : World} (h : Besides g w w') {p : Addr} (hp : w.heap.size ≤ p.block ∨ p.block = g) (v : Value) : Besides g w (w'.setCell p v) :=
  ⟨h.os, h.tape, h.output, by simpa [World.setCell] using h.size, fun k hk hg => (Below.heap_setCell _ _ _ _ (by omega)).trans (h.block k hk hg)⟩
theorem Besides.rw {g : Nat} {w w' : World} (h : Besides g w w') {k : Nat} {l : List Nat} (hr : Rw w k l) (hk : k ≠ g) : Rw w' k l := hr.keep (h.block k hr.lt hk)

/-- block g holds the number n in m limbs -/
def Rn (w : World) (g m n : Nat) : Prop := ∃ l, Rw w g l ∧ l.length = m ∧ (∀ d ∈ l, d < 16777216) ∧ num l = n
theorem Rn.besides {g : Nat} {w w' : World} {k m n : Nat} (h : Rn w k m n) (hb : Besides g w w') (hk : k ≠ g) : Rn w' k m n := by
  obtain ⟨l, h1, h2⟩ := h
  exact ⟨l, hb.rw h1 hk, h2⟩
/-- the limbs shifted so far -/
structure UpSo (L : List Nat) (s c0 i c : Nat) (l : List Nat) : Prop where
  len : l.length = i
  lt : ∀ d ∈ l, d < 16777216
  sum : num l + W i * c = num (L.take i) * 2 ^ s + c0
  cl : c < 16777216
theorem upSo_zero (L : List Nat) (s c0 : Nat) (h : c0 < 16777216) : UpSo L s c0 0 c0 [] := ⟨rfl, (fun _ h => by cases h), by simp [num, W_zero], h⟩
theorem upSo_succ {L l : List Nat} {s c0 i c x : Nat} (h : UpSo L s c0 i c l) (hL : ∀ d ∈ L, d < 16777216) (hi : i < L.length) (hx : L.getD i 0 = x) (hs : s ≤ 2) : UpSo L s c0 (i + 1) ((x * 2 ^ s + c) / 16777216) (l ++ [(x * 2 ^ s + c) % 16777216]) := by
  obtain ⟨h1, h2, h3, h4⟩ := h
  have hxl : x < 16777216 := by rw [← hx]; exact getD_lt hL i
  have h2s : 2 ^ s ≤ 4 := Nat.pow_le_pow_right (n := 2) (by decide) hs
  have hxp : x * 2 ^ s ≤ 16777215 * 4 := Nat.mul_le_mul (by omega) h2s
  have ht : L.take (i + 1) = L.take i ++ [x] := by
    rw [List.take_succ_eq_append_getElem hi, ← hx, List.getD_eq_getElem?_getD, List.getElem?_eq_getElem hi]; rfl
  refine ⟨by rw [List.length_append, h1]; rfl, fun d hd => ?_, ?_, by omega⟩
  · rcases List.mem_append.1 hd with hd | hd
    · exact h2 d hd
    · rw [List.mem_singleton.1 hd]; exact Nat.mod_lt _ (by decide)
  · rw [num_snoc, ht, num_snoc, h1, List.length_take, Nat.min_eq_left (by omega), W_succ, Nat.add_mul]
    generalize hy : x * 2 ^ s = y
    have e0 : W i * x * 2 ^ s = W i * y := by rw [Nat.mul_assoc, hy]
    rw [e0]
    generalize hz : y + c = t
    have e1 : W i * (t % 16777216) + 16777216 * W i * (t / 16777216) = W i * t := by
      rw [Nat.mul_comm 16777216, Nat.mul_assoc, ← Nat.mul_add, Nat.mod_add_div]
    have e2 : W i * t = W i * y + W i * c := by rw [← hz, Nat.mul_add]
    omega
theorem upSo_end {L l : List Nat} {s c0 c m : Nat} (h : UpSo L s c0 m c l) (hm : L.length = m) (hf : num L * 2 ^ s + c0 < W m) : num l = num L * 2 ^ s + c0 := by
  have h3 := h.sum
  rw [List.take_of_length_le (by omega)] at h3
  have hc : c = 0 := by
    rcases Nat.eq_zero_or_pos c with h0 | h0
    · exact h0
    · have := Nat.le_mul_of_pos_right (W m) h0
      omega
  rw [hc, Nat.mul_zero] at h3
  omega

/-- nothing handed back -/
def Done (g : Nat) (w : World) (Q : World → Prop) (e : Ending) (w' : World) : Prop := (∃ v, e = .returned v) ∧ Besides g w w' ∧ Q w'

set_option maxHeartbeats 2000000 in
theorem p_up {g m n cap s c0 : Nat} {w : World} (h : Rn w g m n) (hm8 : m ≤ 3000) (hs : s ≤ 2) (hc0 : c0 < 4) (hf : n * 2 ^ s + c0 < W m) : Calls Tryz.prog 278 #[.slice (some ⟨g, 0, none⟩) m cap, .int .i64 s, .int .i64 c0] w (Done g w fun w' => Rn w' g m (n * 2 ^ s + c0)) := by
  obtain ⟨L, hR, hL, hd, rfl⟩ := h
  have hg := hR.lt
  have HR1 := Lib.hid hR
  have HLN := Lib.hid hL
  have HD := Lib.hid hd
  have HF := Lib.hid hf
  obtain ⟨pc, hpc⟩ : ∃ pc, w.heap.size = pc := ⟨_, rfl⟩
  have C4 : Hid ((w.alloc (.cells #[.int .i64 c0] 277)).cell? ⟨pc, 0, none⟩ = some (.int .i64 c0)) := Lib.hid (by rw [← hpc]; go_simp)
  have F4 : Hid ((w.alloc (.cells #[.int .i64 c0] 277)).frozen? ⟨pc, 0, none⟩ = false) := Lib.hid (by rw [← hpc]; go_simp)
  have HR4 := Lib.hid (hR.alloc (.cells #[.int .i64 c0] 277))
  have HB4 := Lib.hid ((Besides.refl g w).alloc (.cells #[.int .i64 c0] 277))
  have HPC := Lib.hid hpc
  rw [hpc] at hg
  clear hR hL hd hf hpc
  go_enter Tryz.func278, Tryz.ntmps278
  go_wp2
  rw [HPC.out]
  generalize w.alloc (.cells #[.int .i64 c0] 277) = w5 at *
  have hp23 : (2 : Nat) ^ s ≤ 4 := Nat.pow_le_pow_right (n := 2) (by decide) hs
  go_loopw [11] (fun i wr => ∃ (j c : Nat) (l : List Nat), j ≤ m ∧ i = .int .i64 (j : Int) ∧ Hid (UpSo L s c0 j c l) ∧ Hid (Rw wr g (l ++ L.drop j)) ∧ Hid (Besides g w wr) ∧ Hid (wr.cell? ⟨pc, 0, none⟩ = some (.int .i64 c)) ∧ Hid (wr.frozen? ⟨pc, 0, none⟩ = false)) (fun i _ => m - (intOf i).toNat)
  case atStart => exact ⟨0, c0, [], Nat.zero_le _, rfl, Lib.hid (upSo_zero L s c0 (by omega)), HR4, HB4, C4, F4⟩
  case round =>
    obtain ⟨j, c, l, hj, rfl, HS, HR, HB, HC, HF2⟩ := hrel
    by_cases hjl : j < m
    · have hll := HS.out.len
      have ca1 := HR.out.cell (i := j) (by rw [List.length_append, hll, List.length_drop, HLN.out]; omega)
      have fr1 := HR.out.froz j
      rw [mid_getD hll] at ca1
      have hcl := HS.out.cl
      obtain ⟨x, hxx⟩ : ∃ x, L.getD j 0 = x := ⟨_, rfl⟩
      have HS2 := upSo_succ HS.out HD.out (by rw [HLN.out]; exact hjl) hxx hs
      have hx : x < 16777216 := by rw [← hxx]; exact getD_lt HD.out j
      rw [hxx] at ca1
      have hjm : (j : Int) < m := by omega
      obtain ⟨d, hd⟩ : ∃ d, (x * 2 ^ s + c) % 16777216 = d := ⟨_, rfl⟩
      obtain ⟨q, hq⟩ : ∃ q, (x * 2 ^ s + c) / 16777216 = q := ⟨_, rfl⟩
      rw [hd, hq] at HS2
      have HS3 := Lib.hid HS2
      have hxp : x * 2 ^ s ≤ 16777215 * 4 := Nat.mul_le_mul (by omega) hp23
      obtain ⟨y, hy⟩ : ∃ y, x * 2 ^ s = y := ⟨_, rfl⟩
      rw [hy] at hd hq hxp
      have HY := Lib.hid hy
      have HDI : Hid (((y : Int) + c) % 16777216 = (d : Int)) := Lib.hid (by omega)
      have HQI : Hid (((y : Int) + c) / 16777216 = (q : Int)) := Lib.hid (by omega)
      have HLL := Lib.hid hll
      clear hll HS2 hxx hd hq hy HS
      go_wp2_with fail
      rw [shl_wrap HY.out (by omega)]
      refine (p_put pc c (y : Int) _ HC.out HF2.out (by omega) (by omega) (by omega) (by omega)).mono ?_
      rw [HDI.out, HQI.out]
      have HR5 := HR.out.other (p := ⟨pc, 0, none⟩) (show pc ≠ g by omega) (.int .i64 q)
      have ca5 := HR5.cell (i := j) (by rw [List.length_append, HLL.out, List.length_drop, HLN.out]; omega)
      have fr5 := HR5.froz j
      have HR6 := HR5.set j d
      rw [mid_set HLL.out (by rw [HLN.out]; omega)] at HR6
      have HR7 := Lib.hid HR6
      have HB6 := Lib.hid ((HB.out.set (p := ⟨pc, 0, none⟩) (.inl (by have := HPC.out; show _ ≤ pc; omega)) (.int .i64 q)).set (p := ⟨g, j, none⟩) (.inr rfl) (I d))
      have HC6 : Hid (((wr.setCell ⟨pc, 0, none⟩ (.int .i64 q)).setCell ⟨g, j, none⟩ (I d)).cell? ⟨pc, 0, none⟩ = some (.int .i64 q)) := Lib.hid (by
        rw [cell_set_ne _ (show g ≠ pc by omega)]
        exact World.cell?_setCell_same _ _ _ HC.out)
      have HF6 : Hid (((wr.setCell ⟨pc, 0, none⟩ (.int .i64 q)).setCell ⟨g, j, none⟩ (I d)).frozen? ⟨pc, 0, none⟩ = false) := Lib.hid (by
        rw [World.frozen?_setCell, World.frozen?_setCell]; exact HF2.out)
      rintro e w6 ⟨rfl, rfl⟩
      obtain ⟨w6, hw6⟩ : ∃ w6, wr.setCell ⟨pc, 0, none⟩ (.int .i64 q) = w6 := ⟨_, rfl⟩
      rw [hw6] at ca5 fr5 HR7 HB6 HC6 HF6 ⊢
      clear hw6 HR5 HR6 HR HB HC HF2 ca1 fr1 hp23
      have him2 : (j : Int) ≤ 4000 := by omega
      go_wp2
      go_roundw
      case rel => exact ⟨j + 1, q, l ++ [d], by omega, by go_num, HS3, HR7, HB6, HC6, HF6⟩
      case measure => simp [intOf]; omega
    · obtain rfl : j = m := by omega
      have HE := Lib.hid (upSo_end HS.out HLN.out HF.out)
      have HLT := Lib.hid HS.out.lt
      have HL2 := Lib.hid HS.out.len
      have HR2 := HR.out
      rw [List.drop_of_length_le (by rw [HLN.out]; exact Nat.le_refl _), List.append_nil] at HR2
      have HR3 := Lib.hid HR2
      clear HS HR2 HR hp23
      go_wp2
      exact bodyPost_ret (results_none rfl _ _ _) rfl ⟨⟨_, rfl⟩, HB.out, l, HR3.out, HL2.out, HLT.out, HE.out⟩
end Go.Proofs.YtdflbipaicpdcaaGreatDoor
namespace Go.Proofs.YtdflbipaicpdcaaGreatDoor
open Go.RowKit
set_option maxRecDepth 100000

/-- the first i and the last i are swapped -/
structure RevSo (L : List Nat) (m i : Nat) (l : List Nat) : Prop where
  len : l.length = m
  at' : ∀ k, k < m → l.getD k 0 = if k < i ∨ m - i ≤ k then L.getD (m - 1 - k) 0 else L.getD k 0
theorem revSo_zero {L : List Nat} {m : Nat} (h : L.length = m) : RevSo L m 0 L := ⟨h, fun k hk => by rw [if_neg (by omega)]⟩
theorem revSo_succ {L l : List Nat} {m i j : Nat} (h : RevSo L m i l) (hj : i + j = m - 1) (hij : i < j) : RevSo L m (i + 1) ((l.set i (L.getD j 0)).set j (L.getD i 0)) := by
  obtain ⟨h1, h2⟩ := h
  refine ⟨by rw [List.length_set, List.length_set, h1], fun k hk => ?_⟩
  by_cases hkj : k = j
  · subst hkj
    rw [getD_set_self (by rw [List.length_set]; omega), if_pos (by omega), show m - 1 - k = i by omega]
  · rw [getD_set_other (fun e => hkj e.symm)]
    by_cases hki : k = i
    · subst hki
      rw [getD_set_self (by omega), if_pos (by omega), show m - 1 - k = j by omega]
    · rw [getD_set_other (fun e => hki e.symm), h2 k hk]
      by_cases hc : k < i ∨ m - i ≤ k
      · rw [if_pos hc, if_pos (by omega)]
      · rw [if_neg hc, if_neg (by omega)]
theorem RevSo.mid {L l : List Nat} {m i j : Nat} (h : RevSo L m i l) (hj : i + j = m - 1) (hij : i < j) : l.getD i 0 = L.getD i 0 ∧ l.getD j 0 = L.getD j 0 := by
  obtain ⟨h1, h2⟩ := h
  exact ⟨by rw [h2 i (by omega), if_neg (by omega)], by rw [h2 j (by omega), if_neg (by omega)]⟩
theorem revSo_end {L l : List Nat} {m i : Nat} (h : RevSo L m i l) (hL : L.length = m) (hi : m ≤ 2 * i + 1) : l = L.reverse := by
  obtain ⟨h1, h2⟩ := h
  apply List.ext_getElem
  · rw [List.length_reverse]; omega
  · intro k hk1 hk2
    rw [List.getElem_reverse]
    have h3 := h2 k (by omega)
    simp only [List.getD_eq_getElem?_getD, List.getElem?_eq_getElem hk1, Option.getD_some] at h3
    rw [h3]
    by_cases hc : k < i ∨ m - i ≤ k
    · rw [if_pos hc, List.getElem?_eq_getElem (by omega), Option.getD_some]
      congr 1; omega
    · rw [if_neg hc, List.getElem?_eq_getElem (by omega), Option.getD_some]
      congr 1; omega

def RevPost (base : Nat) (w : World) (v : Value) (m : Nat) (l : List Nat) (e : Ending) (w' : World) : Prop := (∃ u, e = .returned u) ∧ w'.ownsRow base 3 1 v m (l.map I) ∧ Below base w w'

set_option maxHeartbeats 2000000 in
theorem p_reverse {w : World} {base m : Nat} {v : Value} {L : List Nat} (h : w.ownsRow base 3 1 v m (L.map I)) (hb : base ≤ w.heap.size) (h8 : m ≤ 3000) : Calls Tryz.prog 282 #[v] w (RevPost base w v m L.reverse) := by
  have hL : L.length = m := by have := h.1; simpa using this
  by_cases hm : m = 0
  · subst hm
    have hl0 : L = [] := List.length_eq_zero_iff.1 hL
    subst hl0
    have HO := Lib.hid h
    obtain ⟨a, c, rfl⟩ : ∃ a c, v = .slice a 0 c := by
      rcases h.2 with ⟨h1, _⟩ | ⟨g, c, cur, h1, _⟩
      · exact ⟨_, _, h1⟩
      · exact ⟨_, _, h1⟩
    clear h hL
    go_enter Tryz.func282, Tryz.ntmps282
    go_wp2
    go_loop [2, 3] (fun i j => i = .int .i64 0 ∧ j = .int .i64 (-1)) (fun _ _ => 0)
    case atStart => exact ⟨rfl, rfl⟩
    case round =>
      obtain ⟨rfl, rfl⟩ := hrel
      go_wp2
      exact bodyPost_ret (results_none rfl _ _ _) rfl ⟨⟨_, rfl⟩, HO.out, Below.refl _ _⟩
  · obtain ⟨g, cap, rfl, hg0, hg1, -, -⟩ := ownsI_pos h (by omega)
    have HL := Lib.hid hL
    have HO := Lib.hid h
    clear h hL
    go_enter Tryz.func282, Tryz.ntmps282
    go_wp2
    go_loopw [2, 3] (fun i j wr => ∃ (k q : Nat) (l : List Nat), k + q = m - 1 ∧ i = .int .i64 k ∧ j = .int .i64 q ∧ Hid (RevSo L m k l) ∧ Hid (wr.ownsRow base 3 1 (.slice (some ⟨g, 0, none⟩) m cap) m (l.map I)) ∧ Hid (Below base w wr)) (fun i _ _ => m - (intOf i).toNat)
    case atStart => exact ⟨0, m - 1, L, by omega, rfl, by congr 1; omega, Lib.hid (revSo_zero HL.out), HO, Lib.hid (Below.refl _ _)⟩
    case round =>
      obtain ⟨k, q, l, hkq, rfl, rfl, HS, HR, HB⟩ := hrel
      by_cases hlt : k < q
      · obtain ⟨g2, cap2, he, hg0', hg1', hcs, hfz⟩ := ownsI_pos HR.out (by omega)
        simp only [Value.slice.injEq, Option.some.injEq, Addr.mk.injEq, and_true, true_and] at he
        obtain ⟨rfl, rfl⟩ := he
        obtain ⟨h1, h2⟩ := HS.out.mid hkq hlt
        have ck := hcs k (by omega)
        have cq := hcs q (by omega)
        have fk := hfz k
        have fq := hfz q
        have HS2 := revSo_succ HS.out hkq hlt
        rw [h1] at ck
        rw [h2] at cq
        obtain ⟨x, hx⟩ : ∃ x, L.getD k 0 = x := ⟨_, rfl⟩
        obtain ⟨y, hy⟩ : ∃ y, L.getD q 0 = y := ⟨_, rfl⟩
        rw [hx] at ck HS2
        rw [hy] at cq HS2
        have HS3 := Lib.hid HS2
        have hki : (k : Int) < q := by omega
        have hkm : (k : Int) < m := by omega
        have hqm : (q : Int) < m := by omega
        have hkmn : k < m := by omega
        have hqmn : q < m := by omega
        clear h1 h2 hx hy hcs hfz HS2 HS
        go_wp2_with fail
        have HO3 := Lib.hid (ownsI_set (ownsI_set HR.out k y) q x)
        have HB3 := Lib.hid ((((HB.out.setCell (p := ⟨g, k, none⟩) hg0 (I y)).setCell (p := ⟨g, q, none⟩) hg0 (I x))).drew)
        have hk2 : (k : Int) ≤ 4000 := by omega
        have hq2 : (q : Int) ≤ 4000 := by omega
        have hq1 : (1 : Int) ≤ q := by omega
        have HKQ := Lib.hid hkq
        clear hkq
        go_region
        have HO4 : Hid (((wr.setCell ⟨g, k, none⟩ (I y)).setCell ⟨g, q, none⟩ (I x)).drew.ownsRow base 3 1 (.slice (some ⟨g, 0, none⟩) m cap) m (((l.set k y).set q x).map I)) := HO3
        generalize ((wr.setCell ⟨g, k, none⟩ (I y)).setCell ⟨g, q, none⟩ (I x)).drew = w5 at HO4 HB3 ⊢
        clear HO3
        go_wp2
        go_roundw
        case rel => exact ⟨k + 1, q - 1, _, by have := HKQ.out; omega, by go_num, by congr 1; omega, HS3, HO4, HB3⟩
        case measure => simp [intOf]; omega
      · have hlt2 : ¬ (k : Int) < q := by omega
        have HE := Lib.hid (revSo_end HS.out HL.out (by omega))
        have HR3 := HR.out
        rw [HE.out] at HR3
        have HR4 := Lib.hid HR3
        clear HR3 HS HE
        go_wp2
        exact bodyPost_ret (results_none rfl _ _ _) rfl ⟨⟨_, rfl⟩, HR4.out, HB.out⟩

theorem p_reversed {w : World} {v : Value} {l : List Nat} (hv : Ila w v l) (h8 : l.length ≤ 3000) : Calls Tryz.prog 281 #[v] w (MakesI w l.reverse) := by
  have HV := Lib.hid hv
  obtain ⟨a, n, c, rfl, -⟩ := hv
  go_enter Tryz.func281, Tryz.ntmps281
  go_wp2_with fail
  refine (p_clone HV.out (by omega)).mono ?_
  rintro e w1 ⟨v, rfl, ho, hb⟩
  have HO := Lib.hid ho
  have HB := Lib.hid hb
  have hs := hb.size
  clear ho hb
  obtain ⟨a2, c2, rfl⟩ : ∃ a c, v = .slice a l.length c := by
    rcases HO.out.2 with ⟨h1, h2⟩ | ⟨g, c, cur, h1, _⟩
    · rw [h2]; exact ⟨_, _, h1⟩
    · exact ⟨_, _, h1⟩
  go_wp2_with fail
  refine (p_reverse HO.out hs h8).mono ?_
  rintro e w2 ⟨⟨u, rfl⟩, ho, hb⟩
  have HO2 := Lib.hid ho
  have HB2 := Lib.hid hb
  clear ho hb
  go_wp2
  go_ret
  exact ⟨_, rfl, by rw [List.length_reverse]; exact HO2.out, HB.out.trans HB2.out⟩
end Go.Proofs.YtdflbipaicpdcaaGreatDoor
namespace Go.Proofs.YtdflbipaicpdcaaGreatDoor
open Go.RowKit
set_option maxRecDepth 100000

theorem rev_getD {l : List Nat} {m k : Nat} (h : l.length = m) (hk : k < m) : l.reverse.getD k 0 = l.getD (m - 1 - k) 0 := by
  simp only [List.getD_eq_getElem?_getD]
  rw [List.getElem?_reverse (by omega), h]

set_option maxHeartbeats 2000000 in
theorem p_compare {u v : Value} {A B : List Nat} {m : Nat} {w : World} (hu : Ila w u A.reverse) (hv : Ila w v B.reverse) (hA : A.length = m) (hB : B.length = m) (hAd : ∀ d ∈ A, d < 16777216) (hBd : ∀ d ∈ B, d < 16777216) (h8 : m ≤ 3000) :
    Calls Tryz.prog 280 #[u, v] w fun e w' => e = .returned (.int .i64 (cmpv (num A) (num B))) ∧ w' = w := by
  obtain ⟨aa, la, ca, rfl, hIA, _⟩ := hu
  obtain ⟨ab, lb, cb, rfl, hIB, _⟩ := hv
  obtain rfl : m = la := by have := hIA.1; rw [List.length_reverse] at this; omega
  obtain rfl : m = lb := by have := hIB.1; rw [List.length_reverse] at this; omega
  have HA := Lib.hid hIA
  have HB := Lib.hid hIB
  have HLA := Lib.hid hA
  have HLB := Lib.hid hB
  have hna := num_lt A hAd
  have hnb := num_lt B hBd
  rw [hA] at hna
  rw [hB] at hnb
  have HGA := Lib.hid (num_limb A hAd)
  have HGB := Lib.hid (num_limb B hBd)
  clear hIA hIB hA hB hAd hBd
  generalize num A = a at *
  generalize num B = b at *
  have H0 : Hid (a / W (m - 0) = b / W (m - 0)) := Lib.hid (by rw [Nat.sub_zero, Nat.div_eq_of_lt hna, Nat.div_eq_of_lt hnb])
  clear hna hnb
  go_enter Tryz.func280, Tryz.ntmps280
  go_wp2
  go_loop [11] (fun i => ∃ k : Nat, k ≤ m ∧ i = .int .i64 (k : Int) ∧ Hid (a / W (m - k) = b / W (m - k))) (fun i => m - (intOf i).toNat)
  case atStart => exact ⟨0, Nat.zero_le _, rfl, H0⟩
  case round =>
    obtain ⟨k, hk, rfl, HE⟩ := hrel
    by_cases hkm : k < m
    · obtain ⟨ba, offa, rfl, ca1⟩ := isI_cell HA.out hkm
      obtain ⟨bb, offb, rfl, cb1⟩ := isI_cell HB.out hkm
      rw [rev_getD HLA.out hkm, ← HGA.out] at ca1
      rw [rev_getD HLB.out hkm, ← HGB.out] at cb1
      obtain ⟨j, hj⟩ : ∃ j, m - 1 - k = j := ⟨_, rfl⟩
      have hsa := div_step a j
      have hsb := div_step b j
      have hEE := HE.out
      rw [show m - k = j + 1 by omega] at hEE
      rw [hj] at ca1 cb1
      have HE2 : limb a j = limb b j → Hid (a / W (m - (k + 1)) = b / W (m - (k + 1))) := fun e => Lib.hid (by rw [show m - (k + 1) = j by omega, hsa, hsb, hEE, e])
      have hki : (k : Int) < m := by omega
      obtain ⟨x, hx⟩ : ∃ x, limb a j = x := ⟨_, rfl⟩
      obtain ⟨y, hy⟩ : ∃ y, limb b j = y := ⟨_, rfl⟩
      rw [hx] at ca1 hsa
      rw [hy] at cb1 hsb
      rw [hx, hy] at HE2
      rw [hEE] at hsa
      by_cases hxy : x = y
      · have HE3 := HE2 hxy
        subst hxy
        have HC := Lib.hid (cmpv_eq (rfl : (x : Int) = x))
        clear hsa hsb hEE hx hy hj HE2
        go_wp2_with (go_at_call 249; refine (c_cmp _ _ _).mono ?_; rw [HC.out]; rintro e w' ⟨rfl, rfl⟩)
        go_round
        case rel => exact ⟨k + 1, by omega, by go_num, HE3⟩
        case measure => simp [intOf]; omega
      · obtain ⟨z, hz⟩ : ∃ z, cmpv (a : Int) b = z := ⟨_, rfl⟩
        have HC : Hid (cmpv (x : Int) y = z) := Lib.hid (by
          rw [← hz]
          rcases Nat.lt_or_gt_of_ne hxy with h | h
          · rw [cmpv_lt (show (x : Int) < y by omega), cmpv_lt (show (a : Int) < b by have := lt_of_div (a := a) (b := b) (i := j) (by omega); omega)]
          · rw [cmpv_gt (show (y : Int) < x by omega), cmpv_gt (show (b : Int) < a by have := lt_of_div (a := b) (b := a) (i := j) (by omega); omega)])
        have hz0 : ((z : Int) != 0) = true := by
          have := HC.out
          rcases Nat.lt_or_gt_of_ne hxy with h | h
          · rw [cmpv_lt (show (x : Int) < y by omega)] at this; rw [← this]; rfl
          · rw [cmpv_gt (show (y : Int) < x by omega)] at this; rw [← this]; rfl
        have HZ := Lib.hid hz
        clear hsa hsb hEE hx hy hj HE2 hz
        go_wp2_with (go_at_call 249; refine (c_cmp _ _ _).mono ?_; rw [HC.out]; rintro e w' ⟨rfl, rfl⟩)
        go_ret
        exact ⟨by rw [HZ.out] <;> rfl, rfl⟩
    · obtain rfl : k = m := by omega
      have hab : a = b := by have := HE.out; rwa [Nat.sub_self, W_zero, Nat.div_one, Nat.div_one] at this
      have HC := Lib.hid (cmpv_eq (show (a : Int) = b by omega))
      clear hab
      go_wp2
      go_ret
      exact ⟨by rw [HC.out] <;> rfl, rfl⟩
end Go.Proofs.YtdflbipaicpdcaaGreatDoor
namespace Go.Proofs.YtdflbipaicpdcaaGreatDoor
open Go.RowKit
set_option maxRecDepth 100000

def TakePost (g m a b : Nat) (w : World) (e : Ending) (w' : World) : Prop := e = .returned (.bool (decide (b ≤ a))) ∧ Besides g w w' ∧ Rn w' g m (if b ≤ a then a - b else a)

theorem take_fin {a b m : Nat} {c : Int} {l : List Nat} (h : AlSo (-1) a b m c l) (ha : a < W m) (hb : b < W m) (hab : b ≤ a) : num l = a - b := by
  have h1 : (digs a).length ≤ m := digs_len_le' ha
  have h2 : (digs b).length ≤ m := digs_len_le' hb
  have h3 := alSo_end h h1 h2 (T := a - b) (by omega) (by omega)
  have h4 := congrArg num h3
  rwa [num_digs, num_digs] at h4

set_option maxHeartbeats 4000000 in
theorem p_take {g1 g2 m a b c1 c2 : Nat} {w : World} (h1 : Rn w g1 m a) (h2 : Rn w g2 m b) (hg : g1 ≠ g2) (hc1 : m ≤ c1) (hc2 : m ≤ c2) (h8 : m ≤ 3000) : Calls Tryz.prog 279 #[.slice (some ⟨g1, 0, none⟩) m c1, .slice (some ⟨g2, 0, none⟩) m c2] w (TakePost g1 m a b w) := by
  obtain ⟨A, hA1, hA2, hA3, rfl⟩ := h1
  obtain ⟨B, hB1, hB2, hB3, rfl⟩ := h2
  have HA := Lib.hid hA1
  have HB := Lib.hid hB1
  have HLA := Lib.hid hA2
  have HLB := Lib.hid hB2
  have HDA := Lib.hid hA3
  have HDB := Lib.hid hB3
  have hs1 := hA1.lt
  have hs2 := hB1.lt
  have hna := num_lt A hA3
  have hnb := num_lt B hB3
  rw [hA2] at hna
  rw [hB2] at hnb
  have HNA := Lib.hid hna
  have HNB := Lib.hid hnb
  clear hA1 hA2 hA3 hB1 hB2 hB3 hna hnb
  go_enter Tryz.func279, Tryz.ntmps279
  go_wp2_with fail
  refine (p_reversed (HA.out.ila (n := m) (c := c1) HLA.out hc1) (by rw [HLA.out]; omega)).mono ?_
  rintro e w1 ⟨v1, rfl, ho1, hb1⟩
  have HV1 := Lib.hid (ila_own ho1)
  have HB1 := Lib.hid hb1
  clear ho1 hb1
  go_wp2_with fail
  refine (p_reversed ((HB.out.below HB1.out hs2).ila (n := m) (c := c2) HLB.out hc2) (by rw [HLB.out]; omega)).mono ?_
  rintro e w2 ⟨v2, rfl, ho2, hb2⟩
  have HV2 := Lib.hid (ila_own ho2)
  have HB2 := Lib.hid hb2
  clear ho2 hb2
  go_wp2_with fail
  refine (p_compare (HV1.out.below HB2.out) HV2.out HLA.out HLB.out HDA.out HDB.out h8).mono ?_
  have HBB := Lib.hid (HB1.out.trans (HB2.out.mono HB1.out.size))
  by_cases hlt : num A < num B
  · rw [cmpv_lt (show (num A : Int) < num B by omega)]
    rintro e w3 ⟨rfl, rfl⟩
    have HD : Hid (decide (num B ≤ num A) = false) := Lib.hid (decide_eq_false (by omega))
    have HN : Hid (¬ num B ≤ num A) := Lib.hid (by omega)
    clear hlt
    go_wp2
    go_ret
    exact ⟨by rw [HD.out] <;> rfl, Besides.of_below HBB.out, by rw [if_neg HN.out]; exact ⟨A, HA.out.below HBB.out hs1, HLA.out, HDA.out, rfl⟩⟩
  · obtain ⟨z, hz⟩ : ∃ z, cmpv (num A : Int) (num B) = z := ⟨_, rfl⟩
    have hz0 : ¬ z < 0 := by
      rw [← hz]
      rcases Nat.eq_or_lt_of_le (show num B ≤ num A by omega) with h | h
      · rw [cmpv_eq (show (num A : Int) = num B by omega)]; omega
      · rw [cmpv_gt (show (num B : Int) < num A by omega)]; omega
    rw [hz]
    rintro e w3 ⟨rfl, rfl⟩
    have HD : Hid (decide (num B ≤ num A) = true) := Lib.hid (decide_eq_true (by omega))
    have HN : Hid (num B ≤ num A) := Lib.hid (by omega)
    have HRA := Lib.hid (HA.out.below HBB.out hs1)
    have HRB := Lib.hid (HB.out.below HBB.out hs2)
    have hss := HBB.out.size
    clear hlt hz HA HB HV1 HV2 HB1 HB2
    obtain ⟨pc, hpc⟩ : ∃ pc, w3.heap.size = pc := ⟨_, rfl⟩
    have C4 : Hid ((w3.alloc (.cells #[.int .i64 0] 277)).cell? ⟨pc, 0, none⟩ = some (.int .i64 ((0 : Int)))) := Lib.hid (by rw [← hpc]; go_simp)
    have F4 : Hid ((w3.alloc (.cells #[.int .i64 0] 277)).frozen? ⟨pc, 0, none⟩ = false) := Lib.hid (by rw [← hpc]; go_simp)
    have HRA4 := Lib.hid (HRA.out.alloc (.cells #[.int .i64 0] 277))
    have HRB4 := Lib.hid (HRB.out.alloc (.cells #[.int .i64 0] 277))
    have HB4 := Lib.hid ((Besides.of_below HBB.out (g := g1)).alloc (.cells #[.int .i64 0] 277))
    have hp1 : g1 < pc := by omega
    have hp2 : g2 < pc := by omega
    have hp3 : w.heap.size ≤ pc := by omega
    have HPC := Lib.hid hpc
    clear hpc hss HRA HRB HBB
    go_wp2
    rw [HPC.out]
    generalize w3.alloc (.cells #[.int .i64 0] 277) = w5 at *
    go_loopw [15] (fun i wr => ∃ (j : Nat) (c : Int) (l : List Nat), j ≤ m ∧ i = .int .i64 (j : Int) ∧ Hid (AlSo (-1) (num A) (num B) j c l) ∧ Hid (Rw wr g1 (l ++ A.drop j)) ∧ Hid (Rw wr g2 B) ∧ Hid (Besides g1 w wr) ∧ Hid (wr.cell? ⟨pc, 0, none⟩ = some (.int .i64 c)) ∧ Hid (wr.frozen? ⟨pc, 0, none⟩ = false)) (fun i _ => m - (intOf i).toNat)
    case atStart => exact ⟨0, 0, [], Nat.zero_le _, rfl, Lib.hid (alSo_zero _ _ _), HRA4, HRB4, HB4, C4, F4⟩
    case round =>
      obtain ⟨j, c, l, hj, rfl, HS, HR, HR2, HB, HC, HF2⟩ := hrel
      by_cases hjl : j < m
      · have hll := HS.out.len
        have ca1 := HR.out.cell (i := j) (by rw [List.length_append, hll, List.length_drop, HLA.out]; omega)
        have fr1 := HR.out.froz j
        have cb1 := HR2.out.cell (i := j) (by rw [HLB.out]; omega)
        rw [mid_getD hll, ← num_limb A HDA.out] at ca1
        rw [← num_limb B HDB.out] at cb1
        have hx := limb_lt (num A) j
        have hy := limb_lt (num B) j
        have hc0 := HS.out.c0
        have hc1 := HS.out.c1
        obtain ⟨t, ht⟩ : ∃ t, t = (limb (num A) j : Int) + (-1) * (limb (num B) j : Int) + c := ⟨_, rfl⟩
        obtain ⟨q, hq⟩ : ∃ q, t / 16777216 = q := ⟨_, rfl⟩
        obtain ⟨d, hd⟩ : ∃ d : Nat, t % 16777216 = (d : Int) := ⟨(t % 16777216).toNat, by omega⟩
        have HS2 := Lib.hid (alSo_succ HS.out (.inr rfl) ht hd hq)
        obtain ⟨x, hxx⟩ : ∃ x, limb (num A) j = x := ⟨_, rfl⟩
        obtain ⟨y, hyy⟩ : ∃ y, limb (num B) j = y := ⟨_, rfl⟩
        rw [hxx] at ca1 hx ht
        rw [hyy] at cb1 hy ht
        have hjm : (j : Int) < m := by omega
        have HDI : Hid (((x : Int) - y + c) % 16777216 = (d : Int)) := Lib.hid (by rw [← hd]; congr 1; omega)
        have HQI : Hid (((x : Int) - y + c) / 16777216 = q) := Lib.hid (by rw [← hq]; congr 1; omega)
        have hw1 : IntKind.i64.wrap ((x : Int) - y) = (x : Int) - y := by rw [IntKind.wrap_i64]; omega
        have HLL := Lib.hid hll
        clear hll hxx hyy hd hq ht HS
        have HR3 : Hid (Rw wr.drew g1 (l ++ A.drop j)) := HR
        have HR4 : Hid (Rw wr.drew g2 B) := HR2
        have HB3 := Lib.hid HB.out.drew
        have HC3 : Hid (wr.drew.cell? ⟨pc, 0, none⟩ = some (.int .i64 c)) := HC
        have HF3 : Hid (wr.drew.frozen? ⟨pc, 0, none⟩ = false) := HF2
        have HPUT := Lib.hid (p_put pc c ((x : Int) - y) wr.drew HC3.out HF3.out (by omega) (by omega) (by omega) (by omega))
        rw [HDI.out, HQI.out] at HPUT
        have HR5 := HR3.out.other (p := ⟨pc, 0, none⟩) (show pc ≠ g1 by omega) (.int .i64 q)
        have ca5 := HR5.cell (i := j) (by rw [List.length_append, HLL.out, List.length_drop, HLA.out]; omega)
        have fr5 := HR5.froz j
        have HR6 := HR5.set j d
        rw [mid_set HLL.out (by rw [HLA.out]; omega)] at HR6
        have HR7 := Lib.hid HR6
        have HR8 := Lib.hid ((HR4.out.other (p := ⟨pc, 0, none⟩) (show pc ≠ g2 by omega) (.int .i64 q)).other (p := ⟨g1, j, none⟩) (show g1 ≠ g2 from hg) (I d))
        have HB6 := Lib.hid ((HB3.out.set (p := ⟨pc, 0, none⟩) (.inl (by show _ ≤ pc; omega)) (.int .i64 q)).set (p := ⟨g1, j, none⟩) (.inr rfl) (I d))
        have HC6 : Hid (((wr.drew.setCell ⟨pc, 0, none⟩ (.int .i64 q)).setCell ⟨g1, j, none⟩ (I d)).cell? ⟨pc, 0, none⟩ = some (.int .i64 q)) := Lib.hid (by
          rw [cell_set_ne _ (show g1 ≠ pc by omega)]
          exact World.cell?_setCell_same _ _ _ HC3.out)
        have HF6 : Hid (((wr.drew.setCell ⟨pc, 0, none⟩ (.int .i64 q)).setCell ⟨g1, j, none⟩ (I d)).frozen? ⟨pc, 0, none⟩ = false) := Lib.hid (by
          rw [World.frozen?_setCell, World.frozen?_setCell]; exact HF3.out)
        clear HR HR2 HB HC HF2 HR5 HR6 HR3 HR4 HB3 HC3 HF3
        go_wp2_with fail
        go_region_with (go_at_call 227; refine HPUT.out.mono ?_; rintro e w6 ⟨rfl, rfl⟩)
        all_goals
          rw [show ((wr.setCell ⟨pc, 0, none⟩ (.int .i64 q)).setCell ⟨g1, j, none⟩ (I d)).drew = (wr.drew.setCell ⟨pc, 0, none⟩ (.int .i64 q)).setCell ⟨g1, j, none⟩ (I d) from rfl]
          generalize (wr.drew.setCell ⟨pc, 0, none⟩ (.int .i64 q)).setCell ⟨g1, j, none⟩ (I d) = w7 at HR7 HR8 HB6 HC6 HF6 ⊢
          clear HPUT ca5 fr5 ca1 cb1 fr1 hw1
          have hj3 : (j : Int) ≤ 3000 := by omega
          go_wp2
          go_roundw
          case rel => exact ⟨j + 1, q, l ++ [d], by omega, by go_num, HS2, HR7, HR8, HB6, HC6, HF6⟩
          case measure => simp [intOf]; omega
      · obtain rfl : j = m := by omega
        have HE := Lib.hid (take_fin HS.out HNA.out HNB.out HN.out)
        have HLT := Lib.hid HS.out.lt
        have HL2 := Lib.hid HS.out.len
        have HR3 := HR.out
        rw [List.drop_of_length_le (by rw [HLA.out]; exact Nat.le_refl _), List.append_nil] at HR3
        have HR4 := Lib.hid HR3
        clear HS HR3 HR
        go_wp2
        go_ret
        exact ⟨by rw [HD.out] <;> rfl, HB.out, by rw [if_pos HN.out]; exact ⟨l, HR4.out, HL2.out, HLT.out, HE.out⟩⟩
end Go.Proofs.YtdflbipaicpdcaaGreatDoor
namespace Go.Proofs.YtdflbipaicpdcaaGreatDoor
open Go.RowKit
set_option maxRecDepth 100000

/-- the root of what is above bit 2 * k, and what is left of it -/
structure RtSo (n k r left : Nat) : Prop where
  sum : left + r * r = n / 4 ^ k
  le : left ≤ 2 * r
theorem rtSo_zero {n k : Nat} (h : blen n ≤ 2 * k) : RtSo n k 0 0 := ⟨by
  have h1 := lt_blen n
  have h2 : 2 ^ blen n ≤ 2 ^ (2 * k) := Nat.pow_le_pow_right (by decide) h
  rw [Nat.pow_mul] at h2
  rw [Nat.div_eq_of_lt (Nat.lt_of_lt_of_le h1 h2)], by omega⟩
theorem rt_step {n k b : Nat} (hb : n / 4 ^ k % 4 = b) : n / 4 ^ k = 4 * (n / 4 ^ (k + 1)) + b := by
  have e : n / 4 ^ (k + 1) = n / 4 ^ k / 4 := by rw [Nat.pow_succ, Nat.div_div_eq_div_mul]
  omega
theorem RtSo.take {n k r left b : Nat} (h : RtSo n (k + 1) r left) (hb : n / 4 ^ k % 4 = b) (ht : r * 4 + 1 ≤ left * 4 + b) : RtSo n k (r * 2 + 1) (left * 4 + b - (r * 4 + 1)) := by
  obtain ⟨h1, h2⟩ := h
  have h3 := rt_step hb
  have e : (r * 2 + 1) * (r * 2 + 1) = 4 * (r * r) + r * 4 + 1 := by
    rw [Nat.add_mul, Nat.mul_add, show r * 2 * (r * 2) = 4 * (r * r) by rw [Nat.mul_mul_mul_comm]; omega]
    omega
  refine ⟨?_, by omega⟩
  rw [e]
  omega
theorem RtSo.skip {n k r left b : Nat} (h : RtSo n (k + 1) r left) (hb : n / 4 ^ k % 4 = b) (ht : ¬ r * 4 + 1 ≤ left * 4 + b) : RtSo n k (r * 2) (left * 4 + b) := by
  obtain ⟨h1, h2⟩ := h
  have h3 := rt_step hb
  have e : r * 2 * (r * 2) = 4 * (r * r) := by rw [Nat.mul_mul_mul_comm]; omega
  refine ⟨?_, by omega⟩
  rw [e]
  omega
theorem RtSo.end {n r left : Nat} (h : RtSo n 0 r left) : r * r ≤ n ∧ n < (r + 1) * (r + 1) := by
  obtain ⟨h1, h2⟩ := h
  rw [Nat.pow_zero, Nat.div_one] at h1
  have e : (r + 1) * (r + 1) = r * r + 2 * r + 1 := by rw [Nat.add_mul, Nat.mul_add]; omega
  omega
theorem RtSo.small {n k r left la m : Nat} (h : RtSo n k r left) (hn : n < W la) (hm : la / 2 + 2 = m) : left * 4 + 3 < W m ∧ r * 4 + 1 < W m ∧ r * 2 + 1 < W m ∧ left < W m ∧ r < W m := by
  obtain ⟨h1, h2⟩ := h
  have h3 : n / 4 ^ k ≤ n := Nat.div_le_self _ _
  have h4 : r < 2 ^ (12 * la) := by
    apply Decidable.byContradiction
    intro hc
    have h5 := Nat.mul_le_mul (Nat.le_of_not_lt hc) (Nat.le_of_not_lt hc)
    rw [← Nat.pow_add, show 12 * la + 12 * la = 24 * la by omega, ← W_two] at h5
    omega
  have h6 : 2 ^ (12 * la) * 16 ≤ W m := by
    rw [W_two, show (16 : Nat) = 2 ^ 4 from rfl, ← Nat.pow_add]
    exact Nat.pow_le_pow_right (by decide) (by omega)
  omega

theorem and3 (n : Int) : bits .and .i64 n 3 = n % 4 := by
  have h127 : (BitVec.ofInt 64 3).toNat = 2 ^ 2 - 1 := by decide
  have key : (BitVec.ofInt 64 n &&& BitVec.ofInt 64 3).toNat = (n % ((2 ^ 64 : Nat) : Int)).toNat % 2 ^ 2 := by
    rw [BitVec.toNat_and, BitVec.toNat_ofInt, h127, Nat.and_two_pow_sub_one_eq_mod]
  show IntKind.i64.wrap ((BitVec.ofInt 64 n &&& BitVec.ofInt 64 3).toNat : Nat) = n % 4
  rw [key, IntKind.wrap_i64]
  omega
theorem bits_at {n k i s : Nat} (h : 2 * k = 24 * i + s) (hs : s < 24) : limb n i / 2 ^ s % 4 = n / 4 ^ k % 4 := by
  have hs2 : s + 2 ≤ 24 := by omega
  obtain ⟨t, ht⟩ : ∃ t, 22 - s = t := ⟨_, rfl⟩
  have e : (16777216 : Nat) = 2 ^ s * (4 * 2 ^ t) := by
    rw [show (4 : Nat) = 2 ^ 2 from rfl, ← Nat.pow_add, ← Nat.pow_add, show s + (2 + t) = 24 by omega]
  unfold limb
  rw [e, Nat.mod_mul_right_div_self, Nat.mod_mul_right_mod, Nat.div_div_eq_div_mul, W_two, ← Nat.pow_add, ← h, Nat.pow_mul]

/-- new rows -/
def Zr (m : Nat) : Array Value := ((List.replicate m 0).map I).toArray
theorem make_zr (m : Nat) (hm : m ≤ 100000) (w : World) : (Instr.makeSlice 34 (.int .i64 m) (.int .i64 m)).run Tryz.prog w = .ok (.slice (some ⟨w.heap.size, 0, none⟩) m m) (w.alloc (.cells (Zr m) 3)) := by
  obtain ⟨i0, hi, hz0, hz1, hz2⟩ := info_parts info3
  have h := run_make (P := Tryz.prog) w 34 3 i0 (.int .i64 0) Tryz.underlying34 hi hz0 .i64 .i64 m m (by omega) (by omega) (by rw [hz2]; omega) (by omega)
  rw [h]
  have e : madeCells (Value.int .i64 0).cells ((m : Int).toNat * i0.size) = Zr m := by
    rw [hz1, Int.toNat_natCast]
    apply Array.toList_inj.1
    rw [zeros_row]
    simp [Zr]
  rw [e, Int.toNat_natCast]
theorem zr_rn {w : World} {g m : Nat} (h : w.heap[g]? = some (.cells (Zr m) 3 (0, 0))) : Rn w g m 0 :=
  ⟨List.replicate m 0, h, by simp, (fun d hd => by rw [(List.mem_replicate.1 hd).2]; decide), num_zeros m⟩

/-- three new rows, in whatever order -/
def Three (w : World) (m : Nat) (a b c : Value) (wx : World) : Prop := ∃ gl gr gt, a = .slice (some ⟨gl, 0, none⟩) m m ∧ b = .slice (some ⟨gr, 0, none⟩) m m ∧ c = .slice (some ⟨gt, 0, none⟩) m m ∧ gl ≠ gr ∧ gl ≠ gt ∧ gr ≠ gt ∧ w.heap.size ≤ gl ∧ w.heap.size ≤ gr ∧ w.heap.size ≤ gt ∧ Rn wx gl m 0 ∧ Rn wx gr m 0 ∧ Rn wx gt m 0 ∧ Below w.heap.size w wx

theorem three_new (w : World) (m : Nat) (W3 : World) (h : W3 = (((w.alloc (.cells (Zr m) 3)).alloc (.cells (Zr m) 3)).alloc (.cells (Zr m) 3)).drew) : Rn W3 w.heap.size m 0 ∧ Rn W3 (w.heap.size + 1) m 0 ∧ Rn W3 (w.heap.size + 1 + 1) m 0 ∧ Below w.heap.size w W3 := by
  have hs1 : (w.alloc (.cells (Zr m) 3)).heap.size = w.heap.size + 1 := by simp
  have hs2 : ((w.alloc (.cells (Zr m) 3)).alloc (.cells (Zr m) 3)).heap.size = w.heap.size + 1 + 1 := by simp
  have hb : ∀ (v : World), (v.alloc (.cells (Zr m) 3)).heap[v.heap.size]? = some (.cells (Zr m) 3 (0, 0)) := fun v => by
    show (v.heap.push _)[v.heap.size]? = _
    simp
  subst h
  refine ⟨?_, ?_, ?_, ((((Below.refl _ w).alloc (Nat.le_refl _) _).alloc (by omega) _).alloc (by omega) _).drew⟩
  · refine zr_rn (w := ((w.alloc _).alloc _).alloc _) ?_
    rw [Below.heap_alloc _ _ _ (by omega), Below.heap_alloc _ _ _ (by omega)]
    exact hb w
  · refine zr_rn (w := ((w.alloc _).alloc _).alloc _) ?_
    rw [Below.heap_alloc _ _ _ (by omega), ← hs1]
    exact hb _
  · refine zr_rn (w := ((w.alloc _).alloc _).alloc _) ?_
    rw [← hs2]
    exact hb _

/-- a row copied over another one -/
theorem setRow_rn {w : World} {g g2 m x : Nat} {LT LR : List Nat} (hT : Rw w g LT) (hlt : LT.length = m) (hR : Rw w g2 LR) (hlr : LR.length = m) (hd : ∀ d ∈ LR, d < 16777216) (hx : num LR = x) {W : World} (hW : W = w.setRow g ((LT.map I).toArray.toList.take 0 ++ (LR.map I ++ (LT.map I).toArray.toList.drop (0 + (LR.map I).length))).toArray) : Rn W g m x ∧ Besides g w W := by
  have e : ((LT.map I).toArray.toList.take 0 ++ (LR.map I ++ (LT.map I).toArray.toList.drop (0 + (LR.map I).length))).toArray = (LR.map I).toArray := by
    rw [List.drop_of_length_le (by simp; omega)]
    simp
  rw [e] at hW
  subst hW
  refine ⟨⟨LR, setRow_heap w g _ _ 3 _ hT, hlr, hd, hx⟩, rfl, rfl, rfl, by simp [World.setRow], fun k _ hk => setRow_other w g k _ hk⟩

set_option maxHeartbeats 4000000 in
theorem p_root_f {u : Value} {n : Nat} {w : World} (hu : IsN w u n) (ha8 : (digs n).length ≤ 2000) : Calls Tryz.prog 276 #[u] w fun e w' => ∃ r, r * r ≤ n ∧ n < (r + 1) * (r + 1) ∧ MakesR w r e w' := by
  have HU := Lib.hid hu
  obtain ⟨aa, la, ca, rfl, hA, _⟩ := hu
  have hla := hA.1
  rw [hla] at ha8
  have HA := Lib.hid hA
  have HAN : Hid (n < W la) := Lib.hid (by rw [← hla]; exact digs_len_lt n)
  have HLA := Lib.hid hla
  obtain ⟨m, hm⟩ : ∃ m, la / 2 + 2 = m := ⟨_, rfl⟩
  have hmi : (la : Int) / 2 + 2 = (m : Int) := by omega
  have HM := Lib.hid hm
  have hm8 : m ≤ 2000 := by omega
  have hmk := make_zr m (by omega)
  clear hA hla hm
  go_enter Tryz.func276, Tryz.ntmps276
  go_upto_region 2 with fail
  go_cut [4, 5, 6] (fun s4 s5 s6 wx => Three w m s4 s5 s6 wx)
  case first =>
    go_region
    all_goals (go_wp2_with fail; go_meet)
    all_goals
      obtain ⟨r1, r2, r3, r4⟩ := three_new w m _ rfl
      exact ⟨_, _, _, rfl, rfl, rfl, by omega, by omega, by omega, by omega, by omega, by omega, by assumption, by assumption, by assumption, r4⟩
  case rest =>
    obtain ⟨gl, gr, gt, rfl, rfl, rfl, n1, n2, n3, b1, b2, b3, hrl, hrr, hrt, hbw⟩ := hcut
    have HRL := Lib.hid hrl
    have HRR := Lib.hid hrr
    have HRT := Lib.hid hrt
    have HB := Lib.hid hbw
    have HPL := Lib.hid (p_len (HU.out.below hbw) (by rw [HLA.out]; omega))
    have hbl := blen_le (24 * la) n (by rw [← W_two]; exact HAN.out)
    obtain ⟨K, hK⟩ : ∃ K, (blen n + 1) / 2 = K := ⟨_, rfl⟩
    have H0 : Hid (RtSo n K 0 0) := Lib.hid (rtSo_zero (by omega))
    have HK2 : Hid (2 * K ≤ 24 * la ∧ K * 2 ≤ 60000) := Lib.hid (by omega)
    obtain ⟨bl, hbb⟩ : ∃ bl, blen n = bl := ⟨_, rfl⟩
    rw [hbb] at hK HPL hbl
    have hKi : ((bl : Int) + 1) / 2 = (K : Int) := by omega
    have hbl8 : (bl : Int) ≤ 48000 := by omega
    clear hrl hrr hrt hbw hbb hK hbl hmk
    go_wp2_with fail
    refine HPL.out.mono ?_
    rintro e w2 ⟨rfl, rfl⟩
    clear HPL
    have hK8 : (K : Int) ≤ 30000 := by have := HK2.out; omega
    go_wp2
    rw [hKi]
    clear hKi
    go_loopw [7, 8] (fun at' _ wr => ∃ k r left : Nat, k ≤ K ∧ at' = .int .i64 ((k : Int) * 2 - 2) ∧ Hid (RtSo n k r left) ∧ Hid (Rn wr gl m left) ∧ Hid (Rn wr gr m r) ∧ Hid (∃ x, Rn wr gt m x) ∧ Hid (Below w.heap.size w wr)) (fun at' _ _ => (intOf at' + 2).toNat)
    case atStart => exact ⟨K, 0, 0, Nat.le_refl _, rfl, H0, HRL, HRR, Lib.hid ⟨0, HRT.out⟩, HB⟩
    case round =>
      obtain ⟨k, r, left, hk, rfl, HS, HL, HR, HT, HBW⟩ := hrel
      by_cases hk0 : k = 0
      · subst hk0
        obtain ⟨hs1, hs2⟩ := HS.out.end
        obtain ⟨LR, r1, r2, r3, r4⟩ := HR.out
        have HR1 : Hid (wr.ownsRow w.heap.size 3 1 (.slice (some ⟨gr, 0, none⟩) m m) m (LR.map I)) := Lib.hid (by have := r1.owns b2 (by omega); rwa [r2] at this)
        have HR3 := Lib.hid r3
        have HR2 : Hid (LR.length ≤ 5000) := Lib.hid (by omega)
        have HR4 := Lib.hid r4
        have H1 := Lib.hid hs1
        have H2 := Lib.hid hs2
        clear r1 r2 r3 r4 hs1 hs2 HS HL HR HT
        go_wp2_with fail
        refine (p_trim_own HR1.out HR3.out HR2.out (by rw [HR4.out])).mono ?_
        rintro e w4 ⟨v, rfl, hv, rfl⟩
        have HV := Lib.hid hv
        clear hv
        go_wp2
        go_ret
        exact ⟨r, H1.out, H2.out, _, rfl, HV.out, HBW.out⟩
      · obtain ⟨j, rfl⟩ : ∃ j, k = j + 1 := ⟨k - 1, by omega⟩
        obtain ⟨q, hq⟩ : ∃ q, 2 * j = q := ⟨_, rfl⟩
        rw [show (((j + 1 : Nat) : Int) * 2 - 2) = (q : Int) by omega]
        obtain ⟨i, hi⟩ : ∃ i, q / 24 = i := ⟨_, rfl⟩
        obtain ⟨s, hs⟩ : ∃ s, q % 24 = s := ⟨_, rfl⟩
        have hqi : (q : Int) / 24 = (i : Int) := by omega
        have hqs : (q : Int) % 24 = (s : Int) := by omega
        have hil : i < la := by have := HK2.out; omega
        have hil2 : (i : Int) < la := by omega
        have hs24 : (s : Int) < 24 := by omega
        have hq8 : (q : Int) ≤ 60000 := by have := HK2.out; omega
        obtain ⟨ba, offa, rfl, ca1⟩ := isI_cell (HA.out.below HBW.out) hil
        rw [digs_limb] at ca1
        have hbits := bits_at (n := n) (k := j) (i := i) (s := s) (by omega) (by omega)
        obtain ⟨x, hx⟩ : ∃ x, limb n i = x := ⟨_, rfl⟩
        obtain ⟨d, hd⟩ : ∃ d, x / 2 ^ s = d := ⟨_, rfl⟩
        obtain ⟨b, hb⟩ : ∃ b, d % 4 = b := ⟨_, rfl⟩
        have hwx : (x : Int) / 2 ^ s = (d : Int) := by rw [← hd]; push_cast; rfl
        rw [hx] at ca1 hbits
        rw [hd, hb] at hbits
        have HBI := Lib.hid hbits.symm
        have h33 : bits .and .i64 (d : Int) 3 = (b : Int) := by rw [and3]; omega
        have hb4 : b < 4 := by omega
        obtain ⟨z1, z2, z3, z4, z5⟩ := HS.out.small HAN.out HM.out
        have HZ := Lib.hid z2
        have HZ3 := Lib.hid z3
        have HQ := Lib.hid hq
        have HUP := Lib.hid (p_up (cap := m) (s := 2) (c0 := b) HL.out (by omega) (by omega) hb4 (by omega))
        clear hx hd hb hi hs hbits hq z1 z2 z3 z4 z5
        go_wp2_with fail
        refine HUP.out.mono ?_
        rintro e w4 ⟨⟨v4, rfl⟩, hb4', hl4⟩
        have hl5 : Rn w4 gl m (left * 4 + b) := hl4
        have hr5 := HR.out.besides hb4' (Ne.symm n1)
        obtain ⟨LR, r1, r2, r3, r4⟩ := hr5
        obtain ⟨xt, htt⟩ := HT.out
        obtain ⟨LT, t1, t2, t3, t4⟩ := htt.besides hb4' (Ne.symm n2)
        have HB5 := Lib.hid (Besides.below HBW.out hb4' HBW.out.size b1)
        have HL5 := Lib.hid hl5
        have R1 := Lib.hid r1
        have R2 := Lib.hid r2
        have R3 := Lib.hid r3
        have R4 := Lib.hid r4
        have T1 := Lib.hid t1
        have T2 := Lib.hid t2
        clear hl4 hb4' hl5 htt r1 r2 r3 r4 t1 t2 t3 t4 HUP HL HR HT HBW ca1
        go_wp2_with (refine wpList_copy_own rfl (.tmp 40) (.tmp 41) 34 34 rfl 3 Tryz.underlying34 info3s gt 0 m m ⟨gr, 0, none⟩ m m rfl rfl (LT.map I).toArray 3 T1.out (LR.map I) (by rw [List.length_map, R2.out]; simp) (fun j v hj => isI_cells (R1.out.isI R2.out) j v hj) (by simp [R2.out, T2.out]) (oneI _) ?_; obtain ⟨w5, hw5⟩ : ∃ w5, w4.setRow gt ((LT.map I).toArray.toList.take 0 ++ (LR.map I ++ (LT.map I).toArray.toList.drop (0 + (LR.map I).length))).toArray = w5 := ⟨_, rfl⟩; rw [hw5])
        obtain ⟨q1, q2⟩ := setRow_rn T1.out T2.out R1.out R2.out R3.out R4.out hw5.symm
        have HL6 := HL5.out.besides q2 n2
        have HR6 : Rn w5 gr m r := Rn.besides ⟨LR, R1.out, R2.out, R3.out, R4.out⟩ q2 n3
        have HB6 := Besides.below HB5.out q2 HB5.out.size b3
        have HUT := Lib.hid (p_up (cap := m) (s := 2) (c0 := 1) q1 (by omega) (by omega) (by omega) (by have := HZ.out; omega))
        have HLb := Lib.hid HL6
        have HRb := Lib.hid HR6
        have HBb := Lib.hid HB6
        clear q1 q2 hw5 HL6 HR6 HB6 HL5 HB5 R1 R2 R3 R4 T1 T2
        refine HUT.out.mono ?_
        rintro e w6 ⟨⟨v6, rfl⟩, hb6, ht6⟩
        have HL7 := Lib.hid (HLb.out.besides hb6 n2)
        have HR7 := Lib.hid (HRb.out.besides hb6 n3)
        have HT7 : Hid (Rn w6 gt m (r * 4 + 1)) := Lib.hid ht6
        have HB7 := Lib.hid (Besides.below HBb.out hb6 HBb.out.size b3)
        have HTK := Lib.hid (p_take (c1 := m) (c2 := m) HL7.out HT7.out n2 (Nat.le_refl _) (Nat.le_refl _) (by omega))
        clear hb6 ht6 HUT HLb HRb HBb
        go_wp2_with fail
        refine HTK.out.mono ?_
        rintro e w7 ⟨he, hb7, hl7⟩
        have HR8 := Lib.hid (HR7.out.besides hb7 (Ne.symm n1))
        have HT8 := Lib.hid (HT7.out.besides hb7 (Ne.symm n2))
        have HB8 := Lib.hid (Besides.below HB7.out hb7 HB7.out.size b1)
        clear HTK HL7 HR7 HT7 HB7 hb7
        by_cases hcmp : r * 4 + 1 ≤ left * 4 + b
        · have hcmp2 : r * 4 + 1 ≤ left * 2 ^ 2 + b := hcmp
          rw [if_pos hcmp2] at hl7
          rw [decide_eq_true hcmp2] at he
          subst he
          have HL9 : Hid (Rn w7 gl m (left * 4 + b - (r * 4 + 1))) := Lib.hid hl7
          have HS2 := Lib.hid (HS.out.take HBI.out hcmp)
          have HUR := Lib.hid (p_up (cap := m) (s := 1) (c0 := 1) HR8.out (by omega) (by omega) (by omega) (by have := HZ3.out; omega))
          clear hl7 hcmp hcmp2 HR8 HS
          go_wp2_with fail
          refine HUR.out.mono ?_
          rintro e w8 ⟨⟨v8, rfl⟩, hb8, hr8⟩
          have HRE : Hid (Rn w8 gr m (r * 2 + 1)) := Lib.hid hr8
          have HLE := Lib.hid (HL9.out.besides hb8 n1)
          have HTE : Hid (∃ x, Rn w8 gt m x) := Lib.hid ⟨_, HT8.out.besides hb8 (Ne.symm n3)⟩
          have HBE := Lib.hid (Besides.below HB8.out hb8 HB8.out.size b2)
          clear hr8 hb8 HUR HL9 HT8 HB8
          have hq2 : (q : Int) - 2 = (j : Int) * 2 - 2 := by have := HQ.out; omega
          go_wp2
          go_roundw
          case rel => exact ⟨j, r * 2 + 1, _, by omega, by first | rfl | (rw [hq2]), HS2, HLE, HRE, HTE, HBE⟩
          case measure => have := HQ.out; simp [intOf]; omega
        · have hcmp2 : ¬ r * 4 + 1 ≤ left * 2 ^ 2 + b := hcmp
          rw [if_neg hcmp2] at hl7
          rw [decide_eq_false hcmp2] at he
          subst he
          have HL9 : Hid (Rn w7 gl m (left * 4 + b)) := Lib.hid hl7
          have HS2 := Lib.hid (HS.out.skip HBI.out hcmp)
          have HUR := Lib.hid (p_up (cap := m) (s := 1) (c0 := 0) HR8.out (by omega) (by omega) (by omega) (by have := HZ3.out; omega))
          clear hl7 hcmp hcmp2 HR8 HS
          go_wp2_with fail
          refine HUR.out.mono ?_
          rintro e w8 ⟨⟨v8, rfl⟩, hb8, hr8⟩
          have HRE : Hid (Rn w8 gr m (r * 2)) := Lib.hid hr8
          have HLE := Lib.hid (HL9.out.besides hb8 n1)
          have HTE : Hid (∃ x, Rn w8 gt m x) := Lib.hid ⟨_, HT8.out.besides hb8 (Ne.symm n3)⟩
          have HBE := Lib.hid (Besides.below HB8.out hb8 HB8.out.size b2)
          clear hr8 hb8 HUR HL9 HT8 HB8
          have hq2 : (q : Int) - 2 = (j : Int) * 2 - 2 := by have := HQ.out; omega
          go_wp2
          go_roundw
          case rel => exact ⟨j, r * 2, _, by omega, by first | rfl | (rw [hq2]), HS2, HLE, HRE, HTE, HBE⟩
          case measure => have := HQ.out; simp [intOf]; omega
end Go.Proofs.YtdflbipaicpdcaaGreatDoor
