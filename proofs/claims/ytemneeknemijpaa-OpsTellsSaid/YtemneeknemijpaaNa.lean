/- Add of the document's naturals. No condition but the sizes. -/
import Derived.Test.YtemneeknemijpaaNs
namespace Go.Proofs.Ytemneeknemijpaa
open Go.RowKit

/-- The limbs so far, and what is carried. -/
structure AddSo (a b i c : Nat) (l : List Nat) : Prop where
  len : l.length = i
  lt : ∀ d ∈ l, d < 16777216
  sum : num l + W i * c = low a i + low b i
  c1 : c ≤ 1
theorem addSo_zero (a b : Nat) : AddSo a b 0 0 [] := ⟨rfl, (fun _ h => by cases h), by rw [low_zero, low_zero, num, W_zero], Nat.zero_le _⟩
theorem addSo_succ {a b i c : Nat} {l : List Nat} (h : AddSo a b i c l) : AddSo a b (i + 1) ((limb a i + limb b i + c) / 16777216) (l ++ [(limb a i + limb b i + c) % 16777216]) := by
  obtain ⟨h1, h2, h3, h4⟩ := h
  have ha := limb_lt a i
  have hb := limb_lt b i
  refine ⟨by rw [List.length_append, h1]; rfl, fun d hd => ?_, ?_, by omega⟩
  · rcases List.mem_append.1 hd with hd | hd
    · exact h2 d hd
    · rw [List.mem_singleton.1 hd]; exact Nat.mod_lt _ (by decide)
  · rw [num_snoc, low_succ, low_succ, h1, W_succ]
    generalize hs : limb a i + limb b i + c = s
    have e : W i * (s % 16777216) + 16777216 * W i * (s / 16777216) = W i * s := by
      rw [Nat.mul_comm 16777216, Nat.mul_assoc, ← Nat.mul_add, Nat.mod_add_div]
    have e2 : W i * s = W i * limb a i + W i * limb b i + W i * c := by rw [← hs, Nat.mul_add, Nat.mul_add]
    omega
theorem addSo_end {a b i c : Nat} {l : List Nat} (h : AddSo a b i c l) (ha : (digs a).length ≤ i) (hb : (digs b).length ≤ i) (hc : c = 0) : digs (num l) = digs (a + b) := by
  have h3 := h.sum
  rw [hc, Nat.mul_zero, Nat.add_zero, low_all (Nat.lt_of_lt_of_le (digs_len_lt a) (W_mono ha)), low_all (Nat.lt_of_lt_of_le (digs_len_lt b) (W_mono hb))] at h3
  rw [h3]
theorem carry_end {a b i c : Nat} {l : List Nat} (h : AddSo a b i c l) (ha : (digs a).length ≤ i) (hb : (digs b).length ≤ i) : (limb a i + limb b i + c) / 16777216 = 0 := by
  rw [limb_zero_of (Nat.lt_of_lt_of_le (digs_len_lt a) (W_mono ha)), limb_zero_of (Nat.lt_of_lt_of_le (digs_len_lt b) (W_mono hb))]
  have := h.c1
  omega

theorem n_at' {a : Option Addr} {len cap n : Nat} {w : World} (h : IsI w a len (digs n)) (i : Nat) : Calls Try.prog 81 #[.slice a len cap, .int .i64 i] w fun e w' => e = .returned (I (limb n i)) ∧ w = w' := by
  rw [← digs_limb]; exact n_at h i

set_option maxHeartbeats 2000000 in
theorem n_add {u v : Value} {a b : Nat} {w : World} (hu : IsN w u a) (hv : IsN w v b) (ha8 : (digs a).length ≤ 2000) (hb8 : (digs b).length ≤ 2000) : Calls Try.prog 62 #[u, v] w (MakesN w (a + b)) := by
  obtain ⟨aa, la, ca, rfl, hA, _⟩ := hu
  obtain ⟨ab, lb, cb, rfl, hB, _⟩ := hv
  have hla := hA.1
  have hlb := hB.1
  rw [hla] at ha8
  rw [hlb] at hb8
  have HA := Lib.hid hA
  have HB := Lib.hid hB
  have HLA := Lib.hid hla
  have HLB := Lib.hid hlb
  clear hA hB hla hlb
  obtain ⟨mx, hmx, hma, hmb⟩ : ∃ mx, mx ≤ 2000 ∧ la ≤ mx ∧ lb ≤ mx := ⟨max la lb, by omega, by omega, by omega⟩
  go_enter Try.func62, Try.ntmps62
  go_wp2
  go_loopw [5, 6, 7] (fun s cy i wr => ∃ (k c : Nat) (l : List Nat), k ≤ mx + 1 ∧ c ≤ 1 ∧ i = .int .i64 k ∧ cy = .int .i64 c ∧ (k = mx + 1 → c = 0) ∧ Hid (AddSo a b k c l) ∧ Hid (wr.ownsRow w.heap.size 3 1 s k (l.map I)) ∧ Hid (Below w.heap.size w wr)) (fun _ _ i _ => mx + 2 - (intOf i).toNat)
  case atStart => exact ⟨0, 0, [], by omega, by omega, rfl, rfl, fun _ => rfl, Lib.hid (addSo_zero a b), Lib.hid (World.ownsRow_nil _ _ _ _), Lib.hid (Below.refl _ _)⟩
  case round =>
    obtain ⟨k, c, l, hk, hc, rfl, rfl, hkc, HS, hz, hbl⟩ := hrel
    have HA2 := Lib.hid (HA.out.below (hbl.out.mono (Nat.le_refl _)))
    have HB2 := Lib.hid (HB.out.below (hbl.out.mono (Nat.le_refl _)))
    by_cases hend : ¬ k < la ∧ ¬ k < lb ∧ c = 0
    · obtain ⟨e1, e2, rfl⟩ := hend
      have HE := Lib.hid (addSo_end HS.out (by rw [HLA.out]; omega) (by rw [HLB.out]; omega) rfl)
      have HLT := Lib.hid HS.out.lt
      have HLN := Lib.hid HS.out.len
      have f1 : ¬ (k : Int) < la := by omega
      have f2 : ¬ (k : Int) < lb := by omega
      clear e1 e2 hkc HS
      go_wp2_with fail
      refine (n_trim (ila_own hz.out) HLT.out (by rw [HLN.out]; omega)).mono ?_
      rintro e w2 hmk
      rw [HE.out] at hmk
      obtain ⟨v, rfl, hv, hb⟩ := hmk.makesN
      have HV := Lib.hid hv
      have HBB := Lib.hid hb
      clear hv hb hmk
      go_wp2
      go_ret
      exact ⟨_, rfl, HV.out, hbl.out.trans (HBB.out.mono hbl.out.size)⟩
    · have hkm : k ≤ mx := by
        apply Nat.le_of_not_lt
        intro h
        exact hend ⟨by omega, by omega, hkc (by omega)⟩
      have HS2 := Lib.hid (addSo_succ HS.out)
      have hx := limb_lt a k
      have hy := limb_lt b k
      have hce : k + 1 = mx + 1 → (limb a k + limb b k + c) / 16777216 = 0 := fun h => carry_end HS.out (by rw [HLA.out]; omega) (by rw [HLB.out]; omega)
      obtain ⟨x, hxx⟩ : ∃ x, limb a k = x := ⟨_, rfl⟩
      obtain ⟨y, hyy⟩ : ∃ y, limb b k = y := ⟨_, rfl⟩
      have HX := Lib.hid hxx
      have HY := Lib.hid hyy
      rw [hxx, hyy] at HS2 hce
      rw [hxx] at hx
      rw [hyy] at hy
      obtain ⟨s, hs⟩ : ∃ s, x + y + c = s := ⟨_, rfl⟩
      have hsi : (x : Int) + y + c = (s : Int) := by omega
      rw [hs] at HS2 hce
      obtain ⟨d, hd⟩ : ∃ d, s % 16777216 = d := ⟨_, rfl⟩
      obtain ⟨q, hq⟩ : ∃ q, s / 16777216 = q := ⟨_, rfl⟩
      rw [hd, hq] at HS2
      rw [hq] at hce
      have hdi : (s : Int) % 16777216 = (d : Int) := by omega
      have hqi : (s : Int) / 16777216 = (q : Int) := by omega
      have hq1 : q ≤ 1 := HS2.out.c1
      have HCE := Lib.hid hce
      have HK := Lib.hid hkc
      clear hxx hyy hs hd hq hce hkc HS
      have hcond : (k < la) ∨ (¬ k < la ∧ k < lb) ∨ (¬ k < la ∧ ¬ k < lb ∧ 0 < c) := by omega
      clear hend
      rcases hcond with h1 | ⟨h1, h2⟩ | ⟨h1, h2, h3⟩
      all_goals
        go_wp2_with fail
        refine (n_at' HA2.out k).mono ?_
        rintro e w2 ⟨rfl, rfl⟩
        rw [HX.out]
        go_wp2_with fail
        refine (n_at' HB2.out k).mono ?_
        rintro e w2 ⟨rfl, rfl⟩
        rw [HY.out]
        go_wp2_with (at_builtin; refine n_append rfl (.tmp 34) (.tmp 37) rfl w.heap.size _ k l rfl (hz.out.alloc _) _ [d] rfl (ila_one _ d _ rfl) (by simp; omega) (Nat.le_trans hbl.out.size (by simp)) ?_; intro v' w' ho hb)
        go_roundw
        case rel => exact ⟨k + 1, q, l ++ [d], by omega, hq1, by go_num, rfl, HCE.out, HS2, Lib.hid ho, Lib.hid ((hbl.out.alloc hbl.out.size _).trans hb)⟩
        case measure => simp [intOf]; omega
end Go.Proofs.Ytemneeknemijpaa
