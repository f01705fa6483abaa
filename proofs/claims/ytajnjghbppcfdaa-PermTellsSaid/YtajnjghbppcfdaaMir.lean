/- perm.Mirror. -/
import Derived.Test.YtajnjghbppcfdaaFold
namespace Go.Proofs.Ytajnjghbppcfdaa
open Go.RowKit Go.Shelf

theorem clone_f {w : World} {v : Value} {l : List Nat} (h : Fla w v l) (h8 : l.length ≤ 2000) : Calls Try.prog 35 #[v] w (Makes w l) := by
  obtain ⟨a, n, c, rfl, h1, _⟩ := h
  have e := h1.1
  subst e
  exact callsIn_wide.1 (clone_in Fence.wide 9 trivial rfl a _ c l w h1 (by omega))

theorem allsigns_f {w : World} {a : Option Addr} {n c : Nat} {l : List Nat} (h : IsFl w a n l) (h8 : n ≤ 2000) :
    Calls Try.prog 33 #[.slice a n c, .func (.func 36) #[] #[.pointer (some ⟨w.heap.size, 0, none⟩), .pointer (some ⟨w.heap.size + 2, 0, none⟩), .pointer (some ⟨w.heap.size + 1, 0, none⟩)], .func (.func 34) #[] #[]] (wPl w 0 1 n) (Makes w (signs (fun _ => true) l)) := by
  have e := h.1
  subst e
  unfold Makes
  rw [signs_length]
  exact changed_c a l.length c l w h h8 0 1 l.length (fun k => k) (fun k hk => hk) (fun k hk => by omega) (by omega) (by decide) (by decide) (by decide) (fun _ => true) (fun k hk => ⟨fun _ => ⟨k, hk, rfl⟩, fun _ => rfl⟩)

abbrev mids (l : List Nat) : List Nat := revs (seg l 1 (l.length - 2))
abbrev mirrors (odd : Bool) (l : List Nat) : List Nat := l ++ (if odd then signs (fun _ => true) (mids l) else mids l)
theorem mids_length (l : List Nat) : (mids l).length = l.length - 2 := by simp only [mids, takes_length]

set_option maxHeartbeats 1000000 in
theorem mirror_longEven {w : World} {a : Option Addr} {n c : Nat} {l : List Nat} (h : IsFl w a n l) (h3 : a = none → n = 0 ∧ c = 0) (hn : n ≤ c) (h8 : n ≤ 2000) (h2 : 2 < n) : Calls Try.prog 27 #[.slice a n c, .bool false] w (Makes w (mirrors false l)) := by
  have hll := h.1
  have HL := Lib.hid hll
  have HF : Hid (Fla w (.slice a n c) l) := Lib.hid ⟨a, n, c, rfl, h, h3, hn⟩
  obtain ⟨b, off, rfl⟩ : ∃ b off, a = some ⟨b, off, none⟩ := by
    rcases h.2 with h4 | ⟨b, off, h4, _⟩
    · omega
    · exact ⟨b, off, h4⟩
  have hc1 : ¬ c = 1 := by omega
  have hcc : (n : Int) - 1 ≤ (c : Int) := by omega
  have hn2 : (2 : Int) < (n : Int) := by omega
  have hS := fla_sliced h h3 hn 1 (n - 1) (by omega) (by omega)
  rw [show n - 1 - 1 = n - 2 by omega] at hS
  simp only [sliced, if_neg hc1, Option.map_some, Nat.mul_one] at hS
  have HS := Lib.hid hS
  clear hS h h3 hll
  go_enter Try.func27, Try.ntmps27
  go_wp2_with fail
  refine (rev_f (l := seg l 1 (n - 2)) HS.out (by rw [takes_length]; omega)).mono ?_
  rintro e w1 ⟨v1, rfl, ho1, hb1⟩
  have hm : revs (seg l 1 (n - 2)) = mids l := by unfold mids; rw [HL.out]
  rw [hm, mids_length, HL.out] at ho1
  obtain ⟨o1, c1, rfl, hf1⟩ := isFl_own ho1
  have HW1 := Lib.hid hb1
  have HM1 := Lib.hid (fla_own ho1)
  have HF1 := Lib.hid hf1
  clear ho1 hb1 hf1 hm
  go_wp2_with fail
  refine (clone_f (HF.out.below HW1.out) (by rw [HL.out]; omega)).mono ?_
  rintro e w3 ⟨v3, rfl, ho3, hb3⟩
  have HO3 := Lib.hid ho3
  have HB3 := Lib.hid hb3
  clear ho3 hb3
  have HMM := Lib.hid (HM1.out.below HB3.out)
  have HLL : Hid (l.length + (mids l).length ≤ 10000) := Lib.hid (by rw [mids_length, HL.out]; omega)
  go_wp2_with (at_builtin; refine wpList_append_row rfl _ _ rfl w1.heap.size v3 l.length l rfl HO3.out _ (mids l) rfl HMM.out HLL.out HB3.out.size ?_; intro v' w4 ho4 hb4)
  go_ret
  exact ⟨v', rfl, by rw [List.length_append]; exact ownsRow_base ho4 HW1.out.size, HW1.out.trans ((HB3.out.trans hb4).mono HW1.out.size)⟩

set_option maxHeartbeats 1000000 in
theorem mirror_longOdd {w : World} {a : Option Addr} {n c : Nat} {l : List Nat} (h : IsFl w a n l) (h3 : a = none → n = 0 ∧ c = 0) (hn : n ≤ c) (h8 : n ≤ 2000) (h2 : 2 < n) : Calls Try.prog 27 #[.slice a n c, .bool true] w (Makes w (mirrors true l)) := by
  have hll := h.1
  have HL := Lib.hid hll
  have HF : Hid (Fla w (.slice a n c) l) := Lib.hid ⟨a, n, c, rfl, h, h3, hn⟩
  obtain ⟨b, off, rfl⟩ : ∃ b off, a = some ⟨b, off, none⟩ := by
    rcases h.2 with h4 | ⟨b, off, h4, _⟩
    · omega
    · exact ⟨b, off, h4⟩
  have hc1 : ¬ c = 1 := by omega
  have hcc : (n : Int) - 1 ≤ (c : Int) := by omega
  have hn2 : (2 : Int) < (n : Int) := by omega
  have hS := fla_sliced h h3 hn 1 (n - 1) (by omega) (by omega)
  rw [show n - 1 - 1 = n - 2 by omega] at hS
  simp only [sliced, if_neg hc1, Option.map_some, Nat.mul_one] at hS
  have HS := Lib.hid hS
  clear hS h h3 hll
  go_enter Try.func27, Try.ntmps27
  go_wp2_with fail
  refine (rev_f (l := seg l 1 (n - 2)) HS.out (by rw [takes_length]; omega)).mono ?_
  rintro e w1 ⟨v1, rfl, ho1, hb1⟩
  have hm : revs (seg l 1 (n - 2)) = mids l := by unfold mids; rw [HL.out]
  rw [hm, mids_length, HL.out] at ho1
  obtain ⟨o1, c1, rfl, hf1⟩ := isFl_own ho1
  have HW1 := Lib.hid hb1
  have HM1 := Lib.hid (fla_own ho1)
  have HF1 := Lib.hid hf1
  clear ho1 hb1 hf1 hm
  go_wp2_with fail
  refine (places_c _ _ _ _).mono ?_
  rintro e w' ⟨rfl, rfl⟩
  go_wp2_with fail
  refine (allsigns_f HF1.out (by omega)).mono ?_
  rintro e w2 ⟨v2, rfl, ho2, hb2⟩
  obtain ⟨o2, c2, rfl, hf2⟩ := isFl_own ho2
  have HW2 := Lib.hid (HW1.out.trans (hb2.mono HW1.out.size))
  have HM2 := Lib.hid (fla_own ho2)
  clear ho2 hb2 hf2
  go_wp2_with fail
  refine (clone_f (HF.out.below HW2.out) (by rw [HL.out]; omega)).mono ?_
  rintro e w3 ⟨v3, rfl, ho3, hb3⟩
  have HO3 := Lib.hid ho3
  have HB3 := Lib.hid hb3
  clear ho3 hb3
  have HMM := Lib.hid (HM2.out.below HB3.out)
  have HLL : Hid (l.length + (signs (fun _ => true) (mids l)).length ≤ 10000) := Lib.hid (by rw [signs_length, mids_length, HL.out]; omega)
  go_wp2_with (at_builtin; refine wpList_append_row rfl _ _ rfl w2.heap.size v3 l.length l rfl HO3.out _ (signs (fun _ => true) (mids l)) rfl HMM.out HLL.out HB3.out.size ?_; intro v' w4 ho4 hb4)
  go_ret
  exact ⟨v', rfl, by rw [List.length_append]; exact ownsRow_base ho4 HW2.out.size, HW2.out.trans ((HB3.out.trans hb4).mono HW2.out.size)⟩

set_option maxHeartbeats 1000000 in
theorem mirror_shortEven {w : World} {a : Option Addr} {n c : Nat} {l : List Nat} (h : IsFl w a n l) (h3 : a = none → n = 0 ∧ c = 0) (hn : n ≤ c) (h8 : n ≤ 2000) (h2 : n ≤ 2) : Calls Try.prog 27 #[.slice a n c, .bool false] w (Makes w (mirrors false l)) := by
  have hll := h.1
  have HL := Lib.hid hll
  have HF : Hid (Fla w (.slice a n c) l) := Lib.hid ⟨a, n, c, rfl, h, h3, hn⟩
  have hn2 : (n : Int) ≤ 2 := by omega
  have hm : mids l = [] := by apply List.length_eq_zero_iff.1; rw [mids_length]; omega
  have HF1 : Hid (IsFl w none 0 (mids l)) := by rw [hm]; exact Lib.hid ⟨rfl, .inl rfl⟩
  have HM1 : Hid (Fla w (.slice none 0 0) (mids l)) := Lib.hid ⟨none, 0, 0, rfl, HF1.out, fun _ => ⟨rfl, rfl⟩, Nat.le_refl _⟩
  have HW1 := Lib.hid (Below.refl w.heap.size w)
  clear h h3 hll hm
  go_enter Try.func27, Try.ntmps27
  go_wp2_with fail
  refine (clone_f (HF.out.below HW1.out) (by rw [HL.out]; omega)).mono ?_
  rintro e w3 ⟨v3, rfl, ho3, hb3⟩
  have HO3 := Lib.hid ho3
  have HB3 := Lib.hid hb3
  clear ho3 hb3
  have HMM := Lib.hid (HM1.out.below HB3.out)
  have HLL : Hid (l.length + (mids l).length ≤ 10000) := Lib.hid (by rw [mids_length, HL.out]; omega)
  go_wp2_with (at_builtin; refine wpList_append_row rfl _ _ rfl w.heap.size v3 l.length l rfl HO3.out _ (mids l) rfl HMM.out HLL.out HB3.out.size ?_; intro v' w4 ho4 hb4)
  go_ret
  exact ⟨v', rfl, by rw [List.length_append]; exact ownsRow_base ho4 HW1.out.size, HW1.out.trans ((HB3.out.trans hb4).mono HW1.out.size)⟩

set_option maxHeartbeats 1000000 in
theorem mirror_shortOdd {w : World} {a : Option Addr} {n c : Nat} {l : List Nat} (h : IsFl w a n l) (h3 : a = none → n = 0 ∧ c = 0) (hn : n ≤ c) (h8 : n ≤ 2000) (h2 : n ≤ 2) : Calls Try.prog 27 #[.slice a n c, .bool true] w (Makes w (mirrors true l)) := by
  have hll := h.1
  have HL := Lib.hid hll
  have HF : Hid (Fla w (.slice a n c) l) := Lib.hid ⟨a, n, c, rfl, h, h3, hn⟩
  have hn2 : (n : Int) ≤ 2 := by omega
  have hm : mids l = [] := by apply List.length_eq_zero_iff.1; rw [mids_length]; omega
  have HF1 : Hid (IsFl w none 0 (mids l)) := by rw [hm]; exact Lib.hid ⟨rfl, .inl rfl⟩
  have HM1 : Hid (Fla w (.slice none 0 0) (mids l)) := Lib.hid ⟨none, 0, 0, rfl, HF1.out, fun _ => ⟨rfl, rfl⟩, Nat.le_refl _⟩
  have HW1 := Lib.hid (Below.refl w.heap.size w)
  clear h h3 hll hm
  go_enter Try.func27, Try.ntmps27
  go_wp2_with fail
  refine (places_c _ _ _ _).mono ?_
  rintro e w' ⟨rfl, rfl⟩
  go_wp2_with fail
  refine (allsigns_f HF1.out (by omega)).mono ?_
  rintro e w2 ⟨v2, rfl, ho2, hb2⟩
  obtain ⟨o2, c2, rfl, hf2⟩ := isFl_own ho2
  have HW2 := Lib.hid (HW1.out.trans (hb2.mono HW1.out.size))
  have HM2 := Lib.hid (fla_own ho2)
  clear ho2 hb2 hf2
  go_wp2_with fail
  refine (clone_f (HF.out.below HW2.out) (by rw [HL.out]; omega)).mono ?_
  rintro e w3 ⟨v3, rfl, ho3, hb3⟩
  have HO3 := Lib.hid ho3
  have HB3 := Lib.hid hb3
  clear ho3 hb3
  have HMM := Lib.hid (HM2.out.below HB3.out)
  have HLL : Hid (l.length + (signs (fun _ => true) (mids l)).length ≤ 10000) := Lib.hid (by rw [signs_length, mids_length, HL.out]; omega)
  go_wp2_with (at_builtin; refine wpList_append_row rfl _ _ rfl w2.heap.size v3 l.length l rfl HO3.out _ (signs (fun _ => true) (mids l)) rfl HMM.out HLL.out HB3.out.size ?_; intro v' w4 ho4 hb4)
  go_ret
  exact ⟨v', rfl, by rw [List.length_append]; exact ownsRow_base ho4 HW2.out.size, HW2.out.trans ((HB3.out.trans hb4).mono HW2.out.size)⟩

theorem mirror_f {w : World} {a : Option Addr} {n c : Nat} {l : List Nat} (odd : Bool) (h : IsFl w a n l) (h3 : a = none → n = 0 ∧ c = 0) (hn : n ≤ c) (h8 : n ≤ 2000) : Calls Try.prog 27 #[.slice a n c, .bool odd] w (Makes w (mirrors odd l)) := by
  by_cases h2 : 2 < n
  · cases odd
    · exact mirror_longEven h h3 hn h8 h2
    · exact mirror_longOdd h h3 hn h8 h2
  · cases odd
    · exact mirror_shortEven h h3 hn h8 (by omega)
    · exact mirror_shortOdd h h3 hn h8 (by omega)
end Go.Proofs.Ytajnjghbppcfdaa
