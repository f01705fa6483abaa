/- perm.Fold, Unfold, Mirror. -/
import Derived.Test.YtajnjghbppcfdaaZip
import Derived.Deep.RegionHeld3
namespace Go.Proofs.Ytajnjghbppcfdaa
open Go.RowKit Go.Shelf

/-- What a call that makes a row leaves. -/
def Makes (w : World) (l : List Nat) : Ending → World → Prop := fun e W' => ∃ v, e = .returned v ∧ W'.ownsRow w.heap.size 35 1 v l.length (l.map F) ∧ Below w.heap.size w W'
theorem even_f {w : World} {v : Value} {l : List Nat} (h : Fla w v l) (h8 : l.length ≤ 2000) : Calls Try.prog 15 #[v] w (Makes w (evens l)) := by
  obtain ⟨a, n, c, rfl, h1, _⟩ := h
  exact even_c a n c l w h1 (by rw [← h1.1]; exact h8)
theorem odd_f {w : World} {v : Value} {l : List Nat} (h : Fla w v l) (h8 : l.length ≤ 2000) : Calls Try.prog 17 #[v] w (Makes w (odds l)) := by
  obtain ⟨a, n, c, rfl, h1, _⟩ := h
  exact odd_c a n c l w h1 (by rw [← h1.1]; exact h8)
theorem rev_f {w : World} {v : Value} {l : List Nat} (h : Fla w v l) (h8 : l.length ≤ 2000) : Calls Try.prog 19 #[v] w (Makes w (revs l)) := by
  obtain ⟨a, n, c, rfl, h1, _⟩ := h
  exact rev_c a n c l w h1 (by rw [← h1.1]; exact h8)
theorem signs_f {w : World} {v : Value} {l : List Nat} (h : Fla w v l) (h8 : l.length ≤ 2000) : Calls Try.prog 21 #[v] w (Makes w (signs (fun k => k % 2 == 1) l)) := by
  obtain ⟨a, n, c, rfl, h1, _⟩ := h
  exact signsf_c a n c l w h1 (by rw [← h1.1]; exact h8)

abbrev folds (l : List Nat) : List Nat := evens l ++ revs (odds l)
theorem fold_f {w : World} {v : Value} {l : List Nat} (h : Fla w v l) (h8 : l.length ≤ 2000) : Calls Try.prog 23 #[v] w (Makes w (folds l)) := by
  have H := Lib.hid h
  clear h
  go_enter Try.func23, Try.ntmps23
  go_wp2_with fail
  refine (even_f H.out h8).mono ?_
  rintro e w1 ⟨v1, rfl, ho1, hb1⟩
  have HO1 := Lib.hid ho1
  have HB1 := Lib.hid hb1
  clear ho1 hb1
  go_wp2_with fail
  refine (odd_f (H.out.below HB1.out) h8).mono ?_
  rintro e w2 ⟨v2, rfl, ho2, hb2⟩
  have HO2 := Lib.hid (own_below' HO1.out hb2)
  have HB2 := Lib.hid (HB1.out.trans (hb2.mono HB1.out.size))
  have HF2 := Lib.hid (fla_own ho2)
  clear ho2 hb2 HO1
  go_wp2_with fail
  refine (rev_f HF2.out (by rw [takes_length]; omega)).mono ?_
  rintro e w3 ⟨v3, rfl, ho3, hb3⟩
  have HO3 := Lib.hid (own_below' HO2.out hb3)
  have HB3 := Lib.hid (HB2.out.trans (hb3.mono HB2.out.size))
  have HF3 := Lib.hid (fla_own ho3)
  clear ho3 hb3 HO2
  go_wp2_with (at_builtin; refine wpList_append_row rfl _ _ rfl w.heap.size v1 (evens l).length (evens l) rfl HO3.out v3 (revs (odds l)) rfl HF3.out (by rw [takes_length, takes_length, takes_length]; omega) HB3.out.size ?_; intro v' w4 ho4 hb4)
  go_ret
  exact ⟨v', rfl, by rw [List.length_append]; exact ho4, HB3.out.trans hb4⟩

abbrev seg (l : List Nat) (lo n : Nat) : List Nat := takes l n (fun k => lo + k)
theorem fla_sliced {w : World} {a : Option Addr} {n c : Nat} {l : List Nat} (h : IsFl w a n l) (h3 : a = none → n = 0 ∧ c = 0) (hn : n ≤ c) (lo hi : Nat) (h1 : lo ≤ hi) (h2 : hi ≤ n) : Fla w (sliced a lo hi c 1) (seg l lo (hi - lo)) := by
  refine ⟨_, _, _, rfl, ⟨by rw [takes_length], ?_⟩, ?_, by omega⟩
  · by_cases h0 : hi - lo = 0
    · exact .inl h0
    · right
      rcases h.2 with h4 | ⟨b, off, rfl, hc⟩
      · omega
      · rw [if_neg (by omega)]
        refine ⟨b, off + lo, ?_, fun k hk => ?_⟩
        · simp only [Option.map_some, Nat.mul_one, Option.some.injEq, Addr.add]
          split
          · rename_i h5; rw [h5]; rfl
          · rfl
        · rw [takes_length] at hk
          rw [takes_getD _ _ _ _ hk, Nat.add_assoc]
          exact hc (lo + k) (by rw [h.1]; omega)
  · intro he
    have : a = none := by
      split at he
      · exact he
      · cases a with
        | none => rfl
        | some p => simp at he
    obtain ⟨h4, h5⟩ := h3 this
    omega

/-- What perm.Zip leaves of rows that are put together. -/
def Makes2 (w : World) (l : List Nat) : Ending → World → Prop := fun e W' => ∃ v, e = .returned (.tuple #[v, .bool true]) ∧ W'.ownsRow w.heap.size 35 1 v l.length (l.map F) ∧ Below w.heap.size w W'
theorem zip_f {w : World} {u v : Value} {l m : List Nat} (h : Fla w u l) (h' : Fla w v m) (h8 : l.length ≤ 2000) (h9 : m.length ≤ 2000) (hd : l.length = m.length ∨ l.length = m.length + 1) : Calls Try.prog 10 #[u, v] w (Makes2 w (zips l m)) := by
  obtain ⟨a, n, c, rfl, h1, _⟩ := h
  obtain ⟨a', n', c', rfl, h1', _⟩ := h'
  have e := h1.1
  have e' := h1'.1
  subst e
  subst e'
  unfold Makes2
  rw [zips_length]
  exact zip_c a a' _ _ c c' l m w h1 h1' h8 h9 hd
abbrev unfolds (l : List Nat) : List Nat := zips (seg l 0 ((l.length + 1) / 2)) (revs (seg l ((l.length + 1) / 2) (l.length - (l.length + 1) / 2)))
set_option maxHeartbeats 1000000 in
theorem unfold_f {w : World} {a : Option Addr} {n c : Nat} {l : List Nat} (h : IsFl w a n l) (h3 : a = none → n = 0 ∧ c = 0) (hn : n ≤ c) (h8 : n ≤ 2000) : Calls Try.prog 25 #[.slice a n c] w (Makes w (unfolds l)) := by
  have hll := h.1
  obtain ⟨m, hm⟩ : ∃ m, (n + 1) / 2 = m := ⟨_, rfl⟩
  have hmn : m ≤ n := by omega
  have hmc : (m : Int) ≤ (c : Int) := by omega
  have hmn' : (m : Int) ≤ (n : Int) := by omega
  have hq : ((n : Int) + 1).tdiv 2 = (m : Int) := by rw [Int.tdiv_eq_ediv_of_nonneg (by omega)]; omega
  have hu : Hid (unfolds l = zips (seg l 0 m) (revs (seg l m (n - m)))) := Lib.hid (by unfold unfolds; rw [hll, hm])
  have hA := fla_sliced h h3 hn 0 m (Nat.zero_le _) hmn
  have hB := fla_sliced h h3 hn m n hmn (Nat.le_refl _)
  have hA1 : Fla w (.slice a m c) (seg l 0 m) := by
    simp only [sliced, Nat.zero_mul, Nat.sub_zero] at hA
    by_cases hc0 : c = 0
    · rw [if_pos hc0] at hA; exact hA
    · rw [if_neg hc0] at hA
      cases a with
      | none => exact hA
      | some p => exact hA
  have hB1 : Fla w (.slice (if c = m then a else Option.map (fun x => x.add m) a) (n - m) (c - m)) (seg l m (n - m)) := by
    simp only [sliced, Nat.mul_one] at hB
    exact hB
  have HA := Lib.hid hA1
  have HH := Lib.hid h
  have HN := Lib.hid h3
  clear h h3 hA hB hA1
  by_cases hcm : c = m
  · have hnm : n = m := by omega
    have hB2 : Fla w (.slice a 0 0) (seg l m (n - m)) := by
      have := hB1
      rw [if_pos hcm, hcm, hnm, Nat.sub_self] at this
      rw [hnm, Nat.sub_self]
      exact this
    have HB := Lib.hid hB2
    clear hB1 hB2
    subst hcm
    subst hnm
    clear hq hmn hmc hmn' hn
    obtain rfl | rfl : n = 0 ∨ n = 1 := by omega
    · clear hm
      go_enter Try.func25, Try.ntmps25
      go_wp2
      go_region_held3 (fun w' => True) (exact trivial)
        (first | (go_at_call 19; refine (rev_f (HB.out.below (Below.drew (Below.refl _ _))) (by rw [takes_length]; omega)).mono ?_; rintro e w2 ⟨v2, rfl, ho2, hb2⟩; obtain ⟨o2, c2, rfl⟩ := ownsRow_isSlice ho2; have HF2 := Lib.hid (fla_own ho2); have HB2 := Lib.hid hb2; clear ho2 hb2) | (go_at_call 10; refine (zip_f (HA.out.below (Below.trans (Below.drew (Below.refl _ _)) HB2.out)) HF2.out (by rw [takes_length]; omega) (by rw [takes_length, takes_length]; omega) (by rw [takes_length, takes_length, takes_length]; omega)).mono ?_; rintro e w3 ⟨v3, rfl, ho3, hb3⟩; obtain ⟨o3, c3, rfl⟩ := ownsRow_isSlice ho3; have HO3 := Lib.hid ho3; have HB3 := Lib.hid hb3; clear ho3 hb3))
      go_wp2
      go_ret
      have hle : w.heap.size ≤ w2.heap.size := HB2.out.size
      exact ⟨_, rfl, by rw [hu.out]; exact ownsRow_base HO3.out hle, ((Below.refl _ _).drew).trans (HB2.out.trans (HB3.out.mono hle))⟩
    · clear hm
      go_enter Try.func25, Try.ntmps25
      go_wp2
      go_region_held3 (fun w' => True) (exact trivial)
        (first | (go_at_call 19; refine (rev_f (HB.out.below (Below.drew (Below.refl _ _))) (by rw [takes_length]; omega)).mono ?_; rintro e w2 ⟨v2, rfl, ho2, hb2⟩; obtain ⟨o2, c2, rfl⟩ := ownsRow_isSlice ho2; have HF2 := Lib.hid (fla_own ho2); have HB2 := Lib.hid hb2; clear ho2 hb2) | (go_at_call 10; refine (zip_f (HA.out.below (Below.trans (Below.drew (Below.refl _ _)) HB2.out)) HF2.out (by rw [takes_length]; omega) (by rw [takes_length, takes_length]; omega) (by rw [takes_length, takes_length, takes_length]; omega)).mono ?_; rintro e w3 ⟨v3, rfl, ho3, hb3⟩; obtain ⟨o3, c3, rfl⟩ := ownsRow_isSlice ho3; have HO3 := Lib.hid ho3; have HB3 := Lib.hid hb3; clear ho3 hb3))
      go_wp2
      go_ret
      have hle : w.heap.size ≤ w2.heap.size := HB2.out.size
      exact ⟨_, rfl, by rw [hu.out]; exact ownsRow_base HO3.out hle, ((Below.refl _ _).drew).trans (HB2.out.trans (HB3.out.mono hle))⟩
  · have hB2 : Fla w (.slice (Option.map (fun x => x.add m) a) (n - m) (c - m)) (seg l m (n - m)) := by
      have := hB1
      rw [if_neg hcm] at this
      exact this
    have HB := Lib.hid hB2
    clear hB1 hB2
    go_enter Try.func25, Try.ntmps25
    go_wp2
    go_region_held3 (fun w' => True) (exact trivial)
      (first | (go_at_call 19; refine (rev_f (HB.out.below (Below.drew (Below.refl _ _))) (by rw [takes_length]; omega)).mono ?_; rintro e w2 ⟨v2, rfl, ho2, hb2⟩; obtain ⟨o2, c2, rfl⟩ := ownsRow_isSlice ho2; have HF2 := Lib.hid (fla_own ho2); have HB2 := Lib.hid hb2; clear ho2 hb2) | (go_at_call 10; refine (zip_f (HA.out.below (Below.trans (Below.drew (Below.refl _ _)) HB2.out)) HF2.out (by rw [takes_length]; omega) (by rw [takes_length, takes_length]; omega) (by rw [takes_length, takes_length, takes_length]; omega)).mono ?_; rintro e w3 ⟨v3, rfl, ho3, hb3⟩; obtain ⟨o3, c3, rfl⟩ := ownsRow_isSlice ho3; have HO3 := Lib.hid ho3; have HB3 := Lib.hid hb3; clear ho3 hb3))
    go_wp2
    go_ret
    have hle : w.heap.size ≤ w2.heap.size := HB2.out.size
    exact ⟨_, rfl, by rw [hu.out]; exact ownsRow_base HO3.out hle, ((Below.refl _ _).drew).trans (HB2.out.trans (HB3.out.mono hle))⟩
end Go.Proofs.Ytajnjghbppcfdaa
