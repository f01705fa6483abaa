/- PermGiven: the law's walk: it answers true. -/
import Derived.Test.YtajnjghbppcfdaaFrames
import Derived.OwnWalk
namespace Go.Proofs.Ytajnjghbppcfdaa
open Go.RowKit Go.Shelf

/-- A row that lies in a block of its own, from B on and below G; what its cells hold is left open. -/
def Wr (B G : Nat) (w : World) (v : Value) (n : Nat) : Prop :=
  (v = .slice none 0 0 ∧ n = 0) ∨ ∃ g cap cur, v = .slice (some ⟨g, 0, none⟩) n cap ∧ B ≤ g ∧ g < G ∧ w.heap[g]? = some (.cells cur 35) ∧ n ≤ cur.size
theorem Wr.grow {B B' G G' : Nat} {w w' : World} {v : Value} {n : Nat} (h : Wr B G w v n) (hB : B' ≤ B) (hG : G ≤ G') (hw : ∀ g, g < G → w'.heap[g]? = w.heap[g]?) : Wr B' G' w' v n := by
  rcases h with h | ⟨g, cap, cur, h1, h2, h3, h4, h5⟩
  · exact .inl h
  · exact .inr ⟨g, cap, cur, h1, by omega, by omega, (hw g h3).trans h4, h5⟩
theorem Wr.store {B G : Nat} {w : World} {v : Value} {n : Nat} (h : Wr B G w v n) (b j : Nat) (u : Value) : Wr B G (w.setCell ⟨b, j, none⟩ u) v n := by
  rcases h with h | ⟨g, cap, cur, h1, h2, h3, h4, h5⟩
  · exact .inl h
  · by_cases hb : b = g
    · subst hb
      exact .inr ⟨b, cap, cur.setIfInBounds j u, h1, h2, h3, heap_setCell_same w b j cur 35 u h4, by simpa using h5⟩
    · exact .inr ⟨g, cap, cur, h1, h2, h3, (heap_setCell_other w ⟨b, j, none⟩ g u (fun e => hb e.symm)).trans h4, h5⟩
theorem Wr.pos {B G : Nat} {w : World} {o : Option Addr} {n c : Nat} (h : Wr B G w (.slice o n c) n) (k : Nat) (hk : k < n) : ∃ g, o = some ⟨g, 0, none⟩ ∧ B ≤ g ∧ g < G ∧ (∃ u, w.cell? ⟨g, k, none⟩ = some u) ∧ w.frozen? ⟨g, k, none⟩ = false := by
  rcases h with ⟨_, h⟩ | ⟨g, cap, cur, h1, h2, h3, h4, h5⟩
  · omega
  · simp only [Value.slice.injEq] at h1
    obtain ⟨rfl, _, rfl⟩ := h1
    refine ⟨g, rfl, h2, h3, ⟨cur[k]'(by omega), ?_⟩, ?_⟩
    · simp [World.cell?, h4, show k < cur.size by omega]
    · simp [World.frozen?, h4]
theorem below_set {B : Nat} {a w : World} (h : Below B a w) (g y : Nat) (u : Value) (hg : B ≤ g) : Below B a (w.setCell ⟨g, y, none⟩ u) := h.setCell (by show _ ≤ _; exact hg) _
theorem makes_w {w W : World} {l : List Nat} {e : Ending} (h : Makes w l e W) : ∃ o n c, e = .returned (.slice o n c) ∧ Wr w.heap.size W.heap.size W (.slice o n c) n ∧ l.length = n ∧ Below w.heap.size w W := by
  obtain ⟨v, rfl, ho, hb⟩ := h
  rcases ho.2 with ⟨rfl, h0⟩ | ⟨g, cap, cur, rfl, h1, hh, h2, h3, h4, h5⟩
  · exact ⟨_, _, _, rfl, .inl ⟨rfl, rfl⟩, h0, hb⟩
  · exact ⟨_, _, _, rfl, .inr ⟨g, cap, cur, rfl, h1, (Array.getElem?_eq_some_iff.1 hh).1, hh, by omega⟩, rfl, hb⟩

/-- All rows of a list of values. -/
def Rows7 (B G : Nat) (w : World) (vs : List Value) : Prop := w.heap[G]? = some (.cells vs.toArray 22) ∧ ∀ v, v ∈ vs → ∃ o n c, v = .slice o n c ∧ Wr B G w v n ∧ n ≤ 2000
theorem Rows7.at {B G : Nat} {w : World} {vs : List Value} (h : Rows7 B G w vs) (a : Nat) (ha : a < vs.length) : ∃ o n c, vs[a] = .slice o n c ∧ (Wr B G w (.slice o n c) n ∧ n ≤ 2000) ∧ w.cell? ⟨G, a, none⟩ = some (.slice o n c) := by
  obtain ⟨o, n, c, h1, h2⟩ := h.2 _ (List.getElem_mem ha)
  refine ⟨o, n, c, h1, by rw [h1] at h2; exact h2, ?_⟩
  have : w.cell? ⟨G, a, none⟩ = vs.toArray[a]? := by simp [World.cell?, h.1]
  rw [this, ← h1]
  simp [ha]
theorem Rows7.store {B G : Nat} {w : World} {vs : List Value} (h : Rows7 B G w vs) (b j : Nat) (u : Value) (hb : b < G) : Rows7 B G (w.setCell ⟨b, j, none⟩ u) vs := by
  refine ⟨(heap_setCell_other w ⟨b, j, none⟩ G u (fun e => by simp at e; omega)).trans h.1, fun v hv => ?_⟩
  obtain ⟨o, n, c, h1, h2, h3⟩ := h.2 v hv
  exact ⟨o, n, c, h1, h2.store b j u, h3⟩

theorem permGiven_long (a : Option Addr) (len cap : Nat) (odd : Bool) (w : World) (h : (300 : Int) < (len : Int)) : Calls Try.prog 8 #[.slice a len cap, .bool odd] w fun e w' => e = .returned (.bool true) ∧ Below w.heap.size w w' := by
  go_enter Try.func8, Try.ntmps8
  go_wp2_with fail
  refine (l10_head _).mono ?_
  rintro e W1 ⟨rfl, hb⟩
  have BB1 := Lib.hid hb
  have BT := BB1
  clear hb
  go_wp2
  go_ret
  exact ⟨rfl, BT.out⟩

set_option maxHeartbeats 4000000 in
theorem permGiven_short (a : Option Addr) (len cap : Nat) (l : List Nat) (odd : Bool) (w : World) (hr : RowF w a len cap l) (h : (len : Int) ≤ 300) : Calls Try.prog 8 #[.slice a len cap, .bool odd] w fun e w' => e = .returned (.bool true) ∧ Below w.heap.size w w' := by
  have T1 := Lib.hid hr.fla
  have hl : Hid (l.length = len) := Lib.hid hr.1.1
  clear hr
  go_enter Try.func8, Try.ntmps8
  go_wp2_with fail
  refine (l10_head _).mono ?_
  rintro e W1 ⟨rfl, hb⟩
  replace T1 := Lib.hid (T1.out.below hb)
  have BT := Lib.hid hb
  clear hb
  have HO := Lib.hid (show (W1.alloc (.cells #[] 35)).ownsRow W1.heap.size 35 1 (.slice (some ⟨W1.heap.size, 0, none⟩) 0 0) 0 (([] : List Nat).map F) from World.ownsRow_lit W1 #[] 0 (Nat.le_refl _) (by decide) rfl)
  have HT := Lib.hid (T1.out.below ((Below.refl _ W1).alloc (Nat.le_refl _) (.cells #[] 35)))
  go_wp2_with (at_builtin; refine wpList_append_row rfl (.tmp 15) (.tmp 16) rfl W1.heap.size _ 0 [] rfl HO.out _ l rfl HT.out (by rw [hl.out]; omega) (by simp) ?_; intro v6 W2 ho6 hb6; simp only [Nat.zero_add, List.nil_append] at ho6; have HF6 := Lib.hid (fla_own ho6); have T2 := Lib.hid (T1.out.below (((Below.refl _ W1).alloc (Nat.le_refl _) (.cells #[] 35)).trans hb6)); have BT2 := Lib.hid (BT.out.trans ((((Below.refl _ W1).alloc (Nat.le_refl _) (.cells #[] 35)).trans hb6).mono BT.out.size)); obtain ⟨o6, c6, rfl⟩ := ownsRow_isSlice ho6; clear ho6 hb6 HO HT T1 BT)
  refine (even_f T2.out (by rw [hl.out]; omega)).mono ?_
  intro e W3 hm
  obtain ⟨o3, n3, c3, rfl, hw, hn, hb⟩ := makes_w hm
  clear hm
  have HW3 := Lib.hid (hw.grow (B' := W2.heap.size) (Nat.le_refl _) (Nat.le_refl _) (fun _ _ => rfl))
  have BB := Lib.hid hb
  have HN3 := Lib.hid hn
  clear hw hn hb
  go_wp2_with fail
  refine (odd_f (T2.out.below BB.out) (by rw [hl.out]; omega)).mono ?_
  intro e W4 hm
  obtain ⟨o4, n4, c4, rfl, hw, hn, hb⟩ := makes_w hm
  clear hm
  have HW4 := Lib.hid (hw.grow (B' := W2.heap.size) BB.out.size (Nat.le_refl _) (fun _ _ => rfl))
  replace HW3 := Lib.hid (HW3.out.grow (Nat.le_refl _) hb.size (fun g hg => hb.block g hg))
  replace BB := Lib.hid (BB.out.trans (hb.mono BB.out.size))
  have HN4 := Lib.hid hn
  clear hw hn hb
  go_wp2_with fail
  refine (rev_f (T2.out.below BB.out) (by rw [hl.out]; omega)).mono ?_
  intro e W5 hm
  obtain ⟨o5, n5, c5, rfl, hw, hn, hb⟩ := makes_w hm
  clear hm
  have HW5 := Lib.hid (hw.grow (B' := W2.heap.size) BB.out.size (Nat.le_refl _) (fun _ _ => rfl))
  replace HW3 := Lib.hid (HW3.out.grow (Nat.le_refl _) hb.size (fun g hg => hb.block g hg))
  replace HW4 := Lib.hid (HW4.out.grow (Nat.le_refl _) hb.size (fun g hg => hb.block g hg))
  replace BB := Lib.hid (BB.out.trans (hb.mono BB.out.size))
  have HN5 := Lib.hid hn
  clear hw hn hb
  go_wp2_with fail
  refine (signs_f (T2.out.below BB.out) (by rw [hl.out]; omega)).mono ?_
  intro e W6 hm
  obtain ⟨o6, n6, c6, rfl, hw, hn, hb⟩ := makes_w hm
  clear hm
  have HW6 := Lib.hid (hw.grow (B' := W2.heap.size) BB.out.size (Nat.le_refl _) (fun _ _ => rfl))
  replace HW3 := Lib.hid (HW3.out.grow (Nat.le_refl _) hb.size (fun g hg => hb.block g hg))
  replace HW4 := Lib.hid (HW4.out.grow (Nat.le_refl _) hb.size (fun g hg => hb.block g hg))
  replace HW5 := Lib.hid (HW5.out.grow (Nat.le_refl _) hb.size (fun g hg => hb.block g hg))
  replace BB := Lib.hid (BB.out.trans (hb.mono BB.out.size))
  have HN6 := Lib.hid hn
  clear hw hn hb
  go_wp2_with fail
  refine (fold_f (T2.out.below BB.out) (by rw [hl.out]; omega)).mono ?_
  intro e W7 hm
  obtain ⟨o7, n7, c7, rfl, hw, hn, hb⟩ := makes_w hm
  clear hm
  have HW7 := Lib.hid (hw.grow (B' := W2.heap.size) BB.out.size (Nat.le_refl _) (fun _ _ => rfl))
  replace HW3 := Lib.hid (HW3.out.grow (Nat.le_refl _) hb.size (fun g hg => hb.block g hg))
  replace HW4 := Lib.hid (HW4.out.grow (Nat.le_refl _) hb.size (fun g hg => hb.block g hg))
  replace HW5 := Lib.hid (HW5.out.grow (Nat.le_refl _) hb.size (fun g hg => hb.block g hg))
  replace HW6 := Lib.hid (HW6.out.grow (Nat.le_refl _) hb.size (fun g hg => hb.block g hg))
  replace BB := Lib.hid (BB.out.trans (hb.mono BB.out.size))
  have HN7 := Lib.hid hn
  clear hw hn hb
  obtain rfl : n7 = len := by rw [← HN7.out, folds_length, hl.out]
  go_wp2_with fail
  refine (unfold_fla (T2.out.below BB.out) (by rw [hl.out]; omega)).mono ?_
  intro e W8 hm
  obtain ⟨o8, n8, c8, rfl, hw, hn, hb⟩ := makes_w hm
  clear hm
  have HW8 := Lib.hid (hw.grow (B' := W2.heap.size) BB.out.size (Nat.le_refl _) (fun _ _ => rfl))
  replace HW3 := Lib.hid (HW3.out.grow (Nat.le_refl _) hb.size (fun g hg => hb.block g hg))
  replace HW4 := Lib.hid (HW4.out.grow (Nat.le_refl _) hb.size (fun g hg => hb.block g hg))
  replace HW5 := Lib.hid (HW5.out.grow (Nat.le_refl _) hb.size (fun g hg => hb.block g hg))
  replace HW6 := Lib.hid (HW6.out.grow (Nat.le_refl _) hb.size (fun g hg => hb.block g hg))
  replace HW7 := Lib.hid (HW7.out.grow (Nat.le_refl _) hb.size (fun g hg => hb.block g hg))
  replace BB := Lib.hid (BB.out.trans (hb.mono BB.out.size))
  have HN8 := Lib.hid hn
  clear hw hn hb
  go_wp2_with fail
  refine (mirror_fla odd (T2.out.below BB.out) (by rw [hl.out]; omega)).mono ?_
  intro e W9 hm
  obtain ⟨o9, n9, c9, rfl, hw, hn, hb⟩ := makes_w hm
  clear hm
  have HW9 := Lib.hid (hw.grow (B' := W2.heap.size) BB.out.size (Nat.le_refl _) (fun _ _ => rfl))
  replace HW3 := Lib.hid (HW3.out.grow (Nat.le_refl _) hb.size (fun g hg => hb.block g hg))
  replace HW4 := Lib.hid (HW4.out.grow (Nat.le_refl _) hb.size (fun g hg => hb.block g hg))
  replace HW5 := Lib.hid (HW5.out.grow (Nat.le_refl _) hb.size (fun g hg => hb.block g hg))
  replace HW6 := Lib.hid (HW6.out.grow (Nat.le_refl _) hb.size (fun g hg => hb.block g hg))
  replace HW7 := Lib.hid (HW7.out.grow (Nat.le_refl _) hb.size (fun g hg => hb.block g hg))
  replace HW8 := Lib.hid (HW8.out.grow (Nat.le_refl _) hb.size (fun g hg => hb.block g hg))
  replace BB := Lib.hid (BB.out.trans (hb.mono BB.out.size))
  have HN9 := Lib.hid hn
  clear hw hn hb
  have hb3 : n3 ≤ 2000 := by have h1 := HN3.out; rw [takes_length, hl.out] at h1; omega
  have hb4 : n4 ≤ 2000 := by have h1 := HN4.out; rw [takes_length, hl.out] at h1; omega
  have hb5 : n5 ≤ 2000 := by have h1 := HN5.out; rw [revs_length, hl.out] at h1; omega
  have hb6 : n6 ≤ 2000 := by have h1 := HN6.out; rw [signs_length, hl.out] at h1; omega
  have hb8 : n8 ≤ 2000 := by have h1 := HN8.out; rw [unfolds_length, hl.out] at h1; omega
  have hb9 : n9 ≤ 2000 := by have h1 := HN9.out; rw [mirrors_length, hl.out] at h1; omega
  have hb7 : n7 ≤ 2000 := by omega
  obtain ⟨vs, hvs⟩ : ∃ vs : List Value, vs = [.slice o3 n3 c3, .slice o4 n4 c4, .slice o5 n5 c5, .slice o6 n6 c6, .slice o7 n7 c7, .slice o8 n8 c8, .slice o9 n9 c9] := ⟨_, rfl⟩
  have HR : Hid (Rows7 W2.heap.size W9.heap.size (W9.alloc (.cells #[.slice o3 n3 c3, .slice o4 n4 c4, .slice o5 n5 c5, .slice o6 n6 c6, .slice o7 n7 c7, .slice o8 n8 c8, .slice o9 n9 c9] 22)) vs) := Lib.hid ⟨by subst hvs; exact World.alloc_heap_new W9 _, by
    subst hvs
    intro v hv
    simp only [List.mem_cons, List.not_mem_nil, or_false] at hv
    rcases hv with rfl | rfl | rfl | rfl | rfl | rfl | rfl
    · exact ⟨_, _, _, rfl, HW3.out.grow (Nat.le_refl _) (Nat.le_refl _) (fun g hg => Below.heap_alloc _ _ _ hg), hb3⟩
    · exact ⟨_, _, _, rfl, HW4.out.grow (Nat.le_refl _) (Nat.le_refl _) (fun g hg => Below.heap_alloc _ _ _ hg), hb4⟩
    · exact ⟨_, _, _, rfl, HW5.out.grow (Nat.le_refl _) (Nat.le_refl _) (fun g hg => Below.heap_alloc _ _ _ hg), hb5⟩
    · exact ⟨_, _, _, rfl, HW6.out.grow (Nat.le_refl _) (Nat.le_refl _) (fun g hg => Below.heap_alloc _ _ _ hg), hb6⟩
    · exact ⟨_, _, _, rfl, HW7.out.grow (Nat.le_refl _) (Nat.le_refl _) (fun g hg => Below.heap_alloc _ _ _ hg), hb7⟩
    · exact ⟨_, _, _, rfl, HW8.out.grow (Nat.le_refl _) (Nat.le_refl _) (fun g hg => Below.heap_alloc _ _ _ hg), hb8⟩
    · exact ⟨_, _, _, rfl, HW9.out.grow (Nat.le_refl _) (Nat.le_refl _) (fun g hg => Below.heap_alloc _ _ _ hg), hb9⟩⟩
  have HB := Lib.hid (BB.out.alloc BB.out.size (.cells #[.slice o3 n3 c3, .slice o4 n4 c4, .slice o5 n5 c5, .slice o6 n6 c6, .slice o7 n7 c7, .slice o8 n8 c8, .slice o9 n9 c9] 22))
  have hvl : Hid (vs.length = 7) := Lib.hid (by rw [hvs]; rfl)
  have hv4 : Hid (vs[4]? = some (.slice o7 n7 c7)) := Lib.hid (by rw [hvs]; rfl)
  clear hb3 hb4 hb5 hb6 hb7 hb8 hb9 HW3 HW4 HW5 HW6 HW7 HW8 HW9 hvs
  go_wp2
  go_loopw [8, 9] (fun i j wr => ∃ x : Nat, x ≤ 7 ∧ i = .int .i64 x ∧ Hid (Rows7 W2.heap.size W9.heap.size wr vs) ∧ Hid (Below W2.heap.size W2 wr)) (fun i _ _ => 7 - (intOf i).toNat)
  case atStart => exact ⟨0, by decide, rfl, HR, HB⟩
  case round =>
    obtain ⟨x, hx, rfl, hr7, hbl⟩ := hrel
    by_cases hlt : x < 7
    · obtain ⟨oa, na, ca, hva, ⟨hwr, hnb⟩, hca⟩ := hr7.out.at x (by rw [hvl.out]; exact hlt)
      clear hwr
      have hxi : (x : Int) < 7 := by omega
      go_wp2
      go_loopw [9] (fun j wr2 => ∃ y : Nat, y ≤ na ∧ j = .int .i64 y ∧ Hid (Rows7 W2.heap.size W9.heap.size wr2 vs) ∧ Hid (Below W2.heap.size W2 wr2)) (fun j _ => na - (intOf j).toNat)
      case atStart => exact ⟨0, Nat.zero_le _, rfl, hr7, hbl⟩
      case round =>
        obtain ⟨y, hy, rfl, hr8, hbl8⟩ := hrel
        obtain ⟨oa2, na2, ca2, hva2, ⟨hwr2, _⟩, hca2⟩ := hr8.out.at x (by rw [hvl.out]; exact hlt)
        have he := hva.symm.trans hva2
        simp only [Value.slice.injEq] at he
        obtain ⟨rfl, rfl, rfl⟩ := he
        by_cases hyl : y < na
        · obtain ⟨g, rfl, hg1, hg2, ⟨u, hu⟩, hfz⟩ := hwr2.pos y hyl
          have hyi : (y : Int) < (na : Int) := by omega
          have hr9 := Lib.hid (hr8.out.store g y (F 4635118810238550016) hg2)
          have hbz := Lib.hid (below_set hbl8.out g y (F 4635118810238550016) hg1)
          clear hva hva2 hwr2
          go_wp2
          go_roundw
          case rel => exact ⟨y + 1, by omega, by go_num, hr9, hbz⟩
          case measure => simp [intOf]; omega
        · have hyn : y = na := by omega
          have hyi : ¬ (y : Int) < (na : Int) := by omega
          clear hva hva2 hwr2
          go_wp2
          go_roundw
          case rel => exact ⟨x + 1, by omega, by go_num, hr8, hbl8⟩
          case measure => simp [intOf]; omega
    · have hx7 : x = 7 := by omega
      subst hx7
      have HF0 := Lib.hid (T2.out.below hbl.out)
      have HF6' := Lib.hid (HF6.out.below hbl.out)
      go_wp2_with fail
      refine (sameRow_f HF0.out HF6'.out rfl (by rw [hl.out]; omega)).mono ?_
      rintro e W10 ⟨rfl, hb⟩
      have hc4 : W10.cell? ⟨W9.heap.size, 4, none⟩ = some (.slice o7 n7 c7) := by
        obtain ⟨o, n, c, h1, _, h2⟩ := hr7.out.at 4 (by rw [hvl.out]; decide)
        rw [(hb.cell (p := ⟨W9.heap.size, 4, none⟩) (cell_lt h2)), h2, ← h1]
        have h3 := hv4.out
        rw [List.getElem?_eq_getElem (by rw [hvl.out]; decide)] at h3
        exact h3
      have HB10 := Lib.hid (BT2.out.trans ((hbl.out.trans (hb.mono hbl.out.size)).mono BT2.out.size))
      clear hb
      go_wp2
      go_ret
      exact ⟨rfl, HB10.out⟩
end Go.Proofs.Ytajnjghbppcfdaa
