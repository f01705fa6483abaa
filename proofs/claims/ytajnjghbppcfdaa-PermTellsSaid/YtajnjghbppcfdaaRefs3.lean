/- The document's answer to layer 10: Mirror. -/
import Derived.Test.YtajnjghbppcfdaaRefs2
namespace Go.Proofs.Ytajnjghbppcfdaa
open Go.RowKit Go.Shelf

theorem mirrors_take (odd : Bool) (l : List Nat) (j : Nat) (h : j < l.length - 2) : (mirrors odd l).take (l.length + j + 1) = (mirrors odd l).take (l.length + j) ++ [if odd then Fl.fneg (l.getD (l.length - 2 - j) 0) else l.getD (l.length - 2 - j) 0] := by
  have hlt : l.length + j < (mirrors odd l).length := by rw [mirrors_length]; omega
  rw [List.take_succ_eq_append_getElem hlt]
  have h2 := mirrors_high odd l (l.length - 2 - j) (by omega) (by omega)
  rw [show 2 * (l.length - 1) - (l.length - 2 - j) = l.length + j by omega, List.getD_eq_getElem?_getD, List.getElem?_eq_getElem hlt] at h2
  rw [← h2]
  rfl
theorem mirrors_take0 (odd : Bool) (l : List Nat) : (mirrors odd l).take l.length = l := by
  unfold mirrors
  exact List.take_left' rfl

set_option maxHeartbeats 1000000 in
theorem mirrorr_false {w : World} {a : Option Addr} {n c : Nat} {l : List Nat} (h : IsFl w a n l) (h3 : a = none → n = 0 ∧ c = 0) (hn : n ≤ c) (h8 : n ≤ 2000) : Calls Try.prog 28 #[.slice a n c, .bool false] w (Makes w (mirrors false l)) := by
  have hll := h.1
  have HA := Lib.hid h
  have HF : Hid (Fla w (.slice a n c) l) := Lib.hid ⟨a, n, c, rfl, h, h3, hn⟩
  have HO := Lib.hid (show (w.alloc (.cells #[] 35)).ownsRow w.heap.size 35 1 (.slice (some ⟨w.heap.size, 0, none⟩) 0 0) 0 (([] : List Nat).map F) from World.ownsRow_lit w #[] 0 (Nat.le_refl _) (by decide) rfl)
  have HT := Lib.hid (HF.out.below ((Below.refl _ w).alloc (Nat.le_refl _) (.cells #[] 35)))
  have HN := Lib.hid h3
  clear h h3
  go_enter Try.func28, Try.ntmps28
  go_wp2_with (at_builtin; refine wpList_append_row rfl (.tmp 7) (.tmp 8) rfl w.heap.size _ 0 [] rfl HO.out _ l rfl HT.out (by omega) (by simp) ?_; intro v6 w2 ho6 hb6; simp only [Nat.zero_add, List.nil_append] at ho6; have HB2 := Lib.hid (((Below.refl _ w).alloc (Nat.le_refl _) (.cells #[] 35)).trans hb6); have HO6 := Lib.hid ho6; clear ho6 hb6 HO HT)
  go_loopw [5, 6] (fun s i wr => ∃ j : Nat, j ≤ n - 2 ∧ i = .int .i64 ((n : Int) - 2 - (j : Int)) ∧ Hid (wr.ownsRow w.heap.size 35 1 s (n + j) (((mirrors false l).take (n + j)).map F)) ∧ Hid (Below w.heap.size w wr)) (fun _ i _ => (intOf i + 1).toNat)
  case atStart => exact ⟨0, Nat.zero_le _, by simp, Lib.hid (by have := HO6.out; rw [hll] at this; rw [Nat.add_zero, ← hll, mirrors_take0, hll]; exact this), HB2⟩
  case round =>
    obtain ⟨j, hj, rfl, hz, hbl⟩ := hrel
    by_cases hlt : j < n - 2
    · have hs := mirrors_take false l j (by omega)
      simp only [Bool.false_eq_true, if_false] at hs
      obtain ⟨q, hq⟩ : ∃ q, n - 2 - j = q := ⟨_, rfl⟩
      rw [hll, hq] at hs
      obtain ⟨y, hy⟩ : ∃ y, l.getD q 0 = y := ⟨_, rfl⟩
      rw [hy] at hs
      obtain ⟨b0, off0, rfl, hc0⟩ : ∃ b off, a = some ⟨b, off, none⟩ ∧ w.cell? ⟨b, off + q, none⟩ = some (F y) := by
        rcases HA.out.2 with h | ⟨b, off, h, hc⟩
        · omega
        · exact ⟨b, off, h, by rw [← hy]; exact hc _ (by omega)⟩
      have hc1 := (hbl.out.cell (p := ⟨b0, off0 + q, none⟩) (cell_lt hc0)).trans hc0
      have hqi : (n : Int) - 2 - (j : Int) = (q : Int) := by omega
      have hql : (q : Int) < (n : Int) := by omega
      have hq1 : (1 : Int) ≤ (q : Int) := by omega
      have HS := Lib.hid hs
      have HQ := Lib.hid hq
      clear hy hc0 hs hq
      rw [hqi]
      go_wp2_with (at_builtin; refine wpList_append_row rfl (.tmp 26) (.tmp 31) rfl w.heap.size _ (n + j) _ rfl (hz.out.alloc _) _ [y] rfl (fla_one _ y _ rfl) (by simp; omega) (Nat.le_trans hbl.out.size (by simp)) ?_; intro v' w' ho hb)
      go_roundw
      case rel =>
        refine ⟨j + 1, by omega, by rw [show (n : Int) - 2 - ((j + 1 : Nat) : Int) = (q : Int) - 1 by omega], Lib.hid ?_, Lib.hid ((hbl.out.alloc hbl.out.size _).trans hb)⟩
        rw [← Nat.add_assoc, HS.out]
        exact ho
      case measure => simp [intOf] <;> omega
    · have hjn : j = n - 2 := by omega
      have hqi : ¬ (1 : Int) ≤ (n : Int) - 2 - (j : Int) := by omega
      have hz2 := hz.out
      rw [List.take_of_length_le (by rw [mirrors_length]; omega), hjn] at hz2
      have HZ2 := Lib.hid hz2
      clear hz2 hz
      obtain ⟨q, hq⟩ : ∃ q : Int, (n : Int) - 2 - (j : Int) = q := ⟨_, rfl⟩
      rw [hq] at hqi ⊢
      clear hq
      go_wp2
      go_ret
      exact ⟨_, rfl, by rw [mirrors_length, hll]; exact HZ2.out, hbl.out⟩

set_option maxHeartbeats 1000000 in
theorem mirrorr_true {w : World} {a : Option Addr} {n c : Nat} {l : List Nat} (h : IsFl w a n l) (h3 : a = none → n = 0 ∧ c = 0) (hn : n ≤ c) (h8 : n ≤ 2000) : Calls Try.prog 28 #[.slice a n c, .bool true] w (Makes w (mirrors true l)) := by
  have hll := h.1
  have HA := Lib.hid h
  have HF : Hid (Fla w (.slice a n c) l) := Lib.hid ⟨a, n, c, rfl, h, h3, hn⟩
  have HO := Lib.hid (show (w.alloc (.cells #[] 35)).ownsRow w.heap.size 35 1 (.slice (some ⟨w.heap.size, 0, none⟩) 0 0) 0 (([] : List Nat).map F) from World.ownsRow_lit w #[] 0 (Nat.le_refl _) (by decide) rfl)
  have HT := Lib.hid (HF.out.below ((Below.refl _ w).alloc (Nat.le_refl _) (.cells #[] 35)))
  have HN := Lib.hid h3
  clear h h3
  go_enter Try.func28, Try.ntmps28
  go_wp2_with (at_builtin; refine wpList_append_row rfl (.tmp 7) (.tmp 8) rfl w.heap.size _ 0 [] rfl HO.out _ l rfl HT.out (by omega) (by simp) ?_; intro v6 w2 ho6 hb6; simp only [Nat.zero_add, List.nil_append] at ho6; have HB2 := Lib.hid (((Below.refl _ w).alloc (Nat.le_refl _) (.cells #[] 35)).trans hb6); have HO6 := Lib.hid ho6; clear ho6 hb6 HO HT)
  go_loopw [5, 6] (fun s i wr => ∃ j : Nat, j ≤ n - 2 ∧ i = .int .i64 ((n : Int) - 2 - (j : Int)) ∧ Hid (wr.ownsRow w.heap.size 35 1 s (n + j) (((mirrors true l).take (n + j)).map F)) ∧ Hid (Below w.heap.size w wr)) (fun _ i _ => (intOf i + 1).toNat)
  case atStart => exact ⟨0, Nat.zero_le _, by simp, Lib.hid (by have := HO6.out; rw [hll] at this; rw [Nat.add_zero, ← hll, mirrors_take0, hll]; exact this), HB2⟩
  case round =>
    obtain ⟨j, hj, rfl, hz, hbl⟩ := hrel
    by_cases hlt : j < n - 2
    · have hs := mirrors_take true l j (by omega)
      simp only [if_true] at hs
      obtain ⟨q, hq⟩ : ∃ q, n - 2 - j = q := ⟨_, rfl⟩
      rw [hll, hq] at hs
      obtain ⟨y, hy⟩ : ∃ y, l.getD q 0 = y := ⟨_, rfl⟩
      rw [hy] at hs
      obtain ⟨b0, off0, rfl, hc0⟩ : ∃ b off, a = some ⟨b, off, none⟩ ∧ w.cell? ⟨b, off + q, none⟩ = some (F y) := by
        rcases HA.out.2 with h | ⟨b, off, h, hc⟩
        · omega
        · exact ⟨b, off, h, by rw [← hy]; exact hc _ (by omega)⟩
      have hc1 := (hbl.out.cell (p := ⟨b0, off0 + q, none⟩) (cell_lt hc0)).trans hc0
      have hqi : (n : Int) - 2 - (j : Int) = (q : Int) := by omega
      have hql : (q : Int) < (n : Int) := by omega
      have hq1 : (1 : Int) ≤ (q : Int) := by omega
      have HS := Lib.hid hs
      have HQ := Lib.hid hq
      clear hy hc0 hs hq
      rw [hqi]
      go_wp2_with (at_builtin; refine wpList_append_row rfl (.tmp 18) (.tmp 24) rfl w.heap.size _ (n + j) _ rfl (hz.out.alloc _) _ [(Fl.fneg y)] rfl (fla_one _ (Fl.fneg y) _ rfl) (by simp; omega) (Nat.le_trans hbl.out.size (by simp)) ?_; intro v' w' ho hb)
      go_roundw
      case rel =>
        refine ⟨j + 1, by omega, by rw [show (n : Int) - 2 - ((j + 1 : Nat) : Int) = (q : Int) - 1 by omega], Lib.hid ?_, Lib.hid ((hbl.out.alloc hbl.out.size _).trans hb)⟩
        rw [← Nat.add_assoc, HS.out]
        exact ho
      case measure => simp [intOf] <;> omega
    · have hjn : j = n - 2 := by omega
      have hqi : ¬ (1 : Int) ≤ (n : Int) - 2 - (j : Int) := by omega
      have hz2 := hz.out
      rw [List.take_of_length_le (by rw [mirrors_length]; omega), hjn] at hz2
      have HZ2 := Lib.hid hz2
      clear hz2 hz
      obtain ⟨q, hq⟩ : ∃ q : Int, (n : Int) - 2 - (j : Int) = q := ⟨_, rfl⟩
      rw [hq] at hqi ⊢
      clear hq
      go_wp2
      go_ret
      exact ⟨_, rfl, by rw [mirrors_length, hll]; exact HZ2.out, hbl.out⟩

theorem mirrorr_f {w : World} {v : Value} {l : List Nat} (odd : Bool) (h : Fla w v l) (h8 : l.length ≤ 2000) : Calls Try.prog 28 #[v, .bool odd] w (Makes w (mirrors odd l)) := by
  obtain ⟨a, n, c, rfl, h1, h2, h3⟩ := h
  cases odd
  · exact mirrorr_false h1 h2 h3 (by rw [← h1.1]; exact h8)
  · exact mirrorr_true h1 h2 h3 (by rw [← h1.1]; exact h8)
end Go.Proofs.Ytajnjghbppcfdaa
