/- Right of both, Place of the reference. -/
import Derived.Test.YtaempngakollpaaDoorJn
namespace Go.Proofs.YtaempngakollpaaDoor
open Go.RowKit Go.Shelf

/-- may an angle be so? -/
def isR (k q : Int) : Bool := decide (0 ≤ q ∧ q ≤ 40 ∧ -1099511627776 ≤ k ∧ k ≤ 1099511627776)
def Says (w : World) (b : Bool) (a : Ending) (w' : World) : Prop := a = .returned (.bool b) ∧ Below w.heap.size w w'

theorem right12 (k q : Int) (w : World) : Calls Tryd.prog 12 #[Ag k q] w (Says w (isR k q)) := by
  have HH : Hid (∀ b w', b = isR k q → Below w.heap.size w w' → Says w (isR k q) (.returned (.bool b)) w') := Lib.hid (fun b w' h hb => ⟨by rw [h], hb⟩)
  have HD : Hid (isR k q = decide (0 ≤ q ∧ q ≤ 40 ∧ -1099511627776 ≤ k ∧ k ≤ 1099511627776)) := Lib.hid rfl
  generalize isR k q = b at *
  have HB : Hid (∀ o : Obj, Below w.heap.size w (w.alloc o)) := Lib.hid (fun o => (Below.refl _ w).alloc (Nat.le_refl _) _)
  go_enter Tryd.func12, Tryd.ntmps12
  go_wp2
  all_goals first
    | exact bodyPost_ret (v := .bool false) (by simp [results, Tryd.results12, go_sem]) rfl (HH.out false _ (by rw [HD.out]; symm; rw [decide_eq_false_iff_not]; omega) (HB.out _))
    | exact bodyPost_ret (v := .bool true) (by simp [results, Tryd.results12, go_sem]) rfl (HH.out true _ (by rw [HD.out]; symm; rw [decide_eq_true_iff]; omega) (HB.out _))
    | exact bodyPost_ret (v := .bool (decide (k ≤ 1099511627776))) (by simp [results, Tryd.results12, go_sem]) rfl (HH.out _ _ (by rw [HD.out, decide_eq_decide]; omega) (HB.out _))

theorem right13 (k q : Int) (w : World) : Calls Tryd.prog 13 #[Ag k q] w (Says w (isR k q)) := by
  have HH : Hid (∀ b w', b = isR k q → Below w.heap.size w w' → Says w (isR k q) (.returned (.bool b)) w') := Lib.hid (fun b w' h hb => ⟨by rw [h], hb⟩)
  have HD : Hid (isR k q = decide (0 ≤ q ∧ q ≤ 40 ∧ -1099511627776 ≤ k ∧ k ≤ 1099511627776)) := Lib.hid rfl
  generalize isR k q = b at *
  have HB : Hid (∀ o : Obj, Below w.heap.size w (w.alloc o)) := Lib.hid (fun o => (Below.refl _ w).alloc (Nat.le_refl _) _)
  go_enter Tryd.func13, Tryd.ntmps13
  go_wp2
  all_goals first
    | exact bodyPost_ret (v := .bool false) (by simp [results, Tryd.results13, go_sem]) rfl (HH.out false _ (by rw [HD.out]; symm; rw [decide_eq_false_iff_not]; omega) (HB.out _))
    | exact bodyPost_ret (v := .bool true) (by simp [results, Tryd.results13, go_sem]) rfl (HH.out true _ (by rw [HD.out]; symm; rw [decide_eq_true_iff]; omega) (HB.out _))
    | exact bodyPost_ret (v := .bool (decide (k ≤ 1099511627776))) (by simp [results, Tryd.results13, go_sem]) rfl (HH.out _ _ (by rw [HD.out, decide_eq_decide]; omega) (HB.out _))

theorem place11_out (e : Int) (h : e < 0 ∨ 7 < e) (w : World) : Calls Tryd.prog 11 #[.int .i64 e] w (Places w e) := by
  obtain ⟨h1, h2, h3⟩ := p_out e h
  have HH := Lib.hid (show Places w e (.returned (.tuple #[.bool false, .bool false, .bool false])) w from ⟨by rw [h1, h2, h3], Below.refl _ _⟩)
  clear h1 h2 h3
  rcases h with h | h
  all_goals
    go_enter Tryd.func11, Tryd.ntmps11
    go_wp2
    exact bodyPost_ret (v := .tuple #[.bool false, .bool false, .bool false]) (by simp [results, Tryd.results11, go_sem]) rfl HH.out
set_option maxHeartbeats 1000000 in
theorem place11_0 (w : World) : Calls Tryd.prog 11 #[.int .i64 0] w (Places w 0) := by
  have HH : Hid (Places w 0 (.returned (.tuple #[.bool false, .bool false, .bool false])) w) := Lib.hid ⟨rfl, Below.refl _ _⟩
  go_enter Tryd.func11, Tryd.ntmps11
  go_wp2
  exact bodyPost_ret (v := .tuple #[.bool false, .bool false, .bool false]) (by simp [results, Tryd.results11, go_sem]) rfl HH.out
set_option maxHeartbeats 1000000 in
theorem place11_1 (w : World) : Calls Tryd.prog 11 #[.int .i64 1] w (Places w 1) := by
  have HH : Hid (Places w 1 (.returned (.tuple #[.bool true, .bool false, .bool false])) w) := Lib.hid ⟨rfl, Below.refl _ _⟩
  go_enter Tryd.func11, Tryd.ntmps11
  go_wp2
  exact bodyPost_ret (v := .tuple #[.bool true, .bool false, .bool false]) (by simp [results, Tryd.results11, go_sem]) rfl HH.out
set_option maxHeartbeats 1000000 in
theorem place11_2 (w : World) : Calls Tryd.prog 11 #[.int .i64 2] w (Places w 2) := by
  have HH : Hid (Places w 2 (.returned (.tuple #[.bool true, .bool true, .bool false])) w) := Lib.hid ⟨rfl, Below.refl _ _⟩
  go_enter Tryd.func11, Tryd.ntmps11
  go_wp2
  exact bodyPost_ret (v := .tuple #[.bool true, .bool true, .bool false]) (by simp [results, Tryd.results11, go_sem]) rfl HH.out
set_option maxHeartbeats 1000000 in
theorem place11_3 (w : World) : Calls Tryd.prog 11 #[.int .i64 3] w (Places w 3) := by
  have HH : Hid (Places w 3 (.returned (.tuple #[.bool false, .bool true, .bool false])) w) := Lib.hid ⟨rfl, Below.refl _ _⟩
  go_enter Tryd.func11, Tryd.ntmps11
  go_wp2
  exact bodyPost_ret (v := .tuple #[.bool false, .bool true, .bool false]) (by simp [results, Tryd.results11, go_sem]) rfl HH.out
set_option maxHeartbeats 1000000 in
theorem place11_4 (w : World) : Calls Tryd.prog 11 #[.int .i64 4] w (Places w 4) := by
  have HH : Hid (Places w 4 (.returned (.tuple #[.bool false, .bool true, .bool true])) w) := Lib.hid ⟨rfl, Below.refl _ _⟩
  go_enter Tryd.func11, Tryd.ntmps11
  go_wp2
  exact bodyPost_ret (v := .tuple #[.bool false, .bool true, .bool true]) (by simp [results, Tryd.results11, go_sem]) rfl HH.out
set_option maxHeartbeats 1000000 in
theorem place11_5 (w : World) : Calls Tryd.prog 11 #[.int .i64 5] w (Places w 5) := by
  have HH : Hid (Places w 5 (.returned (.tuple #[.bool true, .bool true, .bool true])) w) := Lib.hid ⟨rfl, Below.refl _ _⟩
  go_enter Tryd.func11, Tryd.ntmps11
  go_wp2
  exact bodyPost_ret (v := .tuple #[.bool true, .bool true, .bool true]) (by simp [results, Tryd.results11, go_sem]) rfl HH.out
set_option maxHeartbeats 1000000 in
theorem place11_6 (w : World) : Calls Tryd.prog 11 #[.int .i64 6] w (Places w 6) := by
  have HH : Hid (Places w 6 (.returned (.tuple #[.bool true, .bool false, .bool true])) w) := Lib.hid ⟨rfl, Below.refl _ _⟩
  go_enter Tryd.func11, Tryd.ntmps11
  go_wp2
  exact bodyPost_ret (v := .tuple #[.bool true, .bool false, .bool true]) (by simp [results, Tryd.results11, go_sem]) rfl HH.out
set_option maxHeartbeats 1000000 in
theorem place11_7 (w : World) : Calls Tryd.prog 11 #[.int .i64 7] w (Places w 7) := by
  have HH : Hid (Places w 7 (.returned (.tuple #[.bool false, .bool false, .bool true])) w) := Lib.hid ⟨rfl, Below.refl _ _⟩
  go_enter Tryd.func11, Tryd.ntmps11
  go_wp2
  exact bodyPost_ret (v := .tuple #[.bool false, .bool false, .bool true]) (by simp [results, Tryd.results11, go_sem]) rfl HH.out
theorem place11 (e : Int) (w : World) : Calls Tryd.prog 11 #[.int .i64 e] w (Places w e) := by
  by_cases h : e < 0 ∨ 7 < e
  · exact place11_out e h w
  · have : e = 0 ∨ e = 1 ∨ e = 2 ∨ e = 3 ∨ e = 4 ∨ e = 5 ∨ e = 6 ∨ e = 7 := by omega
    rcases this with rfl | rfl | rfl | rfl | rfl | rfl | rfl | rfl
    · exact place11_0 w
    · exact place11_1 w
    · exact place11_2 w
    · exact place11_3 w
    · exact place11_4 w
    · exact place11_5 w
    · exact place11_6 w
    · exact place11_7 w
end Go.Proofs.YtaempngakollpaaDoor
