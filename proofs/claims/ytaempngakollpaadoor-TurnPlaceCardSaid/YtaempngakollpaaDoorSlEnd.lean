/- TurnSplit: the law's walk, every input. Under: the library's table as its initialiser lays it. -/
import Derived.Test.YtaempngakollpaaDoorSlWalk
namespace Go.Proofs.YtaempngakollpaaDoor
open Go.RowKit Go.Shelf

theorem turnSplit_no (k q : Int) (hr : isR k q = false) (w : World) (ht : Tab w) : Calls Tryd.prog 6 #[Ag k q] w (Says w true) := by
  have T0 := Lib.hid ht
  have HR := Lib.hid hr
  clear ht hr
  go_enter Tryd.func6, Tryd.ntmps6
  go_wp2_with fail
  refine (l6_head _ (T0.out.below ((Below.refl _ w).alloc (Nat.le_refl _) _))).mono ?_
  rintro e w1 ⟨rfl, hb⟩
  have z0 := cell_of hb (b := w.heap.size) (o := 0) (v := .int .i64 k) (by simp [go_sem])
  have z1 := cell_of hb (b := w.heap.size) (o := 1) (v := .int .i64 q) (by simp [go_sem])
  have HB := Lib.hid (((Below.refl _ w).alloc (Nat.le_refl _) _).trans (hb.mono (by simp)))
  clear hb
  go_wp2_with fail
  refine (right13 k q _).mono ?_
  rintro e w2 ⟨rfl, hb⟩
  rw [HR.out]
  have HB2 := Lib.hid (HB.out.trans (hb.mono HB.out.size))
  clear hb
  go_wp2
  go_ret
  exact ⟨rfl, HB2.out⟩

theorem turnSplit_walk (ak aq : Int) (w : World) (ht : Tab w) : Calls Tryd.prog 6 #[Ag ak aq] w (Says w true) := by
  by_cases h : 0 ≤ aq ∧ aq ≤ 40 ∧ -1099511627776 ≤ ak ∧ ak ≤ 1099511627776
  · obtain ⟨i, rfl⟩ : ∃ i : Nat, aq = i := ⟨aq.toNat, (Int.toNat_of_nonneg h.1).symm⟩
    obtain ⟨e, k, q, n, m, N⟩ := partOk (val ak i)
    by_cases hp : e % 2 = 0
    · rcases N.none with ⟨hk, hq⟩ | hk
      · exact turnSplit_e0 ak i (by omega) h.2.2.1 h.2.2.2 e k q n m N hp hk hq (N.ev hp) w ht
      · exact turnSplit_e1 ak i (by omega) h.2.2.1 h.2.2.2 e k q n m N hp hk (N.ev hp) w ht
    · have ho : e % 2 = 1 := by omega
      by_cases hm : m = n
      · exact turnSplit_o1 ak i (by omega) h.2.2.1 h.2.2.2 e k q n m N ho (N.od ho) hm w ht
      · exact turnSplit_o2 ak i (by omega) h.2.2.1 h.2.2.2 e k q n m N ho (N.od ho) hm w ht
  · exact turnSplit_no ak aq (isR_false h) w ht
end Go.Proofs.YtaempngakollpaaDoor
