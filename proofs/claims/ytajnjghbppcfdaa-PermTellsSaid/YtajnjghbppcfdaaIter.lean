/- The iterator of places: it hands over places from one on, by steps, below an end. -/
import Derived.RangeFuncBox
import Derived.RangeFuncLeaves
import Derived.RangeFuncNested
import Derived.Shelf.Abstract
import Derived.Shelf.RegionOpen
import Derived.WalkKit
import Derived.OwnWalkIn
import Derived.TacticsInMore
import Derived.LoopNIn
import Derived.LoopIn
import Derived.Maps.AppendAt
import Derived.Lib.Hide
import Derived.Test.YtajnjghbppcfdaaProg
namespace Go.Proofs.Ytajnjghbppcfdaa
open Go.RowKit Go.Shelf
attribute [local go_sem] Oper.semAt_some

/-- A place of a row of m. -/
abbrev Pl (m : Nat) := { i : Nat // i < m }

/-- What the places are: from, from + by, .., and the next one is none. -/
structure Steps (m : Nat) (xs : List (Pl m)) (from_ by_ : Int) : Prop where
  at_ : ∀ k (h : k < xs.length), ((xs[k].1 : Nat) : Int) = from_ + k * by_
  stop : ¬ (0 ≤ from_ + xs.length * by_ ∧ from_ + xs.length * by_ < (m : Int))

set_option maxRecDepth 100000 in
set_option maxHeartbeats 1000000 in
theorem places1_in (F : Fence) (n : Nat) (h6 : F.fn 36) (hro : F.round = none) (hn : 1 ≤ n) (l Bf Be Bb n₀ m : Nat) (fr by_ : Int) (xs : List (Pl m)) (hs : Steps m xs fr by_) (hm : m ≤ 140737488351232)
    (hb0 : by_ ≠ 0) (hb1 : -2 ≤ by_) (hb2 : by_ ≤ 2) (hlt : Bf < n₀ ∧ Be < n₀ ∧ Bb < n₀) (J Jx : List (Pl m) → World → Prop)
    (hY : ∀ pre x W, J pre W → pre.length < xs.length → YieldAt F (n - 1) Try.prog l #[.int .i64 (x : Pl m).1] W fun e W' =>
      (e = .returned (.bool true) ∧ J (pre ++ [x]) W' ∧ Below n₀ W W') ∨ (e = .returned (.bool false) ∧ Jx (pre ++ [x]) W'))
    (W : World) (c1 : W.cell? ⟨Bf, 0, none⟩ = some (.int .i64 fr)) (c2 : W.cell? ⟨Be, 0, none⟩ = some (.int .i64 m)) (c3 : W.cell? ⟨Bb, 0, none⟩ = some (.int .i64 by_)) (h0 : J [] W) :
    CallsIn F n Try.prog 36 #[.func (.yield l) #[] #[], .pointer (some ⟨Bf, 0, none⟩), .pointer (some ⟨Be, 0, none⟩), .pointer (some ⟨Bb, 0, none⟩)] W fun e W' => (∃ v, e = .returned v) ∧
      ((∃ ys, ys = xs ∧ J ys W') ∨ (∃ pre, pre <+: xs ∧ Jx pre W')) := by
  have HS := Lib.hid hs
  have HB := Lib.hid hb0
  clear hs hb0
  refine callsIn_of_wp Try.func36 rfl h6 ?_ hro
  simp only [Try.ntmps36, List.size_toArray, List.length_cons, List.length_nil, Nat.reduceAdd, Nat.reduceSub, Array.replicate_succ, Array.replicate_zero, List.push_toArray, List.append_toArray, List.nil_append, List.cons_append]
  gi_wp2
  gi_loopw [5] (fun i wr => ∃ (k : Nat) (q : Int), k ≤ xs.length ∧ i = .int .i64 q ∧ Hid (q = fr + k * by_) ∧ J (xs.take k) wr ∧ Below n₀ W wr)
    (fun i _ => if 0 < by_ then (m + 1 - intOf i).toNat else (intOf i + 1).toNat)
  case atStart => exact ⟨0, fr, Nat.zero_le _, rfl, Lib.hid (by simp), by simpa using h0, Below.refl _ _⟩
  case round =>
    obtain ⟨k, q, hk, rfl, hq, hJs, hnx⟩ := hrel
    have d2 : wr.cell? ⟨Be, 0, none⟩ = some (.int .i64 m) := (hnx.cell (p := ⟨Be, 0, none⟩) hlt.2.1).trans c2
    by_cases hlk : k < xs.length
    · have hat := HS.out.at_ k hlk
      rw [← hq.out] at hat
      have htk : xs.take k ++ [xs[k]] = xs.take (k + 1) := (List.take_succ_eq_append_getElem hlk).symm
      have HT := Lib.hid htk
      clear htk
      have hlen : (xs.take k).length < xs.length := by rw [List.length_take]; omega
      generalize xs[k] = x at hat HT
      have hx1 : (x.1 : Int) < m := by have := x.2; omega
      subst hat
      obtain ⟨fn, tmps, assign, body, hy, hR⟩ := hY _ x wr hJs hlen
      gi_wp2
      refine hR.mono ?_
      rintro e W3 (⟨rfl, hJ3, hk3⟩ | ⟨rfl, hJx3⟩)
      · have d3 : W3.cell? ⟨Bb, 0, none⟩ = some (.int .i64 by_) := ((hnx.trans hk3).cell (p := ⟨Bb, 0, none⟩) hlt.2.2).trans c3
        gi_wp2
        go_roundw
        case rel =>
          refine ⟨k + 1, _, by omega, rfl, Lib.hid ?_, by rw [← HT.out]; exact hJ3, hnx.trans hk3⟩
          have := hq.out
          rw [Int.natCast_add, Int.add_mul]
          omega
        case measure =>
          have hx0 : (0 : Int) ≤ (x.1 : Int) := by omega
          have hbb := HB.out
          simp only [intOf]
          split <;> omega
      · gi_wp2
        refine bodyPost_ret (results_none rfl _ _ _) rfl ?_
        exact ⟨⟨_, rfl⟩, .inr ⟨_, ⟨xs.drop (k + 1), by rw [HT.out, List.take_append_drop]⟩, hJx3⟩⟩
    · have hkl : k = xs.length := by omega
      have hst := HS.out.stop
      rw [← hkl, ← hq.out] at hst
      have hfin : J xs wr := by rw [hkl, List.take_length] at hJs; exact hJs
      have HF := Lib.hid hfin
      clear hfin hJs hlk hkl
      by_cases hq0 : 0 ≤ q
      · have hqm : ¬ q < (m : Int) := fun h => hst ⟨hq0, h⟩
        clear hst
        gi_wp2
        go_end0
        exact ⟨⟨_, rfl⟩, .inl HF.out⟩
      · clear hst
        gi_wp2
        go_end0
        exact ⟨⟨_, rfl⟩, .inl HF.out⟩

set_option maxHeartbeats 1000000 in
/-- **places(from, by, end)**: the three are boxed; the function value captures the boxes. -/
theorem places_in (F : Fence) (n : Nat) (h5 : F.fn 31) (hro : F.round = none) (fr by_ m : Int) (w : World) :
    CallsIn F n Try.prog 31 #[.int .i64 fr, .int .i64 by_, .int .i64 m] w fun e w' => e = .returned (.func (.func 36) #[] #[.pointer (some ⟨w.heap.size, 0, none⟩), .pointer (some ⟨w.heap.size + 2, 0, none⟩), .pointer (some ⟨w.heap.size + 1, 0, none⟩)]) ∧ w' = ((w.alloc (.cells #[.int .i64 fr] 3)).alloc (.cells #[.int .i64 by_] 3)).alloc (.cells #[.int .i64 m] 3) := by
  refine callsIn_of_wp Try.func31 rfl h5 ?_ hro
  simp only [Try.ntmps31, List.size_toArray, List.length_cons, List.length_nil, Nat.reduceAdd, Nat.reduceSub, Array.replicate_succ, Array.replicate_zero, List.push_toArray, List.append_toArray, List.nil_append, List.cons_append]
  have hmf : ∀ (fn : Fn) (first cap : Array Value) (w : World), (Instr.makeFunc fn first cap).run Try.prog w = .ok (.func fn first cap) w := fun _ _ _ _ => rfl
  gi_wp2
  go_ret
  exact ⟨rfl, rfl⟩

theorem places_stops (F : Fence) (n : Nat) (h6 : F.fn 36) (hro : F.round = none) (hn : 1 ≤ n) (Bf Be Bb n₀ m : Nat) (fr by_ : Int) (xs : List (Pl m)) (hs : Steps m xs fr by_) (hm : m ≤ 140737488351232)
    (hb0 : by_ ≠ 0) (hb1 : -2 ≤ by_) (hb2 : by_ ≤ 2) (hlt : Bf < n₀ ∧ Be < n₀ ∧ Bb < n₀) (w : World) (hn₀ : n₀ ≤ w.heap.size)
    (c1 : w.cell? ⟨Bf, 0, none⟩ = some (.int .i64 fr)) (c2 : w.cell? ⟨Be, 0, none⟩ = some (.int .i64 m)) (c3 : w.cell? ⟨Bb, 0, none⟩ = some (.int .i64 by_)) :
    SeqStopsK F n Try.prog 36 #[.pointer (some ⟨Bf, 0, none⟩), .pointer (some ⟨Be, 0, none⟩), .pointer (some ⟨Bb, 0, none⟩)] (fun x : Pl m => #[Value.int .i64 x.1]) (Below n₀) (fun ys => ys = xs) (fun pre => pre <+: xs) xs.length w := fun l J Jx W hW _ _ hY h0 =>
  places1_in F n h6 hro hn l Bf Be Bb n₀ m fr by_ xs hs hm hb0 hb1 hb2 hlt J Jx hY W ((hW.cell (p := ⟨Bf, 0, none⟩) (Nat.lt_of_lt_of_le hlt.1 hn₀)).trans c1) ((hW.cell (p := ⟨Be, 0, none⟩) (Nat.lt_of_lt_of_le hlt.2.1 hn₀)).trans c2) ((hW.cell (p := ⟨Bb, 0, none⟩) (Nat.lt_of_lt_of_le hlt.2.2 hn₀)).trans c3) h0
end Go.Proofs.Ytajnjghbppcfdaa
