/- slices.Clone at rows of floats. -/
import Derived.Test.YtajnjghbppcfdaaPick
import Derived.Laws.OwnMore
import Derived.Deep.RegionHeld
import Derived.Lib.SliceRun
namespace Go.Proofs.Ytajnjghbppcfdaa
open Go.RowKit Go.Shelf
attribute [local go_sem] Oper.semAt_some Option.isNone_none Option.isNone_some

theorem eql_some (w : World) (p : Addr) (n c : Nat) : (binOp .eql 22 (.slice (some p) n c) (.slice none 0 0)).run Try.prog w = .ok (.bool false) w :=
  Go.Lib.run_eql_slice_nil w 22 35 (some p) n c 0 0 Try.underlying22
theorem eql_none (w : World) (n c : Nat) : (binOp .eql 22 (.slice none n c) (.slice none 0 0)).run Try.prog w = .ok (.bool true) w :=
  Go.Lib.run_eql_slice_nil w 22 35 none n c 0 0 Try.underlying22

theorem isFl_cells {w : World} {p : Addr} {len : Nat} {l : List Nat} (h : IsFl w (some p) len l) (j : Nat) (u : Value) (hj : (l.map F)[j]? = some u) : w.cell? (p.add j) = some u := by
  have hj' : j < l.length := by
    have := (List.getElem?_eq_some_iff.mp hj).1
    simpa using this
  rcases h.2 with h0 | ⟨b', o', he, hc⟩
  · have := h.1; omega
  · cases he
    rw [List.getElem?_map, List.getElem?_eq_getElem hj'] at hj
    have := hc j hj'
    rw [List.getD_eq_getElem?_getD, List.getElem?_eq_getElem hj'] at this
    refine Eq.trans ?_ (this.trans ?_)
    · rw [Addr.add]; split <;> rename_i h0; · rw [h0]; rfl
      · rfl
    · simpa using hj

set_option maxHeartbeats 1000000 in
theorem clone_in (F_ : Fence) (n : Nat) (h35 : F_.fn 35) (hro : F_.round = none) (a : Option Addr) (len cap : Nat) (l : List Nat) (w : World) (hl : IsFl w a len l) (hm : len * 8 ≤ 140737488355328) :
    CallsIn F_ n Try.prog 35 #[.slice a len cap] w fun e W' => ∃ v, e = .returned v ∧ W'.ownsRow w.heap.size 35 1 v len (l.map F) ∧ Below w.heap.size w W' := by
  obtain ⟨i0, hi, hz0, hz1, hz2⟩ := info_parts info35
  refine callsIn_of_wp Try.func35 rfl h35 ?_ hro
  simp only [Try.ntmps35, List.size_toArray, List.length_cons, List.length_nil, Nat.reduceAdd, Nat.reduceSub, Array.replicate_succ, Array.replicate_zero, List.push_toArray, List.append_toArray, List.nil_append, List.cons_append]
  have hll := hl.1
  cases a with
  | none =>
    have h0 : len = 0 := by
      rcases hl.2 with h | ⟨b, o, h, _⟩
      · exact h
      · cases h
    subst h0
    have he := eql_none w 0 cap
    gi_wp2
    go_ret
    have hl0 : l = [] := List.length_eq_zero_iff.mp hll
    subst hl0
    exact ⟨_, rfl, World.ownsRow_nil _ _ _ _, Below.refl _ _⟩
  | some p =>
    have he := eql_some w p len cap
    have hown : (w.alloc (.cells #[] 35)).ownsRow w.heap.size 35 1 (.slice (some ⟨w.heap.size, 0, none⟩) 0 0) 0 [] := World.ownsRow_lit w #[] 0 (Nat.le_refl _) (by decide) rfl
    gi_wp2_with (gi_at_builtin; refine wpListIn_append_own _ rfl _ _ 22 rfl w.heap.size 35 i0 (.float .f64 0) 1 8 Try.underlying22 hi hz0 hz1 hz2 rfl (by decide) _ _ _ rfl hown p len cap (l.map F) rfl (by simp [hll]) ?c1 ?c2 ?c3 ?c4 ?c5 ?_)
    case c1 =>
      intro j u hj
      have := isFl_cells hl j u hj
      exact (World.cell?_alloc_some _ _ _ (by rw [this]; rfl)).trans this
    case c2 =>
      intro u hu
      obtain ⟨x, _, rfl⟩ := List.mem_map.mp hu
      rfl
    case c3 => unfold maxLen; omega
    case c4 => omega
    case c5 => simp
    intro v' w1 ho hg _
    gi_wp2
    go_ret
    exact ⟨_, rfl, by simpa using ho, ((Below.refl _ w).alloc (Nat.le_refl _) _).grown hg (by simp) (by intro k hk; simp [Value.ownBlock] at hk; omega)⟩
end Go.Proofs.Ytajnjghbppcfdaa
