/- perm.changed with opposite: those of a row at places have the other sign. -/
import Derived.Test.YtajnjghbppcfdaaClone
import Derived.RangeFuncCalls
import Derived.RangeFuncWrites
namespace Go.Proofs.Ytajnjghbppcfdaa
open Go.RowKit Go.Shelf
attribute [local go_sem] Oper.semAt_some
@[go_sem] theorem unary_neg_float (x : Nat) : Op.unary .neg (.float .f64 x) = pure (.float .f64 (Fl.fneg x)) := rfl

theorem abstract_any {F : Fence} {n : Nat} {P : Program} {md : Region.Mode} {ops : Array Oper} {Q : Exit → Act → World → Prop} {fuel : Nat} {listed : Array Bool} {a : Act} {w : World}
    (h : ∀ G : Nat → Array Bool → Act → Prop, (∀ f l a', wpAnyIn F n P md ops Q f l a' w → G f l a') → (∀ f l a', G f l a' → wpAnyIn F n P md ops Q f l a' w) → G fuel listed a) : wpAnyIn F n P md ops Q fuel listed a w :=
  h (fun f l a' => wpAnyIn F n P md ops Q f l a' w) (fun _ _ _ h => h) (fun _ _ _ h => h)

def chg (l : List Nat) {m : Nat} (xs : List (Pl m)) : List Nat := xs.foldl (fun l i => l.set i.1 (Fl.fneg (l.getD i.1 0))) l
theorem chg_snoc (l : List Nat) {m : Nat} (xs : List (Pl m)) (x : Pl m) : chg l (xs ++ [x]) = (chg l xs).set x.1 (Fl.fneg ((chg l xs).getD x.1 0)) := by simp [chg]
theorem chg_length (l : List Nat) {m : Nat} (xs : List (Pl m)) : (chg l xs).length = l.length := by
  unfold chg
  induction xs generalizing l with
  | nil => rfl
  | cons x xs ih => rw [List.foldl_cons, ih, List.length_set]

theorem opposite_in (F_ : Fence) (n : Nat) (h34 : F_.fn 34) (hro : F_.round = none) (x : Nat) (w : World) :
    CallsIn F_ n Try.prog 34 #[F x] w fun e w' => e = .returned (F (Fl.fneg x)) ∧ w' = w := by
  refine callsIn_of_wp Try.func34 rfl h34 ?_ hro
  simp only [Try.ntmps34, List.size_toArray, List.length_cons, List.length_nil, Nat.reduceAdd, Nat.reduceSub, Array.replicate_succ, Array.replicate_zero, List.push_toArray, List.append_toArray, List.nil_append, List.cons_append]
  gi_wp2
  go_ret
  exact ⟨rfl, rfl⟩

theorem ownsRow_isSlice {w : World} {base len : Nat} {v : Value} {l : List Value} (h : w.ownsRow base 35 1 v len l) : ∃ o cap, v = .slice o len cap := by
  rcases h.2 with ⟨rfl, rfl⟩ | ⟨g, cap, cur, rfl, _⟩
  · exact ⟨_, _, rfl⟩
  · exact ⟨_, _, rfl⟩

theorem ownsRow_base {w : World} {base base' len : Nat} {v : Value} {l : List Value} (h : w.ownsRow base 35 1 v len l) (hb : base' ≤ base) : w.ownsRow base' 35 1 v len l := by
  refine ⟨h.1, ?_⟩
  rcases h.2 with ⟨rfl, rfl⟩ | ⟨g, cap, cur, rfl, h1, h2⟩
  · exact .inl ⟨rfl, rfl⟩
  · exact .inr ⟨g, cap, cur, rfl, by omega, h2⟩

theorem ownsRow_posfacts {w : World} {base len : Nat} {v : Value} {l : List Nat} (h : w.ownsRow base 35 1 v len (l.map F)) (hp : 0 < len) :
    ∃ g cap, v = .slice (some ⟨g, 0, none⟩) len cap ∧ base ≤ g ∧ g < w.heap.size ∧ (∀ k, k < len → w.cell? ⟨g, k, none⟩ = some (F (l.getD k 0))) ∧ (∀ k, w.frozen? ⟨g, k, none⟩ = false) := by
  have hl : l.length = len := by have := h.1; simpa using this
  rcases h.2 with ⟨rfl, h0⟩ | ⟨g, cap, cur, rfl, hg, hh, hr⟩
  · omega
  · refine ⟨g, cap, rfl, hg, (Array.getElem?_eq_some_iff.1 hh).1, fun k hk => ?_, fun k => ?_⟩
    · rw [World.ownsRow.cellAt h k (by omega), List.getElem?_map, List.getElem?_eq_getElem (by omega), List.getD_eq_getElem?_getD, List.getElem?_eq_getElem (by omega)]
      rfl
    · simp [World.frozen?, show w.heap[g]? = _ from hh]

theorem stored_box {W : World} {n₀ B : Nat} {v : Value} {g len cap : Nat} {xs : List Value}
    (hv : Boxed W B 22 v) (hrow : W.ownsRow n₀ 35 1 (.slice (some ⟨g, 0, none⟩) len cap) len xs) (hn₀ : n₀ ≤ W.heap.size) {B2 : Nat} {u : Value} (hu : Boxed W B2 47 u) (j : Nat) (y : Value) :
    Boxed (W.setCell ⟨g, j, none⟩ y).drew B 22 v ∧ (W.setCell ⟨g, j, none⟩ y).drew.ownsRow n₀ 35 1 (.slice (some ⟨g, 0, none⟩) len cap) len (xs.set j y) ∧ KeepsOthers W (W.setCell ⟨g, j, none⟩ y).drew ∧ Below n₀ W (W.setCell ⟨g, j, none⟩ y).drew ∧ Boxed (W.setCell ⟨g, j, none⟩ y).drew B2 47 u := by
  obtain ⟨r, hg⟩ := hrow.stored j y
  have hgn : n₀ ≤ g := by
    rcases hrow.2 with ⟨h, _⟩ | ⟨g', cap', cur, h, h1, _⟩
    · simp at h
    · simp only [Value.slice.injEq, Option.some.injEq, Addr.mk.injEq, and_true, true_and] at h
      omega
  have hb : Below n₀ W (W.setCell ⟨g, j, none⟩ y) := (Below.refl _ W).grown hg hn₀ (by intro k hk; cases hk; exact hgn)
  exact ⟨show Boxed (W.setCell ⟨g, j, none⟩ y) B 22 v from hv.kept hg (hv.not_row (by decide) hrow), r, (KeepsOthers.setCell W _ _).trans (KeepsOthers.drew _), hb.trans ⟨rfl, rfl, rfl, Nat.le_refl _, fun _ _ => rfl⟩, show Boxed (W.setCell ⟨g, j, none⟩ y) B2 47 u from hu.kept hg (hu.not_row (by decide) hrow)⟩

set_option maxRecDepth 100000 in
set_option maxHeartbeats 2000000 in
theorem changed_in (F_ : Fence) (n : Nat) (h33 : F_.fn 33) (h34 : F_.fn 34) (h35 : F_.fn 35) (h36 : F_.fn 36) (hro : F_.round = none) (hn : 4 ≤ n) (a : Option Addr) (len cap : Nat) (l : List Nat) (w : World) (hl : IsFl w a len l) (h8 : len * 8 ≤ 140737488355328)
    (Bf Be Bb : Nat) (fr by_ : Int) (xs : List (Pl len)) (hs : Steps len xs fr by_) (hm : len ≤ 140737488351232)
    (hb0 : by_ ≠ 0) (hb1 : -2 ≤ by_) (hb2' : by_ ≤ 2) (hlt : Bf < w.heap.size ∧ Be < w.heap.size ∧ Bb < w.heap.size)
    (c1 : w.cell? ⟨Bf, 0, none⟩ = some (.int .i64 fr)) (c2 : w.cell? ⟨Be, 0, none⟩ = some (.int .i64 len)) (c3 : w.cell? ⟨Bb, 0, none⟩ = some (.int .i64 by_)) :
    CallsIn F_ n Try.prog 33 #[.slice a len cap, .func (.func 36) #[] #[.pointer (some ⟨Bf, 0, none⟩), .pointer (some ⟨Be, 0, none⟩), .pointer (some ⟨Bb, 0, none⟩)], .func (.func 34) #[] #[]] w
      fun e W' => ∃ v, e = .returned v ∧ W'.ownsRow w.heap.size 35 1 v len ((chg l xs).map F) ∧ Below w.heap.size w W' := by
  have h1 : 1 ≤ n := by omega
  refine callsIn_of_wp_marks Try.func33 rfl h33 ?_ hro
  simp only [Try.ntmps33, List.size_toArray, List.length_cons, List.length_nil, Nat.reduceAdd, Nat.reduceSub, Array.replicate_succ, Array.replicate_zero, List.push_toArray, List.append_toArray, List.nil_append, List.cons_append]
  gi_wp2_with (gi_at_call 35; refine (clone_in F_ _ h35 hro a len cap l _ (hl.below ((Below.refl _ w).alloc (Nat.le_refl _) _)) h8).mono ?_; rintro e w1 ⟨v, rfl, hown, hb⟩; obtain ⟨o, cap', rfl⟩ := ownsRow_isSlice hown)
  rw [World.size_alloc] at hown hb
  have bM := Boxed.new w 47 (.func (.func 34) #[] #[])
  have bO := Boxed.new w1 22 (.slice o len cap')
  have hb2 : Below w.heap.size w w1 := ((Below.refl _ w).alloc (Nat.le_refl _) _).trans (hb.mono (Nat.le_succ _))
  have bM1 : Boxed w1 w.heap.size 47 (.func (.func 34) #[] #[]) := (hb.block _ (Nat.lt_succ_self _)).trans bM
  have hsz : w.heap.size + 1 ≤ w1.heap.size := by have := hb.size; rw [World.size_alloc] at this; omega
  have hB0 : Below w.heap.size w (w1.alloc (.cells #[.slice o len cap'] 22)) := hb2.alloc (by omega) _
  refine wpIn_rangeFunc_ownG hro h1 (gf := 36) (lb := #[.pointer (some ⟨Bf, 0, none⟩), .pointer (some ⟨Be, 0, none⟩), .pointer (some ⟨Bb, 0, none⟩)]) rfl h36 (enters_of Try.func36 (by kernel_rfl) rfl)
    (places_stops F_ (n - 1) h36 hro (by omega) Bf Be Bb w.heap.size len fr by_ xs hs hm hb0 hb1 hb2' hlt _ hB0.size ((hB0.cell (p := ⟨Bf, 0, none⟩) hlt.1).trans c1) ((hB0.cell (p := ⟨Be, 0, none⟩) hlt.2.1).trans c2) ((hB0.cell (p := ⟨Bb, 0, none⟩) hlt.2.2).trans c3)) belowK_t (belowK_b (by simp; omega)) (Below.refl _ _) (fun _ => rfl)
    (fun pre W => ((∃ v, Boxed W w1.heap.size 22 v ∧ W.ownsRow w.heap.size 35 1 v len ((chg l pre).map F) ∧ True) ∧ Boxed W w.heap.size 47 (.func (.func 34) #[] #[])) ∧ Below w.heap.size w W)
    (fun _ _ _ => False)
    (OwnFrom.and (OwnFrom.and (Own.from (holdsRow_own w.heap.size w1.heap.size 22 35 1 (fun pre : List (Pl len) => len) (fun pre => (chg l pre).map F) (fun _ _ => True)) _) (Own.from (boxed_own w.heap.size 47 (fun _ => .func (.func 34) #[] #[])) _)) (ownFrom_below (Nat.le_refl _) (by simp; omega)))
    (fun _ _ _ _ _ hs _ _ => hs)
    ⟨⟨⟨_, bO, (ownsRow_base hown (Nat.le_succ _)).alloc _, trivial⟩, bM1.alloc _⟩, hB0⟩
    (fun x => { tmps := #[.slice a len cap, .func (.func 36) #[] #[.pointer (some ⟨Bf, 0, none⟩), .pointer (some ⟨Be, 0, none⟩), .pointer (some ⟨Bb, 0, none⟩)], .func (.func 34) #[] #[], undef, undef, .pointer (some ⟨w.heap.size, 0, none⟩), .slice none 0 0, .pointer (some ⟨w1.heap.size, 0, none⟩), .int .i64 x.1, .slice a len cap, .slice o len cap', .func (.func 36) #[] #[.pointer (some ⟨Bf, 0, none⟩), .pointer (some ⟨Be, 0, none⟩), .pointer (some ⟨Bb, 0, none⟩)], .int .i64 x.1, undef, undef, undef, undef, undef, undef, undef, undef, undef, undef], defers := [] }) ?assign ?body ?done ?stop
  case assign =>
    intro r x W K hK
    gi_wp2
    exact hK
  case body =>
    rintro r pre x W ⟨⟨⟨v, hv, hrow, _⟩, hbl⟩, hB⟩ hplt
    have hcv := hv.cell
    have hcl := hbl.cell
    have hx2 := x.2
    have hll : len = (chg l pre).length := by rw [chg_length, hl.1]
    obtain ⟨g, cap2, rfl, hg0, hg1, hcs, hfz⟩ := ownsRow_posfacts hrow (by omega)
    have hcx := hcs x.1 hx2
    have hfx := hfz x.1
    have hx0 : (0 : Int) ≤ (x.1 : Int) := by omega
    have hx3 : (x.1 : Int) < (len : Int) := by omega
    have hgb : g ≠ w1.heap.size := fun e => hv.not_row (by decide) hrow (by rw [e]; rfl)
    have hgm : g ≠ w.heap.size := fun e => hbl.not_row (by decide) hrow (by rw [e]; rfl)
    gi_wp2
    have hmx : Try.prog.follows .mixedOrders = true := by kernel_rfl
    refine wpIn_region_any hmx ?_
    change wpAnyIn _ _ _ _ _ _ _ _ _ (World.drew _)

    obtain ⟨y, hy⟩ : ∃ y, (chg l pre).getD x.1 0 = y := ⟨_, rfl⟩
    rw [hy] at hcx
    have hwl := hv.lt
    have hml := hbl.lt
    clear hll hcs hfz
    refine abstract_any ?_
    intro G hG1 hG2
    have s_012345678 : G 1 #[true, true, true, true, true, true, true, true, true, false] { tmps := #[.slice a len cap, .func (.func 36) #[] #[.pointer (some ⟨Bf, 0, none⟩), .pointer (some ⟨Be, 0, none⟩), .pointer (some ⟨Bb, 0, none⟩)], .func (.func 34) #[] #[], undef, undef, .pointer (some ⟨w.heap.size, 0, none⟩), .slice none 0 0, .pointer (some ⟨w1.heap.size, 0, none⟩), .int .i64 x.1, .slice a len cap, .slice o len cap', .func (.func 36) #[] #[.pointer (some ⟨Bf, 0, none⟩), .pointer (some ⟨Be, 0, none⟩), .pointer (some ⟨Bb, 0, none⟩)], .int .i64 x.1, .slice (some ⟨g, 0, none⟩) len cap2, .int .i64 x.1, .func (.func 34) #[] #[], .slice (some ⟨g, 0, none⟩) len cap2, .int .i64 x.1, .pointer (some ⟨g, x.1, none⟩), F y, F (Fl.fneg y), .pointer (some ⟨g, x.1, none⟩), undef], defers := [] } := by
      refine hG1 _ _ _ (wpAnyIn_ready (rs := [9]) (by kernel_rfl) (by simp) ?_)
      refine AllReadyIn.cons rfl (fun K hK => ?_) ?_
      · go_simp
        refine hK _ _ (wpAnyIn_done (by kernel_rfl) ?_ _)
        obtain ⟨hv2, hr2, hk2, hb2, hl2⟩ := stored_box hv hrow hB.size hbl x.1 (F (Fl.fneg y))
        exact ⟨hk2.from _, hb2, ⟨⟨⟨_, hv2, by rw [chg_snoc, hy, List.map_set]; exact hr2, trivial⟩, hl2⟩, hB.trans hb2⟩⟩
      exact AllReadyIn.nil
    have s_01234567 : G 2 #[true, true, true, true, true, true, true, true, false, false] { tmps := #[.slice a len cap, .func (.func 36) #[] #[.pointer (some ⟨Bf, 0, none⟩), .pointer (some ⟨Be, 0, none⟩), .pointer (some ⟨Bb, 0, none⟩)], .func (.func 34) #[] #[], undef, undef, .pointer (some ⟨w.heap.size, 0, none⟩), .slice none 0 0, .pointer (some ⟨w1.heap.size, 0, none⟩), .int .i64 x.1, .slice a len cap, .slice o len cap', .func (.func 36) #[] #[.pointer (some ⟨Bf, 0, none⟩), .pointer (some ⟨Be, 0, none⟩), .pointer (some ⟨Bb, 0, none⟩)], .int .i64 x.1, .slice (some ⟨g, 0, none⟩) len cap2, .int .i64 x.1, .func (.func 34) #[] #[], .slice (some ⟨g, 0, none⟩) len cap2, .int .i64 x.1, .pointer (some ⟨g, x.1, none⟩), F y, F (Fl.fneg y), undef, undef], defers := [] } := by
      refine hG1 _ _ _ (wpAnyIn_ready (rs := [8]) (by kernel_rfl) (by simp) ?_)
      refine AllReadyIn.cons rfl (fun K hK => ?_) ?_
      · go_simp
        exact hK _ _ (hG2 _ _ _ s_012345678)
      exact AllReadyIn.nil
    have s_0123456 : G 3 #[true, true, true, true, true, true, true, false, false, false] { tmps := #[.slice a len cap, .func (.func 36) #[] #[.pointer (some ⟨Bf, 0, none⟩), .pointer (some ⟨Be, 0, none⟩), .pointer (some ⟨Bb, 0, none⟩)], .func (.func 34) #[] #[], undef, undef, .pointer (some ⟨w.heap.size, 0, none⟩), .slice none 0 0, .pointer (some ⟨w1.heap.size, 0, none⟩), .int .i64 x.1, .slice a len cap, .slice o len cap', .func (.func 36) #[] #[.pointer (some ⟨Bf, 0, none⟩), .pointer (some ⟨Be, 0, none⟩), .pointer (some ⟨Bb, 0, none⟩)], .int .i64 x.1, .slice (some ⟨g, 0, none⟩) len cap2, .int .i64 x.1, .func (.func 34) #[] #[], .slice (some ⟨g, 0, none⟩) len cap2, .int .i64 x.1, .pointer (some ⟨g, x.1, none⟩), F y, undef, undef, undef], defers := [] } := by
      refine hG1 _ _ _ (wpAnyIn_ready (rs := [7]) (by kernel_rfl) (by simp) ?_)
      refine AllReadyIn.cons rfl (fun K hK => ?_) ?_
      · rw [if_pos (by rfl)]
        go_simp
        refine ⟨fun _ => by omega, ((opposite_in F_ (n - 1 - 1 - 1) h34 hro y W.drew).inRound r).mono ?_⟩
        rintro e w' ⟨rfl, rfl⟩
        exact hK _ _ (hG2 _ _ _ s_01234567)
      exact AllReadyIn.nil
    have s_0234567 : G 3 #[true, false, true, true, true, true, true, true, false, false] { tmps := #[.slice a len cap, .func (.func 36) #[] #[.pointer (some ⟨Bf, 0, none⟩), .pointer (some ⟨Be, 0, none⟩), .pointer (some ⟨Bb, 0, none⟩)], .func (.func 34) #[] #[], undef, undef, .pointer (some ⟨w.heap.size, 0, none⟩), .slice none 0 0, .pointer (some ⟨w1.heap.size, 0, none⟩), .int .i64 x.1, .slice a len cap, .slice o len cap', .func (.func 36) #[] #[.pointer (some ⟨Bf, 0, none⟩), .pointer (some ⟨Be, 0, none⟩), .pointer (some ⟨Bb, 0, none⟩)], .int .i64 x.1, .slice (some ⟨g, 0, none⟩) len cap2, undef, .func (.func 34) #[] #[], .slice (some ⟨g, 0, none⟩) len cap2, .int .i64 x.1, .pointer (some ⟨g, x.1, none⟩), F y, F (Fl.fneg y), undef, undef], defers := [] } := by
      refine hG1 _ _ _ (wpAnyIn_ready (rs := [1]) (by kernel_rfl) (by simp) ?_)
      refine AllReadyIn.cons rfl (fun K hK => ?_) ?_
      · go_simp
        exact hK _ _ (hG2 _ _ _ s_01234567)
      exact AllReadyIn.nil
    have s_1234567 : G 3 #[false, true, true, true, true, true, true, true, false, false] { tmps := #[.slice a len cap, .func (.func 36) #[] #[.pointer (some ⟨Bf, 0, none⟩), .pointer (some ⟨Be, 0, none⟩), .pointer (some ⟨Bb, 0, none⟩)], .func (.func 34) #[] #[], undef, undef, .pointer (some ⟨w.heap.size, 0, none⟩), .slice none 0 0, .pointer (some ⟨w1.heap.size, 0, none⟩), .int .i64 x.1, .slice a len cap, .slice o len cap', .func (.func 36) #[] #[.pointer (some ⟨Bf, 0, none⟩), .pointer (some ⟨Be, 0, none⟩), .pointer (some ⟨Bb, 0, none⟩)], .int .i64 x.1, undef, .int .i64 x.1, .func (.func 34) #[] #[], .slice (some ⟨g, 0, none⟩) len cap2, .int .i64 x.1, .pointer (some ⟨g, x.1, none⟩), F y, F (Fl.fneg y), undef, undef], defers := [] } := by
      refine hG1 _ _ _ (wpAnyIn_ready (rs := [0]) (by kernel_rfl) (by simp) ?_)
      refine AllReadyIn.cons rfl (fun K hK => ?_) ?_
      · go_simp
        exact hK _ _ (hG2 _ _ _ s_01234567)
      exact AllReadyIn.nil
    have s_012345 : G 4 #[true, true, true, true, true, true, false, false, false, false] { tmps := #[.slice a len cap, .func (.func 36) #[] #[.pointer (some ⟨Bf, 0, none⟩), .pointer (some ⟨Be, 0, none⟩), .pointer (some ⟨Bb, 0, none⟩)], .func (.func 34) #[] #[], undef, undef, .pointer (some ⟨w.heap.size, 0, none⟩), .slice none 0 0, .pointer (some ⟨w1.heap.size, 0, none⟩), .int .i64 x.1, .slice a len cap, .slice o len cap', .func (.func 36) #[] #[.pointer (some ⟨Bf, 0, none⟩), .pointer (some ⟨Be, 0, none⟩), .pointer (some ⟨Bb, 0, none⟩)], .int .i64 x.1, .slice (some ⟨g, 0, none⟩) len cap2, .int .i64 x.1, .func (.func 34) #[] #[], .slice (some ⟨g, 0, none⟩) len cap2, .int .i64 x.1, .pointer (some ⟨g, x.1, none⟩), undef, undef, undef, undef], defers := [] } := by
      refine hG1 _ _ _ (wpAnyIn_ready (rs := [6]) (by kernel_rfl) (by simp) ?_)
      refine AllReadyIn.cons rfl (fun K hK => ?_) ?_
      · go_simp
        exact hK _ _ (hG2 _ _ _ s_0123456)
      exact AllReadyIn.nil
    have s_013456 : G 4 #[true, true, false, true, true, true, true, false, false, false] { tmps := #[.slice a len cap, .func (.func 36) #[] #[.pointer (some ⟨Bf, 0, none⟩), .pointer (some ⟨Be, 0, none⟩), .pointer (some ⟨Bb, 0, none⟩)], .func (.func 34) #[] #[], undef, undef, .pointer (some ⟨w.heap.size, 0, none⟩), .slice none 0 0, .pointer (some ⟨w1.heap.size, 0, none⟩), .int .i64 x.1, .slice a len cap, .slice o len cap', .func (.func 36) #[] #[.pointer (some ⟨Bf, 0, none⟩), .pointer (some ⟨Be, 0, none⟩), .pointer (some ⟨Bb, 0, none⟩)], .int .i64 x.1, .slice (some ⟨g, 0, none⟩) len cap2, .int .i64 x.1, undef, .slice (some ⟨g, 0, none⟩) len cap2, .int .i64 x.1, .pointer (some ⟨g, x.1, none⟩), F y, undef, undef, undef], defers := [] } := by
      refine hG1 _ _ _ (wpAnyIn_ready (rs := [2]) (by kernel_rfl) (by simp) ?_)
      refine AllReadyIn.cons rfl (fun K hK => ?_) ?_
      · go_simp
        exact hK _ _ (hG2 _ _ _ s_0123456)
      exact AllReadyIn.nil
    have s_023456 : G 4 #[true, false, true, true, true, true, true, false, false, false] { tmps := #[.slice a len cap, .func (.func 36) #[] #[.pointer (some ⟨Bf, 0, none⟩), .pointer (some ⟨Be, 0, none⟩), .pointer (some ⟨Bb, 0, none⟩)], .func (.func 34) #[] #[], undef, undef, .pointer (some ⟨w.heap.size, 0, none⟩), .slice none 0 0, .pointer (some ⟨w1.heap.size, 0, none⟩), .int .i64 x.1, .slice a len cap, .slice o len cap', .func (.func 36) #[] #[.pointer (some ⟨Bf, 0, none⟩), .pointer (some ⟨Be, 0, none⟩), .pointer (some ⟨Bb, 0, none⟩)], .int .i64 x.1, .slice (some ⟨g, 0, none⟩) len cap2, undef, .func (.func 34) #[] #[], .slice (some ⟨g, 0, none⟩) len cap2, .int .i64 x.1, .pointer (some ⟨g, x.1, none⟩), F y, undef, undef, undef], defers := [] } := by
      refine hG1 _ _ _ (wpAnyIn_ready (rs := [1, 7]) (by kernel_rfl) (by simp) ?_)
      refine AllReadyIn.cons rfl (fun K hK => ?_) ?_
      · go_simp
        exact hK _ _ (hG2 _ _ _ s_0123456)
      refine AllReadyIn.cons rfl (fun K hK => ?_) ?_
      · rw [if_pos (by rfl)]
        go_simp
        refine ⟨fun _ => by omega, ((opposite_in F_ (n - 1 - 1 - 1) h34 hro y W.drew).inRound r).mono ?_⟩
        rintro e w' ⟨rfl, rfl⟩
        exact hK _ _ (hG2 _ _ _ s_0234567)
      exact AllReadyIn.nil
    have s_123456 : G 4 #[false, true, true, true, true, true, true, false, false, false] { tmps := #[.slice a len cap, .func (.func 36) #[] #[.pointer (some ⟨Bf, 0, none⟩), .pointer (some ⟨Be, 0, none⟩), .pointer (some ⟨Bb, 0, none⟩)], .func (.func 34) #[] #[], undef, undef, .pointer (some ⟨w.heap.size, 0, none⟩), .slice none 0 0, .pointer (some ⟨w1.heap.size, 0, none⟩), .int .i64 x.1, .slice a len cap, .slice o len cap', .func (.func 36) #[] #[.pointer (some ⟨Bf, 0, none⟩), .pointer (some ⟨Be, 0, none⟩), .pointer (some ⟨Bb, 0, none⟩)], .int .i64 x.1, undef, .int .i64 x.1, .func (.func 34) #[] #[], .slice (some ⟨g, 0, none⟩) len cap2, .int .i64 x.1, .pointer (some ⟨g, x.1, none⟩), F y, undef, undef, undef], defers := [] } := by
      refine hG1 _ _ _ (wpAnyIn_ready (rs := [0, 7]) (by kernel_rfl) (by simp) ?_)
      refine AllReadyIn.cons rfl (fun K hK => ?_) ?_
      · go_simp
        exact hK _ _ (hG2 _ _ _ s_0123456)
      refine AllReadyIn.cons rfl (fun K hK => ?_) ?_
      · rw [if_pos (by rfl)]
        go_simp
        refine ⟨fun _ => by omega, ((opposite_in F_ (n - 1 - 1 - 1) h34 hro y W.drew).inRound r).mono ?_⟩
        rintro e w' ⟨rfl, rfl⟩
        exact hK _ _ (hG2 _ _ _ s_1234567)
      exact AllReadyIn.nil
    have s_234567 : G 4 #[false, false, true, true, true, true, true, true, false, false] { tmps := #[.slice a len cap, .func (.func 36) #[] #[.pointer (some ⟨Bf, 0, none⟩), .pointer (some ⟨Be, 0, none⟩), .pointer (some ⟨Bb, 0, none⟩)], .func (.func 34) #[] #[], undef, undef, .pointer (some ⟨w.heap.size, 0, none⟩), .slice none 0 0, .pointer (some ⟨w1.heap.size, 0, none⟩), .int .i64 x.1, .slice a len cap, .slice o len cap', .func (.func 36) #[] #[.pointer (some ⟨Bf, 0, none⟩), .pointer (some ⟨Be, 0, none⟩), .pointer (some ⟨Bb, 0, none⟩)], .int .i64 x.1, undef, undef, .func (.func 34) #[] #[], .slice (some ⟨g, 0, none⟩) len cap2, .int .i64 x.1, .pointer (some ⟨g, x.1, none⟩), F y, F (Fl.fneg y), undef, undef], defers := [] } := by
      refine hG1 _ _ _ (wpAnyIn_ready (rs := [0, 1]) (by kernel_rfl) (by simp) ?_)
      refine AllReadyIn.cons rfl (fun K hK => ?_) ?_
      · go_simp
        exact hK _ _ (hG2 _ _ _ s_0234567)
      refine AllReadyIn.cons rfl (fun K hK => ?_) ?_
      · go_simp
        exact hK _ _ (hG2 _ _ _ s_1234567)
      exact AllReadyIn.nil
    have s_01234 : G 5 #[true, true, true, true, true, false, false, false, false, false] { tmps := #[.slice a len cap, .func (.func 36) #[] #[.pointer (some ⟨Bf, 0, none⟩), .pointer (some ⟨Be, 0, none⟩), .pointer (some ⟨Bb, 0, none⟩)], .func (.func 34) #[] #[], undef, undef, .pointer (some ⟨w.heap.size, 0, none⟩), .slice none 0 0, .pointer (some ⟨w1.heap.size, 0, none⟩), .int .i64 x.1, .slice a len cap, .slice o len cap', .func (.func 36) #[] #[.pointer (some ⟨Bf, 0, none⟩), .pointer (some ⟨Be, 0, none⟩), .pointer (some ⟨Bb, 0, none⟩)], .int .i64 x.1, .slice (some ⟨g, 0, none⟩) len cap2, .int .i64 x.1, .func (.func 34) #[] #[], .slice (some ⟨g, 0, none⟩) len cap2, .int .i64 x.1, undef, undef, undef, undef, undef], defers := [] } := by
      refine hG1 _ _ _ (wpAnyIn_ready (rs := [5]) (by kernel_rfl) (by simp) ?_)
      refine AllReadyIn.cons rfl (fun K hK => ?_) ?_
      · go_simp
        exact hK _ _ (hG2 _ _ _ s_012345)
      exact AllReadyIn.nil
    have s_01345 : G 5 #[true, true, false, true, true, true, false, false, false, false] { tmps := #[.slice a len cap, .func (.func 36) #[] #[.pointer (some ⟨Bf, 0, none⟩), .pointer (some ⟨Be, 0, none⟩), .pointer (some ⟨Bb, 0, none⟩)], .func (.func 34) #[] #[], undef, undef, .pointer (some ⟨w.heap.size, 0, none⟩), .slice none 0 0, .pointer (some ⟨w1.heap.size, 0, none⟩), .int .i64 x.1, .slice a len cap, .slice o len cap', .func (.func 36) #[] #[.pointer (some ⟨Bf, 0, none⟩), .pointer (some ⟨Be, 0, none⟩), .pointer (some ⟨Bb, 0, none⟩)], .int .i64 x.1, .slice (some ⟨g, 0, none⟩) len cap2, .int .i64 x.1, undef, .slice (some ⟨g, 0, none⟩) len cap2, .int .i64 x.1, .pointer (some ⟨g, x.1, none⟩), undef, undef, undef, undef], defers := [] } := by
      refine hG1 _ _ _ (wpAnyIn_ready (rs := [2, 6]) (by kernel_rfl) (by simp) ?_)
      refine AllReadyIn.cons rfl (fun K hK => ?_) ?_
      · go_simp
        exact hK _ _ (hG2 _ _ _ s_012345)
      refine AllReadyIn.cons rfl (fun K hK => ?_) ?_
      · go_simp
        exact hK _ _ (hG2 _ _ _ s_013456)
      exact AllReadyIn.nil
    have s_02345 : G 5 #[true, false, true, true, true, true, false, false, false, false] { tmps := #[.slice a len cap, .func (.func 36) #[] #[.pointer (some ⟨Bf, 0, none⟩), .pointer (some ⟨Be, 0, none⟩), .pointer (some ⟨Bb, 0, none⟩)], .func (.func 34) #[] #[], undef, undef, .pointer (some ⟨w.heap.size, 0, none⟩), .slice none 0 0, .pointer (some ⟨w1.heap.size, 0, none⟩), .int .i64 x.1, .slice a len cap, .slice o len cap', .func (.func 36) #[] #[.pointer (some ⟨Bf, 0, none⟩), .pointer (some ⟨Be, 0, none⟩), .pointer (some ⟨Bb, 0, none⟩)], .int .i64 x.1, .slice (some ⟨g, 0, none⟩) len cap2, undef, .func (.func 34) #[] #[], .slice (some ⟨g, 0, none⟩) len cap2, .int .i64 x.1, .pointer (some ⟨g, x.1, none⟩), undef, undef, undef, undef], defers := [] } := by
      refine hG1 _ _ _ (wpAnyIn_ready (rs := [1, 6]) (by kernel_rfl) (by simp) ?_)
      refine AllReadyIn.cons rfl (fun K hK => ?_) ?_
      · go_simp
        exact hK _ _ (hG2 _ _ _ s_012345)
      refine AllReadyIn.cons rfl (fun K hK => ?_) ?_
      · go_simp
        exact hK _ _ (hG2 _ _ _ s_023456)
      exact AllReadyIn.nil
    have s_03456 : G 5 #[true, false, false, true, true, true, true, false, false, false] { tmps := #[.slice a len cap, .func (.func 36) #[] #[.pointer (some ⟨Bf, 0, none⟩), .pointer (some ⟨Be, 0, none⟩), .pointer (some ⟨Bb, 0, none⟩)], .func (.func 34) #[] #[], undef, undef, .pointer (some ⟨w.heap.size, 0, none⟩), .slice none 0 0, .pointer (some ⟨w1.heap.size, 0, none⟩), .int .i64 x.1, .slice a len cap, .slice o len cap', .func (.func 36) #[] #[.pointer (some ⟨Bf, 0, none⟩), .pointer (some ⟨Be, 0, none⟩), .pointer (some ⟨Bb, 0, none⟩)], .int .i64 x.1, .slice (some ⟨g, 0, none⟩) len cap2, undef, undef, .slice (some ⟨g, 0, none⟩) len cap2, .int .i64 x.1, .pointer (some ⟨g, x.1, none⟩), F y, undef, undef, undef], defers := [] } := by
      refine hG1 _ _ _ (wpAnyIn_ready (rs := [1, 2]) (by kernel_rfl) (by simp) ?_)
      refine AllReadyIn.cons rfl (fun K hK => ?_) ?_
      · go_simp
        exact hK _ _ (hG2 _ _ _ s_013456)
      refine AllReadyIn.cons rfl (fun K hK => ?_) ?_
      · go_simp
        exact hK _ _ (hG2 _ _ _ s_023456)
      exact AllReadyIn.nil
    have s_12345 : G 5 #[false, true, true, true, true, true, false, false, false, false] { tmps := #[.slice a len cap, .func (.func 36) #[] #[.pointer (some ⟨Bf, 0, none⟩), .pointer (some ⟨Be, 0, none⟩), .pointer (some ⟨Bb, 0, none⟩)], .func (.func 34) #[] #[], undef, undef, .pointer (some ⟨w.heap.size, 0, none⟩), .slice none 0 0, .pointer (some ⟨w1.heap.size, 0, none⟩), .int .i64 x.1, .slice a len cap, .slice o len cap', .func (.func 36) #[] #[.pointer (some ⟨Bf, 0, none⟩), .pointer (some ⟨Be, 0, none⟩), .pointer (some ⟨Bb, 0, none⟩)], .int .i64 x.1, undef, .int .i64 x.1, .func (.func 34) #[] #[], .slice (some ⟨g, 0, none⟩) len cap2, .int .i64 x.1, .pointer (some ⟨g, x.1, none⟩), undef, undef, undef, undef], defers := [] } := by
      refine hG1 _ _ _ (wpAnyIn_ready (rs := [0, 6]) (by kernel_rfl) (by simp) ?_)
      refine AllReadyIn.cons rfl (fun K hK => ?_) ?_
      · go_simp
        exact hK _ _ (hG2 _ _ _ s_012345)
      refine AllReadyIn.cons rfl (fun K hK => ?_) ?_
      · go_simp
        exact hK _ _ (hG2 _ _ _ s_123456)
      exact AllReadyIn.nil
    have s_13456 : G 5 #[false, true, false, true, true, true, true, false, false, false] { tmps := #[.slice a len cap, .func (.func 36) #[] #[.pointer (some ⟨Bf, 0, none⟩), .pointer (some ⟨Be, 0, none⟩), .pointer (some ⟨Bb, 0, none⟩)], .func (.func 34) #[] #[], undef, undef, .pointer (some ⟨w.heap.size, 0, none⟩), .slice none 0 0, .pointer (some ⟨w1.heap.size, 0, none⟩), .int .i64 x.1, .slice a len cap, .slice o len cap', .func (.func 36) #[] #[.pointer (some ⟨Bf, 0, none⟩), .pointer (some ⟨Be, 0, none⟩), .pointer (some ⟨Bb, 0, none⟩)], .int .i64 x.1, undef, .int .i64 x.1, undef, .slice (some ⟨g, 0, none⟩) len cap2, .int .i64 x.1, .pointer (some ⟨g, x.1, none⟩), F y, undef, undef, undef], defers := [] } := by
      refine hG1 _ _ _ (wpAnyIn_ready (rs := [0, 2]) (by kernel_rfl) (by simp) ?_)
      refine AllReadyIn.cons rfl (fun K hK => ?_) ?_
      · go_simp
        exact hK _ _ (hG2 _ _ _ s_013456)
      refine AllReadyIn.cons rfl (fun K hK => ?_) ?_
      · go_simp
        exact hK _ _ (hG2 _ _ _ s_123456)
      exact AllReadyIn.nil
    have s_23456 : G 5 #[false, false, true, true, true, true, true, false, false, false] { tmps := #[.slice a len cap, .func (.func 36) #[] #[.pointer (some ⟨Bf, 0, none⟩), .pointer (some ⟨Be, 0, none⟩), .pointer (some ⟨Bb, 0, none⟩)], .func (.func 34) #[] #[], undef, undef, .pointer (some ⟨w.heap.size, 0, none⟩), .slice none 0 0, .pointer (some ⟨w1.heap.size, 0, none⟩), .int .i64 x.1, .slice a len cap, .slice o len cap', .func (.func 36) #[] #[.pointer (some ⟨Bf, 0, none⟩), .pointer (some ⟨Be, 0, none⟩), .pointer (some ⟨Bb, 0, none⟩)], .int .i64 x.1, undef, undef, .func (.func 34) #[] #[], .slice (some ⟨g, 0, none⟩) len cap2, .int .i64 x.1, .pointer (some ⟨g, x.1, none⟩), F y, undef, undef, undef], defers := [] } := by
      refine hG1 _ _ _ (wpAnyIn_ready (rs := [0, 1, 7]) (by kernel_rfl) (by simp) ?_)
      refine AllReadyIn.cons rfl (fun K hK => ?_) ?_
      · go_simp
        exact hK _ _ (hG2 _ _ _ s_023456)
      refine AllReadyIn.cons rfl (fun K hK => ?_) ?_
      · go_simp
        exact hK _ _ (hG2 _ _ _ s_123456)
      refine AllReadyIn.cons rfl (fun K hK => ?_) ?_
      · rw [if_pos (by rfl)]
        go_simp
        refine ⟨fun _ => by omega, ((opposite_in F_ (n - 1 - 1 - 1) h34 hro y W.drew).inRound r).mono ?_⟩
        rintro e w' ⟨rfl, rfl⟩
        exact hK _ _ (hG2 _ _ _ s_234567)
      exact AllReadyIn.nil
    have s_0123 : G 6 #[true, true, true, true, false, false, false, false, false, false] { tmps := #[.slice a len cap, .func (.func 36) #[] #[.pointer (some ⟨Bf, 0, none⟩), .pointer (some ⟨Be, 0, none⟩), .pointer (some ⟨Bb, 0, none⟩)], .func (.func 34) #[] #[], undef, undef, .pointer (some ⟨w.heap.size, 0, none⟩), .slice none 0 0, .pointer (some ⟨w1.heap.size, 0, none⟩), .int .i64 x.1, .slice a len cap, .slice o len cap', .func (.func 36) #[] #[.pointer (some ⟨Bf, 0, none⟩), .pointer (some ⟨Be, 0, none⟩), .pointer (some ⟨Bb, 0, none⟩)], .int .i64 x.1, .slice (some ⟨g, 0, none⟩) len cap2, .int .i64 x.1, .func (.func 34) #[] #[], .slice (some ⟨g, 0, none⟩) len cap2, undef, undef, undef, undef, undef, undef], defers := [] } := by
      refine hG1 _ _ _ (wpAnyIn_ready (rs := [4]) (by kernel_rfl) (by simp) ?_)
      refine AllReadyIn.cons rfl (fun K hK => ?_) ?_
      · go_simp
        exact hK _ _ (hG2 _ _ _ s_01234)
      exact AllReadyIn.nil
    have s_0124 : G 6 #[true, true, true, false, true, false, false, false, false, false] { tmps := #[.slice a len cap, .func (.func 36) #[] #[.pointer (some ⟨Bf, 0, none⟩), .pointer (some ⟨Be, 0, none⟩), .pointer (some ⟨Bb, 0, none⟩)], .func (.func 34) #[] #[], undef, undef, .pointer (some ⟨w.heap.size, 0, none⟩), .slice none 0 0, .pointer (some ⟨w1.heap.size, 0, none⟩), .int .i64 x.1, .slice a len cap, .slice o len cap', .func (.func 36) #[] #[.pointer (some ⟨Bf, 0, none⟩), .pointer (some ⟨Be, 0, none⟩), .pointer (some ⟨Bb, 0, none⟩)], .int .i64 x.1, .slice (some ⟨g, 0, none⟩) len cap2, .int .i64 x.1, .func (.func 34) #[] #[], undef, .int .i64 x.1, undef, undef, undef, undef, undef], defers := [] } := by
      refine hG1 _ _ _ (wpAnyIn_ready (rs := [3]) (by kernel_rfl) (by simp) ?_)
      refine AllReadyIn.cons rfl (fun K hK => ?_) ?_
      · go_simp
        exact hK _ _ (hG2 _ _ _ s_01234)
      exact AllReadyIn.nil
    have s_0134 : G 6 #[true, true, false, true, true, false, false, false, false, false] { tmps := #[.slice a len cap, .func (.func 36) #[] #[.pointer (some ⟨Bf, 0, none⟩), .pointer (some ⟨Be, 0, none⟩), .pointer (some ⟨Bb, 0, none⟩)], .func (.func 34) #[] #[], undef, undef, .pointer (some ⟨w.heap.size, 0, none⟩), .slice none 0 0, .pointer (some ⟨w1.heap.size, 0, none⟩), .int .i64 x.1, .slice a len cap, .slice o len cap', .func (.func 36) #[] #[.pointer (some ⟨Bf, 0, none⟩), .pointer (some ⟨Be, 0, none⟩), .pointer (some ⟨Bb, 0, none⟩)], .int .i64 x.1, .slice (some ⟨g, 0, none⟩) len cap2, .int .i64 x.1, undef, .slice (some ⟨g, 0, none⟩) len cap2, .int .i64 x.1, undef, undef, undef, undef, undef], defers := [] } := by
      refine hG1 _ _ _ (wpAnyIn_ready (rs := [2, 5]) (by kernel_rfl) (by simp) ?_)
      refine AllReadyIn.cons rfl (fun K hK => ?_) ?_
      · go_simp
        exact hK _ _ (hG2 _ _ _ s_01234)
      refine AllReadyIn.cons rfl (fun K hK => ?_) ?_
      · go_simp
        exact hK _ _ (hG2 _ _ _ s_01345)
      exact AllReadyIn.nil
    have s_0234 : G 6 #[true, false, true, true, true, false, false, false, false, false] { tmps := #[.slice a len cap, .func (.func 36) #[] #[.pointer (some ⟨Bf, 0, none⟩), .pointer (some ⟨Be, 0, none⟩), .pointer (some ⟨Bb, 0, none⟩)], .func (.func 34) #[] #[], undef, undef, .pointer (some ⟨w.heap.size, 0, none⟩), .slice none 0 0, .pointer (some ⟨w1.heap.size, 0, none⟩), .int .i64 x.1, .slice a len cap, .slice o len cap', .func (.func 36) #[] #[.pointer (some ⟨Bf, 0, none⟩), .pointer (some ⟨Be, 0, none⟩), .pointer (some ⟨Bb, 0, none⟩)], .int .i64 x.1, .slice (some ⟨g, 0, none⟩) len cap2, undef, .func (.func 34) #[] #[], .slice (some ⟨g, 0, none⟩) len cap2, .int .i64 x.1, undef, undef, undef, undef, undef], defers := [] } := by
      refine hG1 _ _ _ (wpAnyIn_ready (rs := [1, 5]) (by kernel_rfl) (by simp) ?_)
      refine AllReadyIn.cons rfl (fun K hK => ?_) ?_
      · go_simp
        exact hK _ _ (hG2 _ _ _ s_01234)
      refine AllReadyIn.cons rfl (fun K hK => ?_) ?_
      · go_simp
        exact hK _ _ (hG2 _ _ _ s_02345)
      exact AllReadyIn.nil
    have s_0345 : G 6 #[true, false, false, true, true, true, false, false, false, false] { tmps := #[.slice a len cap, .func (.func 36) #[] #[.pointer (some ⟨Bf, 0, none⟩), .pointer (some ⟨Be, 0, none⟩), .pointer (some ⟨Bb, 0, none⟩)], .func (.func 34) #[] #[], undef, undef, .pointer (some ⟨w.heap.size, 0, none⟩), .slice none 0 0, .pointer (some ⟨w1.heap.size, 0, none⟩), .int .i64 x.1, .slice a len cap, .slice o len cap', .func (.func 36) #[] #[.pointer (some ⟨Bf, 0, none⟩), .pointer (some ⟨Be, 0, none⟩), .pointer (some ⟨Bb, 0, none⟩)], .int .i64 x.1, .slice (some ⟨g, 0, none⟩) len cap2, undef, undef, .slice (some ⟨g, 0, none⟩) len cap2, .int .i64 x.1, .pointer (some ⟨g, x.1, none⟩), undef, undef, undef, undef], defers := [] } := by
      refine hG1 _ _ _ (wpAnyIn_ready (rs := [1, 2, 6]) (by kernel_rfl) (by simp) ?_)
      refine AllReadyIn.cons rfl (fun K hK => ?_) ?_
      · go_simp
        exact hK _ _ (hG2 _ _ _ s_01345)
      refine AllReadyIn.cons rfl (fun K hK => ?_) ?_
      · go_simp
        exact hK _ _ (hG2 _ _ _ s_02345)
      refine AllReadyIn.cons rfl (fun K hK => ?_) ?_
      · go_simp
        exact hK _ _ (hG2 _ _ _ s_03456)
      exact AllReadyIn.nil
    have s_1234 : G 6 #[false, true, true, true, true, false, false, false, false, false] { tmps := #[.slice a len cap, .func (.func 36) #[] #[.pointer (some ⟨Bf, 0, none⟩), .pointer (some ⟨Be, 0, none⟩), .pointer (some ⟨Bb, 0, none⟩)], .func (.func 34) #[] #[], undef, undef, .pointer (some ⟨w.heap.size, 0, none⟩), .slice none 0 0, .pointer (some ⟨w1.heap.size, 0, none⟩), .int .i64 x.1, .slice a len cap, .slice o len cap', .func (.func 36) #[] #[.pointer (some ⟨Bf, 0, none⟩), .pointer (some ⟨Be, 0, none⟩), .pointer (some ⟨Bb, 0, none⟩)], .int .i64 x.1, undef, .int .i64 x.1, .func (.func 34) #[] #[], .slice (some ⟨g, 0, none⟩) len cap2, .int .i64 x.1, undef, undef, undef, undef, undef], defers := [] } := by
      refine hG1 _ _ _ (wpAnyIn_ready (rs := [0, 5]) (by kernel_rfl) (by simp) ?_)
      refine AllReadyIn.cons rfl (fun K hK => ?_) ?_
      · go_simp
        exact hK _ _ (hG2 _ _ _ s_01234)
      refine AllReadyIn.cons rfl (fun K hK => ?_) ?_
      · go_simp
        exact hK _ _ (hG2 _ _ _ s_12345)
      exact AllReadyIn.nil
    have s_1345 : G 6 #[false, true, false, true, true, true, false, false, false, false] { tmps := #[.slice a len cap, .func (.func 36) #[] #[.pointer (some ⟨Bf, 0, none⟩), .pointer (some ⟨Be, 0, none⟩), .pointer (some ⟨Bb, 0, none⟩)], .func (.func 34) #[] #[], undef, undef, .pointer (some ⟨w.heap.size, 0, none⟩), .slice none 0 0, .pointer (some ⟨w1.heap.size, 0, none⟩), .int .i64 x.1, .slice a len cap, .slice o len cap', .func (.func 36) #[] #[.pointer (some ⟨Bf, 0, none⟩), .pointer (some ⟨Be, 0, none⟩), .pointer (some ⟨Bb, 0, none⟩)], .int .i64 x.1, undef, .int .i64 x.1, undef, .slice (some ⟨g, 0, none⟩) len cap2, .int .i64 x.1, .pointer (some ⟨g, x.1, none⟩), undef, undef, undef, undef], defers := [] } := by
      refine hG1 _ _ _ (wpAnyIn_ready (rs := [0, 2, 6]) (by kernel_rfl) (by simp) ?_)
      refine AllReadyIn.cons rfl (fun K hK => ?_) ?_
      · go_simp
        exact hK _ _ (hG2 _ _ _ s_01345)
      refine AllReadyIn.cons rfl (fun K hK => ?_) ?_
      · go_simp
        exact hK _ _ (hG2 _ _ _ s_12345)
      refine AllReadyIn.cons rfl (fun K hK => ?_) ?_
      · go_simp
        exact hK _ _ (hG2 _ _ _ s_13456)
      exact AllReadyIn.nil
    have s_2345 : G 6 #[false, false, true, true, true, true, false, false, false, false] { tmps := #[.slice a len cap, .func (.func 36) #[] #[.pointer (some ⟨Bf, 0, none⟩), .pointer (some ⟨Be, 0, none⟩), .pointer (some ⟨Bb, 0, none⟩)], .func (.func 34) #[] #[], undef, undef, .pointer (some ⟨w.heap.size, 0, none⟩), .slice none 0 0, .pointer (some ⟨w1.heap.size, 0, none⟩), .int .i64 x.1, .slice a len cap, .slice o len cap', .func (.func 36) #[] #[.pointer (some ⟨Bf, 0, none⟩), .pointer (some ⟨Be, 0, none⟩), .pointer (some ⟨Bb, 0, none⟩)], .int .i64 x.1, undef, undef, .func (.func 34) #[] #[], .slice (some ⟨g, 0, none⟩) len cap2, .int .i64 x.1, .pointer (some ⟨g, x.1, none⟩), undef, undef, undef, undef], defers := [] } := by
      refine hG1 _ _ _ (wpAnyIn_ready (rs := [0, 1, 6]) (by kernel_rfl) (by simp) ?_)
      refine AllReadyIn.cons rfl (fun K hK => ?_) ?_
      · go_simp
        exact hK _ _ (hG2 _ _ _ s_02345)
      refine AllReadyIn.cons rfl (fun K hK => ?_) ?_
      · go_simp
        exact hK _ _ (hG2 _ _ _ s_12345)
      refine AllReadyIn.cons rfl (fun K hK => ?_) ?_
      · go_simp
        exact hK _ _ (hG2 _ _ _ s_23456)
      exact AllReadyIn.nil
    have s_3456 : G 6 #[false, false, false, true, true, true, true, false, false, false] { tmps := #[.slice a len cap, .func (.func 36) #[] #[.pointer (some ⟨Bf, 0, none⟩), .pointer (some ⟨Be, 0, none⟩), .pointer (some ⟨Bb, 0, none⟩)], .func (.func 34) #[] #[], undef, undef, .pointer (some ⟨w.heap.size, 0, none⟩), .slice none 0 0, .pointer (some ⟨w1.heap.size, 0, none⟩), .int .i64 x.1, .slice a len cap, .slice o len cap', .func (.func 36) #[] #[.pointer (some ⟨Bf, 0, none⟩), .pointer (some ⟨Be, 0, none⟩), .pointer (some ⟨Bb, 0, none⟩)], .int .i64 x.1, undef, undef, undef, .slice (some ⟨g, 0, none⟩) len cap2, .int .i64 x.1, .pointer (some ⟨g, x.1, none⟩), F y, undef, undef, undef], defers := [] } := by
      refine hG1 _ _ _ (wpAnyIn_ready (rs := [0, 1, 2]) (by kernel_rfl) (by simp) ?_)
      refine AllReadyIn.cons rfl (fun K hK => ?_) ?_
      · go_simp
        exact hK _ _ (hG2 _ _ _ s_03456)
      refine AllReadyIn.cons rfl (fun K hK => ?_) ?_
      · go_simp
        exact hK _ _ (hG2 _ _ _ s_13456)
      refine AllReadyIn.cons rfl (fun K hK => ?_) ?_
      · go_simp
        exact hK _ _ (hG2 _ _ _ s_23456)
      exact AllReadyIn.nil
    have s_012 : G 7 #[true, true, true, false, false, false, false, false, false, false] { tmps := #[.slice a len cap, .func (.func 36) #[] #[.pointer (some ⟨Bf, 0, none⟩), .pointer (some ⟨Be, 0, none⟩), .pointer (some ⟨Bb, 0, none⟩)], .func (.func 34) #[] #[], undef, undef, .pointer (some ⟨w.heap.size, 0, none⟩), .slice none 0 0, .pointer (some ⟨w1.heap.size, 0, none⟩), .int .i64 x.1, .slice a len cap, .slice o len cap', .func (.func 36) #[] #[.pointer (some ⟨Bf, 0, none⟩), .pointer (some ⟨Be, 0, none⟩), .pointer (some ⟨Bb, 0, none⟩)], .int .i64 x.1, .slice (some ⟨g, 0, none⟩) len cap2, .int .i64 x.1, .func (.func 34) #[] #[], undef, undef, undef, undef, undef, undef, undef], defers := [] } := by
      refine hG1 _ _ _ (wpAnyIn_ready (rs := [3, 4]) (by kernel_rfl) (by simp) ?_)
      refine AllReadyIn.cons rfl (fun K hK => ?_) ?_
      · go_simp
        exact hK _ _ (hG2 _ _ _ s_0123)
      refine AllReadyIn.cons rfl (fun K hK => ?_) ?_
      · go_simp
        exact hK _ _ (hG2 _ _ _ s_0124)
      exact AllReadyIn.nil
    have s_013 : G 7 #[true, true, false, true, false, false, false, false, false, false] { tmps := #[.slice a len cap, .func (.func 36) #[] #[.pointer (some ⟨Bf, 0, none⟩), .pointer (some ⟨Be, 0, none⟩), .pointer (some ⟨Bb, 0, none⟩)], .func (.func 34) #[] #[], undef, undef, .pointer (some ⟨w.heap.size, 0, none⟩), .slice none 0 0, .pointer (some ⟨w1.heap.size, 0, none⟩), .int .i64 x.1, .slice a len cap, .slice o len cap', .func (.func 36) #[] #[.pointer (some ⟨Bf, 0, none⟩), .pointer (some ⟨Be, 0, none⟩), .pointer (some ⟨Bb, 0, none⟩)], .int .i64 x.1, .slice (some ⟨g, 0, none⟩) len cap2, .int .i64 x.1, undef, .slice (some ⟨g, 0, none⟩) len cap2, undef, undef, undef, undef, undef, undef], defers := [] } := by
      refine hG1 _ _ _ (wpAnyIn_ready (rs := [2, 4]) (by kernel_rfl) (by simp) ?_)
      refine AllReadyIn.cons rfl (fun K hK => ?_) ?_
      · go_simp
        exact hK _ _ (hG2 _ _ _ s_0123)
      refine AllReadyIn.cons rfl (fun K hK => ?_) ?_
      · go_simp
        exact hK _ _ (hG2 _ _ _ s_0134)
      exact AllReadyIn.nil
    have s_014 : G 7 #[true, true, false, false, true, false, false, false, false, false] { tmps := #[.slice a len cap, .func (.func 36) #[] #[.pointer (some ⟨Bf, 0, none⟩), .pointer (some ⟨Be, 0, none⟩), .pointer (some ⟨Bb, 0, none⟩)], .func (.func 34) #[] #[], undef, undef, .pointer (some ⟨w.heap.size, 0, none⟩), .slice none 0 0, .pointer (some ⟨w1.heap.size, 0, none⟩), .int .i64 x.1, .slice a len cap, .slice o len cap', .func (.func 36) #[] #[.pointer (some ⟨Bf, 0, none⟩), .pointer (some ⟨Be, 0, none⟩), .pointer (some ⟨Bb, 0, none⟩)], .int .i64 x.1, .slice (some ⟨g, 0, none⟩) len cap2, .int .i64 x.1, undef, undef, .int .i64 x.1, undef, undef, undef, undef, undef], defers := [] } := by
      refine hG1 _ _ _ (wpAnyIn_ready (rs := [2, 3]) (by kernel_rfl) (by simp) ?_)
      refine AllReadyIn.cons rfl (fun K hK => ?_) ?_
      · go_simp
        exact hK _ _ (hG2 _ _ _ s_0124)
      refine AllReadyIn.cons rfl (fun K hK => ?_) ?_
      · go_simp
        exact hK _ _ (hG2 _ _ _ s_0134)
      exact AllReadyIn.nil
    have s_023 : G 7 #[true, false, true, true, false, false, false, false, false, false] { tmps := #[.slice a len cap, .func (.func 36) #[] #[.pointer (some ⟨Bf, 0, none⟩), .pointer (some ⟨Be, 0, none⟩), .pointer (some ⟨Bb, 0, none⟩)], .func (.func 34) #[] #[], undef, undef, .pointer (some ⟨w.heap.size, 0, none⟩), .slice none 0 0, .pointer (some ⟨w1.heap.size, 0, none⟩), .int .i64 x.1, .slice a len cap, .slice o len cap', .func (.func 36) #[] #[.pointer (some ⟨Bf, 0, none⟩), .pointer (some ⟨Be, 0, none⟩), .pointer (some ⟨Bb, 0, none⟩)], .int .i64 x.1, .slice (some ⟨g, 0, none⟩) len cap2, undef, .func (.func 34) #[] #[], .slice (some ⟨g, 0, none⟩) len cap2, undef, undef, undef, undef, undef, undef], defers := [] } := by
      refine hG1 _ _ _ (wpAnyIn_ready (rs := [1, 4]) (by kernel_rfl) (by simp) ?_)
      refine AllReadyIn.cons rfl (fun K hK => ?_) ?_
      · go_simp
        exact hK _ _ (hG2 _ _ _ s_0123)
      refine AllReadyIn.cons rfl (fun K hK => ?_) ?_
      · go_simp
        exact hK _ _ (hG2 _ _ _ s_0234)
      exact AllReadyIn.nil
    have s_024 : G 7 #[true, false, true, false, true, false, false, false, false, false] { tmps := #[.slice a len cap, .func (.func 36) #[] #[.pointer (some ⟨Bf, 0, none⟩), .pointer (some ⟨Be, 0, none⟩), .pointer (some ⟨Bb, 0, none⟩)], .func (.func 34) #[] #[], undef, undef, .pointer (some ⟨w.heap.size, 0, none⟩), .slice none 0 0, .pointer (some ⟨w1.heap.size, 0, none⟩), .int .i64 x.1, .slice a len cap, .slice o len cap', .func (.func 36) #[] #[.pointer (some ⟨Bf, 0, none⟩), .pointer (some ⟨Be, 0, none⟩), .pointer (some ⟨Bb, 0, none⟩)], .int .i64 x.1, .slice (some ⟨g, 0, none⟩) len cap2, undef, .func (.func 34) #[] #[], undef, .int .i64 x.1, undef, undef, undef, undef, undef], defers := [] } := by
      refine hG1 _ _ _ (wpAnyIn_ready (rs := [1, 3]) (by kernel_rfl) (by simp) ?_)
      refine AllReadyIn.cons rfl (fun K hK => ?_) ?_
      · go_simp
        exact hK _ _ (hG2 _ _ _ s_0124)
      refine AllReadyIn.cons rfl (fun K hK => ?_) ?_
      · go_simp
        exact hK _ _ (hG2 _ _ _ s_0234)
      exact AllReadyIn.nil
    have s_034 : G 7 #[true, false, false, true, true, false, false, false, false, false] { tmps := #[.slice a len cap, .func (.func 36) #[] #[.pointer (some ⟨Bf, 0, none⟩), .pointer (some ⟨Be, 0, none⟩), .pointer (some ⟨Bb, 0, none⟩)], .func (.func 34) #[] #[], undef, undef, .pointer (some ⟨w.heap.size, 0, none⟩), .slice none 0 0, .pointer (some ⟨w1.heap.size, 0, none⟩), .int .i64 x.1, .slice a len cap, .slice o len cap', .func (.func 36) #[] #[.pointer (some ⟨Bf, 0, none⟩), .pointer (some ⟨Be, 0, none⟩), .pointer (some ⟨Bb, 0, none⟩)], .int .i64 x.1, .slice (some ⟨g, 0, none⟩) len cap2, undef, undef, .slice (some ⟨g, 0, none⟩) len cap2, .int .i64 x.1, undef, undef, undef, undef, undef], defers := [] } := by
      refine hG1 _ _ _ (wpAnyIn_ready (rs := [1, 2, 5]) (by kernel_rfl) (by simp) ?_)
      refine AllReadyIn.cons rfl (fun K hK => ?_) ?_
      · go_simp
        exact hK _ _ (hG2 _ _ _ s_0134)
      refine AllReadyIn.cons rfl (fun K hK => ?_) ?_
      · go_simp
        exact hK _ _ (hG2 _ _ _ s_0234)
      refine AllReadyIn.cons rfl (fun K hK => ?_) ?_
      · go_simp
        exact hK _ _ (hG2 _ _ _ s_0345)
      exact AllReadyIn.nil
    have s_123 : G 7 #[false, true, true, true, false, false, false, false, false, false] { tmps := #[.slice a len cap, .func (.func 36) #[] #[.pointer (some ⟨Bf, 0, none⟩), .pointer (some ⟨Be, 0, none⟩), .pointer (some ⟨Bb, 0, none⟩)], .func (.func 34) #[] #[], undef, undef, .pointer (some ⟨w.heap.size, 0, none⟩), .slice none 0 0, .pointer (some ⟨w1.heap.size, 0, none⟩), .int .i64 x.1, .slice a len cap, .slice o len cap', .func (.func 36) #[] #[.pointer (some ⟨Bf, 0, none⟩), .pointer (some ⟨Be, 0, none⟩), .pointer (some ⟨Bb, 0, none⟩)], .int .i64 x.1, undef, .int .i64 x.1, .func (.func 34) #[] #[], .slice (some ⟨g, 0, none⟩) len cap2, undef, undef, undef, undef, undef, undef], defers := [] } := by
      refine hG1 _ _ _ (wpAnyIn_ready (rs := [0, 4]) (by kernel_rfl) (by simp) ?_)
      refine AllReadyIn.cons rfl (fun K hK => ?_) ?_
      · go_simp
        exact hK _ _ (hG2 _ _ _ s_0123)
      refine AllReadyIn.cons rfl (fun K hK => ?_) ?_
      · go_simp
        exact hK _ _ (hG2 _ _ _ s_1234)
      exact AllReadyIn.nil
    have s_124 : G 7 #[false, true, true, false, true, false, false, false, false, false] { tmps := #[.slice a len cap, .func (.func 36) #[] #[.pointer (some ⟨Bf, 0, none⟩), .pointer (some ⟨Be, 0, none⟩), .pointer (some ⟨Bb, 0, none⟩)], .func (.func 34) #[] #[], undef, undef, .pointer (some ⟨w.heap.size, 0, none⟩), .slice none 0 0, .pointer (some ⟨w1.heap.size, 0, none⟩), .int .i64 x.1, .slice a len cap, .slice o len cap', .func (.func 36) #[] #[.pointer (some ⟨Bf, 0, none⟩), .pointer (some ⟨Be, 0, none⟩), .pointer (some ⟨Bb, 0, none⟩)], .int .i64 x.1, undef, .int .i64 x.1, .func (.func 34) #[] #[], undef, .int .i64 x.1, undef, undef, undef, undef, undef], defers := [] } := by
      refine hG1 _ _ _ (wpAnyIn_ready (rs := [0, 3]) (by kernel_rfl) (by simp) ?_)
      refine AllReadyIn.cons rfl (fun K hK => ?_) ?_
      · go_simp
        exact hK _ _ (hG2 _ _ _ s_0124)
      refine AllReadyIn.cons rfl (fun K hK => ?_) ?_
      · go_simp
        exact hK _ _ (hG2 _ _ _ s_1234)
      exact AllReadyIn.nil
    have s_134 : G 7 #[false, true, false, true, true, false, false, false, false, false] { tmps := #[.slice a len cap, .func (.func 36) #[] #[.pointer (some ⟨Bf, 0, none⟩), .pointer (some ⟨Be, 0, none⟩), .pointer (some ⟨Bb, 0, none⟩)], .func (.func 34) #[] #[], undef, undef, .pointer (some ⟨w.heap.size, 0, none⟩), .slice none 0 0, .pointer (some ⟨w1.heap.size, 0, none⟩), .int .i64 x.1, .slice a len cap, .slice o len cap', .func (.func 36) #[] #[.pointer (some ⟨Bf, 0, none⟩), .pointer (some ⟨Be, 0, none⟩), .pointer (some ⟨Bb, 0, none⟩)], .int .i64 x.1, undef, .int .i64 x.1, undef, .slice (some ⟨g, 0, none⟩) len cap2, .int .i64 x.1, undef, undef, undef, undef, undef], defers := [] } := by
      refine hG1 _ _ _ (wpAnyIn_ready (rs := [0, 2, 5]) (by kernel_rfl) (by simp) ?_)
      refine AllReadyIn.cons rfl (fun K hK => ?_) ?_
      · go_simp
        exact hK _ _ (hG2 _ _ _ s_0134)
      refine AllReadyIn.cons rfl (fun K hK => ?_) ?_
      · go_simp
        exact hK _ _ (hG2 _ _ _ s_1234)
      refine AllReadyIn.cons rfl (fun K hK => ?_) ?_
      · go_simp
        exact hK _ _ (hG2 _ _ _ s_1345)
      exact AllReadyIn.nil
    have s_234 : G 7 #[false, false, true, true, true, false, false, false, false, false] { tmps := #[.slice a len cap, .func (.func 36) #[] #[.pointer (some ⟨Bf, 0, none⟩), .pointer (some ⟨Be, 0, none⟩), .pointer (some ⟨Bb, 0, none⟩)], .func (.func 34) #[] #[], undef, undef, .pointer (some ⟨w.heap.size, 0, none⟩), .slice none 0 0, .pointer (some ⟨w1.heap.size, 0, none⟩), .int .i64 x.1, .slice a len cap, .slice o len cap', .func (.func 36) #[] #[.pointer (some ⟨Bf, 0, none⟩), .pointer (some ⟨Be, 0, none⟩), .pointer (some ⟨Bb, 0, none⟩)], .int .i64 x.1, undef, undef, .func (.func 34) #[] #[], .slice (some ⟨g, 0, none⟩) len cap2, .int .i64 x.1, undef, undef, undef, undef, undef], defers := [] } := by
      refine hG1 _ _ _ (wpAnyIn_ready (rs := [0, 1, 5]) (by kernel_rfl) (by simp) ?_)
      refine AllReadyIn.cons rfl (fun K hK => ?_) ?_
      · go_simp
        exact hK _ _ (hG2 _ _ _ s_0234)
      refine AllReadyIn.cons rfl (fun K hK => ?_) ?_
      · go_simp
        exact hK _ _ (hG2 _ _ _ s_1234)
      refine AllReadyIn.cons rfl (fun K hK => ?_) ?_
      · go_simp
        exact hK _ _ (hG2 _ _ _ s_2345)
      exact AllReadyIn.nil
    have s_345 : G 7 #[false, false, false, true, true, true, false, false, false, false] { tmps := #[.slice a len cap, .func (.func 36) #[] #[.pointer (some ⟨Bf, 0, none⟩), .pointer (some ⟨Be, 0, none⟩), .pointer (some ⟨Bb, 0, none⟩)], .func (.func 34) #[] #[], undef, undef, .pointer (some ⟨w.heap.size, 0, none⟩), .slice none 0 0, .pointer (some ⟨w1.heap.size, 0, none⟩), .int .i64 x.1, .slice a len cap, .slice o len cap', .func (.func 36) #[] #[.pointer (some ⟨Bf, 0, none⟩), .pointer (some ⟨Be, 0, none⟩), .pointer (some ⟨Bb, 0, none⟩)], .int .i64 x.1, undef, undef, undef, .slice (some ⟨g, 0, none⟩) len cap2, .int .i64 x.1, .pointer (some ⟨g, x.1, none⟩), undef, undef, undef, undef], defers := [] } := by
      refine hG1 _ _ _ (wpAnyIn_ready (rs := [0, 1, 2, 6]) (by kernel_rfl) (by simp) ?_)
      refine AllReadyIn.cons rfl (fun K hK => ?_) ?_
      · go_simp
        exact hK _ _ (hG2 _ _ _ s_0345)
      refine AllReadyIn.cons rfl (fun K hK => ?_) ?_
      · go_simp
        exact hK _ _ (hG2 _ _ _ s_1345)
      refine AllReadyIn.cons rfl (fun K hK => ?_) ?_
      · go_simp
        exact hK _ _ (hG2 _ _ _ s_2345)
      refine AllReadyIn.cons rfl (fun K hK => ?_) ?_
      · go_simp
        exact hK _ _ (hG2 _ _ _ s_3456)
      exact AllReadyIn.nil
    have s_01 : G 8 #[true, true, false, false, false, false, false, false, false, false] { tmps := #[.slice a len cap, .func (.func 36) #[] #[.pointer (some ⟨Bf, 0, none⟩), .pointer (some ⟨Be, 0, none⟩), .pointer (some ⟨Bb, 0, none⟩)], .func (.func 34) #[] #[], undef, undef, .pointer (some ⟨w.heap.size, 0, none⟩), .slice none 0 0, .pointer (some ⟨w1.heap.size, 0, none⟩), .int .i64 x.1, .slice a len cap, .slice o len cap', .func (.func 36) #[] #[.pointer (some ⟨Bf, 0, none⟩), .pointer (some ⟨Be, 0, none⟩), .pointer (some ⟨Bb, 0, none⟩)], .int .i64 x.1, .slice (some ⟨g, 0, none⟩) len cap2, .int .i64 x.1, undef, undef, undef, undef, undef, undef, undef, undef], defers := [] } := by
      refine hG1 _ _ _ (wpAnyIn_ready (rs := [2, 3, 4]) (by kernel_rfl) (by simp) ?_)
      refine AllReadyIn.cons rfl (fun K hK => ?_) ?_
      · go_simp
        exact hK _ _ (hG2 _ _ _ s_012)
      refine AllReadyIn.cons rfl (fun K hK => ?_) ?_
      · go_simp
        exact hK _ _ (hG2 _ _ _ s_013)
      refine AllReadyIn.cons rfl (fun K hK => ?_) ?_
      · go_simp
        exact hK _ _ (hG2 _ _ _ s_014)
      exact AllReadyIn.nil
    have s_02 : G 8 #[true, false, true, false, false, false, false, false, false, false] { tmps := #[.slice a len cap, .func (.func 36) #[] #[.pointer (some ⟨Bf, 0, none⟩), .pointer (some ⟨Be, 0, none⟩), .pointer (some ⟨Bb, 0, none⟩)], .func (.func 34) #[] #[], undef, undef, .pointer (some ⟨w.heap.size, 0, none⟩), .slice none 0 0, .pointer (some ⟨w1.heap.size, 0, none⟩), .int .i64 x.1, .slice a len cap, .slice o len cap', .func (.func 36) #[] #[.pointer (some ⟨Bf, 0, none⟩), .pointer (some ⟨Be, 0, none⟩), .pointer (some ⟨Bb, 0, none⟩)], .int .i64 x.1, .slice (some ⟨g, 0, none⟩) len cap2, undef, .func (.func 34) #[] #[], undef, undef, undef, undef, undef, undef, undef], defers := [] } := by
      refine hG1 _ _ _ (wpAnyIn_ready (rs := [1, 3, 4]) (by kernel_rfl) (by simp) ?_)
      refine AllReadyIn.cons rfl (fun K hK => ?_) ?_
      · go_simp
        exact hK _ _ (hG2 _ _ _ s_012)
      refine AllReadyIn.cons rfl (fun K hK => ?_) ?_
      · go_simp
        exact hK _ _ (hG2 _ _ _ s_023)
      refine AllReadyIn.cons rfl (fun K hK => ?_) ?_
      · go_simp
        exact hK _ _ (hG2 _ _ _ s_024)
      exact AllReadyIn.nil
    have s_03 : G 8 #[true, false, false, true, false, false, false, false, false, false] { tmps := #[.slice a len cap, .func (.func 36) #[] #[.pointer (some ⟨Bf, 0, none⟩), .pointer (some ⟨Be, 0, none⟩), .pointer (some ⟨Bb, 0, none⟩)], .func (.func 34) #[] #[], undef, undef, .pointer (some ⟨w.heap.size, 0, none⟩), .slice none 0 0, .pointer (some ⟨w1.heap.size, 0, none⟩), .int .i64 x.1, .slice a len cap, .slice o len cap', .func (.func 36) #[] #[.pointer (some ⟨Bf, 0, none⟩), .pointer (some ⟨Be, 0, none⟩), .pointer (some ⟨Bb, 0, none⟩)], .int .i64 x.1, .slice (some ⟨g, 0, none⟩) len cap2, undef, undef, .slice (some ⟨g, 0, none⟩) len cap2, undef, undef, undef, undef, undef, undef], defers := [] } := by
      refine hG1 _ _ _ (wpAnyIn_ready (rs := [1, 2, 4]) (by kernel_rfl) (by simp) ?_)
      refine AllReadyIn.cons rfl (fun K hK => ?_) ?_
      · go_simp
        exact hK _ _ (hG2 _ _ _ s_013)
      refine AllReadyIn.cons rfl (fun K hK => ?_) ?_
      · go_simp
        exact hK _ _ (hG2 _ _ _ s_023)
      refine AllReadyIn.cons rfl (fun K hK => ?_) ?_
      · go_simp
        exact hK _ _ (hG2 _ _ _ s_034)
      exact AllReadyIn.nil
    have s_04 : G 8 #[true, false, false, false, true, false, false, false, false, false] { tmps := #[.slice a len cap, .func (.func 36) #[] #[.pointer (some ⟨Bf, 0, none⟩), .pointer (some ⟨Be, 0, none⟩), .pointer (some ⟨Bb, 0, none⟩)], .func (.func 34) #[] #[], undef, undef, .pointer (some ⟨w.heap.size, 0, none⟩), .slice none 0 0, .pointer (some ⟨w1.heap.size, 0, none⟩), .int .i64 x.1, .slice a len cap, .slice o len cap', .func (.func 36) #[] #[.pointer (some ⟨Bf, 0, none⟩), .pointer (some ⟨Be, 0, none⟩), .pointer (some ⟨Bb, 0, none⟩)], .int .i64 x.1, .slice (some ⟨g, 0, none⟩) len cap2, undef, undef, undef, .int .i64 x.1, undef, undef, undef, undef, undef], defers := [] } := by
      refine hG1 _ _ _ (wpAnyIn_ready (rs := [1, 2, 3]) (by kernel_rfl) (by simp) ?_)
      refine AllReadyIn.cons rfl (fun K hK => ?_) ?_
      · go_simp
        exact hK _ _ (hG2 _ _ _ s_014)
      refine AllReadyIn.cons rfl (fun K hK => ?_) ?_
      · go_simp
        exact hK _ _ (hG2 _ _ _ s_024)
      refine AllReadyIn.cons rfl (fun K hK => ?_) ?_
      · go_simp
        exact hK _ _ (hG2 _ _ _ s_034)
      exact AllReadyIn.nil
    have s_12 : G 8 #[false, true, true, false, false, false, false, false, false, false] { tmps := #[.slice a len cap, .func (.func 36) #[] #[.pointer (some ⟨Bf, 0, none⟩), .pointer (some ⟨Be, 0, none⟩), .pointer (some ⟨Bb, 0, none⟩)], .func (.func 34) #[] #[], undef, undef, .pointer (some ⟨w.heap.size, 0, none⟩), .slice none 0 0, .pointer (some ⟨w1.heap.size, 0, none⟩), .int .i64 x.1, .slice a len cap, .slice o len cap', .func (.func 36) #[] #[.pointer (some ⟨Bf, 0, none⟩), .pointer (some ⟨Be, 0, none⟩), .pointer (some ⟨Bb, 0, none⟩)], .int .i64 x.1, undef, .int .i64 x.1, .func (.func 34) #[] #[], undef, undef, undef, undef, undef, undef, undef], defers := [] } := by
      refine hG1 _ _ _ (wpAnyIn_ready (rs := [0, 3, 4]) (by kernel_rfl) (by simp) ?_)
      refine AllReadyIn.cons rfl (fun K hK => ?_) ?_
      · go_simp
        exact hK _ _ (hG2 _ _ _ s_012)
      refine AllReadyIn.cons rfl (fun K hK => ?_) ?_
      · go_simp
        exact hK _ _ (hG2 _ _ _ s_123)
      refine AllReadyIn.cons rfl (fun K hK => ?_) ?_
      · go_simp
        exact hK _ _ (hG2 _ _ _ s_124)
      exact AllReadyIn.nil
    have s_13 : G 8 #[false, true, false, true, false, false, false, false, false, false] { tmps := #[.slice a len cap, .func (.func 36) #[] #[.pointer (some ⟨Bf, 0, none⟩), .pointer (some ⟨Be, 0, none⟩), .pointer (some ⟨Bb, 0, none⟩)], .func (.func 34) #[] #[], undef, undef, .pointer (some ⟨w.heap.size, 0, none⟩), .slice none 0 0, .pointer (some ⟨w1.heap.size, 0, none⟩), .int .i64 x.1, .slice a len cap, .slice o len cap', .func (.func 36) #[] #[.pointer (some ⟨Bf, 0, none⟩), .pointer (some ⟨Be, 0, none⟩), .pointer (some ⟨Bb, 0, none⟩)], .int .i64 x.1, undef, .int .i64 x.1, undef, .slice (some ⟨g, 0, none⟩) len cap2, undef, undef, undef, undef, undef, undef], defers := [] } := by
      refine hG1 _ _ _ (wpAnyIn_ready (rs := [0, 2, 4]) (by kernel_rfl) (by simp) ?_)
      refine AllReadyIn.cons rfl (fun K hK => ?_) ?_
      · go_simp
        exact hK _ _ (hG2 _ _ _ s_013)
      refine AllReadyIn.cons rfl (fun K hK => ?_) ?_
      · go_simp
        exact hK _ _ (hG2 _ _ _ s_123)
      refine AllReadyIn.cons rfl (fun K hK => ?_) ?_
      · go_simp
        exact hK _ _ (hG2 _ _ _ s_134)
      exact AllReadyIn.nil
    have s_14 : G 8 #[false, true, false, false, true, false, false, false, false, false] { tmps := #[.slice a len cap, .func (.func 36) #[] #[.pointer (some ⟨Bf, 0, none⟩), .pointer (some ⟨Be, 0, none⟩), .pointer (some ⟨Bb, 0, none⟩)], .func (.func 34) #[] #[], undef, undef, .pointer (some ⟨w.heap.size, 0, none⟩), .slice none 0 0, .pointer (some ⟨w1.heap.size, 0, none⟩), .int .i64 x.1, .slice a len cap, .slice o len cap', .func (.func 36) #[] #[.pointer (some ⟨Bf, 0, none⟩), .pointer (some ⟨Be, 0, none⟩), .pointer (some ⟨Bb, 0, none⟩)], .int .i64 x.1, undef, .int .i64 x.1, undef, undef, .int .i64 x.1, undef, undef, undef, undef, undef], defers := [] } := by
      refine hG1 _ _ _ (wpAnyIn_ready (rs := [0, 2, 3]) (by kernel_rfl) (by simp) ?_)
      refine AllReadyIn.cons rfl (fun K hK => ?_) ?_
      · go_simp
        exact hK _ _ (hG2 _ _ _ s_014)
      refine AllReadyIn.cons rfl (fun K hK => ?_) ?_
      · go_simp
        exact hK _ _ (hG2 _ _ _ s_124)
      refine AllReadyIn.cons rfl (fun K hK => ?_) ?_
      · go_simp
        exact hK _ _ (hG2 _ _ _ s_134)
      exact AllReadyIn.nil
    have s_23 : G 8 #[false, false, true, true, false, false, false, false, false, false] { tmps := #[.slice a len cap, .func (.func 36) #[] #[.pointer (some ⟨Bf, 0, none⟩), .pointer (some ⟨Be, 0, none⟩), .pointer (some ⟨Bb, 0, none⟩)], .func (.func 34) #[] #[], undef, undef, .pointer (some ⟨w.heap.size, 0, none⟩), .slice none 0 0, .pointer (some ⟨w1.heap.size, 0, none⟩), .int .i64 x.1, .slice a len cap, .slice o len cap', .func (.func 36) #[] #[.pointer (some ⟨Bf, 0, none⟩), .pointer (some ⟨Be, 0, none⟩), .pointer (some ⟨Bb, 0, none⟩)], .int .i64 x.1, undef, undef, .func (.func 34) #[] #[], .slice (some ⟨g, 0, none⟩) len cap2, undef, undef, undef, undef, undef, undef], defers := [] } := by
      refine hG1 _ _ _ (wpAnyIn_ready (rs := [0, 1, 4]) (by kernel_rfl) (by simp) ?_)
      refine AllReadyIn.cons rfl (fun K hK => ?_) ?_
      · go_simp
        exact hK _ _ (hG2 _ _ _ s_023)
      refine AllReadyIn.cons rfl (fun K hK => ?_) ?_
      · go_simp
        exact hK _ _ (hG2 _ _ _ s_123)
      refine AllReadyIn.cons rfl (fun K hK => ?_) ?_
      · go_simp
        exact hK _ _ (hG2 _ _ _ s_234)
      exact AllReadyIn.nil
    have s_24 : G 8 #[false, false, true, false, true, false, false, false, false, false] { tmps := #[.slice a len cap, .func (.func 36) #[] #[.pointer (some ⟨Bf, 0, none⟩), .pointer (some ⟨Be, 0, none⟩), .pointer (some ⟨Bb, 0, none⟩)], .func (.func 34) #[] #[], undef, undef, .pointer (some ⟨w.heap.size, 0, none⟩), .slice none 0 0, .pointer (some ⟨w1.heap.size, 0, none⟩), .int .i64 x.1, .slice a len cap, .slice o len cap', .func (.func 36) #[] #[.pointer (some ⟨Bf, 0, none⟩), .pointer (some ⟨Be, 0, none⟩), .pointer (some ⟨Bb, 0, none⟩)], .int .i64 x.1, undef, undef, .func (.func 34) #[] #[], undef, .int .i64 x.1, undef, undef, undef, undef, undef], defers := [] } := by
      refine hG1 _ _ _ (wpAnyIn_ready (rs := [0, 1, 3]) (by kernel_rfl) (by simp) ?_)
      refine AllReadyIn.cons rfl (fun K hK => ?_) ?_
      · go_simp
        exact hK _ _ (hG2 _ _ _ s_024)
      refine AllReadyIn.cons rfl (fun K hK => ?_) ?_
      · go_simp
        exact hK _ _ (hG2 _ _ _ s_124)
      refine AllReadyIn.cons rfl (fun K hK => ?_) ?_
      · go_simp
        exact hK _ _ (hG2 _ _ _ s_234)
      exact AllReadyIn.nil
    have s_34 : G 8 #[false, false, false, true, true, false, false, false, false, false] { tmps := #[.slice a len cap, .func (.func 36) #[] #[.pointer (some ⟨Bf, 0, none⟩), .pointer (some ⟨Be, 0, none⟩), .pointer (some ⟨Bb, 0, none⟩)], .func (.func 34) #[] #[], undef, undef, .pointer (some ⟨w.heap.size, 0, none⟩), .slice none 0 0, .pointer (some ⟨w1.heap.size, 0, none⟩), .int .i64 x.1, .slice a len cap, .slice o len cap', .func (.func 36) #[] #[.pointer (some ⟨Bf, 0, none⟩), .pointer (some ⟨Be, 0, none⟩), .pointer (some ⟨Bb, 0, none⟩)], .int .i64 x.1, undef, undef, undef, .slice (some ⟨g, 0, none⟩) len cap2, .int .i64 x.1, undef, undef, undef, undef, undef], defers := [] } := by
      refine hG1 _ _ _ (wpAnyIn_ready (rs := [0, 1, 2, 5]) (by kernel_rfl) (by simp) ?_)
      refine AllReadyIn.cons rfl (fun K hK => ?_) ?_
      · go_simp
        exact hK _ _ (hG2 _ _ _ s_034)
      refine AllReadyIn.cons rfl (fun K hK => ?_) ?_
      · go_simp
        exact hK _ _ (hG2 _ _ _ s_134)
      refine AllReadyIn.cons rfl (fun K hK => ?_) ?_
      · go_simp
        exact hK _ _ (hG2 _ _ _ s_234)
      refine AllReadyIn.cons rfl (fun K hK => ?_) ?_
      · go_simp
        exact hK _ _ (hG2 _ _ _ s_345)
      exact AllReadyIn.nil
    have s_0 : G 9 #[true, false, false, false, false, false, false, false, false, false] { tmps := #[.slice a len cap, .func (.func 36) #[] #[.pointer (some ⟨Bf, 0, none⟩), .pointer (some ⟨Be, 0, none⟩), .pointer (some ⟨Bb, 0, none⟩)], .func (.func 34) #[] #[], undef, undef, .pointer (some ⟨w.heap.size, 0, none⟩), .slice none 0 0, .pointer (some ⟨w1.heap.size, 0, none⟩), .int .i64 x.1, .slice a len cap, .slice o len cap', .func (.func 36) #[] #[.pointer (some ⟨Bf, 0, none⟩), .pointer (some ⟨Be, 0, none⟩), .pointer (some ⟨Bb, 0, none⟩)], .int .i64 x.1, .slice (some ⟨g, 0, none⟩) len cap2, undef, undef, undef, undef, undef, undef, undef, undef, undef], defers := [] } := by
      refine hG1 _ _ _ (wpAnyIn_ready (rs := [1, 2, 3, 4]) (by kernel_rfl) (by simp) ?_)
      refine AllReadyIn.cons rfl (fun K hK => ?_) ?_
      · go_simp
        exact hK _ _ (hG2 _ _ _ s_01)
      refine AllReadyIn.cons rfl (fun K hK => ?_) ?_
      · go_simp
        exact hK _ _ (hG2 _ _ _ s_02)
      refine AllReadyIn.cons rfl (fun K hK => ?_) ?_
      · go_simp
        exact hK _ _ (hG2 _ _ _ s_03)
      refine AllReadyIn.cons rfl (fun K hK => ?_) ?_
      · go_simp
        exact hK _ _ (hG2 _ _ _ s_04)
      exact AllReadyIn.nil
    have s_1 : G 9 #[false, true, false, false, false, false, false, false, false, false] { tmps := #[.slice a len cap, .func (.func 36) #[] #[.pointer (some ⟨Bf, 0, none⟩), .pointer (some ⟨Be, 0, none⟩), .pointer (some ⟨Bb, 0, none⟩)], .func (.func 34) #[] #[], undef, undef, .pointer (some ⟨w.heap.size, 0, none⟩), .slice none 0 0, .pointer (some ⟨w1.heap.size, 0, none⟩), .int .i64 x.1, .slice a len cap, .slice o len cap', .func (.func 36) #[] #[.pointer (some ⟨Bf, 0, none⟩), .pointer (some ⟨Be, 0, none⟩), .pointer (some ⟨Bb, 0, none⟩)], .int .i64 x.1, undef, .int .i64 x.1, undef, undef, undef, undef, undef, undef, undef, undef], defers := [] } := by
      refine hG1 _ _ _ (wpAnyIn_ready (rs := [0, 2, 3, 4]) (by kernel_rfl) (by simp) ?_)
      refine AllReadyIn.cons rfl (fun K hK => ?_) ?_
      · go_simp
        exact hK _ _ (hG2 _ _ _ s_01)
      refine AllReadyIn.cons rfl (fun K hK => ?_) ?_
      · go_simp
        exact hK _ _ (hG2 _ _ _ s_12)
      refine AllReadyIn.cons rfl (fun K hK => ?_) ?_
      · go_simp
        exact hK _ _ (hG2 _ _ _ s_13)
      refine AllReadyIn.cons rfl (fun K hK => ?_) ?_
      · go_simp
        exact hK _ _ (hG2 _ _ _ s_14)
      exact AllReadyIn.nil
    have s_2 : G 9 #[false, false, true, false, false, false, false, false, false, false] { tmps := #[.slice a len cap, .func (.func 36) #[] #[.pointer (some ⟨Bf, 0, none⟩), .pointer (some ⟨Be, 0, none⟩), .pointer (some ⟨Bb, 0, none⟩)], .func (.func 34) #[] #[], undef, undef, .pointer (some ⟨w.heap.size, 0, none⟩), .slice none 0 0, .pointer (some ⟨w1.heap.size, 0, none⟩), .int .i64 x.1, .slice a len cap, .slice o len cap', .func (.func 36) #[] #[.pointer (some ⟨Bf, 0, none⟩), .pointer (some ⟨Be, 0, none⟩), .pointer (some ⟨Bb, 0, none⟩)], .int .i64 x.1, undef, undef, .func (.func 34) #[] #[], undef, undef, undef, undef, undef, undef, undef], defers := [] } := by
      refine hG1 _ _ _ (wpAnyIn_ready (rs := [0, 1, 3, 4]) (by kernel_rfl) (by simp) ?_)
      refine AllReadyIn.cons rfl (fun K hK => ?_) ?_
      · go_simp
        exact hK _ _ (hG2 _ _ _ s_02)
      refine AllReadyIn.cons rfl (fun K hK => ?_) ?_
      · go_simp
        exact hK _ _ (hG2 _ _ _ s_12)
      refine AllReadyIn.cons rfl (fun K hK => ?_) ?_
      · go_simp
        exact hK _ _ (hG2 _ _ _ s_23)
      refine AllReadyIn.cons rfl (fun K hK => ?_) ?_
      · go_simp
        exact hK _ _ (hG2 _ _ _ s_24)
      exact AllReadyIn.nil
    have s_3 : G 9 #[false, false, false, true, false, false, false, false, false, false] { tmps := #[.slice a len cap, .func (.func 36) #[] #[.pointer (some ⟨Bf, 0, none⟩), .pointer (some ⟨Be, 0, none⟩), .pointer (some ⟨Bb, 0, none⟩)], .func (.func 34) #[] #[], undef, undef, .pointer (some ⟨w.heap.size, 0, none⟩), .slice none 0 0, .pointer (some ⟨w1.heap.size, 0, none⟩), .int .i64 x.1, .slice a len cap, .slice o len cap', .func (.func 36) #[] #[.pointer (some ⟨Bf, 0, none⟩), .pointer (some ⟨Be, 0, none⟩), .pointer (some ⟨Bb, 0, none⟩)], .int .i64 x.1, undef, undef, undef, .slice (some ⟨g, 0, none⟩) len cap2, undef, undef, undef, undef, undef, undef], defers := [] } := by
      refine hG1 _ _ _ (wpAnyIn_ready (rs := [0, 1, 2, 4]) (by kernel_rfl) (by simp) ?_)
      refine AllReadyIn.cons rfl (fun K hK => ?_) ?_
      · go_simp
        exact hK _ _ (hG2 _ _ _ s_03)
      refine AllReadyIn.cons rfl (fun K hK => ?_) ?_
      · go_simp
        exact hK _ _ (hG2 _ _ _ s_13)
      refine AllReadyIn.cons rfl (fun K hK => ?_) ?_
      · go_simp
        exact hK _ _ (hG2 _ _ _ s_23)
      refine AllReadyIn.cons rfl (fun K hK => ?_) ?_
      · go_simp
        exact hK _ _ (hG2 _ _ _ s_34)
      exact AllReadyIn.nil
    have s_4 : G 9 #[false, false, false, false, true, false, false, false, false, false] { tmps := #[.slice a len cap, .func (.func 36) #[] #[.pointer (some ⟨Bf, 0, none⟩), .pointer (some ⟨Be, 0, none⟩), .pointer (some ⟨Bb, 0, none⟩)], .func (.func 34) #[] #[], undef, undef, .pointer (some ⟨w.heap.size, 0, none⟩), .slice none 0 0, .pointer (some ⟨w1.heap.size, 0, none⟩), .int .i64 x.1, .slice a len cap, .slice o len cap', .func (.func 36) #[] #[.pointer (some ⟨Bf, 0, none⟩), .pointer (some ⟨Be, 0, none⟩), .pointer (some ⟨Bb, 0, none⟩)], .int .i64 x.1, undef, undef, undef, undef, .int .i64 x.1, undef, undef, undef, undef, undef], defers := [] } := by
      refine hG1 _ _ _ (wpAnyIn_ready (rs := [0, 1, 2, 3]) (by kernel_rfl) (by simp) ?_)
      refine AllReadyIn.cons rfl (fun K hK => ?_) ?_
      · go_simp
        exact hK _ _ (hG2 _ _ _ s_04)
      refine AllReadyIn.cons rfl (fun K hK => ?_) ?_
      · go_simp
        exact hK _ _ (hG2 _ _ _ s_14)
      refine AllReadyIn.cons rfl (fun K hK => ?_) ?_
      · go_simp
        exact hK _ _ (hG2 _ _ _ s_24)
      refine AllReadyIn.cons rfl (fun K hK => ?_) ?_
      · go_simp
        exact hK _ _ (hG2 _ _ _ s_34)
      exact AllReadyIn.nil
    refine hG1 _ _ _ (wpAnyIn_ready (rs := [0, 1, 2, 3, 4]) (by kernel_rfl) (by simp) ?_)
    refine AllReadyIn.cons rfl (fun K hK => ?_) ?_
    · go_simp
      exact hK _ _ (hG2 _ _ _ s_0)
    refine AllReadyIn.cons rfl (fun K hK => ?_) ?_
    · go_simp
      exact hK _ _ (hG2 _ _ _ s_1)
    refine AllReadyIn.cons rfl (fun K hK => ?_) ?_
    · go_simp
      exact hK _ _ (hG2 _ _ _ s_2)
    refine AllReadyIn.cons rfl (fun K hK => ?_) ?_
    · go_simp
      exact hK _ _ (hG2 _ _ _ s_3)
    refine AllReadyIn.cons rfl (fun K hK => ?_) ?_
    · go_simp
      exact hK _ _ (hG2 _ _ _ s_4)
    exact AllReadyIn.nil
  case done =>
    rintro D ys W hD rfl ⟨⟨⟨v, hv, hrow, _⟩, hbl⟩, hB⟩ hK
    have hc := hv.cell
    gi_wp2
    refine ⟨by simp, .inl ⟨_, _, rfl, run_takeDeferred hK, ?_⟩⟩
    exact ⟨_, results_tmp rfl _ _ _, v, rfl, ownsRow_putObj hrow _ hK rfl, hB.trans (belowK_b (w := w) (Nat.le_refl _) W D _ _ (by simp at hD; omega) hK rfl rfl)⟩
  case stop =>
    rintro D c pre W _ _ h _
    exact h.elim
end Go.Proofs.Ytajnjghbppcfdaa
