/- perm.picked: those of a row at the places that an iterator hands over. -/
import Derived.Test.YtajnjghbppcfdaaIter
import Derived.Test.YtajnjghbppcfdaaFl
namespace Go.Proofs.Ytajnjghbppcfdaa
open Go.RowKit Go.Shelf
attribute [local go_sem] Oper.semAt_some

abbrev F (x : Nat) : Value := .float .f64 x

theorem info35 : (Try.prog.info? 35).map (fun i => (i.zero, i.size, i.bytes)) = some (some (.float .f64 0), 1, 8) := by kernel_rfl
section
variable {P : Program} (w : World) (a : Addr) (m : Mode)
@[go_sem] theorem run_store_float (x : Nat) : (store a (.float .f64 x) m).run P w = stored P w a (.float .f64 x) m := run_store P w a _ m rfl
end

/-- A slice of floats that reads as the list l. -/
def IsFl (w : World) (a : Option Addr) (len : Nat) (l : List Nat) : Prop :=
  l.length = len ∧ (len = 0 ∨ ∃ b off, a = some ⟨b, off, none⟩ ∧ (∀ k, k < l.length → w.cell? ⟨b, off + k, none⟩ = some (F (l.getD k 0))))

theorem cell_lt {w : World} {b o : Nat} {v : Value} (h : w.cell? ⟨b, o, none⟩ = some v) : b < w.heap.size := by
  unfold World.cell? at h
  apply Nat.lt_of_not_le
  intro hle
  rw [Array.getElem?_eq_none hle] at h
  cases h

theorem IsFl.below {w w' : World} {a : Option Addr} {len : Nat} {l : List Nat} (h : IsFl w a len l) (hb : Below w.heap.size w w') : IsFl w' a len l := by
  obtain ⟨h1, h2⟩ := h
  refine ⟨h1, ?_⟩
  rcases h2 with h2 | ⟨b, off, rfl, hc⟩
  · exact .inl h2
  · refine .inr ⟨b, off, rfl, fun k hk => ?_⟩
    rw [hb.cell (p := ⟨b, off + k, none⟩) (cell_lt (hc k hk)), hc k hk]

theorem isFl_own {w : World} {base n : Nat} {v : Value} {l : List Nat} (h : w.ownsRow base 35 1 v n (l.map F)) : ∃ a cap, v = .slice a n cap ∧ IsFl w a n l := by
  have hl : l.length = n := by have := h.1; simpa using this
  rcases h.2 with ⟨rfl, rfl⟩ | ⟨g, cap, cur, rfl, hg, hh, hr⟩
  · exact ⟨none, 0, rfl, hl, .inl rfl⟩
  · refine ⟨_, cap, rfl, hl, .inr ⟨g, 0, rfl, fun k hk => ?_⟩⟩
    rw [Nat.zero_add, World.ownsRow.cellAt h k (by omega), List.getElem?_map, List.getElem?_eq_getElem hk, List.getD_eq_getElem?_getD, List.getElem?_eq_getElem hk]
    rfl

/-- What stands at a place. -/
def at_ (l : List Nat) {m : Nat} (i : Pl m) : Nat := l.getD i.1 0
def pick (l : List Nat) {m : Nat} (xs : List (Pl m)) : List Nat := xs.map (at_ l)
theorem pick_snoc (l : List Nat) {m : Nat} (xs : List (Pl m)) (x : Pl m) : pick l (xs ++ [x]) = pick l xs ++ [at_ l x] := by simp [pick]
theorem pick_length (l : List Nat) {m : Nat} (xs : List (Pl m)) : (pick l xs).length = xs.length := by simp [pick]

theorem opIn_append_own {F_ : Fence} {n : Nat} {P : Program} (w : World) {o : Oper} {a : Act} {K : Act → World → Prop} {Q : Exit → Act → World → Prop}
    (s x : Operand) (t : TypeId) (hop : o.op = Op.call { callee := Callee.builtin Builtin.append, args := #[s, x], argTypes := #[t, t] })
    (base : Nat) (e : TypeId) (i : TypeInfo) (z : Value) (size bytes : Nat) (h1 : P.underlying t = some (.slice e)) (h2 : P.info? e = some i) (h3 : i.zero = some z) (h4 : i.size = size) (h5 : i.bytes = bytes) (h6 : z.cells.size = size) (h7 : 0 < size)
    (v : Value) (k : Nat) (xs : List Value) (hs : a.eval s = v) (hown : w.ownsRow base e size v k xs) (ad : Addr) (m c : Nat) (news : List Value) (hx : a.eval x = .slice (some ad) m c) (hn : news.length = m * size)
    (hc : ∀ j u, news[j]? = some u → w.cell? (ad.add j) = some u) (h1c : ∀ u ∈ news, u.oneCell' = true) (b1 : k + m ≤ maxLen) (b2 : (k + m) * bytes ≤ 140737488355328) (b3 : base ≤ w.heap.size)
    (hK : ∀ v' w', w'.ownsRow base e size v' (k + m) (xs ++ news) → w.grownBy w' v.ownBlock → K (a.put o.dst v') w') : Oper.wpIn F_ n P o a w K Q := by
  obtain ⟨v', w', hrun, r1, r2, _⟩ := run_append_own (P := P) w base t o.type e i z size bytes h1 h2 h3 h4 h5 h6 h7 v k xs hown ad m c news hn hc h1c b1 b2 b3
  unfold Oper.wpIn
  refine ⟨?_, ?_⟩
  · simp [Oper.about, hop, resolve, Target.leads, Sem.run_pure]
  · rw [Oper.semAt_plain F_ _ _ (by rw [hop]; intro c hc'; cases hc')]
    simp [execOp, hop, resolve, invoke, builtin, hs, hx, hrun, Result.andThen]
    exact hK v' w' r1 r2

theorem appended_box {W w1 : World} {n₀ B : Nat} {v v' : Value} {k m : Nat} {xs ys : List Value} {tmp : Obj}
    (hv : Boxed W B 22 v) (hrow : W.ownsRow n₀ 35 1 v k xs) (hn₀ : n₀ ≤ W.heap.size) (hB : n₀ ≤ B)
    (hown' : w1.ownsRow n₀ 35 1 v' m ys) (hgrow : (W.alloc tmp).drew.grownBy w1 v.ownBlock) {B2 : Nat} {u : Value} (hu : Boxed W B2 22 u) (hne : B2 ≠ B) :
    Boxed w1 B 22 v ∧ Boxed (w1.setCell ⟨B, 0, none⟩ v') B 22 v' ∧ (w1.setCell ⟨B, 0, none⟩ v').ownsRow n₀ 35 1 v' m ys ∧ KeepsOthers W (w1.setCell ⟨B, 0, none⟩ v') ∧ Below n₀ W (w1.setCell ⟨B, 0, none⟩ v') ∧ Boxed (w1.setCell ⟨B, 0, none⟩ v') B2 22 u := by
  have hg : (W.alloc tmp).grownBy w1 v.ownBlock := ⟨hgrow.os, hgrow.tape, hgrow.output, hgrow.size, hgrow.block⟩
  obtain ⟨r1, r2, r3, r4, r5⟩ := hv.appended (by decide) hrow hn₀ hB hown' hg
  exact ⟨r1, r2, r3, r4, r5, ((hu.alloc tmp).kept hg (hu.not_row (by decide) hrow)).other hne _⟩

set_option maxRecDepth 100000 in
set_option maxHeartbeats 2000000 in
theorem picked_in (F_ : Fence) (n : Nat) (h3 : F_.fn 30) (h6 : F_.fn 36) (hro : F_.round = none) (hn : 3 ≤ n) (a : Option Addr) (len cap : Nat) (l : List Nat) (w : World) (hl : IsFl w a len l)
    (Bf Be Bb : Nat) (fr by_ : Int) (xs : List (Pl len)) (hs : Steps len xs fr by_) (hm : len ≤ 140737488351232) (hxl : xs.length * 8 ≤ 140737488355328)
    (hb0 : by_ ≠ 0) (hb1 : -2 ≤ by_) (hb2 : by_ ≤ 2) (hlt : Bf < w.heap.size ∧ Be < w.heap.size ∧ Bb < w.heap.size)
    (c1 : w.cell? ⟨Bf, 0, none⟩ = some (.int .i64 fr)) (c2 : w.cell? ⟨Be, 0, none⟩ = some (.int .i64 len)) (c3 : w.cell? ⟨Bb, 0, none⟩ = some (.int .i64 by_)) :
    CallsIn F_ n Try.prog 30 #[.slice a len cap, .func (.func 36) #[] #[.pointer (some ⟨Bf, 0, none⟩), .pointer (some ⟨Be, 0, none⟩), .pointer (some ⟨Bb, 0, none⟩)]] w
      fun e W' => ∃ v, e = .returned v ∧ W'.ownsRow w.heap.size 35 1 v xs.length ((pick l xs).map F) ∧ Below w.heap.size w W' := by
  have h1 : 1 ≤ n := by omega
  obtain ⟨i0, hi, hz0, hz1, hz2⟩ := info_parts info35
  refine callsIn_of_wp_marks Try.func30 rfl h3 ?_ hro
  simp only [Try.ntmps30, List.size_toArray, List.length_cons, List.length_nil, Nat.reduceAdd, Nat.reduceSub, Array.replicate_succ, Array.replicate_zero, List.push_toArray, List.append_toArray, List.nil_append, List.cons_append]
  gi_wp2
  have bL := Boxed.new w 22 (.slice a len cap)
  have bO := Boxed.new (w.alloc (.cells #[.slice a len cap] 22)) 22 (.slice none 0 0)
  rw [World.size_alloc] at bO
  have hB0 : Below w.heap.size w ((w.alloc (.cells #[.slice a len cap] 22)).alloc (.cells #[.slice none 0 0] 22)) := ((Below.refl _ w).alloc (Nat.le_refl _) _).alloc (by simp) _
  refine wpIn_rangeFunc_ownG hro h1 (gf := 36) (lb := #[.pointer (some ⟨Bf, 0, none⟩), .pointer (some ⟨Be, 0, none⟩), .pointer (some ⟨Bb, 0, none⟩)]) rfl h6 (enters_of Try.func36 (by kernel_rfl) rfl)
    (places_stops F_ (n - 1) h6 hro (by omega) Bf Be Bb w.heap.size len fr by_ xs hs hm hb0 hb1 hb2 hlt _ hB0.size ((hB0.cell (p := ⟨Bf, 0, none⟩) hlt.1).trans c1) ((hB0.cell (p := ⟨Be, 0, none⟩) hlt.2.1).trans c2) ((hB0.cell (p := ⟨Bb, 0, none⟩) hlt.2.2).trans c3)) belowK_t (belowK_b (by simp; omega)) (Below.refl _ _) (fun _ => rfl)
    (fun pre W => ((∃ v, Boxed W (w.heap.size + 1) 22 v ∧ W.ownsRow w.heap.size 35 1 v pre.length ((pick l pre).map F) ∧ True) ∧ Boxed W w.heap.size 22 (.slice a len cap)) ∧ Below w.heap.size w W)
    (fun _ _ _ => False)
    (OwnFrom.and (OwnFrom.and (Own.from (holdsRow_own w.heap.size (w.heap.size + 1) 22 35 1 (fun pre : List (Pl len) => pre.length) (fun pre => (pick l pre).map F) (fun _ _ => True)) _) (Own.from (boxed_own w.heap.size 22 (fun _ => .slice a len cap)) _)) (ownFrom_below (Nat.le_refl _) (by simp; omega)))
    (fun _ _ _ _ _ hs _ _ => hs)
    ⟨⟨⟨_, bO, World.ownsRow_nil _ _ _ _, trivial⟩, bL.alloc _⟩, hB0⟩
    (fun x => { tmps := #[.slice a len cap, .func (.func 36) #[] #[.pointer (some ⟨Bf, 0, none⟩), .pointer (some ⟨Be, 0, none⟩), .pointer (some ⟨Bb, 0, none⟩)], .pointer (some ⟨w.heap.size, 0, none⟩), undef, .slice none 0 0, .pointer (some ⟨w.heap.size + 1, 0, none⟩), .int .i64 x.1, .func (.func 36) #[] #[.pointer (some ⟨Bf, 0, none⟩), .pointer (some ⟨Be, 0, none⟩), .pointer (some ⟨Bb, 0, none⟩)], .int .i64 x.1, undef, undef, undef, undef, undef, undef, undef, undef], defers := [] }) ?assign ?body ?done ?stop
  case assign =>
    intro r x W K hK
    gi_wp2
    exact hK
  case body =>
    rintro r pre x W ⟨⟨⟨v, hv, hrow, _⟩, hbl⟩, hB⟩ hplt
    have hcv := hv.cell
    have hcl := hbl.cell
    have hx2 := x.2
    obtain ⟨b, off, rfl, hcell⟩ : ∃ b off, a = some ⟨b, off, none⟩ ∧ W.cell? ⟨b, off + x.1, none⟩ = some (F (at_ l x)) := by
      have hW := hl.below hB
      rcases hW.2 with h | ⟨b, off, h, hc⟩
      · omega
      · exact ⟨b, off, h, hc x.1 (by rw [hl.1]; exact hx2)⟩
    gi_wp2
    have hmx : Try.prog.follows .mixedOrders = true := by kernel_rfl
    have hx0 : (0 : Int) ≤ (x.1 : Int) := by omega
    have hx3 : (x.1 : Int) < (len : Int) := by omega
    refine wpIn_region_any hmx ?_
    change wpAnyIn _ _ _ _ _ _ _ _ _ (World.drew _)
    have hv_lt := hv.lt
    have hbl_lt := hbl.lt
    clear hs c1 c2 c3 bL bO hB0 hlt hl
    refine wpAnyIn_ready (rs := [0, 1, 2]) (by kernel_rfl) (by simp) ?_
    refine AllReadyIn.cons rfl (fun K hK => ?_) ?_
    · go_simp
      refine hK _ _ ?_
      clear hK K
      refine wpAnyIn_ready (rs := [1, 2]) (by kernel_rfl) (by simp) ?_
      refine AllReadyIn.cons rfl (fun K hK => ?_) ?_
      · go_simp
        refine hK _ _ ?_
        clear hK K
        refine wpAnyIn_ready (rs := [2]) (by kernel_rfl) (by simp) ?_
        refine AllReadyIn.cons rfl (fun K hK => ?_) ?_
        · go_simp
          refine hK _ _ ?_
          clear hK K
          refine wpAnyIn_ready (rs := [3]) (by kernel_rfl) (by simp) ?_
          refine AllReadyIn.cons rfl (fun K hK => ?_) ?_
          · go_simp
            refine hK _ _ ?_
            clear hK K
            refine wpAnyIn_ready (rs := [4]) (by kernel_rfl) (by simp) ?_
            refine AllReadyIn.cons rfl (fun K hK => ?_) ?_
            · go_simp
              refine hK _ _ ?_
              clear hK K
              refine wpAnyIn_ready (rs := [5]) (by kernel_rfl) (by simp) ?_
              refine AllReadyIn.cons rfl (fun K hK => ?_) ?_
              · go_simp
                refine hK _ _ ?_
                clear hK K
                refine wpAnyIn_ready (rs := [6]) (by kernel_rfl) (by simp) ?_
                refine AllReadyIn.cons rfl (fun K hK => ?_) ?_
                · rw [if_pos (by rfl)]
                  refine opIn_append_own _ (.tmp 9) (.tmp 14) 22 rfl w.heap.size 35 i0 (.float .f64 0) 1 8 Try.underlying22 hi hz0 hz1 hz2 rfl (by decide) _ _ _ rfl (show ((W.alloc (.cells #[F (at_ l x)] 35)).drew).ownsRow w.heap.size 35 1 v pre.length ((pick l pre).map F) from hrow.alloc _) ⟨W.heap.size, 0, none⟩ 1 1 [F (at_ l x)] rfl rfl (cell_one_new W _ _) (by simp [Value.oneCell']) (by unfold maxLen; omega) (by omega) (by have := hB.size; simp; omega) ?_
                  intro v' w1 hown' hgrow
                  obtain ⟨g', cap', rfl⟩ := ownsRow_succ hown'
                  obtain ⟨hv1, hv2, hr2, hk2, hb2, hl2⟩ := appended_box hv hrow hB.size (Nat.le_succ _) hown' hgrow hbl (by omega)
                  have hc1 := hv1.cell
                  have hf1 := hv1.frozen
                  refine hK _ _ ?_
                  clear hK K
                  refine wpAnyIn_ready (rs := [7]) (by kernel_rfl) (by simp) ?_
                  refine AllReadyIn.cons rfl (fun K hK => ?_) ?_
                  · go_simp
                    refine hK _ _ ?_
                    clear hK K
                    refine wpAnyIn_done (by kernel_rfl) ?_ _
                    exact ⟨hk2.from _, hb2, ⟨⟨⟨_, hv2, by rw [pick_snoc, List.map_append, List.length_append]; exact hr2, trivial⟩, hl2⟩, hB.trans hb2⟩⟩
                  exact AllReadyIn.nil
                exact AllReadyIn.nil
              exact AllReadyIn.nil
            exact AllReadyIn.nil
          exact AllReadyIn.nil
        exact AllReadyIn.nil
      refine AllReadyIn.cons rfl (fun K hK => ?_) ?_
      · go_simp
        refine hK _ _ ?_
        clear hK K
        refine wpAnyIn_ready (rs := [1]) (by kernel_rfl) (by simp) ?_
        refine AllReadyIn.cons rfl (fun K hK => ?_) ?_
        · go_simp
          refine hK _ _ ?_
          clear hK K
          refine wpAnyIn_ready (rs := [3]) (by kernel_rfl) (by simp) ?_
          refine AllReadyIn.cons rfl (fun K hK => ?_) ?_
          · go_simp
            refine hK _ _ ?_
            clear hK K
            refine wpAnyIn_ready (rs := [4]) (by kernel_rfl) (by simp) ?_
            refine AllReadyIn.cons rfl (fun K hK => ?_) ?_
            · go_simp
              refine hK _ _ ?_
              clear hK K
              refine wpAnyIn_ready (rs := [5]) (by kernel_rfl) (by simp) ?_
              refine AllReadyIn.cons rfl (fun K hK => ?_) ?_
              · go_simp
                refine hK _ _ ?_
                clear hK K
                refine wpAnyIn_ready (rs := [6]) (by kernel_rfl) (by simp) ?_
                refine AllReadyIn.cons rfl (fun K hK => ?_) ?_
                · rw [if_pos (by rfl)]
                  refine opIn_append_own _ (.tmp 9) (.tmp 14) 22 rfl w.heap.size 35 i0 (.float .f64 0) 1 8 Try.underlying22 hi hz0 hz1 hz2 rfl (by decide) _ _ _ rfl (show ((W.alloc (.cells #[F (at_ l x)] 35)).drew).ownsRow w.heap.size 35 1 v pre.length ((pick l pre).map F) from hrow.alloc _) ⟨W.heap.size, 0, none⟩ 1 1 [F (at_ l x)] rfl rfl (cell_one_new W _ _) (by simp [Value.oneCell']) (by unfold maxLen; omega) (by omega) (by have := hB.size; simp; omega) ?_
                  intro v' w1 hown' hgrow
                  obtain ⟨g', cap', rfl⟩ := ownsRow_succ hown'
                  obtain ⟨hv1, hv2, hr2, hk2, hb2, hl2⟩ := appended_box hv hrow hB.size (Nat.le_succ _) hown' hgrow hbl (by omega)
                  have hc1 := hv1.cell
                  have hf1 := hv1.frozen
                  refine hK _ _ ?_
                  clear hK K
                  refine wpAnyIn_ready (rs := [7]) (by kernel_rfl) (by simp) ?_
                  refine AllReadyIn.cons rfl (fun K hK => ?_) ?_
                  · go_simp
                    refine hK _ _ ?_
                    clear hK K
                    refine wpAnyIn_done (by kernel_rfl) ?_ _
                    exact ⟨hk2.from _, hb2, ⟨⟨⟨_, hv2, by rw [pick_snoc, List.map_append, List.length_append]; exact hr2, trivial⟩, hl2⟩, hB.trans hb2⟩⟩
                  exact AllReadyIn.nil
                exact AllReadyIn.nil
              exact AllReadyIn.nil
            exact AllReadyIn.nil
          exact AllReadyIn.nil
        exact AllReadyIn.nil
      exact AllReadyIn.nil
    refine AllReadyIn.cons rfl (fun K hK => ?_) ?_
    · go_simp
      refine hK _ _ ?_
      clear hK K
      refine wpAnyIn_ready (rs := [0, 2]) (by kernel_rfl) (by simp) ?_
      refine AllReadyIn.cons rfl (fun K hK => ?_) ?_
      · go_simp
        refine hK _ _ ?_
        clear hK K
        refine wpAnyIn_ready (rs := [2]) (by kernel_rfl) (by simp) ?_
        refine AllReadyIn.cons rfl (fun K hK => ?_) ?_
        · go_simp
          refine hK _ _ ?_
          clear hK K
          refine wpAnyIn_ready (rs := [3]) (by kernel_rfl) (by simp) ?_
          refine AllReadyIn.cons rfl (fun K hK => ?_) ?_
          · go_simp
            refine hK _ _ ?_
            clear hK K
            refine wpAnyIn_ready (rs := [4]) (by kernel_rfl) (by simp) ?_
            refine AllReadyIn.cons rfl (fun K hK => ?_) ?_
            · go_simp
              refine hK _ _ ?_
              clear hK K
              refine wpAnyIn_ready (rs := [5]) (by kernel_rfl) (by simp) ?_
              refine AllReadyIn.cons rfl (fun K hK => ?_) ?_
              · go_simp
                refine hK _ _ ?_
                clear hK K
                refine wpAnyIn_ready (rs := [6]) (by kernel_rfl) (by simp) ?_
                refine AllReadyIn.cons rfl (fun K hK => ?_) ?_
                · rw [if_pos (by rfl)]
                  refine opIn_append_own _ (.tmp 9) (.tmp 14) 22 rfl w.heap.size 35 i0 (.float .f64 0) 1 8 Try.underlying22 hi hz0 hz1 hz2 rfl (by decide) _ _ _ rfl (show ((W.alloc (.cells #[F (at_ l x)] 35)).drew).ownsRow w.heap.size 35 1 v pre.length ((pick l pre).map F) from hrow.alloc _) ⟨W.heap.size, 0, none⟩ 1 1 [F (at_ l x)] rfl rfl (cell_one_new W _ _) (by simp [Value.oneCell']) (by unfold maxLen; omega) (by omega) (by have := hB.size; simp; omega) ?_
                  intro v' w1 hown' hgrow
                  obtain ⟨g', cap', rfl⟩ := ownsRow_succ hown'
                  obtain ⟨hv1, hv2, hr2, hk2, hb2, hl2⟩ := appended_box hv hrow hB.size (Nat.le_succ _) hown' hgrow hbl (by omega)
                  have hc1 := hv1.cell
                  have hf1 := hv1.frozen
                  refine hK _ _ ?_
                  clear hK K
                  refine wpAnyIn_ready (rs := [7]) (by kernel_rfl) (by simp) ?_
                  refine AllReadyIn.cons rfl (fun K hK => ?_) ?_
                  · go_simp
                    refine hK _ _ ?_
                    clear hK K
                    refine wpAnyIn_done (by kernel_rfl) ?_ _
                    exact ⟨hk2.from _, hb2, ⟨⟨⟨_, hv2, by rw [pick_snoc, List.map_append, List.length_append]; exact hr2, trivial⟩, hl2⟩, hB.trans hb2⟩⟩
                  exact AllReadyIn.nil
                exact AllReadyIn.nil
              exact AllReadyIn.nil
            exact AllReadyIn.nil
          exact AllReadyIn.nil
        exact AllReadyIn.nil
      refine AllReadyIn.cons rfl (fun K hK => ?_) ?_
      · go_simp
        refine hK _ _ ?_
        clear hK K
        refine wpAnyIn_ready (rs := [0, 3]) (by kernel_rfl) (by simp) ?_
        refine AllReadyIn.cons rfl (fun K hK => ?_) ?_
        · go_simp
          refine hK _ _ ?_
          clear hK K
          refine wpAnyIn_ready (rs := [3]) (by kernel_rfl) (by simp) ?_
          refine AllReadyIn.cons rfl (fun K hK => ?_) ?_
          · go_simp
            refine hK _ _ ?_
            clear hK K
            refine wpAnyIn_ready (rs := [4]) (by kernel_rfl) (by simp) ?_
            refine AllReadyIn.cons rfl (fun K hK => ?_) ?_
            · go_simp
              refine hK _ _ ?_
              clear hK K
              refine wpAnyIn_ready (rs := [5]) (by kernel_rfl) (by simp) ?_
              refine AllReadyIn.cons rfl (fun K hK => ?_) ?_
              · go_simp
                refine hK _ _ ?_
                clear hK K
                refine wpAnyIn_ready (rs := [6]) (by kernel_rfl) (by simp) ?_
                refine AllReadyIn.cons rfl (fun K hK => ?_) ?_
                · rw [if_pos (by rfl)]
                  refine opIn_append_own _ (.tmp 9) (.tmp 14) 22 rfl w.heap.size 35 i0 (.float .f64 0) 1 8 Try.underlying22 hi hz0 hz1 hz2 rfl (by decide) _ _ _ rfl (show ((W.alloc (.cells #[F (at_ l x)] 35)).drew).ownsRow w.heap.size 35 1 v pre.length ((pick l pre).map F) from hrow.alloc _) ⟨W.heap.size, 0, none⟩ 1 1 [F (at_ l x)] rfl rfl (cell_one_new W _ _) (by simp [Value.oneCell']) (by unfold maxLen; omega) (by omega) (by have := hB.size; simp; omega) ?_
                  intro v' w1 hown' hgrow
                  obtain ⟨g', cap', rfl⟩ := ownsRow_succ hown'
                  obtain ⟨hv1, hv2, hr2, hk2, hb2, hl2⟩ := appended_box hv hrow hB.size (Nat.le_succ _) hown' hgrow hbl (by omega)
                  have hc1 := hv1.cell
                  have hf1 := hv1.frozen
                  refine hK _ _ ?_
                  clear hK K
                  refine wpAnyIn_ready (rs := [7]) (by kernel_rfl) (by simp) ?_
                  refine AllReadyIn.cons rfl (fun K hK => ?_) ?_
                  · go_simp
                    refine hK _ _ ?_
                    clear hK K
                    refine wpAnyIn_done (by kernel_rfl) ?_ _
                    exact ⟨hk2.from _, hb2, ⟨⟨⟨_, hv2, by rw [pick_snoc, List.map_append, List.length_append]; exact hr2, trivial⟩, hl2⟩, hB.trans hb2⟩⟩
                  exact AllReadyIn.nil
                exact AllReadyIn.nil
              exact AllReadyIn.nil
            exact AllReadyIn.nil
          exact AllReadyIn.nil
        refine AllReadyIn.cons rfl (fun K hK => ?_) ?_
        · go_simp
          refine hK _ _ ?_
          clear hK K
          refine wpAnyIn_ready (rs := [0, 4]) (by kernel_rfl) (by simp) ?_
          refine AllReadyIn.cons rfl (fun K hK => ?_) ?_
          · go_simp
            refine hK _ _ ?_
            clear hK K
            refine wpAnyIn_ready (rs := [4]) (by kernel_rfl) (by simp) ?_
            refine AllReadyIn.cons rfl (fun K hK => ?_) ?_
            · go_simp
              refine hK _ _ ?_
              clear hK K
              refine wpAnyIn_ready (rs := [5]) (by kernel_rfl) (by simp) ?_
              refine AllReadyIn.cons rfl (fun K hK => ?_) ?_
              · go_simp
                refine hK _ _ ?_
                clear hK K
                refine wpAnyIn_ready (rs := [6]) (by kernel_rfl) (by simp) ?_
                refine AllReadyIn.cons rfl (fun K hK => ?_) ?_
                · rw [if_pos (by rfl)]
                  refine opIn_append_own _ (.tmp 9) (.tmp 14) 22 rfl w.heap.size 35 i0 (.float .f64 0) 1 8 Try.underlying22 hi hz0 hz1 hz2 rfl (by decide) _ _ _ rfl (show ((W.alloc (.cells #[F (at_ l x)] 35)).drew).ownsRow w.heap.size 35 1 v pre.length ((pick l pre).map F) from hrow.alloc _) ⟨W.heap.size, 0, none⟩ 1 1 [F (at_ l x)] rfl rfl (cell_one_new W _ _) (by simp [Value.oneCell']) (by unfold maxLen; omega) (by omega) (by have := hB.size; simp; omega) ?_
                  intro v' w1 hown' hgrow
                  obtain ⟨g', cap', rfl⟩ := ownsRow_succ hown'
                  obtain ⟨hv1, hv2, hr2, hk2, hb2, hl2⟩ := appended_box hv hrow hB.size (Nat.le_succ _) hown' hgrow hbl (by omega)
                  have hc1 := hv1.cell
                  have hf1 := hv1.frozen
                  refine hK _ _ ?_
                  clear hK K
                  refine wpAnyIn_ready (rs := [7]) (by kernel_rfl) (by simp) ?_
                  refine AllReadyIn.cons rfl (fun K hK => ?_) ?_
                  · go_simp
                    refine hK _ _ ?_
                    clear hK K
                    refine wpAnyIn_done (by kernel_rfl) ?_ _
                    exact ⟨hk2.from _, hb2, ⟨⟨⟨_, hv2, by rw [pick_snoc, List.map_append, List.length_append]; exact hr2, trivial⟩, hl2⟩, hB.trans hb2⟩⟩
                  exact AllReadyIn.nil
                exact AllReadyIn.nil
              exact AllReadyIn.nil
            exact AllReadyIn.nil
          refine AllReadyIn.cons rfl (fun K hK => ?_) ?_
          · go_simp
            refine hK _ _ ?_
            clear hK K
            refine wpAnyIn_ready (rs := [0, 5]) (by kernel_rfl) (by simp) ?_
            refine AllReadyIn.cons rfl (fun K hK => ?_) ?_
            · go_simp
              refine hK _ _ ?_
              clear hK K
              refine wpAnyIn_ready (rs := [5]) (by kernel_rfl) (by simp) ?_
              refine AllReadyIn.cons rfl (fun K hK => ?_) ?_
              · go_simp
                refine hK _ _ ?_
                clear hK K
                refine wpAnyIn_ready (rs := [6]) (by kernel_rfl) (by simp) ?_
                refine AllReadyIn.cons rfl (fun K hK => ?_) ?_
                · rw [if_pos (by rfl)]
                  refine opIn_append_own _ (.tmp 9) (.tmp 14) 22 rfl w.heap.size 35 i0 (.float .f64 0) 1 8 Try.underlying22 hi hz0 hz1 hz2 rfl (by decide) _ _ _ rfl (show ((W.alloc (.cells #[F (at_ l x)] 35)).drew).ownsRow w.heap.size 35 1 v pre.length ((pick l pre).map F) from hrow.alloc _) ⟨W.heap.size, 0, none⟩ 1 1 [F (at_ l x)] rfl rfl (cell_one_new W _ _) (by simp [Value.oneCell']) (by unfold maxLen; omega) (by omega) (by have := hB.size; simp; omega) ?_
                  intro v' w1 hown' hgrow
                  obtain ⟨g', cap', rfl⟩ := ownsRow_succ hown'
                  obtain ⟨hv1, hv2, hr2, hk2, hb2, hl2⟩ := appended_box hv hrow hB.size (Nat.le_succ _) hown' hgrow hbl (by omega)
                  have hc1 := hv1.cell
                  have hf1 := hv1.frozen
                  refine hK _ _ ?_
                  clear hK K
                  refine wpAnyIn_ready (rs := [7]) (by kernel_rfl) (by simp) ?_
                  refine AllReadyIn.cons rfl (fun K hK => ?_) ?_
                  · go_simp
                    refine hK _ _ ?_
                    clear hK K
                    refine wpAnyIn_done (by kernel_rfl) ?_ _
                    exact ⟨hk2.from _, hb2, ⟨⟨⟨_, hv2, by rw [pick_snoc, List.map_append, List.length_append]; exact hr2, trivial⟩, hl2⟩, hB.trans hb2⟩⟩
                  exact AllReadyIn.nil
                exact AllReadyIn.nil
              exact AllReadyIn.nil
            refine AllReadyIn.cons rfl (fun K hK => ?_) ?_
            · go_simp
              refine hK _ _ ?_
              clear hK K
              refine wpAnyIn_ready (rs := [0]) (by kernel_rfl) (by simp) ?_
              refine AllReadyIn.cons rfl (fun K hK => ?_) ?_
              · go_simp
                refine hK _ _ ?_
                clear hK K
                refine wpAnyIn_ready (rs := [6]) (by kernel_rfl) (by simp) ?_
                refine AllReadyIn.cons rfl (fun K hK => ?_) ?_
                · rw [if_pos (by rfl)]
                  refine opIn_append_own _ (.tmp 9) (.tmp 14) 22 rfl w.heap.size 35 i0 (.float .f64 0) 1 8 Try.underlying22 hi hz0 hz1 hz2 rfl (by decide) _ _ _ rfl (show ((W.alloc (.cells #[F (at_ l x)] 35)).drew).ownsRow w.heap.size 35 1 v pre.length ((pick l pre).map F) from hrow.alloc _) ⟨W.heap.size, 0, none⟩ 1 1 [F (at_ l x)] rfl rfl (cell_one_new W _ _) (by simp [Value.oneCell']) (by unfold maxLen; omega) (by omega) (by have := hB.size; simp; omega) ?_
                  intro v' w1 hown' hgrow
                  obtain ⟨g', cap', rfl⟩ := ownsRow_succ hown'
                  obtain ⟨hv1, hv2, hr2, hk2, hb2, hl2⟩ := appended_box hv hrow hB.size (Nat.le_succ _) hown' hgrow hbl (by omega)
                  have hc1 := hv1.cell
                  have hf1 := hv1.frozen
                  refine hK _ _ ?_
                  clear hK K
                  refine wpAnyIn_ready (rs := [7]) (by kernel_rfl) (by simp) ?_
                  refine AllReadyIn.cons rfl (fun K hK => ?_) ?_
                  · go_simp
                    refine hK _ _ ?_
                    clear hK K
                    refine wpAnyIn_done (by kernel_rfl) ?_ _
                    exact ⟨hk2.from _, hb2, ⟨⟨⟨_, hv2, by rw [pick_snoc, List.map_append, List.length_append]; exact hr2, trivial⟩, hl2⟩, hB.trans hb2⟩⟩
                  exact AllReadyIn.nil
                exact AllReadyIn.nil
              exact AllReadyIn.nil
            exact AllReadyIn.nil
          exact AllReadyIn.nil
        exact AllReadyIn.nil
      exact AllReadyIn.nil
    refine AllReadyIn.cons rfl (fun K hK => ?_) ?_
    · go_simp
      refine hK _ _ ?_
      clear hK K
      refine wpAnyIn_ready (rs := [0, 1]) (by kernel_rfl) (by simp) ?_
      refine AllReadyIn.cons rfl (fun K hK => ?_) ?_
      · go_simp
        refine hK _ _ ?_
        clear hK K
        refine wpAnyIn_ready (rs := [1]) (by kernel_rfl) (by simp) ?_
        refine AllReadyIn.cons rfl (fun K hK => ?_) ?_
        · go_simp
          refine hK _ _ ?_
          clear hK K
          refine wpAnyIn_ready (rs := [3]) (by kernel_rfl) (by simp) ?_
          refine AllReadyIn.cons rfl (fun K hK => ?_) ?_
          · go_simp
            refine hK _ _ ?_
            clear hK K
            refine wpAnyIn_ready (rs := [4]) (by kernel_rfl) (by simp) ?_
            refine AllReadyIn.cons rfl (fun K hK => ?_) ?_
            · go_simp
              refine hK _ _ ?_
              clear hK K
              refine wpAnyIn_ready (rs := [5]) (by kernel_rfl) (by simp) ?_
              refine AllReadyIn.cons rfl (fun K hK => ?_) ?_
              · go_simp
                refine hK _ _ ?_
                clear hK K
                refine wpAnyIn_ready (rs := [6]) (by kernel_rfl) (by simp) ?_
                refine AllReadyIn.cons rfl (fun K hK => ?_) ?_
                · rw [if_pos (by rfl)]
                  refine opIn_append_own _ (.tmp 9) (.tmp 14) 22 rfl w.heap.size 35 i0 (.float .f64 0) 1 8 Try.underlying22 hi hz0 hz1 hz2 rfl (by decide) _ _ _ rfl (show ((W.alloc (.cells #[F (at_ l x)] 35)).drew).ownsRow w.heap.size 35 1 v pre.length ((pick l pre).map F) from hrow.alloc _) ⟨W.heap.size, 0, none⟩ 1 1 [F (at_ l x)] rfl rfl (cell_one_new W _ _) (by simp [Value.oneCell']) (by unfold maxLen; omega) (by omega) (by have := hB.size; simp; omega) ?_
                  intro v' w1 hown' hgrow
                  obtain ⟨g', cap', rfl⟩ := ownsRow_succ hown'
                  obtain ⟨hv1, hv2, hr2, hk2, hb2, hl2⟩ := appended_box hv hrow hB.size (Nat.le_succ _) hown' hgrow hbl (by omega)
                  have hc1 := hv1.cell
                  have hf1 := hv1.frozen
                  refine hK _ _ ?_
                  clear hK K
                  refine wpAnyIn_ready (rs := [7]) (by kernel_rfl) (by simp) ?_
                  refine AllReadyIn.cons rfl (fun K hK => ?_) ?_
                  · go_simp
                    refine hK _ _ ?_
                    clear hK K
                    refine wpAnyIn_done (by kernel_rfl) ?_ _
                    exact ⟨hk2.from _, hb2, ⟨⟨⟨_, hv2, by rw [pick_snoc, List.map_append, List.length_append]; exact hr2, trivial⟩, hl2⟩, hB.trans hb2⟩⟩
                  exact AllReadyIn.nil
                exact AllReadyIn.nil
              exact AllReadyIn.nil
            exact AllReadyIn.nil
          exact AllReadyIn.nil
        exact AllReadyIn.nil
      refine AllReadyIn.cons rfl (fun K hK => ?_) ?_
      · go_simp
        refine hK _ _ ?_
        clear hK K
        refine wpAnyIn_ready (rs := [0, 3]) (by kernel_rfl) (by simp) ?_
        refine AllReadyIn.cons rfl (fun K hK => ?_) ?_
        · go_simp
          refine hK _ _ ?_
          clear hK K
          refine wpAnyIn_ready (rs := [3]) (by kernel_rfl) (by simp) ?_
          refine AllReadyIn.cons rfl (fun K hK => ?_) ?_
          · go_simp
            refine hK _ _ ?_
            clear hK K
            refine wpAnyIn_ready (rs := [4]) (by kernel_rfl) (by simp) ?_
            refine AllReadyIn.cons rfl (fun K hK => ?_) ?_
            · go_simp
              refine hK _ _ ?_
              clear hK K
              refine wpAnyIn_ready (rs := [5]) (by kernel_rfl) (by simp) ?_
              refine AllReadyIn.cons rfl (fun K hK => ?_) ?_
              · go_simp
                refine hK _ _ ?_
                clear hK K
                refine wpAnyIn_ready (rs := [6]) (by kernel_rfl) (by simp) ?_
                refine AllReadyIn.cons rfl (fun K hK => ?_) ?_
                · rw [if_pos (by rfl)]
                  refine opIn_append_own _ (.tmp 9) (.tmp 14) 22 rfl w.heap.size 35 i0 (.float .f64 0) 1 8 Try.underlying22 hi hz0 hz1 hz2 rfl (by decide) _ _ _ rfl (show ((W.alloc (.cells #[F (at_ l x)] 35)).drew).ownsRow w.heap.size 35 1 v pre.length ((pick l pre).map F) from hrow.alloc _) ⟨W.heap.size, 0, none⟩ 1 1 [F (at_ l x)] rfl rfl (cell_one_new W _ _) (by simp [Value.oneCell']) (by unfold maxLen; omega) (by omega) (by have := hB.size; simp; omega) ?_
                  intro v' w1 hown' hgrow
                  obtain ⟨g', cap', rfl⟩ := ownsRow_succ hown'
                  obtain ⟨hv1, hv2, hr2, hk2, hb2, hl2⟩ := appended_box hv hrow hB.size (Nat.le_succ _) hown' hgrow hbl (by omega)
                  have hc1 := hv1.cell
                  have hf1 := hv1.frozen
                  refine hK _ _ ?_
                  clear hK K
                  refine wpAnyIn_ready (rs := [7]) (by kernel_rfl) (by simp) ?_
                  refine AllReadyIn.cons rfl (fun K hK => ?_) ?_
                  · go_simp
                    refine hK _ _ ?_
                    clear hK K
                    refine wpAnyIn_done (by kernel_rfl) ?_ _
                    exact ⟨hk2.from _, hb2, ⟨⟨⟨_, hv2, by rw [pick_snoc, List.map_append, List.length_append]; exact hr2, trivial⟩, hl2⟩, hB.trans hb2⟩⟩
                  exact AllReadyIn.nil
                exact AllReadyIn.nil
              exact AllReadyIn.nil
            exact AllReadyIn.nil
          exact AllReadyIn.nil
        refine AllReadyIn.cons rfl (fun K hK => ?_) ?_
        · go_simp
          refine hK _ _ ?_
          clear hK K
          refine wpAnyIn_ready (rs := [0, 4]) (by kernel_rfl) (by simp) ?_
          refine AllReadyIn.cons rfl (fun K hK => ?_) ?_
          · go_simp
            refine hK _ _ ?_
            clear hK K
            refine wpAnyIn_ready (rs := [4]) (by kernel_rfl) (by simp) ?_
            refine AllReadyIn.cons rfl (fun K hK => ?_) ?_
            · go_simp
              refine hK _ _ ?_
              clear hK K
              refine wpAnyIn_ready (rs := [5]) (by kernel_rfl) (by simp) ?_
              refine AllReadyIn.cons rfl (fun K hK => ?_) ?_
              · go_simp
                refine hK _ _ ?_
                clear hK K
                refine wpAnyIn_ready (rs := [6]) (by kernel_rfl) (by simp) ?_
                refine AllReadyIn.cons rfl (fun K hK => ?_) ?_
                · rw [if_pos (by rfl)]
                  refine opIn_append_own _ (.tmp 9) (.tmp 14) 22 rfl w.heap.size 35 i0 (.float .f64 0) 1 8 Try.underlying22 hi hz0 hz1 hz2 rfl (by decide) _ _ _ rfl (show ((W.alloc (.cells #[F (at_ l x)] 35)).drew).ownsRow w.heap.size 35 1 v pre.length ((pick l pre).map F) from hrow.alloc _) ⟨W.heap.size, 0, none⟩ 1 1 [F (at_ l x)] rfl rfl (cell_one_new W _ _) (by simp [Value.oneCell']) (by unfold maxLen; omega) (by omega) (by have := hB.size; simp; omega) ?_
                  intro v' w1 hown' hgrow
                  obtain ⟨g', cap', rfl⟩ := ownsRow_succ hown'
                  obtain ⟨hv1, hv2, hr2, hk2, hb2, hl2⟩ := appended_box hv hrow hB.size (Nat.le_succ _) hown' hgrow hbl (by omega)
                  have hc1 := hv1.cell
                  have hf1 := hv1.frozen
                  refine hK _ _ ?_
                  clear hK K
                  refine wpAnyIn_ready (rs := [7]) (by kernel_rfl) (by simp) ?_
                  refine AllReadyIn.cons rfl (fun K hK => ?_) ?_
                  · go_simp
                    refine hK _ _ ?_
                    clear hK K
                    refine wpAnyIn_done (by kernel_rfl) ?_ _
                    exact ⟨hk2.from _, hb2, ⟨⟨⟨_, hv2, by rw [pick_snoc, List.map_append, List.length_append]; exact hr2, trivial⟩, hl2⟩, hB.trans hb2⟩⟩
                  exact AllReadyIn.nil
                exact AllReadyIn.nil
              exact AllReadyIn.nil
            exact AllReadyIn.nil
          refine AllReadyIn.cons rfl (fun K hK => ?_) ?_
          · go_simp
            refine hK _ _ ?_
            clear hK K
            refine wpAnyIn_ready (rs := [0, 5]) (by kernel_rfl) (by simp) ?_
            refine AllReadyIn.cons rfl (fun K hK => ?_) ?_
            · go_simp
              refine hK _ _ ?_
              clear hK K
              refine wpAnyIn_ready (rs := [5]) (by kernel_rfl) (by simp) ?_
              refine AllReadyIn.cons rfl (fun K hK => ?_) ?_
              · go_simp
                refine hK _ _ ?_
                clear hK K
                refine wpAnyIn_ready (rs := [6]) (by kernel_rfl) (by simp) ?_
                refine AllReadyIn.cons rfl (fun K hK => ?_) ?_
                · rw [if_pos (by rfl)]
                  refine opIn_append_own _ (.tmp 9) (.tmp 14) 22 rfl w.heap.size 35 i0 (.float .f64 0) 1 8 Try.underlying22 hi hz0 hz1 hz2 rfl (by decide) _ _ _ rfl (show ((W.alloc (.cells #[F (at_ l x)] 35)).drew).ownsRow w.heap.size 35 1 v pre.length ((pick l pre).map F) from hrow.alloc _) ⟨W.heap.size, 0, none⟩ 1 1 [F (at_ l x)] rfl rfl (cell_one_new W _ _) (by simp [Value.oneCell']) (by unfold maxLen; omega) (by omega) (by have := hB.size; simp; omega) ?_
                  intro v' w1 hown' hgrow
                  obtain ⟨g', cap', rfl⟩ := ownsRow_succ hown'
                  obtain ⟨hv1, hv2, hr2, hk2, hb2, hl2⟩ := appended_box hv hrow hB.size (Nat.le_succ _) hown' hgrow hbl (by omega)
                  have hc1 := hv1.cell
                  have hf1 := hv1.frozen
                  refine hK _ _ ?_
                  clear hK K
                  refine wpAnyIn_ready (rs := [7]) (by kernel_rfl) (by simp) ?_
                  refine AllReadyIn.cons rfl (fun K hK => ?_) ?_
                  · go_simp
                    refine hK _ _ ?_
                    clear hK K
                    refine wpAnyIn_done (by kernel_rfl) ?_ _
                    exact ⟨hk2.from _, hb2, ⟨⟨⟨_, hv2, by rw [pick_snoc, List.map_append, List.length_append]; exact hr2, trivial⟩, hl2⟩, hB.trans hb2⟩⟩
                  exact AllReadyIn.nil
                exact AllReadyIn.nil
              exact AllReadyIn.nil
            refine AllReadyIn.cons rfl (fun K hK => ?_) ?_
            · go_simp
              refine hK _ _ ?_
              clear hK K
              refine wpAnyIn_ready (rs := [0]) (by kernel_rfl) (by simp) ?_
              refine AllReadyIn.cons rfl (fun K hK => ?_) ?_
              · go_simp
                refine hK _ _ ?_
                clear hK K
                refine wpAnyIn_ready (rs := [6]) (by kernel_rfl) (by simp) ?_
                refine AllReadyIn.cons rfl (fun K hK => ?_) ?_
                · rw [if_pos (by rfl)]
                  refine opIn_append_own _ (.tmp 9) (.tmp 14) 22 rfl w.heap.size 35 i0 (.float .f64 0) 1 8 Try.underlying22 hi hz0 hz1 hz2 rfl (by decide) _ _ _ rfl (show ((W.alloc (.cells #[F (at_ l x)] 35)).drew).ownsRow w.heap.size 35 1 v pre.length ((pick l pre).map F) from hrow.alloc _) ⟨W.heap.size, 0, none⟩ 1 1 [F (at_ l x)] rfl rfl (cell_one_new W _ _) (by simp [Value.oneCell']) (by unfold maxLen; omega) (by omega) (by have := hB.size; simp; omega) ?_
                  intro v' w1 hown' hgrow
                  obtain ⟨g', cap', rfl⟩ := ownsRow_succ hown'
                  obtain ⟨hv1, hv2, hr2, hk2, hb2, hl2⟩ := appended_box hv hrow hB.size (Nat.le_succ _) hown' hgrow hbl (by omega)
                  have hc1 := hv1.cell
                  have hf1 := hv1.frozen
                  refine hK _ _ ?_
                  clear hK K
                  refine wpAnyIn_ready (rs := [7]) (by kernel_rfl) (by simp) ?_
                  refine AllReadyIn.cons rfl (fun K hK => ?_) ?_
                  · go_simp
                    refine hK _ _ ?_
                    clear hK K
                    refine wpAnyIn_done (by kernel_rfl) ?_ _
                    exact ⟨hk2.from _, hb2, ⟨⟨⟨_, hv2, by rw [pick_snoc, List.map_append, List.length_append]; exact hr2, trivial⟩, hl2⟩, hB.trans hb2⟩⟩
                  exact AllReadyIn.nil
                exact AllReadyIn.nil
              exact AllReadyIn.nil
            exact AllReadyIn.nil
          exact AllReadyIn.nil
        exact AllReadyIn.nil
      exact AllReadyIn.nil
    exact AllReadyIn.nil
  case done =>
    rintro D ys W hD rfl ⟨⟨⟨v, hv, hrow, _⟩, hbl⟩, hB⟩ hK
    have hc := hv.cell
    gi_wp2
    refine ⟨by simp, .inl ⟨_, _, rfl, run_takeDeferred hK, ?_⟩⟩
    exact ⟨_, results_tmp rfl _ _ _, v, rfl, ownsRow_putObj hrow _ hK rfl, hB.trans (belowK_b (w := w) (Nat.le_refl _) W D _ _ (by simp at hD; omega) hK rfl rfl)⟩
  case stop =>
    rintro D c pre W _ _ h _
    exact h.elim
end Go.Proofs.Ytajnjghbppcfdaa
