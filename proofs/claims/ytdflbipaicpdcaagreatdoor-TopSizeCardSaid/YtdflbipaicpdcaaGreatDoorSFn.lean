/- irfft.halved: both halves, as a pair. The abstract machine: tables of rows of words are summaries that are sound. The abstract machine: the tables of circ.rest, of cosines and of sines hold. The abstract machine: the tables of cosines and sines are a summary that is sound. The abstract machine: float arithmetic of words, and tables of flat answers, are summaries that are sound. head comes to true in every world: its summary is sound. No condition. -/
import Derived.Test.YtdflbipaicpdcaaGreatDoorSQq
import Derived.Test.YtdflbipaicpdcaaGreatDoorSDe
import Derived.Test.YtdflbipaicpdcaaGreatDoorSQw
import Derived.Test.YtdflbipaicpdcaaGreatDoorSFd
import Derived.Test.YtdflbipaicpdcaaGreatDoorSTg
import Derived.Test.YtdflbipaicpdcaaGreatDoorSHs
import Derived.Test.YtdflbipaicpdcaaGreatDoorSHv
set_option linter.unusedVariables false
set_option linter.unusedSimpArgs false
namespace Go.Proofs.YtdflbipaicpdcaaGreatDoor
open Go.RowKit
set_option maxRecDepth 100000

end Go.Proofs.YtdflbipaicpdcaaGreatDoor
set_option maxRecDepth 100000
namespace Go.AM
open Go Go.RowKit Go.Proofs Go.Proofs.YtdflbipaicpdcaaGreatDoor

theorem findTab_mem : ∀ (tab : List KeyT) {k q : Nat} {x : RowT × RowT}, findTab tab k q = some x → ((k, q), x) ∈ tab
  | [], _, _, _, h => by simp [findTab] at h
  | ((a, b), y) :: l, k, q, x, h => by
    unfold findTab at h
    cases hc : (bif Nat.beq a k then Nat.beq b q else false) with
    | true =>
      rw [hc] at h
      simp only [cond_true, Option.some.injEq] at h
      subst h
      cases h1 : Nat.beq a k with
      | false => rw [h1] at hc; simp at hc
      | true =>
        rw [h1] at hc
        obtain rfl := nbeq_true h1
        obtain rfl := nbeq_true hc
        exact List.mem_cons_self ..
    | false =>
      rw [hc] at h
      exact List.mem_cons_of_mem _ (findTab_mem l h)

theorem eqRes_two {s : St} {r r2 : RowT} {v : Value} (h : eqRes s (.two r r2) v = true) : ∃ x y b b2, v = .agg #[x, y] ∧ eqRow s r x = some b ∧ eqRow s r2 y = some b2 ∧ b ≠ b2 ∧ 4 ≤ b ∧ 4 ≤ b2 := by
  cases v with
  | agg cs =>
    simp only [eqRes] at h
    split at h
    · rename_i x y hcs
      split at h
      · rename_i b hb
        split at h
        · rename_i b2 hb2
          cases h1 : Nat.beq b b2 with
          | true => rw [h1] at h; simp at h
          | false =>
            cases h2 : Nat.ble 4 b with
            | false => rw [h1, h2] at h; simp at h
            | true =>
              rw [h1, h2] at h
              simp only [cond_true, cond_false] at h
              obtain ⟨arr⟩ := cs
              simp only at hcs
              refine ⟨x, y, b, b2, by rw [hcs], hb, hb2, fun e => ?_, nble_true h2, nble_true h⟩
              subst e
              simp at h1
        · cases h
      · cases h
    · cases h
  | _ => simp [eqRes] at h

theorem memTab_ok {plug : Plug} (hplug : PlugOk Tryz.prog plug) {f : FuncId} (hb : ∃ fn, Tryz.prog.funcs[f]? = some fn ∧ fn.body ≠ none) {tab : List KeyT} (H : ∀ x ∈ tab, runTab Tryz.prog plug f x = true) : Pl1 Tryz.prog f (memTab tab) := by
  refine ⟨hb, fun args base s v s' h => ?_⟩
  unfold memTab at h
  split at h
  case h_2 => cases h
  rename_i q m
  split at h
  case h_2 => cases h
  rename_i r r2 hf
  obtain ⟨ht, h⟩ := bif_some h
  split at h
  case h_2 => cases h
  rename_i x1 s1 h1
  split at h
  case h_2 => cases h
  rename_i x2 s2 h2
  simp only [Option.some.injEq, Prod.mk.injEq] at h
  obtain ⟨rfl, rfl⟩ := h
  obtain ⟨p1, p2⟩ := rowT_keep h1
  obtain ⟨p3, p4⟩ := rowT_keep h2
  refine ⟨by rw [p3, p1], by rw [p4, p2], fun g J w args' _ hM hd => ?_⟩
  have hrun := H _ (findTab_mem tab hf)
  unfold runTab at hrun
  split at hrun
  case h_2 => cases hrun
  rename_i v0 s0 hcall
  cases hW : s0.W.isEmpty with
  | false => rw [hW] at hrun; simp at hrun
  | true =>
  rw [hW] at hrun
  simp only [cond_true] at hrun
  cases hE : eqRes s0 (.two r r2) v0 with
  | false => rw [hE] at hrun; simp at hrun
  | true =>
  rw [hE] at hrun
  simp only [cond_true] at hrun
  have hnd := nbeq_true hrun
  obtain ⟨sz, hcalls⟩ := memo_calls hplug hb hcall hM ht (by rfl) hd
  refine hcalls.mono ?_
  rintro en w' ⟨u, J', rfl, hle, hR, hden⟩
  have hWe := List.isEmpty_iff.1 hW
  obtain ⟨k1, k2⟩ := memo_keep hR hWe
  have hM1 : Mem g J All s w' := hM.later k1 k2 hR.oo
  obtain ⟨y1, y2, b1, b2, rfl, hr1, hr2, hne, h41, h42⟩ := eqRes_two hE
  obtain ⟨rfl, hH1, hok1⟩ := eqRow_spec hr1
  obtain ⟨rfl, hH2, hok2⟩ := eqRow_spec hr2
  have hu : ∃ z1 z2, u = .agg #[z1, z2] ∧ Den J' (.slice (some ⟨b1, 0, none⟩) r.n r.c) z1 ∧ Den J' (.slice (some ⟨b2, 0, none⟩) r2.n r2.c) z2 := by
    cases hden with
    | agg _ u' hl =>
      obtain ⟨z1, z2, e1, d1, d2⟩ := den2 hl
      obtain ⟨arr⟩ := u'
      simp only at e1
      subst e1
      exact ⟨z1, z2, rfl, d1, d2⟩
  obtain ⟨z1, z2, rfl, d1, d2⟩ := hu
  have hF : ∀ J, FlOk J J'.fl [] 0 0 0 := fun J => ⟨fun i hi => by omega, fun i hi => by omega⟩
  have hnew : ∀ b p, 4 ≤ b → J'.blk b = some p → w.heap.size ≤ p.blk := fun b p hb hp => by
    rcases hR.new b p hb hp with h6 | ⟨c, q, hc, _⟩
    · exact h6
    · rw [hWe] at hc; cases hc
  obtain ⟨J1, j1, j2, j3, j4⟩ := rowT_sound hR (n := 0) (N := 0) (by rw [hnd]) (hF J) hM1 hH1 hok1 (fun p0 hp0 => by
    have h7 := hnew b1 p0 h41 hp0
    refine ⟨Nat.le_trans hM.size h7, fun x q hx => ?_⟩
    have := hM.lt _ _ hx
    omega) d1 h1
  obtain ⟨J2, l1, l2, l3, -⟩ := rowT_sound hR (n := 0) (N := 0) (by rw [hnd]) (hF J1) j2 hH2 hok2 (fun p0 hp0 => by
    have h7 := hnew b2 p0 h42 hp0
    refine ⟨Nat.le_trans hM.size h7, fun x q hx e => ?_⟩
    rcases j4 x q hx with hx | hx
    · have := hM.lt _ _ hx
      omega
    · exact hne (hR.inj b1 b2 q p0 trivial trivial (by rw [hH1]; simp) (by rw [hH2]; simp) hx hp0 e)) d2 h2
  exact ⟨_, J2, rfl, j1.trans l1, l2, .agg _ _ (.cons _ _ _ _ (j3.mono l1) (.cons _ _ _ _ l3 .nil))⟩
end Go.AM
set_option maxRecDepth 100000
namespace Go.AM
open Go Go.RowKit Go.Proofs Go.Proofs.YtdflbipaicpdcaaGreatDoor

theorem restTab_all : AllD Tryz.prog plugND 257 restTab := (runsD_spec rest0_run).append ((runsD_spec rest1_run).append ((runsD_spec rest2_run).append ((runsD_spec rest3_run).append ((runsD_spec rest4_run).append ((runsD_spec rest5_run).append ((runsD_spec rest6_run).append ((runsD_spec rest7_run).append ((runsD_spec rest8_run).append ((runsD_spec rest9_run).append ((runsD_spec rest10_run).append ((runsD_spec rest11_run).append ((runsD_spec rest12_run).append ((runsD_spec rest13_run).append ((runsD_spec rest14_run).append ((runsD_spec rest15_run).append ((runsD_spec rest16_run).append ((runsD_spec rest17_run).append ((runsD_spec rest18_run).append ((runsD_spec rest19_run).append ((runsD_spec rest20_run).append ((runsD_spec rest21_run).append ((runsD_spec rest22_run).append ((runsD_spec rest23_run).append ((runsD_spec rest24_run).append ((runsD_spec rest25_run).append ((runsD_spec rest26_run).append ((runsD_spec rest27_run).append ((runsD_spec rest28_run).append ((runsD_spec rest29_run).append ((runsD_spec rest30_run).append ((runsD_spec rest31_run).append ((runsD_spec rest32_run).append ((runsD_spec rest33_run).append ((runsD_spec rest34_run).append ((runsD_spec rest35_run).append ((runsD_spec rest36_run).append ((runsD_spec rest37_run).append ((runsD_spec rest38_run).append ((runsD_spec rest39_run).append ((runsD_spec rest40_run).append ((runsD_spec rest41_run).append ((runsD_spec rest42_run).append ((runsD_spec rest43_run).append ((runsD_spec rest44_run).append ((runsD_spec rest45_run).append ((runsD_spec rest46_run).append ((runsD_spec rest47_run).append ((runsD_spec rest48_run).append ((runsD_spec rest49_run).append ((runsD_spec rest50_run).append ((runsD_spec rest51_run).append ((runsD_spec rest52_run).append ((runsD_spec rest53_run).append ((runsD_spec rest54_run).append ((runsD_spec rest55_run).append ((runsD_spec rest56_run).append (runsD_spec rest57_run)))))))))))))))))))))))))))))))))))))))))))))))))))))))))
theorem cosTab_all : AllF Tryz.prog plugR 159 cosTab := (runsF_spec cos0_run).append ((runsF_spec cos1_run).append ((runsF_spec cos2_run).append ((runsF_spec cos3_run).append ((runsF_spec cos4_run).append ((runsF_spec cos5_run).append ((runsF_spec cos6_run).append ((runsF_spec cos7_run).append ((runsF_spec cos8_run).append ((runsF_spec cos9_run).append ((runsF_spec cos10_run).append (runsF_spec cos11_run)))))))))))
theorem sinTab_all : AllF Tryz.prog plugR 160 sinTab := (runsF_spec sin0_run).append ((runsF_spec sin1_run).append ((runsF_spec sin2_run).append ((runsF_spec sin3_run).append ((runsF_spec sin4_run).append ((runsF_spec sin5_run).append ((runsF_spec sin6_run).append ((runsF_spec sin7_run).append ((runsF_spec sin8_run).append ((runsF_spec sin9_run).append ((runsF_spec sin10_run).append (runsF_spec sin11_run)))))))))))

theorem listND_ok : ∀ x ∈ listND, Pl1 Tryz.prog x.1 x.2 := fun x hx => by
  simp only [listND, List.mem_cons, List.not_mem_nil, or_false] at hx
  rcases hx with rfl | rfl | rfl | rfl | rfl | rfl | rfl | rfl | rfl | rfl | rfl | rfl | rfl | rfl | rfl | rfl | rfl | rfl
  · exact dAdd_ok
  · exact dCmp_ok
  · exact dMul_ok
  · exact dShift_ok
  · exact dFlip_ok
  · exact dCut_ok
  · exact dSign_ok
  · exact dOf_ok
  · exact dMake_ok
  · exact nLen_ok
  · exact nShl_ok
  · exact nRoot_ok
  · exact nShr_ok
  · exact nOf_ok
  · exact nAdd_ok
  · exact nSub_ok
  · exact nMul_ok
  · exact nCmp_ok
theorem listR_ok : ∀ x ∈ listR, Pl1 Tryz.prog x.1 x.2 := fun x hx => by
  rcases List.mem_cons.1 hx with rfl | hx
  · exact memD_ok plugND_ok (hb_of (by kernel_rfl)) restTab_all
  · exact listND_ok x hx
theorem plugR_ok : PlugOk Tryz.prog plugR := plugOf_ok _ listR_ok
theorem listT_ok : ∀ x ∈ listT, Pl1 Tryz.prog x.1 x.2 := fun x hx => by
  rcases List.mem_append.1 hx with hx | hx
  · exact listF_ok x hx
  rcases List.mem_cons.1 hx with rfl | hx
  · exact memF_ok plugR_ok (hb_of (by kernel_rfl)) cosTab_all
  rcases List.mem_cons.1 hx with rfl | hx
  · exact memF_ok plugR_ok (hb_of (by kernel_rfl)) sinTab_all
  · exact listR_ok x hx
theorem plugT_ok : PlugOk Tryz.prog plugT := plugOf_ok _ listT_ok
end Go.AM
set_option maxRecDepth 100000
namespace Go.AM
open Go Go.RowKit Go.Proofs Go.Proofs.YtdflbipaicpdcaaGreatDoor

theorem tabT_all : ∀ x ∈ tabT, runTab Tryz.prog plugT 44 x = true := fun x hx => by
  simp only [tabT, List.mem_cons, List.not_mem_nil, or_false] at hx
  rcases hx with rfl | rfl | rfl | rfl | rfl | rfl | rfl | rfl | rfl | rfl | rfl | rfl | rfl
  · exact tab_0_0_run
  · exact tab_1_1_run
  · exact tab_2_2_run
  · exact tab_3_4_run
  · exact tab_3_1_run
  · exact tab_4_2_run
  · exact tab_5_4_run
  · exact tab_4_8_run
  · exact tab_6_8_run
  · exact tab_5_16_run
  · exact tab_7_16_run
  · exact tab_8_32_run
  · exact tab_6_32_run

end Go.AM
set_option maxRecDepth 100000
namespace Go.AM
open Go Go.RowKit Go.Proofs Go.Proofs.YtdflbipaicpdcaaGreatDoor

theorem fopN_eq {op : Nat} (hop : op = 1 ∨ op = 2 ∨ op = 3) (x y : Nat) : fopN op x y = fop op x y := by
  rcases hop with rfl | rfl | rfl <;> rfl
theorem word_spec {α : Type} {op x y : Nat} {k : Nat → Option α} {r : α} (h : word op x y k = some r) : x < SYM ∧ y < SYM ∧ Fl.isNaN (fopN op x y) = false ∧ fopN op x y < SYM ∧ k (fopN op x y) = some r := by
  unfold word at h
  obtain ⟨h1, h⟩ := bif_some h
  obtain ⟨h2, h⟩ := bif_some h
  rw [frc_eq] at h
  cases hn : Fl.isNaN (fopN op x y) with
  | true => rw [hn] at h; cases h
  | false =>
    rw [hn] at h
    simp only [cond_false] at h
    obtain ⟨h3, h⟩ := bif_some h
    exact ⟨nblt_true h1, nblt_true h2, rfl, nblt_true h3, h⟩
theorem word_den {J : Io} {x : Nat} (hx : x < SYM) {u : Value} (h : Den J (.float .f64 x) u) : u = .float .f64 x := by
  cases h with
  | word => rfl
  | sym _ _ _ h1 => omega
/-- a number that is alike is the same -/
theorem alike_num {r v : Nat} (h : Fl.canon r = v) (hn : Fl.isNaN v = false) : r = v := by
  unfold Fl.canon at h
  split at h
  · subst h; rw [Fl.isNaN_qnan] at hn; cases hn
  · exact h

theorem oneW_ok {f : FuncId} (op : Nat) (hop : op = 1 ∨ op = 2 ∨ op = 3) (hb : ∃ fn, Tryz.prog.funcs[f]? = some fn ∧ fn.body ≠ none)
    (H : ∀ (x y : Nat) (w : World), Calls Tryz.prog f #[.float .f64 x, .float .f64 y] w (Gives (fop op x y) w)) : Pl1 Tryz.prog f (oneW op) := pl_flat hb fun args base s v s' h => by
  unfold oneW at h
  split at h
  case h_2 => cases h
  rename_i a b
  obtain ⟨h1, h2, h3, h4, h⟩ := word_spec h
  simp only [Option.some.injEq, Prod.mk.injEq] at h
  obtain ⟨rfl, rfl⟩ := h
  refine ⟨rfl, fun J => .word _ _ h4, fun g J w args' hM hd => ?_⟩
  obtain ⟨a', b', rfl, d1, d2⟩ := den2 hd
  obtain rfl := word_den h1 d1
  obtain rfl := word_den h2 d2
  refine (H a b w).mono ?_
  rintro e w' ⟨r, n, rfl, hc, hl, rfl⟩
  rw [fopN_eq hop] at h3 ⊢
  rw [alike_num hc h3]
  exact ⟨rfl, below_drewN (Below.refl _ w) n⟩

theorem pair_num {r t a b : Nat} (h : Fl.canon r = a) (k : Fl.canon t = b) (h2 : Fl.isNaN a = false) (k2 : Fl.isNaN b = false) : (Ending.returned (.tuple #[F r, F t])) = .returned (.tuple #[F a, F b]) := by
  rw [alike_num h h2, alike_num k k2]

theorem twoW_ok {f : FuncId} (op : Nat) (hop : op = 1 ∨ op = 2 ∨ op = 3) (hb : ∃ fn, Tryz.prog.funcs[f]? = some fn ∧ fn.body ≠ none)
    (H : ∀ (a b c d : Nat) (w : World), Calls Tryz.prog f #[F a, F b, F c, F d] w (GivesT (fop op a c) (fop op b d) w)) : Pl1 Tryz.prog f (twoW op) := pl_flat hb fun args base s v s' h => by
  unfold twoW at h
  split at h
  case h_2 => cases h
  rename_i a b c d
  obtain ⟨h1, h2, h3, h4, h⟩ := word_spec h
  obtain ⟨k1, k2, k3, k4, h⟩ := word_spec h
  simp only [Option.some.injEq, Prod.mk.injEq] at h
  obtain ⟨rfl, rfl⟩ := h
  refine ⟨rfl, fun J => .tuple _ _ (.cons _ _ _ _ (.word _ _ h4) (.cons _ _ _ _ (.word _ _ k4) .nil)), fun g J w args' hM hd => ?_⟩
  obtain ⟨a', b', c', d', rfl, d1, d2, d3, d4⟩ := den4 hd
  obtain rfl := word_den h1 d1
  obtain rfl := word_den k1 d2
  obtain rfl := word_den h2 d3
  obtain rfl := word_den k2 d4
  refine (H a b c d w).mono ?_
  rintro e w' ⟨r, t, rfl, ⟨hc, hl⟩, ⟨hc2, hl2⟩, hB⟩
  rw [fopN_eq hop] at h3 k3
  rw [fopN_eq hop, fopN_eq hop]
  exact ⟨pair_num hc hc2 h3 k3, hB⟩

theorem halfW_ok : Pl1 Tryz.prog 46 halfW := pl_flat (hb_of (by kernel_rfl)) fun args base s v s' h => by
  unfold halfW at h
  split at h
  case h_2 => cases h
  rename_i a b
  obtain ⟨h1, h2, h3, h4, h⟩ := word_spec h
  obtain ⟨k1, k2, k3, k4, h⟩ := word_spec h
  simp only [Option.some.injEq, Prod.mk.injEq] at h
  obtain ⟨rfl, rfl⟩ := h
  refine ⟨rfl, fun J => .tuple _ _ (.cons _ _ _ _ (.word _ _ h4) (.cons _ _ _ _ (.word _ _ k4) .nil)), fun g J w args' hM hd => ?_⟩
  obtain ⟨a', b', rfl, d1, d2⟩ := den2 hd
  obtain rfl := word_den h1 d1
  obtain rfl := word_den k1 d2
  refine (cpx_half a b w).mono ?_
  rintro e w' ⟨r, t, rfl, ⟨hc, hl⟩, ⟨hc2, hl2⟩, hB⟩
  exact ⟨pair_num hc hc2 h3 k3, hB⟩

theorem mulW_ok : Pl1 Tryz.prog 137 mulW := pl_flat (hb_of (by kernel_rfl)) fun args base s v s' h => by
  unfold mulW at h
  split at h
  case h_2 => cases h
  rename_i a b c d
  obtain ⟨h1, h2, h3, h4, h⟩ := word_spec h
  obtain ⟨k1, k2, k3, k4, h⟩ := word_spec h
  obtain ⟨l1, l2, l3, l4, h⟩ := word_spec h
  obtain ⟨-, -, -, -, h⟩ := word_spec h
  obtain ⟨-, -, -, -, h⟩ := word_spec h
  obtain ⟨m1, m2, m3, m4, h⟩ := word_spec h
  simp only [Option.some.injEq, Prod.mk.injEq] at h
  obtain ⟨rfl, rfl⟩ := h
  refine ⟨rfl, fun J => .tuple _ _ (.cons _ _ _ _ (.word _ _ l4) (.cons _ _ _ _ (.word _ _ m4) .nil)), fun g J w args' hM hd => ?_⟩
  obtain ⟨a', b', c', d', rfl, d1, d2, d3, d4⟩ := den4 hd
  obtain rfl := word_den h1 d1
  obtain rfl := word_den k1 d2
  obtain rfl := word_den h2 d3
  obtain rfl := word_den k2 d4
  refine (cpx_mul a b c d w).mono ?_
  rintro e w' ⟨r, t, rfl, ⟨hc, hl⟩, ⟨hc2, hl2⟩, hB⟩
  exact ⟨pair_num hc hc2 l3 m3, hB⟩

theorem turnW_ok : Pl1 Tryz.prog 47 turnW := pl_flat (hb_of (by kernel_rfl)) fun args base s v s' h => by
  unfold turnW at h
  split at h
  case h_2 => cases h
  rename_i a b c d
  obtain ⟨h1, h2, h3, h4, h⟩ := word_spec h
  obtain ⟨k1, k2, k3, k4, h⟩ := word_spec h
  obtain ⟨l1, l2, l3, l4, h⟩ := word_spec h
  obtain ⟨-, -, -, -, h⟩ := word_spec h
  obtain ⟨-, -, -, -, h⟩ := word_spec h
  obtain ⟨m1, m2, m3, m4, h⟩ := word_spec h
  simp only [Option.some.injEq, Prod.mk.injEq] at h
  obtain ⟨rfl, rfl⟩ := h
  refine ⟨rfl, fun J => .tuple _ _ (.cons _ _ _ _ (.word _ _ l4) (.cons _ _ _ _ (.word _ _ m4) .nil)), fun g J w args' hM hd => ?_⟩
  obtain ⟨a', b', c', d', rfl, d1, d2, d3, d4⟩ := den4 hd
  obtain rfl := word_den h1 d1
  obtain rfl := word_den k1 d2
  obtain rfl := word_den h2 d3
  obtain rfl := word_den k2 d4
  refine (cpx_turn a b c d w).mono ?_
  rintro e w' ⟨r, t, rfl, ⟨hc, hl⟩, ⟨hc2, hl2⟩, hB⟩
  exact ⟨pair_num hc hc2 l3 m3, hB⟩

theorem listW_ok : ∀ x ∈ listW, Pl1 Tryz.prog x.1 x.2 := fun x hx => by
  simp only [listW, List.mem_cons, List.not_mem_nil, or_false] at hx
  rcases hx with rfl | rfl | rfl | rfl | rfl | rfl | rfl | rfl
  · exact oneW_ok 1 (by simp) (hb_of (by kernel_rfl)) fun x y w => ops_add x y w
  · exact oneW_ok 2 (by simp) (hb_of (by kernel_rfl)) fun x y w => ops_sub x y w
  · exact oneW_ok 3 (by simp) (hb_of (by kernel_rfl)) fun x y w => ops_mul x y w
  · exact twoW_ok 1 (by simp) (hb_of (by kernel_rfl)) fun a b c d w => cpx_add a b c d w
  · exact twoW_ok 2 (by simp) (hb_of (by kernel_rfl)) fun a b c d w => cpx_sub a b c d w
  · exact halfW_ok
  · exact turnW_ok
  · exact mulW_ok

theorem eqFL_spec {f : Value → Value → Bool} (hf : ∀ x y, f x y = true → x = y) : ∀ {l m : List Value}, eqF.eqFL f l m = true → l = m
  | [], [], _ => rfl
  | x :: l, y :: m, h => by
    simp only [eqF.eqFL] at h
    cases h1 : f x y with
    | false => rw [h1] at h; cases h
    | true =>
      rw [h1] at h
      rw [hf _ _ h1, eqFL_spec hf (l := l) (m := m) h]
  | [], _ :: _, h => by cases h
  | _ :: _, [], h => by cases h
theorem eqF_spec : ∀ (n : Nat) (v u : Value), eqF n v u = true → v = u
  | 0, _, _, h => by simp [eqF] at h
  | n + 1, v, u, h => by
    cases v <;> cases u <;> simp only [eqF] at h <;> try (cases h; done)
    · rename_i a b; rw [show a = b by simpa using h]
    · rename_i k a l b
      cases h1 : (k == l) with
      | false => rw [h1] at h; cases h
      | true =>
        rw [h1] at h
        rw [show k = l by simpa using h1, eqI_spec h]
    · rename_i t x r y
      cases h1 : Nat.beq t r with
      | false => rw [h1] at h; cases h
      | true =>
        rw [h1] at h
        rw [nbeq_true h1, eqF_spec n _ _ h]
    · rename_i a b
      have := eqFL_spec (eqF_spec n) h
      obtain ⟨a⟩ := a
      obtain ⟨b⟩ := b
      simp only at this
      rw [this]
theorem findV_mem : ∀ (tab : List KeyV) {args : List Value} {x : Value}, findV tab args = some x → (args, x) ∈ tab
  | [], _, _, h => by simp [findV] at h
  | (a, y) :: l, args, x, h => by
    unfold findV at h
    cases hc : eqF.eqFL (eqF 6) a args with
    | true =>
      rw [hc] at h
      simp only [cond_true, Option.some.injEq] at h
      subst h
      rw [eqFL_spec (eqF_spec 6) hc]
      exact List.mem_cons_self ..
    | false =>
      rw [hc] at h
      exact List.mem_cons_of_mem _ (findV_mem l h)
theorem runsV_spec {P : Program} {plug : Plug} {f : FuncId} : ∀ {tab : List KeyV}, runsV P plug f tab = true → ∀ x ∈ tab, runV P plug f x = true
  | [], _ => fun x hx => by cases hx
  | y :: l, h => fun x hx => by
    unfold runsV at h
    cases h1 : runV P plug f y with
    | false => rw [h1] at h; simp at h
    | true =>
      rw [h1] at h
      rcases List.mem_cons.1 hx with rfl | hx
      · exact h1
      · exact runsV_spec (tab := l) h x hx

theorem memV_ok {plug : Plug} (hplug : PlugOk Tryz.prog plug) {f : FuncId} (hb : ∃ fn, Tryz.prog.funcs[f]? = some fn ∧ fn.body ≠ none) {tab : List KeyV} (H : ∀ x ∈ tab, runV Tryz.prog plug f x = true) : Pl1 Tryz.prog f (memV tab) := by
  refine ⟨hb, fun args base s v s' h => ?_⟩
  unfold memV at h
  split at h
  case h_2 => cases h
  rename_i x hx
  obtain ⟨ht, h⟩ := bif_some h
  simp only [Option.some.injEq, Prod.mk.injEq] at h
  obtain ⟨rfl, rfl⟩ := h
  refine ⟨rfl, rfl, fun g J w args' _ hM hd => ?_⟩
  have hrun := H _ (findV_mem tab hx)
  unfold runV at hrun
  cases hfl : args.all (flat 6) with
  | false => rw [hfl] at hrun; cases hrun
  | true =>
  rw [hfl] at hrun
  simp only [cond_true] at hrun
  split at hrun
  case h_2 => cases hrun
  rename_i v0 s0 hcall
  cases hW : s0.W.isEmpty with
  | false => rw [hW] at hrun; cases hrun
  | true =>
  rw [hW] at hrun
  simp only [cond_true] at hrun
  cases hv : flat 6 v0 with
  | false => rw [hv] at hrun; cases hrun
  | true =>
  rw [hv] at hrun
  simp only [cond_true] at hrun
  obtain rfl := eqF_spec 6 _ _ hrun
  obtain ⟨sz, hcalls⟩ := memo_calls hplug hb hcall hM ht hfl hd
  refine hcalls.mono ?_
  rintro en w' ⟨u, J', rfl, hle, hR, hden⟩
  obtain ⟨k1, k2⟩ := memo_keep hR (List.isEmpty_iff.1 hW)
  obtain rfl := flat_eq 6 _ _ hv hden
  exact ⟨_, J, rfl, .refl _, hM.later k1 k2 hR.oo, flat_den 6 _ hv J⟩
end Go.AM
set_option maxRecDepth 100000
namespace Go.AM
open Go Go.RowKit Go.Proofs Go.Proofs.YtdflbipaicpdcaaGreatDoor

theorem listH_ok : ∀ x ∈ listH, Pl1 Tryz.prog x.1 x.2 := fun x hx => by
  rcases List.mem_cons.1 hx with rfl | hx
  · exact memTab_ok plugT_ok (hb_of (by kernel_rfl)) tabT_all
  rcases List.mem_cons.1 hx with rfl | hx
  · exact memP_ok plugR_ok (hb_of (by kernel_rfl)) (runsP_spec splitH_run)
  rcases List.mem_cons.1 hx with rfl | hx
  · exact memD_ok plugR_ok (hb_of (by kernel_rfl)) (runsD_spec cosH_run)
  rcases List.mem_cons.1 hx with rfl | hx
  · exact memF_ok plugR_ok (hb_of (by kernel_rfl)) cosTab_all
  rcases List.mem_cons.1 hx with rfl | hx
  · exact memF_ok plugR_ok (hb_of (by kernel_rfl)) sinTab_all
  · exact listR_ok x hx
theorem plugH_ok : PlugOk Tryz.prog plugH := plugOf_ok _ listH_ok
theorem listK_ok : ∀ x ∈ listK, Pl1 Tryz.prog x.1 x.2 := fun x hx => by
  rcases List.mem_cons.1 hx with rfl | hx
  · exact memV_ok plugH_ok (hb_of (by kernel_rfl)) (runsV_spec fitsH_run)
  rcases List.mem_cons.1 hx with rfl | hx
  · exact memV_ok plugH_ok (hb_of (by kernel_rfl)) (runsV_spec logH_run)
  rcases List.mem_cons.1 hx with rfl | hx
  · exact memV_ok plugH_ok (hb_of (by kernel_rfl)) (runsV_spec zerosH_run)
  rcases List.mem_cons.1 hx with rfl | hx
  · exact memV_ok plugH_ok (hb_of (by kernel_rfl)) (runsV_spec waveH_run)
  rcases List.mem_append.1 hx with hx | hx
  · exact listW_ok x hx
  · exact listH_ok x hx
theorem plugK_ok : PlugOk Tryz.prog plugK := plugOf_ok _ listK_ok
theorem head_ok : Pl1 Tryz.prog 5 trueF := trueF_ok plugK_ok (hb_of (by kernel_rfl)) head_run
end Go.AM
