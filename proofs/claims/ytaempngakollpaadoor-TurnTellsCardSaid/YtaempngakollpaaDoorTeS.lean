/- The statement TurnTells: whether any angle is right, and what is made of right ones, are the document's. For every input the law returns true. Under: the two listed tables of Go's library as the program's text lays them (the card ties them). -/
import Derived.Test.YtaempngakollpaaDoorFr
import Derived.Test.YtaempngakollpaaDoorTeWalk
import Derived.Test.YtaempngakollpaaDoorTie
import Derived.Test.YtaempngakollpaaDoorCards
namespace Go.Proofs.YtaempngakollpaaDoor
open Go.ChangeShapes Go.WideShapes Go.ChangeAt Go.RowKit Go.Joins

set_option maxRecDepth 100000 in
theorem turnTells_lifted (os : Os) (started : os.Started) (H : Type) (enc : TypeId × Value → H) :
    ReturnsInHanded {} Tryd.checked os 3 .any (fun w args => (Rows.turnTellsSpec.pre enc Tryd.prog Tryd.f3 [] false w args ∧ laidMetH Tryd.prog laid2 w) ∧ sizedMet enc Tryd.prog Tryd.f3 (OpenSpec.ofChange Rows.turnTellsSpec) false w args)
      (Rows.turnTellsSpec.post enc Tryd.prog Tryd.f3 false true false false) := by
  refine returnsInHanded_of_change_and (C := Tryd.checked) (X := fun w _ => laidMetH Tryd.prog laid2 w) (fun _ _ _ hh h => h.of_heap hh) own started (by kernel_rfl) Tryd.func3
    (ChangeSpec.witness_shaped (enc := enc) (C := Tryd.checked) (os := os) (X := fun w _ => laidMetH Tryd.prog laid2 w) false (World.doorLaid Tryd.prog 400 os) #[.agg #[.int .i64 0, .int .i64 0], .agg #[.int .i64 0, .int .i64 0], .agg #[.int .i64 0, .int .i64 0], .int .i64 0, .int .i64 0] 8 rfl (World.shaped_of_RefB (by kernel_rfl) (by kernel_rfl)) (by kernel_rfl) (by kernel_rfl) (by kernel_rfl) (door_met os _)) ?_
  intro W base args ds gs before hval0 hW _ _ hL _
  have hval : ∀ (j : Nat) t v, Tryd.f3.params[j]? = some t → args[j]? = some v → Value.okWide Tryd.prog W .any base t v := hval0
  have hW' := hW
  obtain ⟨p, q, hA0, hV, rfl, hfz, hnd⟩ := hW
  have hA : DataW.TrodAll enc Tryd.prog W 0 (fun _ => true) true Tryd.f3.params.toList args.toList ds p := hA0
  rw [Tryd.params3] at hA hval
  obtain ⟨v0, vs0, d0, ds0, p0, q0, hargs, rfl, rfl, h0, r0⟩ := trodAll_cons hA
  obtain ⟨v1, vs1, d1, ds1, p1, q1, rfl, rfl, rfl, h1, r1⟩ := trodAll_cons r0
  obtain ⟨v2, vs2, d2, ds2, p2, q2, rfl, rfl, rfl, h2, r2⟩ := trodAll_cons r1
  obtain ⟨v3, vs3, d3, ds3, p3, q3, rfl, rfl, rfl, h3, r3⟩ := trodAll_cons r2
  obtain ⟨v4, vs4, d4, ds4, p4, q4, rfl, rfl, rfl, h4, r4⟩ := trodAll_cons r3
  obtain ⟨rfl, rfl, rfl⟩ := trodAll_nil r4
  obtain rfl : args = #[v0, v1, v2, v3, v4] := by cases args; simp_all
  obtain ⟨rfl, rfl⟩ := trodVars_none hV
  obtain ⟨u0, x0, y0, z0, n0, rfl, rfl, rfl, k0, l0⟩ := open_agg2 Tryd.underlying23 (by kernel_rfl) (by kernel_rfl) (hval 0 23 v0 rfl rfl) h0
  obtain ⟨a0, hu0, hy0, w0⟩ := DataW.trod_int Tryd.underlying3 k0
  obtain ⟨b0, hx0, hz0, m0⟩ := DataW.trod_int Tryd.underlying3 l0
  simp only [List.cons.injEq, and_true] at hu0 hx0
  subst hu0; subst hx0; subst hy0; subst hz0
  obtain ⟨u1, x1, y1, z1, n1, rfl, rfl, rfl, k1, l1⟩ := open_agg2 Tryd.underlying23 (by kernel_rfl) (by kernel_rfl) (hval 1 23 v1 rfl rfl) h1
  obtain ⟨a1, hu1, hy1, w1⟩ := DataW.trod_int Tryd.underlying3 k1
  obtain ⟨b1, hx1, hz1, m1⟩ := DataW.trod_int Tryd.underlying3 l1
  simp only [List.cons.injEq, and_true] at hu1 hx1
  subst hu1; subst hx1; subst hy1; subst hz1
  obtain ⟨u2, x2, y2, z2, n2, rfl, rfl, rfl, k2, l2⟩ := open_agg2 Tryd.underlying23 (by kernel_rfl) (by kernel_rfl) (hval 2 23 v2 rfl rfl) h2
  obtain ⟨a2, hu2, hy2, w2⟩ := DataW.trod_int Tryd.underlying3 k2
  obtain ⟨b2, hx2, hz2, m2⟩ := DataW.trod_int Tryd.underlying3 l2
  simp only [List.cons.injEq, and_true] at hu2 hx2
  subst hu2; subst hx2; subst hy2; subst hz2
  obtain ⟨a3, rfl, rfl, rfl, w3⟩ := open_int Tryd.underlying3 (hval 3 3 v3 rfl rfl) h3
  obtain ⟨a4, rfl, rfl, rfl, w4⟩ := open_int Tryd.underlying3 (hval 4 3 v4 rfl rfl) h4
  clear hA0 hval0
  refine (turnTells_walk a0 b0 a1 b1 a2 b2 a3 a4 W  (tab_of_laid hL)).mono fun e W' ⟨he, bel⟩ => ?_
  subst he
  exact ⟨_, rfl, _, _, _, [], _, [], hW', trodAll_mk1 (shut_bool Tryd.underlying4 _), (trodAll_cons_mk (shut_turn w0 m0) (trodAll_cons_mk (shut_turn w1 m1) (trodAll_cons_mk (shut_turn w2 m2) (trodAll_cons_mk (shut_int Tryd.underlying3 w3) (trodAll_cons_mk (shut_int Tryd.underlying3 w4) trodAll_mk0))))), rfl, bel.frame _, fun h => by cases h⟩

theorem turnTells_row : Rows.TurnTellsSaid :=
  OpenClaim.holds_of_wide 3 Tryd.f3 rfl rfl rfl rfl rfl rfl rfl ⟨rfl, rfl, rfl, rfl, rfl⟩ rfl rfl rfl rfl rfl (by kernel_rfl) Tryd.func3 (by kernel_rfl)
    (of_decide_eq_true (by kernel_rfl)) (by unfold Func.isWrapper; first | (rw [if_pos (by decide +kernel)]; kernel_rfl) | (rw [if_neg (by decide +kernel)]; exact ⟨rfl, rfl⟩))
    (fun os started H enc _ => turnTells_lifted os started H enc)

/-- THE STATEMENT: the tied card. -/
theorem turnTells_holds : Rows.TurnTellsCardSaid :=
  Claim7.holds_tied_plain_at .later [] [.data, .data] true (true, "a7d9b23d484000a542c5eff34a0bae0ac0153fec72894540eec2248d6567aace") false
    turnTells_row (fun _ h => by cases h) (by kernel_rfl) (fun _ h => by cases h) turnTells_row_tie rfl ⟨rfl, rfl⟩ (by kernel_rfl) rfl
    (fun f fn hf hfn => by
      obtain rfl : f = 3 := Option.some.inj ((show Tryd.prog.funcNamed "overtone/overtonelaw06.TurnTells" = some 3 by kernel_rfl).symm.trans hf) |>.symm
      obtain rfl : fn = Tryd.f3 := (Option.some.inj (Tryd.func3.symm.trans hfn)).symm
      exact ⟨by kernel_rfl, fun j t ht => by
        rw [Tryd.params3] at ht
        have hm : t ∈ [23, 23, 23, 3, 3] := by simpa using Array.mem_of_getElem? ht
        have hall : ([23, 23, 23, 3, 3].all fun u => !Tryd.prog.wantsStandIn u) = true := by kernel_rfl
        exact (show Tryd.prog.wantsStandIn t = false by simpa using List.all_eq_true.1 hall t hm)⟩)
    (by kernel_rfl)
#print axioms turnTells_holds
end Go.Proofs.YtaempngakollpaaDoor
