/- irfft.made: a map of both shares of a number, whatever order is drawn: what is kept while its region is walked. irfft.made: a map of both shares of a number, whatever order is drawn. No condition. -/
import Derived.Test.YtdflbipaicpdcaaGreatDoorSFn
import Derived.Test.YtdflbipaicpdcaaGreatDoorSAg
set_option linter.unusedVariables false
set_option linter.unusedSimpArgs false
set_option maxRecDepth 100000
namespace Go.Proofs.YtdflbipaicpdcaaGreatDoor
open Go Go.RowKit Go.AM

section
variable {P : Program} {ops : Array Oper} {Q : Exit → Act → World → Prop} {md : Region.Mode}
/-- how many have not come up -/
def cntL : List Bool → Nat
  | [] => 0
  | b :: l => (if b then 0 else 1) + cntL l
theorem cntL_set : ∀ (l : List Bool) (i : Nat), l[i]? = some false → cntL (l.set i true) + 1 = cntL l
  | [], i, h => by simp at h
  | b :: l, 0, h => by simp at h; subst h; simp [cntL]; omega
  | b :: l, i + 1, h => by
    simp only [List.getElem?_cons_succ] at h
    have := cntL_set l i h
    simp only [List.set_cons_succ, cntL]
    omega
theorem cntL_pos : ∀ (l : List Bool) (i : Nat), l[i]? = some false → 0 < cntL l
  | [], i, h => by simp at h
  | b :: l, 0, h => by simp at h; subst h; simp [cntL]; omega
  | b :: l, i + 1, h => by
    simp only [List.getElem?_cons_succ] at h
    have := cntL_pos l i h
    simp only [cntL]
    omega
theorem getD_false {L : Array Bool} {i : Nat} (h : L.getD i true = false) : L.toList[i]? = some false := by
  rw [Array.getElem?_toList]
  rw [Array.getD_eq_getD_getElem?] at h
  cases h1 : L[i]? with
  | none => rw [h1] at h; cases h
  | some b => rw [h1] at h; simp at h; rw [h]
/-- What holds at the beginning, and is kept by whatever comes up next, holds at the end. -/
theorem wpAny_inv (Inv : Array Bool → Act → World → Prop)
    (hstep : ∀ L a w i, i ∈ Region.ready md ops L → Inv L a w → wpOp P ops Q i (fun a' w' => Inv (L.setIfInBounds i true) a' w') a w)
    (hend : ∀ L a w, Region.ready md ops L = [] → Inv L a w → Q .normal a w) :
    ∀ (fuel : Nat) (L : Array Bool) (a : Act) (w : World), cntL L.toList ≤ fuel → Inv L a w → wpAny P md ops Q fuel L a w := by
  intro fuel
  induction fuel with
  | zero =>
    intro L a w hc hI
    have hr : Region.ready md ops L = [] := by
      cases hr : Region.ready md ops L with
      | nil => rfl
      | cons i rs =>
        have hi : i ∈ Region.ready md ops L := by rw [hr]; exact List.mem_cons_self ..
        have := cntL_pos _ _ (getD_false (mem_ready.1 hi).1)
        omega
    exact ⟨hr, hend L a w hr hI⟩
  | succ fuel ih =>
    intro L a w hc hI
    refine ⟨fun hr => hend L a w hr hI, fun i hi => ?_⟩
    refine wpOp_mono (fun a' w' h => ih _ a' w' ?_ h) (hstep L a w i hi hI)
    have := cntL_set _ _ (getD_false (mem_ready.1 hi).1)
    rw [Array.toList_setIfInBounds]
    omega
def backB (ops : Array Oper) : Bool := (List.range ops.size).all fun j => match ops[j]? with
  | some o => o.after.toList.all fun e => Nat.blt e.on j
  | none => true
theorem backB_spec (h : backB ops = true) : ∀ (j : Nat) (o : Oper), ops[j]? = some o → ∀ e ∈ o.after, e.on < j := by
  intro j o ho e he
  have h1 := List.all_eq_true.1 h j (List.mem_range.2 (Array.getElem?_eq_some_iff.1 ho).1)
  rw [ho] at h1
  have h2 := List.all_eq_true.1 h1 e (by simpa using he)
  exact Nat.lt_of_lt_of_le (Nat.lt_succ_self _) (Nat.le_of_ble_eq_true h2)
/-- edges lead back: when none is ready, all have come up -/
theorem all_listed {L : Array Bool} (hs : L.size = ops.size) (hb : ∀ (j : Nat) (o : Oper), ops[j]? = some o → ∀ e ∈ o.after, e.on < j) (hr : Region.ready md ops L = []) : ∀ j, j < ops.size → L.getD j true = true := by
  intro j
  induction j using Nat.strongRecOn with
  | _ j ih =>
    intro hj
    cases h : L.getD j true with
    | true => rfl
    | false =>
      have : j ∈ Region.ready md ops L := mem_ready.2 ⟨h, ops[j], Array.getElem?_eq_getElem hj, fun e he _ => by
        have h1 := hb j ops[j] (Array.getElem?_eq_getElem hj) e he
        have h2 := ih e.on h1 (by omega)
        rw [Array.getD_eq_getD_getElem?] at h2 ⊢
        rw [Array.getElem?_eq_getElem (by omega)] at h2 ⊢
        exact h2⟩
      rw [hr] at this
      cases this

theorem wpOp_val {i : Nat} {o : Oper} {v : Value} {a : Act} {w w' : World} {K : Act → World → Prop} (ho : ops[i]? = some o) (hw : Region.wanted o (yielded ops a.tmps) = true) (hr : (execOp a.eval o).run P w = .ok (.value v) w') (hK : K (a.put o.dst v) w') : wpOp P ops Q i K a w := by
  unfold Go.wpOp
  simp only [ho, hw, if_true]
  refine .inl ?_
  unfold Oper.wp
  rw [hr]
  exact hK
theorem wpOp_call {i : Nat} {o : Oper} {f : FuncId} {args : Array Value} {R : Ending → World → Prop} {a : Act} {w : World} {K : Act → World → Prop} (ho : ops[i]? = some o) (hw : Region.wanted o (yielded ops a.tmps) = true) (hr : (execOp a.eval o).run P w = .ok (.enter f args) w) (hc : Calls P f args w R)
    (hK : ∀ e w', R e w' → ∃ v, e = .returned v ∧ K (a.put o.dst v) w') : wpOp P ops Q i K a w := by
  unfold Go.wpOp
  simp only [ho, hw, if_true]
  refine .inl ?_
  unfold Oper.wp
  rw [hr]
  refine Calls.mono hc fun e w' h => ?_
  obtain ⟨v, rfl, h2⟩ := hK e w' h
  exact h2

end

abbrev on (L : Array Bool) (j : Nat) : Prop := L.getD j false = true

end Go.Proofs.YtdflbipaicpdcaaGreatDoor
set_option maxRecDepth 100000
namespace Go.Proofs.YtdflbipaicpdcaaGreatDoor
open Go Go.RowKit Go.AM

section
variable {ρ : Operand → Value} {w : World} {p : Nat} {v : Value}
end

theorem wpOp_ins {P : Program} {ops : Array Oper} {Q : Exit → Act → World → Prop} {i : Nat} {o : Oper} {a : Act} {w w' : World} {K : Act → World → Prop} (ho : ops[i]? = some o) (hw : Region.wanted o (yielded ops a.tmps) = true) (hr : (execOp a.eval o).run P w = .ok .skip w') (hK : K (a.put o.dst undef) w') : wpOp P ops Q i K a w := by
  unfold Go.wpOp
  simp only [ho, hw, if_true]
  refine .inl ?_
  unfold Oper.wp
  rw [hr]
  exact hK
end Go.Proofs.YtdflbipaicpdcaaGreatDoor
