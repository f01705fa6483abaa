/- irfft.made: a map of both shares of a number, whatever order is drawn: what is kept while its region is walked. irfft.made: a map of both shares of a number, whatever order is drawn. irfft.made as a summary is sound. The document's SameRow at rows whose floats are alike. The abstract machine: the summary of SameRow is sound. The abstract machine: the summary of SameRow is sound: its contract. No condition. -/
import Derived.Test.YtdflbipaicpdcaaGreatDoorXFn
import Derived.Test.YtdflbipaicpdcaaGreatDoorXAg
import Derived.Test.YtdflbipaicpdcaaGreatDoorXTg
import Derived.Test.YtdflbipaicpdcaaGreatDoorXQq
import Derived.Test.YtdflbipaicpdcaaGreatDoorXNa
import Derived.Laws.FloatArith
import Derived.WalkLawsBesides
import Derived.BigQuiet
import Derived.Test.YtdflbipaicpdcaaGreatDoorXDe
import Derived.Test.YtdflbipaicpdcaaGreatDoorXQw
set_option linter.unusedVariables false
set_option linter.unusedSimpArgs false
set_option maxRecDepth 100000
namespace Go.Proofs.YtdflbipaicpdcaaGreatDoor
open Go Go.RowKit Go.AM

section
variable {P : Program} {ops : Array Oper} {Q : Exit → Act → World → Prop} {md : Region.Mode}
/-- how many have not come up -/
def cntL : List Bool → Nat
  | [] => 0
  | b :: l => (if b then 0 else 1) + cntL l
theorem cntL_set : ∀ (l : List Bool) (i : Nat), l[i]? = some false → cntL (l.set i true) + 1 = cntL l
  | [], i, h => by simp at h
  | b :: l, 0, h => by simp at h; subst h; simp [cntL]; omega
  | b :: l, i + 1, h => by
    simp only [List.getElem?_cons_succ] at h
    have := cntL_set l i h
    simp only [List.set_cons_succ, cntL]
    omega
theorem cntL_pos : ∀ (l : List Bool) (i : Nat), l[i]? = some false → 0 < cntL l
  | [], i, h => by simp at h
  | b :: l, 0, h => by simp at h; subst h; simp [cntL]; omega
  | b :: l, i + 1, h => by
    simp only [List.getElem?_cons_succ] at h
    have := cntL_pos l i h
    simp only [cntL]
    omega
theorem getD_false {L : Array Bool} {i : Nat} (h : L.getD i true = false) : L.toList[i]? = some false := by
  rw [Array.getElem?_toList]
  rw [Array.getD_eq_getD_getElem?] at h
  cases h1 : L[i]? with
  | none => rw [h1] at h; cases h
  | some b => rw [h1] at h; simp at h; rw [h]
/-- What holds at the beginning, and is kept by whatever comes up next, holds at the end. -/
theorem wpAny_inv (Inv : Array Bool → Act → World → Prop)
    (hstep : ∀ L a w i, i ∈ Region.ready md ops L → Inv L a w → wpOp P ops Q i (fun a' w' => Inv (L.setIfInBounds i true) a' w') a w)
    (hend : ∀ L a w, Region.ready md ops L = [] → Inv L a w → Q .normal a w) :
    ∀ (fuel : Nat) (L : Array Bool) (a : Act) (w : World), cntL L.toList ≤ fuel → Inv L a w → wpAny P md ops Q fuel L a w := by
  intro fuel
  induction fuel with
  | zero =>
    intro L a w hc hI
    have hr : Region.ready md ops L = [] := by
      cases hr : Region.ready md ops L with
      | nil => rfl
      | cons i rs =>
        have hi : i ∈ Region.ready md ops L := by rw [hr]; exact List.mem_cons_self ..
        have := cntL_pos _ _ (getD_false (mem_ready.1 hi).1)
        omega
    exact ⟨hr, hend L a w hr hI⟩
  | succ fuel ih =>
    intro L a w hc hI
    refine ⟨fun hr => hend L a w hr hI, fun i hi => ?_⟩
    refine wpOp_mono (fun a' w' h => ih _ a' w' ?_ h) (hstep L a w i hi hI)
    have := cntL_set _ _ (getD_false (mem_ready.1 hi).1)
    rw [Array.toList_setIfInBounds]
    omega
def backB (ops : Array Oper) : Bool := (List.range ops.size).all fun j => match ops[j]? with
  | some o => o.after.toList.all fun e => Nat.blt e.on j
  | none => true
theorem backB_spec (h : backB ops = true) : ∀ (j : Nat) (o : Oper), ops[j]? = some o → ∀ e ∈ o.after, e.on < j := by
  intro j o ho e he
  have h1 := List.all_eq_true.1 h j (List.mem_range.2 (Array.getElem?_eq_some_iff.1 ho).1)
  rw [ho] at h1
  have h2 := List.all_eq_true.1 h1 e (by simpa using he)
  exact Nat.lt_of_lt_of_le (Nat.lt_succ_self _) (Nat.le_of_ble_eq_true h2)
/-- edges lead back: when none is ready, all have come up -/
theorem all_listed {L : Array Bool} (hs : L.size = ops.size) (hb : ∀ (j : Nat) (o : Oper), ops[j]? = some o → ∀ e ∈ o.after, e.on < j) (hr : Region.ready md ops L = []) : ∀ j, j < ops.size → L.getD j true = true := by
  intro j
  induction j using Nat.strongRecOn with
  | _ j ih =>
    intro hj
    cases h : L.getD j true with
    | true => rfl
    | false =>
      have : j ∈ Region.ready md ops L := mem_ready.2 ⟨h, ops[j], Array.getElem?_eq_getElem hj, fun e he _ => by
        have h1 := hb j ops[j] (Array.getElem?_eq_getElem hj) e he
        have h2 := ih e.on h1 (by omega)
        rw [Array.getD_eq_getD_getElem?] at h2 ⊢
        rw [Array.getElem?_eq_getElem (by omega)] at h2 ⊢
        exact h2⟩
      rw [hr] at this
      cases this

theorem wpOp_val {i : Nat} {o : Oper} {v : Value} {a : Act} {w w' : World} {K : Act → World → Prop} (ho : ops[i]? = some o) (hw : Region.wanted o (yielded ops a.tmps) = true) (hr : (execOp a.eval o).run P w = .ok (.value v) w') (hK : K (a.put o.dst v) w') : wpOp P ops Q i K a w := by
  unfold Go.wpOp
  simp only [ho, hw, if_true]
  refine .inl ?_
  unfold Oper.wp
  rw [hr]
  exact hK
theorem wpOp_call {i : Nat} {o : Oper} {f : FuncId} {args : Array Value} {R : Ending → World → Prop} {a : Act} {w : World} {K : Act → World → Prop} (ho : ops[i]? = some o) (hw : Region.wanted o (yielded ops a.tmps) = true) (hr : (execOp a.eval o).run P w = .ok (.enter f args) w) (hc : Calls P f args w R)
    (hK : ∀ e w', R e w' → ∃ v, e = .returned v ∧ K (a.put o.dst v) w') : wpOp P ops Q i K a w := by
  unfold Go.wpOp
  simp only [ho, hw, if_true]
  refine .inl ?_
  unfold Oper.wp
  rw [hr]
  refine Calls.mono hc fun e w' h => ?_
  obtain ⟨v, rfl, h2⟩ := hK e w' h
  exact h2

/-- An entry more, of a key that is not there. -/
theorem map_put {t key elem : TypeId} {b : Nat} {es' : Array MapEntry} {c' : Nat} {k y : Value} {w : World} (hat : w.heap[b]? = some (.map es' c')) (hu : P.underlying t = some (.map key elem)) (hok : keyOk P key k false = true)
    (hall : ∀ e ∈ es'.toList, pureRun P (Op.equal key k e.key) = some false) :
    (Instr.mapUpdate t (.map (some b)) k y).run P w = .ok () { w with heap := w.heap.setIfInBounds b (.map (es'.push { key := k, val := y, born := c' }) (c' + 1)) } := by
  have hget : (getObj b).run P w = .ok (.map es' c') w := by simp [getObj, Sem.run, hat]
  simp only [keyOk, Bool.and_eq_true] at hok
  obtain ⟨o1, o2, o3⟩ := hok
  obtain ⟨kd, hkd⟩ := Option.isSome_iff_exists.1 o2
  obtain ⟨chk, hchk⟩ := Option.isSome_iff_exists.1 o3
  have hc' := pureRun_run _ _ hchk w
  obtain ⟨r', hr, hfound⟩ := findKey_found hkd w es'.toList (fun e he => ⟨_, hall e he⟩)
  have hnone : r' = none := by
    rcases hfound with ⟨h', _⟩ | ⟨e, i, m1, m2, _⟩
    · exact h'
    · rw [hall e m1] at m2; cases m2
  subst hnone
  have hset : (setObj b (.map (es'.push { key := k, val := y, born := c' }) (c' + 1))).run P w = .ok () { w with heap := w.heap.setIfInBounds b (.map (es'.push { key := k, val := y, born := c' }) (c' + 1)) } := by
    simp [setObj, Sem.run, hat]
  simp only [Instr.mapUpdate, Sem.run_bind, run_underlying hu w, Result.andThen_ok, hget, hc', hr, hset]
end

/-- alike to u, v -/
def Al2 (u v : Nat) (x : Value) : Prop := ∃ r s, x = Pair r s ∧ (Fl.canon r = u ∧ r < 2 ^ 64) ∧ (Fl.canon s = v ∧ s < 2 ^ 64)
def Al1 (u : Nat) (x : Value) : Prop := ∃ r, x = F r ∧ Fl.canon r = u ∧ r < 2 ^ 64
abbrev HALF : Nat := 4602678819172646912
abbrev evenS : Value := .string ⟨#[101, 118, 101, 110]⟩
abbrev oddS : Value := .string ⟨#[111, 100, 100]⟩

/-- the slots of the operations -/
def slot136 : List Nat := [5, 6, 7, 8, 9, 10, 11, 12, 13, 14, 15, 16, 100, 17, 18, 19, 20, 21, 22, 23, 24, 25, 26, 27, 101, 28, 4]
def sl (j : Nat) : Nat := slot136.getD j 200
/-- what an operation leaves -/
def VF (p q a0 a1 b0 b1 : Nat) (j : Nat) (v : Value) : Prop :=
  match j with
  | 1 => v = .pointer (some ⟨p, 0, none⟩)
  | 2 => v = F a0
  | 3 => v = .pointer (some ⟨q, 0, none⟩)
  | 4 => v = F b0
  | 5 => Al1 (Fl.fadd a0 b0) v
  | 6 => v = .pointer (some ⟨p, 1, none⟩)
  | 7 => v = F a1
  | 8 => v = .pointer (some ⟨q, 1, none⟩)
  | 9 => v = F b1
  | 10 => Al1 (Fl.fsub a1 b1) v
  | 11 => Al2 (Fl.fmul (Fl.fadd a0 b0) HALF) (Fl.fmul (Fl.fsub a1 b1) HALF) v
  | 13 => v = .pointer (some ⟨p, 0, none⟩)
  | 14 => v = F a0
  | 15 => v = .pointer (some ⟨q, 0, none⟩)
  | 16 => v = F b0
  | 17 => Al1 (Fl.fsub a0 b0) v
  | 18 => v = .pointer (some ⟨p, 1, none⟩)
  | 19 => v = F a1
  | 20 => v = .pointer (some ⟨q, 1, none⟩)
  | 21 => v = F b1
  | 22 => Al1 (Fl.fadd a1 b1) v
  | 23 => Al2 (Fl.fmul (Fl.fsub a0 b0) HALF) (Fl.fmul (Fl.fadd a1 b1) HALF) v
  | _ => True

abbrev on (L : Array Bool) (j : Nat) : Prop := L.getD j false = true

/-- what holds while the region is walked -/
structure MI (W : World) (df : List Deferred) (p q a0 a1 b0 b1 : Nat) (L : Array Bool) (a : Act) (w : World) : Prop where
  size : L.size = 27
  tsz : a.tmps.size = 29
  df : a.defers = df
  bel : Below W.heap.size W w
  p2 : a.eval (.tmp 2) = .pointer (some ⟨p, 0, none⟩)
  p3 : a.eval (.tmp 3) = .pointer (some ⟨q, 0, none⟩)
  val : ∀ j, j < 27 → on L j → VF p q a0 a1 b0 b1 j (a.eval (.tmp (sl j)))
  mp : on L 0 → ∃ B es c, a.eval (.tmp 5) = .map (some B) ∧ W.heap.size ≤ B ∧ w.heap[B]? = some (.map es c) ∧
    (∀ e ∈ es.toList, (on L 12 ∧ e.key = evenS ∧ Al2 (Fl.fmul (Fl.fadd a0 b0) HALF) (Fl.fmul (Fl.fsub a1 b1) HALF) e.val) ∨ (on L 24 ∧ e.key = oddS ∧ Al2 (Fl.fmul (Fl.fsub a0 b0) HALF) (Fl.fmul (Fl.fadd a1 b1) HALF) e.val)) ∧
    (on L 12 → ∃ e ∈ es.toList, e.key = evenS ∧ Al2 (Fl.fmul (Fl.fadd a0 b0) HALF) (Fl.fmul (Fl.fsub a1 b1) HALF) e.val) ∧
    (on L 24 → ∃ e ∈ es.toList, e.key = oddS ∧ Al2 (Fl.fmul (Fl.fsub a0 b0) HALF) (Fl.fmul (Fl.fadd a1 b1) HALF) e.val) ∧
    (on L 25 → a.eval (.tmp 28) = .map (some B)) ∧ (on L 26 → a.eval (.tmp 4) = .map (some B))
  i12 : on L 12 → on L 0
  i24 : on L 24 → on L 0
  i25 : on L 25 → on L 0
  i26 : on L 26 → on L 25

theorem on_set {L : Array Bool} {i j : Nat} (hs : L.size = 27) (hi : i < 27) : on (L.setIfInBounds i true) j ↔ (j = i ∨ on L j) := by
  unfold on
  rw [Array.getD_eq_getD_getElem?, Array.getD_eq_getD_getElem?, Array.getElem?_setIfInBounds]
  by_cases h : i = j
  · subst h; simp [hs, hi]
  · simp [h, Ne.symm h]

theorem sl_ne : ∀ i, i < 27 → ∀ j, j < 27 → i ≠ j → sl i ≠ sl j := by decide
theorem sl_ne5 : ∀ i, i < 27 → i ≠ 0 → sl i ≠ 5 := by decide
theorem sl_ne2 : ∀ i, i < 27 → sl i ≠ 2 ∧ sl i ≠ 3 := by decide
theorem sl_ne28 : ∀ i, i < 27 → i ≠ 25 → sl i ≠ 28 := by decide
theorem sl_ne4 : ∀ i, i < 27 → i ≠ 26 → sl i ≠ 4 := by decide
theorem sl_lt : ∀ i, i < 27 → i ≠ 12 → i ≠ 24 → sl i < 29 := by decide

theorem eval_self {a : Act} {d : Nat} {v : Value} (h : d < a.tmps.size) : (a.put (some d) v).eval (.tmp d) = v := by
  simp [Act.put, Act.eval, Array.getD_eq_getD_getElem?, h]
theorem eval_other {a : Act} {d t : Nat} {v : Value} (h : d ≠ t) : (a.put (some d) v).eval (.tmp t) = a.eval (.tmp t) :=
  Act.eval_put (dst := some d) (v := v) fun d' hd he => h (by cases hd; cases he; rfl)
theorem put_tsz {a : Act} {d : Nat} {v : Value} : (a.put (some d) v).tmps.size = a.tmps.size := by simp [Act.put]
theorem put_df {a : Act} {d : Nat} {v : Value} : (a.put (some d) v).defers = a.defers := rfl

/-- a value more -/
theorem MI.put {W : World} {df : List Deferred} {p q a0 a1 b0 b1 : Nat} {L : Array Bool} {a : Act} {w w' : World} {i : Nat} {v : Value} (h : MI W df p q a0 a1 b0 b1 L a w) (hi : i < 27) (h0 : i ≠ 0) (h12 : i ≠ 12) (h24 : i ≠ 24)
    (hw : Below w.heap.size w w') (hv : VF p q a0 a1 b0 b1 i v) (hL : L.getD i true = false) (h25 : i = 25 → on L 0 ∧ v = a.eval (.tmp 5)) (h26 : i = 26 → on L 25 ∧ v = a.eval (.tmp 28)) : MI W df p q a0 a1 b0 b1 (L.setIfInBounds i true) (a.put (some (sl i)) v) w' := by
  have hsz := h.bel.size
  have hn : ∀ j, on (L.setIfInBounds i true) j ↔ (j = i ∨ on L j) := fun j => on_set h.size hi
  refine ⟨by simp [h.size], by rw [put_tsz, h.tsz], by rw [put_df, h.df], h.bel.trans (hw.mono hsz), ?_, ?_, ?_, ?_, ?_, ?_, ?_, ?_⟩
  · rw [eval_other (sl_ne2 i hi).1]; exact h.p2
  · rw [eval_other (sl_ne2 i hi).2]; exact h.p3
  · intro j hj hon
    rcases (hn j).1 hon with rfl | hon
    · rw [eval_self (by rw [h.tsz]; exact sl_lt j hi h12 h24)]; exact hv
    · by_cases hij : i = j
      · subst hij
        rw [eval_self (by rw [h.tsz]; exact sl_lt i hi h12 h24)]; exact hv
      · rw [eval_other (sl_ne i hi j hj hij)]; exact h.val j hj hon
  · intro hon
    have hon0 : on L 0 := by rcases (hn 0).1 hon with e | e; exact absurd e.symm h0; exact e
    obtain ⟨B, es, c, e1, e2, e3, e4, e5, e6, e7, e8⟩ := h.mp hon0
    have hB : B < w.heap.size := (Array.getElem?_eq_some_iff.1 e3).1
    have o12 : on (L.setIfInBounds i true) 12 → on L 12 := fun k => by rcases (hn 12).1 k with e | e; exact absurd e.symm h12; exact e
    have o24 : on (L.setIfInBounds i true) 24 → on L 24 := fun k => by rcases (hn 24).1 k with e | e; exact absurd e.symm h24; exact e
    refine ⟨B, es, c, by rw [eval_other (sl_ne5 i hi h0)]; exact e1, e2, by rw [hw.block B hB]; exact e3, fun e he => ?_, fun k => e5 (o12 k), fun k => e6 (o24 k), ?_, ?_⟩
    · rcases e4 e he with ⟨x, y⟩ | ⟨x, y⟩
      · exact .inl ⟨(hn 12).2 (.inr x), y⟩
      · exact .inr ⟨(hn 24).2 (.inr x), y⟩
    · intro k
      rcases (hn 25).1 k with e | e
      · subst e
        rw [show (28 : Nat) = sl 25 from rfl, eval_self (by rw [h.tsz]; decide), (h25 rfl).2]
        exact e1
      · by_cases e25 : i = 25
        · subst e25
          rw [show (28 : Nat) = sl 25 from rfl, eval_self (by rw [h.tsz]; decide), (h25 rfl).2]
          exact e1
        · rw [eval_other (sl_ne28 i hi e25)]; exact e7 e
    · intro k
      rcases (hn 26).1 k with e | e
      · subst e
        rw [show (4 : Nat) = sl 26 from rfl, eval_self (by rw [h.tsz]; decide), (h26 rfl).2]
        exact e7 (h26 rfl).1
      · by_cases e26 : i = 26
        · subst e26
          rw [show (4 : Nat) = sl 26 from rfl, eval_self (by rw [h.tsz]; decide), (h26 rfl).2]
          exact e7 (h26 rfl).1
        · rw [eval_other (sl_ne4 i hi e26)]; exact e8 e
  · intro k; rcases (hn 12).1 k with e | e; exact absurd e.symm h12; exact (hn 0).2 (.inr (h.i12 e))
  · intro k; rcases (hn 24).1 k with e | e; exact absurd e.symm h24; exact (hn 0).2 (.inr (h.i24 e))
  · intro k; rcases (hn 25).1 k with e | e
    · exact (hn 0).2 (.inr (h25 e.symm).1)
    · exact (hn 0).2 (.inr (h.i25 e))
  · intro k; rcases (hn 26).1 k with e | e
    · exact (hn 25).2 (.inr (h26 e.symm).1)
    · exact (hn 25).2 (.inr (h.i26 e))

/-- the map is made -/
theorem MI.map {W : World} {df : List Deferred} {p q a0 a1 b0 b1 : Nat} {L : Array Bool} {a : Act} {w : World} (h : MI W df p q a0 a1 b0 b1 L a w) (hL : L.getD 0 true = false) :
    MI W df p q a0 a1 b0 b1 (L.setIfInBounds 0 true) (a.put (some 5) (.map (some w.heap.size))) (w.alloc (.map #[] 0)) := by
  have hsz := h.bel.size
  have hn : ∀ j, on (L.setIfInBounds 0 true) j ↔ (j = 0 ∨ on L j) := fun j => on_set h.size (by decide)
  have hoff : ¬ on L 0 := fun k => by
    unfold on at k
    rw [Array.getD_eq_getD_getElem?] at hL k
    rw [Array.getElem?_eq_getElem (by rw [h.size]; decide)] at hL k
    simp at hL k
    rw [hL] at k; cases k
  have n12 : ¬ on L 12 := fun k => hoff (h.i12 k)
  have n24 : ¬ on L 24 := fun k => hoff (h.i24 k)
  have n25 : ¬ on L 25 := fun k => hoff (h.i25 k)
  have n26 : ¬ on L 26 := fun k => n25 (h.i26 k)
  have m12 : ¬ on (L.setIfInBounds 0 true) 12 := fun k => by rcases (hn 12).1 k with e | e; cases e; exact n12 e
  have m24 : ¬ on (L.setIfInBounds 0 true) 24 := fun k => by rcases (hn 24).1 k with e | e; cases e; exact n24 e
  have m25 : ¬ on (L.setIfInBounds 0 true) 25 := fun k => by rcases (hn 25).1 k with e | e; cases e; exact n25 e
  have m26 : ¬ on (L.setIfInBounds 0 true) 26 := fun k => by rcases (hn 26).1 k with e | e; cases e; exact n26 e
  refine ⟨by simp [h.size], by rw [put_tsz, h.tsz], by rw [put_df, h.df], h.bel.alloc hsz _, ?_, ?_, ?_, ?_, fun k => absurd k m12, fun k => absurd k m24, fun k => absurd k m25, fun k => absurd k m26⟩
  · rw [eval_other (by decide)]; exact h.p2
  · rw [eval_other (by decide)]; exact h.p3
  · intro j hj hon
    rcases (hn j).1 hon with rfl | hon
    · trivial
    · have hj0 : (0 : Nat) ≠ j := fun e => by subst e; exact hoff hon
      rw [show (5 : Nat) = sl 0 from rfl, eval_other (sl_ne 0 (by decide) j hj hj0)]; exact h.val j hj hon
  · intro _
    refine ⟨w.heap.size, #[], 0, eval_self (by rw [h.tsz]; decide), hsz, (by show (w.heap.push (Obj.map #[] 0))[w.heap.size]? = _; exact Array.getElem?_push_size), fun e he => by simp at he, fun k => absurd k m12, fun k => absurd k m24, fun k => absurd k m25, fun k => absurd k m26⟩

/-- an entry is laid -/
theorem MI.ent {W : World} {df : List Deferred} {p q a0 a1 b0 b1 : Nat} {L : Array Bool} {a : Act} {w : World} {i : Nat} (h : MI W df p q a0 a1 b0 b1 L a w) (hi : i = 12 ∨ i = 24) (hL : L.getD i true = false)
    {B : Nat} {es : Array MapEntry} {c c2 : Nat} {k v : Value} (hB : a.eval (.tmp 5) = .map (some B)) (hat : w.heap[B]? = some (.map es c))
    (h0 : on L 0) (h12 : i = 12 → k = evenS ∧ Al2 (Fl.fmul (Fl.fadd a0 b0) HALF) (Fl.fmul (Fl.fsub a1 b1) HALF) v) (h24 : i = 24 → k = oddS ∧ Al2 (Fl.fmul (Fl.fsub a0 b0) HALF) (Fl.fmul (Fl.fadd a1 b1) HALF) v) :
    MI W df p q a0 a1 b0 b1 (L.setIfInBounds i true) a { w with heap := w.heap.setIfInBounds B (.map (es.push { key := k, val := v, born := c }) c2) } := by
  have hi27 : i < 27 := by omega
  have hn : ∀ j, on (L.setIfInBounds i true) j ↔ (j = i ∨ on L j) := fun j => on_set h.size hi27
  obtain ⟨B', es', c', e1, e2, e3, e4, e5, e6, e7, e8⟩ := h.mp h0
  rw [hB] at e1
  have hBB : B = B' := by cases e1; rfl
  subst hBB
  rw [hat] at e3
  cases e3
  have hlt : B < w.heap.size := (Array.getElem?_eq_some_iff.1 hat).1
  refine ⟨by simp [h.size], h.tsz, h.df, ?_, h.p2, h.p3, ?_, ?_, ?_, ?_, ?_, ?_⟩
  · have hb := h.bel
    exact ⟨hb.os, hb.tape, hb.output, by simpa using hb.size, fun b hb' => by
      show (w.heap.setIfInBounds B _)[b]? = _
      rw [Array.getElem?_setIfInBounds_ne (by omega)]
      exact hb.block b hb'⟩
  · intro j hj hon
    rcases (hn j).1 hon with e | hon
    · rcases hi with rfl | rfl <;> (subst e; trivial)
    · exact h.val j hj hon
  · intro _
    refine ⟨B, es.push { key := k, val := v, born := c }, c2, hB, e2, by simp [hlt], fun e he => ?_, fun k12 => ?_, fun k24 => ?_, fun k25 => ?_, fun k26 => ?_⟩
    · rw [Array.toList_push] at he
      rcases List.mem_append.1 he with he | he
      · rcases e4 e he with ⟨x, y⟩ | ⟨x, y⟩
        · exact .inl ⟨(hn 12).2 (.inr x), y⟩
        · exact .inr ⟨(hn 24).2 (.inr x), y⟩
      · simp only [List.mem_singleton] at he
        subst he
        rcases hi with rfl | rfl
        · exact .inl ⟨(hn 12).2 (.inl rfl), h12 rfl⟩
        · exact .inr ⟨(hn 24).2 (.inl rfl), h24 rfl⟩
    · rcases (hn 12).1 k12 with e | e
      · exact ⟨_, by rw [Array.toList_push]; exact List.mem_append.2 (.inr (List.mem_singleton.2 rfl)), h12 e.symm⟩
      · obtain ⟨x, hx, hy⟩ := e5 e
        exact ⟨x, by rw [Array.toList_push]; exact List.mem_append.2 (.inl hx), hy⟩
    · rcases (hn 24).1 k24 with e | e
      · exact ⟨_, by rw [Array.toList_push]; exact List.mem_append.2 (.inr (List.mem_singleton.2 rfl)), h24 e.symm⟩
      · obtain ⟨x, hx, hy⟩ := e6 e
        exact ⟨x, by rw [Array.toList_push]; exact List.mem_append.2 (.inl hx), hy⟩
    · rcases (hn 25).1 k25 with e | e
      · omega
      · exact e7 e
    · rcases (hn 26).1 k26 with e | e
      · omega
      · exact e8 e
  · intro _; exact (hn 0).2 (.inr h0)
  · intro _; exact (hn 0).2 (.inr h0)
  · intro k'; rcases (hn 25).1 k' with e | e
    · omega
    · exact (hn 0).2 (.inr h0)
  · intro k'; rcases (hn 26).1 k' with e | e
    · omega
    · exact (hn 25).2 (.inr (h.i26 e))
end Go.Proofs.YtdflbipaicpdcaaGreatDoor
set_option maxRecDepth 100000
namespace Go.Proofs.YtdflbipaicpdcaaGreatDoor
open Go Go.RowKit Go.AM

/-- what is handed back -/
def Made (a0 a1 b0 b1 : Nat) (w : World) (e : Ending) (w' : World) : Prop :=
  ∃ B es c, e = .returned (.map (some B)) ∧ w.heap.size ≤ B ∧ w'.heap[B]? = some (.map es c) ∧ Below w.heap.size w w' ∧
    (∀ e ∈ es.toList, (e.key = evenS ∧ Al2 (Fl.fmul (Fl.fadd a0 b0) HALF) (Fl.fmul (Fl.fsub a1 b1) HALF) e.val) ∨ (e.key = oddS ∧ Al2 (Fl.fmul (Fl.fsub a0 b0) HALF) (Fl.fmul (Fl.fadd a1 b1) HALF) e.val)) ∧
    (∃ e ∈ es.toList, e.key = evenS ∧ Al2 (Fl.fmul (Fl.fadd a0 b0) HALF) (Fl.fmul (Fl.fsub a1 b1) HALF) e.val) ∧
    (∃ e ∈ es.toList, e.key = oddS ∧ Al2 (Fl.fmul (Fl.fsub a0 b0) HALF) (Fl.fmul (Fl.fadd a1 b1) HALF) e.val)

section
variable {ρ : Operand → Value} {w : World} {p : Nat} {v : Value}
theorem run_ix0 {dst : Option Tmp} {pos} {after} {t : Tmp} (hc : ρ (.const (.int .i64 0)) = .int .i64 0) (h : ρ (.tmp t) = .pointer (some ⟨p, 0, none⟩)) :
    (execOp ρ { dst := dst, op := Op.indexAddr 159 (Operand.tmp t) (Operand.const (Value.int IntKind.i64 0)), type := 0, pos := pos, after := after, guard := none }).run Tryz.prog w = .ok (.value (.pointer (some ⟨p, 0, none⟩))) w := by
  simp only [execOp, hc, h]
  go_simp
theorem run_ix1 {dst : Option Tmp} {pos} {after} {t : Tmp} (hc : ρ (.const (.int .i64 1)) = .int .i64 1) (h : ρ (.tmp t) = .pointer (some ⟨p, 0, none⟩)) :
    (execOp ρ { dst := dst, op := Op.indexAddr 159 (Operand.tmp t) (Operand.const (Value.int IntKind.i64 1)), type := 0, pos := pos, after := after, guard := none }).run Tryz.prog w = .ok (.value (.pointer (some ⟨p, 1, none⟩))) w := by
  simp only [execOp, hc, h]
  go_simp
theorem run_ld {dst : Option Tmp} {pos} {after} {t : Tmp} {k x : Nat} (h : ρ (.tmp t) = .pointer (some ⟨p, k, none⟩)) (hx : w.cell? ⟨p, k, none⟩ = some (F x)) :
    (execOp ρ { dst := dst, op := Op.load 46 (Operand.tmp t), type := 46, pos := pos, after := after, guard := none }).run Tryz.prog w = .ok (.value (F x)) w := by
  simp only [execOp, h]
  go_simp
theorem run_call {dst : Option Tmp} {pos} {after} {f : FuncId} {t u : Tmp} {ty : TypeId} (hf : f = 111 ∨ f = 135 ∨ f = 134) (hρ : ρ (.func f) = .func (.func f) #[] #[]) :
    (execOp ρ { dst := dst, op := Op.call { callee := Callee.value (Operand.func f), args := #[Operand.tmp t, Operand.tmp u], argTypes := #[46, 46] }, type := ty, pos := pos, after := after, guard := none }).run Tryz.prog w = .ok (.enter f #[ρ (.tmp t), ρ (.tmp u)]) w := by
  rcases hf with rfl | rfl | rfl <;> (simp only [execOp, hρ]; go_simp)
theorem run_mk {dst : Option Tmp} {pos} {after} :
    (execOp ρ { dst := dst, op := Op.makeMap 163 none, type := 163, pos := pos, after := after, guard := none }).run Tryz.prog w = .ok (.value (.map (some w.heap.size))) (w.alloc (.map #[] 0)) := by
  simp only [execOp]
  simp [Instr.makeMap, go_sem]
theorem run_mv {dst : Option Tmp} {pos} {after} {t : Tmp} : (execOp ρ { dst := dst, op := Op.move (Operand.tmp t), type := 163, pos := pos, after := after, guard := none }).run Tryz.prog w = .ok (.value (ρ (.tmp t))) w := by
  simp only [execOp]
  go_simp
theorem run_as {dst : Option Tmp} {pos} {after} {t : Tmp} : (execOp ρ { dst := dst, op := Op.assign (Operand.tmp t), type := 163, pos := pos, after := after, guard := none }).run Tryz.prog w = .ok (.value (ρ (.tmp t))) w := by
  simp only [execOp]
  go_simp
end

theorem wpOp_ins {P : Program} {ops : Array Oper} {Q : Exit → Act → World → Prop} {i : Nat} {o : Oper} {a : Act} {w w' : World} {K : Act → World → Prop} (ho : ops[i]? = some o) (hw : Region.wanted o (yielded ops a.tmps) = true) (hr : (execOp a.eval o).run P w = .ok .skip w') (hK : K (a.put o.dst undef) w') : wpOp P ops Q i K a w := by
  unfold Go.wpOp
  simp only [ho, hw, if_true]
  refine .inl ?_
  unfold Oper.wp
  rw [hr]
  exact hK
theorem run_ins {ρ : Operand → Value} {w w' : World} {pos : String} {after : Array Edge} {B : Nat} {k : Value} {u : Tmp} (h : (Instr.mapUpdate 163 (.map (some B)) k (ρ (.tmp u))).run Tryz.prog w = .ok () w') (hm : ρ (.tmp 5) = .map (some B)) (hk : ρ (.const k) = k := by rfl) :
    (execOp ρ { dst := none, op := Op.insert 163 (Operand.tmp 5) (Operand.const k) (Operand.tmp u), type := 0, pos := pos, after := after, guard := none }).run Tryz.prog w = .ok .skip w' := by
  simp only [execOp, hm, hk]
  simp [go_sem, h]
theorem off {W : World} {df : List Deferred} {p q a0 a1 b0 b1 : Nat} {L : Array Bool} {a : Act} {w : World} {i : Nat} (h : MI W df p q a0 a1 b0 b1 L a w) (hL : L.getD i true = false) : ¬ on L i := fun k => by
  unfold on at k
  rw [Array.getD_eq_getD_getElem?] at hL k
  cases e : L[i]? with
  | none => rw [e] at k; cases k
  | some b => rw [e] at hL k; simp at hL k; rw [hL] at k; cases k
theorem alike_mul {r x y : Nat} (h : Fl.canon r = x) : Fl.fmul r y = Fl.fmul x y := by
  subst h
  exact (fmul_canon2 (Fl.canon_canon _) rfl).symm

set_option maxHeartbeats 4000000 in
theorem made_w (a0 a1 b0 b1 : Nat) (w : World) : Calls Tryz.prog 136 #[Pair a0 a1, Pair b0 b1] w (Made a0 a1 b0 b1 w) := by
  go_enter Tryz.func136, Tryz.ntmps136
  go_wp2_with fail
  rename_i K hK
  have hsW : ((w.alloc (Obj.cells #[Value.float FloatKind.f64 a0, Value.float FloatKind.f64 a1] 159)).alloc (Obj.cells #[Value.float FloatKind.f64 b0, Value.float FloatKind.f64 b1] 159)).heap.size = w.heap.size + 2 := by simp
  have ca0 : ((w.alloc (Obj.cells #[Value.float FloatKind.f64 a0, Value.float FloatKind.f64 a1] 159)).alloc (Obj.cells #[Value.float FloatKind.f64 b0, Value.float FloatKind.f64 b1] 159)).cell? ⟨w.heap.size, 0, none⟩ = some (F a0) := by simp [go_sem]
  have ca1 : ((w.alloc (Obj.cells #[Value.float FloatKind.f64 a0, Value.float FloatKind.f64 a1] 159)).alloc (Obj.cells #[Value.float FloatKind.f64 b0, Value.float FloatKind.f64 b1] 159)).cell? ⟨w.heap.size, 1, none⟩ = some (F a1) := by simp [go_sem]
  have cb0 : ((w.alloc (Obj.cells #[Value.float FloatKind.f64 a0, Value.float FloatKind.f64 a1] 159)).alloc (Obj.cells #[Value.float FloatKind.f64 b0, Value.float FloatKind.f64 b1] 159)).cell? ⟨w.heap.size + 1, 0, none⟩ = some (F b0) := by simp [go_sem]
  have cb1 : ((w.alloc (Obj.cells #[Value.float FloatKind.f64 a0, Value.float FloatKind.f64 a1] 159)).alloc (Obj.cells #[Value.float FloatKind.f64 b0, Value.float FloatKind.f64 b1] 159)).cell? ⟨w.heap.size + 1, 1, none⟩ = some (F b1) := by simp [go_sem]
  have hbW : Below w.heap.size w ((w.alloc (Obj.cells #[Value.float FloatKind.f64 a0, Value.float FloatKind.f64 a1] 159)).alloc (Obj.cells #[Value.float FloatKind.f64 b0, Value.float FloatKind.f64 b1] 159)) := ((Below.refl _ w).alloc (Nat.le_refl _) _).alloc (by simp) _
  generalize (w.alloc (Obj.cells #[Value.float FloatKind.f64 a0, Value.float FloatKind.f64 a1] 159)).alloc (Obj.cells #[Value.float FloatKind.f64 b0, Value.float FloatKind.f64 b1] 159) = W at *
  refine wp_region_any (by kernel_rfl) (wpAny_inv (MI W [] w.heap.size (w.heap.size + 1) a0 a1 b0 b1) ?step ?fin _ _ _ _ ?cnt ?beg)
  case cnt => decide
  case beg =>
    have hz : ∀ j, j < 27 → ¬ on (Array.replicate 27 false) j := by decide
    exact ⟨rfl, rfl, rfl, (Below.refl _ W).drew, rfl, rfl, fun j hj k => absurd k (hz j hj), fun k => absurd k (hz 0 (by decide)), fun k => absurd k (hz 12 (by decide)), fun k => absurd k (hz 24 (by decide)), fun k => absurd k (hz 25 (by decide)), fun k => absurd k (hz 26 (by decide))⟩
  case fin =>
    intro L a w1 hr hI
    have hall := all_listed hI.size (backB_spec (by kernel_rfl)) hr
    have h26 : on L 26 := by
      have := hall 26 (by decide)
      unfold on
      rw [Array.getD_eq_getD_getElem?] at this ⊢
      rw [Array.getElem?_eq_getElem (by rw [hI.size]; decide)] at this ⊢
      exact this
    have gon : ∀ j, j < 27 → on L j := fun j hj => by
      have := hall j hj
      unfold on
      rw [Array.getD_eq_getD_getElem?] at this ⊢
      rw [Array.getElem?_eq_getElem (by rw [hI.size]; exact hj)] at this ⊢
      exact this
    obtain ⟨B, es, c, e1, e2, e3, e4, e5, e6, e7, e8⟩ := hI.mp (gon 0 (by decide))
    refine hK _ _ (wp_ret ?_)
    have e9 := e8 h26
    simp only [Act.eval, Array.getD_eq_getD_getElem?] at e9
    refine bodyPost_ret (v := .map (some B)) (by simp [results, Tryz.results136, go_sem, e9]) hI.df ⟨B, es, c, rfl, by omega, e3, hbW.trans (hI.bel.mono (by omega)), fun e he => ?_, e5 (gon 12 (by decide)), e6 (gon 24 (by decide))⟩
    rcases e4 e he with ⟨_, x⟩ | ⟨_, x⟩
    · exact .inl x
    · exact .inr x
  case step =>
  intro L a w1 i hi hI
  obtain ⟨hL, o, ho, he⟩ := mem_ready.1 hi
  have hi27 : i < 27 := (Array.getElem?_eq_some_iff.1 ho).1
  obtain ⟨hc, -⟩ := bcell hI.bel
  rw [← hc _ _ (by omega)] at ca0 ca1 cb0 cb1
  rcases (by omega : i = 0 ∨ i = 1 ∨ i = 2 ∨ i = 3 ∨ i = 4 ∨ i = 5 ∨ i = 6 ∨ i = 7 ∨ i = 8 ∨ i = 9 ∨ i = 10 ∨ i = 11 ∨ i = 12 ∨ i = 13 ∨ i = 14 ∨ i = 15 ∨ i = 16 ∨ i = 17 ∨ i = 18 ∨ i = 19 ∨ i = 20 ∨ i = 21 ∨ i = 22 ∨ i = 23 ∨ i = 24 ∨ i = 25 ∨ i = 26) with rfl | rfl | rfl | rfl | rfl | rfl | rfl | rfl | rfl | rfl | rfl | rfl | rfl | rfl | rfl | rfl | rfl | rfl | rfl | rfl | rfl | rfl | rfl | rfl | rfl | rfl | rfl <;> cases ho
  · exact wpOp_val rfl rfl run_mk (hI.map hL)
  · exact wpOp_val rfl rfl (run_ix0 rfl hI.p2) (hI.put (i := 1) (by decide) (by decide) (by decide) (by decide) (Below.refl _ _) rfl hL (fun e => absurd e (by decide)) (fun e => absurd e (by decide)))
  · have k := hI.val 1 (by decide) (he { on := 1, ground := .data } (by simp) rfl)
    exact wpOp_val rfl rfl (run_ld k ca0) (hI.put (i := 2) (by decide) (by decide) (by decide) (by decide) (Below.refl _ _) rfl hL (fun e => absurd e (by decide)) (fun e => absurd e (by decide)))
  · exact wpOp_val rfl rfl (run_ix0 rfl hI.p3) (hI.put (i := 3) (by decide) (by decide) (by decide) (by decide) (Below.refl _ _) rfl hL (fun e => absurd e (by decide)) (fun e => absurd e (by decide)))
  · have k := hI.val 3 (by decide) (he { on := 3, ground := .data } (by simp) rfl)
    exact wpOp_val rfl rfl (run_ld k cb0) (hI.put (i := 4) (by decide) (by decide) (by decide) (by decide) (Below.refl _ _) rfl hL (fun e => absurd e (by decide)) (fun e => absurd e (by decide)))
  · have k1 := hI.val 2 (by decide) (he { on := 2, ground := .data } (by simp) rfl)
    have k2 := hI.val 4 (by decide) (he { on := 4, ground := .data } (by simp) rfl)
    simp only [VF, sl, slot136, List.getD_cons_succ, List.getD_cons_zero] at k1 k2
    refine wpOp_call rfl rfl (run_call (by decide) rfl) (by rw [k1, k2]; exact ops_add _ _ _) fun e w' hR => ?_
    obtain ⟨r, n, rfl, hc, hl, rfl⟩ := hR
    exact ⟨_, rfl, hI.put (i := 5) (by decide) (by decide) (by decide) (by decide) (below_drewN (Below.refl _ _) _) ⟨_, rfl, hc, hl⟩ hL (fun e => absurd e (by decide)) (fun e => absurd e (by decide))⟩
  · exact wpOp_val rfl rfl (run_ix1 rfl hI.p2) (hI.put (i := 6) (by decide) (by decide) (by decide) (by decide) (Below.refl _ _) rfl hL (fun e => absurd e (by decide)) (fun e => absurd e (by decide)))
  · have k := hI.val 6 (by decide) (he { on := 6, ground := .data } (by simp) rfl)
    exact wpOp_val rfl rfl (run_ld k ca1) (hI.put (i := 7) (by decide) (by decide) (by decide) (by decide) (Below.refl _ _) rfl hL (fun e => absurd e (by decide)) (fun e => absurd e (by decide)))
  · exact wpOp_val rfl rfl (run_ix1 rfl hI.p3) (hI.put (i := 8) (by decide) (by decide) (by decide) (by decide) (Below.refl _ _) rfl hL (fun e => absurd e (by decide)) (fun e => absurd e (by decide)))
  · have k := hI.val 8 (by decide) (he { on := 8, ground := .data } (by simp) rfl)
    exact wpOp_val rfl rfl (run_ld k cb1) (hI.put (i := 9) (by decide) (by decide) (by decide) (by decide) (Below.refl _ _) rfl hL (fun e => absurd e (by decide)) (fun e => absurd e (by decide)))
  · have k1 := hI.val 7 (by decide) (he { on := 7, ground := .data } (by simp) rfl)
    have k2 := hI.val 9 (by decide) (he { on := 9, ground := .data } (by simp) rfl)
    simp only [VF, sl, slot136, List.getD_cons_succ, List.getD_cons_zero] at k1 k2
    refine wpOp_call rfl rfl (run_call (by decide) rfl) (by rw [k1, k2]; exact ops_sub _ _ _) fun e w' hR => ?_
    obtain ⟨r, n, rfl, hc, hl, rfl⟩ := hR
    exact ⟨_, rfl, hI.put (i := 10) (by decide) (by decide) (by decide) (by decide) (below_drewN (Below.refl _ _) _) ⟨_, rfl, hc, hl⟩ hL (fun e => absurd e (by decide)) (fun e => absurd e (by decide))⟩
  · have k1 := hI.val 5 (by decide) (he { on := 5, ground := .data } (by simp) rfl)
    have k2 := hI.val 10 (by decide) (he { on := 10, ground := .data } (by simp) rfl)
    simp only [VF, sl, slot136, List.getD_cons_succ, List.getD_cons_zero] at k1 k2
    obtain ⟨r1, k1, c1, l1⟩ := k1
    obtain ⟨r2, k2, c2, l2⟩ := k2
    refine wpOp_call rfl rfl (run_call (by decide) rfl) (by rw [k1, k2]; exact halved r1 r2 _) fun e w' hR => ?_
    obtain ⟨r, s, rfl, h1, h2, hb⟩ := hR
    rw [alike_mul c1] at h1
    rw [alike_mul c2] at h2
    exact ⟨_, rfl, hI.put (i := 11) (by decide) (by decide) (by decide) (by decide) hb ⟨_, _, rfl, h1, h2⟩ hL (fun e => absurd e (by decide)) (fun e => absurd e (by decide))⟩
  · have h0 : on L 0 := he { on := 0, ground := .data } (by simp) rfl
    have k := hI.val 11 (by decide) (he { on := 11, ground := .data } (by simp) rfl)
    simp only [VF, sl, slot136, List.getD_cons_succ, List.getD_cons_zero] at k
    obtain ⟨B, es, c, e1, e2, e3, e4, e5, e6, e7, e8⟩ := hI.mp h0
    have hM := map_put (P := Tryz.prog) (t := 163) (key := 9) (elem := 159) (k := evenS) (y := a.eval (.tmp (sl 11))) e3 (by kernel_rfl) (by kernel_rfl) (fun e hm => by
      rcases e4 e hm with ⟨x, y, _⟩ | ⟨x, y, _⟩
      · exact absurd x (off hI hL)
      · rw [y]; kernel_rfl)
    refine wpOp_ins rfl rfl (run_ins hM e1) ?_
    exact hI.ent (i := 12) (by decide) hL e1 e3 h0 (fun _ => ⟨rfl, k⟩) (fun e => absurd e (by decide))
  · exact wpOp_val rfl rfl (run_ix0 rfl hI.p2) (hI.put (i := 13) (by decide) (by decide) (by decide) (by decide) (Below.refl _ _) rfl hL (fun e => absurd e (by decide)) (fun e => absurd e (by decide)))
  · have k := hI.val 13 (by decide) (he { on := 13, ground := .data } (by simp) rfl)
    exact wpOp_val rfl rfl (run_ld k ca0) (hI.put (i := 14) (by decide) (by decide) (by decide) (by decide) (Below.refl _ _) rfl hL (fun e => absurd e (by decide)) (fun e => absurd e (by decide)))
  · exact wpOp_val rfl rfl (run_ix0 rfl hI.p3) (hI.put (i := 15) (by decide) (by decide) (by decide) (by decide) (Below.refl _ _) rfl hL (fun e => absurd e (by decide)) (fun e => absurd e (by decide)))
  · have k := hI.val 15 (by decide) (he { on := 15, ground := .data } (by simp) rfl)
    exact wpOp_val rfl rfl (run_ld k cb0) (hI.put (i := 16) (by decide) (by decide) (by decide) (by decide) (Below.refl _ _) rfl hL (fun e => absurd e (by decide)) (fun e => absurd e (by decide)))
  · have k1 := hI.val 14 (by decide) (he { on := 14, ground := .data } (by simp) rfl)
    have k2 := hI.val 16 (by decide) (he { on := 16, ground := .data } (by simp) rfl)
    simp only [VF, sl, slot136, List.getD_cons_succ, List.getD_cons_zero] at k1 k2
    refine wpOp_call rfl rfl (run_call (by decide) rfl) (by rw [k1, k2]; exact ops_sub _ _ _) fun e w' hR => ?_
    obtain ⟨r, n, rfl, hc, hl, rfl⟩ := hR
    exact ⟨_, rfl, hI.put (i := 17) (by decide) (by decide) (by decide) (by decide) (below_drewN (Below.refl _ _) _) ⟨_, rfl, hc, hl⟩ hL (fun e => absurd e (by decide)) (fun e => absurd e (by decide))⟩
  · exact wpOp_val rfl rfl (run_ix1 rfl hI.p2) (hI.put (i := 18) (by decide) (by decide) (by decide) (by decide) (Below.refl _ _) rfl hL (fun e => absurd e (by decide)) (fun e => absurd e (by decide)))
  · have k := hI.val 18 (by decide) (he { on := 18, ground := .data } (by simp) rfl)
    exact wpOp_val rfl rfl (run_ld k ca1) (hI.put (i := 19) (by decide) (by decide) (by decide) (by decide) (Below.refl _ _) rfl hL (fun e => absurd e (by decide)) (fun e => absurd e (by decide)))
  · exact wpOp_val rfl rfl (run_ix1 rfl hI.p3) (hI.put (i := 20) (by decide) (by decide) (by decide) (by decide) (Below.refl _ _) rfl hL (fun e => absurd e (by decide)) (fun e => absurd e (by decide)))
  · have k := hI.val 20 (by decide) (he { on := 20, ground := .data } (by simp) rfl)
    exact wpOp_val rfl rfl (run_ld k cb1) (hI.put (i := 21) (by decide) (by decide) (by decide) (by decide) (Below.refl _ _) rfl hL (fun e => absurd e (by decide)) (fun e => absurd e (by decide)))
  · have k1 := hI.val 19 (by decide) (he { on := 19, ground := .data } (by simp) rfl)
    have k2 := hI.val 21 (by decide) (he { on := 21, ground := .data } (by simp) rfl)
    simp only [VF, sl, slot136, List.getD_cons_succ, List.getD_cons_zero] at k1 k2
    refine wpOp_call rfl rfl (run_call (by decide) rfl) (by rw [k1, k2]; exact ops_add _ _ _) fun e w' hR => ?_
    obtain ⟨r, n, rfl, hc, hl, rfl⟩ := hR
    exact ⟨_, rfl, hI.put (i := 22) (by decide) (by decide) (by decide) (by decide) (below_drewN (Below.refl _ _) _) ⟨_, rfl, hc, hl⟩ hL (fun e => absurd e (by decide)) (fun e => absurd e (by decide))⟩
  · have k1 := hI.val 17 (by decide) (he { on := 17, ground := .data } (by simp) rfl)
    have k2 := hI.val 22 (by decide) (he { on := 22, ground := .data } (by simp) rfl)
    simp only [VF, sl, slot136, List.getD_cons_succ, List.getD_cons_zero] at k1 k2
    obtain ⟨r1, k1, c1, l1⟩ := k1
    obtain ⟨r2, k2, c2, l2⟩ := k2
    refine wpOp_call rfl rfl (run_call (by decide) rfl) (by rw [k1, k2]; exact halved r1 r2 _) fun e w' hR => ?_
    obtain ⟨r, s, rfl, h1, h2, hb⟩ := hR
    rw [alike_mul c1] at h1
    rw [alike_mul c2] at h2
    exact ⟨_, rfl, hI.put (i := 23) (by decide) (by decide) (by decide) (by decide) hb ⟨_, _, rfl, h1, h2⟩ hL (fun e => absurd e (by decide)) (fun e => absurd e (by decide))⟩
  · have h0 : on L 0 := he { on := 0, ground := .data } (by simp) rfl
    have k := hI.val 23 (by decide) (he { on := 23, ground := .data } (by simp) rfl)
    simp only [VF, sl, slot136, List.getD_cons_succ, List.getD_cons_zero] at k
    obtain ⟨B, es, c, e1, e2, e3, e4, e5, e6, e7, e8⟩ := hI.mp h0
    have hM := map_put (P := Tryz.prog) (t := 163) (key := 9) (elem := 159) (k := oddS) (y := a.eval (.tmp (sl 23))) e3 (by kernel_rfl) (by kernel_rfl) (fun e hm => by
      rcases e4 e hm with ⟨x, y, _⟩ | ⟨x, y, _⟩
      · rw [y]; kernel_rfl
      · exact absurd x (off hI hL))
    refine wpOp_ins rfl rfl (run_ins hM e1) ?_
    exact hI.ent (i := 24) (by decide) hL e1 e3 h0 (fun e => absurd e (by decide)) (fun _ => ⟨rfl, k⟩)
  · have h0 : on L 0 := he { on := 0, ground := .data } (by simp) rfl
    exact wpOp_val rfl rfl run_mv (hI.put (i := 25) (by decide) (by decide) (by decide) (by decide) (Below.refl _ _) trivial hL (fun _ => ⟨h0, rfl⟩) (fun e => absurd e (by decide)))
  · have h0 : on L 25 := he { on := 25, ground := .data } (by simp) rfl
    exact wpOp_val rfl rfl run_as (hI.put (i := 26) (by decide) (by decide) (by decide) (by decide) (Below.refl _ _) trivial hL (fun e => absurd e (by decide)) (fun _ => ⟨h0, rfl⟩))
end Go.Proofs.YtdflbipaicpdcaaGreatDoor
set_option maxRecDepth 100000
namespace Go.AM
open Go Go.RowKit Go.Proofs Go.Proofs.YtdflbipaicpdcaaGreatDoor

/-- another float that is alike -/
theorem den_alike {J : Io} {x m r : Nat} (h : Den J (.float .f64 x) (.float .f64 m)) (hx : SYM ≤ x) (hc : Fl.canon r = Fl.canon m) (hr : r < 2 ^ 64) : Den J (.float .f64 x) (.float .f64 r) := by
  obtain ⟨m', X, e1, v1, _, _, h4⟩ := h.float
  obtain ⟨-, rfl⟩ := Value.float.inj e1
  unfold vl at v1
  rw [if_neg (by omega)] at v1
  exact .sym _ _ _ hx v1 hr (by rw [hc]; exact (h4 hx).2)

theorem pair_den {J : Io} {a : Array Value} {u : Value} {x y : Nat} (h : Den J (.agg a) u) (e : a.toList = [.float .f64 x, .float .f64 y]) : ∃ m n, u = Pair m n ∧ Den J (.float .f64 x) (.float .f64 m) ∧ Den J (.float .f64 y) (.float .f64 n) := by
  cases h with
  | agg _ u' hl =>
    rw [e] at hl
    obtain ⟨p, q, e1, d1, d2⟩ := den2 hl
    obtain ⟨m, rfl⟩ := f_den d1
    obtain ⟨n, rfl⟩ := f_den d2
    obtain ⟨arr⟩ := u'
    simp only at e1
    subst e1
    exact ⟨m, n, rfl, d1, d2⟩

/-- a node whose word is canonical -/
theorem node_c {g : Gh} {J : Io} {S : Nat → Prop} {s : St} {w : World} (hM : Mem g J S s w) (op : Nat) (hop : op = 1 ∨ op = 2 ∨ op = 3) {x y : Nat} {m1 m2 : Nat} (d1 : Den J (.float .f64 x) (.float .f64 m1)) (d2 : Den J (.float .f64 y) (.float .f64 m2)) :
    ∃ J', J.Le J' ∧ Mem g J' S { s with D := ⟨op, x, y⟩ :: s.D, nd := s.nd + 1 } w ∧ Den J' (.float .f64 (SYM + s.nd)) (.float .f64 (fop op m1 m2)) :=
  node_den hM op hop d1 d2 (fop_lt _ _ _) (canon_fop _ _ _)

theorem madeF_ok : Pl1 Tryz.prog 136 madeF := by
  refine ⟨hb_of (by kernel_rfl), fun args base s v s' h => ?_⟩
  unfold madeF at h
  split at h
  case h_2 => cases h
  rename_i a b
  split at h
  case h_2 => cases h
  rename_i a0 a1 ea
  split at h
  case h_2 => cases h
  rename_i b0 b1 eb
  simp only [node_eq] at h
  split at h
  case h_2 => cases h
  rename_i nb s1 hnew
  simp only [Option.some.injEq, Prod.mk.injEq] at h
  obtain ⟨rfl, rfl⟩ := h
  obtain ⟨n1, n2, n3, n4, n5, n6, n7, n8, n9⟩ := new_spec hnew
  refine ⟨n2, n7, fun g J w args' _ hM hd => ?_⟩
  obtain ⟨x', y', rfl, d1, d2⟩ := den2 hd
  obtain ⟨m0, m1, rfl, c0, c1⟩ := pair_den d1 ea
  obtain ⟨k0, k1, rfl, e0, e1⟩ := pair_den d2 eb
  refine (made_w m0 m1 k0 k1 w).mono ?_
  rintro e w' ⟨B, es, c, rfl, hB, hat, hbel, hall, hev, hod⟩
  have hH : ∀ J, Den J (.float .f64 4602678819172646912) (.float .f64 4602678819172646912) := fun J => .word _ _ (by decide)
  obtain ⟨J1, l1, M1, D1⟩ := node_c hM 1 (by decide) c0 e0
  obtain ⟨J2, l2, M2, D2⟩ := node_c M1 2 (by decide) (c1.mono l1) (e1.mono l1)
  obtain ⟨J3, l3, M3, D3⟩ := node_c M2 3 (by decide) (D1.mono l2) (hH J2)
  obtain ⟨J4, l4, M4, D4⟩ := node_c M3 3 (by decide) (D2.mono l3) (hH J3)
  have l04 := ((l1.trans l2).trans l3).trans l4
  obtain ⟨J5, l5, M5, D5⟩ := node_c M4 2 (by decide) (c0.mono l04) (e0.mono l04)
  have l05 := l04.trans l5
  obtain ⟨J6, l6, M6, D6⟩ := node_c M5 1 (by decide) (c1.mono l05) (e1.mono l05)
  obtain ⟨J7, l7, M7, D7⟩ := node_c M6 3 (by decide) (D5.mono l6) (hH J6)
  obtain ⟨J8, l8, M8, D8⟩ := node_c M7 3 (by decide) (D6.mono l7) (hH J7)
  have l08 := ((l05.trans l6).trans l7).trans l8
  have P3 := D3.mono (((((l4.trans l5).trans l6).trans l7)).trans l8)
  have P4 := D4.mono (((l5.trans l6).trans l7).trans l8)
  have P7 := D7.mono l8
  have hold : ∀ x, x < w.heap.size → w'.heap[x]? = w.heap[x]? := fun x hx => hbel.block x hx
  have M9 := M8.later hbel.size hold
  have hBl : B < w'.heap.size := (Array.getElem?_eq_some_iff.1 hat).1
  have hfree : ∀ q, J8.blk nb = some q → False := fun q hq => by
    have := M8.dom _ _ hq
    rw [n1] at this
    exact absurd this (Nat.lt_irrefl _)
  have hle := Io.add_le ⟨B, 0, 0⟩ hfree
  have A1 : ∀ v, Al2 (Fl.fmul (Fl.fadd m0 k0) HALF) (Fl.fmul (Fl.fsub m1 k1) HALF) v → Den (J8.add nb ⟨B, 0, 0⟩) (.agg #[.float .f64 (SYM + (s.nd + 1 + 1)), .float .f64 (SYM + (s.nd + 1 + 1 + 1))]) v := by
    rintro v ⟨r, t, rfl, ⟨hr, hr2⟩, ht, ht2⟩
    refine .agg _ _ (.cons _ _ _ _ (den_alike (P3.mono hle) (Nat.le_add_right _ _) ?_ hr2) (.cons _ _ _ _ (den_alike (P4.mono hle) (Nat.le_add_right _ _) ?_ ht2) .nil))
    · rw [canon_fop]; exact hr
    · rw [canon_fop]; exact ht
  have A2 : ∀ v, Al2 (Fl.fmul (Fl.fsub m0 k0) HALF) (Fl.fmul (Fl.fadd m1 k1) HALF) v → Den (J8.add nb ⟨B, 0, 0⟩) (.agg #[.float .f64 (SYM + (s.nd + 1 + 1 + 1 + 1 + 1 + 1)), .float .f64 (SYM + (s.nd + 1 + 1 + 1 + 1 + 1 + 1 + 1))]) v := by
    rintro v ⟨r, t, rfl, ⟨hr, hr2⟩, ht, ht2⟩
    refine .agg _ _ (.cons _ _ _ _ (den_alike (P7.mono hle) (Nat.le_add_right _ _) ?_ hr2) (.cons _ _ _ _ (den_alike (D8.mono hle) (Nat.le_add_right _ _) ?_ ht2) .nil))
    · rw [canon_fop]; exact hr
    · rw [canon_fop]; exact ht
  have hobj : ObjDen (J8.add nb ⟨B, 0, 0⟩) ⟨B, 0, 0⟩ (.map [(evenK, .agg #[.float .f64 (SYM + (s.nd + 1 + 1)), .float .f64 (SYM + (s.nd + 1 + 1 + 1))], 0), (oddK, .agg #[.float .f64 (SYM + (s.nd + 1 + 1 + 1 + 1 + 1 + 1)), .float .f64 (SYM + (s.nd + 1 + 1 + 1 + 1 + 1 + 1 + 1))], 1)] 2) (.map es c) := by
    refine ⟨es, c, rfl, fun k v n hm => ?_, fun e he => ?_⟩
    · rcases List.mem_cons.1 hm with hm | hm
      · simp only [Prod.mk.injEq] at hm
        obtain ⟨rfl, rfl, rfl⟩ := hm
        obtain ⟨e, he, hk, hv⟩ := hev
        exact ⟨e, he, hk, A1 _ hv⟩
      · rw [List.mem_singleton] at hm
        simp only [Prod.mk.injEq] at hm
        obtain ⟨rfl, rfl, rfl⟩ := hm
        obtain ⟨e, he, hk, hv⟩ := hod
        exact ⟨e, he, hk, A2 _ hv⟩
    · rcases hall e he with ⟨hk, hv⟩ | ⟨hk, hv⟩
      · exact ⟨_, _, _, List.mem_cons_self .., hk, A1 _ hv⟩
      · exact ⟨_, _, _, List.mem_cons_of_mem _ (List.mem_singleton.2 rfl), hk, A2 _ hv⟩
  obtain ⟨q1, q2, q3⟩ := Mem.adopt2 (p := ⟨B, 0, 0⟩) M9 hnew (fun x q hq e => by
    have := M8.lt _ _ hq
    simp only at e
    omega) hBl (Nat.le_trans hM.size hB) hat hobj
  exact ⟨_, _, rfl, l08.trans q1, q2, .map _ _ q3⟩

theorem listV_ok : ∀ x ∈ listV, Pl1 Tryz.prog x.1 x.2 := fun x hx => by
  rcases List.mem_cons.1 hx with rfl | hx
  · exact madeF_ok
  · exact listU_ok x hx
theorem plugV_ok : PlugOk Tryz.prog plugV := plugOf_ok _ listV_ok
end Go.AM
namespace Go.Proofs.YtdflbipaicpdcaaGreatDoor
open Go.RowKit
set_option maxRecDepth 100000

theorem f_same_yes (a b : Nat) (w : World) (h : Fl.canon a = Fl.canon b) : Calls Tryz.prog 26 #[F a, F b] w fun e w' => e = .returned (.bool true) ∧ w = w' := by
  have hs := Fl.same_of h
  unfold Fl.same at hs
  clear h
  by_cases h1 : (FloatKind.f64.format.order a b == some .eq) = true
  · clear hs
    go_enter Tryz.func26, Tryz.ntmps26
    go_wp2
    go_ret
    exact ⟨rfl, rfl⟩
  · have h1' : (FloatKind.f64.format.order a b == some .eq) = false := by simpa using h1
    clear h1
    have hs' : (false || (FloatKind.f64.format.order a a != some .eq && FloatKind.f64.format.order b b != some .eq)) = true := by
      rw [← h1']; exact hs
    simp only [Bool.false_or, Bool.and_eq_true] at hs'
    obtain ⟨h2, h3⟩ := hs'
    clear hs
    go_enter Tryz.func26, Tryz.ntmps26
    go_wp2
    go_ret
    exact ⟨rfl, rfl⟩

/-- a row's words -/
def FlAt (w : World) (a : Option Addr) (n : Nat) (x : Nat → Nat) : Prop := ∀ k, k < n → ∃ b off, a = some ⟨b, off, none⟩ ∧ w.cell? ⟨b, off + k, none⟩ = some (F (x k))

theorem sameRow_w (a a' : Option Addr) (n c c' : Nat) (x y : Nat → Nat) (w : World) (h : FlAt w a n x) (h' : FlAt w a' n y) (he : ∀ k, k < n → Fl.canon (x k) = Fl.canon (y k)) (h8 : n ≤ 5000) : Calls Tryz.prog 9 #[.slice a n c, .slice a' n c'] w fun e W' => e = .returned (.bool true) ∧ Below w.heap.size w W' := by
  have HA := Lib.hid h
  have HB := Lib.hid h'
  have HE := Lib.hid he
  clear h h' he
  go_enter Tryz.func9, Tryz.ntmps9
  go_wp2
  go_loopw [5] (fun i wr => ∃ k : Nat, k ≤ n ∧ i = .int .i64 k ∧ Hid (Below w.heap.size w wr)) (fun i _ => n - (intOf i).toNat)
  case atStart => exact ⟨0, Nat.zero_le _, rfl, Lib.hid (Below.refl _ _)⟩
  case round =>
    obtain ⟨k, hk, rfl, hbl⟩ := hrel
    by_cases hlt : k < n
    · obtain ⟨b0, off0, rfl, hc0⟩ := HA.out k hlt
      obtain ⟨b1, off1, rfl, hc1⟩ := HB.out k hlt
      obtain ⟨y0, hy0⟩ : ∃ y0, x k = y0 := ⟨_, rfl⟩
      obtain ⟨y1, hy1⟩ : ∃ y1, y k = y1 := ⟨_, rfl⟩
      have hee := HE.out k hlt
      rw [hy0] at hc0 hee
      rw [hy1] at hc1 hee
      have hEE := Lib.hid hee
      clear hee
      have hd0 := (hbl.out.cell (p := ⟨b0, off0 + k, none⟩) (cell_lt' hc0)).trans hc0
      have hd1 := (hbl.out.cell (p := ⟨b1, off1 + k, none⟩) (cell_lt' hc1)).trans hc1
      clear hc0 hc1 hy0 hy1
      have hk3 : (k : Int) < (n : Int) := by omega
      go_wp2
      go_region_held3 (fun w' => w'.cell? ⟨b0, off0 + k, none⟩ = some (F y0) ∧ w'.cell? ⟨b1, off1 + k, none⟩ = some (F y1)) (go_keep)
        (first | (go_at_call 26; refine (f_same_yes y0 y1 _ hEE.out).mono ?_; rintro e w' ⟨rfl, rfl⟩))
      go_wp2
      go_roundw
      case rel => exact ⟨k + 1, by omega, by go_num, Lib.hid hbl.out.drew⟩
      case measure => simp [intOf]; omega
    · obtain rfl : k = n := by omega
      go_wp2
      go_ret
      exact ⟨rfl, hbl.out⟩
end Go.Proofs.YtdflbipaicpdcaaGreatDoor
set_option maxRecDepth 100000
namespace Go.AM
open Go Go.RowKit Go.Proofs Go.Proofs.YtdflbipaicpdcaaGreatDoor

theorem idxD_spec {nv : Nat} {fl : Nat → Option Nat} : ∀ {D : List FN}, DagOk nv fl D → ∀ (k : Nat) (t : Tr FN), k = D.length → k < 1000000000 → (∀ i x, t.get i = some x → nodeOk fl x (SYM + i)) → ∀ i x, (idxD D k t).get i = some x → nodeOk fl x (SYM + i)
  | _, .nil, k, t, _, _, ht, i, x, h => ht i x h
  | _, .cons n D hn _ hD, k, t, hk, hk2, ht, i, x, h => by
    simp only [idxD] at h
    rw [frc_eq] at h
    have e : Nat.pred k = D.length := by rw [hk]; rfl
    rw [e] at h
    refine idxD_spec hD D.length _ rfl (by simp at hk; omega) (fun i x hx => ?_) i x h
    rw [Tr.get_set 40 _ _ _ i (by simp at hk; omega)] at hx
    split at hx
    · rename_i hi
      cases hx
      rw [hi]
      exact hn
    · exact ht i x hx

/-- one float, told twice -/
def SameV (fl : Nat → Option Nat) (r q : Nat) : Prop := ∀ X, vl fl r = some X → vl fl q = some X

theorem sameN_succ (t : Tr FN) (f r q : Nat) (vis : Tr Nat) (i j : Nat) (hi : r - SYM = i) (hj : q - SYM = j) : sameN t (f + 1) r q vis = bif Nat.beq r q then some vis else bif Nat.blt r SYM then none else bif Nat.blt q SYM then none else
    match vis.get i with
    | some q' => bif Nat.beq q' q then some vis else none
    | none => match t.get i with
      | some n => match t.get j with
        | some m => bif bif Nat.beq n.op m.op then bif Nat.ble 1 n.op then Nat.ble n.op 4 else false else false then
            match sameN t f n.x m.x vis with
            | some vis => match bif Nat.beq n.op 4 then some vis else sameN t f n.y m.y vis with
              | some vis => bif Nat.blt i 1000000000 then some (vis.set 40 i (some q)) else none
              | none => none
            | none => none
          else none
        | none => none
      | none => none := by
  rw [sameN, frc_eq, Nat.sub_eq, Nat.sub_eq, hi, hj]
  rfl

theorem sameN_spec {fl : Nat → Option Nat} {t : Tr FN} (ht : ∀ i x, t.get i = some x → nodeOk fl x (SYM + i)) (f : Nat) : ∀ (r q : Nat) {vis vis' : Tr Nat}, sameN t f r q vis = some vis' → (∀ i q, vis.get i = some q → SameV fl (SYM + i) q) → SameV fl r q ∧ ∀ i q, vis'.get i = some q → SameV fl (SYM + i) q := by
  induction f with
  | zero => intro r q vis vis' h; simp [sameN] at h
  | succ f IH =>
    intro r q vis vis' h hv
    obtain ⟨ri, hri⟩ : ∃ i, r - SYM = i := ⟨_, rfl⟩
    obtain ⟨qi, hqi⟩ : ∃ i, q - SYM = i := ⟨_, rfl⟩
    rw [sameN_succ t f r q vis ri qi hri hqi] at h
    cases h0 : Nat.beq r q with
    | true =>
      rw [h0] at h
      simp only [cond_true, Option.some.injEq] at h
      subst h
      rw [nbeq_true h0]
      exact ⟨fun X hX => hX, hv⟩
    | false =>
    rw [h0] at h
    cases h1 : Nat.blt r SYM with
    | true => rw [h1] at h; simp at h
    | false =>
    rw [h1] at h
    cases h2 : Nat.blt q SYM with
    | true => rw [h2] at h; simp at h
    | false =>
    rw [h2] at h
    simp only [cond_false] at h
    have hr : SYM ≤ r := nblt_false h1
    have hq : SYM ≤ q := nblt_false h2
    have er : SYM + ri = r := by omega
    have eq : SYM + qi = q := by omega
    clear hri hqi
    split at h
    · rename_i q' hvis
      obtain ⟨h3, h⟩ := bif_some h
      simp only [Option.some.injEq] at h
      subst h
      have := hv _ _ hvis
      rw [nbeq_true h3, er] at this
      exact ⟨this, hv⟩
    · split at h
      case h_2 => cases h
      rename_i n hn
      split at h
      case h_2 => cases h
      rename_i m hm
      obtain ⟨h3, h⟩ := bif_some h
      obtain ⟨ho, hlo, hhi⟩ : n.op = m.op ∧ 1 ≤ n.op ∧ n.op ≤ 4 := by
        cases k1 : Nat.beq n.op m.op with
        | false => rw [k1] at h3; simp at h3
        | true =>
          cases k2 : Nat.ble 1 n.op with
          | false => rw [k1, k2] at h3; simp at h3
          | true =>
            rw [k1, k2] at h3
            exact ⟨nbeq_true k1, nble_true k2, nble_true h3⟩
      split at h
      case h_2 => cases h
      rename_i vis1 hs1
      obtain ⟨sx, hv1⟩ := IH n.x m.x hs1 hv
      have N := ht _ _ hn
      have M := ht _ _ hm
      rw [er] at N
      rw [eq] at M
      obtain ⟨V, hV, _, _, n1, n2, n3, n4⟩ := N
      obtain ⟨U, hU, _, _, m1, m2, m3, m4⟩ := M
      have fin : ∀ {vis2 : Tr Nat}, (∀ i q, vis2.get i = some q → SameV fl (SYM + i) q) → V = U → (bif Nat.blt ri 1000000000 then some (vis2.set 40 ri (some q)) else none) = some vis' → SameV fl r q ∧ ∀ i q, vis'.get i = some q → SameV fl (SYM + i) q := fun {vis2} hv2 e hh => by
        obtain ⟨h5, hh⟩ := bif_some hh
        have h5 := nblt_true h5
        simp only [Option.some.injEq] at hh
        subst hh
        have hS : SameV fl r q := fun X hX => by
          unfold vl at hX ⊢
          rw [if_neg (by omega), hV] at hX
          rw [if_neg (by omega), hU, ← e]
          exact hX
        refine ⟨hS, fun i q2 hi => ?_⟩
        rw [Tr.get_set 40 _ _ _ i (by omega)] at hi
        split at hi
        · rename_i e2
          cases hi
          rw [e2, er]
          exact hS
        · exact hv2 i q2 hi
      cases h4 : Nat.beq n.op 4 with
      | true =>
        rw [h4] at h
        simp only [cond_true] at h
        have e4 := nbeq_true h4
        obtain ⟨X, _, hX, eV⟩ := n4 e4
        obtain ⟨X', _, hX', eU⟩ := m4 (by omega)
        have := sx X hX
        rw [hX'] at this
        cases this
        exact fin hv1 (by rw [eV, eU]) h
      | false =>
        rw [h4] at h
        simp only [cond_false] at h
        split at h
        case h_2 => cases h
        rename_i vis2 hs2
        obtain ⟨sy, hv2⟩ := IH n.y m.y hs2 hv1
        have hne4 : n.op ≠ 4 := fun e => by rw [e] at h4; cases h4
        have e : V = U := by
          rcases (by omega : n.op = 1 ∨ n.op = 2 ∨ n.op = 3) with k | k | k
          · obtain ⟨X, Y, _, _, hX, hY, eV⟩ := n1 k
            obtain ⟨X', Y', _, _, hX', hY', eU⟩ := m1 (by omega)
            have a := sx X hX
            have b := sy Y hY
            rw [hX'] at a
            rw [hY'] at b
            cases a
            cases b
            rw [eV, eU]
          · obtain ⟨X, Y, _, _, hX, hY, eV⟩ := n2 k
            obtain ⟨X', Y', _, _, hX', hY', eU⟩ := m2 (by omega)
            have a := sx X hX
            have b := sy Y hY
            rw [hX'] at a
            rw [hY'] at b
            cases a
            cases b
            rw [eV, eU]
          · obtain ⟨X, Y, _, _, hX, hY, eV⟩ := n3 k
            obtain ⟨X', Y', _, _, hX', hY', eU⟩ := m3 (by omega)
            have a := sx X hX
            have b := sy Y hY
            rw [hX'] at a
            rw [hY'] at b
            cases a
            cases b
            rw [eV, eU]
        exact fin hv2 e h

theorem sameL_spec {fl : Nat → Option Nat} {t : Tr FN} (ht : ∀ i x, t.get i = some x → nodeOk fl x (SYM + i)) : ∀ (l m : List Nat) {vis : Tr Nat}, sameL t l m vis = true → (∀ i q, vis.get i = some q → SameV fl (SYM + i) q) → ∀ k, k < l.length → SameV fl (l.getD k 0) (m.getD k 0)
  | [], [], _, _, _, k, hk => by simp at hk
  | [], _ :: _, _, h, _, k, hk => by simp at hk
  | _ :: _, [], _, h, _, _, _ => by simp [sameL] at h
  | r :: l, q :: m, vis, h, hv, k, hk => by
    simp only [sameL] at h
    split at h
    · rename_i vis1 h1
      obtain ⟨s1, hv1⟩ := sameN_spec ht 400 r q h1 hv
      cases k with
      | zero => exact s1
      | succ k => exact sameL_spec ht l m h hv1 k (by simpa using hk)
    · cases h
end Go.AM
set_option maxRecDepth 100000
namespace Go.AM
open Go Go.RowKit Go.Proofs Go.Proofs.YtdflbipaicpdcaaGreatDoor

theorem slice_den {J : Io} {a : Option Addr} {n c : Nat} {u : Value} (h : Den J (.slice a n c) u) : ∃ a' c', u = .slice a' n c' ∧ ∀ b o, a = some ⟨b, o, none⟩ → ∃ p, J.blk b = some p ∧ a' = some ⟨p.blk, p.off + o, none⟩ := by
  cases h with
  | slice0 => exact ⟨_, _, rfl, fun b o e => by cases e⟩
  | slice b o _ _ p hp => exact ⟨_, _, rfl, fun b' o' e => by cases e; exact ⟨p, hp, rfl⟩⟩
  | wide b o _ _ _ p hp => exact ⟨_, _, rfl, fun b' o' e => by cases e; exact ⟨p, hp, rfl⟩⟩

theorem rowF_spec {s : St} {b o n : Nat} {l : List Nat} (h : rowF s b o n = some l) : ∃ ro cells vs, s.H.get b = some (.cells 46 ro cells) ∧ cut cells o n = some vs ∧ refs vs = some l := by
  unfold rowF at h
  split at h
  case h_2 => cases h
  rename_i ty ro cells hb
  obtain ⟨h1, h⟩ := bif_some h
  rw [nbeq_true h1] at hb
  split at h
  case h_2 => cases h
  rename_i vs hvs
  exact ⟨ro, cells, vs, hb, hvs, h⟩

theorem flAt_of {g : Gh} {J : Io} {s : St} {w : World} (hM : Mem g J All s w) {b o n : Nat} {l : List Nat} (hn : 0 < n) (h : rowF s b o n = some l) {p : Pl} (hp : J.blk b = some p) : l.length = n ∧ ∃ m : Nat → Nat, FlAt w (some ⟨p.blk, p.off + o, none⟩) n m ∧ ∀ i, i < n → ∃ X, vl J.fl (l.getD i 0) = some X ∧ Fl.canon (m i) = Fl.canon X := by
  obtain ⟨ro, cells, vs, h1, h2, h3⟩ := rowF_spec h
  obtain ⟨p', m, hp', hr⟩ := row_in hM hn h1 h2 h3
  rw [hp] at hp'
  cases hp'
  obtain ⟨c', t', fz, hh, _, _, hat⟩ := hr.at_
  refine ⟨hr.len, m, fun k hk => ⟨_, _, rfl, ?_⟩, fun i hi => ?_⟩
  · have := hat k hk
    simp [World.cell?, hh, this]
  · obtain ⟨m', X, e1, v1, c1, _, _⟩ := (hr.den i hi).float
    obtain ⟨-, e2⟩ := Value.float.inj e1
    exact ⟨X, v1, by rw [e2]; exact c1⟩

theorem sameF_ok : Pl1 Tryz.prog 9 sameF := pl_flat (hb_of (by kernel_rfl)) fun args base s v s' h => by
  unfold sameF at h
  split at h
  · rename_i a c a2 c2
    simp only [Option.some.injEq, Prod.mk.injEq] at h
    obtain ⟨rfl, rfl⟩ := h
    refine ⟨rfl, fun J => .bool _, fun g J w args' hM hd => ?_⟩
    obtain ⟨u, u2, rfl, d1, d2⟩ := den2 hd
    obtain ⟨x, cx, rfl, _⟩ := slice_den d1
    obtain ⟨y, cy, rfl, _⟩ := slice_den d2
    exact sameRow_w x y 0 cx cy (fun _ => 0) (fun _ => 0) w (fun k hk => by omega) (fun k hk => by omega) (fun k hk => by omega) (by omega)
  · rename_i b o n c b2 o2 n2 c2 hne
    have hh := bif_some h
    clear h
    obtain ⟨h1, h⟩ := hh
    obtain ⟨en, hle, hnd⟩ : n = n2 ∧ n ≤ 5000 ∧ s.nd < 1000000000 := by
      cases k1 : Nat.beq n n2 with
      | false => rw [k1] at h1; simp at h1
      | true =>
        cases k2 : Nat.ble n 5000 with
        | false => rw [k1, k2] at h1; simp at h1
        | true =>
          rw [k1, k2] at h1
          exact ⟨nbeq_true k1, nble_true k2, nblt_true h1⟩
    subst en
    split at h
    case h_2 => cases h
    rename_i l hl
    split at h
    case h_2 => cases h
    rename_i m hm
    obtain ⟨hs, h⟩ := bif_some h
    simp only [Option.some.injEq, Prod.mk.injEq] at h
    obtain ⟨rfl, rfl⟩ := h
    refine ⟨rfl, fun J => .bool _, fun g J w args' hM hd => ?_⟩
    obtain ⟨u, u2, rfl, d1, d2⟩ := den2 hd
    obtain ⟨x, cx, rfl, ex⟩ := slice_den d1
    obtain ⟨y, cy, rfl, ey⟩ := slice_den d2
    obtain ⟨p, hp, rfl⟩ := ex _ _ rfl
    obtain ⟨q, hq, rfl⟩ := ey _ _ rfl
    by_cases hn : 0 < n
    · obtain ⟨ll, f, hf, hfX⟩ := flAt_of hM hn hl hp
      obtain ⟨lm, f2, hf2, hfY⟩ := flAt_of hM hn hm hq
      have ht := idxD_spec hM.dag s.nd .lf hM.nd hnd (fun i x hx => by simp [Tr.get] at hx)
      have hS := sameL_spec ht l m hs (fun i q hx => by simp [Tr.get] at hx)
      refine sameRow_w _ _ n cx cy f f2 w hf hf2 (fun k hk => ?_) hle
      obtain ⟨X, hX, cX⟩ := hfX k hk
      obtain ⟨Y, hY, cY⟩ := hfY k hk
      have := hS k (by omega) X hX
      rw [hY] at this
      cases this
      rw [cX, cY]
    · exact sameRow_w _ _ n cx cy (fun _ => 0) (fun _ => 0) w (fun k hk => by omega) (fun k hk => by omega) (fun k hk => by omega) hle
  · cases h
end Go.AM
