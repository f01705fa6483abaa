/- The abstract machine: drawn regions: what the machine's one order leaves on record. The abstract machine: values seen through fewer blocks; floats are what they are made of; one operation of a drawn region. The abstract machine: drawn regions: what an operation leaves is put into what was there. The abstract machine: drawn regions: one operation from a state, and the machine's own order. The abstract machine: drawn regions: the machine's own order, in worlds. The abstract machine: drawn regions: any order: what there is after some operations, and who does not meet whom. The abstract machine: drawn regions: any order comes to what the machine says. The abstract machine: drawn regions, whole. The abstract machine is sound: what it says of a call is so. The abstract machine and Tryz: calls enter, regions are drawn. The abstract machine: summaries: what a contract by hand says, as the machine has it. No condition. -/
import Derived.Test.YtdflbipaicpdcaaGreatDoorSAg
import Derived.Test.YtdflbipaicpdcaaGreatDoorProg
import Derived.KernelRfl
import Derived.Below
set_option linter.unusedVariables false
set_option linter.unusedSimpArgs false
namespace Go.AM
open Go Go.Proofs.YtdflbipaicpdcaaGreatDoor
variable {P : Program}

/-- an operation of a drawn region, as it was done in the machine's order -/
structure StepD where
  G : St
  ds : List Did
  wd : Bool
  cl : Bool
  tc : List Nat
  V : Tr AO
  s1 : St
  v : Value

/-- what is noted of it -/
def StepD.did (t : StepD) (n : Nat) : Did := ⟨n, t.cl, t.s1.W, t.G.nx, t.s1.nx, t.tc⟩

/-- it leaves nothing that others could meet -/
def StepD.idle (t : StepD) : Prop := t.cl = false ∧ t.s1.W = [] ∧ t.G.nx = t.s1.nx ∧ t.tc = []

/-- one step of the machine's order -/
structure Local (P : Program) (plug : Plug) (rec : Rec) (E : En) (ops : List Oper) (an : List Nat) (o : Oper) (n : Nat) (t : StepD) (G' : St) (ds' : List Did) : Prop where
  wd : wantedA ops t.G o = t.wd
  skip : t.wd = false → put E.nt t.G o.dst undef = some G' ∧ ds' = t.ds
  ev : t.wd = true → evOp P plug rec ⟨E.fn, E.nt, E.rd, t.G.nx⟩ (forOp t.G t.V) o = some (t.v, t.s1)
  cl : t.cl = isCall o
  next : t.wd = true → put E.nt (fromOp E.base t.s1 (if t.cl then unhide t.G.H (unordered ((nth an n).getD 0) t.ds) t.s1.H else t.s1.H) t.G.W) o.dst t.v = some G'
  light : t.wd = true → t.cl = false → t.V = t.G.H ∧ t.tc = touches t.G o ∧ (∀ d ∈ unordered ((nth an n).getD 0) t.ds, ∀ b ∈ t.tc, d.has b = false)
  call : t.wd = true → t.cl = true → t.V = hide (unordered ((nth an n).getD 0) t.ds) t.G.H ∧ t.tc = [] ∧ (∀ d ∈ unordered ((nth an n).getD 0) t.ds, d.call = false)
  clear : t.wd = true → ∀ d ∈ unordered ((nth an n).getD 0) t.ds, (d.call = true → t.s1.W = []) ∧ ∀ b ∈ d.rd, b ∉ t.s1.W
  ds : t.wd = true → (ds' = t.did n :: t.ds) ∨ (ds' = t.ds ∧ t.idle)

theorem clear_spec {W : List Nat} {un : List Did} (h : clear W un = true) : ∀ d ∈ un, (d.call = true → W = []) ∧ ∀ b ∈ d.rd, b ∉ W := by
  intro d hd
  have := List.all_eq_true.1 h d hd
  simp only [Bool.and_eq_true] at this
  refine ⟨fun e => ?_, fun b hb hin => ?_⟩
  · rw [e] at this
    simpa using this.1
  · have h2 := List.all_eq_true.1 this.2 b hb
    rw [(mem_eq W b).2 hin] at h2
    cases h2

theorem drawnGo_trace {plug : Plug} {rec : Rec} {E : En} {ops : List Oper} {an : List Nat} {s' : St} : ∀ (lo : List Oper) (j : Nat) (ds : List Did) (s : St), drawnGo P plug rec E ops an lo j ds s = some s' →
    ∃ st : Nat → StepD, (st j).G = s ∧ (st j).ds = ds ∧ (st (j + lo.length)).G = s' ∧ ∀ i o, lo[i]? = some o → Local P plug rec E ops an o (j + i) (st (j + i)) (st (j + i + 1)).G (st (j + i + 1)).ds
  | [], j, ds, s, h => by
    simp only [drawnGo, Option.some.injEq] at h
    subst h
    exact ⟨fun _ => ⟨s, ds, false, false, [], .lf, s, undef⟩, rfl, rfl, rfl, fun i o hi => by simp at hi⟩
  | o :: lo, j, ds, s, h => by
    simp only [drawnGo] at h
    have fin : ∀ (t : StepD) (s2 : St) (ds2 : List Did), t.G = s → t.ds = ds → drawnGo P plug rec E ops an lo (Nat.succ j) ds2 s2 = some s' → Local P plug rec E ops an o j t s2 ds2 →
        ∃ st : Nat → StepD, (st j).G = s ∧ (st j).ds = ds ∧ (st (j + (o :: lo).length)).G = s' ∧ ∀ i o', (o :: lo)[i]? = some o' → Local P plug rec E ops an o' (j + i) (st (j + i)) (st (j + i + 1)).G (st (j + i + 1)).ds := by
      intro t s2 ds2 e1 e2 hgo hl
      obtain ⟨st, k1, k2, k3, k4⟩ := drawnGo_trace lo (Nat.succ j) ds2 s2 hgo
      obtain ⟨st', a0, a1⟩ : ∃ st' : Nat → StepD, st' j = t ∧ ∀ i, i ≠ j → st' i = st i := ⟨fun i => if i = j then t else st i, if_pos rfl, fun i hi => if_neg hi⟩
      refine ⟨st', by rw [a0, e1], by rw [a0, e2], ?_, ?_⟩
      · simp only [List.length_cons]
        rw [a1 _ (by omega), show j + (lo.length + 1) = Nat.succ j + lo.length by omega]
        exact k3
      · intro i o' hi
        cases i with
        | zero =>
          simp only [List.getElem?_cons_zero, Option.some.injEq] at hi
          subst hi
          simp only [Nat.add_zero]
          rw [a0, a1 _ (by omega), show j + 1 = Nat.succ j from rfl, k1, k2]
          exact hl
        | succ i =>
          simp only [List.getElem?_cons_succ] at hi
          have := k4 i o' hi
          rw [a1 _ (by omega), a1 _ (by omega), show j + (i + 1) = Nat.succ j + i by omega]
          exact this
    cases hw : wantedA ops s o with
    | false =>
      rw [hw] at h
      simp only [cond_false] at h
      cases hp : put E.nt s o.dst undef with
      | none => rw [hp] at h; cases h
      | some s2 =>
        rw [hp] at h
        exact fin ⟨s, ds, false, isCall o, [], .lf, s, undef⟩ s2 ds rfl rfl h ⟨hw, fun _ => ⟨hp, rfl⟩, (fun e => by cases e), rfl, (fun e => by cases e), (fun e => by cases e), (fun e => by cases e), (fun e => by cases e), (fun e => by cases e)⟩
    | true =>
      rw [hw] at h
      simp only [cond_true] at h
      cases ho : opD P plug rec E ((nth an j).getD 0) o j ds s with
      | none => rw [ho] at h; cases h
      | some x =>
        obtain ⟨v, s1', ds1⟩ := x
        rw [ho] at h
        simp only at h
        cases hp : put E.nt s1' o.dst v with
        | none => rw [hp] at h; cases h
        | some s2 =>
          rw [hp] at h
          simp only at h
          unfold opD at ho
          cases hc : isCall o with
          | true =>
            rw [hc] at ho
            simp only [cond_true] at ho
            unfold callD at ho
            simp only at ho
            cases hu : (unordered ((nth an j).getD 0) ds).all (fun d => !d.call) with
            | false => rw [hu] at ho; simp at ho
            | true =>
              rw [hu] at ho
              simp only [cond_true] at ho
              cases he : evOp P plug rec ⟨E.fn, E.nt, E.rd, s.nx⟩ (forOp s (hide (unordered ((nth an j).getD 0) ds) s.H)) o with
              | none => rw [he] at ho; cases ho
              | some y =>
                obtain ⟨v', s1⟩ := y
                rw [he] at ho
                simp only at ho
                cases hcl : clear s1.W (unordered ((nth an j).getD 0) ds) with
                | false => rw [hcl] at ho; simp at ho
                | true =>
                  rw [hcl] at ho
                  simp only [cond_true, Option.some.injEq, Prod.mk.injEq] at ho
                  obtain ⟨rfl, rfl, rfl⟩ := ho
                  refine fin ⟨s, ds, true, true, [], hide (unordered ((nth an j).getD 0) ds) s.H, s1, v'⟩ s2 _ rfl rfl h ⟨hw, (fun e => by cases e), fun _ => he, hc.symm, (fun _ => by simpa using hp), (fun _ e => by cases e), fun _ _ => ⟨rfl, rfl, fun d hd => ?_⟩, fun _ => clear_spec hcl, fun _ => .inl rfl⟩
                  have := List.all_eq_true.1 hu d hd
                  simpa using this
          | false =>
            rw [hc] at ho
            simp only [cond_false] at ho
            unfold lightD at ho
            simp only at ho
            cases hu : (unordered ((nth an j).getD 0) ds).all (fun d => (touches s o).all fun b => !d.has b) with
            | false => rw [hu] at ho; simp at ho
            | true =>
              rw [hu] at ho
              simp only [cond_true] at ho
              cases he : evOp P plug rec ⟨E.fn, E.nt, E.rd, s.nx⟩ (forOp s s.H) o with
              | none => rw [he] at ho; cases ho
              | some y =>
                obtain ⟨v', s1⟩ := y
                rw [he] at ho
                simp only at ho
                cases hcl : clear s1.W (unordered ((nth an j).getD 0) ds) with
                | false => rw [hcl] at ho; simp at ho
                | true =>
                  rw [hcl] at ho
                  simp only [cond_true, Option.some.injEq, Prod.mk.injEq] at ho
                  obtain ⟨rfl, rfl, rfl⟩ := ho
                  refine fin ⟨s, ds, true, false, touches s o, s.H, s1, v'⟩ s2 _ rfl rfl h ⟨hw, (fun e => by cases e), fun _ => he, hc.symm, (fun _ => by simpa using hp), fun _ _ => ⟨rfl, rfl, fun d hd b hb => ?_⟩, (fun _ e => by cases e), fun _ => clear_spec hcl, fun _ => ?_⟩
                  · have := List.all_eq_true.1 (List.all_eq_true.1 hu d hd) b hb
                    simpa using this
                  · unfold addDid StepD.did StepD.idle
                    simp only
                    cases htc : touches s o with
                    | cons c cs => exact .inl rfl
                    | nil =>
                      cases hW : s1.W with
                      | cons w ws => exact .inl rfl
                      | nil =>
                        simp only
                        cases hb : Nat.beq s.nx s1.nx with
                        | false => exact .inl rfl
                        | true => exact .inr (by simpa using nbeq_true hb)

/-- what was noted of each that came before -/
theorem noted {plug : Plug} {rec : Rec} {E : En} {ops : List Oper} {an : List Nat} {st : Nat → StepD} (h0 : (st 0).ds = []) (hl : ∀ i o, ops[i]? = some o → Local P plug rec E ops an o i (st i) (st (i + 1)).G (st (i + 1)).ds) : ∀ n, n ≤ ops.length →
    (∀ i, i < n → (st i).wd = true → (st i).did i ∈ (st n).ds ∨ (st i).idle) ∧ (∀ d ∈ (st n).ds, ∃ i, i < n ∧ (st i).wd = true ∧ d = (st i).did i)
  | 0, _ => ⟨fun i hi => by omega, fun d hd => by rw [h0] at hd; simp at hd⟩
  | n + 1, hn => by
    obtain ⟨ih1, ih2⟩ := noted h0 hl n (by omega)
    obtain ⟨o, ho⟩ : ∃ o, ops[n]? = some o := ⟨_, List.getElem?_eq_getElem (by omega)⟩
    have hloc := hl n o ho
    cases hw : (st n).wd with
    | false =>
      have e := (hloc.skip hw).2
      rw [e]
      refine ⟨fun i hi hwi => ?_, fun d hd => ?_⟩
      · rcases Nat.lt_or_ge i n with h | h
        · exact ih1 i h hwi
        · have : i = n := by omega
          subst this
          rw [hw] at hwi; cases hwi
      · obtain ⟨i, h1, h2, h3⟩ := ih2 d hd
        exact ⟨i, by omega, h2, h3⟩
    | true =>
      rcases hloc.ds hw with e | ⟨e, hidle⟩
      · rw [e]
        refine ⟨fun i hi hwi => ?_, fun d hd => ?_⟩
        · rcases Nat.lt_or_ge i n with h | h
          · exact (ih1 i h hwi).imp (fun h => List.mem_cons_of_mem _ h) id
          · have : i = n := by omega
            subst this
            exact .inl (by simp)
        · rcases List.mem_cons.1 hd with rfl | hd
          · exact ⟨n, by omega, hw, rfl⟩
          · obtain ⟨i, h1, h2, h3⟩ := ih2 d hd
            exact ⟨i, by omega, h2, h3⟩
      · rw [e]
        refine ⟨fun i hi hwi => ?_, fun d hd => ?_⟩
        · rcases Nat.lt_or_ge i n with h | h
          · exact ih1 i h hwi
          · have : i = n := by omega
            subst this
            exact .inr hidle
        · obtain ⟨i, h1, h2, h3⟩ := ih2 d hd
          exact ⟨i, by omega, h2, h3⟩

/-! ### Who comes before whom -/
theorem ancs_old : ∀ (l : List Oper) (acc : List Nat) (i : Nat), i < acc.length → (ancs l acc)[i]? = acc[i]?
  | [], acc, i, h => rfl
  | o :: l, acc, i, h => by
    simp only [ancs]
    rw [ancs_old l _ i (by simp; omega), List.getElem?_append_left h]

theorem ancs_at : ∀ (l : List Oper) (acc : List Nat) (i : Nat) (o : Oper), l[i]? = some o → (ancs l acc)[acc.length + i]? = some (ancOf ((ancs l acc).take (acc.length + i)) o)
  | [], acc, i, o, h => by simp at h
  | o :: l, acc, 0, o', h => by
    simp only [List.getElem?_cons_zero, Option.some.injEq] at h
    subst h
    simp only [ancs, Nat.add_zero]
    have : (ancs l (acc ++ [ancOf acc o])).take acc.length = acc := by
      apply List.ext_getElem?
      intro i
      rcases Nat.lt_or_ge i acc.length with h | h
      · rw [List.getElem?_take_of_lt h, ancs_old l _ i (by simp; omega), List.getElem?_append_left h]
      · rw [List.getElem?_eq_none (by simp; omega), List.getElem?_eq_none h]
    rw [ancs_old l _ _ (by simp), this]
    simp
  | o :: l, acc, i + 1, o', h => by
    simp only [List.getElem?_cons_succ] at h
    have := ancs_at l (acc ++ [ancOf acc o]) i o' h
    simp only [ancs]
    simp only [List.length_append, List.length_cons, List.length_nil] at this
    rw [show acc.length + (i + 1) = acc.length + (0 + 1) + i by omega]
    exact this

theorem ancOf_spec (acc : List Nat) (o : Oper) (i : Nat) (h : Nat.testBit (ancOf acc o) i = true) : ∃ e ∈ o.after, Region.binds .any e = true ∧ (e.on = i ∨ Nat.testBit ((nth acc e.on).getD 0) i = true) := by
  unfold ancOf at h
  have key : ∀ (l : List Edge) (m : Nat), Nat.testBit (l.foldl (fun m e => bif Region.binds .any e then Nat.lor m (Nat.lor (Nat.shiftLeft 1 e.on) ((nth acc e.on).getD 0)) else m) m) i = true → Nat.testBit m i = true ∨ ∃ e ∈ l, Region.binds .any e = true ∧ (e.on = i ∨ Nat.testBit ((nth acc e.on).getD 0) i = true) := by
    intro l
    induction l with
    | nil => intro m h; exact .inl h
    | cons e l ih =>
      intro m h
      simp only [List.foldl_cons] at h
      rcases ih _ h with h1 | ⟨e', he', h1⟩
      · cases hb : Region.binds .any e with
        | false => rw [hb] at h1; exact .inl h1
        | true =>
          rw [hb] at h1
          simp only [cond_true] at h1
          have h2 : Nat.testBit (m ||| ((1 <<< e.on) ||| ((nth acc e.on).getD 0))) i = true := h1
          rw [Nat.testBit_or, Nat.testBit_or, Bool.or_eq_true, Bool.or_eq_true] at h2
          rcases h2 with h2 | h2 | h2
          · exact .inl h2
          · refine .inr ⟨e, by simp, hb, .inl ?_⟩
            rw [Nat.one_shiftLeft, Nat.testBit_two_pow] at h2
            simpa using h2
          · exact .inr ⟨e, by simp, hb, .inr h2⟩
      · exact .inr ⟨e', by simp [he'], h1⟩
  rcases key o.after.toList 0 h with h1 | ⟨e, he, h1⟩
  · simp at h1
  · exact ⟨e, by simpa using he, h1⟩

/-- what has been done is shut: whatever stood before it has been done -/
theorem anc_done {ops : Array Oper} (hb : ∀ j o, ops[j]? = some o → binOn o j = true) {D : Nat → Prop} (hD : ∀ j o, D j → ops[j]? = some o → ∀ e ∈ o.after, Region.binds .any e = true → D e.on) :
    ∀ (j : Nat) (o : Oper), ops[j]? = some o → (∀ e ∈ o.after, Region.binds .any e = true → D e.on) → ∀ i, Nat.testBit ((nth (ancs ops.toList []) j).getD 0) i = true → D i := by
  intro j
  induction j using Nat.strongRecOn with
  | _ j ih =>
    intro o ho hpre i hi
    have hat := ancs_at ops.toList [] j o (by rw [Array.getElem?_toList]; exact ho)
    simp only [List.length_nil, Nat.zero_add] at hat
    rw [nth_eq, hat] at hi
    simp only [Option.getD_some] at hi
    obtain ⟨e, he, hbe, h⟩ := ancOf_spec _ _ _ hi
    rcases h with rfl | h
    · exact hpre e he hbe
    · have hlt : e.on < j := by
        have := List.all_eq_true.1 (hb j o ho) e (by simpa using he)
        rw [hbe] at this
        simp only [Bool.not_true, Bool.false_or] at this
        exact nblt_true this
      have hlen : e.on < ops.size := by
        have := (Array.getElem?_eq_some_iff.1 ho).1
        omega
      rw [nth_eq, List.getElem?_take_of_lt hlt, ← nth_eq] at h
      exact ih e.on hlt _ (Array.getElem?_eq_getElem hlen) (hD e.on _ (hpre e he hbe) (Array.getElem?_eq_getElem hlen)) i h
end Go.AM
namespace Go.AM
open Go Go.Proofs.YtdflbipaicpdcaaGreatDoor
variable {P : Program}

/-- what stands for what, of the blocks that Jc knows -/
def Io.on (J Jc : Io) : Io := { blk := fun b => if (Jc.blk b).isSome then J.blk b else none, fl := Jc.fl }

theorem Io.on_blk {J Jc : Io} {b : Nat} {p q : Pl} (h : J.blk b = some p) (hc : Jc.blk b = some q) : (J.on Jc).blk b = some p := by simp [Io.on, hc, h]

mutual
theorem Den.on {J Jc : Io} (hf : ∀ r x, Jc.fl r = some x → J.fl r = some x) : ∀ {v u uc : Value}, Den J v u → Den Jc v uc → Den (J.on Jc) v u
  | _, _, _, .bool b, _ => .bool b
  | _, _, _, .int k n, _ => .int k n
  | _, _, _, .word k n h, _ => .word k n h
  | _, _, _, .sym n m x h hx hl ha, hc => by
    cases hc with
    | word _ _ h' => omega
    | sym _ m' x' h' hx' hl' ha' =>
      have := (hf _ _ hx').symm.trans hx
      cases this
      exact .sym n m x h hx' hl ha
  | _, _, _, .string s, _ => .string s
  | _, _, _, .ptr0, _ => .ptr0
  | _, _, _, .ptr b o p h, hc => by cases hc with | ptr _ _ q hq => exact .ptr b o p (Io.on_blk h hq)
  | _, _, _, .slice0 n c h, _ => .slice0 n c h
  | _, _, _, .slice b o n c p h hc', hc => by
    cases hc with
    | slice _ _ _ _ q hq _ => exact .slice b o n c p (Io.on_blk h hq) hc'
    | wide _ _ _ _ _ q hq _ _ _ => exact .slice b o n c p (Io.on_blk h hq) hc'
  | _, _, _, .wide b o n c c' p h h1 h2 h3, hc => by
    cases hc with
    | slice _ _ _ _ q hq _ => exact .wide b o n c c' p (Io.on_blk h hq) h1 h2 h3
    | wide _ _ _ _ _ q hq _ _ _ => exact .wide b o n c c' p (Io.on_blk h hq) h1 h2 h3
  | _, _, _, .map0, _ => .map0
  | _, _, _, .map r p h, hc => by cases hc with | map _ q hq => exact .map r p (Io.on_blk h hq)
  | _, _, _, .nilFunc, _ => .nilFunc
  | _, _, _, .nilIface, _ => .nilIface
  | _, _, _, .func f a a' b b' ha hb, hc => by
    cases hc with
    | func _ _ c1 _ c2 h1 h2 => exact .func f a a' b b' (ha.on hf h1) (hb.on hf h2)
  | _, _, _, .yield l p h, hc => by cases hc with | yield _ q hq => exact .yield l p (Io.on_blk h hq)
  | _, _, _, .iface t v v' h, hc => by cases hc with | iface _ _ _ h1 => exact .iface t v v' (h.on hf h1)
  | _, _, _, .agg a a' h, hc => by cases hc with | agg _ _ h1 => exact .agg a a' (h.on hf h1)
  | _, _, _, .tuple a a' h, hc => by cases hc with | tuple _ _ h1 => exact .tuple a a' (h.on hf h1)
theorem DenL.on {J Jc : Io} (hf : ∀ r x, Jc.fl r = some x → J.fl r = some x) : ∀ {v u uc : List Value}, DenL J v u → DenL Jc v uc → DenL (J.on Jc) v u
  | _, _, _, .nil, _ => .nil
  | _, _, _, .cons v v' l l' h hl, hc => by cases hc with | cons _ _ _ _ h1 h2 => exact .cons v v' l l' (h.on hf h1) (hl.on hf h2)
end

theorem TmpsDen.on {J Jc : Io} (hf : ∀ r x, Jc.fl r = some x → J.fl r = some x) {nt : Nat} {T : Tr Value} {tm tmc : Array Value} (h : TmpsDen J nt T tm) (hc : TmpsDen Jc nt T tmc) : TmpsDen (J.on Jc) nt T tm :=
  ⟨h.1, fun t ht => (h.2.1 t ht).on hf (hc.2.1 t ht), h.2.2⟩

theorem ObjDen.on {J Jc : Io} (hf : ∀ r x, Jc.fl r = some x → J.fl r = some x) {p pc : Pl} {o : AO} {o' oc : Obj} (h : ObjDen J p o o') (hc : ObjDen Jc pc o oc) : ObjDen (J.on Jc) p o o' := by
  cases o with
  | cells t ro c =>
    obtain ⟨c', t', fz, e, hs, hr, hl, hg⟩ := h
    obtain ⟨d', u', fz', e', hs', hr', hl', hg'⟩ := hc
    refine ⟨c', t', fz, e, hs, hr, hl, fun i v hv => ?_⟩
    obtain ⟨u, hu, hd⟩ := hg i v hv
    obtain ⟨u', hu', hd'⟩ := hg' i v hv
    exact ⟨u, hu, hd.on hf hd'⟩
  | loop st pd fn nt T ps a b d =>
    obtain ⟨tm, q, f, e, hd, ht⟩ := h
    obtain ⟨tm', q', f', e', hd', ht'⟩ := hc
    exact ⟨tm, q, f, e, Io.on_blk hd hd', ht.on hf ht'⟩
  | defd t => exact h
  | map es c =>
    obtain ⟨es', c', e, h1, h2⟩ := h
    obtain ⟨ec, cc, e', h1', h2'⟩ := hc
    refine ⟨es', c', e, fun k v n hm => ?_, fun x hx => ?_⟩
    · obtain ⟨y, hy, hk, hd⟩ := h1 k v n hm
      obtain ⟨y', hy', hk', hd'⟩ := h1' k v n hm
      exact ⟨y, hy, hk, hd.on hf hd'⟩
    · obtain ⟨k, v, n, hm, hk, hd⟩ := h2 x hx
      obtain ⟨y', hy', hk', hd'⟩ := h1' k v n hm
      exact ⟨k, v, n, hm, hk, hd.on hf hd'⟩

/-! Floats are what they are made of. -/
theorem vl_agree {f h : Nat → Option Nat} {m x X Y : Nat} (hm : ∀ r, r < m → f r = h r) (hx : x < m) (h1 : vl f x = some X) (h2 : vl h x = some Y) : X = Y := by
  unfold vl at h1 h2
  split at h1
  · rename_i e; rw [if_pos e] at h2; cases h1; cases h2; rfl
  · rename_i e
    rw [if_neg e] at h2
    rw [hm x hx, h2] at h1
    cases h1; rfl

theorem node_agree {f h : Nat → Option Nat} {n : FN} {r : Nat} (hop : 1 ≤ n.op ∧ n.op ≤ 4) (hm : ∀ x, x < r → f x = h x) (h1 : nodeOk f n r) (h2 : nodeOk h n r) : f r = h r := by
  obtain ⟨v, a1, a2, a3, b1, b2, b3, b4⟩ := h1
  obtain ⟨v', c1, c2, c3, d1, d2, d3, d4⟩ := h2
  rw [a1, c1]
  congr 1
  have : n.op = 1 ∨ n.op = 2 ∨ n.op = 3 ∨ n.op = 4 := by omega
  rcases this with e | e | e | e
  · obtain ⟨x, y, l1, l2, e1, e2, rfl⟩ := b1 e
    obtain ⟨x', y', l1', l2', e1', e2', rfl⟩ := d1 e
    rw [vl_agree hm l1 e1 e1', vl_agree hm l2 e2 e2']
  · obtain ⟨x, y, l1, l2, e1, e2, rfl⟩ := b2 e
    obtain ⟨x', y', l1', l2', e1', e2', rfl⟩ := d2 e
    rw [vl_agree hm l1 e1 e1', vl_agree hm l2 e2 e2']
  · obtain ⟨x, y, l1, l2, e1, e2, rfl⟩ := b3 e
    obtain ⟨x', y', l1', l2', e1', e2', rfl⟩ := d3 e
    rw [vl_agree hm l1 e1 e1', vl_agree hm l2 e2 e2']
  · obtain ⟨x, l1, e1, rfl⟩ := b4 e
    obtain ⟨x', l1', e1', rfl⟩ := d4 e
    rw [vl_agree hm l1 e1 e1']

theorem dag_agree {f h : Nat → Option Nat} {nv nv' m : Nat} (hnv : nv ≤ m) (hlow : ∀ r, r < SYM → f r = h r) (hm : ∀ i, i < m → f (SYM + i) = h (SYM + i)) : ∀ (D : List FN), DagOk nv f D → DagOk nv' h D → ∀ i, i < D.length → f (SYM + i) = h (SYM + i)
  | [], _, _, i, hi => by simp at hi
  | n :: D, .cons _ _ h1 v1 d1, .cons _ _ h2 v2 d2, i, hi => by
    have ih := dag_agree hnv hlow hm D d1 d2
    rcases Nat.lt_or_ge i D.length with hlt | hge
    · exact ih i hlt
    · have e : i = D.length := by simp at hi; omega
      subst e
      rcases Nat.lt_or_ge D.length m with hlm | hgm
      · exact hm _ hlm
      · refine node_agree (v1 (by omega)) (fun x hx => ?_) h1 h2
        rcases Nat.lt_or_ge x SYM with hs | hs
        · exact hlow x hs
        · have := ih (x - SYM) (by omega)
          rw [show SYM + (x - SYM) = x by omega] at this
          exact this

/-! ### One operation -/
/-- what an operation of a drawn region leaves -/
def LeftD (g : Gh) (J : Io) (S : Nat → Prop) (s1 : St) (v : Value) (a : Act) (u : Value) (ds : List Deferred) (w' : World) : Prop := ds = a.defers ∧ ∃ J', J.Le J' ∧ Mem g J' S s1 w' ∧ Den J' v u

theorem Lights.goesD {g : Gh} {J : Io} {S : Nat → Prop} {s s1 : St} {v : Value} {w : World} {o : Oper} {a : Act} {r : Option Nat} (h : Lights P g J S s s1 v w ((execOp a.eval o).run P w)) (hnd : ∀ c, o.op ≠ .defer c) :
    OpGoes P r o a w (LeftD g J S s1 v a) ∧ s1.T = s.T ∧ s1.df = s.df := by
  obtain ⟨J', u, w', hr, j1, j2, j3, j4, j5⟩ := h
  refine ⟨fun K Q hK => ⟨fun _ _ => trivial, ?_⟩, j4, j5⟩
  rw [Oper.semAt_eq _ _ _ hnd]
  have hleft : LeftD g J S s1 v a u a.defers w' := ⟨rfl, J', j1, j2, j3⟩
  rcases hr with hr | ⟨hr, rfl⟩
  · rw [hr]; exact hK u a.defers w' hleft
  · rw [hr]; exact hK undef a.defers w' hleft

theorem Inv.goesD {g : Gh} {J : Io} {s' : St} {v : Value} {w : World} {o : Oper} {a : Act} {r : Option Nat} (h : Inv P g J s' v w ((execOp a.eval o).run P w)) (hnd : ∀ c, o.op ≠ .defer c) :
    OpGoes P r o a w (LeftD g J All s' v a) := by
  intro K Q hK
  refine ⟨fun _ _ => trivial, ?_⟩
  rw [Oper.semAt_eq _ _ _ hnd]
  have hpost : ∀ e w', CallPost g J s' v e w' → ∃ u, e = .returned u ∧ LeftD g J All s' v a u a.defers w' := fun e w' ⟨u, J', he, j1, j2, j3⟩ => ⟨u, he, rfl, J', j1, j2, j3⟩
  rcases h with ⟨f, A, hr, hc⟩ | ⟨hr, hm, hd⟩ | ⟨l, f, tmps, asg, body, hr, hc⟩
  · rw [hr]
    refine ⟨fun hh => by simp [Fr, Fence.wide] at hh, callsIn_Fr (CallsIn.mono hc fun e w' he => ?_)⟩
    obtain ⟨u, rfl, hl⟩ := hpost e w' he
    exact hK u a.defers w' hl
  · rw [hr]
    exact hK v a.defers w ⟨rfl, J, .refl _, hm, hd⟩
  · rw [hr]
    refine ⟨fun hh => by simp [Fr, Fence.wide] at hh, RoundIn.mono (hc r) fun e w' he => ?_⟩
    obtain ⟨u, rfl, hl⟩ := hpost e w' he
    exact hK u a.defers w' hl

theorem evOpD_sound {plug : Plug} {rec : Rec} (hG : Goes P rec) (hP : Enters P) (hplug : PlugOk P plug) {g : Gh} {J : Io} {S : Nat → Prop} {E : En} {s s1 : St} {a : Act} {w : World} {o : Oper} {v : Value} {r : Option Nat} (hbase : g.base = E.base) (hk : lightKind o = true)
    (h : evOp P plug rec E s o = some (v, s1)) (hM : Mem g J S s w) (hd : OpsDen J s a o) (hS : (isCall o = true ∧ S = All) ∨ (isCall o = false ∧ ∀ b ∈ touches s o, S b)) : OpGoes P r o a w (LeftD g J S s1 v a) ∧ s1.T = s.T ∧ s1.df = s.df := by
  have hnd : ∀ c, o.op ≠ .defer c := fun c e => by unfold lightKind at hk; rw [e] at hk; cases hk
  unfold evOp at h
  cases hok : opOk o with
  | false => rw [hok] at h; simp at h
  | true =>
    rw [hok] at h
    simp only [cond_true] at h
    rcases hS with ⟨hic, rfl⟩ | ⟨hic, hS⟩
    · rw [hic] at h
      simp only [cond_true] at h
      split at h
      case h_2 => cases h
      rename_i c ho
      rw [← hbase] at h
      obtain ⟨h1, h2, h3⟩ := callOp_sound hG hP hplug ho h hM hd
      exact ⟨h3.goesD hnd, h1, h2⟩
    · rw [hic] at h
      simp only [cond_false] at h
      rw [← hbase] at h
      exact (lightOp_sound hM h hd hS).goesD hnd

/-- what goes somewhere comes to something -/
theorem OpGoes.ex {r : Option Nat} {o : Oper} {a : Act} {w : World} {R : Value → List Deferred → World → Prop} (h : OpGoes P r o a w R) : ∃ u ds w', R u ds w' := by
  have h1 := h (fun _ _ => ∃ u ds w', R u ds w') (fun _ _ _ => False) fun u ds w' hR => ⟨u, ds, w', hR⟩
  have h2 := h1.2
  generalize (o.semAt (Fr r).round a.eval).run P w = res at h2
  cases res with
  | ok n w' =>
    cases n <;> simp only [Oper.uponIn] at h2 <;> try exact h2
    case enter f args =>
      obtain ⟨_, _, h3⟩ := h2
      obtain ⟨e, w'', fr, hR, _⟩ := h3 [] (fun d hd => by simp [Fr, Fence.wide] at hd)
      cases e with
      | returned v => exact hR
      | panicked c => exact hR.elim
      | outgrown => obtain ⟨_, _, hf⟩ := hR; exact hf.elim
    case row row args =>
      obtain ⟨_, h3⟩ := h2
      obtain ⟨v, w'', hR, _⟩ := h3 default [] (fun d hd => by simp [Fr, Fence.wide] at hd)
      exact hR
    case round l f tmps asg body =>
      obtain ⟨_, _, h3⟩ := h2
      obtain ⟨e, w'', hR, _⟩ := h3 default [] (fun d hd => by simp [Fr, Fence.wide] at hd)
      cases e with
      | returned v => exact hR
      | panicked c => exact hR.elim
      | outgrown => obtain ⟨_, _, hf⟩ := hR; exact hf.elim
  | halt x w' => cases x <;> simp only [Oper.uponIn] at h2
end Go.AM
namespace Go.AM
open Go Go.Proofs.YtdflbipaicpdcaaGreatDoor
variable {P : Program}

/-- a world that stands for memory that is told by a function -/
structure Dyn (g : Gh) (J : Io) (C : Nat → Option AO) (Wp : Nat → Prop) (w : World) : Prop where
  inj : ∀ b c p q, C b ≠ none → C c ≠ none → J.blk b = some p → J.blk c = some q → p.blk = q.blk → b = c
  lt : ∀ b p, J.blk b = some p → p.blk < w.heap.size
  objs : ∀ b o, C b = some o → ∃ p o', J.blk b = some p ∧ w.heap[p.blk]? = some o' ∧ ObjDen J p o o'
  ext : g.J0.Le J
  old : ∀ b p, b < g.base → J.blk b = some p → g.J0.blk b = some p
  size : g.w0.heap.size ≤ w.heap.size
  frame : ∀ x, x < g.w0.heap.size → (∀ b p, Wp b → g.J0.blk b = some p → p.blk ≠ x) → w.heap[x]? = g.w0.heap[x]?
  new : ∀ b p, g.base ≤ b → J.blk b = some p → g.w0.heap.size ≤ p.blk ∨ ∃ c q, Wp c ∧ g.J0.blk c = some q ∧ q.blk = p.blk
  glob : ∀ i, i < 4 → ∃ p, J.blk i = some p ∧ p.blk = i ∧ p.off = 0
  oo : SameO g.w0 w

theorem Mem.dyn {g : Gh} {J : Io} {s : St} {w : World} (h : Mem g J All s w) : Dyn g J (fun b => s.H.get b) (fun b => b ∈ s.W) w :=
  ⟨fun b c p q => h.inj b c p q trivial trivial, h.lt, fun b o => h.objs b o trivial, h.ext, h.old, h.size, h.frame, h.new, h.glob, h.oo⟩

theorem Dyn.congr {g : Gh} {J : Io} {C C' : Nat → Option AO} {Wp Wp' : Nat → Prop} {w : World} (h : Dyn g J C Wp w) (hC : ∀ b, C' b = C b) (hW : ∀ b, Wp' b ↔ Wp b) : Dyn g J C' Wp' w := by
  have e : C' = C := funext hC
  have e2 : Wp' = Wp := funext fun b => propext (hW b)
  rw [e, e2]; exact h

theorem Dyn.of_heap {g : Gh} {J : Io} {C : Nat → Option AO} {Wp : Nat → Prop} {w w' : World} (h : Dyn g J C Wp w) (e : w'.heap = w.heap) (ho : SameO w w' := by exact ⟨rfl, rfl⟩) : Dyn g J C Wp w' :=
  ⟨h.inj, fun b p hp => by rw [e]; exact h.lt b p hp, fun b o ho => by rw [e]; exact h.objs b o ho, h.ext, h.old, by rw [e]; exact h.size, fun x hx hb => by rw [e]; exact h.frame x hx hb, h.new, h.glob, h.oo.trans ho⟩

/-- what stands for what, behind an operation -/
def Io.join (J J' : Io) (lo hi : Nat) (fl : Nat → Option Nat) : Io := { blk := fun b => if lo ≤ b ∧ b < hi then J'.blk b else J.blk b, fl := fl }

theorem Dyn.merge {g gn : Gh} {J J' : Io} {C C' : Nat → Option AO} {Wp Wp' : Nat → Prop} {S : Nat → Prop} {w w' : World} {s1 : St} {fl : Nat → Option Nat} (hD : Dyn g J C Wp w) (hM : Mem gn J' S s1 w') (hw0 : gn.w0 = w)
    (hr : ∀ b p, gn.J0.blk b = some p → J.blk b = some p) (hfree : ∀ b, gn.base ≤ b → b < s1.nx → J.blk b = none) (hfl : ∀ r x, J'.fl r = some x → fl r = some x) (hfl2 : ∀ r x, J.fl r = some x → fl r = some x)
    (hC' : ∀ b, C' b = if b ∈ s1.W ∨ (gn.base ≤ b ∧ b < s1.nx) then s1.H.get b else C b) (hsc : ∀ b, b ∈ s1.W → C b ≠ none ∧ S b ∧ b < gn.base ∧ ∃ p, gn.J0.blk b = some p) (hCf : ∀ b, gn.base ≤ b → b < s1.nx → C b = none) (hS : ∀ b, gn.base ≤ b → S b)
    (hWp : ∀ b, Wp' b ↔ Wp b ∨ (b ∈ s1.W ∧ b < g.base)) (hbl : g.base ≤ gn.base) :
    Dyn g (J.join J' gn.base s1.nx fl) C' Wp' w' ∧ J.Le (J.join J' gn.base s1.nx fl) ∧ J'.Le (J.join J' gn.base s1.nx fl) := by
  have hin : ∀ b, gn.base ≤ b ∧ b < s1.nx → (J.join J' gn.base s1.nx fl).blk b = J'.blk b := fun b hb => if_pos hb
  have hout : ∀ b, ¬ (gn.base ≤ b ∧ b < s1.nx) → (J.join J' gn.base s1.nx fl).blk b = J.blk b := fun b hb => if_neg hb
  have hle : J.Le (J.join J' gn.base s1.nx fl) := ⟨fun b p hp => by
    by_cases hb : gn.base ≤ b ∧ b < s1.nx
    · rw [hfree b hb.1 hb.2] at hp; cases hp
    · rw [hout b hb]; exact hp, hfl2⟩
  have hle' : J'.Le (J.join J' gn.base s1.nx fl) := ⟨fun b p hp => by
    by_cases hb : gn.base ≤ b ∧ b < s1.nx
    · rw [hin b hb]; exact hp
    · rw [hout b hb]
      have h1 := hM.dom b p hp
      exact hr b p (hM.old b p (by omega) hp), hfl⟩
  have hsz : w.heap.size ≤ w'.heap.size := by have := hM.size; rw [hw0] at this; exact this
  -- an old one that was not written
  have hkeep : ∀ b o p, C b = some o → b ∉ s1.W → J.blk b = some p → w'.heap[p.blk]? = w.heap[p.blk]? := by
    intro b o p hb hW hp
    have hlt := hD.lt b p hp
    have := hM.frame p.blk (by rw [hw0]; exact hlt) fun c q hc hq e => by
      have := hD.inj c b q p (hsc c hc).1 (by rw [hb]; simp) (hr c q hq) hp e
      subst this
      exact hW hc
    rw [this, hw0]
  have hnot : ∀ b, C b ≠ none → ¬ (gn.base ≤ b ∧ b < s1.nx) := fun b hb h => hb (hCf b h.1 h.2)
  -- a place of one that was touched
  have htouch : ∀ b p, (b ∈ s1.W ∨ (gn.base ≤ b ∧ b < s1.nx)) → (J.join J' gn.base s1.nx fl).blk b = some p → J'.blk b = some p ∧ S b := by
    intro b p hb hp
    by_cases hr' : gn.base ≤ b ∧ b < s1.nx
    · rw [hin b hr'] at hp; exact ⟨hp, hS b hr'.1⟩
    · rcases hb with hb | hb
      · obtain ⟨k1, k2, k3, q, k4⟩ := hsc b hb
        rw [hout b hr', hr b q k4] at hp
        cases hp
        exact ⟨hM.ext.blk b p k4, k2⟩
      · exact absurd hb hr'
  -- a new place meets no old one
  have hmeet : ∀ b c p q, (b ∈ s1.W ∨ (gn.base ≤ b ∧ b < s1.nx)) → ¬ (c ∈ s1.W ∨ (gn.base ≤ c ∧ c < s1.nx)) → C' b ≠ none → C' c ≠ none → (J.join J' gn.base s1.nx fl).blk b = some p → (J.join J' gn.base s1.nx fl).blk c = some q → p.blk ≠ q.blk := by
    intro b c p q hb hc h1 h2 e1 e2 e
    rw [hC', if_neg hc] at h2
    have hq : J.blk c = some q := by rw [hout c (fun h => hc (.inr h))] at e2; exact e2
    obtain ⟨hp', hSb⟩ := htouch b p hb e1
    by_cases hfr : gn.base ≤ b ∧ b < s1.nx
    · rcases hM.new b p hfr.1 hp' with h | ⟨d, qd, d1, d2, d3⟩
      · rw [hw0] at h
        have := hD.lt c q hq
        omega
      · have := hD.inj d c qd q (hsc d d1).1 h2 (hr d qd d2) hq (d3.trans e)
        subst this
        exact hc (.inl d1)
    · rcases hb with hb | hb
      · obtain ⟨k1, k2, k3, qb, k4⟩ := hsc b hb
        have hpb : J.blk b = some p := by rw [hout b hfr] at e1; exact e1
        have := hD.inj b c p q k1 h2 hpb hq e
        subst this
        exact hc (.inl hb)
      · exact absurd hb hfr
  refine ⟨⟨?_, ?_, ?_, hD.ext.trans hle, ?_, Nat.le_trans hD.size hsz, ?_, ?_, ?_, hD.oo.trans (by have := hM.oo; rw [hw0] at this; exact this)⟩, hle, hle'⟩
  · intro b c p q h1 h2 e1 e2 e
    by_cases hb : b ∈ s1.W ∨ (gn.base ≤ b ∧ b < s1.nx)
    · by_cases hc : c ∈ s1.W ∨ (gn.base ≤ c ∧ c < s1.nx)
      · obtain ⟨x1, x2⟩ := htouch b p hb e1
        obtain ⟨y1, y2⟩ := htouch c q hc e2
        rw [hC', if_pos hb] at h1
        rw [hC', if_pos hc] at h2
        exact hM.inj b c p q x2 y2 h1 h2 x1 y1 e
      · exact absurd e (hmeet b c p q hb hc h1 h2 e1 e2)
    · by_cases hc : c ∈ s1.W ∨ (gn.base ≤ c ∧ c < s1.nx)
      · exact absurd e.symm (hmeet c b q p hc hb h2 h1 e2 e1)
      · rw [hC', if_neg hb] at h1
        rw [hC', if_neg hc] at h2
        rw [hout b (fun h => hb (.inr h))] at e1
        rw [hout c (fun h => hc (.inr h))] at e2
        exact hD.inj b c p q h1 h2 e1 e2 e
  · intro b p hp
    by_cases hb : gn.base ≤ b ∧ b < s1.nx
    · rw [hin b hb] at hp; exact hM.lt b p hp
    · rw [hout b hb] at hp; have := hD.lt b p hp; omega
  · intro b o ho
    by_cases hb : b ∈ s1.W ∨ (gn.base ≤ b ∧ b < s1.nx)
    · rw [hC', if_pos hb] at ho
      have hSb : S b := hb.elim (fun h => (hsc b h).2.1) fun h => hS b h.1
      obtain ⟨p, o', h1, h2, h3⟩ := hM.objs b o hSb ho
      exact ⟨p, o', hle'.blk b p h1, h2, h3.mono hle'⟩
    · rw [hC', if_neg hb] at ho
      obtain ⟨p, o', h1, h2, h3⟩ := hD.objs b o ho
      exact ⟨p, o', hle.blk b p h1, by rw [hkeep b o p ho (fun h => hb (.inl h)) h1]; exact h2, h3.mono hle⟩
  · intro b p hb hp
    rw [hout b (by omega)] at hp
    exact hD.old b p hb hp
  · intro x hx hc
    have hxw : x < w.heap.size := Nat.lt_of_lt_of_le hx hD.size
    have h1 := hM.frame x (by rw [hw0]; exact hxw) fun c q c1 c2 e => by
      have hJ := hr c q c2
      by_cases hcb : c < g.base
      · exact hc c q ((hWp c).2 (.inr ⟨c1, hcb⟩)) (hD.old c q hcb hJ) e
      · rcases hD.new c q (by omega) hJ with h | ⟨d, qd, d1, d2, d3⟩
        · omega
        · exact hc d qd ((hWp d).2 (.inl d1)) d2 (d3.trans e)
    rw [h1, hw0]
    exact hD.frame x hx fun b p hb => hc b p ((hWp b).2 (.inl hb))
  · intro b p hb hp
    by_cases hbr : gn.base ≤ b ∧ b < s1.nx
    · rw [hin b hbr] at hp
      rcases hM.new b p hbr.1 hp with h | ⟨d, qd, d1, d2, d3⟩
      · rw [hw0] at h
        exact .inl (Nat.le_trans hD.size h)
      · have hJ := hr d qd d2
        by_cases hdb : d < g.base
        · exact .inr ⟨d, qd, (hWp d).2 (.inr ⟨d1, hdb⟩), hD.old d qd hdb hJ, d3⟩
        · rcases hD.new d qd (by omega) hJ with h | ⟨d', q', e1, e2, e3⟩
          · rw [d3] at h; exact .inl h
          · exact .inr ⟨d', q', (hWp d').2 (.inl e1), e2, e3.trans d3⟩
    · rw [hout b hbr] at hp
      rcases hD.new b p hb hp with h | ⟨d, qd, d1, d2, d3⟩
      · exact .inl h
      · exact .inr ⟨d, qd, (hWp d).2 (.inl d1), d2, d3⟩
  · intro i hi
    obtain ⟨p, h1, h2, h3⟩ := hD.glob i hi
    exact ⟨p, hle.blk i p h1, h2, h3⟩

theorem dag_join {nv : Nat} {f : Nat → Option Nat} {D : List FN} (h : DagOk nv f D) : ∀ (D' : List FN), DagOk D.length f D' → D <:+ D' → nv ≤ D.length → DagOk nv f D'
  | D', h', hs, hn => by
    rcases h' with _ | ⟨n, D2, k1, k2, k3⟩
    · exact .nil
    · rcases List.suffix_cons_iff.1 hs with e | hs'
      · rw [← e]; exact h
      · have hl := hs'.length_le
        exact .cons n D2 k1 (fun _ => k2 hl) (dag_join h D2 k3 hs' hn)
termination_by D' => D'.length

/-- what a state says by itself -/
structure Sta (g : Gh) (J : Io) (s : St) : Prop where
  dom : ∀ b p, J.blk b = some p → b < s.nx
  top : ∀ b, s.nx ≤ b → s.H.get b = none
  nd : s.nd = s.D.length
  dag : DagOk g.D0.length J.fl s.D
  suf : g.D0 <:+ s.D
  flr : ∀ r x, J.fl r = some x → SYM ≤ r ∧ r < SYM + s.nd ∧ x < 2 ^ 64 ∧ Fl.canon x = x
  keep : ∀ b, b < g.base → b ∉ s.W → s.H.get b = g.H0.get b
  was : ∀ b, b ∈ s.W → b < g.base ∧ g.H0.get b ≠ none
  bnx : g.base ≤ s.nx
  nxs : s.nx ≤ 1000000000

theorem Dyn.mem {g : Gh} {J : Io} {s : St} {w : World} (h : Dyn g J (fun b => s.H.get b) (fun b => b ∈ s.W) w) (k : Sta g J s) : Mem g J All s w :=
  ⟨fun b c p q _ _ => h.inj b c p q, h.lt, k.dom, fun b o _ => h.objs b o, k.top, k.nd, k.dag, k.suf, k.flr, h.ext, h.old, h.size, h.frame, h.new, k.keep, fun b hb => ⟨(k.was b hb).1, (k.was b hb).2, trivial⟩, k.bnx, k.nxs, h.glob, h.oo⟩

/-! ### Hiding -/
theorem hideRange_get (lo : Nat) : ∀ (n : Nat) (h : Tr AO) (b : Nat), lo + n ≤ 2000000000 → (hideRange lo n h).get b = if lo ≤ b ∧ b < lo + n then none else h.get b
  | 0, h, b, _ => by simp [hideRange]; intro h1 h2; omega
  | n + 1, h, b, hb => by
    simp only [hideRange]
    rw [hideRange_get lo n _ b (by omega), Tr.get_set 40 h (lo + n) none b (by omega)]
    by_cases e : b = lo + n
    · subst e
      rw [if_neg (by omega), if_pos rfl, if_pos (by omega)]
    · by_cases e2 : lo ≤ b ∧ b < lo + n
      · rw [if_pos e2, if_pos (by omega)]
      · rw [if_neg e2, if_neg e, if_neg (by omega)]

theorem hideList_get : ∀ (l : List Nat) (h : Tr AO) (b : Nat), (∀ x ∈ l, x ≤ 2000000000) → (hideList l h).get b = if b ∈ l then none else h.get b
  | [], h, b, _ => by simp [hideList]
  | x :: l, h, b, hb => by
    simp only [hideList]
    rw [hideList_get l _ b (fun y hy => hb y (by simp [hy])), Tr.get_set 40 h x none b (by have := hb x (by simp); omega)]
    by_cases e : b ∈ l
    · rw [if_pos e, if_pos (by simp [e])]
    · by_cases e2 : b = x
      · rw [if_neg e, if_pos e2, if_pos (by simp [e2])]
      · rw [if_neg e, if_neg e2, if_neg (by simp [e, e2])]

theorem showRange_get (H : Tr AO) (lo : Nat) : ∀ (n : Nat) (h : Tr AO) (b : Nat), lo + n ≤ 2000000000 → (showRange H lo n h).get b = if lo ≤ b ∧ b < lo + n then H.get b else h.get b
  | 0, h, b, _ => by simp [showRange]; intro h1 h2; omega
  | n + 1, h, b, hb => by
    simp only [showRange]
    rw [showRange_get H lo n _ b (by omega), Tr.get_set 40 h (lo + n) _ b (by omega)]
    by_cases e : b = lo + n
    · subst e
      rw [if_neg (by omega), if_pos rfl, if_pos (by omega)]
    · by_cases e2 : lo ≤ b ∧ b < lo + n
      · rw [if_pos e2, if_pos (by omega)]
      · rw [if_neg e2, if_neg e, if_neg (by omega)]

theorem showList_get (H : Tr AO) : ∀ (l : List Nat) (h : Tr AO) (b : Nat), (∀ x ∈ l, x ≤ 2000000000) → (showList H l h).get b = if b ∈ l then H.get b else h.get b
  | [], h, b, _ => by simp [showList]
  | x :: l, h, b, hb => by
    simp only [showList]
    rw [showList_get H l _ b (fun y hy => hb y (by simp [hy])), Tr.get_set 40 h x _ b (by have := hb x (by simp); omega)]
    by_cases e : b ∈ l
    · rw [if_pos e, if_pos (by simp [e])]
    · by_cases e2 : b = x
      · subst e2; rw [if_neg e, if_pos rfl, if_pos (by simp)]
      · rw [if_neg e, if_neg e2, if_neg (by simp [e, e2])]

theorem has_iff (d : Did) (b : Nat) : d.has b = true ↔ b ∈ d.W ∨ (d.lo ≤ b ∧ b < d.hi) := by
  unfold Did.has
  cases h : mem d.W b with
  | true => simp [(mem_eq d.W b).1 h]
  | false =>
    have : b ∉ d.W := fun hb => by rw [(mem_eq d.W b).2 hb] at h; cases h
    simp only [cond_false, this, false_or]
    cases h2 : Nat.ble d.lo b with
    | false => have := nble_false h2; simp; omega
    | true =>
      have h3 := nble_true h2
      simp only [cond_true]
      constructor
      · intro h4; exact ⟨h3, nblt_true h4⟩
      · intro h4; exact Nat.ble_eq_true_of_le h4.2

theorem hide_get : ∀ (un : List Did) (h : Tr AO) (b : Nat), (∀ d ∈ un, d.lo ≤ d.hi ∧ d.hi ≤ 1000000000 ∧ ∀ x ∈ d.W, x ≤ 1000000000) → (hide un h).get b = if un.any (fun d => d.has b) then none else h.get b
  | [], h, b, _ => by simp [hide]
  | d :: un, h, b, hb => by
    simp only [hide]
    obtain ⟨h1, h2, h3⟩ := hb d (by simp)
    rw [hide_get un _ b (fun x hx => hb x (by simp [hx])), hideList_get _ _ _ (fun x hx => by have := h3 x hx; omega), hideRange_get _ _ _ _ (by omega)]
    rw [List.any_cons]
    have hh := has_iff d b
    by_cases e : un.any (fun d => d.has b) = true
    · have hany : (d.has b || un.any fun d => d.has b) = true := by rw [e]; simp
      rw [if_pos e, if_pos hany]
    · rw [if_neg e]
      by_cases e2 : d.has b = true
      · have hany : (d.has b || un.any fun d => d.has b) = true := by rw [e2]; rfl
        rw [if_pos hany]
        rcases hh.1 e2 with k | k
        · rw [if_pos k]
        · by_cases k2 : b ∈ d.W
          · rw [if_pos k2]
          · rw [if_neg k2, if_pos (by omega)]
      · have hn : ¬ (b ∈ d.W ∨ (d.lo ≤ b ∧ b < d.hi)) := fun k => e2 (hh.2 k)
        have hany : ¬ (d.has b || un.any fun d => d.has b) = true := by simp only [Bool.or_eq_true]; exact fun k => k.elim e2 e
        rw [if_neg hany, if_neg (fun k => hn (.inl k)), if_neg (fun k => hn (.inr (by omega)))]

theorem unhide_get (H : Tr AO) : ∀ (un : List Did) (h : Tr AO) (b : Nat), (∀ d ∈ un, d.lo ≤ d.hi ∧ d.hi ≤ 1000000000 ∧ ∀ x ∈ d.W, x ≤ 1000000000) → (unhide H un h).get b = if un.any (fun d => d.has b) then H.get b else h.get b
  | [], h, b, _ => by simp [unhide]
  | d :: un, h, b, hb => by
    simp only [unhide]
    obtain ⟨h1, h2, h3⟩ := hb d (by simp)
    rw [unhide_get H un _ b (fun x hx => hb x (by simp [hx])), showList_get _ _ _ _ (fun x hx => by have := h3 x hx; omega), showRange_get _ _ _ _ _ (by omega)]
    rw [List.any_cons]
    have hh := has_iff d b
    by_cases e : un.any (fun d => d.has b) = true
    · have hany : (d.has b || un.any fun d => d.has b) = true := by rw [e]; simp
      rw [if_pos e, if_pos hany]
    · rw [if_neg e]
      by_cases e2 : d.has b = true
      · have hany : (d.has b || un.any fun d => d.has b) = true := by rw [e2]; rfl
        rw [if_pos hany]
        rcases hh.1 e2 with k | k
        · rw [if_pos k]
        · by_cases k2 : b ∈ d.W
          · rw [if_pos k2]
          · rw [if_neg k2, if_pos (by omega)]
      · have hn : ¬ (b ∈ d.W ∨ (d.lo ≤ b ∧ b < d.hi)) := fun k => e2 (hh.2 k)
        have hany : ¬ (d.has b || un.any fun d => d.has b) = true := by simp only [Bool.or_eq_true]; exact fun k => k.elim e2 e
        rw [if_neg hany, if_neg (fun k => hn (.inl k)), if_neg (fun k => hn (.inr (by omega)))]
end Go.AM
namespace Go.AM
open Go Go.Proofs.YtdflbipaicpdcaaGreatDoor
variable {P : Program}

theorem Io.on_self (J : Io) : J.on J = J := by
  have : (fun b => if (J.blk b).isSome then J.blk b else none) = J.blk := by
    funext b
    cases h : J.blk b with
    | none => simp
    | some p => simp
  unfold Io.on
  rw [this]

theorem DagOk.nv {nv nv' : Nat} {f : Nat → Option Nat} {D : List FN} (h : DagOk nv f D) (hn : nv ≤ nv') : DagOk nv' f D := by
  induction h with
  | nil => exact .nil
  | cons n D hn' hv _ ih => exact .cons n D hn' (fun k => hv (by omega)) ih

theorem forOp_spec (s : St) (H : Tr AO) : (forOp s H).T = s.T ∧ (forOp s H).H = H ∧ (forOp s H).nx = s.nx ∧ (forOp s H).W = [] ∧ (forOp s H).D = s.D ∧ (forOp s H).nd = s.nd ∧ (forOp s H).df = s.df := by
  obtain ⟨T, H', nx, W, D, nd, df⟩ := s
  exact ⟨rfl, rfl, rfl, rfl, rfl, rfl, rfl⟩

theorem fromOp_spec (base : Nat) (s : St) (H : Tr AO) (W : List Nat) : (fromOp base s H W).T = s.T ∧ (fromOp base s H W).H = H ∧ (fromOp base s H W).nx = s.nx ∧ (fromOp base s H W).W = joinW base s.W W ∧ (fromOp base s H W).D = s.D ∧ (fromOp base s H W).nd = s.nd ∧ (fromOp base s H W).df = s.df := by
  obtain ⟨T, H', nx, W', D, nd, df⟩ := s
  exact ⟨rfl, rfl, rfl, rfl, rfl, rfl, rfl⟩

theorem joinW_mem {base x : Nat} : ∀ (l W : List Nat), x ∈ joinW base l W ↔ x ∈ W ∨ (x ∈ l ∧ x < base)
  | [], W => by simp [joinW]
  | b :: l, W => by
    simp only [joinW]
    rw [joinW_mem l, note_mem]
    constructor
    · rintro ((h | ⟨rfl, h⟩) | ⟨h1, h2⟩)
      · exact .inl h
      · exact .inr ⟨by simp, h⟩
      · exact .inr ⟨by simp [h1], h2⟩
    · rintro (h | ⟨h1, h2⟩)
      · exact .inl (.inl h)
      · rcases List.mem_cons.1 h1 with rfl | h1
        · exact .inl (.inr ⟨rfl, h2⟩)
        · exact .inr ⟨h1, h2⟩

theorem touches_forOp (s : St) (H : Tr AO) (o : Oper) : touches (forOp s H) o = touches s o := by
  obtain ⟨T, H', nx, W, D, nd, df⟩ := s
  rfl

theorem ev_forOp (s : St) (H : Tr AO) (x : Operand) : ev (forOp s H) x = ev s x := by
  obtain ⟨T, H', nx, W, D, nd, df⟩ := s
  rfl

/-- what an operation may look at -/
def StepD.sc (t : StepD) : Nat → Prop := if t.cl then All else fun b => b ∈ t.tc ∨ t.G.nx ≤ b

theorem opMem {g : Gh} {Jc J : Io} {G : St} {wc w : World} {S : Nat → Prop} {V : Tr AO} (hc : Mem g Jc All G wc) (hV : ∀ b o, V.get b = some o → G.H.get b = some o)
    (inj : ∀ b c p q, S b → S c → V.get b ≠ none → V.get c ≠ none → J.blk b = some p → J.blk c = some q → p.blk = q.blk → b = c) (lt : ∀ b p, J.blk b = some p → p.blk < w.heap.size)
    (objs : ∀ b o, S b → V.get b = some o → ∃ p o', J.blk b = some p ∧ w.heap[p.blk]? = some o' ∧ ObjDen J p o o') (hf : ∀ r x, Jc.fl r = some x → J.fl r = some x) (glob : ∀ i, i < 4 → ∃ p, J.blk i = some p ∧ p.blk = i ∧ p.off = 0) :
    Mem ⟨w, J.on Jc, G.nx, V, G.D⟩ (J.on Jc) S (forOp G V) w := by
  have hon : ∀ b p, (J.on Jc).blk b = some p → J.blk b = some p ∧ b < G.nx := by
    intro b p hp
    simp only [Io.on] at hp
    cases h : Jc.blk b with
    | none => rw [h] at hp; simp at hp
    | some q => rw [h] at hp; exact ⟨by simpa using hp, hc.dom b q h⟩
  obtain ⟨e1, e2, e3, e4, e5, e6, e7⟩ := forOp_spec G V
  constructor
  · intro b c p q h1 h2 h3 h4 h5 h6; rw [e2] at h3 h4; exact inj b c p q h1 h2 h3 h4 (hon b p h5).1 (hon c q h6).1
  · intro b p hp; exact lt b p (hon b p hp).1
  · intro b p hp; rw [e3]; exact (hon b p hp).2
  · intro b o hS ho
    rw [e2] at ho
    obtain ⟨p, o', h1, h2, h3⟩ := objs b o hS ho
    obtain ⟨pc, oc, k1, k2, k3⟩ := hc.objs b o trivial (hV b o ho)
    exact ⟨p, o', Io.on_blk h1 k1, h2, h3.on hf k3⟩
  · intro b hb
    rw [e3] at hb; rw [e2]
    cases h : V.get b with
    | none => rfl
    | some o => have := hV b o h; rw [hc.top b hb] at this; cases this
  · rw [e6, e5]; exact hc.nd
  · rw [e5]; exact hc.dag.nv hc.suf.length_le
  · rw [e5]; exact List.suffix_refl _
  · rw [e6]; exact hc.flr
  · exact .refl _
  · intro b p _ hp; exact hp
  · exact Nat.le_refl _
  · intro x _ _; rfl
  · intro b p hb hp; exact absurd (hon b p hp).2 (by simp only at hb; omega)
  · intro b _ _; rw [e2]
  · intro b hb; rw [e4] at hb; simp at hb
  · rw [e3]; exact Nat.le_refl _
  · rw [e3]; exact hc.nxs
  · intro i hi
    obtain ⟨p, h1, h2, h3⟩ := glob i hi
    obtain ⟨q, k1, _, _⟩ := hc.glob i hi
    exact ⟨p, Io.on_blk h1 k1, h2, h3⟩
  · exact .refl _

/-- what is so of a step -/
structure Facts (E : En) (o : Oper) (t : StepD) (G' : St) : Prop where
  hit : ∀ b ∈ t.s1.W, b < t.G.nx ∧ t.V.get b ≠ none ∧ t.sc b
  sub : ∀ b x, t.V.get b = some x → t.G.H.get b = some x
  top : ∀ b, t.G.nx ≤ b → t.G.H.get b = none
  le : t.G.nx ≤ t.s1.nx
  lim : t.s1.nx ≤ 1000000000
  heap : ∀ b, G'.H.get b = if b ∈ t.s1.W ∨ (t.G.nx ≤ b ∧ b < t.s1.nx) then t.s1.H.get b else t.G.H.get b
  nx : G'.nx = t.s1.nx
  T : t.s1.T = t.G.T
  df : G'.df = t.G.df
  D : G'.D = t.s1.D
  nd : G'.nd = t.s1.nd
  W : ∀ b, b ∈ G'.W ↔ b ∈ t.G.W ∨ (b ∈ t.s1.W ∧ b < E.base)
  dst : match o.dst with
    | none => G'.T = t.G.T
    | some d => d < E.nt ∧ G'.T = t.G.T.set 16 d (some t.v)

theorem evOp_ok {plug : Plug} {rec : Rec} {E : En} {s : St} {o : Oper} {x : Value × St} (h : evOp P plug rec E s o = some x) : ∀ y ∈ o.op.operands, okx y = true := by
  unfold evOp at h
  cases hok : opOk o with
  | false => rw [hok] at h; simp at h
  | true =>
    intro y hy
    exact List.all_eq_true.1 hok y (by simpa using hy)

section
variable {plug : Plug} {rec : Rec} {g : Gh} {E : En} {ops : List Oper} {an : List Nat} {o : Oper} {n : Nat} {t : StepD} {G' : St} {ds' : List Did}

/-- what an operation sees -/
theorem Local.sees (hl : Local P plug rec E ops an o n t G' ds') (hw : t.wd = true) (hds : ∀ d ∈ t.ds, d.lo ≤ d.hi ∧ d.hi ≤ t.G.nx ∧ ∀ x ∈ d.W, x < t.G.nx) (hlim : t.G.nx ≤ 1000000000) (b : Nat) :
    t.V.get b = if t.cl = true ∧ (unordered ((nth an n).getD 0) t.ds).any (fun d => d.has b) = true then none else t.G.H.get b := by
  have hun : ∀ d ∈ unordered ((nth an n).getD 0) t.ds, d.lo ≤ d.hi ∧ d.hi ≤ 1000000000 ∧ ∀ x ∈ d.W, x ≤ 1000000000 := fun d hd => by
    obtain ⟨h1, h2, h3⟩ := hds d (List.mem_filter.1 hd).1
    exact ⟨h1, by omega, fun x hx => by have := h3 x hx; omega⟩
  cases hc : t.cl with
  | false => rw [if_neg (by simp), (hl.light hw hc).1]
  | true =>
    rw [(hl.call hw hc).1, hide_get _ _ _ hun]
    by_cases h : (unordered ((nth an n).getD 0) t.ds).any (fun d => d.has b) = true
    · rw [if_pos h, if_pos ⟨rfl, h⟩]
    · rw [if_neg h, if_neg fun k => h k.2]

theorem Local.goes (hG : Goes P rec) (hP : Enters P) (hplug : PlugOk P plug) (hl : Local P plug rec E ops an o n t G' ds') (hw : t.wd = true) (hk : lightKind o = true) (hds : ∀ d ∈ t.ds, d.lo ≤ d.hi ∧ d.hi ≤ t.G.nx ∧ ∀ x ∈ d.W, x < t.G.nx)
    {Jc J : Io} {wc w : World} {a : Act} {r : Option Nat} (hc : Mem g Jc All t.G wc) 
    (inj : ∀ b c p q, t.sc b → t.sc c → t.V.get b ≠ none → t.V.get c ≠ none → J.blk b = some p → J.blk c = some q → p.blk = q.blk → b = c) (lt : ∀ b p, J.blk b = some p → p.blk < w.heap.size)
    (objs : ∀ b o, t.sc b → t.V.get b = some o → ∃ p o', J.blk b = some p ∧ w.heap[p.blk]? = some o' ∧ ObjDen J p o o') (hf : ∀ r x, Jc.fl r = some x → J.fl r = some x) (glob : ∀ i, i < 4 → ∃ p, J.blk i = some p ∧ p.blk = i ∧ p.off = 0)
    (hd : ∀ x ∈ o.op.operands, okx x = true → Den (J.on Jc) (AM.ev t.G x) (a.eval x)) :
    OpGoes P r o a w (LeftD ⟨w, J.on Jc, t.G.nx, t.V, t.G.D⟩ (J.on Jc) t.sc t.s1 t.v a) ∧ t.s1.T = t.G.T ∧ t.s1.df = t.G.df := by
  have hV : ∀ b x, t.V.get b = some x → t.G.H.get b = some x := fun b x hx => by
    rw [hl.sees hw hds hc.nxs] at hx
    by_cases h : t.cl = true ∧ (unordered ((nth an n).getD 0) t.ds).any (fun d => d.has b) = true
    · rw [if_pos h] at hx; cases hx
    · rw [if_neg h] at hx; exact hx
  have hmem := opMem hc hV inj lt objs hf glob
  have hev := hl.ev hw
  have hok := evOp_ok hev
  have := evOpD_sound (r := r) hG hP hplug rfl hk hev hmem (a := a) (fun x hx => by rw [ev_forOp]; exact hd x hx (hok x hx)) (by
    cases hc : t.cl with
    | true => exact .inl ⟨by rw [← hl.cl, hc], by unfold StepD.sc; rw [hc]; rfl⟩
    | false =>
      refine .inr ⟨by rw [← hl.cl, hc], fun b hb => ?_⟩
      unfold StepD.sc
      rw [hc]
      rw [touches_forOp] at hb
      exact .inl (by rw [(hl.light hw hc).2.1]; exact hb))
  obtain ⟨e1, e2, e3, e4, e5, e6, e7⟩ := forOp_spec t.G t.V
  rw [e1, e7] at this
  exact this

theorem Local.facts (hl : Local P plug rec E ops an o n t G' ds') (hw : t.wd = true) (hds : ∀ d ∈ t.ds, d.lo ≤ d.hi ∧ d.hi ≤ t.G.nx ∧ ∀ x ∈ d.W, x < t.G.nx) {Jc : Io} {wc : World} (hc : Mem g Jc All t.G wc) 
    {g' : Gh} {J' : Io} {w' : World} (hb' : g'.base = t.G.nx) (hH' : g'.H0 = t.V) (hM : Mem g' J' t.sc t.s1 w') (hT : t.s1.T = t.G.T) (hdf : t.s1.df = t.G.df) : Facts E o t G' := by
  have hsees := hl.sees hw hds hc.nxs
  have hnext := hl.next hw
  obtain ⟨p1, p2, p3, p4, p5, p6, p7⟩ := put_spec hnext
  obtain ⟨f1, f2, f3, f4, f5, f6, f7⟩ := fromOp_spec E.base t.s1 (if t.cl then unhide t.G.H (unordered ((nth an n).getD 0) t.ds) t.s1.H else t.s1.H) t.G.W
  rw [f2] at p1
  rw [f3] at p2
  rw [f4] at p3
  rw [f5] at p4
  rw [f6] at p5
  rw [f7] at p6
  rw [f1, hT] at p7
  have hun : ∀ d ∈ unordered ((nth an n).getD 0) t.ds, d.lo ≤ d.hi ∧ d.hi ≤ 1000000000 ∧ ∀ x ∈ d.W, x ≤ 1000000000 := fun d hd => by
    obtain ⟨h1, h2, h3⟩ := hds d (List.mem_filter.1 hd).1
    have := hc.nxs
    exact ⟨h1, by omega, fun x hx => by have := h3 x hx; omega⟩
  have hitx : ∀ b ∈ t.s1.W, b < t.G.nx ∧ t.V.get b ≠ none ∧ t.sc b := fun b hb => by
    obtain ⟨k1, k2, k3⟩ := hM.was b hb
    rw [hb'] at k1; rw [hH'] at k2
    exact ⟨k1, k2, k3⟩
  have hle : t.G.nx ≤ t.s1.nx := by have := hM.bnx; rw [hb'] at this; exact this
  have hold : ∀ b, b ∉ t.s1.W → ¬ (t.G.nx ≤ b ∧ b < t.s1.nx) → t.s1.H.get b = t.V.get b := fun b h1 h2 => by
    rcases Nat.lt_or_ge b t.G.nx with h | h
    · rw [hM.keep b (by rw [hb']; exact h) h1, hH']
    · rw [hM.top b (by omega), hsees]
      split
      · rfl
      · rw [hc.top b h]
  refine ⟨hitx, ?_, hc.top, hle, hM.nxs, ?_, p2, hT, p6.trans hdf, p4, p5, fun b => by rw [p3]; exact joinW_mem _ _, ?_⟩
  rotate_left 2
  · clear hl
    revert p7 hnext
    cases o.dst with
    | none => exact fun _ h => h
    | some d => exact fun _ h => h
  · intro b x hx
    rw [hsees] at hx
    split at hx
    · cases hx
    · exact hx
  · intro b
    rw [p1]
    cases hcl : t.cl with
    | false =>
      rw [if_neg (by simp)]
      by_cases h : b ∈ t.s1.W ∨ (t.G.nx ≤ b ∧ b < t.s1.nx)
      · rw [if_pos h]
      · rw [if_neg h, hold b (fun k => h (.inl k)) (fun k => h (.inr k)), (hl.light hw hcl).1]
    | true =>
      rw [if_pos rfl, unhide_get _ _ _ _ hun]
      by_cases hany : (unordered ((nth an n).getD 0) t.ds).any (fun d => d.has b) = true
      · rw [if_pos hany]
        have hVb : t.V.get b = none := by rw [hsees, if_pos ⟨hcl, hany⟩]
        obtain ⟨d, hd, hdb⟩ := List.any_eq_true.1 hany
        obtain ⟨k1, k2, k3⟩ := hds d (List.mem_filter.1 hd).1
        have hbn : b < t.G.nx := ((has_iff d b).1 hdb).elim (fun h => k3 b h) fun h => by omega
        rw [if_neg]
        rintro (h | h)
        · exact (hitx b h).2.1 hVb
        · omega
      · rw [if_neg hany]
        by_cases h : b ∈ t.s1.W ∨ (t.G.nx ≤ b ∧ b < t.s1.nx)
        · rw [if_pos h]
        · rw [if_neg h, hold b (fun k => h (.inl k)) (fun k => h (.inr k)), hsees, if_neg fun k => hany k.2]
end
end Go.AM
namespace Go.AM
open Go Go.Proofs.YtdflbipaicpdcaaGreatDoor
variable {P : Program}

/-- what is so of a step that is left out -/
structure Skips (E : En) (o : Oper) (t : StepD) (G' : St) : Prop where
  H : G'.H = t.G.H
  nx : G'.nx = t.G.nx
  W : G'.W = t.G.W
  D : G'.D = t.G.D
  nd : G'.nd = t.G.nd
  df : G'.df = t.G.df
  dst : match o.dst with
    | none => G'.T = t.G.T
    | some d => d < E.nt ∧ G'.T = t.G.T.set 16 d (some undef)

theorem Fra.put2 {J : Io} {E : En} {s s' : St} {a : Act} {dst : Option Tmp} {v u : Value} (ht : TmpsDen J E.nt s.T a.tmps) (hds : DefsDen J s'.df a.defers) (hb : E.nt ≤ 60000) (hT : match dst with
    | none => s'.T = s.T
    | some d => d < E.nt ∧ s'.T = s.T.set 16 d (some v)) (hd : Den J v u) : Fra J E s' (a.put dst u) := by
  cases dst with
  | none =>
    simp only at hT
    exact ⟨by rw [hT]; exact ht, hds⟩
  | some d =>
    simp only at hT
    exact ⟨by rw [hT.2]; exact ht.set hT.1 hb hd, hds⟩

section
variable {plug : Plug} {rec : Rec} {g : Gh} {E : En} {ops : List Oper} {an : List Nat} {o : Oper} {n : Nat} {t : StepD} {G' : St} {ds' : List Did}

theorem Local.skips (hl : Local P plug rec E ops an o n t G' ds') (hw : t.wd = false) : Skips E o t G' := by
  have hp := (hl.skip hw).1
  obtain ⟨p1, p2, p3, p4, p5, p6, p7⟩ := put_spec hp
  refine ⟨p1, p2, p3, p4, p5, p6, ?_⟩
  clear hl
  revert p7 hp
  cases o.dst with
  | none => exact fun _ h => h
  | some d => exact fun _ h => h

theorem Local.can (hG : Goes P rec) (hP : Enters P) (hplug : PlugOk P plug) (hl : Local P plug rec E ops an o n t G' ds') (hk : lightKind o = true) (hds : ∀ d ∈ t.ds, d.lo ≤ d.hi ∧ d.hi ≤ t.G.nx ∧ ∀ x ∈ d.W, x < t.G.nx)
    (hbase : g.base = E.base) (hnt : E.nt ≤ 60000) {J : Io} {w : World} {a : Act} (hM : Mem g J All t.G w) (hF : Fra J E t.G a) :
    ∃ J' w' a', J.Le J' ∧ Mem g J' All G' w' ∧ Fra J' E G' a' ∧ (t.wd = true → Facts E o t G' ∧ DagOk t.G.D.length J'.fl t.s1.D) := by
  cases hw : t.wd with
  | false =>
    have hs := hl.skips hw
    exact ⟨J, w, a.put o.dst undef, .refl _, hM.of_st hs.H hs.nx hs.W hs.D hs.nd, Fra.put2 hF.tmps (by rw [hs.df]; exact hF.dfs) hnt hs.dst (Den.und J), fun h => by cases h⟩
  | true =>
    have hV : ∀ b x, t.V.get b = some x → t.G.H.get b = some x := fun b x hx => by
      rw [hl.sees hw hds hM.nxs] at hx
      split at hx
      · cases hx
      · exact hx
    have hV' : ∀ b, t.V.get b ≠ none → t.G.H.get b ≠ none := fun b hb => by
      cases h : t.V.get b with
      | none => exact absurd h hb
      | some x => rw [hV b x h]; simp
    obtain ⟨hgo, hT, hdf⟩ := hl.goes (r := none) hG hP hplug hw hk hds hM (J := J) (w := w) (a := a) (fun b c p q _ _ h1 h2 => hM.inj b c p q trivial trivial (hV' b h1) (hV' c h2)) hM.lt (fun b o _ ho => hM.objs b o trivial (hV b o ho)) (fun _ _ h => h) hM.glob
      (fun x _ hx => by rw [Io.on_self]; exact Den.ev hF hM hx)
    rw [Io.on_self] at hgo
    obtain ⟨u, ds, w', rfl, J1, j1, j2, j3⟩ := hgo.ex
    have hf := hl.facts hw hds hM (g' := ⟨w, J, t.G.nx, t.V, t.G.D⟩) rfl rfl j2 hT hdf
    have hfree : ∀ b, t.G.nx ≤ b → J.blk b = none := fun b hb => by
      cases h : J.blk b with
      | none => rfl
      | some p => have := hM.dom b p h; omega
    obtain ⟨m1, m2, m3⟩ := Dyn.merge (C' := fun b => G'.H.get b) (Wp' := fun b => b ∈ G'.W) (fl := J1.fl) hM.dyn j2 rfl (fun b p h => h) (fun b h1 _ => hfree b h1) (fun _ _ h => h) j1.fl (fun b => hf.heap b)
      (fun b hb => by
        obtain ⟨k1, k2, k3⟩ := hf.hit b hb
        cases h : t.G.H.get b with
        | none => exact absurd h (hV' b k2)
        | some x =>
          obtain ⟨p, o', q1, q2, q3⟩ := hM.objs b x trivial h
          exact ⟨by simp, k3, k1, p, q1⟩)
      (fun b h1 _ => hM.top b h1)
      (fun b hb => by
        have hb : t.G.nx ≤ b := hb
        unfold StepD.sc
        cases t.cl with
        | true => trivial
        | false => exact .inr hb)
      (fun b => by rw [hf.W b, hbase]) hM.bnx
    have hdag : DagOk g.D0.length J1.fl t.s1.D := dag_join (hM.dag.mono j1.fl) t.s1.D j2.dag j2.suf hM.suf.length_le
    refine ⟨J.join J1 t.G.nx t.s1.nx J1.fl, w', a.put o.dst u, m2, m1.mem ?_, Fra.put2 (hF.tmps.mono m2) (by rw [hf.df]; exact hF.dfs.mono m2) hnt hf.dst (j3.mono m3), fun _ => ⟨hf, j2.dag⟩⟩
    constructor
    · intro b p hp
      rw [hf.nx]
      simp only [Io.join] at hp
      split at hp
      · rename_i h; exact h.2
      · have := hM.dom b p hp
        have := hf.le
        omega
    · intro b hb
      rw [hf.nx] at hb
      rw [hf.heap, if_neg, hM.top b (by have := hf.le; omega)]
      rintro (h | h)
      · have := (hf.hit b h).1; have := hf.le; omega
      · omega
    · rw [hf.nd, hf.D]; exact j2.nd
    · rw [hf.D]; exact hdag
    · rw [hf.D]; exact hM.suf.trans j2.suf
    · rw [hf.nd]; exact j2.flr
    · intro b hb hW
      rw [hf.W, hbase.symm] at hW
      rw [hf.heap, if_neg]
      · exact hM.keep b hb fun h => hW (.inl h)
      · rintro (h | h)
        · exact hW (.inr ⟨h, hb⟩)
        · have := hM.bnx; omega
    · intro b hb
      rcases (hf.W b).1 hb with h | ⟨h1, h2⟩
      · exact ⟨(hM.was b h).1, (hM.was b h).2.1⟩
      · rw [← hbase] at h2
        by_cases hin : b ∈ t.G.W
        · exact ⟨(hM.was b hin).1, (hM.was b hin).2.1⟩
        · refine ⟨h2, ?_⟩
          rw [← hM.keep b h2 hin]
          exact hV' b (hf.hit b h1).2.1
    · rw [hf.nx]; have := hM.bnx; have := hf.le; omega
    · rw [hf.nx]; exact hf.lim
end

/-- the machine's own order, in worlds -/
structure Run (P : Program) (plug : Plug) (rec : Rec) (g : Gh) (E : En) (ops : Array Oper) (st : Nat → StepD) (n : Nat) (Jc : Nat → Io) (wc : Nat → World) (ac : Nat → Act) : Prop where
  mem : ∀ i, i ≤ n → Mem g (Jc i) All (st i).G (wc i)
  fra : ∀ i, i ≤ n → Fra (Jc i) E (st i).G (ac i)
  le : ∀ i, i < n → (Jc i).Le (Jc (i + 1))
  facts : ∀ i o, i < n → ops[i]? = some o → (st i).wd = true → Facts E o (st i) (st (i + 1)).G ∧ DagOk (st i).G.D.length (Jc (i + 1)).fl (st i).s1.D
  skips : ∀ i o, i < n → ops[i]? = some o → (st i).wd = false → Skips E o (st i) (st (i + 1)).G

section
variable {plug : Plug} {rec : Rec} {g : Gh} {E : En} {ops : Array Oper} {st : Nat → StepD} {n : Nat} {Jc : Nat → Io} {wc : Nat → World} {ac : Nat → Act}

theorem Run.grow (h : Run P plug rec g E ops st n Jc wc ac) (hn : n ≤ ops.size) : ∀ i, i < n → (st i).G.nx ≤ (st (i + 1)).G.nx := by
  intro i hi
  obtain ⟨o, ho⟩ : ∃ o, ops[i]? = some o := ⟨_, Array.getElem?_eq_getElem (by omega)⟩
  cases hw : (st i).wd with
  | false => rw [(h.skips i o hi ho hw).nx]; exact Nat.le_refl _
  | true => have := (h.facts i o hi ho hw).1; rw [this.nx]; exact this.le

theorem Run.grows (h : Run P plug rec g E ops st n Jc wc ac) (hn : n ≤ ops.size) (i : Nat) : ∀ j, i ≤ j → j ≤ n → (st i).G.nx ≤ (st j).G.nx := by
  intro j
  induction j with
  | zero => intro hij _; obtain rfl : i = 0 := by omega
            exact Nat.le_refl _
  | succ j ih =>
    intro hij hj
    rcases Nat.lt_or_ge j i with h' | h'
    · obtain rfl : i = j + 1 := by omega
      exact Nat.le_refl _
    · exact Nat.le_trans (ih h' (by omega)) (h.grow hn j (by omega))

theorem Run.les (h : Run P plug rec g E ops st n Jc wc ac) (i : Nat) : ∀ j, i ≤ j → j ≤ n → (Jc i).Le (Jc j) := by
  intro j
  induction j with
  | zero => intro hij _; obtain rfl : i = 0 := by omega
            exact .refl _
  | succ j ih =>
    intro hij hj
    rcases Nat.lt_or_ge j i with h' | h'
    · obtain rfl : i = j + 1 := by omega
      exact .refl _
    · exact (ih h' (by omega)).trans (h.le j (by omega))

theorem Run.noted (h : Run P plug rec g E ops st n Jc wc ac) (hn : n ≤ ops.size) (hds : ∀ d ∈ (st n).ds, ∃ i, i < n ∧ (st i).wd = true ∧ d = (st i).did i) : ∀ d ∈ (st n).ds, d.lo ≤ d.hi ∧ d.hi ≤ (st n).G.nx ∧ ∀ x ∈ d.W, x < (st n).G.nx := by
  intro d hd
  obtain ⟨i, hi, hw, rfl⟩ := hds d hd
  obtain ⟨o, ho⟩ : ∃ o, ops[i]? = some o := ⟨_, Array.getElem?_eq_getElem (by omega)⟩
  have hf := (h.facts i o hi ho hw).1
  have h1 := h.grows hn (i + 1) n (by omega) (Nat.le_refl _)
  rw [hf.nx] at h1
  have := hf.le
  exact ⟨hf.le, h1, fun x hx => by have := (hf.hit x hx).1; omega⟩

theorem run_exists (hG : Goes P rec) (hP : Enters P) (hplug : PlugOk P plug) (hbase : g.base = E.base) (hnt : E.nt ≤ 60000) {an : List Nat} (hk : ∀ (i : Nat) (o : Oper), ops[i]? = some o → lightKind o = true) (h0 : (st 0).ds = [])
    (hl : ∀ (i : Nat) (o : Oper), ops[i]? = some o → Local P plug rec E ops.toList an o i (st i) (st (i + 1)).G (st (i + 1)).ds) {J : Io} {w : World} {a : Act} (hM : Mem g J All (st 0).G w) (hF : Fra J E (st 0).G a) :
    ∀ n, n ≤ ops.size → ∃ Jc wc ac, Jc 0 = J ∧ Run P plug rec g E ops st n Jc wc ac
  | 0, _ => ⟨fun _ => J, fun _ => w, fun _ => a, rfl, fun i hi => by obtain rfl : i = 0 := by omega
                                                                     exact hM, fun i hi => by obtain rfl : i = 0 := by omega
                                                                                              exact hF, fun i hi => by omega, fun i o hi => by omega, fun i o hi => by omega⟩
  | n + 1, hn => by
    obtain ⟨Jc, wc, ac, e0, hr⟩ := run_exists hG hP hplug hbase hnt hk h0 hl hM hF n (by omega)
    obtain ⟨o, ho⟩ : ∃ o, ops[n]? = some o := ⟨_, Array.getElem?_eq_getElem (by omega)⟩
    have hnoted := (AM.noted (ops := ops.toList) h0 (fun i o hi => hl i o (by rwa [Array.getElem?_toList] at hi)) n (by simp; omega)).2
    obtain ⟨J', w', a', k1, k2, k3, k4⟩ := (hl n o ho).can hG hP hplug (hk n o ho) (hr.noted (by omega) hnoted) hbase hnt (hr.mem n (Nat.le_refl _)) (hr.fra n (Nat.le_refl _))
    have ext : ∀ {α : Type} (f : Nat → α) (x : α), ∃ f' : Nat → α, (∀ i, i ≤ n → f' i = f i) ∧ f' (n + 1) = x := fun f x => ⟨fun i => if i ≤ n then f i else x, fun i hi => if_pos hi, if_neg (by omega)⟩
    obtain ⟨Jf, jl, jg⟩ := ext Jc J'
    obtain ⟨wf, wl, wg⟩ := ext wc w'
    obtain ⟨af, al, ag⟩ := ext ac a'
    refine ⟨Jf, wf, af, by rw [jl 0 (by omega)]; exact e0, ?_, ?_, ?_, ?_, ?_⟩
    · intro i hi
      rcases Nat.lt_or_ge n i with h | h
      · obtain rfl : i = n + 1 := by omega
        rw [jg, wg]; exact k2
      · rw [jl i h, wl i h]; exact hr.mem i h
    · intro i hi
      rcases Nat.lt_or_ge n i with h | h
      · obtain rfl : i = n + 1 := by omega
        rw [jg, ag]; exact k3
      · rw [jl i h, al i h]; exact hr.fra i h
    · intro i hi
      rcases Nat.lt_or_ge i n with h | h
      · rw [jl i (by omega), jl (i + 1) (by omega)]; exact hr.le i h
      · obtain rfl : i = n := by omega
        rw [jl i (by omega), jg]; exact k1
    · intro i o' hi ho' hw
      rcases Nat.lt_or_ge i n with h | h
      · rw [jl (i + 1) (by omega)]; exact hr.facts i o' h ho' hw
      · obtain rfl : i = n := by omega
        rw [ho] at ho'; cases ho'
        rw [jg]
        exact k4 hw
    · intro i o' hi ho' hw
      exact (hl i o' ho').skips hw
end
end Go.AM
namespace Go.AM
open Go Go.Proofs.YtdflbipaicpdcaaGreatDoor
variable {P : Program}

def hit (t : StepD) (b : Nat) : Prop := b ∈ t.s1.W ∨ (t.G.nx ≤ b ∧ b < t.s1.nx)

open Classical in
/-- memory after the operations of D among the first n -/
noncomputable def CC (st : Nat → StepD) (D : Nat → Prop) : Nat → Nat → Option AO
  | 0, b => (st 0).G.H.get b
  | n + 1, b => if D n ∧ (st n).wd = true ∧ hit (st n) b then (st n).s1.H.get b else CC st D n b

def tv (t : StepD) : Value := if t.wd then t.v else undef

def dstAt (ops : Array Oper) (i : Nat) : Option Tmp := (ops[i]?).bind (·.dst)

open Classical in
noncomputable def TT (ops : Array Oper) (st : Nat → StepD) (D : Nat → Prop) : Nat → Nat → Option Value
  | 0, x => (st 0).G.T.get x
  | n + 1, x => if D n ∧ dstAt ops n = some x then some (tv (st n)) else TT ops st D n x

theorem CC_pos {st : Nat → StepD} {D : Nat → Prop} {n b : Nat} (h : D n ∧ (st n).wd = true ∧ hit (st n) b) : CC st D (n + 1) b = (st n).s1.H.get b := if_pos h
theorem CC_neg {st : Nat → StepD} {D : Nat → Prop} {n b : Nat} (h : ¬ (D n ∧ (st n).wd = true ∧ hit (st n) b)) : CC st D (n + 1) b = CC st D n b := if_neg h
theorem TT_pos {ops : Array Oper} {st : Nat → StepD} {D : Nat → Prop} {n x : Nat} (h : D n ∧ dstAt ops n = some x) : TT ops st D (n + 1) x = some (tv (st n)) := if_pos h
theorem TT_neg {ops : Array Oper} {st : Nat → StepD} {D : Nat → Prop} {n x : Nat} (h : ¬ (D n ∧ dstAt ops n = some x)) : TT ops st D (n + 1) x = TT ops st D n x := if_neg h

theorem CC_after {st : Nat → StepD} {D : Nat → Prop} {b n : Nat} : ∀ N, n ≤ N → (∀ i, n ≤ i → i < N → D i → (st i).wd = true → ¬ hit (st i) b) → CC st D N b = CC st D n b
  | 0, h, _ => by obtain rfl : n = 0 := by omega
                  rfl
  | N + 1, h, hk => by
    rcases Nat.lt_or_ge N n with h' | h'
    · obtain rfl : n = N + 1 := by omega
      rfl
    · simp only [CC]
      rw [if_neg fun k => hk N h' (by omega) k.1 k.2.1 k.2.2]
      exact CC_after N h' fun i h1 h2 => hk i h1 (by omega)

theorem TT_after {ops : Array Oper} {st : Nat → StepD} {D : Nat → Prop} {x n : Nat} : ∀ N, n ≤ N → (∀ i, n ≤ i → i < N → D i → dstAt ops i ≠ some x) → TT ops st D N x = TT ops st D n x
  | 0, h, _ => by obtain rfl : n = 0 := by omega
                  rfl
  | N + 1, h, hk => by
    rcases Nat.lt_or_ge N n with h' | h'
    · obtain rfl : n = N + 1 := by omega
      rfl
    · simp only [TT]
      rw [if_neg fun k => hk N h' (by omega) k.1 k.2]
      exact TT_after N h' fun i h1 h2 => hk i h1 (by omega)

theorem CC_low {st : Nat → StepD} {D : Nat → Prop} {b j : Nat} : ∀ N, N ≤ j → CC st (fun i => D i ∨ i = j) N b = CC st D N b
  | 0, _ => rfl
  | N + 1, h => by
    have ih := CC_low (st := st) (D := D) (b := b) N (by omega : N ≤ j)
    have e : (D N ∨ N = j) ↔ D N := ⟨fun k => k.elim id fun k => by omega, .inl⟩
    by_cases hh : D N ∧ (st N).wd = true ∧ hit (st N) b
    · rw [CC_pos hh, CC_pos ⟨e.2 hh.1, hh.2⟩]
    · rw [CC_neg hh, CC_neg fun k => hh ⟨e.1 k.1, k.2⟩, ih]

theorem CC_add {st : Nat → StepD} {D : Nat → Prop} {b j : Nat} (hj : ¬ D j) : ∀ N, j < N → (∀ i, j < i → i < N → D i → (st i).wd = true → (st j).wd = true → hit (st j) b → ¬ hit (st i) b) →
    ((st j).wd = true → hit (st j) b → CC st (fun i => D i ∨ i = j) N b = (st j).s1.H.get b) ∧ (¬ ((st j).wd = true ∧ hit (st j) b) → CC st (fun i => D i ∨ i = j) N b = CC st D N b)
  | 0, h, _ => by omega
  | N + 1, h, hk => by
    rcases Nat.lt_or_ge j N with h' | h'
    · obtain ⟨i1, i2⟩ := CC_add hj N h' fun i h1 h2 => hk i h1 (by omega)
      have e : (D N ∨ N = j) ↔ D N := ⟨fun k => k.elim id fun k => by omega, .inl⟩
      refine ⟨fun h1 h2 => ?_, fun h1 => ?_⟩
      · rw [CC_neg fun k => hk N h' (by omega) (e.1 k.1) k.2.1 h1 h2 k.2.2]
        exact i1 h1 h2
      · by_cases hh : D N ∧ (st N).wd = true ∧ hit (st N) b
        · rw [CC_pos hh, CC_pos ⟨e.2 hh.1, hh.2⟩]
        · rw [CC_neg hh, CC_neg fun k => hh ⟨e.1 k.1, k.2⟩, i2 h1]
    · obtain rfl : N = j := by omega
      refine ⟨fun h1 h2 => by rw [CC_pos ⟨.inr rfl, h1, h2⟩], fun h1 => by rw [CC_neg fun k => h1 k.2, CC_neg fun k => hj k.1, CC_low N (Nat.le_refl _)]⟩

theorem TT_low {ops : Array Oper} {st : Nat → StepD} {D : Nat → Prop} {x j : Nat} : ∀ N, N ≤ j → TT ops st (fun i => D i ∨ i = j) N x = TT ops st D N x
  | 0, _ => rfl
  | N + 1, h => by
    have ih := TT_low (ops := ops) (st := st) (D := D) (x := x) N (by omega : N ≤ j)
    have e : (D N ∨ N = j) ↔ D N := ⟨fun k => k.elim id fun k => by omega, .inl⟩
    by_cases hh : D N ∧ dstAt ops N = some x
    · rw [TT_pos hh, TT_pos ⟨e.2 hh.1, hh.2⟩]
    · rw [TT_neg hh, TT_neg fun k => hh ⟨e.1 k.1, k.2⟩, ih]

theorem TT_add {ops : Array Oper} {st : Nat → StepD} {D : Nat → Prop} {x j : Nat} (hj : ¬ D j) : ∀ N, j < N → (∀ i, j < i → i < N → D i → dstAt ops j = some x → dstAt ops i ≠ some x) →
    (dstAt ops j = some x → TT ops st (fun i => D i ∨ i = j) N x = some (tv (st j))) ∧ (dstAt ops j ≠ some x → TT ops st (fun i => D i ∨ i = j) N x = TT ops st D N x)
  | 0, h, _ => by omega
  | N + 1, h, hk => by
    rcases Nat.lt_or_ge j N with h' | h'
    · obtain ⟨i1, i2⟩ := TT_add hj N h' fun i h1 h2 => hk i h1 (by omega)
      have e : (D N ∨ N = j) ↔ D N := ⟨fun k => k.elim id fun k => by omega, .inl⟩
      refine ⟨fun h1 => ?_, fun h1 => ?_⟩
      · rw [TT_neg fun k => hk N h' (by omega) (e.1 k.1) h1 k.2]
        exact i1 h1
      · by_cases hh : D N ∧ dstAt ops N = some x
        · rw [TT_pos hh, TT_pos ⟨e.2 hh.1, hh.2⟩]
        · rw [TT_neg hh, TT_neg fun k => hh ⟨e.1 k.1, k.2⟩, i2 h1]
    · obtain rfl : N = j := by omega
      refine ⟨fun h1 => by rw [TT_pos ⟨.inr rfl, h1⟩], fun h1 => by rw [TT_neg fun k => h1 k.2, TT_neg fun k => hj k.1, TT_low N (Nat.le_refl _)]⟩

section
variable {plug : Plug} {rec : Rec} {g : Gh} {E : En} {ops : Array Oper} {st : Nat → StepD} {Jc : Nat → Io} {wc : Nat → World} {ac : Nat → Act}

theorem CC_before (h : Run P plug rec g E ops st ops.size Jc wc ac) {D : Nat → Prop} {b : Nat} : ∀ n, n ≤ ops.size → (∀ i, i < n → (st i).wd = true → hit (st i) b → D i) → CC st D n b = (st n).G.H.get b
  | 0, _, _ => rfl
  | n + 1, hn, hk => by
    have ih := CC_before h n (by omega) fun i hi => hk i (by omega)
    obtain ⟨o, ho⟩ : ∃ o, ops[n]? = some o := ⟨_, Array.getElem?_eq_getElem (by omega)⟩
    cases hw : (st n).wd with
    | false =>
      rw [CC_neg (fun k => by rw [hw] at k; cases k.2.1), ih, (h.skips n o (by omega) ho hw).H]
    | true =>
      have hf := (h.facts n o (by omega) ho hw).1
      rw [hf.heap b]
      by_cases hh : hit (st n) b
      · rw [CC_pos ⟨hk n (by omega) hw hh, hw, hh⟩]; exact (if_pos hh).symm
      · rw [CC_neg fun k => hh k.2.2, ih]; exact (if_neg hh).symm

theorem TT_before (h : Run P plug rec g E ops st ops.size Jc wc ac) (hnt : E.nt ≤ 60000) {D : Nat → Prop} {x : Nat} : ∀ n, n ≤ ops.size → (∀ i, i < n → dstAt ops i = some x → D i) → TT ops st D n x = (st n).G.T.get x
  | 0, _, _ => rfl
  | n + 1, hn, hk => by
    have ih := TT_before h hnt n (by omega) fun i hi => hk i (by omega)
    obtain ⟨o, ho⟩ : ∃ o, ops[n]? = some o := ⟨_, Array.getElem?_eq_getElem (by omega)⟩
    have hd : dstAt ops n = o.dst := by unfold dstAt; rw [ho]; rfl
    have key : ∀ u, tv (st n) = u → (match o.dst with
        | none => (st (n + 1)).G.T = (st n).G.T
        | some d => d < E.nt ∧ (st (n + 1)).G.T = (st n).G.T.set 16 d (some u)) → TT ops st D (n + 1) x = (st (n + 1)).G.T.get x := by
      intro u hu hm
      cases hdst : o.dst with
      | none =>
        rw [hdst] at hm
        simp only at hm
        rw [TT_neg (fun k => by rw [hd, hdst] at k; cases k.2), ih, hm]
      | some d =>
        rw [hdst] at hm
        simp only at hm
        have hdn := hm.1
        have hnt' := hnt
        rw [hm.2, Tr.get_set 16 _ d _ x (Nat.lt_of_le_of_lt (Nat.le_trans hm.1 hnt) (by decide))]
        by_cases e : x = d
        · subst e
          rw [TT_pos ⟨hk n (by omega) (by rw [hd, hdst]), by rw [hd, hdst]⟩, if_pos rfl, hu]
        · rw [TT_neg (fun k => by rw [hd, hdst] at k; exact e (Option.some.inj k.2).symm), if_neg e, ih]
    cases hw : (st n).wd with
    | false => exact key undef (by unfold tv; rw [hw]; rfl) (h.skips n o (by omega) ho hw).dst
    | true => exact key (st n).v (by unfold tv; rw [hw]; rfl) (h.facts n o (by omega) ho hw).1.dst

/-! ### Who does not meet whom -/
/-- all that is known of a drawn region -/
structure Reg (P : Program) (plug : Plug) (rec : Rec) (g : Gh) (E : En) (ops : Array Oper) (st : Nat → StepD) (Jc : Nat → Io) (wc : Nat → World) (ac : Nat → Act) : Prop where
  hG : Goes P rec
  hP : Enters P
  hplug : PlugOk P plug
  hbase : g.base = E.base
  hnt : E.nt ≤ 60000
  ok : regOk ops = true
  h0 : (st 0).ds = []
  hl : ∀ (i : Nat) (o : Oper), ops[i]? = some o → Local P plug rec E ops.toList (ancs ops.toList []) o i (st i) (st (i + 1)).G (st (i + 1)).ds
  run : Run P plug rec g E ops st ops.size Jc wc ac

/-- before j -/
def Anc (ops : Array Oper) (j i : Nat) : Prop := Nat.testBit ((nth (ancs ops.toList []) j).getD 0) i = true

theorem regOk_spec (h : regOk ops = true) {j : Nat} {oj : Oper} (hj : ops[j]? = some oj) : binOn oj j = true ∧ lightKind oj = true ∧ ∀ i oi, i < j → ops[i]? = some oi → Anc ops j i ∨ oi.apart ops oj = true := by
  have hjs : j < ops.size := (Array.getElem?_eq_some_iff.1 hj).1
  have := List.all_eq_true.1 h j (by simpa using hjs)
  rw [hj] at this
  simp only [Bool.and_eq_true] at this
  refine ⟨this.1.1, this.1.2, fun i oi hi ho => ?_⟩
  have h2 := List.all_eq_true.1 this.2 i (by simpa using hi)
  unfold pairOk at h2
  rw [ho] at h2
  simpa [Anc] using h2

set_option linter.unusedSectionVars false
variable (R : Reg P plug rec g E ops st Jc wc ac)
include R

theorem Reg.op {i : Nat} (hi : i < ops.size) : ∃ o, ops[i]? = some o := ⟨_, Array.getElem?_eq_getElem hi⟩

theorem Reg.un {i j : Nat} (hij : i < j) (hj : j < ops.size) (hwi : (st i).wd = true) (ha : ¬ Anc ops j i) : (st i).did i ∈ unordered ((nth (ancs ops.toList []) j).getD 0) (st j).ds ∨ (st i).idle := by
  rcases (noted (ops := ops.toList) R.h0 (fun i o hi => R.hl i o (by rwa [Array.getElem?_toList] at hi)) j (by simp; omega)).1 i hij hwi with h | h
  · refine .inl (List.mem_filter.2 ⟨h, ?_⟩)
    simp only [StepD.did]
    simpa [Anc] using ha
  · exact .inr h

theorem Reg.idle_hit {i b : Nat} (h : (st i).idle) : ¬ hit (st i) b := by
  obtain ⟨h1, h2, h3, h4⟩ := h
  rintro (h | h)
  · rw [h2] at h; simp at h
  · omega

theorem Reg.known (j : Nat) (hj : j < ops.size) : ∀ d ∈ (st j).ds, d.lo ≤ d.hi ∧ d.hi ≤ (st j).G.nx ∧ ∀ x ∈ d.W, x < (st j).G.nx := by
  intro d hd
  obtain ⟨i, hi, hw, rfl⟩ := (noted (ops := ops.toList) R.h0 (fun i o hi => R.hl i o (by rwa [Array.getElem?_toList] at hi)) j (by simp; omega)).2 d hd
  obtain ⟨o, ho⟩ := R.op (i := i) (by omega)
  have hf := (R.run.facts i o (by omega) ho hw).1
  have h1 := R.run.grows (Nat.le_refl _) (i + 1) j (by omega) (by omega)
  rw [hf.nx] at h1
  have := hf.le
  exact ⟨hf.le, h1, fun x hx => by have := (hf.hit x hx).1; omega⟩

theorem has_hit {i b : Nat} : ((st i).did i).has b = true ↔ hit (st i) b := by rw [has_iff]; rfl

/-- an operation that is not ordered after i sees nothing of what i leaves -/
theorem Reg.early {i j b : Nat} (hij : i < j) (hj : j < ops.size) (hwi : (st i).wd = true) (hwj : (st j).wd = true) (ha : ¬ Anc ops j i) (hsc : (st j).sc b) (hV : (st j).V.get b ≠ none) (hb : b < (st j).G.nx) : ¬ hit (st i) b := by
  rcases R.un hij hj hwi ha with h | h
  · intro hh
    obtain ⟨o, ho⟩ := R.op hj
    have hl := R.hl j o ho
    cases hc : (st j).cl with
    | false =>
      unfold StepD.sc at hsc
      rw [hc] at hsc
      rcases hsc with hsc | hsc
      · have := (hl.light hwj hc).2.2 _ h b hsc
        rw [(has_hit (P := P) R).2 hh] at this
        cases this
      · omega
    | true =>
      have := hl.sees hwj (R.known j hj) (R.run.mem j (by omega)).nxs b
      rw [if_pos ⟨hc, List.any_eq_true.2 ⟨_, h, (has_hit (P := P) R).2 hh⟩⟩] at this
      exact hV this
  · exact R.idle_hit h

/-- what an operation sees is not touched by a later one that is not ordered after it -/
theorem Reg.late {i j b : Nat} (hij : j < i) (hi : i < ops.size) (hwi : (st i).wd = true) (hwj : (st j).wd = true) (ha : ¬ Anc ops i j) (hsc : (st j).sc b) (hb : b < (st j).G.nx) : ¬ hit (st i) b := by
  intro hh
  obtain ⟨o, ho⟩ := R.op hi
  have hl := R.hl i o ho
  have hg := R.run.grows (Nat.le_refl _) j i (by omega) (by omega)
  have hW : b ∈ (st i).s1.W := hh.elim id fun k => by omega
  rcases R.un hij hi hwj ha with h | h
  · obtain ⟨k1, k2⟩ := hl.clear hwi _ h
    cases hc : (st j).cl with
    | true =>
      rw [k1 (by simp only [StepD.did]; exact hc)] at hW
      simp at hW
    | false =>
      unfold StepD.sc at hsc
      rw [hc] at hsc
      rcases hsc with hsc | hsc
      · exact k2 b hsc hW
      · omega
  · cases hc : (st j).cl with
    | true => rw [h.1] at hc; cases hc
    | false =>
      unfold StepD.sc at hsc
      rw [hc] at hsc
      rcases hsc with hsc | hsc
      · rw [h.2.2.2] at hsc; simp at hsc
      · omega

/-- what an operation leaves is not touched by a later one that is not ordered after it -/
theorem Reg.left {i j b : Nat} (hij : j < i) (hi : i < ops.size) (hwi : (st i).wd = true) (hwj : (st j).wd = true) (ha : ¬ Anc ops i j) (hh : hit (st j) b) : ¬ hit (st i) b := by
  intro hi'
  obtain ⟨oj, hoj⟩ := R.op (i := j) (by omega)
  obtain ⟨oi, hoi⟩ := R.op hi
  have hfj := (R.run.facts j oj (by omega) hoj hwj).1
  have hfi := (R.run.facts i oi hi hoi hwi).1
  rcases hh with hh | hh
  · exact R.late hij hi hwi hwj ha (hfj.hit b hh).2.2 (hfj.hit b hh).1 hi'
  · have hg := R.run.grows (Nat.le_refl _) (j + 1) i (by omega) (by omega)
    rw [hfj.nx] at hg
    have hW : b ∈ (st i).s1.W := hi'.elim id fun k => by omega
    obtain ⟨k1, k2, k3⟩ := hfi.hit b hW
    exact R.early hij hi hwj hwi ha k3 k2 k1 (.inr hh)

/-- what is seen is what the machine saw -/
theorem Reg.agree {D : Nat → Prop} {j b : Nat} (hj : j < ops.size) (hD : ¬ D j) (hA : ∀ i, Anc ops j i → D i) (hB : ∀ i k, D i → i < ops.size → Anc ops i k → D k) (hwj : (st j).wd = true) (hsc : (st j).sc b) (hV : (st j).V.get b ≠ none) : CC st D ops.size b = (st j).V.get b := by
  obtain ⟨oj, hoj⟩ := R.op hj
  have hf := (R.run.facts j oj hj hoj hwj).1
  have hVG : (st j).V.get b = (st j).G.H.get b := by
    cases h : (st j).V.get b with
    | none => exact absurd h hV
    | some x => rw [hf.sub b x h]
  have hb : b < (st j).G.nx := by
    rcases Nat.lt_or_ge b (st j).G.nx with h | h
    · exact h
    · exact absurd (hVG.trans (hf.top b h)) hV
  rw [CC_after ops.size (n := j) (by omega), CC_before R.run j (by omega), hVG]
  · intro i hi hwi hh
    refine Classical.byContradiction fun hDi => ?_
    exact R.early hi hj hwi hwj (fun k => hDi (hA i k)) hsc hV hb hh
  · intro i h1 h2 hDi hwi
    have hne : i ≠ j := fun e => hD (e ▸ hDi)
    exact R.late (by omega) h2 hwi hwj (fun k => hD (hB i j hDi h2 k)) hsc hb

theorem Reg.looks {D : Nat → Prop} {j x : Nat} {oj : Oper} (hoj : ops[j]? = some oj) (hD : ¬ D j) (hA : ∀ i, Anc ops j i → D i) (hB : ∀ i k, D i → i < ops.size → Anc ops i k → D k) (hx : x ∈ oj.looksAt ops) : TT ops st D ops.size x = (st j).G.T.get x := by
  have hj : j < ops.size := (Array.getElem?_eq_some_iff.1 hoj).1
  rw [TT_after ops.size (n := j) (by omega), TT_before R.run R.hnt j (by omega)]
  · intro i hi hd
    refine Classical.byContradiction fun hDi => ?_
    obtain ⟨oi, hoi⟩ := R.op (i := i) (by omega)
    rcases (regOk_spec R.ok hoj).2.2 i oi hi hoi with h | h
    · exact hDi (hA i h)
    · refine (Oper.apart_spec h).1 x ?_ hx
      unfold dstAt at hd; rw [hoi] at hd; exact hd
  · intro i h1 h2 hDi hd
    have hne : i ≠ j := fun e => hD (e ▸ hDi)
    obtain ⟨oi, hoi⟩ := R.op (i := i) h2
    rcases (regOk_spec R.ok hoi).2.2 j oj (by omega) hoj with h | h
    · exact hD (hB i j hDi h2 h)
    · refine (Oper.apart_spec h).2.2 x ?_ hx
      unfold dstAt at hd; rw [hoi] at hd; exact hd

theorem Reg.dsts {D : Nat → Prop} {i j x : Nat} (hij : j < i) (hi : i < ops.size) (hD : ¬ D j) (hDi : D i) (hB : ∀ i k, D i → i < ops.size → Anc ops i k → D k) (hx : dstAt ops j = some x) : dstAt ops i ≠ some x := by
  obtain ⟨oi, hoi⟩ := R.op hi
  obtain ⟨oj, hoj⟩ := R.op (i := j) (by omega)
  rcases (regOk_spec R.ok hoi).2.2 j oj hij hoj with h | h
  · exact absurd (hB i j hDi hi h) hD
  · have := (Oper.apart_spec h).2.1 x (by unfold dstAt at hx; rw [hoj] at hx; exact hx)
    unfold dstAt; rw [hoi]; exact this
end
end Go.AM
namespace Go.AM
open Go Go.Proofs.YtdflbipaicpdcaaGreatDoor
variable {P : Program}

theorem dag_some {nv : Nat} {f : Nat → Option Nat} : ∀ {D : List FN}, DagOk nv f D → ∀ i, i < D.length → ∃ v, f (SYM + i) = some v
  | [], _, i, hi => by simp at hi
  | n :: D, .cons _ _ h _ hD, i, hi => by
    rcases Nat.lt_or_ge i D.length with h' | h'
    · exact dag_some hD i h'
    · obtain rfl : i = D.length := by simp at hi; omega
      obtain ⟨v, hv, _⟩ := h
      exact ⟨v, hv⟩

theorem wanted_at {J : Io} {nt : Nat} {ops : Array Oper} {s : St} {tm : Array Value} (o : Oper) (hsz : tm.size = nt) (hT : ∀ t ∈ o.looksAt ops, t < nt → Den J ((s.T.get t).getD undef) (tm.getD t undef)) (hN : ∀ t, nt ≤ t → s.T.get t = none) : Region.wanted o (yielded ops tm) = wantedA ops.toList s o := by
  unfold Region.wanted wantedA
  cases hg : o.guard with
  | none => rfl
  | some gw =>
    obtain ⟨j, want⟩ := gw
    simp only
    have key : yielded ops tm j = yieldedA ops.toList s j := by
      unfold yielded yieldedA
      rw [Array.getElem?_toList]
      cases hd : (ops[j]?).bind (·.dst) with
      | none => rfl
      | some t =>
        have hlook : t ∈ o.looksAt ops := by
          unfold Oper.looksAt
          rw [hg]
          simp only [hd]
          exact List.mem_append_right _ (by simp)
        simp only [Option.bind_some]
        rcases Nat.lt_or_ge t nt with h | h
        · have h1 := hT t hlook h
          have h2 : tm[t]? = some (tm.getD t undef) := by
            have : t < tm.size := by rw [hsz]; exact h
            simp [Array.getD_eq_getD_getElem?, this]
          rw [h2]
          generalize tm.getD t undef = u at h1
          cases hg : s.T.get t with
          | none => rw [hg] at h1; simp only [Option.getD_none] at h1; cases h1; rfl
          | some x =>
            rw [hg] at h1
            simp only [Option.getD_some] at h1
            cases h1 <;> rfl
        · rw [hN t h, Array.getElem?_eq_none (by rw [hsz]; exact h)]
    rw [key]
    cases yieldedA ops.toList s j with
    | none => rfl
    | some b => cases b <;> cases want <;> rfl

section
variable {plug : Plug} {rec : Rec} {g : Gh} {E : En} {ops : Array Oper} {st : Nat → StepD} {Jc : Nat → Io} {wc : Nat → World} {ac : Nat → Act}

/-- what was written, that was there before -/
def WW (g : Gh) (ops : Array Oper) (st : Nat → StepD) (D : Nat → Prop) (b : Nat) : Prop := b ∈ (st 0).G.W ∨ ∃ i, i < ops.size ∧ D i ∧ (st i).wd = true ∧ b ∈ (st i).s1.W ∧ b < g.base

/-- some operations are done, in whatever order -/
structure InvD (g : Gh) (E : En) (ops : Array Oper) (st : Nat → StepD) (J0 JN : Io) (D : Nat → Prop) (J : Io) (a : Act) (w : World) : Prop where
  dyn : Dyn g J (CC st D ops.size) (WW g ops st D) w
  fl : J.fl = JN.fl
  dom : ∀ b p, J.blk b = some p → b < (st 0).G.nx ∨ ∃ i, i < ops.size ∧ D i ∧ (st i).wd = true ∧ (st i).G.nx ≤ b ∧ b < (st i).s1.nx
  le : J0.Le J
  size : a.tmps.size = E.nt
  tm : ∀ x, x < E.nt → Den J ((TT ops st D ops.size x).getD undef) (a.tmps.getD x undef)
  df : DefsDen J (st 0).G.df a.defers

theorem put_size (a : Act) (dst : Option Tmp) (u : Value) : (a.put dst u).tmps.size = a.tmps.size := by
  cases dst with
  | none => rfl
  | some d => simp [Act.put]

theorem put_get (a : Act) (dst : Option Tmp) (u : Value) (x : Nat) (hx : x < a.tmps.size) : (a.put dst u).tmps.getD x undef = if dst = some x then u else a.tmps.getD x undef := by
  cases dst with
  | none => rw [if_neg (by simp)]; rfl
  | some d =>
    simp only [Act.put, Array.getD_eq_getD_getElem?]
    by_cases e : d = x
    · subst e
      rw [if_pos rfl]
      rw [Array.getElem?_setIfInBounds_self_of_lt hx]; rfl
    · rw [if_neg (fun k => e (Option.some.inj k)), Array.getElem?_setIfInBounds_ne e]

variable (R : Reg P plug rec g E ops st Jc wc ac)
include R

theorem Reg.tm_put {D : Nat → Prop} {j : Nat} {o : Oper} (hoj : ops[j]? = some o) (hD : ¬ D j) (hB : ∀ i k, D i → i < ops.size → Anc ops i k → D k) {J J' : Io} {a : Act} (hJ : J.Le J') {u : Value} (hu : Den J' (tv (st j)) u) (hs : a.tmps.size = E.nt)
    (h : ∀ x, x < E.nt → Den J ((TT ops st D ops.size x).getD undef) (a.tmps.getD x undef)) : ∀ x, x < E.nt → Den J' ((TT ops st (fun i => D i ∨ i = j) ops.size x).getD undef) ((a.put o.dst u).tmps.getD x undef) := by
  intro x hx
  have hj : j < ops.size := (Array.getElem?_eq_some_iff.1 hoj).1
  have hd : dstAt ops j = o.dst := by unfold dstAt; rw [hoj]; rfl
  obtain ⟨k1, k2⟩ := TT_add (ops := ops) (st := st) (x := x) hD ops.size hj fun i h1 h2 h3 h4 => R.dsts h1 h2 hD h3 hB h4
  rw [put_get a o.dst u x (by rw [hs]; exact hx)]
  by_cases e : o.dst = some x
  · rw [if_pos e, k1 (hd.trans e)]; exact hu
  · rw [if_neg e, k2 (by rw [hd]; exact e)]; exact (h x hx).mono hJ

/-- floats of an operation are the machine's -/
theorem Reg.floats {j : Nat} {o : Oper} (hoj : ops[j]? = some o) (hw : (st j).wd = true) {gn : Gh} {J J1 : Io} {S : Nat → Prop} {w' : World} (hD0 : gn.D0 = (st j).G.D) (hM : Mem gn J1 S (st j).s1 w') (hJ : (J.on (Jc j)).Le J1) : ∀ r x, J1.fl r = some x → (Jc ops.size).fl r = some x := by
  have hj : j < ops.size := (Array.getElem?_eq_some_iff.1 hoj).1
  have hf := R.run.facts j o hj hoj hw
  have hmj := R.run.mem j (by omega)
  have hmj1 := R.run.mem (j + 1) (by omega)
  have hle := R.run.le j hj
  intro r x hr
  have hdag := hM.dag
  rw [hD0] at hdag
  obtain ⟨q1, q2, q3, q4⟩ := hM.flr r x hr
  have hlen := hM.nd
  have hag := dag_agree (f := J1.fl) (h := (Jc (j + 1)).fl) (m := (st j).G.D.length) (Nat.le_refl _) (fun r hr => by
      have h1 : J1.fl r = none := by
        cases h : J1.fl r with
        | none => rfl
        | some y => have := (hM.flr r y h).1; omega
      have h2 : (Jc (j + 1)).fl r = none := by
        cases h : (Jc (j + 1)).fl r with
        | none => rfl
        | some y => have := (hmj1.flr r y h).1; omega
      rw [h1, h2]) (fun i hi => by
      obtain ⟨v, hv⟩ := dag_some hmj.dag i hi
      rw [hJ.fl _ v hv, hle.fl _ v hv]) (st j).s1.D hdag hf.2 (r - SYM) (by omega)
  rw [show SYM + (r - SYM) = r by omega, hr] at hag
  exact (R.run.les (j + 1) ops.size (by omega) (by omega)).fl r x hag.symm

theorem Reg.step {D : Nat → Prop} {j : Nat} {o : Oper} {r : Option Nat} (hoj : ops[j]? = some o) (hD : ¬ D j) (hA : ∀ i, Anc ops j i → D i) (hB : ∀ i k, D i → i < ops.size → Anc ops i k → D k) {J0 J : Io} {a : Act} {w : World} (hI : InvD g E ops st J0 (Jc ops.size) D J a w)
    {Q : Exit → Act → World → Prop} {K : Act → World → Prop} (hK : ∀ J' a' w', InvD g E ops st J0 (Jc ops.size) (fun i => D i ∨ i = j) J' a' w' → K a' w') : wpOpIn (Fr r) 0 P ops Q j K a w := by
  have hj : j < ops.size := (Array.getElem?_eq_some_iff.1 hoj).1
  have hl := R.hl j o hoj
  have hlooks : ∀ t ∈ o.looksAt ops, TT ops st D ops.size t = (st j).G.T.get t := fun t ht => R.looks hoj hD hA hB ht
  have hfj := R.run.fra j (by omega)
  have hmj := R.run.mem j (by omega)
  have hwant : Region.wanted o (yielded ops a.tmps) = (st j).wd := by
    rw [← hl.wd]
    exact wanted_at (J := J) o hI.size (fun t ht hlt => by rw [← hlooks t ht]; exact hI.tm t hlt) hfj.tmps.2.2
  unfold wpOpIn
  rw [hoj]
  simp only
  rw [hwant]
  cases hw : (st j).wd with
  | false =>
    rw [if_neg (by simp)]
    refine ⟨fun _ _ => trivial, hK J _ w ⟨?_, hI.fl, ?_, hI.le, ?_, ?_, ?_⟩⟩
    · refine hI.dyn.congr (fun b => (CC_add hD ops.size hj (fun i _ _ _ _ h5 => by rw [hw] at h5; cases h5)).2 (fun k => by rw [hw] at k; cases k.1)) fun b => ?_
      unfold WW
      constructor
      · rintro (h | ⟨i, h1, h2 | h2, h3⟩)
        · exact .inl h
        · exact .inr ⟨i, h1, h2, h3⟩
        · subst h2; rw [hw] at h3; cases h3.1
      · rintro (h | ⟨i, h1, h2, h3⟩)
        · exact .inl h
        · exact .inr ⟨i, h1, .inl h2, h3⟩
    · intro b p hp
      rcases hI.dom b p hp with h | ⟨i, h1, h2, h3⟩
      · exact .inl h
      · exact .inr ⟨i, h1, .inl h2, h3⟩
    · rw [put_size]; exact hI.size
    · exact R.tm_put hoj hD hB (.refl _) (by unfold tv; rw [hw]; exact Den.und J) hI.size hI.tm
    · have : (a.put o.dst undef).defers = a.defers := by cases o.dst <;> rfl
      rw [this]; exact hI.df
  | true =>
    rw [if_pos rfl]
    have hf := (R.run.facts j o hj hoj hw).1
    have hagr : ∀ b, (st j).sc b → (st j).V.get b ≠ none → CC st D ops.size b = (st j).V.get b := fun b h1 h2 => R.agree hj hD hA hB hw h1 h2
    have hflle : ∀ r x, (Jc j).fl r = some x → J.fl r = some x := fun r x h => by rw [hI.fl]; exact (R.run.les j ops.size (by omega) (by omega)).fl r x h
    obtain ⟨hgo, _, _⟩ := hl.goes (r := r) R.hG R.hP R.hplug hw (regOk_spec R.ok hoj).2.1 (R.known j hj) hmj (J := J) (w := w) (a := a)
      (fun b c p q s1 s2 h1 h2 => hI.dyn.inj b c p q (by rw [hagr b s1 h1]; exact h1) (by rw [hagr c s2 h2]; exact h2)) hI.dyn.lt
      (fun b x s1 hx => hI.dyn.objs b x (by rw [hagr b s1 (by rw [hx]; simp)]; exact hx)) hflle hI.dyn.glob
      (fun x hx hok => by
        cases x with
        | tmp t =>
          have ht : t ∈ o.looksAt ops := List.mem_append_left _ (List.mem_filterMap.2 ⟨.tmp t, by simpa using hx, rfl⟩)
          simp only [AM.ev, Act.eval]
          rcases Nat.lt_or_ge t E.nt with h' | h'
          · have h1 := hI.tm t h'
            rw [hlooks t ht] at h1
            exact h1.on hflle (hfj.tmps.2.1 t h')
          · rw [hfj.tmps.2.2 t h', Array.getD_eq_getD_getElem?, Array.getElem?_eq_none (by rw [hI.size]; exact h')]; exact Den.und _
        | const v => exact flat_den 6 v (by simpa [okx] using hok) _
        | global i =>
          have hi : i < 4 := nblt_true (by simpa [okx] using hok)
          obtain ⟨p, hp, e1, e2⟩ := hI.dyn.glob i hi
          obtain ⟨q, hq, _, _⟩ := hmj.glob i hi
          have := Den.ptr (J := J.on (Jc j)) i 0 p (Io.on_blk hp hq)
          rw [e1, e2] at this
          exact this
        | func f => exact .func f #[] #[] #[] #[] .nil .nil)
    refine hgo K Q fun u ds w' ⟨hds, J1, j1, j2, j3⟩ => ?_
    subst hds
    have hfl1 := R.floats hoj hw rfl j2 j1
    have hgrow0 := R.run.grows (Nat.le_refl _) 0 j (by omega) (by omega)
    have hon : ∀ b p, (J.on (Jc j)).blk b = some p → J.blk b = some p := by
      intro b p hp
      simp only [Io.on] at hp
      cases h : (Jc j).blk b with
      | none => rw [h] at hp; simp at hp
      | some q => rw [h] at hp; simpa using hp
    have hfree : ∀ b, (st j).G.nx ≤ b → b < (st j).s1.nx → J.blk b = none := by
      intro b h1 h2
      cases h : J.blk b with
      | none => rfl
      | some p =>
        exfalso
        rcases hI.dom b p h with h3 | ⟨i, i1, i2, i3, i4, i5⟩
        · omega
        · obtain ⟨oi, hoi⟩ := R.op i1
          have hfi := (R.run.facts i oi i1 hoi i3).1
          have hne : i ≠ j := fun e => hD (e ▸ i2)
          rcases Nat.lt_or_ge i j with h6 | h6
          · have := R.run.grows (Nat.le_refl _) (i + 1) j (by omega) (by omega)
            rw [hfi.nx] at this
            omega
          · have := R.run.grows (Nat.le_refl _) (j + 1) i (by omega) (by omega)
            rw [hf.nx] at this
            omega
    have hlate : ∀ i, j < i → i < ops.size → D i → (st i).wd = true → ∀ b, hit (st j) b → ¬ hit (st i) b := fun i h1 h2 h3 h4 b h5 => R.left h1 h2 h4 hw (fun k => hD (hB i j h3 h2 k)) h5
    obtain ⟨m1, m2, m3⟩ := Dyn.merge (C' := CC st (fun i => D i ∨ i = j) ops.size) (Wp' := WW g ops st (fun i => D i ∨ i = j)) (fl := (Jc ops.size).fl) hI.dyn j2 rfl hon hfree hfl1 (fun r x h => by rw [← hI.fl]; exact h)
      (fun b => by
        obtain ⟨c1, c2⟩ := CC_add (st := st) (b := b) hD ops.size hj fun i h1 h2 h3 h4 _ h5 => hlate i h1 h2 h3 h4 b h5
        by_cases h : hit (st j) b
        · rw [c1 hw h]; exact (if_pos h).symm
        · rw [c2 fun k => h k.2]; exact (if_neg h).symm)
      (fun b hb => by
        obtain ⟨k1, k2, k3⟩ := hf.hit b hb
        have e := hagr b k3 k2
        refine ⟨by rw [e]; exact k2, k3, k1, ?_⟩
        cases hv : (st j).V.get b with
        | none => exact absurd hv k2
        | some x =>
          obtain ⟨p, _, q1, _, _⟩ := hI.dyn.objs b x (by rw [e, hv])
          obtain ⟨q, _, q2, _, _⟩ := hmj.objs b x trivial (hf.sub b x hv)
          exact ⟨p, Io.on_blk q1 q2⟩)
      (fun b h1 h2 => by
        have h1 : (st j).G.nx ≤ b := h1
        rw [CC_after ops.size (n := 0) (by omega)]
        · exact (R.run.mem 0 (by omega)).top b (by omega)
        · intro i _ i1 i2 i3 hh
          obtain ⟨oi, hoi⟩ := R.op i1
          have hfi := (R.run.facts i oi i1 hoi i3).1
          have hne : i ≠ j := fun e => hD (e ▸ i2)
          rcases Nat.lt_or_ge i j with h6 | h6
          · have := R.run.grows (Nat.le_refl _) (i + 1) j (by omega) (by omega)
            rw [hfi.nx] at this
            rcases hh with hh | hh
            · have := (hfi.hit b hh).1; have := hfi.le; omega
            · omega
          · exact hlate i (by omega) i1 i2 i3 b (.inr ⟨h1, h2⟩) hh)
      (fun b hb => by
        have hb : (st j).G.nx ≤ b := hb
        unfold StepD.sc
        cases (st j).cl with
        | true => trivial
        | false => exact .inr hb)
      (fun b => by
        unfold WW
        constructor
        · rintro (h | ⟨i, h1, h2 | h2, h3⟩)
          · exact .inl (.inl h)
          · exact .inl (.inr ⟨i, h1, h2, h3⟩)
          · subst h2; exact .inr h3.2
        · rintro ((h | ⟨i, h1, h2, h3⟩) | h)
          · exact .inl h
          · exact .inr ⟨i, h1, .inl h2, h3⟩
          · exact .inr ⟨j, hj, .inr rfl, hw, h⟩)
      hmj.bnx
    refine hK _ _ w' ⟨m1, rfl, ?_, hI.le.trans m2, ?_, ?_, ?_⟩
    · intro b p hp
      simp only [Io.join] at hp
      split at hp
      · rename_i h; exact .inr ⟨j, hj, .inr rfl, hw, h.1, h.2⟩
      · rcases hI.dom b p hp with h | ⟨i, h1, h2, h3⟩
        · exact .inl h
        · exact .inr ⟨i, h1, .inl h2, h3⟩
    · rw [put_size]; exact hI.size
    · exact R.tm_put hoj hD hB m2 (by unfold tv; rw [hw]; exact j3.mono m3) hI.size hI.tm
    · have : (({ a with defers := a.defers } : Act).put o.dst u).defers = a.defers := by cases o.dst <;> rfl
      rw [this]; exact hI.df.mono m2
end
end Go.AM
namespace Go.AM
open Go Go.Proofs.YtdflbipaicpdcaaGreatDoor
variable {P : Program}

/-- how many are left -/
def unl (l : Array Bool) : Nat → Nat
  | 0 => 0
  | n + 1 => unl l n + (if l.getD n false = true then 0 else 1)

theorem unl_zero {l : Array Bool} : ∀ n, unl l n = 0 → ∀ i, i < n → l.getD i false = true
  | 0, _, i, hi => by omega
  | n + 1, h, i, hi => by
    simp only [unl] at h
    by_cases e : l.getD n false = true
    · rw [if_pos e] at h
      rcases Nat.lt_or_ge i n with h' | h'
      · exact unl_zero n (by omega) i h'
      · obtain rfl : i = n := by omega
        exact e
    · rw [if_neg e] at h; omega

theorem getD_set {l : Array Bool} {j : Nat} (hj : j < l.size) (i : Nat) : (l.setIfInBounds j true).getD i false = true ↔ l.getD i false = true ∨ i = j := by
  simp only [Array.getD_eq_getD_getElem?]
  by_cases e : j = i
  · subst e
    rw [Array.getElem?_setIfInBounds_self_of_lt hj]
    simp
  · rw [Array.getElem?_setIfInBounds_ne e]
    exact ⟨.inl, fun h => h.elim id fun h => absurd h.symm e⟩

theorem unl_set {l : Array Bool} {j : Nat} (hj : j < l.size) (h0 : ¬ l.getD j false = true) : ∀ n, (n ≤ j → unl (l.setIfInBounds j true) n = unl l n) ∧ (j < n → unl (l.setIfInBounds j true) n + 1 = unl l n)
  | 0 => ⟨fun _ => rfl, fun h => by omega⟩
  | n + 1 => by
    obtain ⟨i1, i2⟩ := unl_set hj h0 n
    have hn := getD_set hj n
    simp only [unl]
    refine ⟨fun h => ?_, fun h => ?_⟩
    · rw [i1 (by omega)]
      by_cases e : l.getD n false = true
      · rw [if_pos e, if_pos (hn.2 (.inl e))]
      · rw [if_neg e, if_neg fun k => (hn.1 k).elim e fun k => by omega]
    · rcases Nat.lt_or_ge j n with h' | h'
      · have := i2 h'
        by_cases e : l.getD n false = true
        · rw [if_pos e, if_pos (hn.2 (.inl e))]; omega
        · rw [if_neg e, if_neg fun k => (hn.1 k).elim e fun k => by omega]; omega
      · obtain rfl : n = j := by omega
        rw [i1 (Nat.le_refl _), if_pos (hn.2 (.inr rfl)), if_neg h0]

section
variable {plug : Plug} {rec : Rec} {g : Gh} {E : En} {ops : Array Oper} {st : Nat → StepD} {Jc : Nat → Io} {wc : Nat → World} {ac : Nat → Act}
variable (R : Reg P plug rec g E ops st Jc wc ac)
include R

theorem Reg.all {listed : Array Bool} (hs : listed.size = ops.size) (h : Region.ready .any ops listed = []) : ∀ j, j < ops.size → listed.getD j false = true := by
  intro j
  induction j using Nat.strongRecOn with
  | _ j ih =>
    intro hj
    refine Classical.byContradiction fun hn => ?_
    obtain ⟨o, ho⟩ := R.op hj
    have : j ∈ Region.ready .any ops listed := by
      refine mem_ready.2 ⟨?_, o, ho, fun e he hb => ?_⟩
      · have hjs : j < listed.size := by rw [hs]; exact hj
        simp only [Array.getD_eq_getD_getElem?, Array.getElem?_eq_getElem hjs, Option.getD_some] at hn ⊢
        simpa using hn
      · have := List.all_eq_true.1 (regOk_spec R.ok ho).1 e (by simpa using he)
        rw [hb] at this
        simp only [Bool.not_true, Bool.false_or] at this
        have hlt := nblt_true this
        exact ih e.on hlt (by omega)
    rw [h] at this
    simp at this

theorem Reg.wsum : ∀ n, n ≤ ops.size → ∀ b, b ∈ (st n).G.W ↔ b ∈ (st 0).G.W ∨ ∃ i, i < n ∧ (st i).wd = true ∧ b ∈ (st i).s1.W ∧ b < g.base
  | 0, _, b => ⟨.inl, fun h => h.elim id fun ⟨i, hi, _⟩ => by omega⟩
  | n + 1, hn, b => by
    have ih := Reg.wsum n (by omega) b
    obtain ⟨o, ho⟩ := R.op (i := n) (by omega)
    cases hw : (st n).wd with
    | false =>
      rw [(R.run.skips n o (by omega) ho hw).W, ih]
      constructor
      · rintro (h | ⟨i, h1, h2⟩)
        · exact .inl h
        · exact .inr ⟨i, by omega, h2⟩
      · rintro (h | ⟨i, h1, h2⟩)
        · exact .inl h
        · rcases Nat.lt_or_ge i n with h | h
          · exact .inr ⟨i, h, h2⟩
          · obtain rfl : i = n := by omega
            rw [hw] at h2; cases h2.1
    | true =>
      rw [(R.run.facts n o (by omega) ho hw).1.W, ih, R.hbase]
      constructor
      · rintro ((h | ⟨i, h1, h2⟩) | h)
        · exact .inl h
        · exact .inr ⟨i, by omega, h2⟩
        · exact .inr ⟨n, by omega, hw, h⟩
      · rintro (h | ⟨i, h1, h2⟩)
        · exact .inl (.inl h)
        · rcases Nat.lt_or_ge i n with h | h
          · exact .inl (.inr ⟨i, h, h2⟩)
          · obtain rfl : i = n := by omega
            exact .inr h2.2

theorem Reg.dfs : ∀ n, n ≤ ops.size → (st n).G.df = (st 0).G.df
  | 0, _ => rfl
  | n + 1, hn => by
    obtain ⟨o, ho⟩ := R.op (i := n) (by omega)
    cases hw : (st n).wd with
    | false => rw [(R.run.skips n o (by omega) ho hw).df]; exact Reg.dfs n (by omega)
    | true => rw [(R.run.facts n o (by omega) ho hw).1.df]; exact Reg.dfs n (by omega)

theorem Reg.done {J0 J : Io} {D : Nat → Prop} {a : Act} {w : World} (hD : ∀ i, i < ops.size → D i) (hI : InvD g E ops st J0 (Jc ops.size) D J a w) : J0.Le J ∧ Mem g J All (st ops.size).G w ∧ Fra J E (st ops.size).G a := by
  have hN := R.run.mem ops.size (Nat.le_refl _)
  have hFN := R.run.fra ops.size (Nat.le_refl _)
  have hd : Dyn g J (fun b => (st ops.size).G.H.get b) (fun b => b ∈ (st ops.size).G.W) w := by
    refine hI.dyn.congr (fun b => (CC_before R.run ops.size (Nat.le_refl _) fun i hi _ _ => hD i hi).symm) fun b => ?_
    rw [R.wsum ops.size (Nat.le_refl _) b]
    unfold WW
    constructor
    · rintro (h | ⟨i, h1, h2⟩)
      · exact .inl h
      · exact .inr ⟨i, h1, hD i h1, h2⟩
    · rintro (h | ⟨i, h1, _, h2⟩)
      · exact .inl h
      · exact .inr ⟨i, h1, h2⟩
  refine ⟨hI.le, hd.mem ⟨?_, hN.top, hN.nd, by rw [hI.fl]; exact hN.dag, hN.suf, by rw [hI.fl]; exact hN.flr, hN.keep, fun b hb => ⟨(hN.was b hb).1, (hN.was b hb).2.1⟩, hN.bnx, hN.nxs⟩, ⟨hI.size, ?_, hFN.tmps.2.2⟩, by rw [R.dfs ops.size (Nat.le_refl _)]; exact hI.df⟩
  · intro b p hp
    rcases hI.dom b p hp with h | ⟨i, h1, h2, h3, h4, h5⟩
    · have := R.run.grows (Nat.le_refl _) 0 ops.size (by omega) (Nat.le_refl _)
      omega
    · obtain ⟨o, ho⟩ := R.op h1
      have hf := (R.run.facts i o h1 ho h3).1
      have := R.run.grows (Nat.le_refl _) (i + 1) ops.size (by omega) (Nat.le_refl _)
      rw [hf.nx] at this
      omega
  · intro t ht
    have := hI.tm t ht
    rw [TT_before R.run R.hnt ops.size (Nat.le_refl _) fun i hi _ => hD i hi] at this
    exact this

theorem Reg.any {r : Option Nat} {J0 : Io} {Q : Exit → Act → World → Prop} (hQ : ∀ J a w, J0.Le J → Mem g J All (st ops.size).G w → Fra J E (st ops.size).G a → Q .normal a w) : ∀ (fuel : Nat) (listed : Array Bool) (J : Io) (a : Act) (w : World), listed.size = ops.size → unl listed ops.size ≤ fuel →
    (∀ j o, listed.getD j false = true → ops[j]? = some o → ∀ e ∈ o.after, Region.binds .any e = true → listed.getD e.on false = true) → InvD g E ops st J0 (Jc ops.size) (fun i => listed.getD i false = true) J a w → wpAnyIn (Fr r) 0 P .any ops Q fuel listed a w
  | 0, listed, J, a, w, hs, hu, hcl, hI => by
    have hall := unl_zero (l := listed) ops.size (by omega)
    refine ⟨?_, ?_⟩
    · cases h : Region.ready .any ops listed with
      | nil => rfl
      | cons j js =>
        have hm : j ∈ Region.ready .any ops listed := by rw [h]; simp
        obtain ⟨h1, o, ho, _⟩ := mem_ready.1 hm
        have hj : j < ops.size := (Array.getElem?_eq_some_iff.1 ho).1
        have h2 := hall j hj
        have hjs : j < listed.size := by rw [hs]; exact hj
        simp only [Array.getD_eq_getD_getElem?, Array.getElem?_eq_getElem hjs, Option.getD_some] at h1 h2
        rw [h1] at h2; cases h2
    · obtain ⟨k1, k2, k3⟩ := R.done hall hI
      exact hQ J a w k1 k2 k3
  | fuel + 1, listed, J, a, w, hs, hu, hcl, hI => by
    refine ⟨fun h => ?_, fun j hj => ?_⟩
    · obtain ⟨k1, k2, k3⟩ := R.done (R.all hs h) hI
      exact hQ J a w k1 k2 k3
    · obtain ⟨h1, o, ho, hedge⟩ := mem_ready.1 hj
      have hjo : j < ops.size := (Array.getElem?_eq_some_iff.1 ho).1
      have hjs : j < listed.size := by rw [hs]; exact hjo
      have hnot : ¬ listed.getD j false = true := by
        simp only [Array.getD_eq_getD_getElem?, Array.getElem?_eq_getElem hjs, Option.getD_some] at h1 ⊢
        rw [h1]; simp
      have hanc := anc_done (ops := ops) (fun j o h => (regOk_spec R.ok h).1) (D := fun i => listed.getD i false = true) (fun j o hd ho => hcl j o hd ho)
      refine R.step ho hnot (fun i hi => hanc j o ho hedge i hi) (fun i k hi hio hk => ?_) hI fun J' a' w' hI' => ?_
      · obtain ⟨oi, hoi⟩ := R.op hio
        exact hanc i oi hoi (hcl i oi hi hoi) k hk
      · have e : (fun i => listed.getD i false = true ∨ i = j) = fun i => (listed.setIfInBounds j true).getD i false = true := funext fun i => propext (getD_set hjs i).symm
        rw [e] at hI'
        refine Reg.any hQ fuel _ J' a' w' (by simpa using hs) ?_ ?_ hI'
        · have := (unl_set hjs hnot ops.size).2 hjo
          omega
        · intro i oi hi hoi ed he hb
          rw [getD_set hjs] at hi ⊢
          rcases hi with hi | hi
          · exact .inl (hcl i oi hi hoi ed he hb)
          · subst hi
            rw [ho] at hoi; cases hoi
            exact .inl (hedge ed he hb)
end

theorem drawn_sound {plug : Plug} {rec : Rec} (hG : Goes P rec) (hP : Enters P) (hplug : PlugOk P plug) (hmix : P.follows .mixedOrders = true) {g : Gh} {J : Io} {E : En} {ops : Array Oper} {s s' : St} {a : Act} {w : World} {r : Option Nat} {id : Nat} (hbase : g.base = E.base) (hnt : E.nt ≤ 60000)
    (h : regionA P plug rec ops true E s = some s') (hM : Mem g J All s w) (hF : Fra J E s a) : (Code.region id ops true).wpIn (Fr r) 0 P (fun e a' w' => e = .normal ∧ ∃ J', J.Le J' ∧ Mem g J' All s' w' ∧ Fra J' E s' a') a w := by
  unfold regionA at h
  simp only [cond_true] at h
  cases hok : regOk ops with
  | false => rw [hok] at h; simp at h
  | true =>
    rw [hok] at h
    simp only [cond_true] at h
    obtain ⟨st, e1, e2, e3, hl⟩ := drawnGo_trace _ _ _ _ h
    have hl' : ∀ (i : Nat) (o : Oper), ops[i]? = some o → Local P plug rec E ops.toList (ancs ops.toList []) o i (st i) (st (i + 1)).G (st (i + 1)).ds := fun i o ho => by
      have := hl i o (by rw [Array.getElem?_toList]; exact ho)
      rw [Nat.zero_add] at this
      exact this
    have e3' : (st ops.size).G = s' := by simpa using e3
    rw [← e1] at hM hF
    obtain ⟨Jc, wc, ac, e0, hr⟩ := run_exists hG hP hplug hbase hnt (fun i o ho => (regOk_spec hok ho).2.1) e2 hl' hM hF ops.size (Nat.le_refl _)
    have R : Reg P plug rec g E ops st Jc wc ac := ⟨hG, hP, hplug, hbase, hnt, hok, e2, hl', hr⟩
    have hle0 := hr.les 0 ops.size (by omega) (Nat.le_refl _)
    rw [e0] at hle0
    have hJ : J.Le { blk := J.blk, fl := (Jc ops.size).fl } := ⟨fun _ _ h => h, hle0.fl⟩
    have hno : ∀ i, ¬ (Array.replicate ops.size false).getD i false = true := fun i => by
      simp only [Array.getD_eq_getD_getElem?, Array.getElem?_replicate]
      split <;> simp
    refine wpIn_region_any hmix (R.any (J0 := J) (fun J' a' w' k1 k2 k3 => ⟨rfl, J', k1, by rw [← e3']; exact k2, by rw [← e3']; exact k3⟩) ops.size _ { blk := J.blk, fl := (Jc ops.size).fl } a _ (by simp) ?_ (fun j o hj => absurd hj (hno j)) ?_)
    · have : ∀ n, unl (Array.replicate ops.size false) n ≤ n := by
        intro n
        induction n with
        | zero => exact Nat.le_refl _
        | succ n ih => simp only [unl]; split <;> omega
      exact this _
    · refine ⟨?_, rfl, ?_, hJ, hF.tmps.1, ?_, hF.dfs.mono hJ⟩
      · have hd := hM.dyn
        have h1 : Dyn g { blk := J.blk, fl := (Jc ops.size).fl } (fun b => (st 0).G.H.get b) (fun b => b ∈ (st 0).G.W) w :=
          ⟨hd.inj, hd.lt, fun b o ho => let ⟨p, o', q1, q2, q3⟩ := hd.objs b o ho; ⟨p, o', q1, q2, q3.mono hJ⟩, hd.ext.trans hJ, hd.old, hd.size, hd.frame, hd.new, hd.glob, hd.oo⟩
        refine Dyn.of_heap (w := w) (h1.congr (fun b => CC_after ops.size (n := 0) (by omega) fun i _ _ hi => absurd hi (hno i)) fun b => ?_) rfl
        unfold WW
        constructor
        · rintro (h | ⟨i, _, hi, _⟩)
          · exact h
          · exact absurd hi (hno i)
        · exact .inl
      · intro b p hp; exact .inl (hM.dom b p hp)
      · intro x hx
        rw [TT_after ops.size (n := 0) (by omega) fun i _ _ hi => absurd hi (hno i)]
        exact (hF.tmps.2.1 x hx).mono hJ
end Go.AM
namespace Go.AM
open Go Go.Proofs.YtdflbipaicpdcaaGreatDoor
variable {P : Program}

theorem level_sound {plug : Plug} {rec : Rec} (hG : Goes P rec) (hP : Enters P) (hplug : PlugOk P plug) (hmix : P.follows .mixedOrders = true) : Goes P (level P plug rec) := by
  intro c E s ex s' h g J a w r hbase hnt hM hF hr
  cases c with
  | skip =>
    simp only [level, Option.some.injEq, Prod.mk.injEq] at h
    obtain ⟨rfl, rfl⟩ := h
    exact wpIn_skip ⟨rfl, J, .refl _, hM, hF⟩
  | label l =>
    simp only [level, Option.some.injEq, Prod.mk.injEq] at h
    obtain ⟨rfl, rfl⟩ := h
    exact wpIn_label ⟨rfl, J, .refl _, hM, hF⟩
  | region id ops draw =>
    simp only [level] at h
    cases hre : regionA P plug rec ops draw E s with
    | none => rw [hre] at h; cases h
    | some s2 =>
      rw [hre] at h
      simp only [Option.some.injEq, Prod.mk.injEq] at h
      obtain ⟨rfl, rfl⟩ := h
      cases draw with
      | true => exact drawn_sound hG hP hplug hmix hbase hnt hre hM hF
      | false =>
        unfold regionA at hre
        simp only [cond_false] at hre
        refine wpIn_region (plainGo_sound hG hP hplug hbase hnt (List.range ops.size) ops.toList ?_ hre hr hM hF fun J' a' w' j1 j2 j3 => ⟨rfl, J', j1, j2, j3⟩)
        apply List.ext_getElem?
        intro i
        simp only [List.getElem?_map]
        rcases Nat.lt_or_ge i ops.size with hi | hi
        · rw [List.getElem?_range hi, Array.getElem?_toList]
          simp [Array.getElem?_eq_getElem hi]
        · rw [List.getElem?_eq_none (by simpa using hi), List.getElem?_eq_none (by simpa using hi)]
          rfl
  | seq x y =>
    simp only [level] at h
    cases hx : rec x E s with
    | none => rw [hx] at h; cases h
    | some z =>
      obtain ⟨e1, s1⟩ := z
      rw [hx] at h
      refine wpIn_seq (wpIn_mono (hG x E s e1 s1 hx g J a w r hbase hnt hM hF hr) fun e a' w' ⟨hee, J', j1, j2, j3⟩ => ?_)
      subst hee
      cases e with
      | normal =>
        simp only at h
        exact wpIn_mono (hG y E s1 ex s' h g J' a' w' r hbase hnt j2 j3 (hr.mono j1)) fun e a2 w2 ⟨k1, J2, k2, k3, k4⟩ => ⟨k1, J2, j1.trans k2, k3, k4⟩
      | _ =>
        simp only [Option.some.injEq, Prod.mk.injEq] at h
        obtain ⟨rfl, rfl⟩ := h
        exact ⟨rfl, J', j1, j2, j3⟩
  | cond c x y =>
    simp only [level] at h
    cases hok : okx c with
    | false => rw [hok] at h; simp at h
    | true =>
      rw [hok] at h
      simp only [cond_true] at h
      have hd := Den.ev hF hM hok
      have key : ∀ b, ev s c = .bool b → a.eval c = .bool b := fun b e => by
        rw [e] at hd
        generalize a.eval c = u at hd
        cases hd; rfl
      split at h
      · rename_i e; exact wpIn_cond_true (key _ e) (hG x E s ex s' h g J a w r hbase hnt hM hF hr)
      · rename_i e; exact wpIn_cond_false (key _ e) (hG y E s ex s' h g J a w r hbase hnt hM hF hr)
      · cases h
  | block id body =>
    simp only [level] at h
    cases hx : rec body E s with
    | none => rw [hx] at h; cases h
    | some z =>
      obtain ⟨e1, s1⟩ := z
      rw [hx] at h
      refine wpIn_block (wpIn_mono (hG body E s e1 s1 hx g J a w r hbase hnt hM hF hr) fun e a' w' ⟨hee, J', j1, j2, j3⟩ => ?_)
      subst hee
      cases e with
      | exit id' =>
        simp only at h
        unfold Exit.inBlock
        simp only
        cases hb : Nat.beq id' id with
        | true =>
          rw [hb] at h
          simp only [cond_true, Option.some.injEq, Prod.mk.injEq] at h
          obtain ⟨rfl, rfl⟩ := h
          rw [if_pos (nbeq_true hb)]
          exact ⟨rfl, J', j1, j2, j3⟩
        | false =>
          rw [hb] at h
          simp only [cond_false, Option.some.injEq, Prod.mk.injEq] at h
          obtain ⟨rfl, rfl⟩ := h
          rw [if_neg fun e => by subst e; rw [show Nat.beq id' id' = true from Nat.beq_refl id'] at hb; cases hb]
          exact ⟨rfl, J', j1, j2, j3⟩
      | _ =>
        simp only [Option.some.injEq, Prod.mk.injEq] at h
        obtain ⟨rfl, rfl⟩ := h
        exact ⟨rfl, J', j1, j2, j3⟩
  | loop body =>
    simp only [level] at h
    exact (loopGo_sound hG hbase hnt _ h hr hM hF).loop
  | rangeFunc gv ps asg body =>
    simp only [level] at h
    cases hok : okx gv with
    | false => rw [hok] at h; simp at h
    | true =>
      rw [hok] at h
      simp only [cond_true] at h
      exact rangeA_sound hG hP hplug hbase hnt hok h hM hF hr
  | exit id =>
    simp only [level, Option.some.injEq, Prod.mk.injEq] at h
    obtain ⟨rfl, rfl⟩ := h
    exact wpIn_exit ⟨rfl, J, .refl _, hM, hF⟩
  | scope body =>
    simp only [level] at h
    exact (scopeGo_sound hG hbase hnt _ _ h hr hM hF).scope
  | goto l =>
    simp only [level, Option.some.injEq, Prod.mk.injEq] at h
    obtain ⟨rfl, rfl⟩ := h
    exact wpIn_goto ⟨rfl, J, .refl _, hM, hF⟩
  | ret =>
    simp only [level, Option.some.injEq, Prod.mk.injEq] at h
    obtain ⟨rfl, rfl⟩ := h
    exact wpIn_ret ⟨rfl, J, .refl _, hM, hF⟩
  | refuse x => simp [level] at h

theorem run_sound {plug : Plug} (hP : Enters P) (hplug : PlugOk P plug) (hmix : P.follows .mixedOrders = true) : ∀ n, Goes P (run P plug n)
  | 0 => fun c E s ex s' h => by simp [run] at h
  | n + 1 => level_sound (run_sound hP hplug hmix n) hP hplug hmix

theorem call_sound {plug : Plug} (hP : Enters P) (hplug : PlugOk P plug) (hmix : P.follows .mixedOrders = true) {n : Nat} {g : Gh} {J : Io} {s s' : St} {w : World} {f : FuncId} {args args' : List Value} {v : Value} (hb : ∃ fn, P.funcs[f]? = some fn ∧ fn.body ≠ none)
    (h : call P plug n f args g.base s = some (v, s')) (hM : Mem g J All s w) (hd : DenL J args args') : Calls P f args'.toArray w (CallPost g J s' v) := by
  obtain ⟨fn, h1, h2⟩ := hb
  rcases (callFn_sound (run_sound hP hplug hmix n) hP hplug h hM hd).1 with ⟨_, hc⟩ | ⟨hc, _⟩
  · exact callsIn_wide.1 hc
  · rw [hP f fn h1 h2] at hc
    simp at hc
end Go.AM
namespace Go.AM
open Go Go.Proofs Go.Proofs.YtdflbipaicpdcaaGreatDoor

theorem enters_of {P : Program} (h : (P.funcs.toList.all fun fn => fn.body.isNone || !(fn.name == "runtime.NumGoroutine")) = true) : Enters P := by
  intro f fn hf hb args w
  have hm : fn ∈ P.funcs.toList := by
    have := Array.mem_of_getElem? hf
    simpa using this
  have h1 := List.all_eq_true.1 h fn hm
  cases hbody : fn.body with
  | none => exact absurd hbody hb
  | some c =>
    rw [hbody] at h1
    have h2 : fn.name ≠ "runtime.NumGoroutine" := by simpa using h1
    simp [callFunc, hf, h2, hbody]

theorem tryz_enters : Enters Tryz.prog := enters_of (by kernel_rfl)
theorem tryz_mixed : Tryz.prog.follows .mixedOrders = true := by kernel_rfl

end Go.AM
namespace Go.AM
open Go Go.Proofs.YtdflbipaicpdcaaGreatDoor
variable {P : Program}

theorem SameO.of_below {w w' : World} (h : Go.RowKit.Below w.heap.size w w') : SameO w w' := ⟨h.os, h.output⟩

/-- a block that somebody else has made is taken in; whatever else was made is forgotten -/
theorem Mem.adopt {g : Gh} {J : Io} {S : Nat → Prop} {s s1 : St} {w w' : World} {o : AO} {b : Nat} {o' : Obj} {p : Pl} (hM : Mem g J S s w) (hn : AM.new s o = some (b, s1))
    (hp : w.heap.size ≤ p.blk) (hp2 : p.blk < w'.heap.size) (hsz : w.heap.size ≤ w'.heap.size) (hold : ∀ x, x < w.heap.size → w'.heap[x]? = w.heap[x]?) (hat : w'.heap[p.blk]? = some o') (hd : ObjDen (J.add b p) p o o') (ho : SameO w w' := by first | exact ⟨rfl, rfl⟩ | assumption | (refine SameO.of_below ?_; assumption)) : J.Le (J.add b p) ∧ Mem g (J.add b p) S s1 w' ∧ (J.add b p).blk b = some p := by
  obtain ⟨rfl, eT, en, eW, eD, ed, edf, hnx, eH⟩ := new_spec hn
  have hfree : ∀ q, J.blk s.nx = some q → False := fun q hq => absurd (hM.dom _ _ hq) (Nat.lt_irrefl _)
  have hle := Io.add_le p hfree
  have hblk : ∀ x q, x ≠ s.nx → (J.add s.nx p).blk x = some q → J.blk x = some q := fun x q hx hq => by rw [Io.add_other p hx] at hq; exact hq
  refine ⟨hle, ?_, Io.add_same J _ p⟩
  refine ⟨?_, ?_, ?_, ?_, ?_, by rw [ed, eD]; exact hM.nd, by rw [eD]; exact hM.dag, by rw [eD]; exact hM.suf, by rw [ed]; exact hM.flr, hM.ext.trans hle, ?_, ?_, ?_, ?_, ?_, ?_, by rw [en]; exact Nat.le_succ_of_le hM.bnx, by rw [en]; exact hnx, ?_, hM.oo.trans ho⟩
  · intro x y q r hx hy h1 h2 e1 e2 e
    rw [eH] at h1 h2
    by_cases hxn : x = s.nx
    · by_cases hyn : y = s.nx
      · rw [hxn, hyn]
      · subst hxn
        rw [Io.add_same] at e1
        cases e1
        have := hM.lt _ _ (hblk y r hyn e2)
        omega
    · by_cases hyn : y = s.nx
      · subst hyn
        rw [Io.add_same] at e2
        cases e2
        have := hM.lt _ _ (hblk x q hxn e1)
        omega
      · rw [if_neg hxn] at h1
        rw [if_neg hyn] at h2
        exact hM.inj x y q r hx hy h1 h2 (hblk x q hxn e1) (hblk y r hyn e2) e
  · intro x q hq
    by_cases hxn : x = s.nx
    · subst hxn; rw [Io.add_same] at hq; cases hq; omega
    · have := hM.lt _ _ (hblk x q hxn hq); omega
  · intro x q hq
    rw [en]
    by_cases hxn : x = s.nx
    · omega
    · have := hM.dom _ _ (hblk x q hxn hq); omega
  · intro x ox hS hx
    rw [eH] at hx
    by_cases hxn : x = s.nx
    · subst hxn
      rw [if_pos rfl] at hx
      cases hx
      exact ⟨p, o', Io.add_same J _ p, hat, hd⟩
    · rw [if_neg hxn] at hx
      obtain ⟨q, ox', h1, h2, h3⟩ := hM.objs x ox hS hx
      exact ⟨q, ox', hle.blk _ _ h1, by rw [hold _ (hM.lt _ _ h1)]; exact h2, h3.mono hle⟩
  · intro x hx
    rw [en] at hx
    rw [eH, if_neg (by omega)]
    exact hM.top x (by omega)
  · intro x q hb hq
    refine hM.old x q hb (hblk x q ?_ hq)
    have := hM.bnx; omega
  · have := hM.size; omega
  · intro x hx hb
    rw [hold x (Nat.lt_of_lt_of_le hx hM.size)]
    exact hM.frame x hx fun c q hc => hb c q (eW ▸ hc)
  · intro x q hb hq
    by_cases hxn : x = s.nx
    · subst hxn; rw [Io.add_same] at hq; cases hq; exact .inl (Nat.le_trans hM.size hp)
    · rw [eW]; exact hM.new x q hb (hblk x q hxn hq)
  · intro x hb hx
    rw [eW] at hx
    rw [eH, if_neg (by have := hM.bnx; omega)]
    exact hM.keep x hb hx
  · intro x hx; rw [eW] at hx; exact hM.was x hx
  · intro i hi
    obtain ⟨q, h1, h2, h3⟩ := hM.glob i hi
    exact ⟨q, hle.blk _ _ h1, h2, h3⟩

/-- whatever was made is forgotten -/
theorem Mem.later {g : Gh} {J : Io} {S : Nat → Prop} {s : St} {w w' : World} (hM : Mem g J S s w) (hsz : w.heap.size ≤ w'.heap.size) (hold : ∀ x, x < w.heap.size → w'.heap[x]? = w.heap[x]?) (ho : SameO w w' := by first | exact ⟨rfl, rfl⟩ | assumption | (refine SameO.of_below ?_; assumption)) : Mem g J S s w' :=
  ⟨hM.inj, fun b p h => Nat.lt_of_lt_of_le (hM.lt b p h) hsz, hM.dom, fun b o hS ho => let ⟨p, o', h1, h2, h3⟩ := hM.objs b o hS ho; ⟨p, o', h1, by rw [hold _ (hM.lt _ _ h1)]; exact h2, h3⟩, hM.top, hM.nd, hM.dag, hM.suf, hM.flr, hM.ext, hM.old, Nat.le_trans hM.size hsz,
    fun x hx hb => by rw [hold x (Nat.lt_of_lt_of_le hx hM.size)]; exact hM.frame x hx hb, hM.new, hM.keep, hM.was, hM.bnx, hM.nxs, hM.glob, hM.oo.trans ho⟩

/-- a row of ints that somebody else has made -/
theorem Mem.row_int {g : Gh} {J : Io} {S : Nat → Prop} {s s1 : St} {w w' : World} {t t' : TypeId} {l : List Value} {b blk off : Nat} {c' : Array Value} {fz : Nat × Nat} (hM : Mem g J S s w) (hn : AM.new s (.cells t true l) = some (b, s1))
    (hp : w.heap.size ≤ blk) (hsz : w.heap.size ≤ w'.heap.size) (hold : ∀ x, x < w.heap.size → w'.heap[x]? = w.heap[x]?) (hat : w'.heap[blk]? = some (.cells c' t' fz))
    (hl : off + l.length ≤ c'.size) (hc : ∀ i v, l[i]? = some v → c'[off + i]? = some v) (hfl : ∀ J, DenL J l l) (ho : SameO w w' := by first | exact ⟨rfl, rfl⟩ | assumption | (refine SameO.of_below ?_; assumption)) :
    J.Le (J.add b ⟨blk, off, c'.size⟩) ∧ Mem g (J.add b ⟨blk, off, c'.size⟩) S s1 w' ∧ (J.add b ⟨blk, off, c'.size⟩).blk b = some ⟨blk, off, c'.size⟩ := by
  refine hM.adopt hn (p := ⟨blk, off, c'.size⟩) (o' := .cells c' t' fz) hp (Array.getElem?_eq_some_iff.1 hat).1 hsz hold hat ?_ ho
  refine ⟨c', t', fz, rfl, rfl, (fun h => by cases h), hl, ?_⟩
  intro i v hv
  obtain ⟨u, hu, hd⟩ := (hfl (J.add b ⟨blk, off, c'.size⟩)).get hv
  rw [hv] at hu
  cases hu
  exact ⟨v, hc i v hv, hd⟩
end Go.AM
