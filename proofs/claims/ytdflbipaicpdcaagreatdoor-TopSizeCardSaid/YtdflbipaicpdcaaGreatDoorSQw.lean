/- The abstract machine: what a run at given data tells holds in every world with the library's table. The abstract machine: what a run at given data tells, kept as a summary: dyadic numbers. The abstract machine: a run with floats that are not known holds in every world: its first state. The abstract machine: a run with floats that are not known holds in every world: its nodes are made again. The abstract machine: a run with floats that are not known holds in every world. The abstract machine: a table of runs with floats that are not known is a summary that is sound. The abstract machine: a run without arguments that comes to true holds in every world. The abstract machine: the beginning of a law's call: a world with the library's table, and a row of floats that came in. No condition. -/
import Derived.Test.YtdflbipaicpdcaaGreatDoorSDe
import Derived.Test.YtdflbipaicpdcaaGreatDoorSQq
set_option linter.unusedVariables false
set_option linter.unusedSimpArgs false
set_option maxRecDepth 100000
namespace Go.AM
open Go Go.RowKit Go.Proofs Go.Proofs.YtdflbipaicpdcaaGreatDoor

/-- a block that is there, and that nothing stands for yet, is taken in -/
theorem Mem.adopt2 {g : Gh} {J : Io} {S : Nat → Prop} {s s1 : St} {w : World} {o : AO} {b : Nat} {o' : Obj} {p : Pl} (hM : Mem g J S s w) (hn : AM.new s o = some (b, s1))
    (hfr : ∀ x q, J.blk x = some q → q.blk ≠ p.blk) (hlt : p.blk < w.heap.size) (hbase : g.w0.heap.size ≤ p.blk) (hat : w.heap[p.blk]? = some o') (hd : ObjDen (J.add b p) p o o') : J.Le (J.add b p) ∧ Mem g (J.add b p) S s1 w ∧ (J.add b p).blk b = some p := by
  obtain ⟨rfl, eT, en, eW, eD, ed, edf, hnx, eH⟩ := new_spec hn
  have hfree : ∀ q, J.blk s.nx = some q → False := fun q hq => absurd (hM.dom _ _ hq) (Nat.lt_irrefl _)
  have hle := Io.add_le p hfree
  have hblk : ∀ x q, x ≠ s.nx → (J.add s.nx p).blk x = some q → J.blk x = some q := fun x q hx hq => by rw [Io.add_other p hx] at hq; exact hq
  refine ⟨hle, ?_, Io.add_same J _ p⟩
  refine ⟨?_, ?_, ?_, ?_, ?_, by rw [ed, eD]; exact hM.nd, by rw [eD]; exact hM.dag, by rw [eD]; exact hM.suf, by rw [ed]; exact hM.flr, hM.ext.trans hle, ?_, hM.size, ?_, ?_, ?_, ?_, by rw [en]; exact Nat.le_succ_of_le hM.bnx, by rw [en]; exact hnx, ?_, hM.oo⟩
  · intro x y q r hx hy h1 h2 e1 e2 e
    rw [eH] at h1 h2
    by_cases hxn : x = s.nx
    · by_cases hyn : y = s.nx
      · rw [hxn, hyn]
      · subst hxn
        rw [Io.add_same] at e1
        cases e1
        exact absurd e.symm (hfr y r (hblk y r hyn e2))
    · by_cases hyn : y = s.nx
      · subst hyn
        rw [Io.add_same] at e2
        cases e2
        exact absurd e (hfr x q (hblk x q hxn e1))
      · rw [if_neg hxn] at h1
        rw [if_neg hyn] at h2
        exact hM.inj x y q r hx hy h1 h2 (hblk x q hxn e1) (hblk y r hyn e2) e
  · intro x q hq
    by_cases hxn : x = s.nx
    · subst hxn; rw [Io.add_same] at hq; cases hq; exact hlt
    · exact hM.lt _ _ (hblk x q hxn hq)
  · intro x q hq
    rw [en]
    by_cases hxn : x = s.nx
    · omega
    · have := hM.dom _ _ (hblk x q hxn hq); omega
  · intro x ox hS hx
    rw [eH] at hx
    by_cases hxn : x = s.nx
    · subst hxn
      rw [if_pos rfl] at hx
      cases hx
      exact ⟨p, o', Io.add_same J _ p, hat, hd⟩
    · rw [if_neg hxn] at hx
      obtain ⟨q, ox', h1, h2, h3⟩ := hM.objs x ox hS hx
      exact ⟨q, ox', hle.blk _ _ h1, h2, h3.mono hle⟩
  · intro x hx
    rw [en] at hx
    rw [eH, if_neg (by omega)]
    exact hM.top x (by omega)
  · intro x q hb hq
    refine hM.old x q hb (hblk x q ?_ hq)
    have := hM.bnx; omega
  · intro x hx hb
    exact hM.frame x hx fun c q hc => hb c q (eW ▸ hc)
  · intro x q hb hq
    by_cases hxn : x = s.nx
    · subst hxn; rw [Io.add_same] at hq; cases hq; exact .inl hbase
    · rw [eW]; exact hM.new x q hb (hblk x q hxn hq)
  · intro x hb hx
    rw [eW] at hx
    rw [eH, if_neg (by have := hM.bnx; omega)]
    exact hM.keep x hb hx
  · intro x hx; rw [eW] at hx; exact hM.was x hx
  · intro i hi
    obtain ⟨q, h1, h2, h3⟩ := hM.glob i hi
    exact ⟨q, hle.blk _ _ h1, h2, h3⟩

theorem st0_H : (∀ x, x ≠ 2 → st0.H.get x = none) ∧ st0.H.get 2 = some (.cells 5 true db64) := by
  have e : st0.H = (Tr.lf : Tr AO).set 40 2 (some (.cells 5 true db64)) := rfl
  rw [e]
  refine ⟨fun x hx => ?_, ?_⟩
  · rw [Tr.get_set 40 _ 2 _ x (by decide), if_neg hx]; rfl
  · rw [Tr.get_set 40 _ 2 _ 2 (by decide), if_pos rfl]

/-- the globals alone -/
def glo (sz : Nat) : Io := { blk := fun i => if i < 4 then some ⟨i, 0, sz⟩ else none, fl := fun _ => none }

theorem memo_mem {g : Gh} {J : Io} {s : St} {w : World} (hM : Mem g J All s w) (h : tab5 s = true) : ∃ sz, Mem ⟨w, glo sz, 4, st0.H, []⟩ (glo sz) All st0 w := by
  unfold tab5 at h
  split at h
  · rename_i t ro c ho
    obtain ⟨ht, h⟩ : t = 5 ∧ tabGo Lib.deBruijn64tab c = true := by
      cases e : Nat.beq t 5 with
      | false => rw [e] at h; simp at h
      | true => rw [e] at h; exact ⟨nbeq_true e, h⟩
    subst ht
    obtain ⟨p, c', t', fz, hp, hh, hsz, hfz, hcd⟩ := hM.row trivial ho
    obtain ⟨q, hq, q1, q2⟩ := hM.glob 2 (by decide)
    rw [hp] at hq
    cases hq
    rw [q1] at hh
    rw [q2] at hcd
    have hlt : 4 ≤ w.heap.size := by
      obtain ⟨q3, hq3, q31, _⟩ := hM.glob 3 (by decide)
      have := hM.lt _ _ hq3
      omega
    refine ⟨c'.size, ?_⟩
    have hblk : ∀ b q, (glo c'.size).blk b = some q → b < 4 ∧ q = ⟨b, 0, c'.size⟩ := fun b q hb => by
      simp only [glo] at hb
      split at hb
      · rename_i hlt; cases hb; exact ⟨hlt, rfl⟩
      · cases hb
    have hcells : CellsDen (glo c'.size) 0 db64 c' := by
      have hlen : Lib.deBruijn64tab.length = 64 := by decide
      have hget := tabGo_spec _ _ h
      have hc : ∀ j, j < 64 → c'[j]? = some (.int .u8 (Lib.deBruijn64tab.getD j 0)) := fun j hj => by
        obtain ⟨u, hu, hdu⟩ := hcd.2 _ _ (hget j (by rw [hlen]; exact hj))
        have hu2 : u = .int .u8 (Lib.deBruijn64tab.getD j 0) := by cases hdu; rfl
        subst hu2
        rw [Nat.zero_add] at hu
        exact hu
      refine ⟨?_, fun i v hv => ?_⟩
      · have h63 := hc 63 (by decide)
        have := (Array.getElem?_eq_some_iff.1 h63).1
        simp only [db64, List.length_map, hlen]
        omega
      · have hi : i < 64 := by
          have := (List.getElem?_eq_some_iff.1 hv).1
          simp only [db64, List.length_map, hlen] at this
          exact this
        have hv2 : v = .int .u8 (Lib.deBruijn64tab.getD i 0) := by
          simp only [db64, List.getElem?_map] at hv
          rw [List.getElem?_eq_getElem (by rw [hlen]; exact hi)] at hv
          rw [List.getD_eq_getElem?_getD, List.getElem?_eq_getElem (by rw [hlen]; exact hi)]
          simp only [Option.map_some, Option.some.injEq] at hv
          exact hv.symm
        subst hv2
        exact ⟨_, by rw [Nat.zero_add]; exact hc i hi, .int _ _⟩
    obtain ⟨hH1, hH2⟩ := st0_H
    refine ⟨?_, ?_, ?_, ?_, ?_, rfl, .nil, List.suffix_refl _, ?_, .refl _, fun _ _ _ h => h, Nat.le_refl _, fun _ _ _ => rfl, ?_, fun _ _ _ => rfl, ?_, Nat.le_refl _, by decide, ?_, .refl _⟩
    · intro b b' q r _ _ _ _ h1 h2 e
      obtain ⟨_, rfl⟩ := hblk _ _ h1
      obtain ⟨_, rfl⟩ := hblk _ _ h2
      exact e
    · intro b q hb
      obtain ⟨h1, rfl⟩ := hblk _ _ hb
      show b < w.heap.size
      omega
    · intro b q hb
      exact (hblk _ _ hb).1
    · intro b o _ hb
      by_cases h2 : b = 2
      · subst h2
        rw [hH2] at hb
        cases hb
        exact ⟨⟨2, 0, c'.size⟩, _, rfl, hh, c', t', fz, rfl, rfl, (fun e => by cases e), hcells⟩
      · rw [hH1 b h2] at hb; cases hb
    · intro b hb
      have hb4 : 4 ≤ b := hb
      exact hH1 b (by omega)
    · intro r x hx; simp [glo] at hx
    · intro b q hb hq
      have hb4 : 4 ≤ b := hb
      have := (hblk _ _ hq).1
      omega
    · intro b hb; cases hb
    · intro i hi
      exact ⟨⟨i, 0, c'.size⟩, by simp [glo, hi], rfl, rfl⟩
  · cases h

theorem memo_calls {plug : Plug} (hplug : PlugOk Tryz.prog plug) {n : Nat} {f : FuncId} {args args' : List Value} {v : Value} {s' : St} (hb : ∃ fn, Tryz.prog.funcs[f]? = some fn ∧ fn.body ≠ none) (h : call Tryz.prog plug n f args 4 st0 = some (v, s'))
    {g : Gh} {J : Io} {s : St} {w : World} (hM : Mem g J All s w) (ht : tab5 s = true) (hfl : args.all (flat 6) = true) (hd : DenL J args args') :
    ∃ sz, Calls Tryz.prog f args'.toArray w (CallPost ⟨w, glo sz, 4, st0.H, []⟩ (glo sz) s' v) := by
  obtain ⟨sz, hM0⟩ := memo_mem hM ht
  have e := hd.flat hfl
  subst e
  exact ⟨sz, call_sound (g := ⟨w, glo sz, 4, st0.H, []⟩) tryz_enters hplug tryz_mixed hb h hM0 (flat_all hfl (flat_den 6) _)⟩

/-- what such a run leaves alone -/
theorem memo_keep {w w' : World} {sz : Nat} {J' : Io} {s' : St} (h : Mem ⟨w, glo sz, 4, st0.H, []⟩ J' All s' w') (hW : s'.W = []) : w.heap.size ≤ w'.heap.size ∧ ∀ x, x < w.heap.size → w'.heap[x]? = w.heap[x]? :=
  ⟨h.size, fun x hx => h.frame x hx fun b p hb => by rw [hW] at hb; cases hb⟩

theorem flat_KQ (k q : Nat) : flat 6 (KQ k q) = true := rfl
theorem keyKQ_spec {v : Value} {k q : Nat} (h : keyKQ v = some (k, q)) : v = KQ k q := by
  unfold keyKQ at h
  split at h
  · rename_i cs
    split at h
    · rename_i a b e
      simp only [Option.some.injEq, Prod.mk.injEq] at h
      obtain ⟨rfl, rfl⟩ := h
      obtain ⟨arr⟩ := cs
      simp only at e
      rw [e]
    · cases h
  · cases h

theorem findF_mem : ∀ (tab : List ((Nat × Nat) × Nat)) {k q x : Nat}, findF tab k q = some x → ((k, q), x) ∈ tab
  | [], _, _, _, h => by simp [findF] at h
  | ((a, b), y) :: l, k, q, x, h => by
    unfold findF at h
    cases hc : (bif Nat.beq a k then Nat.beq b q else false) with
    | true =>
      rw [hc] at h
      simp only [cond_true, Option.some.injEq] at h
      subst h
      cases h1 : Nat.beq a k with
      | false => rw [h1] at hc; simp at hc
      | true =>
        rw [h1] at hc
        obtain rfl := nbeq_true h1
        obtain rfl := nbeq_true hc
        exact List.mem_cons_self ..
    | false =>
      rw [hc] at h
      exact List.mem_cons_of_mem _ (findF_mem l h)

theorem memF_ok {plug : Plug} (hplug : PlugOk Tryz.prog plug) {n : Nat} {f : FuncId} (hb : ∃ fn, Tryz.prog.funcs[f]? = some fn ∧ fn.body ≠ none) {tab : List ((Nat × Nat) × Nat)} (H : ∀ x ∈ tab, memoF Tryz.prog plug n f [KQ x.1.1 x.1.2] = some x.2) : Pl1 Tryz.prog f (memF tab) := by
  refine ⟨hb, fun args base s v s' h => ?_⟩
  unfold memF at h
  split at h
  · rename_i a
    split at h
    · rename_i k q hk
      obtain rfl := keyKQ_spec hk
      split at h
      · rename_i x hx
        obtain ⟨ht, h⟩ := bif_some h
        simp only [Option.some.injEq, Prod.mk.injEq] at h
        obtain ⟨rfl, rfl⟩ := h
        have hrun := H _ (findF_mem tab hx)
        refine ⟨rfl, rfl, fun g J w args' _ hM hd => ?_⟩
        unfold memoF at hrun
        split at hrun
        · rename_i b s2 hc
          obtain ⟨hW, hrun⟩ := bif_some hrun
          obtain ⟨hS, hrun⟩ := bif_some hrun
          simp only [Option.some.injEq] at hrun
          subst hrun
          obtain ⟨sz, hcalls⟩ := memo_calls hplug hb hc hM ht (by simp [flat_KQ]) hd
          refine hcalls.mono ?_
          rintro e w' ⟨u, J', rfl, hle, hM', hden⟩
          obtain ⟨k1, k2⟩ := memo_keep hM' (List.isEmpty_iff.1 hW)
          have hu : u = .float .f64 b := by
            cases hden with
            | word => rfl
            | sym _ _ _ h1 => have := nblt_true hS; omega
          subst hu
          exact ⟨_, J, rfl, .refl _, hM.later k1 k2 hM'.oo, .word _ _ (nblt_true hS)⟩
        · cases hrun
      · cases h
    · cases h
  · cases h
end Go.AM
set_option maxRecDepth 100000
namespace Go.AM
open Go Go.RowKit Go.Proofs Go.Proofs.YtdflbipaicpdcaaGreatDoor

/-- dyadic numbers in cells, each with a row of its own, in blocks from B on -/
inductive DsAt (B : Nat) (w : World) : List DN → List Value → List Nat → Prop
  | nil : DsAt B w [] [] []
  | zero (ds : List DN) (vs : List Value) (bs : List Nat) (h : DsAt B w ds vs bs) : DsAt B w (⟨false, 0, 0⟩ :: ds) (.bool false :: .slice none 0 0 :: .int .i64 0 :: vs) bs
  | row (neg : Bool) (m : Nat) (e : Int) (b off c : Nat) (cs : Array Value) (t' : TypeId) (fz : Nat × Nat) (ds : List DN) (vs : List Value) (bs : List Nat) (hm : m ≠ 0) (hB : B ≤ b) (hc : (digs m).length ≤ c)
      (hh : w.heap[b]? = some (.cells cs t' fz)) (hs : off + (digs m).length ≤ cs.size) (hcs : ∀ i, i < (digs m).length → cs[off + i]? = some (Go.Proofs.YtdflbipaicpdcaaGreatDoor.I ((digs m).getD i 0))) (hn : b ∉ bs) (h : DsAt B w ds vs bs) :
      DsAt B w (⟨neg, m, e⟩ :: ds) (.bool neg :: .slice (some ⟨b, off, none⟩) (digs m).length c :: .int .i64 e :: vs) (b :: bs)

theorem outDs_post {g : Gh} {w : World} {B : Nat} (hB : g.w0.heap.size ≤ B) : ∀ {ds : List DN} {us : List Value} {bs : List Nat}, DsAt B w ds us bs → ∀ {J : Io} {s s' : St} {vs : List Value}, Mem g J All s w → (∀ b ∈ bs, ∀ x q, J.blk x = some q → q.blk ≠ b) → outDs ds s = some (vs, s') →
    (s'.T = s.T ∧ s'.df = s.df) ∧ ∃ J', J.Le J' ∧ Mem g J' All s' w ∧ DenL J' vs us
  | _, _, _, .nil, J, s, s', vs, hM, _, h => by
    simp only [outDs, Option.some.injEq, Prod.mk.injEq] at h
    obtain ⟨rfl, rfl⟩ := h
    exact ⟨⟨rfl, rfl⟩, J, .refl _, hM, .nil⟩
  | _, _, _, .zero ds us bs hd, J, s, s', vs, hM, hf, h => by
    simp only [outDs, show Nat.beq 0 0 = true from rfl, cond_true] at h
    split at h
    · rename_i l s2 hl
      simp only [Option.some.injEq, Prod.mk.injEq] at h
      obtain ⟨rfl, rfl⟩ := h
      obtain ⟨h1, J', j1, j2, j3⟩ := outDs_post hB hd hM hf hl
      exact ⟨h1, J', j1, j2, .cons _ _ _ _ (.bool _) (.cons _ _ _ _ (.slice0 0 0 (by decide)) (.cons _ _ _ _ (.int _ _) j3))⟩
    · cases h
  | _, _, _, .row neg m e b off c cs t' fz ds us bs hm hBb hc hh hs hcs hnb hd, J, s, s', vs, hM, hf, h => by
    simp only [outDs, nbeq_false hm, cond_false] at h
    split at h
    · rename_i v s1 hn
      split at h
      · rename_i l s2 hl
        simp only [Option.some.injEq, Prod.mk.injEq] at h
        obtain ⟨rfl, rfl⟩ := h
        unfold newN at hn
        obtain ⟨hz, hn⟩ := bif_some hn
        have hmk : mkL 800 m = (digs m).map Go.Proofs.YtdflbipaicpdcaaGreatDoor.I := mkL_spec 800 m (szN_lt hz (by decide))
        rw [hmk] at hn
        split at hn
        · rename_i nb s3 hnew
          simp only [Option.some.injEq, Prod.mk.injEq] at hn
          obtain ⟨rfl, rfl⟩ := hn
          obtain ⟨_, eT, _, _, _, _, edf, _, _⟩ := new_spec hnew
          have hobj : ObjDen (J.add nb ⟨b, off, cs.size⟩) ⟨b, off, cs.size⟩ (.cells 3 true ((digs m).map Go.Proofs.YtdflbipaicpdcaaGreatDoor.I)) (.cells cs t' fz) := by
            refine ⟨cs, t', fz, rfl, rfl, (fun e => by cases e), by rw [List.length_map]; exact hs, fun i u hu => ?_⟩
            have hi : i < (digs m).length := by
              have := (List.getElem?_eq_some_iff.1 hu).1
              rwa [List.length_map] at this
            have hu2 : u = Go.Proofs.YtdflbipaicpdcaaGreatDoor.I ((digs m).getD i 0) := by
              rw [List.getElem?_map, List.getElem?_eq_getElem hi] at hu
              rw [List.getD_eq_getElem?_getD, List.getElem?_eq_getElem hi]
              simp only [Option.map_some, Option.some.injEq] at hu
              exact hu.symm
            subst hu2
            exact ⟨_, hcs i hi, .int _ _⟩
          obtain ⟨a1, a2, a3⟩ := hM.adopt2 hnew (p := ⟨b, off, cs.size⟩) (o' := .cells cs t' fz) (fun x q hq => hf b (List.mem_cons_self ..) x q hq) (Array.getElem?_eq_some_iff.1 hh).1 (Nat.le_trans hB hBb) hh hobj
          have hf2 : ∀ b' ∈ bs, ∀ x q, (J.add nb ⟨b, off, cs.size⟩).blk x = some q → q.blk ≠ b' := fun b' hb' x q hq => by
            by_cases hx : x = nb
            · subst hx
              rw [Io.add_same] at hq
              cases hq
              intro e
              have e2 : b = b' := e
              subst e2
              exact hnb hb'
            · rw [Io.add_other _ hx] at hq
              exact hf b' (List.mem_cons_of_mem _ hb') x q hq
          obtain ⟨⟨h1, h2⟩, J', j1, j2, j3⟩ := outDs_post hB hd a2 hf2 hl
          refine ⟨⟨h1.trans eT, h2.trans edf⟩, J', a1.trans j1, j2, .cons _ _ _ _ (.bool _) (.cons _ _ _ _ ?_ (.cons _ _ _ _ (.int _ _) j3))⟩
          rw [lenV_eq, List.length_map]
          have := Den.wide (J := J') nb 0 (digs m).length OPEN c ⟨b, off, cs.size⟩ (j1.blk _ _ a3) (Nat.le_refl _) hc (fun h => absurd h (Nat.lt_irrefl _))
          simpa using this
        · cases hn
      · cases h
    · cases h

theorem denL_cons {J : Io} {v : Value} {l us : List Value} (h : DenL J (v :: l) us) : ∃ u us', us = u :: us' ∧ Den J v u ∧ DenL J l us' := by
  cases h with | cons _ u _ us' d hl => exact ⟨u, us', rfl, d, hl⟩

theorem chkD_spec {w w' : World} {sz : Nat} {J : Io} {s : St} (hM : Mem ⟨w, glo sz, 4, st0.H, []⟩ J All s w') (hW : s.W = []) : ∀ (n : Nat) (used : List Nat) (vs us : List Value) (ds : List DN), vs.length ≤ n → chkD s used vs = some ds → DenL J vs us →
    ∃ bs, DsAt w.heap.size w' ds us bs ∧ (∀ b ∈ bs, ∀ i ∈ used, s.H.get i ≠ none → ∀ p, J.blk i = some p → p.blk ≠ b) := by
  intro n
  induction n with
  | zero =>
    intro used vs us ds hn h hd
    obtain rfl : vs = [] := List.eq_nil_of_length_eq_zero (by omega)
    unfold chkD at h
    cases h
    cases hd
    exact ⟨[], .nil, fun b hb => by cases hb⟩
  | succ n ih =>
    intro used vs us ds hn h hd
    unfold chkD at h
    split at h
    · cases h
      cases hd
      exact ⟨[], .nil, fun b hb => by cases hb⟩
    · rename_i neg sl e rest
      obtain ⟨u0, us0, rfl, d0, hd0⟩ := denL_cons hd
      obtain ⟨u1, us1, rfl, d1, hd1⟩ := denL_cons hd0
      obtain ⟨u2, us2, rfl, d2, hd2⟩ := denL_cons hd1
      cases d0
      cases d2
      have hn2 : rest.length ≤ n := by simp at hn; omega
      split at h
      · cases neg with
        | true => simp at h
        | false =>
          simp only [cond_false] at h
          obtain ⟨he, h⟩ := bif_some h
          have he0 : e = 0 := by have := beq0.1 he; omega
          subst he0
          split at h
          · rename_i ds2 h2
            cases h
            cases d1
            obtain ⟨bs, k1, k2⟩ := ih used rest us2 ds2 hn2 h2 hd2
            exact ⟨bs, .zero _ _ _ k1, k2⟩
          · cases h
      · rename_i b o k c
        cases hu : (bif mem used b then true else Nat.blt b 4) with
        | true => rw [hu] at h; simp at h
        | false =>
          rw [hu] at h
          simp only [cond_false] at h
          have hbu : b ∉ used ∧ 4 ≤ b := by
            cases hm : mem used b with
            | true => rw [hm] at hu; simp at hu
            | false =>
              rw [hm] at hu
              refine ⟨fun e => ?_, nblt_false hu⟩
              rw [(mem_eq used b).2 e] at hm
              cases hm
          split at h
          · rename_i t ro cells ho
            have h9 := bif_some h
            clear h
            obtain ⟨ht, h⟩ := h9
            obtain rfl := nbeq_true ht
            split at h
            · rename_i l hcut
              split at h
              · rename_i m hr
                cases hm0 : Nat.beq m 0 with
                | true => rw [hm0] at h; simp at h
                | false =>
                  rw [hm0] at h
                  simp only [cond_false] at h
                  obtain ⟨hkc, h⟩ := bif_some h
                  split at h
                  · rename_i ds2 h2
                    cases h
                    obtain ⟨bs, k1, k2⟩ := ih (b :: used) rest us2 ds2 hn2 h2 hd2
                    obtain ⟨p, c', t', fz, hp, hh, hsz, hfz, hcd⟩ := hM.row trivial ho
                    have hl := rdL_spec l m hr
                    obtain ⟨hl1, hl2⟩ := cut_spec hcut
                    have hlen : (digs m).length = k := by
                      have := congrArg List.length hl
                      rw [List.length_map] at this
                      omega
                    have hB : w.heap.size ≤ p.blk := by
                      rcases hM.new b p hbu.2 hp with h1 | ⟨c1, q1, h1, _⟩
                      · exact h1
                      · rw [hW] at h1; cases h1
                    have hcell : ∀ i, i < (digs m).length → c'[p.off + o + i]? = some (Go.Proofs.YtdflbipaicpdcaaGreatDoor.I ((digs m).getD i 0)) := fun i hi => by
                      have h1 : l[i]? = some (Go.Proofs.YtdflbipaicpdcaaGreatDoor.I ((digs m).getD i 0)) := by
                        rw [hl, List.getElem?_map, List.getElem?_eq_getElem hi, List.getD_eq_getElem?_getD, List.getElem?_eq_getElem hi]
                        rfl
                      rw [hl2 i (by omega)] at h1
                      obtain ⟨u, hu, hdu⟩ := hcd.2 _ _ h1
                      have hu2 : u = Go.Proofs.YtdflbipaicpdcaaGreatDoor.I ((digs m).getD i 0) := by cases hdu; rfl
                      subst hu2
                      rw [show p.off + o + i = p.off + (o + i) by omega]
                      exact hu
                    have hm1 : m ≠ 0 := fun e => by rw [beq0.2 e] at hm0; cases hm0
                    have hlp : 0 < (digs m).length := by
                      apply List.length_pos_iff.2
                      intro e
                      have := num_digs m
                      rw [e] at this
                      exact hm1 this.symm
                    have hs : p.off + o + (digs m).length ≤ c'.size := by
                      have := (Array.getElem?_eq_some_iff.1 (hcell ((digs m).length - 1) (by omega))).1
                      omega
                    have hnb : p.blk ∉ bs := fun e => k2 _ e b (List.mem_cons_self ..) (by rw [ho]; simp) p hp rfl
                    have hu1 : ∃ c2, u1 = .slice (some ⟨p.blk, p.off + o, none⟩) (digs m).length c2 ∧ (digs m).length ≤ c2 := by
                      rw [hlen]
                      cases d1 with
                      | slice _ _ _ _ p2 hp2 hc2 => rw [hp] at hp2; cases hp2; exact ⟨_, rfl, nble_true hkc⟩
                      | wide _ _ _ _ c2 p2 hp2 hc2 hn hs => rw [hp] at hp2; cases hp2; exact ⟨_, rfl, hn⟩
                    obtain ⟨c2, rfl, hc2⟩ := hu1
                    refine ⟨p.blk :: bs, .row neg m e p.blk (p.off + o) c2 c' t' fz ds2 us2 bs hm1 hB hc2 hh hs hcell hnb k1, fun b1 hb1 i hi hgi q hq => ?_⟩
                    rcases List.mem_cons.1 hb1 with rfl | hb1
                    · intro e
                      have := hM.inj i b q p trivial trivial hgi (by rw [ho]; simp) hq hp e
                      subst this
                      exact hbu.1 hi
                    · exact k2 b1 hb1 i (List.mem_cons_of_mem _ hi) hgi q hq
                  · cases h
              · cases h
            · cases h
          · cases h
      · cases h
    · cases h

theorem findD_mem : ∀ (tab : List ((Nat × Nat × Nat) × List DN)) {k q w : Nat} {x : List DN}, findD tab k q w = some x → ((k, q, w), x) ∈ tab
  | [], _, _, _, _, h => by simp [findD] at h
  | ((a, b, c), y) :: l, k, q, w, x, h => by
    unfold findD at h
    cases hc : (bif Nat.beq a k then bif Nat.beq b q then Nat.beq c w else false else false) with
    | true =>
      rw [hc] at h
      simp only [cond_true, Option.some.injEq] at h
      subst h
      cases h1 : Nat.beq a k with
      | false => rw [h1] at hc; simp at hc
      | true =>
        cases h2 : Nat.beq b q with
        | false => rw [h1, h2] at hc; simp at hc
        | true =>
          rw [h1, h2] at hc
          obtain rfl := nbeq_true h1
          obtain rfl := nbeq_true h2
          obtain rfl := nbeq_true hc
          exact List.mem_cons_self ..
    | false =>
      rw [hc] at h
      exact List.mem_cons_of_mem _ (findD_mem l h)

theorem memD_ok {plug : Plug} (hplug : PlugOk Tryz.prog plug) {n : Nat} {f : FuncId} (hb : ∃ fn, Tryz.prog.funcs[f]? = some fn ∧ fn.body ≠ none) {tab : List ((Nat × Nat × Nat) × List DN)} (H : ∀ x ∈ tab, memoD Tryz.prog plug n f [KQ x.1.1 x.1.2.1, .int .i64 (.ofNat x.1.2.2)] = some x.2) : Pl1 Tryz.prog f (memD tab) := by
  have key : ∀ {args : List Value} {base : Nat} {s s' : St} {v : Value}, memD tab args base s = some (v, s') → ∃ k q w ds l, args = [KQ k q, .int .i64 (.ofNat w)] ∧ ((k, q, w), ds) ∈ tab ∧ tab5 s = true ∧ outDs ds s = some (l, s') ∧ v = .agg l.toArray := fun {args base s s' v} h => by
    unfold memD at h
    split at h
    · rename_i a w
      split at h
      · rename_i k q hk
        obtain rfl := keyKQ_spec hk
        split at h
        · rename_i ds hx
          obtain ⟨ht, h⟩ := bif_some h
          split at h
          · rename_i l s2 ho
            simp only [Option.some.injEq, Prod.mk.injEq] at h
            obtain ⟨rfl, rfl⟩ := h
            exact ⟨k, q, w, ds, l, rfl, findD_mem tab hx, ht, ho, rfl⟩
          · cases h
        · cases h
      · cases h
    · cases h
  have keep : ∀ (ds : List DN) (s s' : St) (l : List Value), outDs ds s = some (l, s') → s'.T = s.T ∧ s'.df = s.df := by
    intro ds
    induction ds with
    | nil => intro s s' l h; simp only [outDs, Option.some.injEq, Prod.mk.injEq] at h; obtain ⟨_, rfl⟩ := h; exact ⟨rfl, rfl⟩
    | cons x ds ih =>
      intro s s' l h
      unfold outDs at h
      cases h0 : Nat.beq x.m 0 with
      | true =>
        rw [h0] at h
        simp only [cond_true] at h
        split at h
        · rename_i l2 s2 h2
          simp only [Option.some.injEq, Prod.mk.injEq] at h
          obtain ⟨_, rfl⟩ := h
          exact ih _ _ _ h2
        · cases h
      | false =>
        rw [h0] at h
        simp only [cond_false] at h
        split at h
        · rename_i v s1 hn
          split at h
          · rename_i l2 s2 h2
            simp only [Option.some.injEq, Prod.mk.injEq] at h
            obtain ⟨_, rfl⟩ := h
            obtain ⟨k1, k2⟩ := ih _ _ _ h2
            obtain ⟨⟨k3, k4⟩, _⟩ := newN_post hn
            exact ⟨k1.trans k3, k2.trans k4⟩
          · cases h
        · cases h
  refine ⟨hb, fun args base s v s' h => ?_⟩
  obtain ⟨k, q, w0, ds, l, rfl, hmem, ht, ho, rfl⟩ := key h
  obtain ⟨e1, e2⟩ := keep _ _ _ _ ho
  refine ⟨e1, e2, fun g J w args' _ hM hd => ?_⟩
  have hrun := H _ hmem
  unfold memoD at hrun
  split at hrun
  · rename_i cs s2 hc
    obtain ⟨hW, hrun⟩ := bif_some hrun
    obtain ⟨sz, hcalls⟩ := memo_calls hplug hb hc hM ht (by simp [flat_KQ, flat]) hd
    refine hcalls.mono ?_
    rintro e w' ⟨u, J', rfl, hle, hM', hden⟩
    obtain ⟨k1, k2⟩ := memo_keep hM' (List.isEmpty_iff.1 hW)
    cases hden with
    | agg _ a' hl =>
      obtain ⟨bs, hds, _⟩ := chkD_spec hM' (List.isEmpty_iff.1 hW) _ [] _ _ _ (Nat.le_refl _) hrun hl
      have hM2 := hM.later k1 k2 hM'.oo
      have hfree : ∀ {ds us bs}, DsAt w.heap.size w' ds us bs → ∀ b ∈ bs, w.heap.size ≤ b := by
        intro ds us bs h
        induction h with
        | nil => intro b hb; cases hb
        | zero _ _ _ _ ih => exact ih
        | row _ _ _ b _ _ _ _ _ _ _ _ _ hB _ _ _ _ _ _ ih =>
          intro b1 hb1
          rcases List.mem_cons.1 hb1 with rfl | hb1
          · exact hB
          · exact ih b1 hb1
      obtain ⟨_, J2, j1, j2, j3⟩ := outDs_post (B := w.heap.size) hM.size hds hM2 (fun b hb x q hq e => by
        have h1 := hM.lt _ _ hq
        have h2 := hfree hds b hb
        omega) ho
      refine ⟨_, J2, rfl, j1, j2, .agg _ _ ?_⟩
      simpa using j3
  · cases hrun
end Go.AM
set_option maxRecDepth 100000
namespace Go.AM
open Go Go.RowKit Go.Proofs Go.Proofs.YtdflbipaicpdcaaGreatDoor

theorem stN_H (n : Nat) : (∀ x, x ≠ 2 → x ≠ 4 → (stN n).H.get x = none) ∧ (stN n).H.get 2 = some (.cells 5 true db64) ∧ (stN n).H.get 4 = some (.cells 46 true (symRow n 0)) := by
  have e : (stN n).H = ((Tr.lf : Tr AO).set 40 2 (some (.cells 5 true db64))).set 40 4 (some (.cells 46 true (symRow n 0))) := rfl
  rw [e]
  refine ⟨fun x h2 h4 => ?_, ?_, ?_⟩
  · rw [Tr.get_set 40 _ 4 _ x (by decide), if_neg h4, Tr.get_set 40 _ 2 _ x (by decide), if_neg h2]; rfl
  · rw [Tr.get_set 40 _ 4 _ 2 (by decide), if_neg (by decide), Tr.get_set 40 _ 2 _ 2 (by decide), if_pos rfl]
  · rw [Tr.get_set 40 _ 4 _ 4 (by decide), if_pos rfl]

theorem symD_len : ∀ n, (symD n).length = n
  | 0 => rfl
  | n + 1 => by simp [symD, symD_len n]
theorem symRow_get : ∀ n i k, (symRow n i)[k]? = if k < n then some (.float .f64 (SYM + (i + k))) else none
  | 0, i, k => by simp [symRow]
  | n + 1, i, k => by
    cases k with
    | zero => simp [symRow]
    | succ k =>
      simp only [symRow, List.getElem?_cons_succ]
      rw [symRow_get n (Nat.succ i) k]
      by_cases h : k < n
      · rw [if_pos h, if_pos (by omega), show Nat.succ i + k = i + (k + 1) by omega]
      · rw [if_neg h, if_neg (by omega)]
theorem symRow_len : ∀ n i, (symRow n i).length = n
  | 0, _ => rfl
  | n + 1, i => by simp [symRow, symRow_len n]

/-- what stands for what: the globals, the row, its floats -/
def inJ (sz : Nat) (p : Pl) (n : Nat) (m : Nat → Nat) : Io :=
  { blk := fun i => if i < 4 then some ⟨i, 0, sz⟩ else if i = 4 then some p else none, fl := fun r => if SYM ≤ r ∧ r < SYM + n then some (Fl.canon (m (r - SYM))) else none }

theorem in_dag (sz : Nat) (p : Pl) (n : Nat) (m : Nat → Nat) (hm : ∀ i, i < n → m i < 2 ^ 64) : ∀ k, k ≤ n → DagOk n (inJ sz p n m).fl (symD k)
  | 0, _ => .nil
  | k + 1, h => by
    refine .cons ⟨0, 0, 0⟩ (symD k) ?_ (fun e => ?_) (in_dag sz p n m hm k (by omega))
    · rw [symD_len]
      refine ⟨Fl.canon (m k), ?_, canon_lt (hm k (by omega)), Fl.canon_canon _, fun e => by simp at e, fun e => by simp at e, fun e => by simp at e, fun e => by simp at e⟩
      simp only [inJ]
      rw [if_pos ⟨by omega, by omega⟩, show SYM + k - SYM = k by omega]
    · rw [symD_len] at e; omega

/-- the row's floats -/
structure RowIn (J : Io) (w : World) (p : Pl) (o n : Nat) (ins : List Nat) (m : Nat → Nat) : Prop where
  len : ins.length = n
  lt : ∀ i, i < n → m i < 2 ^ 64
  den : ∀ i, i < n → Den J (.float .f64 (ins.getD i 0)) (.float .f64 (m i))
  sym : ∀ i, i < n → SYM ≤ ins.getD i 0
  at_ : ∃ c' t' fz, w.heap[p.blk]? = some (.cells c' t' fz) ∧ c'.size = p.sz ∧ p.off + o + n ≤ c'.size ∧ ∀ i, i < n → c'[p.off + o + i]? = some (.float .f64 (m i))

theorem refs_spec : ∀ {l : List Value} {ins : List Nat}, refs l = some ins → l = ins.map (fun x => Value.float .f64 x) ∧ ∀ x ∈ ins, SYM ≤ x
  | [], ins, h => by simp only [refs, Option.some.injEq] at h; subst h; exact ⟨rfl, fun x hx => by cases hx⟩
  | .float .f64 x :: l, ins, h => by
    simp only [refs] at h
    split at h
    · rename_i m hm
      obtain ⟨h1, h⟩ := bif_some h
      simp only [Option.some.injEq] at h
      subst h
      obtain ⟨e, h2⟩ := refs_spec hm
      refine ⟨by rw [e]; rfl, fun y hy => ?_⟩
      rcases List.mem_cons.1 hy with rfl | hy
      · exact nble_true h1
      · exact h2 y hy
    · cases h

/-- a row's float, as it lies there -/
def rdM (c : Array Value) (i : Nat) : Nat := match c[i]? with | some (.float .f64 m) => m | _ => 0

theorem row_in {g : Gh} {J : Io} {s : St} {w : World} (hM : Mem g J All s w) {b o n : Nat} {ro : Bool} {cells l : List Value} {ins : List Nat} (hn : 0 < n) (hb : s.H.get b = some (.cells 46 ro cells)) (hcut : cut cells o n = some l) (hr : refs l = some ins) :
    ∃ p m, J.blk b = some p ∧ RowIn J w p o n ins m := by
  obtain ⟨p, c', t', fz, hp, hh, hsz, hfz, hcd⟩ := hM.row trivial hb
  obtain ⟨e, hsym⟩ := refs_spec hr
  obtain ⟨hl, hg⟩ := cut_spec hcut
  have hlen : ins.length = n := by rw [← hl, e, List.length_map]
  have key : ∀ i, i < n → ∃ m, c'[p.off + o + i]? = some (.float .f64 m) ∧ Den J (.float .f64 (ins.getD i 0)) (.float .f64 m) := fun i hi => by
    have h1 : l[i]? = some (.float .f64 (ins.getD i 0)) := by
      rw [e, List.getElem?_map, List.getElem?_eq_getElem (by omega), List.getD_eq_getElem?_getD, List.getElem?_eq_getElem (by omega)]
      rfl
    rw [hg i hi] at h1
    obtain ⟨u, hu, hd⟩ := hcd.2 _ _ h1
    obtain ⟨m, rfl⟩ := f_den hd
    exact ⟨m, by rw [show p.off + o + i = p.off + (o + i) by omega]; exact hu, hd⟩
  have hs : ∀ i, i < n → SYM ≤ ins.getD i 0 := fun i hi => hsym _ (by
    rw [List.getD_eq_getElem?_getD, List.getElem?_eq_getElem (by omega)]
    exact List.getElem_mem _)
  have hm : ∀ i, i < n → c'[p.off + o + i]? = some (.float .f64 (rdM c' (p.off + o + i))) ∧ Den J (.float .f64 (ins.getD i 0)) (.float .f64 (rdM c' (p.off + o + i))) := fun i hi => by
    obtain ⟨m, h1, h2⟩ := key i hi
    have : rdM c' (p.off + o + i) = m := by unfold rdM; rw [h1]
    rw [this]
    exact ⟨h1, h2⟩
  refine ⟨p, fun i => rdM c' (p.off + o + i), hp, hlen, fun i hi => ?_, fun i hi => (hm i hi).2, hs, c', t', fz, hh, hsz, ?_, fun i hi => (hm i hi).1⟩
  · have h2 := (hm i hi).2
    have h3 := hs i hi
    obtain ⟨m', X, e1, _, _, _, h4⟩ := h2.float
    obtain ⟨-, e2⟩ := Value.float.inj e1
    have h5 := (h4 h3).1
    rw [← e2] at h5
    exact h5
  · have := (Array.getElem?_eq_some_iff.1 (hm (n - 1) (by omega)).1).1
    omega

theorem memT_mem {g : Gh} {J : Io} {s : St} {w : World} (hM : Mem g J All s w) (h : tab5 s = true) {b o n : Nat} {ro : Bool} {cells : List Value} {ins : List Nat} {p : Pl} {m : Nat → Nat} (hb : s.H.get b = some (.cells 46 ro cells)) (hp : J.blk b = some p) (hr : RowIn J w p o n ins m) :
    ∃ sz, Mem ⟨w, inJ sz ⟨p.blk, p.off + o, p.sz⟩ n m, 5, (stN n).H, symD n⟩ (inJ sz ⟨p.blk, p.off + o, p.sz⟩ n m) All (stN n) w := by
  obtain ⟨sz, hM0⟩ := memo_mem hM h
  obtain ⟨hH1, hH2, hH4⟩ := stN_H n
  obtain ⟨c', t', fz, hh, hsz, hle, hat⟩ := hr.at_
  have hblk : ∀ x q, (inJ sz ⟨p.blk, p.off + o, p.sz⟩ n m).blk x = some q → (x < 4 ∧ q = ⟨x, 0, sz⟩) ∨ (x = 4 ∧ q = ⟨p.blk, p.off + o, p.sz⟩) := fun x q hx => by
    simp only [inJ] at hx
    split at hx
    · rename_i hlt; cases hx; exact .inl ⟨hlt, rfl⟩
    · split at hx
      · rename_i h4; cases hx; exact .inr ⟨h4, rfl⟩
      · cases hx
  have hplt : p.blk < w.heap.size := hM.lt _ _ hp
  have hwlt : ∀ x, x < 4 → x < w.heap.size := fun x hx => hM0.lt x ⟨x, 0, sz⟩ (by simp [glo, hx])
  have hp2 : p.blk ≠ 2 := fun e2 => by
    obtain ⟨q, hq, q1, q2⟩ := hM.glob 2 (by decide)
    have h2n : s.H.get 2 ≠ none := by
      unfold tab5 at h
      split at h
      · rename_i t ro c ho; rw [ho]; simp
      · cases h
    have hb2 := hM.inj b 2 p q trivial trivial (by rw [hb]; simp) h2n hp hq (by omega)
    subst hb2
    unfold tab5 at h
    rw [hb] at h
    simp at h
  refine ⟨sz, ?_⟩
  refine ⟨?_, ?_, ?_, ?_, ?_, (symD_len n).symm, ?_, List.suffix_refl _, ?_, .refl _, fun _ _ _ h => h, Nat.le_refl _, fun _ _ _ => rfl, ?_, fun _ _ _ => rfl, ?_, Nat.le_refl _, by show 5 ≤ 1000000000; decide, ?_, .refl _⟩
  · intro x y q r _ _ hx hy h1 h2 e
    have k : ∀ z, (stN n).H.get z ≠ none → z = 2 ∨ z = 4 := fun z hz => by
      by_cases z2 : z = 2
      · exact .inl z2
      · by_cases z4 : z = 4
        · exact .inr z4
        · exact absurd (hH1 z z2 z4) hz
    rcases hblk _ _ h1 with ⟨a1, rfl⟩ | ⟨a1, rfl⟩ <;> rcases hblk _ _ h2 with ⟨a2, rfl⟩ | ⟨a2, rfl⟩
    · exact e
    · have := k _ hx; have := k _ hy; simp only at e; omega
    · have := k _ hx; have := k _ hy; simp only at e; omega
    · omega
  · intro x q hx
    rcases hblk _ _ hx with ⟨a, rfl⟩ | ⟨a, rfl⟩
    · exact hwlt _ a
    · exact hplt
  · intro x q hx
    show x < 5
    rcases hblk _ _ hx with ⟨a, _⟩ | ⟨a, _⟩ <;> omega
  · intro x ob _ hx
    by_cases h2 : x = 2
    · subst h2
      rw [hH2] at hx
      cases hx
      obtain ⟨q, o', q1, q2, q3⟩ := hM0.objs 2 _ trivial st0_H.2
      have hq : q = ⟨2, 0, sz⟩ := by
        simp only [glo] at q1
        rw [if_pos (by decide)] at q1
        exact (Option.some.inj q1).symm
      subst hq
      refine ⟨⟨2, 0, sz⟩, o', by simp [inJ], q2, ?_⟩
      obtain ⟨c2, t2, fz2, e2, s2, r2, d2⟩ := q3
      refine ⟨c2, t2, fz2, e2, s2, r2, d2.1, fun i v hv => ?_⟩
      obtain ⟨u, hu, hd⟩ := d2.2 i v hv
      have hf : flat 6 v = true := by
        have : ∀ y ∈ db64, flat 6 y = true := by decide
        exact this v (List.mem_of_getElem? hv)
      obtain rfl := flat_eq 6 _ _ hf hd
      exact ⟨_, hu, flat_den 6 _ hf _⟩
    · by_cases h4 : x = 4
      · subst h4
        rw [hH4] at hx
        cases hx
        refine ⟨⟨p.blk, p.off + o, p.sz⟩, _, by simp [inJ], hh, c', t', fz, rfl, hsz, (fun e => by cases e), by rw [symRow_len]; exact hle, fun i v hv => ?_⟩
        rw [symRow_get] at hv
        split at hv
        · rename_i hi
          simp only [Option.some.injEq] at hv
          subst hv
          refine ⟨_, hat i hi, .sym _ _ _ (by omega) ?_ (hr.lt i hi) rfl⟩
          simp only [inJ]
          rw [if_pos ⟨by omega, by omega⟩, show SYM + (0 + i) - SYM = i by omega]
        · cases hv
      · rw [hH1 x h2 h4] at hx; cases hx
  · intro x hx
    have h5 : 5 ≤ x := hx
    exact hH1 x (by omega) (by omega)
  · show DagOk (symD n).length _ (symD n)
    rw [symD_len]
    exact in_dag _ _ _ _ hr.lt n (Nat.le_refl _)
  · intro r x hx
    simp only [inJ] at hx
    split at hx
    · rename_i hlt
      simp only [Option.some.injEq] at hx
      subst hx
      exact ⟨hlt.1, hlt.2, canon_lt (hr.lt _ (by omega)), Fl.canon_canon _⟩
    · cases hx
  · intro x q hx hq
    have h5 : 5 ≤ x := hx
    rcases hblk _ _ hq with ⟨a, _⟩ | ⟨a, _⟩ <;> omega
  · intro x hx; cases hx
  · intro i hi
    exact ⟨⟨i, 0, sz⟩, by simp [inJ, hi], rfl, rfl⟩
end Go.AM
set_option maxRecDepth 100000
namespace Go.AM
open Go Go.RowKit Go.Proofs Go.Proofs.YtdflbipaicpdcaaGreatDoor

theorem subN_eq (ins : List Nat) (n nd r : Nat) : subN ins n nd r = if r < SYM then r else if r - SYM < n then ins.getD (r - SYM) 0 else SYM + (nd + (r - SYM - n)) := by
  unfold subN
  simp only [frc_eq, Nat.add_eq, Nat.sub_eq]
  by_cases h1 : r < SYM
  · have e : Nat.blt r SYM = true := by rw [Nat.blt_eq]; exact h1
    rw [if_pos h1, e, cond_true]
  · have e : Nat.blt r SYM = false := by
      cases e : Nat.blt r SYM with
      | true => exact absurd (nblt_true e) h1
      | false => rfl
    rw [if_neg h1, e, cond_false]
    by_cases h2 : r - SYM < n
    · have e2 : Nat.blt (r - SYM) n = true := by rw [Nat.blt_eq]; exact h2
      rw [if_pos h2, e2, cond_true]
    · have e2 : Nat.blt (r - SYM) n = false := by
        cases e : Nat.blt (r - SYM) n with
        | true => exact absurd (nblt_true e) h2
        | false => rfl
      rw [if_neg h2, e2, cond_false]

/-- what the run's floats stand for here -/
structure FlOk (J : Io) (fl : Nat → Option Nat) (ins : List Nat) (n nd j : Nat) : Prop where
  inp : ∀ i, i < n → SYM ≤ ins.getD i 0 ∧ ∃ x, fl (SYM + i) = some x ∧ J.fl (ins.getD i 0) = some x
  new : ∀ i, i < j → ∃ x, fl (SYM + (n + i)) = some x ∧ J.fl (SYM + (nd + i)) = some x

theorem FlOk.mono {J J' : Io} {fl : Nat → Option Nat} {ins : List Nat} {n nd j : Nat} (h : FlOk J fl ins n nd j) (hJ : J.Le J') : FlOk J' fl ins n nd j :=
  ⟨fun i hi => let ⟨a, x, b, c⟩ := h.inp i hi; ⟨a, x, b, hJ.fl _ _ c⟩, fun i hi => let ⟨x, b, c⟩ := h.new i hi; ⟨x, b, hJ.fl _ _ c⟩⟩

theorem FlOk.sub {J : Io} {fl : Nat → Option Nat} {ins : List Nat} {n nd j : Nat} (h : FlOk J fl ins n nd j) {r X : Nat} (hr : r < SYM + (n + j)) (hv : vl fl r = some X) : vl J.fl (subN ins n nd r) = some X ∧ (SYM ≤ r → SYM ≤ subN ins n nd r) := by
  rw [subN_eq]
  by_cases h1 : r < SYM
  · rw [if_pos h1]
    unfold vl at hv ⊢
    rw [if_pos h1] at hv ⊢
    exact ⟨hv, fun h => by omega⟩
  · rw [if_neg h1]
    unfold vl at hv
    rw [if_neg h1] at hv
    by_cases h2 : r - SYM < n
    · rw [if_pos h2]
      obtain ⟨a, x, b, c⟩ := h.inp _ h2
      rw [show SYM + (r - SYM) = r by omega, hv] at b
      cases b
      unfold vl
      rw [if_neg (by omega)]
      exact ⟨c, fun _ => a⟩
    · rw [if_neg h2]
      obtain ⟨x, b, c⟩ := h.new (r - SYM - n) (by omega)
      rw [show SYM + (n + (r - SYM - n)) = r by omega, hv] at b
      cases b
      unfold vl
      rw [if_neg (by omega)]
      exact ⟨c, fun _ => by omega⟩

theorem putT_sound {g : Gh} {w : World} {fl : Nat → Option Nat} {ins : List Nat} {n nd : Nat} : ∀ (l : List FN) (j : Nat) {J : Io} {s s' : St}, putT ins n nd l s = some s' → s.nd = nd + j → Mem g J All s w → FlOk J fl ins n nd j →
    (∀ i x, l[i]? = some x → nodeOk fl x (SYM + (n + (j + i))) ∧ 1 ≤ x.op ∧ x.op ≤ 4) →
    ∃ J', J.Le J' ∧ Mem g J' All s' w ∧ FlOk J' fl ins n nd (j + l.length) ∧ J'.blk = J.blk ∧ s'.T = s.T ∧ s'.df = s.df
  | [], j, J, s, s', h, hnd, hM, hF, _ => by
    simp only [putT, Option.some.injEq] at h
    subst h
    exact ⟨J, .refl _, hM, hF, rfl, rfl, rfl⟩
  | ⟨op, x, y⟩ :: l, j, J, s, s', h, hnd, hM, hF, hl => by
    simp only [putT] at h
    rw [frc_eq, frc_eq, node_eq] at h
    obtain ⟨⟨V, hV, hlt, hc, q1, q2, q3, q4⟩, hop⟩ := hl 0 _ rfl
    simp only [Nat.add_zero] at hV q1 q2 q3 q4 hop
    have hn : ∀ f2 : Nat → Option Nat, (∀ r x, J.fl r = some x → f2 r = some x) → f2 (SYM + s.nd) = some V → nodeOk f2 ⟨op, subN ins n nd x, subN ins n nd y⟩ (SYM + s.nd) := fun f2 hf2 hv => by
      refine ⟨V, hv, hlt, hc, fun e => ?_, fun e => ?_, fun e => ?_, fun e => ?_⟩
      · obtain ⟨X, Y, l1, l2, hx, hy, e⟩ := q1 e
        obtain ⟨a1, _⟩ := hF.sub l1 hx
        obtain ⟨a2, _⟩ := hF.sub l2 hy
        exact ⟨X, Y, vl_lt hM a1, vl_lt hM a2, vl_mono hf2 a1, vl_mono hf2 a2, e⟩
      · obtain ⟨X, Y, l1, l2, hx, hy, e⟩ := q2 e
        obtain ⟨a1, _⟩ := hF.sub l1 hx
        obtain ⟨a2, _⟩ := hF.sub l2 hy
        exact ⟨X, Y, vl_lt hM a1, vl_lt hM a2, vl_mono hf2 a1, vl_mono hf2 a2, e⟩
      · obtain ⟨X, Y, l1, l2, hx, hy, e⟩ := q3 e
        obtain ⟨a1, _⟩ := hF.sub l1 hx
        obtain ⟨a2, _⟩ := hF.sub l2 hy
        exact ⟨X, Y, vl_lt hM a1, vl_lt hM a2, vl_mono hf2 a1, vl_mono hf2 a2, e⟩
      · obtain ⟨X, l1, hx, e⟩ := q4 e
        obtain ⟨a1, _⟩ := hF.sub l1 hx
        exact ⟨X, vl_lt hM a1, vl_mono hf2 a1, e⟩
    obtain ⟨J1, j1, j2, j3, j4⟩ := hM.float ⟨op, subN ins n nd x, subN ins n nd y⟩ hop V hlt hc hn
    have hF1 : FlOk J1 fl ins n nd (j + 1) := by
      refine ⟨(hF.mono j1).inp, fun i hi => ?_⟩
      by_cases e : i < j
      · exact (hF.mono j1).new i e
      · obtain rfl : i = j := by omega
        refine ⟨V, hV, ?_⟩
        rw [← hnd]
        exact j3
    obtain ⟨J2, k1, k2, k3, k4, k5, k6⟩ := putT_sound l (j + 1) h (by show s.nd + 1 = _; omega) j2 hF1 fun i z hz => by
      have := hl (i + 1) z (by simpa using hz)
      rw [show j + 1 + i = j + (i + 1) by omega]
      exact this
    refine ⟨J2, j1.trans k1, k2, by rw [show j + (⟨op, x, y⟩ :: l : List FN).length = j + 1 + l.length by simp; omega]; exact k3, k4.trans j4, k5, k6⟩

/-- a cell that the run made is what it is called here -/
def okV : Value → Bool
  | .float .f64 _ => true
  | .int .i64 (.ofNat _) => true
  | _ => false
theorem eqVs_spec : ∀ {l m : List Value}, eqVs l m = true → l = m ∧ ∀ v ∈ l, okV v = true
  | [], [], _ => ⟨rfl, fun v hv => by cases hv⟩
  | .float .f64 a :: l, v :: m, h => by
    cases v with
    | float k b =>
      cases k with
      | f64 =>
        simp only [eqVs] at h
        cases e : Nat.beq a b with
        | false => rw [e] at h; simp at h
        | true =>
          rw [e] at h
          simp only [cond_true] at h
          obtain ⟨h1, h2⟩ := eqVs_spec h
          rw [nbeq_true e, h1]
          refine ⟨rfl, fun v hv => ?_⟩
          rcases List.mem_cons.1 hv with rfl | hv
          · rfl
          · exact h2 v (h1 ▸ hv)
      | f32 => simp [eqVs] at h
    | _ => simp [eqVs] at h
  | .int .i64 (.ofNat a) :: l, v :: m, h => by
    cases v with
    | int k b =>
      cases k <;> cases b <;> simp only [eqVs] at h <;> try (cases h; done)
      rename_i b
      cases e : Nat.beq a b with
      | false => rw [e] at h; simp at h
      | true =>
        rw [e] at h
        simp only [cond_true] at h
        obtain ⟨h1, h2⟩ := eqVs_spec h
        rw [nbeq_true e, h1]
        refine ⟨rfl, fun v hv => ?_⟩
        rcases List.mem_cons.1 hv with rfl | hv
        · rfl
        · exact h2 v (h1 ▸ hv)
    | _ => simp [eqVs] at h
end Go.AM
set_option maxRecDepth 100000
namespace Go.AM
open Go Go.RowKit Go.Proofs Go.Proofs.YtdflbipaicpdcaaGreatDoor

theorem putT_keep {ins : List Nat} {n nd : Nat} : ∀ (l : List FN) {s s' : St}, putT ins n nd l s = some s' → s'.T = s.T ∧ s'.df = s.df
  | [], s, s', h => by simp only [putT, Option.some.injEq] at h; subst h; exact ⟨rfl, rfl⟩
  | ⟨op, x, y⟩ :: l, s, s', h => by
    simp only [putT] at h
    rw [frc_eq, frc_eq, node_eq] at h
    obtain ⟨a, b⟩ := putT_keep l h
    exact ⟨a, b⟩

theorem subL_get (ins : List Nat) (n nd : Nat) : ∀ (l : List Value) (i : Nat), (subL ins n nd l)[i]? = (l[i]?).map (subV ins n nd)
  | [], i => by simp [subL]
  | v :: l, 0 => by simp [subL]
  | v :: l, i + 1 => by simp only [subL, List.getElem?_cons_succ]; exact subL_get ins n nd l i
theorem subL_len (ins : List Nat) (n nd : Nat) : ∀ (l : List Value), (subL ins n nd l).length = l.length
  | [] => rfl
  | v :: l => by simp only [subL, List.length_cons, subL_len ins n nd l]

theorem rowT_new {ins : List Nat} {n nd : Nat} {r : RowT} {s s' : St} {v : Value} (h : rowT ins n nd r s = some (v, s')) : ∃ b, AM.new s (.cells r.ty r.ro (subL ins n nd r.l)) = some (b, s') ∧ v = .slice (some ⟨b, 0, none⟩) r.n r.c := by
  unfold rowT at h
  split at h
  · rename_i b s1 hn
    simp only [Option.some.injEq, Prod.mk.injEq] at h
    obtain ⟨rfl, rfl⟩ := h
    exact ⟨b, hn, rfl⟩
  · cases h
theorem rowT_keep {ins : List Nat} {n nd : Nat} {r : RowT} {s s' : St} {v : Value} (h : rowT ins n nd r s = some (v, s')) : s'.T = s.T ∧ s'.df = s.df := by
  obtain ⟨b, hn, _⟩ := rowT_new h
  obtain ⟨_, eT, _, _, _, _, edf, _, _⟩ := new_spec hn
  exact ⟨eT, edf⟩

theorem subV_den {gr : Gh} {J' J : Io} {s' : St} {w' : World} (hR : Mem gr J' All s' w') {ins : List Nat} {n nd N : Nat} (hnd : s'.nd = n + N) (hF : FlOk J J'.fl ins n nd N) {v u : Value} (hv : okV v = true) (hd : Den J' v u) : Den J (subV ins n nd v) u := by
  cases hd with
  | word k x h =>
    cases k with
    | f64 =>
      simp only [subV]
      rw [frc_eq, subN_eq, if_pos h]
      exact .word _ _ h
    | f32 => simp [okV] at hv
  | sym r m x h hx hl ha =>
    obtain ⟨_, hlt, _, _⟩ := hR.flr _ _ hx
    have hv : vl J'.fl r = some x := by unfold vl; rw [if_neg (by omega)]; exact hx
    obtain ⟨a, b⟩ := hF.sub (by omega) hv
    have b := b h
    unfold vl at a
    rw [if_neg (by omega)] at a
    simp only [subV]
    rw [frc_eq]
    exact .sym _ _ _ b a hl ha
  | int k i =>
    simp only [subV]
    exact .int _ _
  | _ => simp [okV] at hv

theorem rowT_sound {gr g : Gh} {J' J : Io} {s' s s3 : St} {w' : World} (hR : Mem gr J' All s' w') {ins : List Nat} {n nd N : Nat} (hnd : s'.nd = n + N) (hF : FlOk J J'.fl ins n nd N) (hM : Mem g J All s w') {b : Nat} {r : RowT} (hb : s'.H.get b = some (.cells r.ty r.ro r.l)) (hok : ∀ v ∈ r.l, okV v = true)
    (hfr : ∀ p, J'.blk b = some p → g.w0.heap.size ≤ p.blk ∧ ∀ x q, J.blk x = some q → q.blk ≠ p.blk) {u v : Value} (hd : Den J' (.slice (some ⟨b, 0, none⟩) r.n r.c) u) (h : rowT ins n nd r s = some (v, s3)) :
    ∃ J3, J.Le J3 ∧ Mem g J3 All s3 w' ∧ Den J3 v u ∧ ∀ x q, J3.blk x = some q → J.blk x = some q ∨ J'.blk b = some q := by
  obtain ⟨p, c', t', fz, hp, hh, hsz, hfz, hcd⟩ := hR.row trivial hb
  obtain ⟨nb, hn, rfl⟩ := rowT_new h
  obtain ⟨e1, eT, en, eW, eD, ed, edf, hnx, eH⟩ := new_spec hn
  have hfree : ∀ q, J.blk nb = some q → False := fun q hq => by have := hM.dom _ _ hq; omega
  obtain ⟨f1, f2⟩ := hfr p hp
  have hobj : ObjDen (J.add nb p) p (.cells r.ty r.ro (subL ins n nd r.l)) (.cells c' t' fz) := by
    refine ObjDen.mono (Io.add_le p hfree) ⟨c', t', fz, rfl, hsz, hfz, by rw [subL_len]; exact hcd.1, fun i v hv => ?_⟩
    rw [subL_get] at hv
    cases hi : r.l[i]? with
    | none => rw [hi] at hv; simp at hv
    | some z =>
      rw [hi] at hv
      simp only [Option.map_some, Option.some.injEq] at hv
      subst hv
      obtain ⟨u, hu, hdu⟩ := hcd.2 i z hi
      exact ⟨u, hu, subV_den hR hnd hF (hok z (List.mem_of_getElem? hi)) hdu⟩
  obtain ⟨a1, a2, a3⟩ := hM.adopt2 hn (p := p) (o' := .cells c' t' fz) f2 (hR.lt _ _ hp) f1 hh hobj
  refine ⟨_, a1, a2, ?_, fun x q hx => ?_⟩
  · cases hd with
    | slice _ _ _ _ p2 h hc =>
      rw [hp] at h
      cases h
      exact .slice _ _ _ _ p a3 hc
    | wide _ _ _ _ c2 p2 h hc hn hs =>
      rw [hp] at h
      cases h
      exact .wide _ _ _ _ c2 p a3 hc hn hs
  · by_cases hxn : x = nb
    · subst hxn
      rw [Io.add_same] at hx
      cases hx
      exact .inr hp
    · rw [Io.add_other p hxn] at hx
      exact .inl hx

theorem newD'_spec : ∀ (k : Nat) (D acc D2 : List FN), newD' k D acc = some D2 → ∃ A B, D = A ++ B ∧ A.length = k ∧ D2 = A.reverse ++ acc
  | 0, D, acc, D2, h => by simp only [newD', Option.some.injEq] at h; subst h; exact ⟨[], D, rfl, rfl, rfl⟩
  | k + 1, [], acc, D2, h => by simp [newD'] at h
  | k + 1, x :: D, acc, D2, h => by
    simp only [newD'] at h
    obtain ⟨A, B, e1, e2, e3⟩ := newD'_spec k D (x :: acc) D2 h
    exact ⟨x :: A, B, by rw [e1]; rfl, by simp [e2], by rw [e3]; simp⟩
theorem eqFN_spec : ∀ {l m : List FN}, eqFN l m = true → l = m
  | [], [], _ => rfl
  | ⟨a, b, c⟩ :: l, ⟨d, e, f⟩ :: m, h => by
    simp only [eqFN] at h
    cases h1 : Nat.beq a d with
    | false => rw [h1] at h; simp at h
    | true =>
      cases h2 : Nat.beq b e with
      | false => rw [h1, h2] at h; simp at h
      | true =>
        cases h3 : Nat.beq c f with
        | false => rw [h1, h2, h3] at h; simp at h
        | true =>
          rw [h1, h2, h3] at h
          rw [nbeq_true h1, nbeq_true h2, nbeq_true h3, eqFN_spec (l := l) (m := m) h]
  | [], _ :: _, h => by cases h
  | _ :: _, [], h => by cases h

theorem dag_at {nv : Nat} {fl : Nat → Option Nat} : ∀ {D : List FN}, DagOk nv fl D → ∀ (A B : List FN), D = A ++ B → ∀ i x, A.reverse[i]? = some x → nodeOk fl x (SYM + (B.length + i)) ∧ (nv ≤ B.length → 1 ≤ x.op ∧ x.op ≤ 4)
  | D, h, [], B, e, i, x, hi => by simp at hi
  | _, .cons n D hn hv hD, y :: A, B, e, i, x, hi => by
    simp only [List.cons_append, List.cons.injEq] at e
    obtain ⟨rfl, rfl⟩ := e
    rw [List.reverse_cons] at hi
    by_cases h : i < A.length
    · rw [List.getElem?_append_left (by simpa using h)] at hi
      exact dag_at hD A B rfl i x hi
    · rw [List.getElem?_append_right (by simpa using Nat.le_of_not_lt h)] at hi
      have hz : i - A.reverse.length = 0 := by
        have := (List.getElem?_eq_some_iff.1 hi).1
        simpa using this
      rw [hz] at hi
      simp only [List.getElem?_cons_zero, Option.some.injEq] at hi
      subst hi
      have hi2 : i = A.length := by simp at hz; omega
      subst hi2
      rw [List.length_append] at hn hv
      rw [show B.length + A.length = A.length + B.length by omega]
      exact ⟨hn, fun hh => hv (by omega)⟩

theorem eqRow_spec {s : St} {r : RowT} {v : Value} {b : Nat} (h : eqRow s r v = some b) : v = .slice (some ⟨b, 0, none⟩) r.n r.c ∧ s.H.get b = some (.cells r.ty r.ro r.l) ∧ ∀ x ∈ r.l, okV x = true := by
  unfold eqRow at h
  split at h
  case h_2 => cases h
  rename_i b' n c
  split at h
  case h_2 => cases h
  rename_i t ro l hl
  obtain ⟨h1, h⟩ := bif_some h
  simp only [Option.some.injEq] at h
  subst h
  cases k1 : Nat.beq t r.ty with
  | false => rw [k1] at h1; simp at h1
  | true =>
    cases k2 : (ro == r.ro) with
    | false => rw [k1, k2] at h1; simp at h1
    | true =>
      cases k3 : Nat.beq n r.n with
      | false => rw [k1, k2, k3] at h1; simp at h1
      | true =>
        cases k4 : Nat.beq c r.c with
        | false => rw [k1, k2, k3, k4] at h1; simp at h1
        | true =>
          rw [k1, k2, k3, k4] at h1
          simp only [cond_true] at h1
          obtain ⟨e, ho⟩ := eqVs_spec h1
          have k2' : ro = r.ro := by simpa using k2
          rw [nbeq_true k3, nbeq_true k4]
          rw [nbeq_true k1, k2', e] at hl
          exact ⟨rfl, hl, e ▸ ho⟩
end Go.AM
set_option maxRecDepth 100000
namespace Go.AM
open Go Go.RowKit Go.Proofs Go.Proofs.YtdflbipaicpdcaaGreatDoor

theorem findT_mem : ∀ (tab : List (Nat × Tm)) {n : Nat} {t : Tm}, findT tab n = some t → (n, t) ∈ tab
  | [], _, _, h => by simp [findT] at h
  | (k, t0) :: l, n, t, h => by
    unfold findT at h
    cases hc : Nat.beq k n with
    | true =>
      rw [hc] at h
      simp only [cond_true, Option.some.injEq] at h
      subst h
      rw [nbeq_true hc]
      exact List.mem_cons_self ..
    | false =>
      rw [hc] at h
      exact List.mem_cons_of_mem _ (findT_mem l h)

/-- what a table's summary asks -/
structure AskT (tab : List (Nat × Tm)) (args : List Value) (s : St) (v : Value) (s' : St) (b o n c : Nat) (ro : Bool) (cells l : List Value) (ins : List Nat) (t : Tm) (s1 s2 : St) (r : RowT) (k : IntKind) (e : Nat) (x : Value) : Prop where
  args : args = [.slice (some ⟨b, o, none⟩) n c]
  mem : (n, t) ∈ tab
  tab : tab5 s = true
  cap : n ≤ c
  row : s.H.get b = some (.cells 46 ro cells)
  cut : cut cells o n = some l
  refs : refs l = some ins
  put : putT ins n s.nd t.D s = some s1
  res : t.res = .tup r k e
  rowT : rowT ins n s.nd r s1 = some (x, s2)
  out : v = .tuple #[x, .int k (.ofNat e)]
  st : s' = s2

theorem memT_spec {tab : List (Nat × Tm)} {args : List Value} {base : Nat} {s s' : St} {v : Value} (h : memT tab args base s = some (v, s')) :
    ∃ b o n c ro cells l ins t s1 s2 r k e x, AskT tab args s v s' b o n c ro cells l ins t s1 s2 r k e x := by
  unfold memT at h
  split at h
  case h_2 => cases h
  rename_i b o n c
  split at h
  case h_2 => cases h
  rename_i t ht
  obtain ⟨h1, h⟩ := bif_some h
  obtain ⟨ht5, hcap⟩ : tab5 s = true ∧ Nat.ble n c = true := by
    cases e : tab5 s with
    | false => rw [e] at h1; simp at h1
    | true => rw [e] at h1; exact ⟨rfl, h1⟩
  split at h
  case h_2 => cases h
  rename_i ty ro cells hrow
  obtain ⟨h2, h⟩ := bif_some h
  rw [nbeq_true h2] at hrow
  split at h
  case h_2 => cases h
  rename_i l hl
  split at h
  case h_2 => cases h
  rename_i ins hins
  rw [frc_eq] at h
  split at h
  case h_2 => cases h
  rename_i s1 hs1
  split at h
  case h_2 => cases h
  rename_i r k e hres
  simp only [resT] at h
  split at h
  case h_2 => cases h
  rename_i x s2 hx
  simp only [Option.some.injEq, Prod.mk.injEq] at h
  obtain ⟨rfl, rfl⟩ := h
  exact ⟨b, o, n, c, ro, cells, l, ins, t, s1, s2, r, k, e, x, rfl, findT_mem tab ht, ht5, nble_true hcap, hrow, hl, hins, hs1, hres, hx, rfl, rfl⟩

theorem eqRes_tup {s : St} {r : RowT} {k : IntKind} {e : Nat} {v : Value} (h : eqRes s (.tup r k e) v = true) : ∃ x b, v = .tuple #[x, .int k (.ofNat e)] ∧ eqRow s r x = some b ∧ 5 ≤ b := by
  cases v with
  | tuple cs =>
    simp only [eqRes] at h
    split at h
    · rename_i x k' e' hcs
      cases h1 : (k == k') with
      | false => rw [h1] at h; simp at h
      | true =>
        cases h2 : Nat.beq e e' with
        | false => rw [h1, h2] at h; simp at h
        | true =>
          rw [h1, h2] at h
          simp only [cond_true] at h
          split at h
          · rename_i b hb
            refine ⟨x, b, ?_, hb, nble_true h⟩
            obtain ⟨arr⟩ := cs
            simp only at hcs
            have h1' : k = k' := by simpa using h1
            rw [hcs, h1', nbeq_true h2]
          · cases h
    · cases h
  | _ => simp [eqRes] at h

theorem memT_ok {f : FuncId} (hb : ∃ fn, Tryz.prog.funcs[f]? = some fn ∧ fn.body ≠ none) {tab : List (Nat × Tm)} (H : ∀ x ∈ tab, 0 < x.1 ∧ ∃ plug, PlugOk Tryz.prog plug ∧ runT Tryz.prog plug f x.1 x.2 = true) : Pl1 Tryz.prog f (memT tab) := by
  refine ⟨hb, fun args base s v s' h => ?_⟩
  obtain ⟨b, o, n, c, ro, cells, l, ins, t, s1, s2, r, k, e, x, ha⟩ := memT_spec h
  obtain ⟨p1, p2⟩ := putT_keep _ ha.put
  obtain ⟨p3, p4⟩ := rowT_keep ha.rowT
  refine ⟨by rw [ha.st, p3, p1], by rw [ha.st, p4, p2], fun g J w args' _ hM hd => ?_⟩
  obtain ⟨hn, plug, hplug, hrun⟩ := H _ ha.mem
  simp only at hn hrun
  obtain ⟨p, m, hp, hr⟩ := row_in hM hn ha.row ha.cut ha.refs
  obtain ⟨sz, hM0⟩ := memT_mem hM ha.tab ha.row hp hr
  rw [ha.args] at hd
  obtain ⟨a', rfl, hda⟩ := den1 hd
  -- the argument, as the run has it
  have harg : Den (inJ sz ⟨p.blk, p.off + o, p.sz⟩ n m) (argN n) a' := by
    have hcap := ha.cap
    cases hda with
    | slice _ _ _ _ p2 h2 hc =>
      rw [hp] at h2
      cases h2
      have := Den.wide (J := inJ sz ⟨p.blk, p.off + o, p.sz⟩ n m) 4 0 n OPEN c ⟨p.blk, p.off + o, p.sz⟩ (by simp [inJ]) (Nat.le_refl _) hcap (fun h => absurd h (Nat.lt_irrefl _))
      simpa using this
    | wide _ _ _ _ c2 p2 h2 hc hn2 hs =>
      rw [hp] at h2
      cases h2
      have := Den.wide (J := inJ sz ⟨p.blk, p.off + o, p.sz⟩ n m) 4 0 n OPEN c2 ⟨p.blk, p.off + o, p.sz⟩ (by simp [inJ]) (Nat.le_refl _) hn2 (fun h => absurd h (Nat.lt_irrefl _))
      simpa using this
  unfold runT at hrun
  split at hrun
  case h_2 => cases hrun
  rename_i v0 s0 hcall
  cases hW : s0.W.isEmpty with
  | false => rw [hW] at hrun; simp at hrun
  | true =>
  rw [hW] at hrun
  simp only [cond_true] at hrun
  cases hE : eqRes s0 t.res v0 with
  | false => rw [hE] at hrun; simp at hrun
  | true =>
  rw [hE] at hrun
  simp only [cond_true] at hrun
  split at hrun
  case h_2 => cases hrun
  rename_i D hD
  have hDt := eqFN_spec hrun
  subst hDt
  have hcalls := call_sound (g := ⟨w, inJ sz ⟨p.blk, p.off + o, p.sz⟩ n m, 5, (stN n).H, symD n⟩) tryz_enters hplug tryz_mixed hb hcall hM0 (.cons _ _ _ _ harg .nil)
  refine hcalls.mono ?_
  rintro en w' ⟨u, J', rfl, hle, hR, hden⟩
  -- what is left alone
  have hWe := List.isEmpty_iff.1 hW
  have hsz : w.heap.size ≤ w'.heap.size := hR.size
  have hold : ∀ x, x < w.heap.size → w'.heap[x]? = w.heap[x]? := fun x hx => hR.frame x hx fun b p hb => by rw [hWe] at hb; cases hb
  have hM1 : Mem g J All s w' := hM.later hsz hold hR.oo
  -- the row
  rw [ha.res] at hE
  obtain ⟨x0, b0, rfl, hrow, h5⟩ := eqRes_tup hE
  obtain ⟨rfl, hH, hok⟩ := eqRow_spec hrow
  have hu : ∃ y, u = .tuple #[y, .int k (.ofNat e)] ∧ Den J' (.slice (some ⟨b0, 0, none⟩) r.n r.c) y := by
    cases hden with
    | tuple _ u' hl =>
      obtain ⟨y, z, e1, d1, d2⟩ := den2 hl
      obtain ⟨arr⟩ := u'
      simp only at e1
      subst e1
      cases d2
      exact ⟨y, rfl, d1⟩
  obtain ⟨y, rfl, hdy⟩ := hu
  -- the nodes
  obtain ⟨A, B, eD, lA, eA⟩ := newD'_spec _ _ _ _ hD
  rw [List.append_nil] at eA
  have hsuf : symD n <:+ s0.D := hR.suf
  have hndl : s0.nd = s0.D.length := hR.nd
  have hle2 : n ≤ s0.nd := by
    have := hsuf.length_le
    rw [symD_len] at this
    omega
  have hBl : B.length = n := by
    have : s0.D.length = A.length + B.length := by rw [eD, List.length_append]
    have h4 : A.length = s0.nd - n := lA
    omega
  have hDl : t.D.length = s0.nd - n := by rw [eA, List.length_reverse]; exact lA
  have hdag := hR.dag
  have hF0 : FlOk J J'.fl ins n s.nd 0 := by
    refine ⟨fun i hi => ⟨hr.sym i hi, Fl.canon (m i), ?_, ?_⟩, fun i hi => by omega⟩
    · refine hle.fl _ _ ?_
      simp only [inJ]
      rw [if_pos ⟨by omega, by omega⟩, show SYM + i - SYM = i by omega]
    · have h1 := hr.den i hi
      have h2 := hr.sym i hi
      obtain ⟨m', X, e1, v1, _, _, h4⟩ := h1.float
      obtain ⟨-, e2⟩ := Value.float.inj e1
      unfold vl at v1
      rw [if_neg (by omega)] at v1
      rw [v1, ← (h4 h2).2, e2]
  obtain ⟨J1, j1, j2, j3, j4, -, -⟩ := putT_sound t.D 0 ha.put rfl hM1 hF0 fun i z hz => by
    rw [eA] at hz
    obtain ⟨q1, q2⟩ := dag_at hdag A B eD i z hz
    rw [hBl] at q1
    rw [Nat.zero_add]
    exact ⟨q1, q2 (by show (symD n).length ≤ _; rw [symD_len]; omega)⟩
  rw [Nat.zero_add, hDl] at j3
  obtain ⟨J2, k1, k2, k3, -⟩ := rowT_sound hR (by omega) j3 j2 hH hok (fun p0 hp0 => by
    rcases hR.new b0 p0 h5 hp0 with h6 | ⟨c, q, hc, _⟩
    · refine ⟨Nat.le_trans hM.size h6, fun x q hx => ?_⟩
      rw [j4] at hx
      have := hM.lt _ _ hx
      have h7 : w.heap.size ≤ p0.blk := h6
      omega
    · rw [hWe] at hc; cases hc) hdy ha.rowT
  refine ⟨_, J2, rfl, j1.trans k1, by rw [ha.st]; exact k2, ?_⟩
  rw [ha.out]
  exact .tuple _ _ (.cons _ _ _ _ k3 (.cons _ _ _ _ (.int _ _) .nil))
end Go.AM
set_option maxRecDepth 100000
namespace Go.AM
open Go Go.RowKit Go.Proofs Go.Proofs.YtdflbipaicpdcaaGreatDoor

noncomputable section
/-- does a run come to true? -/
def runB (P : Program) (plug : Plug) (f : FuncId) : Bool :=
  match call P plug 5000 f [] 4 st0 with
  | some (.bool b, s) => bif s.W.isEmpty then b else false
  | _ => false
def trueF : PF := fun args _ s =>
  match args with
  | [] => bif tab5 s then some (.bool true, s) else none
  | _ => none
end

theorem trueF_ok {plug : Plug} (hplug : PlugOk Tryz.prog plug) {f : FuncId} (hb : ∃ fn, Tryz.prog.funcs[f]? = some fn ∧ fn.body ≠ none) (H : runB Tryz.prog plug f = true) : Pl1 Tryz.prog f trueF := by
  refine ⟨hb, fun args base s v s' h => ?_⟩
  unfold trueF at h
  split at h
  case h_2 => cases h
  obtain ⟨ht, h⟩ := bif_some h
  simp only [Option.some.injEq, Prod.mk.injEq] at h
  obtain ⟨rfl, rfl⟩ := h
  refine ⟨rfl, rfl, fun g J w args' _ hM hd => ?_⟩
  unfold runB at H
  split at H
  case h_2 => cases H
  rename_i b s0 hcall
  cases hW : s0.W.isEmpty with
  | false => rw [hW] at H; simp at H
  | true =>
  rw [hW] at H
  simp only [cond_true] at H
  subst H
  obtain ⟨sz, hcalls⟩ := memo_calls hplug hb hcall hM ht (by rfl) hd
  refine hcalls.mono ?_
  rintro en w' ⟨u, J', rfl, hle, hR, hden⟩
  obtain ⟨k1, k2⟩ := memo_keep hR (List.isEmpty_iff.1 hW)
  cases hden
  exact ⟨_, J, rfl, .refl _, hM.later k1 k2 hR.oo, .bool _⟩
end Go.AM
set_option maxRecDepth 100000
namespace Go.AM
open Go Go.RowKit Go.Proofs Go.Proofs.YtdflbipaicpdcaaGreatDoor

/-- the library's table lies at its place, whole -/
structure Laid (w : World) : Prop where
  size : 4 ≤ w.heap.size
  tab : ∃ c t fz, w.heap[2]? = some (.cells c t fz) ∧ c.toList = db64

/-- memory that was there is as it was, and the outside -/
structure Kept (w w' : World) : Prop where
  same : SameO w w'
  size : w.heap.size ≤ w'.heap.size
  block : ∀ k, k < w.heap.size → w'.heap[k]? = w.heap[k]?
theorem Kept.trans {a b c : World} (h : Kept a b) (k : Kept b c) : Kept a c :=
  ⟨h.same.trans k.same, Nat.le_trans h.size k.size, fun i hi => (k.block i (Nat.lt_of_lt_of_le hi h.size)).trans (h.block i hi)⟩
theorem Kept.of_below {w w' : World} (h : Below w.heap.size w w') : Kept w w' := ⟨.of_below h, h.size, h.block⟩
theorem Kept.below {w w' : World} (h : Kept w w') : Below w.heap.size w { w' with tape := w.tape } := ⟨h.same.1, rfl, h.same.2, h.size, h.block⟩
theorem Laid.kept {w w' : World} (h : Laid w) (k : Kept w w') : Laid w' := by
  obtain ⟨h1, c, t, fz, h2, h3⟩ := h
  exact ⟨Nat.le_trans h1 k.size, c, t, fz, by rw [k.block 2 (by omega)]; exact h2, h3⟩

/-- of a run that wrote nothing -/
theorem kept_of {w w' : World} {J0 J' : Io} {base : Nat} {H0 : Tr AO} {D0 : List FN} {s' : St} (h : Mem ⟨w, J0, base, H0, D0⟩ J' All s' w') (hW : s'.W = []) : Kept w w' :=
  ⟨h.oo, h.size, fun x hx => h.frame x hx fun b p hb => by rw [hW] at hb; cases hb⟩

theorem laid_cells {w : World} (hL : Laid w) (J : Io) : ∃ c t fz, w.heap[2]? = some (.cells c t fz) ∧ CellsDen J 0 db64 c ∧ (∀ i m : Nat, c[i]? ≠ some (.float .f64 m)) := by
  obtain ⟨_, c, t, fz, h, e⟩ := hL
  have hget : ∀ i v, db64[i]? = some v → c[i]? = some v := fun i v hv => by rw [← e, Array.getElem?_toList] at hv; exact hv
  have hf : ∀ y ∈ db64, flat 6 y = true := by decide
  have hnf : ∀ y ∈ db64, ∀ m, y ≠ .float .f64 m := by
    intro y hy m hm
    simp only [db64, List.mem_map] at hy
    obtain ⟨n, _, rfl⟩ := hy
    cases hm
  refine ⟨c, t, fz, h, ⟨?_, fun i v hv => ⟨v, by rw [Nat.zero_add]; exact hget i v hv, flat_den 6 _ (hf v (List.mem_of_getElem? hv)) _⟩⟩, fun i m hc => ?_⟩
  · rw [← e]; simp
  · rw [← Array.getElem?_toList, e] at hc
    exact hnf _ (List.mem_of_getElem? hc) m rfl

theorem start_mem {w : World} (hL : Laid w) {b off n : Nat} {c' : Array Value} {t' : TypeId} {fz' : Nat × Nat} {m : Nat → Nat} (hb : w.heap[b]? = some (.cells c' t' fz')) (hn : 0 < n)
    (hm : ∀ i, i < n → c'[off + i]? = some (.float .f64 (m i))) (hlt : ∀ i, i < n → m i < 2 ^ 64) :
    Mem ⟨w, inJ 64 ⟨b, off, c'.size⟩ n m, 5, (stN n).H, symD n⟩ (inJ 64 ⟨b, off, c'.size⟩ n m) All (stN n) w := by
  obtain ⟨hH1, hH2, hH4⟩ := stN_H n
  obtain ⟨c2, t2, fz2, h2, hcd, hnf⟩ := laid_cells hL (inJ 64 ⟨b, off, c'.size⟩ n m)
  have hsz2 : c2.size = 64 := by
    obtain ⟨_, c, t, fz, h, e⟩ := hL
    have hc : c = c2 := by rw [h] at h2; cases h2; rfl
    rw [← hc]
    have : c.toList.length = 64 := by rw [e]; decide
    simpa using this
  have hblk : ∀ x q, (inJ 64 ⟨b, off, c'.size⟩ n m).blk x = some q → (x < 4 ∧ q = ⟨x, 0, 64⟩) ∨ (x = 4 ∧ q = ⟨b, off, c'.size⟩) := fun x q hx => by
    simp only [inJ] at hx
    split at hx
    · rename_i hlt; cases hx; exact .inl ⟨hlt, rfl⟩
    · split at hx
      · rename_i h4; cases hx; exact .inr ⟨h4, rfl⟩
      · cases hx
  have hplt : b < w.heap.size := (Array.getElem?_eq_some_iff.1 hb).1
  have hp2 : b ≠ 2 := fun e2 => by
    subst e2
    rw [hb] at h2
    cases h2
    have := hm 0 hn
    exact hnf _ _ this
  refine ⟨?_, ?_, ?_, ?_, ?_, (symD_len n).symm, ?_, List.suffix_refl _, ?_, .refl _, fun _ _ _ h => h, Nat.le_refl _, fun _ _ _ => rfl, ?_, fun _ _ _ => rfl, ?_, Nat.le_refl _, by show 5 ≤ 1000000000; decide, ?_, .refl _⟩
  · intro x y q r _ _ hx hy h1 h2 e
    have k : ∀ z, (stN n).H.get z ≠ none → z = 2 ∨ z = 4 := fun z hz => by
      by_cases z2 : z = 2
      · exact .inl z2
      · by_cases z4 : z = 4
        · exact .inr z4
        · exact absurd (hH1 z z2 z4) hz
    rcases hblk _ _ h1 with ⟨a1, rfl⟩ | ⟨a1, rfl⟩ <;> rcases hblk _ _ h2 with ⟨a2, rfl⟩ | ⟨a2, rfl⟩
    · exact e
    · have := k _ hx; have := k _ hy; simp only at e; omega
    · have := k _ hx; have := k _ hy; simp only at e; omega
    · omega
  · intro x q hx
    have := hL.size
    rcases hblk _ _ hx with ⟨a, rfl⟩ | ⟨a, rfl⟩
    · show x < w.heap.size; omega
    · exact hplt
  · intro x q hx
    show x < 5
    rcases hblk _ _ hx with ⟨a, _⟩ | ⟨a, _⟩ <;> omega
  · intro x ob _ hx
    by_cases hx2 : x = 2
    · subst hx2
      rw [hH2] at hx
      cases hx
      exact ⟨⟨2, 0, 64⟩, _, by simp [inJ], h2, c2, t2, fz2, rfl, hsz2, (fun e => by cases e), hcd⟩
    · by_cases h4 : x = 4
      · subst h4
        rw [hH4] at hx
        cases hx
        refine ⟨⟨b, off, c'.size⟩, _, by simp [inJ], hb, c', t', fz', rfl, rfl, (fun e => by cases e), ?_, fun i v hv => ?_⟩
        · rw [symRow_len]
          have := (Array.getElem?_eq_some_iff.1 (hm (n - 1) (by omega))).1
          show off + n ≤ c'.size
          omega
        · rw [symRow_get] at hv
          split at hv
          · rename_i hi
            simp only [Option.some.injEq] at hv
            subst hv
            refine ⟨_, hm i hi, .sym _ _ _ (by omega) ?_ (hlt i hi) rfl⟩
            simp only [inJ]
            rw [if_pos ⟨by omega, by omega⟩, show SYM + (0 + i) - SYM = i by omega]
          · cases hv
      · rw [hH1 x hx2 h4] at hx; cases hx
  · intro x hx
    have h5 : 5 ≤ x := hx
    exact hH1 x (by omega) (by omega)
  · show DagOk (symD n).length _ (symD n)
    rw [symD_len]
    exact in_dag _ _ _ _ hlt n (Nat.le_refl _)
  · intro r x hx
    simp only [inJ] at hx
    split at hx
    · rename_i hlt2
      simp only [Option.some.injEq] at hx
      subst hx
      exact ⟨hlt2.1, hlt2.2, canon_lt (hlt _ (by omega)), Fl.canon_canon _⟩
    · cases hx
  · intro x q hx hq
    have h5 : 5 ≤ x := hx
    rcases hblk _ _ hq with ⟨a, _⟩ | ⟨a, _⟩ <;> omega
  · intro x hx; cases hx
  · intro i hi
    exact ⟨⟨i, 0, 64⟩, by simp [inJ, hi], rfl, rfl⟩

/-- of a row of none -/
noncomputable def stZ : St := start [none, none, some (.cells 5 true db64), none, none]
theorem stZ_H : (∀ x, x ≠ 2 → stZ.H.get x = none) ∧ stZ.H.get 2 = some (.cells 5 true db64) := by
  have e : stZ.H = (Tr.lf : Tr AO).set 40 2 (some (.cells 5 true db64)) := rfl
  rw [e]
  refine ⟨fun x hx => ?_, ?_⟩
  · rw [Tr.get_set 40 _ 2 _ x (by decide), if_neg hx]; rfl
  · rw [Tr.get_set 40 _ 2 _ 2 (by decide), if_pos rfl]
def zJ (o : Option Pl) : Io := { blk := fun i => if i < 4 then some ⟨i, 0, 64⟩ else if i = 4 then o else none, fl := fun _ => none }
theorem zero_mem {w : World} (hL : Laid w) (o : Option Pl) (ho : ∀ p, o = some p → p.blk < w.heap.size) : Mem ⟨w, zJ o, 5, stZ.H, []⟩ (zJ o) All stZ w := by
  obtain ⟨hH1, hH2⟩ := stZ_H
  obtain ⟨c2, t2, fz2, h2, hcd, hnf⟩ := laid_cells hL (zJ o)
  have hsz2 : c2.size = 64 := by
    obtain ⟨_, c, t, fz, h, e⟩ := hL
    have hc : c = c2 := by rw [h] at h2; cases h2; rfl
    rw [← hc]
    have : c.toList.length = 64 := by rw [e]; decide
    simpa using this
  have hblk : ∀ x q, (zJ o).blk x = some q → (x < 4 ∧ q = ⟨x, 0, 64⟩) ∨ (x = 4 ∧ o = some q) := fun x q hx => by
    simp only [zJ] at hx
    split at hx
    · rename_i hlt; cases hx; exact .inl ⟨hlt, rfl⟩
    · split at hx
      · rename_i h4; exact .inr ⟨h4, hx⟩
      · cases hx
  refine ⟨?_, ?_, ?_, ?_, ?_, rfl, .nil, List.suffix_refl _, ?_, .refl _, fun _ _ _ h => h, Nat.le_refl _, fun _ _ _ => rfl, ?_, fun _ _ _ => rfl, ?_, Nat.le_refl _, by show 5 ≤ 1000000000; decide, ?_, .refl _⟩
  · intro x y q r _ _ hx hy h1 h2 e
    have k : ∀ z, stZ.H.get z ≠ none → z = 2 := fun z hz => by
      by_cases z2 : z = 2
      · exact z2
      · exact absurd (hH1 z z2) hz
    rw [k _ hx, k _ hy]
  · intro x q hx
    have := hL.size
    rcases hblk _ _ hx with ⟨a, rfl⟩ | ⟨a, e⟩
    · show x < w.heap.size; omega
    · exact ho _ e
  · intro x q hx
    show x < 5
    rcases hblk _ _ hx with ⟨a, _⟩ | ⟨a, _⟩ <;> omega
  · intro x ob _ hx
    by_cases hx2 : x = 2
    · subst hx2
      rw [hH2] at hx
      cases hx
      exact ⟨⟨2, 0, 64⟩, _, by simp [zJ], h2, c2, t2, fz2, rfl, hsz2, (fun e => by cases e), hcd⟩
    · rw [hH1 x hx2] at hx; cases hx
  · intro x hx
    have h5 : 5 ≤ x := hx
    exact hH1 x (by omega)
  · intro r x hx; cases hx
  · intro x q hx hq
    have h5 : 5 ≤ x := hx
    rcases hblk _ _ hq with ⟨a, _⟩ | ⟨a, _⟩ <;> omega
  · intro x hx; cases hx
  · intro i hi
    exact ⟨⟨i, 0, 64⟩, by simp [zJ, hi], rfl, rfl⟩

noncomputable section
end
/-- a summary without arguments, that comes to true -/
theorem head_calls {f : FuncId} (h : Pl1 Tryz.prog f trueF) {w : World} (hL : Laid w) : Calls Tryz.prog f #[] w fun e w' => e = .returned (.bool true) ∧ Kept w w' := by
  have hM := zero_mem hL none (fun p e => by cases e)
  have ht : tab5 stZ = true := by decide
  obtain ⟨_, h2⟩ := h
  obtain ⟨_, _, h3⟩ := h2 [] 5 stZ (.bool true) stZ (by unfold trueF; simp [ht])
  refine (h3 _ _ w [] rfl hM .nil).mono ?_
  rintro en w' ⟨u, J', rfl, hle, hR, hden⟩
  cases hden
  exact ⟨rfl, kept_of hR rfl⟩
end Go.AM
