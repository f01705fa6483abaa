/- The abstract machine: tables of angles' parts are summaries that are sound. Runs of circ.Cos and turn.Split at the angles that head asks for, by the abstract machine. The abstract machine: float arithmetic of words, and tables of flat answers: definitions alone; no condition. Runs of what head asks again and again, by the abstract machine: tables of flat answers. No condition. -/
import Derived.Test.YtdflbipaicpdcaaGreatDoorSQw
import Derived.Test.YtdflbipaicpdcaaGreatDoorProg
import Derived.Test.YtdflbipaicpdcaaGreatDoorSTg
import Derived.KernelRfl
import Derived.Test.YtdflbipaicpdcaaGreatDoorSDe
import Derived.Test.YtdflbipaicpdcaaGreatDoorSAa
set_option linter.unusedVariables false
set_option linter.unusedSimpArgs false
set_option maxRecDepth 100000
namespace Go.AM
open Go Go.RowKit Go.Proofs Go.Proofs.YtdflbipaicpdcaaGreatDoor

abbrev KeyP := (Nat × Nat) × (Nat × Nat × Nat)
abbrev partV (x : Nat × Nat × Nat) : Value := .agg #[.int .i64 (.ofNat x.1), .int .i64 (.ofNat x.2.1), .int .i64 (.ofNat x.2.2)]
noncomputable section
def runP (P : Program) (plug : Plug) (f : FuncId) (x : KeyP) : Bool :=
  match call P plug 5000 f [KQ x.1.1 x.1.2] 4 st0 with
  | some (.agg cs, s) => bif s.W.isEmpty then
      match cs.toList with
      | [.int .i64 (.ofNat a), .int .i64 (.ofNat b), .int .i64 (.ofNat c)] => bif Nat.beq a x.2.1 then bif Nat.beq b x.2.2.1 then Nat.beq c x.2.2.2 else false else false
      | _ => false
    else false
  | _ => false
def findP : List KeyP → Nat → Nat → Option (Nat × Nat × Nat)
  | [], _, _ => none
  | ((a, b), x) :: l, k, q => bif bif Nat.beq a k then Nat.beq b q else false then some x else findP l k q
def memP (tab : List KeyP) : PF := fun args _ s =>
  match args with
  | [a] => match keyKQ a with
    | some (k, q) => match findP tab k q with
      | some x => bif tab5 s then some (partV x, s) else none
      | none => none
    | none => none
  | _ => none
end

theorem findP_mem : ∀ (tab : List KeyP) {k q : Nat} {x : Nat × Nat × Nat}, findP tab k q = some x → ((k, q), x) ∈ tab
  | [], _, _, _, h => by simp [findP] at h
  | ((a, b), y) :: l, k, q, x, h => by
    unfold findP at h
    cases hc : (bif Nat.beq a k then Nat.beq b q else false) with
    | true =>
      rw [hc] at h
      simp only [cond_true, Option.some.injEq] at h
      subst h
      cases h1 : Nat.beq a k with
      | false => rw [h1] at hc; simp at hc
      | true =>
        rw [h1] at hc
        obtain rfl := nbeq_true h1
        obtain rfl := nbeq_true hc
        exact List.mem_cons_self ..
    | false =>
      rw [hc] at h
      exact List.mem_cons_of_mem _ (findP_mem l h)

theorem memP_ok {plug : Plug} (hplug : PlugOk Tryz.prog plug) {f : FuncId} (hb : ∃ fn, Tryz.prog.funcs[f]? = some fn ∧ fn.body ≠ none) {tab : List KeyP} (H : ∀ x ∈ tab, runP Tryz.prog plug f x = true) : Pl1 Tryz.prog f (memP tab) := by
  refine ⟨hb, fun args base s v s' h => ?_⟩
  unfold memP at h
  split at h
  case h_2 => cases h
  rename_i a
  split at h
  case h_2 => cases h
  rename_i k q hk
  obtain rfl := keyKQ_spec hk
  split at h
  case h_2 => cases h
  rename_i x hx
  obtain ⟨ht, h⟩ := bif_some h
  simp only [Option.some.injEq, Prod.mk.injEq] at h
  obtain ⟨rfl, rfl⟩ := h
  refine ⟨rfl, rfl, fun g J w args' _ hM hd => ?_⟩
  have hrun := H _ (findP_mem tab hx)
  unfold runP at hrun
  split at hrun
  case h_2 => cases hrun
  rename_i cs s0 hcall
  cases hW : s0.W.isEmpty with
  | false => rw [hW] at hrun; simp at hrun
  | true =>
  rw [hW] at hrun
  simp only [cond_true] at hrun
  have hv : ∀ J, Den J (partV x) (partV x) := fun J => .agg _ _ (.cons _ _ _ _ (.int _ _) (.cons _ _ _ _ (.int _ _) (.cons _ _ _ _ (.int _ _) .nil)))
  split at hrun
  case h_2 => cases hrun
  rename_i a b c hcs
  have e : (Value.agg cs) = partV x := by
    obtain ⟨x1, x2, x3⟩ := x
    obtain ⟨arr⟩ := cs
    simp only at hcs hrun
    cases k1 : Nat.beq a x1 with
    | false => rw [k1] at hrun; simp at hrun
    | true =>
      cases k2 : Nat.beq b x2 with
      | false => rw [k1, k2] at hrun; simp at hrun
      | true =>
        rw [k1, k2] at hrun
        rw [hcs, nbeq_true k1, nbeq_true k2, nbeq_true hrun]
  rw [e] at hcall
  obtain ⟨sz, hcalls⟩ := memo_calls hplug hb hcall hM ht (by simp [flat_KQ]) hd
  refine hcalls.mono ?_
  rintro en w' ⟨u, J', rfl, hle, hR, hden⟩
  obtain ⟨k1, k2⟩ := memo_keep hR (List.isEmpty_iff.1 hW)
  have hu : partV x = u := (flat_eq 6 _ _ (by rfl) hden).symm
  subst hu
  exact ⟨_, J, rfl, .refl _, hM.later k1 k2 hR.oo, hv J⟩
end Go.AM
set_option maxRecDepth 1000000
namespace Go.AM
open Go Go.Proofs
def cosH : List KeyD := [((1, 5, 160), [⟨false, 1433419293179370032902808815682339884992159813183, -160⟩, ⟨false, 22397176455927656764106387745036560703002497081, -154⟩]),
  ((3, 5, 160), [⟨false, 1215194199771060924365800978532032918482389114159, -160⟩, ⟨false, 75949637485691307772862561158252057405149319635, -156⟩]),
  ((5, 5, 160), [⟨false, 811966805210459915923776695941261801554971187017, -160⟩, ⟨false, 405983402605229957961888347970630900777485593509, -159⟩]),
  ((7, 5, 160), [⟨false, 285124825053984560730676229419201618762012091789, -160⟩, ⟨false, 142562412526992280365338114709600809381006045895, -159⟩]),
  ((9, 5, 160), [⟨true, 142562412526992280365338114709600809381006045895, -159⟩, ⟨true, 285124825053984560730676229419201618762012091789, -160⟩]),
  ((15, 5, 160), [⟨true, 22397176455927656764106387745036560703002497081, -154⟩, ⟨true, 1433419293179370032902808815682339884992159813183, -160⟩]),
  ((21, 5, 160), [⟨true, 405983402605229957961888347970630900777485593509, -159⟩, ⟨true, 811966805210459915923776695941261801554971187017, -160⟩]),
  ((25, 5, 160), [⟨false, 285124825053984560730676229419201618762012091789, -160⟩, ⟨false, 142562412526992280365338114709600809381006045895, -159⟩]),
  ((35, 5, 160), [⟨false, 1215194199771060924365800978532032918482389114159, -160⟩, ⟨false, 75949637485691307772862561158252057405149319635, -156⟩]),
  ((49, 5, 160), [⟨true, 22397176455927656764106387745036560703002497081, -154⟩, ⟨true, 1433419293179370032902808815682339884992159813183, -160⟩])]
theorem cosH_run : runsD Tryz.prog plugR 175 cosH = true := by kernel_rfl
noncomputable section
def runsP (P : Program) (plug : Plug) (f : FuncId) : List KeyP → Bool
  | [] => true
  | x :: l => bif runP P plug f x then runsP P plug f l else false
end
theorem runsP_spec {P : Program} {plug : Plug} {f : FuncId} : ∀ {tab : List KeyP}, runsP P plug f tab = true → ∀ x ∈ tab, runP P plug f x = true
  | [], _ => fun x hx => by cases hx
  | y :: l, h => fun x hx => by
    unfold runsP at h
    cases h1 : runP P plug f y with
    | false => rw [h1] at h; simp at h
    | true =>
      rw [h1] at h
      rcases List.mem_cons.1 hx with rfl | hx
      · exact h1
      · exact runsP_spec (tab := l) h x hx
def splitH : List KeyP := [((0, 1), (0, 0, 0)), ((0, 2), (0, 0, 0)), ((1, 2), (2, 0, 0)), ((1, 5), (0, 1, 5)), ((3, 5), (0, 3, 5)), ((5, 5), (1, 3, 5)), ((7, 5), (1, 1, 5)), ((9, 5), (2, 1, 5)), ((15, 5), (3, 1, 5)), ((21, 5), (5, 3, 5)), ((25, 5), (6, 1, 5)), ((35, 5), (0, 3, 5)), ((49, 5), (4, 1, 5))]
theorem splitH_run : runsP Tryz.prog plugR 158 splitH = true := by kernel_rfl
noncomputable section
def listH : List (Nat × PF) := (44, memTab tabT) :: (158, memP splitH) :: (175, memD cosH) :: (159, memF cosTab) :: (160, memF sinTab) :: listR
def plugH : Plug := plugOf listH
end
end Go.AM
namespace Go.AM
open Go Go.Proofs.YtdflbipaicpdcaaGreatDoor
noncomputable section
/-- a word is made of two, if it is a number's -/
def fopN (op x y : Nat) : Nat :=
  match op with
  | 1 => Fl.fadd x y
  | 2 => Fl.fsub x y
  | _ => Fl.fmul x y
def word {α : Type} (op x y : Nat) (k : Nat → Option α) : Option α :=
  bif Nat.blt x SYM then bif Nat.blt y SYM then frc (fopN op x y) fun r => bif Fl.isNaN r then none else bif Nat.blt r SYM then k r else none else none else none
def oneW (op : Nat) : PF := fun args _ s =>
  match args with
  | [.float .f64 a, .float .f64 b] => word op a b fun r => some (.float .f64 r, s)
  | _ => none
def twoW (op : Nat) : PF := fun args _ s =>
  match args with
  | [.float .f64 a, .float .f64 b, .float .f64 c, .float .f64 d] => word op a c fun r => word op b d fun t => some (.tuple #[.float .f64 r, .float .f64 t], s)
  | _ => none
def halfW : PF := fun args _ s =>
  match args with
  | [.float .f64 a, .float .f64 b] => word 3 a 4602678819172646912 fun r => word 3 b 4602678819172646912 fun t => some (.tuple #[.float .f64 r, .float .f64 t], s)
  | _ => none
def mulW : PF := fun args _ s =>
  match args with
  | [.float .f64 a, .float .f64 b, .float .f64 c, .float .f64 d] => word 3 a c fun ac => word 3 b d fun bd => word 2 ac bd fun r => word 3 a d fun ad => word 3 b c fun bc => word 1 ad bc fun t => some (.tuple #[.float .f64 r, .float .f64 t], s)
  | _ => none
def turnW : PF := fun args _ s =>
  match args with
  | [.float .f64 a, .float .f64 b, .float .f64 c, .float .f64 d] => word 3 a c fun ac => word 3 b d fun bd => word 1 ac bd fun r => word 3 b c fun bc => word 3 a d fun ad => word 2 bc ad fun t => some (.tuple #[.float .f64 r, .float .f64 t], s)
  | _ => none
def listW : List (Nat × PF) := [(111, oneW 1), (135, oneW 2), (103, oneW 3), (42, twoW 1), (43, twoW 2), (46, halfW), (47, turnW), (137, mulW)]

/-- are two flat values the same? -/
def eqF : Nat → Value → Value → Bool
  | 0, _, _ => false
  | n + 1, v, u => match v, u with
    | .bool a, .bool b => a == b
    | .int k a, .int l b => bif k == l then eqI a b else false
    | .iface t x, .iface r y => bif Nat.beq t r then eqF n x y else false
    | .agg a, .agg b => eqFL (eqF n) a.toList b.toList
    | _, _ => false
  where eqFL (f : Value → Value → Bool) : List Value → List Value → Bool
  | [], [] => true
  | x :: l, y :: m => bif f x y then eqFL f l m else false
  | _, _ => false
abbrev KeyV := List Value × Value
def runV (P : Program) (plug : Plug) (f : FuncId) (x : KeyV) : Bool :=
  bif x.1.all (flat 6) then
    match call P plug 5000 f x.1 4 st0 with
    | some (v, s) => bif s.W.isEmpty then bif flat 6 v then eqF 6 v x.2 else false else false
    | none => false
  else false
def runsV (P : Program) (plug : Plug) (f : FuncId) : List KeyV → Bool
  | [] => true
  | x :: l => bif runV P plug f x then runsV P plug f l else false
def findV : List KeyV → List Value → Option Value
  | [], _ => none
  | (a, x) :: l, args => bif eqF.eqFL (eqF 6) a args then some x else findV l args
def memV (tab : List KeyV) : PF := fun args _ s =>
  match findV tab args with
  | some v => bif tab5 s then some (v, s) else none
  | none => none
end
end Go.AM
set_option maxRecDepth 1000000
namespace Go.AM
open Go Go.Proofs
abbrev vI (n : Nat) : Value := .int .i64 (.ofNat n)
def fitsH : List KeyV := [([vI 6, vI 4], .bool true), ([vI 12, vI 4], .bool true), ([vI 11, vI 8], .bool true)]
def logH : List KeyV := [([vI 2], vI 1), ([vI 4], vI 2)]
def zerosH : List KeyV := [([.int .u64 (.ofNat 4)], vI 2), ([.int .u64 (.ofNat 2)], vI 1)]
def waveH : List KeyV := [([vI 6], .iface 190 (.agg #[vI 10, vI 4, .bool false]))]
theorem fitsH_run : runsV Tryz.prog plugH 25 fitsH = true := by kernel_rfl
theorem logH_run : runsV Tryz.prog plugH 87 logH = true := by kernel_rfl
theorem zerosH_run : runsV Tryz.prog plugH 83 zerosH = true := by kernel_rfl
theorem waveH_run : runsV Tryz.prog plugH 77 waveH = true := by kernel_rfl
noncomputable section
def listK : List (Nat × PF) := (25, memV fitsH) :: (87, memV logH) :: (83, memV zerosH) :: (77, memV waveH) :: (listW ++ listH)
def plugK : Plug := plugOf listK
end
end Go.AM
