/- The abstract machine: summaries of naturals and dyadic numbers: what is computed. Definitions alone; no condition. The abstract machine: what a run at given data tells, kept as a summary: definitions alone; no condition. The abstract machine: tables of what runs at given data tell. The abstract machine: summaries of float arithmetic: what is computed. Definitions alone; no condition. The abstract machine: what a run with floats that are not known comes to, kept as a list of what is added and multiplied: definitions alone; no condition. The abstract machine: tables of rows of words: definitions alone; no condition. The abstract machine: rows of floats that are reckoned alike: definitions alone; no condition. No condition. -/
import Derived.Test.YtdflbipaicpdcaaGreatDoorSAm
import Derived.Shelf.Spec.TrailingZeros
namespace Go.AM
open Go
noncomputable section

/-- a number, told first -/
def frc {α : Type} (n : Nat) (f : Nat → α) : α := Nat.rec (motive := fun _ => α) (f 0) (fun k _ => f (Nat.succ k)) n
def frcI {α : Type} (z : Int) (f : Int → α) : α := Int.rec (motive := fun _ => α) (fun n => frc n fun n => f (Int.ofNat n)) (fun n => frc n fun n => f (Int.negSucc n)) z

/-- the number that cells tell, if they are its own -/
def rdL : List Value → Option Nat
  | [] => some 0
  | .int .i64 (.ofNat d) :: l => match rdL l with
    | some m => bif Nat.blt d 16777216 then bif Nat.beq (Nat.add d m) 0 then none else some (Nat.add d (Nat.mul 16777216 m)) else none
    | none => none
  | _ :: _ => none

def rdN (s : St) : Value → Option Nat
  | .slice none 0 0 => some 0
  | .slice (some ⟨b, o, none⟩) n c => bif Nat.ble n c then match rowAt s b with
      | some cells => match cut cells o n with
        | some l => rdL l
        | none => none
      | none => none
    else none
  | _ => none

/-- small enough -/
def szN (n : Nat) : Bool := Nat.ble (Nat.log2 n) 9000

def mkL : Nat → Nat → List Value
  | 0, _ => []
  | f + 1, n => bif Nat.beq n 0 then [] else frc (Nat.mod n 16777216) fun d => frc (Nat.div n 16777216) fun q => .int .i64 (.ofNat d) :: mkL f q

def lenV : List Value → Nat
  | [] => 0
  | _ :: l => Nat.succ (lenV l)

def newN (s : St) (n : Nat) : Option (Value × St) :=
  bif szN n then
    match new s (.cells 3 true (mkL 800 n)) with
    | some (b, s) => some (.slice (some ⟨b, 0, none⟩) (lenV (mkL 800 n)) OPEN, s)
    | none => none
  else none

/-- sign, mantissa, power -/
structure DN where
  neg : Bool
  m : Nat
  e : Int

def okE (e : Int) : Bool := Nat.ble (Int.natAbs e) 20000

def rdD (s : St) : Value → Option DN
  | .agg cs => match cs.toList with
    | [.bool neg, v, .int .i64 e] => match rdN s v with
      | some M => bif Nat.beq M 0 then bif neg then none else bif Nat.beq (Int.natAbs e) 0 then some ⟨false, 0, 0⟩ else none
        else bif bif Nat.beq (Nat.mod M 2) 1 then bif okE e then szN M else false else false then some ⟨neg, M, e⟩ else none
      | none => none
    | _ => none
  | _ => none

def BIGK : Nat := 9010
def BIG : Nat := Nat.pow 2 BIGK

/-- a new dyadic number -/
def newD (s : St) (neg : Bool) (m : Nat) (g : Int) : Option (Value × St) :=
  bif Nat.beq m 0 then some (.agg #[.bool false, .slice none 0 0, .int .i64 0], s)
  else bif szN m then
    frc (Nat.gcd m BIG) fun p => frcI (Int.add g (.ofNat (Nat.log2 p))) fun E =>
      match newN s (Nat.div m p) with
      | some (v, s) => some (.agg #[.bool neg, v, .int .i64 E], s)
      | none => none
  else none

/-- the library's table is there -/
def tabGo : List Nat → List Value → Bool
  | [], _ => true
  | d :: ds, .int .u8 (.ofNat x) :: c => bif Nat.beq x d then tabGo ds c else false
  | _ :: _, _ => false
def tabOk (s : St) : Bool :=
  match s.H.get 2 with
  | some (.cells _ _ c) => tabGo Lib.deBruijn64tab c
  | _ => false

abbrev PF := List Value → Nat → St → Option (Value × St)

/-- a summary of two naturals -/
def two (f : Nat → Nat → St → Option (Value × St)) : PF := fun args _ s =>
  match args with
  | [a, b] => match rdN s a, rdN s b with
    | some x, some y => bif szN x then bif szN y then frc x fun x => frc y fun y => f x y s else none else none
    | _, _ => none
  | _ => none
def nAdd : PF := two fun x y s => newN s (Nat.add x y)
def nMul : PF := two fun x y s => newN s (Nat.mul x y)
def nSub : PF := two fun x y s => bif Nat.ble y x then
    match newN s (Nat.sub x y) with
    | some (v, s) => some (.tuple #[v, .bool true], s)
    | none => none
  else some (.tuple #[.slice none 0 0, .bool false], s)
def cmpI (x y : Nat) : Int := bif Nat.blt x y then Int.negSucc 0 else bif Nat.beq x y then Int.ofNat 0 else Int.ofNat 1
def nCmp : PF := two fun x y s => some (.int .i64 (cmpI x y), s)
def nOf : PF := fun args _ s =>
  match args with
  | [.int .i64 (.ofNat n)] => bif Nat.beq n 0 then some (.slice none 0 0, s) else bif Nat.blt n 4000000000000000000 then newN s n else none
  | _ => none
def lenS : Value → Nat
  | .slice _ n _ => n
  | _ => 0
def nShl : PF := fun args _ s =>
  match args with
  | [a, .int .i64 (.ofNat k)] => match rdN s a with
    | some x => bif Nat.ble k 9000 then bif szN x then newN s (Nat.mul x (Nat.pow 2 k)) else none else none
    | none => none
  | _ => none
def nShr : PF := fun args _ s =>
  match args with
  | [a, .int .i64 (.ofNat k)] => match rdN s a with
    | some x => bif Nat.ble k 20000 then bif szN x then
        bif Nat.ble (lenS a) (Nat.div k 24) then some (.slice none 0 0, s) else newN s (Nat.div x (Nat.pow 2 k))
      else none else none
    | none => none
  | _ => none
def blenN (n : Nat) : Nat := bif Nat.beq n 0 then 0 else Nat.succ (Nat.log2 n)
def nLen : PF := fun args _ s =>
  match args with
  | [a] => match rdN s a with
    | some x => bif szN x then some (.int .i64 (.ofNat (blenN x)), s) else none
    | none => none
  | _ => none
def rtGo (n : Nat) : Nat → Nat → Nat
  | 0, x => x
  | f + 1, x => frc (Nat.div (Nat.add x (Nat.div n x)) 2) fun y => bif Nat.blt y x then rtGo n f y else x
def nRoot : PF := fun args _ s =>
  match args with
  | [a] => match rdN s a with
    | some n => bif szN n then frc (rtGo n 60 (Nat.pow 2 (Nat.add (Nat.div (Nat.log2 n) 2) 1))) fun r =>
        bif Nat.ble (Nat.mul r r) n then bif Nat.blt n (Nat.mul (Nat.succ r) (Nat.succ r)) then newN s r else none else none
      else none
    | none => none
  | _ => none

/-- both numbers, with the lower power -/
def dTwo (f : DN → DN → St → Option (Value × St)) : PF := fun args _ s =>
  match args with
  | [a, b] => match rdD s a, rdD s b with
    | some x, some y => bif tabOk s then f x y s else none
    | _, _ => none
  | _ => none
def sumN (n : Bool) (a : Nat) (k : Bool) (b : Nat) : Bool × Nat :=
  bif n == k then (n, Nat.add a b) else bif Nat.ble b a then (n, Nat.sub a b) else (k, Nat.sub b a)
/-- how far up -/
def upI (e g : Int) : Nat := Int.toNat (Int.sub e g)
def minI (a b : Int) : Int := match Int.sub b a with
  | .ofNat _ => a
  | .negSucc _ => b
def sumD (x y : DN) (k : Bool → Nat → Int → Option (Value × St)) : Option (Value × St) :=
  frcI (minI x.e y.e) fun g => frc (upI x.e g) fun i => frc (upI y.e g) fun j =>
    bif bif Nat.ble i 9000 then Nat.ble j 9000 else false then
      frc (Nat.mul x.m (Nat.pow 2 i)) fun a => frc (Nat.mul y.m (Nat.pow 2 j)) fun b =>
        bif szN (Nat.add a b) then k (sumN x.neg a y.neg b).1 (sumN x.neg a y.neg b).2 g else none
    else none
def dAdd : PF := dTwo fun x y s => sumD x y fun n m g => newD s n m g
def sgnI (n : Bool) (m : Nat) : Int := bif Nat.beq m 0 then Int.ofNat 0 else bif n then Int.negSucc 0 else Int.ofNat 1
def dCmp : PF := dTwo fun x y s => sumD x ⟨!y.neg, y.m, y.e⟩ fun n m _ => some (.int .i64 (sgnI n m), s)
def dMul : PF := dTwo fun x y s => newD s (x.neg != y.neg) (Nat.mul x.m y.m) (Int.add x.e y.e)
def dFlip : PF := fun args _ s =>
  match args with
  | [a] => match rdD s a with
    | some x => bif tabOk s then newD s (!x.neg) x.m x.e else none
    | none => none
  | _ => none
def dSign : PF := fun args _ s =>
  match args with
  | [a] => match rdD s a with
    | some x => some (.int .i64 (sgnI x.neg x.m), s)
    | none => none
  | _ => none
def dShift : PF := fun args _ s =>
  match args with
  | [a, .int .i64 k] => match rdD s a with
    | some x => bif tabOk s then bif okE k then newD s x.neg x.m (Int.add x.e k) else none else none
    | none => none
  | _ => none
def dOf : PF := fun args _ s =>
  match args with
  | [.int .i64 (.ofNat n)] => bif tabOk s then bif Nat.blt n 4000000000000000000 then newD s false n (.ofNat 0) else none else none
  | _ => none
def dMake : PF := fun args _ s =>
  match args with
  | [.bool neg, a, .int .i64 e] => match rdN s a with
    | some x => bif tabOk s then bif okE e then bif szN x then newD s neg x e else none else none else none
    | none => none
  | _ => none
def cutM (n up : Bool) (m k : Nat) : Nat := bif up == n then Nat.div m (Nat.pow 2 k) else Nat.succ (Nat.div m (Nat.pow 2 k))
def dCut : PF := fun args _ s =>
  match args with
  | [a, .int .i64 (.ofNat n), .bool up] => match rdD s a with
    | some x => bif tabOk s then bif Nat.ble n 20000 then
        frc (Nat.sub (blenN x.m) n) fun k => bif Nat.beq k 0 then newD s x.neg x.m x.e
          else newD s x.neg (cutM x.neg up x.m k) (Int.add x.e (.ofNat k))
      else none else none
    | none => none
  | _ => none

/-- summaries, one by one -/
def plugOf : List (Nat × PF) → Plug
  | [], _ => none
  | (k, h) :: l, f => bif Nat.beq f k then some h else plugOf l f
def listND : List (Nat × PF) := [(123, dAdd), (64, dCmp), (124, dMul), (127, dShift), (129, dFlip), (275, dCut), (128, dSign), (126, dOf), (181, dMake), (252, nLen), (223, nShl), (276, nRoot), (226, nShr), (186, nOf), (182, nAdd), (183, nSub), (184, nMul), (230, nCmp)]
def plugND : Plug := plugOf listND
end
end Go.AM
namespace Go.AM
open Go
noncomputable section

/-- the library's table -/
def db64 : List Value := Lib.deBruijn64tab.map fun n => Value.int .u8 (.ofNat n)
/-- a state with that alone -/
def st0 : St := start [none, none, some (.cells 5 true db64), none]

/-- the dyadic numbers that cells tell, each with a row of its own -/
def chkD (s : St) : List Nat → List Value → Option (List DN)
  | _, [] => some []
  | used, .bool neg :: sl :: .int .i64 e :: rest =>
    match sl with
    | .slice none 0 0 => bif neg then none else bif Nat.beq (Int.natAbs e) 0 then
        match chkD s used rest with
        | some ds => some (⟨false, 0, 0⟩ :: ds)
        | none => none
      else none
    | .slice (some ⟨b, o, none⟩) n c => bif bif mem used b then true else Nat.blt b 4 then none else
      match s.H.get b with
      | some (.cells t _ cells) => bif Nat.beq t 3 then
          match cut cells o n with
          | some l => match rdL l with
            | some m => bif Nat.beq m 0 then none else bif Nat.ble n c then
                match chkD s (b :: used) rest with
                | some ds => some (⟨neg, m, e⟩ :: ds)
                | none => none
              else none
            | none => none
          | none => none
        else none
      | _ => none
    | _ => none
  | _, _ :: _ => none

def memoD (P : Program) (plug : Plug) (n : Nat) (f : FuncId) (args : List Value) : Option (List DN) :=
  match call P plug n f args 4 st0 with
  | some (.agg cs, s) => bif s.W.isEmpty then chkD s [] cs.toList else none
  | _ => none
def memoF (P : Program) (plug : Plug) (n : Nat) (f : FuncId) (args : List Value) : Option Nat :=
  match call P plug n f args 4 st0 with
  | some (.float .f64 b, s) => bif s.W.isEmpty then bif Nat.blt b SYM then some b else none else none
  | _ => none

/-- new rows of dyadic numbers, one by one -/
def outDs : List DN → St → Option (List Value × St)
  | [], s => some ([], s)
  | x :: ds, s => bif Nat.beq x.m 0 then
      match outDs ds s with
      | some (l, s) => some (.bool false :: .slice none 0 0 :: .int .i64 0 :: l, s)
      | none => none
    else match newN s x.m with
      | some (v, s1) => match outDs ds s1 with
        | some (l, s2) => some (.bool x.neg :: v :: .int .i64 x.e :: l, s2)
        | none => none
      | none => none

/-- the table, as it must be -/
def tab5 (s : St) : Bool :=
  match s.H.get 2 with
  | some (.cells t _ c) => bif Nat.beq t 5 then tabGo Lib.deBruijn64tab c else false
  | _ => false

/-- an angle's key -/
def keyKQ : Value → Option (Nat × Nat)
  | .agg cs => match cs.toList with
    | [.int .i64 (.ofNat k), .int .i64 (.ofNat q)] => some (k, q)
    | _ => none
  | _ => none
abbrev KQ (k q : Nat) : Value := .agg #[.int .i64 (.ofNat k), .int .i64 (.ofNat q)]

/-- of a table of words -/
def findF : List ((Nat × Nat) × Nat) → Nat → Nat → Option Nat
  | [], _, _ => none
  | ((a, b), x) :: l, k, q => bif bif Nat.beq a k then Nat.beq b q else false then some x else findF l k q
def memF (tab : List ((Nat × Nat) × Nat)) : PF := fun args _ s =>
  match args with
  | [a] => match keyKQ a with
    | some (k, q) => match findF tab k q with
      | some x => bif tab5 s then some (.float .f64 x, s) else none
      | none => none
    | none => none
  | _ => none
/-- of a table of dyadic numbers: of an angle and a number of bits -/
def findD : List ((Nat × Nat × Nat) × List DN) → Nat → Nat → Nat → Option (List DN)
  | [], _, _, _ => none
  | ((a, b, c), x) :: l, k, q, w => bif bif Nat.beq a k then bif Nat.beq b q then Nat.beq c w else false else false then some x else findD l k q w
def memD (tab : List ((Nat × Nat × Nat) × List DN)) : PF := fun args _ s =>
  match args with
  | [a, .int .i64 (.ofNat w)] => match keyKQ a with
    | some (k, q) => match findD tab k q w with
      | some ds => bif tab5 s then
          match outDs ds s with
          | some (l, s) => some (.agg l.toArray, s)
          | none => none
        else none
      | none => none
    | none => none
  | _ => none
end
end Go.AM
namespace Go.AM
open Go

def eqI : Int → Int → Bool
  | .ofNat a, .ofNat b => Nat.beq a b
  | .negSucc a, .negSucc b => Nat.beq a b
  | _, _ => false
theorem eqI_spec : ∀ {a b : Int}, eqI a b = true → a = b
  | .ofNat a, .ofNat b, h => by rw [Nat.eq_of_beq_eq_true h]
  | .negSucc a, .negSucc b, h => by rw [Nat.eq_of_beq_eq_true h]
  | .ofNat _, .negSucc _, h => by cases h
  | .negSucc _, .ofNat _, h => by cases h
def eqDs : List DN → List DN → Bool
  | [], [] => true
  | x :: l, y :: m => bif x.neg == y.neg then bif Nat.beq x.m y.m then bif eqI x.e y.e then eqDs l m else false else false else false
  | _, _ => false
theorem eqDs_spec : ∀ {l m : List DN}, eqDs l m = true → l = m
  | [], [], _ => rfl
  | ⟨a, b, c⟩ :: l, ⟨a', b', c'⟩ :: m, h => by
    simp only [eqDs] at h
    cases h1 : (a == a') with
    | false => rw [h1] at h; simp at h
    | true =>
      cases h2 : Nat.beq b b' with
      | false => rw [h1, h2] at h; simp at h
      | true =>
        cases h3 : eqI c c' with
        | false => rw [h1, h2, h3] at h; simp at h
        | true =>
          rw [h1, h2, h3] at h
          have e1 : a = a' := by simpa using h1
          rw [e1, Nat.eq_of_beq_eq_true h2, eqI_spec h3, eqDs_spec (l := l) (m := m) h]
  | [], _ :: _, h => by cases h
  | _ :: _, [], h => by cases h

noncomputable section
abbrev KeyD := (Nat × Nat × Nat) × List DN
def runD (P : Program) (plug : Plug) (f : FuncId) (x : KeyD) : Bool :=
  match memoD P plug 5000 f [KQ x.1.1 x.1.2.1, .int .i64 (.ofNat x.1.2.2)] with
  | some l => eqDs l x.2
  | none => false
def runsD (P : Program) (plug : Plug) (f : FuncId) : List KeyD → Bool
  | [] => true
  | x :: l => bif runD P plug f x then runsD P plug f l else false
abbrev KeyF := (Nat × Nat) × Nat
def runF (P : Program) (plug : Plug) (f : FuncId) (x : KeyF) : Bool :=
  match memoF P plug 5000 f [KQ x.1.1 x.1.2] with
  | some w => Nat.beq w x.2
  | none => false
def runsF (P : Program) (plug : Plug) (f : FuncId) : List KeyF → Bool
  | [] => true
  | x :: l => bif runF P plug f x then runsF P plug f l else false
end

def AllD (P : Program) (plug : Plug) (f : FuncId) (tab : List KeyD) : Prop := ∀ x ∈ tab, memoD P plug 5000 f [KQ x.1.1 x.1.2.1, .int .i64 (.ofNat x.1.2.2)] = some x.2
def AllF (P : Program) (plug : Plug) (f : FuncId) (tab : List KeyF) : Prop := ∀ x ∈ tab, memoF P plug 5000 f [KQ x.1.1 x.1.2] = some x.2
theorem runsD_spec {P : Program} {plug : Plug} {f : FuncId} : ∀ {tab : List KeyD}, runsD P plug f tab = true → AllD P plug f tab
  | [], _ => fun x hx => by cases hx
  | y :: l, h => fun x hx => by
    unfold runsD at h
    cases h1 : runD P plug f y with
    | false => rw [h1] at h; simp at h
    | true =>
      rw [h1] at h
      rcases List.mem_cons.1 hx with rfl | hx
      · unfold runD at h1
        split at h1
        · rename_i l2 h2; rw [h2, eqDs_spec h1]
        · cases h1
      · exact runsD_spec (tab := l) h x hx
theorem runsF_spec {P : Program} {plug : Plug} {f : FuncId} : ∀ {tab : List KeyF}, runsF P plug f tab = true → AllF P plug f tab
  | [], _ => fun x hx => by cases hx
  | y :: l, h => fun x hx => by
    unfold runsF at h
    cases h1 : runF P plug f y with
    | false => rw [h1] at h; simp at h
    | true =>
      rw [h1] at h
      rcases List.mem_cons.1 hx with rfl | hx
      · unfold runF at h1
        split at h1
        · rename_i l2 h2; rw [h2, Nat.eq_of_beq_eq_true h1]
        · cases h1
      · exact runsF_spec (tab := l) h x hx
theorem AllD.append {P : Program} {plug : Plug} {f : FuncId} {a b : List KeyD} (h : AllD P plug f a) (k : AllD P plug f b) : AllD P plug f (a ++ b) := fun x hx => (List.mem_append.1 hx).elim (h x) (k x)
theorem AllF.append {P : Program} {plug : Plug} {f : FuncId} {a b : List KeyF} (h : AllF P plug f a) (k : AllF P plug f b) : AllF P plug f (a ++ b) := fun x hx => (List.mem_append.1 hx).elim (h x) (k x)
end Go.AM
namespace Go.AM
open Go
noncomputable section

/-- a new node, and what is done with it -/
def node {α : Type} (s : St) (op x y : Nat) (k : Nat → St → Option α) : Option α :=
  match s with
  | ⟨T, H, nx, W, D, nd, df⟩ => frc (Nat.add SYM nd) fun r => frc (Nat.succ nd) fun n => k r ⟨T, H, nx, W, ⟨op, x, y⟩ :: D, n, df⟩
def oneF (op : Nat) : PF := fun args _ s =>
  match args with
  | [.float .f64 a, .float .f64 b] => node s op a b fun r s => some (.float .f64 r, s)
  | _ => none
/-- part by part -/
def twoF (op : Nat) : PF := fun args _ s =>
  match args with
  | [.float .f64 a, .float .f64 b, .float .f64 c, .float .f64 d] => node s op a c fun r s => node s op b d fun t s => some (.tuple #[.float .f64 r, .float .f64 t], s)
  | _ => none
def halfF : PF := fun args _ s =>
  match args with
  | [.float .f64 a, .float .f64 b] => node s 3 a 4602678819172646912 fun r s => node s 3 b 4602678819172646912 fun t s => some (.tuple #[.float .f64 r, .float .f64 t], s)
  | _ => none
def mulF : PF := fun args _ s =>
  match args with
  | [.float .f64 a, .float .f64 b, .float .f64 c, .float .f64 d] => node s 3 a c fun ac s => node s 3 b d fun bd s => node s 2 ac bd fun r s => node s 3 a d fun ad s => node s 3 b c fun bc s => node s 1 ad bc fun t s => some (.tuple #[.float .f64 r, .float .f64 t], s)
  | _ => none
def turnF : PF := fun args _ s =>
  match args with
  | [.float .f64 a, .float .f64 b, .float .f64 c, .float .f64 d] => node s 3 a c fun ac s => node s 3 b d fun bd s => node s 1 ac bd fun r s => node s 3 b c fun bc s => node s 3 a d fun ad s => node s 2 bc ad fun t s => some (.tuple #[.float .f64 r, .float .f64 t], s)
  | _ => none
def listF : List (Nat × PF) := [(111, oneF 1), (135, oneF 2), (103, oneF 3), (42, twoF 1), (43, twoF 2), (46, halfF), (47, turnF), (137, mulF)]
end
end Go.AM
namespace Go.AM
open Go

/-- the number of an input's float, or of a node's -/
def sy (i : Nat) : Nat := Nat.add 18446744073709551616 i
/-- a new row: of a type, may it be written, the slice's length and capacity, its cells -/
structure RowT where
  ty : Nat
  ro : Bool
  n : Nat
  c : Nat
  l : List Value
inductive ResT where
  | tup (r : RowT) (k : IntKind) (e : Nat)
  | two (r r2 : RowT)
/-- what a run comes to: the nodes, the first first; a float's number is a word's or, from SYM on, an input's or a node's -/
structure Tm where
  D : List FN
  res : ResT

noncomputable section
def symRow : Nat → Nat → List Value
  | 0, _ => []
  | k + 1, i => .float .f64 (Nat.add SYM i) :: symRow k (Nat.succ i)
def symD : Nat → List FN
  | 0 => []
  | k + 1 => ⟨0, 0, 0⟩ :: symD k
/-- the library's table, and a row of n floats -/
def stN (n : Nat) : St :=
  match start [none, none, some (.cells 5 true db64), none, some (.cells 46 true (symRow n 0))] with
  | ⟨T, H, nx, W, _, _, df⟩ => ⟨T, H, nx, W, symD n, n, df⟩
abbrev argN (n : Nat) : Value := .slice (some ⟨4, 0, none⟩) n OPEN

/-- the nodes but for the last n, the first first -/
def newD' : Nat → List FN → List FN → Option (List FN)
  | 0, _, acc => some acc
  | _ + 1, [], _ => none
  | k + 1, x :: D, acc => newD' k D (x :: acc)
def eqFN : List FN → List FN → Bool
  | [], [] => true
  | ⟨a, b, c⟩ :: l, ⟨d, e, f⟩ :: m => bif Nat.beq a d then bif Nat.beq b e then bif Nat.beq c f then eqFN l m else false else false else false
  | _, _ => false
def eqVs : List Value → List Value → Bool
  | [], [] => true
  | .float .f64 a :: l, .float .f64 b :: m => bif Nat.beq a b then eqVs l m else false
  | .int .i64 (.ofNat a) :: l, .int .i64 (.ofNat b) :: m => bif Nat.beq a b then eqVs l m else false
  | _, _ => false
/-- a block that is such a row -/
def eqRow (s : St) (r : RowT) : Value → Option Nat
  | .slice (some ⟨b, 0, none⟩) n c => match s.H.get b with
    | some (.cells t ro l) => bif bif Nat.beq t r.ty then bif ro == r.ro then bif Nat.beq n r.n then bif Nat.beq c r.c then eqVs l r.l else false else false else false else false then some b else none
    | _ => none
  | _ => none
def eqRes (s : St) : ResT → Value → Bool
  | .tup r k e, .tuple cs => match cs.toList with
    | [x, .int k' (.ofNat e')] => bif k == k' then bif Nat.beq e e' then (match eqRow s r x with | some b => Nat.ble 5 b | none => false) else false else false
    | _ => false
  | .two r r2, .agg cs => match cs.toList with
    | [x, y] => match eqRow s r x with
      | some b => match eqRow s r2 y with
        | some b2 => bif Nat.beq b b2 then false else bif Nat.ble 4 b then Nat.ble 4 b2 else false
        | none => false
      | none => false
    | _ => false
  | _, _ => false
/-- does a run with n unknown floats come to this? -/
def runT (P : Program) (plug : Plug) (f : FuncId) (n : Nat) (t : Tm) : Bool :=
  match call P plug 5000 f [argN n] 5 (stN n) with
  | some (v, s) => bif s.W.isEmpty then bif eqRes s t.res v then
      match newD' (Nat.sub s.nd n) s.D [] with
      | some D => eqFN D t.D
      | none => false
    else false else false
  | none => false

/-- a float's number, where others stand for the inputs -/
def subN (ins : List Nat) (n nd r : Nat) : Nat :=
  bif Nat.blt r SYM then r else frc (Nat.sub r SYM) fun i => bif Nat.blt i n then ins.getD i 0 else frc (Nat.add SYM (Nat.add nd (Nat.sub i n))) fun x => x
def putT (ins : List Nat) (n nd : Nat) : List FN → St → Option St
  | [], s => some s
  | ⟨op, x, y⟩ :: l, s => frc (subN ins n nd x) fun x => frc (subN ins n nd y) fun y => node s op x y fun _ s => putT ins n nd l s
def subV (ins : List Nat) (n nd : Nat) : Value → Value
  | .float .f64 r => frc (subN ins n nd r) fun r => .float .f64 r
  | v => v
def subL (ins : List Nat) (n nd : Nat) : List Value → List Value
  | [] => []
  | v :: l => subV ins n nd v :: subL ins n nd l
def rowT (ins : List Nat) (n nd : Nat) (r : RowT) (s : St) : Option (Value × St) :=
  match new s (.cells r.ty r.ro (subL ins n nd r.l)) with
  | some (b, s) => some (.slice (some ⟨b, 0, none⟩) r.n r.c, s)
  | none => none
def resT (ins : List Nat) (n nd : Nat) : ResT → St → Option (Value × St)
  | .tup r k e, s => match rowT ins n nd r s with
    | some (v, s) => some (.tuple #[v, .int k (.ofNat e)], s)
    | none => none
  | .two r r2, s => match rowT ins n nd r s with
    | some (v, s) => match rowT ins n nd r2 s with
      | some (v2, s) => some (.agg #[v, v2], s)
      | none => none
    | none => none
def refs : List Value → Option (List Nat)
  | [] => some []
  | .float .f64 x :: l => match refs l with
    | some m => bif Nat.ble SYM x then some (x :: m) else none
    | none => none
  | _ :: _ => none
def findT : List (Nat × Tm) → Nat → Option Tm
  | [], _ => none
  | (k, t) :: l, n => bif Nat.beq k n then some t else findT l n
/-- of a table of runs -/
def memT (tab : List (Nat × Tm)) : PF := fun args _ s =>
  match args with
  | [.slice (some ⟨b, o, none⟩) n c] => match findT tab n with
    | some t => bif bif tab5 s then Nat.ble n c else false then
        match s.H.get b with
        | some (.cells ty _ cells) => bif Nat.beq ty 46 then
            match cut cells o n with
            | some l => match refs l with
              | some ins => frc s.nd fun nd => match putT ins n nd t.D s with
                | some s => match t.res with
                  | .tup r k e => resT ins n nd (.tup r k e) s
                  | .two _ _ => none
                | none => none
              | none => none
            | none => none
          else none
        | _ => none
      else none
    | none => none
  | _ => none
end
end Go.AM
namespace Go.AM
open Go
abbrev KeyT := (Nat × Nat) × (RowT × RowT)
noncomputable section
/-- does a run at two numbers come to two new rows of words? -/
def runTab (P : Program) (plug : Plug) (f : FuncId) (x : KeyT) : Bool :=
  match call P plug 5000 f [.int .i64 (.ofNat x.1.1), .int .i64 (.ofNat x.1.2)] 4 st0 with
  | some (v, s) => bif s.W.isEmpty then bif eqRes s (.two x.2.1 x.2.2) v then Nat.beq s.nd 0 else false else false
  | none => false
def findTab : List KeyT → Nat → Nat → Option (RowT × RowT)
  | [], _, _ => none
  | ((a, b), x) :: l, k, q => bif bif Nat.beq a k then Nat.beq b q else false then some x else findTab l k q
def memTab (tab : List KeyT) : PF := fun args _ s =>
  match args with
  | [.int .i64 (.ofNat q), .int .i64 (.ofNat m)] => match findTab tab q m with
    | some (r, r2) => bif tab5 s then
        match rowT [] 0 0 r s with
        | some (v, s) => match rowT [] 0 0 r2 s with
          | some (v2, s) => some (.agg #[v, v2], s)
          | none => none
        | none => none
      else none
    | none => none
  | _ => none
end
end Go.AM
namespace Go.AM
open Go
noncomputable section
/-- the nodes by their numbers -/
def idxD : List FN → Nat → Tr FN → Tr FN
  | [], _, t => t
  | x :: D, k, t => frc (Nat.pred k) fun k => idxD D k (t.set 40 k (some x))
def rowF (s : St) (b o n : Nat) : Option (List Nat) :=
  match s.H.get b with
  | some (.cells ty _ cells) => bif Nat.beq ty 46 then
      match cut cells o n with
      | some l => refs l
      | none => none
    else none
  | _ => none
end
end Go.AM
