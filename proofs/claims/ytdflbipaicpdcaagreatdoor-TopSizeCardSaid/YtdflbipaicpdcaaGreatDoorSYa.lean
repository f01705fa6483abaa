/- How a turn and a sum with a difference keep the sum of squares: plain. How layers of turns, and of sums with differences, keep a sum of squares: plain. How a whole of layers keeps a sum of squares, and how it is looked at whether nodes are such layers: plain. The abstract machine: a transform's run with unknown floats, looked at whether it is layers of turns, and of sums with differences. No condition. -/
import Derived.Test.YtdflbipaicpdcaaGreatDoorSYz
import Derived.Test.YtdflbipaicpdcaaGreatDoorSSm
import Derived.Test.YtdflbipaicpdcaaGreatDoorSQw
set_option linter.unusedVariables false
set_option linter.unusedSimpArgs false
set_option maxRecDepth 100000
namespace Go.Proofs.YtdflbipaicpdcaaGreatDoor.Fl

/-- no float that is looked at is greater -/
def BIG1 : Nat := 2 ^ 1600
theorem BIG1_eq (n : Nat) (h : n = 1600) : BIG1 = 2 ^ n := by subst h; unfold BIG1; rfl

theorem big_lt {k z n : Nat} (hz : z = 1074) (hn : n = 2097) (hk : k ≤ BIG1 * ONE) : k < 2 ^ (n + z) := by
  obtain ⟨b, hb⟩ : ∃ b, b = 1600 := ⟨_, rfl⟩
  rw [BIG1_eq b hb, ONE_eq z hz, ← Nat.pow_add] at hk
  refine Nat.lt_of_le_of_lt hk ?_
  exact (Nat.pow_lt_pow_iff_right (a := 2) (by decide)).2 (by omega)
theorem big_sum {k n : Nat} (hn : n = 2097) (hk : k ≤ 4 * BIG1 + 2) : k < 2 ^ n := by
  obtain ⟨b, hb⟩ : ∃ b, b = 1600 := ⟨_, rfl⟩
  rw [BIG1_eq b hb] at hk
  have h1 : 2 ^ n = 2 ^ b * 2 ^ (n - b) := by rw [← Nat.pow_add]; congr 1; omega
  have h2 : 2 ^ 3 ≤ 2 ^ (n - b) := Nat.pow_le_pow_right (by decide) (by omega)
  have h3 : 2 ^ 1 ≤ 2 ^ b := Nat.pow_le_pow_right (by decide) (by omega)
  have h4 : 2 ^ b * 2 ^ 3 ≤ 2 ^ b * 2 ^ (n - b) := Nat.mul_le_mul_left _ h2
  rw [h1]
  generalize 2 ^ b * 2 ^ (n - b) = y at *
  generalize 2 ^ b = x at *
  omega

theorem prod_err {a c : Nat} (ha : Fin a) (hc : Fin c) (ha1 : mg a ≤ BIG1) (hc1 : mg c ≤ ONE) :
    Fin (fmul a c) ∧ (V (fmul a c) * (ONE : Int) - V a * V c).natAbs * 2 ^ 53 ≤ mg a * ONE + 2 ^ 52 * ONE ∧ (V a * V c).natAbs ≤ mg a * ONE := by
  obtain ⟨z, hz⟩ : ∃ z, z = 1074 := ⟨_, rfl⟩
  have h1 : (V a * V c).natAbs = mg a * mg c := by rw [Int.natAbs_mul, mg_natAbs, mg_natAbs]
  have h2 : (V a * V c).natAbs ≤ mg a * ONE := by rw [h1]; exact Nat.mul_le_mul_left _ hc1
  have h3 := mul_err2 ha hc hz (big_lt hz rfl (Nat.le_trans h2 (Nat.mul_le_mul_right _ ha1)))
  refine ⟨h3.1, Nat.le_trans h3.2 ?_, h2⟩
  have h4 : 2 ^ (52 + z) = 2 ^ 52 * ONE := by rw [ONE_eq z hz, Nat.pow_add]
  rw [h4]
  exact Nat.add_le_add_right h2 _

theorem part_lin {X Y O u v α β G S δ : Nat} (h1 : α * 2 ^ 53 ≤ X + 2 ^ 52 * O) (h2 : β * 2 ^ 53 ≤ Y + 2 ^ 52 * O) (h3 : G * 2 ^ 53 ≤ S) (h4 : S ≤ u + v + α + β) (h5 : u ≤ X) (h6 : v ≤ Y) (h7 : δ ≤ G + α + β) :
    δ * 2 ^ 53 ≤ 3 * X + 3 * Y + 2 ^ 54 * O := by grind

/-- what is off in a sum of two products -/
theorem part_err {O : Nat} {M N P X Y : Int} {ma mb : Nat} (h1 : (M * (O : Int) - X).natAbs * 2 ^ 53 ≤ ma * O + 2 ^ 52 * O) (h2 : (N * (O : Int) - Y).natAbs * 2 ^ 53 ≤ mb * O + 2 ^ 52 * O)
    (h3 : X.natAbs ≤ ma * O) (h4 : Y.natAbs ≤ mb * O) (h5 : (P - (M + N)).natAbs * 2 ^ 53 ≤ (M + N).natAbs) :
    (P * (O : Int) - (X + Y)).natAbs * 2 ^ 53 ≤ O * (3 * (ma + mb) + 2 ^ 54) := by
  have e1 : P * (O : Int) - (X + Y) = (P - (M + N)) * (O : Int) + (M * (O : Int) - X) + (N * (O : Int) - Y) := by grind
  have e2 : (M + N) * (O : Int) = X + Y + (M * (O : Int) - X) + (N * (O : Int) - Y) := by grind
  have h6 : (P * (O : Int) - (X + Y)).natAbs ≤ (P - (M + N)).natAbs * O + (M * (O : Int) - X).natAbs + (N * (O : Int) - Y).natAbs := by
    rw [e1]
    refine Nat.le_trans (Int.natAbs_add_le _ _) (Nat.add_le_add_right (Nat.le_trans (Int.natAbs_add_le _ _) (Nat.add_le_add_right ?_ _)) _)
    rw [Int.natAbs_mul, Int.natAbs_natCast]
    exact Nat.le_refl _
  have h7 : (M + N).natAbs * O ≤ X.natAbs + Y.natAbs + (M * (O : Int) - X).natAbs + (N * (O : Int) - Y).natAbs := by
    have : (M + N).natAbs * O = ((M + N) * (O : Int)).natAbs := by rw [Int.natAbs_mul, Int.natAbs_natCast]
    rw [this, e2]
    exact Nat.le_trans (Int.natAbs_add_le _ _) (Nat.add_le_add_right (Nat.le_trans (Int.natAbs_add_le _ _) (Nat.add_le_add_right (Int.natAbs_add_le _ _) _)) _)
  have h8 : (P - (M + N)).natAbs * O * 2 ^ 53 ≤ (M + N).natAbs * O := by
    rw [Nat.mul_right_comm]
    exact Nat.mul_le_mul_right _ h5
  have h9 := part_lin h1 h2 h8 h7 h3 h4 h6
  refine Nat.le_trans h9 (Nat.le_of_eq ?_)
  generalize (2 : Nat) ^ 54 = T
  grind

theorem mg_prod {a c : Nat} {ma : Nat} (h : (V (fmul a c) * (ONE : Int) - V a * V c).natAbs * 2 ^ 53 ≤ ma * ONE + 2 ^ 52 * ONE) (h2 : (V a * V c).natAbs ≤ ma * ONE) : mg (fmul a c) ≤ 2 * ma + 1 := by
  have e : V (fmul a c) * (ONE : Int) = V a * V c + (V (fmul a c) * (ONE : Int) - V a * V c) := by grind
  have h3 : mg (fmul a c) * ONE ≤ (V a * V c).natAbs + (V (fmul a c) * (ONE : Int) - V a * V c).natAbs := by
    have : mg (fmul a c) * ONE = (V (fmul a c) * (ONE : Int)).natAbs := by rw [Int.natAbs_mul, Int.natAbs_natCast, mg_natAbs]
    rw [this]
    exact Nat.le_trans (Nat.le_of_eq (congrArg Int.natAbs e)) (Int.natAbs_add_le _ _)
  have h4 : mg (fmul a c) * ONE ≤ (2 * ma + 1) * ONE := by
    rw [Nat.add_mul, Nat.one_mul, Nat.mul_assoc]
    generalize mg (fmul a c) * ONE = y at *
    generalize ma * ONE = x at *
    omega
  exact Nat.le_of_mul_le_mul_right h4 ONE_pos

theorem turn_add {a b c d : Nat} (ha : Fin a) (hb : Fin b) (hc : Fin c) (hd : Fin d) (ha1 : mg a ≤ BIG1) (hb1 : mg b ≤ BIG1) (hc1 : mg c ≤ ONE) (hd1 : mg d ≤ ONE) :
    Fin (fadd (fmul a c) (fmul b d)) ∧ (V (fadd (fmul a c) (fmul b d)) * (ONE : Int) - (V a * V c + V b * V d)).natAbs * 2 ^ 53 ≤ ONE * (3 * (mg a + mg b) + 2 ^ 54) := by
  obtain ⟨f1, e1, s1⟩ := prod_err ha hc ha1 hc1
  obtain ⟨f2, e2, s2⟩ := prod_err hb hd hb1 hd1
  have m1 := mg_prod e1 s1
  have m2 := mg_prod e2 s2
  rw [mg_natAbs] at m1 m2
  obtain ⟨n, hn⟩ : ∃ n, n = 2097 := ⟨_, rfl⟩
  obtain ⟨f3, e3⟩ := add_err f1 f2 hn (big_sum hn (by have := Int.natAbs_add_le (V (fmul a c)) (V (fmul b d)); omega))
  exact ⟨f3, part_err e1 e2 s1 s2 e3⟩
theorem turn_sub {a b c d : Nat} (ha : Fin a) (hb : Fin b) (hc : Fin c) (hd : Fin d) (ha1 : mg a ≤ BIG1) (hb1 : mg b ≤ BIG1) (hc1 : mg c ≤ ONE) (hd1 : mg d ≤ ONE) :
    Fin (fsub (fmul b c) (fmul a d)) ∧ (V (fsub (fmul b c) (fmul a d)) * (ONE : Int) - (V b * V c - V a * V d)).natAbs * 2 ^ 53 ≤ ONE * (3 * (mg a + mg b) + 2 ^ 54) := by
  obtain ⟨f1, e1, s1⟩ := prod_err hb hc hb1 hc1
  obtain ⟨f2, e2, s2⟩ := prod_err ha hd ha1 hd1
  have m1 := mg_prod e1 s1
  have m2 := mg_prod e2 s2
  rw [mg_natAbs] at m1 m2
  obtain ⟨n, hn⟩ : ∃ n, n = 2097 := ⟨_, rfl⟩
  obtain ⟨f3, e3⟩ := sub_err f1 f2 hn (big_sum hn (by omega))
  refine ⟨f3, ?_⟩
  have e2' : (-V (fmul a d) * (ONE : Int) - -(V a * V d)).natAbs * 2 ^ 53 ≤ mg a * ONE + 2 ^ 52 * ONE := by
    have : -V (fmul a d) * (ONE : Int) - -(V a * V d) = -(V (fmul a d) * (ONE : Int) - V a * V d) := by grind
    rw [this, Int.natAbs_neg]; exact e2
  have e3' : (V (fsub (fmul b c) (fmul a d)) - (V (fmul b c) + -V (fmul a d))).natAbs * 2 ^ 53 ≤ (V (fmul b c) + -V (fmul a d)).natAbs := by
    rw [← Int.sub_eq_add_neg]; exact e3
  have h := part_err e1 e2' s1 (by rw [Int.natAbs_neg]; exact s2) e3'
  rw [← Int.sub_eq_add_neg, Nat.add_comm (mg b)] at h
  exact h

theorem sq_le (a b : Nat) : 2 * (a * b) ≤ a * a + b * b := by
  rcases Nat.le_total a b with h | h
  · obtain ⟨c, rfl⟩ := Nat.exists_eq_add_of_le h
    have : a * a + (a + c) * (a + c) = 2 * (a * (a + c)) + c * c := by grind
    omega
  · obtain ⟨c, rfl⟩ := Nat.exists_eq_add_of_le h
    have : (b + c) * (b + c) + b * b = 2 * ((b + c) * b) + c * c := by grind
    omega

theorem sq_abs (A B : Int) : ((A * A + B * B).natAbs : Nat) = A.natAbs * A.natAbs + B.natAbs * B.natAbs := by
  have h1 : A * A = ((A.natAbs * A.natAbs : Nat) : Int) := (Int.natAbs_mul_self).symm
  have h2 : B * B = ((B.natAbs * B.natAbs : Nat) : Int) := (Int.natAbs_mul_self).symm
  rw [h1, h2, ← Int.natCast_add, Int.natAbs_natCast]

theorem energy_nat {q m k Δ : Nat} (hk : k = 3 * m + 2 ^ 54) (hm : m * m ≤ 2 * q) (h : Δ * 2 ^ 106 ≤ q * 2 ^ 55 + 4 * (m * k) * 2 ^ 53 + 2 * (k * k)) : Δ * 2 ^ 48 ≤ q + 2 ^ 106 := by
  have e1 : m * k = 3 * (m * m) + 2 ^ 54 * m := by subst hk; grind
  have e2 : k * k = 9 * (m * m) + 6 * (2 ^ 54 * m) + 2 ^ 54 * 2 ^ 54 := by subst hk; grind
  rw [e1, e2] at h
  have h1 := sq_le m (2 ^ 55)
  clear e1 e2 hk
  generalize m * m = M at *
  grind

theorem turn_energy {O : Nat} (hO0 : 0 < O) {A B C D P R : Int} {m : Nat} (hm : m = A.natAbs + B.natAbs) (hC : C.natAbs ≤ O) (hD : D.natAbs ≤ O) (hu : (C * C + D * D - (O : Int) * (O : Int)).natAbs * 2 ^ 51 ≤ O * O)
    (hx : (P * (O : Int) - (A * C + B * D)).natAbs * 2 ^ 53 ≤ O * (3 * m + 2 ^ 54)) (hy : (R * (O : Int) - (B * C - A * D)).natAbs * 2 ^ 53 ≤ O * (3 * m + 2 ^ 54)) :
    ((P * P + R * R) - (A * A + B * B)).natAbs * 2 ^ 48 ≤ (A * A + B * B).natAbs + 2 ^ 106 := by
  have hX : (A * C + B * D).natAbs ≤ O * m := by
    refine Nat.le_trans (Int.natAbs_add_le _ _) ?_
    rw [Int.natAbs_mul, Int.natAbs_mul, hm, Nat.mul_add, Nat.mul_comm O, Nat.mul_comm O]
    exact Nat.add_le_add (Nat.mul_le_mul_left _ hC) (Nat.mul_le_mul_left _ hD)
  have hY : (B * C - A * D).natAbs ≤ O * m := by
    have h1 : (B * C - A * D).natAbs ≤ (B * C).natAbs + (A * D).natAbs := by omega
    refine Nat.le_trans h1 ?_
    rw [Int.natAbs_mul, Int.natAbs_mul, hm, Nat.mul_add, Nat.mul_comm O, Nat.mul_comm O, Nat.add_comm]
    exact Nat.add_le_add (Nat.mul_le_mul_left _ hD) (Nat.mul_le_mul_left _ hC)
  have hmm : m * m ≤ 2 * (A * A + B * B).natAbs := by
    rw [sq_abs, hm]
    have h1 := sq_le A.natAbs B.natAbs
    have h2 : (A.natAbs + B.natAbs) * (A.natAbs + B.natAbs) = A.natAbs * A.natAbs + 2 * (A.natAbs * B.natAbs) + B.natAbs * B.natAbs := by grind
    rw [h2]
    omega
  obtain ⟨k, hk⟩ : ∃ k, k = 3 * m + 2 ^ 54 := ⟨_, rfl⟩
  rw [← hk] at hx hy
  obtain ⟨X, eX⟩ : ∃ X, X = A * C + B * D := ⟨_, rfl⟩
  obtain ⟨Y, eY⟩ : ∃ Y, Y = B * C - A * D := ⟨_, rfl⟩
  obtain ⟨Q, eQ⟩ : ∃ Q, Q = A * A + B * B := ⟨_, rfl⟩
  obtain ⟨U, eU⟩ : ∃ U, U = C * C + D * D - (O : Int) * (O : Int) := ⟨_, rfl⟩
  obtain ⟨d, ed⟩ : ∃ d, d = P * (O : Int) - X := ⟨_, rfl⟩
  obtain ⟨e, ee⟩ : ∃ e, e = R * (O : Int) - Y := ⟨_, rfl⟩
  have key : (P * P + R * R - Q) * ((O : Int) * (O : Int)) = Q * U + (2 * X * d + d * d + (2 * Y * e + e * e)) := by
    subst ed; subst ee; subst eU; subst eQ; subst eX; subst eY
    grind
  rw [← eX] at hX hx
  rw [← eY] at hY hy
  rw [← eU] at hu
  rw [← eQ] at hmm ⊢
  rw [← ed] at hx
  rw [← ee] at hy
  refine energy_nat hk hmm ?_
  have hO : 0 < O * O := Nat.mul_pos hO0 hO0
  refine Nat.le_of_mul_le_mul_right (?_ : _ * (O * O) ≤ _ * (O * O)) hO
  have h1 : (P * P + R * R - Q).natAbs * (O * O) ≤ Q.natAbs * U.natAbs + (2 * X.natAbs * d.natAbs + d.natAbs * d.natAbs + (2 * Y.natAbs * e.natAbs + e.natAbs * e.natAbs)) := by
    have h2 : (P * P + R * R - Q).natAbs * (O * O) = ((P * P + R * R - Q) * ((O : Int) * (O : Int))).natAbs := by
      rw [Int.natAbs_mul, Int.natAbs_mul, Int.natAbs_natCast]
    rw [h2, key]
    refine Nat.le_trans (Int.natAbs_add_le _ _) (Nat.add_le_add (Nat.le_of_eq (Int.natAbs_mul _ _)) ?_)
    have h3 : ∀ (Z f : Int), (2 * Z * f + f * f).natAbs ≤ 2 * Z.natAbs * f.natAbs + f.natAbs * f.natAbs := fun Z f => by
      refine Nat.le_trans (Int.natAbs_add_le _ _) ?_
      rw [Int.natAbs_mul, Int.natAbs_mul, Int.natAbs_mul]
      exact Nat.le_refl _
    exact Nat.le_trans (Int.natAbs_add_le _ _) (Nat.add_le_add (h3 X d) (h3 Y e))
  have g1 : Q.natAbs * U.natAbs * 2 ^ 106 ≤ Q.natAbs * 2 ^ 55 * (O * O) := by
    have : Q.natAbs * U.natAbs * 2 ^ 106 = Q.natAbs * 2 ^ 55 * (U.natAbs * 2 ^ 51) := by rw [show (2 : Nat) ^ 106 = 2 ^ 55 * 2 ^ 51 from rfl]; ac_rfl
    rw [this]
    exact Nat.mul_le_mul_left _ hu
  have g2 : ∀ {Z f : Nat}, Z ≤ O * m → f * 2 ^ 53 ≤ O * k → (2 * Z * f + f * f) * 2 ^ 106 ≤ (2 * (m * k) * 2 ^ 53 + k * k) * (O * O) := fun {Z f} hZ hf => by
    have i1 : 2 * Z * f * 2 ^ 106 = 2 * 2 ^ 53 * (Z * (f * 2 ^ 53)) := by rw [show (2 : Nat) ^ 106 = 2 ^ 53 * 2 ^ 53 from rfl]; ac_rfl
    have i2 : f * f * 2 ^ 106 = (f * 2 ^ 53) * (f * 2 ^ 53) := by rw [show (2 : Nat) ^ 106 = 2 ^ 53 * 2 ^ 53 from rfl]; ac_rfl
    have i3 : 2 * (m * k) * 2 ^ 53 * (O * O) = 2 * 2 ^ 53 * ((O * m) * (O * k)) := by ac_rfl
    have i4 : k * k * (O * O) = (O * k) * (O * k) := by ac_rfl
    rw [Nat.add_mul, Nat.add_mul, i1, i2, i3, i4]
    exact Nat.add_le_add (Nat.mul_le_mul_left _ (Nat.mul_le_mul hZ hf)) (Nat.mul_le_mul hf hf)
  have g3 := g2 hX hx
  have g4 := g2 hY hy
  have h5 : (P * P + R * R - Q).natAbs * 2 ^ 106 * (O * O) = (P * P + R * R - Q).natAbs * (O * O) * 2 ^ 106 := by ac_rfl
  rw [h5]
  refine Nat.le_trans (Nat.mul_le_mul_right _ h1) ?_
  rw [Nat.add_mul, Nat.add_mul]
  refine Nat.le_trans (Nat.add_le_add g1 (Nat.add_le_add g3 g4)) (Nat.le_of_eq ?_)
  rw [Nat.add_mul, Nat.add_mul, Nat.add_mul]
  have i5 : 4 * (m * k) * 2 ^ 53 = 2 * (m * k) * 2 ^ 53 + 2 * (m * k) * 2 ^ 53 := by omega
  rw [i5, show 2 * (k * k) = k * k + k * k from Nat.two_mul _, Nat.add_mul, Nat.add_mul]
  omega
end Go.Proofs.YtdflbipaicpdcaaGreatDoor.Fl
set_option maxRecDepth 100000
namespace Go.Proofs.YtdflbipaicpdcaaGreatDoor.Fl

/-- a float's square -/
def en (x : Nat) : Nat := mg x * mg x
theorem en_V (x : Nat) : en x = (V x).natAbs * (V x).natAbs := by unfold en; rw [mg_natAbs]
/-- E1 is f times E0, but for a little -/
def Near (f E0 E1 t : Nat) : Prop := E1 * 2 ^ 48 ≤ f * E0 * 2 ^ 48 + f * E0 + t ∧ f * E0 * 2 ^ 48 ≤ E1 * 2 ^ 48 + f * E0 + t

theorem near_of {f E0 E1 t : Nat} (h : ((E1 : Int) - ((f * E0 : Nat) : Int)).natAbs * 2 ^ 48 ≤ f * E0 + t) : Near f E0 E1 t := by
  unfold Near
  generalize f * E0 = X at *
  rcases Nat.le_total E1 X with h1 | h1
  · obtain ⟨k, rfl⟩ := Nat.exists_eq_add_of_le h1
    have : ((E1 : Int) - ((E1 + k : Nat) : Int)).natAbs = k := by omega
    rw [this] at h
    constructor
    · rw [Nat.add_mul]; exact Nat.le_trans (Nat.le_add_right _ _) (Nat.le_trans (Nat.le_add_right _ _) (Nat.le_add_right _ _))
    · grind
  · obtain ⟨k, rfl⟩ := Nat.exists_eq_add_of_le h1
    have : (((X + k : Nat) : Int) - (X : Int)).natAbs = k := by omega
    rw [this] at h
    constructor
    · grind
    · rw [Nat.add_mul]; exact Nat.le_trans (Nat.le_add_right _ _) (Nat.le_trans (Nat.le_add_right _ _) (Nat.le_add_right _ _))

theorem en_int (A B : Int) : ((A.natAbs * A.natAbs + B.natAbs * B.natAbs : Nat) : Int) = A * A + B * B := by
  rw [Int.natCast_add, Int.natAbs_mul_self, Int.natAbs_mul_self]

def unitO (T o x y : Nat) : Bool :=
  bif Nat.ble x o then bif Nat.ble y o then
    bif Nat.ble ((x * x + y * y) * T) (o * o * T + o * o) then Nat.ble (o * o * T) ((x * x + y * y) * T + o * o) else false
  else false else false
def unitOk (c d : Nat) : Bool := unitO (2 ^ 51) ONE (mg c) (mg d)
theorem near_abs {s o T : Nat} (h3 : s * T ≤ o * T + o) (h4 : o * T ≤ s * T + o) : ((s : Int) - (o : Int)).natAbs * T ≤ o := by
  rcases Nat.le_total s o with h5 | h5
  · obtain ⟨k, rfl⟩ := Nat.exists_eq_add_of_le h5
    have : ((s : Int) - ((s + k : Nat) : Int)).natAbs = k := by omega
    rw [this]
    rw [Nat.add_mul s k T] at h4
    exact Nat.le_of_add_le_add_left h4
  · obtain ⟨k, rfl⟩ := Nat.exists_eq_add_of_le h5
    have : (((o + k : Nat) : Int) - (o : Int)).natAbs = k := by omega
    rw [this]
    rw [Nat.add_mul o k T] at h3
    exact Nat.le_of_add_le_add_left h3
theorem unitO_spec {T o x y : Nat} (h : unitO T o x y = true) : x ≤ o ∧ y ≤ o ∧ (((x * x + y * y : Nat) : Int) - ((o * o : Nat) : Int)).natAbs * T ≤ o * o := by
  unfold unitO at h
  cases h1 : Nat.ble x o with
  | false => rw [h1] at h; cases h
  | true =>
  cases h2 : Nat.ble y o with
  | false => rw [h1, h2] at h; cases h
  | true =>
  rw [h1, h2] at h
  simp only [cond_true] at h
  cases h3 : Nat.ble ((x * x + y * y) * T) (o * o * T + o * o) with
  | false => rw [h3] at h; cases h
  | true =>
  rw [h3] at h
  simp only [cond_true] at h
  have h3 := Nat.le_of_ble_eq_true h3
  have h4 := Nat.le_of_ble_eq_true h
  refine ⟨Nat.le_of_ble_eq_true h1, Nat.le_of_ble_eq_true h2, ?_⟩
  exact near_abs h3 h4
theorem unitOk_spec {c d : Nat} (h : unitOk c d = true) : mg c ≤ ONE ∧ mg d ≤ ONE ∧ (V c * V c + V d * V d - (ONE : Int) * (ONE : Int)).natAbs * 2 ^ 51 ≤ ONE * ONE := by
  obtain ⟨h1, h2, h3⟩ := unitO_spec h
  have e : V c * V c + V d * V d = ((mg c * mg c + mg d * mg d : Nat) : Int) := by rw [mg_natAbs, mg_natAbs, en_int]
  refine ⟨h1, h2, ?_⟩
  rw [e, ← Int.natCast_mul]
  exact h3

def finB (x : Nat) : Bool := bif Nat.blt x 18446744073709551616 then Nat.blt (x % 9223372036854775808) 9218868437227405312 else false
theorem finB_spec {x : Nat} (h : finB x = true) : Fin x := by
  unfold finB at h
  cases h1 : Nat.blt x 18446744073709551616 with
  | false => rw [h1] at h; cases h
  | true =>
    rw [h1] at h
    exact ⟨Nat.le_of_ble_eq_true h1, Nat.le_of_ble_eq_true h⟩

theorem turn_gate {a b c d : Nat} (ha : Fin a) (hb : Fin b) (hc : Fin c) (hd : Fin d) (ha1 : mg a ≤ BIG1) (hb1 : mg b ≤ BIG1) (hu : unitOk c d = true) :
    Fin (fadd (fmul a c) (fmul b d)) ∧ Fin (fsub (fmul b c) (fmul a d)) ∧ Near 1 (en a + en b) (en (fadd (fmul a c) (fmul b d)) + en (fsub (fmul b c) (fmul a d))) (2 ^ 106) := by
  obtain ⟨hc1, hd1, hu⟩ := unitOk_spec hu
  obtain ⟨f1, e1⟩ := turn_add ha hb hc hd ha1 hb1 hc1 hd1
  obtain ⟨f2, e2⟩ := turn_sub ha hb hc hd ha1 hb1 hc1 hd1
  refine ⟨f1, f2, near_of ?_⟩
  have h := turn_energy ONE_pos (A := V a) (B := V b) (C := V c) (D := V d) (m := mg a + mg b) (by rw [mg_natAbs, mg_natAbs]) (by rw [← mg_natAbs]; exact hc1) (by rw [← mg_natAbs]; exact hd1) hu e1 e2
  rw [Nat.one_mul, en_V, en_V, en_V, en_V, en_int, en_int, ← sq_abs]
  exact h

theorem bfly_int {A B P R : Int} (h1 : (P - (A + B)).natAbs * 2 ^ 53 ≤ (A + B).natAbs) (h2 : (R - (A - B)).natAbs * 2 ^ 53 ≤ (A - B).natAbs) :
    (P * P + R * R - 2 * (A * A + B * B)).natAbs * 2 ^ 48 ≤ 2 * (A * A + B * B).natAbs + 2 ^ 106 := by
  obtain ⟨d, ed⟩ : ∃ d, d = P - (A + B) := ⟨_, rfl⟩
  obtain ⟨e, ee⟩ : ∃ e, e = R - (A - B) := ⟨_, rfl⟩
  obtain ⟨X, eX⟩ : ∃ X, X = A + B := ⟨_, rfl⟩
  obtain ⟨Y, eY⟩ : ∃ Y, Y = A - B := ⟨_, rfl⟩
  have key : P * P + R * R - 2 * (A * A + B * B) = 2 * X * d + d * d + (2 * Y * e + e * e) := by subst ed; subst ee; subst eX; subst eY; grind
  have hq : 2 * (A * A + B * B).natAbs = X.natAbs * X.natAbs + Y.natAbs * Y.natAbs := by
    have : 2 * (A * A + B * B) = X * X + Y * Y := by subst eX; subst eY; grind
    rw [← sq_abs, ← this, Int.natAbs_mul]; rfl
  rw [← ed, ← eX] at h1
  rw [← ee, ← eY] at h2
  have h3 : ∀ (Z f : Int), (2 * Z * f + f * f).natAbs ≤ 2 * (Z.natAbs * f.natAbs) + f.natAbs * f.natAbs := fun Z f => by
    refine Nat.le_trans (Int.natAbs_add_le _ _) ?_
    rw [Int.natAbs_mul, Int.natAbs_mul, Int.natAbs_mul, Nat.mul_assoc]
    exact Nat.le_refl _
  have h4 : ∀ {x f : Nat}, f * 2 ^ 53 ≤ x → (2 * (x * f) + f * f) * 2 ^ 50 ≤ x * x := fun {x f} h => by
    have i1 : x * f * 2 ^ 53 ≤ x * x := by rw [Nat.mul_assoc]; exact Nat.mul_le_mul_left _ h
    have i2 : f * f * 2 ^ 53 ≤ x * x := by
      rw [Nat.mul_assoc]
      refine Nat.mul_le_mul (Nat.le_trans (Nat.le_mul_of_pos_right f (by decide : 0 < 2 ^ 53)) h) h
    generalize x * f = p at *
    generalize f * f = q at *
    generalize x * x = r at *
    grind
  rw [key, hq]
  have h5 := Nat.le_trans (Int.natAbs_add_le _ _) (Nat.add_le_add (h3 X d) (h3 Y e))
  have h6 := h4 h1
  have h7 := h4 h2
  generalize (2 * X * d + d * d + (2 * Y * e + e * e)).natAbs = Z at *
  generalize 2 * (X.natAbs * d.natAbs) + d.natAbs * d.natAbs = z1 at *
  generalize 2 * (Y.natAbs * e.natAbs) + e.natAbs * e.natAbs = z2 at *
  generalize X.natAbs * X.natAbs = x1 at *
  generalize Y.natAbs * Y.natAbs = x2 at *
  grind

theorem bfly_gate {a b : Nat} (ha : Fin a) (hb : Fin b) (ha1 : mg a ≤ BIG1) (hb1 : mg b ≤ BIG1) :
    Fin (fadd a b) ∧ Fin (fsub a b) ∧ Near 2 (en a + en b) (en (fadd a b) + en (fsub a b)) (2 ^ 106) := by
  obtain ⟨n, hn⟩ : ∃ n, n = 2097 := ⟨_, rfl⟩
  rw [mg_natAbs] at ha1 hb1
  obtain ⟨f1, e1⟩ := add_err ha hb hn (big_sum hn (by omega))
  obtain ⟨f2, e2⟩ := sub_err ha hb hn (big_sum hn (by omega))
  refine ⟨f1, f2, near_of ?_⟩
  have h := bfly_int e1 e2
  rw [Int.natCast_mul, en_V, en_V, en_V, en_V, en_int, en_int, ← sq_abs]
  exact h

/-! ### Layers -/
structure Nd where
  op : Nat
  x : Nat
  y : Nat
inductive Gate where
  | turn (i j c d o q : Nat)
  | bfly (i j o q : Nat)
  | pass (i : Nat)
  | neg (i o : Nat)
def Gate.ins : Gate → List Nat
  | .turn i j _ _ _ _ => [i, j]
  | .bfly i j _ _ => [i, j]
  | .pass i => [i]
  | .neg i _ => [i]
def Gate.outs : Gate → List Nat
  | .turn _ _ _ _ o q => [o, q]
  | .bfly _ _ o q => [o, q]
  | .pass i => [i]
  | .neg _ o => [o]
/-- what is so of a gate's values -/
def Gate.so (f : Nat → Nat) : Gate → Prop
  | .turn i j c d o q => Fin c ∧ Fin d ∧ unitOk c d = true ∧ f o = fadd (fmul (f i) c) (fmul (f j) d) ∧ f q = fsub (fmul (f j) c) (fmul (f i) d)
  | .bfly i j o q => f o = fadd (f i) (f j) ∧ f q = fsub (f i) (f j)
  | .pass _ => True
  | .neg i o => f o = canon (fneg (f i))
def Gate.two : Gate → Bool
  | .bfly .. => true
  | _ => false

def sumE (f : Nat → Nat) : List Nat → Nat
  | [] => 0
  | r :: l => en (f r) + sumE f l
theorem sumE_append (f : Nat → Nat) : ∀ l m, sumE f (l ++ m) = sumE f l + sumE f m
  | [], m => by simp [sumE]
  | r :: l, m => by simp only [List.cons_append, sumE, sumE_append f l m]; omega
theorem sumE_perm (f : Nat → Nat) {l m : List Nat} (h : l.Perm m) : sumE f l = sumE f m := by
  induction h with
  | nil => rfl
  | cons x _ ih => simp only [sumE, ih]
  | swap x y l => simp only [sumE]; omega
  | trans _ _ ih1 ih2 => rw [ih1, ih2]
theorem sumE_mem (f : Nat → Nat) : ∀ {l : List Nat} {r : Nat}, r ∈ l → en (f r) ≤ sumE f l
  | x :: l, r, h => by
    rcases List.mem_cons.1 h with rfl | h
    · simp only [sumE]; omega
    · have := sumE_mem f h; simp only [sumE]; omega

theorem mg_le_of {x E : Nat} (h : en x ≤ E) (hE : E ≤ BIG1 * BIG1) : mg x ≤ BIG1 := by
  rcases Nat.lt_or_ge BIG1 (mg x) with h1 | h1
  · have : BIG1 * BIG1 < mg x * mg x := Nat.mul_lt_mul_of_lt_of_le h1 (Nat.le_of_lt h1) (Nat.lt_of_le_of_lt (Nat.zero_le _) h1)
    unfold en at h
    omega
  · exact h1

theorem Near.add {f E0 E1 t F0 F1 u : Nat} (h : Near f E0 E1 t) (k : Near f F0 F1 u) : Near f (E0 + F0) (E1 + F1) (t + u) := by
  unfold Near at *
  obtain ⟨h1, h2⟩ := h
  obtain ⟨k1, k2⟩ := k
  rw [Nat.mul_add, Nat.add_mul, Nat.add_mul]
  omega
theorem Near.mono {f E0 E1 t u : Nat} (h : Near f E0 E1 t) (k : t ≤ u) : Near f E0 E1 u := ⟨by have := h.1; omega, by have := h.2; omega⟩

/-- of one gate -/
theorem gate_sound {f : Nat → Nat} {b : Bool} {g : Gate} (hs : g.so f) (hb : g.two = b) (hf : ∀ r ∈ g.ins, Fin (f r) ∧ mg (f r) ≤ BIG1) :
    (∀ r ∈ g.outs, Fin (f r)) ∧ Near (bif b then 2 else 1) (sumE f g.ins) (sumE f g.outs) (2 ^ 106) := by
  cases g with
  | turn i j c d o q =>
    subst hb
    obtain ⟨h1, h2, h3, h4, h5⟩ := hs
    obtain ⟨a1, a2⟩ := hf i (by simp [Gate.ins])
    obtain ⟨b1, b2⟩ := hf j (by simp [Gate.ins])
    obtain ⟨f1, f2, hn⟩ := turn_gate a1 b1 h1 h2 a2 b2 h3
    refine ⟨fun r hr => ?_, ?_⟩
    · simp only [Gate.outs, List.mem_cons, List.not_mem_nil, or_false] at hr
      rcases hr with rfl | rfl
      · rw [h4]; exact f1
      · rw [h5]; exact f2
    · simp only [Gate.ins, Gate.outs, sumE, Gate.two, cond_false, Nat.add_zero, h4, h5]
      exact hn
  | bfly i j o q =>
    subst hb
    obtain ⟨h4, h5⟩ := hs
    obtain ⟨a1, a2⟩ := hf i (by simp [Gate.ins])
    obtain ⟨b1, b2⟩ := hf j (by simp [Gate.ins])
    obtain ⟨f1, f2, hn⟩ := bfly_gate a1 b1 a2 b2
    refine ⟨fun r hr => ?_, ?_⟩
    · simp only [Gate.outs, List.mem_cons, List.not_mem_nil, or_false] at hr
      rcases hr with rfl | rfl
      · rw [h4]; exact f1
      · rw [h5]; exact f2
    · simp only [Gate.ins, Gate.outs, sumE, Gate.two, cond_true, Nat.add_zero, h4, h5]
      exact hn
  | pass i =>
    subst hb
    refine ⟨fun r hr => (hf r hr).1, ?_⟩
    simp only [Gate.ins, Gate.outs, Gate.two, cond_false, Near, Nat.one_mul]
    omega
  | neg i o =>
    subst hb
    obtain ⟨a1, a2⟩ := hf i (by simp [Gate.ins])
    obtain ⟨n1, n2⟩ := V_fneg a1
    have e : f o = fneg (f i) := by
      have h : f o = canon (fneg (f i)) := hs
      rw [h]
      unfold canon
      rw [n1.notNaN]
      rfl
    have e2 : en (f o) = en (f i) := by rw [en_V, en_V, e, n2, Int.natAbs_neg]
    refine ⟨fun r hr => ?_, ?_⟩
    · simp only [Gate.outs, List.mem_cons, List.not_mem_nil, or_false] at hr
      subst hr; rw [e]; exact n1
    · simp only [Gate.ins, Gate.outs, sumE, Gate.two, cond_false, Near, Nat.one_mul, Nat.add_zero, e2]
      omega

def insL : List Gate → List Nat
  | [] => []
  | g :: l => g.ins ++ insL l
def outsL : List Gate → List Nat
  | [] => []
  | g :: l => g.outs ++ outsL l
theorem layer_sound {f : Nat → Nat} {b : Bool} : ∀ (gs : List Gate), (∀ g ∈ gs, g.so f ∧ g.two = b) → (∀ r ∈ insL gs, Fin (f r) ∧ mg (f r) ≤ BIG1) →
    (∀ r ∈ outsL gs, Fin (f r)) ∧ Near (bif b then 2 else 1) (sumE f (insL gs)) (sumE f (outsL gs)) (gs.length * 2 ^ 106)
  | [], _, _ => ⟨fun r hr => (by cases hr), (by simp [insL, outsL, sumE, Near])⟩
  | g :: gs, hg, hf => by
    obtain ⟨h1, h2⟩ := hg g (List.mem_cons_self ..)
    obtain ⟨f1, n1⟩ := gate_sound h1 h2 fun r hr => hf r (by simp only [insL]; exact List.mem_append.2 (.inl hr))
    obtain ⟨f2, n2⟩ := layer_sound gs (fun g' hg' => hg g' (List.mem_cons_of_mem _ hg')) fun r hr => hf r (by simp only [insL]; exact List.mem_append.2 (.inr hr))
    refine ⟨fun r hr => ?_, ?_⟩
    · simp only [outsL] at hr
      rcases List.mem_append.1 hr with hr | hr
      · exact f1 r hr
      · exact f2 r hr
    · simp only [insL, outsL, sumE_append]
      refine (n1.add n2).mono ?_
      simp only [List.length_cons, Nat.add_mul]
      omega
end Go.Proofs.YtdflbipaicpdcaaGreatDoor.Fl
set_option maxRecDepth 100000
namespace Go.Proofs.YtdflbipaicpdcaaGreatDoor.Fl

/-- E is X, but for a little -/
def Nr (a T X E : Nat) : Prop := E * 2 ^ 50 ≤ X * 2 ^ 50 + a * X + T ∧ X * 2 ^ 50 ≤ E * 2 ^ 50 + a * X + T
theorem Nr.refl (E : Nat) : Nr 0 0 E E := by unfold Nr; omega
theorem Nr.mono {a T X E T' : Nat} (h : Nr a T X E) (k : T ≤ T') : Nr a T' X E := ⟨by have := h.1; omega, by have := h.2; omega⟩

theorem nr_lin {Z aZ W fT T4 E' t : Nat} (h1 : W * 2 ^ 50 ≤ Z * 2 ^ 50 + aZ + fT) (h2 : Z * 2 ^ 50 ≤ W * 2 ^ 50 + aZ + fT) (h3 : 4 * aZ ≤ 2 ^ 50 * Z) (h4 : fT ≤ 2 * T4)
    (n1 : E' * 2 ^ 48 ≤ W * 2 ^ 48 + W + t) (n2 : W * 2 ^ 48 ≤ E' * 2 ^ 48 + W + t) :
    E' * 2 ^ 50 ≤ Z * 2 ^ 50 + (aZ + 5 * Z) + (4 * T4 + 4 * t) ∧ Z * 2 ^ 50 ≤ E' * 2 ^ 50 + (aZ + 5 * Z) + (4 * T4 + 4 * t) := by
  have h5 : 4 * W ≤ 5 * Z + fT := by grind
  constructor
  · grind
  · grind
theorem Nr.step {a T X E f E' t : Nat} (h : Nr a T X E) (n : Near f E E' t) (hf : f ≤ 2) (ha : 4 * a ≤ 2 ^ 50) : Nr (a + 5) (4 * T + 4 * t) (f * X) E' := by
  obtain ⟨h1, h2⟩ := h
  obtain ⟨n1, n2⟩ := n
  have m1 := Nat.mul_le_mul_left f h1
  have m2 := Nat.mul_le_mul_left f h2
  have e1 : f * (E * 2 ^ 50) = f * E * 2 ^ 50 := (Nat.mul_assoc _ _ _).symm
  have e2 : f * (X * 2 ^ 50 + a * X + T) = f * X * 2 ^ 50 + a * (f * X) + f * T := by grind
  have e3 : f * (X * 2 ^ 50) = f * X * 2 ^ 50 := (Nat.mul_assoc _ _ _).symm
  have e4 : f * (E * 2 ^ 50 + a * X + T) = f * E * 2 ^ 50 + a * (f * X) + f * T := by grind
  rw [e1, e2] at m1
  rw [e3, e4] at m2
  have h3 : 4 * (a * (f * X)) ≤ 2 ^ 50 * (f * X) := by
    rw [← Nat.mul_assoc]
    exact Nat.mul_le_mul_right _ ha
  have h4 : f * T ≤ 2 * T := Nat.mul_le_mul_right _ hf
  have := nr_lin m1 m2 h3 h4 n1 n2
  unfold Nr
  rw [Nat.add_mul a 5 (f * X)]
  exact this
theorem Nr.le {a T X E : Nat} (h : Nr a T X E) (ha : 4 * a ≤ 2 ^ 50) : E ≤ 2 * X + T := by
  have h1 := h.1
  have h2 : 4 * (a * X) ≤ 2 ^ 50 * X := by rw [← Nat.mul_assoc]; exact Nat.mul_le_mul_right _ ha
  generalize a * X = y at *
  grind

/-! ### The look -/
def rm (x : Nat) : List Nat → Option (List Nat)
  | [] => none
  | y :: l => bif Nat.beq x y then some l else match rm x l with
    | some m => some (y :: m)
    | none => none
def permB : List Nat → List Nat → Bool
  | [], [] => true
  | x :: l, m => match rm x m with
    | some m => permB l m
    | none => false
  | _, _ => false
theorem rm_spec {x : Nat} : ∀ {l m : List Nat}, rm x l = some m → l.Perm (x :: m)
  | [], _, h => by cases h
  | y :: l, m, h => by
    unfold rm at h
    cases h1 : Nat.beq x y with
    | true =>
      rw [h1] at h
      simp only [cond_true, Option.some.injEq] at h
      subst h
      rw [Nat.eq_of_beq_eq_true h1]
    | false =>
      rw [h1] at h
      simp only [cond_false] at h
      split at h
      · rename_i k hk
        simp only [Option.some.injEq] at h
        subst h
        exact (List.Perm.cons y (rm_spec hk)).trans (.swap x y k)
      · cases h
theorem permB_spec : ∀ {l m : List Nat}, permB l m = true → l.Perm m
  | [], [], _ => .refl _
  | x :: l, m, h => by
    unfold permB at h
    split at h
    · rename_i k hk
      exact ((permB_spec (l := l) h).cons x).trans (rm_spec hk).symm
    · cases h
  | [], _ :: _, h => by cases h

abbrev NdF := Nat → Option (Nat × Nat × Nat)
def isN (nd : NdF) (r op x y : Nat) : Bool :=
  match nd r with
  | some (a, b, c) => bif Nat.beq a op then bif Nat.beq b x then Nat.beq c y else false else false
  | none => false
theorem isN_spec {nd : NdF} {r op x y : Nat} (h : isN nd r op x y = true) : nd r = some (op, x, y) := by
  unfold isN at h
  split at h
  · rename_i a b c e
    cases h1 : Nat.beq a op with
    | false => rw [h1] at h; cases h
    | true =>
      cases h2 : Nat.beq b x with
      | false => rw [h1, h2] at h; cases h
      | true =>
        rw [h1, h2] at h
        rw [e, Nat.eq_of_beq_eq_true h1, Nat.eq_of_beq_eq_true h2, Nat.eq_of_beq_eq_true h]
  · cases h
/-- which a sum's, or a difference's, parts are -/
def argsN (nd : NdF) (r op : Nat) : Option (Nat × Nat) :=
  match nd r with
  | some (a, b, c) => bif Nat.beq a op then some (b, c) else none
  | none => none
theorem argsN_spec {nd : NdF} {r op x y : Nat} (h : argsN nd r op = some (x, y)) : nd r = some (op, x, y) := by
  unfold argsN at h
  split at h
  · rename_i a b c e
    cases h1 : Nat.beq a op with
    | false => rw [h1] at h; cases h
    | true =>
      rw [h1] at h
      simp only [cond_true, Option.some.injEq, Prod.mk.injEq] at h
      obtain ⟨rfl, rfl⟩ := h
      rw [e, Nat.eq_of_beq_eq_true h1]
  · cases h
def SYMF : Nat := 18446744073709551616
def chkTurn (nd : NdF) (i j c d : Nat) (a b : Option (Nat × Nat)) : Bool :=
  match a, b with
  | some (m, k), some (m', k') =>
    bif isN nd m 3 i c then bif isN nd k 3 j d then bif isN nd m' 3 j c then bif isN nd k' 3 i d then bif finB c then bif finB d then unitOk c d else false else false else false else false else false else false
  | _, _ => false
def chkNeg (i : Nat) : Option (Nat × Nat) → Bool
  | some (x, _) => Nat.beq x i
  | none => false
def chkGate (nd : NdF) : Gate → Bool
  | .turn i j c d o q => chkTurn nd i j c d (argsN nd o 1) (argsN nd q 2)
  | .bfly i j o q => bif isN nd o 1 i j then isN nd q 2 i j else false
  | .pass _ => true
  | .neg i o => chkNeg i (argsN nd o 4)
/-- what nodes say of values -/
structure NodesSo (nd : NdF) (f : Nat → Nat) : Prop where
  word : ∀ r, r < SYMF → f r = r
  add : ∀ r x y, nd r = some (1, x, y) → f r = fadd (f x) (f y)
  sub : ∀ r x y, nd r = some (2, x, y) → f r = fsub (f x) (f y)
  mul : ∀ r x y, nd r = some (3, x, y) → f r = fmul (f x) (f y)
  neg : ∀ r x y, nd r = some (4, x, y) → f r = canon (fneg (f x))
theorem band {a b : Bool} (h : (bif a then b else false) = true) : a = true ∧ b = true := by
  cases a with
  | false => cases h
  | true => exact ⟨rfl, h⟩
theorem chkTurn_spec {nd : NdF} {i j c d : Nat} {a b : Option (Nat × Nat)} (h : chkTurn nd i j c d a b = true) : ∃ m k m' k', a = some (m, k) ∧ b = some (m', k') ∧ isN nd m 3 i c = true ∧ isN nd k 3 j d = true ∧ isN nd m' 3 j c = true ∧ isN nd k' 3 i d = true ∧ finB c = true ∧ finB d = true ∧ unitOk c d = true := by
  unfold chkTurn at h
  split at h
  · rename_i m k m' k'
    obtain ⟨h1, h⟩ := band h
    obtain ⟨h2, h⟩ := band h
    obtain ⟨h3, h⟩ := band h
    obtain ⟨h4, h⟩ := band h
    obtain ⟨h5, h⟩ := band h
    obtain ⟨h6, h⟩ := band h
    exact ⟨m, k, m', k', rfl, rfl, h1, h2, h3, h4, h5, h6, h⟩
  · cases h
theorem chkGate_spec {nd : NdF} {f : Nat → Nat} (hn : NodesSo nd f) {g : Gate} (h : chkGate nd g = true) : g.so f := by
  cases g with
  | turn i j c d o q =>
    obtain ⟨m, k, m', k', e1, e2, h1, h2, h3, h4, h5, h6, h⟩ := chkTurn_spec (show chkTurn nd i j c d (argsN nd o 1) (argsN nd q 2) = true from h)
    have fc := finB_spec h5
    have fd := finB_spec h6
    have wc := hn.word c fc.1
    have wd := hn.word d fd.1
    refine ⟨fc, fd, h, ?_, ?_⟩
    · rw [hn.add _ _ _ (argsN_spec e1), hn.mul _ _ _ (isN_spec h1), hn.mul _ _ _ (isN_spec h2), wc, wd]
    · rw [hn.sub _ _ _ (argsN_spec e2), hn.mul _ _ _ (isN_spec h3), hn.mul _ _ _ (isN_spec h4), wc, wd]
  | bfly i j o q =>
    obtain ⟨h1, h2⟩ := band h
    exact ⟨hn.add _ _ _ (isN_spec h1), hn.sub _ _ _ (isN_spec h2)⟩
  | pass i => trivial
  | neg i o =>
    have h' : chkNeg i (argsN nd o 4) = true := h
    cases e : argsN nd o 4 with
    | none => rw [e] at h'; cases h'
    | some p =>
      obtain ⟨x, y⟩ := p
      rw [e] at h'
      have := Nat.eq_of_beq_eq_true h'
      subst this
      exact hn.neg _ _ _ (argsN_spec e)

def chkGates (nd : NdF) (b : Bool) : List Gate → Bool
  | [] => true
  | g :: l => bif chkGate nd g then bif g.two == b then chkGates nd b l else false else false
theorem chkGates_spec {nd : NdF} {f : Nat → Nat} (hn : NodesSo nd f) {b : Bool} : ∀ {l : List Gate}, chkGates nd b l = true → ∀ g ∈ l, g.so f ∧ g.two = b
  | [], _, g, hg => by cases hg
  | x :: l, h, g, hg => by
    obtain ⟨h1, h⟩ := band h
    obtain ⟨h2, h⟩ := band h
    rcases List.mem_cons.1 hg with rfl | hg
    · exact ⟨chkGate_spec hn h1, by simpa using h2⟩
    · exact chkGates_spec hn h g hg
abbrev Layer := Bool × List Gate
def lenB (l : List Gate) : Bool := Nat.ble l.length 128
/-- the layers, one behind the other: what lives behind them -/
def chkAll (nd : NdF) : List Nat → List Layer → Option (List Nat)
  | live, [] => some live
  | live, (b, gs) :: Ls => bif chkGates nd b gs then bif permB live (insL gs) then bif lenB gs then chkAll nd (outsL gs) Ls else none else none else none
def dbls : List Layer → Nat
  | [] => 0
  | (b, _) :: Ls => (bif b then 1 else 0) + dbls Ls
def tt : Nat → Nat → Nat
  | 0, T => T
  | n + 1, T => tt n (4 * T + 2 ^ 115)
theorem tt_le : ∀ n T, T ≤ tt n T
  | 0, _ => Nat.le_refl _
  | n + 1, T => Nat.le_trans (by omega) (tt_le n (4 * T + 2 ^ 115))

theorem bif_some' {α : Type} {c : Bool} {x : Option α} {y : α} (h : (bif c then x else none) = some y) : c = true ∧ x = some y := by
  cases c with
  | false => cases h
  | true => exact ⟨rfl, h⟩

theorem chain {nd : NdF} {f : Nat → Nat} (hn : NodesSo nd f) : ∀ (Ls : List Layer) (live out : List Nat) (a T X : Nat), chkAll nd live Ls = some out → (∀ r ∈ live, Fin (f r)) → Nr a T X (sumE f live) →
    4 * (a + 5 * Ls.length) ≤ 2 ^ 50 → 2 * (X * 2 ^ Ls.length) + tt Ls.length T ≤ BIG1 * BIG1 →
    (∀ r ∈ out, Fin (f r)) ∧ Nr (a + 5 * Ls.length) (tt Ls.length T) (X * 2 ^ dbls Ls) (sumE f out) := by
  intro Ls
  induction Ls with
  | nil =>
    intro live out a T X h hf hN _ _
    simp only [chkAll, Option.some.injEq] at h
    subst h
    refine ⟨hf, ?_⟩
    simp only [List.length_nil, Nat.mul_zero, Nat.add_zero, dbls, tt, Nat.pow_zero, Nat.mul_one]
    exact hN
  | cons L Ls ih =>
    intro live out a T X h hf hN ha hb
    obtain ⟨b, gs⟩ := L
    unfold chkAll at h
    obtain ⟨h1, h⟩ := bif_some' h
    obtain ⟨h2, h⟩ := bif_some' h
    obtain ⟨h3, h⟩ := bif_some' h
    have hp := permB_spec h2
    rw [List.length_cons] at ha hb
    have hE : sumE f live ≤ BIG1 * BIG1 := by
      refine Nat.le_trans (hN.le (by omega)) (Nat.le_trans (Nat.add_le_add (Nat.mul_le_mul_left _ (Nat.le_mul_of_pos_right _ (Nat.two_pow_pos _))) (tt_le (Ls.length + 1) T)) hb)
    obtain ⟨f1, n1⟩ := layer_sound gs (chkGates_spec hn h1) fun r hr => by
      have hr' := hp.symm.subset hr
      exact ⟨hf r hr', mg_le_of (sumE_mem f hr') hE⟩
    rw [← sumE_perm f hp] at n1
    have hl : gs.length ≤ 128 := Nat.le_of_ble_eq_true h3
    have n2 : Near (bif b then 2 else 1) (sumE f live) (sumE f (outsL gs)) (2 ^ 113) := n1.mono (by
      have : gs.length * 2 ^ 106 ≤ 128 * 2 ^ 106 := Nat.mul_le_mul_right _ hl
      exact Nat.le_trans this (by decide))
    have n3 := hN.step n2 (by cases b <;> decide) (by omega)
    have n4 : Nr (a + 5) (4 * T + 2 ^ 115) ((bif b then 2 else 1) * X) (sumE f (outsL gs)) := n3.mono (by
      have : 4 * 2 ^ 113 = 2 ^ 115 := by decide
      omega)
    have hX : (bif b then 2 else 1) * X * 2 ^ Ls.length ≤ X * 2 ^ (Ls.length + 1) := by
      rw [Nat.pow_succ, Nat.mul_comm (2 ^ Ls.length) 2, ← Nat.mul_assoc]
      refine Nat.mul_le_mul_right _ ?_
      rw [Nat.mul_comm X 2]
      refine Nat.mul_le_mul_right _ ?_
      cases b <;> decide
    obtain ⟨g1, g2⟩ := ih (outsL gs) out (a + 5) (4 * T + 2 ^ 115) ((bif b then 2 else 1) * X) h f1 n4 (by omega) (Nat.le_trans (Nat.add_le_add_right (Nat.mul_le_mul_left _ hX) _) hb)
    refine ⟨g1, ?_⟩
    have e1 : a + 5 * (Ls.length + 1) = a + 5 + 5 * Ls.length := by omega
    have e2 : X * 2 ^ dbls ((b, gs) :: Ls) = (bif b then 2 else 1) * X * 2 ^ dbls Ls := by
      rw [show dbls ((b, gs) :: Ls) = (bif b then 1 else 0) + dbls Ls from rfl, Nat.pow_add, ← Nat.mul_assoc]
      cases b
      · simp
      · simp [Nat.mul_comm]
    rw [List.length_cons, e1, e2]
    exact g2
end Go.Proofs.YtdflbipaicpdcaaGreatDoor.Fl
set_option maxRecDepth 100000
namespace Go.AM
open Go Go.RowKit Go.Proofs Go.Proofs.YtdflbipaicpdcaaGreatDoor

noncomputable section
def ndOf (t : Tr FN) : Fl.NdF := fun r => bif Nat.blt r SYM then none else match t.get (Nat.sub r SYM) with
  | some ⟨op, x, y⟩ => some (op, x, y)
  | none => none
def insN : Nat → Nat → List Nat
  | 0, _ => []
  | k + 1, i => Nat.add SYM i :: insN k (Nat.succ i)
abbrev callV2 (kind : Nat) (l : Value) : Value := .agg #[.int .i64 (.ofNat kind), l]
def chkOut (s : St) (n b o : Nat) (Ls : List Fl.Layer) : Bool :=
  match rowF s b o n with
  | some refs => match Fl.chkAll (ndOf (idxD s.D s.nd .lf)) (insN n 0) Ls with
    | some out => Fl.permB out refs
    | none => false
  | none => false
/-- does a run come to a new row that is so many layers of what came in? -/
def chkRun (P : Program) (plug : Plug) (f : FuncId) (kind n : Nat) (Ls : List Fl.Layer) : Bool :=
  match call P plug 5000 f [callV2 kind (argN n)] 5 (stN n) with
  | some (.agg cs, s) => match cs.toList with
    | [.int .i64 (.ofNat e), .slice (some ⟨b, o, none⟩) n' c] =>
      bif Nat.beq e 0 then bif s.W.isEmpty then bif Nat.beq n' n then bif Nat.ble n c then bif Nat.blt s.nd 1000000000 then chkOut s n b o Ls else false else false else false else false else false
    | _ => false
  | _ => false
end

def sumG (g : Nat → Nat) : Nat → Nat
  | 0 => 0
  | n + 1 => sumG g n + g n
theorem sumG_congr {g h : Nat → Nat} : ∀ {n : Nat}, (∀ i, i < n → g i = h i) → sumG g n = sumG h n
  | 0, _ => rfl
  | n + 1, H => by simp only [sumG]; rw [sumG_congr (n := n) fun i hi => H i (by omega), H n (by omega)]
theorem sumG_succ (g : Nat → Nat) : ∀ n, sumG g (n + 1) = g 0 + sumG (fun i => g (i + 1)) n
  | 0 => by simp [sumG]
  | n + 1 => by
    rw [sumG, sumG_succ g n]
    simp only [sumG]
    omega
theorem sumE_sumG (f : Nat → Nat) : ∀ (l : List Nat), Fl.sumE f l = sumG (fun i => Fl.en (f (l.getD i 0))) l.length
  | [] => rfl
  | x :: l => by
    rw [List.length_cons, sumG_succ]
    simp only [Fl.sumE, List.getD_cons_zero, List.getD_cons_succ]
    rw [sumE_sumG f l]
theorem insN_len : ∀ k i, (insN k i).length = k
  | 0, _ => rfl
  | k + 1, i => by simp [insN, insN_len k]
theorem insN_get : ∀ k i j, j < k → (insN k i).getD j 0 = SYM + (i + j)
  | k + 1, i, 0, _ => rfl
  | k + 1, i, j + 1, h => by
    simp only [insN, List.getD_cons_succ]
    rw [insN_get k (Nat.succ i) j (by omega)]
    omega
theorem insN_mem {k i r : Nat} (h : r ∈ insN k i) : ∃ j, j < k ∧ r = SYM + (i + j) := by
  obtain ⟨j, hj, e⟩ := List.getElem_of_mem h
  rw [insN_len] at hj
  refine ⟨j, hj, ?_⟩
  rw [← insN_get k i j hj, List.getD_eq_getElem?_getD, List.getElem?_eq_getElem (by rw [insN_len]; exact hj)]
  exact e.symm

/-- the values of nodes -/
def valF (fl : Nat → Option Nat) (r : Nat) : Nat := if r < SYM then r else (fl r).getD 0
theorem valF_vl {fl : Nat → Option Nat} {r X : Nat} (h : vl fl r = some X) : valF fl r = X := by
  unfold vl at h
  unfold valF
  split at h
  · rename_i hr; rw [if_pos hr]; exact Option.some.inj h
  · rename_i hr; rw [if_neg hr, h]; rfl
theorem ndOf_spec {t : Tr FN} {r op x y : Nat} (h : ndOf t r = some (op, x, y)) : SYM ≤ r ∧ t.get (r - SYM) = some ⟨op, x, y⟩ := by
  unfold ndOf at h
  cases h1 : Nat.blt r SYM with
  | true => rw [h1] at h; cases h
  | false =>
    rw [h1] at h
    simp only [cond_false] at h
    have hle : SYM ≤ r := by
      rcases Nat.lt_or_ge r SYM with h2 | h2
      · have : Nat.blt r SYM = true := Nat.ble_eq_true_of_le h2
        rw [this] at h1; cases h1
      · exact h2
    refine ⟨hle, ?_⟩
    split at h
    · rename_i a b c e
      simp only [Option.some.injEq, Prod.mk.injEq] at h
      obtain ⟨rfl, rfl, rfl⟩ := h
      exact e
    · cases h
theorem nodes_so {fl : Nat → Option Nat} {t : Tr FN} (ht : ∀ i x, t.get i = some x → nodeOk fl x (SYM + i)) : Fl.NodesSo (ndOf t) (valF fl) := by
  have key : ∀ {r op x y}, ndOf t r = some (op, x, y) → nodeOk fl ⟨op, x, y⟩ r ∧ SYM ≤ r := fun {r op x y} h => by
    obtain ⟨h1, h2⟩ := ndOf_spec h
    have := ht _ _ h2
    rw [show SYM + (r - SYM) = r by omega] at this
    exact ⟨this, h1⟩
  have hv : ∀ {r v}, SYM ≤ r → fl r = some v → valF fl r = v := fun {r v} h e => by unfold valF; rw [if_neg (by omega), e]; rfl
  refine ⟨fun r hr => ?_, fun r x y h => ?_, fun r x y h => ?_, fun r x y h => ?_, fun r x y h => ?_⟩
  · unfold valF; rw [if_pos (by exact hr)]
  · obtain ⟨⟨v, h0, _, _, a, _, _, _⟩, hr⟩ := key h
    obtain ⟨X, Y, _, _, hx, hy, e⟩ := a rfl
    rw [hv hr h0, valF_vl hx, valF_vl hy]; exact e
  · obtain ⟨⟨v, h0, _, _, _, a, _, _⟩, hr⟩ := key h
    obtain ⟨X, Y, _, _, hx, hy, e⟩ := a rfl
    rw [hv hr h0, valF_vl hx, valF_vl hy]; exact e
  · obtain ⟨⟨v, h0, _, _, _, _, a, _⟩, hr⟩ := key h
    obtain ⟨X, Y, _, _, hx, hy, e⟩ := a rfl
    rw [hv hr h0, valF_vl hx, valF_vl hy]; exact e
  · obtain ⟨⟨v, h0, _, _, _, _, _, a⟩, hr⟩ := key h
    obtain ⟨X, _, hx, e⟩ := a rfl
    rw [hv hr h0, valF_vl hx]; exact e

/-- what such a run says -/
structure RunSo (w : World) (m : Nat → Nat) (n : Nat) (Ls : List Fl.Layer) (e : Ending) (w' : World) : Prop where
  kept : Kept w w'
  out : ∃ (B o cap : Nat) (z : Nat → Nat), e = .returned (.agg #[.int .i64 0, .slice (some ⟨B, o, none⟩) n cap]) ∧ B < w'.heap.size ∧ n ≤ cap ∧
    (∀ i, i < n → w'.cell? ⟨B, o + i, none⟩ = some (.float .f64 (z i)) ∧ Fl.Fin (z i)) ∧
    Fl.Nr (5 * Ls.length) (Fl.tt Ls.length 0) (sumG (fun i => Fl.en (m i)) n * 2 ^ Fl.dbls Ls) (sumG (fun i => Fl.en (z i)) n)

theorem canon_fin2 {x : Nat} (h : Fl.Fin x) : Fl.canon x = x := by
  unfold Fl.canon
  rw [h.notNaN]
  rfl

theorem alike_num2 {r v : Nat} (h : Fl.canon r = v) (hn : Fl.isNaN v = false) : r = v := by
  unfold Fl.canon at h
  split at h
  · subst h; rw [Fl.isNaN_qnan] at hn; cases hn
  · exact h

theorem run_so {plug : Plug} (hplug : PlugOk Tryz.prog plug) {fn : FuncId} (hf : ∃ f, Tryz.prog.funcs[fn]? = some f ∧ f.body ≠ none) {kind n : Nat} {Ls : List Fl.Layer} (h : chkRun Tryz.prog plug fn kind n Ls = true)
    {w : World} (hL : Laid w) {b off cap : Nat} {c' : Array Value} {t' : TypeId} {fz' : Nat × Nat} {m : Nat → Nat} (hb : w.heap[b]? = some (.cells c' t' fz')) (hn : 0 < n)
    (hm : ∀ i, i < n → c'[off + i]? = some (.float .f64 (m i))) (hfin : ∀ i, i < n → Fl.Fin (m i)) (hcap : n ≤ cap)
    (h50 : 4 * (0 + 5 * Ls.length) ≤ 2 ^ 50) (hE : 2 * (sumG (fun i => Fl.en (m i)) n * 2 ^ Ls.length) + Fl.tt Ls.length 0 ≤ Fl.BIG1 * Fl.BIG1) :
    Calls Tryz.prog fn #[callV2 kind (.slice (some ⟨b, off, none⟩) n cap)] w (RunSo w m n Ls) := by
  have hM := start_mem hL hb hn hm fun i hi => (hfin i hi).1
  unfold chkRun at h
  split at h
  case h_2 => cases h
  rename_i cs s hcall
  split at h
  case h_2 => cases h
  rename_i er B o n' c hcs
  obtain ⟨h1, h⟩ := Fl.band h
  obtain ⟨h2, h⟩ := Fl.band h
  obtain ⟨h3, h⟩ := Fl.band h
  obtain ⟨h4, h⟩ := Fl.band h
  obtain ⟨h5, h6⟩ := Fl.band h
  have e3 := nbeq_true h3
  subst e3
  have harg : Den (inJ 64 ⟨b, off, c'.size⟩ n' m) (callV2 kind (argN n')) (callV2 kind (.slice (some ⟨b, off, none⟩) n' cap)) := by
    have := Den.wide (J := inJ 64 ⟨b, off, c'.size⟩ n' m) 4 0 n' OPEN cap ⟨b, off, c'.size⟩ (by simp [inJ]) (Nat.le_refl _) hcap (fun h => absurd h (Nat.lt_irrefl _))
    exact .agg _ _ (.cons _ _ _ _ (.int _ _) (.cons _ _ _ _ (by simpa using this) .nil))
  refine (call_sound tryz_enters hplug tryz_mixed hf hcall hM (.cons _ _ _ _ harg .nil)).mono ?_
  rintro en w' ⟨u, J', rfl, hle, hR, hden⟩
  have hk := kept_of hR (List.isEmpty_iff.1 h2)
  refine ⟨hk, ?_⟩
  -- what is handed back
  have hu : ∃ y, u = .agg #[.int .i64 (.ofNat er), y] ∧ Den J' (.slice (some ⟨B, o, none⟩) n' c) y := by
    cases hden with
    | agg _ u' hl =>
      rw [hcs] at hl
      obtain ⟨x, y, e1, d1, d2⟩ := den2 hl
      obtain ⟨arr⟩ := u'
      simp only at e1
      subst e1
      cases d1
      exact ⟨y, rfl, d2⟩
  obtain ⟨y, rfl, hdy⟩ := hu
  have e1 := nbeq_true h1
  subst e1
  have hy : ∃ p c2, y = .slice (some ⟨p.blk, p.off + o, none⟩) n' c2 ∧ J'.blk B = some p ∧ n' ≤ c2 := by
    cases hdy with
    | slice _ _ _ _ p hp hc => exact ⟨p, _, rfl, hp, nble_true h4⟩
    | wide _ _ _ _ c2 p hp hc hn2 hs => exact ⟨p, c2, rfl, hp, hn2⟩
  obtain ⟨p, c2, rfl, hp, hc2⟩ := hy
  -- the look
  unfold chkOut at h6
  split at h6
  case h_2 => cases h6
  rename_i refs hrefs
  split at h6
  case h_2 => cases h6
  rename_i out hout
  have hperm := Fl.permB_spec h6
  obtain ⟨ro, cells, vs, q1, q2, q3⟩ := rowF_spec hrefs
  obtain ⟨p', z, hp', hr⟩ := row_in hR hn q1 q2 q3
  rw [hp] at hp'
  cases hp'
  have ht := idxD_spec hR.dag s.nd .lf hR.nd (nblt_true h5) (fun i x hx => by simp [Tr.get] at hx)
  have hso := nodes_so ht
  have hin : ∀ i, i < n' → valF J'.fl (SYM + i) = m i := fun i hi => by
    have : J'.fl (SYM + i) = some (Fl.canon (m i)) := by
      refine hle.fl _ _ ?_
      simp only [inJ]
      rw [if_pos ⟨by omega, by omega⟩, show SYM + i - SYM = i by omega]
    unfold valF
    rw [if_neg (by omega), this]
    exact canon_fin2 (hfin i hi)
  have hE0 : Fl.sumE (valF J'.fl) (insN n' 0) = sumG (fun i => Fl.en (m i)) n' := by
    rw [sumE_sumG, insN_len]
    refine sumG_congr fun i hi => ?_
    rw [insN_get _ _ _ hi, Nat.zero_add, hin i hi]
  obtain ⟨g1, g2⟩ := Fl.chain hso Ls (insN n' 0) out 0 0 (sumG (fun i => Fl.en (m i)) n') hout (fun r hr => by
    obtain ⟨j, hj, rfl⟩ := insN_mem hr
    rw [Nat.zero_add, hin j hj]; exact hfin j hj) (by rw [hE0]; exact .refl _) h50 hE
  obtain ⟨cc, tt, ff, hh, hsz, hle2, hat⟩ := hr.at_
  have hz : ∀ i, i < n' → z i = valF J'.fl (refs.getD i 0) ∧ Fl.Fin (valF J'.fl (refs.getD i 0)) := fun i hi => by
    have hmem : refs.getD i 0 ∈ refs := by
      rw [List.getD_eq_getElem?_getD, List.getElem?_eq_getElem (by rw [hr.len]; exact hi)]
      exact List.getElem_mem _
    have hF := g1 _ (hperm.symm.subset hmem)
    obtain ⟨m', X, e1, v1, c1, _, _⟩ := (hr.den i hi).float
    obtain ⟨-, e2⟩ := Value.float.inj e1
    have hX := valF_vl v1
    rw [hX] at hF ⊢
    refine ⟨?_, hF⟩
    rw [e2]
    have : Fl.canon m' = X := by rw [c1, canon_fin2 hF]
    exact alike_num2 this hF.notNaN
  refine ⟨p.blk, p.off + o, c2, z, rfl, hR.lt _ _ hp, hc2, fun i hi => ⟨?_, ?_⟩, ?_⟩
  · have := hat i hi
    simp [World.cell?, hh, this]
  · rw [(hz i hi).1]; exact (hz i hi).2
  · rw [Nat.zero_add, Fl.sumE_perm _ hperm, sumE_sumG, hr.len] at g2
    have e9 : sumG (fun i => Fl.en (z i)) n' = sumG (fun i => Fl.en (valF J'.fl (refs.getD i 0))) n' := sumG_congr fun i hi => congrArg Fl.en (hz i hi).1
    rw [e9]
    exact g2
end Go.AM
