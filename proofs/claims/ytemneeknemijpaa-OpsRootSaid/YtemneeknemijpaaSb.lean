/- What is told without rounding: differences of floats within twice of one another; sums and products of small ints: plain. No condition. -/
import Derived.Test.YtemneeknemijpaaNn
import Derived.Test.YtemneeknemijpaaWv
namespace Go.Proofs.Ytemneeknemijpaa
open Go

theorem bd_two' {a : Int} {K : Nat} (h : Bd a K) : Bd (a * ((2 ^ 1 : Nat) : Int)) (K + 1) := ⟨by
  have := h.lt
  rw [Int.natAbs_mul, Int.natAbs_natCast, Nat.pow_succ 2 K]
  show a.natAbs * 2 < 2 ^ K * 2
  exact Nat.mul_lt_mul_of_pos_right this (by decide)⟩
theorem bd_two {a : Int} (h : Bd a 2098) : Bd (a * ((2 ^ 1 : Nat) : Int)) 2099 := bd_two' h

section
open Go Region
variable {P : Program} {ops : Array Oper} {Q : Exit → Act → World → Prop} {md : Region.Mode} {S : World → Prop}
/-- One alone is ready, and its guard lets it in. -/
theorem wpAnyR_oneG {i : Nat} {oi : Oper} {fuel : Nat} {listed listed' : Array Bool} {a : Act} {w : World} (hi : ops[i]? = some oi) (hr : Region.ready md ops listed = [i])
    (hw : Region.wanted oi (yielded ops a.tmps) = true) (hl : listed.setIfInBounds i true = listed')
    (h : Oper.wp P oi a w (fun a' w' => S w' ∧ wpAnyR P md ops Q S fuel listed' a' w') Q) : wpAnyR P md ops Q S (fuel + 1) listed a w := by
  subst hl
  refine ⟨fun h0 => (by rw [hr] at h0; cases h0), fun j hj => ?_⟩
  rw [hr, List.mem_singleton] at hj
  subst hj
  unfold Go.wpOp
  simp only [hi]
  simp only [hw, if_true]
  exact .inl h
end

namespace Fl
theorem sterbenz_pow {c d t u : Nat} (hc : c < 2 ^ 53) (hcT : c * 2 ^ t < TOP) (h1 : c * 2 ^ t ≤ 2 * (d * 2 ^ u)) (h2 : d * 2 ^ u ≤ 2 * (c * 2 ^ t)) (htu : t ≤ u) : Rep (((c * 2 ^ t : Nat) : Int) - ((d * 2 ^ u : Nat) : Int)) := by
  obtain ⟨v, rfl⟩ : ∃ v, u = t + v := ⟨u - t, by omega⟩
  have e : d * 2 ^ (t + v) = (d * 2 ^ v) * 2 ^ t := by rw [Nat.pow_add, Nat.mul_assoc, Nat.mul_comm (2 ^ t)]
  rw [e] at h1 h2 ⊢
  generalize d * 2 ^ v = D at *
  have hp := Nat.two_pow_pos t
  have h3 : c ≤ 2 * D := by
    apply Nat.le_of_not_lt
    intro h
    have h4 : (2 * D + 1) * 2 ^ t ≤ c * 2 ^ t := Nat.mul_le_mul_right _ h
    rw [Nat.add_mul, Nat.mul_assoc] at h4
    omega
  have h4 : D ≤ 2 * c := by
    apply Nat.le_of_not_lt
    intro h
    have h4 : (2 * c + 1) * 2 ^ t ≤ D * 2 ^ t := Nat.mul_le_mul_right _ h
    rw [Nat.add_mul, Nat.mul_assoc] at h4
    omega
  refine ⟨((c : Int) - D).natAbs, t, by omega, ?_, ?_⟩
  · have : ((c * 2 ^ t : Nat) : Int) - ((D * 2 ^ t : Nat) : Int) = ((c : Int) - D) * ((2 ^ t : Nat) : Int) := by rw [Int.natCast_mul, Int.natCast_mul, Int.sub_mul]
    rw [this, Int.natAbs_mul, Int.natAbs_natCast]
  · have h5 : ((c : Int) - D).natAbs * 2 ^ t ≤ c * 2 ^ t := Nat.mul_le_mul_right _ (by omega)
    omega
theorem Rep.neg {v : Int} (h : Rep v) : Rep (-v) := by
  obtain ⟨c, t, h1, h2, h3⟩ := h
  exact ⟨c, t, h1, by rw [Int.natAbs_neg]; exact h2, h3⟩
theorem sterbenz {a b : Nat} (ha : Fin a) (hb : Fin b) (ha0 : 0 < V a) (hb0 : 0 < V b) (h1 : V a ≤ 2 * V b) (h2 : V b ≤ 2 * V a) : Rep (V a - V b) := by
  have ea : V a = ((mant (rg a) * 2 ^ ex (rg a) : Nat) : Int) := by
    have := V_eq a
    have h3 := sg_V (x := a) (by omega)
    rw [decide_eq_false (by omega)] at h3
    rw [h3] at this
    simpa using this
  have eb : V b = ((mant (rg b) * 2 ^ ex (rg b) : Nat) : Int) := by
    have := V_eq b
    have h3 := sg_V (x := b) (by omega)
    rw [decide_eq_false (by omega)] at h3
    rw [h3] at this
    simpa using this
  have ra := RV_lt ha.2
  have rb := RV_lt hb.2
  rw [RV_eq] at ra rb
  rw [ea, eb] at h1 h2 ⊢
  have ca := mant_lt (rg a)
  have cb := mant_lt (rg b)
  generalize mant (rg a) = c at *
  generalize mant (rg b) = d at *
  generalize ex (rg a) = t at *
  generalize ex (rg b) = u at *
  by_cases htu : t ≤ u
  · exact sterbenz_pow (c := c) (d := d) (t := t) (u := u) ca ra (by omega) (by omega) htu
  · have := (sterbenz_pow (c := d) (d := c) (t := u) (u := t) cb rb (by omega) (by omega) (by omega : u ≤ t)).neg
    rwa [Int.neg_sub] at this
theorem is_of {x : Nat} (h : x < 2 ^ 64) (hf : isFin x = true) : Is x (VV x) := ⟨fin_of h hf, (VV_of hf).symm⟩
/-- a difference of floats within twice of one another -/
theorem sub_exact {a b r : Nat} (ha : a < 2 ^ 64) (hb : b < 2 ^ 64) (fa : isFin a = true) (fb : isFin b = true) (ha0 : 0 < VV a) (hb0 : 0 < VV b) (h1 : VV a ≤ 2 * VV b) (h2 : VV b ≤ 2 * VV a) (hr : canon r = fsub a b) : isFin r = true ∧ VV r = VV a + -VV b := by
  rw [VV_of fa, VV_of fb] at *
  have h3 := (is_of ha fa).sub (is_of hb fb) (by rw [VV_of fa, VV_of fb]; exact sterbenz (fin_of ha fa) (fin_of hb fb) ha0 hb0 h1 h2)
  have e : r = fsub a b := of_canon hr h3.fin.notNaN
  rw [e]
  refine ⟨decide_eq_true h3.fin.2, ?_⟩
  rw [VV_fin h3.fin.2, h3.val, VV_of fa, VV_of fb]
  omega
/-- small ints -/
theorem int_add {m n : Int} {r : Nat} (hm : m.natAbs < 2 ^ 26) (hn : n.natAbs < 2 ^ 26) (hr : canon r = fadd (ofInt m) (ofInt n)) : (D.order r (ofInt (m + n)) == some .eq) = true := by
  have h1 := (Is.int (n := m) (by omega)).add (Is.int (n := n) (by omega)) (by rw [← Int.add_mul]; exact Rep.int (by omega))
  have e : r = fadd (ofInt m) (ofInt n) := of_canon hr h1.fin.notNaN
  rw [e]
  rw [← Int.add_mul] at h1
  exact h1.eql (Is.int (by omega))
theorem int_mul {m n : Int} {r : Nat} (hm : m.natAbs < 2 ^ 26) (hn : n.natAbs < 2 ^ 26) (hr : canon r = fmul (ofInt m) (ofInt n)) : (D.order r (ofInt (m * n)) == some .eq) = true := by
  have hmn : (m * n).natAbs < 2 ^ 53 := by
    rw [Int.natAbs_mul]
    have : m.natAbs * n.natAbs ≤ 2 ^ 26 * 2 ^ 26 := Nat.mul_le_mul (by omega) (by omega)
    omega
  have h1 := (Is.int (n := m) (by omega)).mul (Is.int (n := n) (by omega)) (v := m * n * (ONE : Int)) (by generalize (ONE : Int) = o; ac_rfl) (Rep.int hmn)
  have e : r = fmul (ofInt m) (ofInt n) := of_canon hr h1.fin.notNaN
  rw [e]
  exact h1.eql (Is.int hmn)
end Fl
end Go.Proofs.Ytemneeknemijpaa
