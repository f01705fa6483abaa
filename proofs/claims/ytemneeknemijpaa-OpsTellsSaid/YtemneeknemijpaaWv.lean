/- Variables that hold dyadic numbers, for the laws' walks. No condition. -/
import Derived.Test.YtemneeknemijpaaFx
namespace Go.Proofs.Ytemneeknemijpaa
open Go.RowKit

abbrev dbox (n : Bool) (a : Option Addr) (l c : Nat) (E : Int) : Obj := Obj.cells #[Value.bool n, Value.slice a l c, Value.int IntKind.i64 E] 35
/-- the block b holds this number -/
structure Var (w : World) (b : Nat) (n : Bool) (a : Option Addr) (l c : Nat) (E : Int) : Prop where
  c0 : w.cell? ⟨b, 0, none⟩ = some (.bool n)
  c1 : w.cell? ⟨b, 1, none⟩ = some (.slice a l c)
  c2 : w.cell? ⟨b, 2, none⟩ = some (.int .i64 E)
  f0 : w.frozen? ⟨b, 0, none⟩ = false
  lt : b < w.heap.size
theorem Var.below {w w' : World} {b : Nat} {n : Bool} {a : Option Addr} {l c : Nat} {E : Int} (h : Var w b n a l c E) (hb : Below w.heap.size w w') : Var w' b n a l c E :=
  ⟨cell_at hb h.lt h.c0, cell_at hb h.lt h.c1, cell_at hb h.lt h.c2, froz_of hb h.lt h.f0, Nat.lt_of_lt_of_le h.lt hb.size⟩
theorem var_alloc (w : World) (n : Bool) (a : Option Addr) (l c : Nat) (E : Int) : Var (w.alloc (dbox n a l c E)) w.heap.size n a l c E :=
  ⟨by simp [go_sem], by simp [go_sem], by simp [go_sem], by simp [go_sem], by simp⟩
theorem below_alloc (w : World) (o : Obj) : Below w.heap.size w (w.alloc o) := (Below.refl _ w).alloc (Nat.le_refl _) o
theorem below_next {w w1 w2 : World} (h : Below w.heap.size w w1) (k : Below w1.heap.size w1 w2) : Below w.heap.size w w2 := h.trans (k.mono h.size)
/-- the sign struck -/
theorem Var.struck {w : World} {b : Nat} {n : Bool} {a : Option Addr} {l c : Nat} {E : Int} (h : Var w b n a l c E) : Var (w.setCell ⟨b, 0, none⟩ (.bool false)) b false a l c E := by
  have c0 := h.c0; have c1 := h.c1; have c2 := h.c2; have f0 := h.f0
  exact ⟨by simp [go_sem, c0], by simp [go_sem, c1], by simp [go_sem, c2], by simp [go_sem, f0], by simpa using h.lt⟩
theorem Var.other {w : World} {b b' : Nat} {n : Bool} {a : Option Addr} {l c : Nat} {E : Int} (h : Var w b n a l c E) (hb : b' ≠ b) (k : Nat) (u : Value) : Var (w.setCell ⟨b', k, none⟩ u) b n a l c E := by
  have f0 := h.f0
  exact ⟨by rw [World.cell?_setCell_far _ _ _ _ hb]; exact h.c0, by rw [World.cell?_setCell_far _ _ _ _ hb]; exact h.c1, by rw [World.cell?_setCell_far _ _ _ _ hb]; exact h.c2, by simp [go_sem, f0], by simpa using h.lt⟩
/-- a number keeps its row when a cell of a newer block is written -/
theorem IsD.abs {w : World} {n : Bool} {s : Value} {E z e : Int} (h : IsD w (Dv n s E) z e) : IsD w (Dv false s E) (z.natAbs : Int) e := by
  obtain ⟨s', h1, h2⟩ := h
  simp only [Dv, Value.agg.injEq] at h1
  have h3 : n = decide (z < 0) ∧ s = s' ∧ E = dE z e := by simpa using h1
  obtain ⟨rfl, rfl, rfl⟩ := h3
  have e1 : decide ((z.natAbs : Int) < 0) = false := decide_eq_false (by omega)
  have e2 : dE (z.natAbs : Int) e = dE z e := by
    unfold dE
    by_cases h0 : z = 0
    · subst h0; simp
    · rw [if_neg h0, if_neg (by omega), Int.natAbs_natCast]
  have e3 : dM (z.natAbs : Int) = dM z := by unfold dM; rw [Int.natAbs_natCast]
  exact ⟨s, by rw [e1, e2], by rw [e3]; exact h2⟩
/-- a number's row lies in blocks below b, if it stood there before b was made -/
theorem IsD.set {w0 w : World} {v : Value} {z e : Int} (h : IsD w0 v z e) (hb : Below w0.heap.size w0 w) {p : Addr} (hp : w0.heap.size ≤ p.block) (u : Value) : IsD (w.setCell p u) v z e :=
  h.below (hb.setCell hp u)
theorem set0_cell {w : World} {b : Nat} {x : Bool} (h : w.cell? ⟨b, 0, none⟩ = some (.bool x)) (u : Value) {a : Addr} {y : Nat} (ha : w.cell? a = some (I y)) : (w.setCell ⟨b, 0, none⟩ u).cell? a = some (I y) := by
  by_cases hab : (⟨b, 0, none⟩ : Addr) = a
  · subst hab; rw [h] at ha; simp at ha
  · rw [World.cell?_setCell_other (h := hab)]; exact ha
theorem IsD.set0 {w : World} {v : Value} {z e : Int} (h : IsD w v z e) {b : Nat} {x : Bool} (hb : w.cell? ⟨b, 0, none⟩ = some (.bool x)) (u : Value) : IsD (w.setCell ⟨b, 0, none⟩ u) v z e := by
  obtain ⟨s, h1, a, l, c, rfl, h2, h3⟩ := h
  refine ⟨_, h1, a, l, c, rfl, ⟨h2.1, ?_⟩, h3⟩
  rcases h2.2 with h4 | ⟨k, off, rfl, hc⟩
  · exact .inl h4
  · exact .inr ⟨k, off, rfl, fun i hi => set0_cell hb u (hc i hi)⟩
/-- of a size below 2^K -/
structure Bd (z : Int) (K : Nat) : Prop where
  lt : z.natAbs < 2 ^ K
theorem Bd.add {a b : Int} {K L : Nat} (ha : Bd a K) (hb : Bd b K) (hL : L = K + 1) : Bd (a + b) L := ⟨by
  have h1 := ha.lt
  have h2 := hb.lt
  rw [hL, Nat.pow_succ]
  generalize 2 ^ K = p at *
  omega⟩
theorem Bd.neg {a : Int} {K : Nat} (ha : Bd a K) : Bd (-a) K := ⟨by rw [Int.natAbs_neg]; exact ha.lt⟩
theorem Bd.abs {a : Int} {K : Nat} (ha : Bd a K) : Bd (a.natAbs : Int) K := ⟨by rw [Int.natAbs_natCast]; exact ha.lt⟩
theorem Bd.mono {a : Int} {K L : Nat} (ha : Bd a K) (h : K ≤ L) : Bd a L := ⟨Nat.lt_of_lt_of_le ha.lt (Nat.pow_le_pow_right (by decide) h)⟩
theorem Bd.mul {a b : Int} {K L M : Nat} (ha : Bd a K) (hb : Bd b L) (hM : M = K + L) : Bd (a * b) M := ⟨by
  rw [hM, Int.natAbs_mul, Nat.pow_add]
  exact Nat.mul_lt_mul'' ha.lt hb.lt⟩
theorem Bd.sz {a : Int} {K : Nat} (ha : Bd a K) (hK : K ≤ 24 * 800) : Sz a := digs_pow ha.lt hK
theorem Bd.sz2 {a b : Int} {K : Nat} (ha : Bd a K) (hb : Bd b K) (hK : K + 1 ≤ 24 * 800) : (digs (a.natAbs + b.natAbs)).length ≤ 800 := by
  refine digs_pow (j := K + 1) ?_ hK
  have h1 := ha.lt
  have h2 := hb.lt
  rw [Nat.pow_succ]
  generalize 2 ^ K = p at *
  omega
theorem bd_VV' (x K : Nat) (hK : K = 2098) : Bd (Fl.VV x) K := ⟨by
  have hT := Fl.TOP_eq K hK
  rw [← hT]
  unfold Fl.VV
  split
  · rw [← Fl.mg_natAbs]; exact Fl.RV_lt (by assumption)
  · have := Nat.two_pow_pos K
    rw [← hT] at this
    simpa using this⟩
theorem bd_VV (x : Nat) : Bd (Fl.VV x) 2098 := bd_VV' x _ rfl
theorem bd_ONE' {a : Int} {K L z : Nat} (hz : z = 1074) (ha : Bd a K) (hL : L = K + z) : Bd (a * (Fl.ONE : Int)) L := ⟨by
  rw [hL, Int.natAbs_mul, Int.natAbs_natCast, Nat.pow_add, Fl.ONE_eq z hz]
  exact Nat.mul_lt_mul_of_pos_right ha.lt (Nat.two_pow_pos z)⟩
theorem bd_ONE {a : Int} {K L : Nat} (ha : Bd a K) (hL : L = K + 1074) : Bd (a * (Fl.ONE : Int)) L := bd_ONE' rfl ha hL
theorem IsD.down {w : World} {v : Value} {z e e' : Int} (h : IsD w v z e) (he : e' + 1074 = e) : IsD w v (z * (Fl.ONE : Int)) e' := by
  obtain ⟨k, hk⟩ : ∃ k, k = 1074 := ⟨_, rfl⟩
  rw [Fl.ONE_eq k hk]
  exact h.to k (by omega) rfl
end Go.Proofs.Ytemneeknemijpaa
