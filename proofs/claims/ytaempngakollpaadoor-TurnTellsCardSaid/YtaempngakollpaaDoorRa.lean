/- parts, Flip, Add of the reference. -/
import Derived.Test.YtaempngakollpaaDoorRt
namespace Go.Proofs.YtaempngakollpaaDoor
open Go.RowKit Go.Shelf

def prt (A : Int) (q : Nat) : Nat := par A / 2 ^ (40 - q)
theorem prt_eq (A : Int) (q : Nat) (h : fq A ≤ q) (hq : q ≤ 40) : fk A * 2 ^ (q - fq A) = prt A q ∧ prt A q * 2 ^ (40 - q) = par A := by
  have e : fk A * 2 ^ (q - fq A) * 2 ^ (40 - q) = par A := by
    rw [Nat.mul_assoc, ← Nat.pow_add, show q - fq A + (40 - q) = 40 - fq A by omega]
    rcases form_cases A with h1 | h1
    · rw [h1.1, h1.2.1]; simp
    · exact h1.2.2.2.2.2
  have e2 : prt A q = fk A * 2 ^ (q - fq A) := by
    unfold prt
    rw [← e]
    exact Nat.mul_div_cancel _ (Nat.pow_pos (by decide))
  exact ⟨e2.symm, by rw [e2, e]⟩
theorem prt_le (A : Int) (q : Nat) : prt A q < 1099511627776 := Nat.lt_of_le_of_lt (Nat.div_le_self _ _) (par_lt A)
theorem prt_val (A : Int) (q : Nat) (h : fq A ≤ q) (hq : q ≤ 40) : val (prt A q) q = par A := by rw [val_nat, (prt_eq A q h hq).2]
theorem fq_val (k : Int) (q : Nat) (hq : q ≤ 40) : fq (val k q) ≤ q := by
  obtain ⟨x, hx⟩ : ∃ x : Nat, k % 2 ^ q = x := ⟨(k % 2 ^ q).toNat, (Int.toNat_of_nonneg (Int.emod_nonneg _ (Int.ne_of_gt (Int.pow_pos (by decide))))).symm⟩
  obtain ⟨f0, f1⟩ := form_of k q x hq hx
  by_cases h : x = 0
  · rw [(f0 h).2]; omega
  · rw [(f1 h).2.1]; omega

set_option maxHeartbeats 1000000 in
theorem flip21 (k : Int) (q : Nat) (hq : q ≤ 40) (h0 : -4611686018427387904 ≤ k) (h1 : k ≤ 4611686018427387904) (w : World) : Calls Tryd.prog 21 #[Ag k q] w (Forms w (- val k q)) := by
  go_enter Tryd.func21, Tryd.ntmps21
  go_wp2_with fail
  refine (form17 _ q hq _).mono ?_
  rintro e w' ⟨rfl, hb⟩
  obtain ⟨c0, c1, f0, f1⟩ := two (B := w.heap.size + 1) hb (by simp [go_sem]) (by simp [go_sem]) (by simp [go_sem]) (by simp [go_sem])
  have HB := Lib.hid hb
  clear hb
  rw [val_neg]
  go_wp2
  refine bodyPost_ret (v := T (- val k q)) (by simp [results, Tryd.results21, go_sem, c0, c1]) rfl ⟨rfl, ?_⟩
  exact (((((Below.refl _ w).alloc (Nat.le_refl _) _).alloc (by simp) _).trans (HB.out.mono (by simp; omega))).setCell (by simp) _).setCell (by simp) _

theorem field0 (k q : Int) (w : World) : (Instr.field 23 (.agg #[.int .i64 k, .int .i64 q]) 0).run Tryd.prog w = .ok (.int .i64 k) w := by kernel_rfl
theorem field1 (k q : Int) (w : World) : (Instr.field 23 (.agg #[.int .i64 k, .int .i64 q]) 1).run Tryd.prog w = .ok (.int .i64 q) w := by kernel_rfl
attribute [local go_sem] field0 field1
def Num (w : World) (n : Nat) (a : Ending) (w' : World) : Prop := a = .returned (.int .i64 n) ∧ Below w.heap.size w w'

set_option maxHeartbeats 1000000 in
theorem parts26 (k : Int) (q0 q : Nat) (h : q0 ≤ q) (hq : q ≤ 40) (w : World) : Calls Tryd.prog 26 #[Ag k q0, .int .i64 q] w (Num w (prt (val k q0) q)) := by
  have h0 := fq_val k q0 (by omega)
  have hl := prt_le (val k q0) q
  have he := (prt_eq (val k q0) q (by omega) hq).1
  obtain ⟨r, hr⟩ : ∃ r, prt (val k q0) q = r := ⟨_, rfl⟩
  obtain ⟨b, hb⟩ : ∃ b, fq (val k q0) = b := ⟨_, rfl⟩
  obtain ⟨d, hd⟩ : ∃ d : Nat, q = b + d := ⟨q - b, by omega⟩
  have hei : (fk (val k q0) : Int) * 2 ^ d = r := by rw [pow_int, ← Int.natCast_mul, ← hr, ← he, hb, show d = q - b by omega]
  have hw1 : IntKind.i64.wrap ((q : Int) - b) = (d : Int) := by rw [IntKind.wrap_i64]; omega
  have hw3 : IntKind.i64.wrap ((fk (val k q0) : Int) * 2 ^ d) = r := by rw [hei, IntKind.wrap_i64]; omega
  have hd1 : (d : Int) ≤ 40 := by omega
  have hd0 : (0 : Int) ≤ d := by omega
  have HT : Hid (T (val k q0) = .agg #[.int .i64 (fk (val k q0)), .int .i64 b]) := Lib.hid (by rw [T, hb])
  rw [hr]
  clear hr hb hd hei he h0 hl
  go_enter Tryd.func26, Tryd.ntmps26
  go_wp2_with fail
  have hb0 := (Below.refl w.heap.size w).alloc (Nat.le_refl _) (.cells #[.int .i64 k, .int .i64 q0] 23)
  have z0 : (w.alloc (.cells #[.int .i64 k, .int .i64 q0] 23)).drew.cell? ⟨w.heap.size, 0, none⟩ = some (.int .i64 k) := by simp [go_sem]
  have z1 : (w.alloc (.cells #[.int .i64 k, .int .i64 q0] 23)).drew.cell? ⟨w.heap.size, 1, none⟩ = some (.int .i64 q0) := by simp [go_sem]
  have HB0 := Lib.hid (((Below.refl w.heap.size w).alloc (Nat.le_refl _) (.cells #[.int .i64 k, .int .i64 q0] 23)).drew)
  clear hb0
  have tok1 : True := trivial
  go_region_with (first
    | (go_at_call 17; have _t := tok1; ((with_reducible refine (form17 k q0 (by omega) _).mono ?_); rintro e w1 ⟨rfl, hb⟩; have HB1 := Lib.hid (HB0.out.trans (hb.mono HB0.out.size)); have zz0 := cell_of hb z0; have zz1 := cell_of hb z1; clear hb tok1; rw [HT.out]))
    | (go_at_call 17; ((with_reducible refine (form17 k q0 (by omega) _).mono ?_); rintro e w2 ⟨rfl, hb⟩; have HB2 := Lib.hid (HB1.out.trans (hb.mono HB1.out.size)); clear hb; rw [HT.out])))
  all_goals
    go_wp2
    exact bodyPost_ret (v := .int .i64 r) (by simp [results, Tryd.results26, go_sem, Act.put]) rfl ⟨rfl, HB2.out⟩
end Go.Proofs.YtaempngakollpaaDoor
