/- Times of the reference. -/
import Derived.Test.YtaempngakollpaaDoorRb
namespace Go.Proofs.YtaempngakollpaaDoor
open Go.RowKit Go.Shelf

/-- n times, by the rest of n -/
theorem times_rest (n A : Int) : val (wrap64 ((fk A : Int) * (n % 2 ^ fq A))) (fq A) % 1099511627776 = (n * A) % 1099511627776 := by
  rw [val_wrap]
  have h := val_form_mod A
  have hn : (fk A : Int) * (n % 2 ^ fq A) = n * fk A - (2 ^ fq A * (n / 2 ^ fq A)) * fk A := by
    have := Int.emod_add_mul_ediv n (2 ^ fq A)
    rw [show n % 2 ^ fq A = n - 2 ^ fq A * (n / 2 ^ fq A) by omega, Int.mul_sub, Int.mul_comm _ n, Int.mul_comm _ (2 ^ fq A * (n / 2 ^ fq A))]
  have e : val ((fk A : Int) * (n % 2 ^ fq A)) (fq A) = n * val (fk A) (fq A) - 1099511627776 * ((n / 2 ^ fq A) * fk A) := by
    unfold val
    rw [hn, Int.sub_mul, ← pow_split (fq A) (fq_le A)]
    congr 1
    · rw [Int.mul_assoc]
    · simp only [Int.mul_assoc, Int.mul_left_comm, Int.mul_comm]
  rw [e, Int.sub_mul_emod_self_left, Int.mul_emod, h, ← Int.mul_emod]

set_option maxHeartbeats 2000000 in
theorem times23 (k : Int) (q : Nat) (hq : q ≤ 40) (n : Int) (w : World) : Calls Tryd.prog 23 #[Ag k q, .int .i64 n] w (Forms w (n * val k q)) := by
  have hT := times_rest n (val k q)
  have ha := fq_le (val k q)
  obtain ⟨a, hfa⟩ : ∃ a, fq (val k q) = a := ⟨_, rfl⟩
  obtain ⟨f, hff⟩ : ∃ f, fk (val k q) = f := ⟨_, rfl⟩
  have HT : Hid (T (val k q) = .agg #[.int .i64 f, .int .i64 a]) := Lib.hid (by rw [T, hfa, hff])
  rw [hfa, hff] at hT
  rw [hfa] at ha
  clear hfa hff
  have h2 : (2 : Nat) ^ a ≤ 2 ^ 40 := Nat.pow_le_pow_right (by decide) ha
  have hp : 0 < (2 : Nat) ^ a := Nat.pow_pos (by decide)
  obtain ⟨r, hr⟩ : ∃ r : Nat, n % 2 ^ a = r := ⟨(n % 2 ^ a).toNat, (Int.toNat_of_nonneg (Int.emod_nonneg _ (Int.ne_of_gt (Int.pow_pos (by decide))))).symm⟩
  have hrl : (r : Int) < ((2 ^ a : Nat) : Int) := by
    have := Int.emod_lt_of_pos n (b := 2 ^ a) (Int.pow_pos (by decide))
    rw [hr, pow_int] at this
    exact this
  rw [hr] at hT
  have HS := Lib.hid hT
  rw [pow_int] at hr
  have hrem := rem_twice n (2 ^ a) hp
  rw [hr] at hrem
  obtain ⟨m, hm⟩ : ∃ m : Nat, 2 ^ a = m := ⟨_, rfl⟩
  rw [hm] at hrem hrl h2 hp
  clear hr hT
  have hw : wrap64 ((2 : Int) ^ a) = (m : Int) := by rw [pow_int, hm]; unfold wrap64; omega
  have h1 := Int.tmod_lt_of_pos n (b := m) (by omega)
  have h1' := Int.lt_tmod_of_pos n (b := m) (by omega)
  have hq2 : (a : Int) ≤ 40 := by omega
  have hm1 : (m : Int) ≤ 1099511627776 := by omega
  have hm0 : (0 : Int) < m := by omega
  have hmne : ((m : Int) == 0) = false := by apply beq_false_of_ne; omega
  have hwa : IntKind.i64.wrap (n.tmod m + m) = n.tmod m + m := by rw [IntKind.wrap_i64]; omega
  have hrm : (r : Int).tmod m = r := by rw [Int.tmod_eq_emod_of_nonneg (by omega)]; exact Int.emod_eq_of_lt (by omega) hrl
  clear hm h2 hp h1 h1'
  go_enter Tryd.func23, Tryd.ntmps23
  go_wp2_with fail
  refine (form17 k q hq _).mono ?_
  rintro e w1 ⟨rfl, hb⟩
  rw [HT.out]
  obtain ⟨x0, x1, y0, y1⟩ := two (B := w.heap.size + 1) hb (by simp [go_sem]) (by simp [go_sem]) (by simp [go_sem]) (by simp [go_sem])
  have HB1 : Hid (Below w.heap.size w w1) := Lib.hid (((((Below.refl w.heap.size w).alloc (Nat.le_refl _) _).alloc (by simp) _)).trans (hb.mono (by simp; omega)))
  have hz := cell_lt x0
  clear hb
  go_wp2_with fail
  obtain ⟨W0, hW0⟩ : ∃ W0, w1.alloc (.cells #[.int .i64 f, .int .i64 a] 23) = W0 := ⟨_, rfl⟩
  have HB2 : Hid (Below w.heap.size w W0) := Lib.hid (by rw [← hW0]; exact HB1.out.alloc (by omega) _)
  obtain ⟨u0, u1, u2, u3, u4, u5⟩ : W0.cell? ⟨w1.heap.size, 0, none⟩ = some (.int .i64 f) ∧ W0.cell? ⟨w1.heap.size, 1, none⟩ = some (.int .i64 a) ∧ W0.cell? ⟨w.heap.size + 1, 0, none⟩ = some (.int .i64 0) ∧ W0.cell? ⟨w.heap.size + 1, 1, none⟩ = some (.int .i64 0) ∧ W0.frozen? ⟨w.heap.size + 1, 0, none⟩ = false ∧ W0.frozen? ⟨w.heap.size + 1, 1, none⟩ = false := by
    rw [← hW0]; simp [go_sem, x0, x1, y0, y1, hz]
  rw [hW0]
  clear hW0 x0 x1 y0 y1 hz HB1
  have hm2 : ¬ ((m : Int) = 0) := by omega
  have hm3 : ¬ (m = 0) := by omega
  go_still_tail 15, (by kernel_rfl)
  change wpList _ _ _ _ _ (World.drew _)
  clear hwa hrem hrm hm2 hm3
  go_wp2_with fail
  refine (form17 _ a ha _).mono ?_
  rintro e w2 ⟨rfl, hb⟩
  rw [T_congr HS.out]
  obtain ⟨x0, x1, y0, y1⟩ := two (B := w.heap.size + 1) hb (by simp [u2]) (by simp [u3]) (by simp [u4]) (by simp [u5])
  have HB3 : Hid (Below w.heap.size w w2) := Lib.hid (HB2.out.drew.trans (hb.mono HB2.out.size))
  clear hb u0 u1 u2 u3 u4 u5
  go_wp2
  refine bodyPost_ret (v := T (n * val k q)) (by simp [results, Tryd.results23, go_sem, x0, x1]) rfl ⟨rfl, ?_⟩
  exact (HB3.out.setCell (by simp) _).setCell (by simp) _
end Go.Proofs.YtaempngakollpaaDoor
