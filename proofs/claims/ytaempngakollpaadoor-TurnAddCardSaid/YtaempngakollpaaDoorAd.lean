/- Add, Flip, Times of the program. -/
import Derived.Test.YtaempngakollpaaDoorRf
import Derived.Deep.DeepCutAuto
import Derived.Deep.RegionHeld3
namespace Go.Proofs.YtaempngakollpaaDoor
open Go.RowKit Go.Shelf

theorem cell_lt {w : World} {b o : Nat} {v : Value} (h : w.cell? ⟨b, o, none⟩ = some v) : b < w.heap.size := by
  unfold World.cell? at h
  apply Nat.lt_of_not_le
  intro hle
  rw [Array.getElem?_eq_none hle] at h
  cases h
theorem cell_of {W W1 : World} (hb : Below W.heap.size W W1) {b o : Nat} {v : Value} (h : W.cell? ⟨b, o, none⟩ = some v) : W1.cell? ⟨b, o, none⟩ = some v := by
  rw [hb.cell (p := ⟨b, o, none⟩) (cell_lt h), h]
theorem froz_of {W W1 : World} (hb : Below W.heap.size W W1) {b o : Nat} (h : b < W.heap.size) (hf : W.frozen? ⟨b, o, none⟩ = false) : W1.frozen? ⟨b, o, none⟩ = false := by
  rw [hb.frozen (p := ⟨b, o, none⟩) h, hf]

theorem bcell {W w1 : World} (hb : Below W.heap.size W w1) : (∀ b o, b < W.heap.size → w1.cell? ⟨b, o, none⟩ = W.cell? ⟨b, o, none⟩) ∧ (∀ b o, b < W.heap.size → w1.frozen? ⟨b, o, none⟩ = W.frozen? ⟨b, o, none⟩) :=
  ⟨fun b o h => hb.cell (p := ⟨b, o, none⟩) h, fun b o h => hb.frozen (p := ⟨b, o, none⟩) h⟩

theorem T_congr {A B : Int} (h : A % 1099511627776 = B % 1099511627776) : T A = T B := by rw [T, T, fk_congr h, fq_congr h]
theorem Forms.congr {w : World} {A B : Int} {e : Ending} {w' : World} (h : Forms w A e w') (hm : A % 1099511627776 = B % 1099511627776) : Forms w B e w' := ⟨by rw [h.1, T_congr hm], h.2⟩

theorem val_neg (k : Int) (q : Nat) : val (-k) q = - val k q := by unfold val; rw [Int.neg_mul]
/-- whole turns of 2^64 parts -/
theorem val_wrap (z : Int) (q : Nat) : val (wrap64 z) q % 1099511627776 = val z q % 1099511627776 := by
  obtain ⟨c, hc⟩ : ∃ c : Int, wrap64 z = z + c * 18446744073709551616 := by
    unfold wrap64
    exact ⟨-((z + 9223372036854775808) / 18446744073709551616), by omega⟩
  unfold val
  rw [hc, Int.add_mul, show c * 18446744073709551616 * 2 ^ (40 - q) = 1099511627776 * (c * 16777216 * 2 ^ (40 - q)) by rw [show (18446744073709551616 : Int) = 1099511627776 * 16777216 by rfl]; simp only [Int.mul_assoc, Int.mul_left_comm, Int.mul_comm], Int.add_mul_emod_self_left]

set_option maxHeartbeats 1000000 in
theorem flip20 (k : Int) (q : Nat) (hq : q ≤ 40) (h0 : -4611686018427387904 ≤ k) (h1 : k ≤ 4611686018427387904) (w : World) (ht : Tab w) : Calls Tryd.prog 20 #[Ag k q] w (Forms w (- val k q)) := by
  have T0 := Lib.hid ht
  clear ht
  go_enter Tryd.func20, Tryd.ntmps20
  go_wp2_with fail
  refine (form16 _ q hq _ (T0.out.below (((Below.refl _ w).alloc (Nat.le_refl _) _).alloc (by simp) _))).mono ?_
  rintro e w' ⟨rfl, hb⟩
  have c0 := cell_of hb (b := w.heap.size + 1) (o := 0) (v := .int .i64 0) (by simp [go_sem])
  have c1 := cell_of hb (b := w.heap.size + 1) (o := 1) (v := .int .i64 0) (by simp [go_sem])
  have f0 := froz_of hb (b := w.heap.size + 1) (o := 0) (by simp) (by simp [go_sem])
  have f1 := froz_of hb (b := w.heap.size + 1) (o := 1) (by simp) (by simp [go_sem])
  have HB := Lib.hid hb
  clear hb
  rw [val_neg]
  go_wp2
  refine bodyPost_ret (v := T (- val k q)) (by simp [results, Tryd.results20, go_sem, c0, c1]) rfl ⟨rfl, ?_⟩
  exact (((((Below.refl _ w).alloc (Nat.le_refl _) _).alloc (by simp) _).trans (HB.out.mono (by simp; omega))).setCell (by simp) _).setCell (by simp) _

set_option maxHeartbeats 1000000 in
theorem times22 (k : Int) (q : Nat) (hq : q ≤ 40) (n : Int) (w : World) (ht : Tab w) : Calls Tryd.prog 22 #[Ag k q, .int .i64 n] w (Forms w (n * val k q)) := by
  have T0 := Lib.hid ht
  clear ht
  have HM : Hid (val (wrap64 ((fk (val k q) : Int) * n)) (fq (val k q)) % 1099511627776 = (n * val k q) % 1099511627776) := Lib.hid (by
    rw [val_wrap]
    have := val_form_mod (val k q)
    rw [show val ((fk (val k q) : Int) * n) (fq (val k q)) = n * val (fk (val k q)) (fq (val k q)) by unfold val; rw [Int.mul_comm _ n, Int.mul_assoc], Int.mul_emod, this, ← Int.mul_emod])
  go_enter Tryd.func22, Tryd.ntmps22
  go_wp2_with fail
  refine (form16 _ q hq _ (T0.out.below (((Below.refl _ w).alloc (Nat.le_refl _) _).alloc (by simp) _))).mono ?_
  rintro e w' ⟨rfl, hb⟩
  have c0 := cell_of hb (b := w.heap.size + 1) (o := 0) (v := .int .i64 0) (by simp [go_sem])
  have c1 := cell_of hb (b := w.heap.size + 1) (o := 1) (v := .int .i64 0) (by simp [go_sem])
  have f0 := froz_of hb (b := w.heap.size + 1) (o := 0) (by simp) (by simp [go_sem])
  have f1 := froz_of hb (b := w.heap.size + 1) (o := 1) (by simp) (by simp [go_sem])
  have T1 := Lib.hid ((T0.out.below (((Below.refl _ w).alloc (Nat.le_refl _) _).alloc (by simp) _)).below hb)
  have hz : w.heap.size + 1 < w'.heap.size := cell_lt c0
  have HB := Lib.hid hb
  clear hb
  go_wp2_with fail
  refine (form16 _ (fq (val k q)) (fq_le _) _ (T1.out.below ((Below.refl _ w').alloc (Nat.le_refl _) _))).mono ?_
  rintro e w2 ⟨rfl, hb⟩
  rw [T_congr HM.out]
  have c0' := cell_of hb (b := w.heap.size + 1) (o := 0) (v := .int .i64 0) (by simp [go_sem, c0, hz])
  have c1' := cell_of hb (b := w.heap.size + 1) (o := 1) (v := .int .i64 0) (by simp [go_sem, c1, hz])
  have f0' := froz_of hb (b := w.heap.size + 1) (o := 0) (by simp; omega) (by simp [go_sem, f0, hz])
  have f1' := froz_of hb (b := w.heap.size + 1) (o := 1) (by simp; omega) (by simp [go_sem, f1, hz])
  have HB2 := Lib.hid hb
  clear hb c0 c1 f0 f1
  go_wp2
  refine bodyPost_ret (v := T (n * val k q)) (by simp [results, Tryd.results22, go_sem, c0', c1']) rfl ⟨rfl, ?_⟩
  exact (((((((Below.refl _ w).alloc (Nat.le_refl _) _).alloc (by simp) _).trans (HB.out.mono (by simp; omega))).alloc (by omega) _).trans (HB2.out.mono (by simp; omega))).setCell (by simp) _).setCell (by simp) _

theorem val_add (x y : Int) (q : Nat) : val (x + y) q = val x q + val y q := by unfold val; rw [Int.add_mul]
/-- k parts of 2^a are k * 2^(q - a) of 2^q -/
theorem val_shift (k : Int) (a q : Nat) (h : a ≤ q) (hq : q ≤ 40) : val (k * 2 ^ (q - a)) q = val k a := by
  unfold val
  rw [Int.mul_assoc, ← Int.pow_add, show q - a + (40 - q) = 40 - a by omega]

theorem val_nat (k q : Nat) : val (k : Int) q = ((k * 2 ^ (40 - q) : Nat) : Int) := by unfold val; rw [pow_int, Int.natCast_mul]

/-- What lies behind both forms. -/
def AddRel (w : World) (A B : Int) (wx : World) : Prop := Below w.heap.size w wx ∧ wx.frozen? ⟨w.heap.size + 1 + 1, 0, none⟩ = false ∧ wx.frozen? ⟨w.heap.size + 1 + 1, 1, none⟩ = false ∧ wx.cell? ⟨w.heap.size, 0, none⟩ = some (.int .i64 (fk A)) ∧ wx.cell? ⟨w.heap.size, 1, none⟩ = some (.int .i64 (fq A)) ∧ wx.cell? ⟨w.heap.size + 1, 0, none⟩ = some (.int .i64 (fk B)) ∧ wx.cell? ⟨w.heap.size + 1, 1, none⟩ = some (.int .i64 (fq B)) ∧ wx.cell? ⟨w.heap.size + 1 + 1, 0, none⟩ = some (.int .i64 0) ∧ wx.cell? ⟨w.heap.size + 1 + 1, 1, none⟩ = some (.int .i64 0)

theorem add_rel (w w2 : World) (k q l r : Int) (A B : Int) (hb : Below (((w.alloc (.cells #[.int .i64 k, .int .i64 q] 23)).alloc (.cells #[.int .i64 l, .int .i64 r] 23)).alloc (.cells #[.int .i64 0, .int .i64 0] 23)).drew.heap.size (((w.alloc (.cells #[.int .i64 k, .int .i64 q] 23)).alloc (.cells #[.int .i64 l, .int .i64 r] 23)).alloc (.cells #[.int .i64 0, .int .i64 0] 23)).drew w2) :
    AddRel w A B ((((w2.setCell ⟨w.heap.size, 0, none⟩ (.int .i64 (fk A))).setCell ⟨w.heap.size, 1, none⟩ (.int .i64 (fq A))).setCell ⟨w.heap.size + 1, 0, none⟩ (.int .i64 (fk B))).setCell ⟨w.heap.size + 1, 1, none⟩ (.int .i64 (fq B))) := by
  have a0 := cell_of hb (b := w.heap.size) (o := 0) (v := .int .i64 k) (by simp [go_sem])
  have a1 := cell_of hb (b := w.heap.size) (o := 1) (v := .int .i64 q) (by simp [go_sem])
  have b0 := cell_of hb (b := w.heap.size + 1) (o := 0) (v := .int .i64 l) (by simp [go_sem])
  have b1 := cell_of hb (b := w.heap.size + 1) (o := 1) (v := .int .i64 r) (by simp [go_sem])
  have c0 := cell_of hb (b := w.heap.size + 1 + 1) (o := 0) (v := .int .i64 0) (by simp [go_sem])
  have c1 := cell_of hb (b := w.heap.size + 1 + 1) (o := 1) (v := .int .i64 0) (by simp [go_sem])
  have f0 := froz_of hb (b := w.heap.size + 1 + 1) (o := 0) (by simp) (by simp [go_sem])
  have f1 := froz_of hb (b := w.heap.size + 1 + 1) (o := 1) (by simp) (by simp [go_sem])
  have hb2 : Below w.heap.size w w2 := ((((Below.refl _ w).alloc (Nat.le_refl _) _).alloc (by simp) _).alloc (by simp; omega) _).drew.trans (hb.mono (by simp; omega))
  refine ⟨(((hb2.setCell (Nat.le_refl _) _).setCell (Nat.le_refl _) _).setCell (Nat.le_succ _) _).setCell (Nat.le_succ _) _, ?_, ?_, ?_, ?_, ?_, ?_, ?_, ?_⟩ <;> simp [go_sem, a0, a1, b0, b1, c0, c1, f0, f1]

set_option maxHeartbeats 1000000 in
theorem add18 (k l : Int) (q r : Nat) (hq : q ≤ 40) (hr : r ≤ 40) (w : World) (ht : Tab w) : Calls Tryd.prog 18 #[Ag k q, Ag l r] w (Forms w (val k q + val l r)) := by
  have T0 := Lib.hid ht
  clear ht
  have ne1 : ¬ (w.heap.size + 1 = w.heap.size) := by omega
  go_enter Tryd.func18, Tryd.ntmps18
  go_upto_region 1 with fail
  go_cut [] (fun wx => AddRel w (val k q) (val l r) wx)
  case first =>
    have tok1 : True := trivial
    have TW : Hid (Tab (((w.alloc (.cells #[.int .i64 k, .int .i64 q] 23)).alloc (.cells #[.int .i64 l, .int .i64 r] 23)).alloc (.cells #[.int .i64 0, .int .i64 0] 23)).drew) := Lib.hid (T0.out.below ((((Below.refl _ w).alloc (Nat.le_refl _) _).alloc (by simp) _).alloc (by simp; omega) _).drew)
    go_region_with (first
      | (go_at_call 16; have _t := tok1; ((with_reducible refine (form16 _ _ ?_ _ TW.out).mono ?_); (· assumption); rintro e w1 ⟨rfl, hb⟩; have HB1 := Lib.hid hb; obtain ⟨hc1, hf1⟩ := bcell hb; have TX := Lib.hid (TW.out.below hb); have hz1 : w.heap.size < w1.heap.size ∧ w.heap.size + 1 < w1.heap.size ∧ w.heap.size + 1 + 1 < w1.heap.size := (by have := hb.size; simp at this; omega); obtain ⟨hz1a, hz1b, hz1c⟩ := hz1; clear hb tok1))
      | (go_at_call 16; ((with_reducible refine (form16 _ _ ?_ _ TX.out).mono ?_); (· assumption); rintro e w2 ⟨rfl, hb⟩; have HB2 := Lib.hid hb; obtain ⟨hc2, hf2⟩ := bcell hb; have TX := Lib.hid (TX.out.below hb); have hz2 : w.heap.size < w2.heap.size ∧ w.heap.size + 1 < w2.heap.size ∧ w.heap.size + 1 + 1 < w2.heap.size := (by have := hb.size; omega); obtain ⟨hz2a, hz2b, hz2c⟩ := hz2; clear hb)))
    all_goals (go_wp2_with fail; go_meet; exact add_rel w _ k q l r _ _ (HB1.out.trans (HB2.out.mono HB1.out.size)))
  case rest =>
    obtain ⟨hbl, f0, f1, g0, g1, g2, g3, c0, c1⟩ := hcut
    have HB := Lib.hid hbl
    have T1 := Lib.hid (T0.out.below hbl)
    clear hbl
    obtain ⟨k', hk'⟩ : ∃ x, fk (val k q) = x := ⟨_, rfl⟩
    obtain ⟨q', hq'⟩ : ∃ x, fq (val k q) = x := ⟨_, rfl⟩
    obtain ⟨l', hl'⟩ : ∃ x, fk (val l r) = x := ⟨_, rfl⟩
    obtain ⟨r', hr'⟩ : ∃ x, fq (val l r) = x := ⟨_, rfl⟩
    have hq1 := fq_le (val k q)
    have hr1 := fq_le (val l r)
    have hk1 := fk_le (val k q)
    have hl1 := fk_le (val l r)
    have va := val_form_mod (val k q)
    have vb := val_form_mod (val l r)
    --have HT1 : Hid (T (val k q) = Ag k' q') := Lib.hid (by rw [T, hk', hq'])
    --have HT2 : Hid (T (val l r) = Ag l' r') := Lib.hid (by rw [T, hl', hr'])
    rw [hk', hq'] at va
    rw [hl', hr'] at vb
    rw [hq'] at hq1
    rw [hr'] at hr1
    rw [hk'] at hk1
    rw [hl'] at hl1
    have pa : k' * 2 ^ (40 - q') < 1099511627776 := by
      have := val_form (val k q)
      rw [hk', hq'] at this
      have h2 := par_lt (val k q)
      rw [val_nat] at this
      have := Int.ofNat_inj.1 this
      omega
    have pb : l' * 2 ^ (40 - r') < 1099511627776 := by
      have := val_form (val l r)
      rw [hl', hr'] at this
      have h2 := par_lt (val l r)
      rw [val_nat] at this
      have := Int.ofNat_inj.1 this
      omega
    have VA := Lib.hid va
    have VB := Lib.hid vb
    rw [hk'] at g0
    rw [hq'] at g1
    rw [hl'] at g2
    rw [hr'] at g3
    clear va vb hk' hq' hl' hr'
    have hz : w.heap.size + 1 + 1 < wc.heap.size := cell_lt c0
    by_cases hqr : q' < r'
    · obtain ⟨d, hd⟩ : ∃ d : Nat, r' = q' + d := ⟨r' - q', by omega⟩
      obtain ⟨x, hx⟩ : ∃ x : Nat, k' * 2 ^ d = x := ⟨_, rfl⟩
      have hxl : x < 1099511627776 := by
        have h1 : k' * 2 ^ d ≤ k' * 2 ^ (40 - q') := Nat.mul_le_mul_left _ (Nat.pow_le_pow_right (by decide) (by omega))
        omega
      have hxi : (k' : Int) * 2 ^ d = x := by rw [← hx]; push_cast; rfl
      have hw1 : IntKind.i64.wrap ((r' : Int) - q') = (d : Int) := by rw [IntKind.wrap_i64]; omega
      have hw2 : IntKind.i64.wrap 0 = 0 := by decide
      have hw3 : IntKind.i64.wrap ((k' : Int) * 2 ^ d) = x := by rw [hxi, IntKind.wrap_i64]; omega
      have hw4 : IntKind.i64.wrap (l' : Int) = l' := by rw [IntKind.wrap_i64]; omega
      have hw5 : IntKind.i64.wrap ((x : Int) + l') = (x : Int) + l' := by rw [IntKind.wrap_i64]; omega
      have hd1 : (d : Int) ≤ 40 := by omega
      have hd0 : (0 : Int) ≤ d := by omega
      have VS : Hid (val ((x : Int) + l') r' % 1099511627776 = (val k q + val l r) % 1099511627776) := Lib.hid (by
        rw [val_add, ← hxi, show val ((k' : Int) * 2 ^ d) r' = val k' q' by rw [show d = r' - q' by omega]; exact val_shift _ _ _ (by omega) (by omega), Int.add_emod, VA.out, VB.out, ← Int.add_emod])
      clear hd hxi hx
      go_wp2_with fail
      go_still_tail 17, (by kernel_rfl)
      clear hw1 hw2 hw3 hw4 hw5
      change wpList _ _ _ _ _ wc.drew
      go_wp2_with fail
      refine (form16 _ r' (by omega) _ (T1.out.below (Below.refl _ _).drew)).mono ?_
      rintro e w2 ⟨rfl, hb⟩
      rw [T_congr VS.out]
      have c0' := cell_of hb (b := w.heap.size + 1 + 1) (o := 0) (v := .int .i64 0) (by simp [c0])
      have c1' := cell_of hb (b := w.heap.size + 1 + 1) (o := 1) (v := .int .i64 0) (by simp [c1])
      have f0' := froz_of hb (b := w.heap.size + 1 + 1) (o := 0) (by simp; omega) (by simp [f0])
      have f1' := froz_of hb (b := w.heap.size + 1 + 1) (o := 1) (by simp; omega) (by simp [f1])
      have HB2 := Lib.hid hb
      clear hb c0 c1 f0 f1
      go_wp2
      refine bodyPost_ret (v := T (val k q + val l r)) (by simp [results, Tryd.results18, go_sem, c0', c1']) rfl ⟨rfl, ?_⟩
      exact ((HB.out.drew.trans (HB2.out.mono HB.out.size)).setCell (by show _ ≤ _ + 1 + 1; omega) _).setCell (by show _ ≤ _ + 1 + 1; omega) _
    · obtain ⟨d, hd⟩ : ∃ d : Nat, q' = r' + d := ⟨q' - r', by omega⟩
      obtain ⟨x, hx⟩ : ∃ x : Nat, l' * 2 ^ d = x := ⟨_, rfl⟩
      have hxl : x < 1099511627776 := by
        have h1 : l' * 2 ^ d ≤ l' * 2 ^ (40 - r') := Nat.mul_le_mul_left _ (Nat.pow_le_pow_right (by decide) (by omega))
        omega
      have hxi : (l' : Int) * 2 ^ d = x := by rw [← hx]; push_cast; rfl
      have hw1 : IntKind.i64.wrap ((q' : Int) - r') = (d : Int) := by rw [IntKind.wrap_i64]; omega
      have hw2 : IntKind.i64.wrap 0 = 0 := by decide
      have hw3 : IntKind.i64.wrap ((l' : Int) * 2 ^ d) = x := by rw [hxi, IntKind.wrap_i64]; omega
      have hw4 : IntKind.i64.wrap (k' : Int) = k' := by rw [IntKind.wrap_i64]; omega
      have hw5 : IntKind.i64.wrap ((k' : Int) + x) = (k' : Int) + x := by rw [IntKind.wrap_i64]; omega
      have hd1 : (d : Int) ≤ 40 := by omega
      have hd0 : (0 : Int) ≤ d := by omega
      have VS : Hid (val ((k' : Int) + x) q' % 1099511627776 = (val k q + val l r) % 1099511627776) := Lib.hid (by
        rw [val_add, ← hxi, show val ((l' : Int) * 2 ^ d) q' = val l' r' by rw [show d = q' - r' by omega]; exact val_shift _ _ _ (by omega) (by omega), Int.add_emod, VA.out, VB.out, ← Int.add_emod])
      clear hd hxi hx
      go_wp2_with fail
      go_still_tail 17, (by kernel_rfl)
      clear hw1 hw2 hw3 hw4 hw5
      change wpList _ _ _ _ _ wc.drew
      go_wp2_with fail
      refine (form16 _ q' (by omega) _ (T1.out.below (Below.refl _ _).drew)).mono ?_
      rintro e w2 ⟨rfl, hb⟩
      rw [T_congr VS.out]
      have c0' := cell_of hb (b := w.heap.size + 1 + 1) (o := 0) (v := .int .i64 0) (by simp [c0])
      have c1' := cell_of hb (b := w.heap.size + 1 + 1) (o := 1) (v := .int .i64 0) (by simp [c1])
      have f0' := froz_of hb (b := w.heap.size + 1 + 1) (o := 0) (by simp; omega) (by simp [f0])
      have f1' := froz_of hb (b := w.heap.size + 1 + 1) (o := 1) (by simp; omega) (by simp [f1])
      have HB2 := Lib.hid hb
      clear hb c0 c1 f0 f1
      go_wp2
      refine bodyPost_ret (v := T (val k q + val l r)) (by simp [results, Tryd.results18, go_sem, c0', c1']) rfl ⟨rfl, ?_⟩
      exact ((HB.out.drew.trans (HB2.out.mono HB.out.size)).setCell (by show _ ≤ _ + 1 + 1; omega) _).setCell (by show _ ≤ _ + 1 + 1; omega) _
end Go.Proofs.YtaempngakollpaaDoor
