/- The live question of layer 6 is true. Under: the library's table as its initialiser lays it. -/
import Derived.Test.YtaempngakollpaaDoorRt
import Derived.Test.YtaempngakollpaaDoorDet
namespace Go.Proofs.YtaempngakollpaaDoor
open Go.RowKit Go.Shelf

theorem form16i (k q : Int) (n : Nat) (hn : q = n) (hq : n ≤ 40) (v : Value) (hv : T (val k n) = v) (w : World) (ht : Tab w) : Calls Tryd.prog 16 #[Ag k q] w fun e w' => e = .returned v ∧ Below w.heap.size w w' := by
  subst hn; rw [← hv]; exact form16 k n hq w ht
theorem add18i (k q l r : Int) (n m : Nat) (hn : q = n) (hm : r = m) (hq : n ≤ 40) (hr : m ≤ 40) (v : Value) (hv : T (val k n + val l m) = v) (w : World) (ht : Tab w) : Calls Tryd.prog 18 #[Ag k q, Ag l r] w fun e w' => e = .returned v ∧ Below w.heap.size w w' := by
  subst hn; subst hm; rw [← hv]; exact add18 k l n m hq hr w ht
theorem flip20i (k q : Int) (n : Nat) (hn : q = n) (hq : n ≤ 40) (h0 : -4611686018427387904 ≤ k) (h1 : k ≤ 4611686018427387904) (v : Value) (hv : T (- val k n) = v) (w : World) (ht : Tab w) : Calls Tryd.prog 20 #[Ag k q] w fun e w' => e = .returned v ∧ Below w.heap.size w w' := by
  subst hn; rw [← hv]; exact flip20 k n hq h0 h1 w ht
theorem times22i (k q : Int) (n : Nat) (hn : q = n) (hq : n ≤ 40) (t : Int) (v : Value) (hv : T (t * val k n) = v) (w : World) (ht : Tab w) : Calls Tryd.prog 22 #[Ag k q, .int .i64 t] w fun e w' => e = .returned v ∧ Below w.heap.size w w' := by
  subst hn; rw [← hv]; exact times22 k n hq t w ht
theorem split14i (k q : Int) (n : Nat) (hn : q = n) (hq : n ≤ 40) (v : Value) (hv : PT (val k n) = v) (w : World) (ht : Tab w) : Calls Tryd.prog 14 #[Ag k q] w fun e w' => e = .returned v ∧ Below w.heap.size w w' := by
  subst hn; rw [← hv]; exact split14 k n hq w ht
theorem join24i (e k q : Int) (E : Nat) (R : Int) (h1 : e = E) (h2 : k = fk R) (h3 : q = fq R) (hE : E < 8) (v : Value) (hv : T (joined E R) = v) (w : World) (ht : Tab w) : Calls Tryd.prog 24 #[Pt e k q] w fun e w' => e = .returned v ∧ Below w.heap.size w w' := by
  subst h1; subst h2; subst h3; rw [← hv]; exact join24 E hE R w ht
theorem T_lit (A : Int) (k q : Nat) (hk : fk A = k) (hq : fq A = q) (a b : Int) (h1 : a = k) (h2 : b = q) : T A = .agg #[.int .i64 a, .int .i64 b] := by rw [T, hk, hq, h1, h2]

theorem h1 : T (val (-6) 4) = .agg #[.int .i64 5, .int .i64 3] := T_lit _ 5 3 (by decide +kernel) (by decide +kernel) _ _ rfl rfl
theorem h2 : T (val 8 3) = .agg #[.int .i64 0, .int .i64 0] := T_lit _ 0 0 (by decide +kernel) (by decide +kernel) _ _ rfl rfl
theorem h3 : T (val 3 2 + val 3 3) = .agg #[.int .i64 1, .int .i64 3] := T_lit _ 1 3 (by decide +kernel) (by decide +kernel) _ _ rfl rfl
theorem h4 : T (- val 1 2) = .agg #[.int .i64 3, .int .i64 2] := T_lit _ 3 2 (by decide +kernel) (by decide +kernel) _ _ rfl rfl
theorem h5 : T (-3 * val 1 3) = .agg #[.int .i64 5, .int .i64 3] := T_lit _ 5 3 (by decide +kernel) (by decide +kernel) _ _ rfl rfl
theorem h6 : PT (val 3 3) = .agg #[.int .i64 3, .int .i64 1, .int .i64 3] := by
  have e : eig (val 3 3) = 3 := by decide +kernel
  have a : fk (rst (val 3 3)) = 1 := by decide +kernel
  have b : fq (rst (val 3 3)) = 3 := by decide +kernel
  rw [PT, e, a, b]; rfl
theorem h7 : T (joined 3 (rst (val 3 3))) = .agg #[.int .i64 3, .int .i64 3] := T_lit _ 3 3 (by decide +kernel) (by decide +kernel) _ _ rfl rfl
theorem h7k : (1 : Int) = (fk (rst (val 3 3)) : Nat) := by decide +kernel
theorem h7q : (3 : Int) = (fq (rst (val 3 3)) : Nat) := by decide +kernel

theorem partc {W W1 : World} {B : Nat} {a b c : Value} (hb : Below W.heap.size W W1) (h : W.cell? ⟨B, 0, none⟩ = some a ∧ W.cell? ⟨B, 1, none⟩ = some b ∧ W.cell? ⟨B, 2, none⟩ = some c) : W1.cell? ⟨B, 0, none⟩ = some a ∧ W1.cell? ⟨B, 1, none⟩ = some b ∧ W1.cell? ⟨B, 2, none⟩ = some c :=
  ⟨cell_of hb h.1, cell_of hb h.2.1, cell_of hb h.2.2⟩

set_option maxRecDepth 100000 in
set_option maxHeartbeats 2000000 in
theorem l6_head (w : World) (ht : Tab w) : Calls Tryd.prog 9 #[] w (Says w true) := by
  have T0 := Lib.hid ht
  clear ht
  go_enter Tryd.func9, Tryd.ntmps9
  go_wp2_with fail
  refine (split14i 3 3 3 rfl (by decide) _ h6 _ T0.out).mono ?_
  rintro e w1 ⟨rfl, hb⟩
  have T1 := Lib.hid (T0.out.below hb)
  have B1 := Lib.hid hb
  clear hb
  go_wp2_with fail
  refine (place10 5 _).mono ?_
  rintro e w2 ⟨rfl, hb⟩
  rw [show p1 5 = true from rfl, show p2 5 = true from rfl, show p3 5 = true from rfl]
  have hb' : Below w1.heap.size w1 w2 := ((Below.refl _ w1).alloc (Nat.le_refl _) _).trans (hb.mono (by simp))
  have T2 := Lib.hid (T1.out.below hb')
  have B2 := Lib.hid (B1.out.trans (hb'.mono B1.out.size))
  have C2 := Lib.hid (partc (B := w1.heap.size) (a := .int .i64 3) (b := .int .i64 1) (c := .int .i64 3) hb (by simp [go_sem]))
  clear hb hb'
  go_wp2_with fail
  refine (form16i (-6) 4 4 rfl (by decide) _ h1 _ T2.out).mono ?_
  rintro e w3 ⟨rfl, hb⟩
  have T3 := Lib.hid (T2.out.below hb)
  have B3 := Lib.hid (B2.out.trans (hb.mono B2.out.size))
  have C3 := Lib.hid (partc hb C2.out)
  clear hb
  go_wp2_with fail
  refine (form16i 8 3 3 rfl (by decide) _ h2 _ T3.out).mono ?_
  rintro e w4 ⟨rfl, hb⟩
  have T4 := Lib.hid (T3.out.below hb)
  have B4 := Lib.hid (B3.out.trans (hb.mono B3.out.size))
  have C4 := Lib.hid (partc hb C3.out)
  clear hb
  go_wp2_with fail
  refine (add18i 3 2 3 3 2 3 rfl rfl (by decide) (by decide) _ h3 _ T4.out).mono ?_
  rintro e w5 ⟨rfl, hb⟩
  have T5 := Lib.hid (T4.out.below hb)
  have B5 := Lib.hid (B4.out.trans (hb.mono B4.out.size))
  have C5 := Lib.hid (partc hb C4.out)
  clear hb
  go_wp2_with fail
  refine (flip20i 1 2 2 rfl (by decide) (by decide) (by decide) _ h4 _ T5.out).mono ?_
  rintro e w6 ⟨rfl, hb⟩
  have T6 := Lib.hid (T5.out.below hb)
  have B6 := Lib.hid (B5.out.trans (hb.mono B5.out.size))
  have C6 := Lib.hid (partc hb C5.out)
  clear hb
  go_wp2_with fail
  refine (times22i 1 3 3 rfl (by decide) (-3) _ h5 _ T6.out).mono ?_
  rintro e w7 ⟨rfl, hb⟩
  have T7 := Lib.hid (T6.out.below hb)
  have B7 := Lib.hid (B6.out.trans (hb.mono B6.out.size))
  have C7 := Lib.hid (partc hb C6.out)
  clear hb
  obtain ⟨c0, c1, c2⟩ := C7.out
  go_wp2_with fail
  refine (join24i 3 1 3 3 (rst (val 3 3)) rfl h7k h7q (by decide) _ h7 _ T7.out).mono ?_
  rintro e w8 ⟨rfl, hb⟩
  have T8 := Lib.hid (T7.out.below hb)
  have B8 := Lib.hid (B7.out.trans (hb.mono B7.out.size))
  have C8 := Lib.hid (partc hb C7.out)
  clear hb
  go_wp2_with fail
  refine (right12 0 40 _).mono ?_
  rintro e w9 ⟨rfl, hb⟩
  rw [show isR 0 40 = true by decide]
  have T9 := Lib.hid (T8.out.below hb)
  have B9 := Lib.hid (B8.out.trans (hb.mono B8.out.size))
  have C9 := Lib.hid (partc hb C8.out)
  clear hb
  go_wp2_with fail
  refine (right12 0 41 _).mono ?_
  rintro e w10 ⟨rfl, hb⟩
  rw [show isR 0 41 = false by decide]
  have T10 := Lib.hid (T9.out.below hb)
  have B10 := Lib.hid (B9.out.trans (hb.mono B9.out.size))
  have C10 := Lib.hid (partc hb C9.out)
  clear hb
  go_wp2
  go_ret
  exact ⟨rfl, B10.out⟩
end Go.Proofs.YtaempngakollpaaDoor
