/- Join, Place, Right of the program. -/
import Derived.Test.YtaempngakollpaaDoorSp
namespace Go.Proofs.YtaempngakollpaaDoor
open Go.RowKit Go.Shelf

theorem two {W W1 : World} {B : Nat} (hb : Below W.heap.size W W1) (c0 : W.cell? ⟨B, 0, none⟩ = some (.int .i64 0)) (c1 : W.cell? ⟨B, 1, none⟩ = some (.int .i64 0)) (f0 : W.frozen? ⟨B, 0, none⟩ = false) (f1 : W.frozen? ⟨B, 1, none⟩ = false) :
    W1.cell? ⟨B, 0, none⟩ = some (.int .i64 0) ∧ W1.cell? ⟨B, 1, none⟩ = some (.int .i64 0) ∧ W1.frozen? ⟨B, 0, none⟩ = false ∧ W1.frozen? ⟨B, 1, none⟩ = false :=
  ⟨cell_of hb c0, cell_of hb c1, froz_of hb (cell_lt c0) f0, froz_of hb (cell_lt c0) f1⟩

def joined (e : Nat) (R : Int) : Int := if e % 2 = 0 then e * 137438953472 + R else (e + 1) * 137438953472 - R
theorem joined_of (A : Int) : joined (eig A) (rst A) % 1099511627776 = A % 1099511627776 := by
  unfold joined rst
  split <;> · congr 1; omega

theorem bits_andNot (e : Nat) (h : e < 8) : Go.bits .andNot .i64 ((e : Int) + 1) 1 = ((e + 1) / 2 * 2 : Nat) := by
  have : ∀ x : Nat, x < 8 → Go.bits .andNot .i64 ((x : Int) + 1) 1 = ((x + 1) / 2 * 2 : Nat) := by decide +kernel
  exact this e h

theorem add18_3' (k l : Int) (r : Nat) (hr : r ≤ 40) (A : Int) (w : World) (ht : Tab w) (h : (val k 3 + val l r) % 1099511627776 = A % 1099511627776) : Calls Tryd.prog 18 #[Ag k 3, Ag l r] w (Forms w A) :=
  (add18_3 k l r hr w ht).mono fun _ _ hf => hf.congr h

set_option maxHeartbeats 2000000 in
theorem join_even (e : Nat) (he : e < 8) (h2 : e % 2 = 0) (R : Int) (w : World) (ht : Tab w) : Calls Tryd.prog 24 #[Pt e (fk R) (fq R)] w (Forms w (joined e R)) := by
  have hbo := bits_one e he
  have hba := bits_andNot e he
  rw [h2] at hbo
  rw [show (e + 1) / 2 * 2 = e by omega] at hba
  have he8 : (e : Int) < 8 := by omega
  have HR : Hid ((val e 3 + val (fk R) (fq R)) % 1099511627776 = joined e R % 1099511627776) := Lib.hid (by
    rw [Int.add_emod, val_form_mod, ← Int.add_emod, val3]; unfold joined; rw [if_pos h2])
  have T0 := Lib.hid ht
  clear ht h2
  obtain ⟨k, hk⟩ : ∃ k, fk R = k := ⟨_, rfl⟩
  obtain ⟨q, hq⟩ : ∃ q, fq R = q := ⟨_, rfl⟩
  have hq40 := fq_le R
  rw [hk, hq] at HR
  rw [hq] at hq40
  rw [hk, hq]
  clear hk hq
  go_enter Tryd.func24, Tryd.ntmps24
  go_wp2_with fail
  refine (add18_3' _ _ q hq40 (joined e R) _ (T0.out.below ((((Below.refl _ w).alloc (Nat.le_refl _) _).alloc (by simp) _).alloc (by simp; omega) _)) HR.out).mono ?_
  rintro e' w1 ⟨rfl, hb⟩
  have x0 := cell_of hb (b := w.heap.size + 1) (o := 0) (v := .int .i64 0) (by simp [go_sem])
  have x1 := cell_of hb (b := w.heap.size + 1) (o := 1) (v := .int .i64 0) (by simp [go_sem])
  have y0 := froz_of hb (b := w.heap.size + 1) (o := 0) (by simp) (by simp [go_sem])
  have y1 := froz_of hb (b := w.heap.size + 1) (o := 1) (by simp) (by simp [go_sem])
  have HB := Lib.hid hb
  clear hb
  go_wp2
  refine bodyPost_ret (v := T (joined e R)) (by simp [results, Tryd.results24, go_sem, x0, x1]) rfl ⟨rfl, ?_⟩
  exact ((((((Below.refl _ w).alloc (Nat.le_refl _) _).alloc (by simp) _).alloc (by simp; omega) _).trans (HB.out.mono (by simp; omega))).setCell (by simp) _).setCell (by simp) _

set_option maxHeartbeats 2000000 in
theorem join_odd (e : Nat) (he : e < 8) (h2 : e % 2 = 1) (R : Int) (w : World) (ht : Tab w) : Calls Tryd.prog 24 #[Pt e (fk R) (fq R)] w (Forms w (joined e R)) := by
  have hbo := bits_one e he
  have hba := bits_andNot e he
  rw [h2] at hbo
  have hba' : Go.bits .andNot .i64 ((e : Int) + 1) 1 = (e : Int) + 1 := by rw [hba]; omega
  have he8 : (e : Int) < 8 := by omega
  have hfr := val_form_mod R
  have hk40 := fk_le R
  have hq40 := fq_le R
  obtain ⟨k, hk⟩ : ∃ k, fk R = k := ⟨_, rfl⟩
  obtain ⟨q, hq⟩ : ∃ q, fq R = q := ⟨_, rfl⟩
  rw [hk, hq] at hfr
  rw [hq] at hq40
  rw [hk] at hk40
  rw [hk, hq]
  have HR : Hid ((val ((e : Int) + 1) 3 + val (fk (- val k q)) (fq (- val k q))) % 1099511627776 = joined e R % 1099511627776) := Lib.hid (by
    have h3 := val_form_mod (- val k q)
    rw [Int.add_emod, h3, ← Int.add_emod, val3]; unfold joined; rw [if_neg (by omega)]
    omega)
  have T0 := Lib.hid ht
  clear ht h2 hba hk hq hfr
  go_enter Tryd.func24, Tryd.ntmps24
  go_wp2_with fail
  have TX := Lib.hid (T0.out.below ((((Below.refl _ w).alloc (Nat.le_refl _) (.cells #[.int .i64 e, .int .i64 k, .int .i64 q] 29)).alloc (by simp) (.cells #[.int .i64 0, .int .i64 0] 23)).alloc (by simp; omega) (.cells #[.int .i64 k, .int .i64 q] 23)))
  refine (flip20 _ q hq40 (by omega) (by omega) _ TX.out).mono ?_
  rintro e' w1 ⟨rfl, hb⟩
  obtain ⟨x0, x1, y0, y1⟩ := two (B := w.heap.size + 1) hb (by simp [go_sem]) (by simp [go_sem]) (by simp [go_sem]) (by simp [go_sem])
  have z0 := cell_of hb (b := w.heap.size) (o := 0) (v := .int .i64 e) (by simp [go_sem])
  have u0 := cell_of hb (b := w.heap.size + 1 + 1) (o := 0) (v := .int .i64 k) (by simp [go_sem])
  have u1 := cell_of hb (b := w.heap.size + 1 + 1) (o := 1) (v := .int .i64 q) (by simp [go_sem])
  have v0 := froz_of hb (b := w.heap.size + 1 + 1) (o := 0) (by simp) (by simp [go_sem])
  have v1 := froz_of hb (b := w.heap.size + 1 + 1) (o := 1) (by simp) (by simp [go_sem])
  have TX1 := Lib.hid (TX.out.below hb)
  have HB : Hid (Below w.heap.size w w1) := Lib.hid (((((Below.refl _ w).alloc (Nat.le_refl _) _).alloc (by simp) _).alloc (by simp; omega) _).trans (hb.mono (by simp; omega)))
  clear hb
  go_wp2_with fail
  refine (add18_3' _ _ _ (fq_le _) (joined e R) _ (T0.out.below ((HB.out.setCell (by simp; omega) _).setCell (by simp; omega) _)) HR.out).mono ?_
  rintro e' w2 ⟨rfl, hb⟩
  obtain ⟨x0', x1', y0', y1'⟩ := two (B := w.heap.size + 1) hb (by simp [go_sem, x0]) (by simp [go_sem, x1]) (by simp [go_sem, y0]) (by simp [go_sem, y1])
  have HB2 := Lib.hid hb
  clear hb x0 x1 y0 y1
  go_wp2
  refine bodyPost_ret (v := T (joined e R)) (by simp [results, Tryd.results24, go_sem, x0', x1']) rfl ⟨rfl, ?_⟩
  have hs : w.heap.size ≤ w1.heap.size := HB.out.size
  exact ((((HB.out.setCell (by simp; omega) _).setCell (by simp; omega) _).trans (HB2.out.mono (by simpa using hs))).setCell (by simp) _).setCell (by simp) _

theorem join24 (e : Nat) (he : e < 8) (R : Int) (w : World) (ht : Tab w) : Calls Tryd.prog 24 #[Pt e (fk R) (fq R)] w (Forms w (joined e R)) := by
  by_cases h : e % 2 = 0
  · exact join_even e he h R w ht
  · exact join_odd e he (by omega) R w ht

/-- what an eighth means -/
def p1 (e : Int) : Bool := e == 1 || e == 2 || e == 5 || e == 6
def p2 (e : Int) : Bool := e == 2 || e == 3 || e == 4 || e == 5
def p3 (e : Int) : Bool := e == 4 || e == 5 || e == 6 || e == 7
def Places (w : World) (e : Int) (a : Ending) (w' : World) : Prop := a = .returned (.tuple #[.bool (p1 e), .bool (p2 e), .bool (p3 e)]) ∧ Below w.heap.size w w'

theorem p_out (e : Int) (h : e < 0 ∨ 7 < e) : p1 e = false ∧ p2 e = false ∧ p3 e = false := by
  have hn : ∀ x : Int, 0 ≤ x → x ≤ 7 → (e == x) = false := fun x h0 h1 => by apply beq_false_of_ne; omega
  unfold p1 p2 p3
  simp [hn 1, hn 2, hn 3, hn 4, hn 5, hn 6, hn 7]

theorem below_drewN {B : Nat} {a w : World} (h : Below B a w) (n : Nat) : Below B a (w.drewN n) := ⟨h.os, h.tape, h.output, h.size, h.block⟩
theorem place10_out (e : Int) (h : e < 0 ∨ 7 < e) (w : World) : Calls Tryd.prog 10 #[.int .i64 e] w (Places w e) := by
  obtain ⟨h1, h2, h3⟩ := p_out e h
  have HH := Lib.hid (show Places w e (.returned (.tuple #[.bool false, .bool false, .bool false])) w from ⟨by rw [h1, h2, h3], Below.refl _ _⟩)
  clear h1 h2 h3
  rcases h with h | h
  all_goals
    go_enter Tryd.func10, Tryd.ntmps10
    go_wp2
    exact bodyPost_ret (v := .tuple #[.bool false, .bool false, .bool false]) (by simp [results, Tryd.results10, go_sem]) rfl HH.out
theorem idx_0 (w : World) : (Instr.index 39 (.agg #[.bool false, .bool false, .bool false, .bool true, .bool false, .bool false, .bool true, .bool true, .bool false, .bool false, .bool true, .bool false, .bool false, .bool true, .bool true, .bool true, .bool true, .bool true, .bool true, .bool false, .bool true, .bool false, .bool false, .bool true]) (.int .i64 0)).run Tryd.prog w = .ok (.agg #[.bool false, .bool false, .bool false]) w := by kernel_rfl
theorem idx_1 (w : World) : (Instr.index 39 (.agg #[.bool false, .bool false, .bool false, .bool true, .bool false, .bool false, .bool true, .bool true, .bool false, .bool false, .bool true, .bool false, .bool false, .bool true, .bool true, .bool true, .bool true, .bool true, .bool true, .bool false, .bool true, .bool false, .bool false, .bool true]) (.int .i64 1)).run Tryd.prog w = .ok (.agg #[.bool true, .bool false, .bool false]) w := by kernel_rfl
theorem idx_2 (w : World) : (Instr.index 39 (.agg #[.bool false, .bool false, .bool false, .bool true, .bool false, .bool false, .bool true, .bool true, .bool false, .bool false, .bool true, .bool false, .bool false, .bool true, .bool true, .bool true, .bool true, .bool true, .bool true, .bool false, .bool true, .bool false, .bool false, .bool true]) (.int .i64 2)).run Tryd.prog w = .ok (.agg #[.bool true, .bool true, .bool false]) w := by kernel_rfl
theorem idx_3 (w : World) : (Instr.index 39 (.agg #[.bool false, .bool false, .bool false, .bool true, .bool false, .bool false, .bool true, .bool true, .bool false, .bool false, .bool true, .bool false, .bool false, .bool true, .bool true, .bool true, .bool true, .bool true, .bool true, .bool false, .bool true, .bool false, .bool false, .bool true]) (.int .i64 3)).run Tryd.prog w = .ok (.agg #[.bool false, .bool true, .bool false]) w := by kernel_rfl
theorem idx_4 (w : World) : (Instr.index 39 (.agg #[.bool false, .bool false, .bool false, .bool true, .bool false, .bool false, .bool true, .bool true, .bool false, .bool false, .bool true, .bool false, .bool false, .bool true, .bool true, .bool true, .bool true, .bool true, .bool true, .bool false, .bool true, .bool false, .bool false, .bool true]) (.int .i64 4)).run Tryd.prog w = .ok (.agg #[.bool false, .bool true, .bool true]) w := by kernel_rfl
theorem idx_5 (w : World) : (Instr.index 39 (.agg #[.bool false, .bool false, .bool false, .bool true, .bool false, .bool false, .bool true, .bool true, .bool false, .bool false, .bool true, .bool false, .bool false, .bool true, .bool true, .bool true, .bool true, .bool true, .bool true, .bool false, .bool true, .bool false, .bool false, .bool true]) (.int .i64 5)).run Tryd.prog w = .ok (.agg #[.bool true, .bool true, .bool true]) w := by kernel_rfl
theorem idx_6 (w : World) : (Instr.index 39 (.agg #[.bool false, .bool false, .bool false, .bool true, .bool false, .bool false, .bool true, .bool true, .bool false, .bool false, .bool true, .bool false, .bool false, .bool true, .bool true, .bool true, .bool true, .bool true, .bool true, .bool false, .bool true, .bool false, .bool false, .bool true]) (.int .i64 6)).run Tryd.prog w = .ok (.agg #[.bool true, .bool false, .bool true]) w := by kernel_rfl
theorem idx_7 (w : World) : (Instr.index 39 (.agg #[.bool false, .bool false, .bool false, .bool true, .bool false, .bool false, .bool true, .bool true, .bool false, .bool false, .bool true, .bool false, .bool false, .bool true, .bool true, .bool true, .bool true, .bool true, .bool true, .bool false, .bool true, .bool false, .bool false, .bool true]) (.int .i64 7)).run Tryd.prog w = .ok (.agg #[.bool false, .bool false, .bool true]) w := by kernel_rfl
set_option maxHeartbeats 1000000 in
theorem place10_0 (w : World) : Calls Tryd.prog 10 #[.int .i64 0] w (Places w 0) := by
  have hidx := idx_0
  have HH : Hid (∀ w', Below w.heap.size w w' → Places w 0 (.returned (.tuple #[.bool false, .bool false, .bool false])) w') := Lib.hid (fun w' h => ⟨rfl, h⟩)
  go_enter Tryd.func10, Tryd.ntmps10
  go_wp2_with (simp only [hidx])
  go_quiet (fail)
  go_wp2
  exact bodyPost_ret (v := .tuple #[.bool false, .bool false, .bool false]) (by simp [results, Tryd.results10, go_sem]) rfl (HH.out _ (below_drewN ((Below.refl _ w).alloc (Nat.le_refl _) _) _))
set_option maxHeartbeats 1000000 in
theorem place10_1 (w : World) : Calls Tryd.prog 10 #[.int .i64 1] w (Places w 1) := by
  have hidx := idx_1
  have HH : Hid (∀ w', Below w.heap.size w w' → Places w 1 (.returned (.tuple #[.bool true, .bool false, .bool false])) w') := Lib.hid (fun w' h => ⟨rfl, h⟩)
  go_enter Tryd.func10, Tryd.ntmps10
  go_wp2_with (simp only [hidx])
  go_quiet (fail)
  go_wp2
  exact bodyPost_ret (v := .tuple #[.bool true, .bool false, .bool false]) (by simp [results, Tryd.results10, go_sem]) rfl (HH.out _ (below_drewN ((Below.refl _ w).alloc (Nat.le_refl _) _) _))
set_option maxHeartbeats 1000000 in
theorem place10_2 (w : World) : Calls Tryd.prog 10 #[.int .i64 2] w (Places w 2) := by
  have hidx := idx_2
  have HH : Hid (∀ w', Below w.heap.size w w' → Places w 2 (.returned (.tuple #[.bool true, .bool true, .bool false])) w') := Lib.hid (fun w' h => ⟨rfl, h⟩)
  go_enter Tryd.func10, Tryd.ntmps10
  go_wp2_with (simp only [hidx])
  go_quiet (fail)
  go_wp2
  exact bodyPost_ret (v := .tuple #[.bool true, .bool true, .bool false]) (by simp [results, Tryd.results10, go_sem]) rfl (HH.out _ (below_drewN ((Below.refl _ w).alloc (Nat.le_refl _) _) _))
set_option maxHeartbeats 1000000 in
theorem place10_3 (w : World) : Calls Tryd.prog 10 #[.int .i64 3] w (Places w 3) := by
  have hidx := idx_3
  have HH : Hid (∀ w', Below w.heap.size w w' → Places w 3 (.returned (.tuple #[.bool false, .bool true, .bool false])) w') := Lib.hid (fun w' h => ⟨rfl, h⟩)
  go_enter Tryd.func10, Tryd.ntmps10
  go_wp2_with (simp only [hidx])
  go_quiet (fail)
  go_wp2
  exact bodyPost_ret (v := .tuple #[.bool false, .bool true, .bool false]) (by simp [results, Tryd.results10, go_sem]) rfl (HH.out _ (below_drewN ((Below.refl _ w).alloc (Nat.le_refl _) _) _))
set_option maxHeartbeats 1000000 in
theorem place10_4 (w : World) : Calls Tryd.prog 10 #[.int .i64 4] w (Places w 4) := by
  have hidx := idx_4
  have HH : Hid (∀ w', Below w.heap.size w w' → Places w 4 (.returned (.tuple #[.bool false, .bool true, .bool true])) w') := Lib.hid (fun w' h => ⟨rfl, h⟩)
  go_enter Tryd.func10, Tryd.ntmps10
  go_wp2_with (simp only [hidx])
  go_quiet (fail)
  go_wp2
  exact bodyPost_ret (v := .tuple #[.bool false, .bool true, .bool true]) (by simp [results, Tryd.results10, go_sem]) rfl (HH.out _ (below_drewN ((Below.refl _ w).alloc (Nat.le_refl _) _) _))
set_option maxHeartbeats 1000000 in
theorem place10_5 (w : World) : Calls Tryd.prog 10 #[.int .i64 5] w (Places w 5) := by
  have hidx := idx_5
  have HH : Hid (∀ w', Below w.heap.size w w' → Places w 5 (.returned (.tuple #[.bool true, .bool true, .bool true])) w') := Lib.hid (fun w' h => ⟨rfl, h⟩)
  go_enter Tryd.func10, Tryd.ntmps10
  go_wp2_with (simp only [hidx])
  go_quiet (fail)
  go_wp2
  exact bodyPost_ret (v := .tuple #[.bool true, .bool true, .bool true]) (by simp [results, Tryd.results10, go_sem]) rfl (HH.out _ (below_drewN ((Below.refl _ w).alloc (Nat.le_refl _) _) _))
set_option maxHeartbeats 1000000 in
theorem place10_6 (w : World) : Calls Tryd.prog 10 #[.int .i64 6] w (Places w 6) := by
  have hidx := idx_6
  have HH : Hid (∀ w', Below w.heap.size w w' → Places w 6 (.returned (.tuple #[.bool true, .bool false, .bool true])) w') := Lib.hid (fun w' h => ⟨rfl, h⟩)
  go_enter Tryd.func10, Tryd.ntmps10
  go_wp2_with (simp only [hidx])
  go_quiet (fail)
  go_wp2
  exact bodyPost_ret (v := .tuple #[.bool true, .bool false, .bool true]) (by simp [results, Tryd.results10, go_sem]) rfl (HH.out _ (below_drewN ((Below.refl _ w).alloc (Nat.le_refl _) _) _))
set_option maxHeartbeats 1000000 in
theorem place10_7 (w : World) : Calls Tryd.prog 10 #[.int .i64 7] w (Places w 7) := by
  have hidx := idx_7
  have HH : Hid (∀ w', Below w.heap.size w w' → Places w 7 (.returned (.tuple #[.bool false, .bool false, .bool true])) w') := Lib.hid (fun w' h => ⟨rfl, h⟩)
  go_enter Tryd.func10, Tryd.ntmps10
  go_wp2_with (simp only [hidx])
  go_quiet (fail)
  go_wp2
  exact bodyPost_ret (v := .tuple #[.bool false, .bool false, .bool true]) (by simp [results, Tryd.results10, go_sem]) rfl (HH.out _ (below_drewN ((Below.refl _ w).alloc (Nat.le_refl _) _) _))
theorem place10 (e : Int) (w : World) : Calls Tryd.prog 10 #[.int .i64 e] w (Places w e) := by
  by_cases h : e < 0 ∨ 7 < e
  · exact place10_out e h w
  · have : e = 0 ∨ e = 1 ∨ e = 2 ∨ e = 3 ∨ e = 4 ∨ e = 5 ∨ e = 6 ∨ e = 7 := by omega
    rcases this with rfl | rfl | rfl | rfl | rfl | rfl | rfl | rfl
    · exact place10_0 w
    · exact place10_1 w
    · exact place10_2 w
    · exact place10_3 w
    · exact place10_4 w
    · exact place10_5 w
    · exact place10_6 w
    · exact place10_7 w
end Go.Proofs.YtaempngakollpaaDoor
