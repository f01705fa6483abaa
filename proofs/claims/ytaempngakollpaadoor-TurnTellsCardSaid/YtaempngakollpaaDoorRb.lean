/- Add of the reference. -/
import Derived.Test.YtaempngakollpaaDoorRa
namespace Go.Proofs.YtaempngakollpaaDoor
open Go.RowKit Go.Shelf

theorem add_sum (A B : Int) (q : Nat) (ha : fq A ≤ q) (hb : fq B ≤ q) (hq : q ≤ 40) : val ((prt A q : Int) + prt B q) q % 1099511627776 = (A + B) % 1099511627776 := by
  rw [val_add, prt_val A q ha hq, prt_val B q hb hq, par_int, par_int, ← Int.add_emod]

set_option maxHeartbeats 4000000 in
theorem add19 (k l : Int) (q r : Nat) (hq : q ≤ 40) (hr : r ≤ 40) (w : World) : Calls Tryd.prog 19 #[Ag k q, Ag l r] w (Forms w (val k q + val l r)) := by
  obtain ⟨m, hm, hqm, hrm, hmx⟩ : ∃ m, m ≤ 40 ∧ q ≤ m ∧ r ≤ m ∧ ((q < r ∧ m = r) ∨ (¬ q < r ∧ m = q)) := by
    by_cases h : q < r
    · exact ⟨r, hr, by omega, by omega, .inl ⟨h, rfl⟩⟩
    · exact ⟨q, hq, by omega, by omega, .inr ⟨h, rfl⟩⟩
  have hs := add_sum (val k q) (val l r) m (Nat.le_trans (fq_val k q (by omega)) hqm) (Nat.le_trans (fq_val l r (by omega)) hrm) hm
  have hl1 := prt_le (val k q) m
  have hl2 := prt_le (val l r) m
  have P1 := Lib.hid (parts26 k q m hqm hm)
  have P2 := Lib.hid (parts26 l r m hrm hm)
  obtain ⟨x, hx⟩ : ∃ x, prt (val k q) m = x := ⟨_, rfl⟩
  obtain ⟨y, hy⟩ : ∃ y, prt (val l r) m = y := ⟨_, rfl⟩
  rw [hx] at hs hl1 P1
  rw [hy] at hs hl2 P2
  have HS := Lib.hid hs
  clear hs hx hy
  have hw1 : IntKind.i64.wrap ((x : Int) + y) = (x : Int) + y := by rw [IntKind.wrap_i64]; omega
  rcases hmx with ⟨h1, rfl⟩ | ⟨h1, rfl⟩
  · go_enter Tryd.func19, Tryd.ntmps19
    go_wp2_with fail
    obtain ⟨W0, hW0⟩ : ∃ W0, ((w.alloc (.cells #[.int .i64 k, .int .i64 q] 23)).alloc (.cells #[.int .i64 l, .int .i64 m] 23)).alloc (.cells #[.int .i64 0, .int .i64 0] 23) = W0 := ⟨_, rfl⟩
    have HB0 : Hid (Below w.heap.size w W0.drew) := by rw [← hW0]; exact Lib.hid ((((Below.refl w.heap.size w).alloc (Nat.le_refl _) _).alloc (by simp) _).alloc (by simp; omega) _).drew
    obtain ⟨z0, z1, u0, u1, x0, x1⟩ : W0.drew.cell? ⟨w.heap.size, 0, none⟩ = some (.int .i64 k) ∧ W0.drew.cell? ⟨w.heap.size, 1, none⟩ = some (.int .i64 q) ∧ W0.drew.cell? ⟨w.heap.size + 1, 0, none⟩ = some (.int .i64 l) ∧ W0.drew.cell? ⟨w.heap.size + 1, 1, none⟩ = some (.int .i64 m) ∧ W0.drew.cell? ⟨w.heap.size + 1 + 1, 0, none⟩ = some (.int .i64 0) ∧ W0.drew.cell? ⟨w.heap.size + 1 + 1, 1, none⟩ = some (.int .i64 0) := by
      rw [← hW0]; simp [go_sem]
    obtain ⟨y0, y1⟩ : W0.drew.frozen? ⟨w.heap.size + 1 + 1, 0, none⟩ = false ∧ W0.drew.frozen? ⟨w.heap.size + 1 + 1, 1, none⟩ = false := by
      rw [← hW0]; simp [go_sem]
    obtain ⟨zz0, zz1, uu0, uu1⟩ : W0.cell? ⟨w.heap.size, 0, none⟩ = some (.int .i64 k) ∧ W0.cell? ⟨w.heap.size, 1, none⟩ = some (.int .i64 q) ∧ W0.cell? ⟨w.heap.size + 1, 0, none⟩ = some (.int .i64 l) ∧ W0.cell? ⟨w.heap.size + 1, 1, none⟩ = some (.int .i64 m) := by
      rw [← hW0]; simp [go_sem]
    rw [hW0]
    clear hW0
    have tok1 : True := trivial
    go_region_with (first
      | (go_at_call 26; have _t := tok1; ((with_reducible refine (P1.out _).mono ?_); rintro e w1 ⟨rfl, hb⟩; have HB1 := Lib.hid (HB0.out.trans (hb.mono HB0.out.size)); obtain ⟨a0, a1, a2, a3⟩ := two hb x0 x1 y0 y1; clear x0 x1 y0 y1; obtain ⟨x0, x1, y0, y1⟩ : _ ∧ _ ∧ _ ∧ _ := ⟨a0, a1, a2, a3⟩; clear a0 a1 a2 a3; have b0 := cell_of hb z0; have b1 := cell_of hb z1; have b2 := cell_of hb u0; have b3 := cell_of hb u1; clear z0 z1 u0 u1; obtain ⟨z0, z1, u0, u1⟩ : _ ∧ _ ∧ _ ∧ _ := ⟨b0, b1, b2, b3⟩; clear b0 b1 b2 b3; clear hb tok1))
      | (go_at_call 26; have _t := tok1; ((with_reducible refine (P2.out _).mono ?_); rintro e w1 ⟨rfl, hb⟩; have HB1 := Lib.hid (HB0.out.trans (hb.mono HB0.out.size)); obtain ⟨a0, a1, a2, a3⟩ := two hb x0 x1 y0 y1; clear x0 x1 y0 y1; obtain ⟨x0, x1, y0, y1⟩ : _ ∧ _ ∧ _ ∧ _ := ⟨a0, a1, a2, a3⟩; clear a0 a1 a2 a3; have b0 := cell_of hb z0; have b1 := cell_of hb z1; have b2 := cell_of hb u0; have b3 := cell_of hb u1; clear z0 z1 u0 u1; obtain ⟨z0, z1, u0, u1⟩ : _ ∧ _ ∧ _ ∧ _ := ⟨b0, b1, b2, b3⟩; clear b0 b1 b2 b3; clear hb tok1))
      | (go_at_call 26; ((with_reducible refine (P1.out _).mono ?_); rintro e w2 ⟨rfl, hb⟩; have HB2 := Lib.hid (HB1.out.trans (hb.mono HB1.out.size)); obtain ⟨a0, a1, a2, a3⟩ := two hb x0 x1 y0 y1; clear x0 x1 y0 y1; obtain ⟨x0, x1, y0, y1⟩ : _ ∧ _ ∧ _ ∧ _ := ⟨a0, a1, a2, a3⟩; clear a0 a1 a2 a3; have b0 := cell_of hb z0; have b1 := cell_of hb z1; have b2 := cell_of hb u0; have b3 := cell_of hb u1; clear z0 z1 u0 u1; obtain ⟨z0, z1, u0, u1⟩ : _ ∧ _ ∧ _ ∧ _ := ⟨b0, b1, b2, b3⟩; clear b0 b1 b2 b3; clear hb))
      | (go_at_call 26; ((with_reducible refine (P2.out _).mono ?_); rintro e w2 ⟨rfl, hb⟩; have HB2 := Lib.hid (HB1.out.trans (hb.mono HB1.out.size)); obtain ⟨a0, a1, a2, a3⟩ := two hb x0 x1 y0 y1; clear x0 x1 y0 y1; obtain ⟨x0, x1, y0, y1⟩ : _ ∧ _ ∧ _ ∧ _ := ⟨a0, a1, a2, a3⟩; clear a0 a1 a2 a3; have b0 := cell_of hb z0; have b1 := cell_of hb z1; have b2 := cell_of hb u0; have b3 := cell_of hb u1; clear z0 z1 u0 u1; obtain ⟨z0, z1, u0, u1⟩ : _ ∧ _ ∧ _ ∧ _ := ⟨b0, b1, b2, b3⟩; clear b0 b1 b2 b3; clear hb))
      | (go_at_call 17; ((with_reducible refine (form17 _ m hm _).mono ?_); rintro e w3 ⟨rfl, hb⟩; rw [T_congr HS.out]; have HB3 := Lib.hid (HB2.out.trans (hb.mono HB2.out.size)); obtain ⟨a0, a1, a2, a3⟩ := two hb x0 x1 y0 y1; clear x0 x1 y0 y1; obtain ⟨x0, x1, y0, y1⟩ : _ ∧ _ ∧ _ ∧ _ := ⟨a0, a1, a2, a3⟩; clear a0 a1 a2 a3; clear hb)))
    all_goals
      go_wp2
      refine bodyPost_ret (v := T (val k q + val l m)) (by simp [results, Tryd.results19, go_sem, x0, x1]) rfl ⟨rfl, ?_⟩
      exact (HB3.out.setCell (by show _ ≤ _ + 1 + 1; omega) _).setCell (by show _ ≤ _ + 1 + 1; omega) _
  · go_enter Tryd.func19, Tryd.ntmps19
    go_wp2_with fail
    obtain ⟨W0, hW0⟩ : ∃ W0, ((w.alloc (.cells #[.int .i64 k, .int .i64 m] 23)).alloc (.cells #[.int .i64 l, .int .i64 r] 23)).alloc (.cells #[.int .i64 0, .int .i64 0] 23) = W0 := ⟨_, rfl⟩
    have HB0 : Hid (Below w.heap.size w W0.drew) := by rw [← hW0]; exact Lib.hid ((((Below.refl w.heap.size w).alloc (Nat.le_refl _) _).alloc (by simp) _).alloc (by simp; omega) _).drew
    obtain ⟨z0, z1, u0, u1, x0, x1⟩ : W0.drew.cell? ⟨w.heap.size, 0, none⟩ = some (.int .i64 k) ∧ W0.drew.cell? ⟨w.heap.size, 1, none⟩ = some (.int .i64 m) ∧ W0.drew.cell? ⟨w.heap.size + 1, 0, none⟩ = some (.int .i64 l) ∧ W0.drew.cell? ⟨w.heap.size + 1, 1, none⟩ = some (.int .i64 r) ∧ W0.drew.cell? ⟨w.heap.size + 1 + 1, 0, none⟩ = some (.int .i64 0) ∧ W0.drew.cell? ⟨w.heap.size + 1 + 1, 1, none⟩ = some (.int .i64 0) := by
      rw [← hW0]; simp [go_sem]
    obtain ⟨y0, y1⟩ : W0.drew.frozen? ⟨w.heap.size + 1 + 1, 0, none⟩ = false ∧ W0.drew.frozen? ⟨w.heap.size + 1 + 1, 1, none⟩ = false := by
      rw [← hW0]; simp [go_sem]
    obtain ⟨zz0, zz1, uu0, uu1⟩ : W0.cell? ⟨w.heap.size, 0, none⟩ = some (.int .i64 k) ∧ W0.cell? ⟨w.heap.size, 1, none⟩ = some (.int .i64 m) ∧ W0.cell? ⟨w.heap.size + 1, 0, none⟩ = some (.int .i64 l) ∧ W0.cell? ⟨w.heap.size + 1, 1, none⟩ = some (.int .i64 r) := by
      rw [← hW0]; simp [go_sem]
    rw [hW0]
    clear hW0
    have tok1 : True := trivial
    go_region_with (first
      | (go_at_call 26; have _t := tok1; ((with_reducible refine (P1.out _).mono ?_); rintro e w1 ⟨rfl, hb⟩; have HB1 := Lib.hid (HB0.out.trans (hb.mono HB0.out.size)); obtain ⟨a0, a1, a2, a3⟩ := two hb x0 x1 y0 y1; clear x0 x1 y0 y1; obtain ⟨x0, x1, y0, y1⟩ : _ ∧ _ ∧ _ ∧ _ := ⟨a0, a1, a2, a3⟩; clear a0 a1 a2 a3; have b0 := cell_of hb z0; have b1 := cell_of hb z1; have b2 := cell_of hb u0; have b3 := cell_of hb u1; clear z0 z1 u0 u1; obtain ⟨z0, z1, u0, u1⟩ : _ ∧ _ ∧ _ ∧ _ := ⟨b0, b1, b2, b3⟩; clear b0 b1 b2 b3; clear hb tok1))
      | (go_at_call 26; have _t := tok1; ((with_reducible refine (P2.out _).mono ?_); rintro e w1 ⟨rfl, hb⟩; have HB1 := Lib.hid (HB0.out.trans (hb.mono HB0.out.size)); obtain ⟨a0, a1, a2, a3⟩ := two hb x0 x1 y0 y1; clear x0 x1 y0 y1; obtain ⟨x0, x1, y0, y1⟩ : _ ∧ _ ∧ _ ∧ _ := ⟨a0, a1, a2, a3⟩; clear a0 a1 a2 a3; have b0 := cell_of hb z0; have b1 := cell_of hb z1; have b2 := cell_of hb u0; have b3 := cell_of hb u1; clear z0 z1 u0 u1; obtain ⟨z0, z1, u0, u1⟩ : _ ∧ _ ∧ _ ∧ _ := ⟨b0, b1, b2, b3⟩; clear b0 b1 b2 b3; clear hb tok1))
      | (go_at_call 26; ((with_reducible refine (P1.out _).mono ?_); rintro e w2 ⟨rfl, hb⟩; have HB2 := Lib.hid (HB1.out.trans (hb.mono HB1.out.size)); obtain ⟨a0, a1, a2, a3⟩ := two hb x0 x1 y0 y1; clear x0 x1 y0 y1; obtain ⟨x0, x1, y0, y1⟩ : _ ∧ _ ∧ _ ∧ _ := ⟨a0, a1, a2, a3⟩; clear a0 a1 a2 a3; have b0 := cell_of hb z0; have b1 := cell_of hb z1; have b2 := cell_of hb u0; have b3 := cell_of hb u1; clear z0 z1 u0 u1; obtain ⟨z0, z1, u0, u1⟩ : _ ∧ _ ∧ _ ∧ _ := ⟨b0, b1, b2, b3⟩; clear b0 b1 b2 b3; clear hb))
      | (go_at_call 26; ((with_reducible refine (P2.out _).mono ?_); rintro e w2 ⟨rfl, hb⟩; have HB2 := Lib.hid (HB1.out.trans (hb.mono HB1.out.size)); obtain ⟨a0, a1, a2, a3⟩ := two hb x0 x1 y0 y1; clear x0 x1 y0 y1; obtain ⟨x0, x1, y0, y1⟩ : _ ∧ _ ∧ _ ∧ _ := ⟨a0, a1, a2, a3⟩; clear a0 a1 a2 a3; have b0 := cell_of hb z0; have b1 := cell_of hb z1; have b2 := cell_of hb u0; have b3 := cell_of hb u1; clear z0 z1 u0 u1; obtain ⟨z0, z1, u0, u1⟩ : _ ∧ _ ∧ _ ∧ _ := ⟨b0, b1, b2, b3⟩; clear b0 b1 b2 b3; clear hb))
      | (go_at_call 17; ((with_reducible refine (form17 _ m hm _).mono ?_); rintro e w3 ⟨rfl, hb⟩; rw [T_congr HS.out]; have HB3 := Lib.hid (HB2.out.trans (hb.mono HB2.out.size)); obtain ⟨a0, a1, a2, a3⟩ := two hb x0 x1 y0 y1; clear x0 x1 y0 y1; obtain ⟨x0, x1, y0, y1⟩ : _ ∧ _ ∧ _ ∧ _ := ⟨a0, a1, a2, a3⟩; clear a0 a1 a2 a3; clear hb)))
    all_goals
      go_wp2
      refine bodyPost_ret (v := T (val k m + val l r)) (by simp [results, Tryd.results19, go_sem, x0, x1]) rfl ⟨rfl, ?_⟩
      exact (HB3.out.setCell (by show _ ≤ _ + 1 + 1; omega) _).setCell (by show _ ≤ _ + 1 + 1; omega) _

end Go.Proofs.YtaempngakollpaaDoor
