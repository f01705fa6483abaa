/- The live question of layer 10 is true. -/
import Derived.Test.YtajnjghbppcfdaaBits
namespace Go.Proofs.Ytajnjghbppcfdaa
open Go.RowKit Go.Shelf

theorem fla_lit (w : World) (cs : Array Value) (l : List Nat) (hcs : cs = (l.map F).toArray) (h : Nat) (hh : h = w.heap.size) (hl : l.length ≤ 1000) : Fla (w.alloc (.cells cs 35)) (.slice (some ⟨h, 0, none⟩) l.length l.length) l := by
  subst hh
  subst hcs
  have := World.ownsRow_lit (base := 0) (size := 1) (e := 35) w (l.map F).toArray l.length (Nat.zero_le _) (by unfold maxLen; omega) (by simp)
  exact fla_own (base := 0) (by simpa using this)
theorem unfold_fla {w : World} {v : Value} {l : List Nat} (h : Fla w v l) (h8 : l.length ≤ 2000) : Calls Try.prog 25 #[v] w (Makes w (unfolds l)) := by
  obtain ⟨a, n, c, rfl, h1, h2, h3⟩ := h
  exact unfold_f h1 h2 h3 (by rw [← h1.1]; exact h8)
theorem mirror_fla {w : World} {v : Value} {l : List Nat} (odd : Bool) (h : Fla w v l) (h8 : l.length ≤ 2000) : Calls Try.prog 27 #[v, .bool odd] w (Makes w (mirrors odd l)) := by
  obtain ⟨a, n, c, rfl, h1, h2, h3⟩ := h
  exact mirror_f odd h1 h2 h3 (by rw [← h1.1]; exact h8)
theorem ownsI_base {w : World} {base base' len : Nat} {v : Value} {l : List Value} (h : w.ownsRow base 3 1 v len l) (hb : base' ≤ base) : w.ownsRow base' 3 1 v len l := by
  refine ⟨h.1, ?_⟩
  rcases h.2 with ⟨rfl, rfl⟩ | ⟨g, cap, cur, rfl, h1, h2⟩
  · exact .inl ⟨rfl, rfl⟩
  · exact .inr ⟨g, cap, cur, rfl, by omega, h2⟩
theorem zip_nil (w : World) (a : Option Addr) (n c : Nat) (hn : n ≤ 2000) (h0 : n ≠ 0) : Calls Try.prog 10 #[.slice none 0 0, .slice a n c] w fun e W' => e = .returned (.tuple #[.slice none 0 0, .bool false]) ∧ W' = w :=
  zip_no none a 0 n 0 c w (by omega) hn (by omega)

set_option maxRecDepth 100000 in
set_option maxHeartbeats 4000000 in
theorem l10_head (w : World) : Calls Try.prog 9 #[] w fun e w' => e = .returned (.bool true) ∧ Below w.heap.size w w' := by
  go_enter Try.func9, Try.ntmps9
  go_wp2_with fail
  have T1 : Hid (Fla (w.alloc (.cells #[F 4607182418800017408, F 4611686018427387904, F 4613937818241073152, F 4616189618054758400] 35)) (.slice (some ⟨w.heap.size, 0, none⟩) 4 4) [4607182418800017408, 4611686018427387904, 4613937818241073152, 4616189618054758400]) := Lib.hid (fla_lit _ _ [4607182418800017408, 4611686018427387904, 4613937818241073152, 4616189618054758400] rfl _ rfl (by decide))
  refine (zip_f (((fla_lit _ _ [4607182418800017408, 4613937818241073152] rfl _ (by first | rfl | simp) (by decide))).below ((Below.refl _ _).alloc (Nat.le_refl _) _)) (fla_lit _ _ [4611686018427387904] rfl _ (by first | rfl | simp) (by decide)) (by decide) (by decide) (by decide)).mono ?_
  rintro e W1 ⟨v1, rfl, ho, hb⟩
  have BB1 : Hid (Below w.heap.size w W1) := Lib.hid (((((Below.refl _ _).alloc (Nat.le_refl _) _).alloc (by simp) _).alloc (by simp; omega) _).trans (hb.mono (by first | (simp; done) | (simp; omega))))
  replace T1 := Lib.hid (T1.out.below ((((Below.refl _ _).alloc (Nat.le_refl _) _).alloc (by simp) _).trans (hb.mono (by first | (simp; done) | (simp; omega)))))
  have TZ := Lib.hid (fla_own ho)
  have BT := BB1
  clear hb ho
  go_wp2_with fail
  refine (zip_nil _ _ 1 _ (by decide) (by decide)).mono ?_
  rintro e wz ⟨rfl, rfl⟩
  go_wp2_with fail
  refine (bits_c 2 (by decide) _).mono ?_
  rintro e W2 ⟨v2, rfl, ho, hb⟩
  have BB2 := Lib.hid (((Below.refl _ _).alloc (Nat.le_refl _) _).trans (hb.mono (by first | (simp; done) | (simp; omega))))
  replace T1 := Lib.hid (T1.out.below BB2.out)
  replace TZ := Lib.hid (TZ.out.below BB2.out)
  have HB6 : Hid (W2.ownsRow 0 3 1 v2 4 ([0, 2, 1, 3].map I)) := Lib.hid (ownsI_base (by have h := ho; rw [show bits 2 = [0, 2, 1, 3] by kernel_rfl] at h; exact h) (Nat.zero_le _))
  replace BT := Lib.hid (BT.out.trans (BB2.out.mono BT.out.size))
  clear hb ho
  go_wp2_with fail
  refine (fold_f T1.out (by decide)).mono ?_
  rintro e W3 ⟨v3, rfl, ho, hb⟩
  have BB3 := Lib.hid hb
  replace T1 := Lib.hid (T1.out.below BB3.out)
  replace TZ := Lib.hid (TZ.out.below BB3.out)
  replace HB6 := Lib.hid (own_below' HB6.out BB3.out)
  have TF := Lib.hid (fla_own ho)
  replace BT := Lib.hid (BT.out.trans (BB3.out.mono BT.out.size))
  clear hb ho
  go_wp2_with fail
  refine (sameRow_f (TF.out.below ((Below.refl _ _).alloc (Nat.le_refl _) _)) (fla_lit _ _ [4607182418800017408, 4613937818241073152, 4616189618054758400, 4611686018427387904] rfl _ (by first | rfl | simp) (by decide)) (by kernel_rfl) (by decide)).mono ?_
  rintro e W4 ⟨rfl, hb⟩
  have BB4 := Lib.hid (((Below.refl _ _).alloc (Nat.le_refl _) _).trans (hb.mono (by first | (simp; done) | (simp; omega))))
  replace T1 := Lib.hid (T1.out.below BB4.out)
  replace TZ := Lib.hid (TZ.out.below BB4.out)
  replace TF := Lib.hid (TF.out.below BB4.out)
  replace HB6 := Lib.hid (own_below' HB6.out BB4.out)
  replace BT := Lib.hid (BT.out.trans (BB4.out.mono BT.out.size))
  clear hb
  clear TF
  go_wp2_with fail
  refine (unfold_fla (fla_lit _ _ [4607182418800017408, 4613937818241073152, 4616189618054758400, 4611686018427387904] rfl _ (by first | rfl | simp) (by decide)) (by decide)).mono ?_
  rintro e W5 ⟨v5, rfl, ho, hb⟩
  have BB5 := Lib.hid (((Below.refl _ _).alloc (Nat.le_refl _) _).trans (hb.mono (by first | (simp; done) | (simp; omega))))
  replace T1 := Lib.hid (T1.out.below BB5.out)
  replace TZ := Lib.hid (TZ.out.below BB5.out)
  replace HB6 := Lib.hid (own_below' HB6.out BB5.out)
  have TU := Lib.hid (fla_own ho)
  replace BT := Lib.hid (BT.out.trans (BB5.out.mono BT.out.size))
  clear hb ho
  go_wp2_with fail
  refine (sameRow_f TU.out T1.out (by kernel_rfl) (by decide)).mono ?_
  rintro e W6 ⟨rfl, hb⟩
  have BB6 := Lib.hid hb
  replace T1 := Lib.hid (T1.out.below BB6.out)
  replace TZ := Lib.hid (TZ.out.below BB6.out)
  replace TU := Lib.hid (TU.out.below BB6.out)
  replace HB6 := Lib.hid (own_below' HB6.out BB6.out)
  replace BT := Lib.hid (BT.out.trans (BB6.out.mono BT.out.size))
  clear hb
  clear TU
  go_wp2_with fail
  refine (sameRow_f (TZ.out.below ((Below.refl _ _).alloc (Nat.le_refl _) _)) (fla_lit _ _ [4607182418800017408, 4611686018427387904, 4613937818241073152] rfl _ (by first | rfl | simp) (by decide)) (by kernel_rfl) (by decide)).mono ?_
  rintro e W7 ⟨rfl, hb⟩
  have BB7 := Lib.hid (((Below.refl _ _).alloc (Nat.le_refl _) _).trans (hb.mono (by first | (simp; done) | (simp; omega))))
  replace T1 := Lib.hid (T1.out.below BB7.out)
  replace TZ := Lib.hid (TZ.out.below BB7.out)
  replace HB6 := Lib.hid (own_below' HB6.out BB7.out)
  replace BT := Lib.hid (BT.out.trans (BB7.out.mono BT.out.size))
  clear hb
  clear TZ
  obtain ⟨g, cap, rfl, _, _, hc, _⟩ := ownsI_pos HB6.out (by decide)
  have hi1 : W7.cell? ⟨g, 1, none⟩ = some (.int .i64 2) := hc 1 (by decide)
  have hi3 : W7.cell? ⟨g, 3, none⟩ = some (.int .i64 3) := hc 3 (by decide)
  clear hc HB6
  go_wp2_with fail
  refine (rev_f T1.out (by decide)).mono ?_
  rintro e W8 ⟨v8, rfl, ho, hb⟩
  have BB8 := Lib.hid hb
  replace T1 := Lib.hid (T1.out.below BB8.out)
  have TR := Lib.hid (fla_own ho)
  replace BT := Lib.hid (BT.out.trans (BB8.out.mono BT.out.size))
  clear hb ho
  go_wp2_with fail
  refine (sameRow_f (TR.out.below ((Below.refl _ _).alloc (Nat.le_refl _) _)) (fla_lit _ _ [4616189618054758400, 4613937818241073152, 4611686018427387904, 4607182418800017408] rfl _ (by first | rfl | simp) (by decide)) (by kernel_rfl) (by decide)).mono ?_
  rintro e W9 ⟨rfl, hb⟩
  have BB9 := Lib.hid (((Below.refl _ _).alloc (Nat.le_refl _) _).trans (hb.mono (by first | (simp; done) | (simp; omega))))
  replace T1 := Lib.hid (T1.out.below BB9.out)
  replace TR := Lib.hid (TR.out.below BB9.out)
  replace BT := Lib.hid (BT.out.trans (BB9.out.mono BT.out.size))
  clear hb
  clear TR
  go_wp2_with fail
  refine (signs_f T1.out (by decide)).mono ?_
  rintro e W10 ⟨v10, rfl, ho, hb⟩
  have BB10 := Lib.hid hb
  replace T1 := Lib.hid (T1.out.below BB10.out)
  have TS := Lib.hid (fla_own ho)
  replace BT := Lib.hid (BT.out.trans (BB10.out.mono BT.out.size))
  clear hb ho
  go_wp2_with fail
  refine (sameRow_f (TS.out.below ((Below.refl _ _).alloc (Nat.le_refl _) _)) (fla_lit _ _ [4607182418800017408, 13835058055282163712, 4613937818241073152, 13839561654909534208] rfl _ (by first | rfl | simp) (by decide)) (by kernel_rfl) (by decide)).mono ?_
  rintro e W11 ⟨rfl, hb⟩
  have BB11 := Lib.hid (((Below.refl _ _).alloc (Nat.le_refl _) _).trans (hb.mono (by first | (simp; done) | (simp; omega))))
  replace T1 := Lib.hid (T1.out.below BB11.out)
  replace TS := Lib.hid (TS.out.below BB11.out)
  replace BT := Lib.hid (BT.out.trans (BB11.out.mono BT.out.size))
  clear hb
  clear TS
  go_wp2_with fail
  refine (mirror_fla true T1.out (by decide)).mono ?_
  rintro e W12 ⟨v12, rfl, ho, hb⟩
  have BB12 := Lib.hid hb
  replace T1 := Lib.hid (T1.out.below BB12.out)
  have TM := Lib.hid (fla_own ho)
  replace BT := Lib.hid (BT.out.trans (BB12.out.mono BT.out.size))
  clear hb ho
  go_wp2_with fail
  refine (sameRow_f (TM.out.below ((Below.refl _ _).alloc (Nat.le_refl _) _)) (fla_lit _ _ [4607182418800017408, 4611686018427387904, 4613937818241073152, 4616189618054758400, 13837309855095848960, 13835058055282163712] rfl _ (by first | rfl | simp) (by decide)) (by kernel_rfl) (by decide)).mono ?_
  rintro e W13 ⟨rfl, hb⟩
  have BB13 := Lib.hid (((Below.refl _ _).alloc (Nat.le_refl _) _).trans (hb.mono (by first | (simp; done) | (simp; omega))))
  replace T1 := Lib.hid (T1.out.below BB13.out)
  replace TM := Lib.hid (TM.out.below BB13.out)
  replace BT := Lib.hid (BT.out.trans (BB13.out.mono BT.out.size))
  clear hb
  clear TM
  go_wp2_with fail
  refine (even_f T1.out (by decide)).mono ?_
  rintro e W14 ⟨v14, rfl, ho, hb⟩
  have BB14 := Lib.hid hb
  replace T1 := Lib.hid (T1.out.below BB14.out)
  have TE := Lib.hid (fla_own ho)
  replace BT := Lib.hid (BT.out.trans (BB14.out.mono BT.out.size))
  clear hb ho
  go_wp2_with fail
  refine (sameRow_f (TE.out.below ((Below.refl _ _).alloc (Nat.le_refl _) _)) (fla_lit _ _ [4607182418800017408, 4613937818241073152] rfl _ (by first | rfl | simp) (by decide)) (by kernel_rfl) (by decide)).mono ?_
  rintro e W15 ⟨rfl, hb⟩
  have BB15 := Lib.hid (((Below.refl _ _).alloc (Nat.le_refl _) _).trans (hb.mono (by first | (simp; done) | (simp; omega))))
  replace T1 := Lib.hid (T1.out.below BB15.out)
  replace TE := Lib.hid (TE.out.below BB15.out)
  replace BT := Lib.hid (BT.out.trans (BB15.out.mono BT.out.size))
  clear hb
  clear TE
  go_wp2_with fail
  refine (odd_f T1.out (by decide)).mono ?_
  rintro e W16 ⟨v16, rfl, ho, hb⟩
  have BB16 := Lib.hid hb
  replace T1 := Lib.hid (T1.out.below BB16.out)
  have TO := Lib.hid (fla_own ho)
  replace BT := Lib.hid (BT.out.trans (BB16.out.mono BT.out.size))
  clear hb ho
  go_wp2_with fail
  refine (sameRow_f (TO.out.below ((Below.refl _ _).alloc (Nat.le_refl _) _)) (fla_lit _ _ [4611686018427387904, 4616189618054758400] rfl _ (by first | rfl | simp) (by decide)) (by kernel_rfl) (by decide)).mono ?_
  rintro e W17 ⟨rfl, hb⟩
  have BB17 := Lib.hid (((Below.refl _ _).alloc (Nat.le_refl _) _).trans (hb.mono (by first | (simp; done) | (simp; omega))))
  replace T1 := Lib.hid (T1.out.below BB17.out)
  replace TO := Lib.hid (TO.out.below BB17.out)
  replace BT := Lib.hid (BT.out.trans (BB17.out.mono BT.out.size))
  clear hb
  clear TO
  go_wp2
  go_ret
  exact ⟨rfl, BT.out⟩
end Go.Proofs.Ytajnjghbppcfdaa
