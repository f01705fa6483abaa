/- PermTells: the law's walk: it answers true. -/
import Derived.Test.YtajnjghbppcfdaaFrames
import Derived.Test.YtajnjghbppcfdaaRefs4
namespace Go.Proofs.Ytajnjghbppcfdaa
open Go.RowKit Go.Shelf

theorem bits_no (p : Int) (w : World) (h : p < 0 ∨ 12 < p) : Calls Try.prog 12 #[.int .i64 p] w fun e W' => e = .returned (.slice none 0 0) ∧ W' = w := by
  rcases h with h | h
  · have h1 : decide (p < 0) = true := decide_eq_true h
    go_enter Try.func12, Try.ntmps12
    go_wp2
    go_ret
    exact ⟨rfl, rfl⟩
  · have h1 : decide (p < 0) = false := decide_eq_false (by omega)
    have h2 : decide (12 < p) = true := decide_eq_true h
    go_enter Try.func12, Try.ntmps12
    go_wp2
    go_ret
    exact ⟨rfl, rfl⟩
theorem bitsr_no (p : Int) (w : World) (h : p < 0 ∨ 12 < p) : Calls Try.prog 13 #[.int .i64 p] w fun e W' => e = .returned (.slice none 0 0) ∧ W' = w := by
  rcases h with h | h
  · have h1 : decide (p < 0) = true := decide_eq_true h
    go_enter Try.func13, Try.ntmps13
    go_wp2
    go_ret
    exact ⟨rfl, rfl⟩
  · have h1 : decide (p < 0) = false := decide_eq_false (by omega)
    have h2 : decide (12 < p) = true := decide_eq_true h
    go_enter Try.func13, Try.ntmps13
    go_wp2
    go_ret
    exact ⟨rfl, rfl⟩
theorem fla_nil (w : World) : Fla w (.slice none 0 0) [] := ⟨none, 0, 0, rfl, ⟨rfl, .inl rfl⟩, fun _ => ⟨rfl, rfl⟩, Nat.le_refl _⟩

theorem permTells_long (a a' : Option Addr) (len cap len' cap' : Nat) (p : Int) (odd : Bool) (w : World) (h : (300 : Int) < (len : Int)) : Calls Try.prog 3 #[.slice a len cap, .slice a' len' cap', .int .i64 p, .bool odd] w fun e w' => e = .returned (.bool true) ∧ Below w.heap.size w w' := by
  go_enter Try.func3, Try.ntmps3
  go_wp2_with fail
  refine (l10_head _).mono ?_
  rintro e W1 ⟨rfl, hb⟩
  have BB1 := Lib.hid hb
  have BT := BB1
  clear hb
  go_wp2
  go_ret
  exact ⟨rfl, BT.out⟩

theorem permTells_long2 (a a' : Option Addr) (len cap len' cap' : Nat) (p : Int) (odd : Bool) (w : World) (h0 : (len : Int) ≤ 300) (h : (300 : Int) < (len' : Int)) : Calls Try.prog 3 #[.slice a len cap, .slice a' len' cap', .int .i64 p, .bool odd] w fun e w' => e = .returned (.bool true) ∧ Below w.heap.size w w' := by
  go_enter Try.func3, Try.ntmps3
  go_wp2_with fail
  refine (l10_head _).mono ?_
  rintro e W1 ⟨rfl, hb⟩
  have BB1 := Lib.hid hb
  have BT := BB1
  clear hb
  go_wp2
  go_ret
  exact ⟨rfl, BT.out⟩

theorem permTells_mid (a a' : Option Addr) (len cap len' cap' : Nat) (p : Int) (odd : Bool) (w : World) (h0 : (len : Int) ≤ 300) (h : (len' : Int) ≤ 300) (h1 : 6 < p) (h2 : p ≤ 12) : Calls Try.prog 3 #[.slice a len cap, .slice a' len' cap', .int .i64 p, .bool odd] w fun e w' => e = .returned (.bool true) ∧ Below w.heap.size w w' := by
  go_enter Try.func3, Try.ntmps3
  go_wp2_with fail
  refine (l10_head _).mono ?_
  rintro e W1 ⟨rfl, hb⟩
  have BB1 := Lib.hid hb
  have BT := BB1
  clear hb
  go_wp2
  go_ret
  exact ⟨rfl, BT.out⟩

set_option maxHeartbeats 4000000 in
theorem permTells_yes_in (a a' : Option Addr) (len cap len' cap' : Nat) (l l' : List Nat) (p : Nat) (odd : Bool) (w : World) (hr : RowF w a len cap l) (hr' : RowF w a' len' cap' l') (h : (len : Int) ≤ 300) (h' : (len' : Int) ≤ 300) (hd : len = len' ∨ len = len' + 1) (hp : p ≤ 6) : Calls Try.prog 3 #[.slice a len cap, .slice a' len' cap', .int .i64 p, .bool odd] w fun e w' => e = .returned (.bool true) ∧ Below w.heap.size w w' := by
  have T1 := Lib.hid hr.fla
  have T2 := Lib.hid hr'.fla
  have hl : Hid (l.length = len) := Lib.hid hr.1.1
  have hl' : Hid (l'.length = len') := Lib.hid hr'.1.1
  have HD := Lib.hid hd
  have hl3 : Hid (l.length ≤ 2000) := Lib.hid (by rw [hr.1.1]; omega)
  have hl4 : Hid (l'.length ≤ 2000) := Lib.hid (by rw [hr'.1.1]; omega)
  have hp6 : (p : Int) ≤ 6 := by omega
  obtain ⟨m, hm⟩ : ∃ m : Nat, m = 2 ^ p := ⟨_, rfl⟩
  have hm0 : 0 < m := by rw [hm]; exact Nat.two_pow_pos p
  have hm1 : m ≤ 64 := by rw [hm]; exact Nat.pow_le_pow_right (n := 2) (i := p) (j := 6) (by decide) hp
  have HM := Lib.hid hm
  clear hm
  clear hr hr' hd
  go_enter Try.func3, Try.ntmps3
  go_wp2_with fail
  refine (l10_head _).mono ?_
  rintro e W1 ⟨rfl, hb⟩
  have BB1 := Lib.hid hb
  replace T1 := Lib.hid (T1.out.below BB1.out)
  replace T2 := Lib.hid (T2.out.below BB1.out)
  have BT := BB1
  clear hb
  have hz : Hid (l.length = l'.length ∨ l.length = l'.length + 1) := Lib.hid (by rw [hl.out, hl'.out]; exact HD.out)
  go_wp2_with fail
  refine (zip_f T1.out T2.out hl3.out hl4.out hz.out).mono ?_
  intro e W2 hm
  obtain ⟨o2, n2, c2, rfl, ho, hb⟩ := makes2_n hm
  clear hm
  have BB2 := Lib.hid hb
  replace T1 := Lib.hid (T1.out.below BB2.out)
  replace T2 := Lib.hid (T2.out.below BB2.out)
  have TZ := Lib.hid ho
  replace BT := Lib.hid (BT.out.trans (BB2.out.mono BT.out.size))
  clear hb ho
  go_wp2_with fail
  refine (zipr_f T1.out T2.out hl3.out hl4.out hz.out).mono ?_
  intro e W3 hm
  obtain ⟨o3, n3, c3, rfl, ho, hb⟩ := makes2_n hm
  clear hm
  have BB3 := Lib.hid hb
  replace T1 := Lib.hid (T1.out.below BB3.out)
  replace T2 := Lib.hid (T2.out.below BB3.out)
  replace TZ := Lib.hid (TZ.out.below BB3.out)
  have TY := Lib.hid ho
  replace BT := Lib.hid (BT.out.trans (BB3.out.mono BT.out.size))
  clear hb ho
  go_wp2_with fail
  refine (bits_c p (by omega) _).mono ?_
  rintro e W4 ⟨v4, rfl, ho, hb⟩
  rw [← HM.out] at ho
  obtain ⟨g1, capg1, rfl, _, hg1, hc, _⟩ := ownsI_pos ho hm0
  have BB4 := Lib.hid hb
  replace T1 := Lib.hid (T1.out.below BB4.out)
  replace T2 := Lib.hid (T2.out.below BB4.out)
  replace TZ := Lib.hid (TZ.out.below BB4.out)
  replace TY := Lib.hid (TY.out.below BB4.out)
  have HC1 := Lib.hid hc
  replace BT := Lib.hid (BT.out.trans (BB4.out.mono BT.out.size))
  clear hb ho hc
  go_wp2_with fail
  refine (bitsr_c p (by omega) _).mono ?_
  rintro e W5 ⟨v5, rfl, ho, hb⟩
  rw [← HM.out] at ho
  obtain ⟨g2, capg2, rfl, _, hg2, hc, _⟩ := ownsI_pos ho hm0
  have BB5 := Lib.hid hb
  replace T1 := Lib.hid (T1.out.below BB5.out)
  replace T2 := Lib.hid (T2.out.below BB5.out)
  replace TZ := Lib.hid (TZ.out.below BB5.out)
  replace TY := Lib.hid (TY.out.below BB5.out)
  replace HC1 := Lib.hid (fun j (hj : j < m) => (hb.cell (p := ⟨g1, j, none⟩) hg1).trans (HC1.out j hj))
  have HC2 := Lib.hid hc
  replace BT := Lib.hid (BT.out.trans (BB5.out.mono BT.out.size))
  clear hb ho hc
  go_wp2
  go_loopw [16] (fun i wr => ∃ k : Nat, k ≤ m ∧ i = .int .i64 k ∧ Hid (Below W5.heap.size W5 wr)) (fun i _ => m - (intOf i).toNat)
  case atStart => exact ⟨0, Nat.zero_le _, rfl, Lib.hid (Below.refl _ _)⟩
  case round =>
    obtain ⟨k, hk, rfl, hbl⟩ := hrel
    by_cases hlt : k < m
    · have hki : (k : Int) < (m : Int) := by omega
      obtain ⟨y, hy⟩ : ∃ y, (bits p).getD k 0 = y := ⟨_, rfl⟩
      have h1 := HC1.out k hlt
      have h2 := HC2.out k hlt
      rw [hy] at h1 h2
      have h3 := (hbl.out.cell (p := ⟨g1, k, none⟩) (cell_lt h1)).trans h1
      have h4 := (hbl.out.cell (p := ⟨g2, k, none⟩) (cell_lt h2)).trans h2
      clear h1 h2 hy
      go_wp2
      go_quiet (fail)
      go_wp2
      go_roundw
      case rel => exact ⟨k + 1, by omega, by go_num, Lib.hid ⟨hbl.out.os, hbl.out.tape, hbl.out.output, hbl.out.size, hbl.out.block⟩⟩
      case measure => simp [intOf] <;> omega
    have hkm : k = m := by omega
    subst hkm
    clear HC1 HC2
    replace T1 := Lib.hid (T1.out.below hbl.out)
    replace T2 := Lib.hid (T2.out.below hbl.out)
    replace TZ := Lib.hid (TZ.out.below hbl.out)
    replace TY := Lib.hid (TY.out.below hbl.out)
    replace BT := Lib.hid (BT.out.trans (hbl.out.mono BT.out.size))
    go_wp2_with fail
    refine (even_f T1.out hl3.out).mono ?_
    intro e W6 hm
    obtain ⟨o6, n6, c6, rfl, ho, hb⟩ := makes_n hm
    clear hm
    have BB6 := Lib.hid hb
    replace T1 := Lib.hid (T1.out.below BB6.out)
    replace T2 := Lib.hid (T2.out.below BB6.out)
    replace TZ := Lib.hid (TZ.out.below BB6.out)
    replace TY := Lib.hid (TY.out.below BB6.out)
    have TA := Lib.hid ho
    replace BT := Lib.hid (BT.out.trans (BB6.out.mono BT.out.size))
    clear hb ho
    go_wp2_with fail
    refine (evenr_f T1.out hl3.out).mono ?_
    intro e W7 hm
    obtain ⟨o7, n7, c7, rfl, ho, hb⟩ := makes_n hm
    clear hm
    have BB7 := Lib.hid hb
    replace T1 := Lib.hid (T1.out.below BB7.out)
    replace T2 := Lib.hid (T2.out.below BB7.out)
    replace TZ := Lib.hid (TZ.out.below BB7.out)
    replace TY := Lib.hid (TY.out.below BB7.out)
    replace TA := Lib.hid (TA.out.below BB7.out)
    have TB := Lib.hid ho
    replace BT := Lib.hid (BT.out.trans (BB7.out.mono BT.out.size))
    clear hb ho
    go_wp2_with fail
    refine (sameRow_f TA.out TB.out rfl (by rw [takes_length]; have := hl3.out; omega)).mono ?_
    rintro e W8 ⟨rfl, hb⟩
    have BB8 := Lib.hid hb
    replace T1 := Lib.hid (T1.out.below BB8.out)
    replace T2 := Lib.hid (T2.out.below BB8.out)
    replace TZ := Lib.hid (TZ.out.below BB8.out)
    replace TY := Lib.hid (TY.out.below BB8.out)
    replace TA := Lib.hid (TA.out.below BB8.out)
    replace TB := Lib.hid (TB.out.below BB8.out)
    replace BT := Lib.hid (BT.out.trans (BB8.out.mono BT.out.size))
    clear hb
    clear TA
    clear TB
    go_wp2_with fail
    refine (odd_f T1.out hl3.out).mono ?_
    intro e W9 hm
    obtain ⟨o9, n9, c9, rfl, ho, hb⟩ := makes_n hm
    clear hm
    have BB9 := Lib.hid hb
    replace T1 := Lib.hid (T1.out.below BB9.out)
    replace T2 := Lib.hid (T2.out.below BB9.out)
    replace TZ := Lib.hid (TZ.out.below BB9.out)
    replace TY := Lib.hid (TY.out.below BB9.out)
    have TA := Lib.hid ho
    replace BT := Lib.hid (BT.out.trans (BB9.out.mono BT.out.size))
    clear hb ho
    go_wp2_with fail
    refine (oddr_f T1.out hl3.out).mono ?_
    intro e W10 hm
    obtain ⟨o10, n10, c10, rfl, ho, hb⟩ := makes_n hm
    clear hm
    have BB10 := Lib.hid hb
    replace T1 := Lib.hid (T1.out.below BB10.out)
    replace T2 := Lib.hid (T2.out.below BB10.out)
    replace TZ := Lib.hid (TZ.out.below BB10.out)
    replace TY := Lib.hid (TY.out.below BB10.out)
    replace TA := Lib.hid (TA.out.below BB10.out)
    have TB := Lib.hid ho
    replace BT := Lib.hid (BT.out.trans (BB10.out.mono BT.out.size))
    clear hb ho
    go_wp2_with fail
    refine (sameRow_f TA.out TB.out rfl (by rw [takes_length]; have := hl3.out; omega)).mono ?_
    rintro e W11 ⟨rfl, hb⟩
    have BB11 := Lib.hid hb
    replace T1 := Lib.hid (T1.out.below BB11.out)
    replace T2 := Lib.hid (T2.out.below BB11.out)
    replace TZ := Lib.hid (TZ.out.below BB11.out)
    replace TY := Lib.hid (TY.out.below BB11.out)
    replace TA := Lib.hid (TA.out.below BB11.out)
    replace TB := Lib.hid (TB.out.below BB11.out)
    replace BT := Lib.hid (BT.out.trans (BB11.out.mono BT.out.size))
    clear hb
    clear TA
    clear TB
    go_wp2_with fail
    refine (sameRow_f TZ.out TY.out rfl (by rw [zips_length]; have := hl3.out; have := hl4.out; omega)).mono ?_
    rintro e W12 ⟨rfl, hb⟩
    have BB12 := Lib.hid hb
    replace T1 := Lib.hid (T1.out.below BB12.out)
    replace T2 := Lib.hid (T2.out.below BB12.out)
    replace TZ := Lib.hid (TZ.out.below BB12.out)
    replace TY := Lib.hid (TY.out.below BB12.out)
    replace BT := Lib.hid (BT.out.trans (BB12.out.mono BT.out.size))
    clear hb
    clear TZ
    clear TY
    go_wp2_with fail
    refine (rev_f T1.out hl3.out).mono ?_
    intro e W13 hm
    obtain ⟨o13, n13, c13, rfl, ho, hb⟩ := makes_n hm
    clear hm
    have BB13 := Lib.hid hb
    replace T1 := Lib.hid (T1.out.below BB13.out)
    replace T2 := Lib.hid (T2.out.below BB13.out)
    have TA := Lib.hid ho
    replace BT := Lib.hid (BT.out.trans (BB13.out.mono BT.out.size))
    clear hb ho
    go_wp2_with fail
    refine (revr_f T1.out hl3.out).mono ?_
    intro e W14 hm
    obtain ⟨o14, n14, c14, rfl, ho, hb⟩ := makes_n hm
    clear hm
    have BB14 := Lib.hid hb
    replace T1 := Lib.hid (T1.out.below BB14.out)
    replace T2 := Lib.hid (T2.out.below BB14.out)
    replace TA := Lib.hid (TA.out.below BB14.out)
    have TB := Lib.hid ho
    replace BT := Lib.hid (BT.out.trans (BB14.out.mono BT.out.size))
    clear hb ho
    go_wp2_with fail
    refine (sameRow_f TA.out TB.out rfl (by rw [revs_length]; have := hl3.out; omega)).mono ?_
    rintro e W15 ⟨rfl, hb⟩
    have BB15 := Lib.hid hb
    replace T1 := Lib.hid (T1.out.below BB15.out)
    replace T2 := Lib.hid (T2.out.below BB15.out)
    replace TA := Lib.hid (TA.out.below BB15.out)
    replace TB := Lib.hid (TB.out.below BB15.out)
    replace BT := Lib.hid (BT.out.trans (BB15.out.mono BT.out.size))
    clear hb
    clear TA
    clear TB
    go_wp2_with fail
    refine (signs_f T1.out hl3.out).mono ?_
    intro e W16 hm
    obtain ⟨o16, n16, c16, rfl, ho, hb⟩ := makes_n hm
    clear hm
    have BB16 := Lib.hid hb
    replace T1 := Lib.hid (T1.out.below BB16.out)
    replace T2 := Lib.hid (T2.out.below BB16.out)
    have TA := Lib.hid ho
    replace BT := Lib.hid (BT.out.trans (BB16.out.mono BT.out.size))
    clear hb ho
    go_wp2_with fail
    refine (signsr_f T1.out hl3.out).mono ?_
    intro e W17 hm
    obtain ⟨o17, n17, c17, rfl, ho, hb⟩ := makes_n hm
    clear hm
    have BB17 := Lib.hid hb
    replace T1 := Lib.hid (T1.out.below BB17.out)
    replace T2 := Lib.hid (T2.out.below BB17.out)
    replace TA := Lib.hid (TA.out.below BB17.out)
    have TB := Lib.hid ho
    replace BT := Lib.hid (BT.out.trans (BB17.out.mono BT.out.size))
    clear hb ho
    go_wp2_with fail
    refine (sameRow_f TA.out TB.out rfl (by rw [signs_length]; have := hl3.out; omega)).mono ?_
    rintro e W18 ⟨rfl, hb⟩
    have BB18 := Lib.hid hb
    replace T1 := Lib.hid (T1.out.below BB18.out)
    replace T2 := Lib.hid (T2.out.below BB18.out)
    replace TA := Lib.hid (TA.out.below BB18.out)
    replace TB := Lib.hid (TB.out.below BB18.out)
    replace BT := Lib.hid (BT.out.trans (BB18.out.mono BT.out.size))
    clear hb
    clear TA
    clear TB
    go_wp2_with fail
    refine (fold_f T1.out hl3.out).mono ?_
    intro e W19 hm
    obtain ⟨o19, n19, c19, rfl, ho, hb⟩ := makes_n hm
    clear hm
    have BB19 := Lib.hid hb
    replace T1 := Lib.hid (T1.out.below BB19.out)
    replace T2 := Lib.hid (T2.out.below BB19.out)
    have TA := Lib.hid ho
    replace BT := Lib.hid (BT.out.trans (BB19.out.mono BT.out.size))
    clear hb ho
    go_wp2_with fail
    refine (foldr_f T1.out hl3.out).mono ?_
    intro e W20 hm
    obtain ⟨o20, n20, c20, rfl, ho, hb⟩ := makes_n hm
    clear hm
    have BB20 := Lib.hid hb
    replace T1 := Lib.hid (T1.out.below BB20.out)
    replace T2 := Lib.hid (T2.out.below BB20.out)
    replace TA := Lib.hid (TA.out.below BB20.out)
    have TB := Lib.hid ho
    replace BT := Lib.hid (BT.out.trans (BB20.out.mono BT.out.size))
    clear hb ho
    go_wp2_with fail
    refine (sameRow_f TA.out TB.out rfl (by rw [folds_length]; have := hl3.out; omega)).mono ?_
    rintro e W21 ⟨rfl, hb⟩
    have BB21 := Lib.hid hb
    replace T1 := Lib.hid (T1.out.below BB21.out)
    replace T2 := Lib.hid (T2.out.below BB21.out)
    replace TA := Lib.hid (TA.out.below BB21.out)
    replace TB := Lib.hid (TB.out.below BB21.out)
    replace BT := Lib.hid (BT.out.trans (BB21.out.mono BT.out.size))
    clear hb
    clear TA
    clear TB
    go_wp2_with fail
    refine (unfold_fla T1.out hl3.out).mono ?_
    intro e W22 hm
    obtain ⟨o22, n22, c22, rfl, ho, hb⟩ := makes_n hm
    clear hm
    have BB22 := Lib.hid hb
    replace T1 := Lib.hid (T1.out.below BB22.out)
    replace T2 := Lib.hid (T2.out.below BB22.out)
    have TA := Lib.hid ho
    replace BT := Lib.hid (BT.out.trans (BB22.out.mono BT.out.size))
    clear hb ho
    go_wp2_with fail
    refine (unfoldr_f T1.out hl3.out).mono ?_
    intro e W23 hm
    obtain ⟨o23, n23, c23, rfl, ho, hb⟩ := makes_n hm
    clear hm
    have BB23 := Lib.hid hb
    replace T1 := Lib.hid (T1.out.below BB23.out)
    replace T2 := Lib.hid (T2.out.below BB23.out)
    replace TA := Lib.hid (TA.out.below BB23.out)
    have TB := Lib.hid ho
    replace BT := Lib.hid (BT.out.trans (BB23.out.mono BT.out.size))
    clear hb ho
    go_wp2_with fail
    refine (sameRow_f TA.out TB.out rfl (by rw [unfolds_length]; have := hl3.out; omega)).mono ?_
    rintro e W24 ⟨rfl, hb⟩
    have BB24 := Lib.hid hb
    replace T1 := Lib.hid (T1.out.below BB24.out)
    replace T2 := Lib.hid (T2.out.below BB24.out)
    replace TA := Lib.hid (TA.out.below BB24.out)
    replace TB := Lib.hid (TB.out.below BB24.out)
    replace BT := Lib.hid (BT.out.trans (BB24.out.mono BT.out.size))
    clear hb
    clear TA
    clear TB
    go_wp2_with fail
    refine (mirror_fla odd T1.out hl3.out).mono ?_
    intro e W25 hm
    obtain ⟨o25, n25, c25, rfl, ho, hb⟩ := makes_n hm
    clear hm
    have BB25 := Lib.hid hb
    replace T1 := Lib.hid (T1.out.below BB25.out)
    replace T2 := Lib.hid (T2.out.below BB25.out)
    have TA := Lib.hid ho
    replace BT := Lib.hid (BT.out.trans (BB25.out.mono BT.out.size))
    clear hb ho
    go_wp2_with fail
    refine (mirrorr_f odd T1.out hl3.out).mono ?_
    intro e W26 hm
    obtain ⟨o26, n26, c26, rfl, ho, hb⟩ := makes_n hm
    clear hm
    have BB26 := Lib.hid hb
    replace T1 := Lib.hid (T1.out.below BB26.out)
    replace T2 := Lib.hid (T2.out.below BB26.out)
    replace TA := Lib.hid (TA.out.below BB26.out)
    have TB := Lib.hid ho
    replace BT := Lib.hid (BT.out.trans (BB26.out.mono BT.out.size))
    clear hb ho
    go_wp2_with fail
    refine (sameRow_f TA.out TB.out rfl (by rw [mirrors_length]; have := hl3.out; omega)).mono ?_
    rintro e W27 ⟨rfl, hb⟩
    have BB27 := Lib.hid hb
    replace T1 := Lib.hid (T1.out.below BB27.out)
    replace T2 := Lib.hid (T2.out.below BB27.out)
    replace TA := Lib.hid (TA.out.below BB27.out)
    replace TB := Lib.hid (TB.out.below BB27.out)
    replace BT := Lib.hid (BT.out.trans (BB27.out.mono BT.out.size))
    clear hb
    clear TA
    clear TB
    go_wp2
    go_ret
    exact ⟨rfl, BT.out⟩

set_option maxHeartbeats 4000000 in
theorem permTells_yes_neg (a a' : Option Addr) (len cap len' cap' : Nat) (l l' : List Nat) (p : Int) (odd : Bool) (w : World) (hr : RowF w a len cap l) (hr' : RowF w a' len' cap' l') (h : (len : Int) ≤ 300) (h' : (len' : Int) ≤ 300) (hd : len = len' ∨ len = len' + 1) (hp : p < 0) : Calls Try.prog 3 #[.slice a len cap, .slice a' len' cap', .int .i64 p, .bool odd] w fun e w' => e = .returned (.bool true) ∧ Below w.heap.size w w' := by
  have T1 := Lib.hid hr.fla
  have T2 := Lib.hid hr'.fla
  have hl : Hid (l.length = len) := Lib.hid hr.1.1
  have hl' : Hid (l'.length = len') := Lib.hid hr'.1.1
  have HD := Lib.hid hd
  have hl3 : Hid (l.length ≤ 2000) := Lib.hid (by rw [hr.1.1]; omega)
  have hl4 : Hid (l'.length ≤ 2000) := Lib.hid (by rw [hr'.1.1]; omega)
  clear hr hr' hd
  go_enter Try.func3, Try.ntmps3
  go_wp2_with fail
  refine (l10_head _).mono ?_
  rintro e W1 ⟨rfl, hb⟩
  have BB1 := Lib.hid hb
  replace T1 := Lib.hid (T1.out.below BB1.out)
  replace T2 := Lib.hid (T2.out.below BB1.out)
  have BT := BB1
  clear hb
  have hz : Hid (l.length = l'.length ∨ l.length = l'.length + 1) := Lib.hid (by rw [hl.out, hl'.out]; exact HD.out)
  go_wp2_with fail
  refine (zip_f T1.out T2.out hl3.out hl4.out hz.out).mono ?_
  intro e W2 hm
  obtain ⟨o2, n2, c2, rfl, ho, hb⟩ := makes2_n hm
  clear hm
  have BB2 := Lib.hid hb
  replace T1 := Lib.hid (T1.out.below BB2.out)
  replace T2 := Lib.hid (T2.out.below BB2.out)
  have TZ := Lib.hid ho
  replace BT := Lib.hid (BT.out.trans (BB2.out.mono BT.out.size))
  clear hb ho
  go_wp2_with fail
  refine (zipr_f T1.out T2.out hl3.out hl4.out hz.out).mono ?_
  intro e W3 hm
  obtain ⟨o3, n3, c3, rfl, ho, hb⟩ := makes2_n hm
  clear hm
  have BB3 := Lib.hid hb
  replace T1 := Lib.hid (T1.out.below BB3.out)
  replace T2 := Lib.hid (T2.out.below BB3.out)
  replace TZ := Lib.hid (TZ.out.below BB3.out)
  have TY := Lib.hid ho
  replace BT := Lib.hid (BT.out.trans (BB3.out.mono BT.out.size))
  clear hb ho
  go_wp2_with fail
  refine (bits_no p _ (.inl hp)).mono ?_
  rintro e W' ⟨rfl, hw⟩
  obtain rfl := hw.symm
  go_wp2_with fail
  refine (bitsr_no p _ (.inl hp)).mono ?_
  rintro e W' ⟨rfl, hw⟩
  obtain rfl := hw.symm
  go_wp2
  go_loopw [16] (fun i wr => i = .int .i64 0 ∧ Hid (Below W3.heap.size W3 wr)) (fun _ _ => 0)
  case atStart => exact ⟨rfl, Lib.hid (Below.refl _ _)⟩
  case round =>
    obtain ⟨rfl, hbl⟩ := hrel
    replace T1 := Lib.hid (T1.out.below hbl.out)
    replace T2 := Lib.hid (T2.out.below hbl.out)
    replace TZ := Lib.hid (TZ.out.below hbl.out)
    replace TY := Lib.hid (TY.out.below hbl.out)
    replace BT := Lib.hid (BT.out.trans (hbl.out.mono BT.out.size))
    go_wp2_with fail
    refine (even_f T1.out hl3.out).mono ?_
    intro e W4 hm
    obtain ⟨o4, n4, c4, rfl, ho, hb⟩ := makes_n hm
    clear hm
    have BB4 := Lib.hid hb
    replace T1 := Lib.hid (T1.out.below BB4.out)
    replace T2 := Lib.hid (T2.out.below BB4.out)
    replace TZ := Lib.hid (TZ.out.below BB4.out)
    replace TY := Lib.hid (TY.out.below BB4.out)
    have TA := Lib.hid ho
    replace BT := Lib.hid (BT.out.trans (BB4.out.mono BT.out.size))
    clear hb ho
    go_wp2_with fail
    refine (evenr_f T1.out hl3.out).mono ?_
    intro e W5 hm
    obtain ⟨o5, n5, c5, rfl, ho, hb⟩ := makes_n hm
    clear hm
    have BB5 := Lib.hid hb
    replace T1 := Lib.hid (T1.out.below BB5.out)
    replace T2 := Lib.hid (T2.out.below BB5.out)
    replace TZ := Lib.hid (TZ.out.below BB5.out)
    replace TY := Lib.hid (TY.out.below BB5.out)
    replace TA := Lib.hid (TA.out.below BB5.out)
    have TB := Lib.hid ho
    replace BT := Lib.hid (BT.out.trans (BB5.out.mono BT.out.size))
    clear hb ho
    go_wp2_with fail
    refine (sameRow_f TA.out TB.out rfl (by rw [takes_length]; have := hl3.out; omega)).mono ?_
    rintro e W6 ⟨rfl, hb⟩
    have BB6 := Lib.hid hb
    replace T1 := Lib.hid (T1.out.below BB6.out)
    replace T2 := Lib.hid (T2.out.below BB6.out)
    replace TZ := Lib.hid (TZ.out.below BB6.out)
    replace TY := Lib.hid (TY.out.below BB6.out)
    replace TA := Lib.hid (TA.out.below BB6.out)
    replace TB := Lib.hid (TB.out.below BB6.out)
    replace BT := Lib.hid (BT.out.trans (BB6.out.mono BT.out.size))
    clear hb
    clear TA
    clear TB
    go_wp2_with fail
    refine (odd_f T1.out hl3.out).mono ?_
    intro e W7 hm
    obtain ⟨o7, n7, c7, rfl, ho, hb⟩ := makes_n hm
    clear hm
    have BB7 := Lib.hid hb
    replace T1 := Lib.hid (T1.out.below BB7.out)
    replace T2 := Lib.hid (T2.out.below BB7.out)
    replace TZ := Lib.hid (TZ.out.below BB7.out)
    replace TY := Lib.hid (TY.out.below BB7.out)
    have TA := Lib.hid ho
    replace BT := Lib.hid (BT.out.trans (BB7.out.mono BT.out.size))
    clear hb ho
    go_wp2_with fail
    refine (oddr_f T1.out hl3.out).mono ?_
    intro e W8 hm
    obtain ⟨o8, n8, c8, rfl, ho, hb⟩ := makes_n hm
    clear hm
    have BB8 := Lib.hid hb
    replace T1 := Lib.hid (T1.out.below BB8.out)
    replace T2 := Lib.hid (T2.out.below BB8.out)
    replace TZ := Lib.hid (TZ.out.below BB8.out)
    replace TY := Lib.hid (TY.out.below BB8.out)
    replace TA := Lib.hid (TA.out.below BB8.out)
    have TB := Lib.hid ho
    replace BT := Lib.hid (BT.out.trans (BB8.out.mono BT.out.size))
    clear hb ho
    go_wp2_with fail
    refine (sameRow_f TA.out TB.out rfl (by rw [takes_length]; have := hl3.out; omega)).mono ?_
    rintro e W9 ⟨rfl, hb⟩
    have BB9 := Lib.hid hb
    replace T1 := Lib.hid (T1.out.below BB9.out)
    replace T2 := Lib.hid (T2.out.below BB9.out)
    replace TZ := Lib.hid (TZ.out.below BB9.out)
    replace TY := Lib.hid (TY.out.below BB9.out)
    replace TA := Lib.hid (TA.out.below BB9.out)
    replace TB := Lib.hid (TB.out.below BB9.out)
    replace BT := Lib.hid (BT.out.trans (BB9.out.mono BT.out.size))
    clear hb
    clear TA
    clear TB
    go_wp2_with fail
    refine (sameRow_f TZ.out TY.out rfl (by rw [zips_length]; have := hl3.out; have := hl4.out; omega)).mono ?_
    rintro e W10 ⟨rfl, hb⟩
    have BB10 := Lib.hid hb
    replace T1 := Lib.hid (T1.out.below BB10.out)
    replace T2 := Lib.hid (T2.out.below BB10.out)
    replace TZ := Lib.hid (TZ.out.below BB10.out)
    replace TY := Lib.hid (TY.out.below BB10.out)
    replace BT := Lib.hid (BT.out.trans (BB10.out.mono BT.out.size))
    clear hb
    clear TZ
    clear TY
    go_wp2_with fail
    refine (rev_f T1.out hl3.out).mono ?_
    intro e W11 hm
    obtain ⟨o11, n11, c11, rfl, ho, hb⟩ := makes_n hm
    clear hm
    have BB11 := Lib.hid hb
    replace T1 := Lib.hid (T1.out.below BB11.out)
    replace T2 := Lib.hid (T2.out.below BB11.out)
    have TA := Lib.hid ho
    replace BT := Lib.hid (BT.out.trans (BB11.out.mono BT.out.size))
    clear hb ho
    go_wp2_with fail
    refine (revr_f T1.out hl3.out).mono ?_
    intro e W12 hm
    obtain ⟨o12, n12, c12, rfl, ho, hb⟩ := makes_n hm
    clear hm
    have BB12 := Lib.hid hb
    replace T1 := Lib.hid (T1.out.below BB12.out)
    replace T2 := Lib.hid (T2.out.below BB12.out)
    replace TA := Lib.hid (TA.out.below BB12.out)
    have TB := Lib.hid ho
    replace BT := Lib.hid (BT.out.trans (BB12.out.mono BT.out.size))
    clear hb ho
    go_wp2_with fail
    refine (sameRow_f TA.out TB.out rfl (by rw [revs_length]; have := hl3.out; omega)).mono ?_
    rintro e W13 ⟨rfl, hb⟩
    have BB13 := Lib.hid hb
    replace T1 := Lib.hid (T1.out.below BB13.out)
    replace T2 := Lib.hid (T2.out.below BB13.out)
    replace TA := Lib.hid (TA.out.below BB13.out)
    replace TB := Lib.hid (TB.out.below BB13.out)
    replace BT := Lib.hid (BT.out.trans (BB13.out.mono BT.out.size))
    clear hb
    clear TA
    clear TB
    go_wp2_with fail
    refine (signs_f T1.out hl3.out).mono ?_
    intro e W14 hm
    obtain ⟨o14, n14, c14, rfl, ho, hb⟩ := makes_n hm
    clear hm
    have BB14 := Lib.hid hb
    replace T1 := Lib.hid (T1.out.below BB14.out)
    replace T2 := Lib.hid (T2.out.below BB14.out)
    have TA := Lib.hid ho
    replace BT := Lib.hid (BT.out.trans (BB14.out.mono BT.out.size))
    clear hb ho
    go_wp2_with fail
    refine (signsr_f T1.out hl3.out).mono ?_
    intro e W15 hm
    obtain ⟨o15, n15, c15, rfl, ho, hb⟩ := makes_n hm
    clear hm
    have BB15 := Lib.hid hb
    replace T1 := Lib.hid (T1.out.below BB15.out)
    replace T2 := Lib.hid (T2.out.below BB15.out)
    replace TA := Lib.hid (TA.out.below BB15.out)
    have TB := Lib.hid ho
    replace BT := Lib.hid (BT.out.trans (BB15.out.mono BT.out.size))
    clear hb ho
    go_wp2_with fail
    refine (sameRow_f TA.out TB.out rfl (by rw [signs_length]; have := hl3.out; omega)).mono ?_
    rintro e W16 ⟨rfl, hb⟩
    have BB16 := Lib.hid hb
    replace T1 := Lib.hid (T1.out.below BB16.out)
    replace T2 := Lib.hid (T2.out.below BB16.out)
    replace TA := Lib.hid (TA.out.below BB16.out)
    replace TB := Lib.hid (TB.out.below BB16.out)
    replace BT := Lib.hid (BT.out.trans (BB16.out.mono BT.out.size))
    clear hb
    clear TA
    clear TB
    go_wp2_with fail
    refine (fold_f T1.out hl3.out).mono ?_
    intro e W17 hm
    obtain ⟨o17, n17, c17, rfl, ho, hb⟩ := makes_n hm
    clear hm
    have BB17 := Lib.hid hb
    replace T1 := Lib.hid (T1.out.below BB17.out)
    replace T2 := Lib.hid (T2.out.below BB17.out)
    have TA := Lib.hid ho
    replace BT := Lib.hid (BT.out.trans (BB17.out.mono BT.out.size))
    clear hb ho
    go_wp2_with fail
    refine (foldr_f T1.out hl3.out).mono ?_
    intro e W18 hm
    obtain ⟨o18, n18, c18, rfl, ho, hb⟩ := makes_n hm
    clear hm
    have BB18 := Lib.hid hb
    replace T1 := Lib.hid (T1.out.below BB18.out)
    replace T2 := Lib.hid (T2.out.below BB18.out)
    replace TA := Lib.hid (TA.out.below BB18.out)
    have TB := Lib.hid ho
    replace BT := Lib.hid (BT.out.trans (BB18.out.mono BT.out.size))
    clear hb ho
    go_wp2_with fail
    refine (sameRow_f TA.out TB.out rfl (by rw [folds_length]; have := hl3.out; omega)).mono ?_
    rintro e W19 ⟨rfl, hb⟩
    have BB19 := Lib.hid hb
    replace T1 := Lib.hid (T1.out.below BB19.out)
    replace T2 := Lib.hid (T2.out.below BB19.out)
    replace TA := Lib.hid (TA.out.below BB19.out)
    replace TB := Lib.hid (TB.out.below BB19.out)
    replace BT := Lib.hid (BT.out.trans (BB19.out.mono BT.out.size))
    clear hb
    clear TA
    clear TB
    go_wp2_with fail
    refine (unfold_fla T1.out hl3.out).mono ?_
    intro e W20 hm
    obtain ⟨o20, n20, c20, rfl, ho, hb⟩ := makes_n hm
    clear hm
    have BB20 := Lib.hid hb
    replace T1 := Lib.hid (T1.out.below BB20.out)
    replace T2 := Lib.hid (T2.out.below BB20.out)
    have TA := Lib.hid ho
    replace BT := Lib.hid (BT.out.trans (BB20.out.mono BT.out.size))
    clear hb ho
    go_wp2_with fail
    refine (unfoldr_f T1.out hl3.out).mono ?_
    intro e W21 hm
    obtain ⟨o21, n21, c21, rfl, ho, hb⟩ := makes_n hm
    clear hm
    have BB21 := Lib.hid hb
    replace T1 := Lib.hid (T1.out.below BB21.out)
    replace T2 := Lib.hid (T2.out.below BB21.out)
    replace TA := Lib.hid (TA.out.below BB21.out)
    have TB := Lib.hid ho
    replace BT := Lib.hid (BT.out.trans (BB21.out.mono BT.out.size))
    clear hb ho
    go_wp2_with fail
    refine (sameRow_f TA.out TB.out rfl (by rw [unfolds_length]; have := hl3.out; omega)).mono ?_
    rintro e W22 ⟨rfl, hb⟩
    have BB22 := Lib.hid hb
    replace T1 := Lib.hid (T1.out.below BB22.out)
    replace T2 := Lib.hid (T2.out.below BB22.out)
    replace TA := Lib.hid (TA.out.below BB22.out)
    replace TB := Lib.hid (TB.out.below BB22.out)
    replace BT := Lib.hid (BT.out.trans (BB22.out.mono BT.out.size))
    clear hb
    clear TA
    clear TB
    go_wp2_with fail
    refine (mirror_fla odd T1.out hl3.out).mono ?_
    intro e W23 hm
    obtain ⟨o23, n23, c23, rfl, ho, hb⟩ := makes_n hm
    clear hm
    have BB23 := Lib.hid hb
    replace T1 := Lib.hid (T1.out.below BB23.out)
    replace T2 := Lib.hid (T2.out.below BB23.out)
    have TA := Lib.hid ho
    replace BT := Lib.hid (BT.out.trans (BB23.out.mono BT.out.size))
    clear hb ho
    go_wp2_with fail
    refine (mirrorr_f odd T1.out hl3.out).mono ?_
    intro e W24 hm
    obtain ⟨o24, n24, c24, rfl, ho, hb⟩ := makes_n hm
    clear hm
    have BB24 := Lib.hid hb
    replace T1 := Lib.hid (T1.out.below BB24.out)
    replace T2 := Lib.hid (T2.out.below BB24.out)
    replace TA := Lib.hid (TA.out.below BB24.out)
    have TB := Lib.hid ho
    replace BT := Lib.hid (BT.out.trans (BB24.out.mono BT.out.size))
    clear hb ho
    go_wp2_with fail
    refine (sameRow_f TA.out TB.out rfl (by rw [mirrors_length]; have := hl3.out; omega)).mono ?_
    rintro e W25 ⟨rfl, hb⟩
    have BB25 := Lib.hid hb
    replace T1 := Lib.hid (T1.out.below BB25.out)
    replace T2 := Lib.hid (T2.out.below BB25.out)
    replace TA := Lib.hid (TA.out.below BB25.out)
    replace TB := Lib.hid (TB.out.below BB25.out)
    replace BT := Lib.hid (BT.out.trans (BB25.out.mono BT.out.size))
    clear hb
    clear TA
    clear TB
    go_wp2
    go_ret
    exact ⟨rfl, BT.out⟩

set_option maxHeartbeats 4000000 in
theorem permTells_yes_big (a a' : Option Addr) (len cap len' cap' : Nat) (l l' : List Nat) (p : Int) (odd : Bool) (w : World) (hr : RowF w a len cap l) (hr' : RowF w a' len' cap' l') (h : (len : Int) ≤ 300) (h' : (len' : Int) ≤ 300) (hd : len = len' ∨ len = len' + 1) (hp : 12 < p) : Calls Try.prog 3 #[.slice a len cap, .slice a' len' cap', .int .i64 p, .bool odd] w fun e w' => e = .returned (.bool true) ∧ Below w.heap.size w w' := by
  have T1 := Lib.hid hr.fla
  have T2 := Lib.hid hr'.fla
  have hl : Hid (l.length = len) := Lib.hid hr.1.1
  have hl' : Hid (l'.length = len') := Lib.hid hr'.1.1
  have HD := Lib.hid hd
  have hl3 : Hid (l.length ≤ 2000) := Lib.hid (by rw [hr.1.1]; omega)
  have hl4 : Hid (l'.length ≤ 2000) := Lib.hid (by rw [hr'.1.1]; omega)
  clear hr hr' hd
  go_enter Try.func3, Try.ntmps3
  go_wp2_with fail
  refine (l10_head _).mono ?_
  rintro e W1 ⟨rfl, hb⟩
  have BB1 := Lib.hid hb
  replace T1 := Lib.hid (T1.out.below BB1.out)
  replace T2 := Lib.hid (T2.out.below BB1.out)
  have BT := BB1
  clear hb
  have hz : Hid (l.length = l'.length ∨ l.length = l'.length + 1) := Lib.hid (by rw [hl.out, hl'.out]; exact HD.out)
  go_wp2_with fail
  refine (zip_f T1.out T2.out hl3.out hl4.out hz.out).mono ?_
  intro e W2 hm
  obtain ⟨o2, n2, c2, rfl, ho, hb⟩ := makes2_n hm
  clear hm
  have BB2 := Lib.hid hb
  replace T1 := Lib.hid (T1.out.below BB2.out)
  replace T2 := Lib.hid (T2.out.below BB2.out)
  have TZ := Lib.hid ho
  replace BT := Lib.hid (BT.out.trans (BB2.out.mono BT.out.size))
  clear hb ho
  go_wp2_with fail
  refine (zipr_f T1.out T2.out hl3.out hl4.out hz.out).mono ?_
  intro e W3 hm
  obtain ⟨o3, n3, c3, rfl, ho, hb⟩ := makes2_n hm
  clear hm
  have BB3 := Lib.hid hb
  replace T1 := Lib.hid (T1.out.below BB3.out)
  replace T2 := Lib.hid (T2.out.below BB3.out)
  replace TZ := Lib.hid (TZ.out.below BB3.out)
  have TY := Lib.hid ho
  replace BT := Lib.hid (BT.out.trans (BB3.out.mono BT.out.size))
  clear hb ho
  go_wp2_with fail
  refine (bits_no p _ (.inr hp)).mono ?_
  rintro e W' ⟨rfl, hw⟩
  obtain rfl := hw.symm
  go_wp2_with fail
  refine (bitsr_no p _ (.inr hp)).mono ?_
  rintro e W' ⟨rfl, hw⟩
  obtain rfl := hw.symm
  go_wp2
  go_loopw [16] (fun i wr => i = .int .i64 0 ∧ Hid (Below W3.heap.size W3 wr)) (fun _ _ => 0)
  case atStart => exact ⟨rfl, Lib.hid (Below.refl _ _)⟩
  case round =>
    obtain ⟨rfl, hbl⟩ := hrel
    replace T1 := Lib.hid (T1.out.below hbl.out)
    replace T2 := Lib.hid (T2.out.below hbl.out)
    replace TZ := Lib.hid (TZ.out.below hbl.out)
    replace TY := Lib.hid (TY.out.below hbl.out)
    replace BT := Lib.hid (BT.out.trans (hbl.out.mono BT.out.size))
    go_wp2_with fail
    refine (even_f T1.out hl3.out).mono ?_
    intro e W4 hm
    obtain ⟨o4, n4, c4, rfl, ho, hb⟩ := makes_n hm
    clear hm
    have BB4 := Lib.hid hb
    replace T1 := Lib.hid (T1.out.below BB4.out)
    replace T2 := Lib.hid (T2.out.below BB4.out)
    replace TZ := Lib.hid (TZ.out.below BB4.out)
    replace TY := Lib.hid (TY.out.below BB4.out)
    have TA := Lib.hid ho
    replace BT := Lib.hid (BT.out.trans (BB4.out.mono BT.out.size))
    clear hb ho
    go_wp2_with fail
    refine (evenr_f T1.out hl3.out).mono ?_
    intro e W5 hm
    obtain ⟨o5, n5, c5, rfl, ho, hb⟩ := makes_n hm
    clear hm
    have BB5 := Lib.hid hb
    replace T1 := Lib.hid (T1.out.below BB5.out)
    replace T2 := Lib.hid (T2.out.below BB5.out)
    replace TZ := Lib.hid (TZ.out.below BB5.out)
    replace TY := Lib.hid (TY.out.below BB5.out)
    replace TA := Lib.hid (TA.out.below BB5.out)
    have TB := Lib.hid ho
    replace BT := Lib.hid (BT.out.trans (BB5.out.mono BT.out.size))
    clear hb ho
    go_wp2_with fail
    refine (sameRow_f TA.out TB.out rfl (by rw [takes_length]; have := hl3.out; omega)).mono ?_
    rintro e W6 ⟨rfl, hb⟩
    have BB6 := Lib.hid hb
    replace T1 := Lib.hid (T1.out.below BB6.out)
    replace T2 := Lib.hid (T2.out.below BB6.out)
    replace TZ := Lib.hid (TZ.out.below BB6.out)
    replace TY := Lib.hid (TY.out.below BB6.out)
    replace TA := Lib.hid (TA.out.below BB6.out)
    replace TB := Lib.hid (TB.out.below BB6.out)
    replace BT := Lib.hid (BT.out.trans (BB6.out.mono BT.out.size))
    clear hb
    clear TA
    clear TB
    go_wp2_with fail
    refine (odd_f T1.out hl3.out).mono ?_
    intro e W7 hm
    obtain ⟨o7, n7, c7, rfl, ho, hb⟩ := makes_n hm
    clear hm
    have BB7 := Lib.hid hb
    replace T1 := Lib.hid (T1.out.below BB7.out)
    replace T2 := Lib.hid (T2.out.below BB7.out)
    replace TZ := Lib.hid (TZ.out.below BB7.out)
    replace TY := Lib.hid (TY.out.below BB7.out)
    have TA := Lib.hid ho
    replace BT := Lib.hid (BT.out.trans (BB7.out.mono BT.out.size))
    clear hb ho
    go_wp2_with fail
    refine (oddr_f T1.out hl3.out).mono ?_
    intro e W8 hm
    obtain ⟨o8, n8, c8, rfl, ho, hb⟩ := makes_n hm
    clear hm
    have BB8 := Lib.hid hb
    replace T1 := Lib.hid (T1.out.below BB8.out)
    replace T2 := Lib.hid (T2.out.below BB8.out)
    replace TZ := Lib.hid (TZ.out.below BB8.out)
    replace TY := Lib.hid (TY.out.below BB8.out)
    replace TA := Lib.hid (TA.out.below BB8.out)
    have TB := Lib.hid ho
    replace BT := Lib.hid (BT.out.trans (BB8.out.mono BT.out.size))
    clear hb ho
    go_wp2_with fail
    refine (sameRow_f TA.out TB.out rfl (by rw [takes_length]; have := hl3.out; omega)).mono ?_
    rintro e W9 ⟨rfl, hb⟩
    have BB9 := Lib.hid hb
    replace T1 := Lib.hid (T1.out.below BB9.out)
    replace T2 := Lib.hid (T2.out.below BB9.out)
    replace TZ := Lib.hid (TZ.out.below BB9.out)
    replace TY := Lib.hid (TY.out.below BB9.out)
    replace TA := Lib.hid (TA.out.below BB9.out)
    replace TB := Lib.hid (TB.out.below BB9.out)
    replace BT := Lib.hid (BT.out.trans (BB9.out.mono BT.out.size))
    clear hb
    clear TA
    clear TB
    go_wp2_with fail
    refine (sameRow_f TZ.out TY.out rfl (by rw [zips_length]; have := hl3.out; have := hl4.out; omega)).mono ?_
    rintro e W10 ⟨rfl, hb⟩
    have BB10 := Lib.hid hb
    replace T1 := Lib.hid (T1.out.below BB10.out)
    replace T2 := Lib.hid (T2.out.below BB10.out)
    replace TZ := Lib.hid (TZ.out.below BB10.out)
    replace TY := Lib.hid (TY.out.below BB10.out)
    replace BT := Lib.hid (BT.out.trans (BB10.out.mono BT.out.size))
    clear hb
    clear TZ
    clear TY
    go_wp2_with fail
    refine (rev_f T1.out hl3.out).mono ?_
    intro e W11 hm
    obtain ⟨o11, n11, c11, rfl, ho, hb⟩ := makes_n hm
    clear hm
    have BB11 := Lib.hid hb
    replace T1 := Lib.hid (T1.out.below BB11.out)
    replace T2 := Lib.hid (T2.out.below BB11.out)
    have TA := Lib.hid ho
    replace BT := Lib.hid (BT.out.trans (BB11.out.mono BT.out.size))
    clear hb ho
    go_wp2_with fail
    refine (revr_f T1.out hl3.out).mono ?_
    intro e W12 hm
    obtain ⟨o12, n12, c12, rfl, ho, hb⟩ := makes_n hm
    clear hm
    have BB12 := Lib.hid hb
    replace T1 := Lib.hid (T1.out.below BB12.out)
    replace T2 := Lib.hid (T2.out.below BB12.out)
    replace TA := Lib.hid (TA.out.below BB12.out)
    have TB := Lib.hid ho
    replace BT := Lib.hid (BT.out.trans (BB12.out.mono BT.out.size))
    clear hb ho
    go_wp2_with fail
    refine (sameRow_f TA.out TB.out rfl (by rw [revs_length]; have := hl3.out; omega)).mono ?_
    rintro e W13 ⟨rfl, hb⟩
    have BB13 := Lib.hid hb
    replace T1 := Lib.hid (T1.out.below BB13.out)
    replace T2 := Lib.hid (T2.out.below BB13.out)
    replace TA := Lib.hid (TA.out.below BB13.out)
    replace TB := Lib.hid (TB.out.below BB13.out)
    replace BT := Lib.hid (BT.out.trans (BB13.out.mono BT.out.size))
    clear hb
    clear TA
    clear TB
    go_wp2_with fail
    refine (signs_f T1.out hl3.out).mono ?_
    intro e W14 hm
    obtain ⟨o14, n14, c14, rfl, ho, hb⟩ := makes_n hm
    clear hm
    have BB14 := Lib.hid hb
    replace T1 := Lib.hid (T1.out.below BB14.out)
    replace T2 := Lib.hid (T2.out.below BB14.out)
    have TA := Lib.hid ho
    replace BT := Lib.hid (BT.out.trans (BB14.out.mono BT.out.size))
    clear hb ho
    go_wp2_with fail
    refine (signsr_f T1.out hl3.out).mono ?_
    intro e W15 hm
    obtain ⟨o15, n15, c15, rfl, ho, hb⟩ := makes_n hm
    clear hm
    have BB15 := Lib.hid hb
    replace T1 := Lib.hid (T1.out.below BB15.out)
    replace T2 := Lib.hid (T2.out.below BB15.out)
    replace TA := Lib.hid (TA.out.below BB15.out)
    have TB := Lib.hid ho
    replace BT := Lib.hid (BT.out.trans (BB15.out.mono BT.out.size))
    clear hb ho
    go_wp2_with fail
    refine (sameRow_f TA.out TB.out rfl (by rw [signs_length]; have := hl3.out; omega)).mono ?_
    rintro e W16 ⟨rfl, hb⟩
    have BB16 := Lib.hid hb
    replace T1 := Lib.hid (T1.out.below BB16.out)
    replace T2 := Lib.hid (T2.out.below BB16.out)
    replace TA := Lib.hid (TA.out.below BB16.out)
    replace TB := Lib.hid (TB.out.below BB16.out)
    replace BT := Lib.hid (BT.out.trans (BB16.out.mono BT.out.size))
    clear hb
    clear TA
    clear TB
    go_wp2_with fail
    refine (fold_f T1.out hl3.out).mono ?_
    intro e W17 hm
    obtain ⟨o17, n17, c17, rfl, ho, hb⟩ := makes_n hm
    clear hm
    have BB17 := Lib.hid hb
    replace T1 := Lib.hid (T1.out.below BB17.out)
    replace T2 := Lib.hid (T2.out.below BB17.out)
    have TA := Lib.hid ho
    replace BT := Lib.hid (BT.out.trans (BB17.out.mono BT.out.size))
    clear hb ho
    go_wp2_with fail
    refine (foldr_f T1.out hl3.out).mono ?_
    intro e W18 hm
    obtain ⟨o18, n18, c18, rfl, ho, hb⟩ := makes_n hm
    clear hm
    have BB18 := Lib.hid hb
    replace T1 := Lib.hid (T1.out.below BB18.out)
    replace T2 := Lib.hid (T2.out.below BB18.out)
    replace TA := Lib.hid (TA.out.below BB18.out)
    have TB := Lib.hid ho
    replace BT := Lib.hid (BT.out.trans (BB18.out.mono BT.out.size))
    clear hb ho
    go_wp2_with fail
    refine (sameRow_f TA.out TB.out rfl (by rw [folds_length]; have := hl3.out; omega)).mono ?_
    rintro e W19 ⟨rfl, hb⟩
    have BB19 := Lib.hid hb
    replace T1 := Lib.hid (T1.out.below BB19.out)
    replace T2 := Lib.hid (T2.out.below BB19.out)
    replace TA := Lib.hid (TA.out.below BB19.out)
    replace TB := Lib.hid (TB.out.below BB19.out)
    replace BT := Lib.hid (BT.out.trans (BB19.out.mono BT.out.size))
    clear hb
    clear TA
    clear TB
    go_wp2_with fail
    refine (unfold_fla T1.out hl3.out).mono ?_
    intro e W20 hm
    obtain ⟨o20, n20, c20, rfl, ho, hb⟩ := makes_n hm
    clear hm
    have BB20 := Lib.hid hb
    replace T1 := Lib.hid (T1.out.below BB20.out)
    replace T2 := Lib.hid (T2.out.below BB20.out)
    have TA := Lib.hid ho
    replace BT := Lib.hid (BT.out.trans (BB20.out.mono BT.out.size))
    clear hb ho
    go_wp2_with fail
    refine (unfoldr_f T1.out hl3.out).mono ?_
    intro e W21 hm
    obtain ⟨o21, n21, c21, rfl, ho, hb⟩ := makes_n hm
    clear hm
    have BB21 := Lib.hid hb
    replace T1 := Lib.hid (T1.out.below BB21.out)
    replace T2 := Lib.hid (T2.out.below BB21.out)
    replace TA := Lib.hid (TA.out.below BB21.out)
    have TB := Lib.hid ho
    replace BT := Lib.hid (BT.out.trans (BB21.out.mono BT.out.size))
    clear hb ho
    go_wp2_with fail
    refine (sameRow_f TA.out TB.out rfl (by rw [unfolds_length]; have := hl3.out; omega)).mono ?_
    rintro e W22 ⟨rfl, hb⟩
    have BB22 := Lib.hid hb
    replace T1 := Lib.hid (T1.out.below BB22.out)
    replace T2 := Lib.hid (T2.out.below BB22.out)
    replace TA := Lib.hid (TA.out.below BB22.out)
    replace TB := Lib.hid (TB.out.below BB22.out)
    replace BT := Lib.hid (BT.out.trans (BB22.out.mono BT.out.size))
    clear hb
    clear TA
    clear TB
    go_wp2_with fail
    refine (mirror_fla odd T1.out hl3.out).mono ?_
    intro e W23 hm
    obtain ⟨o23, n23, c23, rfl, ho, hb⟩ := makes_n hm
    clear hm
    have BB23 := Lib.hid hb
    replace T1 := Lib.hid (T1.out.below BB23.out)
    replace T2 := Lib.hid (T2.out.below BB23.out)
    have TA := Lib.hid ho
    replace BT := Lib.hid (BT.out.trans (BB23.out.mono BT.out.size))
    clear hb ho
    go_wp2_with fail
    refine (mirrorr_f odd T1.out hl3.out).mono ?_
    intro e W24 hm
    obtain ⟨o24, n24, c24, rfl, ho, hb⟩ := makes_n hm
    clear hm
    have BB24 := Lib.hid hb
    replace T1 := Lib.hid (T1.out.below BB24.out)
    replace T2 := Lib.hid (T2.out.below BB24.out)
    replace TA := Lib.hid (TA.out.below BB24.out)
    have TB := Lib.hid ho
    replace BT := Lib.hid (BT.out.trans (BB24.out.mono BT.out.size))
    clear hb ho
    go_wp2_with fail
    refine (sameRow_f TA.out TB.out rfl (by rw [mirrors_length]; have := hl3.out; omega)).mono ?_
    rintro e W25 ⟨rfl, hb⟩
    have BB25 := Lib.hid hb
    replace T1 := Lib.hid (T1.out.below BB25.out)
    replace T2 := Lib.hid (T2.out.below BB25.out)
    replace TA := Lib.hid (TA.out.below BB25.out)
    replace TB := Lib.hid (TB.out.below BB25.out)
    replace BT := Lib.hid (BT.out.trans (BB25.out.mono BT.out.size))
    clear hb
    clear TA
    clear TB
    go_wp2
    go_ret
    exact ⟨rfl, BT.out⟩

set_option maxHeartbeats 4000000 in
theorem permTells_no_in (a a' : Option Addr) (len cap len' cap' : Nat) (l l' : List Nat) (p : Nat) (odd : Bool) (w : World) (hr : RowF w a len cap l) (hr' : RowF w a' len' cap' l') (h : (len : Int) ≤ 300) (h' : (len' : Int) ≤ 300) (hd : ¬ (len = len' ∨ len = len' + 1)) (hp : p ≤ 6) : Calls Try.prog 3 #[.slice a len cap, .slice a' len' cap', .int .i64 p, .bool odd] w fun e w' => e = .returned (.bool true) ∧ Below w.heap.size w w' := by
  have T1 := Lib.hid hr.fla
  have T2 := Lib.hid hr'.fla
  have hl : Hid (l.length = len) := Lib.hid hr.1.1
  have hl' : Hid (l'.length = len') := Lib.hid hr'.1.1
  have HD := Lib.hid hd
  have hl3 : Hid (l.length ≤ 2000) := Lib.hid (by rw [hr.1.1]; omega)
  have hl4 : Hid (l'.length ≤ 2000) := Lib.hid (by rw [hr'.1.1]; omega)
  have hp6 : (p : Int) ≤ 6 := by omega
  obtain ⟨m, hm⟩ : ∃ m : Nat, m = 2 ^ p := ⟨_, rfl⟩
  have hm0 : 0 < m := by rw [hm]; exact Nat.two_pow_pos p
  have hm1 : m ≤ 64 := by rw [hm]; exact Nat.pow_le_pow_right (n := 2) (i := p) (j := 6) (by decide) hp
  have HM := Lib.hid hm
  clear hm
  clear hr hr' hd
  go_enter Try.func3, Try.ntmps3
  go_wp2_with fail
  refine (l10_head _).mono ?_
  rintro e W1 ⟨rfl, hb⟩
  have BB1 := Lib.hid hb
  replace T1 := Lib.hid (T1.out.below BB1.out)
  replace T2 := Lib.hid (T2.out.below BB1.out)
  have BT := BB1
  clear hb
  go_wp2_with fail
  refine (zip_no a a' len len' cap cap' _ (by omega) (by omega) HD.out).mono ?_
  rintro e W' ⟨rfl, hw⟩
  obtain rfl := hw.symm
  go_wp2_with fail
  refine (zipr_no a a' len len' cap cap' _ (by omega) (by omega) HD.out).mono ?_
  rintro e W' ⟨rfl, hw⟩
  obtain rfl := hw.symm
  go_wp2_with fail
  refine (bits_c p (by omega) _).mono ?_
  rintro e W2 ⟨v2, rfl, ho, hb⟩
  rw [← HM.out] at ho
  obtain ⟨g1, capg1, rfl, _, hg1, hc, _⟩ := ownsI_pos ho hm0
  have BB2 := Lib.hid hb
  replace T1 := Lib.hid (T1.out.below BB2.out)
  replace T2 := Lib.hid (T2.out.below BB2.out)
  have HC1 := Lib.hid hc
  replace BT := Lib.hid (BT.out.trans (BB2.out.mono BT.out.size))
  clear hb ho hc
  go_wp2_with fail
  refine (bitsr_c p (by omega) _).mono ?_
  rintro e W3 ⟨v3, rfl, ho, hb⟩
  rw [← HM.out] at ho
  obtain ⟨g2, capg2, rfl, _, hg2, hc, _⟩ := ownsI_pos ho hm0
  have BB3 := Lib.hid hb
  replace T1 := Lib.hid (T1.out.below BB3.out)
  replace T2 := Lib.hid (T2.out.below BB3.out)
  replace HC1 := Lib.hid (fun j (hj : j < m) => (hb.cell (p := ⟨g1, j, none⟩) hg1).trans (HC1.out j hj))
  have HC2 := Lib.hid hc
  replace BT := Lib.hid (BT.out.trans (BB3.out.mono BT.out.size))
  clear hb ho hc
  go_wp2
  go_loopw [16] (fun i wr => ∃ k : Nat, k ≤ m ∧ i = .int .i64 k ∧ Hid (Below W3.heap.size W3 wr)) (fun i _ => m - (intOf i).toNat)
  case atStart => exact ⟨0, Nat.zero_le _, rfl, Lib.hid (Below.refl _ _)⟩
  case round =>
    obtain ⟨k, hk, rfl, hbl⟩ := hrel
    by_cases hlt : k < m
    · have hki : (k : Int) < (m : Int) := by omega
      obtain ⟨y, hy⟩ : ∃ y, (bits p).getD k 0 = y := ⟨_, rfl⟩
      have h1 := HC1.out k hlt
      have h2 := HC2.out k hlt
      rw [hy] at h1 h2
      have h3 := (hbl.out.cell (p := ⟨g1, k, none⟩) (cell_lt h1)).trans h1
      have h4 := (hbl.out.cell (p := ⟨g2, k, none⟩) (cell_lt h2)).trans h2
      clear h1 h2 hy
      go_wp2
      go_quiet (fail)
      go_wp2
      go_roundw
      case rel => exact ⟨k + 1, by omega, by go_num, Lib.hid ⟨hbl.out.os, hbl.out.tape, hbl.out.output, hbl.out.size, hbl.out.block⟩⟩
      case measure => simp [intOf] <;> omega
    have hkm : k = m := by omega
    subst hkm
    clear HC1 HC2
    replace T1 := Lib.hid (T1.out.below hbl.out)
    replace T2 := Lib.hid (T2.out.below hbl.out)
    replace BT := Lib.hid (BT.out.trans (hbl.out.mono BT.out.size))
    go_wp2_with fail
    refine (even_f T1.out hl3.out).mono ?_
    intro e W4 hm
    obtain ⟨o4, n4, c4, rfl, ho, hb⟩ := makes_n hm
    clear hm
    have BB4 := Lib.hid hb
    replace T1 := Lib.hid (T1.out.below BB4.out)
    replace T2 := Lib.hid (T2.out.below BB4.out)
    have TA := Lib.hid ho
    replace BT := Lib.hid (BT.out.trans (BB4.out.mono BT.out.size))
    clear hb ho
    go_wp2_with fail
    refine (evenr_f T1.out hl3.out).mono ?_
    intro e W5 hm
    obtain ⟨o5, n5, c5, rfl, ho, hb⟩ := makes_n hm
    clear hm
    have BB5 := Lib.hid hb
    replace T1 := Lib.hid (T1.out.below BB5.out)
    replace T2 := Lib.hid (T2.out.below BB5.out)
    replace TA := Lib.hid (TA.out.below BB5.out)
    have TB := Lib.hid ho
    replace BT := Lib.hid (BT.out.trans (BB5.out.mono BT.out.size))
    clear hb ho
    go_wp2_with fail
    refine (sameRow_f TA.out TB.out rfl (by rw [takes_length]; have := hl3.out; omega)).mono ?_
    rintro e W6 ⟨rfl, hb⟩
    have BB6 := Lib.hid hb
    replace T1 := Lib.hid (T1.out.below BB6.out)
    replace T2 := Lib.hid (T2.out.below BB6.out)
    replace TA := Lib.hid (TA.out.below BB6.out)
    replace TB := Lib.hid (TB.out.below BB6.out)
    replace BT := Lib.hid (BT.out.trans (BB6.out.mono BT.out.size))
    clear hb
    clear TA
    clear TB
    go_wp2_with fail
    refine (odd_f T1.out hl3.out).mono ?_
    intro e W7 hm
    obtain ⟨o7, n7, c7, rfl, ho, hb⟩ := makes_n hm
    clear hm
    have BB7 := Lib.hid hb
    replace T1 := Lib.hid (T1.out.below BB7.out)
    replace T2 := Lib.hid (T2.out.below BB7.out)
    have TA := Lib.hid ho
    replace BT := Lib.hid (BT.out.trans (BB7.out.mono BT.out.size))
    clear hb ho
    go_wp2_with fail
    refine (oddr_f T1.out hl3.out).mono ?_
    intro e W8 hm
    obtain ⟨o8, n8, c8, rfl, ho, hb⟩ := makes_n hm
    clear hm
    have BB8 := Lib.hid hb
    replace T1 := Lib.hid (T1.out.below BB8.out)
    replace T2 := Lib.hid (T2.out.below BB8.out)
    replace TA := Lib.hid (TA.out.below BB8.out)
    have TB := Lib.hid ho
    replace BT := Lib.hid (BT.out.trans (BB8.out.mono BT.out.size))
    clear hb ho
    go_wp2_with fail
    refine (sameRow_f TA.out TB.out rfl (by rw [takes_length]; have := hl3.out; omega)).mono ?_
    rintro e W9 ⟨rfl, hb⟩
    have BB9 := Lib.hid hb
    replace T1 := Lib.hid (T1.out.below BB9.out)
    replace T2 := Lib.hid (T2.out.below BB9.out)
    replace TA := Lib.hid (TA.out.below BB9.out)
    replace TB := Lib.hid (TB.out.below BB9.out)
    replace BT := Lib.hid (BT.out.trans (BB9.out.mono BT.out.size))
    clear hb
    clear TA
    clear TB
    go_wp2_with fail
    refine (sameRow_f (fla_nil _) (fla_nil _) rfl (by decide)).mono ?_
    rintro e W10 ⟨rfl, hb⟩
    have BB10 := Lib.hid hb
    replace T1 := Lib.hid (T1.out.below BB10.out)
    replace T2 := Lib.hid (T2.out.below BB10.out)
    replace BT := Lib.hid (BT.out.trans (BB10.out.mono BT.out.size))
    clear hb
    go_wp2_with fail
    refine (rev_f T1.out hl3.out).mono ?_
    intro e W11 hm
    obtain ⟨o11, n11, c11, rfl, ho, hb⟩ := makes_n hm
    clear hm
    have BB11 := Lib.hid hb
    replace T1 := Lib.hid (T1.out.below BB11.out)
    replace T2 := Lib.hid (T2.out.below BB11.out)
    have TA := Lib.hid ho
    replace BT := Lib.hid (BT.out.trans (BB11.out.mono BT.out.size))
    clear hb ho
    go_wp2_with fail
    refine (revr_f T1.out hl3.out).mono ?_
    intro e W12 hm
    obtain ⟨o12, n12, c12, rfl, ho, hb⟩ := makes_n hm
    clear hm
    have BB12 := Lib.hid hb
    replace T1 := Lib.hid (T1.out.below BB12.out)
    replace T2 := Lib.hid (T2.out.below BB12.out)
    replace TA := Lib.hid (TA.out.below BB12.out)
    have TB := Lib.hid ho
    replace BT := Lib.hid (BT.out.trans (BB12.out.mono BT.out.size))
    clear hb ho
    go_wp2_with fail
    refine (sameRow_f TA.out TB.out rfl (by rw [revs_length]; have := hl3.out; omega)).mono ?_
    rintro e W13 ⟨rfl, hb⟩
    have BB13 := Lib.hid hb
    replace T1 := Lib.hid (T1.out.below BB13.out)
    replace T2 := Lib.hid (T2.out.below BB13.out)
    replace TA := Lib.hid (TA.out.below BB13.out)
    replace TB := Lib.hid (TB.out.below BB13.out)
    replace BT := Lib.hid (BT.out.trans (BB13.out.mono BT.out.size))
    clear hb
    clear TA
    clear TB
    go_wp2_with fail
    refine (signs_f T1.out hl3.out).mono ?_
    intro e W14 hm
    obtain ⟨o14, n14, c14, rfl, ho, hb⟩ := makes_n hm
    clear hm
    have BB14 := Lib.hid hb
    replace T1 := Lib.hid (T1.out.below BB14.out)
    replace T2 := Lib.hid (T2.out.below BB14.out)
    have TA := Lib.hid ho
    replace BT := Lib.hid (BT.out.trans (BB14.out.mono BT.out.size))
    clear hb ho
    go_wp2_with fail
    refine (signsr_f T1.out hl3.out).mono ?_
    intro e W15 hm
    obtain ⟨o15, n15, c15, rfl, ho, hb⟩ := makes_n hm
    clear hm
    have BB15 := Lib.hid hb
    replace T1 := Lib.hid (T1.out.below BB15.out)
    replace T2 := Lib.hid (T2.out.below BB15.out)
    replace TA := Lib.hid (TA.out.below BB15.out)
    have TB := Lib.hid ho
    replace BT := Lib.hid (BT.out.trans (BB15.out.mono BT.out.size))
    clear hb ho
    go_wp2_with fail
    refine (sameRow_f TA.out TB.out rfl (by rw [signs_length]; have := hl3.out; omega)).mono ?_
    rintro e W16 ⟨rfl, hb⟩
    have BB16 := Lib.hid hb
    replace T1 := Lib.hid (T1.out.below BB16.out)
    replace T2 := Lib.hid (T2.out.below BB16.out)
    replace TA := Lib.hid (TA.out.below BB16.out)
    replace TB := Lib.hid (TB.out.below BB16.out)
    replace BT := Lib.hid (BT.out.trans (BB16.out.mono BT.out.size))
    clear hb
    clear TA
    clear TB
    go_wp2_with fail
    refine (fold_f T1.out hl3.out).mono ?_
    intro e W17 hm
    obtain ⟨o17, n17, c17, rfl, ho, hb⟩ := makes_n hm
    clear hm
    have BB17 := Lib.hid hb
    replace T1 := Lib.hid (T1.out.below BB17.out)
    replace T2 := Lib.hid (T2.out.below BB17.out)
    have TA := Lib.hid ho
    replace BT := Lib.hid (BT.out.trans (BB17.out.mono BT.out.size))
    clear hb ho
    go_wp2_with fail
    refine (foldr_f T1.out hl3.out).mono ?_
    intro e W18 hm
    obtain ⟨o18, n18, c18, rfl, ho, hb⟩ := makes_n hm
    clear hm
    have BB18 := Lib.hid hb
    replace T1 := Lib.hid (T1.out.below BB18.out)
    replace T2 := Lib.hid (T2.out.below BB18.out)
    replace TA := Lib.hid (TA.out.below BB18.out)
    have TB := Lib.hid ho
    replace BT := Lib.hid (BT.out.trans (BB18.out.mono BT.out.size))
    clear hb ho
    go_wp2_with fail
    refine (sameRow_f TA.out TB.out rfl (by rw [folds_length]; have := hl3.out; omega)).mono ?_
    rintro e W19 ⟨rfl, hb⟩
    have BB19 := Lib.hid hb
    replace T1 := Lib.hid (T1.out.below BB19.out)
    replace T2 := Lib.hid (T2.out.below BB19.out)
    replace TA := Lib.hid (TA.out.below BB19.out)
    replace TB := Lib.hid (TB.out.below BB19.out)
    replace BT := Lib.hid (BT.out.trans (BB19.out.mono BT.out.size))
    clear hb
    clear TA
    clear TB
    go_wp2_with fail
    refine (unfold_fla T1.out hl3.out).mono ?_
    intro e W20 hm
    obtain ⟨o20, n20, c20, rfl, ho, hb⟩ := makes_n hm
    clear hm
    have BB20 := Lib.hid hb
    replace T1 := Lib.hid (T1.out.below BB20.out)
    replace T2 := Lib.hid (T2.out.below BB20.out)
    have TA := Lib.hid ho
    replace BT := Lib.hid (BT.out.trans (BB20.out.mono BT.out.size))
    clear hb ho
    go_wp2_with fail
    refine (unfoldr_f T1.out hl3.out).mono ?_
    intro e W21 hm
    obtain ⟨o21, n21, c21, rfl, ho, hb⟩ := makes_n hm
    clear hm
    have BB21 := Lib.hid hb
    replace T1 := Lib.hid (T1.out.below BB21.out)
    replace T2 := Lib.hid (T2.out.below BB21.out)
    replace TA := Lib.hid (TA.out.below BB21.out)
    have TB := Lib.hid ho
    replace BT := Lib.hid (BT.out.trans (BB21.out.mono BT.out.size))
    clear hb ho
    go_wp2_with fail
    refine (sameRow_f TA.out TB.out rfl (by rw [unfolds_length]; have := hl3.out; omega)).mono ?_
    rintro e W22 ⟨rfl, hb⟩
    have BB22 := Lib.hid hb
    replace T1 := Lib.hid (T1.out.below BB22.out)
    replace T2 := Lib.hid (T2.out.below BB22.out)
    replace TA := Lib.hid (TA.out.below BB22.out)
    replace TB := Lib.hid (TB.out.below BB22.out)
    replace BT := Lib.hid (BT.out.trans (BB22.out.mono BT.out.size))
    clear hb
    clear TA
    clear TB
    go_wp2_with fail
    refine (mirror_fla odd T1.out hl3.out).mono ?_
    intro e W23 hm
    obtain ⟨o23, n23, c23, rfl, ho, hb⟩ := makes_n hm
    clear hm
    have BB23 := Lib.hid hb
    replace T1 := Lib.hid (T1.out.below BB23.out)
    replace T2 := Lib.hid (T2.out.below BB23.out)
    have TA := Lib.hid ho
    replace BT := Lib.hid (BT.out.trans (BB23.out.mono BT.out.size))
    clear hb ho
    go_wp2_with fail
    refine (mirrorr_f odd T1.out hl3.out).mono ?_
    intro e W24 hm
    obtain ⟨o24, n24, c24, rfl, ho, hb⟩ := makes_n hm
    clear hm
    have BB24 := Lib.hid hb
    replace T1 := Lib.hid (T1.out.below BB24.out)
    replace T2 := Lib.hid (T2.out.below BB24.out)
    replace TA := Lib.hid (TA.out.below BB24.out)
    have TB := Lib.hid ho
    replace BT := Lib.hid (BT.out.trans (BB24.out.mono BT.out.size))
    clear hb ho
    go_wp2_with fail
    refine (sameRow_f TA.out TB.out rfl (by rw [mirrors_length]; have := hl3.out; omega)).mono ?_
    rintro e W25 ⟨rfl, hb⟩
    have BB25 := Lib.hid hb
    replace T1 := Lib.hid (T1.out.below BB25.out)
    replace T2 := Lib.hid (T2.out.below BB25.out)
    replace TA := Lib.hid (TA.out.below BB25.out)
    replace TB := Lib.hid (TB.out.below BB25.out)
    replace BT := Lib.hid (BT.out.trans (BB25.out.mono BT.out.size))
    clear hb
    clear TA
    clear TB
    go_wp2
    go_ret
    exact ⟨rfl, BT.out⟩

set_option maxHeartbeats 4000000 in
theorem permTells_no_neg (a a' : Option Addr) (len cap len' cap' : Nat) (l l' : List Nat) (p : Int) (odd : Bool) (w : World) (hr : RowF w a len cap l) (hr' : RowF w a' len' cap' l') (h : (len : Int) ≤ 300) (h' : (len' : Int) ≤ 300) (hd : ¬ (len = len' ∨ len = len' + 1)) (hp : p < 0) : Calls Try.prog 3 #[.slice a len cap, .slice a' len' cap', .int .i64 p, .bool odd] w fun e w' => e = .returned (.bool true) ∧ Below w.heap.size w w' := by
  have T1 := Lib.hid hr.fla
  have T2 := Lib.hid hr'.fla
  have hl : Hid (l.length = len) := Lib.hid hr.1.1
  have hl' : Hid (l'.length = len') := Lib.hid hr'.1.1
  have HD := Lib.hid hd
  have hl3 : Hid (l.length ≤ 2000) := Lib.hid (by rw [hr.1.1]; omega)
  have hl4 : Hid (l'.length ≤ 2000) := Lib.hid (by rw [hr'.1.1]; omega)
  clear hr hr' hd
  go_enter Try.func3, Try.ntmps3
  go_wp2_with fail
  refine (l10_head _).mono ?_
  rintro e W1 ⟨rfl, hb⟩
  have BB1 := Lib.hid hb
  replace T1 := Lib.hid (T1.out.below BB1.out)
  replace T2 := Lib.hid (T2.out.below BB1.out)
  have BT := BB1
  clear hb
  go_wp2_with fail
  refine (zip_no a a' len len' cap cap' _ (by omega) (by omega) HD.out).mono ?_
  rintro e W' ⟨rfl, hw⟩
  obtain rfl := hw.symm
  go_wp2_with fail
  refine (zipr_no a a' len len' cap cap' _ (by omega) (by omega) HD.out).mono ?_
  rintro e W' ⟨rfl, hw⟩
  obtain rfl := hw.symm
  go_wp2_with fail
  refine (bits_no p _ (.inl hp)).mono ?_
  rintro e W' ⟨rfl, hw⟩
  obtain rfl := hw.symm
  go_wp2_with fail
  refine (bitsr_no p _ (.inl hp)).mono ?_
  rintro e W' ⟨rfl, hw⟩
  obtain rfl := hw.symm
  go_wp2
  go_loopw [16] (fun i wr => i = .int .i64 0 ∧ Hid (Below W1.heap.size W1 wr)) (fun _ _ => 0)
  case atStart => exact ⟨rfl, Lib.hid (Below.refl _ _)⟩
  case round =>
    obtain ⟨rfl, hbl⟩ := hrel
    replace T1 := Lib.hid (T1.out.below hbl.out)
    replace T2 := Lib.hid (T2.out.below hbl.out)
    replace BT := Lib.hid (BT.out.trans (hbl.out.mono BT.out.size))
    go_wp2_with fail
    refine (even_f T1.out hl3.out).mono ?_
    intro e W2 hm
    obtain ⟨o2, n2, c2, rfl, ho, hb⟩ := makes_n hm
    clear hm
    have BB2 := Lib.hid hb
    replace T1 := Lib.hid (T1.out.below BB2.out)
    replace T2 := Lib.hid (T2.out.below BB2.out)
    have TA := Lib.hid ho
    replace BT := Lib.hid (BT.out.trans (BB2.out.mono BT.out.size))
    clear hb ho
    go_wp2_with fail
    refine (evenr_f T1.out hl3.out).mono ?_
    intro e W3 hm
    obtain ⟨o3, n3, c3, rfl, ho, hb⟩ := makes_n hm
    clear hm
    have BB3 := Lib.hid hb
    replace T1 := Lib.hid (T1.out.below BB3.out)
    replace T2 := Lib.hid (T2.out.below BB3.out)
    replace TA := Lib.hid (TA.out.below BB3.out)
    have TB := Lib.hid ho
    replace BT := Lib.hid (BT.out.trans (BB3.out.mono BT.out.size))
    clear hb ho
    go_wp2_with fail
    refine (sameRow_f TA.out TB.out rfl (by rw [takes_length]; have := hl3.out; omega)).mono ?_
    rintro e W4 ⟨rfl, hb⟩
    have BB4 := Lib.hid hb
    replace T1 := Lib.hid (T1.out.below BB4.out)
    replace T2 := Lib.hid (T2.out.below BB4.out)
    replace TA := Lib.hid (TA.out.below BB4.out)
    replace TB := Lib.hid (TB.out.below BB4.out)
    replace BT := Lib.hid (BT.out.trans (BB4.out.mono BT.out.size))
    clear hb
    clear TA
    clear TB
    go_wp2_with fail
    refine (odd_f T1.out hl3.out).mono ?_
    intro e W5 hm
    obtain ⟨o5, n5, c5, rfl, ho, hb⟩ := makes_n hm
    clear hm
    have BB5 := Lib.hid hb
    replace T1 := Lib.hid (T1.out.below BB5.out)
    replace T2 := Lib.hid (T2.out.below BB5.out)
    have TA := Lib.hid ho
    replace BT := Lib.hid (BT.out.trans (BB5.out.mono BT.out.size))
    clear hb ho
    go_wp2_with fail
    refine (oddr_f T1.out hl3.out).mono ?_
    intro e W6 hm
    obtain ⟨o6, n6, c6, rfl, ho, hb⟩ := makes_n hm
    clear hm
    have BB6 := Lib.hid hb
    replace T1 := Lib.hid (T1.out.below BB6.out)
    replace T2 := Lib.hid (T2.out.below BB6.out)
    replace TA := Lib.hid (TA.out.below BB6.out)
    have TB := Lib.hid ho
    replace BT := Lib.hid (BT.out.trans (BB6.out.mono BT.out.size))
    clear hb ho
    go_wp2_with fail
    refine (sameRow_f TA.out TB.out rfl (by rw [takes_length]; have := hl3.out; omega)).mono ?_
    rintro e W7 ⟨rfl, hb⟩
    have BB7 := Lib.hid hb
    replace T1 := Lib.hid (T1.out.below BB7.out)
    replace T2 := Lib.hid (T2.out.below BB7.out)
    replace TA := Lib.hid (TA.out.below BB7.out)
    replace TB := Lib.hid (TB.out.below BB7.out)
    replace BT := Lib.hid (BT.out.trans (BB7.out.mono BT.out.size))
    clear hb
    clear TA
    clear TB
    go_wp2_with fail
    refine (sameRow_f (fla_nil _) (fla_nil _) rfl (by decide)).mono ?_
    rintro e W8 ⟨rfl, hb⟩
    have BB8 := Lib.hid hb
    replace T1 := Lib.hid (T1.out.below BB8.out)
    replace T2 := Lib.hid (T2.out.below BB8.out)
    replace BT := Lib.hid (BT.out.trans (BB8.out.mono BT.out.size))
    clear hb
    go_wp2_with fail
    refine (rev_f T1.out hl3.out).mono ?_
    intro e W9 hm
    obtain ⟨o9, n9, c9, rfl, ho, hb⟩ := makes_n hm
    clear hm
    have BB9 := Lib.hid hb
    replace T1 := Lib.hid (T1.out.below BB9.out)
    replace T2 := Lib.hid (T2.out.below BB9.out)
    have TA := Lib.hid ho
    replace BT := Lib.hid (BT.out.trans (BB9.out.mono BT.out.size))
    clear hb ho
    go_wp2_with fail
    refine (revr_f T1.out hl3.out).mono ?_
    intro e W10 hm
    obtain ⟨o10, n10, c10, rfl, ho, hb⟩ := makes_n hm
    clear hm
    have BB10 := Lib.hid hb
    replace T1 := Lib.hid (T1.out.below BB10.out)
    replace T2 := Lib.hid (T2.out.below BB10.out)
    replace TA := Lib.hid (TA.out.below BB10.out)
    have TB := Lib.hid ho
    replace BT := Lib.hid (BT.out.trans (BB10.out.mono BT.out.size))
    clear hb ho
    go_wp2_with fail
    refine (sameRow_f TA.out TB.out rfl (by rw [revs_length]; have := hl3.out; omega)).mono ?_
    rintro e W11 ⟨rfl, hb⟩
    have BB11 := Lib.hid hb
    replace T1 := Lib.hid (T1.out.below BB11.out)
    replace T2 := Lib.hid (T2.out.below BB11.out)
    replace TA := Lib.hid (TA.out.below BB11.out)
    replace TB := Lib.hid (TB.out.below BB11.out)
    replace BT := Lib.hid (BT.out.trans (BB11.out.mono BT.out.size))
    clear hb
    clear TA
    clear TB
    go_wp2_with fail
    refine (signs_f T1.out hl3.out).mono ?_
    intro e W12 hm
    obtain ⟨o12, n12, c12, rfl, ho, hb⟩ := makes_n hm
    clear hm
    have BB12 := Lib.hid hb
    replace T1 := Lib.hid (T1.out.below BB12.out)
    replace T2 := Lib.hid (T2.out.below BB12.out)
    have TA := Lib.hid ho
    replace BT := Lib.hid (BT.out.trans (BB12.out.mono BT.out.size))
    clear hb ho
    go_wp2_with fail
    refine (signsr_f T1.out hl3.out).mono ?_
    intro e W13 hm
    obtain ⟨o13, n13, c13, rfl, ho, hb⟩ := makes_n hm
    clear hm
    have BB13 := Lib.hid hb
    replace T1 := Lib.hid (T1.out.below BB13.out)
    replace T2 := Lib.hid (T2.out.below BB13.out)
    replace TA := Lib.hid (TA.out.below BB13.out)
    have TB := Lib.hid ho
    replace BT := Lib.hid (BT.out.trans (BB13.out.mono BT.out.size))
    clear hb ho
    go_wp2_with fail
    refine (sameRow_f TA.out TB.out rfl (by rw [signs_length]; have := hl3.out; omega)).mono ?_
    rintro e W14 ⟨rfl, hb⟩
    have BB14 := Lib.hid hb
    replace T1 := Lib.hid (T1.out.below BB14.out)
    replace T2 := Lib.hid (T2.out.below BB14.out)
    replace TA := Lib.hid (TA.out.below BB14.out)
    replace TB := Lib.hid (TB.out.below BB14.out)
    replace BT := Lib.hid (BT.out.trans (BB14.out.mono BT.out.size))
    clear hb
    clear TA
    clear TB
    go_wp2_with fail
    refine (fold_f T1.out hl3.out).mono ?_
    intro e W15 hm
    obtain ⟨o15, n15, c15, rfl, ho, hb⟩ := makes_n hm
    clear hm
    have BB15 := Lib.hid hb
    replace T1 := Lib.hid (T1.out.below BB15.out)
    replace T2 := Lib.hid (T2.out.below BB15.out)
    have TA := Lib.hid ho
    replace BT := Lib.hid (BT.out.trans (BB15.out.mono BT.out.size))
    clear hb ho
    go_wp2_with fail
    refine (foldr_f T1.out hl3.out).mono ?_
    intro e W16 hm
    obtain ⟨o16, n16, c16, rfl, ho, hb⟩ := makes_n hm
    clear hm
    have BB16 := Lib.hid hb
    replace T1 := Lib.hid (T1.out.below BB16.out)
    replace T2 := Lib.hid (T2.out.below BB16.out)
    replace TA := Lib.hid (TA.out.below BB16.out)
    have TB := Lib.hid ho
    replace BT := Lib.hid (BT.out.trans (BB16.out.mono BT.out.size))
    clear hb ho
    go_wp2_with fail
    refine (sameRow_f TA.out TB.out rfl (by rw [folds_length]; have := hl3.out; omega)).mono ?_
    rintro e W17 ⟨rfl, hb⟩
    have BB17 := Lib.hid hb
    replace T1 := Lib.hid (T1.out.below BB17.out)
    replace T2 := Lib.hid (T2.out.below BB17.out)
    replace TA := Lib.hid (TA.out.below BB17.out)
    replace TB := Lib.hid (TB.out.below BB17.out)
    replace BT := Lib.hid (BT.out.trans (BB17.out.mono BT.out.size))
    clear hb
    clear TA
    clear TB
    go_wp2_with fail
    refine (unfold_fla T1.out hl3.out).mono ?_
    intro e W18 hm
    obtain ⟨o18, n18, c18, rfl, ho, hb⟩ := makes_n hm
    clear hm
    have BB18 := Lib.hid hb
    replace T1 := Lib.hid (T1.out.below BB18.out)
    replace T2 := Lib.hid (T2.out.below BB18.out)
    have TA := Lib.hid ho
    replace BT := Lib.hid (BT.out.trans (BB18.out.mono BT.out.size))
    clear hb ho
    go_wp2_with fail
    refine (unfoldr_f T1.out hl3.out).mono ?_
    intro e W19 hm
    obtain ⟨o19, n19, c19, rfl, ho, hb⟩ := makes_n hm
    clear hm
    have BB19 := Lib.hid hb
    replace T1 := Lib.hid (T1.out.below BB19.out)
    replace T2 := Lib.hid (T2.out.below BB19.out)
    replace TA := Lib.hid (TA.out.below BB19.out)
    have TB := Lib.hid ho
    replace BT := Lib.hid (BT.out.trans (BB19.out.mono BT.out.size))
    clear hb ho
    go_wp2_with fail
    refine (sameRow_f TA.out TB.out rfl (by rw [unfolds_length]; have := hl3.out; omega)).mono ?_
    rintro e W20 ⟨rfl, hb⟩
    have BB20 := Lib.hid hb
    replace T1 := Lib.hid (T1.out.below BB20.out)
    replace T2 := Lib.hid (T2.out.below BB20.out)
    replace TA := Lib.hid (TA.out.below BB20.out)
    replace TB := Lib.hid (TB.out.below BB20.out)
    replace BT := Lib.hid (BT.out.trans (BB20.out.mono BT.out.size))
    clear hb
    clear TA
    clear TB
    go_wp2_with fail
    refine (mirror_fla odd T1.out hl3.out).mono ?_
    intro e W21 hm
    obtain ⟨o21, n21, c21, rfl, ho, hb⟩ := makes_n hm
    clear hm
    have BB21 := Lib.hid hb
    replace T1 := Lib.hid (T1.out.below BB21.out)
    replace T2 := Lib.hid (T2.out.below BB21.out)
    have TA := Lib.hid ho
    replace BT := Lib.hid (BT.out.trans (BB21.out.mono BT.out.size))
    clear hb ho
    go_wp2_with fail
    refine (mirrorr_f odd T1.out hl3.out).mono ?_
    intro e W22 hm
    obtain ⟨o22, n22, c22, rfl, ho, hb⟩ := makes_n hm
    clear hm
    have BB22 := Lib.hid hb
    replace T1 := Lib.hid (T1.out.below BB22.out)
    replace T2 := Lib.hid (T2.out.below BB22.out)
    replace TA := Lib.hid (TA.out.below BB22.out)
    have TB := Lib.hid ho
    replace BT := Lib.hid (BT.out.trans (BB22.out.mono BT.out.size))
    clear hb ho
    go_wp2_with fail
    refine (sameRow_f TA.out TB.out rfl (by rw [mirrors_length]; have := hl3.out; omega)).mono ?_
    rintro e W23 ⟨rfl, hb⟩
    have BB23 := Lib.hid hb
    replace T1 := Lib.hid (T1.out.below BB23.out)
    replace T2 := Lib.hid (T2.out.below BB23.out)
    replace TA := Lib.hid (TA.out.below BB23.out)
    replace TB := Lib.hid (TB.out.below BB23.out)
    replace BT := Lib.hid (BT.out.trans (BB23.out.mono BT.out.size))
    clear hb
    clear TA
    clear TB
    go_wp2
    go_ret
    exact ⟨rfl, BT.out⟩

set_option maxHeartbeats 4000000 in
theorem permTells_no_big (a a' : Option Addr) (len cap len' cap' : Nat) (l l' : List Nat) (p : Int) (odd : Bool) (w : World) (hr : RowF w a len cap l) (hr' : RowF w a' len' cap' l') (h : (len : Int) ≤ 300) (h' : (len' : Int) ≤ 300) (hd : ¬ (len = len' ∨ len = len' + 1)) (hp : 12 < p) : Calls Try.prog 3 #[.slice a len cap, .slice a' len' cap', .int .i64 p, .bool odd] w fun e w' => e = .returned (.bool true) ∧ Below w.heap.size w w' := by
  have T1 := Lib.hid hr.fla
  have T2 := Lib.hid hr'.fla
  have hl : Hid (l.length = len) := Lib.hid hr.1.1
  have hl' : Hid (l'.length = len') := Lib.hid hr'.1.1
  have HD := Lib.hid hd
  have hl3 : Hid (l.length ≤ 2000) := Lib.hid (by rw [hr.1.1]; omega)
  have hl4 : Hid (l'.length ≤ 2000) := Lib.hid (by rw [hr'.1.1]; omega)
  clear hr hr' hd
  go_enter Try.func3, Try.ntmps3
  go_wp2_with fail
  refine (l10_head _).mono ?_
  rintro e W1 ⟨rfl, hb⟩
  have BB1 := Lib.hid hb
  replace T1 := Lib.hid (T1.out.below BB1.out)
  replace T2 := Lib.hid (T2.out.below BB1.out)
  have BT := BB1
  clear hb
  go_wp2_with fail
  refine (zip_no a a' len len' cap cap' _ (by omega) (by omega) HD.out).mono ?_
  rintro e W' ⟨rfl, hw⟩
  obtain rfl := hw.symm
  go_wp2_with fail
  refine (zipr_no a a' len len' cap cap' _ (by omega) (by omega) HD.out).mono ?_
  rintro e W' ⟨rfl, hw⟩
  obtain rfl := hw.symm
  go_wp2_with fail
  refine (bits_no p _ (.inr hp)).mono ?_
  rintro e W' ⟨rfl, hw⟩
  obtain rfl := hw.symm
  go_wp2_with fail
  refine (bitsr_no p _ (.inr hp)).mono ?_
  rintro e W' ⟨rfl, hw⟩
  obtain rfl := hw.symm
  go_wp2
  go_loopw [16] (fun i wr => i = .int .i64 0 ∧ Hid (Below W1.heap.size W1 wr)) (fun _ _ => 0)
  case atStart => exact ⟨rfl, Lib.hid (Below.refl _ _)⟩
  case round =>
    obtain ⟨rfl, hbl⟩ := hrel
    replace T1 := Lib.hid (T1.out.below hbl.out)
    replace T2 := Lib.hid (T2.out.below hbl.out)
    replace BT := Lib.hid (BT.out.trans (hbl.out.mono BT.out.size))
    go_wp2_with fail
    refine (even_f T1.out hl3.out).mono ?_
    intro e W2 hm
    obtain ⟨o2, n2, c2, rfl, ho, hb⟩ := makes_n hm
    clear hm
    have BB2 := Lib.hid hb
    replace T1 := Lib.hid (T1.out.below BB2.out)
    replace T2 := Lib.hid (T2.out.below BB2.out)
    have TA := Lib.hid ho
    replace BT := Lib.hid (BT.out.trans (BB2.out.mono BT.out.size))
    clear hb ho
    go_wp2_with fail
    refine (evenr_f T1.out hl3.out).mono ?_
    intro e W3 hm
    obtain ⟨o3, n3, c3, rfl, ho, hb⟩ := makes_n hm
    clear hm
    have BB3 := Lib.hid hb
    replace T1 := Lib.hid (T1.out.below BB3.out)
    replace T2 := Lib.hid (T2.out.below BB3.out)
    replace TA := Lib.hid (TA.out.below BB3.out)
    have TB := Lib.hid ho
    replace BT := Lib.hid (BT.out.trans (BB3.out.mono BT.out.size))
    clear hb ho
    go_wp2_with fail
    refine (sameRow_f TA.out TB.out rfl (by rw [takes_length]; have := hl3.out; omega)).mono ?_
    rintro e W4 ⟨rfl, hb⟩
    have BB4 := Lib.hid hb
    replace T1 := Lib.hid (T1.out.below BB4.out)
    replace T2 := Lib.hid (T2.out.below BB4.out)
    replace TA := Lib.hid (TA.out.below BB4.out)
    replace TB := Lib.hid (TB.out.below BB4.out)
    replace BT := Lib.hid (BT.out.trans (BB4.out.mono BT.out.size))
    clear hb
    clear TA
    clear TB
    go_wp2_with fail
    refine (odd_f T1.out hl3.out).mono ?_
    intro e W5 hm
    obtain ⟨o5, n5, c5, rfl, ho, hb⟩ := makes_n hm
    clear hm
    have BB5 := Lib.hid hb
    replace T1 := Lib.hid (T1.out.below BB5.out)
    replace T2 := Lib.hid (T2.out.below BB5.out)
    have TA := Lib.hid ho
    replace BT := Lib.hid (BT.out.trans (BB5.out.mono BT.out.size))
    clear hb ho
    go_wp2_with fail
    refine (oddr_f T1.out hl3.out).mono ?_
    intro e W6 hm
    obtain ⟨o6, n6, c6, rfl, ho, hb⟩ := makes_n hm
    clear hm
    have BB6 := Lib.hid hb
    replace T1 := Lib.hid (T1.out.below BB6.out)
    replace T2 := Lib.hid (T2.out.below BB6.out)
    replace TA := Lib.hid (TA.out.below BB6.out)
    have TB := Lib.hid ho
    replace BT := Lib.hid (BT.out.trans (BB6.out.mono BT.out.size))
    clear hb ho
    go_wp2_with fail
    refine (sameRow_f TA.out TB.out rfl (by rw [takes_length]; have := hl3.out; omega)).mono ?_
    rintro e W7 ⟨rfl, hb⟩
    have BB7 := Lib.hid hb
    replace T1 := Lib.hid (T1.out.below BB7.out)
    replace T2 := Lib.hid (T2.out.below BB7.out)
    replace TA := Lib.hid (TA.out.below BB7.out)
    replace TB := Lib.hid (TB.out.below BB7.out)
    replace BT := Lib.hid (BT.out.trans (BB7.out.mono BT.out.size))
    clear hb
    clear TA
    clear TB
    go_wp2_with fail
    refine (sameRow_f (fla_nil _) (fla_nil _) rfl (by decide)).mono ?_
    rintro e W8 ⟨rfl, hb⟩
    have BB8 := Lib.hid hb
    replace T1 := Lib.hid (T1.out.below BB8.out)
    replace T2 := Lib.hid (T2.out.below BB8.out)
    replace BT := Lib.hid (BT.out.trans (BB8.out.mono BT.out.size))
    clear hb
    go_wp2_with fail
    refine (rev_f T1.out hl3.out).mono ?_
    intro e W9 hm
    obtain ⟨o9, n9, c9, rfl, ho, hb⟩ := makes_n hm
    clear hm
    have BB9 := Lib.hid hb
    replace T1 := Lib.hid (T1.out.below BB9.out)
    replace T2 := Lib.hid (T2.out.below BB9.out)
    have TA := Lib.hid ho
    replace BT := Lib.hid (BT.out.trans (BB9.out.mono BT.out.size))
    clear hb ho
    go_wp2_with fail
    refine (revr_f T1.out hl3.out).mono ?_
    intro e W10 hm
    obtain ⟨o10, n10, c10, rfl, ho, hb⟩ := makes_n hm
    clear hm
    have BB10 := Lib.hid hb
    replace T1 := Lib.hid (T1.out.below BB10.out)
    replace T2 := Lib.hid (T2.out.below BB10.out)
    replace TA := Lib.hid (TA.out.below BB10.out)
    have TB := Lib.hid ho
    replace BT := Lib.hid (BT.out.trans (BB10.out.mono BT.out.size))
    clear hb ho
    go_wp2_with fail
    refine (sameRow_f TA.out TB.out rfl (by rw [revs_length]; have := hl3.out; omega)).mono ?_
    rintro e W11 ⟨rfl, hb⟩
    have BB11 := Lib.hid hb
    replace T1 := Lib.hid (T1.out.below BB11.out)
    replace T2 := Lib.hid (T2.out.below BB11.out)
    replace TA := Lib.hid (TA.out.below BB11.out)
    replace TB := Lib.hid (TB.out.below BB11.out)
    replace BT := Lib.hid (BT.out.trans (BB11.out.mono BT.out.size))
    clear hb
    clear TA
    clear TB
    go_wp2_with fail
    refine (signs_f T1.out hl3.out).mono ?_
    intro e W12 hm
    obtain ⟨o12, n12, c12, rfl, ho, hb⟩ := makes_n hm
    clear hm
    have BB12 := Lib.hid hb
    replace T1 := Lib.hid (T1.out.below BB12.out)
    replace T2 := Lib.hid (T2.out.below BB12.out)
    have TA := Lib.hid ho
    replace BT := Lib.hid (BT.out.trans (BB12.out.mono BT.out.size))
    clear hb ho
    go_wp2_with fail
    refine (signsr_f T1.out hl3.out).mono ?_
    intro e W13 hm
    obtain ⟨o13, n13, c13, rfl, ho, hb⟩ := makes_n hm
    clear hm
    have BB13 := Lib.hid hb
    replace T1 := Lib.hid (T1.out.below BB13.out)
    replace T2 := Lib.hid (T2.out.below BB13.out)
    replace TA := Lib.hid (TA.out.below BB13.out)
    have TB := Lib.hid ho
    replace BT := Lib.hid (BT.out.trans (BB13.out.mono BT.out.size))
    clear hb ho
    go_wp2_with fail
    refine (sameRow_f TA.out TB.out rfl (by rw [signs_length]; have := hl3.out; omega)).mono ?_
    rintro e W14 ⟨rfl, hb⟩
    have BB14 := Lib.hid hb
    replace T1 := Lib.hid (T1.out.below BB14.out)
    replace T2 := Lib.hid (T2.out.below BB14.out)
    replace TA := Lib.hid (TA.out.below BB14.out)
    replace TB := Lib.hid (TB.out.below BB14.out)
    replace BT := Lib.hid (BT.out.trans (BB14.out.mono BT.out.size))
    clear hb
    clear TA
    clear TB
    go_wp2_with fail
    refine (fold_f T1.out hl3.out).mono ?_
    intro e W15 hm
    obtain ⟨o15, n15, c15, rfl, ho, hb⟩ := makes_n hm
    clear hm
    have BB15 := Lib.hid hb
    replace T1 := Lib.hid (T1.out.below BB15.out)
    replace T2 := Lib.hid (T2.out.below BB15.out)
    have TA := Lib.hid ho
    replace BT := Lib.hid (BT.out.trans (BB15.out.mono BT.out.size))
    clear hb ho
    go_wp2_with fail
    refine (foldr_f T1.out hl3.out).mono ?_
    intro e W16 hm
    obtain ⟨o16, n16, c16, rfl, ho, hb⟩ := makes_n hm
    clear hm
    have BB16 := Lib.hid hb
    replace T1 := Lib.hid (T1.out.below BB16.out)
    replace T2 := Lib.hid (T2.out.below BB16.out)
    replace TA := Lib.hid (TA.out.below BB16.out)
    have TB := Lib.hid ho
    replace BT := Lib.hid (BT.out.trans (BB16.out.mono BT.out.size))
    clear hb ho
    go_wp2_with fail
    refine (sameRow_f TA.out TB.out rfl (by rw [folds_length]; have := hl3.out; omega)).mono ?_
    rintro e W17 ⟨rfl, hb⟩
    have BB17 := Lib.hid hb
    replace T1 := Lib.hid (T1.out.below BB17.out)
    replace T2 := Lib.hid (T2.out.below BB17.out)
    replace TA := Lib.hid (TA.out.below BB17.out)
    replace TB := Lib.hid (TB.out.below BB17.out)
    replace BT := Lib.hid (BT.out.trans (BB17.out.mono BT.out.size))
    clear hb
    clear TA
    clear TB
    go_wp2_with fail
    refine (unfold_fla T1.out hl3.out).mono ?_
    intro e W18 hm
    obtain ⟨o18, n18, c18, rfl, ho, hb⟩ := makes_n hm
    clear hm
    have BB18 := Lib.hid hb
    replace T1 := Lib.hid (T1.out.below BB18.out)
    replace T2 := Lib.hid (T2.out.below BB18.out)
    have TA := Lib.hid ho
    replace BT := Lib.hid (BT.out.trans (BB18.out.mono BT.out.size))
    clear hb ho
    go_wp2_with fail
    refine (unfoldr_f T1.out hl3.out).mono ?_
    intro e W19 hm
    obtain ⟨o19, n19, c19, rfl, ho, hb⟩ := makes_n hm
    clear hm
    have BB19 := Lib.hid hb
    replace T1 := Lib.hid (T1.out.below BB19.out)
    replace T2 := Lib.hid (T2.out.below BB19.out)
    replace TA := Lib.hid (TA.out.below BB19.out)
    have TB := Lib.hid ho
    replace BT := Lib.hid (BT.out.trans (BB19.out.mono BT.out.size))
    clear hb ho
    go_wp2_with fail
    refine (sameRow_f TA.out TB.out rfl (by rw [unfolds_length]; have := hl3.out; omega)).mono ?_
    rintro e W20 ⟨rfl, hb⟩
    have BB20 := Lib.hid hb
    replace T1 := Lib.hid (T1.out.below BB20.out)
    replace T2 := Lib.hid (T2.out.below BB20.out)
    replace TA := Lib.hid (TA.out.below BB20.out)
    replace TB := Lib.hid (TB.out.below BB20.out)
    replace BT := Lib.hid (BT.out.trans (BB20.out.mono BT.out.size))
    clear hb
    clear TA
    clear TB
    go_wp2_with fail
    refine (mirror_fla odd T1.out hl3.out).mono ?_
    intro e W21 hm
    obtain ⟨o21, n21, c21, rfl, ho, hb⟩ := makes_n hm
    clear hm
    have BB21 := Lib.hid hb
    replace T1 := Lib.hid (T1.out.below BB21.out)
    replace T2 := Lib.hid (T2.out.below BB21.out)
    have TA := Lib.hid ho
    replace BT := Lib.hid (BT.out.trans (BB21.out.mono BT.out.size))
    clear hb ho
    go_wp2_with fail
    refine (mirrorr_f odd T1.out hl3.out).mono ?_
    intro e W22 hm
    obtain ⟨o22, n22, c22, rfl, ho, hb⟩ := makes_n hm
    clear hm
    have BB22 := Lib.hid hb
    replace T1 := Lib.hid (T1.out.below BB22.out)
    replace T2 := Lib.hid (T2.out.below BB22.out)
    replace TA := Lib.hid (TA.out.below BB22.out)
    have TB := Lib.hid ho
    replace BT := Lib.hid (BT.out.trans (BB22.out.mono BT.out.size))
    clear hb ho
    go_wp2_with fail
    refine (sameRow_f TA.out TB.out rfl (by rw [mirrors_length]; have := hl3.out; omega)).mono ?_
    rintro e W23 ⟨rfl, hb⟩
    have BB23 := Lib.hid hb
    replace T1 := Lib.hid (T1.out.below BB23.out)
    replace T2 := Lib.hid (T2.out.below BB23.out)
    replace TA := Lib.hid (TA.out.below BB23.out)
    replace TB := Lib.hid (TB.out.below BB23.out)
    replace BT := Lib.hid (BT.out.trans (BB23.out.mono BT.out.size))
    clear hb
    clear TA
    clear TB
    go_wp2
    go_ret
    exact ⟨rfl, BT.out⟩
end Go.Proofs.Ytajnjghbppcfdaa
