/- PermBack: the law's walk: it answers true. No condition but the row's place in memory. -/
import Derived.Test.YtajnjghbppcfdaaFrames
namespace Go.Proofs.Ytajnjghbppcfdaa
open Go.RowKit Go.Shelf

set_option maxHeartbeats 1000000 in
theorem permBack_long (a : Option Addr) (len cap : Nat) (w : World) (h : (300 : Int) < (len : Int)) : Calls Try.prog 4 #[.slice a len cap] w fun e w' => e = .returned (.bool true) ∧ Below w.heap.size w w' := by
  go_enter Try.func4, Try.ntmps4
  go_wp2_with fail
  refine (l10_head _).mono ?_
  rintro e W1 ⟨rfl, hb⟩
  have BB1 := Lib.hid hb
  have BT := BB1
  clear hb
  go_wp2
  go_ret
  exact ⟨rfl, BT.out⟩

set_option maxHeartbeats 1000000 in
theorem permBack_short (a : Option Addr) (len cap : Nat) (l : List Nat) (w : World) (hr : RowF w a len cap l) (h : (len : Int) ≤ 300) : Calls Try.prog 4 #[.slice a len cap] w fun e w' => e = .returned (.bool true) ∧ Below w.heap.size w w' := by
  have T1 := Lib.hid hr.fla
  have hl : l.length ≤ 300 := by rw [hr.1.1]; omega
  clear hr
  go_enter Try.func4, Try.ntmps4
  go_wp2_with fail
  refine (l10_head _).mono ?_
  rintro e W1 ⟨rfl, hb⟩
  have BB1 := Lib.hid hb
  replace T1 := Lib.hid (T1.out.below BB1.out)
  have BT := BB1
  clear hb
  go_wp2_with fail
  refine (even_f T1.out (by omega)).mono ?_
  intro e W2 hm
  obtain ⟨o2, n2, c2, rfl, ho, hb⟩ := makes_n hm
  clear hm
  have BB2 := Lib.hid hb
  replace T1 := Lib.hid (T1.out.below BB2.out)
  have TE := Lib.hid ho
  replace BT := Lib.hid (BT.out.trans (BB2.out.mono BT.out.size))
  clear hb ho
  go_wp2_with fail
  refine (odd_f T1.out (by omega)).mono ?_
  intro e W3 hm
  obtain ⟨o3, n3, c3, rfl, ho, hb⟩ := makes_n hm
  clear hm
  have BB3 := Lib.hid hb
  replace T1 := Lib.hid (T1.out.below BB3.out)
  replace TE := Lib.hid (TE.out.below BB3.out)
  have TO := Lib.hid ho
  replace BT := Lib.hid (BT.out.trans (BB3.out.mono BT.out.size))
  clear hb ho
  go_wp2_with fail
  refine (zip_f TE.out TO.out (by rw [takes_length]; omega) (by rw [takes_length]; omega) (by rw [takes_length, takes_length]; omega)).mono ?_
  intro e W4 hm
  obtain ⟨o4, n4, c4, rfl, ho, hb⟩ := makes2_n hm
  clear hm
  have BB4 := Lib.hid hb
  replace T1 := Lib.hid (T1.out.below BB4.out)
  replace TE := Lib.hid (TE.out.below BB4.out)
  replace TO := Lib.hid (TO.out.below BB4.out)
  have TZ := Lib.hid ho
  replace BT := Lib.hid (BT.out.trans (BB4.out.mono BT.out.size))
  clear hb ho
  clear TE
  clear TO
  go_wp2_with fail
  refine (sameRow_f TZ.out T1.out (zips_back l) (by rw [zips_back]; omega)).mono ?_
  rintro e W5 ⟨rfl, hb⟩
  have BB5 := Lib.hid hb
  replace T1 := Lib.hid (T1.out.below BB5.out)
  replace TZ := Lib.hid (TZ.out.below BB5.out)
  replace BT := Lib.hid (BT.out.trans (BB5.out.mono BT.out.size))
  clear hb
  clear TZ
  go_wp2_with fail
  refine (rev_f T1.out (by omega)).mono ?_
  intro e W6 hm
  obtain ⟨o6, n6, c6, rfl, ho, hb⟩ := makes_n hm
  clear hm
  have BB6 := Lib.hid hb
  replace T1 := Lib.hid (T1.out.below BB6.out)
  have TR := Lib.hid ho
  replace BT := Lib.hid (BT.out.trans (BB6.out.mono BT.out.size))
  clear hb ho
  go_wp2_with fail
  refine (rev_f TR.out (by rw [revs_length]; omega)).mono ?_
  intro e W7 hm
  obtain ⟨o7, n7, c7, rfl, ho, hb⟩ := makes_n hm
  clear hm
  have BB7 := Lib.hid hb
  replace T1 := Lib.hid (T1.out.below BB7.out)
  replace TR := Lib.hid (TR.out.below BB7.out)
  have TS := Lib.hid ho
  replace BT := Lib.hid (BT.out.trans (BB7.out.mono BT.out.size))
  clear hb ho
  clear TR
  go_wp2_with fail
  refine (sameRow_f TS.out T1.out (revs_back l) (by rw [revs_back]; omega)).mono ?_
  rintro e W8 ⟨rfl, hb⟩
  have BB8 := Lib.hid hb
  replace T1 := Lib.hid (T1.out.below BB8.out)
  replace TS := Lib.hid (TS.out.below BB8.out)
  replace BT := Lib.hid (BT.out.trans (BB8.out.mono BT.out.size))
  clear hb
  clear TS
  go_wp2_with fail
  refine (signs_f T1.out (by omega)).mono ?_
  intro e W9 hm
  obtain ⟨o9, n9, c9, rfl, ho, hb⟩ := makes_n hm
  clear hm
  have BB9 := Lib.hid hb
  replace T1 := Lib.hid (T1.out.below BB9.out)
  have TR := Lib.hid ho
  replace BT := Lib.hid (BT.out.trans (BB9.out.mono BT.out.size))
  clear hb ho
  go_wp2_with fail
  refine (signs_f TR.out (by rw [signs_length]; omega)).mono ?_
  intro e W10 hm
  obtain ⟨o10, n10, c10, rfl, ho, hb⟩ := makes_n hm
  clear hm
  have BB10 := Lib.hid hb
  replace T1 := Lib.hid (T1.out.below BB10.out)
  replace TR := Lib.hid (TR.out.below BB10.out)
  have TS := Lib.hid ho
  replace BT := Lib.hid (BT.out.trans (BB10.out.mono BT.out.size))
  clear hb ho
  clear TR
  go_wp2_with fail
  refine (sameRow_f TS.out T1.out (signs_back _ l) (by rw [signs_back]; omega)).mono ?_
  rintro e W11 ⟨rfl, hb⟩
  have BB11 := Lib.hid hb
  replace T1 := Lib.hid (T1.out.below BB11.out)
  replace TS := Lib.hid (TS.out.below BB11.out)
  replace BT := Lib.hid (BT.out.trans (BB11.out.mono BT.out.size))
  clear hb
  clear TS
  go_wp2_with fail
  refine (fold_f T1.out (by omega)).mono ?_
  intro e W12 hm
  obtain ⟨o12, n12, c12, rfl, ho, hb⟩ := makes_n hm
  clear hm
  have BB12 := Lib.hid hb
  replace T1 := Lib.hid (T1.out.below BB12.out)
  have TR := Lib.hid ho
  replace BT := Lib.hid (BT.out.trans (BB12.out.mono BT.out.size))
  clear hb ho
  go_wp2_with fail
  refine (unfold_fla TR.out (by rw [folds_length]; omega)).mono ?_
  intro e W13 hm
  obtain ⟨o13, n13, c13, rfl, ho, hb⟩ := makes_n hm
  clear hm
  have BB13 := Lib.hid hb
  replace T1 := Lib.hid (T1.out.below BB13.out)
  replace TR := Lib.hid (TR.out.below BB13.out)
  have TS := Lib.hid ho
  replace BT := Lib.hid (BT.out.trans (BB13.out.mono BT.out.size))
  clear hb ho
  clear TR
  go_wp2_with fail
  refine (sameRow_f TS.out T1.out (unfold_fold l) (by rw [unfold_fold]; omega)).mono ?_
  rintro e W14 ⟨rfl, hb⟩
  have BB14 := Lib.hid hb
  replace T1 := Lib.hid (T1.out.below BB14.out)
  replace TS := Lib.hid (TS.out.below BB14.out)
  replace BT := Lib.hid (BT.out.trans (BB14.out.mono BT.out.size))
  clear hb
  clear TS
  go_wp2_with fail
  refine (unfold_fla T1.out (by omega)).mono ?_
  intro e W15 hm
  obtain ⟨o15, n15, c15, rfl, ho, hb⟩ := makes_n hm
  clear hm
  have BB15 := Lib.hid hb
  replace T1 := Lib.hid (T1.out.below BB15.out)
  have TR := Lib.hid ho
  replace BT := Lib.hid (BT.out.trans (BB15.out.mono BT.out.size))
  clear hb ho
  go_wp2_with fail
  refine (fold_f TR.out (by rw [unfolds_length]; omega)).mono ?_
  intro e W16 hm
  obtain ⟨o16, n16, c16, rfl, ho, hb⟩ := makes_n hm
  clear hm
  have BB16 := Lib.hid hb
  replace T1 := Lib.hid (T1.out.below BB16.out)
  replace TR := Lib.hid (TR.out.below BB16.out)
  have TS := Lib.hid ho
  replace BT := Lib.hid (BT.out.trans (BB16.out.mono BT.out.size))
  clear hb ho
  clear TR
  go_wp2_with fail
  refine (sameRow_f TS.out T1.out (fold_unfold l) (by rw [fold_unfold]; omega)).mono ?_
  rintro e W17 ⟨rfl, hb⟩
  have BB17 := Lib.hid hb
  replace T1 := Lib.hid (T1.out.below BB17.out)
  replace TS := Lib.hid (TS.out.below BB17.out)
  replace BT := Lib.hid (BT.out.trans (BB17.out.mono BT.out.size))
  clear hb
  clear TS
  go_wp2
  go_ret
  exact ⟨rfl, BT.out⟩
end Go.Proofs.Ytajnjghbppcfdaa
