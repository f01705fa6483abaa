/- PermZip: the law's walk: it answers true. No condition but the rows' place in memory. -/
import Derived.Test.YtajnjghbppcfdaaFrames
namespace Go.Proofs.Ytajnjghbppcfdaa
open Go.RowKit Go.Shelf

theorem permZip_long (a a' : Option Addr) (len cap len' cap' : Nat) (w : World) (h : (300 : Int) < (len : Int)) : Calls Try.prog 5 #[.slice a len cap, .slice a' len' cap'] w fun e w' => e = .returned (.bool true) ∧ Below w.heap.size w w' := by
  go_enter Try.func5, Try.ntmps5
  go_wp2_with fail
  refine (l10_head _).mono ?_
  rintro e W1 ⟨rfl, hb⟩
  have BB1 := Lib.hid hb
  have BT := BB1
  clear hb
  go_wp2
  go_ret
  exact ⟨rfl, BT.out⟩

theorem permZip_long2 (a a' : Option Addr) (len cap len' cap' : Nat) (w : World) (h0 : (len : Int) ≤ 300) (h : (300 : Int) < (len' : Int)) : Calls Try.prog 5 #[.slice a len cap, .slice a' len' cap'] w fun e w' => e = .returned (.bool true) ∧ Below w.heap.size w w' := by
  go_enter Try.func5, Try.ntmps5
  go_wp2_with fail
  refine (l10_head _).mono ?_
  rintro e W1 ⟨rfl, hb⟩
  have BB1 := Lib.hid hb
  have BT := BB1
  clear hb
  go_wp2
  go_ret
  exact ⟨rfl, BT.out⟩

set_option maxHeartbeats 1000000 in
theorem permZip_eq (a a' : Option Addr) (len cap len' cap' : Nat) (l l' : List Nat) (w : World) (hr : RowF w a len cap l) (hr' : RowF w a' len' cap' l') (h : (len : Int) ≤ 300) (h' : (len' : Int) ≤ 300) (hd : len = len') : Calls Try.prog 5 #[.slice a len cap, .slice a' len' cap'] w fun e w' => e = .returned (.bool true) ∧ Below w.heap.size w w' := by
  have T1 := Lib.hid hr.fla
  have T2 := Lib.hid hr'.fla
  have hl : Hid (l.length = len) := Lib.hid hr.1.1
  have hl' : Hid (l'.length = len') := Lib.hid hr'.1.1
  have HD := Lib.hid hd
  clear hr hr'
  have hd1 : (len : Int) = (len' : Int) := by omega
  have hb1 : ((len : Int) == (len' : Int)) = true := by rw [hd1]; exact beq_self_eq_true _
  clear hd hd1
  go_enter Try.func5, Try.ntmps5
  go_wp2_with fail
  refine (l10_head _).mono ?_
  rintro e W1 ⟨rfl, hb⟩
  have BB1 := Lib.hid hb
  replace T1 := Lib.hid (T1.out.below BB1.out)
  replace T2 := Lib.hid (T2.out.below BB1.out)
  have BT := BB1
  clear hb
  have hz : Hid (l.length = l'.length ∨ l.length = l'.length + 1) := Lib.hid (by rw [hl.out, hl'.out]; have := HD.out; omega)
  go_wp2_with fail
  refine (zip_f T1.out T2.out (by rw [hl.out]; omega) (by rw [hl'.out]; omega) hz.out).mono ?_
  intro e W2 hm
  obtain ⟨o2, n2, c2, rfl, ho, hb⟩ := makes2_n hm
  clear hm
  have BB2 := Lib.hid hb
  replace T1 := Lib.hid (T1.out.below BB2.out)
  replace T2 := Lib.hid (T2.out.below BB2.out)
  have TZ := Lib.hid ho
  replace BT := Lib.hid (BT.out.trans (BB2.out.mono BT.out.size))
  clear hb ho
  have hzl : Hid ((zips l l').length ≤ 2000) := Lib.hid (by rw [zips_length, hl.out, hl'.out]; omega)
  go_wp2_with fail
  refine (even_f TZ.out hzl.out).mono ?_
  intro e W3 hm
  obtain ⟨o3, n3, c3, rfl, ho, hb⟩ := makes_n hm
  clear hm
  have BB3 := Lib.hid hb
  replace T1 := Lib.hid (T1.out.below BB3.out)
  replace T2 := Lib.hid (T2.out.below BB3.out)
  replace TZ := Lib.hid (TZ.out.below BB3.out)
  have TE := Lib.hid ho
  replace BT := Lib.hid (BT.out.trans (BB3.out.mono BT.out.size))
  clear hb ho
  go_wp2_with fail
  refine (sameRow_f TE.out T1.out (evens_zips l l' hz.out) (by rw [evens_zips l l' hz.out, hl.out]; omega)).mono ?_
  rintro e W4 ⟨rfl, hb⟩
  have BB4 := Lib.hid hb
  replace T1 := Lib.hid (T1.out.below BB4.out)
  replace T2 := Lib.hid (T2.out.below BB4.out)
  replace TZ := Lib.hid (TZ.out.below BB4.out)
  replace TE := Lib.hid (TE.out.below BB4.out)
  replace BT := Lib.hid (BT.out.trans (BB4.out.mono BT.out.size))
  clear hb
  clear TE
  go_wp2_with fail
  refine (odd_f TZ.out hzl.out).mono ?_
  intro e W5 hm
  obtain ⟨o5, n5, c5, rfl, ho, hb⟩ := makes_n hm
  clear hm
  have BB5 := Lib.hid hb
  replace T1 := Lib.hid (T1.out.below BB5.out)
  replace T2 := Lib.hid (T2.out.below BB5.out)
  replace TZ := Lib.hid (TZ.out.below BB5.out)
  have TE := Lib.hid ho
  replace BT := Lib.hid (BT.out.trans (BB5.out.mono BT.out.size))
  clear hb ho
  go_wp2_with fail
  refine (sameRow_f TE.out T2.out (odds_zips l l' hz.out) (by rw [odds_zips l l' hz.out, hl'.out]; omega)).mono ?_
  rintro e W6 ⟨rfl, hb⟩
  have BB6 := Lib.hid hb
  replace T1 := Lib.hid (T1.out.below BB6.out)
  replace T2 := Lib.hid (T2.out.below BB6.out)
  replace TZ := Lib.hid (TZ.out.below BB6.out)
  replace TE := Lib.hid (TE.out.below BB6.out)
  replace BT := Lib.hid (BT.out.trans (BB6.out.mono BT.out.size))
  clear hb
  clear TE
  go_wp2
  go_ret
  exact ⟨rfl, BT.out⟩

set_option maxHeartbeats 1000000 in
theorem permZip_suc (a a' : Option Addr) (len cap len' cap' : Nat) (l l' : List Nat) (w : World) (hr : RowF w a len cap l) (hr' : RowF w a' len' cap' l') (h : (len : Int) ≤ 300) (h' : (len' : Int) ≤ 300) (hd : len = len' + 1) : Calls Try.prog 5 #[.slice a len cap, .slice a' len' cap'] w fun e w' => e = .returned (.bool true) ∧ Below w.heap.size w w' := by
  have T1 := Lib.hid hr.fla
  have T2 := Lib.hid hr'.fla
  have hl : Hid (l.length = len) := Lib.hid hr.1.1
  have hl' : Hid (l'.length = len') := Lib.hid hr'.1.1
  have HD := Lib.hid hd
  clear hr hr'
  have hb1 : ((len : Int) == (len' : Int)) = false := by apply beq_false_of_ne; omega
  have hb2 : ((len : Int) == (len' : Int) + 1) = true := by rw [beq_iff_eq]; omega
  clear hd
  go_enter Try.func5, Try.ntmps5
  go_wp2_with fail
  refine (l10_head _).mono ?_
  rintro e W1 ⟨rfl, hb⟩
  have BB1 := Lib.hid hb
  replace T1 := Lib.hid (T1.out.below BB1.out)
  replace T2 := Lib.hid (T2.out.below BB1.out)
  have BT := BB1
  clear hb
  have hz : Hid (l.length = l'.length ∨ l.length = l'.length + 1) := Lib.hid (by rw [hl.out, hl'.out]; have := HD.out; omega)
  go_wp2_with fail
  refine (zip_f T1.out T2.out (by rw [hl.out]; omega) (by rw [hl'.out]; omega) hz.out).mono ?_
  intro e W2 hm
  obtain ⟨o2, n2, c2, rfl, ho, hb⟩ := makes2_n hm
  clear hm
  have BB2 := Lib.hid hb
  replace T1 := Lib.hid (T1.out.below BB2.out)
  replace T2 := Lib.hid (T2.out.below BB2.out)
  have TZ := Lib.hid ho
  replace BT := Lib.hid (BT.out.trans (BB2.out.mono BT.out.size))
  clear hb ho
  have hzl : Hid ((zips l l').length ≤ 2000) := Lib.hid (by rw [zips_length, hl.out, hl'.out]; omega)
  go_wp2_with fail
  refine (even_f TZ.out hzl.out).mono ?_
  intro e W3 hm
  obtain ⟨o3, n3, c3, rfl, ho, hb⟩ := makes_n hm
  clear hm
  have BB3 := Lib.hid hb
  replace T1 := Lib.hid (T1.out.below BB3.out)
  replace T2 := Lib.hid (T2.out.below BB3.out)
  replace TZ := Lib.hid (TZ.out.below BB3.out)
  have TE := Lib.hid ho
  replace BT := Lib.hid (BT.out.trans (BB3.out.mono BT.out.size))
  clear hb ho
  go_wp2_with fail
  refine (sameRow_f TE.out T1.out (evens_zips l l' hz.out) (by rw [evens_zips l l' hz.out, hl.out]; omega)).mono ?_
  rintro e W4 ⟨rfl, hb⟩
  have BB4 := Lib.hid hb
  replace T1 := Lib.hid (T1.out.below BB4.out)
  replace T2 := Lib.hid (T2.out.below BB4.out)
  replace TZ := Lib.hid (TZ.out.below BB4.out)
  replace TE := Lib.hid (TE.out.below BB4.out)
  replace BT := Lib.hid (BT.out.trans (BB4.out.mono BT.out.size))
  clear hb
  clear TE
  go_wp2_with fail
  refine (odd_f TZ.out hzl.out).mono ?_
  intro e W5 hm
  obtain ⟨o5, n5, c5, rfl, ho, hb⟩ := makes_n hm
  clear hm
  have BB5 := Lib.hid hb
  replace T1 := Lib.hid (T1.out.below BB5.out)
  replace T2 := Lib.hid (T2.out.below BB5.out)
  replace TZ := Lib.hid (TZ.out.below BB5.out)
  have TE := Lib.hid ho
  replace BT := Lib.hid (BT.out.trans (BB5.out.mono BT.out.size))
  clear hb ho
  go_wp2_with fail
  refine (sameRow_f TE.out T2.out (odds_zips l l' hz.out) (by rw [odds_zips l l' hz.out, hl'.out]; omega)).mono ?_
  rintro e W6 ⟨rfl, hb⟩
  have BB6 := Lib.hid hb
  replace T1 := Lib.hid (T1.out.below BB6.out)
  replace T2 := Lib.hid (T2.out.below BB6.out)
  replace TZ := Lib.hid (TZ.out.below BB6.out)
  replace TE := Lib.hid (TE.out.below BB6.out)
  replace BT := Lib.hid (BT.out.trans (BB6.out.mono BT.out.size))
  clear hb
  clear TE
  go_wp2
  go_ret
  exact ⟨rfl, BT.out⟩

set_option maxHeartbeats 1000000 in
theorem permZip_no (a a' : Option Addr) (len cap len' cap' : Nat) (l l' : List Nat) (w : World) (hr : RowF w a len cap l) (hr' : RowF w a' len' cap' l') (h : (len : Int) ≤ 300) (h' : (len' : Int) ≤ 300) (hd : ¬ (len = len' ∨ len = len' + 1)) : Calls Try.prog 5 #[.slice a len cap, .slice a' len' cap'] w fun e w' => e = .returned (.bool true) ∧ Below w.heap.size w w' := by
  have T1 := Lib.hid hr.fla
  have T2 := Lib.hid hr'.fla
  have hl : Hid (l.length = len) := Lib.hid hr.1.1
  have hl' : Hid (l'.length = len') := Lib.hid hr'.1.1
  have HD := Lib.hid hd
  clear hr hr'
  have hb1 : ((len : Int) == (len' : Int)) = false := by apply beq_false_of_ne; omega
  have hb2 : ((len : Int) == (len' : Int) + 1) = false := by apply beq_false_of_ne; omega
  clear hd
  go_enter Try.func5, Try.ntmps5
  go_wp2_with fail
  refine (l10_head _).mono ?_
  rintro e W1 ⟨rfl, hb⟩
  have BB1 := Lib.hid hb
  replace T1 := Lib.hid (T1.out.below BB1.out)
  replace T2 := Lib.hid (T2.out.below BB1.out)
  have BT := BB1
  clear hb
  go_wp2_with fail
  refine (zip_no a a' len len' cap cap' _ (by omega) (by omega) HD.out).mono ?_
  rintro e W' ⟨rfl, rfl⟩
  go_wp2
  go_ret
  exact ⟨rfl, BT.out⟩
end Go.Proofs.Ytajnjghbppcfdaa
