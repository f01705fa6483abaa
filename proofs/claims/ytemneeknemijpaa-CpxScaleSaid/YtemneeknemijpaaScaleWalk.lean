/- CpxScale: the law's walk. Under: the count is a byte. -/
import Derived.Test.YtemneeknemijpaaCt
import Derived.Test.YtemneeknemijpaaFn
import Derived.Test.YtemneeknemijpaaWv
set_option maxRecDepth 100000
namespace Go.Proofs.Ytemneeknemijpaa
open Go.RowKit

set_option maxHeartbeats 4000000 in
theorem cpxScale_walk (a b c d : Nat) (k : Int) (w : World) (ha : a < 2 ^ 64) (hb : b < 2 ^ 64) (hc : c < 2 ^ 64) (hd : d < 2 ^ 64) (hk : 0 ≤ k ∧ k ≤ 255) : Calls Try.prog 8 #[F a, F b, F c, F d, .int .u8 k] w fun e w' => e = .returned (.bool true) ∧ Below w.heap.size w w' := by
  have HLa := Lib.hid ha
  have HLb := Lib.hid hb
  have HLc := Lib.hid hc
  have HLd := Lib.hid hd
  obtain ⟨t, ht⟩ : ∃ t : Nat, k % 60 = (t : Int) := ⟨(k % 60).toNat, by omega⟩
  have ht9 : t ≤ 59 := by omega
  have HT := Lib.hid ht9
  obtain ⟨hk0, hk1⟩ := hk
  clear ha hb hc hd
  go_enter Try.func8, Try.ntmps8
  go_wp2_with fail
  refine (l9_head _).mono ?_
  rintro e w1 ⟨rfl, hb1⟩
  have HB : Hid (Below w.heap.size w w1) := Lib.hid hb1
  clear hb1
  go_wp2_with fail
  refine (l9_fits a HLa.out _).mono ?_
  rintro e wz ⟨⟨fa, rfl, hfa⟩, rfl⟩
  cases fa
  · clear hfa
    go_wp2
    go_ret
    exact ⟨rfl, HB.out⟩
  have FTa := Lib.hid (hfa rfl)
  clear hfa
  go_wp2_with fail
  refine (l9_fits b HLb.out _).mono ?_
  rintro e wz ⟨⟨fb, rfl, hfb⟩, rfl⟩
  cases fb
  · clear hfb
    go_wp2
    go_ret
    exact ⟨rfl, HB.out⟩
  have FTb := Lib.hid (hfb rfl)
  clear hfb
  go_wp2_with fail
  refine (l9_fits c HLc.out _).mono ?_
  rintro e wz ⟨⟨fc, rfl, hfc⟩, rfl⟩
  cases fc
  · clear hfc
    go_wp2
    go_ret
    exact ⟨rfl, HB.out⟩
  have FTc := Lib.hid (hfc rfl)
  clear hfc
  go_wp2_with fail
  refine (l9_fits d HLd.out _).mono ?_
  rintro e wz ⟨⟨fd, rfl, hfd⟩, rfl⟩
  cases fd
  · clear hfd
    go_wp2
    go_ret
    exact ⟨rfl, HB.out⟩
  have FTd := Lib.hid (hfd rfl)
  clear hfd
  go_wp2_with fail
  refine (f_near (m := 1) false (by unfold IsN; rw [digs_one]; exact ila_one _ 1 _ rfl) (by rw [digs_one]; decide) (by omega) (by omega)).mono ?_
  rintro e w2 ⟨p, rfl, hp, hb2⟩
  have HP := Lib.hid hp
  have HB := Lib.hid (HB.out.trans ((((Below.refl _ w1).alloc (Nat.le_refl _) _).trans (hb2.mono (by simp))).mono HB.out.size))
  clear hp hb2
  go_wp2_with fail
  refine (cpx_mul a b c d _).mono ?_
  rintro e w3 ⟨e1, f1, rfl, hx, hy, hbm⟩
  have Pe1 := Lib.hid hx.1
  have Pf1 := Lib.hid hy.1
  have HB := Lib.hid (below_next HB.out hbm)
  clear hx hy hbm
  obtain ⟨a', na, hra, hka⟩ := run_mul a p w3 22 Try.prog
  obtain ⟨b', nb, hrb, hkb⟩ := run_mul b p (w3.drewN na) 22 Try.prog
  rw [drew2] at hrb
  have Ka := Lib.hid hka.1
  have Kb := Lib.hid hkb.1
  clear hka hkb
  go_wp2_with fail
  clear hra hrb
  refine (cpx_mul a' b' c d _).mono ?_
  rintro e w4 ⟨g1, h1, rfl, hx, hy, hbm⟩
  have Pg1 := Lib.hid hx.1
  have Ph1 := Lib.hid hy.1
  have HB : Hid (Below w.heap.size w w4) := Lib.hid (below_next HB.out ((below_drewN (Below.refl _ w3) (na + nb)).trans hbm))
  clear hx hy hbm
  go_wp2_with fail
  refine (cpx_half a b _).mono ?_
  rintro e w5 ⟨i1, j1, rfl, hx, hy, hbm⟩
  have Pi1 := Lib.hid hx.1
  have Pj1 := Lib.hid hy.1
  have HB := Lib.hid (below_next HB.out hbm)
  clear hx hy hbm
  go_wp2_with fail
  refine (cpx_add i1 j1 i1 j1 _).mono ?_
  rintro e w6 ⟨m1, n1, rfl, hx, hy, hbm⟩
  have Pm1 := Lib.hid hx.1
  have Pn1 := Lib.hid hy.1
  have HB := Lib.hid (below_next HB.out hbm)
  clear hx hy hbm
  obtain ⟨e', ne, hre, hke⟩ := run_mul e1 p w6 22 Try.prog
  obtain ⟨f', nf, hrf, hkf⟩ := run_mul f1 p (w6.drewN ne) 22 Try.prog
  rw [drew2] at hrf
  obtain ⟨ho1, ho2⟩ := Fl.scale_parts HT.out FTa.out FTb.out FTc.out FTd.out HP.out Ka.out Kb.out Pe1.out Pf1.out Pg1.out Ph1.out hke.1 hkf.1
  have ho3 := Fl.two_halves FTa.out Pi1.out Pm1.out
  have ho4 := Fl.two_halves FTb.out Pj1.out Pn1.out
  clear hke hkf
  go_wp2
  go_ret
  exact ⟨rfl, below_next HB.out (below_drewN (Below.refl _ w6) _)⟩
end Go.Proofs.Ytemneeknemijpaa
