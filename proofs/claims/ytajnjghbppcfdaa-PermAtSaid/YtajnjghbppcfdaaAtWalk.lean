/- PermAt: the law's walk: it answers true. -/
import Derived.Test.YtajnjghbppcfdaaFrames
import Derived.StillTailTactics
namespace Go.Proofs.Ytajnjghbppcfdaa
open Go.RowKit Go.Shelf

theorem fla_len {w : World} {o : Option Addr} {n c : Nat} {l : List Nat} (h : Fla w (.slice o n c) l) : l.length = n := by
  obtain ⟨a, n', c', he, h1, _⟩ := h
  simp only [Value.slice.injEq] at he
  obtain ⟨rfl, rfl, rfl⟩ := he
  exact h1.1
theorem fla_cells {w : World} {o : Option Addr} {n c : Nat} {l : List Nat} (h : Fla w (.slice o n c) l) (h0 : 0 < n) : ∃ b off, o = some ⟨b, off, none⟩ ∧ ∀ k, k < n → w.cell? ⟨b, off + k, none⟩ = some (F (l.getD k 0)) := by
  have hl := fla_len h
  obtain ⟨a, n', c', he, h1, _⟩ := h
  simp only [Value.slice.injEq] at he
  obtain ⟨rfl, rfl, rfl⟩ := he
  rcases h1.2 with h2 | ⟨b, off, rfl, hc⟩
  · omega
  · exact ⟨b, off, rfl, fun k hk => hc k (by rw [hl]; exact hk)⟩

theorem own_grown {w w' : World} {B e k n : Nat} {v : Value} {xs : List Value} {row : Option Nat} (h : w.ownsRow B e k v n xs) (hg : w.grownBy w' row) (hne : v.ownBlock ≠ row ∨ v.ownBlock = none) : w'.ownsRow B e k v n xs := by
  refine ⟨h.1, ?_⟩
  rcases h.2 with ⟨rfl, rfl⟩ | ⟨g, cap, cur, rfl, h1, hh, hr⟩
  · exact .inl ⟨rfl, rfl⟩
  · refine .inr ⟨g, cap, cur, rfl, h1, (hg.block g (Array.getElem?_eq_some_iff.1 hh).1 ?_).trans hh, hr⟩
    rcases hne with h2 | h2
    · exact h2
    · cases h2
theorem own_small {w : World} {B n b : Nat} {v : Value} {xs : List Value} {cs : Array Value} {t : TypeId} (h : w.ownsRow B 35 1 v n xs) (hb : w.heap[b]? = some (.cells cs t)) (hs : cs.size < n) : v.ownBlock ≠ some b := by
  rcases h.2 with ⟨rfl, rfl⟩ | ⟨g, cap, cur, rfl, h1, hh, h2, h3, h4, h5⟩
  · intro h; cases h
  · intro he
    cases he
    rw [hh] at hb
    cases hb
    omega
theorem wpList_append_rowG {w : World} {ops : Array Oper} {rest : List Oper} {o : Oper} {act : Act} {Q : Exit → Act → World → Prop} (hgd : o.guard = none) (s x : Operand)
    (ho : o.op = .call { callee := .builtin .append, args := #[s, x], argTypes := #[22, 22] })
    (base : Nat) (v : Value) (k : Nat) (l : List Nat) (hs : act.eval s = v) (hown : w.ownsRow base 35 1 v k (l.map F)) (ad : Addr) (y : Nat) (hx : act.eval x = .slice (some ad) 1 1) (hc : w.cell? ad = some (F y)) (hsz : k + 1 ≤ 10000) (hb : base ≤ w.heap.size)
    (h : ∀ v' w', w'.ownsRow base 35 1 v' (k + 1) ((l ++ [y]).map F) → w.grownBy w' v.ownBlock → Below base w w' → wpList Try.prog ops Q rest (act.put o.dst v') w') : wpList Try.prog ops Q (o :: rest) act w := by
  obtain ⟨i0, hi, hz0, hz1, hz2⟩ := info_parts info35
  refine wpList_append_own _ hgd s x 22 ho base 35 i0 (.float .f64 0) 1 8 Try.underlying22 hi hz0 hz1 hz2 rfl (by decide) v k (l.map F) hs hown ad 1 1 [F y] hx rfl ?_ (oneF [y]) (by unfold maxLen; omega) (by omega) hb ?_
  · intro j u hj
    match j, hj with
    | 0, hj => simp at hj; subst hj; simpa [Addr.add] using hc
  · intro v' w1 ho' hg _
    have ho2 : w1.ownsRow base 35 1 v' (k + 1) ((l ++ [y]).map F) := by rw [List.map_append]; exact ho'
    exact h v' w1 ho2 hg ((Below.refl _ _).grown hg hb (own_base hown))

theorem permAt_none (a : Option Addr) (len cap : Nat) (at_ : Int) (odd : Bool) (w : World) (h : len = 0) : Calls Try.prog 7 #[.slice a len cap, .int .u8 at_, .bool odd] w fun e w' => e = .returned (.bool true) ∧ Below w.heap.size w w' := by
  subst h
  go_enter Try.func7, Try.ntmps7
  go_wp2_with fail
  refine (l10_head _).mono ?_
  rintro e W1 ⟨rfl, hb⟩
  have BB1 := Lib.hid hb
  have BT := BB1
  clear hb
  go_wp2
  go_ret
  exact ⟨rfl, BT.out⟩

theorem permAt_long (a : Option Addr) (len cap : Nat) (at_ : Int) (odd : Bool) (w : World) (h : (300 : Int) < (len : Int)) : Calls Try.prog 7 #[.slice a len cap, .int .u8 at_, .bool odd] w fun e w' => e = .returned (.bool true) ∧ Below w.heap.size w w' := by
  have hb0 : ((len : Int) == 0) = false := by apply beq_false_of_ne; omega
  go_enter Try.func7, Try.ntmps7
  go_wp2_with fail
  refine (l10_head _).mono ?_
  rintro e W1 ⟨rfl, hb⟩
  have BB1 := Lib.hid hb
  have BT := BB1
  clear hb
  go_wp2
  go_ret
  exact ⟨rfl, BT.out⟩

set_option maxHeartbeats 4000000 in
theorem permAt_even_zero (a : Option Addr) (len cap : Nat) (l : List Nat) (at_ : Int) (odd : Bool) (k : Nat) (w : World) (hr : RowF w a len cap l) (h0 : 0 < len) (h : (len : Int) ≤ 300) (hk : at_.tmod (len : Int) = (k : Int)) (hkl : k < len) (ha0 : 0 ≤ at_) (ha1 : at_ ≤ 255) (hp : k % 2 = 0) (hin : k < 1) : Calls Try.prog 7 #[.slice a len cap, .int .u8 at_, .bool odd] w fun e w' => e = .returned (.bool true) ∧ Below w.heap.size w w' := by
  obtain ⟨i0, hi, hz0, hz1, hz2⟩ := info_parts info35
  have T1 := Lib.hid hr.fla
  have hl : Hid (l.length = len) := Lib.hid hr.1.1
  have hpk : (k : Int).tmod 2 = 0 := by rw [Int.tmod_eq_emod_of_nonneg (by omega)]; omega
  have hkl' : (k : Int) < (len : Int) := by omega
  have hb0 : ((len : Int) == 0) = false := by apply beq_false_of_ne; omega
  have hdec : decide ((300 : Int) < (len : Int)) = false := by rw [decide_eq_false_iff_not]; omega
  have hi1 : ¬ (1 : Int) ≤ (k : Int) := by omega
  have HIN := Lib.hid hin
  have HP := Lib.hid hp
  clear hr hin hp
  go_enter Try.func7, Try.ntmps7
  go_wp2_with fail
  refine (l10_head _).mono ?_
  rintro e W1 ⟨rfl, hb⟩
  have BB1 := Lib.hid hb
  replace T1 := Lib.hid (T1.out.below BB1.out)
  have BT := BB1
  clear hb
  go_wp2_with fail
  refine (rev_f T1.out (by rw [hl.out]; omega)).mono ?_
  intro e W2 hm
  obtain ⟨o2, n2, c2, rfl, ho, hb⟩ := makes_n hm
  clear hm
  have BB2 := Lib.hid hb
  replace T1 := Lib.hid (T1.out.below BB2.out)
  have TR := Lib.hid ho
  replace BT := Lib.hid (BT.out.trans (BB2.out.mono BT.out.size))
  clear hb ho
  obtain rfl : n2 = len := by rw [← fla_len TR.out, revs_length, hl.out]
  go_wp2_with fail
  refine (signs_f T1.out (by rw [hl.out]; omega)).mono ?_
  intro e W3 hm
  obtain ⟨o3, n3, c3, rfl, ho, hb⟩ := makes_n hm
  clear hm
  have BB3 := Lib.hid hb
  replace T1 := Lib.hid (T1.out.below BB3.out)
  replace TR := Lib.hid (TR.out.below BB3.out)
  have TS := Lib.hid ho
  replace BT := Lib.hid (BT.out.trans (BB3.out.mono BT.out.size))
  clear hb ho
  obtain rfl : n3 = n2 := by rw [← fla_len TS.out, signs_length, hl.out]
  go_wp2_with fail
  refine (mirror_fla odd T1.out (by rw [hl.out]; omega)).mono ?_
  intro e W4 hm
  obtain ⟨o4, n4, c4, rfl, ho, hb⟩ := makes_n hm
  clear hm
  have BB4 := Lib.hid hb
  replace T1 := Lib.hid (T1.out.below BB4.out)
  replace TR := Lib.hid (TR.out.below BB4.out)
  replace TS := Lib.hid (TS.out.below BB4.out)
  have TM := Lib.hid ho
  replace BT := Lib.hid (BT.out.trans (BB4.out.mono BT.out.size))
  clear hb ho
  have hM : n4 = n3 + (n3 - 2) := by rw [← fla_len TM.out, mirrors_length, hl.out]
  obtain ⟨y, hy⟩ : ∃ y, l.getD k 0 = y := ⟨_, rfl⟩
  obtain ⟨bl, ol, rfl, hcl⟩ := fla_cells T1.out h0
  obtain ⟨br, or_, rfl, hcr⟩ := fla_cells TR.out h0
  obtain ⟨bs, os_, rfl, hcs⟩ := fla_cells TS.out h0
  obtain ⟨bm, om, rfl, hcm⟩ := fla_cells TM.out (by omega)
  have kl := hcl k hkl
  rw [hy] at kl
  have kr := hcr (n3 - 1 - k) (by omega)
  rw [revs_getD _ _ (by rw [hl.out]; omega), hl.out, show n3 - 1 - (n3 - 1 - k) = k by omega, hy] at kr
  have ks := hcs k hkl
  rw [signs_getD _ _ _ (by rw [hl.out]; exact hkl), hy] at ks
  have km := hcm k (by omega)
  rw [mirrors_low _ _ _ (by rw [hl.out]; exact hkl), hy] at km
  rw [if_neg (by rw [beq_iff_eq]; have := HP.out; omega)] at ks
  have lbl := cell_lt kl
  have lbr := cell_lt kr
  have lbs := cell_lt ks
  have lbm := cell_lt km
  obtain ⟨q, hq⟩ : ∃ q, n3 - 1 - k = q := ⟨_, rfl⟩
  rw [hq] at kr
  obtain ⟨u, hu⟩ : ∃ u, n3 - 1 = u := ⟨_, rfl⟩
  have hqa : (n3 : Int) - 1 = (u : Int) := by omega
  have hqb : (u : Int) - (k : Int) = (q : Int) := by omega
  have hqc : IntKind.i64.wrap (u : Int) = (u : Int) := by rw [IntKind.wrap_i64]; omega
  have hqd : IntKind.i64.wrap (q : Int) = (q : Int) := by rw [IntKind.wrap_i64]; omega
  have hqn : (q : Int) < (n3 : Int) := by omega
  have hkM : (k : Int) < (n4 : Int) := by omega
  have hMi : (n3 : Int) + max ((n3 : Int) - 2) 0 = (n4 : Int) := by omega
  have hmx : ((n4 : Int) != (n3 : Int) + if (n3 : Int) - 2 < 0 then 0 else (n3 : Int) - 2) = false := by
    rw [bne_eq_false_iff_eq]
    split <;> omega
  have HMM := Lib.hid hM
  clear hcl hcr hcs hcm hy hq hu hM hMi
  go_wp2
  all_goals
    go_still_tail 16, (by kernel_rfl)
    change wpList _ _ _ _ _ W4.drew
    have lbl' : bl < W4.drew.heap.size := lbl
    have kl' : W4.drew.cell? ⟨bl, ol + k, none⟩ = some (F y) := kl
    have HB5 : Hid (Below w.heap.size w W4.drew) := Lib.hid BT.out.drew
    clear T1 TR TS TM kl kr ks km lbl lbr lbs lbm BB1 BB2 BB3 BB4 BT
    generalize W4.drew = W5 at lbl' kl' HB5 ⊢
    go_wp2
    have kl2 : (W5.alloc (.cells #[F y, F (y), F y] 35)).cell? ⟨bl, ol + k, none⟩ = some (F y) := (World.cell?_alloc_past _ _ _ lbl').trans kl'
    have lbl2 : bl < (W5.alloc (.cells #[F y, F (y), F y] 35)).heap.size := by rw [World.size_alloc]; omega
    have HF13 : Hid (Fla (W5.alloc (.cells #[F y, F (y), F y] 35)) (.slice (some ⟨W5.heap.size, 0, none⟩) 3 3) [y, y, y]) := Lib.hid (fla_lit W5 #[F y, F (y), F y] [y, y, y] rfl _ rfl (by simp))
    have HO13 : Hid ((W5.alloc (.cells #[F y, F (y), F y] 35)).ownsRow w.heap.size 35 1 (.slice (some ⟨W5.heap.size, 0, none⟩) 3 3) 3 ([y, y, y].map F)) := Lib.hid (World.ownsRow_lit W5 #[F y, F (y), F y] 3 HB5.out.size (by decide) rfl)
    have HB6 : Hid (Below w.heap.size w (W5.alloc (.cells #[F y, F (y), F y] 35))) := Lib.hid (HB5.out.alloc HB5.out.size _)
    have hs56 : W5.heap.size < (W5.alloc (.cells #[F y, F (y), F y] 35)).heap.size := by simp
    generalize W5.alloc (.cells #[F y, F (y), F y] 35) = W6 at kl2 lbl2 HF13 HO13 HB6 hs56 ⊢
    go_still_tail 9, (by kernel_rfl)
    change wpList _ _ _ _ _ W6.drew
    go_wp2_with fail
    refine (sameRow_f (l := [y, y, y]) (HF13.out.below (((Below.refl _ _).drew).alloc (Nat.le_refl _) _)) (fla_lit _ #[F y, F (y), F y] [y, y, y] rfl _ (by first | rfl | simp) (by simp)) rfl (by simp)).mono ?_
    rintro e W7 ⟨rfl, hb⟩
    have HB7 := Lib.hid hb
    clear hb
    go_wp2
    go_ret
    exact ⟨rfl, HB6.out.trans (((((Below.refl _ W6).drew.alloc (Nat.le_refl _) _).trans (HB7.out.mono (by simp))).mono HB6.out.size))⟩

set_option maxHeartbeats 4000000 in
theorem permAt_even_last (a : Option Addr) (len cap : Nat) (l : List Nat) (at_ : Int) (odd : Bool) (k : Nat) (w : World) (hr : RowF w a len cap l) (h0 : 0 < len) (h : (len : Int) ≤ 300) (hk : at_.tmod (len : Int) = (k : Int)) (hkl : k < len) (ha0 : 0 ≤ at_) (ha1 : at_ ≤ 255) (hp : k % 2 = 0) (hin : 1 ≤ k ∧ k + 1 = len) : Calls Try.prog 7 #[.slice a len cap, .int .u8 at_, .bool odd] w fun e w' => e = .returned (.bool true) ∧ Below w.heap.size w w' := by
  obtain ⟨i0, hi, hz0, hz1, hz2⟩ := info_parts info35
  have T1 := Lib.hid hr.fla
  have hl : Hid (l.length = len) := Lib.hid hr.1.1
  have hpk : (k : Int).tmod 2 = 0 := by rw [Int.tmod_eq_emod_of_nonneg (by omega)]; omega
  have hkl' : (k : Int) < (len : Int) := by omega
  have hb0 : ((len : Int) == 0) = false := by apply beq_false_of_ne; omega
  have hdec : decide ((300 : Int) < (len : Int)) = false := by rw [decide_eq_false_iff_not]; omega
  have hi1 : (1 : Int) ≤ (k : Int) := by omega
  have hi2 : ¬ (k : Int) + 1 < (len : Int) := by omega
  have HIN := Lib.hid hin
  have HP := Lib.hid hp
  clear hr hin hp
  go_enter Try.func7, Try.ntmps7
  go_wp2_with fail
  refine (l10_head _).mono ?_
  rintro e W1 ⟨rfl, hb⟩
  have BB1 := Lib.hid hb
  replace T1 := Lib.hid (T1.out.below BB1.out)
  have BT := BB1
  clear hb
  go_wp2_with fail
  refine (rev_f T1.out (by rw [hl.out]; omega)).mono ?_
  intro e W2 hm
  obtain ⟨o2, n2, c2, rfl, ho, hb⟩ := makes_n hm
  clear hm
  have BB2 := Lib.hid hb
  replace T1 := Lib.hid (T1.out.below BB2.out)
  have TR := Lib.hid ho
  replace BT := Lib.hid (BT.out.trans (BB2.out.mono BT.out.size))
  clear hb ho
  obtain rfl : n2 = len := by rw [← fla_len TR.out, revs_length, hl.out]
  go_wp2_with fail
  refine (signs_f T1.out (by rw [hl.out]; omega)).mono ?_
  intro e W3 hm
  obtain ⟨o3, n3, c3, rfl, ho, hb⟩ := makes_n hm
  clear hm
  have BB3 := Lib.hid hb
  replace T1 := Lib.hid (T1.out.below BB3.out)
  replace TR := Lib.hid (TR.out.below BB3.out)
  have TS := Lib.hid ho
  replace BT := Lib.hid (BT.out.trans (BB3.out.mono BT.out.size))
  clear hb ho
  obtain rfl : n3 = n2 := by rw [← fla_len TS.out, signs_length, hl.out]
  go_wp2_with fail
  refine (mirror_fla odd T1.out (by rw [hl.out]; omega)).mono ?_
  intro e W4 hm
  obtain ⟨o4, n4, c4, rfl, ho, hb⟩ := makes_n hm
  clear hm
  have BB4 := Lib.hid hb
  replace T1 := Lib.hid (T1.out.below BB4.out)
  replace TR := Lib.hid (TR.out.below BB4.out)
  replace TS := Lib.hid (TS.out.below BB4.out)
  have TM := Lib.hid ho
  replace BT := Lib.hid (BT.out.trans (BB4.out.mono BT.out.size))
  clear hb ho
  have hM : n4 = n3 + (n3 - 2) := by rw [← fla_len TM.out, mirrors_length, hl.out]
  obtain ⟨y, hy⟩ : ∃ y, l.getD k 0 = y := ⟨_, rfl⟩
  obtain ⟨bl, ol, rfl, hcl⟩ := fla_cells T1.out h0
  obtain ⟨br, or_, rfl, hcr⟩ := fla_cells TR.out h0
  obtain ⟨bs, os_, rfl, hcs⟩ := fla_cells TS.out h0
  obtain ⟨bm, om, rfl, hcm⟩ := fla_cells TM.out (by omega)
  have kl := hcl k hkl
  rw [hy] at kl
  have kr := hcr (n3 - 1 - k) (by omega)
  rw [revs_getD _ _ (by rw [hl.out]; omega), hl.out, show n3 - 1 - (n3 - 1 - k) = k by omega, hy] at kr
  have ks := hcs k hkl
  rw [signs_getD _ _ _ (by rw [hl.out]; exact hkl), hy] at ks
  have km := hcm k (by omega)
  rw [mirrors_low _ _ _ (by rw [hl.out]; exact hkl), hy] at km
  rw [if_neg (by rw [beq_iff_eq]; have := HP.out; omega)] at ks
  have lbl := cell_lt kl
  have lbr := cell_lt kr
  have lbs := cell_lt ks
  have lbm := cell_lt km
  obtain ⟨q, hq⟩ : ∃ q, n3 - 1 - k = q := ⟨_, rfl⟩
  rw [hq] at kr
  obtain ⟨u, hu⟩ : ∃ u, n3 - 1 = u := ⟨_, rfl⟩
  have hqa : (n3 : Int) - 1 = (u : Int) := by omega
  have hqb : (u : Int) - (k : Int) = (q : Int) := by omega
  have hqc : IntKind.i64.wrap (u : Int) = (u : Int) := by rw [IntKind.wrap_i64]; omega
  have hqd : IntKind.i64.wrap (q : Int) = (q : Int) := by rw [IntKind.wrap_i64]; omega
  have hqn : (q : Int) < (n3 : Int) := by omega
  have hkM : (k : Int) < (n4 : Int) := by omega
  have hMi : (n3 : Int) + max ((n3 : Int) - 2) 0 = (n4 : Int) := by omega
  have hmx : ((n4 : Int) != (n3 : Int) + if (n3 : Int) - 2 < 0 then 0 else (n3 : Int) - 2) = false := by
    rw [bne_eq_false_iff_eq]
    split <;> omega
  have HMM := Lib.hid hM
  clear hcl hcr hcs hcm hy hq hu hM hMi
  go_wp2
  all_goals
    go_still_tail 16, (by kernel_rfl)
    change wpList _ _ _ _ _ W4.drew
    have lbl' : bl < W4.drew.heap.size := lbl
    have kl' : W4.drew.cell? ⟨bl, ol + k, none⟩ = some (F y) := kl
    have HB5 : Hid (Below w.heap.size w W4.drew) := Lib.hid BT.out.drew
    clear T1 TR TS TM kl kr ks km lbl lbr lbs lbm BB1 BB2 BB3 BB4 BT
    generalize W4.drew = W5 at lbl' kl' HB5 ⊢
    go_wp2
    have kl2 : (W5.alloc (.cells #[F y, F (y), F y] 35)).cell? ⟨bl, ol + k, none⟩ = some (F y) := (World.cell?_alloc_past _ _ _ lbl').trans kl'
    have lbl2 : bl < (W5.alloc (.cells #[F y, F (y), F y] 35)).heap.size := by rw [World.size_alloc]; omega
    have HF13 : Hid (Fla (W5.alloc (.cells #[F y, F (y), F y] 35)) (.slice (some ⟨W5.heap.size, 0, none⟩) 3 3) [y, y, y]) := Lib.hid (fla_lit W5 #[F y, F (y), F y] [y, y, y] rfl _ rfl (by simp))
    have HO13 : Hid ((W5.alloc (.cells #[F y, F (y), F y] 35)).ownsRow w.heap.size 35 1 (.slice (some ⟨W5.heap.size, 0, none⟩) 3 3) 3 ([y, y, y].map F)) := Lib.hid (World.ownsRow_lit W5 #[F y, F (y), F y] 3 HB5.out.size (by decide) rfl)
    have HB6 : Hid (Below w.heap.size w (W5.alloc (.cells #[F y, F (y), F y] 35))) := Lib.hid (HB5.out.alloc HB5.out.size _)
    have hs56 : W5.heap.size < (W5.alloc (.cells #[F y, F (y), F y] 35)).heap.size := by simp
    generalize W5.alloc (.cells #[F y, F (y), F y] 35) = W6 at kl2 lbl2 HF13 HO13 HB6 hs56 ⊢
    go_still_tail 9, (by kernel_rfl)
    change wpList _ _ _ _ _ W6.drew
    go_wp2_with fail
    refine (sameRow_f (l := [y, y, y]) (HF13.out.below (((Below.refl _ _).drew).alloc (Nat.le_refl _) _)) (fla_lit _ #[F y, F (y), F y] [y, y, y] rfl _ (by first | rfl | simp) (by simp)) rfl (by simp)).mono ?_
    rintro e W7 ⟨rfl, hb⟩
    have HB7 := Lib.hid hb
    clear hb
    go_wp2
    go_ret
    exact ⟨rfl, HB6.out.trans (((((Below.refl _ W6).drew.alloc (Nat.le_refl _) _).trans (HB7.out.mono (by simp))).mono HB6.out.size))⟩

set_option maxHeartbeats 4000000 in
theorem permAt_odd_last (a : Option Addr) (len cap : Nat) (l : List Nat) (at_ : Int) (odd : Bool) (k : Nat) (w : World) (hr : RowF w a len cap l) (h0 : 0 < len) (h : (len : Int) ≤ 300) (hk : at_.tmod (len : Int) = (k : Int)) (hkl : k < len) (ha0 : 0 ≤ at_) (ha1 : at_ ≤ 255) (hp : k % 2 = 1) (hin : 1 ≤ k ∧ k + 1 = len) : Calls Try.prog 7 #[.slice a len cap, .int .u8 at_, .bool odd] w fun e w' => e = .returned (.bool true) ∧ Below w.heap.size w w' := by
  obtain ⟨i0, hi, hz0, hz1, hz2⟩ := info_parts info35
  have T1 := Lib.hid hr.fla
  have hl : Hid (l.length = len) := Lib.hid hr.1.1
  have hpk : (k : Int).tmod 2 = 1 := by rw [Int.tmod_eq_emod_of_nonneg (by omega)]; omega
  have hkl' : (k : Int) < (len : Int) := by omega
  have hb0 : ((len : Int) == 0) = false := by apply beq_false_of_ne; omega
  have hdec : decide ((300 : Int) < (len : Int)) = false := by rw [decide_eq_false_iff_not]; omega
  have hi1 : (1 : Int) ≤ (k : Int) := by omega
  have hi2 : ¬ (k : Int) + 1 < (len : Int) := by omega
  have HIN := Lib.hid hin
  have HP := Lib.hid hp
  clear hr hin hp
  go_enter Try.func7, Try.ntmps7
  go_wp2_with fail
  refine (l10_head _).mono ?_
  rintro e W1 ⟨rfl, hb⟩
  have BB1 := Lib.hid hb
  replace T1 := Lib.hid (T1.out.below BB1.out)
  have BT := BB1
  clear hb
  go_wp2_with fail
  refine (rev_f T1.out (by rw [hl.out]; omega)).mono ?_
  intro e W2 hm
  obtain ⟨o2, n2, c2, rfl, ho, hb⟩ := makes_n hm
  clear hm
  have BB2 := Lib.hid hb
  replace T1 := Lib.hid (T1.out.below BB2.out)
  have TR := Lib.hid ho
  replace BT := Lib.hid (BT.out.trans (BB2.out.mono BT.out.size))
  clear hb ho
  obtain rfl : n2 = len := by rw [← fla_len TR.out, revs_length, hl.out]
  go_wp2_with fail
  refine (signs_f T1.out (by rw [hl.out]; omega)).mono ?_
  intro e W3 hm
  obtain ⟨o3, n3, c3, rfl, ho, hb⟩ := makes_n hm
  clear hm
  have BB3 := Lib.hid hb
  replace T1 := Lib.hid (T1.out.below BB3.out)
  replace TR := Lib.hid (TR.out.below BB3.out)
  have TS := Lib.hid ho
  replace BT := Lib.hid (BT.out.trans (BB3.out.mono BT.out.size))
  clear hb ho
  obtain rfl : n3 = n2 := by rw [← fla_len TS.out, signs_length, hl.out]
  go_wp2_with fail
  refine (mirror_fla odd T1.out (by rw [hl.out]; omega)).mono ?_
  intro e W4 hm
  obtain ⟨o4, n4, c4, rfl, ho, hb⟩ := makes_n hm
  clear hm
  have BB4 := Lib.hid hb
  replace T1 := Lib.hid (T1.out.below BB4.out)
  replace TR := Lib.hid (TR.out.below BB4.out)
  replace TS := Lib.hid (TS.out.below BB4.out)
  have TM := Lib.hid ho
  replace BT := Lib.hid (BT.out.trans (BB4.out.mono BT.out.size))
  clear hb ho
  have hM : n4 = n3 + (n3 - 2) := by rw [← fla_len TM.out, mirrors_length, hl.out]
  obtain ⟨y, hy⟩ : ∃ y, l.getD k 0 = y := ⟨_, rfl⟩
  obtain ⟨bl, ol, rfl, hcl⟩ := fla_cells T1.out h0
  obtain ⟨br, or_, rfl, hcr⟩ := fla_cells TR.out h0
  obtain ⟨bs, os_, rfl, hcs⟩ := fla_cells TS.out h0
  obtain ⟨bm, om, rfl, hcm⟩ := fla_cells TM.out (by omega)
  have kl := hcl k hkl
  rw [hy] at kl
  have kr := hcr (n3 - 1 - k) (by omega)
  rw [revs_getD _ _ (by rw [hl.out]; omega), hl.out, show n3 - 1 - (n3 - 1 - k) = k by omega, hy] at kr
  have ks := hcs k hkl
  rw [signs_getD _ _ _ (by rw [hl.out]; exact hkl), hy] at ks
  have km := hcm k (by omega)
  rw [mirrors_low _ _ _ (by rw [hl.out]; exact hkl), hy] at km
  rw [if_pos (by rw [beq_iff_eq]; exact HP.out)] at ks
  have lbl := cell_lt kl
  have lbr := cell_lt kr
  have lbs := cell_lt ks
  have lbm := cell_lt km
  obtain ⟨q, hq⟩ : ∃ q, n3 - 1 - k = q := ⟨_, rfl⟩
  rw [hq] at kr
  obtain ⟨u, hu⟩ : ∃ u, n3 - 1 = u := ⟨_, rfl⟩
  have hqa : (n3 : Int) - 1 = (u : Int) := by omega
  have hqb : (u : Int) - (k : Int) = (q : Int) := by omega
  have hqc : IntKind.i64.wrap (u : Int) = (u : Int) := by rw [IntKind.wrap_i64]; omega
  have hqd : IntKind.i64.wrap (q : Int) = (q : Int) := by rw [IntKind.wrap_i64]; omega
  have hqn : (q : Int) < (n3 : Int) := by omega
  have hkM : (k : Int) < (n4 : Int) := by omega
  have hMi : (n3 : Int) + max ((n3 : Int) - 2) 0 = (n4 : Int) := by omega
  have hmx : ((n4 : Int) != (n3 : Int) + if (n3 : Int) - 2 < 0 then 0 else (n3 : Int) - 2) = false := by
    rw [bne_eq_false_iff_eq]
    split <;> omega
  have HMM := Lib.hid hM
  clear hcl hcr hcs hcm hy hq hu hM hMi
  go_wp2
  all_goals
    go_still_tail 16, (by kernel_rfl)
    change wpList _ _ _ _ _ W4.drew
    have lbl' : bl < W4.drew.heap.size := lbl
    have kl' : W4.drew.cell? ⟨bl, ol + k, none⟩ = some (F y) := kl
    have HB5 : Hid (Below w.heap.size w W4.drew) := Lib.hid BT.out.drew
    clear T1 TR TS TM kl kr ks km lbl lbr lbs lbm BB1 BB2 BB3 BB4 BT
    generalize W4.drew = W5 at lbl' kl' HB5 ⊢
    go_wp2
    have kl2 : (W5.alloc (.cells #[F y, F (Fl.fneg y), F y] 35)).cell? ⟨bl, ol + k, none⟩ = some (F y) := (World.cell?_alloc_past _ _ _ lbl').trans kl'
    have lbl2 : bl < (W5.alloc (.cells #[F y, F (Fl.fneg y), F y] 35)).heap.size := by rw [World.size_alloc]; omega
    have HF13 : Hid (Fla (W5.alloc (.cells #[F y, F (Fl.fneg y), F y] 35)) (.slice (some ⟨W5.heap.size, 0, none⟩) 3 3) [y, Fl.fneg y, y]) := Lib.hid (fla_lit W5 #[F y, F (Fl.fneg y), F y] [y, Fl.fneg y, y] rfl _ rfl (by simp))
    have HO13 : Hid ((W5.alloc (.cells #[F y, F (Fl.fneg y), F y] 35)).ownsRow w.heap.size 35 1 (.slice (some ⟨W5.heap.size, 0, none⟩) 3 3) 3 ([y, Fl.fneg y, y].map F)) := Lib.hid (World.ownsRow_lit W5 #[F y, F (Fl.fneg y), F y] 3 HB5.out.size (by decide) rfl)
    have HB6 : Hid (Below w.heap.size w (W5.alloc (.cells #[F y, F (Fl.fneg y), F y] 35))) := Lib.hid (HB5.out.alloc HB5.out.size _)
    have hs56 : W5.heap.size < (W5.alloc (.cells #[F y, F (Fl.fneg y), F y] 35)).heap.size := by simp
    generalize W5.alloc (.cells #[F y, F (Fl.fneg y), F y] 35) = W6 at kl2 lbl2 HF13 HO13 HB6 hs56 ⊢
    go_still_tail 9, (by kernel_rfl)
    change wpList _ _ _ _ _ W6.drew
    go_wp2_with fail
    refine (sameRow_f (l := [y, Fl.fneg y, y]) (HF13.out.below (((Below.refl _ _).drew).alloc (Nat.le_refl _) _)) (fla_lit _ #[F y, F (Fl.fneg y), F y] [y, Fl.fneg y, y] rfl _ (by first | rfl | simp) (by simp)) rfl (by simp)).mono ?_
    rintro e W7 ⟨rfl, hb⟩
    have HB7 := Lib.hid hb
    clear hb
    go_wp2
    go_ret
    exact ⟨rfl, HB6.out.trans (((((Below.refl _ W6).drew.alloc (Nat.le_refl _) _).trans (HB7.out.mono (by simp))).mono HB6.out.size))⟩

set_option maxHeartbeats 4000000 in
theorem permAt_even_inE (a : Option Addr) (len cap : Nat) (l : List Nat) (at_ : Int) (k : Nat) (w : World) (hr : RowF w a len cap l) (h0 : 0 < len) (h : (len : Int) ≤ 300) (hk : at_.tmod (len : Int) = (k : Int)) (hkl : k < len) (ha0 : 0 ≤ at_) (ha1 : at_ ≤ 255) (hp : k % 2 = 0) (hin : 1 ≤ k ∧ k + 1 < len) : Calls Try.prog 7 #[.slice a len cap, .int .u8 at_, .bool false] w fun e w' => e = .returned (.bool true) ∧ Below w.heap.size w w' := by
  obtain ⟨i0, hi, hz0, hz1, hz2⟩ := info_parts info35
  have T1 := Lib.hid hr.fla
  have hl : Hid (l.length = len) := Lib.hid hr.1.1
  have hpk : (k : Int).tmod 2 = 0 := by rw [Int.tmod_eq_emod_of_nonneg (by omega)]; omega
  have hkl' : (k : Int) < (len : Int) := by omega
  have hb0 : ((len : Int) == 0) = false := by apply beq_false_of_ne; omega
  have hdec : decide ((300 : Int) < (len : Int)) = false := by rw [decide_eq_false_iff_not]; omega
  have hi1 : (1 : Int) ≤ (k : Int) := by omega
  have hi2 : (k : Int) + 1 < (len : Int) := by omega
  have HIN := Lib.hid hin
  have HP := Lib.hid hp
  clear hr hin hp
  go_enter Try.func7, Try.ntmps7
  go_wp2_with fail
  refine (l10_head _).mono ?_
  rintro e W1 ⟨rfl, hb⟩
  have BB1 := Lib.hid hb
  replace T1 := Lib.hid (T1.out.below BB1.out)
  have BT := BB1
  clear hb
  go_wp2_with fail
  refine (rev_f T1.out (by rw [hl.out]; omega)).mono ?_
  intro e W2 hm
  obtain ⟨o2, n2, c2, rfl, ho, hb⟩ := makes_n hm
  clear hm
  have BB2 := Lib.hid hb
  replace T1 := Lib.hid (T1.out.below BB2.out)
  have TR := Lib.hid ho
  replace BT := Lib.hid (BT.out.trans (BB2.out.mono BT.out.size))
  clear hb ho
  obtain rfl : n2 = len := by rw [← fla_len TR.out, revs_length, hl.out]
  go_wp2_with fail
  refine (signs_f T1.out (by rw [hl.out]; omega)).mono ?_
  intro e W3 hm
  obtain ⟨o3, n3, c3, rfl, ho, hb⟩ := makes_n hm
  clear hm
  have BB3 := Lib.hid hb
  replace T1 := Lib.hid (T1.out.below BB3.out)
  replace TR := Lib.hid (TR.out.below BB3.out)
  have TS := Lib.hid ho
  replace BT := Lib.hid (BT.out.trans (BB3.out.mono BT.out.size))
  clear hb ho
  obtain rfl : n3 = n2 := by rw [← fla_len TS.out, signs_length, hl.out]
  go_wp2_with fail
  refine (mirror_fla false T1.out (by rw [hl.out]; omega)).mono ?_
  intro e W4 hm
  obtain ⟨o4, n4, c4, rfl, ho, hb⟩ := makes_n hm
  clear hm
  have BB4 := Lib.hid hb
  replace T1 := Lib.hid (T1.out.below BB4.out)
  replace TR := Lib.hid (TR.out.below BB4.out)
  replace TS := Lib.hid (TS.out.below BB4.out)
  have TM := Lib.hid ho
  replace BT := Lib.hid (BT.out.trans (BB4.out.mono BT.out.size))
  clear hb ho
  have hM : n4 = n3 + (n3 - 2) := by rw [← fla_len TM.out, mirrors_length, hl.out]
  obtain ⟨y, hy⟩ : ∃ y, l.getD k 0 = y := ⟨_, rfl⟩
  obtain ⟨bl, ol, rfl, hcl⟩ := fla_cells T1.out h0
  obtain ⟨br, or_, rfl, hcr⟩ := fla_cells TR.out h0
  obtain ⟨bs, os_, rfl, hcs⟩ := fla_cells TS.out h0
  obtain ⟨bm, om, rfl, hcm⟩ := fla_cells TM.out (by omega)
  have kl := hcl k hkl
  rw [hy] at kl
  have kr := hcr (n3 - 1 - k) (by omega)
  rw [revs_getD _ _ (by rw [hl.out]; omega), hl.out, show n3 - 1 - (n3 - 1 - k) = k by omega, hy] at kr
  have ks := hcs k hkl
  rw [signs_getD _ _ _ (by rw [hl.out]; exact hkl), hy] at ks
  have km := hcm k (by omega)
  rw [mirrors_low _ _ _ (by rw [hl.out]; exact hkl), hy] at km
  rw [if_neg (by rw [beq_iff_eq]; have := HP.out; omega)] at ks
  have kh := hcm (2 * (n3 - 1) - k) (by have := HIN.out; omega)
  have hh := mirrors_high false l k HIN.out.1 (by rw [hl.out]; exact HIN.out.2)
  rw [hl.out] at hh
  rw [hh, hy] at kh
  simp only [Bool.false_eq_true, if_false] at kh
  have lbl := cell_lt kl
  have lbr := cell_lt kr
  have lbs := cell_lt ks
  have lbm := cell_lt km
  obtain ⟨q, hq⟩ : ∃ q, n3 - 1 - k = q := ⟨_, rfl⟩
  rw [hq] at kr
  obtain ⟨u, hu⟩ : ∃ u, n3 - 1 = u := ⟨_, rfl⟩
  have hqa : (n3 : Int) - 1 = (u : Int) := by omega
  have hqb : (u : Int) - (k : Int) = (q : Int) := by omega
  have hqc : IntKind.i64.wrap (u : Int) = (u : Int) := by rw [IntKind.wrap_i64]; omega
  have hqd : IntKind.i64.wrap (q : Int) = (q : Int) := by rw [IntKind.wrap_i64]; omega
  have hqn : (q : Int) < (n3 : Int) := by omega
  have hkM : (k : Int) < (n4 : Int) := by omega
  obtain ⟨e2, he2⟩ : ∃ e2, 2 * (n3 - 1) - k = e2 := ⟨_, rfl⟩
  rw [he2] at kh
  have hea : (2 : Int) * (u : Int) - (k : Int) = (e2 : Int) := by have := HIN.out; omega
  have heb : (e2 : Int) < (n4 : Int) := by have := HIN.out; omega
  clear he2
  have hMi : (n3 : Int) + max ((n3 : Int) - 2) 0 = (n4 : Int) := by omega
  have hmx : ((n4 : Int) != (n3 : Int) + if (n3 : Int) - 2 < 0 then 0 else (n3 : Int) - 2) = false := by
    rw [bne_eq_false_iff_eq]
    split <;> omega
  have HMM := Lib.hid hM
  clear hcl hcr hcs hcm hy hq hu hM hMi
  go_wp2
  all_goals
    go_still_tail 16, (by kernel_rfl)
    change wpList _ _ _ _ _ W4.drew
    have lbl' : bl < W4.drew.heap.size := lbl
    have kl' : W4.drew.cell? ⟨bl, ol + k, none⟩ = some (F y) := kl
    have HB5 : Hid (Below w.heap.size w W4.drew) := Lib.hid BT.out.drew
    have lbm' : bm < W4.drew.heap.size := lbm
    have kh' : W4.drew.cell? ⟨bm, om + e2, none⟩ = some (F y) := kh
    clear T1 TR TS TM kl kr ks km lbl lbr lbs lbm BB1 BB2 BB3 BB4 BT kh hh
    generalize W4.drew = W5 at lbm' kh' lbl' kl' HB5 ⊢
    go_wp2
    have kl2 : (W5.alloc (.cells #[F y, F (y), F y] 35)).cell? ⟨bl, ol + k, none⟩ = some (F y) := (World.cell?_alloc_past _ _ _ lbl').trans kl'
    have lbl2 : bl < (W5.alloc (.cells #[F y, F (y), F y] 35)).heap.size := by rw [World.size_alloc]; omega
    have HF13 : Hid (Fla (W5.alloc (.cells #[F y, F (y), F y] 35)) (.slice (some ⟨W5.heap.size, 0, none⟩) 3 3) [y, y, y]) := Lib.hid (fla_lit W5 #[F y, F (y), F y] [y, y, y] rfl _ rfl (by simp))
    have HO13 : Hid ((W5.alloc (.cells #[F y, F (y), F y] 35)).ownsRow w.heap.size 35 1 (.slice (some ⟨W5.heap.size, 0, none⟩) 3 3) 3 ([y, y, y].map F)) := Lib.hid (World.ownsRow_lit W5 #[F y, F (y), F y] 3 HB5.out.size (by decide) rfl)
    have HB6 : Hid (Below w.heap.size w (W5.alloc (.cells #[F y, F (y), F y] 35))) := Lib.hid (HB5.out.alloc HB5.out.size _)
    have hk56 : (W5.alloc (.cells #[F y, F (y), F y] 35)).cell? ⟨bm, om + e2, none⟩ = W5.cell? ⟨bm, om + e2, none⟩ := World.cell?_alloc_past _ _ _ lbm'
    have hs56 : W5.heap.size < (W5.alloc (.cells #[F y, F (y), F y] 35)).heap.size := by simp
    generalize W5.alloc (.cells #[F y, F (y), F y] 35) = W6 at kl2 lbl2 HF13 HO13 HB6 hs56 hk56 ⊢
    go_still_tail 9, (by kernel_rfl)
    change wpList _ _ _ _ _ W6.drew
    have kl3 : (W6.drew.alloc (.cells #[F y, F (y), F y] 35)).cell? ⟨bl, ol + k, none⟩ = some (F y) := (World.cell?_alloc_past _ _ _ lbl2).trans kl2
    have lbm2 : bm < W6.heap.size := Nat.lt_trans lbm' hs56
    have kh3 : (W6.drew.alloc (.cells #[F y, F (y), F y] 35)).cell? ⟨bm, om + e2, none⟩ = some (F y) := (World.cell?_alloc_past _ _ _ lbm2).trans (hk56.trans kh')
    have HB7 : Hid (Below w.heap.size w (W6.drew.alloc (.cells #[F y, F (y), F y] 35))) := Lib.hid ((HB6.out.drew).alloc HB6.out.size _)
    have HO13b : Hid ((W6.drew.alloc (.cells #[F y, F (y), F y] 35)).ownsRow w.heap.size 35 1 (.slice (some ⟨W5.heap.size, 0, none⟩) 3 3) 3 ([y, y, y].map F)) := Lib.hid ((show W6.drew.ownsRow _ 35 1 _ _ _ from HO13.out).alloc _)
    have HO14b : Hid ((W6.drew.alloc (.cells #[F y, F (y), F y] 35)).ownsRow w.heap.size 35 1 (.slice (some ⟨W6.heap.size, 0, none⟩) 3 3) 3 ([y, y, y].map F)) := Lib.hid (World.ownsRow_lit W6.drew #[F y, F (y), F y] 3 HB6.out.size (by decide) rfl)
    have hh7 : Hid ((W6.drew.alloc (.cells #[F y, F (y), F y] 35)).heap[W6.heap.size]? = some (.cells #[F y, F (y), F y] 35)) := Lib.hid (World.alloc_heap_new W6.drew _)
    have hs67 : W6.heap.size < (W6.drew.alloc (.cells #[F y, F (y), F y] 35)).heap.size := by simp
    have hne65 : ¬ W6.heap.size = W5.heap.size := by omega
    have hle7 : Hid (w.heap.size ≤ ((W6.drew.alloc (.cells #[F y, F (y), F y] 35)).alloc (.cells #[F y] 35)).heap.size) := Lib.hid (Nat.le_trans HB7.out.size (by simp))
    have hc7 : Hid (((W6.drew.alloc (.cells #[F y, F (y), F y] 35)).alloc (.cells #[F y] 35)).cell? ⟨W6.heap.size + 1, 0, none⟩ = some (F y)) := Lib.hid (World.cell?_alloc_at _ _ _ _ (by simp))
    go_wp2_with (first
      | (at_builtin; refine wpList_append_rowG rfl (.tmp 114) (.tmp 124) rfl w.heap.size _ 3 [y, y, y] rfl (HO13b.out.alloc _) ⟨W6.heap.size + 1, 0, none⟩ y rfl hc7.out (by decide) hle7.out ?_; intro v13 W9 ho13 hg9 hb9; have HO13 := Lib.hid ho13; have HO14 := Lib.hid (own_grown (HO14b.out.alloc (.cells #[F y] 35)) hg9 (.inl (fun e => hne65 (Option.some.inj e)))); have HB9 := Lib.hid ((HB7.out.alloc HB7.out.size _).trans hb9); have HN := Lib.hid (own_small ho13 ((hg9.block W6.heap.size (Nat.lt_trans hs67 (by simp)) (fun e => hne65 (Option.some.inj e))).trans ((Below.heap_alloc _ _ _ hs67).trans hh7.out)) (by simp)); clear ho13 hg9 hb9 kl3 kh3 kl2 kh' kl' HO13b HO14b hh7 hc7 hle7)
      | (at_builtin; refine wpList_append_rowG rfl (.tmp 126) (.tmp 128) rfl w.heap.size _ 3 [y, y, y] rfl (HO14.out.alloc _) ⟨W9.heap.size, 0, none⟩ y rfl (World.cell?_alloc_at _ _ _ _ rfl) (by decide) (Nat.le_trans HB9.out.size (by simp)) ?_; intro v14 W10 ho14 hg10 hb10; have HF14 := Lib.hid (fla_own ho14); have HF13 := Lib.hid (fla_own (own_grown (HO13.out.alloc (.cells #[F y] 35)) hg10 (.inl HN.out))); have HB10 := Lib.hid ((HB9.out.alloc HB9.out.size _).trans hb10); clear ho14 hg10 hb10))
    refine (sameRow_f (l := [y, y, y] ++ [y]) HF13.out HF14.out rfl (by simp)).mono ?_
    rintro e W11 ⟨rfl, hb⟩
    have HB11 := Lib.hid hb
    clear hb
    go_wp2
    go_ret
    exact ⟨rfl, HB10.out.trans (HB11.out.mono HB10.out.size)⟩

set_option maxHeartbeats 4000000 in
theorem permAt_even_inO (a : Option Addr) (len cap : Nat) (l : List Nat) (at_ : Int) (k : Nat) (w : World) (hr : RowF w a len cap l) (h0 : 0 < len) (h : (len : Int) ≤ 300) (hk : at_.tmod (len : Int) = (k : Int)) (hkl : k < len) (ha0 : 0 ≤ at_) (ha1 : at_ ≤ 255) (hp : k % 2 = 0) (hin : 1 ≤ k ∧ k + 1 < len) : Calls Try.prog 7 #[.slice a len cap, .int .u8 at_, .bool true] w fun e w' => e = .returned (.bool true) ∧ Below w.heap.size w w' := by
  obtain ⟨i0, hi, hz0, hz1, hz2⟩ := info_parts info35
  have T1 := Lib.hid hr.fla
  have hl : Hid (l.length = len) := Lib.hid hr.1.1
  have hpk : (k : Int).tmod 2 = 0 := by rw [Int.tmod_eq_emod_of_nonneg (by omega)]; omega
  have hkl' : (k : Int) < (len : Int) := by omega
  have hb0 : ((len : Int) == 0) = false := by apply beq_false_of_ne; omega
  have hdec : decide ((300 : Int) < (len : Int)) = false := by rw [decide_eq_false_iff_not]; omega
  have hi1 : (1 : Int) ≤ (k : Int) := by omega
  have hi2 : (k : Int) + 1 < (len : Int) := by omega
  have HIN := Lib.hid hin
  have HP := Lib.hid hp
  clear hr hin hp
  go_enter Try.func7, Try.ntmps7
  go_wp2_with fail
  refine (l10_head _).mono ?_
  rintro e W1 ⟨rfl, hb⟩
  have BB1 := Lib.hid hb
  replace T1 := Lib.hid (T1.out.below BB1.out)
  have BT := BB1
  clear hb
  go_wp2_with fail
  refine (rev_f T1.out (by rw [hl.out]; omega)).mono ?_
  intro e W2 hm
  obtain ⟨o2, n2, c2, rfl, ho, hb⟩ := makes_n hm
  clear hm
  have BB2 := Lib.hid hb
  replace T1 := Lib.hid (T1.out.below BB2.out)
  have TR := Lib.hid ho
  replace BT := Lib.hid (BT.out.trans (BB2.out.mono BT.out.size))
  clear hb ho
  obtain rfl : n2 = len := by rw [← fla_len TR.out, revs_length, hl.out]
  go_wp2_with fail
  refine (signs_f T1.out (by rw [hl.out]; omega)).mono ?_
  intro e W3 hm
  obtain ⟨o3, n3, c3, rfl, ho, hb⟩ := makes_n hm
  clear hm
  have BB3 := Lib.hid hb
  replace T1 := Lib.hid (T1.out.below BB3.out)
  replace TR := Lib.hid (TR.out.below BB3.out)
  have TS := Lib.hid ho
  replace BT := Lib.hid (BT.out.trans (BB3.out.mono BT.out.size))
  clear hb ho
  obtain rfl : n3 = n2 := by rw [← fla_len TS.out, signs_length, hl.out]
  go_wp2_with fail
  refine (mirror_fla true T1.out (by rw [hl.out]; omega)).mono ?_
  intro e W4 hm
  obtain ⟨o4, n4, c4, rfl, ho, hb⟩ := makes_n hm
  clear hm
  have BB4 := Lib.hid hb
  replace T1 := Lib.hid (T1.out.below BB4.out)
  replace TR := Lib.hid (TR.out.below BB4.out)
  replace TS := Lib.hid (TS.out.below BB4.out)
  have TM := Lib.hid ho
  replace BT := Lib.hid (BT.out.trans (BB4.out.mono BT.out.size))
  clear hb ho
  have hM : n4 = n3 + (n3 - 2) := by rw [← fla_len TM.out, mirrors_length, hl.out]
  obtain ⟨y, hy⟩ : ∃ y, l.getD k 0 = y := ⟨_, rfl⟩
  obtain ⟨bl, ol, rfl, hcl⟩ := fla_cells T1.out h0
  obtain ⟨br, or_, rfl, hcr⟩ := fla_cells TR.out h0
  obtain ⟨bs, os_, rfl, hcs⟩ := fla_cells TS.out h0
  obtain ⟨bm, om, rfl, hcm⟩ := fla_cells TM.out (by omega)
  have kl := hcl k hkl
  rw [hy] at kl
  have kr := hcr (n3 - 1 - k) (by omega)
  rw [revs_getD _ _ (by rw [hl.out]; omega), hl.out, show n3 - 1 - (n3 - 1 - k) = k by omega, hy] at kr
  have ks := hcs k hkl
  rw [signs_getD _ _ _ (by rw [hl.out]; exact hkl), hy] at ks
  have km := hcm k (by omega)
  rw [mirrors_low _ _ _ (by rw [hl.out]; exact hkl), hy] at km
  rw [if_neg (by rw [beq_iff_eq]; have := HP.out; omega)] at ks
  have kh := hcm (2 * (n3 - 1) - k) (by have := HIN.out; omega)
  have hh := mirrors_high true l k HIN.out.1 (by rw [hl.out]; exact HIN.out.2)
  rw [hl.out] at hh
  rw [hh, hy] at kh
  simp only [if_true] at kh
  have lbl := cell_lt kl
  have lbr := cell_lt kr
  have lbs := cell_lt ks
  have lbm := cell_lt km
  obtain ⟨q, hq⟩ : ∃ q, n3 - 1 - k = q := ⟨_, rfl⟩
  rw [hq] at kr
  obtain ⟨u, hu⟩ : ∃ u, n3 - 1 = u := ⟨_, rfl⟩
  have hqa : (n3 : Int) - 1 = (u : Int) := by omega
  have hqb : (u : Int) - (k : Int) = (q : Int) := by omega
  have hqc : IntKind.i64.wrap (u : Int) = (u : Int) := by rw [IntKind.wrap_i64]; omega
  have hqd : IntKind.i64.wrap (q : Int) = (q : Int) := by rw [IntKind.wrap_i64]; omega
  have hqn : (q : Int) < (n3 : Int) := by omega
  have hkM : (k : Int) < (n4 : Int) := by omega
  obtain ⟨e2, he2⟩ : ∃ e2, 2 * (n3 - 1) - k = e2 := ⟨_, rfl⟩
  rw [he2] at kh
  have hea : (2 : Int) * (u : Int) - (k : Int) = (e2 : Int) := by have := HIN.out; omega
  have heb : (e2 : Int) < (n4 : Int) := by have := HIN.out; omega
  clear he2
  have hMi : (n3 : Int) + max ((n3 : Int) - 2) 0 = (n4 : Int) := by omega
  have hmx : ((n4 : Int) != (n3 : Int) + if (n3 : Int) - 2 < 0 then 0 else (n3 : Int) - 2) = false := by
    rw [bne_eq_false_iff_eq]
    split <;> omega
  have HMM := Lib.hid hM
  clear hcl hcr hcs hcm hy hq hu hM hMi
  go_wp2
  all_goals
    go_still_tail 16, (by kernel_rfl)
    change wpList _ _ _ _ _ W4.drew
    have lbl' : bl < W4.drew.heap.size := lbl
    have kl' : W4.drew.cell? ⟨bl, ol + k, none⟩ = some (F y) := kl
    have HB5 : Hid (Below w.heap.size w W4.drew) := Lib.hid BT.out.drew
    have lbm' : bm < W4.drew.heap.size := lbm
    have kh' : W4.drew.cell? ⟨bm, om + e2, none⟩ = some (F (Fl.fneg y)) := kh
    clear T1 TR TS TM kl kr ks km lbl lbr lbs lbm BB1 BB2 BB3 BB4 BT kh hh
    generalize W4.drew = W5 at lbm' kh' lbl' kl' HB5 ⊢
    go_wp2
    have kl2 : (W5.alloc (.cells #[F y, F (y), F y] 35)).cell? ⟨bl, ol + k, none⟩ = some (F y) := (World.cell?_alloc_past _ _ _ lbl').trans kl'
    have lbl2 : bl < (W5.alloc (.cells #[F y, F (y), F y] 35)).heap.size := by rw [World.size_alloc]; omega
    have HF13 : Hid (Fla (W5.alloc (.cells #[F y, F (y), F y] 35)) (.slice (some ⟨W5.heap.size, 0, none⟩) 3 3) [y, y, y]) := Lib.hid (fla_lit W5 #[F y, F (y), F y] [y, y, y] rfl _ rfl (by simp))
    have HO13 : Hid ((W5.alloc (.cells #[F y, F (y), F y] 35)).ownsRow w.heap.size 35 1 (.slice (some ⟨W5.heap.size, 0, none⟩) 3 3) 3 ([y, y, y].map F)) := Lib.hid (World.ownsRow_lit W5 #[F y, F (y), F y] 3 HB5.out.size (by decide) rfl)
    have HB6 : Hid (Below w.heap.size w (W5.alloc (.cells #[F y, F (y), F y] 35))) := Lib.hid (HB5.out.alloc HB5.out.size _)
    have hk56 : (W5.alloc (.cells #[F y, F (y), F y] 35)).cell? ⟨bm, om + e2, none⟩ = W5.cell? ⟨bm, om + e2, none⟩ := World.cell?_alloc_past _ _ _ lbm'
    have hs56 : W5.heap.size < (W5.alloc (.cells #[F y, F (y), F y] 35)).heap.size := by simp
    generalize W5.alloc (.cells #[F y, F (y), F y] 35) = W6 at kl2 lbl2 HF13 HO13 HB6 hs56 hk56 ⊢
    go_still_tail 9, (by kernel_rfl)
    change wpList _ _ _ _ _ W6.drew
    have kl3 : (W6.drew.alloc (.cells #[F y, F (y), F y] 35)).cell? ⟨bl, ol + k, none⟩ = some (F y) := (World.cell?_alloc_past _ _ _ lbl2).trans kl2
    have lbm2 : bm < W6.heap.size := Nat.lt_trans lbm' hs56
    have kh3 : (W6.drew.alloc (.cells #[F y, F (y), F y] 35)).cell? ⟨bm, om + e2, none⟩ = some (F (Fl.fneg y)) := (World.cell?_alloc_past _ _ _ lbm2).trans (hk56.trans kh')
    have HB7 : Hid (Below w.heap.size w (W6.drew.alloc (.cells #[F y, F (y), F y] 35))) := Lib.hid ((HB6.out.drew).alloc HB6.out.size _)
    have HO13b : Hid ((W6.drew.alloc (.cells #[F y, F (y), F y] 35)).ownsRow w.heap.size 35 1 (.slice (some ⟨W5.heap.size, 0, none⟩) 3 3) 3 ([y, y, y].map F)) := Lib.hid ((show W6.drew.ownsRow _ 35 1 _ _ _ from HO13.out).alloc _)
    have HO14b : Hid ((W6.drew.alloc (.cells #[F y, F (y), F y] 35)).ownsRow w.heap.size 35 1 (.slice (some ⟨W6.heap.size, 0, none⟩) 3 3) 3 ([y, y, y].map F)) := Lib.hid (World.ownsRow_lit W6.drew #[F y, F (y), F y] 3 HB6.out.size (by decide) rfl)
    have hh7 : Hid ((W6.drew.alloc (.cells #[F y, F (y), F y] 35)).heap[W6.heap.size]? = some (.cells #[F y, F (y), F y] 35)) := Lib.hid (World.alloc_heap_new W6.drew _)
    have hs67 : W6.heap.size < (W6.drew.alloc (.cells #[F y, F (y), F y] 35)).heap.size := by simp
    have hne65 : ¬ W6.heap.size = W5.heap.size := by omega
    have hle7 : Hid (w.heap.size ≤ ((W6.drew.alloc (.cells #[F y, F (y), F y] 35)).alloc (.cells #[F (Fl.fneg y)] 35)).heap.size) := Lib.hid (Nat.le_trans HB7.out.size (by simp))
    have hc7 : Hid (((W6.drew.alloc (.cells #[F y, F (y), F y] 35)).alloc (.cells #[F (Fl.fneg y)] 35)).cell? ⟨W6.heap.size + 1, 0, none⟩ = some (F (Fl.fneg y))) := Lib.hid (World.cell?_alloc_at _ _ _ _ (by simp))
    go_wp2_with (first
      | (at_builtin; refine wpList_append_rowG rfl (.tmp 114) (.tmp 124) rfl w.heap.size _ 3 [y, y, y] rfl (HO13b.out.alloc _) ⟨W6.heap.size + 1, 0, none⟩ (Fl.fneg y) rfl hc7.out (by decide) hle7.out ?_; intro v13 W9 ho13 hg9 hb9; have HO13 := Lib.hid ho13; have HO14 := Lib.hid (own_grown (HO14b.out.alloc (.cells #[F (Fl.fneg y)] 35)) hg9 (.inl (fun e => hne65 (Option.some.inj e)))); have HB9 := Lib.hid ((HB7.out.alloc HB7.out.size _).trans hb9); have HN := Lib.hid (own_small ho13 ((hg9.block W6.heap.size (Nat.lt_trans hs67 (by simp)) (fun e => hne65 (Option.some.inj e))).trans ((Below.heap_alloc _ _ _ hs67).trans hh7.out)) (by simp)); clear ho13 hg9 hb9 kl3 kh3 kl2 kh' kl' HO13b HO14b hh7 hc7 hle7)
      | (at_builtin; refine wpList_append_rowG rfl (.tmp 126) (.tmp 128) rfl w.heap.size _ 3 [y, y, y] rfl (HO14.out.alloc _) ⟨W9.heap.size, 0, none⟩ (Fl.fneg y) rfl (World.cell?_alloc_at _ _ _ _ rfl) (by decide) (Nat.le_trans HB9.out.size (by simp)) ?_; intro v14 W10 ho14 hg10 hb10; have HF14 := Lib.hid (fla_own ho14); have HF13 := Lib.hid (fla_own (own_grown (HO13.out.alloc (.cells #[F (Fl.fneg y)] 35)) hg10 (.inl HN.out))); have HB10 := Lib.hid ((HB9.out.alloc HB9.out.size _).trans hb10); clear ho14 hg10 hb10))
    refine (sameRow_f (l := [y, y, y] ++ [(Fl.fneg y)]) HF13.out HF14.out rfl (by simp)).mono ?_
    rintro e W11 ⟨rfl, hb⟩
    have HB11 := Lib.hid hb
    clear hb
    go_wp2
    go_ret
    exact ⟨rfl, HB10.out.trans (HB11.out.mono HB10.out.size)⟩

set_option maxHeartbeats 4000000 in
theorem permAt_odd_inE (a : Option Addr) (len cap : Nat) (l : List Nat) (at_ : Int) (k : Nat) (w : World) (hr : RowF w a len cap l) (h0 : 0 < len) (h : (len : Int) ≤ 300) (hk : at_.tmod (len : Int) = (k : Int)) (hkl : k < len) (ha0 : 0 ≤ at_) (ha1 : at_ ≤ 255) (hp : k % 2 = 1) (hin : 1 ≤ k ∧ k + 1 < len) : Calls Try.prog 7 #[.slice a len cap, .int .u8 at_, .bool false] w fun e w' => e = .returned (.bool true) ∧ Below w.heap.size w w' := by
  obtain ⟨i0, hi, hz0, hz1, hz2⟩ := info_parts info35
  have T1 := Lib.hid hr.fla
  have hl : Hid (l.length = len) := Lib.hid hr.1.1
  have hpk : (k : Int).tmod 2 = 1 := by rw [Int.tmod_eq_emod_of_nonneg (by omega)]; omega
  have hkl' : (k : Int) < (len : Int) := by omega
  have hb0 : ((len : Int) == 0) = false := by apply beq_false_of_ne; omega
  have hdec : decide ((300 : Int) < (len : Int)) = false := by rw [decide_eq_false_iff_not]; omega
  have hi1 : (1 : Int) ≤ (k : Int) := by omega
  have hi2 : (k : Int) + 1 < (len : Int) := by omega
  have HIN := Lib.hid hin
  have HP := Lib.hid hp
  clear hr hin hp
  go_enter Try.func7, Try.ntmps7
  go_wp2_with fail
  refine (l10_head _).mono ?_
  rintro e W1 ⟨rfl, hb⟩
  have BB1 := Lib.hid hb
  replace T1 := Lib.hid (T1.out.below BB1.out)
  have BT := BB1
  clear hb
  go_wp2_with fail
  refine (rev_f T1.out (by rw [hl.out]; omega)).mono ?_
  intro e W2 hm
  obtain ⟨o2, n2, c2, rfl, ho, hb⟩ := makes_n hm
  clear hm
  have BB2 := Lib.hid hb
  replace T1 := Lib.hid (T1.out.below BB2.out)
  have TR := Lib.hid ho
  replace BT := Lib.hid (BT.out.trans (BB2.out.mono BT.out.size))
  clear hb ho
  obtain rfl : n2 = len := by rw [← fla_len TR.out, revs_length, hl.out]
  go_wp2_with fail
  refine (signs_f T1.out (by rw [hl.out]; omega)).mono ?_
  intro e W3 hm
  obtain ⟨o3, n3, c3, rfl, ho, hb⟩ := makes_n hm
  clear hm
  have BB3 := Lib.hid hb
  replace T1 := Lib.hid (T1.out.below BB3.out)
  replace TR := Lib.hid (TR.out.below BB3.out)
  have TS := Lib.hid ho
  replace BT := Lib.hid (BT.out.trans (BB3.out.mono BT.out.size))
  clear hb ho
  obtain rfl : n3 = n2 := by rw [← fla_len TS.out, signs_length, hl.out]
  go_wp2_with fail
  refine (mirror_fla false T1.out (by rw [hl.out]; omega)).mono ?_
  intro e W4 hm
  obtain ⟨o4, n4, c4, rfl, ho, hb⟩ := makes_n hm
  clear hm
  have BB4 := Lib.hid hb
  replace T1 := Lib.hid (T1.out.below BB4.out)
  replace TR := Lib.hid (TR.out.below BB4.out)
  replace TS := Lib.hid (TS.out.below BB4.out)
  have TM := Lib.hid ho
  replace BT := Lib.hid (BT.out.trans (BB4.out.mono BT.out.size))
  clear hb ho
  have hM : n4 = n3 + (n3 - 2) := by rw [← fla_len TM.out, mirrors_length, hl.out]
  obtain ⟨y, hy⟩ : ∃ y, l.getD k 0 = y := ⟨_, rfl⟩
  obtain ⟨bl, ol, rfl, hcl⟩ := fla_cells T1.out h0
  obtain ⟨br, or_, rfl, hcr⟩ := fla_cells TR.out h0
  obtain ⟨bs, os_, rfl, hcs⟩ := fla_cells TS.out h0
  obtain ⟨bm, om, rfl, hcm⟩ := fla_cells TM.out (by omega)
  have kl := hcl k hkl
  rw [hy] at kl
  have kr := hcr (n3 - 1 - k) (by omega)
  rw [revs_getD _ _ (by rw [hl.out]; omega), hl.out, show n3 - 1 - (n3 - 1 - k) = k by omega, hy] at kr
  have ks := hcs k hkl
  rw [signs_getD _ _ _ (by rw [hl.out]; exact hkl), hy] at ks
  have km := hcm k (by omega)
  rw [mirrors_low _ _ _ (by rw [hl.out]; exact hkl), hy] at km
  rw [if_pos (by rw [beq_iff_eq]; exact HP.out)] at ks
  have kh := hcm (2 * (n3 - 1) - k) (by have := HIN.out; omega)
  have hh := mirrors_high false l k HIN.out.1 (by rw [hl.out]; exact HIN.out.2)
  rw [hl.out] at hh
  rw [hh, hy] at kh
  simp only [Bool.false_eq_true, if_false] at kh
  have lbl := cell_lt kl
  have lbr := cell_lt kr
  have lbs := cell_lt ks
  have lbm := cell_lt km
  obtain ⟨q, hq⟩ : ∃ q, n3 - 1 - k = q := ⟨_, rfl⟩
  rw [hq] at kr
  obtain ⟨u, hu⟩ : ∃ u, n3 - 1 = u := ⟨_, rfl⟩
  have hqa : (n3 : Int) - 1 = (u : Int) := by omega
  have hqb : (u : Int) - (k : Int) = (q : Int) := by omega
  have hqc : IntKind.i64.wrap (u : Int) = (u : Int) := by rw [IntKind.wrap_i64]; omega
  have hqd : IntKind.i64.wrap (q : Int) = (q : Int) := by rw [IntKind.wrap_i64]; omega
  have hqn : (q : Int) < (n3 : Int) := by omega
  have hkM : (k : Int) < (n4 : Int) := by omega
  obtain ⟨e2, he2⟩ : ∃ e2, 2 * (n3 - 1) - k = e2 := ⟨_, rfl⟩
  rw [he2] at kh
  have hea : (2 : Int) * (u : Int) - (k : Int) = (e2 : Int) := by have := HIN.out; omega
  have heb : (e2 : Int) < (n4 : Int) := by have := HIN.out; omega
  clear he2
  have hMi : (n3 : Int) + max ((n3 : Int) - 2) 0 = (n4 : Int) := by omega
  have hmx : ((n4 : Int) != (n3 : Int) + if (n3 : Int) - 2 < 0 then 0 else (n3 : Int) - 2) = false := by
    rw [bne_eq_false_iff_eq]
    split <;> omega
  have HMM := Lib.hid hM
  clear hcl hcr hcs hcm hy hq hu hM hMi
  go_wp2
  all_goals
    go_still_tail 16, (by kernel_rfl)
    change wpList _ _ _ _ _ W4.drew
    have lbl' : bl < W4.drew.heap.size := lbl
    have kl' : W4.drew.cell? ⟨bl, ol + k, none⟩ = some (F y) := kl
    have HB5 : Hid (Below w.heap.size w W4.drew) := Lib.hid BT.out.drew
    have lbm' : bm < W4.drew.heap.size := lbm
    have kh' : W4.drew.cell? ⟨bm, om + e2, none⟩ = some (F y) := kh
    clear T1 TR TS TM kl kr ks km lbl lbr lbs lbm BB1 BB2 BB3 BB4 BT kh hh
    generalize W4.drew = W5 at lbm' kh' lbl' kl' HB5 ⊢
    go_wp2
    have kl2 : (W5.alloc (.cells #[F y, F (Fl.fneg y), F y] 35)).cell? ⟨bl, ol + k, none⟩ = some (F y) := (World.cell?_alloc_past _ _ _ lbl').trans kl'
    have lbl2 : bl < (W5.alloc (.cells #[F y, F (Fl.fneg y), F y] 35)).heap.size := by rw [World.size_alloc]; omega
    have HF13 : Hid (Fla (W5.alloc (.cells #[F y, F (Fl.fneg y), F y] 35)) (.slice (some ⟨W5.heap.size, 0, none⟩) 3 3) [y, Fl.fneg y, y]) := Lib.hid (fla_lit W5 #[F y, F (Fl.fneg y), F y] [y, Fl.fneg y, y] rfl _ rfl (by simp))
    have HO13 : Hid ((W5.alloc (.cells #[F y, F (Fl.fneg y), F y] 35)).ownsRow w.heap.size 35 1 (.slice (some ⟨W5.heap.size, 0, none⟩) 3 3) 3 ([y, Fl.fneg y, y].map F)) := Lib.hid (World.ownsRow_lit W5 #[F y, F (Fl.fneg y), F y] 3 HB5.out.size (by decide) rfl)
    have HB6 : Hid (Below w.heap.size w (W5.alloc (.cells #[F y, F (Fl.fneg y), F y] 35))) := Lib.hid (HB5.out.alloc HB5.out.size _)
    have hk56 : (W5.alloc (.cells #[F y, F (Fl.fneg y), F y] 35)).cell? ⟨bm, om + e2, none⟩ = W5.cell? ⟨bm, om + e2, none⟩ := World.cell?_alloc_past _ _ _ lbm'
    have hs56 : W5.heap.size < (W5.alloc (.cells #[F y, F (Fl.fneg y), F y] 35)).heap.size := by simp
    generalize W5.alloc (.cells #[F y, F (Fl.fneg y), F y] 35) = W6 at kl2 lbl2 HF13 HO13 HB6 hs56 hk56 ⊢
    go_still_tail 9, (by kernel_rfl)
    change wpList _ _ _ _ _ W6.drew
    have kl3 : (W6.drew.alloc (.cells #[F y, F (Fl.fneg y), F y] 35)).cell? ⟨bl, ol + k, none⟩ = some (F y) := (World.cell?_alloc_past _ _ _ lbl2).trans kl2
    have lbm2 : bm < W6.heap.size := Nat.lt_trans lbm' hs56
    have kh3 : (W6.drew.alloc (.cells #[F y, F (Fl.fneg y), F y] 35)).cell? ⟨bm, om + e2, none⟩ = some (F y) := (World.cell?_alloc_past _ _ _ lbm2).trans (hk56.trans kh')
    have HB7 : Hid (Below w.heap.size w (W6.drew.alloc (.cells #[F y, F (Fl.fneg y), F y] 35))) := Lib.hid ((HB6.out.drew).alloc HB6.out.size _)
    have HO13b : Hid ((W6.drew.alloc (.cells #[F y, F (Fl.fneg y), F y] 35)).ownsRow w.heap.size 35 1 (.slice (some ⟨W5.heap.size, 0, none⟩) 3 3) 3 ([y, Fl.fneg y, y].map F)) := Lib.hid ((show W6.drew.ownsRow _ 35 1 _ _ _ from HO13.out).alloc _)
    have HO14b : Hid ((W6.drew.alloc (.cells #[F y, F (Fl.fneg y), F y] 35)).ownsRow w.heap.size 35 1 (.slice (some ⟨W6.heap.size, 0, none⟩) 3 3) 3 ([y, Fl.fneg y, y].map F)) := Lib.hid (World.ownsRow_lit W6.drew #[F y, F (Fl.fneg y), F y] 3 HB6.out.size (by decide) rfl)
    have hh7 : Hid ((W6.drew.alloc (.cells #[F y, F (Fl.fneg y), F y] 35)).heap[W6.heap.size]? = some (.cells #[F y, F (Fl.fneg y), F y] 35)) := Lib.hid (World.alloc_heap_new W6.drew _)
    have hs67 : W6.heap.size < (W6.drew.alloc (.cells #[F y, F (Fl.fneg y), F y] 35)).heap.size := by simp
    have hne65 : ¬ W6.heap.size = W5.heap.size := by omega
    have hle7 : Hid (w.heap.size ≤ ((W6.drew.alloc (.cells #[F y, F (Fl.fneg y), F y] 35)).alloc (.cells #[F y] 35)).heap.size) := Lib.hid (Nat.le_trans HB7.out.size (by simp))
    have hc7 : Hid (((W6.drew.alloc (.cells #[F y, F (Fl.fneg y), F y] 35)).alloc (.cells #[F y] 35)).cell? ⟨W6.heap.size + 1, 0, none⟩ = some (F y)) := Lib.hid (World.cell?_alloc_at _ _ _ _ (by simp))
    go_wp2_with (first
      | (at_builtin; refine wpList_append_rowG rfl (.tmp 114) (.tmp 124) rfl w.heap.size _ 3 [y, Fl.fneg y, y] rfl (HO13b.out.alloc _) ⟨W6.heap.size + 1, 0, none⟩ y rfl hc7.out (by decide) hle7.out ?_; intro v13 W9 ho13 hg9 hb9; have HO13 := Lib.hid ho13; have HO14 := Lib.hid (own_grown (HO14b.out.alloc (.cells #[F y] 35)) hg9 (.inl (fun e => hne65 (Option.some.inj e)))); have HB9 := Lib.hid ((HB7.out.alloc HB7.out.size _).trans hb9); have HN := Lib.hid (own_small ho13 ((hg9.block W6.heap.size (Nat.lt_trans hs67 (by simp)) (fun e => hne65 (Option.some.inj e))).trans ((Below.heap_alloc _ _ _ hs67).trans hh7.out)) (by simp)); clear ho13 hg9 hb9 kl3 kh3 kl2 kh' kl' HO13b HO14b hh7 hc7 hle7)
      | (at_builtin; refine wpList_append_rowG rfl (.tmp 126) (.tmp 128) rfl w.heap.size _ 3 [y, Fl.fneg y, y] rfl (HO14.out.alloc _) ⟨W9.heap.size, 0, none⟩ y rfl (World.cell?_alloc_at _ _ _ _ rfl) (by decide) (Nat.le_trans HB9.out.size (by simp)) ?_; intro v14 W10 ho14 hg10 hb10; have HF14 := Lib.hid (fla_own ho14); have HF13 := Lib.hid (fla_own (own_grown (HO13.out.alloc (.cells #[F y] 35)) hg10 (.inl HN.out))); have HB10 := Lib.hid ((HB9.out.alloc HB9.out.size _).trans hb10); clear ho14 hg10 hb10))
    refine (sameRow_f (l := [y, Fl.fneg y, y] ++ [y]) HF13.out HF14.out rfl (by simp)).mono ?_
    rintro e W11 ⟨rfl, hb⟩
    have HB11 := Lib.hid hb
    clear hb
    go_wp2
    go_ret
    exact ⟨rfl, HB10.out.trans (HB11.out.mono HB10.out.size)⟩

set_option maxHeartbeats 4000000 in
theorem permAt_odd_inO (a : Option Addr) (len cap : Nat) (l : List Nat) (at_ : Int) (k : Nat) (w : World) (hr : RowF w a len cap l) (h0 : 0 < len) (h : (len : Int) ≤ 300) (hk : at_.tmod (len : Int) = (k : Int)) (hkl : k < len) (ha0 : 0 ≤ at_) (ha1 : at_ ≤ 255) (hp : k % 2 = 1) (hin : 1 ≤ k ∧ k + 1 < len) : Calls Try.prog 7 #[.slice a len cap, .int .u8 at_, .bool true] w fun e w' => e = .returned (.bool true) ∧ Below w.heap.size w w' := by
  obtain ⟨i0, hi, hz0, hz1, hz2⟩ := info_parts info35
  have T1 := Lib.hid hr.fla
  have hl : Hid (l.length = len) := Lib.hid hr.1.1
  have hpk : (k : Int).tmod 2 = 1 := by rw [Int.tmod_eq_emod_of_nonneg (by omega)]; omega
  have hkl' : (k : Int) < (len : Int) := by omega
  have hb0 : ((len : Int) == 0) = false := by apply beq_false_of_ne; omega
  have hdec : decide ((300 : Int) < (len : Int)) = false := by rw [decide_eq_false_iff_not]; omega
  have hi1 : (1 : Int) ≤ (k : Int) := by omega
  have hi2 : (k : Int) + 1 < (len : Int) := by omega
  have HIN := Lib.hid hin
  have HP := Lib.hid hp
  clear hr hin hp
  go_enter Try.func7, Try.ntmps7
  go_wp2_with fail
  refine (l10_head _).mono ?_
  rintro e W1 ⟨rfl, hb⟩
  have BB1 := Lib.hid hb
  replace T1 := Lib.hid (T1.out.below BB1.out)
  have BT := BB1
  clear hb
  go_wp2_with fail
  refine (rev_f T1.out (by rw [hl.out]; omega)).mono ?_
  intro e W2 hm
  obtain ⟨o2, n2, c2, rfl, ho, hb⟩ := makes_n hm
  clear hm
  have BB2 := Lib.hid hb
  replace T1 := Lib.hid (T1.out.below BB2.out)
  have TR := Lib.hid ho
  replace BT := Lib.hid (BT.out.trans (BB2.out.mono BT.out.size))
  clear hb ho
  obtain rfl : n2 = len := by rw [← fla_len TR.out, revs_length, hl.out]
  go_wp2_with fail
  refine (signs_f T1.out (by rw [hl.out]; omega)).mono ?_
  intro e W3 hm
  obtain ⟨o3, n3, c3, rfl, ho, hb⟩ := makes_n hm
  clear hm
  have BB3 := Lib.hid hb
  replace T1 := Lib.hid (T1.out.below BB3.out)
  replace TR := Lib.hid (TR.out.below BB3.out)
  have TS := Lib.hid ho
  replace BT := Lib.hid (BT.out.trans (BB3.out.mono BT.out.size))
  clear hb ho
  obtain rfl : n3 = n2 := by rw [← fla_len TS.out, signs_length, hl.out]
  go_wp2_with fail
  refine (mirror_fla true T1.out (by rw [hl.out]; omega)).mono ?_
  intro e W4 hm
  obtain ⟨o4, n4, c4, rfl, ho, hb⟩ := makes_n hm
  clear hm
  have BB4 := Lib.hid hb
  replace T1 := Lib.hid (T1.out.below BB4.out)
  replace TR := Lib.hid (TR.out.below BB4.out)
  replace TS := Lib.hid (TS.out.below BB4.out)
  have TM := Lib.hid ho
  replace BT := Lib.hid (BT.out.trans (BB4.out.mono BT.out.size))
  clear hb ho
  have hM : n4 = n3 + (n3 - 2) := by rw [← fla_len TM.out, mirrors_length, hl.out]
  obtain ⟨y, hy⟩ : ∃ y, l.getD k 0 = y := ⟨_, rfl⟩
  obtain ⟨bl, ol, rfl, hcl⟩ := fla_cells T1.out h0
  obtain ⟨br, or_, rfl, hcr⟩ := fla_cells TR.out h0
  obtain ⟨bs, os_, rfl, hcs⟩ := fla_cells TS.out h0
  obtain ⟨bm, om, rfl, hcm⟩ := fla_cells TM.out (by omega)
  have kl := hcl k hkl
  rw [hy] at kl
  have kr := hcr (n3 - 1 - k) (by omega)
  rw [revs_getD _ _ (by rw [hl.out]; omega), hl.out, show n3 - 1 - (n3 - 1 - k) = k by omega, hy] at kr
  have ks := hcs k hkl
  rw [signs_getD _ _ _ (by rw [hl.out]; exact hkl), hy] at ks
  have km := hcm k (by omega)
  rw [mirrors_low _ _ _ (by rw [hl.out]; exact hkl), hy] at km
  rw [if_pos (by rw [beq_iff_eq]; exact HP.out)] at ks
  have kh := hcm (2 * (n3 - 1) - k) (by have := HIN.out; omega)
  have hh := mirrors_high true l k HIN.out.1 (by rw [hl.out]; exact HIN.out.2)
  rw [hl.out] at hh
  rw [hh, hy] at kh
  simp only [if_true] at kh
  have lbl := cell_lt kl
  have lbr := cell_lt kr
  have lbs := cell_lt ks
  have lbm := cell_lt km
  obtain ⟨q, hq⟩ : ∃ q, n3 - 1 - k = q := ⟨_, rfl⟩
  rw [hq] at kr
  obtain ⟨u, hu⟩ : ∃ u, n3 - 1 = u := ⟨_, rfl⟩
  have hqa : (n3 : Int) - 1 = (u : Int) := by omega
  have hqb : (u : Int) - (k : Int) = (q : Int) := by omega
  have hqc : IntKind.i64.wrap (u : Int) = (u : Int) := by rw [IntKind.wrap_i64]; omega
  have hqd : IntKind.i64.wrap (q : Int) = (q : Int) := by rw [IntKind.wrap_i64]; omega
  have hqn : (q : Int) < (n3 : Int) := by omega
  have hkM : (k : Int) < (n4 : Int) := by omega
  obtain ⟨e2, he2⟩ : ∃ e2, 2 * (n3 - 1) - k = e2 := ⟨_, rfl⟩
  rw [he2] at kh
  have hea : (2 : Int) * (u : Int) - (k : Int) = (e2 : Int) := by have := HIN.out; omega
  have heb : (e2 : Int) < (n4 : Int) := by have := HIN.out; omega
  clear he2
  have hMi : (n3 : Int) + max ((n3 : Int) - 2) 0 = (n4 : Int) := by omega
  have hmx : ((n4 : Int) != (n3 : Int) + if (n3 : Int) - 2 < 0 then 0 else (n3 : Int) - 2) = false := by
    rw [bne_eq_false_iff_eq]
    split <;> omega
  have HMM := Lib.hid hM
  clear hcl hcr hcs hcm hy hq hu hM hMi
  go_wp2
  all_goals
    go_still_tail 16, (by kernel_rfl)
    change wpList _ _ _ _ _ W4.drew
    have lbl' : bl < W4.drew.heap.size := lbl
    have kl' : W4.drew.cell? ⟨bl, ol + k, none⟩ = some (F y) := kl
    have HB5 : Hid (Below w.heap.size w W4.drew) := Lib.hid BT.out.drew
    have lbm' : bm < W4.drew.heap.size := lbm
    have kh' : W4.drew.cell? ⟨bm, om + e2, none⟩ = some (F (Fl.fneg y)) := kh
    clear T1 TR TS TM kl kr ks km lbl lbr lbs lbm BB1 BB2 BB3 BB4 BT kh hh
    generalize W4.drew = W5 at lbm' kh' lbl' kl' HB5 ⊢
    go_wp2
    have kl2 : (W5.alloc (.cells #[F y, F (Fl.fneg y), F y] 35)).cell? ⟨bl, ol + k, none⟩ = some (F y) := (World.cell?_alloc_past _ _ _ lbl').trans kl'
    have lbl2 : bl < (W5.alloc (.cells #[F y, F (Fl.fneg y), F y] 35)).heap.size := by rw [World.size_alloc]; omega
    have HF13 : Hid (Fla (W5.alloc (.cells #[F y, F (Fl.fneg y), F y] 35)) (.slice (some ⟨W5.heap.size, 0, none⟩) 3 3) [y, Fl.fneg y, y]) := Lib.hid (fla_lit W5 #[F y, F (Fl.fneg y), F y] [y, Fl.fneg y, y] rfl _ rfl (by simp))
    have HO13 : Hid ((W5.alloc (.cells #[F y, F (Fl.fneg y), F y] 35)).ownsRow w.heap.size 35 1 (.slice (some ⟨W5.heap.size, 0, none⟩) 3 3) 3 ([y, Fl.fneg y, y].map F)) := Lib.hid (World.ownsRow_lit W5 #[F y, F (Fl.fneg y), F y] 3 HB5.out.size (by decide) rfl)
    have HB6 : Hid (Below w.heap.size w (W5.alloc (.cells #[F y, F (Fl.fneg y), F y] 35))) := Lib.hid (HB5.out.alloc HB5.out.size _)
    have hk56 : (W5.alloc (.cells #[F y, F (Fl.fneg y), F y] 35)).cell? ⟨bm, om + e2, none⟩ = W5.cell? ⟨bm, om + e2, none⟩ := World.cell?_alloc_past _ _ _ lbm'
    have hs56 : W5.heap.size < (W5.alloc (.cells #[F y, F (Fl.fneg y), F y] 35)).heap.size := by simp
    generalize W5.alloc (.cells #[F y, F (Fl.fneg y), F y] 35) = W6 at kl2 lbl2 HF13 HO13 HB6 hs56 hk56 ⊢
    go_still_tail 9, (by kernel_rfl)
    change wpList _ _ _ _ _ W6.drew
    have kl3 : (W6.drew.alloc (.cells #[F y, F (Fl.fneg y), F y] 35)).cell? ⟨bl, ol + k, none⟩ = some (F y) := (World.cell?_alloc_past _ _ _ lbl2).trans kl2
    have lbm2 : bm < W6.heap.size := Nat.lt_trans lbm' hs56
    have kh3 : (W6.drew.alloc (.cells #[F y, F (Fl.fneg y), F y] 35)).cell? ⟨bm, om + e2, none⟩ = some (F (Fl.fneg y)) := (World.cell?_alloc_past _ _ _ lbm2).trans (hk56.trans kh')
    have HB7 : Hid (Below w.heap.size w (W6.drew.alloc (.cells #[F y, F (Fl.fneg y), F y] 35))) := Lib.hid ((HB6.out.drew).alloc HB6.out.size _)
    have HO13b : Hid ((W6.drew.alloc (.cells #[F y, F (Fl.fneg y), F y] 35)).ownsRow w.heap.size 35 1 (.slice (some ⟨W5.heap.size, 0, none⟩) 3 3) 3 ([y, Fl.fneg y, y].map F)) := Lib.hid ((show W6.drew.ownsRow _ 35 1 _ _ _ from HO13.out).alloc _)
    have HO14b : Hid ((W6.drew.alloc (.cells #[F y, F (Fl.fneg y), F y] 35)).ownsRow w.heap.size 35 1 (.slice (some ⟨W6.heap.size, 0, none⟩) 3 3) 3 ([y, Fl.fneg y, y].map F)) := Lib.hid (World.ownsRow_lit W6.drew #[F y, F (Fl.fneg y), F y] 3 HB6.out.size (by decide) rfl)
    have hh7 : Hid ((W6.drew.alloc (.cells #[F y, F (Fl.fneg y), F y] 35)).heap[W6.heap.size]? = some (.cells #[F y, F (Fl.fneg y), F y] 35)) := Lib.hid (World.alloc_heap_new W6.drew _)
    have hs67 : W6.heap.size < (W6.drew.alloc (.cells #[F y, F (Fl.fneg y), F y] 35)).heap.size := by simp
    have hne65 : ¬ W6.heap.size = W5.heap.size := by omega
    have hle7 : Hid (w.heap.size ≤ ((W6.drew.alloc (.cells #[F y, F (Fl.fneg y), F y] 35)).alloc (.cells #[F (Fl.fneg y)] 35)).heap.size) := Lib.hid (Nat.le_trans HB7.out.size (by simp))
    have hc7 : Hid (((W6.drew.alloc (.cells #[F y, F (Fl.fneg y), F y] 35)).alloc (.cells #[F (Fl.fneg y)] 35)).cell? ⟨W6.heap.size + 1, 0, none⟩ = some (F (Fl.fneg y))) := Lib.hid (World.cell?_alloc_at _ _ _ _ (by simp))
    go_wp2_with (first
      | (at_builtin; refine wpList_append_rowG rfl (.tmp 114) (.tmp 124) rfl w.heap.size _ 3 [y, Fl.fneg y, y] rfl (HO13b.out.alloc _) ⟨W6.heap.size + 1, 0, none⟩ (Fl.fneg y) rfl hc7.out (by decide) hle7.out ?_; intro v13 W9 ho13 hg9 hb9; have HO13 := Lib.hid ho13; have HO14 := Lib.hid (own_grown (HO14b.out.alloc (.cells #[F (Fl.fneg y)] 35)) hg9 (.inl (fun e => hne65 (Option.some.inj e)))); have HB9 := Lib.hid ((HB7.out.alloc HB7.out.size _).trans hb9); have HN := Lib.hid (own_small ho13 ((hg9.block W6.heap.size (Nat.lt_trans hs67 (by simp)) (fun e => hne65 (Option.some.inj e))).trans ((Below.heap_alloc _ _ _ hs67).trans hh7.out)) (by simp)); clear ho13 hg9 hb9 kl3 kh3 kl2 kh' kl' HO13b HO14b hh7 hc7 hle7)
      | (at_builtin; refine wpList_append_rowG rfl (.tmp 126) (.tmp 128) rfl w.heap.size _ 3 [y, Fl.fneg y, y] rfl (HO14.out.alloc _) ⟨W9.heap.size, 0, none⟩ (Fl.fneg y) rfl (World.cell?_alloc_at _ _ _ _ rfl) (by decide) (Nat.le_trans HB9.out.size (by simp)) ?_; intro v14 W10 ho14 hg10 hb10; have HF14 := Lib.hid (fla_own ho14); have HF13 := Lib.hid (fla_own (own_grown (HO13.out.alloc (.cells #[F (Fl.fneg y)] 35)) hg10 (.inl HN.out))); have HB10 := Lib.hid ((HB9.out.alloc HB9.out.size _).trans hb10); clear ho14 hg10 hb10))
    refine (sameRow_f (l := [y, Fl.fneg y, y] ++ [(Fl.fneg y)]) HF13.out HF14.out rfl (by simp)).mono ?_
    rintro e W11 ⟨rfl, hb⟩
    have HB11 := Lib.hid hb
    clear hb
    go_wp2
    go_ret
    exact ⟨rfl, HB10.out.trans (HB11.out.mono HB10.out.size)⟩
end Go.Proofs.Ytajnjghbppcfdaa
