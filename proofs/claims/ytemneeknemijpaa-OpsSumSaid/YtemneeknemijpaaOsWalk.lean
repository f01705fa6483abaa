/- OpsSum: the law's walk: it answers true, whatever the row and the two floats are. No condition but the row's length in memory. -/
import Derived.Test.YtemneeknemijpaaHead4
import Derived.Test.YtemneeknemijpaaOeWalk
import Derived.OwnWalk
import Derived.WalkSpells
import Derived.Laws.AppendOwnNone
import Derived.Maps.AppendAt
import Derived.RangeFuncBox
namespace Go.Proofs.Ytemneeknemijpaa
open Go.RowKit

theorem info22 : (Try.prog.info? 22).map (fun i => (i.zero, i.size, i.bytes)) = some (some (.float .f64 0), 1, 8) := by kernel_rfl

theorem cell_lt {w : World} {b o : Nat} {v : Value} (h : w.cell? ⟨b, o, none⟩ = some v) : b < w.heap.size := by
  unfold World.cell? at h
  apply Nat.lt_of_not_le
  intro hle
  rw [Array.getElem?_eq_none hle] at h
  cases h

theorem IsFl.below {w w' : World} {a : Option Addr} {len : Nat} {l : List Nat} (h : IsFl w a len l) (hb : Below w.heap.size w w') : IsFl w' a len l := by
  obtain ⟨h1, h2⟩ := h
  refine ⟨h1, ?_⟩
  rcases h2 with h2 | ⟨b, off, rfl, hc⟩
  · exact .inl h2
  · refine .inr ⟨b, off, rfl, fun k hk => ?_⟩
    rw [hb.cell (p := ⟨b, off + k, none⟩) (cell_lt (hc k hk)), hc k hk]

theorem isFl_own {w : World} {base n : Nat} {v : Value} {l : List Nat} (h : w.ownsRow base 22 1 v n (l.map F)) : ∃ a cap, v = .slice a n cap ∧ IsFl w a n l := by
  have hl : l.length = n := by have := h.1; simpa using this
  rcases h.2 with ⟨rfl, rfl⟩ | ⟨g, cap, cur, rfl, hg, hh, hr⟩
  · exact ⟨none, 0, rfl, hl, .inl rfl⟩
  · refine ⟨_, cap, rfl, hl, .inr ⟨g, 0, rfl, fun k hk => ?_⟩⟩
    rw [Nat.zero_add, World.ownsRow.cellAt h k (by omega), List.getElem?_map, List.getElem?_eq_getElem hk, List.getD_eq_getElem?_getD, List.getElem?_eq_getElem hk]
    rfl

/-- A row of floats that came in: it reads as the list l. -/
def RowF (w : World) (a : Option Addr) (len cap : Nat) (l : List Nat) : Prop := IsFl w a len l ∧ (a = none → len = 0 ∧ cap = 0)

theorem srcF {w : World} {ad : Addr} {len : Nat} {l : List Nat} (h : IsFl w (some ad) len l) : ∀ (j : Nat) u, (l.map F)[j]? = some u → w.cell? (ad.add j) = some u := by
  intro j u hj
  obtain ⟨h1, h2⟩ := h
  rw [List.getElem?_map] at hj
  have hlt : j < l.length := by
    apply Nat.lt_of_not_le
    intro hle
    rw [List.getElem?_eq_none hle] at hj
    cases hj
  rcases h2 with h2 | ⟨b, off, hab, hc⟩
  · omega
  · cases hab
    rw [List.getElem?_eq_getElem hlt] at hj
    have := hc j hlt
    rw [List.getD_eq_getElem?_getD, List.getElem?_eq_getElem hlt] at this
    have e : (⟨b, off, none⟩ : Addr).add j = ⟨b, off + j, none⟩ := by simp [Addr.add]
    rw [e, this]
    exact hj
theorem oneF (l : List Nat) : ∀ u ∈ l.map F, u.oneCell' = true := by
  intro u hu
  obtain ⟨x, _, rfl⟩ := List.mem_map.1 hu
  rfl

/-- what one float's slice is -/
theorem isFl_one (w : World) (x : Nat) (b off : Nat) (a : Option Addr) (ha : a = some ⟨b, off, none⟩) (h : w.cell? ⟨b, off, none⟩ = some (F x)) : IsFl w a 1 [x] :=
  ⟨rfl, .inr ⟨b, off, ha, fun k hk => by match k, hk with | 0, _ => exact h⟩⟩
theorem isFl_two (w : World) (x y : Nat) (b off : Nat) (a : Option Addr) (ha : a = some ⟨b, off, none⟩) (h : w.cell? ⟨b, off, none⟩ = some (F x)) (h2 : w.cell? ⟨b, off + 1, none⟩ = some (F y)) : IsFl w a 2 [x, y] :=
  ⟨rfl, .inr ⟨b, off, ha, fun k hk => by match k, hk with | 0, _ => exact h | 1, _ => exact h2⟩⟩
theorem isFl_zero (w : World) (a : Option Addr) : IsFl w a 0 [] := ⟨rfl, .inl rfl⟩

theorem size_alloc_le (w : World) (o : Obj) : w.heap.size ≤ (w.alloc o).heap.size := by simp

theorem sum_last {t s x r : Nat} (l : List Nat) (ht : Fl.canon t = fsum 0 (l ++ [x])) (hs : Fl.canon s = fsum 0 l) (hr : Fl.canon r = Fl.fadd s x) : Fl.canon t = Fl.canon r := by
  rw [ht, hr, fsum_snoc, ← hs, Fl.fadd_canon_left]
theorem same_of_canons {r v s u : Nat} (h : Fl.canon r = v) (h2 : Fl.canon s = u) (hs : Fl.same v u = true) : Fl.same r s = true := by
  rw [← Fl.same_canon_left, ← Fl.same_canon_right, h, h2]; exact hs
namespace Fl
theorem sum_one_same {x : Nat} (hx : x < 2 ^ 64) : same (fsum 0 [x]) x = true := by
  show same (fadd 0 x) x = true
  rw [fadd_comm]
  exact add_zero_same hx
theorem zero_sum_other {x : Nat} (hx : x < 2 ^ 64) (h : ¬ Fin x) : fadd 0 x = canon x := by
  rcases kinds hx with h1 | ⟨h1, h2⟩ | h1
  · rw [canon_nan h1]; unfold fadd Ieee.Format.add; rw [sum_nan_right h1]; rfl
  · have hn : isNaN x = false := by unfold isNaN; rw [h1]; rfl
    rw [canon_of hn]
    unfold fadd Ieee.Format.add
    rw [h1, read_fin fin0]
    exact h2.symm
  · exact absurd h1 h
theorem zero_sum_fin {x : Nat} (hx : Fin x) : Is (fadd 0 x) (V x) := by rw [fadd_comm]; exact add_zero' ⟨hx, rfl⟩ is_zero
theorem zero_add_other {a b : Nat} (ha : a < 2 ^ 64) (hb : b < 2 ^ 64) (h : ¬ Fin a) : fadd (fadd 0 b) a = fadd b a := by
  by_cases hf : Fin b
  · have hb0 := (zero_sum_fin hf).fin
    rcases kinds ha with h1 | ⟨h1, h2⟩ | h1
    · unfold fadd Ieee.Format.add; rw [sum_nan_right h1, sum_nan_right h1]
    · have e : ∀ z, Fin z → fadd z a = a := by
        intro z hz
        unfold fadd Ieee.Format.add
        rw [h1, read_fin hz]
        exact h2.symm
      rw [e _ hb0, e _ hf]
    · exact absurd h1 h
  · rw [zero_sum_other hb hf, fadd_canon_left]
theorem sum_two_same {a b : Nat} (ha : a < 2 ^ 64) (hb : b < 2 ^ 64) : same (fsum 0 [a, b]) (fsum 0 [b, a]) = true := by
  show same (fadd (fadd 0 a) b) (fadd (fadd 0 b) a) = true
  by_cases fa : Fin a
  · by_cases fb : Fin b
    · have ia := zero_sum_fin fa
      have ib := zero_sum_fin fb
      by_cases h0 : V a + V b = 0
      · have r0 : Rep (V a + V b) := by rw [h0]; exact rep0
        have r1 : Rep (V b + V a) := by rw [Int.add_comm]; exact r0
        have e1 := ia.add ⟨fb, rfl⟩ r0
        have e2 := ib.add ⟨fa, rfl⟩ r1
        rw [Int.add_comm (V b)] at e2
        exact same_is e1 e2
      · have e : fadd (fadd 0 a) b = fadd (fadd 0 b) a := by
          rw [fadd_fin ia.fin fb, fadd_fin ib.fin fa, ia.val, ib.val, Int.add_comm (V b), if_neg h0, if_neg h0]
        rw [e]; exact same_refl _
    · rw [zero_sum_other hb fb, fadd_canon_left, zero_add_other hb ha fb, fadd_comm b a]; exact same_refl _
  · rw [zero_sum_other ha fa, fadd_canon_left, zero_add_other ha hb fa, fadd_comm b a]; exact same_refl _
end Fl

theorem own_base {w : World} {base e size n : Nat} {v : Value} {xs : List Value} (h : w.ownsRow base e size v n xs) : ∀ k, v.ownBlock = some k → base ≤ k := by
  intro k hk
  rcases h.2 with ⟨rfl, _⟩ | ⟨g, cap, cur, rfl, hg, _⟩
  · cases hk
  · cases hk; exact hg

theorem cell_newl (W : World) (cs : Array Value) (t : TypeId) (h j : Nat) (hh : h = W.heap.size) : (W.alloc (.cells cs t)).cell? ⟨h, j, none⟩ = cs[j]? := by
  subst hh; simp [go_sem]

theorem cell_head (w : World) (v : Value) (cs : Array Value) (t : TypeId) (h : Nat) (hh : h = w.heap.size) : (w.alloc (.cells (#[v] ++ cs) t)).drew.cell? ⟨h, 0, none⟩ = some v := by
  subst hh
  have : (w.alloc (.cells (#[v] ++ cs) t)).cell? ⟨w.heap.size, 0, none⟩ = (#[v] ++ cs)[0]? := by simp [go_sem]
  show (w.alloc (.cells (#[v] ++ cs) t)).cell? ⟨w.heap.size, 0, none⟩ = some v
  rw [this, Array.getElem?_append_left (by simp)]
  rfl

theorem opsSum_long (a : Option Addr) (len cap : Nat) (x y : Nat) (w : World) (h : (300 : Int) < (len : Int)) : Calls Try.prog 14 #[.slice a len cap, F x, F y] w fun e w' => e = .returned (.bool true) ∧ Below w.heap.size w w' := by
  go_enter Try.func14, Try.ntmps14
  go_wp2_with fail
  refine (l4_head _).mono ?_
  rintro e w1 ⟨rfl, hb⟩
  have HB1 := Lib.hid hb
  clear hb
  go_wp2
  go_ret
  exact ⟨rfl, HB1.out⟩

set_option maxHeartbeats 1000000 in
theorem opsSum_short (a : Option Addr) (len cap : Nat) (l : List Nat) (x y : Nat) (w : World) (hr : RowF w a len cap l) (hx : x < 2 ^ 64) (hy : y < 2 ^ 64) (h : (len : Int) ≤ 300) : Calls Try.prog 14 #[.slice a len cap, F x, F y] w fun e w' => e = .returned (.bool true) ∧ Below w.heap.size w w' := by
  obtain ⟨i0, hi, hz0, hz1, hz2⟩ := info_parts info22
  have HX := Lib.hid hx
  have HY := Lib.hid hy
  have HR := Lib.hid hr
  clear hx hy hr
  go_enter Try.func14, Try.ntmps14
  go_wp2_with fail
  refine (l4_head _).mono ?_
  rintro e w1 ⟨rfl, hb⟩
  have HB1 := Lib.hid hb
  have H1 := Lib.hid (HR.out.1.below hb)
  clear hb
  go_wp2_with fail
  refine (ops_sum a len cap l _ (by omega) H1.out).mono ?_
  rintro e wz ⟨s, n1, rfl, hs, hsl, rfl⟩
  have HS := Lib.hid hs
  clear hs
  have hown : ((w1.drewN n1).alloc (.cells #[] 22)).ownsRow w1.heap.size 22 1 (.slice (some ⟨w1.heap.size, 0, none⟩) 0 0) 0 [] := World.ownsRow_lit (w1.drewN n1) #[] 0 (Nat.le_refl _) (by decide) rfl
  have H2 : Hid (IsFl ((w1.drewN n1).alloc (.cells #[] 22)) a len l) := H1.out.below ((below_drewN (Below.refl _ _) _).alloc (Nat.le_refl _) _)
  have K1 : Hid ((l.map F).length = len * 1) := by rw [List.length_map, HR.out.1.1, Nat.mul_one]; exact rfl
  have K2 : Hid (0 + len ≤ maxLen) := by unfold maxLen; exact (show 0 + len ≤ 9223372036854775807 by omega)
  have K3 : Hid ((0 + len) * 8 ≤ 140737488355328) := by exact (show (0 + len) * 8 ≤ 140737488355328 by omega)
  have K4 : Hid (len + 1 ≤ maxLen) := by unfold maxLen; exact (show len + 1 ≤ 9223372036854775807 by omega)
  have K5 : Hid ((len + 1) * 8 ≤ 140737488355328) := by exact (show (len + 1) * 8 ≤ 140737488355328 by omega)
  have KA : Hid (w1.heap.size ≤ ((w1.drewN n1).alloc (.cells #[] 22)).heap.size) := size_alloc_le (w1.drewN n1) _
  have KB : Hid (w1.heap.size ≤ (((w1.drewN n1).alloc (.cells #[] 22)).alloc (.cells #[F x] 22)).heap.size) := Nat.le_trans (size_alloc_le (w1.drewN n1) _) (size_alloc_le _ _)
  cases a with
  | none =>
    obtain ⟨h1, h2⟩ := HR.out.2 rfl
    subst h1
    subst h2
    have hl0 : l = [] := List.length_eq_zero_iff.1 H1.out.1
    subst hl0
    go_wp2_with (first | (at_builtin; refine wpList_append_own_none rfl (.tmp 17) (.tmp 18) 50 rfl w1.heap.size 22 i0 1 Try.underlying50 hi _ 0 [] rfl hown rfl ?_))
    refine (ops_sum _ 1 _ [x] _ (by decide) (isFl_one _ x _ 0 _ rfl (cell_head _ _ _ _ _ (by simp)))).mono ?_
    rintro e wz ⟨t, n2, rfl, ht, htl, rfl⟩
    have HT := Lib.hid ht
    clear ht
    go_wp2_with fail
    refine (ops_add _ _ _).mono ?_
    rintro e wz ⟨r1, n3, rfl, hr1, hrl1, rfl⟩
    have HR1 := Lib.hid hr1
    clear hr1
    go_wp2_with fail
    refine (f_same_yes _ _ _ (sum_last [] HT.out HS.out HR1.out)).mono ?_
    rintro e wz ⟨rfl, rfl⟩
    go_wp2_with fail
    refine (ops_sum none 0 0 [] _ (by decide) (isFl_zero _ _)).mono ?_
    rintro e wz ⟨r2, n4, rfl, hr2, hrl2, rfl⟩
    obtain rfl : r2 = 0 := eq_of_canon hr2 (by decide)
    clear hr2
    go_wp2_with fail
    refine (ops_sum _ 1 _ [x] _ (by decide) (isFl_one _ x _ 0 _ rfl ?_)).mono ?_
    · exact cell_newl _ _ _ _ _ (by first | rfl | simp)
    rintro e wz ⟨r3, n5, rfl, hr3, hrl3, rfl⟩
    have HR3 := Lib.hid hr3
    clear hr3
    go_wp2_with fail
    refine (f_same_true _ _ _ (same_of_canon HR3.out (Fl.sum_one_same HX.out))).mono ?_
    rintro e wz ⟨rfl, rfl⟩
    go_wp2_with fail
    refine (ops_sum _ 2 _ [x, y] _ (by decide) (isFl_two _ x y _ 0 _ rfl ?_ ?_)).mono ?_
    · exact cell_newl _ _ _ _ _ (by first | rfl | simp)
    · exact cell_newl _ _ _ _ _ (by first | rfl | simp)
    rintro e wz ⟨r4, n6, rfl, hr4, hrl4, rfl⟩
    have HR4 := Lib.hid hr4
    clear hr4
    go_wp2_with fail
    refine (ops_sum _ 2 _ [y, x] _ (by decide) (isFl_two _ y x _ 0 _ rfl ?_ ?_)).mono ?_
    · exact cell_newl _ _ _ _ _ (by first | rfl | simp)
    · exact cell_newl _ _ _ _ _ (by first | rfl | simp)
    rintro e wz ⟨r5, n7, rfl, hr5, hrl5, rfl⟩
    have HR5 := Lib.hid hr5
    clear hr5
    go_wp2_with fail
    refine (f_same_true _ _ _ (same_of_canons HR4.out HR5.out (Fl.sum_two_same HX.out HY.out))).mono ?_
    rintro e wz ⟨rfl, rfl⟩
    go_wp2
    go_ret
    refine ⟨rfl, HB1.out.trans ?_⟩
    have hs1 := HB1.out.size
    (repeat (first | exact Below.refl _ _ | refine below_drewN ?_ _ | refine Below.drew ?_ | refine Below.alloc ?_ ?_ _))
    all_goals (simp; omega)
  | some ad =>
    go_wp2_with (first | (at_builtin; refine wpList_append_own _ rfl (.tmp 17) (.tmp 18) 50 rfl w1.heap.size 22 i0 (.float .f64 0) 1 8 Try.underlying50 hi hz0 hz1 hz2 rfl (by decide) _ 0 [] rfl hown ad len cap (l.map F) rfl K1.out (srcF H2.out) (oneF l) K2.out K3.out KA.out ?_; intro v1 w2 hown1 hg1 _; simp only [Nat.zero_add, List.nil_append] at hown1; have K6 := Lib.hid (Nat.le_trans KA.out hg1.size); obtain ⟨a1, c1, rfl, hf1⟩ := isFl_own hown1; clear hf1) | (at_builtin; refine wpList_append_own _ rfl (.tmp 19) (.tmp 21) 50 rfl w1.heap.size 22 i0 (.float .f64 0) 1 8 Try.underlying50 hi hz0 hz1 hz2 rfl (by decide) _ len _ rfl (hown1.alloc _) ⟨w2.heap.size, 0, none⟩ 1 1 [F x] rfl rfl (cell_one_new _ _ _) (by simp [Value.oneCell']) K4.out K5.out (Nat.le_trans K6.out (size_alloc_le _ _)) ?_; intro v2 w3 hown2 hg2 _; obtain ⟨a2, c2, rfl, hf2⟩ := isFl_own (l := l ++ [x]) (by simpa using hown2); have HF2 := Lib.hid hf2; clear hf2))
    refine (ops_sum a2 (len + 1) c2 (l ++ [x]) _ (by omega) HF2.out).mono ?_
    rintro e wz ⟨t, n2, rfl, ht, htl, rfl⟩
    have HT := Lib.hid ht
    clear ht
    go_wp2_with fail
    refine (ops_add _ _ _).mono ?_
    rintro e wz ⟨r1, n3, rfl, hr1, hrl1, rfl⟩
    have HR1 := Lib.hid hr1
    clear hr1
    go_wp2_with fail
    refine (f_same_yes _ _ _ (sum_last l HT.out HS.out HR1.out)).mono ?_
    rintro e wz ⟨rfl, rfl⟩
    go_wp2_with fail
    refine (ops_sum none 0 0 [] _ (by decide) (isFl_zero _ _)).mono ?_
    rintro e wz ⟨r2, n4, rfl, hr2, hrl2, rfl⟩
    obtain rfl : r2 = 0 := eq_of_canon hr2 (by decide)
    clear hr2
    go_wp2_with fail
    refine (ops_sum _ 1 _ [x] _ (by decide) (isFl_one _ x _ 0 _ rfl ?_)).mono ?_
    · exact cell_newl _ _ _ _ _ (by first | rfl | simp)
    rintro e wz ⟨r3, n5, rfl, hr3, hrl3, rfl⟩
    have HR3 := Lib.hid hr3
    clear hr3
    go_wp2_with fail
    refine (f_same_true _ _ _ (same_of_canon HR3.out (Fl.sum_one_same HX.out))).mono ?_
    rintro e wz ⟨rfl, rfl⟩
    go_wp2_with fail
    refine (ops_sum _ 2 _ [x, y] _ (by decide) (isFl_two _ x y _ 0 _ rfl ?_ ?_)).mono ?_
    · exact cell_newl _ _ _ _ _ (by first | rfl | simp)
    · exact cell_newl _ _ _ _ _ (by first | rfl | simp)
    rintro e wz ⟨r4, n6, rfl, hr4, hrl4, rfl⟩
    have HR4 := Lib.hid hr4
    clear hr4
    go_wp2_with fail
    refine (ops_sum _ 2 _ [y, x] _ (by decide) (isFl_two _ y x _ 0 _ rfl ?_ ?_)).mono ?_
    · exact cell_newl _ _ _ _ _ (by first | rfl | simp)
    · exact cell_newl _ _ _ _ _ (by first | rfl | simp)
    rintro e wz ⟨r5, n7, rfl, hr5, hrl5, rfl⟩
    have HR5 := Lib.hid hr5
    clear hr5
    go_wp2_with fail
    refine (f_same_true _ _ _ (same_of_canons HR4.out HR5.out (Fl.sum_two_same HX.out HY.out))).mono ?_
    rintro e wz ⟨rfl, rfl⟩
    go_wp2
    go_ret
    refine ⟨rfl, HB1.out.trans ?_⟩
    have hs1 := HB1.out.size
    have hs2 := KA.out
    have hs3 := hg1.size
    have hs4 := hg2.size
    simp only [World.size_alloc] at hs4
    have b1 : Below w.heap.size w1 w2 := Below.grown ((below_drewN (Below.refl _ _) _).alloc hs1 _) hg1 (by simp; omega) (fun k hk => Nat.le_trans hs1 (own_base hown k hk))
    have b2 : Below w.heap.size w1 w3 := Below.grown (b1.alloc (by omega) _) hg2 (by simp; omega) (fun k hk => Nat.le_trans hs1 (own_base hown1 k hk))
    (repeat (first | exact b2 | refine below_drewN ?_ _ | refine Below.drew ?_ | refine Below.alloc ?_ ?_ _))
    all_goals (simp; omega)

end Go.Proofs.Ytemneeknemijpaa
