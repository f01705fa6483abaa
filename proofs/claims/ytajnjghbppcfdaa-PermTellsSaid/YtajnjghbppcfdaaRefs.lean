/- The document's answer to layer 10: its contracts. -/
import Derived.Test.YtajnjghbppcfdaaHead
import Derived.Test.YtajnjghbppcfdaaPlain
namespace Go.Proofs.Ytajnjghbppcfdaa
open Go.RowKit Go.Shelf

theorem takes_succ (l : List Nat) (k : Nat) (g : Nat → Nat) : takes l (k + 1) g = takes l k g ++ [l.getD (g k) 0] := by simp [takes, List.range_succ]
theorem fla_one (w : World) (y : Nat) (h : Nat) (hh : h = w.heap.size) : Fla (w.alloc (.cells #[F y] 35)) (.slice (some ⟨h, 0, none⟩) 1 1) [y] := fla_lit w #[F y] [y] rfl h hh (by simp)

set_option maxHeartbeats 1000000 in
theorem every_c (a : Option Addr) (len cap fr : Nat) (l : List Nat) (w : World) (h : IsFl w a len l) (h8 : len ≤ 2000) (hf : fr ≤ 1) : Calls Try.prog 32 #[.slice a len cap, .int .i64 fr] w fun e W' => ∃ v, e = .returned v ∧ W'.ownsRow w.heap.size 35 1 v ((len + 1 - fr) / 2) ((takes l ((len + 1 - fr) / 2) (fun k => 2 * k + fr)).map F) ∧ Below w.heap.size w W' := by
  have HA := Lib.hid h
  have hll := h.1
  clear h
  go_enter Try.func32, Try.ntmps32
  go_wp2
  go_loopw [5, 6] (fun s i wr => ∃ k : Nat, k ≤ (len + 1 - fr) / 2 ∧ i = .int .i64 (2 * (k : Int) + (fr : Int)) ∧ Hid (wr.ownsRow w.heap.size 35 1 s k ((takes l k (fun k => 2 * k + fr)).map F)) ∧ Hid (Below w.heap.size w wr)) (fun _ i _ => (len + 2 - intOf i).toNat)
  case atStart => exact ⟨0, Nat.zero_le _, by simp, Lib.hid (World.ownsRow_nil _ _ _ _), Lib.hid (Below.refl _ _)⟩
  case round =>
    obtain ⟨k, hk, rfl, hz, hbl⟩ := hrel
    by_cases hlt : 2 * k + fr < len
    · obtain ⟨y, hy⟩ : ∃ y, l.getD (2 * k + fr) 0 = y := ⟨_, rfl⟩
      obtain ⟨b0, off0, rfl, hc0⟩ : ∃ b off, a = some ⟨b, off, none⟩ ∧ w.cell? ⟨b, off + (2 * k + fr), none⟩ = some (F y) := by
        rcases HA.out.2 with h | ⟨b, off, h, hc⟩
        · omega
        · exact ⟨b, off, h, by rw [← hy]; exact hc _ (by omega)⟩
      have hc1 := (hbl.out.cell (p := ⟨b0, off0 + (2 * k + fr), none⟩) (cell_lt hc0)).trans hc0
      obtain ⟨q, hq⟩ : ∃ q, 2 * k + fr = q := ⟨_, rfl⟩
      rw [hq] at hc1
      have hqi : 2 * (k : Int) + (fr : Int) = (q : Int) := by omega
      have hql : (q : Int) < (len : Int) := by omega
      have HY := Lib.hid hy
      have HQ := Lib.hid hq
      clear hy hc0 hq
      go_wp2_with (at_builtin; refine wpList_append_row rfl (.tmp 14) (.tmp 19) rfl w.heap.size _ k _ rfl (hz.out.alloc _) _ [y] rfl (fla_one _ y _ rfl) (by simp; omega) (Nat.le_trans hbl.out.size (by simp)) ?_; intro v' w' ho hb)
      go_roundw
      case rel =>
        refine ⟨k + 1, by omega, by rw [show (2 : Int) * ((k + 1 : Nat) : Int) + (fr : Int) = (q : Int) + 2 by omega], Lib.hid ?_, Lib.hid ((hbl.out.alloc hbl.out.size _).trans hb)⟩
        rw [takes_succ, HY.out]
        exact ho
      case measure => simp [intOf] <;> omega
    · have hk2 : k = (len + 1 - fr) / 2 := by omega
      have hqi : ¬ 2 * (k : Int) + (fr : Int) < (len : Int) := by omega
      have hz2 := hz.out
      rw [hk2] at hz2
      have HZ2 := Lib.hid hz2
      clear hz2 hz
      go_wp2
      go_ret
      exact ⟨_, rfl, HZ2.out, hbl.out⟩

set_option maxHeartbeats 1000000 in
theorem revr_c (a : Option Addr) (len cap : Nat) (l : List Nat) (w : World) (h : IsFl w a len l) (h8 : len ≤ 2000) : Calls Try.prog 20 #[.slice a len cap] w fun e W' => ∃ v, e = .returned v ∧ W'.ownsRow w.heap.size 35 1 v len ((takes l len (fun k => len - 1 - k)).map F) ∧ Below w.heap.size w W' := by
  have HA := Lib.hid h
  have hll := h.1
  clear h
  go_enter Try.func20, Try.ntmps20
  go_wp2
  go_loopw [3, 4] (fun s i wr => ∃ k : Nat, k ≤ len ∧ i = .int .i64 ((len : Int) - 1 - (k : Int)) ∧ Hid (wr.ownsRow w.heap.size 35 1 s k ((takes l k (fun k => len - 1 - k)).map F)) ∧ Hid (Below w.heap.size w wr)) (fun _ i _ => (intOf i + 1).toNat)
  case atStart => exact ⟨0, Nat.zero_le _, by simp, Lib.hid (World.ownsRow_nil _ _ _ _), Lib.hid (Below.refl _ _)⟩
  case round =>
    obtain ⟨k, hk, rfl, hz, hbl⟩ := hrel
    by_cases hlt : k < len
    · obtain ⟨y, hy⟩ : ∃ y, l.getD (len - 1 - k) 0 = y := ⟨_, rfl⟩
      obtain ⟨b0, off0, rfl, hc0⟩ : ∃ b off, a = some ⟨b, off, none⟩ ∧ w.cell? ⟨b, off + (len - 1 - k), none⟩ = some (F y) := by
        rcases HA.out.2 with h | ⟨b, off, h, hc⟩
        · omega
        · exact ⟨b, off, h, by rw [← hy]; exact hc _ (by omega)⟩
      have hc1 := (hbl.out.cell (p := ⟨b0, off0 + (len - 1 - k), none⟩) (cell_lt hc0)).trans hc0
      obtain ⟨q, hq⟩ : ∃ q, len - 1 - k = q := ⟨_, rfl⟩
      rw [hq] at hc1
      have hqi : (len : Int) - 1 - (k : Int) = (q : Int) := by omega
      have hql : (q : Int) < (len : Int) := by omega
      have HY := Lib.hid hy
      have HQ := Lib.hid hq
      clear hy hc0 hq
      rw [hqi]
      go_wp2_with (at_builtin; refine wpList_append_row rfl (.tmp 12) (.tmp 17) rfl w.heap.size _ k _ rfl (hz.out.alloc _) _ [y] rfl (fla_one _ y _ rfl) (by simp; omega) (Nat.le_trans hbl.out.size (by simp)) ?_; intro v' w' ho hb)
      go_roundw
      case rel =>
        refine ⟨k + 1, by omega, by rw [show (len : Int) - 1 - ((k + 1 : Nat) : Int) = (q : Int) - 1 by omega], Lib.hid ?_, Lib.hid ((hbl.out.alloc hbl.out.size _).trans hb)⟩
        rw [takes_succ, HY.out]
        exact ho
      case measure => simp [intOf] <;> omega
    · have hk2 : k = len := by omega
      have hqi : (len : Int) - 1 - (k : Int) = -1 := by omega
      subst hk2
      rw [hqi]
      go_wp2
      go_ret
      exact ⟨_, rfl, hz.out, hbl.out⟩

theorem signs_succ (l : List Nat) (k : Nat) (h : k < l.length) (p : Nat → Bool) : (signs p l).take (k + 1) = (signs p l).take k ++ [if p k then Fl.fneg (l.getD k 0) else l.getD k 0] := by
  rw [List.take_succ_eq_append_getElem (by rw [signs_length]; exact h)]
  simp [signs]

theorem takes_eq {l : List Nat} {n m : Nat} {g g' : Nat → Nat} (h : n = m) (h2 : ∀ k, k < n → g k = g' k) : takes l n g = takes l m g' := by
  subst h
  apply ext_getD
  · rw [takes_length, takes_length]
  · intro k hk
    rw [takes_length] at hk
    rw [takes_getD _ _ _ _ hk, takes_getD _ _ _ _ hk, h2 k hk]
theorem revr_f {w : World} {v : Value} {l : List Nat} (h : Fla w v l) (h8 : l.length ≤ 2000) : Calls Try.prog 20 #[v] w (Makes w (revs l)) := by
  obtain ⟨a, n, c, rfl, h1, _⟩ := h
  have e := h1.1
  subst e
  unfold Makes
  rw [revs_length]
  exact revr_c a _ c l w h1 h8
theorem evenr_f {w : World} {v : Value} {l : List Nat} (h : Fla w v l) (h8 : l.length ≤ 2000) : Calls Try.prog 16 #[v] w (Makes w (evens l)) := by
  obtain ⟨a, n, c, rfl, h1, _⟩ := h
  have e := h1.1
  subst e
  go_enter Try.func16, Try.ntmps16
  go_wp2_with fail
  refine (every_c a _ c 0 l w h1 h8 (by decide)).mono ?_
  rintro e W ⟨v, rfl, ho, hb⟩
  go_wp2
  go_ret
  exact ⟨v, rfl, by rw [takes_length]; exact ho, hb⟩
theorem oddr_f {w : World} {v : Value} {l : List Nat} (h : Fla w v l) (h8 : l.length ≤ 2000) : Calls Try.prog 18 #[v] w (Makes w (odds l)) := by
  obtain ⟨a, n, c, rfl, h1, _⟩ := h
  have e := h1.1
  subst e
  go_enter Try.func18, Try.ntmps18
  go_wp2_with fail
  refine (every_c a _ c 1 l w h1 h8 (by decide)).mono ?_
  rintro e W ⟨v, rfl, ho, hb⟩
  go_wp2
  go_ret
  exact ⟨v, rfl, by rw [takes_length]; exact ho, hb⟩
theorem foldr_f {w : World} {v : Value} {l : List Nat} (h : Fla w v l) (h8 : l.length ≤ 2000) : Calls Try.prog 24 #[v] w (Makes w (folds l)) := by
  have H := Lib.hid h
  clear h
  go_enter Try.func24, Try.ntmps24
  go_wp2_with fail
  refine (evenr_f H.out h8).mono ?_
  rintro e w1 ⟨v1, rfl, ho1, hb1⟩
  have HO1 := Lib.hid ho1
  have HB1 := Lib.hid hb1
  clear ho1 hb1
  go_wp2_with fail
  refine (oddr_f (H.out.below HB1.out) h8).mono ?_
  rintro e w2 ⟨v2, rfl, ho2, hb2⟩
  have HO2 := Lib.hid (own_below' HO1.out hb2)
  have HB2 := Lib.hid (HB1.out.trans (hb2.mono HB1.out.size))
  have HF2 := Lib.hid (fla_own ho2)
  clear ho2 hb2 HO1
  go_wp2_with fail
  refine (revr_f HF2.out (by rw [takes_length]; omega)).mono ?_
  rintro e w3 ⟨v3, rfl, ho3, hb3⟩
  have HO3 := Lib.hid (own_below' HO2.out hb3)
  have HB3 := Lib.hid (HB2.out.trans (hb3.mono HB2.out.size))
  have HF3 := Lib.hid (fla_own ho3)
  clear ho3 hb3 HO2
  go_wp2_with (at_builtin; refine wpList_append_row rfl _ _ rfl w.heap.size v1 (evens l).length (evens l) rfl HO3.out v3 (revs (odds l)) rfl HF3.out (by rw [takes_length, takes_length, takes_length]; omega) HB3.out.size ?_; intro v' w4 ho4 hb4)
  go_ret
  exact ⟨v', rfl, by rw [List.length_append]; exact ho4, HB3.out.trans hb4⟩
end Go.Proofs.Ytajnjghbppcfdaa
