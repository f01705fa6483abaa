/- The document's answer to layer 10: Signs, Zip. -/
import Derived.Test.YtajnjghbppcfdaaRefs
import Derived.Deep.RegionHeld3
namespace Go.Proofs.Ytajnjghbppcfdaa
open Go.RowKit Go.Shelf

set_option maxHeartbeats 1000000 in
theorem signsr_c (a : Option Addr) (len cap : Nat) (l : List Nat) (w : World) (h : IsFl w a len l) (h8 : len ≤ 2000) : Calls Try.prog 22 #[.slice a len cap] w fun e W' => ∃ v, e = .returned v ∧ W'.ownsRow w.heap.size 35 1 v len ((signs (fun k => k % 2 == 1) l).map F) ∧ Below w.heap.size w W' := by
  have HA := Lib.hid h
  have hll := h.1
  clear h
  go_enter Try.func22, Try.ntmps22
  go_wp2
  go_loopw [3, 4] (fun s i wr => ∃ k : Nat, k ≤ len ∧ i = .int .i64 k ∧ Hid (wr.ownsRow w.heap.size 35 1 s k (((signs (fun k => k % 2 == 1) l).take k).map F)) ∧ Hid (Below w.heap.size w wr)) (fun _ i _ => len - (intOf i).toNat)
  case atStart => exact ⟨0, Nat.zero_le _, rfl, Lib.hid (World.ownsRow_nil _ _ _ _), Lib.hid (Below.refl _ _)⟩
  case round =>
    obtain ⟨k, hk, rfl, hz, hbl⟩ := hrel
    by_cases hlt : k < len
    · have hs := signs_succ l k (by omega) (fun k => k % 2 == 1)
      obtain ⟨y, hy⟩ : ∃ y, l.getD k 0 = y := ⟨_, rfl⟩
      rw [hy] at hs
      obtain ⟨b0, off0, rfl, hc0⟩ : ∃ b off, a = some ⟨b, off, none⟩ ∧ w.cell? ⟨b, off + k, none⟩ = some (F y) := by
        rcases HA.out.2 with h | ⟨b, off, h, hc⟩
        · omega
        · exact ⟨b, off, h, by rw [← hy]; exact hc _ (by omega)⟩
      have hc1 := (hbl.out.cell (p := ⟨b0, off0 + k, none⟩) (cell_lt hc0)).trans hc0
      have hql : (k : Int) < (len : Int) := by omega
      clear hy hc0
      by_cases hp : k % 2 = 1
      · have hpk : (k : Int).tmod 2 = 1 := by rw [Int.tmod_eq_emod_of_nonneg (by omega)]; omega
        rw [if_pos (by rw [beq_iff_eq]; exact hp)] at hs
        have HS := Lib.hid hs
        clear hs hp
        go_wp2_with (at_builtin; refine wpList_append_row rfl (.tmp 14) (.tmp 20) rfl w.heap.size _ k _ rfl (hz.out.alloc _) _ [Fl.fneg y] rfl (fla_one _ (Fl.fneg y) _ rfl) (by simp; omega) (Nat.le_trans hbl.out.size (by simp)) ?_; intro v' w' ho hb)
        go_roundw
        case rel =>
          refine ⟨k + 1, by omega, by go_num, Lib.hid ?_, Lib.hid ((hbl.out.alloc hbl.out.size _).trans hb)⟩
          rw [HS.out]
          exact ho
        case measure => simp [intOf] <;> omega
      · have hpk : (k : Int).tmod 2 = 0 := by rw [Int.tmod_eq_emod_of_nonneg (by omega)]; omega
        rw [if_neg (by rw [beq_iff_eq]; exact hp)] at hs
        have HS := Lib.hid hs
        clear hs hp
        go_wp2_with (at_builtin; refine wpList_append_row rfl (.tmp 22) (.tmp 27) rfl w.heap.size _ k _ rfl (hz.out.alloc _) _ [y] rfl (fla_one _ y _ rfl) (by simp; omega) (Nat.le_trans hbl.out.size (by simp)) ?_; intro v' w' ho hb)
        go_roundw
        case rel =>
          refine ⟨k + 1, by omega, by go_num, Lib.hid ?_, Lib.hid ((hbl.out.alloc hbl.out.size _).trans hb)⟩
          rw [HS.out]
          exact ho
        case measure => simp [intOf] <;> omega
    · have hk2 : k = len := by omega
      subst hk2
      have hz2 := hz.out
      rw [List.take_of_length_le (by rw [signs_length]; omega)] at hz2
      have HZ2 := Lib.hid hz2
      clear hz2 hz
      go_wp2
      go_ret
      exact ⟨_, rfl, HZ2.out, hbl.out⟩
theorem signsr_f {w : World} {v : Value} {l : List Nat} (h : Fla w v l) (h8 : l.length ≤ 2000) : Calls Try.prog 22 #[v] w (Makes w (signs (fun k => k % 2 == 1) l)) := by
  obtain ⟨a, n, c, rfl, h1, _⟩ := h
  have e := h1.1
  subst e
  unfold Makes
  rw [signs_length]
  exact signsr_c a _ c l w h1 h8

theorem zips_take1 (a b : List Nat) (k : Nat) (h : 2 * k < a.length + b.length) : (zips a b).take (2 * k + 1) = (zips a b).take (2 * k) ++ [a.getD k 0] := by
  rw [List.take_succ_eq_append_getElem (by rw [zips_length]; exact h)]
  simp [zips]
theorem zips_take2 (a b : List Nat) (k : Nat) (h : 2 * k + 1 < a.length + b.length) : (zips a b).take (2 * k + 2) = (zips a b).take (2 * k + 1) ++ [b.getD k 0] := by
  rw [List.take_succ_eq_append_getElem (by rw [zips_length]; exact h)]
  have h1 : (2 * k + 1) % 2 = 1 := by omega
  have h2 : (2 * k + 1) / 2 = k := by omega
  simp [zips, h1, h2]

set_option maxHeartbeats 2000000 in
theorem zipr_eq (aa ab : Option Addr) (la lb ca cb : Nat) (a b : List Nat) (w : World) (ha : IsFl w aa la a) (hb : IsFl w ab lb b) (h8 : la ≤ 2000) (_h9 : lb ≤ 2000) (hd : la = lb) :
    Calls Try.prog 11 #[.slice aa la ca, .slice ab lb cb] w fun e W' => ∃ v, e = .returned (.tuple #[v, .bool true]) ∧ W'.ownsRow w.heap.size 35 1 v (la + lb) ((zips a b).map F) ∧ Below w.heap.size w W' := by
  have hla := ha.1
  have hlb := hb.1
  have HA := Lib.hid ha
  have HB := Lib.hid hb
  have HD := Lib.hid hd
  have hq1 : ((la : Int) != (lb : Int)) = false := by rw [hd]; simp
  clear ha hb hd
  go_enter Try.func11, Try.ntmps11
  go_wp2
  go_loopw [6, 7] (fun s i wr => ∃ k m : Nat, k ≤ la ∧ m = min (2 * k) (la + lb) ∧ i = .int .i64 k ∧ Hid (wr.ownsRow w.heap.size 35 1 s m (((zips a b).take m).map F)) ∧ Hid (Below w.heap.size w wr)) (fun _ i _ => la - (intOf i).toNat)
  case atStart => exact ⟨0, 0, Nat.zero_le _, by simp, rfl, Lib.hid (World.ownsRow_nil _ _ _ _), Lib.hid (Below.refl _ _)⟩
  case round =>
    obtain ⟨k, m, hk, hm, rfl, hz, hbl⟩ := hrel
    by_cases hlt : k < la
    · have hm2 : m = 2 * k := by have := HD.out; omega
      subst hm2
      obtain ⟨y, hy⟩ : ∃ y, a.getD k 0 = y := ⟨_, rfl⟩
      have ht1 := zips_take1 a b k (by have := HD.out; omega)
      rw [hy] at ht1
      obtain ⟨b0, off0, rfl, hc0⟩ : ∃ b off, aa = some ⟨b, off, none⟩ ∧ w.cell? ⟨b, off + k, none⟩ = some (F y) := by
        rcases HA.out.2 with h | ⟨b, off, h, hc⟩
        · omega
        · exact ⟨b, off, h, by rw [← hy]; exact hc _ (by omega)⟩
      have hc1 := (hbl.out.cell (p := ⟨b0, off0 + k, none⟩) (cell_lt hc0)).trans hc0
      have hql : (k : Int) < (la : Int) := by omega
      have HT1 := Lib.hid ht1
      clear hy hc0 ht1 hm
      by_cases hlt2 : k < lb
      · obtain ⟨z, hzz⟩ : ∃ z, b.getD k 0 = z := ⟨_, rfl⟩
        have ht2 := zips_take2 a b k (by have := HD.out; omega)
        rw [hzz] at ht2
        obtain ⟨b1, off1, rfl, hd0⟩ : ∃ b_ off, ab = some ⟨b_, off, none⟩ ∧ w.cell? ⟨b_, off + k, none⟩ = some (F z) := by
          rcases HB.out.2 with h | ⟨b_, off, h, hc⟩
          · omega
          · exact ⟨b_, off, h, by rw [← hzz]; exact hc _ (by omega)⟩
        have HC := Lib.hid hd0
        have hql2 : (k : Int) < (lb : Int) := by omega
        have HT2 := Lib.hid ht2
        clear hzz hd0 ht2
        go_wp2_with (first | (at_builtin; refine wpList_append_row rfl (.tmp 27) (.tmp 32) rfl w.heap.size _ (2 * k) _ rfl (hz.out.alloc _) _ [y] rfl (fla_one _ y _ rfl) (by simp; omega) (Nat.le_trans hbl.out.size (by simp)) ?_; intro v1 w1 ho1 hb1; have HB1 := Lib.hid ((hbl.out.alloc hbl.out.size _).trans hb1); have hcz := (HB1.out.cell (p := ⟨b1, off1 + k, none⟩) (cell_lt HC.out)).trans HC.out; have HO1 := Lib.hid ho1; clear ho1 hb1) | (at_builtin; refine wpList_append_row rfl (.tmp 38) (.tmp 43) rfl w.heap.size _ (2 * k + 1) _ rfl (HO1.out.alloc _) _ [z] rfl (fla_one _ z _ rfl) (by simp; omega) (Nat.le_trans HB1.out.size (by simp)) ?_; intro v2 w2 ho2 hb2; have HB2 := Lib.hid ((HB1.out.alloc HB1.out.size _).trans hb2); have HO2 := Lib.hid ho2; clear ho2 hb2))
        go_roundw
        case rel =>
          refine ⟨k + 1, 2 * k + 2, by omega, by have := HD.out; omega, by go_num, Lib.hid ?_, HB2⟩
          rw [HT2.out, HT1.out]
          exact HO2.out
        case measure => simp [intOf] <;> omega
      · have hql2 : ¬ (k : Int) < (lb : Int) := by omega
        go_wp2_with (at_builtin; refine wpList_append_row rfl (.tmp 27) (.tmp 32) rfl w.heap.size _ (2 * k) _ rfl (hz.out.alloc _) _ [y] rfl (fla_one _ y _ rfl) (by simp; omega) (Nat.le_trans hbl.out.size (by simp)) ?_; intro v1 w1 ho1 hb1; have HB1 := Lib.hid ((hbl.out.alloc hbl.out.size _).trans hb1); have HO1 := Lib.hid ho1; clear ho1 hb1)
        go_roundw
        case rel =>
          refine ⟨k + 1, 2 * k + 1, by omega, by have := HD.out; omega, by go_num, Lib.hid ?_, HB1⟩
          rw [HT1.out]
          exact HO1.out
        case measure => simp [intOf] <;> omega
    · have hk2 : k = la := by omega
      have hm2 : m = la + lb := by have := HD.out; omega
      subst hk2
      subst hm2
      have hz2 := hz.out
      rw [List.take_of_length_le (by rw [zips_length]; omega)] at hz2
      have HZ2 := Lib.hid hz2
      clear hz2 hz
      go_wp2
      go_ret2
      exact ⟨_, rfl, HZ2.out, hbl.out⟩

set_option maxHeartbeats 2000000 in
theorem zipr_suc (aa ab : Option Addr) (la lb ca cb : Nat) (a b : List Nat) (w : World) (ha : IsFl w aa la a) (hb : IsFl w ab lb b) (h8 : la ≤ 2000) (h9 : lb ≤ 2000) (hd : la = lb + 1) :
    Calls Try.prog 11 #[.slice aa la ca, .slice ab lb cb] w fun e W' => ∃ v, e = .returned (.tuple #[v, .bool true]) ∧ W'.ownsRow w.heap.size 35 1 v (la + lb) ((zips a b).map F) ∧ Below w.heap.size w W' := by
  have hla := ha.1
  have hlb := hb.1
  have HA := Lib.hid ha
  have HB := Lib.hid hb
  have HD := Lib.hid hd
  have hq1 : ((la : Int) != (lb : Int)) = true := by rw [bne_iff_ne]; omega
  have hq2 : ((la : Int) != (lb : Int) + 1) = false := by rw [bne_eq_false_iff_eq]; omega
  clear ha hb hd
  go_enter Try.func11, Try.ntmps11
  go_wp2
  go_loopw [6, 7] (fun s i wr => ∃ k m : Nat, k ≤ la ∧ m = min (2 * k) (la + lb) ∧ i = .int .i64 k ∧ Hid (wr.ownsRow w.heap.size 35 1 s m (((zips a b).take m).map F)) ∧ Hid (Below w.heap.size w wr)) (fun _ i _ => la - (intOf i).toNat)
  case atStart => exact ⟨0, 0, Nat.zero_le _, by simp, rfl, Lib.hid (World.ownsRow_nil _ _ _ _), Lib.hid (Below.refl _ _)⟩
  case round =>
    obtain ⟨k, m, hk, hm, rfl, hz, hbl⟩ := hrel
    by_cases hlt : k < la
    · have hm2 : m = 2 * k := by have := HD.out; omega
      subst hm2
      obtain ⟨y, hy⟩ : ∃ y, a.getD k 0 = y := ⟨_, rfl⟩
      have ht1 := zips_take1 a b k (by have := HD.out; omega)
      rw [hy] at ht1
      obtain ⟨b0, off0, rfl, hc0⟩ : ∃ b off, aa = some ⟨b, off, none⟩ ∧ w.cell? ⟨b, off + k, none⟩ = some (F y) := by
        rcases HA.out.2 with h | ⟨b, off, h, hc⟩
        · omega
        · exact ⟨b, off, h, by rw [← hy]; exact hc _ (by omega)⟩
      have hc1 := (hbl.out.cell (p := ⟨b0, off0 + k, none⟩) (cell_lt hc0)).trans hc0
      have hql : (k : Int) < (la : Int) := by omega
      have HT1 := Lib.hid ht1
      clear hy hc0 ht1 hm
      by_cases hlt2 : k < lb
      · obtain ⟨z, hzz⟩ : ∃ z, b.getD k 0 = z := ⟨_, rfl⟩
        have ht2 := zips_take2 a b k (by have := HD.out; omega)
        rw [hzz] at ht2
        obtain ⟨b1, off1, rfl, hd0⟩ : ∃ b_ off, ab = some ⟨b_, off, none⟩ ∧ w.cell? ⟨b_, off + k, none⟩ = some (F z) := by
          rcases HB.out.2 with h | ⟨b_, off, h, hc⟩
          · omega
          · exact ⟨b_, off, h, by rw [← hzz]; exact hc _ (by omega)⟩
        have HC := Lib.hid hd0
        have hql2 : (k : Int) < (lb : Int) := by omega
        have HT2 := Lib.hid ht2
        clear hzz hd0 ht2
        go_wp2_with (first | (at_builtin; refine wpList_append_row rfl (.tmp 27) (.tmp 32) rfl w.heap.size _ (2 * k) _ rfl (hz.out.alloc _) _ [y] rfl (fla_one _ y _ rfl) (by simp; omega) (Nat.le_trans hbl.out.size (by simp)) ?_; intro v1 w1 ho1 hb1; have HB1 := Lib.hid ((hbl.out.alloc hbl.out.size _).trans hb1); have hcz := (HB1.out.cell (p := ⟨b1, off1 + k, none⟩) (cell_lt HC.out)).trans HC.out; have HO1 := Lib.hid ho1; clear ho1 hb1) | (at_builtin; refine wpList_append_row rfl (.tmp 38) (.tmp 43) rfl w.heap.size _ (2 * k + 1) _ rfl (HO1.out.alloc _) _ [z] rfl (fla_one _ z _ rfl) (by simp; omega) (Nat.le_trans HB1.out.size (by simp)) ?_; intro v2 w2 ho2 hb2; have HB2 := Lib.hid ((HB1.out.alloc HB1.out.size _).trans hb2); have HO2 := Lib.hid ho2; clear ho2 hb2))
        go_roundw
        case rel =>
          refine ⟨k + 1, 2 * k + 2, by omega, by have := HD.out; omega, by go_num, Lib.hid ?_, HB2⟩
          rw [HT2.out, HT1.out]
          exact HO2.out
        case measure => simp [intOf] <;> omega
      · have hql2 : ¬ (k : Int) < (lb : Int) := by omega
        go_wp2_with (at_builtin; refine wpList_append_row rfl (.tmp 27) (.tmp 32) rfl w.heap.size _ (2 * k) _ rfl (hz.out.alloc _) _ [y] rfl (fla_one _ y _ rfl) (by simp; omega) (Nat.le_trans hbl.out.size (by simp)) ?_; intro v1 w1 ho1 hb1; have HB1 := Lib.hid ((hbl.out.alloc hbl.out.size _).trans hb1); have HO1 := Lib.hid ho1; clear ho1 hb1)
        go_roundw
        case rel =>
          refine ⟨k + 1, 2 * k + 1, by omega, by have := HD.out; omega, by go_num, Lib.hid ?_, HB1⟩
          rw [HT1.out]
          exact HO1.out
        case measure => simp [intOf] <;> omega
    · have hk2 : k = la := by omega
      have hm2 : m = la + lb := by have := HD.out; omega
      subst hk2
      subst hm2
      have hz2 := hz.out
      rw [List.take_of_length_le (by rw [zips_length]; omega)] at hz2
      have HZ2 := Lib.hid hz2
      clear hz2 hz
      go_wp2
      go_ret2
      exact ⟨_, rfl, HZ2.out, hbl.out⟩

set_option maxHeartbeats 1000000 in
theorem zipr_no (aa ab : Option Addr) (la lb ca cb : Nat) (w : World) (_h8 : la ≤ 2000) (h9 : lb ≤ 2000) (hd : ¬ (la = lb ∨ la = lb + 1)) :
    Calls Try.prog 11 #[.slice aa la ca, .slice ab lb cb] w fun e W' => e = .returned (.tuple #[.slice none 0 0, .bool false]) ∧ W' = w := by
  have hq1 : ((la : Int) != (lb : Int)) = true := by rw [bne_iff_ne]; omega
  have hq2 : ((la : Int) != (lb : Int) + 1) = true := by rw [bne_iff_ne]; omega
  clear hd
  go_enter Try.func11, Try.ntmps11
  go_wp2
  go_ret2
  exact ⟨rfl, rfl⟩
theorem zipr_f {w : World} {u v : Value} {l m : List Nat} (h : Fla w u l) (h' : Fla w v m) (h8 : l.length ≤ 2000) (h9 : m.length ≤ 2000) (hd : l.length = m.length ∨ l.length = m.length + 1) : Calls Try.prog 11 #[u, v] w (Makes2 w (zips l m)) := by
  obtain ⟨a, n, c, rfl, h1, _⟩ := h
  obtain ⟨a', n', c', rfl, h1', _⟩ := h'
  have e := h1.1
  have e' := h1'.1
  subst e
  subst e'
  unfold Makes2
  rw [zips_length]
  rcases hd with hd | hd
  · exact zipr_eq a a' _ _ c c' l m w h1 h1' h8 h9 hd
  · exact zipr_suc a a' _ _ c c' l m w h1 h1' h8 h9 hd

set_option maxHeartbeats 1000000 in
theorem unfoldr_f0 {w : World} {a : Option Addr} {n c : Nat} {l : List Nat} (h : IsFl w a n l) (h3 : a = none → n = 0 ∧ c = 0) (hn : n ≤ c) (h8 : n ≤ 2000) : Calls Try.prog 26 #[.slice a n c] w (Makes w (unfolds l)) := by
  have hll := h.1
  obtain ⟨m, hm⟩ : ∃ m, (n + 1) / 2 = m := ⟨_, rfl⟩
  have hmn : m ≤ n := by omega
  have hmc : (m : Int) ≤ (c : Int) := by omega
  have hmn' : (m : Int) ≤ (n : Int) := by omega
  have hq : ((n : Int) + 1).tdiv 2 = (m : Int) := by rw [Int.tdiv_eq_ediv_of_nonneg (by omega)]; omega
  have hu : Hid (unfolds l = zips (seg l 0 m) (revs (seg l m (n - m)))) := Lib.hid (by unfold unfolds; rw [hll, hm])
  have hA := fla_sliced h h3 hn 0 m (Nat.zero_le _) hmn
  have hB := fla_sliced h h3 hn m n hmn (Nat.le_refl _)
  have hA1 : Fla w (.slice a m c) (seg l 0 m) := by
    simp only [sliced, Nat.zero_mul, Nat.sub_zero] at hA
    by_cases hc0 : c = 0
    · rw [if_pos hc0] at hA; exact hA
    · rw [if_neg hc0] at hA
      cases a with
      | none => exact hA
      | some p => exact hA
  have hB1 : Fla w (.slice (if c = m then a else Option.map (fun x => x.add m) a) (n - m) (c - m)) (seg l m (n - m)) := by
    simp only [sliced, Nat.mul_one] at hB
    exact hB
  have HA := Lib.hid hA1
  have HH := Lib.hid h
  have HN := Lib.hid h3
  clear h h3 hA hB hA1
  by_cases hcm : c = m
  · have hnm : n = m := by omega
    have hB2 : Fla w (.slice a 0 0) (seg l m (n - m)) := by
      have := hB1
      rw [if_pos hcm, hcm, hnm, Nat.sub_self] at this
      rw [hnm, Nat.sub_self]
      exact this
    have HB := Lib.hid hB2
    clear hB1 hB2
    subst hcm
    subst hnm
    clear hq hmn hmc hmn' hn
    obtain rfl | rfl : n = 0 ∨ n = 1 := by omega
    · clear hm
      go_enter Try.func26, Try.ntmps26
      go_wp2
      go_region_held3 (fun w' => True) (exact trivial)
        (first | (go_at_call 20; refine (revr_f (HB.out.below (Below.drew (Below.refl _ _))) (by rw [takes_length]; omega)).mono ?_; rintro e w2 ⟨v2, rfl, ho2, hb2⟩; obtain ⟨o2, c2, rfl⟩ := ownsRow_isSlice ho2; have HF2 := Lib.hid (fla_own ho2); have HB2 := Lib.hid hb2; clear ho2 hb2) | (go_at_call 11; refine (zipr_f (HA.out.below (Below.trans (Below.drew (Below.refl _ _)) HB2.out)) HF2.out (by rw [takes_length]; omega) (by rw [takes_length, takes_length]; omega) (by rw [takes_length, takes_length, takes_length]; omega)).mono ?_; rintro e w3 ⟨v3, rfl, ho3, hb3⟩; obtain ⟨o3, c3, rfl⟩ := ownsRow_isSlice ho3; have HO3 := Lib.hid ho3; have HB3 := Lib.hid hb3; clear ho3 hb3))
      go_wp2
      go_ret
      have hle : w.heap.size ≤ w2.heap.size := HB2.out.size
      exact ⟨_, rfl, by rw [hu.out]; exact ownsRow_base HO3.out hle, ((Below.refl _ _).drew).trans (HB2.out.trans (HB3.out.mono hle))⟩
    · clear hm
      go_enter Try.func26, Try.ntmps26
      go_wp2
      go_region_held3 (fun w' => True) (exact trivial)
        (first | (go_at_call 20; refine (revr_f (HB.out.below (Below.drew (Below.refl _ _))) (by rw [takes_length]; omega)).mono ?_; rintro e w2 ⟨v2, rfl, ho2, hb2⟩; obtain ⟨o2, c2, rfl⟩ := ownsRow_isSlice ho2; have HF2 := Lib.hid (fla_own ho2); have HB2 := Lib.hid hb2; clear ho2 hb2) | (go_at_call 11; refine (zipr_f (HA.out.below (Below.trans (Below.drew (Below.refl _ _)) HB2.out)) HF2.out (by rw [takes_length]; omega) (by rw [takes_length, takes_length]; omega) (by rw [takes_length, takes_length, takes_length]; omega)).mono ?_; rintro e w3 ⟨v3, rfl, ho3, hb3⟩; obtain ⟨o3, c3, rfl⟩ := ownsRow_isSlice ho3; have HO3 := Lib.hid ho3; have HB3 := Lib.hid hb3; clear ho3 hb3))
      go_wp2
      go_ret
      have hle : w.heap.size ≤ w2.heap.size := HB2.out.size
      exact ⟨_, rfl, by rw [hu.out]; exact ownsRow_base HO3.out hle, ((Below.refl _ _).drew).trans (HB2.out.trans (HB3.out.mono hle))⟩
  · have hB2 : Fla w (.slice (Option.map (fun x => x.add m) a) (n - m) (c - m)) (seg l m (n - m)) := by
      have := hB1
      rw [if_neg hcm] at this
      exact this
    have HB := Lib.hid hB2
    clear hB1 hB2
    go_enter Try.func26, Try.ntmps26
    go_wp2
    go_region_held3 (fun w' => True) (exact trivial)
      (first | (go_at_call 20; refine (revr_f (HB.out.below (Below.drew (Below.refl _ _))) (by rw [takes_length]; omega)).mono ?_; rintro e w2 ⟨v2, rfl, ho2, hb2⟩; obtain ⟨o2, c2, rfl⟩ := ownsRow_isSlice ho2; have HF2 := Lib.hid (fla_own ho2); have HB2 := Lib.hid hb2; clear ho2 hb2) | (go_at_call 11; refine (zipr_f (HA.out.below (Below.trans (Below.drew (Below.refl _ _)) HB2.out)) HF2.out (by rw [takes_length]; omega) (by rw [takes_length, takes_length]; omega) (by rw [takes_length, takes_length, takes_length]; omega)).mono ?_; rintro e w3 ⟨v3, rfl, ho3, hb3⟩; obtain ⟨o3, c3, rfl⟩ := ownsRow_isSlice ho3; have HO3 := Lib.hid ho3; have HB3 := Lib.hid hb3; clear ho3 hb3))
    go_wp2
    go_ret
    have hle : w.heap.size ≤ w2.heap.size := HB2.out.size
    exact ⟨_, rfl, by rw [hu.out]; exact ownsRow_base HO3.out hle, ((Below.refl _ _).drew).trans (HB2.out.trans (HB3.out.mono hle))⟩

theorem unfoldr_f {w : World} {v : Value} {l : List Nat} (h : Fla w v l) (h8 : l.length ≤ 2000) : Calls Try.prog 26 #[v] w (Makes w (unfolds l)) := by
  obtain ⟨a, n, c, rfl, h1, h2, h3⟩ := h
  exact unfoldr_f0 h1 h2 h3 (by rw [← h1.1]; exact h8)
end Go.Proofs.Ytajnjghbppcfdaa
