/- Mul of the document's naturals. No condition but the sizes. -/
import Derived.Test.YtemneeknemijpaaNq
import Derived.Test.YtemneeknemijpaaNm
namespace Go.Proofs.Ytemneeknemijpaa
open Go.RowKit

theorem ownsI_pos {w : World} {base len : Nat} {v : Value} {l : List Nat} (h : w.ownsRow base 3 1 v len (l.map I)) (hp : 0 < len) :
    ∃ g cap, v = .slice (some ⟨g, 0, none⟩) len cap ∧ base ≤ g ∧ g < w.heap.size ∧ (∀ k, k < len → w.cell? ⟨g, k, none⟩ = some (I (l.getD k 0))) ∧ (∀ k, w.frozen? ⟨g, k, none⟩ = false) := by
  have hl : l.length = len := by have := h.1; simpa using this
  rcases h.2 with ⟨rfl, h0⟩ | ⟨g, cap, cur, rfl, hg, hh, hr⟩
  · omega
  · refine ⟨g, cap, rfl, hg, (Array.getElem?_eq_some_iff.1 hh).1, fun k hk => ?_, fun k => ?_⟩
    · rw [World.ownsRow.cellAt h k (by omega), List.getElem?_map, List.getElem?_eq_getElem (by omega), List.getD_eq_getElem?_getD, List.getElem?_eq_getElem (by omega)]
      rfl
    · simp [World.frozen?, show w.heap[g]? = _ from hh]
theorem ownsI_set {w : World} {base g len cap : Nat} {l : List Nat} (h : w.ownsRow base 3 1 (.slice (some ⟨g, 0, none⟩) len cap) len (l.map I)) (j x : Nat) :
    (w.setCell ⟨g, j, none⟩ (I x)).ownsRow base 3 1 (.slice (some ⟨g, 0, none⟩) len cap) len ((l.set j x).map I) := by
  rw [List.map_set]; exact (h.stored j (I x)).1

set_option maxHeartbeats 2000000 in
theorem n_mul {u v : Value} {a b : Nat} {w : World} (hu : IsN w u a) (hv : IsN w v b) (ha8 : (digs a).length ≤ 2000) (hb8 : (digs b).length ≤ 2000) : Calls Try.prog 65 #[u, v] w (MakesN w (a * b)) := by
  obtain ⟨i0, hi, hz0, hz1, hz2⟩ := info_parts info3
  obtain ⟨aa, la, ca, rfl, hA, _⟩ := hu
  obtain ⟨ab, lb, cb, rfl, hB, _⟩ := hv
  have hla := hA.1
  have hlb := hB.1
  rw [hla] at ha8
  rw [hlb] at hb8
  have HA := Lib.hid hA
  have HB := Lib.hid hB
  have HAN : Hid (a < W la) := Lib.hid (by rw [← hla]; exact digs_len_lt a)
  have HBN : Hid (b < W lb) := Lib.hid (by rw [← hlb]; exact digs_len_lt b)
  obtain ⟨ll, hll⟩ : ∃ ll, la + lb = ll := ⟨_, rfl⟩
  have hwl : IntKind.i64.wrap ((la : Int) + lb) = (ll : Int) := by rw [IntKind.wrap_i64]; omega
  have hl8 : ll ≤ 4000 := by omega
  have hS0 := mulSo_zero a b la lb
  rw [hll] at hS0
  have HS0 := Lib.hid hS0
  have HLL := Lib.hid hll
  clear hA hB hla hlb hS0 hll
  go_enter Try.func65, Try.ntmps65
  go_wp2_with (at_make; go_loud (refine wpList_make_full _ rfl _ _ 33 rfl w.heap.size 3 i0 (.int .i64 0) 1 Try.underlying33 hi hz0 hz1 .i64 .i64 _ _ ll rfl rfl (by omega) (by omega) (by rw [hz2]; omega) (by unfold maxLen; omega) (Nat.le_refl _) ?_); intro w1 hown hgr)
  have hsets : (madeCells (Value.int .i64 0).cells (ll * 1)).toList = (List.replicate ll 0).map I := by
    rw [Nat.mul_one]
    apply List.ext_getElem
    · simp [madeCells]
    · intro i h1 h2
      simp [madeCells, Value.cells, Nat.mod_one]
  rw [hsets] at hown
  have HO := Lib.hid hown
  have HB1 : Hid (Below w.heap.size w w1) := Lib.hid ((Below.refl _ w).grown hgr (Nat.le_refl _) (by simp))
  clear hsets hown hgr hwl
  go_loopw [6] (fun i wr => ∃ (j : Nat) (l : List Nat), j ≤ la ∧ i = .int .i64 j ∧ Hid (MulSo a b la lb j l) ∧ Hid (wr.ownsRow w.heap.size 3 1 (.slice (some ⟨w.heap.size, 0, none⟩) ll ll) ll (l.map I)) ∧ Hid (Below w.heap.size w wr)) (fun i _ => la - (intOf i).toNat)
  case atStart => exact ⟨0, _, Nat.zero_le _, rfl, HS0, HO, HB1⟩
  case round =>
    obtain ⟨j, l, hj, rfl, HS, hz, hbl⟩ := hrel
    by_cases hjl : j < la
    · obtain ⟨ba, offa, rfl, ca1⟩ := isI_cell HA.out hjl
      rw [digs_limb] at ca1
      have CA := Lib.hid ca1
      have HS1 := Lib.hid HS.out.start
      clear ca1 HS
      go_wp2
      go_loopw [7, 8] (fun cy i wr => ∃ (k c : Nat) (l : List Nat), k ≤ lb ∧ cy = .int .i64 c ∧ i = .int .i64 k ∧ Hid (MulIn a b la lb j k c l) ∧ Hid (wr.ownsRow w.heap.size 3 1 (.slice (some ⟨w.heap.size, 0, none⟩) ll ll) ll (l.map I)) ∧ Hid (Below w.heap.size w wr)) (fun _ i _ => lb - (intOf i).toNat)
      case atStart => exact ⟨0, 0, l, Nat.zero_le _, rfl, rfl, HS1, hz, hbl⟩
      case round =>
        obtain ⟨k, c, l, hk, rfl, rfl, HS, hz, hbl⟩ := hrel
        by_cases hkl : k < lb
        · obtain ⟨p, hp⟩ : ∃ p, j + k = p := ⟨_, rfl⟩
          have hpl : p < ll := by have := HLL.out; omega
          have hwp : IntKind.i64.wrap ((j : Int) + k) = (p : Int) := by rw [IntKind.wrap_i64]; omega
          obtain ⟨g, cap2, he, hg0, hg1, hcs, hfz⟩ := ownsI_pos hz.out (by omega)
          simp only [Value.slice.injEq, Option.some.injEq, Addr.mk.injEq, and_true, true_and] at he
          obtain ⟨rfl, rfl⟩ := he
          obtain ⟨bb, offb, rfl, cb1⟩ := isI_cell (HB.out.below hbl.out) hkl
          rw [digs_limb] at cb1
          have ca1 := cell_of hbl.out CA.out
          have cx := hcs p hpl
          have hfx := hfz p
          obtain ⟨x, hx⟩ : ∃ x, l.getD p 0 = x := ⟨_, rfl⟩
          have hxp : l.getD (j + k) 0 = x := by rw [hp]; exact hx
          have HS2 := Lib.hid (HS.out.step hjl hkl hxp)
          rw [hp] at HS2
          clear hxp
          have hxl : x < 16777216 := by rw [← hx]; exact getD_lt HS.out.lt _
          have hc := HS.out.cl
          have hyal := limb_lt a j
          have hybl := limb_lt b k
          obtain ⟨ya, hya⟩ : ∃ y, limb a j = y := ⟨_, rfl⟩
          obtain ⟨yb, hyb⟩ : ∃ y, limb b k = y := ⟨_, rfl⟩
          rw [hx] at cx
          rw [hya] at ca1 hyal
          rw [hyb] at cb1 hybl
          rw [hya, hyb] at HS2
          have hml : ya * yb ≤ 16777215 * 16777215 := Nat.mul_le_mul (by omega) (by omega)
          obtain ⟨m, hm⟩ : ∃ m, ya * yb = m := ⟨_, rfl⟩
          have hmi : (ya : Int) * yb = (m : Int) := by rw [← hm]; push_cast; rfl
          rw [hm] at HS2 hml
          have hwm : IntKind.i64.wrap ((ya : Int) * yb) = (m : Int) := by rw [hmi, IntKind.wrap_i64]; clear hm hmi hwp; omega
          obtain ⟨t, ht⟩ : ∃ t, x + m + c = t := ⟨_, rfl⟩
          rw [ht] at HS2
          have hw1 : IntKind.i64.wrap ((x : Int) + m) = ((x : Int) + m) := by rw [IntKind.wrap_i64]; clear hm hmi hwm hwp ht; omega
          have hw2 : IntKind.i64.wrap ((x : Int) + m + c) = (t : Int) := by rw [IntKind.wrap_i64]; clear hm hmi hwm hwp hw1; omega
          obtain ⟨d, hd⟩ : ∃ d, t % 16777216 = d := ⟨_, rfl⟩
          obtain ⟨q, hq⟩ : ∃ q, t / 16777216 = q := ⟨_, rfl⟩
          have hdi : (t : Int) % 16777216 = (d : Int) := by clear hm hmi hwm hwp hw1 hw2; omega
          have hqi : (t : Int) / 16777216 = (q : Int) := by clear hm hmi hwm hwp hw1 hw2; omega
          have htl : t ≤ 300000000000000 := by clear hm hmi hwm hwp hw1 hw2; omega
          rw [hd, hq] at HS2
          have HP := Lib.hid hp
          clear hcs hfz hx hya hyb hm hmi ht hd hq HS hp
          go_wp2
          go_quiet (fail)
          obtain ⟨W', hW⟩ : ∃ W', wr.drewN nq = W' := ⟨_, rfl⟩
          have hzq : Hid (W'.ownsRow w.heap.size 3 1 (.slice (some ⟨w.heap.size, 0, none⟩) ll ll) ll (l.map I)) := by rw [← hW]; exact hz
          have HBW : Hid (Below w.heap.size w W') := by rw [← hW]; exact Lib.hid (below_drewN hbl.out _)
          have cx' : W'.cell? ⟨w.heap.size, p, none⟩ = some (I x) := by rw [← hW]; exact cx
          have hfx' : W'.frozen? ⟨w.heap.size, p, none⟩ = false := by rw [← hW]; exact hfx
          rw [hW]
          clear hW hz hbl ca1 cb1 cx hfx hwm hw1 hw2
          have hz3 := Lib.hid (ownsI_set hzq.out p d)
          have hb3 : Hid (Below w.heap.size w (W'.setCell ⟨w.heap.size, p, none⟩ (I d))) := Lib.hid (HBW.out.setCell (by show _ ≤ _; exact Nat.le_refl _) _)
          go_wp2
          go_roundw
          case rel => exact ⟨k + 1, q, _, by omega, rfl, by go_num, HS2, hz3, hb3⟩
          case measure => simp [intOf]; omega
        · obtain rfl : k = lb := by omega
          obtain ⟨p, hp⟩ : ∃ p, j + k = p := ⟨_, rfl⟩
          have hpl : p < ll := by have := HLL.out; omega
          have hwp : IntKind.i64.wrap ((j : Int) + k) = (p : Int) := by rw [IntKind.wrap_i64]; omega
          obtain ⟨g, cap2, he, hg0, hg1, hcs, hfz⟩ := ownsI_pos hz.out (by omega)
          simp only [Value.slice.injEq, Option.some.injEq, Addr.mk.injEq, and_true, true_and] at he
          obtain ⟨rfl, rfl⟩ := he
          have cx := hcs p hpl
          have hfx := hfz p
          obtain ⟨x, hx⟩ : ∃ x, l.getD p 0 = x := ⟨_, rfl⟩
          rw [hx] at cx
          have HS2 := Lib.hid (HS.out.end hjl HBN.out)
          rw [hp] at HS2
          clear hcs hfz hx hp HS
          have hz3 := Lib.hid (ownsI_set hz.out p c)
          have hb3 : Hid (Below w.heap.size w (wr.setCell ⟨w.heap.size, p, none⟩ (I c))) := Lib.hid (hbl.out.setCell (by show _ ≤ _; exact Nat.le_refl _) _)
          go_wp2
          go_roundw
          case rel => exact ⟨j + 1, _, by omega, by go_num, HS2, hz3, hb3⟩
          case measure => simp [intOf]; omega
    · obtain rfl : j = la := by omega
      have HE := Lib.hid (HS.out.end HAN.out)
      have HLT := Lib.hid HS.out.lt
      have HLN : Hid (l.length ≤ 5000) := Lib.hid (by rw [HS.out.len, HLL.out]; omega)
      clear HS
      go_wp2_with fail
      refine (n_trim (ila_own hz.out) HLT.out HLN.out).mono ?_
      rintro e w2 hmk
      rw [HE.out] at hmk
      obtain ⟨v, rfl, hv, hb2⟩ := hmk.makesN
      have HV2 := Lib.hid hv
      have HBB := Lib.hid hb2
      clear hv hb2 hmk
      go_wp2
      go_ret
      exact ⟨_, rfl, HV2.out, hbl.out.trans (HBB.out.mono hbl.out.size)⟩
end Go.Proofs.Ytemneeknemijpaa
