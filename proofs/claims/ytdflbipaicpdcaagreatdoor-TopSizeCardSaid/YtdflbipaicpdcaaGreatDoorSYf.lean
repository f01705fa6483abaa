/- F.Of of the document: a finite float as a dyadic number. The document's naturals and dyadic numbers: what is made lies in a new row. Variables that hold dyadic numbers, for the laws' walks. No condition. -/
import Derived.Test.YtdflbipaicpdcaaGreatDoorSDa
import Derived.Test.YtdflbipaicpdcaaGreatDoorSYz
import Derived.Test.YtdflbipaicpdcaaGreatDoorSAa
set_option linter.unusedVariables false
set_option linter.unusedSimpArgs false
namespace Go.Proofs.YtdflbipaicpdcaaGreatDoor
open Go.RowKit
set_option maxRecDepth 100000

namespace Fl
/-- a finite float's value in units of the least; 0 of others -/
def VV (x : Nat) : Int := if rg x < 2047 * 2 ^ 52 then V x else 0
def isFin (x : Nat) : Bool := decide (rg x < 2047 * 2 ^ 52)
theorem VV_fin {x : Nat} (h : rg x < 2047 * 2 ^ 52) : VV x = V x := by unfold VV; rw [if_pos h]
theorem VV_inf {x : Nat} (h : ¬ rg x < 2047 * 2 ^ 52) : VV x = 0 := by unfold VV; rw [if_neg h]
theorem V_sgz (x : Nat) : V x = sgz (sg x) (mg x) := rfl
theorem and2047u (n : Nat) (h : n < 18446744073709551616) : bits .and .u64 (n : Int) 2047 = ((n % 2048 : Nat) : Int) := by
  have h1 := u64_and_nat n 2047 (by simpa using h) (by decide)
  have e : ((2047 : Nat) : Int) = 2047 := rfl
  rw [e] at h1
  rw [h1]
  congr 1
  exact Nat.and_two_pow_sub_one_eq_mod n 11
theorem and52u (n : Nat) (h : n < 18446744073709551616) : bits .and .u64 (n : Int) 4503599627370495 = ((n % 4503599627370496 : Nat) : Int) := by
  have h1 := u64_and_nat n 4503599627370495 (by simpa using h) (by decide)
  have e : ((4503599627370495 : Nat) : Int) = 4503599627370495 := rfl
  rw [e] at h1
  rw [h1]
  congr 1
  exact Nat.and_two_pow_sub_one_eq_mod n 52
end Fl

theorem run_bits' (n : Nat) (w : World) : (callFunc 153 #[.float .f64 n]).run Tryz.prog w = .ok (.value (.int .u64 n)) w := by kernel_rfl
end Go.Proofs.YtdflbipaicpdcaaGreatDoor
namespace Go.Proofs.YtdflbipaicpdcaaGreatDoor
open Go.RowKit
set_option maxRecDepth 100000

/-- a row that is new since w -/
def NewV (w : World) (v : Value) : Prop := ∀ a l c, v = .slice (some a) l c → w.heap.size ≤ a.block
def MakesNf (w : World) (n : Nat) (e : Ending) (W' : World) : Prop := ∃ v, e = .returned v ∧ IsN W' v n ∧ Below w.heap.size w W' ∧ Hid (NewV w v)
theorem NewV.mono {w w' : World} {v : Value} (h : NewV w' v) (k : w.heap.size ≤ w'.heap.size) : NewV w v := fun a l c e => Nat.le_trans k (h a l c e)
theorem newV_nil (w : World) : NewV w (.slice none 0 0) := fun a l c e => by cases e
theorem MakesI.makesNf {w : World} {n : Nat} {e : Ending} {W' : World} (h : MakesI w (digs n) e W') : MakesNf w n e W' := by
  obtain ⟨v, h1, h2, h3⟩ := h
  refine ⟨v, h1, ila_own h2, h3, Lib.hid fun a l c e => ?_⟩
  rcases h2.2 with ⟨rfl, _⟩ | ⟨g, cap, cur, rfl, hb, _⟩
  · cases e
  · cases e; exact hb
theorem n_trim_f {u : Value} {n : Nat} {w : World} (hu : IsN w u n) (h8 : (digs n).length ≤ 5000) : Calls Tryz.prog 81 #[u] w (MakesNf w n) :=
  (n_trim hu (digs_lt n) h8).mono fun e w' h => by rw [num_digs] at h; exact h.makesNf

theorem n_shr_le_f {u : Value} {n : Nat} {w : World} (hu : IsN w u n) (ha8 : (digs n).length ≤ 2000) (k : Int) (hk : k ≤ 0) : Calls Tryz.prog 79 #[u, .int .i64 k] w (MakesNf w n) := by
  have HU := Lib.hid hu
  obtain ⟨aa, la, ca, rfl, hA, _⟩ := hu
  have hl := hA.1
  rw [hl] at ha8
  have HL := Lib.hid hl
  clear hA hl
  go_enter Tryz.func79, Tryz.ntmps79
  go_wp2_with fail
  refine (n_trim_f HU.out (by rw [HL.out]; omega)).mono ?_
  rintro e w1 ⟨v, rfl, hv, hb, hnew⟩
  have HV := Lib.hid hv
  have HB := Lib.hid hb
  clear hv hb
  go_wp2
  go_ret
  exact ⟨_, rfl, HV.out, HB.out, hnew⟩


set_option maxHeartbeats 2000000 in
theorem n_shr_pos_f {u : Value} {n : Nat} {w : World} (hu : IsN w u n) (ha8 : (digs n).length ≤ 2000) (k : Nat) (hk : 0 < k) (hk8 : k ≤ 20000) : Calls Tryz.prog 79 #[u, .int .i64 k] w (MakesNf w (n / 2 ^ k)) := by
  obtain ⟨aa, la, ca, rfl, hA, _⟩ := hu
  have hla := hA.1
  rw [hla] at ha8
  have HA := Lib.hid hA
  have HLA := Lib.hid hla
  have HN : Hid (n < W la) := Lib.hid (by rw [← hla]; exact digs_len_lt n)
  obtain ⟨z, hz⟩ : ∃ z, k / 24 = z := ⟨_, rfl⟩
  obtain ⟨s, hs⟩ : ∃ s, k % 24 = s := ⟨_, rfl⟩
  have hzi : (k : Int) / 24 = (z : Int) := by omega
  have hsi : (k : Int) % 24 = (s : Int) := by omega
  have hs24 : (s : Int) < 24 := by omega
  have hs0 : (0 : Int) ≤ s := by omega
  have hz8 : z ≤ 1000 := by omega
  have HK : Hid (24 * z + s = k) := Lib.hid (by omega)
  obtain ⟨m, hm⟩ : ∃ m, n / 2 ^ k = m := ⟨_, rfl⟩
  rw [hm]
  have HLM : Hid (∀ j, limb m j = limb n (z + j) / 2 ^ s + limb n (z + j + 1) % 2 ^ s * (16777216 / 2 ^ s)) := Lib.hid (fun j => by rw [← hm, ← HK.out]; exact shr_limb n z s j (by omega))
  have HME : Hid (m < W (la - z)) := Lib.hid (by rw [← hm, ← HK.out]; exact shr_end n z s la HN.out)
  have hp23 : (2 : Nat) ^ s ≤ 8388608 := Nat.pow_le_pow_right (n := 2) (by decide) (show s ≤ 23 by omega)
  have hpp : 0 < (2 : Nat) ^ s := Nat.pow_pos (by decide)
  obtain ⟨p, hp⟩ : ∃ p, 2 ^ s = p := ⟨_, rfl⟩
  have hw : wrap64 ((2 : Int) ^ s) = (p : Int) := by
    rw [show (2 : Int) ^ s = ((2 ^ s : Nat) : Int) by push_cast; rfl, hp]
    rw [hp] at hp23
    clear hp hm
    unfold wrap64; omega
  rw [hp] at hp23 hpp HLM
  have hk0 : (0 : Int) < k := by omega
  clear hA hla hz hs hp hm
  go_enter Tryz.func79, Tryz.ntmps79
  go_wp2
  rw [hw, hsi, show decide (k = 0) = false from decide_eq_false (by omega)]
  clear hw
  go_loopw [7, 8] (fun o i wr => ∃ (j : Nat) (l : List Nat), (j = 0 ∨ z + j ≤ la) ∧ i = .int .i64 ((z : Int) + j) ∧ Hid (LowSo m j l) ∧ Hid (wr.ownsRow w.heap.size 3 1 o j (l.map I)) ∧ Hid (Below w.heap.size w wr)) (fun _ i _ => (la + z + 1) - (intOf i).toNat)
  case atStart => exact ⟨0, [], .inl rfl, by simp, Lib.hid (lowSo_zero m), Lib.hid (World.ownsRow_nil _ _ _ _), Lib.hid (Below.refl _ _)⟩
  case round =>
    obtain ⟨j, l, hj, rfl, HS, hz, hbl⟩ := hrel
    by_cases hjl : z + j < la
    · have HS2 := Lib.hid (lowSo_succ HS.out)
      have hlm := HLM.out j
      obtain ⟨i, hi⟩ : ∃ i, z + j = i := ⟨_, rfl⟩
      obtain ⟨i1, hi1⟩ : ∃ i1, i + 1 = i1 := ⟨_, rfl⟩
      rw [hi, hi1] at hlm
      have hii : (z : Int) + j = (i : Int) := by omega
      rw [hii]
      have hw0 : IntKind.i64.wrap ((i : Int) + 1) = (i1 : Int) := by rw [IntKind.wrap_i64]; omega
      obtain ⟨ba, offa, rfl, ca1⟩ := isI_cell HA.out (show i < la by omega)
      rw [digs_limb] at ca1
      have hx := limb_lt n i
      have hy := limb_lt n i1
      obtain ⟨x, hxx⟩ : ∃ x, limb n i = x := ⟨_, rfl⟩
      obtain ⟨y, hyy⟩ : ∃ y, limb n i1 = y := ⟨_, rfl⟩
      have HY := Lib.hid hyy
      rw [hxx] at hx ca1 hlm
      rw [hyy] at hy hlm
      have hdl := limb_lt m j
      obtain ⟨d, hd⟩ : ∃ d, limb m j = d := ⟨_, rfl⟩
      rw [hd] at HS2 hlm hdl
      obtain ⟨x1, hx1⟩ : ∃ x1, x / p = x1 := ⟨_, rfl⟩
      obtain ⟨y1, hy1⟩ : ∃ y1, y % p = y1 := ⟨_, rfl⟩
      obtain ⟨b1, hb1⟩ : ∃ b1, 16777216 / p = b1 := ⟨_, rfl⟩
      obtain ⟨m1, hm1⟩ : ∃ m1, y1 * b1 = m1 := ⟨_, rfl⟩
      rw [hx1, hy1, hb1, hm1] at hlm
      have e1 : (x : Int).tdiv p = (x1 : Int) := by rw [Int.tdiv_eq_ediv_of_nonneg (by omega), ← Int.natCast_ediv, hx1]
      have e2 : (y : Int).tmod p = (y1 : Int) := by rw [Int.tmod_eq_emod_of_nonneg (by omega), ← Int.natCast_emod, hy1]
      have e3 : (16777216 : Int).tdiv p = (b1 : Int) := by rw [Int.tdiv_eq_ediv_of_nonneg (by omega), ← hb1, Int.natCast_ediv]; rfl
      have e4 : (y1 : Int) * b1 = (m1 : Int) := by rw [← hm1]; push_cast; rfl
      have hx1l : x1 ≤ x := by rw [← hx1]; exact Nat.div_le_self _ _
      have hb1l : b1 ≤ 16777216 := by rw [← hb1]; exact Nat.div_le_self _ _
      have hm1l : m1 < 16777216 := by omega
      clear hx1 hy1 hb1 hm1 hxx hyy hd HS
      have w1 : IntKind.i64.wrap ((x : Int).tdiv p) = x1 := by rw [e1, IntKind.wrap_i64]; clear e1 e2 e3 e4; omega
      have w3 : IntKind.i64.wrap ((16777216 : Int).tdiv p) = b1 := by rw [e3, IntKind.wrap_i64]; clear e1 e2 e3 e4 w1; omega
      have w4 : IntKind.i64.wrap ((y1 : Int) * b1) = m1 := by rw [e4, IntKind.wrap_i64]; clear e1 e2 e3 e4 w1 w3; omega
      have w5 : IntKind.i64.wrap ((x1 : Int) + m1) = d := by rw [IntKind.wrap_i64]; clear e1 e2 e3 e4 w1 w3 w4; omega
      have w6 : IntKind.i64.wrap (x1 : Int) = x1 := by rw [IntKind.wrap_i64]; clear e1 e2 e3 e4 w1 w3 w4 w5; omega
      have w7 : IntKind.i64.wrap (b1 : Int) = b1 := by rw [IntKind.wrap_i64]; clear e1 e2 e3 e4 w1 w3 w4 w5 w6; omega
      clear e4
      have hp2 : ¬ ((p : Int) = 0) := by omega
      have hp3 : ¬ (p = 0) := by omega
      have hil : (i : Int) < la := by omega
      have hil2 : i < la := by omega
      have HD := Lib.hid hlm
      clear hlm
      go_wp2_with fail
      refine wp_region_still (S := Below w.heap.size w) (by kernel_rfl) ?_
      have hS0 : Below w.heap.size w wr.drew := hbl.out.drew
      have HOW : Hid (wr.drew.ownsRow w.heap.size 3 1 _ j (l.map I)) := Lib.hid hz.out
      refine wpAnyR_take (i := 0) rfl (by kernel_rfl) (by kernel_rfl) (by kernel_rfl) (fun _ _ _ h => h) hS0 (.inl ⟨by kernel_rfl, fun w' hS => (by go_simp; exact ⟨rfl, rfl⟩)⟩) rfl (by go_simp; rfl) ?_
      refine wpAnyR_take (i := 1) rfl (by kernel_rfl) (by kernel_rfl) (by kernel_rfl) (fun _ _ _ h => h) hS0 (.inl ⟨by kernel_rfl, fun w' hS => (by go_simp; exact ⟨rfl, rfl⟩)⟩) rfl (by go_simp; rfl) ?_
      refine wpAnyR_take (i := 2) rfl (by kernel_rfl) (by kernel_rfl) (by kernel_rfl) (fun _ _ _ h => h) hS0 (.inl ⟨by kernel_rfl, fun w' hS => (by go_simp; exact ⟨rfl, rfl⟩)⟩) rfl (by go_simp; rfl) ?_
      refine wpAnyR_take (i := 3) rfl (by kernel_rfl) (by kernel_rfl) (by kernel_rfl) (fun _ _ _ h => h) hS0 (.inl ⟨by kernel_rfl, fun w' hS => (by go_simp; exact ⟨rfl, rfl⟩)⟩) rfl (by go_simp; rfl) ?_
      refine wpAnyR_take (i := 4) rfl (by kernel_rfl) (by kernel_rfl) (by kernel_rfl) (fun _ _ _ h => h) hS0 (.inl ⟨by kernel_rfl, fun w' hS => (by have yc := cell_of hS ca1; go_simp; exact ⟨rfl, rfl⟩)⟩) rfl (by go_simp; rfl) ?_
      refine wpAnyR_take (i := 5) rfl (by kernel_rfl) (by kernel_rfl) (by kernel_rfl) (fun _ _ _ h => h) hS0 (.inl ⟨by kernel_rfl, fun w' hS => (by go_simp; exact ⟨rfl, rfl⟩)⟩) rfl (by go_simp; rfl) ?_
      refine wpAnyR_take (i := 6) rfl (by kernel_rfl) (by kernel_rfl) (by kernel_rfl) (fun _ _ _ h => h) hS0 (.inl ⟨by kernel_rfl, fun w' hS => (by go_simp; exact ⟨rfl, rfl⟩)⟩) rfl (by go_simp; rfl) ?_
      refine wpAnyR_take (i := 7) rfl (by kernel_rfl) (by kernel_rfl) (by kernel_rfl) (fun _ _ _ h => h) hS0 (.inl ⟨by kernel_rfl, fun w' hS => (by go_simp; exact ⟨rfl, rfl⟩)⟩) rfl (by go_simp; rfl) ?_
      refine wpAnyR_take (i := 8) rfl (by kernel_rfl) (by kernel_rfl) (by kernel_rfl) (fun _ _ _ h => h) hS0 (.inl ⟨by kernel_rfl, fun w' hS => (by go_simp; exact ⟨rfl, rfl⟩)⟩) rfl (by go_simp; rfl) ?_
      refine wpAnyR_take (i := 9) rfl (by kernel_rfl) (by kernel_rfl) (by kernel_rfl) (fun _ _ _ h => h) hS0 (.inl ⟨by kernel_rfl, fun w' hS => (by go_simp; exact ⟨rfl, rfl⟩)⟩) rfl (by go_simp; rfl) ?_
      refine wpAnyR_take (i := 10) rfl (by kernel_rfl) (by kernel_rfl) (by kernel_rfl) (fun _ _ _ h => h) hS0 (.inl ⟨by kernel_rfl, fun w' hS => (by go_simp; exact (n_at_q (HA.out.below hS) i1 y HY.out))⟩) rfl (by go_simp; rfl) ?_
      refine wpAnyR_take (i := 11) rfl (by kernel_rfl) (by kernel_rfl) (by kernel_rfl) (fun _ _ _ h => h) hS0 (.inl ⟨by kernel_rfl, fun w' hS => (by go_simp; exact ⟨rfl, rfl⟩)⟩) rfl (by go_simp; rfl) ?_
      refine wpAnyR_take (i := 12) rfl (by kernel_rfl) (by kernel_rfl) (by kernel_rfl) (fun _ _ _ h => h) hS0 (.inl ⟨by kernel_rfl, fun w' hS => (by go_simp; exact ⟨rfl, rfl⟩)⟩) rfl (by go_simp; rfl) ?_
      refine wpAnyR_take (i := 13) rfl (by kernel_rfl) (by kernel_rfl) (by kernel_rfl) (fun _ _ _ h => h) hS0 (.inl ⟨by kernel_rfl, fun w' hS => (by go_simp; exact ⟨rfl, rfl⟩)⟩) rfl (by go_simp; rfl) ?_
      refine wpAnyR_take (i := 14) rfl (by kernel_rfl) (by kernel_rfl) (by kernel_rfl) (fun _ _ _ h => h) hS0 (.inl ⟨by kernel_rfl, fun w' hS => (by go_simp; exact ⟨rfl, rfl⟩)⟩) rfl (by go_simp; rfl) ?_
      refine wpAnyR_take (i := 15) rfl (by kernel_rfl) (by kernel_rfl) (by kernel_rfl) (fun _ _ _ h => h) hS0 (.inl ⟨by kernel_rfl, fun w' hS => (by go_simp; exact ⟨rfl, rfl⟩)⟩) rfl (by go_simp; rfl) ?_
      refine wpAnyR_take (i := 16) rfl (by kernel_rfl) (by kernel_rfl) (by kernel_rfl) (fun _ _ _ h => h) hS0 (.inl ⟨by kernel_rfl, fun w' hS => (by go_simp; exact ⟨rfl, rfl⟩)⟩) rfl (by go_simp; rfl) ?_
      refine wpAnyR_one (i := 17) rfl (by kernel_rfl) rfl rfl ?_
      go_simp
      refine ⟨(hbl.out.alloc hbl.out.size _).drew, wpAnyR_one (i := 18) rfl (by kernel_rfl) rfl rfl ?_⟩
      refine wp_append_row (.tmp 25) (.tmp 42) rfl w.heap.size _ j l rfl (hz.out.alloc _).drew d wr.heap.size rfl (by simp [go_sem]) (by omega) (Nat.le_trans hbl.out.size (by simp)) ?_
      intro v' w' ho hb
      have HBB : Hid (Below w.heap.size w w') := Lib.hid ((hbl.out.alloc hbl.out.size _).drew.trans hb)
      have HO := Lib.hid ho
      clear ho hb hS0 HOW
      refine ⟨HBB.out, wpAnyR_one (i := 19) rfl (by kernel_rfl) rfl rfl ?_⟩
      go_simp
      refine ⟨HBB.out, wpAnyR_done (by kernel_rfl) ?_ _⟩
      go_wp2
      go_roundw
      case rel => exact ⟨j + 1, l ++ [d], by omega, (show Value.int .i64 (i1 : Int) = _ by congr 1; omega), HS2, HO, HBB⟩
      case measure => simp [intOf]; omega
    · have HE := Lib.hid (lowSo_end HS.out (Nat.lt_of_lt_of_le HME.out (W_mono (by omega))))
      have HLT := Lib.hid HS.out.lt
      have HLN := Lib.hid HS.out.len
      have hjn : ¬ (z : Int) + j < la := by omega
      have hj8 : j ≤ 2000 := by omega
      clear HS
      go_wp2_with fail
      refine (n_trim (ila_own hz.out) HLT.out (by rw [HLN.out]; omega)).mono ?_
      rintro e w2 hmk
      rw [HE.out] at hmk
      obtain ⟨v, rfl, hv, hb, hnew⟩ := hmk.makesNf
      have HV2 := Lib.hid hv
      have HBB := Lib.hid hb
      clear hv hb hmk
      go_wp2
      go_ret
      exact ⟨_, rfl, HV2.out, hbl.out.trans (HBB.out.mono hbl.out.size), Lib.hid (hnew.out.mono hbl.out.size)⟩


theorem n_shr_f {u : Value} {n : Nat} {w : World} (hu : IsN w u n) (ha8 : (digs n).length ≤ 2000) (k : Nat) (hk8 : k ≤ 20000) : Calls Tryz.prog 79 #[u, .int .i64 k] w (MakesNf w (n / 2 ^ k)) := by
  by_cases h0 : k = 0
  · subst h0
    have := n_shr_le_f hu ha8 ((0 : Nat) : Int) (by omega)
    simpa using this
  · exact n_shr_pos_f hu ha8 k (by omega) hk8

/-- a dyadic number whose row is new since w -/
def NewDv (w : World) (v : Value) : Prop := ∀ n a l c E, v = Dv n (.slice (some a) l c) E → w.heap.size ≤ a.block
def MakesDf (w : World) (z e : Int) (en : Ending) (W' : World) : Prop := ∃ v, en = .returned v ∧ IsD W' v z e ∧ Below w.heap.size w W' ∧ Hid (NewDv w v)
theorem newD_of {w : World} {v : Value} (h : NewV w v) (n : Bool) (E : Int) : Hid (NewDv w (Dv n v E)) := Lib.hid fun n' a l c E' e => by
  have e2 : (#[Value.bool n, v, Value.int IntKind.i64 E] : Array Value) = #[Value.bool n', Value.slice (some a) l c, Value.int IntKind.i64 E'] := Value.agg.inj e
  have e3 := congrArg Array.toList e2
  simp only [List.cons.injEq] at e3
  exact h a l c e3.2.1
theorem newD_nil (w : World) (E : Int) : Hid (NewDv w (Dv false (.slice none 0 0) E)) := newD_of (newV_nil w) _ _
theorem NewDv.mono {w w' : World} {v : Value} (h : NewDv w' v) (k : w.heap.size ≤ w'.heap.size) : NewDv w v := fun n a l c E e => Nat.le_trans k (h n a l c E e)

set_option maxHeartbeats 2000000 in
theorem d_make_f (neg : Bool) {u : Value} {n : Nat} {e : Int} {w : World} (hu : IsN w u n) (ha8 : (digs n).length ≤ 800) (he1 : -1000000 ≤ e) (he2 : e ≤ 1000000) : Calls Tryz.prog 28 #[.bool neg, u, .int .i64 e] w (MakesDf w (sgz neg n) e) := by
  have HU := Lib.hid hu
  have HA8 := Lib.hid ha8
  by_cases h0 : n = 0
  · subst h0
    obtain ⟨aa, la, ca, rfl, hA, _⟩ := hu
    have hla := hA.1
    rw [digs_zero] at hla
    obtain rfl : 0 = la := hla
    have HZ := Lib.hid (sgz_zero neg)
    clear hA ha8
    go_enter Tryz.func28, Tryz.ntmps28
    go_wp2_with fail
    refine bodyPost_ret (v := Dv false (.slice none 0 0) 0) (by simp [results, Tryz.results28, go_sem]) rfl ⟨_, rfl, ⟨.slice none 0 0, ?_, ?_⟩, ((Below.refl _ w).alloc (Nat.le_refl _) _), newD_nil _ _⟩
    · rw [HZ.out, dE_zero]; rfl
    · rw [HZ.out, dM_zero]; exact isN_nil _
  · obtain ⟨T, hT⟩ : ∃ T, tz n = T := ⟨_, rfl⟩
    have hT8 : T ≤ 19200 := by have := tz_len h0 ha8; omega
    obtain ⟨aa, la, ca, rfl, hA, _⟩ := hu
    have hla := hA.1
    have hl0 : ¬ (la : Int) = 0 := by
      intro hl
      have h1 : digs n = [] := List.length_eq_zero_iff.1 (by rw [hla]; omega)
      have := num_digs n
      rw [h1] at this
      exact h0 this.symm
    have H0 := Lib.hid h0
    have HT := Lib.hid hT
    have hl1 : ((la : Int) == 0) = false := by apply beq_false_of_ne; exact hl0
    clear hA hla hT h0 hl0 ha8
    go_enter Tryz.func28, Tryz.ntmps28
    go_wp2_with fail
    obtain ⟨w0, hw0⟩ : ∃ w0, w.alloc (Obj.cells #[Value.bool false, Value.slice none 0 0, Value.int IntKind.i64 0] 36) = w0 := ⟨_, rfl⟩
    have HB0 : Hid (Below w.heap.size w w0) := Lib.hid (by rw [← hw0]; exact (Below.refl _ w).alloc (Nat.le_refl _) _)
    have HS0 : Hid (w0.heap.size = w.heap.size + 1) := Lib.hid (by rw [← hw0]; simp)
    have BX0 : Hid (Box w0 w.heap.size) := Lib.hid (by rw [← hw0]; exact box_alloc w)
    have HU0 : Hid (IsN w0 (.slice aa la ca) n) := Lib.hid (HU.out.below HB0.out)
    rw [hw0]
    clear hw0
    go_loopw [7] (fun i wr => ∃ k : Nat, k ≤ T ∧ i = .int .i64 (k : Int) ∧ Hid (Below w0.heap.size w0 wr)) (fun i _ => T - (intOf i).toNat)
    case atStart => exact ⟨0, Nat.zero_le _, rfl, Lib.hid (Below.refl _ _)⟩
    case round =>
      obtain ⟨k, hk, rfl, hbl⟩ := hrel
      have hk8 : k ≤ 20000 := by omega
      have HUr : Hid (IsN wr (.slice aa la ca) n) := Lib.hid (HU0.out.below hbl.out)
      have HD8 : Hid ((digs n).length ≤ 2000) := Lib.hid (by have := HA8.out; omega)
      go_wp2_with fail
      refine (n_shr HUr.out HD8.out k hk8).mono ?_
      rintro e1 w1 ⟨v1, rfl, hv1, hb1⟩
      have hq0 : n / 2 ^ k ≠ 0 := by
        intro h2
        have := Nat.div_eq_zero_iff.1 h2
        have hp := Nat.two_pow_pos k
        have h3 : 2 ^ k ≤ 2 ^ tz n := Nat.pow_le_pow_right (by decide) (by rw [HT.out]; exact hk)
        have h4 : 2 ^ tz n ≤ n := by have := od_mul_pow n; have h5 := Nat.le_mul_of_pos_left (2 ^ tz n) (Nat.pos_of_ne_zero (od_ne H0.out)); omega
        omega
      have hev := div_even H0.out (k := k) (by rw [HT.out]; exact hk)
      rw [HT.out] at hev
      obtain ⟨b, off, len, cap, rfl, hc⟩ := isN_cell hv1 hq0
      obtain ⟨q, hq⟩ : ∃ q, n / 2 ^ k = q := ⟨_, rfl⟩
      rw [hq] at hev hc
      obtain ⟨x, hx⟩ : ∃ x, q % 16777216 = x := ⟨_, rfl⟩
      rw [hx] at hc
      have HB1 := Lib.hid (hbl.out.trans (hb1.mono hbl.out.size))
      clear hv1 hb1 hq0 hq
      by_cases hkT : k < T
      · have hq2 := hev.2 hkT
        have hx2 : (x : Int) % 2 = 0 := by omega
        have hxe : ((x : Int) % 2 == 0) = true := by rw [hx2]; rfl
        clear hq2 hev hx hx2
        go_wp2
        go_roundw
        case rel => exact ⟨k + 1, by omega, by go_num, HB1⟩
        case measure => simp [intOf] <;> omega
      · obtain rfl : k = T := by omega
        have hq2 : ¬ q % 2 = 0 := fun h => hkT (hev.1 h)
        have hxe : ((x : Int) % 2 == 0) = false := by apply beq_false_of_ne; omega
        have HU1 : Hid (IsN w1 (.slice aa la ca) n) := Lib.hid (HU0.out.below HB1.out)
        clear hq2 hev hx hkT
        go_wp2_with fail
        refine (n_shr_f HU1.out HD8.out k hk8).mono ?_
        rintro e2 w2 ⟨v2, rfl, hv2, hb2, hnew⟩
        have HB2 := Lib.hid (HB1.out.trans (hb2.mono HB1.out.size))
        obtain ⟨a2, l2, k2, rfl⟩ := hv2.slice
        have HV2 := Lib.hid hv2
        have BX := Lib.hid (BX0.out.below HB2.out (by rw [HS0.out]; omega))
        obtain ⟨c0, c1, c2, _, f0, f1, f2⟩ := BX.out
        have HBw : Hid (Below w.heap.size w w2) := Lib.hid (HB0.out.trans (HB2.out.mono HB0.out.size))
        have HE : Hid (dE (sgz neg n) e = e + k) := Lib.hid (by unfold dE; rw [if_neg (sgz_ne H0.out), sgz_natAbs, HT.out])
        have HM : Hid (dM (sgz neg n) = n / 2 ^ k) := Lib.hid (by unfold dM od; rw [sgz_natAbs, HT.out])
        have HN : Hid (decide (sgz neg n < 0) = neg) := Lib.hid (sgz_neg H0.out)
        clear hv2 hb2
        go_wp2
        refine bodyPost_ret (v := Dv neg (.slice a2 l2 k2) (e + k)) (by simp [results, Tryz.results28, go_sem, c0, c1, c2]) rfl ⟨_, rfl, ⟨.slice a2 l2 k2, by rw [HN.out, HE.out], ?_⟩, ?_, newD_of (hnew.out.mono (Nat.le_trans HB0.out.size HB1.out.size)) _ _⟩
        · rw [HM.out]; exact BX.out.keep HV2.out _ _ _
        · exact ((HBw.out.setCell (by simp) _).setCell (by simp) _).setCell (by simp) _

def OfSoF (w : World) (x : Nat) (e : Ending) (W' : World) : Prop := ∃ v, e = .returned (.tuple #[v, .bool (Fl.isFin x)]) ∧ IsD W' v (Fl.VV x) (-1074) ∧ Below w.heap.size w W' ∧ Hid (NewDv w v)

set_option maxHeartbeats 2000000 in
theorem f_of_f (x : Nat) (hx : x < 18446744073709551616) (w : World) : Calls Tryz.prog 78 #[.float .f64 x] w (OfSoF w x) := by
  have hb := fun w => run_bits' x w
  obtain ⟨s, hs⟩ : ∃ s, Fl.sg x = s := ⟨_, rfl⟩
  obtain ⟨E, hE⟩ : ∃ E, x / 4503599627370496 % 2048 = E := ⟨_, rfl⟩
  obtain ⟨m, hm⟩ : ∃ m, x % 4503599627370496 = m := ⟨_, rfl⟩
  have hsg : ((x : Int) / 9223372036854775808 == 1) = s := by
    rw [← hs]
    unfold Fl.sg
    by_cases h : x / 2 ^ 63 = 1
    · rw [h, show (x : Int) / 9223372036854775808 = 1 by omega]; rfl
    · rw [show x / 2 ^ 63 = 0 by omega, show (x : Int) / 9223372036854775808 = 0 by omega]; rfl
  have hand1 : bits .and .u64 ((x : Int) / 4503599627370496) 2047 = (E : Int) := by
    have := Fl.and2047u (x / 4503599627370496) (by omega)
    rw [hE] at this
    rw [← this]
    congr 1
  have hand2 : bits .and .u64 (x : Int) 4503599627370495 = (m : Int) := by rw [← hm]; exact Fl.and52u x hx
  have hm8 : m < 4503599627370496 := by omega
  have hE8 : E ≤ 2047 := by omega
  have hrg : Fl.rg x = E * 4503599627370496 + m := by unfold Fl.rg; omega
  have hx8 : (x : Int) ≤ 18446744073709551615 := by omega
  have hd1 : (x : Int) / 9223372036854775808 ≤ 1 := by omega
  have hd0 : (0 : Int) ≤ (x : Int) / 9223372036854775808 := by omega
  have hd2 : (x : Int) / 4503599627370496 ≤ 4095 := by omega
  have hd3 : (0 : Int) ≤ (x : Int) / 4503599627370496 := by omega
  have HSG := Lib.hid hs
  have HRG := Lib.hid hrg
  clear hs hE hm hrg
  by_cases hE0 : E = 2047
  · subst hE0
    have HF : Hid (¬ Fl.rg x < 2047 * 2 ^ 52) := Lib.hid (by rw [HRG.out]; omega)
    have HF2 : Hid (Fl.isFin x = false) := Lib.hid (decide_eq_false HF.out)
    clear hx
    go_enter Tryz.func78, Tryz.ntmps78
    go_wp2
    refine bodyPost_ret (v := .tuple #[Dv false (.slice none 0 0) 0, .bool false]) (by simp [results, Tryz.results78, go_sem]) rfl ⟨_, by rw [HF2.out], ?_, (Below.refl _ w).alloc (Nat.le_refl _) _, newD_nil _ _⟩
    rw [Fl.VV_inf HF.out]
    exact ⟨_, by rw [dE_zero]; rfl, by rw [dM_zero]; exact isN_nil _⟩
  have hE47 : ((E : Int) == 2047) = false := beq_false_of_ne (by omega)
  have HF : Hid (Fl.rg x < 2047 * 2 ^ 52) := Lib.hid (by rw [HRG.out]; omega)
  have HF2 : Hid (Fl.isFin x = true) := Lib.hid (decide_eq_true HF.out)
  by_cases hE1 : E = 0
  · subst hE1
    have HV : Hid (Fl.VV x = sgz s m) := Lib.hid (by
      rw [Fl.VV_fin HF.out, Fl.V_sgz, HSG.out]
      unfold Fl.mg Fl.RV
      rw [HRG.out, if_pos (by omega)]
      congr 1
      omega)
    have HD8 : Hid ((digs m).length ≤ 800) := Lib.hid (Nat.le_trans (digs_len_le' (k := 3) (by have : W 3 = 4722366482869645213696 := rfl; omega)) (by decide))
    clear hx hE0
    go_enter Tryz.func78, Tryz.ntmps78
    go_wp2_with fail
    obtain ⟨w0, hw0⟩ : ∃ w0, w.alloc (Obj.cells #[Value.bool false, Value.slice none 0 0, Value.int IntKind.i64 0] 36) = w0 := ⟨_, rfl⟩
    have HB0 : Hid (Below w.heap.size w w0) := Lib.hid (by rw [← hw0]; exact (Below.refl _ w).alloc (Nat.le_refl _) _)
    have HBX0 : Hid (Box w0 w.heap.size) := Lib.hid (by have := box_alloc w; rwa [show boxed w = w0 from hw0] at this)
    have HS0 : Hid (w0.heap.size = w.heap.size + 1) := Lib.hid (by rw [← hw0]; simp)
    rw [hw0]
    clear hw0
    refine (n_of m (by omega) w0).mono ?_
    rintro e1 w1 ⟨v1, rfl, hv1, hb1⟩
    have HB1 := Lib.hid hb1
    have HV1 := Lib.hid hv1
    clear hv1 hb1
    go_wp2_with fail
    refine (d_make_f s HV1.out HD8.out (by omega) (by omega)).mono ?_
    rintro e2 w2 ⟨v2, rfl, hv2, hb2, hnew⟩
    have HB2 : Hid (Below w0.heap.size w0 w2) := Lib.hid (HB1.out.trans (hb2.mono HB1.out.size))
    obtain ⟨n1, a1, l1, k1, E1, rfl⟩ := hv2.shape
    have HBw : Hid (Below w.heap.size w w2) := Lib.hid (HB0.out.trans (HB2.out.mono HB0.out.size))
    have BX := Lib.hid (HBX0.out.below HB2.out (by rw [HS0.out]; omega))
    obtain ⟨c0, c1, c2, _, f0, f1, f2⟩ := BX.out
    have hvv : IsD w2 (Dv n1 (.slice a1 l1 k1) E1) (Fl.VV x) (-1074) := by rw [HV.out]; exact hv2
    have HN := Lib.hid (fun x y u => BX.out.keepD hvv x y u)
    clear hv2 hb2
    go_wp2
    exact bodyPost_ret (v := .tuple #[Dv n1 (.slice a1 l1 k1) E1, .bool true]) (by simp [results, Tryz.results78, go_sem, c0, c1, c2]) rfl ⟨_, by rw [HF2.out], HN.out _ _ _, Box.keepB HBw.out (by omega) _ _ _, Lib.hid (hnew.out.mono (Nat.le_trans HB0.out.size HB1.out.size))⟩
  · obtain ⟨k, hk⟩ : ∃ k : Nat, E = k + 1 := ⟨E - 1, by omega⟩
    have HV : Hid (Fl.VV x = sgz s (m + 4503599627370496) * ((2 ^ k : Nat) : Int)) := Lib.hid (by
      rw [Fl.VV_fin HF.out, Fl.V_sgz, HSG.out, ← sgz_mul]
      unfold Fl.mg Fl.RV
      rw [HRG.out, if_neg (by omega)]
      congr 1
      rw [show (E * 4503599627370496 + m) % 2 ^ 52 = m by omega, show (E * 4503599627370496 + m) / 2 ^ 52 - 1 = k by omega, Nat.add_comm (2 ^ 52) m])
    have HD8 : Hid ((digs (m + 4503599627370496)).length ≤ 800) := Lib.hid (Nat.le_trans (digs_len_le' (k := 3) (by have : W 3 = 4722366482869645213696 := rfl; omega)) (by decide))
    have hE0i : ((E : Int) == 0) = false := beq_false_of_ne (by omega)
    have HK : Hid ((E : Int) - 1075 = -1074 + k) := Lib.hid (by omega)
    have hE2 : (1 : Int) ≤ E := by omega
    obtain ⟨M, hM⟩ : ∃ M, m + 4503599627370496 = M := ⟨_, rfl⟩
    have hmi : (m : Int) + 4503599627370496 = (M : Int) := by omega
    have hM8 : M ≤ 9007199254740992 := by omega
    rw [hM] at HV HD8
    clear hx hE0 hE1 hk hM
    go_enter Tryz.func78, Tryz.ntmps78
    go_wp2_with fail
    obtain ⟨w0, hw0⟩ : ∃ w0, w.alloc (Obj.cells #[Value.bool false, Value.slice none 0 0, Value.int IntKind.i64 0] 36) = w0 := ⟨_, rfl⟩
    have HB0 : Hid (Below w.heap.size w w0) := Lib.hid (by rw [← hw0]; exact (Below.refl _ w).alloc (Nat.le_refl _) _)
    have HBX0 : Hid (Box w0 w.heap.size) := Lib.hid (by have := box_alloc w; rwa [show boxed w = w0 from hw0] at this)
    have HS0 : Hid (w0.heap.size = w.heap.size + 1) := Lib.hid (by rw [← hw0]; simp)
    rw [hw0]
    clear hw0
    refine (n_of M (by omega) w0).mono ?_
    rintro e1 w1 ⟨v1, rfl, hv1, hb1⟩
    have HB1 := Lib.hid hb1
    have HV1 := Lib.hid hv1
    clear hv1 hb1
    go_wp2_with fail
    refine (d_make_f s HV1.out HD8.out (by omega) (by omega)).mono ?_
    rintro e2 w2 ⟨v2, rfl, hv2, hb2, hnew⟩
    have HB2 : Hid (Below w0.heap.size w0 w2) := Lib.hid (HB1.out.trans (hb2.mono HB1.out.size))
    obtain ⟨n1, a1, l1, k1, E1, rfl⟩ := hv2.shape
    have HBw : Hid (Below w.heap.size w w2) := Lib.hid (HB0.out.trans (HB2.out.mono HB0.out.size))
    have BX := Lib.hid (HBX0.out.below HB2.out (by rw [HS0.out]; omega))
    obtain ⟨c0, c1, c2, _, f0, f1, f2⟩ := BX.out
    have hvv : IsD w2 (Dv n1 (.slice a1 l1 k1) E1) (Fl.VV x) (-1074) := by rw [HV.out]; rw [HK.out] at hv2; exact (isD_shift _ _ _ _ _).2 hv2
    have HN := Lib.hid (fun x y u => BX.out.keepD hvv x y u)
    clear hv2 hb2
    go_wp2
    exact bodyPost_ret (v := .tuple #[Dv n1 (.slice a1 l1 k1) E1, .bool true]) (by simp [results, Tryz.results78, go_sem, c0, c1, c2]) rfl ⟨_, by rw [HF2.out], HN.out _ _ _, Box.keepB HBw.out (by omega) _ _ _, Lib.hid (hnew.out.mono (Nat.le_trans HB0.out.size HB1.out.size))⟩
end Go.Proofs.YtdflbipaicpdcaaGreatDoor
namespace Go.Proofs.YtdflbipaicpdcaaGreatDoor
open Go.RowKit
set_option maxRecDepth 100000

theorem digs_pow {n j L : Nat} (h : n < 2 ^ j) (hj : j ≤ 24 * L) : (digs n).length ≤ L :=
  digs_len_le' (by rw [W_two]; exact Nat.lt_of_lt_of_le h (Nat.pow_le_pow_right (by decide) hj))
abbrev dbox (n : Bool) (a : Option Addr) (l c : Nat) (E : Int) : Obj := Obj.cells #[Value.bool n, Value.slice a l c, Value.int IntKind.i64 E] 36
/-- the block b holds this number -/
structure Var (w : World) (b : Nat) (n : Bool) (a : Option Addr) (l c : Nat) (E : Int) : Prop where
  c0 : w.cell? ⟨b, 0, none⟩ = some (.bool n)
  c1 : w.cell? ⟨b, 1, none⟩ = some (.slice a l c)
  c2 : w.cell? ⟨b, 2, none⟩ = some (.int .i64 E)
  f0 : w.frozen? ⟨b, 0, none⟩ = false
  lt : b < w.heap.size
theorem Var.below {w w' : World} {b : Nat} {n : Bool} {a : Option Addr} {l c : Nat} {E : Int} (h : Var w b n a l c E) (hb : Below w.heap.size w w') : Var w' b n a l c E :=
  ⟨cell_at hb h.lt h.c0, cell_at hb h.lt h.c1, cell_at hb h.lt h.c2, froz_of hb h.lt h.f0, Nat.lt_of_lt_of_le h.lt hb.size⟩
theorem var_alloc (w : World) (n : Bool) (a : Option Addr) (l c : Nat) (E : Int) : Var (w.alloc (dbox n a l c E)) w.heap.size n a l c E :=
  ⟨by simp [go_sem], by simp [go_sem], by simp [go_sem], by simp [go_sem], by simp⟩
theorem below_alloc (w : World) (o : Obj) : Below w.heap.size w (w.alloc o) := (Below.refl _ w).alloc (Nat.le_refl _) o
theorem below_next {w w1 w2 : World} (h : Below w.heap.size w w1) (k : Below w1.heap.size w1 w2) : Below w.heap.size w w2 := h.trans (k.mono h.size)
/-- of a size below 2^K -/
structure Bd (z : Int) (K : Nat) : Prop where
  lt : z.natAbs < 2 ^ K
theorem Bd.add {a b : Int} {K L : Nat} (ha : Bd a K) (hb : Bd b K) (hL : L = K + 1) : Bd (a + b) L := ⟨by
  have h1 := ha.lt
  have h2 := hb.lt
  rw [hL, Nat.pow_succ]
  generalize 2 ^ K = p at *
  omega⟩
theorem Bd.neg {a : Int} {K : Nat} (ha : Bd a K) : Bd (-a) K := ⟨by rw [Int.natAbs_neg]; exact ha.lt⟩
theorem Bd.mono {a : Int} {K L : Nat} (ha : Bd a K) (h : K ≤ L) : Bd a L := ⟨Nat.lt_of_lt_of_le ha.lt (Nat.pow_le_pow_right (by decide) h)⟩
theorem Bd.mul {a b : Int} {K L M : Nat} (ha : Bd a K) (hb : Bd b L) (hM : M = K + L) : Bd (a * b) M := ⟨by
  rw [hM, Int.natAbs_mul, Nat.pow_add]
  exact Nat.mul_lt_mul'' ha.lt hb.lt⟩
theorem Bd.sz {a : Int} {K : Nat} (ha : Bd a K) (hK : K ≤ 24 * 800) : Sz a := digs_pow ha.lt hK
theorem Bd.sz2 {a b : Int} {K : Nat} (ha : Bd a K) (hb : Bd b K) (hK : K + 1 ≤ 24 * 800) : (digs (a.natAbs + b.natAbs)).length ≤ 800 := by
  refine digs_pow (j := K + 1) ?_ hK
  have h1 := ha.lt
  have h2 := hb.lt
  rw [Nat.pow_succ]
  generalize 2 ^ K = p at *
  omega
theorem bd_VV' (x K : Nat) (hK : K = 2098) : Bd (Fl.VV x) K := ⟨by
  have hT := Fl.TOP_eq K hK
  rw [← hT]
  unfold Fl.VV
  split
  · rw [← Fl.mg_natAbs]; exact Fl.RV_lt (by assumption)
  · have := Nat.two_pow_pos K
    rw [← hT] at this
    simpa using this⟩
theorem bd_VV (x : Nat) : Bd (Fl.VV x) 2098 := bd_VV' x _ rfl
end Go.Proofs.YtdflbipaicpdcaaGreatDoor
