/- Shr of the document's naturals. No condition but the sizes. -/
import Derived.Test.YtemneeknemijpaaNh
import Derived.Test.YtemneeknemijpaaStl
namespace Go.Proofs.Ytemneeknemijpaa
open Go.RowKit

theorem cell_lt' {w : World} {a : Addr} {v : Value} (h : w.cell? a = some v) : a.block < w.heap.size := by
  apply Decidable.byContradiction
  intro hn
  rw [World.cell?, Array.getElem?_eq_none (by omega)] at h
  cases h
theorem cell_of {W W1 : World} (hb : Below W.heap.size W W1) {b o : Nat} {v : Value} (h : W.cell? ⟨b, o, none⟩ = some v) : W1.cell? ⟨b, o, none⟩ = some v := by
  rw [hb.cell (p := ⟨b, o, none⟩) (cell_lt' h), h]

structure LowSo (n j : Nat) (l : List Nat) : Prop where
  len : l.length = j
  lt : ∀ d ∈ l, d < 16777216
  sum : num l = low n j
theorem lowSo_zero (n : Nat) : LowSo n 0 [] := ⟨rfl, (fun _ h => by cases h), by rw [low_zero]; rfl⟩
theorem lowSo_succ {n j : Nat} {l : List Nat} (h : LowSo n j l) : LowSo n (j + 1) (l ++ [limb n j]) := by
  obtain ⟨h1, h2, h3⟩ := h
  refine ⟨by rw [List.length_append, h1]; rfl, fun d hd => ?_, by rw [num_snoc, h1, h3, low_succ]⟩
  rcases List.mem_append.1 hd with hd | hd
  · exact h2 d hd
  · rw [List.mem_singleton.1 hd]; exact limb_lt _ _
theorem lowSo_end {n j : Nat} {l : List Nat} (h : LowSo n j l) (hn : n < W j) : digs (num l) = digs n := by rw [h.sum, low_all hn]

/-- a limb of a number that is shifted down: of two limbs -/
theorem shr_limb (n z s j : Nat) (hs : s < 24) : limb (n / 2 ^ (24 * z + s)) j = limb n (z + j) / 2 ^ s + limb n (z + j + 1) % 2 ^ s * (16777216 / 2 ^ s) := by
  have hpow : (2 : Nat) ^ 24 = 2 ^ s * 2 ^ (24 - s) := by rw [← Nat.pow_add, show s + (24 - s) = 24 by omega]
  have hp : 0 < (2 : Nat) ^ s := Nat.pow_pos (by decide)
  have hq : 0 < (2 : Nat) ^ (24 - s) := Nat.pow_pos (by decide)
  have hB : (16777216 : Nat) = 2 ^ s * 2 ^ (24 - s) := hpow
  have hdivB : 16777216 / 2 ^ s = 2 ^ (24 - s) := by rw [hB]; exact Nat.mul_div_cancel_left _ hp
  have e1 : limb (n / 2 ^ (24 * z + s)) j = n / W (z + j) / 2 ^ s % 16777216 := by
    unfold limb
    rw [Nat.pow_add, ← W_two, Nat.div_div_eq_div_mul, W_add, Nat.div_div_eq_div_mul]
    congr 2
    simp only [Nat.mul_assoc, Nat.mul_comm]
  rw [e1, hdivB]
  generalize hm : n / W (z + j) = m
  have hx : limb n (z + j) = m % 16777216 := by unfold limb; rw [hm]
  have hy : limb n (z + j + 1) = m / 16777216 % 16777216 := by
    unfold limb
    rw [W_succ, Nat.mul_comm, ← Nat.div_div_eq_div_mul, hm]
  rw [hx, hy]
  clear hx hy hm e1 hdivB hpow
  generalize 2 ^ s = P at hp hB ⊢
  generalize 2 ^ (24 - s) = Q at hq hB ⊢
  generalize 16777216 = B at hB ⊢
  have ha : m % B + P * (Q * (m / B)) = m := by rw [← Nat.mul_assoc, ← hB]; exact Nat.mod_add_div m B
  have h1 : m / P = m % B / P + Q * (m / B) := by
    conv => lhs; rw [← ha]
    exact Nat.add_mul_div_left _ _ hp
  rw [h1, Nat.mod_mod_of_dvd _ (show P ∣ B from ⟨Q, hB⟩)]
  have hBp : 0 < B := by rw [hB]; exact Nat.mul_pos hp hq
  have h4 : m % B / P < Q := Nat.div_lt_of_lt_mul (by rw [← hB]; exact Nat.mod_lt _ hBp)
  generalize m / B = t
  generalize m % B / P = a at h4 ⊢
  have h3 : Q * t = t % P * Q + B * (t / P) := by
    conv => lhs; rw [← Nat.mod_add_div t P]
    rw [Nat.mul_add, hB, Nat.mul_comm Q (t % P), ← Nat.mul_assoc Q P, Nat.mul_comm Q P]
  have h5 : t % P * Q + Q ≤ B := by
    have : (t % P + 1) * Q ≤ P * Q := Nat.mul_le_mul_right _ (Nat.mod_lt _ hp)
    rw [Nat.add_mul, Nat.one_mul, ← hB] at this
    exact this
  rw [h3, ← Nat.add_assoc, Nat.add_mul_mod_self_left]
  exact Nat.mod_eq_of_lt (by omega)

theorem shr_end (n z s la : Nat) (h : n < W la) : n / 2 ^ (24 * z + s) < W (la - z) := by
  apply Nat.div_lt_of_lt_mul
  rw [Nat.pow_add, ← W_two]
  have h1 : W la ≤ W z * W (la - z) := by rw [← W_add]; exact W_mono (by omega)
  have h2 : W z * W (la - z) ≤ W z * 2 ^ s * W (la - z) := Nat.mul_le_mul_right _ (Nat.le_mul_of_pos_right _ (Nat.pow_pos (by decide)))
  omega

theorem n_shr_le {u : Value} {n : Nat} {w : World} (hu : IsN w u n) (ha8 : (digs n).length ≤ 2000) (k : Int) (hk : k ≤ 0) : Calls Try.prog 79 #[u, .int .i64 k] w (MakesN w n) := by
  have HU := Lib.hid hu
  obtain ⟨aa, la, ca, rfl, hA, _⟩ := hu
  have hl := hA.1
  rw [hl] at ha8
  have HL := Lib.hid hl
  clear hA hl
  go_enter Try.func79, Try.ntmps79
  go_wp2_with fail
  refine (n_trim' HU.out (by rw [HL.out]; omega)).mono ?_
  rintro e w1 ⟨v, rfl, hv, hb⟩
  have HV := Lib.hid hv
  have HB := Lib.hid hb
  clear hv hb
  go_wp2
  go_ret
  exact ⟨_, rfl, HV.out, HB.out⟩

theorem wp_append_row {o : Oper} {a : Act} {w : World} {K : Act → World → Prop} {Q : Exit → Act → World → Prop}
    (s x : Operand) (hop : o.op = Op.call { callee := Callee.builtin Builtin.append, args := #[s, x], argTypes := #[33, 33] })
    (base : Nat) (v : Value) (k : Nat) (l : List Nat) (hs : a.eval s = v) (hown : w.ownsRow base 3 1 v k (l.map I)) (y : Nat) (b : Nat) (hx : a.eval x = .slice (some ⟨b, 0, none⟩) 1 1) (hc : w.cell? ⟨b, 0, none⟩ = some (I y)) (hsz : k + 1 ≤ 10000) (hb : base ≤ w.heap.size)
    (hK : ∀ v' w', w'.ownsRow base 3 1 v' (k + 1) ((l ++ [y]).map I) → Below base w w' → K (a.put o.dst v') w') :
    Oper.wp Try.prog o a w K Q := by
  obtain ⟨i0, hi, hz0, hz1, hz2⟩ := info_parts info3
  obtain ⟨v', w', hrun, r1, r2, _⟩ := run_append_own (P := Try.prog) w base 33 o.type 3 i0 (.int .i64 0) 1 8 Try.underlying33 hi hz0 hz1 hz2 rfl (by decide) v k (l.map I) hown ⟨b, 0, none⟩ 1 1 [I y] rfl (fun j u hj => by
    cases j with
    | zero => simp at hj; rw [← hj]; exact hc
    | succ j => simp at hj) (fun u hu => by rw [List.mem_singleton.1 hu]; rfl) (by unfold maxLen; omega) (by omega) hb
  unfold Oper.wp
  simp [execOp, hop, resolve, invoke, builtin, hs, hx, hrun, Result.andThen]
  exact hK v' w' (by rw [List.map_append]; exact r1) ((Below.refl _ _).grown r2 hb (n_own_base hown))

set_option maxHeartbeats 2000000 in
theorem n_shr_pos {u : Value} {n : Nat} {w : World} (hu : IsN w u n) (ha8 : (digs n).length ≤ 2000) (k : Nat) (hk : 0 < k) (hk8 : k ≤ 20000) : Calls Try.prog 79 #[u, .int .i64 k] w (MakesN w (n / 2 ^ k)) := by
  obtain ⟨aa, la, ca, rfl, hA, _⟩ := hu
  have hla := hA.1
  rw [hla] at ha8
  have HA := Lib.hid hA
  have HLA := Lib.hid hla
  have HN : Hid (n < W la) := Lib.hid (by rw [← hla]; exact digs_len_lt n)
  obtain ⟨z, hz⟩ : ∃ z, k / 24 = z := ⟨_, rfl⟩
  obtain ⟨s, hs⟩ : ∃ s, k % 24 = s := ⟨_, rfl⟩
  have hzi : (k : Int) / 24 = (z : Int) := by omega
  have hsi : (k : Int) % 24 = (s : Int) := by omega
  have hs24 : (s : Int) < 24 := by omega
  have hs0 : (0 : Int) ≤ s := by omega
  have hz8 : z ≤ 1000 := by omega
  have HK : Hid (24 * z + s = k) := Lib.hid (by omega)
  obtain ⟨m, hm⟩ : ∃ m, n / 2 ^ k = m := ⟨_, rfl⟩
  rw [hm]
  have HLM : Hid (∀ j, limb m j = limb n (z + j) / 2 ^ s + limb n (z + j + 1) % 2 ^ s * (16777216 / 2 ^ s)) := Lib.hid (fun j => by rw [← hm, ← HK.out]; exact shr_limb n z s j (by omega))
  have HME : Hid (m < W (la - z)) := Lib.hid (by rw [← hm, ← HK.out]; exact shr_end n z s la HN.out)
  have hp23 : (2 : Nat) ^ s ≤ 8388608 := Nat.pow_le_pow_right (n := 2) (by decide) (show s ≤ 23 by omega)
  have hpp : 0 < (2 : Nat) ^ s := Nat.pow_pos (by decide)
  obtain ⟨p, hp⟩ : ∃ p, 2 ^ s = p := ⟨_, rfl⟩
  have hw : wrap64 ((2 : Int) ^ s) = (p : Int) := by
    rw [show (2 : Int) ^ s = ((2 ^ s : Nat) : Int) by push_cast; rfl, hp]
    rw [hp] at hp23
    clear hp hm
    unfold wrap64; omega
  rw [hp] at hp23 hpp HLM
  have hk0 : (0 : Int) < k := by omega
  clear hA hla hz hs hp hm
  go_enter Try.func79, Try.ntmps79
  go_wp2
  rw [hw, hsi, show decide (k = 0) = false from decide_eq_false (by omega)]
  clear hw
  go_loopw [7, 8] (fun o i wr => ∃ (j : Nat) (l : List Nat), (j = 0 ∨ z + j ≤ la) ∧ i = .int .i64 ((z : Int) + j) ∧ Hid (LowSo m j l) ∧ Hid (wr.ownsRow w.heap.size 3 1 o j (l.map I)) ∧ Hid (Below w.heap.size w wr)) (fun _ i _ => (la + z + 1) - (intOf i).toNat)
  case atStart => exact ⟨0, [], .inl rfl, by simp, Lib.hid (lowSo_zero m), Lib.hid (World.ownsRow_nil _ _ _ _), Lib.hid (Below.refl _ _)⟩
  case round =>
    obtain ⟨j, l, hj, rfl, HS, hz, hbl⟩ := hrel
    by_cases hjl : z + j < la
    · have HS2 := Lib.hid (lowSo_succ HS.out)
      have hlm := HLM.out j
      obtain ⟨i, hi⟩ : ∃ i, z + j = i := ⟨_, rfl⟩
      obtain ⟨i1, hi1⟩ : ∃ i1, i + 1 = i1 := ⟨_, rfl⟩
      rw [hi, hi1] at hlm
      have hii : (z : Int) + j = (i : Int) := by omega
      rw [hii]
      have hw0 : IntKind.i64.wrap ((i : Int) + 1) = (i1 : Int) := by rw [IntKind.wrap_i64]; omega
      obtain ⟨ba, offa, rfl, ca1⟩ := isI_cell HA.out (show i < la by omega)
      rw [digs_limb] at ca1
      have hx := limb_lt n i
      have hy := limb_lt n i1
      obtain ⟨x, hxx⟩ : ∃ x, limb n i = x := ⟨_, rfl⟩
      obtain ⟨y, hyy⟩ : ∃ y, limb n i1 = y := ⟨_, rfl⟩
      have HY := Lib.hid hyy
      rw [hxx] at hx ca1 hlm
      rw [hyy] at hy hlm
      have hdl := limb_lt m j
      obtain ⟨d, hd⟩ : ∃ d, limb m j = d := ⟨_, rfl⟩
      rw [hd] at HS2 hlm hdl
      obtain ⟨x1, hx1⟩ : ∃ x1, x / p = x1 := ⟨_, rfl⟩
      obtain ⟨y1, hy1⟩ : ∃ y1, y % p = y1 := ⟨_, rfl⟩
      obtain ⟨b1, hb1⟩ : ∃ b1, 16777216 / p = b1 := ⟨_, rfl⟩
      obtain ⟨m1, hm1⟩ : ∃ m1, y1 * b1 = m1 := ⟨_, rfl⟩
      rw [hx1, hy1, hb1, hm1] at hlm
      have e1 : (x : Int).tdiv p = (x1 : Int) := by rw [Int.tdiv_eq_ediv_of_nonneg (by omega), ← Int.natCast_ediv, hx1]
      have e2 : (y : Int).tmod p = (y1 : Int) := by rw [Int.tmod_eq_emod_of_nonneg (by omega), ← Int.natCast_emod, hy1]
      have e3 : (16777216 : Int).tdiv p = (b1 : Int) := by rw [Int.tdiv_eq_ediv_of_nonneg (by omega), ← hb1, Int.natCast_ediv]; rfl
      have e4 : (y1 : Int) * b1 = (m1 : Int) := by rw [← hm1]; push_cast; rfl
      have hx1l : x1 ≤ x := by rw [← hx1]; exact Nat.div_le_self _ _
      have hb1l : b1 ≤ 16777216 := by rw [← hb1]; exact Nat.div_le_self _ _
      have hm1l : m1 < 16777216 := by omega
      clear hx1 hy1 hb1 hm1 hxx hyy hd HS
      have w1 : IntKind.i64.wrap ((x : Int).tdiv p) = x1 := by rw [e1, IntKind.wrap_i64]; clear e1 e2 e3 e4; omega
      have w3 : IntKind.i64.wrap ((16777216 : Int).tdiv p) = b1 := by rw [e3, IntKind.wrap_i64]; clear e1 e2 e3 e4 w1; omega
      have w4 : IntKind.i64.wrap ((y1 : Int) * b1) = m1 := by rw [e4, IntKind.wrap_i64]; clear e1 e2 e3 e4 w1 w3; omega
      have w5 : IntKind.i64.wrap ((x1 : Int) + m1) = d := by rw [IntKind.wrap_i64]; clear e1 e2 e3 e4 w1 w3 w4; omega
      have w6 : IntKind.i64.wrap (x1 : Int) = x1 := by rw [IntKind.wrap_i64]; clear e1 e2 e3 e4 w1 w3 w4 w5; omega
      have w7 : IntKind.i64.wrap (b1 : Int) = b1 := by rw [IntKind.wrap_i64]; clear e1 e2 e3 e4 w1 w3 w4 w5 w6; omega
      clear e4
      have hp2 : ¬ ((p : Int) = 0) := by omega
      have hp3 : ¬ (p = 0) := by omega
      have hil : (i : Int) < la := by omega
      have hil2 : i < la := by omega
      have HD := Lib.hid hlm
      clear hlm
      go_wp2_with fail
      refine wp_region_still (S := Below w.heap.size w) (by kernel_rfl) ?_
      have hS0 : Below w.heap.size w wr.drew := hbl.out.drew
      have HOW : Hid (wr.drew.ownsRow w.heap.size 3 1 _ j (l.map I)) := Lib.hid hz.out
      refine wpAnyR_take (i := 0) rfl (by kernel_rfl) (by kernel_rfl) (by kernel_rfl) (fun _ _ _ h => h) hS0 (.inl ⟨by kernel_rfl, fun w' hS => (by go_simp; exact ⟨rfl, rfl⟩)⟩) rfl (by go_simp; rfl) ?_
      refine wpAnyR_take (i := 1) rfl (by kernel_rfl) (by kernel_rfl) (by kernel_rfl) (fun _ _ _ h => h) hS0 (.inl ⟨by kernel_rfl, fun w' hS => (by go_simp; exact ⟨rfl, rfl⟩)⟩) rfl (by go_simp; rfl) ?_
      refine wpAnyR_take (i := 2) rfl (by kernel_rfl) (by kernel_rfl) (by kernel_rfl) (fun _ _ _ h => h) hS0 (.inl ⟨by kernel_rfl, fun w' hS => (by go_simp; exact ⟨rfl, rfl⟩)⟩) rfl (by go_simp; rfl) ?_
      refine wpAnyR_take (i := 3) rfl (by kernel_rfl) (by kernel_rfl) (by kernel_rfl) (fun _ _ _ h => h) hS0 (.inl ⟨by kernel_rfl, fun w' hS => (by go_simp; exact ⟨rfl, rfl⟩)⟩) rfl (by go_simp; rfl) ?_
      refine wpAnyR_take (i := 4) rfl (by kernel_rfl) (by kernel_rfl) (by kernel_rfl) (fun _ _ _ h => h) hS0 (.inl ⟨by kernel_rfl, fun w' hS => (by have yc := cell_of hS ca1; go_simp; exact ⟨rfl, rfl⟩)⟩) rfl (by go_simp; rfl) ?_
      refine wpAnyR_take (i := 5) rfl (by kernel_rfl) (by kernel_rfl) (by kernel_rfl) (fun _ _ _ h => h) hS0 (.inl ⟨by kernel_rfl, fun w' hS => (by go_simp; exact ⟨rfl, rfl⟩)⟩) rfl (by go_simp; rfl) ?_
      refine wpAnyR_take (i := 6) rfl (by kernel_rfl) (by kernel_rfl) (by kernel_rfl) (fun _ _ _ h => h) hS0 (.inl ⟨by kernel_rfl, fun w' hS => (by go_simp; exact ⟨rfl, rfl⟩)⟩) rfl (by go_simp; rfl) ?_
      refine wpAnyR_take (i := 7) rfl (by kernel_rfl) (by kernel_rfl) (by kernel_rfl) (fun _ _ _ h => h) hS0 (.inl ⟨by kernel_rfl, fun w' hS => (by go_simp; exact ⟨rfl, rfl⟩)⟩) rfl (by go_simp; rfl) ?_
      refine wpAnyR_take (i := 8) rfl (by kernel_rfl) (by kernel_rfl) (by kernel_rfl) (fun _ _ _ h => h) hS0 (.inl ⟨by kernel_rfl, fun w' hS => (by go_simp; exact ⟨rfl, rfl⟩)⟩) rfl (by go_simp; rfl) ?_
      refine wpAnyR_take (i := 9) rfl (by kernel_rfl) (by kernel_rfl) (by kernel_rfl) (fun _ _ _ h => h) hS0 (.inl ⟨by kernel_rfl, fun w' hS => (by go_simp; exact ⟨rfl, rfl⟩)⟩) rfl (by go_simp; rfl) ?_
      refine wpAnyR_take (i := 10) rfl (by kernel_rfl) (by kernel_rfl) (by kernel_rfl) (fun _ _ _ h => h) hS0 (.inl ⟨by kernel_rfl, fun w' hS => (by go_simp; exact (n_at_q (HA.out.below hS) i1 y HY.out))⟩) rfl (by go_simp; rfl) ?_
      refine wpAnyR_take (i := 11) rfl (by kernel_rfl) (by kernel_rfl) (by kernel_rfl) (fun _ _ _ h => h) hS0 (.inl ⟨by kernel_rfl, fun w' hS => (by go_simp; exact ⟨rfl, rfl⟩)⟩) rfl (by go_simp; rfl) ?_
      refine wpAnyR_take (i := 12) rfl (by kernel_rfl) (by kernel_rfl) (by kernel_rfl) (fun _ _ _ h => h) hS0 (.inl ⟨by kernel_rfl, fun w' hS => (by go_simp; exact ⟨rfl, rfl⟩)⟩) rfl (by go_simp; rfl) ?_
      refine wpAnyR_take (i := 13) rfl (by kernel_rfl) (by kernel_rfl) (by kernel_rfl) (fun _ _ _ h => h) hS0 (.inl ⟨by kernel_rfl, fun w' hS => (by go_simp; exact ⟨rfl, rfl⟩)⟩) rfl (by go_simp; rfl) ?_
      refine wpAnyR_take (i := 14) rfl (by kernel_rfl) (by kernel_rfl) (by kernel_rfl) (fun _ _ _ h => h) hS0 (.inl ⟨by kernel_rfl, fun w' hS => (by go_simp; exact ⟨rfl, rfl⟩)⟩) rfl (by go_simp; rfl) ?_
      refine wpAnyR_take (i := 15) rfl (by kernel_rfl) (by kernel_rfl) (by kernel_rfl) (fun _ _ _ h => h) hS0 (.inl ⟨by kernel_rfl, fun w' hS => (by go_simp; exact ⟨rfl, rfl⟩)⟩) rfl (by go_simp; rfl) ?_
      refine wpAnyR_take (i := 16) rfl (by kernel_rfl) (by kernel_rfl) (by kernel_rfl) (fun _ _ _ h => h) hS0 (.inl ⟨by kernel_rfl, fun w' hS => (by go_simp; exact ⟨rfl, rfl⟩)⟩) rfl (by go_simp; rfl) ?_
      refine wpAnyR_one (i := 17) rfl (by kernel_rfl) rfl rfl ?_
      go_simp
      refine ⟨(hbl.out.alloc hbl.out.size _).drew, wpAnyR_one (i := 18) rfl (by kernel_rfl) rfl rfl ?_⟩
      refine wp_append_row (.tmp 25) (.tmp 42) rfl w.heap.size _ j l rfl (hz.out.alloc _).drew d wr.heap.size rfl (by simp [go_sem]) (by omega) (Nat.le_trans hbl.out.size (by simp)) ?_
      intro v' w' ho hb
      have HBB : Hid (Below w.heap.size w w') := Lib.hid ((hbl.out.alloc hbl.out.size _).drew.trans hb)
      have HO := Lib.hid ho
      clear ho hb hS0 HOW
      refine ⟨HBB.out, wpAnyR_one (i := 19) rfl (by kernel_rfl) rfl rfl ?_⟩
      go_simp
      refine ⟨HBB.out, wpAnyR_done (by kernel_rfl) ?_ _⟩
      go_wp2
      go_roundw
      case rel => exact ⟨j + 1, l ++ [d], by omega, (show Value.int .i64 (i1 : Int) = _ by congr 1; omega), HS2, HO, HBB⟩
      case measure => simp [intOf]; omega
    · have HE := Lib.hid (lowSo_end HS.out (Nat.lt_of_lt_of_le HME.out (W_mono (by omega))))
      have HLT := Lib.hid HS.out.lt
      have HLN := Lib.hid HS.out.len
      have hjn : ¬ (z : Int) + j < la := by omega
      have hj8 : j ≤ 2000 := by omega
      clear HS
      go_wp2_with fail
      refine (n_trim (ila_own hz.out) HLT.out (by rw [HLN.out]; omega)).mono ?_
      rintro e w2 hmk
      rw [HE.out] at hmk
      obtain ⟨v, rfl, hv, hb⟩ := hmk.makesN
      have HV2 := Lib.hid hv
      have HBB := Lib.hid hb
      clear hv hb hmk
      go_wp2
      go_ret
      exact ⟨_, rfl, HV2.out, hbl.out.trans (HBB.out.mono hbl.out.size)⟩

theorem n_shr {u : Value} {n : Nat} {w : World} (hu : IsN w u n) (ha8 : (digs n).length ≤ 2000) (k : Nat) (hk8 : k ≤ 20000) : Calls Try.prog 79 #[u, .int .i64 k] w (MakesN w (n / 2 ^ k)) := by
  by_cases h0 : k = 0
  · subst h0
    have := n_shr_le hu ha8 ((0 : Nat) : Int) (by omega)
    simpa using this
  · exact n_shr_pos hu ha8 k (by omega) hk8
end Go.Proofs.Ytemneeknemijpaa
