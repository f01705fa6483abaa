/- The document's answer to layer 10: Bits. -/
import Derived.Test.YtajnjghbppcfdaaRefs3
namespace Go.Proofs.Ytajnjghbppcfdaa
open Go.RowKit Go.Shelf

def nx1 (i k : Nat) : List Nat := (List.range k).map fun j => 2 * brev i j
def nx2 (i k : Nat) : List Nat := (List.range k).map fun j => 2 * brev i j + 1
theorem nx1_succ (i k : Nat) : nx1 i (k + 1) = nx1 i k ++ [2 * brev i k] := by simp [nx1, List.range_succ]
theorem nx2_succ (i k : Nat) : nx2 i (k + 1) = nx2 i k ++ [2 * brev i k + 1] := by simp [nx2, List.range_succ]
theorem bits_succ (i : Nat) : bits (i + 1) = nx1 i (2 ^ i) ++ nx2 i (2 ^ i) := by
  apply ext_getD
  · simp [bits, nx1, nx2, Nat.pow_succ]; omega
  · intro j hj
    rw [bits_length] at hj
    rw [bits_getD _ _ hj, append_getD, brev_top]
    have hl : (nx1 i (2 ^ i)).length = 2 ^ i := by simp [nx1]
    rw [hl]
    rw [Nat.pow_succ] at hj
    by_cases h : j < 2 ^ i
    · rw [if_pos h, Nat.div_eq_of_lt h]
      simp [nx1, h]
    · rw [if_neg h]
      obtain ⟨x, rfl⟩ : ∃ x, j = 1 * 2 ^ i + x := ⟨j - 2 ^ i, by omega⟩
      have hx : x < 2 ^ i := by omega
      rw [brev_mod, show 1 * 2 ^ i + x - 2 ^ i = x by omega, Nat.add_comm (1 * 2 ^ i) x, Nat.add_mul_div_right _ _ (Nat.two_pow_pos i), Nat.div_eq_of_lt hx]
      simp [nx2, hx]
theorem brev_small (i k : Nat) (h : i ≤ 12) : brev i k ≤ 4096 := by
  have h1 := brev_lt i k
  have h2 : 2 ^ i ≤ 2 ^ 12 := Nat.pow_le_pow_right (by decide) h
  omega

theorem wpListI_append_row {w : World} {ops : Array Oper} {rest : List Oper} {o : Oper} {act : Act} {Q : Exit → Act → World → Prop} (hgd : o.guard = none) (s x : Operand)
    (ho : o.op = .call { callee := .builtin .append, args := #[s, x], argTypes := #[26, 26] })
    (base : Nat) (v : Value) (k : Nat) (l : List Nat) (hs : act.eval s = v) (hown : w.ownsRow base 3 1 v k (l.map I)) (y : Nat) (h0 : Nat) (hx : act.eval x = .slice (some ⟨h0, 0, none⟩) 1 1) (hm : w.cell? ⟨h0, 0, none⟩ = some (I y)) (hsz : k + 1 ≤ 10000) (hb : base ≤ w.heap.size)
    (h : ∀ v' w', w'.ownsRow base 3 1 v' (k + 1) ((l ++ [y]).map I) → Below base w w' → wpList Try.prog ops Q rest (act.put o.dst v') w') : wpList Try.prog ops Q (o :: rest) act w := by
  obtain ⟨i0, hi, hz0, hz1, hz2⟩ := info_parts info3
  refine wpList_append_own _ hgd s x 26 ho base 3 i0 (.int .i64 0) 1 8 Try.underlying26 hi hz0 hz1 hz2 rfl (by decide) v k (l.map I) hs hown ⟨h0, 0, none⟩ 1 1 [I y] hx rfl ?_ ?_ (by unfold maxLen; omega) (by omega) hb ?_
  · intro j u hj
    match j, hj with
    | 0, hj => simp at hj; subst hj; simpa [Addr.add] using hm
  · intro u hu
    simp at hu
    subst hu
    rfl
  · intro v' w1 ho' hg _
    have ho2 : w1.ownsRow base 3 1 v' (k + 1) ((l ++ [y]).map I) := by rw [List.map_append]; exact ho'
    exact h v' w1 ho2 ((Below.refl _ _).grown hg hb (own_base hown))

set_option maxHeartbeats 2000000 in
theorem bitsr_c (p : Nat) (hp : p ≤ 12) (w : World) : Calls Try.prog 13 #[.int .i64 p] w fun e W' => ∃ v, e = .returned v ∧ W'.ownsRow w.heap.size 3 1 v (2 ^ p) ((bits p).map I) ∧ Below w.heap.size w W' := by
  have hp1 : (p : Int) ≤ 12 := by omega
  have HO := Lib.hid (show (w.alloc (.cells #[.int .i64 0] 3)).ownsRow w.heap.size 3 1 (.slice (some ⟨w.heap.size, 0, none⟩) 1 1) 1 ((bits 0).map I) from World.ownsRow_lit w #[.int .i64 0] 1 (Nat.le_refl _) (by decide) rfl)
  go_enter Try.func13, Try.ntmps13
  go_wp2
  go_loopw [3, 4, 5, 6, 7] (fun s i _ _ _ wr => ∃ k m : Nat, k ≤ p ∧ m = 2 ^ k ∧ i = .int .i64 k ∧ Hid (wr.ownsRow w.heap.size 3 1 s m ((bits k).map I)) ∧ Hid (Below w.heap.size w wr)) (fun _ i _ _ _ _ => p - (intOf i).toNat)
  case atStart => exact ⟨0, 1, Nat.zero_le _, rfl, rfl, HO, Lib.hid ((Below.refl _ _).alloc (Nat.le_refl _) _)⟩
  case round =>
    obtain ⟨k, m, hk, hm, rfl, hz, hbl⟩ := hrel
    have hm1 : m ≤ 4096 := by rw [hm]; exact Nat.pow_le_pow_right (n := 2) (i := k) (j := 12) (by decide) (by omega)
    have hm0 : 0 < m := by rw [hm]; exact Nat.two_pow_pos k
    by_cases hlt : k < p
    · obtain ⟨g, cap, hv, hg0, hg1, hcs, hfz⟩ := ownsI_pos hz.out hm0
      have hki : (k : Int) < (p : Int) := by omega
      obtain ⟨W0, rfl⟩ : ∃ W0, W0 = wr := ⟨wr, rfl⟩
      subst hv
      have HC := Lib.hid hcs
      have HM := Lib.hid hm
      clear hcs hfz hm
      go_wp2
      go_loopw [5, 6] (fun s j wr => ∃ x : Nat, x ≤ m ∧ j = .int .i64 x ∧ Hid (wr.ownsRow W0.heap.size 3 1 s x ((nx1 k x).map I)) ∧ Hid (Below W0.heap.size W0 wr)) (fun _ j _ => m - (intOf j).toNat)
      case atStart => exact ⟨0, Nat.zero_le _, rfl, Lib.hid (World.ownsRow_nil _ _ _ _), Lib.hid (Below.refl _ _)⟩
      case round =>
        obtain ⟨x, hx, rfl, hza, hba⟩ := hrel
        by_cases hxl : x < m
        · obtain ⟨y, hy⟩ : ∃ y, brev k x = y := ⟨_, rfl⟩
          have hyb : y ≤ 4096 := by rw [← hy]; exact brev_small k x (by omega)
          have hc0 := HC.out x hxl
          rw [bits_getD k x (by rw [← HM.out]; exact hxl), hy] at hc0
          have hc1 := (hba.out.cell (p := ⟨g, x, none⟩) hg1).trans hc0
          have hxi : (x : Int) < (m : Int) := by omega
          have e2 : (2 : Int) * (y : Int) = ((2 * y : Nat) : Int) := by omega
          have hl : Hid ((wr.alloc (.cells #[.int .i64 (2 * (y : Int))] 3)).cell? ⟨wr.heap.size, 0, none⟩ = some (I (2 * y))) := Lib.hid (by rw [World.cell?_alloc_at _ _ _ _ rfl, e2]; rfl)
          have HY := Lib.hid hy
          clear hc0 hy e2
          go_wp2_with (at_builtin; refine wpListI_append_row rfl (.tmp 26) (.tmp 32) rfl W0.heap.size _ x _ rfl (hza.out.alloc _) (2 * y) wr.heap.size rfl hl.out (by omega) (Nat.le_trans hba.out.size (by simp)) ?_; intro v' w' ho hb)
          go_roundw
          case rel =>
            refine ⟨x + 1, by omega, by go_num, Lib.hid ?_, Lib.hid ((hba.out.alloc hba.out.size _).trans hb)⟩
            rw [nx1_succ, HY.out]
            exact ho
          case measure => simp [intOf] <;> omega
        · have hxm : x = m := by omega
          subst hxm
          go_wp2
          go_loopw [5, 7] (fun s j wr => ∃ z : Nat, z ≤ x ∧ j = .int .i64 z ∧ Hid (wr.ownsRow W0.heap.size 3 1 s (x + z) ((nx1 k x ++ nx2 k z).map I)) ∧ Hid (Below W0.heap.size W0 wr)) (fun _ j _ => x - (intOf j).toNat)
          case atStart => exact ⟨0, Nat.zero_le _, rfl, Lib.hid (by rw [Nat.add_zero, show nx1 k x ++ nx2 k 0 = nx1 k x by simp [nx2]]; exact hza.out), hba⟩
          case round =>
            obtain ⟨z, hzx, rfl, hzb, hbb⟩ := hrel
            by_cases hzl : z < x
            · obtain ⟨y, hy⟩ : ∃ y, brev k z = y := ⟨_, rfl⟩
              have hyb : y ≤ 4096 := by rw [← hy]; exact brev_small k z (by omega)
              have hc0 := HC.out z hzl
              rw [bits_getD k z (by rw [← HM.out]; exact hzl), hy] at hc0
              have hc1 := (hbb.out.cell (p := ⟨g, z, none⟩) hg1).trans hc0
              have hxi : (z : Int) < (x : Int) := by omega
              have e2 : (2 : Int) * (y : Int) + 1 = ((2 * y + 1 : Nat) : Int) := by omega
              have hl : Hid ((wr.alloc (.cells #[.int .i64 (2 * (y : Int) + 1)] 3)).cell? ⟨wr.heap.size, 0, none⟩ = some (I (2 * y + 1))) := Lib.hid (by rw [World.cell?_alloc_at _ _ _ _ rfl, e2]; rfl)
              have HY := Lib.hid hy
              clear hc0 hy e2
              go_wp2_with (at_builtin; refine wpListI_append_row rfl (.tmp 40) (.tmp 47) rfl W0.heap.size _ (x + z) _ rfl (hzb.out.alloc _) (2 * y + 1) wr.heap.size rfl hl.out (by omega) (Nat.le_trans hbb.out.size (by simp)) ?_; intro v' w' ho hb)
              go_roundw
              case rel =>
                refine ⟨z + 1, by omega, by go_num, Lib.hid ?_, Lib.hid ((hbb.out.alloc hbb.out.size _).trans hb)⟩
                rw [nx2_succ, HY.out, ← List.append_assoc, ← Nat.add_assoc]
                exact ho
              case measure => simp [intOf] <;> omega
            · have hzm : z = x := by omega
              subst hzm
              go_wp2
              go_roundw
              case rel =>
                refine ⟨k + 1, z + z, by omega, by rw [Nat.pow_succ, ← HM.out]; omega, by go_num, Lib.hid ?_, Lib.hid (hbl.out.trans (hbb.out.mono hbl.out.size))⟩
                rw [bits_succ, ← HM.out]
                exact ownsI_base hzb.out hbl.out.size
              case measure => simp [intOf] <;> omega
    · have hkp : k = p := by omega
      subst hkp
      subst hm
      go_wp2
      go_ret
      exact ⟨_, rfl, hz.out, hbl.out⟩
end Go.Proofs.Ytajnjghbppcfdaa
