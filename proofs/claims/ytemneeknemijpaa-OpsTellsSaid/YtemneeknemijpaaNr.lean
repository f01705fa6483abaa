/- Rows of ints; trim, at of the document's naturals. No condition but the rows' length. -/
import Derived.Test.YtemneeknemijpaaNd
import Derived.Test.YtemneeknemijpaaRows
import Derived.WalkKit
import Derived.WalkLawsBesides
import Derived.Outline
import Derived.Below
import Derived.Lib.Hide
import Derived.OwnWalk
import Derived.WalkSpells
import Derived.Laws.AppendOwnNone
import Derived.Maps.AppendAt
import Derived.LoopTactic
namespace Go.Proofs.Ytemneeknemijpaa
open Go.RowKit

abbrev I (x : Nat) : Value := .int .i64 x
theorem info3 : (Try.prog.info? 3).map (fun i => (i.zero, i.size, i.bytes)) = some (some (.int .i64 0), 1, 8) := by kernel_rfl
theorem n_cell_lt {w : World} {b o : Nat} {v : Value} (h : w.cell? ⟨b, o, none⟩ = some v) : b < w.heap.size := by
  unfold World.cell? at h
  apply Nat.lt_of_not_le
  intro hle
  rw [Array.getElem?_eq_none hle] at h
  cases h
/-- A slice of ints that reads as the list l. -/
def IsI (w : World) (a : Option Addr) (len : Nat) (l : List Nat) : Prop :=
  l.length = len ∧ (len = 0 ∨ ∃ b off, a = some ⟨b, off, none⟩ ∧ (∀ k, k < l.length → w.cell? ⟨b, off + k, none⟩ = some (I (l.getD k 0))))
theorem IsI.below {w w' : World} {a : Option Addr} {len : Nat} {l : List Nat} (h : IsI w a len l) (hb : Below w.heap.size w w') : IsI w' a len l := by
  obtain ⟨h1, h2⟩ := h
  refine ⟨h1, ?_⟩
  rcases h2 with h2 | ⟨b, off, rfl, hc⟩
  · exact .inl h2
  · refine .inr ⟨b, off, rfl, fun k hk => ?_⟩
    rw [hb.cell (p := ⟨b, off + k, none⟩) (n_cell_lt (hc k hk)), hc k hk]
theorem isI_own {w : World} {base n : Nat} {v : Value} {l : List Nat} (h : w.ownsRow base 3 1 v n (l.map I)) : ∃ a cap, v = .slice a n cap ∧ IsI w a n l := by
  have hl : l.length = n := by have := h.1; simpa using this
  rcases h.2 with ⟨rfl, rfl⟩ | ⟨g, cap, cur, rfl, hg, hh, hr⟩
  · exact ⟨none, 0, rfl, hl, .inl rfl⟩
  · refine ⟨_, cap, rfl, hl, .inr ⟨g, 0, rfl, fun k hk => ?_⟩⟩
    rw [Nat.zero_add, World.ownsRow.cellAt h k (by omega), List.getElem?_map, List.getElem?_eq_getElem hk, List.getD_eq_getElem?_getD, List.getElem?_eq_getElem hk]
    rfl
theorem isI_cells {w : World} {p : Addr} {len : Nat} {l : List Nat} (h : IsI w (some p) len l) (j : Nat) (u : Value) (hj : (l.map I)[j]? = some u) : w.cell? (p.add j) = some u := by
  have hjl : j < l.length := by
    have := (List.getElem?_eq_some_iff.1 hj).1
    simpa using this
  rcases h.2 with h0 | ⟨b, off, hp, hc⟩
  · have := h.1; omega
  · cases hp
    have := hc j hjl
    rw [List.getElem?_map, List.getElem?_eq_getElem hjl] at hj
    rw [List.getD_eq_getElem?_getD, List.getElem?_eq_getElem hjl] at this
    simp only [Option.map_some, Option.some.injEq] at hj
    rw [← hj]
    have h3 : w.cell? ⟨b, off + j, none⟩ = some (I l[j]) := by simpa using this
    by_cases hj0 : j = 0
    · subst hj0; simpa [Addr.add] using h3
    · simpa [Addr.add, hj0] using h3
/-- A value that is a slice of ints and reads as l. -/
def Ila (w : World) (v : Value) (l : List Nat) : Prop := ∃ a n c, v = .slice a n c ∧ IsI w a n l ∧ (a = none → n = 0 ∧ c = 0) ∧ n ≤ c
theorem Ila.below {w w' : World} {v : Value} {l : List Nat} (h : Ila w v l) (hb : Below w.heap.size w w') : Ila w' v l := by
  obtain ⟨a, n, c, h1, h2, h3, h4⟩ := h
  exact ⟨a, n, c, h1, h2.below hb, h3, h4⟩
theorem ila_own {w : World} {base n : Nat} {v : Value} {l : List Nat} (h : w.ownsRow base 3 1 v n (l.map I)) : Ila w v l := by
  obtain ⟨a, cap, rfl, hf⟩ := isI_own h
  refine ⟨a, n, cap, rfl, hf, ?_, ?_⟩
  · rintro rfl
    rcases h.2 with ⟨h1, rfl⟩ | ⟨g, c, cur, h1, _⟩
    · simp at h1; exact ⟨rfl, h1⟩
    · simp at h1
  · rcases h.2 with ⟨h1, rfl⟩ | ⟨g, c, cur, h1, _, _, hnc, _⟩
    · exact Nat.zero_le _
    · simp at h1; omega
theorem n_own_base {w : World} {base e size n : Nat} {v : Value} {xs : List Value} (h : w.ownsRow base e size v n xs) : ∀ k, v.ownBlock = some k → base ≤ k := by
  intro k hk
  rcases h.2 with ⟨rfl, _⟩ | ⟨g, cap, cur, rfl, hg, _⟩
  · cases hk
  · cases hk; exact hg
theorem oneI (l : List Nat) : ∀ u ∈ l.map I, u.oneCell' = true := by
  intro u hu
  obtain ⟨x, _, rfl⟩ := List.mem_map.1 hu
  rfl
theorem n_append {w : World} {ops : Array Oper} {rest : List Oper} {o : Oper} {act : Act} {Q : Exit → Act → World → Prop} (hgd : o.guard = none) (s x : Operand)
    (ho : o.op = .call { callee := .builtin .append, args := #[s, x], argTypes := #[33, 33] })
    (base : Nat) (v : Value) (k : Nat) (l : List Nat) (hs : act.eval s = v) (hown : w.ownsRow base 3 1 v k (l.map I)) (u : Value) (m : List Nat) (hx : act.eval x = u) (hm : Ila w u m) (hsz : k + m.length ≤ 10000) (hb : base ≤ w.heap.size)
    (h : ∀ v' w', w'.ownsRow base 3 1 v' (k + m.length) ((l ++ m).map I) → Below base w w' → wpList Try.prog ops Q rest (act.put o.dst v') w') : wpList Try.prog ops Q (o :: rest) act w := by
  obtain ⟨i0, hi, hz0, hz1, hz2⟩ := info_parts info3
  obtain ⟨a, n, c, rfl, h2, h3, h4⟩ := hm
  have hlen := h2.1
  cases a with
  | none =>
    obtain ⟨rfl, rfl⟩ := h3 rfl
    have hm0 : m = [] := List.length_eq_zero_iff.1 hlen
    subst hm0
    exact wpList_append_own_none hgd s x 33 ho base 3 i0 1 Try.underlying33 hi v k (l.map I) hs hown hx (h _ _ (by simpa using hown) (Below.refl _ _))
  | some ad =>
    refine wpList_append_own _ hgd s x 33 ho base 3 i0 (.int .i64 0) 1 8 Try.underlying33 hi hz0 hz1 hz2 rfl (by decide) v k (l.map I) hs hown ad n c (m.map I) hx (by simp [hlen]) (isI_cells h2) (oneI m) (by unfold maxLen; omega) (by omega) hb ?_
    intro v' w1 ho' hg _
    rw [← hlen, ← List.map_append] at ho'
    exact h v' w1 ho' ((Below.refl _ _).grown hg hb (n_own_base hown))

/-- A new row that reads as l; what was there is as it was. -/
def MakesI (w : World) (l : List Nat) (e : Ending) (W' : World) : Prop := ∃ v, e = .returned v ∧ W'.ownsRow w.heap.size 3 1 v l.length (l.map I) ∧ Below w.heap.size w W'

theorem n_at_in {a : Option Addr} {len cap : Nat} {l : List Nat} {w : World} (h : IsI w a len l) (i : Nat) (hi : i < len) : Calls Try.prog 81 #[.slice a len cap, .int .i64 i] w fun e w' => e = .returned (I (l.getD i 0)) ∧ w = w' := by
  obtain ⟨b, off, rfl, hc⟩ : ∃ b off, a = some ⟨b, off, none⟩ ∧ w.cell? ⟨b, off + i, none⟩ = some (I (l.getD i 0)) := by
    rcases h.2 with h0 | ⟨b, off, h1, hc⟩
    · omega
    · exact ⟨b, off, h1, hc i (by rw [h.1]; exact hi)⟩
  generalize l.getD i 0 = y at hc ⊢
  have h1 : (i : Int) < (len : Int) := by omega
  go_enter Try.func81, Try.ntmps81
  go_wp2
  go_ret
  exact ⟨rfl, rfl⟩
theorem n_at_out (a : Option Addr) (len cap : Nat) (w : World) (i : Nat) (hi : ¬ i < len) : Calls Try.prog 81 #[.slice a len cap, .int .i64 i] w fun e w' => e = .returned (I 0) ∧ w = w' := by
  have h1 : ¬ (i : Int) < (len : Int) := by omega
  go_enter Try.func81, Try.ntmps81
  go_wp2
  go_ret
  exact ⟨rfl, rfl⟩
theorem n_at {a : Option Addr} {len cap : Nat} {l : List Nat} {w : World} (h : IsI w a len l) (i : Nat) : Calls Try.prog 81 #[.slice a len cap, .int .i64 i] w fun e w' => e = .returned (I (l.getD i 0)) ∧ w = w' := by
  by_cases hi : i < len
  · exact n_at_in h i hi
  · have := h.1
    rw [List.getD_eq_getElem?_getD, List.getElem?_eq_none (by omega)]
    exact n_at_out a len cap w i hi

theorem isI_take {w : World} {a : Option Addr} {n : Nat} {l : List Nat} (h : IsI w a n l) {k : Nat} (hk : k ≤ n) : IsI w a k (l.take k) := by
  have hl := h.1
  refine ⟨by rw [List.length_take]; omega, ?_⟩
  by_cases h0 : k = 0
  · exact .inl h0
  · rcases h.2 with h1 | ⟨b, off, h1, hc⟩
    · omega
    · refine .inr ⟨b, off, h1, fun i hi => ?_⟩
      rw [List.length_take] at hi
      have := hc i (by omega)
      rw [this]
      simp only [I, List.getD_eq_getElem?_getD, List.getElem?_take, show i < k by omega, if_true]
theorem n_nil_own (w : World) : (w.alloc (.cells #[] 3)).ownsRow w.heap.size 3 1 (.slice (some ⟨w.heap.size, 0, none⟩) 0 0) 0 (([] : List Nat).map I) := by
  have := World.ownsRow_lit (base := w.heap.size) (size := 1) (e := 3) w (#[] : Array Value) 0 (Nat.le_refl _) (by unfold maxLen; omega) (by simp)
  simpa using this

set_option maxHeartbeats 1000000 in
theorem n_trim {w : World} {v : Value} {l : List Nat} (hv : Ila w v l) (hl : ∀ d ∈ l, d < 16777216) (h8 : l.length ≤ 5000) : Calls Try.prog 80 #[v] w (MakesI w (digs (num l))) := by
  obtain ⟨a, n, c, rfl, h, ha, hc⟩ := hv
  have hn := h.1
  have HA := Lib.hid h
  have HL := Lib.hid hl
  have hn8 : (n : Int) ≤ 5000 := by omega
  have hci : (n : Int) ≤ c := by omega
  clear h hl
  cases a with
  | none =>
    obtain ⟨rfl, rfl⟩ := ha rfl
    have hl0 : l = [] := List.length_eq_zero_iff.1 hn
    subst hl0
    have HD : Hid (digs (num []) = []) := Lib.hid (by rw [num, digs_zero])
    go_enter Try.func80, Try.ntmps80
    go_wp2
    go_loop [3] (fun t => t = .int .i64 0) (fun t => (intOf t).toNat)
    case atStart => exact rfl
    case round =>
      subst hrel
      go_wp2_with (at_builtin; refine n_append rfl (.tmp 18) (.tmp 21) rfl w.heap.size _ 0 [] rfl (n_nil_own w) _ [] rfl ⟨none, 0, 0, rfl, ⟨rfl, .inl rfl⟩, fun _ => ⟨rfl, rfl⟩, Nat.le_refl _⟩ (by simp) (by simp) ?_; intro v' w' ho hb)
      go_ret
      exact ⟨_, rfl, by rw [HD.out]; exact ho, ((Below.refl _ w).alloc (Nat.le_refl _) _).trans hb⟩
  | some ad =>
    clear ha
    go_enter Try.func80, Try.ntmps80
    go_wp2
    go_loop [3] (fun t => ∃ k : Nat, k ≤ n ∧ t = .int .i64 k ∧ Hid (∀ i, k ≤ i → l.getD i 0 = 0)) (fun t => (intOf t).toNat)
    case atStart => exact ⟨n, Nat.le_refl _, rfl, Lib.hid (fun i hi => by rw [List.getD_eq_getElem?_getD, List.getElem?_eq_none (by omega)]; rfl)⟩
    case round =>
      obtain ⟨k, hk, rfl, HZ⟩ := hrel
      by_cases h0 : k = 0
      · subst h0
        have HD : Hid (l.take 0 = digs (num l)) := Lib.hid (digs_take l HL.out 0 (Nat.zero_le _) HZ.out (fun h => absurd rfl h))
        go_wp2_with (at_builtin; (refine n_append rfl (.tmp 18) (.tmp 21) rfl w.heap.size _ 0 [] rfl (n_nil_own w) _ (l.take 0) rfl ⟨some ad, 0, c, rfl, (isI_take HA.out (Nat.zero_le _)).below ((Below.refl _ w).alloc (Nat.le_refl _) _), fun h => (by cases h), Nat.zero_le _⟩ (by simp) (by simp) ?_); intro v' w' ho hb)
        go_ret
        refine ⟨_, rfl, ?_, ((Below.refl _ w).alloc (Nat.le_refl _) _).trans hb⟩
        rw [← HD.out]
        simpa using ho
      · obtain ⟨b, off, hab, hcell⟩ : ∃ b off, some ad = some ⟨b, off, none⟩ ∧ w.cell? ⟨b, off + (k - 1), none⟩ = some (I (l.getD (k - 1) 0)) := by
          rcases HA.out.2 with h0 | ⟨b, off, h1, hc⟩
          · omega
          · exact ⟨b, off, h1, hc _ (by omega)⟩
        obtain rfl := Option.some.inj hab
        clear hab
        obtain ⟨j, rfl⟩ : ∃ j, k = j + 1 := ⟨k - 1, by omega⟩
        rw [Nat.add_sub_cancel] at hcell
        obtain ⟨y, hy⟩ : ∃ y, l.getD j 0 = y := ⟨_, rfl⟩
        rw [hy] at hcell
        have hkj : ((j + 1 : Nat) : Int) = (j : Int) + 1 := by push_cast; rfl
        rw [hkj]
        have hjn : (j : Int) < n := by omega
        have HY := Lib.hid hy
        clear hy hkj
        by_cases hy0 : y = 0
        · subst hy0
          go_wp2
          go_round
          case rel => exact ⟨j, by omega, rfl, Lib.hid (fun i hi => by rcases Nat.lt_or_ge j i with h | h; exact HZ.out i (by omega); rw [show i = j by omega]; exact HY.out)⟩
          case measure => simp [intOf]
        · have hyi : ((y : Int) == 0) = false := by simpa using hy0
          have HD : Hid (l.take (j + 1) = digs (num l)) := Lib.hid (digs_take l HL.out (j + 1) (by omega) HZ.out (fun _ => by rw [Nat.add_sub_cancel, HY.out]; exact hy0))
          go_wp2_with (at_builtin; (refine n_append rfl (.tmp 18) (.tmp 21) rfl w.heap.size _ 0 [] rfl (n_nil_own w) _ (l.take (j + 1)) rfl ⟨some ⟨b, off, none⟩, j + 1, c, rfl, (isI_take HA.out hk).below ((Below.refl _ w).alloc (Nat.le_refl _) _), fun h => (by cases h), by omega⟩ (by simp; omega) (by simp) ?_); intro v' w' ho hb)
          go_ret
          refine ⟨_, rfl, ?_, ((Below.refl _ w).alloc (Nat.le_refl _) _).trans hb⟩
          rw [← HD.out]
          simpa using ho
end Go.Proofs.Ytemneeknemijpaa
