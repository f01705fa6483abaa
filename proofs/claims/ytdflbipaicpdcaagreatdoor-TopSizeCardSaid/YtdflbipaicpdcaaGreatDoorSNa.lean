/- Naturals as rows of limbs below 2^24, plain. Rows of ints; trim, at of the document's naturals. No condition but the rows' length. Of, Add of the document's naturals. No condition but the sizes. Add of the document's naturals. No condition but the sizes. Cmp, Same of the document's naturals. No condition but the sizes. Sub of the document's naturals. No condition but the sizes. Shl of the document's naturals. No condition but the sizes. THE LAW OF A REGION MOST OF WHOSE OPERATIONS ONLY READ: an operation that leaves a value of its own and keeps the world, in every world that meets S, is taken first; what makes memory comes after, in its own world. Shr of the document's naturals. No condition but the sizes. Mul of the document's naturals, plain: out[i+k] += a[i] * b[k] with a carry. Mul of the document's naturals. No condition but the sizes. No condition. -/
import Derived.Test.YtdflbipaicpdcaaGreatDoorRows
import Derived.WalkKit
import Derived.WalkLawsBesides
import Derived.Outline
import Derived.Below
import Derived.Lib.Hide
import Derived.OwnWalk
import Derived.WalkSpells
import Derived.Laws.AppendOwnNone
import Derived.Maps.AppendAt
import Derived.LoopTactic
import Derived.Deep.QuietTactic
import Derived.BigQuiet
import Derived.Deep.RegionHeld3
import Derived.Laws.MakeOwn
import Derived.OrdersHeld
namespace Go.Proofs.YtdflbipaicpdcaaGreatDoor

/-- 2^24 to the i -/
def W (i : Nat) : Nat := 16777216 ^ i
theorem W_zero : W 0 = 1 := rfl
theorem W_succ (i : Nat) : W (i + 1) = 16777216 * W i := by unfold W; rw [Nat.pow_succ, Nat.mul_comm]
theorem W_pos (i : Nat) : 0 < W i := Nat.pow_pos (by decide)
theorem W_add (i j : Nat) : W (i + j) = W i * W j := by unfold W; exact Nat.pow_add _ _ _
theorem W_mono {i j : Nat} (h : i ≤ j) : W i ≤ W j := Nat.pow_le_pow_right (by decide) h

/-- limb i; what lies below it -/
def limb (n i : Nat) : Nat := n / W i % 16777216
def low (n i : Nat) : Nat := n % W i
theorem limb_lt (n i : Nat) : limb n i < 16777216 := Nat.mod_lt _ (by decide)
theorem low_zero (n : Nat) : low n 0 = 0 := by unfold low; rw [W_zero]; exact Nat.mod_one n
theorem low_succ (n i : Nat) : low n (i + 1) = low n i + W i * limb n i := by
  unfold low limb
  rw [W_succ, Nat.mul_comm 16777216, Nat.mod_mul]
theorem low_all {n i : Nat} (h : n < W i) : low n i = n := Nat.mod_eq_of_lt h
theorem limb_zero_of {n i : Nat} (h : n < W i) : limb n i = 0 := by unfold limb; rw [Nat.div_eq_of_lt h]

/-- the number that a row tells -/
def num : List Nat → Nat
  | [] => 0
  | d :: l => d + 16777216 * num l
theorem num_snoc : ∀ (l : List Nat) (x : Nat), num (l ++ [x]) = num l + W l.length * x
  | [], x => by simp [num, W_zero]
  | d :: l, x => by
    rw [List.cons_append, num, num, num_snoc l x, List.length_cons, W_succ, Nat.mul_add, Nat.mul_assoc]
    omega
theorem num_lt : ∀ (l : List Nat), (∀ d ∈ l, d < 16777216) → num l < W l.length
  | [], _ => by simp [num, W_zero]
  | d :: l, h => by
    have h1 := num_lt l (fun x hx => h x (List.mem_cons_of_mem _ hx))
    have h2 := h d (List.mem_cons_self ..)
    rw [num, List.length_cons, W_succ]
    omega
theorem num_limb : ∀ (l : List Nat), (∀ d ∈ l, d < 16777216) → ∀ i, limb (num l) i = l.getD i 0
  | [], _, i => by simp [num, limb]
  | d :: l, h, 0 => by
    have h2 := h d (List.mem_cons_self ..)
    simp only [num, limb, W_zero, Nat.div_one, List.getD_cons_zero]
    omega
  | d :: l, h, i + 1 => by
    have h2 := h d (List.mem_cons_self ..)
    rw [List.getD_cons_succ, ← num_limb l (fun x hx => h x (List.mem_cons_of_mem _ hx)) i]
    unfold limb
    rw [W_succ, ← Nat.div_div_eq_div_mul, num, show (d + 16777216 * num l) / 16777216 = num l by omega]

/-- a number's row: its limbs, without noughts at the end -/
def digs (n : Nat) : List Nat := if h : n = 0 then [] else n % 16777216 :: digs (n / 16777216)
termination_by n
decreasing_by omega
theorem digs_zero : digs 0 = [] := by rw [digs]; simp
theorem digs_pos {n : Nat} (h : n ≠ 0) : digs n = n % 16777216 :: digs (n / 16777216) := by
  conv => lhs; rw [digs]
  rw [dif_neg h]
theorem num_digs (n : Nat) : num (digs n) = n := by
  induction n using Nat.strongRecOn with
  | _ n ih =>
    by_cases h : n = 0
    · subst h; rw [digs_zero]; rfl
    · rw [digs_pos h, num, ih _ (by omega)]; omega
theorem digs_lt (n : Nat) : ∀ d ∈ digs n, d < 16777216 := by
  induction n using Nat.strongRecOn with
  | _ n ih =>
    by_cases h : n = 0
    · subst h; rw [digs_zero]; intro d hd; cases hd
    · rw [digs_pos h]
      intro d hd
      rcases List.mem_cons.1 hd with rfl | hd
      · exact Nat.mod_lt _ (by decide)
      · exact ih _ (by omega) d hd
theorem digs_limb (n i : Nat) : (digs n).getD i 0 = limb n i := by rw [← num_limb _ (digs_lt n), num_digs]
theorem digs_len_lt (n : Nat) : n < W (digs n).length := by have := num_lt _ (digs_lt n); rwa [num_digs] at this
theorem digs_of_num : ∀ (l : List Nat), (∀ d ∈ l, d < 16777216) → (∀ h : l ≠ [], l.getLast h ≠ 0) → digs (num l) = l
  | [], _, _ => by rw [num, digs_zero]
  | d :: l, h, hl => by
    have h2 := h d (List.mem_cons_self ..)
    have ih := digs_of_num l (fun x hx => h x (List.mem_cons_of_mem _ hx)) (fun hn => by have := hl (List.cons_ne_nil _ _); rwa [List.getLast_cons hn] at this)
    have hne : num (d :: l) ≠ 0 := by
      intro h0
      rw [num] at h0
      by_cases hn : l = []
      · subst hn
        have := hl (List.cons_ne_nil _ _)
        simp at this
        omega
      · have : num l ≠ 0 := fun h1 => by rw [h1, digs_zero] at ih; exact hn ih.symm
        omega
    rw [digs_pos hne, num, show (d + 16777216 * num l) % 16777216 = d by omega, show (d + 16777216 * num l) / 16777216 = num l by omega, ih]
theorem digs_ne_last (n : Nat) : ∀ h : digs n ≠ [], (digs n).getLast h ≠ 0 := by
  induction n using Nat.strongRecOn with
  | _ n ih =>
    by_cases h : n = 0
    · subst h; intro hn; exact absurd digs_zero hn
    · rw [digs_pos h]
      intro hn
      by_cases h2 : digs (n / 16777216) = []
      · have : n / 16777216 = 0 := by have := num_digs (n / 16777216); rw [h2] at this; exact this.symm
        simp only [h2, List.getLast_singleton]
        omega
      · rw [List.getLast_cons h2]
        exact ih _ (by omega) h2
theorem digs_len_le (n : Nat) (h : n ≠ 0) : W ((digs n).length - 1) ≤ n := by
  have hne : digs n ≠ [] := fun h0 => by have := num_digs n; rw [h0] at this; exact h this.symm
  have hl := digs_ne_last n hne
  obtain ⟨l, x, hx⟩ : ∃ l x, digs n = l ++ [x] := ⟨(digs n).dropLast, (digs n).getLast hne, (List.dropLast_concat_getLast hne).symm⟩
  have hn := num_digs n
  have hx0 : x ≠ 0 := by simpa [hx] using hl
  rw [hx] at hn ⊢
  rw [num_snoc] at hn
  rw [List.length_append, List.length_singleton, Nat.add_sub_cancel]
  have : W l.length ≤ W l.length * x := Nat.le_mul_of_pos_right _ (by omega)
  omega
/-- noughts at the end tell nothing -/
theorem num_take : ∀ (l : List Nat) (k : Nat), (∀ i, k ≤ i → l.getD i 0 = 0) → num (l.take k) = num l
  | [], _, _ => by simp
  | d :: l, 0, h => by
    have h0 := h 0 (Nat.le_refl _)
    have ih := num_take l 0 (fun i _ => by have := h (i + 1) (Nat.zero_le _); simpa using this)
    simp only [List.getD_cons_zero] at h0
    rw [List.take_zero, num] at ih
    rw [List.take_zero, num, num, h0, ← ih]
  | d :: l, k + 1, h => by
    rw [List.take_succ_cons, num, num, num_take l k (fun i hi => by have := h (i + 1) (by omega); simpa using this)]
/-- the row of what a row tells: without the noughts at its end -/
theorem digs_take (l : List Nat) (hl : ∀ d ∈ l, d < 16777216) (k : Nat) (hk : k ≤ l.length) (hz : ∀ i, k ≤ i → l.getD i 0 = 0) (hn : k ≠ 0 → l.getD (k - 1) 0 ≠ 0) : l.take k = digs (num l) := by
  rw [← num_take l k hz]
  refine (digs_of_num _ (fun d hd => hl d (List.mem_of_mem_take hd)) (fun hne => ?_)).symm
  have hk0 : k ≠ 0 := by intro h0; subst h0; exact hne (List.take_zero ..)
  have h1 := hn hk0
  rw [List.getLast_eq_getElem]
  have hlen : (l.take k).length = k := by rw [List.length_take]; omega
  rw [List.getElem_take]
  have : l.getD (k - 1) 0 = l[k - 1]'(by omega) := by rw [List.getD_eq_getElem?_getD, List.getElem?_eq_getElem (by omega)]; rfl
  rw [this] at h1
  simpa [hlen] using h1
end Go.Proofs.YtdflbipaicpdcaaGreatDoor
namespace Go.Proofs.YtdflbipaicpdcaaGreatDoor
open Go.RowKit

abbrev I (x : Nat) : Value := .int .i64 x
theorem info3 : (Tryz.prog.info? 3).map (fun i => (i.zero, i.size, i.bytes)) = some (some (.int .i64 0), 1, 8) := by kernel_rfl
theorem n_cell_lt {w : World} {b o : Nat} {v : Value} (h : w.cell? ⟨b, o, none⟩ = some v) : b < w.heap.size := by
  unfold World.cell? at h
  apply Nat.lt_of_not_le
  intro hle
  rw [Array.getElem?_eq_none hle] at h
  cases h
/-- A slice of ints that reads as the list l. -/
def IsI (w : World) (a : Option Addr) (len : Nat) (l : List Nat) : Prop :=
  l.length = len ∧ (len = 0 ∨ ∃ b off, a = some ⟨b, off, none⟩ ∧ (∀ k, k < l.length → w.cell? ⟨b, off + k, none⟩ = some (I (l.getD k 0))))
theorem IsI.below {w w' : World} {a : Option Addr} {len : Nat} {l : List Nat} (h : IsI w a len l) (hb : Below w.heap.size w w') : IsI w' a len l := by
  obtain ⟨h1, h2⟩ := h
  refine ⟨h1, ?_⟩
  rcases h2 with h2 | ⟨b, off, rfl, hc⟩
  · exact .inl h2
  · refine .inr ⟨b, off, rfl, fun k hk => ?_⟩
    rw [hb.cell (p := ⟨b, off + k, none⟩) (n_cell_lt (hc k hk)), hc k hk]
theorem isI_own {w : World} {base n : Nat} {v : Value} {l : List Nat} (h : w.ownsRow base 3 1 v n (l.map I)) : ∃ a cap, v = .slice a n cap ∧ IsI w a n l := by
  have hl : l.length = n := by have := h.1; simpa using this
  rcases h.2 with ⟨rfl, rfl⟩ | ⟨g, cap, cur, rfl, hg, hh, hr⟩
  · exact ⟨none, 0, rfl, hl, .inl rfl⟩
  · refine ⟨_, cap, rfl, hl, .inr ⟨g, 0, rfl, fun k hk => ?_⟩⟩
    rw [Nat.zero_add, World.ownsRow.cellAt h k (by omega), List.getElem?_map, List.getElem?_eq_getElem hk, List.getD_eq_getElem?_getD, List.getElem?_eq_getElem hk]
    rfl
theorem isI_cells {w : World} {p : Addr} {len : Nat} {l : List Nat} (h : IsI w (some p) len l) (j : Nat) (u : Value) (hj : (l.map I)[j]? = some u) : w.cell? (p.add j) = some u := by
  have hjl : j < l.length := by
    have := (List.getElem?_eq_some_iff.1 hj).1
    simpa using this
  rcases h.2 with h0 | ⟨b, off, hp, hc⟩
  · have := h.1; omega
  · cases hp
    have := hc j hjl
    rw [List.getElem?_map, List.getElem?_eq_getElem hjl] at hj
    rw [List.getD_eq_getElem?_getD, List.getElem?_eq_getElem hjl] at this
    simp only [Option.map_some, Option.some.injEq] at hj
    rw [← hj]
    have h3 : w.cell? ⟨b, off + j, none⟩ = some (I l[j]) := by simpa using this
    by_cases hj0 : j = 0
    · subst hj0; simpa [Addr.add] using h3
    · simpa [Addr.add, hj0] using h3
/-- A value that is a slice of ints and reads as l. -/
def Ila (w : World) (v : Value) (l : List Nat) : Prop := ∃ a n c, v = .slice a n c ∧ IsI w a n l ∧ (a = none → n = 0 ∧ c = 0) ∧ n ≤ c
theorem Ila.below {w w' : World} {v : Value} {l : List Nat} (h : Ila w v l) (hb : Below w.heap.size w w') : Ila w' v l := by
  obtain ⟨a, n, c, h1, h2, h3, h4⟩ := h
  exact ⟨a, n, c, h1, h2.below hb, h3, h4⟩
theorem ila_own {w : World} {base n : Nat} {v : Value} {l : List Nat} (h : w.ownsRow base 3 1 v n (l.map I)) : Ila w v l := by
  obtain ⟨a, cap, rfl, hf⟩ := isI_own h
  refine ⟨a, n, cap, rfl, hf, ?_, ?_⟩
  · rintro rfl
    rcases h.2 with ⟨h1, rfl⟩ | ⟨g, c, cur, h1, _⟩
    · simp at h1; exact ⟨rfl, h1⟩
    · simp at h1
  · rcases h.2 with ⟨h1, rfl⟩ | ⟨g, c, cur, h1, _, _, hnc, _⟩
    · exact Nat.zero_le _
    · simp at h1; omega
theorem n_own_base {w : World} {base e size n : Nat} {v : Value} {xs : List Value} (h : w.ownsRow base e size v n xs) : ∀ k, v.ownBlock = some k → base ≤ k := by
  intro k hk
  rcases h.2 with ⟨rfl, _⟩ | ⟨g, cap, cur, rfl, hg, _⟩
  · cases hk
  · cases hk; exact hg
theorem oneI (l : List Nat) : ∀ u ∈ l.map I, u.oneCell' = true := by
  intro u hu
  obtain ⟨x, _, rfl⟩ := List.mem_map.1 hu
  rfl
theorem n_append {w : World} {ops : Array Oper} {rest : List Oper} {o : Oper} {act : Act} {Q : Exit → Act → World → Prop} (hgd : o.guard = none) (s x : Operand)
    (ho : o.op = .call { callee := .builtin .append, args := #[s, x], argTypes := #[34, 34] })
    (base : Nat) (v : Value) (k : Nat) (l : List Nat) (hs : act.eval s = v) (hown : w.ownsRow base 3 1 v k (l.map I)) (u : Value) (m : List Nat) (hx : act.eval x = u) (hm : Ila w u m) (hsz : k + m.length ≤ 10000) (hb : base ≤ w.heap.size)
    (h : ∀ v' w', w'.ownsRow base 3 1 v' (k + m.length) ((l ++ m).map I) → Below base w w' → wpList Tryz.prog ops Q rest (act.put o.dst v') w') : wpList Tryz.prog ops Q (o :: rest) act w := by
  obtain ⟨i0, hi, hz0, hz1, hz2⟩ := info_parts info3
  obtain ⟨a, n, c, rfl, h2, h3, h4⟩ := hm
  have hlen := h2.1
  cases a with
  | none =>
    obtain ⟨rfl, rfl⟩ := h3 rfl
    have hm0 : m = [] := List.length_eq_zero_iff.1 hlen
    subst hm0
    exact wpList_append_own_none hgd s x 34 ho base 3 i0 1 Tryz.underlying34 hi v k (l.map I) hs hown hx (h _ _ (by simpa using hown) (Below.refl _ _))
  | some ad =>
    refine wpList_append_own _ hgd s x 34 ho base 3 i0 (.int .i64 0) 1 8 Tryz.underlying34 hi hz0 hz1 hz2 rfl (by decide) v k (l.map I) hs hown ad n c (m.map I) hx (by simp [hlen]) (isI_cells h2) (oneI m) (by unfold maxLen; omega) (by omega) hb ?_
    intro v' w1 ho' hg _
    rw [← hlen, ← List.map_append] at ho'
    exact h v' w1 ho' ((Below.refl _ _).grown hg hb (n_own_base hown))

/-- A new row that reads as l; what was there is as it was. -/
def MakesI (w : World) (l : List Nat) (e : Ending) (W' : World) : Prop := ∃ v, e = .returned v ∧ W'.ownsRow w.heap.size 3 1 v l.length (l.map I) ∧ Below w.heap.size w W'

theorem n_at_in {a : Option Addr} {len cap : Nat} {l : List Nat} {w : World} (h : IsI w a len l) (i : Nat) (hi : i < len) : Calls Tryz.prog 82 #[.slice a len cap, .int .i64 i] w fun e w' => e = .returned (I (l.getD i 0)) ∧ w = w' := by
  obtain ⟨b, off, rfl, hc⟩ : ∃ b off, a = some ⟨b, off, none⟩ ∧ w.cell? ⟨b, off + i, none⟩ = some (I (l.getD i 0)) := by
    rcases h.2 with h0 | ⟨b, off, h1, hc⟩
    · omega
    · exact ⟨b, off, h1, hc i (by rw [h.1]; exact hi)⟩
  generalize l.getD i 0 = y at hc ⊢
  have h1 : (i : Int) < (len : Int) := by omega
  go_enter Tryz.func82, Tryz.ntmps82
  go_wp2
  go_ret
  exact ⟨rfl, rfl⟩
theorem n_at_out (a : Option Addr) (len cap : Nat) (w : World) (i : Nat) (hi : ¬ i < len) : Calls Tryz.prog 82 #[.slice a len cap, .int .i64 i] w fun e w' => e = .returned (I 0) ∧ w = w' := by
  have h1 : ¬ (i : Int) < (len : Int) := by omega
  go_enter Tryz.func82, Tryz.ntmps82
  go_wp2
  go_ret
  exact ⟨rfl, rfl⟩
theorem n_at {a : Option Addr} {len cap : Nat} {l : List Nat} {w : World} (h : IsI w a len l) (i : Nat) : Calls Tryz.prog 82 #[.slice a len cap, .int .i64 i] w fun e w' => e = .returned (I (l.getD i 0)) ∧ w = w' := by
  by_cases hi : i < len
  · exact n_at_in h i hi
  · have := h.1
    rw [List.getD_eq_getElem?_getD, List.getElem?_eq_none (by omega)]
    exact n_at_out a len cap w i hi

theorem isI_take {w : World} {a : Option Addr} {n : Nat} {l : List Nat} (h : IsI w a n l) {k : Nat} (hk : k ≤ n) : IsI w a k (l.take k) := by
  have hl := h.1
  refine ⟨by rw [List.length_take]; omega, ?_⟩
  by_cases h0 : k = 0
  · exact .inl h0
  · rcases h.2 with h1 | ⟨b, off, h1, hc⟩
    · omega
    · refine .inr ⟨b, off, h1, fun i hi => ?_⟩
      rw [List.length_take] at hi
      have := hc i (by omega)
      rw [this]
      simp only [I, List.getD_eq_getElem?_getD, List.getElem?_take, show i < k by omega, if_true]
theorem n_nil_own (w : World) : (w.alloc (.cells #[] 3)).ownsRow w.heap.size 3 1 (.slice (some ⟨w.heap.size, 0, none⟩) 0 0) 0 (([] : List Nat).map I) := by
  have := World.ownsRow_lit (base := w.heap.size) (size := 1) (e := 3) w (#[] : Array Value) 0 (Nat.le_refl _) (by unfold maxLen; omega) (by simp)
  simpa using this

set_option maxHeartbeats 1000000 in
theorem n_trim {w : World} {v : Value} {l : List Nat} (hv : Ila w v l) (hl : ∀ d ∈ l, d < 16777216) (h8 : l.length ≤ 5000) : Calls Tryz.prog 81 #[v] w (MakesI w (digs (num l))) := by
  obtain ⟨a, n, c, rfl, h, ha, hc⟩ := hv
  have hn := h.1
  have HA := Lib.hid h
  have HL := Lib.hid hl
  have hn8 : (n : Int) ≤ 5000 := by omega
  have hci : (n : Int) ≤ c := by omega
  clear h hl
  cases a with
  | none =>
    obtain ⟨rfl, rfl⟩ := ha rfl
    have hl0 : l = [] := List.length_eq_zero_iff.1 hn
    subst hl0
    have HD : Hid (digs (num []) = []) := Lib.hid (by rw [num, digs_zero])
    go_enter Tryz.func81, Tryz.ntmps81
    go_wp2
    go_loop [3] (fun t => t = .int .i64 0) (fun t => (intOf t).toNat)
    case atStart => exact rfl
    case round =>
      subst hrel
      go_wp2_with (at_builtin; refine n_append rfl (.tmp 18) (.tmp 21) rfl w.heap.size _ 0 [] rfl (n_nil_own w) _ [] rfl ⟨none, 0, 0, rfl, ⟨rfl, .inl rfl⟩, fun _ => ⟨rfl, rfl⟩, Nat.le_refl _⟩ (by simp) (by simp) ?_; intro v' w' ho hb)
      go_ret
      exact ⟨_, rfl, by rw [HD.out]; exact ho, ((Below.refl _ w).alloc (Nat.le_refl _) _).trans hb⟩
  | some ad =>
    clear ha
    go_enter Tryz.func81, Tryz.ntmps81
    go_wp2
    go_loop [3] (fun t => ∃ k : Nat, k ≤ n ∧ t = .int .i64 k ∧ Hid (∀ i, k ≤ i → l.getD i 0 = 0)) (fun t => (intOf t).toNat)
    case atStart => exact ⟨n, Nat.le_refl _, rfl, Lib.hid (fun i hi => by rw [List.getD_eq_getElem?_getD, List.getElem?_eq_none (by omega)]; rfl)⟩
    case round =>
      obtain ⟨k, hk, rfl, HZ⟩ := hrel
      by_cases h0 : k = 0
      · subst h0
        have HD : Hid (l.take 0 = digs (num l)) := Lib.hid (digs_take l HL.out 0 (Nat.zero_le _) HZ.out (fun h => absurd rfl h))
        go_wp2_with (at_builtin; (refine n_append rfl (.tmp 18) (.tmp 21) rfl w.heap.size _ 0 [] rfl (n_nil_own w) _ (l.take 0) rfl ⟨some ad, 0, c, rfl, (isI_take HA.out (Nat.zero_le _)).below ((Below.refl _ w).alloc (Nat.le_refl _) _), fun h => (by cases h), Nat.zero_le _⟩ (by simp) (by simp) ?_); intro v' w' ho hb)
        go_ret
        refine ⟨_, rfl, ?_, ((Below.refl _ w).alloc (Nat.le_refl _) _).trans hb⟩
        rw [← HD.out]
        simpa using ho
      · obtain ⟨b, off, hab, hcell⟩ : ∃ b off, some ad = some ⟨b, off, none⟩ ∧ w.cell? ⟨b, off + (k - 1), none⟩ = some (I (l.getD (k - 1) 0)) := by
          rcases HA.out.2 with h0 | ⟨b, off, h1, hc⟩
          · omega
          · exact ⟨b, off, h1, hc _ (by omega)⟩
        obtain rfl := Option.some.inj hab
        clear hab
        obtain ⟨j, rfl⟩ : ∃ j, k = j + 1 := ⟨k - 1, by omega⟩
        rw [Nat.add_sub_cancel] at hcell
        obtain ⟨y, hy⟩ : ∃ y, l.getD j 0 = y := ⟨_, rfl⟩
        rw [hy] at hcell
        have hkj : ((j + 1 : Nat) : Int) = (j : Int) + 1 := by push_cast; rfl
        rw [hkj]
        have hjn : (j : Int) < n := by omega
        have HY := Lib.hid hy
        clear hy hkj
        by_cases hy0 : y = 0
        · subst hy0
          go_wp2
          go_round
          case rel => exact ⟨j, by omega, rfl, Lib.hid (fun i hi => by rcases Nat.lt_or_ge j i with h | h; exact HZ.out i (by omega); rw [show i = j by omega]; exact HY.out)⟩
          case measure => simp [intOf]
        · have hyi : ((y : Int) == 0) = false := by simpa using hy0
          have HD : Hid (l.take (j + 1) = digs (num l)) := Lib.hid (digs_take l HL.out (j + 1) (by omega) HZ.out (fun _ => by rw [Nat.add_sub_cancel, HY.out]; exact hy0))
          go_wp2_with (at_builtin; (refine n_append rfl (.tmp 18) (.tmp 21) rfl w.heap.size _ 0 [] rfl (n_nil_own w) _ (l.take (j + 1)) rfl ⟨some ⟨b, off, none⟩, j + 1, c, rfl, (isI_take HA.out hk).below ((Below.refl _ w).alloc (Nat.le_refl _) _), fun h => (by cases h), by omega⟩ (by simp; omega) (by simp) ?_); intro v' w' ho hb)
          go_ret
          refine ⟨_, rfl, ?_, ((Below.refl _ w).alloc (Nat.le_refl _) _).trans hb⟩
          rw [← HD.out]
          simpa using ho
end Go.Proofs.YtdflbipaicpdcaaGreatDoor
namespace Go.Proofs.YtdflbipaicpdcaaGreatDoor
open Go.RowKit

/-- A value that is the row of the number n. -/
def IsN (w : World) (v : Value) (n : Nat) : Prop := Ila w v (digs n)
/-- A new row of the number n; what was there is as it was. -/
def MakesN (w : World) (n : Nat) (e : Ending) (W' : World) : Prop := ∃ v, e = .returned v ∧ IsN W' v n ∧ Below w.heap.size w W'
theorem IsN.below {w w' : World} {v : Value} {n : Nat} (h : IsN w v n) (hb : Below w.heap.size w w') : IsN w' v n := Ila.below h hb
theorem MakesI.makesN {w : World} {n : Nat} {e : Ending} {W' : World} (h : MakesI w (digs n) e W') : MakesN w n e W' := by
  obtain ⟨v, h1, h2, h3⟩ := h
  exact ⟨v, h1, ila_own h2, h3⟩
theorem isN_nil (w : World) : IsN w (.slice none 0 0) 0 := by
  unfold IsN; rw [digs_zero]; exact ⟨none, 0, 0, rfl, ⟨rfl, .inl rfl⟩, fun _ => ⟨rfl, rfl⟩, Nat.le_refl _⟩
theorem ila_one (w : World) (y : Nat) (h : Nat) (hh : h = w.heap.size) : Ila (w.alloc (.cells #[I y] 3)) (.slice (some ⟨h, 0, none⟩) 1 1) [y] := by
  subst hh
  have := World.ownsRow_lit (base := w.heap.size) (size := 1) (e := 3) w (#[I y] : Array Value) 1 (Nat.le_refl _) (by unfold maxLen; omega) (by simp)
  exact ila_own (base := w.heap.size) (by simpa using this)
theorem digs_len_le' {n k : Nat} (h : n < W k) : (digs n).length ≤ k := by
  by_cases h0 : n = 0
  · subst h0; rw [digs_zero]; exact Nat.zero_le _
  · have h1 := digs_len_le n h0
    apply Nat.le_of_not_lt
    intro hlt
    have := W_mono (show k ≤ (digs n).length - 1 by omega)
    omega

set_option maxHeartbeats 1000000 in
theorem n_of (n : Nat) (hn : n < 9223372036854775808) (w : World) : Calls Tryz.prog 80 #[.int .i64 n] w (MakesN w n) := by
  have hlen : (digs n).length ≤ 3 := digs_len_le' (by have : W 3 = 4722366482869645213696 := rfl; omega)
  have HL := Lib.hid hlen
  clear hlen
  have h0n : (n : Int) ≤ 9223372036854775807 := by omega
  go_enter Tryz.func80, Tryz.ntmps80
  go_wp2
  go_loopw [0, 3] (fun x s wr => ∃ (m : Nat) (l : List Nat), m ≤ n ∧ x = .int .i64 m ∧ Hid (l ++ digs m = digs n) ∧ Hid (wr.ownsRow w.heap.size 3 1 s l.length (l.map I)) ∧ Hid (Below w.heap.size w wr)) (fun x _ _ => (intOf x).toNat)
  case atStart => exact ⟨n, [], Nat.le_refl _, rfl, Lib.hid rfl, Lib.hid (World.ownsRow_nil _ _ _ _), Lib.hid (Below.refl _ _)⟩
  case round =>
    obtain ⟨m, l, hm, rfl, HD, hz, hbl⟩ := hrel
    by_cases h0 : m = 0
    · subst h0
      have hl : l = digs n := by have := HD.out; rwa [digs_zero, List.append_nil] at this
      have HO : Hid (wr.ownsRow w.heap.size 3 1 u3 (digs n).length ((digs n).map I)) := by rw [← hl]; exact hz
      clear hz HD hl
      go_wp2
      go_ret
      exact ⟨_, rfl, ila_own HO.out, hbl.out⟩
    · have hm0 : (0 : Int) < m := by omega
      have hmn : (m : Int) ≤ 9223372036854775807 := by omega
      obtain ⟨y, hy⟩ : ∃ y, m % 16777216 = y := ⟨_, rfl⟩
      obtain ⟨q, hq⟩ : ∃ q, m / 16777216 = q := ⟨_, rfl⟩
      have hyi : (m : Int) % 16777216 = (y : Int) := by omega
      have hqi : (m : Int) / 16777216 = (q : Int) := by omega
      have hqm : q < m := by omega
      have HD2 : Hid ((l ++ [y]) ++ digs q = digs n) := Lib.hid (by rw [← HD.out, digs_pos h0, hy, hq, List.append_assoc]; rfl)
      have hll : l.length ≤ 3 := by
        have h1 := congrArg List.length HD.out
        rw [List.length_append] at h1
        have := HL.out
        omega
      clear hy hq HD h0
      go_wp2_with (at_builtin; refine n_append rfl (.tmp 6) (.tmp 9) rfl w.heap.size _ l.length l rfl (hz.out.alloc _) _ [y] rfl (ila_one _ y _ rfl) (by simp; omega) (Nat.le_trans hbl.out.size (by simp)) ?_; intro v' w' ho hb)
      go_roundw
      case rel => exact ⟨q, l ++ [y], by omega, rfl, HD2, Lib.hid (by simpa using ho), Lib.hid ((hbl.out.alloc hbl.out.size _).trans hb)⟩
      case measure => simp [intOf]; omega
end Go.Proofs.YtdflbipaicpdcaaGreatDoor
namespace Go.Proofs.YtdflbipaicpdcaaGreatDoor
open Go.RowKit

/-- The limbs so far, and what is carried. -/
structure AddSo (a b i c : Nat) (l : List Nat) : Prop where
  len : l.length = i
  lt : ∀ d ∈ l, d < 16777216
  sum : num l + W i * c = low a i + low b i
  c1 : c ≤ 1
theorem addSo_zero (a b : Nat) : AddSo a b 0 0 [] := ⟨rfl, (fun _ h => by cases h), by rw [low_zero, low_zero, num, W_zero], Nat.zero_le _⟩
theorem addSo_succ {a b i c : Nat} {l : List Nat} (h : AddSo a b i c l) : AddSo a b (i + 1) ((limb a i + limb b i + c) / 16777216) (l ++ [(limb a i + limb b i + c) % 16777216]) := by
  obtain ⟨h1, h2, h3, h4⟩ := h
  have ha := limb_lt a i
  have hb := limb_lt b i
  refine ⟨by rw [List.length_append, h1]; rfl, fun d hd => ?_, ?_, by omega⟩
  · rcases List.mem_append.1 hd with hd | hd
    · exact h2 d hd
    · rw [List.mem_singleton.1 hd]; exact Nat.mod_lt _ (by decide)
  · rw [num_snoc, low_succ, low_succ, h1, W_succ]
    generalize hs : limb a i + limb b i + c = s
    have e : W i * (s % 16777216) + 16777216 * W i * (s / 16777216) = W i * s := by
      rw [Nat.mul_comm 16777216, Nat.mul_assoc, ← Nat.mul_add, Nat.mod_add_div]
    have e2 : W i * s = W i * limb a i + W i * limb b i + W i * c := by rw [← hs, Nat.mul_add, Nat.mul_add]
    omega
theorem addSo_end {a b i c : Nat} {l : List Nat} (h : AddSo a b i c l) (ha : (digs a).length ≤ i) (hb : (digs b).length ≤ i) (hc : c = 0) : digs (num l) = digs (a + b) := by
  have h3 := h.sum
  rw [hc, Nat.mul_zero, Nat.add_zero, low_all (Nat.lt_of_lt_of_le (digs_len_lt a) (W_mono ha)), low_all (Nat.lt_of_lt_of_le (digs_len_lt b) (W_mono hb))] at h3
  rw [h3]
theorem carry_end {a b i c : Nat} {l : List Nat} (h : AddSo a b i c l) (ha : (digs a).length ≤ i) (hb : (digs b).length ≤ i) : (limb a i + limb b i + c) / 16777216 = 0 := by
  rw [limb_zero_of (Nat.lt_of_lt_of_le (digs_len_lt a) (W_mono ha)), limb_zero_of (Nat.lt_of_lt_of_le (digs_len_lt b) (W_mono hb))]
  have := h.c1
  omega

theorem n_at' {a : Option Addr} {len cap n : Nat} {w : World} (h : IsI w a len (digs n)) (i : Nat) : Calls Tryz.prog 82 #[.slice a len cap, .int .i64 i] w fun e w' => e = .returned (I (limb n i)) ∧ w = w' := by
  rw [← digs_limb]; exact n_at h i

set_option maxHeartbeats 2000000 in
theorem n_add {u v : Value} {a b : Nat} {w : World} (hu : IsN w u a) (hv : IsN w v b) (ha8 : (digs a).length ≤ 2000) (hb8 : (digs b).length ≤ 2000) : Calls Tryz.prog 32 #[u, v] w (MakesN w (a + b)) := by
  obtain ⟨aa, la, ca, rfl, hA, _⟩ := hu
  obtain ⟨ab, lb, cb, rfl, hB, _⟩ := hv
  have hla := hA.1
  have hlb := hB.1
  rw [hla] at ha8
  rw [hlb] at hb8
  have HA := Lib.hid hA
  have HB := Lib.hid hB
  have HLA := Lib.hid hla
  have HLB := Lib.hid hlb
  clear hA hB hla hlb
  obtain ⟨mx, hmx, hma, hmb⟩ : ∃ mx, mx ≤ 2000 ∧ la ≤ mx ∧ lb ≤ mx := ⟨max la lb, by omega, by omega, by omega⟩
  go_enter Tryz.func32, Tryz.ntmps32
  go_wp2
  go_loopw [5, 6, 7] (fun s cy i wr => ∃ (k c : Nat) (l : List Nat), k ≤ mx + 1 ∧ c ≤ 1 ∧ i = .int .i64 k ∧ cy = .int .i64 c ∧ (k = mx + 1 → c = 0) ∧ Hid (AddSo a b k c l) ∧ Hid (wr.ownsRow w.heap.size 3 1 s k (l.map I)) ∧ Hid (Below w.heap.size w wr)) (fun _ _ i _ => mx + 2 - (intOf i).toNat)
  case atStart => exact ⟨0, 0, [], by omega, by omega, rfl, rfl, fun _ => rfl, Lib.hid (addSo_zero a b), Lib.hid (World.ownsRow_nil _ _ _ _), Lib.hid (Below.refl _ _)⟩
  case round =>
    obtain ⟨k, c, l, hk, hc, rfl, rfl, hkc, HS, hz, hbl⟩ := hrel
    have HA2 := Lib.hid (HA.out.below (hbl.out.mono (Nat.le_refl _)))
    have HB2 := Lib.hid (HB.out.below (hbl.out.mono (Nat.le_refl _)))
    by_cases hend : ¬ k < la ∧ ¬ k < lb ∧ c = 0
    · obtain ⟨e1, e2, rfl⟩ := hend
      have HE := Lib.hid (addSo_end HS.out (by rw [HLA.out]; omega) (by rw [HLB.out]; omega) rfl)
      have HLT := Lib.hid HS.out.lt
      have HLN := Lib.hid HS.out.len
      have f1 : ¬ (k : Int) < la := by omega
      have f2 : ¬ (k : Int) < lb := by omega
      clear e1 e2 hkc HS
      go_wp2_with fail
      refine (n_trim (ila_own hz.out) HLT.out (by rw [HLN.out]; omega)).mono ?_
      rintro e w2 hmk
      rw [HE.out] at hmk
      obtain ⟨v, rfl, hv, hb⟩ := hmk.makesN
      have HV := Lib.hid hv
      have HBB := Lib.hid hb
      clear hv hb hmk
      go_wp2
      go_ret
      exact ⟨_, rfl, HV.out, hbl.out.trans (HBB.out.mono hbl.out.size)⟩
    · have hkm : k ≤ mx := by
        apply Nat.le_of_not_lt
        intro h
        exact hend ⟨by omega, by omega, hkc (by omega)⟩
      have HS2 := Lib.hid (addSo_succ HS.out)
      have hx := limb_lt a k
      have hy := limb_lt b k
      have hce : k + 1 = mx + 1 → (limb a k + limb b k + c) / 16777216 = 0 := fun h => carry_end HS.out (by rw [HLA.out]; omega) (by rw [HLB.out]; omega)
      obtain ⟨x, hxx⟩ : ∃ x, limb a k = x := ⟨_, rfl⟩
      obtain ⟨y, hyy⟩ : ∃ y, limb b k = y := ⟨_, rfl⟩
      have HX := Lib.hid hxx
      have HY := Lib.hid hyy
      rw [hxx, hyy] at HS2 hce
      rw [hxx] at hx
      rw [hyy] at hy
      obtain ⟨s, hs⟩ : ∃ s, x + y + c = s := ⟨_, rfl⟩
      have hsi : (x : Int) + y + c = (s : Int) := by omega
      rw [hs] at HS2 hce
      obtain ⟨d, hd⟩ : ∃ d, s % 16777216 = d := ⟨_, rfl⟩
      obtain ⟨q, hq⟩ : ∃ q, s / 16777216 = q := ⟨_, rfl⟩
      rw [hd, hq] at HS2
      rw [hq] at hce
      have hdi : (s : Int) % 16777216 = (d : Int) := by omega
      have hqi : (s : Int) / 16777216 = (q : Int) := by omega
      have hq1 : q ≤ 1 := HS2.out.c1
      have HCE := Lib.hid hce
      have HK := Lib.hid hkc
      clear hxx hyy hs hd hq hce hkc HS
      have hcond : (k < la) ∨ (¬ k < la ∧ k < lb) ∨ (¬ k < la ∧ ¬ k < lb ∧ 0 < c) := by omega
      clear hend
      rcases hcond with h1 | ⟨h1, h2⟩ | ⟨h1, h2, h3⟩
      all_goals
        go_wp2_with fail
        refine (n_at' HA2.out k).mono ?_
        rintro e w2 ⟨rfl, rfl⟩
        rw [HX.out]
        go_wp2_with fail
        refine (n_at' HB2.out k).mono ?_
        rintro e w2 ⟨rfl, rfl⟩
        rw [HY.out]
        go_wp2_with (at_builtin; refine n_append rfl (.tmp 34) (.tmp 37) rfl w.heap.size _ k l rfl (hz.out.alloc _) _ [d] rfl (ila_one _ d _ rfl) (by simp; omega) (Nat.le_trans hbl.out.size (by simp)) ?_; intro v' w' ho hb)
        go_roundw
        case rel => exact ⟨k + 1, q, l ++ [d], by omega, hq1, by go_num, rfl, HCE.out, HS2, Lib.hid ho, Lib.hid ((hbl.out.alloc hbl.out.size _).trans hb)⟩
        case measure => simp [intOf]; omega
end Go.Proofs.YtdflbipaicpdcaaGreatDoor
namespace Go.Proofs.YtdflbipaicpdcaaGreatDoor
open Go.RowKit

/-- -1, 0, 1: below, alike, above -/
def cmpv (a b : Int) : Int := if a < b then -1 else if a = b then 0 else 1
theorem cmpv_lt {a b : Int} (h : a < b) : cmpv a b = -1 := by unfold cmpv; rw [if_pos h]
theorem cmpv_eq {a b : Int} (h : a = b) : cmpv a b = 0 := by unfold cmpv; rw [if_neg (by omega), if_pos h]
theorem cmpv_gt {a b : Int} (h : b < a) : cmpv a b = 1 := by unfold cmpv; rw [if_neg (by omega), if_neg (by omega)]
theorem len_lt {a b : Nat} (h : (digs a).length < (digs b).length) : a < b := by
  have h1 := digs_len_lt a
  have h2 := W_mono (show (digs a).length ≤ (digs b).length - 1 by omega)
  have hb : b ≠ 0 := by intro h0; subst h0; rw [digs_zero] at h; simp at h
  have := digs_len_le b hb
  omega
theorem div_step (a i : Nat) : a / W i = 16777216 * (a / W (i + 1)) + limb a i := by
  unfold limb
  have e : a / W (i + 1) = a / W i / 16777216 := by rw [W_succ, Nat.mul_comm, Nat.div_div_eq_div_mul]
  omega
theorem lt_of_div {a b i : Nat} (h : a / W i < b / W i) : a < b := by
  apply Nat.lt_of_not_le
  intro hle
  have := Nat.div_le_div_right (c := W i) hle
  omega
theorem below_drewN {B : Nat} {a w : World} (h : Below B a w) (n : Nat) : Below B a (w.drewN n) := ⟨h.os, h.tape, h.output, h.size, h.block⟩
def Gets (w : World) (x : Int) (e : Ending) (w' : World) : Prop := e = .returned (.int .i64 x) ∧ Below w.heap.size w w'

theorem isI_cell {w : World} {a : Option Addr} {len : Nat} {l : List Nat} (h : IsI w a len l) {i : Nat} (hi : i < len) : ∃ b off, a = some ⟨b, off, none⟩ ∧ w.cell? ⟨b, off + i, none⟩ = some (I (l.getD i 0)) := by
  rcases h.2 with h0 | ⟨b, off, h1, hc⟩
  · omega
  · exact ⟨b, off, h1, hc i (by rw [h.1]; exact hi)⟩

set_option maxHeartbeats 2000000 in
theorem n_cmp {u v : Value} {a b : Nat} {w : World} (hu : IsN w u a) (hv : IsN w v b) (ha8 : (digs a).length ≤ 2000) (hb8 : (digs b).length ≤ 2000) : Calls Tryz.prog 33 #[u, v] w (Gets w (cmpv a b)) := by
  obtain ⟨aa, la, ca, rfl, hA, _⟩ := hu
  obtain ⟨ab, lb, cb, rfl, hB, _⟩ := hv
  have hla := hA.1
  have hlb := hB.1
  rw [hla] at ha8
  rw [hlb] at hb8
  have HA := Lib.hid hA
  have HB := Lib.hid hB
  by_cases hne : la = lb
  · subst hne
    have hda : a / W la = 0 := Nat.div_eq_of_lt (by have := digs_len_lt a; rwa [hla] at this)
    have hdb : b / W la = 0 := Nat.div_eq_of_lt (by have := digs_len_lt b; rwa [hlb] at this)
    have H0 : Hid (a / W la = b / W la) := Lib.hid (by rw [hda, hdb])
    clear hA hB hla hlb hda hdb
    go_enter Tryz.func33, Tryz.ntmps33
    go_wp2
    go_loopw [5] (fun i wr => ∃ k : Nat, k ≤ la ∧ i = .int .i64 ((k : Int) - 1) ∧ Hid (a / W k = b / W k) ∧ Hid (Below w.heap.size w wr)) (fun i _ => (intOf i + 1).toNat)
    case atStart => exact ⟨la, Nat.le_refl _, rfl, H0, Lib.hid (Below.refl _ _)⟩
    case round =>
      obtain ⟨k, hk, rfl, HE, hbl⟩ := hrel
      by_cases h0 : k = 0
      · subst h0
        have hab : a = b := by have := HE.out; rwa [W_zero, Nat.div_one, Nat.div_one] at this
        have HC := Lib.hid (cmpv_eq (show (a : Int) = b by omega))
        clear hab
        go_wp2
        go_ret
        exact ⟨(by rw [HC.out] <;> rfl), hbl.out⟩
      · obtain ⟨j, rfl⟩ : ∃ j, k = j + 1 := ⟨k - 1, by omega⟩
        obtain ⟨ba, offa, rfl, ca1⟩ := isI_cell (HA.out.below (hbl.out.mono (Nat.le_refl _))) (show j < la by omega)
        obtain ⟨bb, offb, rfl, cb1⟩ := isI_cell (HB.out.below (hbl.out.mono (Nat.le_refl _))) (show j < la by omega)
        rw [digs_limb] at ca1 cb1
        have hsa := div_step a j
        have hsb := div_step b j
        have hEE := HE.out
        have hkj : ((j + 1 : Nat) : Int) - 1 = (j : Int) := by omega
        rw [hkj]
        have hji : (j : Int) < la := by omega
        have hjl : j < la := by omega
        obtain ⟨x, hx⟩ : ∃ x, limb a j = x := ⟨_, rfl⟩
        obtain ⟨y, hy⟩ : ∃ y, limb b j = y := ⟨_, rfl⟩
        rw [hx] at ca1 hsa
        rw [hy] at cb1 hsb
        rw [hEE] at hsa
        rcases Nat.lt_trichotomy x y with hxy | hxy | hxy
        · have HC := Lib.hid (cmpv_lt (show (a : Int) < b by have := lt_of_div (a := a) (b := b) (i := j) (by omega); omega))
          have q1 : decide (x < y) = true := decide_eq_true hxy
          clear hsa hsb hEE hx hy hkj hxy h0
          go_wp2_with fail
          go_quiet (fail)
          go_wp2
          go_ret
          exact ⟨(by rw [HC.out] <;> rfl), below_drewN hbl.out _⟩
        · have HE2 : Hid (a / W j = b / W j) := Lib.hid (by omega)
          subst hxy
          have q1 : decide (x < x) = false := decide_eq_false (Nat.lt_irrefl _)
          clear hsa hsb hEE hx hy hkj h0
          go_wp2_with fail
          go_quiet (fail)
          go_wp2_with fail
          go_quiet (fail)
          go_wp2
          go_roundw
          case rel => exact ⟨j, by omega, rfl, HE2, Lib.hid (by first | exact below_drewN (below_drewN hbl.out _) _ | exact below_drewN hbl.out _)⟩
          case measure => simp [intOf] <;> omega
        · have HC := Lib.hid (cmpv_gt (show (b : Int) < a by have := lt_of_div (a := b) (b := a) (i := j) (by omega); omega))
          have q1 : decide (x < y) = false := decide_eq_false (by omega)
          have q2 : decide (y < x) = true := decide_eq_true hxy
          clear hsa hsb hEE hx hy hkj hxy h0
          go_wp2_with fail
          go_quiet (fail)
          go_wp2_with fail
          go_quiet (fail)
          go_wp2
          go_ret
          exact ⟨(by rw [HC.out] <;> rfl), by first | exact below_drewN (below_drewN hbl.out _) _ | exact below_drewN hbl.out _⟩
  · have hnl : ((la : Int) == lb) = false := by apply beq_false_of_ne; omega
    rcases Nat.lt_or_ge la lb with hlt | hge
    · have HC := Lib.hid (cmpv_lt (show (a : Int) < b by have := len_lt (a := a) (b := b) (by rw [hla, hlb]; exact hlt); omega))
      have f1 : (la : Int) < lb := by omega
      clear hA hB hla hlb
      go_enter Tryz.func33, Tryz.ntmps33
      go_wp2
      go_ret
      exact ⟨(by rw [HC.out] <;> rfl), Below.refl _ _⟩
    · have HC := Lib.hid (cmpv_gt (show (b : Int) < a by have := len_lt (a := b) (b := a) (by rw [hla, hlb]; omega); omega))
      have f1 : ¬ (la : Int) < lb := by omega
      clear hA hB hla hlb
      go_enter Tryz.func33, Tryz.ntmps33
      go_wp2
      go_ret
      exact ⟨(by rw [HC.out] <;> rfl), Below.refl _ _⟩
end Go.Proofs.YtdflbipaicpdcaaGreatDoor
namespace Go.Proofs.YtdflbipaicpdcaaGreatDoor
open Go.RowKit

structure SubSo (a b i c : Nat) (l : List Nat) : Prop where
  len : l.length = i
  lt : ∀ d ∈ l, d < 16777216
  sum : num l + low b i = low a i + W i * c
  c1 : c ≤ 1
theorem subSo_zero (a b : Nat) : SubSo a b 0 0 [] := ⟨rfl, (fun _ h => by cases h), by rw [low_zero, low_zero, num, W_zero], Nat.zero_le _⟩
/-- a limb, with what is borrowed -/
theorem subSo_succ {a b i c : Nat} {l : List Nat} (h : SubSo a b i c l) {d c' : Nat} (hd : d + limb b i + c = limb a i + 16777216 * c') (hdl : d < 16777216) (hc' : c' ≤ 1) : SubSo a b (i + 1) c' (l ++ [d]) := by
  obtain ⟨h1, h2, h3, h4⟩ := h
  refine ⟨by rw [List.length_append, h1]; rfl, fun x hx => ?_, ?_, hc'⟩
  · rcases List.mem_append.1 hx with hx | hx
    · exact h2 x hx
    · rw [List.mem_singleton.1 hx]; exact hdl
  · rw [num_snoc, low_succ, low_succ, h1, W_succ]
    have e : W i * (d + limb b i + c) = W i * (limb a i + 16777216 * c') := by rw [hd]
    rw [Nat.mul_add, Nat.mul_add, Nat.mul_add] at e
    have e2 : 16777216 * W i * c' = W i * (16777216 * c') := by rw [Nat.mul_comm 16777216, Nat.mul_assoc]
    omega
theorem subSo_end {a b i c : Nat} {l : List Nat} (h : SubSo a b i c l) (ha : (digs a).length ≤ i) (hab : b ≤ a) : digs (num l) = digs (a - b) := by
  have ha1 := Nat.lt_of_lt_of_le (digs_len_lt a) (W_mono ha)
  have h3 := h.sum
  rw [low_all ha1, low_all (by omega : b < W i)] at h3
  have h5 := num_lt l h.lt
  rw [h.len] at h5
  have h4 := h.c1
  have hc : c = 0 := by
    rcases Nat.eq_zero_or_pos c with h0 | h0
    · exact h0
    · have h1 : c = 1 := by omega
      rw [h1, Nat.mul_one] at h3
      omega
  rw [hc, Nat.mul_zero] at h3
  congr 1
  omega

theorem n_at_q {a : Option Addr} {len cap n : Nat} {w : World} (h : IsI w a len (digs n)) (i y : Nat) (hy : limb n i = y) : Calls Tryz.prog 82 #[.slice a len cap, .int .i64 i] w fun e w' => e = .returned (I y) ∧ w' = w := by
  rw [← hy]; exact (n_at' h i).mono fun _ _ hh => ⟨hh.1, hh.2.symm⟩

def Gets2 (w : World) (n : Nat) (e : Ending) (w' : World) : Prop := ∃ v, e = .returned (.tuple #[v, .bool true]) ∧ IsN w' v n ∧ Below w.heap.size w w'

set_option maxHeartbeats 2000000 in
theorem n_sub {u v : Value} {a b : Nat} {w : World} (hu : IsN w u a) (hv : IsN w v b) (ha8 : (digs a).length ≤ 2000) (hb8 : (digs b).length ≤ 2000) (hab : b ≤ a) : Calls Tryz.prog 34 #[u, v] w (Gets2 w (a - b)) := by
  have HU := Lib.hid hu
  have HV := Lib.hid hv
  obtain ⟨aa, la, ca, rfl, hA, _⟩ := hu
  obtain ⟨ab, lb, cb, rfl, hB, _⟩ := hv
  have hla := hA.1
  have HA8 := Lib.hid ha8
  have HB8 := Lib.hid hb8
  rw [hla] at ha8
  have HA := Lib.hid hA
  have HB := Lib.hid hB
  have HLA := Lib.hid hla
  obtain ⟨r, hr, hr0⟩ : ∃ r, cmpv a b = r ∧ 0 ≤ r := by
    rcases Nat.lt_or_ge b a with h | h
    · exact ⟨1, cmpv_gt (by omega), by omega⟩
    · exact ⟨0, cmpv_eq (by omega), by omega⟩
  have HR := Lib.hid hr
  have HAB := Lib.hid hab
  clear hA hB hla hb8 hr hab
  go_enter Tryz.func34, Tryz.ntmps34
  go_wp2_with fail
  refine (n_cmp HU.out HV.out HA8.out HB8.out).mono ?_
  rintro e w1 ⟨rfl, hb⟩
  rw [HR.out]
  have HBL := Lib.hid hb
  clear hb
  go_wp2
  go_loopw [6, 7, 8] (fun s cy i wr => ∃ (k c : Nat) (l : List Nat), k ≤ la ∧ c ≤ 1 ∧ i = .int .i64 k ∧ cy = .int .i64 c ∧ Hid (SubSo a b k c l) ∧ Hid (wr.ownsRow w.heap.size 3 1 s k (l.map I)) ∧ Hid (Below w.heap.size w wr)) (fun _ _ i _ => la - (intOf i).toNat)
  case atStart => exact ⟨0, 0, [], by omega, by omega, rfl, rfl, Lib.hid (subSo_zero a b), Lib.hid (World.ownsRow_nil _ _ _ _), HBL⟩
  case round =>
    obtain ⟨k, c, l, hk, hc, rfl, rfl, HS, hz, hbl⟩ := hrel
    by_cases hkl : k < la
    · have HB2 := Lib.hid (HB.out.below (hbl.out.mono (Nat.le_refl _)))
      obtain ⟨ba, offa, rfl, ca1⟩ := isI_cell (HA.out.below (hbl.out.mono (Nat.le_refl _))) hkl
      rw [digs_limb] at ca1
      have hx := limb_lt a k
      have hy := limb_lt b k
      obtain ⟨x, hxx⟩ : ∃ x, limb a k = x := ⟨_, rfl⟩
      obtain ⟨y, hyy⟩ : ∃ y, limb b k = y := ⟨_, rfl⟩
      rw [hxx] at hx ca1
      rw [hyy] at hy
      have HY := Lib.hid hyy
      have hki : (k : Int) < la := by omega
      by_cases hneg : x < y + c
      · obtain ⟨d, hd⟩ : ∃ d, d + y + c = x + 16777216 := ⟨x + 16777216 - y - c, by omega⟩
        have hdl : d < 16777216 := by omega
        have HS2 := Lib.hid (subSo_succ HS.out (d := d) (c' := 1) (by rw [hxx, hyy]; omega) hdl (by omega))
        have hw1 : IntKind.i64.wrap ((x : Int) - y) = (x : Int) - y := by rw [IntKind.wrap_i64]; omega
        have hw2 : IntKind.i64.wrap ((x : Int) - y - c) = (d : Int) - 16777216 := by rw [IntKind.wrap_i64]; omega
        clear hxx hyy hneg hd HS
        go_wp2_with fail
        go_quiet ((go_at_call 82; first | exact Calls.quiet_of_same (n_at_q (HB2.out.below (Below.refl _ _).drew) k y HY.out) | exact Calls.quiet_of_same (n_at_q (HB2.out.below (below_drewN (Below.refl _ _) _)) k y HY.out)))
        clear hw1 hw2
        obtain ⟨W, hW⟩ : ∃ W, wr.drewN nq = W := ⟨_, rfl⟩
        have hzq : Hid (W.ownsRow w.heap.size 3 1 u6 k (l.map I)) := by rw [← hW]; exact hz
        have HBW : Hid (Below w.heap.size w W) := by rw [← hW]; exact Lib.hid (below_drewN hbl.out _)
        rw [hW]
        clear hW hz hbl ca1 HB2
        have hdn : (d : Int) - 16777216 < 0 := by omega
        go_wp2_with (at_builtin; refine n_append rfl (.tmp 34) (.tmp 36) rfl w.heap.size _ k l rfl (hzq.out.alloc _) _ [d] rfl (ila_one _ d _ rfl) (by simp; omega) (Nat.le_trans HBW.out.size (by simp)) ?_; intro v' w' ho hb)
        go_roundw
        case rel => exact ⟨k + 1, 1, l ++ [d], by omega, by omega, by go_num, rfl, HS2, Lib.hid ho, Lib.hid ((HBW.out.alloc HBW.out.size _).trans hb)⟩
        case measure => simp [intOf]; omega
      · obtain ⟨d, hd⟩ : ∃ d, d + y + c = x := ⟨x - y - c, by omega⟩
        have hdl : d < 16777216 := by omega
        have HS2 := Lib.hid (subSo_succ HS.out (d := d) (c' := 0) (by rw [hxx, hyy]; omega) hdl (by omega))
        have hw1 : IntKind.i64.wrap ((x : Int) - y) = (x : Int) - y := by rw [IntKind.wrap_i64]; omega
        have hw2 : IntKind.i64.wrap ((x : Int) - y - c) = (d : Int) := by rw [IntKind.wrap_i64]; omega
        clear hxx hyy hneg hd HS
        go_wp2_with fail
        go_quiet ((go_at_call 82; first | exact Calls.quiet_of_same (n_at_q (HB2.out.below (Below.refl _ _).drew) k y HY.out) | exact Calls.quiet_of_same (n_at_q (HB2.out.below (below_drewN (Below.refl _ _) _)) k y HY.out)))
        clear hw1 hw2
        obtain ⟨W, hW⟩ : ∃ W, wr.drewN nq = W := ⟨_, rfl⟩
        have hzq : Hid (W.ownsRow w.heap.size 3 1 u6 k (l.map I)) := by rw [← hW]; exact hz
        have HBW : Hid (Below w.heap.size w W) := by rw [← hW]; exact Lib.hid (below_drewN hbl.out _)
        rw [hW]
        clear hW hz hbl ca1 HB2
        have hdn : ¬ (d : Int) < 0 := by omega
        go_wp2_with (at_builtin; refine n_append rfl (.tmp 34) (.tmp 36) rfl w.heap.size _ k l rfl (hzq.out.alloc _) _ [d] rfl (ila_one _ d _ rfl) (by simp; omega) (Nat.le_trans HBW.out.size (by simp)) ?_; intro v' w' ho hb)
        go_roundw
        case rel => exact ⟨k + 1, 0, l ++ [d], by omega, by omega, by go_num, rfl, HS2, Lib.hid ho, Lib.hid ((HBW.out.alloc HBW.out.size _).trans hb)⟩
        case measure => simp [intOf]; omega
    · obtain rfl : k = la := by omega
      have HE := Lib.hid (subSo_end HS.out (by rw [HLA.out]; exact Nat.le_refl _) HAB.out)
      have HLT := Lib.hid HS.out.lt
      have HLN := Lib.hid HS.out.len
      clear HS
      go_wp2_with fail
      refine (n_trim (ila_own hz.out) HLT.out (by rw [HLN.out]; omega)).mono ?_
      rintro e w2 hmk
      rw [HE.out] at hmk
      obtain ⟨v, rfl, hv, hb⟩ := hmk.makesN
      have HV2 := Lib.hid hv
      have HBB := Lib.hid hb
      clear hv hb hmk
      go_wp2
      go_ret2
      exact ⟨_, rfl, HV2.out, hbl.out.trans (HBB.out.mono hbl.out.size)⟩
end Go.Proofs.YtdflbipaicpdcaaGreatDoor
namespace Go.Proofs.YtdflbipaicpdcaaGreatDoor
open Go.RowKit
set_option maxRecDepth 100000

structure ShlSo (n z s i c : Nat) (l : List Nat) : Prop where
  len : l.length = z + i
  lt : ∀ d ∈ l, d < 16777216
  sum : num l + W (z + i) * c = low n i * (2 ^ s * W z)
  cl : c < 2 ^ s
theorem num_zeros : ∀ z, num (List.replicate z 0) = 0
  | 0 => rfl
  | z + 1 => by rw [List.replicate_succ, num, num_zeros z]
theorem shlSo_zero (n z s : Nat) : ShlSo n z s 0 0 (List.replicate z 0) :=
  ⟨by simp, (fun d hd => by rw [(List.mem_replicate.1 hd).2]; decide), by rw [num_zeros, low_zero]; simp, Nat.pow_pos (by decide)⟩
theorem shlSo_succ {n z s i c : Nat} {l : List Nat} (h : ShlSo n z s i c l) : ShlSo n z s (i + 1) ((limb n i * 2 ^ s + c) / 16777216) (l ++ [(limb n i * 2 ^ s + c) % 16777216]) := by
  obtain ⟨h1, h2, h3, h4⟩ := h
  have hx := limb_lt n i
  have hb : limb n i * 2 ^ s + c < 16777216 * 2 ^ s := by
    have : limb n i * 2 ^ s ≤ 16777215 * 2 ^ s := Nat.mul_le_mul_right _ (by omega)
    omega
  generalize ht : limb n i * 2 ^ s + c = t at hb
  refine ⟨by rw [List.length_append, h1]; rfl, fun d hd => ?_, ?_, by omega⟩
  · rcases List.mem_append.1 hd with hd | hd
    · exact h2 d hd
    · rw [List.mem_singleton.1 hd]; exact Nat.mod_lt _ (by decide)
  · rw [num_snoc, h1, low_succ, ← Nat.add_assoc, W_succ]
    have e : W (z + i) * (t % 16777216) + 16777216 * W (z + i) * (t / 16777216) = W (z + i) * t := by
      rw [Nat.mul_comm 16777216, Nat.mul_assoc, ← Nat.mul_add, Nat.mod_add_div]
    have e2 : W (z + i) * t = W i * limb n i * (2 ^ s * W z) + W (z + i) * c := by
      rw [← ht, Nat.mul_add, W_add]
      congr 1
      simp only [Nat.mul_assoc, Nat.mul_comm, Nat.mul_left_comm]
    rw [Nat.add_mul]
    omega
theorem W_two (i : Nat) : W i = 2 ^ (24 * i) := by
  unfold W
  rw [show (16777216 : Nat) = 2 ^ 24 by rfl, ← Nat.pow_mul]
theorem shlSo_end {n z s i c : Nat} {l : List Nat} (h : ShlSo n z s i c l) (hn : (digs n).length ≤ i) (k : Nat) (hk : 24 * z + s = k) : digs (num (l ++ [c])) = digs (n * 2 ^ k) := by
  have h3 := h.sum
  rw [low_all (Nat.lt_of_lt_of_le (digs_len_lt n) (W_mono hn))] at h3
  rw [num_snoc, h.len, h3, W_two, ← hk, ← Nat.pow_add, Nat.add_comm s]

theorem n_trim' {u : Value} {n : Nat} {w : World} (hu : IsN w u n) (h8 : (digs n).length ≤ 5000) : Calls Tryz.prog 81 #[u] w (MakesN w n) :=
  (n_trim hu (digs_lt n) h8).mono fun e w' h => by rw [num_digs] at h; exact h.makesN

theorem n_shl_le {u : Value} {n : Nat} {w : World} (hu : IsN w u n) (ha8 : (digs n).length ≤ 2000) (k : Int) (hk : k ≤ 0) : Calls Tryz.prog 31 #[u, .int .i64 k] w (MakesN w n) := by
  have HU := Lib.hid hu
  obtain ⟨aa, la, ca, rfl, hA, _⟩ := hu
  have hl := hA.1
  rw [hl] at ha8
  have HL := Lib.hid hl
  clear hA hl
  go_enter Tryz.func31, Tryz.ntmps31
  go_wp2_with fail
  refine (n_trim' HU.out (by rw [HL.out]; omega)).mono ?_
  rintro e w1 ⟨v, rfl, hv, hb⟩
  have HV := Lib.hid hv
  have HB := Lib.hid hb
  clear hv hb
  go_wp2
  go_ret
  exact ⟨_, rfl, HV.out, HB.out⟩

set_option maxHeartbeats 2000000 in
theorem n_shl_pos {u : Value} {n : Nat} {w : World} (hu : IsN w u n) (ha8 : (digs n).length ≤ 2000) (k : Nat) (hk : 0 < k) (hk8 : k ≤ 20000) (hn0 : n ≠ 0) : Calls Tryz.prog 31 #[u, .int .i64 k] w (MakesN w (n * 2 ^ k)) := by
  obtain ⟨i0, hi, hz0, hz1, hz2⟩ := info_parts info3
  obtain ⟨aa, la, ca, rfl, hA, _⟩ := hu
  have hla := hA.1
  rw [hla] at ha8
  have hla0 : 0 < la := by
    apply Nat.pos_of_ne_zero
    intro h0
    have h1 : digs n = [] := List.length_eq_zero_iff.1 (by rw [hla, h0])
    have := num_digs n
    rw [h1] at this
    exact hn0 this.symm
  have HA := Lib.hid hA
  have HLA := Lib.hid hla
  obtain ⟨z, hz⟩ : ∃ z, k / 24 = z := ⟨_, rfl⟩
  obtain ⟨s, hs⟩ : ∃ s, k % 24 = s := ⟨_, rfl⟩
  have hzi : (k : Int) / 24 = (z : Int) := by omega
  have hsi : (k : Int) % 24 = (s : Int) := by omega
  have hs24 : (s : Int) < 24 := by omega
  have hs0 : (0 : Int) ≤ s := by omega
  have hz8 : z ≤ 1000 := by omega
  have HK : Hid (24 * z + s = k) := Lib.hid (by omega)
  have hp23 : (2 : Nat) ^ s ≤ 8388608 := Nat.pow_le_pow_right (n := 2) (by decide) (show s ≤ 23 by omega)
  have hpp : 0 < (2 : Nat) ^ s := Nat.pow_pos (by decide)
  obtain ⟨p, hp⟩ : ∃ p, 2 ^ s = p := ⟨_, rfl⟩
  have hw : wrap64 ((2 : Int) ^ s) = (p : Int) := by
    rw [show (2 : Int) ^ s = ((2 ^ s : Nat) : Int) by push_cast; rfl, hp]
    rw [hp] at hp23
    clear hp
    unfold wrap64; omega
  rw [hp] at hp23 hpp
  have HP := Lib.hid hp
  have hk0 : (0 : Int) < k := by omega
  have hli : (0 : Int) < la := by omega
  have hln : ((la : Int) == 0) = false := by apply beq_false_of_ne; omega
  clear hA hla hz hs hp hn0
  go_enter Tryz.func31, Tryz.ntmps31
  go_wp2_with (at_make; go_loud (refine wpList_make_full _ rfl _ _ 34 rfl w.heap.size 3 i0 (.int .i64 0) 1 Tryz.underlying34 hi hz0 hz1 .i64 .i64 _ _ z rfl rfl (by omega) (by omega) (by rw [hz2]; omega) (by unfold maxLen; omega) (Nat.le_refl _) ?_); intro w1 hown hgr)
  have hsets : (madeCells (Value.int .i64 0).cells (z * 1)).toList = (List.replicate z 0).map I := by
    rw [Nat.mul_one]
    apply List.ext_getElem
    · simp [madeCells]
    · intro i h1 h2
      simp [madeCells, Value.cells, Nat.mod_one]
  rw [hsets] at hown
  have HO := Lib.hid hown
  have HB1 : Hid (Below w.heap.size w w1) := Lib.hid ((Below.refl _ w).grown hgr (Nat.le_refl _) (by simp))
  rw [hw, hsi]
  clear hsets hown hgr hw
  go_loopw [5, 7, 8] (fun o cy i wr => ∃ (j c : Nat) (l : List Nat), j ≤ la ∧ c < p ∧ i = .int .i64 j ∧ cy = .int .i64 c ∧ Hid (ShlSo n z s j c l) ∧ Hid (wr.ownsRow w.heap.size 3 1 o (z + j) (l.map I)) ∧ Hid (Below w.heap.size w wr)) (fun _ _ i _ => la - (intOf i).toNat)
  case atStart => exact ⟨0, 0, _, Nat.zero_le _, by omega, rfl, rfl, Lib.hid (shlSo_zero n z s), HO, HB1⟩
  case round =>
    obtain ⟨j, c, l, hj, hc, rfl, rfl, HS, hz, hbl⟩ := hrel
    by_cases hjl : j < la
    · obtain ⟨ba, offa, rfl, ca1⟩ := isI_cell (HA.out.below (hbl.out.mono (Nat.le_refl _))) hjl
      rw [digs_limb] at ca1
      have hx := limb_lt n j
      have HS2 := Lib.hid (shlSo_succ HS.out)
      have hc2 := HS2.out.cl
      obtain ⟨x, hxx⟩ : ∃ x, limb n j = x := ⟨_, rfl⟩
      rw [hxx, HP.out] at HS2 hc2
      rw [hxx] at hx ca1
      have hxp : x * p ≤ 16777215 * 8388608 := Nat.mul_le_mul (by omega) hp23
      obtain ⟨m, hm⟩ : ∃ m, x * p = m := ⟨_, rfl⟩
      rw [hm] at HS2 hc2 hxp
      have hmi : (x : Int) * p = (m : Int) := by rw [← hm]; push_cast; rfl
      have hwm : wrap64 ((x : Int) * p) = m := by rw [hmi]; clear hmi hm hsi hzi; unfold wrap64; omega
      have HWM := Lib.hid hwm
      clear hmi hm hwm
      obtain ⟨t, ht⟩ : ∃ t, m + c = t := ⟨_, rfl⟩
      rw [ht] at HS2 hc2
      have hti : (m : Int) + c = (t : Int) := by omega
      obtain ⟨d, hd⟩ : ∃ d, t % 16777216 = d := ⟨_, rfl⟩
      obtain ⟨q, hq⟩ : ∃ q, t / 16777216 = q := ⟨_, rfl⟩
      rw [hd, hq] at HS2
      rw [hq] at hc2
      have ht0 : (t : Int) ≤ 140737488355327 := by omega
      have hdi : (t : Int) % 16777216 = (d : Int) := by omega
      have hqi : (t : Int) / 16777216 = (q : Int) := by omega
      have hji : (j : Int) < la := by omega
      have hm9 : (m : Int) ≤ 140737479966720 := by omega
      have hc9 : (c : Int) ≤ 8388608 := by omega
      clear hxx ht hd hq hxp HS
      have hwm := HWM.out
      go_wp2_with (at_builtin; refine n_append rfl (.tmp 39) (.tmp 42) rfl w.heap.size _ (z + j) l rfl (hz.out.alloc _) _ [d] rfl (ila_one _ d _ rfl) (by simp; omega) (Nat.le_trans hbl.out.size (by simp)) ?_; intro v' w' ho hb)
      go_roundw
      case rel => exact ⟨j + 1, q, l ++ [d], by omega, hc2, by go_num, rfl, HS2, Lib.hid ho, Lib.hid ((hbl.out.alloc hbl.out.size _).trans hb)⟩
      case measure => simp [intOf]; omega
    · obtain rfl : j = la := by omega
      have HE := Lib.hid (shlSo_end HS.out (by rw [HLA.out]; exact Nat.le_refl _) k HK.out)
      have HLT : Hid (∀ d ∈ l ++ [c], d < 16777216) := Lib.hid (fun d hd => by
        rcases List.mem_append.1 hd with hd | hd
        · exact HS.out.lt d hd
        · rw [List.mem_singleton.1 hd]; omega)
      have HLN : Hid ((l ++ [c]).length ≤ 5000) := Lib.hid (by rw [List.length_append, HS.out.len, List.length_singleton]; omega)
      clear HS
      go_wp2_with (first | (at_builtin; refine n_append rfl (.tmp 46) (.tmp 48) rfl w.heap.size _ (z + j) l rfl (hz.out.alloc _) _ [c] rfl (ila_one _ c _ rfl) (by simp; omega) (Nat.le_trans hbl.out.size (by simp)) ?_; intro v' w' ho hb) | (go_at_call 81; fail))
      refine (n_trim (ila_own ho) HLT.out HLN.out).mono ?_
      rintro e w2 hmk
      rw [HE.out] at hmk
      obtain ⟨v, rfl, hv, hb2⟩ := hmk.makesN
      have HV2 := Lib.hid hv
      have HBB := Lib.hid hb2
      have HB3 := Lib.hid ((hbl.out.alloc hbl.out.size _).trans hb)
      clear hv hb2 hmk hb ho
      go_wp2
      go_ret
      exact ⟨_, rfl, HV2.out, HB3.out.trans (HBB.out.mono HB3.out.size)⟩

theorem n_shl {u : Value} {n : Nat} {w : World} (hu : IsN w u n) (ha8 : (digs n).length ≤ 2000) (k : Nat) (hk8 : k ≤ 20000) : Calls Tryz.prog 31 #[u, .int .i64 k] w (MakesN w (n * 2 ^ k)) := by
  by_cases h0 : k = 0
  · subst h0
    have := n_shl_le hu ha8 ((0 : Nat) : Int) (by omega)
    simpa using this
  · by_cases hn : n = 0
    · subst hn
      rw [Nat.zero_mul]
      have HU := Lib.hid hu
      obtain ⟨aa, la, ca, rfl, hA, _⟩ := hu
      have hl := hA.1
      rw [digs_zero] at hl
      obtain rfl : 0 = la := hl
      have hki : (0 : Int) < k := by omega
      clear hA
      go_enter Tryz.func31, Tryz.ntmps31
      go_wp2_with fail
      refine (n_trim' HU.out (by rw [digs_zero]; exact Nat.zero_le _)).mono ?_
      rintro e w1 ⟨v, rfl, hv, hb⟩
      have HV := Lib.hid hv
      have HB := Lib.hid hb
      clear hv hb
      go_wp2
      go_ret
      exact ⟨_, rfl, HV.out, HB.out⟩
    · exact n_shl_pos hu ha8 k (by omega) hk8 hn
end Go.Proofs.YtdflbipaicpdcaaGreatDoor
namespace Go.Proofs.YtdflbipaicpdcaaGreatDoor
open Go

section
variable {P : Program} {ops : Array Oper} {Q : Exit → Act → World → Prop} {md : Region.Mode} {S : World → Prop}

def Stays (P : Program) (w : World) (v : Value) : Result Next → Prop
  | .ok (.value u) w' => u = v ∧ w' = w
  | .ok (.enter f args) w' => Calls P f args w' fun e w'' => e = .returned v ∧ w'' = w
  | _ => False

def StillIf (P : Program) (ops : Array Oper) (S : World → Prop) (o : Oper) (v : Value) (a : Act) : Prop :=
  (Region.wanted o (yielded ops a.tmps) = true ∧ ∀ w, S w → Stays P w v ((execOp a.eval o).run P w)) ∨
  (Region.wanted o (yielded ops a.tmps) = false ∧ v = undef)

theorem StillIf.wpOp {i : Nat} {o : Oper} {v : Value} {a : Act} (hi : ops[i]? = some o) (hy : StillIf P ops S o v a)
    {K : Act → World → Prop} {w : World} (hS : S w) (h : K (a.put o.dst v) w) : wpOp P ops Q i K a w := by
  unfold Go.wpOp
  simp only [hi]
  rcases hy with ⟨hw, hv⟩ | ⟨hw, rfl⟩
  · simp only [hw, if_true, Oper.wp]
    refine .inl ?_
    have h1 := hv w hS
    generalize (execOp a.eval o).run P w = r at h1
    cases r with
    | ok n w' =>
      cases n <;> simp only [Stays] at h1 <;> simp only [Oper.upon]
      case value u => obtain ⟨rfl, rfl⟩ := h1; exact h
      case enter f args =>
        refine Calls.mono h1 fun e w'' he => ?_
        obtain ⟨rfl, rfl⟩ := he
        exact h
    | halt x w' => simp only [Stays] at h1
  · simp only [hw, Bool.false_eq_true, if_false]; exact h

theorem StillIf.of_same {o : Oper} {v : Value} {a a' : Act} (hy : StillIf P ops S o v a) (he : execOp a'.eval o = execOp a.eval o)
    (hw : Region.wanted o (yielded ops a'.tmps) = Region.wanted o (yielded ops a.tmps)) : StillIf P ops S o v a' := by
  unfold StillIf at *
  rw [he, hw]
  exact hy

theorem wpOp_putG {j : Nat} {oi oj : Oper} {v : Value} (hj : ops[j]? = some oj) (hap : oi.apart ops oj = true)
    (hsi : ∀ cs b, oi.op ≠ .select cs b) (hsj : ∀ cs b, oj.op ≠ .select cs b)
    (hQ : ∀ c a w, Q (.panic c) (a.put oi.dst v) w → Q (.panic c) a w) {K : Act → World → Prop} {a : Act} {w : World}
    (hy : StillIf P ops S oi v a) (h : wpOp P ops Q j K (a.put oi.dst v) w) :
    wpOp P ops Q j (fun a' w' => StillIf P ops S oi v a' ∧ K (a'.put oi.dst v) w') a w := by
  obtain ⟨h1, h2, h3⟩ := Oper.apart_spec hap
  have keep : ∀ (a : Act), StillIf P ops S oi v a → ∀ u, StillIf P ops S oi v (a.put oj.dst u) := fun a hy u =>
    hy.of_same (execOp_put oi hsi a oj.dst u h3) (wanted_put oi a oj.dst u h3)
  have keepD : ∀ d, StillIf P ops S oi v { a with defers := d :: a.defers } := fun d => hy.of_same rfl rfl
  unfold Go.wpOp at *
  simp only [hj] at *
  rw [wanted_put oj a oi.dst v h1] at h
  split
  · rename_i hw
    simp only [hw, if_true] at h
    rcases h with h | ⟨hasks, hlets⟩
    case inr => exact .inr ⟨by unfold Oper.asks at *; rw [execOp_put oj hsj a oi.dst v h1] at hasks; exact hasks, hlets⟩
    refine .inl ?_
    unfold Oper.wp at *
    rw [execOp_put oj hsj a oi.dst v h1] at h
    generalize (execOp a.eval oj).run P w = r at *
    cases r with
    | ok n w' =>
      cases n <;> simp only [Oper.upon] at h ⊢
      case value u => exact ⟨keep a hy u, by rw [← Act.put_comm a v u h2]; exact h⟩
      case skip => exact ⟨keep a hy _, by rw [← Act.put_comm a v undef h2]; exact h⟩
      case defer d =>
        refine ⟨keep _ (keepD d) _, ?_⟩
        rw [← Act.put_comm _ v undef h2, ← Act.put_defers]
        exact h
      case enter f args =>
        refine Calls.mono h fun e w'' he => ?_
        cases e with
        | returned u => exact ⟨keep a hy u, by rw [← Act.put_comm a v u h2]; exact he⟩
        | panicked c => exact hQ _ _ _ he
        | outgrown => exact he
      case row row args => exact Rows.mono h fun u w'' he => ⟨keep a hy u, by rw [← Act.put_comm a v u h2]; exact he⟩
    | halt x w' =>
      cases x <;> simp only [Oper.upon] at h ⊢
      case panic u => exact hQ _ _ _ h
  · rename_i hw
    simp only [hw] at h
    exact ⟨keep a hy _, by rw [← Act.put_comm a v undef h2]; exact h⟩

/-- Whatever order is picked from here on; S holds all along. -/
def wpAnyR (P : Program) (md : Region.Mode) (ops : Array Oper) (Q : Exit → Act → World → Prop) (S : World → Prop) : Nat → Array Bool → Act → World → Prop
  | 0, listed, a, w => Region.ready md ops listed = [] ∧ Q .normal a w
  | fuel + 1, listed, a, w =>
    (Region.ready md ops listed = [] → Q .normal a w) ∧
    ∀ i ∈ Region.ready md ops listed, wpOp P ops Q i (fun a' w' => S w' ∧ wpAnyR P md ops Q S fuel (listed.setIfInBounds i true) a' w') a w

theorem wpAny_of_R : ∀ (fuel : Nat) (listed : Array Bool) (a : Act) (w : World), wpAnyR P md ops Q S fuel listed a w → wpAny P md ops Q fuel listed a w
  | 0, _, _, _, h => ⟨h.1, h.2⟩
  | fuel + 1, _, _, _, h => ⟨h.1, fun i hi => wpOp_mono (fun a' w' h' => wpAny_of_R fuel _ a' w' h'.2) (h.2 i hi)⟩

theorem wpAnyR_first {i : Nat} {oi : Oper} {v : Value} (hi : ops[i]? = some oi) (hsel : ∀ (j : Nat) (o : Oper) cs b, ops[j]? = some o → o.op ≠ .select cs b)
    (hQ : ∀ c a w, Q (.panic c) (a.put oi.dst v) w → Q (.panic c) a w) :
    ∀ (fuel : Nat) (listed : Array Bool) (a : Act) (w : World), S w →
      (∀ j oj, ops[j]? = some oj → j ≠ i → listed.getD j true = false → (∀ e ∈ oj.after, Region.binds md e = true → e.on ≠ i) → oi.apart ops oj = true) →
      i ∈ Region.ready md ops listed → StillIf P ops S oi v a →
      wpAnyR P md ops Q S fuel (listed.setIfInBounds i true) (a.put oi.dst v) w → wpAnyR P md ops Q S (fuel + 1) listed a w := by
  intro fuel
  induction fuel with
  | zero =>
    intro listed a w hS _ hr hy H
    refine ⟨fun h => (by rw [h] at hr; cases hr), fun j hj => ?_⟩
    by_cases hji : j = i
    · subst hji; exact hy.wpOp hi hS ⟨hS, H⟩
    · have := ready_mono hj hji
      rw [H.1] at this
      cases this
  | succ fuel ih =>
    intro listed a w hS hfree hr hy H
    refine ⟨fun h => (by rw [h] at hr; cases hr), fun j hj => ?_⟩
    by_cases hji : j = i
    · subst hji; exact hy.wpOp hi hS ⟨hS, H⟩
    · have h1 := H.2 j (ready_mono hj hji)
      obtain ⟨hjun, oj, hoj, hall⟩ := mem_ready.1 hj
      have hnot : ∀ e ∈ oj.after, Region.binds md e = true → e.on ≠ i := fun e he hb heq => by
        have h1 := hall e he hb
        have h0 := (mem_ready.1 hr).1
        rw [heq] at h1
        rcases Nat.lt_or_ge i listed.size with h' | h'
        · simp [h'] at h0 h1; rw [h0] at h1; cases h1
        · simp [Array.getElem?_eq_none h'] at h1
      have h2 := wpOp_putG hoj (hfree j oj hoj hji hjun hnot) (fun cs b => hsel i oi cs b hi) (fun cs b => hsel j oj cs b hoj) hQ hy h1
      have hfree' : ∀ k ok, ops[k]? = some ok → k ≠ i → (listed.setIfInBounds j true).getD k true = false →
          (∀ e ∈ ok.after, Region.binds md e = true → e.on ≠ i) → oi.apart ops ok = true := fun k ok hk hki hun hno => by
        refine hfree k ok hk hki ?_ hno
        by_cases hjk : j = k
        · subst hjk; exact hjun
        · rw [getD_set_ne true hjk] at hun; exact hun
      refine wpOp_mono (fun a' w' h3 => ⟨h3.2.1, ih (listed.setIfInBounds j true) a' w' h3.2.1 hfree' (ready_mono hr (Ne.symm hji)) h3.1 ?_⟩) h2
      rw [Array.setIfInBounds_comm _ _ hji]
      exact h3.2.2

/-- Take number i first. -/
theorem wpAnyR_take {i : Nat} {oi : Oper} {v : Value} {fuel : Nat} {listed listed' : Array Bool} {a a' : Act} {w : World} (hi : ops[i]? = some oi)
    (hs : Region.noSelect ops = true) (hf : Region.free md ops listed i = true) (hr : (Region.ready md ops listed).contains i = true)
    (hQ : ∀ c a w, Q (.panic c) (a.put oi.dst v) w → Q (.panic c) a w) (hS : S w) (hy : StillIf P ops S oi v a) (hl : listed.setIfInBounds i true = listed') (ha : a.put oi.dst v = a')
    (h : wpAnyR P md ops Q S fuel listed' a' w) : wpAnyR P md ops Q S (fuel + 1) listed a w := by
  subst hl; subst ha
  exact wpAnyR_first hi (Region.noSelect_spec hs) hQ fuel listed a w hS (Region.free_spec hi hf) (by simpa using hr) hy h

/-- One alone is ready. -/
theorem wpAnyR_one {i : Nat} {oi : Oper} {fuel : Nat} {listed listed' : Array Bool} {a : Act} {w : World} (hi : ops[i]? = some oi) (hr : Region.ready md ops listed = [i])
    (hg : oi.guard = none) (hl : listed.setIfInBounds i true = listed')
    (h : Oper.wp P oi a w (fun a' w' => S w' ∧ wpAnyR P md ops Q S fuel listed' a' w') Q) : wpAnyR P md ops Q S (fuel + 1) listed a w := by
  subst hl
  refine ⟨fun h0 => (by rw [hr] at h0; cases h0), fun j hj => ?_⟩
  rw [hr, List.mem_singleton] at hj
  subst hj
  unfold Go.wpOp
  simp only [hi]
  have hw : Region.wanted oi (yielded ops a.tmps) = true := by simp [Region.wanted, hg]
  simp only [hw, if_true]
  exact .inl h

theorem wpAnyR_done {listed : Array Bool} {a : Act} {w : World} (hr : Region.ready md ops listed = []) (h : Q .normal a w) :
    ∀ fuel, wpAnyR P md ops Q S fuel listed a w
  | 0 => ⟨hr, h⟩
  | _ + 1 => ⟨fun _ => h, by rw [hr]; simp⟩

/-- The beginning. -/
theorem wp_region_still {id : Nat} {a : Act} {w : World} (hm : P.follows .mixedOrders = true)
    (h : wpAnyR P .any ops Q S ops.size (Array.replicate ops.size false) a w.drew) : (Code.region id ops true).wp P Q a w :=
  wp_region_any hm (wpAny_of_R _ _ _ _ h)
end
end Go.Proofs.YtdflbipaicpdcaaGreatDoor
namespace Go.Proofs.YtdflbipaicpdcaaGreatDoor
open Go.RowKit
set_option maxRecDepth 100000

theorem cell_lt' {w : World} {a : Addr} {v : Value} (h : w.cell? a = some v) : a.block < w.heap.size := by
  apply Decidable.byContradiction
  intro hn
  rw [World.cell?, Array.getElem?_eq_none (by omega)] at h
  cases h
theorem cell_of {W W1 : World} (hb : Below W.heap.size W W1) {b o : Nat} {v : Value} (h : W.cell? ⟨b, o, none⟩ = some v) : W1.cell? ⟨b, o, none⟩ = some v := by
  rw [hb.cell (p := ⟨b, o, none⟩) (cell_lt' h), h]

structure LowSo (n j : Nat) (l : List Nat) : Prop where
  len : l.length = j
  lt : ∀ d ∈ l, d < 16777216
  sum : num l = low n j
theorem lowSo_zero (n : Nat) : LowSo n 0 [] := ⟨rfl, (fun _ h => by cases h), by rw [low_zero]; rfl⟩
theorem lowSo_succ {n j : Nat} {l : List Nat} (h : LowSo n j l) : LowSo n (j + 1) (l ++ [limb n j]) := by
  obtain ⟨h1, h2, h3⟩ := h
  refine ⟨by rw [List.length_append, h1]; rfl, fun d hd => ?_, by rw [num_snoc, h1, h3, low_succ]⟩
  rcases List.mem_append.1 hd with hd | hd
  · exact h2 d hd
  · rw [List.mem_singleton.1 hd]; exact limb_lt _ _
theorem lowSo_end {n j : Nat} {l : List Nat} (h : LowSo n j l) (hn : n < W j) : digs (num l) = digs n := by rw [h.sum, low_all hn]

/-- a limb of a number that is shifted down: of two limbs -/
theorem shr_limb (n z s j : Nat) (hs : s < 24) : limb (n / 2 ^ (24 * z + s)) j = limb n (z + j) / 2 ^ s + limb n (z + j + 1) % 2 ^ s * (16777216 / 2 ^ s) := by
  have hpow : (2 : Nat) ^ 24 = 2 ^ s * 2 ^ (24 - s) := by rw [← Nat.pow_add, show s + (24 - s) = 24 by omega]
  have hp : 0 < (2 : Nat) ^ s := Nat.pow_pos (by decide)
  have hq : 0 < (2 : Nat) ^ (24 - s) := Nat.pow_pos (by decide)
  have hB : (16777216 : Nat) = 2 ^ s * 2 ^ (24 - s) := hpow
  have hdivB : 16777216 / 2 ^ s = 2 ^ (24 - s) := by rw [hB]; exact Nat.mul_div_cancel_left _ hp
  have e1 : limb (n / 2 ^ (24 * z + s)) j = n / W (z + j) / 2 ^ s % 16777216 := by
    unfold limb
    rw [Nat.pow_add, ← W_two, Nat.div_div_eq_div_mul, W_add, Nat.div_div_eq_div_mul]
    congr 2
    simp only [Nat.mul_assoc, Nat.mul_comm]
  rw [e1, hdivB]
  generalize hm : n / W (z + j) = m
  have hx : limb n (z + j) = m % 16777216 := by unfold limb; rw [hm]
  have hy : limb n (z + j + 1) = m / 16777216 % 16777216 := by
    unfold limb
    rw [W_succ, Nat.mul_comm, ← Nat.div_div_eq_div_mul, hm]
  rw [hx, hy]
  clear hx hy hm e1 hdivB hpow
  generalize 2 ^ s = P at hp hB ⊢
  generalize 2 ^ (24 - s) = Q at hq hB ⊢
  generalize 16777216 = B at hB ⊢
  have ha : m % B + P * (Q * (m / B)) = m := by rw [← Nat.mul_assoc, ← hB]; exact Nat.mod_add_div m B
  have h1 : m / P = m % B / P + Q * (m / B) := by
    conv => lhs; rw [← ha]
    exact Nat.add_mul_div_left _ _ hp
  rw [h1, Nat.mod_mod_of_dvd _ (show P ∣ B from ⟨Q, hB⟩)]
  have hBp : 0 < B := by rw [hB]; exact Nat.mul_pos hp hq
  have h4 : m % B / P < Q := Nat.div_lt_of_lt_mul (by rw [← hB]; exact Nat.mod_lt _ hBp)
  generalize m / B = t
  generalize m % B / P = a at h4 ⊢
  have h3 : Q * t = t % P * Q + B * (t / P) := by
    conv => lhs; rw [← Nat.mod_add_div t P]
    rw [Nat.mul_add, hB, Nat.mul_comm Q (t % P), ← Nat.mul_assoc Q P, Nat.mul_comm Q P]
  have h5 : t % P * Q + Q ≤ B := by
    have : (t % P + 1) * Q ≤ P * Q := Nat.mul_le_mul_right _ (Nat.mod_lt _ hp)
    rw [Nat.add_mul, Nat.one_mul, ← hB] at this
    exact this
  rw [h3, ← Nat.add_assoc, Nat.add_mul_mod_self_left]
  exact Nat.mod_eq_of_lt (by omega)

theorem shr_end (n z s la : Nat) (h : n < W la) : n / 2 ^ (24 * z + s) < W (la - z) := by
  apply Nat.div_lt_of_lt_mul
  rw [Nat.pow_add, ← W_two]
  have h1 : W la ≤ W z * W (la - z) := by rw [← W_add]; exact W_mono (by omega)
  have h2 : W z * W (la - z) ≤ W z * 2 ^ s * W (la - z) := Nat.mul_le_mul_right _ (Nat.le_mul_of_pos_right _ (Nat.pow_pos (by decide)))
  omega

theorem n_shr_le {u : Value} {n : Nat} {w : World} (hu : IsN w u n) (ha8 : (digs n).length ≤ 2000) (k : Int) (hk : k ≤ 0) : Calls Tryz.prog 79 #[u, .int .i64 k] w (MakesN w n) := by
  have HU := Lib.hid hu
  obtain ⟨aa, la, ca, rfl, hA, _⟩ := hu
  have hl := hA.1
  rw [hl] at ha8
  have HL := Lib.hid hl
  clear hA hl
  go_enter Tryz.func79, Tryz.ntmps79
  go_wp2_with fail
  refine (n_trim' HU.out (by rw [HL.out]; omega)).mono ?_
  rintro e w1 ⟨v, rfl, hv, hb⟩
  have HV := Lib.hid hv
  have HB := Lib.hid hb
  clear hv hb
  go_wp2
  go_ret
  exact ⟨_, rfl, HV.out, HB.out⟩

theorem wp_append_row {o : Oper} {a : Act} {w : World} {K : Act → World → Prop} {Q : Exit → Act → World → Prop}
    (s x : Operand) (hop : o.op = Op.call { callee := Callee.builtin Builtin.append, args := #[s, x], argTypes := #[34, 34] })
    (base : Nat) (v : Value) (k : Nat) (l : List Nat) (hs : a.eval s = v) (hown : w.ownsRow base 3 1 v k (l.map I)) (y : Nat) (b : Nat) (hx : a.eval x = .slice (some ⟨b, 0, none⟩) 1 1) (hc : w.cell? ⟨b, 0, none⟩ = some (I y)) (hsz : k + 1 ≤ 10000) (hb : base ≤ w.heap.size)
    (hK : ∀ v' w', w'.ownsRow base 3 1 v' (k + 1) ((l ++ [y]).map I) → Below base w w' → K (a.put o.dst v') w') :
    Oper.wp Tryz.prog o a w K Q := by
  obtain ⟨i0, hi, hz0, hz1, hz2⟩ := info_parts info3
  obtain ⟨v', w', hrun, r1, r2, _⟩ := run_append_own (P := Tryz.prog) w base 34 o.type 3 i0 (.int .i64 0) 1 8 Tryz.underlying34 hi hz0 hz1 hz2 rfl (by decide) v k (l.map I) hown ⟨b, 0, none⟩ 1 1 [I y] rfl (fun j u hj => by
    cases j with
    | zero => simp at hj; rw [← hj]; exact hc
    | succ j => simp at hj) (fun u hu => by rw [List.mem_singleton.1 hu]; rfl) (by unfold maxLen; omega) (by omega) hb
  unfold Oper.wp
  simp [execOp, hop, resolve, invoke, builtin, hs, hx, hrun, Result.andThen]
  exact hK v' w' (by rw [List.map_append]; exact r1) ((Below.refl _ _).grown r2 hb (n_own_base hown))

set_option maxHeartbeats 2000000 in
theorem n_shr_pos {u : Value} {n : Nat} {w : World} (hu : IsN w u n) (ha8 : (digs n).length ≤ 2000) (k : Nat) (hk : 0 < k) (hk8 : k ≤ 20000) : Calls Tryz.prog 79 #[u, .int .i64 k] w (MakesN w (n / 2 ^ k)) := by
  obtain ⟨aa, la, ca, rfl, hA, _⟩ := hu
  have hla := hA.1
  rw [hla] at ha8
  have HA := Lib.hid hA
  have HLA := Lib.hid hla
  have HN : Hid (n < W la) := Lib.hid (by rw [← hla]; exact digs_len_lt n)
  obtain ⟨z, hz⟩ : ∃ z, k / 24 = z := ⟨_, rfl⟩
  obtain ⟨s, hs⟩ : ∃ s, k % 24 = s := ⟨_, rfl⟩
  have hzi : (k : Int) / 24 = (z : Int) := by omega
  have hsi : (k : Int) % 24 = (s : Int) := by omega
  have hs24 : (s : Int) < 24 := by omega
  have hs0 : (0 : Int) ≤ s := by omega
  have hz8 : z ≤ 1000 := by omega
  have HK : Hid (24 * z + s = k) := Lib.hid (by omega)
  obtain ⟨m, hm⟩ : ∃ m, n / 2 ^ k = m := ⟨_, rfl⟩
  rw [hm]
  have HLM : Hid (∀ j, limb m j = limb n (z + j) / 2 ^ s + limb n (z + j + 1) % 2 ^ s * (16777216 / 2 ^ s)) := Lib.hid (fun j => by rw [← hm, ← HK.out]; exact shr_limb n z s j (by omega))
  have HME : Hid (m < W (la - z)) := Lib.hid (by rw [← hm, ← HK.out]; exact shr_end n z s la HN.out)
  have hp23 : (2 : Nat) ^ s ≤ 8388608 := Nat.pow_le_pow_right (n := 2) (by decide) (show s ≤ 23 by omega)
  have hpp : 0 < (2 : Nat) ^ s := Nat.pow_pos (by decide)
  obtain ⟨p, hp⟩ : ∃ p, 2 ^ s = p := ⟨_, rfl⟩
  have hw : wrap64 ((2 : Int) ^ s) = (p : Int) := by
    rw [show (2 : Int) ^ s = ((2 ^ s : Nat) : Int) by push_cast; rfl, hp]
    rw [hp] at hp23
    clear hp hm
    unfold wrap64; omega
  rw [hp] at hp23 hpp HLM
  have hk0 : (0 : Int) < k := by omega
  clear hA hla hz hs hp hm
  go_enter Tryz.func79, Tryz.ntmps79
  go_wp2
  rw [hw, hsi, show decide (k = 0) = false from decide_eq_false (by omega)]
  clear hw
  go_loopw [7, 8] (fun o i wr => ∃ (j : Nat) (l : List Nat), (j = 0 ∨ z + j ≤ la) ∧ i = .int .i64 ((z : Int) + j) ∧ Hid (LowSo m j l) ∧ Hid (wr.ownsRow w.heap.size 3 1 o j (l.map I)) ∧ Hid (Below w.heap.size w wr)) (fun _ i _ => (la + z + 1) - (intOf i).toNat)
  case atStart => exact ⟨0, [], .inl rfl, by simp, Lib.hid (lowSo_zero m), Lib.hid (World.ownsRow_nil _ _ _ _), Lib.hid (Below.refl _ _)⟩
  case round =>
    obtain ⟨j, l, hj, rfl, HS, hz, hbl⟩ := hrel
    by_cases hjl : z + j < la
    · have HS2 := Lib.hid (lowSo_succ HS.out)
      have hlm := HLM.out j
      obtain ⟨i, hi⟩ : ∃ i, z + j = i := ⟨_, rfl⟩
      obtain ⟨i1, hi1⟩ : ∃ i1, i + 1 = i1 := ⟨_, rfl⟩
      rw [hi, hi1] at hlm
      have hii : (z : Int) + j = (i : Int) := by omega
      rw [hii]
      have hw0 : IntKind.i64.wrap ((i : Int) + 1) = (i1 : Int) := by rw [IntKind.wrap_i64]; omega
      obtain ⟨ba, offa, rfl, ca1⟩ := isI_cell HA.out (show i < la by omega)
      rw [digs_limb] at ca1
      have hx := limb_lt n i
      have hy := limb_lt n i1
      obtain ⟨x, hxx⟩ : ∃ x, limb n i = x := ⟨_, rfl⟩
      obtain ⟨y, hyy⟩ : ∃ y, limb n i1 = y := ⟨_, rfl⟩
      have HY := Lib.hid hyy
      rw [hxx] at hx ca1 hlm
      rw [hyy] at hy hlm
      have hdl := limb_lt m j
      obtain ⟨d, hd⟩ : ∃ d, limb m j = d := ⟨_, rfl⟩
      rw [hd] at HS2 hlm hdl
      obtain ⟨x1, hx1⟩ : ∃ x1, x / p = x1 := ⟨_, rfl⟩
      obtain ⟨y1, hy1⟩ : ∃ y1, y % p = y1 := ⟨_, rfl⟩
      obtain ⟨b1, hb1⟩ : ∃ b1, 16777216 / p = b1 := ⟨_, rfl⟩
      obtain ⟨m1, hm1⟩ : ∃ m1, y1 * b1 = m1 := ⟨_, rfl⟩
      rw [hx1, hy1, hb1, hm1] at hlm
      have e1 : (x : Int).tdiv p = (x1 : Int) := by rw [Int.tdiv_eq_ediv_of_nonneg (by omega), ← Int.natCast_ediv, hx1]
      have e2 : (y : Int).tmod p = (y1 : Int) := by rw [Int.tmod_eq_emod_of_nonneg (by omega), ← Int.natCast_emod, hy1]
      have e3 : (16777216 : Int).tdiv p = (b1 : Int) := by rw [Int.tdiv_eq_ediv_of_nonneg (by omega), ← hb1, Int.natCast_ediv]; rfl
      have e4 : (y1 : Int) * b1 = (m1 : Int) := by rw [← hm1]; push_cast; rfl
      have hx1l : x1 ≤ x := by rw [← hx1]; exact Nat.div_le_self _ _
      have hb1l : b1 ≤ 16777216 := by rw [← hb1]; exact Nat.div_le_self _ _
      have hm1l : m1 < 16777216 := by omega
      clear hx1 hy1 hb1 hm1 hxx hyy hd HS
      have w1 : IntKind.i64.wrap ((x : Int).tdiv p) = x1 := by rw [e1, IntKind.wrap_i64]; clear e1 e2 e3 e4; omega
      have w3 : IntKind.i64.wrap ((16777216 : Int).tdiv p) = b1 := by rw [e3, IntKind.wrap_i64]; clear e1 e2 e3 e4 w1; omega
      have w4 : IntKind.i64.wrap ((y1 : Int) * b1) = m1 := by rw [e4, IntKind.wrap_i64]; clear e1 e2 e3 e4 w1 w3; omega
      have w5 : IntKind.i64.wrap ((x1 : Int) + m1) = d := by rw [IntKind.wrap_i64]; clear e1 e2 e3 e4 w1 w3 w4; omega
      have w6 : IntKind.i64.wrap (x1 : Int) = x1 := by rw [IntKind.wrap_i64]; clear e1 e2 e3 e4 w1 w3 w4 w5; omega
      have w7 : IntKind.i64.wrap (b1 : Int) = b1 := by rw [IntKind.wrap_i64]; clear e1 e2 e3 e4 w1 w3 w4 w5 w6; omega
      clear e4
      have hp2 : ¬ ((p : Int) = 0) := by omega
      have hp3 : ¬ (p = 0) := by omega
      have hil : (i : Int) < la := by omega
      have hil2 : i < la := by omega
      have HD := Lib.hid hlm
      clear hlm
      go_wp2_with fail
      refine wp_region_still (S := Below w.heap.size w) (by kernel_rfl) ?_
      have hS0 : Below w.heap.size w wr.drew := hbl.out.drew
      have HOW : Hid (wr.drew.ownsRow w.heap.size 3 1 _ j (l.map I)) := Lib.hid hz.out
      refine wpAnyR_take (i := 0) rfl (by kernel_rfl) (by kernel_rfl) (by kernel_rfl) (fun _ _ _ h => h) hS0 (.inl ⟨by kernel_rfl, fun w' hS => (by go_simp; exact ⟨rfl, rfl⟩)⟩) rfl (by go_simp; rfl) ?_
      refine wpAnyR_take (i := 1) rfl (by kernel_rfl) (by kernel_rfl) (by kernel_rfl) (fun _ _ _ h => h) hS0 (.inl ⟨by kernel_rfl, fun w' hS => (by go_simp; exact ⟨rfl, rfl⟩)⟩) rfl (by go_simp; rfl) ?_
      refine wpAnyR_take (i := 2) rfl (by kernel_rfl) (by kernel_rfl) (by kernel_rfl) (fun _ _ _ h => h) hS0 (.inl ⟨by kernel_rfl, fun w' hS => (by go_simp; exact ⟨rfl, rfl⟩)⟩) rfl (by go_simp; rfl) ?_
      refine wpAnyR_take (i := 3) rfl (by kernel_rfl) (by kernel_rfl) (by kernel_rfl) (fun _ _ _ h => h) hS0 (.inl ⟨by kernel_rfl, fun w' hS => (by go_simp; exact ⟨rfl, rfl⟩)⟩) rfl (by go_simp; rfl) ?_
      refine wpAnyR_take (i := 4) rfl (by kernel_rfl) (by kernel_rfl) (by kernel_rfl) (fun _ _ _ h => h) hS0 (.inl ⟨by kernel_rfl, fun w' hS => (by have yc := cell_of hS ca1; go_simp; exact ⟨rfl, rfl⟩)⟩) rfl (by go_simp; rfl) ?_
      refine wpAnyR_take (i := 5) rfl (by kernel_rfl) (by kernel_rfl) (by kernel_rfl) (fun _ _ _ h => h) hS0 (.inl ⟨by kernel_rfl, fun w' hS => (by go_simp; exact ⟨rfl, rfl⟩)⟩) rfl (by go_simp; rfl) ?_
      refine wpAnyR_take (i := 6) rfl (by kernel_rfl) (by kernel_rfl) (by kernel_rfl) (fun _ _ _ h => h) hS0 (.inl ⟨by kernel_rfl, fun w' hS => (by go_simp; exact ⟨rfl, rfl⟩)⟩) rfl (by go_simp; rfl) ?_
      refine wpAnyR_take (i := 7) rfl (by kernel_rfl) (by kernel_rfl) (by kernel_rfl) (fun _ _ _ h => h) hS0 (.inl ⟨by kernel_rfl, fun w' hS => (by go_simp; exact ⟨rfl, rfl⟩)⟩) rfl (by go_simp; rfl) ?_
      refine wpAnyR_take (i := 8) rfl (by kernel_rfl) (by kernel_rfl) (by kernel_rfl) (fun _ _ _ h => h) hS0 (.inl ⟨by kernel_rfl, fun w' hS => (by go_simp; exact ⟨rfl, rfl⟩)⟩) rfl (by go_simp; rfl) ?_
      refine wpAnyR_take (i := 9) rfl (by kernel_rfl) (by kernel_rfl) (by kernel_rfl) (fun _ _ _ h => h) hS0 (.inl ⟨by kernel_rfl, fun w' hS => (by go_simp; exact ⟨rfl, rfl⟩)⟩) rfl (by go_simp; rfl) ?_
      refine wpAnyR_take (i := 10) rfl (by kernel_rfl) (by kernel_rfl) (by kernel_rfl) (fun _ _ _ h => h) hS0 (.inl ⟨by kernel_rfl, fun w' hS => (by go_simp; exact (n_at_q (HA.out.below hS) i1 y HY.out))⟩) rfl (by go_simp; rfl) ?_
      refine wpAnyR_take (i := 11) rfl (by kernel_rfl) (by kernel_rfl) (by kernel_rfl) (fun _ _ _ h => h) hS0 (.inl ⟨by kernel_rfl, fun w' hS => (by go_simp; exact ⟨rfl, rfl⟩)⟩) rfl (by go_simp; rfl) ?_
      refine wpAnyR_take (i := 12) rfl (by kernel_rfl) (by kernel_rfl) (by kernel_rfl) (fun _ _ _ h => h) hS0 (.inl ⟨by kernel_rfl, fun w' hS => (by go_simp; exact ⟨rfl, rfl⟩)⟩) rfl (by go_simp; rfl) ?_
      refine wpAnyR_take (i := 13) rfl (by kernel_rfl) (by kernel_rfl) (by kernel_rfl) (fun _ _ _ h => h) hS0 (.inl ⟨by kernel_rfl, fun w' hS => (by go_simp; exact ⟨rfl, rfl⟩)⟩) rfl (by go_simp; rfl) ?_
      refine wpAnyR_take (i := 14) rfl (by kernel_rfl) (by kernel_rfl) (by kernel_rfl) (fun _ _ _ h => h) hS0 (.inl ⟨by kernel_rfl, fun w' hS => (by go_simp; exact ⟨rfl, rfl⟩)⟩) rfl (by go_simp; rfl) ?_
      refine wpAnyR_take (i := 15) rfl (by kernel_rfl) (by kernel_rfl) (by kernel_rfl) (fun _ _ _ h => h) hS0 (.inl ⟨by kernel_rfl, fun w' hS => (by go_simp; exact ⟨rfl, rfl⟩)⟩) rfl (by go_simp; rfl) ?_
      refine wpAnyR_take (i := 16) rfl (by kernel_rfl) (by kernel_rfl) (by kernel_rfl) (fun _ _ _ h => h) hS0 (.inl ⟨by kernel_rfl, fun w' hS => (by go_simp; exact ⟨rfl, rfl⟩)⟩) rfl (by go_simp; rfl) ?_
      refine wpAnyR_one (i := 17) rfl (by kernel_rfl) rfl rfl ?_
      go_simp
      refine ⟨(hbl.out.alloc hbl.out.size _).drew, wpAnyR_one (i := 18) rfl (by kernel_rfl) rfl rfl ?_⟩
      refine wp_append_row (.tmp 25) (.tmp 42) rfl w.heap.size _ j l rfl (hz.out.alloc _).drew d wr.heap.size rfl (by simp [go_sem]) (by omega) (Nat.le_trans hbl.out.size (by simp)) ?_
      intro v' w' ho hb
      have HBB : Hid (Below w.heap.size w w') := Lib.hid ((hbl.out.alloc hbl.out.size _).drew.trans hb)
      have HO := Lib.hid ho
      clear ho hb hS0 HOW
      refine ⟨HBB.out, wpAnyR_one (i := 19) rfl (by kernel_rfl) rfl rfl ?_⟩
      go_simp
      refine ⟨HBB.out, wpAnyR_done (by kernel_rfl) ?_ _⟩
      go_wp2
      go_roundw
      case rel => exact ⟨j + 1, l ++ [d], by omega, (show Value.int .i64 (i1 : Int) = _ by congr 1; omega), HS2, HO, HBB⟩
      case measure => simp [intOf]; omega
    · have HE := Lib.hid (lowSo_end HS.out (Nat.lt_of_lt_of_le HME.out (W_mono (by omega))))
      have HLT := Lib.hid HS.out.lt
      have HLN := Lib.hid HS.out.len
      have hjn : ¬ (z : Int) + j < la := by omega
      have hj8 : j ≤ 2000 := by omega
      clear HS
      go_wp2_with fail
      refine (n_trim (ila_own hz.out) HLT.out (by rw [HLN.out]; omega)).mono ?_
      rintro e w2 hmk
      rw [HE.out] at hmk
      obtain ⟨v, rfl, hv, hb⟩ := hmk.makesN
      have HV2 := Lib.hid hv
      have HBB := Lib.hid hb
      clear hv hb hmk
      go_wp2
      go_ret
      exact ⟨_, rfl, HV2.out, hbl.out.trans (HBB.out.mono hbl.out.size)⟩

theorem n_shr {u : Value} {n : Nat} {w : World} (hu : IsN w u n) (ha8 : (digs n).length ≤ 2000) (k : Nat) (hk8 : k ≤ 20000) : Calls Tryz.prog 79 #[u, .int .i64 k] w (MakesN w (n / 2 ^ k)) := by
  by_cases h0 : k = 0
  · subst h0
    have := n_shr_le hu ha8 ((0 : Nat) : Int) (by omega)
    simpa using this
  · exact n_shr_pos hu ha8 k (by omega) hk8
end Go.Proofs.YtdflbipaicpdcaaGreatDoor
namespace Go.Proofs.YtdflbipaicpdcaaGreatDoor

theorem num_set : ∀ (l : List Nat) (j d : Nat), j < l.length → num (l.set j d) + W j * l.getD j 0 = num l + W j * d
  | [], _, _, h => by simp at h
  | x :: l, 0, d, _ => by simp [num, W_zero]; omega
  | x :: l, j + 1, d, h => by
    have := num_set l j d (by simp at h; omega)
    simp only [List.set_cons_succ, num, List.getD_cons_succ, W_succ]
    have e1 : 16777216 * W j * l.getD j 0 = 16777216 * (W j * l.getD j 0) := Nat.mul_assoc _ _ _
    have e2 : 16777216 * W j * d = 16777216 * (W j * d) := Nat.mul_assoc _ _ _
    rw [e1, e2]
    omega

theorem getD_set_self {l : List Nat} {j d : Nat} (h : j < l.length) : (l.set j d).getD j 0 = d := by
  rw [List.getD_eq_getElem?_getD, List.getElem?_set_self h]; rfl
theorem getD_set_other {l : List Nat} {j i d : Nat} (h : j ≠ i) : (l.set j d).getD i 0 = l.getD i 0 := by
  rw [List.getD_eq_getElem?_getD, List.getElem?_set_ne h, ← List.getD_eq_getElem?_getD]
theorem set_lt {l : List Nat} {j d : Nat} (hl : ∀ x ∈ l, x < 16777216) (hd : d < 16777216) : ∀ x ∈ l.set j d, x < 16777216 := fun x hx => by
  rcases List.mem_or_eq_of_mem_set hx with h | h
  · exact hl x h
  · rw [h]; exact hd
theorem getD_lt {l : List Nat} (hl : ∀ x ∈ l, x < 16777216) (j : Nat) : l.getD j 0 < 16777216 := by
  rw [List.getD_eq_getElem?_getD]
  cases h : l[j]? with
  | none => simp
  | some x => simp; exact hl x (List.mem_of_getElem? h)

/-- the outer loop's, ahead of round i -/
structure MulSo (a b la lb i : Nat) (l : List Nat) : Prop where
  len : l.length = la + lb
  lt : ∀ d ∈ l, d < 16777216
  zero : ∀ j, i + lb ≤ j → l.getD j 0 = 0
  sum : num l = low a i * b
/-- the inner loop's, ahead of round k -/
structure MulIn (a b la lb i k c : Nat) (l : List Nat) : Prop where
  len : l.length = la + lb
  lt : ∀ d ∈ l, d < 16777216
  zero : ∀ j, i + lb ≤ j → l.getD j 0 = 0
  sum : num l + W (i + k) * c = low a i * b + W i * (limb a i * low b k)
  cl : c < 16777216
theorem mulSo_zero (a b la lb : Nat) : MulSo a b la lb 0 (List.replicate (la + lb) 0) :=
  ⟨by simp, (fun d hd => by rw [(List.mem_replicate.1 hd).2]; decide), (fun j _ => by
    rw [List.getD_eq_getElem?_getD, List.getElem?_replicate]; split <;> rfl), by rw [num_zeros, low_zero, Nat.zero_mul]⟩
theorem MulSo.start {a b la lb i : Nat} {l : List Nat} (h : MulSo a b la lb i l) : MulIn a b la lb i 0 0 l :=
  ⟨h.len, h.lt, h.zero, by rw [h.sum, low_zero]; simp, by decide⟩
theorem MulIn.step {a b la lb i k c x : Nat} {l : List Nat} (h : MulIn a b la lb i k c l) (hi : i < la) (hk : k < lb) (hx : l.getD (i + k) 0 = x) :
    MulIn a b la lb i (k + 1) ((x + limb a i * limb b k + c) / 16777216) (l.set (i + k) ((x + limb a i * limb b k + c) % 16777216)) := by
  have hxl : x < 16777216 := by rw [← hx]; exact getD_lt h.lt _
  have hal := limb_lt a i
  have hbl := limb_lt b k
  have hm : limb a i * limb b k ≤ 16777215 * 16777215 := Nat.mul_le_mul (by omega) (by omega)
  have hcl := h.cl
  have hs := num_set l (i + k) ((x + limb a i * limb b k + c) % 16777216) (by rw [h.len]; omega)
  rw [hx] at hs
  have h3 := h.sum
  refine ⟨by rw [List.length_set, h.len], set_lt h.lt (Nat.mod_lt _ (by decide)), fun j hj => by rw [getD_set_other (by omega)]; exact h.zero j hj, ?_, by omega⟩
  rw [low_succ, ← Nat.add_assoc, W_succ]
  have e0 : W i * (limb a i * (low b k + W k * limb b k)) = W i * (limb a i * low b k) + W (i + k) * (limb a i * limb b k) := by
    rw [Nat.mul_add, Nat.mul_add, W_add]
    congr 1
    simp only [Nat.mul_assoc, Nat.mul_left_comm]
  rw [e0]
  generalize limb a i * limb b k = m at hs ⊢
  generalize ht : x + m + c = t at hs ⊢
  have e1 : W (i + k) * (t % 16777216) + 16777216 * W (i + k) * (t / 16777216) = W (i + k) * t := by
    rw [Nat.mul_comm 16777216, Nat.mul_assoc, ← Nat.mul_add, Nat.mod_add_div]
  have e2 : W (i + k) * t = W (i + k) * x + W (i + k) * m + W (i + k) * c := by rw [← ht, Nat.mul_add, Nat.mul_add]
  omega
theorem MulIn.end {a b la lb i c : Nat} {l : List Nat} (h : MulIn a b la lb i lb c l) (hi : i < la) (hb : b < W lb) : MulSo a b la lb (i + 1) (l.set (i + lb) c) := by
  have hs := num_set l (i + lb) c (by rw [h.len]; omega)
  rw [h.zero _ (Nat.le_refl _), Nat.mul_zero, Nat.add_zero, h.sum, low_all hb] at hs
  refine ⟨by rw [List.length_set, h.len], set_lt h.lt h.cl, fun j hj => by rw [getD_set_other (by omega)]; exact h.zero j (by omega), ?_⟩
  rw [hs, low_succ, Nat.add_mul, Nat.mul_assoc]
theorem MulSo.end {a b la lb : Nat} {l : List Nat} (h : MulSo a b la lb la l) (ha : a < W la) : digs (num l) = digs (a * b) := by
  rw [h.sum, low_all ha]
end Go.Proofs.YtdflbipaicpdcaaGreatDoor
namespace Go.Proofs.YtdflbipaicpdcaaGreatDoor
open Go.RowKit
set_option maxRecDepth 100000

theorem ownsI_pos {w : World} {base len : Nat} {v : Value} {l : List Nat} (h : w.ownsRow base 3 1 v len (l.map I)) (hp : 0 < len) :
    ∃ g cap, v = .slice (some ⟨g, 0, none⟩) len cap ∧ base ≤ g ∧ g < w.heap.size ∧ (∀ k, k < len → w.cell? ⟨g, k, none⟩ = some (I (l.getD k 0))) ∧ (∀ k, w.frozen? ⟨g, k, none⟩ = false) := by
  have hl : l.length = len := by have := h.1; simpa using this
  rcases h.2 with ⟨rfl, h0⟩ | ⟨g, cap, cur, rfl, hg, hh, hr⟩
  · omega
  · refine ⟨g, cap, rfl, hg, (Array.getElem?_eq_some_iff.1 hh).1, fun k hk => ?_, fun k => ?_⟩
    · rw [World.ownsRow.cellAt h k (by omega), List.getElem?_map, List.getElem?_eq_getElem (by omega), List.getD_eq_getElem?_getD, List.getElem?_eq_getElem (by omega)]
      rfl
    · simp [World.frozen?, show w.heap[g]? = _ from hh]
theorem ownsI_set {w : World} {base g len cap : Nat} {l : List Nat} (h : w.ownsRow base 3 1 (.slice (some ⟨g, 0, none⟩) len cap) len (l.map I)) (j x : Nat) :
    (w.setCell ⟨g, j, none⟩ (I x)).ownsRow base 3 1 (.slice (some ⟨g, 0, none⟩) len cap) len ((l.set j x).map I) := by
  rw [List.map_set]; exact (h.stored j (I x)).1

set_option maxHeartbeats 2000000 in
theorem n_mul {u v : Value} {a b : Nat} {w : World} (hu : IsN w u a) (hv : IsN w v b) (ha8 : (digs a).length ≤ 2000) (hb8 : (digs b).length ≤ 2000) : Calls Tryz.prog 36 #[u, v] w (MakesN w (a * b)) := by
  obtain ⟨i0, hi, hz0, hz1, hz2⟩ := info_parts info3
  obtain ⟨aa, la, ca, rfl, hA, _⟩ := hu
  obtain ⟨ab, lb, cb, rfl, hB, _⟩ := hv
  have hla := hA.1
  have hlb := hB.1
  rw [hla] at ha8
  rw [hlb] at hb8
  have HA := Lib.hid hA
  have HB := Lib.hid hB
  have HAN : Hid (a < W la) := Lib.hid (by rw [← hla]; exact digs_len_lt a)
  have HBN : Hid (b < W lb) := Lib.hid (by rw [← hlb]; exact digs_len_lt b)
  obtain ⟨ll, hll⟩ : ∃ ll, la + lb = ll := ⟨_, rfl⟩
  have hwl : IntKind.i64.wrap ((la : Int) + lb) = (ll : Int) := by rw [IntKind.wrap_i64]; omega
  have hl8 : ll ≤ 4000 := by omega
  have hS0 := mulSo_zero a b la lb
  rw [hll] at hS0
  have HS0 := Lib.hid hS0
  have HLL := Lib.hid hll
  clear hA hB hla hlb hS0 hll
  go_enter Tryz.func36, Tryz.ntmps36
  go_wp2_with (at_make; go_loud (refine wpList_make_full _ rfl _ _ 34 rfl w.heap.size 3 i0 (.int .i64 0) 1 Tryz.underlying34 hi hz0 hz1 .i64 .i64 _ _ ll rfl rfl (by omega) (by omega) (by rw [hz2]; omega) (by unfold maxLen; omega) (Nat.le_refl _) ?_); intro w1 hown hgr)
  have hsets : (madeCells (Value.int .i64 0).cells (ll * 1)).toList = (List.replicate ll 0).map I := by
    rw [Nat.mul_one]
    apply List.ext_getElem
    · simp [madeCells]
    · intro i h1 h2
      simp [madeCells, Value.cells, Nat.mod_one]
  rw [hsets] at hown
  have HO := Lib.hid hown
  have HB1 : Hid (Below w.heap.size w w1) := Lib.hid ((Below.refl _ w).grown hgr (Nat.le_refl _) (by simp))
  clear hsets hown hgr hwl
  go_loopw [6] (fun i wr => ∃ (j : Nat) (l : List Nat), j ≤ la ∧ i = .int .i64 j ∧ Hid (MulSo a b la lb j l) ∧ Hid (wr.ownsRow w.heap.size 3 1 (.slice (some ⟨w.heap.size, 0, none⟩) ll ll) ll (l.map I)) ∧ Hid (Below w.heap.size w wr)) (fun i _ => la - (intOf i).toNat)
  case atStart => exact ⟨0, _, Nat.zero_le _, rfl, HS0, HO, HB1⟩
  case round =>
    obtain ⟨j, l, hj, rfl, HS, hz, hbl⟩ := hrel
    by_cases hjl : j < la
    · obtain ⟨ba, offa, rfl, ca1⟩ := isI_cell HA.out hjl
      rw [digs_limb] at ca1
      have CA := Lib.hid ca1
      have HS1 := Lib.hid HS.out.start
      clear ca1 HS
      go_wp2
      go_loopw [7, 8] (fun cy i wr => ∃ (k c : Nat) (l : List Nat), k ≤ lb ∧ cy = .int .i64 c ∧ i = .int .i64 k ∧ Hid (MulIn a b la lb j k c l) ∧ Hid (wr.ownsRow w.heap.size 3 1 (.slice (some ⟨w.heap.size, 0, none⟩) ll ll) ll (l.map I)) ∧ Hid (Below w.heap.size w wr)) (fun _ i _ => lb - (intOf i).toNat)
      case atStart => exact ⟨0, 0, l, Nat.zero_le _, rfl, rfl, HS1, hz, hbl⟩
      case round =>
        obtain ⟨k, c, l, hk, rfl, rfl, HS, hz, hbl⟩ := hrel
        by_cases hkl : k < lb
        · obtain ⟨p, hp⟩ : ∃ p, j + k = p := ⟨_, rfl⟩
          have hpl : p < ll := by have := HLL.out; omega
          have hwp : IntKind.i64.wrap ((j : Int) + k) = (p : Int) := by rw [IntKind.wrap_i64]; omega
          obtain ⟨g, cap2, he, hg0, hg1, hcs, hfz⟩ := ownsI_pos hz.out (by omega)
          simp only [Value.slice.injEq, Option.some.injEq, Addr.mk.injEq, and_true, true_and] at he
          obtain ⟨rfl, rfl⟩ := he
          obtain ⟨bb, offb, rfl, cb1⟩ := isI_cell (HB.out.below hbl.out) hkl
          rw [digs_limb] at cb1
          have ca1 := cell_of hbl.out CA.out
          have cx := hcs p hpl
          have hfx := hfz p
          obtain ⟨x, hx⟩ : ∃ x, l.getD p 0 = x := ⟨_, rfl⟩
          have hxp : l.getD (j + k) 0 = x := by rw [hp]; exact hx
          have HS2 := Lib.hid (HS.out.step hjl hkl hxp)
          rw [hp] at HS2
          clear hxp
          have hxl : x < 16777216 := by rw [← hx]; exact getD_lt HS.out.lt _
          have hc := HS.out.cl
          have hyal := limb_lt a j
          have hybl := limb_lt b k
          obtain ⟨ya, hya⟩ : ∃ y, limb a j = y := ⟨_, rfl⟩
          obtain ⟨yb, hyb⟩ : ∃ y, limb b k = y := ⟨_, rfl⟩
          rw [hx] at cx
          rw [hya] at ca1 hyal
          rw [hyb] at cb1 hybl
          rw [hya, hyb] at HS2
          have hml : ya * yb ≤ 16777215 * 16777215 := Nat.mul_le_mul (by omega) (by omega)
          obtain ⟨m, hm⟩ : ∃ m, ya * yb = m := ⟨_, rfl⟩
          have hmi : (ya : Int) * yb = (m : Int) := by rw [← hm]; push_cast; rfl
          rw [hm] at HS2 hml
          have hwm : IntKind.i64.wrap ((ya : Int) * yb) = (m : Int) := by rw [hmi, IntKind.wrap_i64]; clear hm hmi hwp; omega
          obtain ⟨t, ht⟩ : ∃ t, x + m + c = t := ⟨_, rfl⟩
          rw [ht] at HS2
          have hw1 : IntKind.i64.wrap ((x : Int) + m) = ((x : Int) + m) := by rw [IntKind.wrap_i64]; clear hm hmi hwm hwp ht; omega
          have hw2 : IntKind.i64.wrap ((x : Int) + m + c) = (t : Int) := by rw [IntKind.wrap_i64]; clear hm hmi hwm hwp hw1; omega
          obtain ⟨d, hd⟩ : ∃ d, t % 16777216 = d := ⟨_, rfl⟩
          obtain ⟨q, hq⟩ : ∃ q, t / 16777216 = q := ⟨_, rfl⟩
          have hdi : (t : Int) % 16777216 = (d : Int) := by clear hm hmi hwm hwp hw1 hw2; omega
          have hqi : (t : Int) / 16777216 = (q : Int) := by clear hm hmi hwm hwp hw1 hw2; omega
          have htl : t ≤ 300000000000000 := by clear hm hmi hwm hwp hw1 hw2; omega
          rw [hd, hq] at HS2
          have HP := Lib.hid hp
          clear hcs hfz hx hya hyb hm hmi ht hd hq HS hp
          go_wp2
          go_quiet (fail)
          obtain ⟨W', hW⟩ : ∃ W', wr.drewN nq = W' := ⟨_, rfl⟩
          have hzq : Hid (W'.ownsRow w.heap.size 3 1 (.slice (some ⟨w.heap.size, 0, none⟩) ll ll) ll (l.map I)) := by rw [← hW]; exact hz
          have HBW : Hid (Below w.heap.size w W') := by rw [← hW]; exact Lib.hid (below_drewN hbl.out _)
          have cx' : W'.cell? ⟨w.heap.size, p, none⟩ = some (I x) := by rw [← hW]; exact cx
          have hfx' : W'.frozen? ⟨w.heap.size, p, none⟩ = false := by rw [← hW]; exact hfx
          rw [hW]
          clear hW hz hbl ca1 cb1 cx hfx hwm hw1 hw2
          have hz3 := Lib.hid (ownsI_set hzq.out p d)
          have hb3 : Hid (Below w.heap.size w (W'.setCell ⟨w.heap.size, p, none⟩ (I d))) := Lib.hid (HBW.out.setCell (by show _ ≤ _; exact Nat.le_refl _) _)
          go_wp2
          go_roundw
          case rel => exact ⟨k + 1, q, _, by omega, rfl, by go_num, HS2, hz3, hb3⟩
          case measure => simp [intOf]; omega
        · obtain rfl : k = lb := by omega
          obtain ⟨p, hp⟩ : ∃ p, j + k = p := ⟨_, rfl⟩
          have hpl : p < ll := by have := HLL.out; omega
          have hwp : IntKind.i64.wrap ((j : Int) + k) = (p : Int) := by rw [IntKind.wrap_i64]; omega
          obtain ⟨g, cap2, he, hg0, hg1, hcs, hfz⟩ := ownsI_pos hz.out (by omega)
          simp only [Value.slice.injEq, Option.some.injEq, Addr.mk.injEq, and_true, true_and] at he
          obtain ⟨rfl, rfl⟩ := he
          have cx := hcs p hpl
          have hfx := hfz p
          obtain ⟨x, hx⟩ : ∃ x, l.getD p 0 = x := ⟨_, rfl⟩
          rw [hx] at cx
          have HS2 := Lib.hid (HS.out.end hjl HBN.out)
          rw [hp] at HS2
          clear hcs hfz hx hp HS
          have hz3 := Lib.hid (ownsI_set hz.out p c)
          have hb3 : Hid (Below w.heap.size w (wr.setCell ⟨w.heap.size, p, none⟩ (I c))) := Lib.hid (hbl.out.setCell (by show _ ≤ _; exact Nat.le_refl _) _)
          go_wp2
          go_roundw
          case rel => exact ⟨j + 1, _, by omega, by go_num, HS2, hz3, hb3⟩
          case measure => simp [intOf]; omega
    · obtain rfl : j = la := by omega
      have HE := Lib.hid (HS.out.end HAN.out)
      have HLT := Lib.hid HS.out.lt
      have HLN : Hid (l.length ≤ 5000) := Lib.hid (by rw [HS.out.len, HLL.out]; omega)
      clear HS
      go_wp2_with fail
      refine (n_trim (ila_own hz.out) HLT.out HLN.out).mono ?_
      rintro e w2 hmk
      rw [HE.out] at hmk
      obtain ⟨v, rfl, hv, hb2⟩ := hmk.makesN
      have HV2 := Lib.hid hv
      have HBB := Lib.hid hb2
      clear hv hb2 hmk
      go_wp2
      go_ret
      exact ⟨_, rfl, HV2.out, hbl.out.trans (HBB.out.mono hbl.out.size)⟩
end Go.Proofs.YtdflbipaicpdcaaGreatDoor
