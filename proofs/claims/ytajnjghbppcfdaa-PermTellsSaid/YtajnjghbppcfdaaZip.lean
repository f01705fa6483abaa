/- Rows of floats, an append of two of them, and perm.Zip. -/
import Derived.Test.YtajnjghbppcfdaaCols
import Derived.OwnWalk
import Derived.Laws.AppendOwnNone
import Derived.LoopTactic
namespace Go.Proofs.Ytajnjghbppcfdaa
open Go.RowKit Go.Shelf

/-- A value that is a slice of floats and reads as l. -/
def Fla (w : World) (v : Value) (l : List Nat) : Prop := ∃ a n c, v = .slice a n c ∧ IsFl w a n l ∧ (a = none → n = 0 ∧ c = 0) ∧ n ≤ c

theorem Fla.below {w w' : World} {v : Value} {l : List Nat} (h : Fla w v l) (hb : Below w.heap.size w w') : Fla w' v l := by
  obtain ⟨a, n, c, h1, h2, h3, h4⟩ := h
  exact ⟨a, n, c, h1, h2.below hb, h3, h4⟩
theorem fla_own {w : World} {base n : Nat} {v : Value} {l : List Nat} (h : w.ownsRow base 35 1 v n (l.map F)) : Fla w v l := by
  obtain ⟨a, cap, rfl, hf⟩ := isFl_own h
  refine ⟨a, n, cap, rfl, hf, ?_, ?_⟩
  · rintro rfl
    rcases h.2 with ⟨h1, rfl⟩ | ⟨g, c, cur, h1, _⟩
    · simp at h1; exact ⟨rfl, h1⟩
    · simp at h1
  · rcases h.2 with ⟨h1, rfl⟩ | ⟨g, c, cur, h1, _, _, hnc, _⟩
    · exact Nat.zero_le _
    · simp at h1; omega
theorem own_below' {w w' : World} {B e k n : Nat} {v : Value} {xs : List Value} (h : w.ownsRow B e k v n xs) (hb : Below w.heap.size w w') : w'.ownsRow B e k v n xs := by
  refine ⟨h.1, ?_⟩
  rcases h.2 with ⟨rfl, rfl⟩ | ⟨g, cap, cur, rfl, hg, hh, hr⟩
  · exact .inl ⟨rfl, rfl⟩
  · exact .inr ⟨g, cap, cur, rfl, hg, (hb.block g (Array.getElem?_eq_some_iff.1 hh).1).trans hh, hr⟩
theorem own_base {w : World} {base e size n : Nat} {v : Value} {xs : List Value} (h : w.ownsRow base e size v n xs) : ∀ k, v.ownBlock = some k → base ≤ k := by
  intro k hk
  rcases h.2 with ⟨rfl, _⟩ | ⟨g, cap, cur, rfl, hg, _⟩
  · cases hk
  · cases hk; exact hg
theorem oneF (l : List Nat) : ∀ u ∈ l.map F, u.oneCell' = true := by
  intro u hu
  obtain ⟨x, _, rfl⟩ := List.mem_map.1 hu
  rfl

theorem wpList_append_row {w : World} {ops : Array Oper} {rest : List Oper} {o : Oper} {act : Act} {Q : Exit → Act → World → Prop} (hgd : o.guard = none) (s x : Operand)
    (ho : o.op = .call { callee := .builtin .append, args := #[s, x], argTypes := #[22, 22] })
    (base : Nat) (v : Value) (k : Nat) (l : List Nat) (hs : act.eval s = v) (hown : w.ownsRow base 35 1 v k (l.map F)) (u : Value) (m : List Nat) (hx : act.eval x = u) (hm : Fla w u m) (hsz : k + m.length ≤ 10000) (hb : base ≤ w.heap.size)
    (h : ∀ v' w', w'.ownsRow base 35 1 v' (k + m.length) ((l ++ m).map F) → Below base w w' → wpList Try.prog ops Q rest (act.put o.dst v') w') : wpList Try.prog ops Q (o :: rest) act w := by
  obtain ⟨i0, hi, hz0, hz1, hz2⟩ := info_parts info35
  obtain ⟨a, n, c, rfl, h2, h3, h4⟩ := hm
  have hlen := h2.1
  cases a with
  | none =>
    obtain ⟨rfl, rfl⟩ := h3 rfl
    have hm0 : m = [] := List.length_eq_zero_iff.1 hlen
    subst hm0
    exact wpList_append_own_none hgd s x 22 ho base 35 i0 1 Try.underlying22 hi v k (l.map F) hs hown hx (h _ _ (by simpa using hown) (Below.refl _ _))
  | some ad =>
    refine wpList_append_own _ hgd s x 22 ho base 35 i0 (.float .f64 0) 1 8 Try.underlying22 hi hz0 hz1 hz2 rfl (by decide) v k (l.map F) hs hown ad n c (m.map F) hx (by simp [hlen]) (isFl_cells h2) (oneF m) (by unfold maxLen; omega) (by omega) hb ?_
    intro v' w1 ho' hg _
    rw [← hlen, ← List.map_append] at ho'
    exact h v' w1 ho' ((Below.refl _ _).grown hg hb (own_base hown))

/-- The cells of a row, one after another set. -/
def sets (z : List Nat) (c : Nat) (a : List Nat) (i : Nat) : List Nat := (List.range i).foldl (fun z k => z.set (2 * k + c) (a.getD k 0)) z
theorem sets_succ (z : List Nat) (c : Nat) (a : List Nat) (i : Nat) : sets z c a (i + 1) = (sets z c a i).set (2 * i + c) (a.getD i 0) := by
  simp [sets, List.range_succ]
theorem sets_length (z : List Nat) (c : Nat) (a : List Nat) (i : Nat) : (sets z c a i).length = z.length := by
  induction i with
  | zero => rfl
  | succ i ih => rw [sets_succ, List.length_set, ih]
theorem sets_at (z : List Nat) (c : Nat) (hc : c < 2) (a : List Nat) (i j : Nat) (hj : j < z.length) : (sets z c a i).getD j 0 = if j % 2 = c ∧ j / 2 < i then a.getD (j / 2) 0 else z.getD j 0 := by
  induction i with
  | zero => rw [if_neg (by omega)]; rfl
  | succ i ih =>
    rw [sets_succ]
    by_cases h : 2 * i + c = j
    · rw [if_pos (by omega), List.getD_eq_getElem?_getD, h, List.getElem?_set_self (by rw [sets_length]; exact hj)]
      rw [show j / 2 = i by omega]
      rfl
    · rw [List.getD_eq_getElem?_getD, List.getElem?_set_ne h, ← List.getD_eq_getElem?_getD, ih]
      by_cases h2 : j % 2 = c ∧ j / 2 < i
      · rw [if_pos h2, if_pos (by omega)]
      · rw [if_neg h2, if_neg (by omega)]
def zips (a b : List Nat) : List Nat := (List.range (a.length + b.length)).map fun j => if j % 2 = 0 then a.getD (j / 2) 0 else b.getD (j / 2) 0
theorem zips_length (a b : List Nat) : (zips a b).length = a.length + b.length := by simp [zips]
theorem zips_getD (a b : List Nat) (j : Nat) (h : j < a.length + b.length) : (zips a b).getD j 0 = if j % 2 = 0 then a.getD (j / 2) 0 else b.getD (j / 2) 0 := by simp [zips, h]
theorem sets_zips (a b : List Nat) (h : a.length = b.length ∨ a.length = b.length + 1) : sets (sets (List.replicate (a.length + b.length) 0) 0 a a.length) 1 b b.length = zips a b := by
  apply ext_getD
  · rw [sets_length, sets_length, zips_length, List.length_replicate]
  · intro j hj
    rw [sets_length, sets_length, List.length_replicate] at hj
    rw [sets_at _ _ (by decide) _ _ _ (by rw [sets_length, List.length_replicate]; exact hj), sets_at _ _ (by decide) _ _ _ (by rw [List.length_replicate]; exact hj), zips_getD _ _ _ hj]
    by_cases h0 : j % 2 = 0
    · rw [if_neg (by omega), if_pos (by omega), if_pos h0]
    · rw [if_pos (by omega), if_neg h0]

theorem made_cells (n : Nat) : (madeCells (Value.float .f64 0).cells (n * 1)).toList = (List.replicate n 0).map F := by
  rw [Nat.mul_one]
  apply List.ext_getElem
  · simp [madeCells]
  · intro i h1 h2
    simp [madeCells, Value.cells, Nat.mod_one]

theorem ownsRow_set {w : World} {base g len cap : Nat} {l : List Nat} (h : w.ownsRow base 35 1 (.slice (some ⟨g, 0, none⟩) len cap) len (l.map F)) (j x : Nat) :
    (w.setCell ⟨g, j, none⟩ (F x)).ownsRow base 35 1 (.slice (some ⟨g, 0, none⟩) len cap) len ((l.set j x).map F) := by
  rw [List.map_set]; exact (h.stored j (F x)).1

set_option maxRecDepth 100000 in
set_option maxHeartbeats 1000000 in
theorem zip_c (aa ab : Option Addr) (la lb ca cb : Nat) (a b : List Nat) (w : World) (ha : IsFl w aa la a) (hb : IsFl w ab lb b) (h8 : la ≤ 2000) (h9 : lb ≤ 2000) (hd : la = lb ∨ la = lb + 1) :
    Calls Try.prog 10 #[.slice aa la ca, .slice ab lb cb] w fun e W' => ∃ v, e = .returned (.tuple #[v, .bool true]) ∧ W'.ownsRow w.heap.size 35 1 v (la + lb) ((zips a b).map F) ∧ Below w.heap.size w W' := by
  obtain ⟨i0, hi, hz0, hz1, hz2⟩ := info_parts info35
  have hla := ha.1
  have hlb := hb.1
  have HA := Lib.hid ha
  have HB := Lib.hid hb
  clear ha hb
  have hdd : ((la : Int) - (lb : Int)) = 0 ∨ ((la : Int) - (lb : Int)) = 1 := by omega
  go_enter Try.func10, Try.ntmps10
  have hd0 : 0 ≤ (la : Int) - lb := by omega
  have hd1 : (la : Int) - lb ≤ 1 := by omega
  rcases hdd with hdd | hdd
  · clear hd0 hd1 hd
    have hsz : (la : Int) + (lb : Int) ≤ 4000 := by omega
    have hsz0 : (0 : Int) ≤ (la : Int) + (lb : Int) := by omega
    go_wp2_with (at_make; go_loud (refine wpList_make_full _ rfl _ _ 22 rfl w.heap.size 35 i0 (.float .f64 0) 1 Try.underlying22 hi hz0 hz1 .i64 .i64 _ _ (la + lb) rfl rfl (by omega) (by omega) (by rw [hz2]; omega) (by unfold maxLen; omega) (Nat.le_refl _) ?_); intro w1 hown hgr)
    rw [made_cells] at hown
    have HW := Lib.hid hown
    have HBL := Lib.hid ((Below.refl _ w).grown hgr (Nat.le_refl _) (by simp))
    clear hown hgr
    go_loopw [31] (fun i wr => ∃ k : Nat, k ≤ la ∧ i = .int .i64 k ∧ Hid (wr.ownsRow w.heap.size 35 1 (.slice (some ⟨w.heap.size, 0, none⟩) (la + lb) (la + lb)) (la + lb) ((sets (List.replicate (la + lb) 0) 0 a k).map F)) ∧ Hid (Below w.heap.size w wr)) (fun i _ => la - (intOf i).toNat)
    case atStart => exact ⟨0, Nat.zero_le _, rfl, HW, HBL⟩
    case round =>
      obtain ⟨k, hk, rfl, hz, hbl⟩ := hrel
      by_cases hlt : k < la
      · obtain ⟨y, hy⟩ : ∃ y, a.getD k 0 = y := ⟨_, rfl⟩
        obtain ⟨b0, off0, rfl, hc0⟩ : ∃ b off, aa = some ⟨b, off, none⟩ ∧ w.cell? ⟨b, off + k, none⟩ = some (F y) := by
          rcases HA.out.2 with h | ⟨b, off, h, hc⟩
          · omega
          · exact ⟨b, off, h, by rw [← hy]; exact hc k (by omega)⟩
        have hc1 := (hbl.out.cell (p := ⟨b0, off0 + k, none⟩) (cell_lt hc0)).trans hc0
        obtain ⟨g, cap2, he, hg0, hg1, hcs, hfz⟩ := ownsRow_posfacts hz.out (by omega)
        simp only [Value.slice.injEq, Option.some.injEq, Addr.mk.injEq, and_true, true_and] at he
        obtain ⟨rfl, rfl⟩ := he
        have hc2 := hcs (2 * k) (by omega)
        have hf2 := hfz (2 * k)
        have hz3 := Lib.hid (ownsRow_set hz.out (2 * k) y)
        have hb3 := Lib.hid (hbl.out.grown (hz.out.stored (2 * k) (F y)).2 hbl.out.size (by intro j hj; cases hj; exact Nat.le_refl _))
        have HY := Lib.hid hy
        clear hcs hfz hy
        go_wp2
        go_roundw
        case rel => exact ⟨k + 1, by omega, by go_num, by rw [sets_succ, HY.out]; exact hz3, hb3⟩
        case measure => simp [intOf]; omega
      · have hk2 : k = la := by omega
        rw [hk2] at hz
        clear hlt hk
        go_wp2
        go_loopw [44] (fun i wr => ∃ k : Nat, k ≤ lb ∧ i = .int .i64 k ∧ Hid (wr.ownsRow w.heap.size 35 1 (.slice (some ⟨w.heap.size, 0, none⟩) (la + lb) (la + lb)) (la + lb) ((sets (sets (List.replicate (la + lb) 0) 0 a la) 1 b k).map F)) ∧ Hid (Below w.heap.size w wr)) (fun i _ => lb - (intOf i).toNat)
        case atStart => exact ⟨0, Nat.zero_le _, rfl, hz, hbl⟩
        case round =>
          obtain ⟨k, hk, rfl, hz, hbl⟩ := hrel
          by_cases hlt : k < lb
          · obtain ⟨y, hy⟩ : ∃ y, b.getD k 0 = y := ⟨_, rfl⟩
            obtain ⟨b0, off0, rfl, hc0⟩ : ∃ b off, ab = some ⟨b, off, none⟩ ∧ w.cell? ⟨b, off + k, none⟩ = some (F y) := by
              rcases HB.out.2 with h | ⟨b, off, h, hc⟩
              · omega
              · exact ⟨b, off, h, by rw [← hy]; exact hc k (by omega)⟩
            have hc1 := (hbl.out.cell (p := ⟨b0, off0 + k, none⟩) (cell_lt hc0)).trans hc0
            obtain ⟨g, cap2, he, hg0, hg1, hcs, hfz⟩ := ownsRow_posfacts hz.out (by omega)
            simp only [Value.slice.injEq, Option.some.injEq, Addr.mk.injEq, and_true, true_and] at he
            obtain ⟨rfl, rfl⟩ := he
            have hc2 := hcs (2 * k + 1) (by omega)
            have hf2 := hfz (2 * k + 1)
            have hz3 := Lib.hid (ownsRow_set hz.out (2 * k + 1) y)
            have hb3 := Lib.hid (hbl.out.grown (hz.out.stored (2 * k + 1) (F y)).2 hbl.out.size (by intro j hj; cases hj; exact Nat.le_refl _))
            have HY := Lib.hid hy
            clear hcs hfz hy
            go_wp2
            go_roundw
            case rel => exact ⟨k + 1, by omega, by go_num, by rw [sets_succ, HY.out]; exact hz3, hb3⟩
            case measure => simp [intOf]; omega
          · have hk3 : k = lb := by omega
            subst hk3
            go_wp2
            go_ret2
            have hzz := hz.out
            rw [← hla, ← hlb, sets_zips a b (by omega)] at hzz
            refine ⟨_, rfl, ?_, hbl.out⟩
            rw [hla, hlb] at hzz
            exact hzz
  · clear hd0 hd1 hd
    have hsz : (la : Int) + (lb : Int) ≤ 4000 := by omega
    have hsz0 : (0 : Int) ≤ (la : Int) + (lb : Int) := by omega
    go_wp2_with (at_make; go_loud (refine wpList_make_full _ rfl _ _ 22 rfl w.heap.size 35 i0 (.float .f64 0) 1 Try.underlying22 hi hz0 hz1 .i64 .i64 _ _ (la + lb) rfl rfl (by omega) (by omega) (by rw [hz2]; omega) (by unfold maxLen; omega) (Nat.le_refl _) ?_); intro w1 hown hgr)
    rw [made_cells] at hown
    have HW := Lib.hid hown
    have HBL := Lib.hid ((Below.refl _ w).grown hgr (Nat.le_refl _) (by simp))
    clear hown hgr
    go_loopw [31] (fun i wr => ∃ k : Nat, k ≤ la ∧ i = .int .i64 k ∧ Hid (wr.ownsRow w.heap.size 35 1 (.slice (some ⟨w.heap.size, 0, none⟩) (la + lb) (la + lb)) (la + lb) ((sets (List.replicate (la + lb) 0) 0 a k).map F)) ∧ Hid (Below w.heap.size w wr)) (fun i _ => la - (intOf i).toNat)
    case atStart => exact ⟨0, Nat.zero_le _, rfl, HW, HBL⟩
    case round =>
      obtain ⟨k, hk, rfl, hz, hbl⟩ := hrel
      by_cases hlt : k < la
      · obtain ⟨y, hy⟩ : ∃ y, a.getD k 0 = y := ⟨_, rfl⟩
        obtain ⟨b0, off0, rfl, hc0⟩ : ∃ b off, aa = some ⟨b, off, none⟩ ∧ w.cell? ⟨b, off + k, none⟩ = some (F y) := by
          rcases HA.out.2 with h | ⟨b, off, h, hc⟩
          · omega
          · exact ⟨b, off, h, by rw [← hy]; exact hc k (by omega)⟩
        have hc1 := (hbl.out.cell (p := ⟨b0, off0 + k, none⟩) (cell_lt hc0)).trans hc0
        obtain ⟨g, cap2, he, hg0, hg1, hcs, hfz⟩ := ownsRow_posfacts hz.out (by omega)
        simp only [Value.slice.injEq, Option.some.injEq, Addr.mk.injEq, and_true, true_and] at he
        obtain ⟨rfl, rfl⟩ := he
        have hc2 := hcs (2 * k) (by omega)
        have hf2 := hfz (2 * k)
        have hz3 := Lib.hid (ownsRow_set hz.out (2 * k) y)
        have hb3 := Lib.hid (hbl.out.grown (hz.out.stored (2 * k) (F y)).2 hbl.out.size (by intro j hj; cases hj; exact Nat.le_refl _))
        have HY := Lib.hid hy
        clear hcs hfz hy
        go_wp2
        go_roundw
        case rel => exact ⟨k + 1, by omega, by go_num, by rw [sets_succ, HY.out]; exact hz3, hb3⟩
        case measure => simp [intOf]; omega
      · have hk2 : k = la := by omega
        rw [hk2] at hz
        clear hlt hk
        go_wp2
        go_loopw [44] (fun i wr => ∃ k : Nat, k ≤ lb ∧ i = .int .i64 k ∧ Hid (wr.ownsRow w.heap.size 35 1 (.slice (some ⟨w.heap.size, 0, none⟩) (la + lb) (la + lb)) (la + lb) ((sets (sets (List.replicate (la + lb) 0) 0 a la) 1 b k).map F)) ∧ Hid (Below w.heap.size w wr)) (fun i _ => lb - (intOf i).toNat)
        case atStart => exact ⟨0, Nat.zero_le _, rfl, hz, hbl⟩
        case round =>
          obtain ⟨k, hk, rfl, hz, hbl⟩ := hrel
          by_cases hlt : k < lb
          · obtain ⟨y, hy⟩ : ∃ y, b.getD k 0 = y := ⟨_, rfl⟩
            obtain ⟨b0, off0, rfl, hc0⟩ : ∃ b off, ab = some ⟨b, off, none⟩ ∧ w.cell? ⟨b, off + k, none⟩ = some (F y) := by
              rcases HB.out.2 with h | ⟨b, off, h, hc⟩
              · omega
              · exact ⟨b, off, h, by rw [← hy]; exact hc k (by omega)⟩
            have hc1 := (hbl.out.cell (p := ⟨b0, off0 + k, none⟩) (cell_lt hc0)).trans hc0
            obtain ⟨g, cap2, he, hg0, hg1, hcs, hfz⟩ := ownsRow_posfacts hz.out (by omega)
            simp only [Value.slice.injEq, Option.some.injEq, Addr.mk.injEq, and_true, true_and] at he
            obtain ⟨rfl, rfl⟩ := he
            have hc2 := hcs (2 * k + 1) (by omega)
            have hf2 := hfz (2 * k + 1)
            have hz3 := Lib.hid (ownsRow_set hz.out (2 * k + 1) y)
            have hb3 := Lib.hid (hbl.out.grown (hz.out.stored (2 * k + 1) (F y)).2 hbl.out.size (by intro j hj; cases hj; exact Nat.le_refl _))
            have HY := Lib.hid hy
            clear hcs hfz hy
            go_wp2
            go_roundw
            case rel => exact ⟨k + 1, by omega, by go_num, by rw [sets_succ, HY.out]; exact hz3, hb3⟩
            case measure => simp [intOf]; omega
          · have hk3 : k = lb := by omega
            subst hk3
            go_wp2
            go_ret2
            have hzz := hz.out
            rw [← hla, ← hlb, sets_zips a b (by omega)] at hzz
            refine ⟨_, rfl, ?_, hbl.out⟩
            rw [hla, hlb] at hzz
            exact hzz

set_option maxHeartbeats 1000000 in
theorem zip_no (aa ab : Option Addr) (la lb ca cb : Nat) (w : World) (h8 : la ≤ 2000) (h9 : lb ≤ 2000) (hd : ¬ (la = lb ∨ la = lb + 1)) :
    Calls Try.prog 10 #[.slice aa la ca, .slice ab lb cb] w fun e W' => e = .returned (.tuple #[.slice none 0 0, .bool false]) ∧ W' = w := by
  have h1 : ¬ ((la : Int) - (lb : Int)) = 0 := by omega
  have h2 : ¬ ((la : Int) - (lb : Int)) = 1 := by omega
  have h3 : ((la : Int) - (lb : Int) != 0) = true := by simpa using h1
  have h4 : ((la : Int) - (lb : Int) != 1) = true := by simpa using h2
  clear hd h1 h2
  go_enter Try.func10, Try.ntmps10
  go_wp2
  go_ret2
  exact ⟨rfl, rfl⟩
end Go.Proofs.Ytajnjghbppcfdaa
