/- trim of the program's naturals: part of what came in. No condition but the row's length. along, Add, Sub of the program's naturals. No condition but the sizes. along of the program's naturals. No condition but the sizes. Add, Cmp, Sub of the program's naturals. No condition but the sizes. Cmp, Sub of the program's naturals. No condition but the sizes. Of, Mul of the program's naturals. No condition but the sizes. Whole rows of ints: a block that is known cell by cell. No condition. -/
import Derived.Test.YtdflbipaicpdcaaGreatDoorSNa
import Derived.Laws.EntriesVeiled
import Derived.OneCell
import Derived.Laws.CopyOwn
set_option linter.unusedVariables false
set_option linter.unusedSimpArgs false
namespace Go.Proofs.YtdflbipaicpdcaaGreatDoor
open Go.RowKit
set_option maxRecDepth 100000

/-- A row of the number that a row tells: its first limbs. -/
def TrimAt (w : World) (a : Option Addr) (n c : Nat) (l : List Nat) (e : Ending) (W' : World) : Prop := ∃ k, k ≤ n ∧ e = .returned (.slice a k c) ∧ l.take k = digs (num l) ∧ W' = w

set_option maxHeartbeats 1000000 in
theorem p_trim_at {w : World} {a : Option Addr} {n c : Nat} {l : List Nat} (h : IsI w a n l) (hc : n ≤ c) (hl : ∀ d ∈ l, d < 16777216) (h8 : l.length ≤ 5000) : Calls Tryz.prog 232 #[.slice a n c] w (TrimAt w a n c l) := by
  have hn := h.1
  have HA := Lib.hid h
  have HL := Lib.hid hl
  have hn8 : (n : Int) ≤ 5000 := by omega
  have hci : (n : Int) ≤ c := by omega
  clear h hl
  go_enter Tryz.func232, Tryz.ntmps232
  go_wp2
  go_loopw [0] (fun t wr => ∃ k : Nat, k ≤ n ∧ t = .slice a k c ∧ wr = w ∧ Hid (∀ i, k ≤ i → l.getD i 0 = 0)) (fun t _ => (match t with | .slice _ k _ => k | _ => 0))
  case atStart => exact ⟨n, Nat.le_refl _, rfl, rfl, Lib.hid (fun i hi => by rw [List.getD_eq_getElem?_getD, List.getElem?_eq_none (by omega)]; rfl)⟩
  case round =>
    obtain ⟨k, hk, rfl, rfl, HZ⟩ := hrel
    by_cases h0 : k = 0
    · subst h0
      have HD : Hid (l.take 0 = digs (num l)) := Lib.hid (digs_take l HL.out 0 (Nat.zero_le _) HZ.out (fun h => absurd rfl h))
      go_wp2
      go_ret
      exact ⟨0, Nat.zero_le _, rfl, HD.out, rfl⟩
    · obtain ⟨j, rfl⟩ : ∃ j, k = j + 1 := ⟨k - 1, by omega⟩
      obtain ⟨b, off, rfl, hcell⟩ := isI_cell HA.out (show j < n by omega)
      obtain ⟨y, hy⟩ : ∃ y, l.getD j 0 = y := ⟨_, rfl⟩
      rw [hy] at hcell
      have hkj : ((j + 1 : Nat) : Int) = (j : Int) + 1 := by push_cast; rfl
      have hjn : (j : Int) < n := by omega
      have HY := Lib.hid hy
      clear hy
      by_cases hy0 : y = 0
      · subst hy0
        go_wp2
        go_roundw
        case rel => exact ⟨j, by omega, rfl, trivial, Lib.hid (fun i hi => by rcases Nat.lt_or_ge j i with h | h; exact HZ.out i (by omega); rw [show i = j by omega]; exact HY.out)⟩
        case measure => simp
      · have hyi : ((y : Int) == 0) = false := by simpa using hy0
        have HD : Hid (l.take (j + 1) = digs (num l)) := Lib.hid (digs_take l HL.out (j + 1) (by omega) HZ.out (fun _ => by rw [Nat.add_sub_cancel, HY.out]; exact hy0))
        go_wp2
        go_ret
        exact ⟨j + 1, hk, rfl, HD.out, rfl⟩

/-- a row of the number n that was made above B, known cell by cell -/
def RowN (B : Nat) (W : World) (v : Value) (n : Nat) : Prop :=
  ∃ b off c cs, v = .slice (some ⟨b, off, none⟩) (digs n).length c ∧ B ≤ b ∧ (digs n).length ≤ c ∧ W.heap[b]? = some (.cells cs 3 (0, 0)) ∧ off + (digs n).length ≤ cs.size ∧ ∀ i, i < (digs n).length → cs[off + i]? = some (I ((digs n).getD i 0))
def FreshN (B : Nat) (W : World) (v : Value) (n : Nat) : Prop := (n = 0 ∧ v = .slice none 0 0) ∨ RowN B W v n
theorem RowN.isN {B : Nat} {W : World} {v : Value} {n : Nat} (h : RowN B W v n) : IsN W v n := by
  obtain ⟨b, off, c, cs, rfl, hB, hc, hh, hs, hcs⟩ := h
  refine ⟨_, _, c, rfl, ⟨rfl, .inr ⟨b, off, rfl, fun k hk => ?_⟩⟩, (fun h => by cases h), hc⟩
  have := hcs k hk
  simp [World.cell?, hh, this]
theorem FreshN.isN {B : Nat} {W : World} {v : Value} {n : Nat} (h : FreshN B W v n) : IsN W v n := by
  rcases h with ⟨rfl, rfl⟩ | h
  · exact isN_nil _
  · exact h.isN
theorem RowN.keep {B : Nat} {W W' : World} {v : Value} {n : Nat} (h : RowN B W v n) (hk : ∀ b, B ≤ b → b < W.heap.size → W'.heap[b]? = W.heap[b]?) : RowN B W' v n := by
  obtain ⟨b, off, c, cs, rfl, hB, hc, hh, hs, hcs⟩ := h
  exact ⟨b, off, c, cs, rfl, hB, hc, (hk b hB (Array.getElem?_eq_some_iff.1 hh).1).trans hh, hs, hcs⟩
theorem RowN.mono {B B' : Nat} {W : World} {v : Value} {n : Nat} (h : RowN B W v n) (hb : B' ≤ B) : RowN B' W v n := by
  obtain ⟨b, off, c, cs, rfl, hB, h2⟩ := h
  exact ⟨b, off, c, cs, rfl, Nat.le_trans hb hB, h2⟩
theorem FreshN.mono {B B' : Nat} {W : World} {v : Value} {n : Nat} (h : FreshN B W v n) (hb : B' ≤ B) : FreshN B' W v n := h.imp id (·.mono hb)
/-- stores below B keep it -/
theorem RowN.set {B : Nat} {W : World} {v : Value} {n : Nat} (h : RowN B W v n) {p : Addr} (hp : p.block < B) (u : Value) : RowN B (W.setCell p u) v n :=
  h.keep fun b hb _ => Below.heap_setCell _ _ _ _ (by omega)
theorem FreshN.set {B : Nat} {W : World} {v : Value} {n : Nat} (h : FreshN B W v n) {p : Addr} (hp : p.block < B) (u : Value) : FreshN B (W.setCell p u) v n := h.imp id (·.set hp u)
/-- such a row is handed back; what was there is as it was -/
def MakesR (w : World) (n : Nat) (e : Ending) (W' : World) : Prop := ∃ v, e = .returned v ∧ RowN w.heap.size W' v n ∧ Below w.heap.size w W'
def MakesF (w : World) (n : Nat) (e : Ending) (W' : World) : Prop := ∃ v, e = .returned v ∧ FreshN w.heap.size W' v n ∧ Below w.heap.size w W'
theorem MakesF.makesN {w : World} {n : Nat} {e : Ending} {W' : World} (h : MakesF w n e W') : MakesN w n e W' := by
  obtain ⟨v, h1, h2, h3⟩ := h
  exact ⟨v, h1, h2.isN, h3⟩
theorem MakesR.makesF {w : World} {n : Nat} {e : Ending} {W' : World} (h : MakesR w n e W') : MakesF w n e W' := by
  obtain ⟨v, h1, h2, h3⟩ := h
  exact ⟨v, h1, .inr h2, h3⟩
theorem MakesR.makesN {w : World} {n : Nat} {e : Ending} {W' : World} (h : MakesR w n e W') : MakesN w n e W' := h.makesF.makesN
theorem freshN_take {B g m cap k n : Nat} {W : World} {l : List Nat} (h : W.ownsRow B 3 1 (.slice (some ⟨g, 0, none⟩) m cap) m (l.map I)) (hk : k ≤ m) (ht : l.take k = digs n) : RowN B W (.slice (some ⟨g, 0, none⟩) k cap) n := by
  have hl : l.length = m := by have := h.1; simpa using this
  rcases h.2 with ⟨h0, _⟩ | ⟨g', cap', cur, hv, hg, hh, hn, hmx, hs, hx⟩
  · cases h0
  · simp only [Value.slice.injEq, Option.some.injEq, Addr.mk.injEq, and_true, true_and] at hv
    obtain ⟨rfl, rfl⟩ := hv
    have hlen : (digs n).length = k := by rw [← ht, List.length_take]; omega
    have hcell : ∀ i, i < k → cur[0 + i]? = some (I ((digs n).getD i 0)) := fun i hi => by
      have h1 : cur.toList[i]? = (l.map I)[i]? := by
        rw [← hx, Nat.mul_one, List.getElem?_take, if_pos (by omega)]
      rw [Nat.zero_add, ← Array.getElem?_toList, h1, List.getElem?_map, List.getElem?_eq_getElem (by omega), ← ht, List.getD_eq_getElem?_getD, List.getElem?_take, if_pos hi, List.getElem?_eq_getElem (by omega)]
      rfl
    exact ⟨g, 0, cap, cur, by rw [hlen], hg, by omega, hh, by omega, fun i hi => hcell i (by omega)⟩
/-- trim of a row of one's own -/
def TrimOwn (B : Nat) (w : World) (n : Nat) (e : Ending) (W' : World) : Prop := ∃ v, e = .returned v ∧ RowN B W' v n ∧ W' = w
theorem p_trim_own {B g m cap n : Nat} {w : World} {l : List Nat} (h : w.ownsRow B 3 1 (.slice (some ⟨g, 0, none⟩) m cap) m (l.map I)) (hl : ∀ d ∈ l, d < 16777216) (h8 : l.length ≤ 5000) (hd : digs (num l) = digs n) : Calls Tryz.prog 232 #[.slice (some ⟨g, 0, none⟩) m cap] w (TrimOwn B w n) := by
  have hcap : m ≤ cap := by
    rcases h.2 with ⟨h0, _⟩ | ⟨g', cap', cur, hv, hg, hh, hn, _⟩
    · cases h0
    · simp only [Value.slice.injEq, Option.some.injEq, Addr.mk.injEq, and_true, true_and] at hv
      omega
  obtain ⟨a5, n5, c5, hv3, hI3, _⟩ := ila_own h
  simp only [Value.slice.injEq] at hv3
  obtain ⟨rfl, rfl, rfl⟩ := hv3
  refine (p_trim_at hI3 hcap hl h8).mono ?_
  rintro e w2 ⟨k2, hk2, rfl, ht2, rfl⟩
  rw [hd] at ht2
  exact ⟨_, rfl, freshN_take h hk2 ht2, rfl⟩

theorem and24 (n : Int) : bits .and .i64 n 16777215 = n % 16777216 := by
  have h127 : (BitVec.ofInt 64 16777215).toNat = 2 ^ 24 - 1 := by decide
  have key : (BitVec.ofInt 64 n &&& BitVec.ofInt 64 16777215).toNat = (n % ((2 ^ 64 : Nat) : Int)).toNat % 2 ^ 24 := by
    rw [BitVec.toNat_and, BitVec.toNat_ofInt, h127, Nat.and_two_pow_sub_one_eq_mod]
  show IntKind.i64.wrap ((BitVec.ofInt 64 n &&& BitVec.ofInt 64 16777215).toNat : Nat) = n % 16777216
  rw [key, IntKind.wrap_i64]
  omega
/-- a limb of a sum; what goes over is kept -/
theorem p_put (b : Nat) (c s : Int) (w : World) (hc : w.cell? ⟨b, 0, none⟩ = some (.int .i64 c)) (hf : w.frozen? ⟨b, 0, none⟩ = false) (h1 : -1152921504606846976 ≤ s) (h2 : s ≤ 1152921504606846976) (h3 : -1152921504606846976 ≤ c) (h4 : c ≤ 1152921504606846976) :
    Calls Tryz.prog 227 #[.pointer (some ⟨b, 0, none⟩), .int .i64 s] w fun e w' => e = .returned (.int .i64 ((s + c) % 16777216)) ∧ w' = w.setCell ⟨b, 0, none⟩ (.int .i64 ((s + c) / 16777216)) := by
  have ha := and24 (s + c)
  go_enter Tryz.func227, Tryz.ntmps227
  go_wp2
  go_ret
  exact ⟨rfl, rfl⟩

theorem p_get {a : Option Addr} {len cap n : Nat} {w : World} (h : IsI w a len (digs n)) (i y : Nat) (hy : limb n i = y) : Calls Tryz.prog 248 #[.slice a len cap, .int .i64 i] w fun e w' => e = .returned (I y) ∧ w' = w := by
  by_cases hi : i < len
  · obtain ⟨b, off, rfl, hc⟩ := isI_cell h hi
    rw [digs_limb, hy] at hc
    have h1 : (i : Int) < (len : Int) := by omega
    clear hy
    go_enter Tryz.func248, Tryz.ntmps248
    go_wp2
    go_ret
    exact ⟨rfl, rfl⟩
  · have h1 : ¬ (i : Int) < (len : Int) := by omega
    have hy0 : y = 0 := by
      rw [← hy, ← digs_limb, List.getD_eq_getElem?_getD, List.getElem?_eq_none (by have := h.1; omega)]; rfl
    subst hy0
    clear hy
    go_enter Tryz.func248, Tryz.ntmps248
    go_wp2
    go_ret
    exact ⟨rfl, rfl⟩

/-- the closure of Add: the carry lies at p, the method value at q -/
theorem p_addput (p q : Nat) (c x y : Int) (w : World) (hq : w.cell? ⟨q, 0, none⟩ = some (.func (.func 227) #[.pointer (some ⟨p, 0, none⟩)] #[])) (hc : w.cell? ⟨p, 0, none⟩ = some (.int .i64 c)) (hf : w.frozen? ⟨p, 0, none⟩ = false) (h1 : -1152921504606846976 ≤ x + y) (h2 : x + y ≤ 1152921504606846976) (h3 : -1152921504606846976 ≤ c) (h4 : c ≤ 1152921504606846976) :
    Calls Tryz.prog 229 #[.int .i64 x, .int .i64 y, .pointer (some ⟨q, 0, none⟩)] w fun e w' => e = .returned (.int .i64 ((x + y + c) % 16777216)) ∧ w' = w.setCell ⟨p, 0, none⟩ (.int .i64 ((x + y + c) / 16777216)) := by
  have HP := Lib.hid (p_put p c (x + y) w hc hf h1 h2 h3 h4)
  clear hc hf
  go_enter Tryz.func229, Tryz.ntmps229
  go_wp2_with fail
  refine HP.out.mono ?_
  rintro e w' ⟨rfl, rfl⟩
  go_wp2
  go_ret
  exact ⟨rfl, rfl⟩
end Go.Proofs.YtdflbipaicpdcaaGreatDoor
namespace Go.Proofs.YtdflbipaicpdcaaGreatDoor
open Go.RowKit
set_option maxRecDepth 100000

/-- The limbs so far, and what is carried: of a sum, or of a difference. -/
structure AlSo (σ : Int) (a b i : Nat) (c : Int) (l : List Nat) : Prop where
  len : l.length = i
  lt : ∀ d ∈ l, d < 16777216
  sum : (num l : Int) + (W i : Int) * c = (low a i : Int) + σ * (low b i : Int)
  c0 : -1 ≤ c
  c1 : c ≤ 1
theorem alSo_zero (σ : Int) (a b : Nat) : AlSo σ a b 0 0 [] := ⟨rfl, (fun _ h => by cases h), by rw [low_zero, low_zero]; simp [num], by omega, by omega⟩
theorem alSo_succ {σ : Int} {a b i : Nat} {c t : Int} {l : List Nat} (h : AlSo σ a b i c l) (hσ : σ = 1 ∨ σ = -1) {d : Nat} {q : Int} (ht : t = (limb a i : Int) + σ * (limb b i : Int) + c) (hd : t % 16777216 = (d : Int)) (hq : t / 16777216 = q) : AlSo σ a b (i + 1) q (l ++ [d]) := by
  obtain ⟨h1, h2, h3, h4, h5⟩ := h
  have ha := limb_lt a i
  have hb := limb_lt b i
  have hs : σ * (limb b i : Int) = (limb b i : Int) ∨ σ * (limb b i : Int) = -(limb b i : Int) := by rcases hσ with rfl | rfl <;> simp
  have hdl : d < 16777216 := by omega
  refine ⟨by rw [List.length_append, h1]; rfl, fun x hx => ?_, ?_, by omega, by omega⟩
  · rcases List.mem_append.1 hx with hx | hx
    · exact h2 x hx
    · rw [List.mem_singleton.1 hx]; exact hdl
  · have e1 : (16777216 : Int) * q + d = t := by omega
    rw [num_snoc, low_succ, low_succ, h1, W_succ]
    simp only [Int.natCast_add, Int.natCast_mul, show ((16777216 : Nat) : Int) = 16777216 from rfl]
    have e2 : (W i : Int) * ((16777216 : Int) * q + d) = W i * ((limb a i : Int) + σ * (limb b i : Int) + c) := by rw [e1, ht]
    have e3 : σ * ((low b i : Int) + W i * (limb b i : Int)) = σ * (low b i : Int) + W i * (σ * (limb b i : Int)) := by
      rw [Int.mul_add, Int.mul_left_comm]
    rw [e3]
    rw [Int.mul_add, Int.mul_add, Int.mul_add] at e2
    have e4 : (16777216 : Int) * W i * q = W i * (16777216 * q) := by rw [Int.mul_comm 16777216, Int.mul_assoc]
    rw [e4]
    omega
theorem alSo_end {σ : Int} {a b i T : Nat} {c : Int} {l : List Nat} (h : AlSo σ a b i c l) (ha : (digs a).length ≤ i) (hb : (digs b).length ≤ i) (hT : (T : Int) = a + σ * b) (hTi : T < W i) : digs (num l) = digs T := by
  have h3 := h.sum
  rw [low_all (Nat.lt_of_lt_of_le (digs_len_lt a) (W_mono ha)), low_all (Nat.lt_of_lt_of_le (digs_len_lt b) (W_mono hb)), ← hT] at h3
  have h5 := num_lt l h.lt
  rw [h.len] at h5
  have h0 := h.c0
  have h1 := h.c1
  have hc : c = 0 := by
    rcases (by omega : c = 0 ∨ c = 1 ∨ c = -1) with h | h | h
    · exact h
    · subst h; omega
    · subst h; omega
  rw [hc] at h3
  congr 1
  omega

theorem zeros_row (z : Nat) : (madeCells (Value.int .i64 0).cells (z * 1)).toList = (List.replicate z 0).map I := by
  rw [Nat.mul_one]
  apply List.ext_getElem
  · simp [madeCells]
  · intro i h1 h2
    simp [madeCells, Value.cells, Nat.mod_one]

/-- a value's row, kept by what lies elsewhere -/
theorem cell_set_ne {w : World} {a b : Addr} (v : Value) (h : a.block ≠ b.block) : (w.setCell a v).cell? b = w.cell? b := by
  apply World.cell?_of_block
  exact Below.heap_setCell _ _ _ _ (fun e => h e.symm)
end Go.Proofs.YtdflbipaicpdcaaGreatDoor
namespace Go.Proofs.YtdflbipaicpdcaaGreatDoor
open Go.RowKit
set_option maxRecDepth 100000

/-- a row of the number n, made above B -/
def MadeN (B : Nat) (w : World) (n : Nat) (e : Ending) (W' : World) : Prop := ∃ v, e = .returned v ∧ RowN B W' v n ∧ Below B w W'

/-- what a step of along does: p holds what is carried -/
def Steps (f : FuncId) (q p : Nat) (σ : Int) (E : World → Prop) : Prop := ∀ (x y : Nat) (c t d r : Int) (w : World), x < 16777216 → y < 16777216 → -1 ≤ c → c ≤ 1 → t = x + σ * y + c → t % 16777216 = d → t / 16777216 = r → E w → w.cell? ⟨p, 0, none⟩ = some (.int .i64 c) → w.frozen? ⟨p, 0, none⟩ = false →
  Calls Tryz.prog f #[.int .i64 x, .int .i64 y, .pointer (some ⟨q, 0, none⟩)] w fun e w' => e = .returned (.int .i64 d) ∧ w' = w.setCell ⟨p, 0, none⟩ (.int .i64 r)

/-- the world of a round -/
structure AlW (w : World) (p B m : Nat) (E : World → Prop) (c : Int) (l : List Nat) (wr : World) : Prop where
  own : wr.ownsRow w.heap.size 3 1 (.slice (some ⟨w.heap.size, 0, none⟩) m m) m (l.map I)
  cell : wr.cell? ⟨p, 0, none⟩ = some (.int .i64 c)
  froz : wr.frozen? ⟨p, 0, none⟩ = false
  env : E wr
  keep : ∀ k, k < w.heap.size → k ≠ p → wr.heap[k]? = w.heap[k]?
  below : Below B w wr

theorem AlW.isI {w wr : World} {p B m : Nat} {E : World → Prop} {c : Int} {l : List Nat} (h : AlW w p B m E c l wr) {a : Option Addr} {len : Nat} {r : List Nat} (hr : IsI w a len r) (hp : ∀ b off, a = some ⟨b, off, none⟩ → len ≠ 0 → b < p) (hps : p < w.heap.size) : IsI wr a len r := by
  obtain ⟨h1, h2⟩ := hr
  refine ⟨h1, ?_⟩
  by_cases h0 : len = 0
  · exact .inl h0
  rcases h2 with h2 | ⟨b, off, rfl, hc⟩
  · exact .inl h2
  · have hb := hp b off rfl h0
    refine .inr ⟨b, off, rfl, fun k hk => ?_⟩
    rw [World.cell?_of_block (w := w) (h.keep b (by omega) (by omega))]
    exact hc k hk

theorem AlW.step {w wr : World} {p B m : Nat} {E : World → Prop} {c : Int} {l : List Nat} (h : AlW w p B m E c l wr) (hps : p < w.heap.size) (hpB : B ≤ p) (hE : ∀ W W' : World, (∀ k, k < w.heap.size → k ≠ p → W'.heap[k]? = W.heap[k]?) → E W → E W') (i d : Nat) (r : Int) :
    AlW w p B m E r (l.set i d) ((wr.setCell ⟨p, 0, none⟩ (.int .i64 r)).setCell ⟨w.heap.size, i, none⟩ (I d)) := by
  have hk : ∀ k, k < w.heap.size → k ≠ p → ((wr.setCell ⟨p, 0, none⟩ (.int .i64 r)).setCell ⟨w.heap.size, i, none⟩ (I d)).heap[k]? = wr.heap[k]? := fun k h1 h2 => by
    rw [Below.heap_setCell _ _ _ _ (show k ≠ w.heap.size by omega), Below.heap_setCell _ _ _ _ (show k ≠ p by omega)]
  refine ⟨ownsI_set (ownsRow_setCell_below h.own (show p < w.heap.size from hps) _) i d, ?_, ?_, hE _ _ hk h.env, fun k h1 h2 => (hk k h1 h2).trans (h.keep k h1 h2), ?_⟩
  · rw [cell_set_ne _ (show w.heap.size ≠ p by omega)]
    exact World.cell?_setCell_same _ _ _ h.cell
  · rw [World.frozen?_setCell, World.frozen?_setCell]; exact h.froz
  · have hs := n_cell_lt h.cell
    exact (h.below.setCell (show B ≤ p from hpB) _).setCell (show B ≤ w.heap.size by omega) _

set_option maxHeartbeats 2000000 in
theorem p_along {aa ab : Option Addr} {la lb ca cb a b T p q B : Nat} {σ : Int} {E : World → Prop} {w : World} (f : FuncId) (hA : IsI w aa la (digs a)) (hB : IsI w ab lb (digs b)) (hσ : σ = 1 ∨ σ = -1) (m : Nat) (hm : m ≤ 2001) (hla : la ≤ m) (hlb : lb ≤ m) (hT : (T : Int) = a + σ * b) (hTm : T < W m)
    (hcf : ∀ args w, (callFunc f args).run Tryz.prog w = .ok (.enter f args) w) (hst : Steps f q p σ E) (hE : ∀ W W' : World, (∀ k, k < w.heap.size → k ≠ p → W'.heap[k]? = W.heap[k]?) → E W → E W') (hEw : E w)
    (hp : w.cell? ⟨p, 0, none⟩ = some (.int .i64 0)) (hf : w.frozen? ⟨p, 0, none⟩ = false) (hpB : B ≤ p) (hpa : ∀ b off, aa = some ⟨b, off, none⟩ → la ≠ 0 → b < p) (hpb : ∀ b off, ab = some ⟨b, off, none⟩ → lb ≠ 0 → b < p) :
    Calls Tryz.prog 228 #[.slice aa la ca, .slice ab lb cb, .int .i64 m, .func (.func f) #[] #[.pointer (some ⟨q, 0, none⟩)]] w (MadeN B w T) := by
  obtain ⟨i0, hi, hz0, hz1, hz2⟩ := info_parts info3
  have hps := n_cell_lt hp
  have HA := Lib.hid hA
  have HB := Lib.hid hB
  have HLA := Lib.hid hA.1
  have HLB := Lib.hid hB.1
  have HT := Lib.hid hT
  have HTM := Lib.hid hTm
  have HST := Lib.hid hst
  have HCF := Lib.hid hcf
  have HE := Lib.hid hE
  have HEW := Lib.hid hEw
  have HP := Lib.hid hp
  have HF := Lib.hid hf
  have HPA := Lib.hid hpa
  have HPB := Lib.hid hpb
  clear hA hB hT hTm hst hcf hE hEw hp hf hpa hpb
  go_enter Tryz.func228, Tryz.ntmps228
  go_wp2_with (at_make; go_loud (refine wpList_make_full _ rfl _ _ 34 rfl w.heap.size 3 i0 (.int .i64 0) 1 Tryz.underlying34 hi hz0 hz1 .i64 .i64 _ _ m rfl rfl (by omega) (by omega) (by rw [hz2]; omega) (by unfold maxLen; omega) (Nat.le_refl _) ?_); intro w1 hown hgr)
  rw [zeros_row] at hown
  have HO := Lib.hid hown
  have HB1 : Hid (Below w.heap.size w w1) := Lib.hid ((Below.refl _ w).grown hgr (Nat.le_refl _) (by simp))
  clear hown hgr
  go_loopw [16] (fun i wr => ∃ (k : Nat) (c : Int) (l : List Nat), k ≤ m ∧ i = .int .i64 k ∧ Hid (AlSo σ a b k c l) ∧ Hid (AlW w p B m E c (l ++ List.replicate (m - k) 0) wr)) (fun i _ => m - (intOf i).toNat)
  case atStart => exact ⟨0, 0, [], Nat.zero_le _, rfl, Lib.hid (alSo_zero σ a b), Lib.hid ⟨by simpa using HO.out, by rw [HB1.out.cell (p := ⟨p, 0, none⟩) hps]; exact HP.out, by rw [HB1.out.frozen (p := ⟨p, 0, none⟩) hps]; exact HF.out, HE.out _ _ (fun k h1 _ => HB1.out.block k h1) HEW.out, fun k h1 _ => HB1.out.block k h1, HB1.out.mono (by omega)⟩⟩
  case round =>
    obtain ⟨k, c, l, hk, rfl, HS, HW⟩ := hrel
    by_cases hkm : k < m
    · have HA2 := Lib.hid (HW.out.isI HA.out HPA.out hps)
      have HB2 := Lib.hid (HW.out.isI HB.out HPB.out hps)
      go_wp2_with fail
      refine (p_get HA2.out k _ rfl).mono ?_
      rintro e w2 ⟨rfl, rfl⟩
      go_wp2_with fail
      refine (p_get HB2.out k _ rfl).mono ?_
      rintro e w2 ⟨rfl, rfl⟩
      go_wp2_with fail
      rw [HCF.out]
      have hx := limb_lt a k
      have hy := limb_lt b k
      obtain ⟨t, ht⟩ : ∃ t, t = (limb a k : Int) + σ * (limb b k : Int) + c := ⟨_, rfl⟩
      obtain ⟨r, hr⟩ : ∃ r, t / 16777216 = r := ⟨_, rfl⟩
      obtain ⟨d, hd⟩ : ∃ d : Nat, t % 16777216 = (d : Int) := ⟨(t % 16777216).toNat, by omega⟩
      have HS2 := Lib.hid (alSo_succ HS.out hσ ht hd hr)
      have hlen := HS.out.len
      refine (HST.out _ _ c _ _ _ w2 hx hy HS.out.c0 HS.out.c1 ht hd hr HW.out.env HW.out.cell HW.out.froz).mono ?_
      have HW2 := Lib.hid (HW.out.step hps hpB HE.out k d r)
      obtain ⟨g, cap2, he, hg0, hg1, hcs, hfz⟩ := ownsI_pos HW2.out.own (by omega)
      simp only [Value.slice.injEq, Option.some.injEq, Addr.mk.injEq, and_true, true_and] at he
      obtain ⟨rfl, rfl⟩ := he
      have hl2 : (l ++ List.replicate (m - k) 0).set k d = (l ++ [d]) ++ List.replicate (m - (k + 1)) 0 := by
        obtain ⟨j, hj⟩ : ∃ j, m - k = j + 1 := ⟨m - k - 1, by omega⟩
        rw [hj, List.replicate_succ, List.set_append_right _ _ (by omega), hlen, Nat.sub_self, List.set_cons_zero, show m - (k + 1) = j by omega, List.append_assoc]
        rfl
      rw [hl2] at HW2
      obtain ⟨g, cap3, he, hg0', hg1', hcs', hfz'⟩ := ownsI_pos HW.out.own (by omega)
      simp only [Value.slice.injEq, Option.some.injEq, Addr.mk.injEq, and_true, true_and] at he
      obtain ⟨rfl, rfl⟩ := he
      obtain ⟨x, hcx⟩ : ∃ x, (w2.setCell ⟨p, 0, none⟩ (.int .i64 r)).cell? ⟨w.heap.size, k, none⟩ = some (I x) := ⟨_, by
        rw [cell_set_ne _ (show p ≠ w.heap.size by omega)]; exact hcs' k hkm⟩
      have hfx : (w2.setCell ⟨p, 0, none⟩ (.int .i64 r)).frozen? ⟨w.heap.size, k, none⟩ = false := by rw [World.frozen?_setCell]; exact hfz' k
      rintro e w3 ⟨rfl, rfl⟩
      clear hcs hfz hcs' hfz' hx hy ht hr hd hl2 hlen HS
      obtain ⟨w3, hw3⟩ : ∃ w3, w2.setCell ⟨p, 0, none⟩ (.int .i64 r) = w3 := ⟨_, rfl⟩
      rw [hw3] at hcx hfx HW2 ⊢
      clear hw3
      go_wp2
      go_roundw
      case rel => exact ⟨k + 1, r, l ++ [d], by omega, by go_num, HS2, HW2⟩
      case measure => simp [intOf]; omega
    · obtain rfl : k = m := by omega
      have HD := Lib.hid (alSo_end HS.out (by rw [HLA.out]; exact hla) (by rw [HLB.out]; exact hlb) HT.out HTM.out)
      have HLT := Lib.hid HS.out.lt
      have HLN := Lib.hid HS.out.len
      have HO2 := HW.out.own
      rw [Nat.sub_self, List.replicate_zero, List.append_nil] at HO2
      have HO3 := Lib.hid HO2
      clear HS HO2
      go_wp2_with fail
      refine (p_trim_own HO3.out HLT.out (by rw [HLN.out]; omega) HD.out).mono ?_
      rintro e w2 ⟨v, rfl, hv, rfl⟩
      have HV := Lib.hid (hv.mono (show B ≤ w.heap.size by omega))
      clear hv
      go_wp2
      go_ret
      exact ⟨_, rfl, HV.out, HW.out.below⟩
end Go.Proofs.YtdflbipaicpdcaaGreatDoor
namespace Go.Proofs.YtdflbipaicpdcaaGreatDoor
open Go.RowKit
set_option maxRecDepth 100000

theorem IsI.lt {w : World} {a : Option Addr} {len : Nat} {l : List Nat} (h : IsI w a len l) (b off : Nat) (e : a = some ⟨b, off, none⟩) (h0 : len ≠ 0) : b < w.heap.size := by
  obtain ⟨b', off', h1, h2⟩ := isI_cell h (show 0 < len by omega)
  rw [e] at h1
  cases h1
  exact n_cell_lt h2

theorem enter229 (args : Array Value) (w : World) : (callFunc 229 args).run Tryz.prog w = .ok (.enter 229 args) w := by kernel_rfl
theorem enter231 (args : Array Value) (w : World) : (callFunc 231 args).run Tryz.prog w = .ok (.enter 231 args) w := by kernel_rfl

theorem steps_add (p q : Nat) : Steps 229 q p 1 (fun w => w.cell? ⟨q, 0, none⟩ = some (.func (.func 227) #[.pointer (some ⟨p, 0, none⟩)] #[])) := by
  intro x y c t d r w hx hy h1 h2 ht hd hr hE hc hf
  refine (p_addput p q c x y w hE hc hf (by omega) (by omega) (by omega) (by omega)).mono ?_
  rintro e w' ⟨rfl, rfl⟩
  rw [Int.one_mul] at ht
  rw [← ht, hd, hr]
  exact ⟨rfl, rfl⟩

set_option maxHeartbeats 1000000 in
theorem p_add_f {u v : Value} {a b : Nat} {w : World} (hu : IsN w u a) (hv : IsN w v b) (ha8 : (digs a).length ≤ 2000) (hb8 : (digs b).length ≤ 2000) : Calls Tryz.prog 182 #[u, v] w (MakesR w (a + b)) := by
  obtain ⟨aa, la, ca, rfl, hA, _⟩ := hu
  obtain ⟨ab, lb, cb, rfl, hB, _⟩ := hv
  have hla := hA.1
  have hlb := hB.1
  rw [hla] at ha8
  rw [hlb] at hb8
  have HA := Lib.hid hA
  have HB := Lib.hid hB
  have HT : Hid (a + b < W (max la lb + 1)) := Lib.hid (by
    have h1 := Nat.lt_of_lt_of_le (digs_len_lt a) (W_mono (show (digs a).length ≤ max la lb by omega))
    have h2 := Nat.lt_of_lt_of_le (digs_len_lt b) (W_mono (show (digs b).length ≤ max la lb by omega))
    rw [W_succ]; omega)
  clear hA hB hla hlb
  go_enter Tryz.func182, Tryz.ntmps182
  go_wp2_with fail
  all_goals
    first | rw [show ((la : Int) + 1) = ((la + 1 : Nat) : Int) by push_cast; rfl] | rw [show ((lb : Int) + 1) = ((lb + 1 : Nat) : Int) by push_cast; rfl]
    have hal : ∀ o1 o2 : Obj, Below w.heap.size w ((w.alloc o1).alloc o2) := fun o1 o2 => ((Below.refl _ w).alloc (Nat.le_refl _) _).alloc (by simp) _
    refine (p_along (B := w.heap.size) (T := a + b) (p := w.heap.size) (q := w.heap.size + 1) 229 (HA.out.below (hal _ _)) (HB.out.below (hal _ _)) (.inl rfl) _ (by omega) (by omega) (by omega) (by push_cast; rw [Int.one_mul]) (Nat.lt_of_lt_of_le HT.out (W_mono (by omega))) enter229 (steps_add _ _)
      (fun W W' h hE => ?_) (by go_simp) (by go_simp) (by go_simp) (Nat.le_refl _) (fun b off e h0 => HA.out.lt b off e h0) (fun b off e h0 => HB.out.lt b off e h0)).mono ?_
    · rw [World.cell?_of_block (w := W) (h _ (by simp) (by simp))]; exact hE
    · rintro e w2 ⟨v, rfl, hv, hb⟩
      have HV := Lib.hid hv
      have HBB := Lib.hid ((hal _ _).trans hb)
      clear hv hb hal
      go_wp2
      go_ret
      exact ⟨_, rfl, HV.out, HBB.out⟩
theorem p_add {u v : Value} {a b : Nat} {w : World} (hu : IsN w u a) (hv : IsN w v b) (ha8 : (digs a).length ≤ 2000) (hb8 : (digs b).length ≤ 2000) : Calls Tryz.prog 182 #[u, v] w (MakesN w (a + b)) :=
  (p_add_f hu hv ha8 hb8).mono fun _ _ h => h.makesN
end Go.Proofs.YtdflbipaicpdcaaGreatDoor
namespace Go.Proofs.YtdflbipaicpdcaaGreatDoor
open Go.RowKit
set_option maxRecDepth 100000

theorem c_nan (x : Int) (w : World) : Calls Tryz.prog 258 #[.int .i64 x] w fun e w' => e = .returned (.bool false) ∧ w = w' := by
  go_enter Tryz.func258, Tryz.ntmps258
  go_wp2
  go_ret
  exact ⟨rfl, rfl⟩

theorem c_cmp (x y : Int) (w : World) : Calls Tryz.prog 249 #[.int .i64 x, .int .i64 y] w fun e w' => e = .returned (.int .i64 (cmpv x y)) ∧ w' = w := by
  obtain ⟨z, hz⟩ : ∃ z, cmpv x y = z := ⟨_, rfl⟩
  rw [hz]
  have HZ := Lib.hid hz
  clear hz
  rcases Int.lt_trichotomy x y with h | h | h
  · have h1 := cmpv_lt h
    have hz2 := HZ.out
    rw [h1] at hz2
    subst hz2
    clear h1 HZ
    go_enter Tryz.func249, Tryz.ntmps249
    go_wp2_with (go_at_call 258; refine (c_nan _ _).mono ?_; rintro e w' ⟨rfl, rfl⟩)
    go_ret
    exact ⟨rfl, rfl⟩
  · have h1 := cmpv_eq h
    have hz2 := HZ.out
    rw [h1] at hz2
    subst hz2
    subst h
    clear h1 HZ
    have hn : ¬ x < x := by omega
    go_enter Tryz.func249, Tryz.ntmps249
    go_wp2_with (go_at_call 258; refine (c_nan _ _).mono ?_; rintro e w' ⟨rfl, rfl⟩)
    go_ret
    exact ⟨rfl, rfl⟩
  · have h1 := cmpv_gt h
    have hz2 := HZ.out
    rw [h1] at hz2
    subst hz2
    clear h1 HZ
    have hn : ¬ x < y := by omega
    go_enter Tryz.func249, Tryz.ntmps249
    go_wp2_with (go_at_call 258; refine (c_nan _ _).mono ?_; rintro e w' ⟨rfl, rfl⟩)
    go_ret
    exact ⟨rfl, rfl⟩

set_option maxHeartbeats 2000000 in
theorem p_cmp {u v : Value} {a b : Nat} {w : World} (hu : IsN w u a) (hv : IsN w v b) (ha8 : (digs a).length ≤ 2000) (hb8 : (digs b).length ≤ 2000) : Calls Tryz.prog 230 #[u, v] w (Gets w (cmpv a b)) := by
  obtain ⟨aa, la, ca, rfl, hA, _⟩ := hu
  obtain ⟨ab, lb, cb, rfl, hB, _⟩ := hv
  have hla := hA.1
  have hlb := hB.1
  rw [hla] at ha8
  rw [hlb] at hb8
  have HA := Lib.hid hA
  have HB := Lib.hid hB
  by_cases hne : la = lb
  · subst hne
    have hda : a / W la = 0 := Nat.div_eq_of_lt (by have := digs_len_lt a; rwa [hla] at this)
    have hdb : b / W la = 0 := Nat.div_eq_of_lt (by have := digs_len_lt b; rwa [hlb] at this)
    have H0 : Hid (a / W la = b / W la) := Lib.hid (by rw [hda, hdb])
    clear hA hB hla hlb hda hdb
    go_enter Tryz.func230, Tryz.ntmps230
    go_wp2
    go_loopw [5] (fun i wr => ∃ k : Nat, k ≤ la ∧ i = .int .i64 ((k : Int) - 1) ∧ Hid (a / W k = b / W k) ∧ Hid (Below w.heap.size w wr)) (fun i _ => (intOf i + 1).toNat)
    case atStart => exact ⟨la, Nat.le_refl _, rfl, H0, Lib.hid (Below.refl _ _)⟩
    case round =>
      obtain ⟨k, hk, rfl, HE, hbl⟩ := hrel
      by_cases h0 : k = 0
      · subst h0
        have hab : a = b := by have := HE.out; rwa [W_zero, Nat.div_one, Nat.div_one] at this
        have HC := Lib.hid (cmpv_eq (show (a : Int) = b by omega))
        clear hab
        go_wp2
        go_ret
        exact ⟨(by rw [HC.out] <;> rfl), hbl.out⟩
      · obtain ⟨j, rfl⟩ : ∃ j, k = j + 1 := ⟨k - 1, by omega⟩
        obtain ⟨ba, offa, rfl, ca1⟩ := isI_cell (HA.out.below (hbl.out.mono (Nat.le_refl _))) (show j < la by omega)
        obtain ⟨bb, offb, rfl, cb1⟩ := isI_cell (HB.out.below (hbl.out.mono (Nat.le_refl _))) (show j < la by omega)
        rw [digs_limb] at ca1 cb1
        have hsa := div_step a j
        have hsb := div_step b j
        have hEE := HE.out
        have hkj : ((j + 1 : Nat) : Int) - 1 = (j : Int) := by omega
        rw [hkj]
        have hji : (j : Int) < la := by omega
        have hjl : j < la := by omega
        obtain ⟨x, hx⟩ : ∃ x, limb a j = x := ⟨_, rfl⟩
        obtain ⟨y, hy⟩ : ∃ y, limb b j = y := ⟨_, rfl⟩
        rw [hx] at ca1 hsa
        rw [hy] at cb1 hsb
        rw [hEE] at hsa
        by_cases hxy : x = y
        · have HE2 : Hid (a / W j = b / W j) := Lib.hid (by omega)
          subst hxy
          have q1 : ((x : Int) != x) = false := by simp
          clear hsa hsb hEE hx hy hkj h0
          go_wp2_with fail
          go_quiet (fail)
          go_wp2
          go_roundw
          case rel => exact ⟨j, by omega, by go_num, HE2, Lib.hid (below_drewN hbl.out _)⟩
          case measure => simp [intOf] <;> omega
        · have HC : Hid (cmpv (x : Int) y = cmpv a b) := Lib.hid (by
            rcases Nat.lt_or_gt_of_ne hxy with h | h
            · rw [cmpv_lt (show (x : Int) < y by omega), cmpv_lt (show (a : Int) < b by have := lt_of_div (a := a) (b := b) (i := j) (by omega); omega)]
            · rw [cmpv_gt (show (y : Int) < x by omega), cmpv_gt (show (b : Int) < a by have := lt_of_div (a := b) (b := a) (i := j) (by omega); omega)])
          have q1 : ((x : Int) != y) = true := by simp; omega
          clear hsa hsb hEE hx hy hkj h0
          go_wp2_with fail
          go_quiet (fail)
          obtain ⟨W', hW⟩ : ∃ W', wr.drewN nq = W' := ⟨_, rfl⟩
          have HBW : Hid (Below w.heap.size w W') := by rw [← hW]; exact Lib.hid (below_drewN hbl.out _)
          have ca2 : W'.cell? ⟨ba, offa + j, none⟩ = some (I x) := by rw [← hW]; exact ca1
          have cb2 : W'.cell? ⟨bb, offb + j, none⟩ = some (I y) := by rw [← hW]; exact cb1
          rw [hW]
          clear hW ca1 cb1 hbl
          go_wp2_with fail
          go_quiet ((go_at_call 249; exact Calls.quiet_of_same (c_cmp _ _ _)))
          go_wp2
          go_ret
          exact ⟨(by rw [HC.out] <;> rfl), below_drewN HBW.out _⟩
  · have hnl : ((la : Int) != lb) = true := by simp; omega
    have HC : Hid (cmpv (la : Int) lb = cmpv a b) := Lib.hid (by
      rcases Nat.lt_or_gt_of_ne hne with h | h
      · rw [cmpv_lt (show (la : Int) < lb by omega), cmpv_lt (show (a : Int) < b by have := len_lt (a := a) (b := b) (by rw [hla, hlb]; exact h); omega)]
      · rw [cmpv_gt (show (lb : Int) < la by omega), cmpv_gt (show (b : Int) < a by have := len_lt (a := b) (b := a) (by rw [hla, hlb]; exact h); omega)])
    clear hA hB hla hlb
    go_enter Tryz.func230, Tryz.ntmps230
    go_wp2_with (go_at_call 249; refine (c_cmp _ _ _).mono ?_; rintro e w' ⟨rfl, rfl⟩)
    go_ret
    exact ⟨(by rw [HC.out] <;> rfl), Below.refl _ _⟩

theorem steps_sub (p : Nat) : Steps 231 p p (-1) (fun _ => True) := by
  intro x y c t d r w hx hy h1 h2 ht hd hr hE hc hf
  have HP := Lib.hid (p_put p c ((x : Int) - y) w hc hf (by omega) (by omega) (by omega) (by omega))
  have HT := Lib.hid (show (x : Int) - y + c = t by omega)
  have HD := Lib.hid hd
  have HR := Lib.hid hr
  have hw : IntKind.i64.wrap ((x : Int) - y) = (x : Int) - y := by rw [IntKind.wrap_i64]; omega
  clear ht hd hr hc hf
  go_enter Tryz.func231, Tryz.ntmps231
  go_wp2_with fail
  refine HP.out.mono ?_
  rw [HT.out, HD.out, HR.out]
  rintro e w' ⟨rfl, rfl⟩
  go_wp2
  go_ret
  exact ⟨rfl, rfl⟩

/-- a difference, and whether there is one -/
def GetsSubF (w : World) (a b : Nat) (e : Ending) (w' : World) : Prop := ∃ v, e = .returned (.tuple #[v, .bool (decide (b ≤ a))]) ∧ (b ≤ a → RowN w.heap.size w' v (a - b)) ∧ (¬ b ≤ a → v = .slice none 0 0) ∧ Below w.heap.size w w'
def GetsSub (w : World) (a b : Nat) (e : Ending) (w' : World) : Prop := ∃ v, e = .returned (.tuple #[v, .bool (decide (b ≤ a))]) ∧ (b ≤ a → IsN w' v (a - b)) ∧ Below w.heap.size w w'

set_option maxHeartbeats 1000000 in
theorem p_sub_f {u v : Value} {a b : Nat} {w : World} (hu : IsN w u a) (hv : IsN w v b) (ha8 : (digs a).length ≤ 2000) (hb8 : (digs b).length ≤ 2000) : Calls Tryz.prog 183 #[u, v] w (GetsSubF w a b) := by
  have HU := Lib.hid hu
  have HV := Lib.hid hv
  obtain ⟨aa, la, ca, rfl, hA, _⟩ := hu
  obtain ⟨ab, lb, cb, rfl, hB, _⟩ := hv
  have hla := hA.1
  have hlb := hB.1
  have HA8 := Lib.hid ha8
  have HB8 := Lib.hid hb8
  rw [hla] at ha8
  rw [hlb] at hb8
  have HA := Lib.hid hA
  have HB := Lib.hid hB
  have HLA := Lib.hid hla
  have HLB := Lib.hid hlb
  by_cases hlt : a < b
  · have HC := Lib.hid (cmpv_lt (show (a : Int) < b by omega))
    have HD : Hid (decide (b ≤ a) = false) := Lib.hid (decide_eq_false (by omega))
    have HN : Hid (¬ b ≤ a) := Lib.hid (by omega)
    clear hA hB hla hlb hlt
    go_enter Tryz.func183, Tryz.ntmps183
    go_wp2_with fail
    refine (p_cmp HU.out HV.out HA8.out HB8.out).mono ?_
    rintro e w1 ⟨rfl, hb⟩
    rw [HC.out]
    have HBL := Lib.hid hb
    clear hb
    go_wp2
    go_ret2
    exact ⟨_, by rw [HD.out] <;> rfl, fun h => absurd h HN.out, fun _ => rfl, HBL.out⟩
  · obtain ⟨z, hz⟩ : ∃ z, cmpv (a : Int) b = z := ⟨_, rfl⟩
    have hz0 : ¬ z < 0 := by
      rw [← hz]
      rcases Nat.eq_or_lt_of_le (show b ≤ a by omega) with h | h
      · rw [cmpv_eq (show (a : Int) = b by omega)]; omega
      · rw [cmpv_gt (show (b : Int) < a by omega)]; omega
    have HZ := Lib.hid hz
    have HD : Hid (decide (b ≤ a) = true) := Lib.hid (decide_eq_true (by omega))
    have HN : Hid (b ≤ a) := Lib.hid (by omega)
    have hll : lb ≤ la := by
      apply Nat.le_of_not_lt
      intro h
      have := len_lt (a := a) (b := b) (by rw [hla, hlb]; exact h)
      omega
    have HT : Hid (a - b < W la) := Lib.hid (by have := digs_len_lt a; rw [hla] at this; omega)
    clear hA hB hla hlb hlt hz
    go_enter Tryz.func183, Tryz.ntmps183
    go_wp2_with fail
    refine (p_cmp HU.out HV.out HA8.out HB8.out).mono ?_
    rw [HZ.out]
    rintro e w1 ⟨rfl, hb⟩
    have HBL := Lib.hid hb
    clear hb
    go_wp2_with fail
    have hal : ∀ o1 : Obj, Below w.heap.size w (w1.alloc o1) := fun o1 => HBL.out.alloc HBL.out.size _
    have hsz := HBL.out.size
    refine (p_along (B := w.heap.size) (T := a - b) (p := w1.heap.size) (q := w1.heap.size) 231 (HA.out.below (hal _)) (HB.out.below (hal _)) (.inr rfl) _ (by omega) (by omega) (by omega) (by have := HN.out; omega) HT.out enter231 (steps_sub _)
      (fun _ _ _ _ => trivial) trivial (by go_simp) (by go_simp) hsz (fun b off e h0 => by have := HA.out.lt b off e h0; omega) (fun b off e h0 => by have := HB.out.lt b off e h0; omega)).mono ?_
    rintro e w2 ⟨v, rfl, hv, hb⟩
    have HV := Lib.hid hv
    have HBB := Lib.hid ((hal _).trans hb)
    clear hv hb hal hsz
    go_wp2
    go_ret2
    exact ⟨_, by rw [HD.out] <;> rfl, fun _ => HV.out, fun h => absurd HN.out h, HBB.out⟩
theorem p_sub {u v : Value} {a b : Nat} {w : World} (hu : IsN w u a) (hv : IsN w v b) (ha8 : (digs a).length ≤ 2000) (hb8 : (digs b).length ≤ 2000) : Calls Tryz.prog 183 #[u, v] w (GetsSub w a b) :=
  (p_sub_f hu hv ha8 hb8).mono fun _ _ ⟨v, h1, h2, _, h4⟩ => ⟨v, h1, fun h => (h2 h).isN, h4⟩
end Go.Proofs.YtdflbipaicpdcaaGreatDoor
namespace Go.Proofs.YtdflbipaicpdcaaGreatDoor
open Go.RowKit
set_option maxRecDepth 100000

theorem freshN_own {B n : Nat} {W : World} {v : Value} (h : W.ownsRow B 3 1 v (digs n).length ((digs n).map I)) : FreshN B W v n := by
  by_cases h0 : n = 0
  · subst h0
    rw [digs_zero] at h
    rcases h.2 with ⟨h1, _⟩ | ⟨g, cap, cur, rfl, hg, hh, hn, hmx, hs, hx⟩
    · exact .inl ⟨rfl, h1⟩
    · exact .inr (freshN_take (l := []) h (Nat.le_refl _) (by rw [digs_zero]; rfl))
  · have hp : 0 < (digs n).length := by
      apply List.length_pos_iff.2
      intro h1
      have := num_digs n
      rw [h1] at this
      exact h0 this.symm
    obtain ⟨g, cap, rfl, _⟩ := ownsI_pos h hp
    exact .inr (freshN_take h (Nat.le_refl _) (List.take_length ..))

set_option maxHeartbeats 1000000 in
theorem p_of_f (n : Nat) (hn : n < 9223372036854775808) (w : World) : Calls Tryz.prog 186 #[.int .i64 n] w (MakesF w n) := by
  have hlen : (digs n).length ≤ 3 := digs_len_le' (by have : W 3 = 4722366482869645213696 := rfl; omega)
  have HL := Lib.hid hlen
  clear hlen
  have h0n : (n : Int) ≤ 9223372036854775807 := by omega
  go_enter Tryz.func186, Tryz.ntmps186
  go_wp2
  go_loopw [0, 3] (fun x s wr => ∃ (m : Nat) (l : List Nat), m ≤ n ∧ x = .int .i64 m ∧ Hid (l ++ digs m = digs n) ∧ Hid (wr.ownsRow w.heap.size 3 1 s l.length (l.map I)) ∧ Hid (Below w.heap.size w wr)) (fun x _ _ => (intOf x).toNat)
  case atStart => exact ⟨n, [], Nat.le_refl _, rfl, Lib.hid rfl, Lib.hid (World.ownsRow_nil _ _ _ _), Lib.hid (Below.refl _ _)⟩
  case round =>
    obtain ⟨m, l, hm, rfl, HD, hz, hbl⟩ := hrel
    by_cases h0 : m = 0
    · subst h0
      have hl : l = digs n := by have := HD.out; rwa [digs_zero, List.append_nil] at this
      have HO : Hid (wr.ownsRow w.heap.size 3 1 u3 (digs n).length ((digs n).map I)) := by rw [← hl]; exact hz
      clear hz HD hl
      go_wp2
      go_ret
      exact ⟨_, rfl, freshN_own HO.out, hbl.out⟩
    · have hm0 : (0 : Int) < m := by omega
      have hmn : (m : Int) ≤ 9223372036854775807 := by omega
      obtain ⟨y, hy⟩ : ∃ y, m % 16777216 = y := ⟨_, rfl⟩
      obtain ⟨q, hq⟩ : ∃ q, m / 16777216 = q := ⟨_, rfl⟩
      have hya : bits .and .i64 (m : Int) 16777215 = (y : Int) := by rw [and24]; omega
      have hqi : (m : Int) / 16777216 = (q : Int) := by omega
      have hqm : q < m := by omega
      have HD2 : Hid ((l ++ [y]) ++ digs q = digs n) := Lib.hid (by rw [← HD.out, digs_pos h0, hy, hq, List.append_assoc]; rfl)
      have hll : l.length ≤ 3 := by
        have h1 := congrArg List.length HD.out
        rw [List.length_append] at h1
        have := HL.out
        omega
      clear hy hq HD h0
      go_wp2_with (at_builtin; refine n_append rfl (.tmp 8) (.tmp 11) rfl w.heap.size _ l.length l rfl (hz.out.alloc _) _ [y] rfl (ila_one _ y _ rfl) (by simp; omega) (Nat.le_trans hbl.out.size (by simp)) ?_; intro v' w' ho hb)
      go_roundw
      case rel => exact ⟨q, l ++ [y], by omega, rfl, HD2, Lib.hid (by simpa using ho), Lib.hid ((hbl.out.alloc hbl.out.size _).trans hb)⟩
      case measure => simp [intOf]; omega

theorem p_of (n : Nat) (hn : n < 9223372036854775808) (w : World) : Calls Tryz.prog 186 #[.int .i64 n] w (MakesN w n) :=
  (p_of_f n hn w).mono fun _ _ h => h.makesN

set_option maxHeartbeats 2000000 in
theorem p_mul_f {u v : Value} {a b : Nat} {w : World} (hu : IsN w u a) (hv : IsN w v b) (ha8 : (digs a).length ≤ 2000) (hb8 : (digs b).length ≤ 2000) : Calls Tryz.prog 184 #[u, v] w (MakesR w (a * b)) := by
  obtain ⟨i0, hi, hz0, hz1, hz2⟩ := info_parts info3
  obtain ⟨aa, la, ca, rfl, hA, _⟩ := hu
  obtain ⟨ab, lb, cb, rfl, hB, _⟩ := hv
  have hla := hA.1
  have hlb := hB.1
  rw [hla] at ha8
  rw [hlb] at hb8
  have HA := Lib.hid hA
  have HB := Lib.hid hB
  have HAN : Hid (a < W la) := Lib.hid (by rw [← hla]; exact digs_len_lt a)
  have HBN : Hid (b < W lb) := Lib.hid (by rw [← hlb]; exact digs_len_lt b)
  obtain ⟨ll, hll⟩ : ∃ ll, la + lb = ll := ⟨_, rfl⟩
  have hwl : IntKind.i64.wrap ((la : Int) + lb) = (ll : Int) := by rw [IntKind.wrap_i64]; omega
  have hl8 : ll ≤ 4000 := by omega
  have hS0 := mulSo_zero a b la lb
  rw [hll] at hS0
  have HS0 := Lib.hid hS0
  have HLL := Lib.hid hll
  clear hA hB hla hlb hS0 hll
  go_enter Tryz.func184, Tryz.ntmps184
  go_wp2_with (at_make; go_loud (refine wpList_make_full _ rfl _ _ 34 rfl w.heap.size 3 i0 (.int .i64 0) 1 Tryz.underlying34 hi hz0 hz1 .i64 .i64 _ _ ll rfl rfl (by omega) (by omega) (by rw [hz2]; omega) (by unfold maxLen; omega) (Nat.le_refl _) ?_); intro w1 hown hgr)
  rw [zeros_row] at hown
  have HO := Lib.hid hown
  have HB1 : Hid (Below w.heap.size w w1) := Lib.hid ((Below.refl _ w).grown hgr (Nat.le_refl _) (by simp))
  clear hown hgr hwl
  go_loopw [19] (fun i wr => ∃ (j : Nat) (l : List Nat), j ≤ la ∧ i = .int .i64 j ∧ Hid (MulSo a b la lb j l) ∧ Hid (wr.ownsRow w.heap.size 3 1 (.slice (some ⟨w.heap.size, 0, none⟩) ll ll) ll (l.map I)) ∧ Hid (Below w.heap.size w wr)) (fun i _ => la - (intOf i).toNat)
  case atStart => exact ⟨0, _, Nat.zero_le _, rfl, HS0, HO, HB1⟩
  case round =>
    obtain ⟨j, l, hj, rfl, HS, hz, hbl⟩ := hrel
    by_cases hjl : j < la
    · obtain ⟨ba, offa, rfl, ca1⟩ := isI_cell (HA.out.below hbl.out) hjl
      rw [digs_limb] at ca1
      have HS1 := Lib.hid HS.out.start
      have hal := limb_lt a j
      obtain ⟨ya, hya⟩ : ∃ y, limb a j = y := ⟨_, rfl⟩
      rw [hya] at ca1 hal
      have HYA := Lib.hid hya
      obtain ⟨g0, cap0, he0, hgw, hgs, _, _⟩ : ∃ g cap, (Value.slice (some ⟨w.heap.size, 0, none⟩) ll ll) = .slice (some ⟨g, 0, none⟩) ll cap ∧ w.heap.size ≤ g ∧ g < wr.heap.size ∧ True ∧ True := by
        obtain ⟨g, cap2, he, hg0, hg1, _, _⟩ := ownsI_pos hz.out (by have := HLL.out; omega)
        exact ⟨g, cap2, he, hg0, hg1, trivial, trivial⟩
      simp only [Value.slice.injEq, Option.some.injEq, Addr.mk.injEq, and_true, true_and] at he0
      obtain ⟨rfl, rfl⟩ := he0
      clear hgw hya HS
      have hz4 := Lib.hid (World.ownsRow.alloc (o := .cells #[.int .i64 0] 277) hz.out)
      have hb4 := Lib.hid (hbl.out.alloc hbl.out.size (.cells #[.int .i64 0] 277))
      go_wp2
      obtain ⟨pc, hpc⟩ : ∃ pc, wr.heap.size = pc := ⟨_, rfl⟩
      have c4 : (wr.alloc (.cells #[.int .i64 0] 277)).cell? ⟨pc, 0, none⟩ = some (.int .i64 0) := by rw [← hpc]; go_simp
      have f4 : (wr.alloc (.cells #[.int .i64 0] 277)).frozen? ⟨pc, 0, none⟩ = false := by rw [← hpc]; go_simp
      have C4 := Lib.hid c4
      have F4 := Lib.hid f4
      rw [hpc] at hgs ⊢
      clear c4 f4 hpc ca1
      generalize wr.alloc (.cells #[.int .i64 0] 277) = w5 at *
      clear hz hbl
      go_loopw [26] (fun i wr => ∃ (k c : Nat) (l : List Nat), k ≤ lb ∧ i = .int .i64 k ∧ Hid (MulIn a b la lb j k c l) ∧ Hid (wr.ownsRow w.heap.size 3 1 (.slice (some ⟨w.heap.size, 0, none⟩) ll ll) ll (l.map I)) ∧ Hid (Below w.heap.size w wr) ∧ Hid (wr.cell? ⟨pc, 0, none⟩ = some (.int .i64 c)) ∧ Hid (wr.frozen? ⟨pc, 0, none⟩ = false)) (fun i _ => lb - (intOf i).toNat)
      case atStart => exact ⟨0, 0, l, Nat.zero_le _, rfl, HS1, hz4, hb4, C4, F4⟩
      case round =>
        obtain ⟨k, c, l, hk, rfl, HS, hz, hbl, HC, HF⟩ := hrel
        obtain ⟨g, cap2, he, hg0, hg1, hcs, hfz⟩ := ownsI_pos hz.out (by have := HLL.out; omega)
        simp only [Value.slice.injEq, Option.some.injEq, Addr.mk.injEq, and_true, true_and] at he
        obtain ⟨rfl, rfl⟩ := he
        have hc := HS.out.cl
        have hpcw : w.heap.size ≤ pc := by omega
        by_cases hkl : k < lb
        · obtain ⟨p, hp⟩ : ∃ p, j + k = p := ⟨_, rfl⟩
          have hpl : p < ll := by have := HLL.out; omega
          have hwp : IntKind.i64.wrap ((j : Int) + k) = (p : Int) := by rw [IntKind.wrap_i64]; omega
          obtain ⟨bb, offb, rfl, cb1⟩ := isI_cell (HB.out.below hbl.out) hkl
          rw [digs_limb] at cb1
          have cx := hcs p hpl
          obtain ⟨x, hx⟩ : ∃ x, l.getD p 0 = x := ⟨_, rfl⟩
          have hxp : l.getD (j + k) 0 = x := by rw [hp]; exact hx
          have HS2 := HS.out.step hjl hkl hxp
          rw [hp] at HS2
          clear hxp
          have hxl : x < 16777216 := by rw [← hx]; exact getD_lt HS.out.lt _
          have hybl := limb_lt b k
          obtain ⟨yb, hyb⟩ : ∃ y, limb b k = y := ⟨_, rfl⟩
          rw [hx] at cx
          rw [hyb] at cb1 hybl
          rw [HYA.out, hyb] at HS2
          have hml : ya * yb ≤ 16777215 * 16777215 := Nat.mul_le_mul (by omega) (by omega)
          obtain ⟨m, hm⟩ : ∃ m, ya * yb = m := ⟨_, rfl⟩
          have hmi : (ya : Int) * yb = (m : Int) := by rw [← hm]; push_cast; rfl
          rw [hm] at HS2 hml
          have hwm : IntKind.i64.wrap ((ya : Int) * yb) = (m : Int) := by rw [hmi, IntKind.wrap_i64]; clear hm hmi hwp; omega
          have hw1 : IntKind.i64.wrap ((x : Int) + m) = ((x : Int) + m) := by rw [IntKind.wrap_i64]; clear hm hmi hwm hwp; omega
          obtain ⟨d, hd⟩ : ∃ d, (x + m + c) % 16777216 = d := ⟨_, rfl⟩
          obtain ⟨q, hq⟩ : ∃ q, (x + m + c) / 16777216 = q := ⟨_, rfl⟩
          have HDI : Hid (((x : Int) + m + c) % 16777216 = (d : Int)) := Lib.hid (by clear hm hmi hwm hwp hw1; omega)
          have HQI : Hid (((x : Int) + m + c) / 16777216 = (q : Int)) := Lib.hid (by clear hm hmi hwm hwp hw1; omega)
          have hm0 : (m : Int) ≤ 300000000000000 := by clear hm hmi hwm hwp hw1; omega
          rw [hd, hq] at HS2
          have HS3 := Lib.hid HS2
          have HP := Lib.hid hp
          have CX := Lib.hid cx
          have FX := Lib.hid (hfz p)
          clear hcs hfz hx hyb hm hmi hd hq HS hp HS2
          go_wp2_with fail
          refine (p_put pc c ((x : Int) + m) _ HC.out HF.out (by omega) (by omega) (by omega) (by omega)).mono ?_
          rw [HDI.out, HQI.out]
          have cx3 : (wr.setCell ⟨pc, 0, none⟩ (.int .i64 q)).cell? ⟨w.heap.size, p, none⟩ = some (I x) := by rw [cell_set_ne _ (show pc ≠ w.heap.size by omega)]; exact CX.out
          have fx3 : (wr.setCell ⟨pc, 0, none⟩ (.int .i64 q)).frozen? ⟨w.heap.size, p, none⟩ = false := by rw [World.frozen?_setCell]; exact FX.out
          have HZ3 := Lib.hid (ownsI_set (ownsRow_setCell_other hz.out (a := ⟨pc, 0, none⟩) (by simp [Value.ownBlock]; omega) (.int .i64 q)) p d)
          have HB3 := Lib.hid ((hbl.out.setCell (p := ⟨pc, 0, none⟩) hpcw (.int .i64 q)).setCell (p := ⟨w.heap.size, p, none⟩) (Nat.le_refl _) (I d))
          have HC3 : Hid (((wr.setCell ⟨pc, 0, none⟩ (.int .i64 q)).setCell ⟨w.heap.size, p, none⟩ (I d)).cell? ⟨pc, 0, none⟩ = some (.int .i64 q)) := Lib.hid (by
            rw [cell_set_ne _ (show w.heap.size ≠ pc by omega)]
            exact World.cell?_setCell_same _ _ _ HC.out)
          have HF3 : Hid (((wr.setCell ⟨pc, 0, none⟩ (.int .i64 q)).setCell ⟨w.heap.size, p, none⟩ (I d)).frozen? ⟨pc, 0, none⟩ = false) := Lib.hid (by
            rw [World.frozen?_setCell, World.frozen?_setCell]; exact HF.out)
          rintro e w6 ⟨rfl, rfl⟩
          obtain ⟨w6, hw6⟩ : ∃ w6, wr.setCell ⟨pc, 0, none⟩ (.int .i64 q) = w6 := ⟨_, rfl⟩
          rw [hw6] at cx3 fx3 HZ3 HB3 HC3 HF3 ⊢
          clear hw6 hz hbl HC HF hw1 hwm cb1
          go_wp2
          go_roundw
          case rel => exact ⟨k + 1, q, _, by omega, by go_num, HS3, HZ3, HB3, HC3, HF3⟩
          case measure => simp [intOf]; omega
        · obtain rfl : k = lb := by omega
          obtain ⟨p, hp⟩ : ∃ p, j + k = p := ⟨_, rfl⟩
          have hpl : p < ll := by have := HLL.out; omega
          have hwp : IntKind.i64.wrap ((j : Int) + k) = (p : Int) := by rw [IntKind.wrap_i64]; omega
          have cx := hcs p hpl
          have hfx := hfz p
          have hcc := HC.out
          have hcf := HF.out
          obtain ⟨x, hx⟩ : ∃ x, l.getD p 0 = x := ⟨_, rfl⟩
          rw [hx] at cx
          have HS2 := Lib.hid (HS.out.end hjl HBN.out)
          rw [hp] at HS2
          clear hcs hfz hx hp HS
          have hz3 := Lib.hid (ownsI_set hz.out p c)
          have hb3 : Hid (Below w.heap.size w (wr.setCell ⟨w.heap.size, p, none⟩ (I c))) := Lib.hid (hbl.out.setCell (by show _ ≤ _; exact Nat.le_refl _) _)
          go_wp2
          go_roundw
          case rel => exact ⟨j + 1, _, by omega, by go_num, HS2, hz3, hb3⟩
          case measure => simp [intOf]; omega
    · obtain rfl : j = la := by omega
      have HE := Lib.hid (HS.out.end HAN.out)
      have HLT := Lib.hid HS.out.lt
      have HLN : Hid (l.length ≤ 5000) := Lib.hid (by rw [HS.out.len, HLL.out]; omega)
      clear HS
      go_wp2_with fail
      refine (p_trim_own hz.out HLT.out HLN.out HE.out).mono ?_
      rintro e w2 ⟨v, rfl, hv, rfl⟩
      have HV2 := Lib.hid hv
      clear hv
      go_wp2
      go_ret
      exact ⟨_, rfl, HV2.out, hbl.out⟩
theorem p_mul {u v : Value} {a b : Nat} {w : World} (hu : IsN w u a) (hv : IsN w v b) (ha8 : (digs a).length ≤ 2000) (hb8 : (digs b).length ≤ 2000) : Calls Tryz.prog 184 #[u, v] w (MakesN w (a * b)) :=
  (p_mul_f hu hv ha8 hb8).mono fun _ _ h => h.makesN
end Go.Proofs.YtdflbipaicpdcaaGreatDoor
namespace Go.Proofs.YtdflbipaicpdcaaGreatDoor
open Go.RowKit
set_option maxRecDepth 100000

/-- block g is the row of the ints l -/
def Rw (w : World) (g : Nat) (l : List Nat) : Prop := w.heap[g]? = some (.cells (l.map I).toArray 3 (0, 0))
theorem Rw.lt {w : World} {g : Nat} {l : List Nat} (h : Rw w g l) : g < w.heap.size := (Array.getElem?_eq_some_iff.1 h).1
theorem Rw.of_owns {w : World} {base g n : Nat} {l : List Nat} (h : w.ownsRow base 3 1 (.slice (some ⟨g, 0, none⟩) n n) n (l.map I)) : Rw w g l := by
  have h1 := h.1
  rcases h.2 with ⟨h0, _⟩ | ⟨g', cap, cur, hv, hg, hh, _, _, hs, ht⟩
  · cases h0
  · simp only [Value.slice.injEq, Option.some.injEq, Addr.mk.injEq, and_true, true_and] at hv
    obtain ⟨rfl, rfl⟩ := hv
    rw [List.take_of_length_le (by simp [hs])] at ht
    unfold Rw
    rw [hh, ← ht]
theorem Rw.owns {w : World} {base g : Nat} {l : List Nat} (h : Rw w g l) (hb : base ≤ g) (hl : l.length ≤ 100000) : w.ownsRow base 3 1 (.slice (some ⟨g, 0, none⟩) l.length l.length) l.length (l.map I) :=
  ⟨by simp, .inr ⟨g, l.length, _, rfl, hb, h, Nat.le_refl _, by unfold maxLen; omega, by simp, by rw [List.take_of_length_le (by simp)]⟩⟩
theorem Rw.cell {w : World} {g : Nat} {l : List Nat} (h : Rw w g l) {i : Nat} (hi : i < l.length) : w.cell? ⟨g, i, none⟩ = some (I (l.getD i 0)) := by
  rw [List.getD_eq_getElem?_getD, List.getElem?_eq_getElem hi]
  simp [World.cell?, show w.heap[g]? = _ from h, hi]
theorem Rw.froz {w : World} {g : Nat} {l : List Nat} (h : Rw w g l) (i : Nat) : w.frozen? ⟨g, i, none⟩ = false := by simp [World.frozen?, show w.heap[g]? = _ from h]
theorem Rw.keep {w w' : World} {g : Nat} {l : List Nat} (h : Rw w g l) (hk : w'.heap[g]? = w.heap[g]?) : Rw w' g l := hk.trans h
theorem Rw.below {w w' : World} {g B : Nat} {l : List Nat} (h : Rw w g l) (hb : Below B w w') (hg : g < B) : Rw w' g l := h.keep (hb.block g hg)
theorem Rw.set {w : World} {g : Nat} {l : List Nat} (h : Rw w g l) (i x : Nat) : Rw (w.setCell ⟨g, i, none⟩ (I x)) g (l.set i x) := by
  unfold Rw
  simp only [World.setCell, Array.getElem?_modify, if_true, show w.heap[g]? = _ from h, Option.map_some]
  simp [List.map_set]
theorem Rw.other {w : World} {g : Nat} {l : List Nat} (h : Rw w g l) {p : Addr} (hp : p.block ≠ g) (v : Value) : Rw (w.setCell p v) g l := h.keep (Below.heap_setCell _ _ _ _ (fun e => hp e.symm))
theorem Rw.alloc {w : World} {g : Nat} {l : List Nat} (h : Rw w g l) (o : Obj) : Rw (w.alloc o) g l := h.keep (Below.heap_alloc _ _ _ h.lt)
theorem Rw.isI {w : World} {g : Nat} {l : List Nat} (h : Rw w g l) {n : Nat} (hn : l.length = n) : IsI w (some ⟨g, 0, none⟩) n l := by
  refine ⟨hn, .inr ⟨g, 0, rfl, fun k hk => ?_⟩⟩
  rw [Nat.zero_add]; exact h.cell hk
theorem Rw.ila {w : World} {g : Nat} {l : List Nat} (h : Rw w g l) {n c : Nat} (hn : l.length = n) (hc : n ≤ c) : Ila w (.slice (some ⟨g, 0, none⟩) n c) l := ⟨_, n, c, rfl, h.isI hn, (fun h => by cases h), hc⟩

/-- a new row of noughts -/
theorem rw_make {w w1 : World} {m : Nat} (h : w1.ownsRow w.heap.size 3 1 (.slice (some ⟨w.heap.size, 0, none⟩) m m) m (madeCells (Value.int .i64 0).cells (m * 1)).toList) : Rw w1 w.heap.size (List.replicate m 0) := by
  rw [zeros_row] at h
  exact Rw.of_owns h

theorem splice_rw {w : World} {g : Nat} {cur cs : List Nat} {off : Nat} (h : w.heap[g]? = some (.cells (splice (cur.map I) off (cs.map I)).toArray 3 (0, 0))) : Rw w g (cur.take off ++ (cs ++ cur.drop (off + cs.length))) := by
  unfold Rw
  rw [h]
  simp [splice]
end Go.Proofs.YtdflbipaicpdcaaGreatDoor
