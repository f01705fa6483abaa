/- Of, Add of the document's naturals. No condition but the sizes. -/
import Derived.Test.YtemneeknemijpaaNr
namespace Go.Proofs.Ytemneeknemijpaa
open Go.RowKit

/-- A value that is the row of the number n. -/
def IsN (w : World) (v : Value) (n : Nat) : Prop := Ila w v (digs n)
/-- A new row of the number n; what was there is as it was. -/
def MakesN (w : World) (n : Nat) (e : Ending) (W' : World) : Prop := ∃ v, e = .returned v ∧ IsN W' v n ∧ Below w.heap.size w W'
theorem IsN.below {w w' : World} {v : Value} {n : Nat} (h : IsN w v n) (hb : Below w.heap.size w w') : IsN w' v n := Ila.below h hb
theorem MakesI.makesN {w : World} {n : Nat} {e : Ending} {W' : World} (h : MakesI w (digs n) e W') : MakesN w n e W' := by
  obtain ⟨v, h1, h2, h3⟩ := h
  exact ⟨v, h1, ila_own h2, h3⟩
theorem isN_nil (w : World) : IsN w (.slice none 0 0) 0 := by
  unfold IsN; rw [digs_zero]; exact ⟨none, 0, 0, rfl, ⟨rfl, .inl rfl⟩, fun _ => ⟨rfl, rfl⟩, Nat.le_refl _⟩
theorem ila_one (w : World) (y : Nat) (h : Nat) (hh : h = w.heap.size) : Ila (w.alloc (.cells #[I y] 3)) (.slice (some ⟨h, 0, none⟩) 1 1) [y] := by
  subst hh
  have := World.ownsRow_lit (base := w.heap.size) (size := 1) (e := 3) w (#[I y] : Array Value) 1 (Nat.le_refl _) (by unfold maxLen; omega) (by simp)
  exact ila_own (base := w.heap.size) (by simpa using this)
theorem digs_len_le' {n k : Nat} (h : n < W k) : (digs n).length ≤ k := by
  by_cases h0 : n = 0
  · subst h0; rw [digs_zero]; exact Nat.zero_le _
  · have h1 := digs_len_le n h0
    apply Nat.le_of_not_lt
    intro hlt
    have := W_mono (show k ≤ (digs n).length - 1 by omega)
    omega

set_option maxHeartbeats 1000000 in
theorem n_of (n : Nat) (hn : n < 9223372036854775808) (w : World) : Calls Try.prog 60 #[.int .i64 n] w (MakesN w n) := by
  have hlen : (digs n).length ≤ 3 := digs_len_le' (by have : W 3 = 4722366482869645213696 := rfl; omega)
  have HL := Lib.hid hlen
  clear hlen
  have h0n : (n : Int) ≤ 9223372036854775807 := by omega
  go_enter Try.func60, Try.ntmps60
  go_wp2
  go_loopw [0, 3] (fun x s wr => ∃ (m : Nat) (l : List Nat), m ≤ n ∧ x = .int .i64 m ∧ Hid (l ++ digs m = digs n) ∧ Hid (wr.ownsRow w.heap.size 3 1 s l.length (l.map I)) ∧ Hid (Below w.heap.size w wr)) (fun x _ _ => (intOf x).toNat)
  case atStart => exact ⟨n, [], Nat.le_refl _, rfl, Lib.hid rfl, Lib.hid (World.ownsRow_nil _ _ _ _), Lib.hid (Below.refl _ _)⟩
  case round =>
    obtain ⟨m, l, hm, rfl, HD, hz, hbl⟩ := hrel
    by_cases h0 : m = 0
    · subst h0
      have hl : l = digs n := by have := HD.out; rwa [digs_zero, List.append_nil] at this
      have HO : Hid (wr.ownsRow w.heap.size 3 1 u3 (digs n).length ((digs n).map I)) := by rw [← hl]; exact hz
      clear hz HD hl
      go_wp2
      go_ret
      exact ⟨_, rfl, ila_own HO.out, hbl.out⟩
    · have hm0 : (0 : Int) < m := by omega
      have hmn : (m : Int) ≤ 9223372036854775807 := by omega
      obtain ⟨y, hy⟩ : ∃ y, m % 16777216 = y := ⟨_, rfl⟩
      obtain ⟨q, hq⟩ : ∃ q, m / 16777216 = q := ⟨_, rfl⟩
      have hyi : (m : Int) % 16777216 = (y : Int) := by omega
      have hqi : (m : Int) / 16777216 = (q : Int) := by omega
      have hqm : q < m := by omega
      have HD2 : Hid ((l ++ [y]) ++ digs q = digs n) := Lib.hid (by rw [← HD.out, digs_pos h0, hy, hq, List.append_assoc]; rfl)
      have hll : l.length ≤ 3 := by
        have h1 := congrArg List.length HD.out
        rw [List.length_append] at h1
        have := HL.out
        omega
      clear hy hq HD h0
      go_wp2_with (at_builtin; refine n_append rfl (.tmp 6) (.tmp 9) rfl w.heap.size _ l.length l rfl (hz.out.alloc _) _ [y] rfl (ila_one _ y _ rfl) (by simp; omega) (Nat.le_trans hbl.out.size (by simp)) ?_; intro v' w' ho hb)
      go_roundw
      case rel => exact ⟨q, l ++ [y], by omega, rfl, HD2, Lib.hid (by simpa using ho), Lib.hid ((hbl.out.alloc hbl.out.size _).trans hb)⟩
      case measure => simp [intOf]; omega
end Go.Proofs.Ytemneeknemijpaa
