/- What the proofs of the statements over rows of floats share: how such a row is opened. No condition. -/
import Derived.Test.YtajnjghbppcfdaaRows
import Derived.Test.YtajnjghbppcfdaaHead
import Derived.Test.YtajnjghbppcfdaaPlain
import Derived.WalkKit
import Derived.ProofKit
import Derived.OpenShut
import Derived.ShutString
import Derived.ChangeOld
import Derived.Below
import Derived.Deep.Slices
namespace Go.Proofs.Ytajnjghbppcfdaa
open Go.ChangeShapes Go.WideShapes Go.ChangeAt Go.RowKit
open Go.ChangeMaps (open_string shut_string)
theorem own : ownKnob Try.prog.godebug = none := by kernel_rfl

theorem lt_of_wf {b : Nat} (h : (Lit.float .f64 b).wf = true) : b < 2 ^ 64 := by simpa [Lit.wf] using h
theorem laidOut : laidOutB Try.prog = true := by kernel_rfl

section
variable {H : Type} {enc : TypeId × Value → H} {w : World} {base : Nat} {spare : Nat → Bool} {held : Bool}

theorem trod_float {fuel : Nat} {v : Value} {d : DataW H} {ps : List MemPlace} (h : DataW.trod enc Try.prog w base spare held fuel 35 [v] = some (d, ps)) : ∃ b, v = .float .f64 b ∧ b < 2 ^ 64 := by
  cases fuel with
  | zero => simp [DataW.trod] at h
  | succ n =>
    simp only [DataW.trod, Try.underlying35] at h
    cases v with
    | float k b =>
      cases k with
      | f64 =>
        by_cases hw : (Lit.float .f64 b).wf = true
        · exact ⟨b, rfl, lt_of_wf hw⟩
        · simp [hw] at h
      | f32 => simp at h
    | _ => simp at h


/-- A row of floats that came in: it reads as the list l. -/
def RowF (w : World) (a : Option Addr) (len cap : Nat) (l : List Nat) : Prop := IsFl w a len l ∧ (a = none → len = 0 ∧ cap = 0) ∧ len ≤ cap
theorem RowF.fla {w : World} {a : Option Addr} {len cap : Nat} {l : List Nat} (h : RowF w a len cap l) : Fla w (.slice a len cap) l := ⟨a, len, cap, rfl, h.1, h.2.1, h.2.2⟩

theorem makes_n {w W : World} {l : List Nat} {e : Ending} (h : Makes w l e W) : ∃ o n c, e = .returned (.slice o n c) ∧ Fla W (.slice o n c) l ∧ Below w.heap.size w W := by
  obtain ⟨v, rfl, ho, hb⟩ := h
  obtain ⟨o, n, c, rfl, hf⟩ := fla_own ho
  exact ⟨o, n, c, rfl, ⟨o, n, c, rfl, hf⟩, hb⟩
theorem makes2_n {w W : World} {l : List Nat} {e : Ending} (h : Makes2 w l e W) : ∃ o n c, e = .returned (.tuple #[.slice o n c, .bool true]) ∧ Fla W (.slice o n c) l ∧ Below w.heap.size w W := by
  obtain ⟨v, rfl, ho, hb⟩ := h
  obtain ⟨o, n, c, rfl, hf⟩ := fla_own ho
  exact ⟨o, n, c, rfl, ⟨o, n, c, rfl, hf⟩, hb⟩

theorem open_floats {v : Value} {d : DataW H} {ps : List MemPlace} (hval : ∃ a len cap, v = .slice a len cap) (h : DataW.Trod enc Try.prog w 0 (fun _ => true) true 22 v d ps) :
    ∃ a len cap l, v = .slice a len cap ∧ RowF w a len cap l ∧ (∀ x ∈ l, x < 2 ^ 64) := by
  obtain ⟨a0, len0, cap0, rfl⟩ := hval
  obtain ⟨fuel, hf⟩ := h
  rcases Deep.open_slice1 Try.underlying22 (by kernel_rfl) hf with ⟨hcs, _⟩ | ⟨a, len, cap, m, n, V, D, Pl, hcs, _, hl, hm, hmm, _, hc⟩
  · simp [Value.cells] at hcs
    obtain ⟨rfl, rfl, rfl⟩ := hcs
    exact ⟨none, 0, 0, [], rfl, ⟨⟨rfl, .inl rfl⟩, fun _ => ⟨rfl, rfl⟩, Nat.le_refl _⟩, by simp⟩
  · simp [Value.cells] at hcs
    obtain ⟨rfl, rfl, rfl⟩ := hcs
    simp at hmm
    subst hmm
    have hf : ∀ i, i < m → ∃ b, V i = F b ∧ b < 2 ^ 64 := fun i hi => trod_float (hc i hi).2
    obtain ⟨z, hz⟩ := Deep.choose_lt hf
    refine ⟨_, _, _, (List.range len0).map z, rfl, ⟨⟨by simp, ?_⟩, fun e => (by cases e), hl⟩, ?_⟩
    · by_cases h0 : len0 = 0
      · exact .inl h0
      · right
        have hcc := (hc 0 (by omega)).1
        obtain ⟨b, off, spot⟩ := a
        have hspot : spot = none := by simpa [Addr.add] using World.cell?_spot hcc
        subst hspot
        refine ⟨b, off, rfl, fun k hk => ?_⟩
        have hk' : k < len0 := by simpa using hk
        have h1 := (hc k (by omega)).1
        rw [(hz k (by omega)).1] at h1
        have e : (⟨b, off, none⟩ : Addr).add k = ⟨b, off + k, none⟩ := by simp [Addr.add]
        rw [e] at h1
        rw [h1, List.getD_eq_getElem?_getD, List.getElem?_map, List.getElem?_range hk']
        rfl
    · intro x hx
      obtain ⟨i, hi, rfl⟩ := List.mem_map.1 hx
      exact (hz i (by have := List.mem_range.1 hi; omega)).2
end
end Go.Proofs.Ytajnjghbppcfdaa
