/- The document's SameRow at rows whose floats are alike. The abstract machine: the summary of SameRow is sound. The abstract machine: the summary of SameRow is sound: its contract. No condition. -/
import Derived.Test.YtdflbipaicpdcaaGreatDoorSQq
import Derived.Test.YtdflbipaicpdcaaGreatDoorSNa
import Derived.Laws.FloatArith
import Derived.WalkLawsBesides
import Derived.BigQuiet
import Derived.Test.YtdflbipaicpdcaaGreatDoorSDe
import Derived.Test.YtdflbipaicpdcaaGreatDoorSQw
set_option linter.unusedVariables false
set_option linter.unusedSimpArgs false
namespace Go.Proofs.YtdflbipaicpdcaaGreatDoor
open Go.RowKit
set_option maxRecDepth 100000

end Go.Proofs.YtdflbipaicpdcaaGreatDoor
set_option maxRecDepth 100000
namespace Go.AM
open Go Go.RowKit Go.Proofs Go.Proofs.YtdflbipaicpdcaaGreatDoor

theorem idxD_spec {nv : Nat} {fl : Nat → Option Nat} : ∀ {D : List FN}, DagOk nv fl D → ∀ (k : Nat) (t : Tr FN), k = D.length → k < 1000000000 → (∀ i x, t.get i = some x → nodeOk fl x (SYM + i)) → ∀ i x, (idxD D k t).get i = some x → nodeOk fl x (SYM + i)
  | _, .nil, k, t, _, _, ht, i, x, h => ht i x h
  | _, .cons n D hn _ hD, k, t, hk, hk2, ht, i, x, h => by
    simp only [idxD] at h
    rw [frc_eq] at h
    have e : Nat.pred k = D.length := by rw [hk]; rfl
    rw [e] at h
    refine idxD_spec hD D.length _ rfl (by simp at hk; omega) (fun i x hx => ?_) i x h
    rw [Tr.get_set 40 _ _ _ i (by simp at hk; omega)] at hx
    split at hx
    · rename_i hi
      cases hx
      rw [hi]
      exact hn
    · exact ht i x hx

end Go.AM
set_option maxRecDepth 100000
namespace Go.AM
open Go Go.RowKit Go.Proofs Go.Proofs.YtdflbipaicpdcaaGreatDoor

theorem rowF_spec {s : St} {b o n : Nat} {l : List Nat} (h : rowF s b o n = some l) : ∃ ro cells vs, s.H.get b = some (.cells 46 ro cells) ∧ cut cells o n = some vs ∧ refs vs = some l := by
  unfold rowF at h
  split at h
  case h_2 => cases h
  rename_i ty ro cells hb
  obtain ⟨h1, h⟩ := bif_some h
  rw [nbeq_true h1] at hb
  split at h
  case h_2 => cases h
  rename_i vs hvs
  exact ⟨ro, cells, vs, hb, hvs, h⟩

end Go.AM
