/- math/bits.TrailingZeros of a number above 0; Form of the program. Under: the library's table as its initialiser lays it. -/
import Derived.Test.YtaempngakollpaaDoorRows
import Derived.Test.YtaempngakollpaaDoorPl
import Derived.WalkKit
import Derived.ProofKit
import Derived.Below
import Derived.Lib.Hide
import Derived.RegionTactic
import Derived.ChangeAlike
import Derived.BigRegion
import Derived.Deep.QuietTactic
import Derived.BigQuiet
import Derived.StillTailTactics
import Derived.IntWalk
import Derived.Shelf.Spec.TrailingZeros
namespace Go.Proofs.YtaempngakollpaaDoor
open Go.RowKit Go.Shelf

/-- The table is laid. -/
def Tab (w : World) : Prop := 2 ≤ w.heap.size ∧ TabAt 1 Lib.deBruijn64tab w
theorem Tab.below {w w' : World} (h : Tab w) (hb : Below w.heap.size w w') : Tab w' := by
  refine ⟨Nat.le_trans h.1 hb.size, fun j hj => ?_⟩
  rw [hb.cell (p := ⟨1, j, none⟩) (by have := h.1; show 1 < _; omega)]
  exact h.2 j hj

set_option maxHeartbeats 1000000 in
theorem tz29 (x k idx : Nat) (w : World) (hx0 : ((x : Int) == 0) = false)
    (key : IntKind.u64.wrap (Go.bits BinOp.and IntKind.u64 (x : Int) (IntKind.u64.wrap (-(x : Int))) * 285870213051353865) / 288230376151711744 = (idx : Int))
    (hi : idx < 64) (hk : k < 64) (hcell : w.cell? ⟨1, idx, none⟩ = some (.int .u8 k)) :
    Calls Tryd.prog 29 #[.int .u64 x] w fun e w' => e = .returned (.int .i64 k) ∧ w = w' := by
  go_enter Tryd.func29, Tryd.ntmps29
  go_wp2_with (simp only [key])
  go_ret
  exact ⟨rfl, rfl⟩

theorem tz27 (x : Nat) (hx0 : x ≠ 0) (hx : x < 18446744073709551616) (w : World) (ht : Tab w) :
    Calls Tryd.prog 27 #[.int .u64 x] w fun e w' => e = .returned (.int .i64 (Lib.ctz 64 x : Nat)) ∧ w = w' := by
  obtain ⟨hlow, hk⟩ := Lib.lowest_bit 64 x hx0 hx
  obtain ⟨hi, htab⟩ := Lib.deBruijn64_at _ hk
  have key := tz64_key x _ hx hx0 hlow
  have hcell : w.cell? ⟨1, 2 ^ Lib.ctz 64 x * 285870213051353865 % 18446744073709551616 / 288230376151711744, none⟩ = some (.int .u8 (Lib.ctz 64 x : Nat)) := by
    have := ht.2 _ (show 2 ^ Lib.ctz 64 x * 285870213051353865 % 18446744073709551616 / 288230376151711744 < Lib.deBruijn64tab.length from hi)
    rw [htab] at this
    exact this
  have H := tz29 x _ _ w (by simpa using hx0) key hi hk hcell
  clear hlow hk hi htab key hcell ht
  go_enter Tryd.func27, Tryd.ntmps27
  go_wp2_with fail
  refine H.mono ?_
  rintro e w' ⟨rfl, rfl⟩
  go_wp2
  go_ret
  exact ⟨rfl, rfl⟩
end Go.Proofs.YtaempngakollpaaDoor
