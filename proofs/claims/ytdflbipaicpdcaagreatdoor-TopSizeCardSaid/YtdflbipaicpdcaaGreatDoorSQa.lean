/- bits.TrailingZeros; the first limb that is none. Under: the library's table as its initialiser lays it. Make of the program's dyadic numbers. No condition but the sizes, and the library's table. Flip, Shift, Of, Sign of the program's dyadic numbers. No condition but the sizes, and the library's table. Sign, Mul of the program's dyadic numbers. No condition but the sizes, and the library's table. Add of the program's dyadic numbers. No condition but the sizes, and the library's table. Cmp, Cut of the program's dyadic numbers. No condition but the sizes, and the library's table. -/
import Derived.Test.YtdflbipaicpdcaaGreatDoorSPf
import Derived.Test.YtdflbipaicpdcaaGreatDoorSDa
import Derived.Shelf.Spec.TrailingZeros
import Derived.Deep.DeepCutAuto
set_option linter.unusedVariables false
set_option linter.unusedSimpArgs false
namespace Go.Proofs.YtdflbipaicpdcaaGreatDoor
open Go.RowKit Go.Shelf
set_option maxRecDepth 100000

/-- The table is laid. -/
def Tab (w : World) : Prop := 3 ≤ w.heap.size ∧ TabAt 2 Lib.deBruijn64tab w
theorem Tab.below {w w' : World} (h : Tab w) (hb : Below w.heap.size w w') : Tab w' := by
  refine ⟨Nat.le_trans h.1 hb.size, fun j hj => ?_⟩
  rw [hb.cell (p := ⟨2, j, none⟩) (by have := h.1; show 2 < _; omega)]
  exact h.2 j hj

set_option maxHeartbeats 1000000 in
theorem tz155 (x k idx : Nat) (w : World) (hx0 : ((x : Int) == 0) = false)
    (key : IntKind.u64.wrap (Go.bits BinOp.and IntKind.u64 (x : Int) (IntKind.u64.wrap (-(x : Int))) * 285870213051353865) / 288230376151711744 = (idx : Int))
    (hi : idx < 64) (hk : k < 64) (hcell : w.cell? ⟨2, idx, none⟩ = some (.int .u8 k)) :
    Calls Tryz.prog 155 #[.int .u64 x] w fun e w' => e = .returned (.int .i64 k) ∧ w = w' := by
  go_enter Tryz.func155, Tryz.ntmps155
  go_wp2_with (simp only [key])
  go_ret
  exact ⟨rfl, rfl⟩

theorem ctz_tz {x : Nat} (hx0 : x ≠ 0) (hx : x < 18446744073709551616) : Lib.ctz 64 x = tz x := by
  obtain ⟨m, hm, hk⟩ := Lib.ctzFrom_spec 64 x (by omega) hx
  have e : Lib.ctz 64 x = Lib.ctzFrom 64 x := by simp [Lib.ctz, hx0]
  rw [e]
  generalize Lib.ctzFrom 64 x = c at hm
  rw [hm, Nat.mul_comm, tz_mul (by omega), tz_odd (by omega), Nat.zero_add]

theorem tz83 (x : Nat) (hx0 : x ≠ 0) (hx : x < 18446744073709551616) (w : World) (ht : Tab w) :
    Calls Tryz.prog 83 #[.int .u64 x] w fun e w' => e = .returned (.int .i64 (tz x : Nat)) ∧ w = w' := by
  obtain ⟨hlow, hk⟩ := Lib.lowest_bit 64 x hx0 hx
  obtain ⟨hi, htab⟩ := Lib.deBruijn64_at _ hk
  have key := tz64_key x _ hx hx0 hlow
  have hcell : w.cell? ⟨2, 2 ^ Lib.ctz 64 x * 285870213051353865 % 18446744073709551616 / 288230376151711744, none⟩ = some (.int .u8 (Lib.ctz 64 x : Nat)) := by
    have := ht.2 _ (show 2 ^ Lib.ctz 64 x * 285870213051353865 % 18446744073709551616 / 288230376151711744 < Lib.deBruijn64tab.length from hi)
    rw [htab] at this
    exact this
  have H := tz155 x _ _ w (by simpa using hx0) key hi hk hcell
  rw [ctz_tz hx0 hx] at H
  generalize tz x = k at H
  clear hlow hk hi htab key hcell ht
  go_enter Tryz.func83, Tryz.ntmps83
  go_wp2_with fail
  refine H.mono ?_
  rintro e w' ⟨rfl, rfl⟩
  go_wp2
  go_ret
  exact ⟨rfl, rfl⟩

theorem c_225 (x : Int) (b : Bool) (hb : (x != 0) = b) (w : World) : Calls Tryz.prog 225 #[.int .i64 x] w fun e w' => e = .returned (.bool b) ∧ w' = w := by
  go_enter Tryz.func225, Tryz.ntmps225
  go_wp2
  go_ret
  exact ⟨rfl, rfl⟩

theorem idx_none {a : Option Addr} {cap : Nat} {w : World} : Calls Tryz.prog 224 #[.slice a 0 cap, .func (.func 225) #[] #[]] w fun e w' => e = .returned (.int .i64 (-1)) ∧ w' = w := by
  go_enter Tryz.func224, Tryz.ntmps224
  go_wp2
  go_loop [8] (fun i => i = .int .i64 0) (fun _ => 0)
  case atStart => rfl
  case round =>
    subst hrel
    go_wp2
    go_ret
    exact ⟨rfl, rfl⟩

def First (n : Nat) (w : World) (e : Ending) (w' : World) : Prop := ∃ at' : Nat, e = .returned (.int .i64 at') ∧ at' < (digs n).length ∧ limb n at' ≠ 0 ∧ (∀ j, j < at' → limb n j = 0) ∧ w' = w

theorem idx_first {a : Option Addr} {len cap n : Nat} {w : World} (h : IsI w a len (digs n)) (hn : n ≠ 0) (h8 : len ≤ 5000) : Calls Tryz.prog 224 #[.slice a len cap, .func (.func 225) #[] #[]] w (First n w) := by
  have HA := Lib.hid h
  have HLA := Lib.hid h.1
  have HN := Lib.hid hn
  clear h hn
  go_enter Tryz.func224, Tryz.ntmps224
  go_wp2
  go_loop [8] (fun i => ∃ k : Nat, k ≤ len ∧ i = .int .i64 (k : Int) ∧ Hid (∀ j, j < k → limb n j = 0)) (fun i => len - (intOf i).toNat)
  case atStart => exact ⟨0, Nat.zero_le _, rfl, Lib.hid (fun j hj => by omega)⟩
  case round =>
    obtain ⟨k, hk, rfl, HZ⟩ := hrel
    have hkl : k < len := by
      apply Nat.lt_of_not_le
      intro hle
      apply HN.out
      have hl : digs n = [] := by
        apply Decidable.byContradiction
        intro hne
        have h1 := digs_ne_last n hne
        apply h1
        rw [List.getLast_eq_getElem]
        have h2 : limb n ((digs n).length - 1) = 0 := HZ.out _ (by have := List.length_pos_iff.2 hne; rw [HLA.out] at this ⊢; omega)
        rw [← digs_limb, List.getD_eq_getElem?_getD, List.getElem?_eq_getElem (by have := List.length_pos_iff.2 hne; omega)] at h2
        simpa using h2
      have := num_digs n
      rw [hl] at this
      exact this.symm
    obtain ⟨b, off, rfl, hc⟩ := isI_cell HA.out hkl
    rw [digs_limb] at hc
    obtain ⟨x, hx⟩ : ∃ x, limb n k = x := ⟨_, rfl⟩
    rw [hx] at hc
    have hki : (k : Int) < len := by omega
    by_cases hx0 : x = 0
    · subst hx0
      have HZ2 : Hid (∀ j, j < k + 1 → limb n j = 0) := Lib.hid (fun j hj => by rcases Nat.lt_or_ge j k with h | h; exact HZ.out j h; rw [show j = k by omega]; exact hx)
      clear hx
      go_wp2_with (go_at_call 225; refine (c_225 _ false (by rfl) _).mono ?_; rintro e w' ⟨rfl, rfl⟩)
      go_round
      case rel => exact ⟨k + 1, by omega, by go_num, HZ2⟩
      case measure => simp [intOf]; omega
    · have HX : Hid (limb n k ≠ 0) := Lib.hid (by rw [hx]; exact hx0)
      have hxb : ((x : Int) != 0) = true := by simp; omega
      clear hx
      go_wp2_with (go_at_call 225; refine (c_225 _ true hxb _).mono ?_; rintro e w' ⟨rfl, rfl⟩)
      go_ret
      exact ⟨k, rfl, by rw [HLA.out]; exact hkl, HX.out, HZ.out, rfl⟩

/-- noughts at the end of a number: of its first limb that is none -/
theorem tz_first {n i : Nat} (h : limb n i ≠ 0) (hz : ∀ j, j < i → limb n j = 0) : tz n = 24 * i + tz (limb n i) := by
  have hlow : low n i = 0 := by
    clear h
    induction i with
    | zero => exact low_zero n
    | succ i ih => rw [low_succ, ih (fun j hj => hz j (by omega)), hz i (by omega), Nat.mul_zero]
  have hn : n = n / W i * 2 ^ (24 * i) := by
    rw [← W_two]
    have h1 := Nat.div_add_mod n (W i)
    unfold low at hlow
    rw [hlow, Nat.add_zero, Nat.mul_comm] at h1
    exact h1.symm
  have hl := limb_lt n i
  have hm : n / W i = limb n i + 16777216 * (n / W i / 16777216) := by unfold limb; omega
  generalize limb n i = x at h hl hm ⊢
  generalize n / W i / 16777216 = r at hm
  rw [hn, hm]
  have hx := od_mul_pow x
  have hodd := od_odd h
  have ht : tz x < 24 := tz_lt h hl
  have e : x + 16777216 * r = (od x + 2 ^ (24 - tz x) * r) * 2 ^ tz x := by
    rw [Nat.add_mul, hx, Nat.mul_right_comm, ← Nat.pow_add, show 24 - tz x + tz x = 24 by omega]
  have heven : 2 ^ (24 - tz x) * r % 2 = 0 := by
    rw [show 24 - tz x = (24 - tz x - 1) + 1 by omega, Nat.pow_succ, Nat.mul_assoc, Nat.mul_left_comm]
    exact Nat.mul_mod_right _ _
  have hne : x + 16777216 * r ≠ 0 := by omega
  rw [tz_mul hne, e, tz_mul (by omega), tz_odd (by omega)]
  omega
end Go.Proofs.YtdflbipaicpdcaaGreatDoor
namespace Go.Proofs.YtdflbipaicpdcaaGreatDoor
open Go.RowKit
set_option maxRecDepth 100000

/-- a new dyadic number, in its form; its row was made above B -/
def NewD (B : Nat) (W : World) (v : Value) (z e : Int) : Prop :=
  (z = 0 ∧ v = Dv false (.slice none 0 0) 0) ∨ (z ≠ 0 ∧ ∃ s, v = Dv (decide (z < 0)) s (dE z e) ∧ FreshN B W s (dM z))
theorem NewD.isD {B : Nat} {W : World} {v : Value} {z e : Int} (h : NewD B W v z e) : IsD W v z e := by
  rcases h with ⟨rfl, rfl⟩ | ⟨h0, s, rfl, h⟩
  · exact ⟨_, by rw [dE_zero]; rfl, by rw [dM_zero]; exact isN_nil _⟩
  · exact ⟨s, rfl, h.isN⟩
theorem NewD.mono {B B' : Nat} {W : World} {v : Value} {z e : Int} (h : NewD B W v z e) (hb : B' ≤ B) : NewD B' W v z e := by
  rcases h with h | ⟨h0, s, rfl, h⟩
  · exact .inl h
  · exact .inr ⟨h0, s, rfl, h.mono hb⟩
theorem NewD.shape {B : Nat} {W : World} {v : Value} {z e : Int} (h : NewD B W v z e) : ∃ n a l c E, v = Dv n (.slice a l c) E := h.isD.shape
theorem NewD.set {B : Nat} {W : World} {v : Value} {z e : Int} (h : NewD B W v z e) {p : Addr} (hp : p.block < B) (u : Value) : NewD B (W.setCell p u) v z e := by
  rcases h with h | ⟨h0, s, rfl, h⟩
  · exact .inl h
  · exact .inr ⟨h0, s, rfl, h.set hp u⟩

def MakesZ (w : World) (z e : Int) (en : Ending) (W' : World) : Prop := ∃ v, en = .returned v ∧ NewD w.heap.size W' v z e ∧ Below w.heap.size w W'
set_option maxHeartbeats 2000000 in
theorem p_make (neg : Bool) {u : Value} {n : Nat} {e : Int} {w : World} (ht : Tab w) (hu : IsN w u n) (ha8 : (digs n).length ≤ 1600) (he1 : -1000000 ≤ e) (he2 : e ≤ 1000000) : Calls Tryz.prog 181 #[.bool neg, u, .int .i64 e] w (MakesZ w (sgz neg n) e) := by
  have HU := Lib.hid hu
  have HA8 := Lib.hid ha8
  have HTAB := Lib.hid ht
  clear ht
  obtain ⟨aa, la, ca, rfl, hA, _⟩ := hu
  have hla := hA.1
  by_cases h0 : n = 0
  · subst h0
    rw [digs_zero] at hla
    obtain rfl : 0 = la := hla
    have HZ := Lib.hid (sgz_zero neg)
    clear hA ha8
    go_enter Tryz.func181, Tryz.ntmps181
    go_wp2_with fail
    refine (idx_none).mono ?_
    rintro e w' ⟨rfl, rfl⟩
    go_wp2
    refine bodyPost_ret (v := Dv false (.slice none 0 0) 0) (by simp [results, Tryz.results181, go_sem]) rfl ⟨_, rfl, .inl ⟨HZ.out, rfl⟩, ?_⟩
    exact (Below.refl _ w).alloc (Nat.le_refl _) _
  · obtain ⟨T, hT⟩ : ∃ T, tz n = T := ⟨_, rfl⟩
    have hT8 : T ≤ 38400 := by have := tz_len h0 ha8; omega
    have H0 := Lib.hid h0
    have HT := Lib.hid hT
    have HA := Lib.hid hA
    have HLA := Lib.hid hla
    have hla8 : la ≤ 1600 := by omega
    clear hA hla hT h0 ha8
    go_enter Tryz.func181, Tryz.ntmps181
    go_wp2_with fail
    obtain ⟨w0, hw0⟩ : ∃ w0, w.alloc (Obj.cells #[Value.bool false, Value.slice none 0 0, Value.int IntKind.i64 0] 36) = w0 := ⟨_, rfl⟩
    have HB0 : Hid (Below w.heap.size w w0) := Lib.hid (by rw [← hw0]; exact (Below.refl _ w).alloc (Nat.le_refl _) _)
    have hs0 : w0.heap.size = w.heap.size + 1 := by rw [← hw0]; simp
    have BX0 : Hid (Box w0 w.heap.size) := Lib.hid (by rw [← hw0]; exact box_alloc w)
    have HU0 : Hid (IsN w0 (.slice aa la ca) n) := Lib.hid (HU.out.below HB0.out)
    have HA0 : Hid (IsI w0 aa la (digs n)) := Lib.hid (HA.out.below HB0.out)
    have HTB0 := Lib.hid (HTAB.out.below HB0.out)
    have HS0 := Lib.hid hs0
    rw [hw0]
    clear hw0 hs0 HA HU
    refine (idx_first HA0.out H0.out (by omega)).mono ?_
    rintro e1 w1 ⟨i, rfl, hi, hi0, hiz, rfl⟩
    rw [HLA.out] at hi
    obtain ⟨ba, offa, rfl, ca1⟩ := isI_cell HA0.out hi
    rw [digs_limb] at ca1
    have htz := tz_first hi0 hiz
    have hx := limb_lt n i
    obtain ⟨x, hxx⟩ : ∃ x, limb n i = x := ⟨_, rfl⟩
    rw [hxx] at ca1 htz hx hi0
    rw [HT.out] at htz
    obtain ⟨y, hy⟩ : ∃ y, tz x = y := ⟨_, rfl⟩
    rw [hy] at htz
    have hii : (i : Int) < la := by omega
    have hi1 : ¬ (i : Int) < 0 := by omega
    have hx00 : (0 : Int) ≤ x := by omega
    have hxi : (x : Int) ≤ 16777215 := by omega
    have HTI : Hid ((i : Int) * 24 + y = (T : Int)) := Lib.hid (by omega)
    have hi8 : (i : Int) ≤ 1600 := by omega
    have hyi : (y : Int) ≤ 38400 := by omega
    have HTZ := Lib.hid (tz83 x hi0 (by omega) w1 HTB0.out)
    rw [hy] at HTZ
    clear hiz htz hx hxx hi0 hy
    go_wp2_with fail
    refine HTZ.out.mono ?_
    rintro e2 w2 ⟨rfl, rfl⟩
    clear HTZ
    have hTi := HTI.out
    go_wp2_with fail
    refine (p_shr_f HU0.out (by have := HA8.out; omega) T (by omega)).mono ?_
    rintro e3 w3 ⟨v, rfl, hv, hb⟩
    have HV := Lib.hid hv
    have HB3 := Lib.hid hb
    obtain ⟨a2, l2, c2, rfl⟩ := hv.isN.slice
    have BX := Lib.hid (BX0.out.below hb (by rw [HS0.out]; omega))
    clear hv hb
    obtain ⟨c0, c1, c2', _, f0, f1, f2⟩ := BX.out
    have HE : Hid (dE (sgz neg n) e = e + T) := Lib.hid (by unfold dE; rw [if_neg (sgz_ne H0.out), sgz_natAbs, HT.out])
    have HM : Hid (dM (sgz neg n) = n / 2 ^ T) := Lib.hid (by unfold dM od; rw [sgz_natAbs, HT.out])
    have HN : Hid (decide (sgz neg n < 0) = neg) := Lib.hid (sgz_neg H0.out)
    have HNE : Hid (sgz neg n ≠ 0) := Lib.hid (sgz_ne H0.out)
    have HBw := Lib.hid (HB0.out.trans (HB3.out.mono HB0.out.size))
    go_wp2
    refine bodyPost_ret (v := Dv neg (.slice a2 l2 c2) (e + T)) (by simp [results, Tryz.results181, go_sem, c0, c1, c2']) rfl ⟨_, rfl, .inr ⟨HNE.out, .slice a2 l2 c2, by rw [HN.out, HE.out], ?_⟩, ?_⟩
    · rw [HM.out]
      have h1 : w.heap.size < w1.heap.size := by rw [HS0.out]; omega
      exact (((HV.out.set (p := ⟨w.heap.size, 0, none⟩) h1 _).set (p := ⟨w.heap.size, 1, none⟩) h1 _).set (p := ⟨w.heap.size, 2, none⟩) h1 _).mono (Nat.le_of_lt h1)
    · exact ((HBw.out.setCell (by simp) _).setCell (by simp) _).setCell (by simp) _
end Go.Proofs.YtdflbipaicpdcaaGreatDoor
namespace Go.Proofs.YtdflbipaicpdcaaGreatDoor
open Go.RowKit
set_option maxRecDepth 100000

theorem NewD.to {B : Nat} {W : World} {v : Value} {x f z e : Int} (h : NewD B W v x f) (k : Nat) (hk : e + k = f) (hz : x * ((2 ^ k : Nat) : Int) = z) : NewD B W v z e := by
  have h1 : dM z = dM x := by rw [← hz, dM_mul]
  have h2 : dE z e = dE x f := by rw [← hz, dE_mul, hk]
  have h3 : z = 0 ↔ x = 0 := by rw [← hz]; exact mul_pow_zero x k
  have h4 : decide (z < 0) = decide (x < 0) := by rw [← hz]; exact decide_eq_decide.2 (mul_pow_neg x k)
  rcases h with ⟨h0, rfl⟩ | ⟨h0, s, rfl, h⟩
  · exact .inl ⟨h3.2 h0, rfl⟩
  · exact .inr ⟨fun e => h0 (h3.1 e), s, by rw [h4, h2], by rw [h1]; exact h⟩
theorem NewD.zero {B : Nat} {W : World} {v : Value} {e : Int} (e' : Int) (h : NewD B W v 0 e) : NewD B W v 0 e' := by
  rcases h with ⟨_, rfl⟩ | ⟨h0, _⟩
  · exact .inl ⟨rfl, rfl⟩
  · exact absurd rfl h0
theorem NewD.made {B : Nat} {W : World} {v : Value} {z e k : Int} (h : NewD B W v (sgz (decide (z < 0)) (dM z)) (dE z e + k)) : NewD B W v z (e + k) := by
  by_cases h0 : z = 0
  · subst h0
    rw [dM_zero, sgz_zero] at h
    exact h.zero _
  · refine h.to (tz z.natAbs) ?_ (z_canon z)
    unfold dE; rw [if_neg h0]; omega

set_option maxHeartbeats 1000000 in
theorem p_shift {v : Value} {z e : Int} {w : World} (ht : Tab w) (hv : IsD w v z e) (hz : Sz z) (k : Int) (he1 : -100000 ≤ e) (he2 : e ≤ 100000) (hk1 : -100000 ≤ k) (hk2 : k ≤ 100000) : Calls Tryz.prog 127 #[v, .int .i64 k] w (MakesZ w z (e + k)) := by
  have HMD : Hid (∀ B W u, NewD B W u (sgz (decide (z < 0)) (dM z)) (dE z e + k) → NewD B W u z (e + k)) := Lib.hid (fun _ _ _ => NewD.made)
  obtain ⟨hE1, hE2⟩ := hz.dE he1 he2
  have HX8 : Hid ((digs (dM z)).length ≤ 1600) := Lib.hid (Nat.le_trans hz.dM (by decide))
  obtain ⟨a, l, c, rfl, hl, hs⟩ := hv.parts
  have HS := Lib.hid hs
  have HT := Lib.hid ht
  obtain ⟨E, hE⟩ : ∃ E, dE z e = E := ⟨_, rfl⟩
  obtain ⟨neg, hneg⟩ : ∃ neg, decide (z < 0) = neg := ⟨_, rfl⟩
  rw [hE, hneg] at HMD
  rw [hE] at hE1 hE2 ⊢
  rw [hneg]
  clear hs hl hE hneg hv hz ht
  go_enter Tryz.func127, Tryz.ntmps127
  go_wp2_with fail
  obtain ⟨w0, hw0⟩ : ∃ w0, ((w.alloc (Obj.cells #[Value.bool neg, Value.slice a l c, Value.int IntKind.i64 E] 36)).alloc (Obj.cells #[Value.bool false, Value.slice none 0 0, Value.int IntKind.i64 0] 36)) = w0 := ⟨_, rfl⟩
  have HB0 : Hid (Below w.heap.size w w0) := Lib.hid (by rw [← hw0]; exact ((Below.refl _ w).alloc (Nat.le_refl _) _).alloc (by simp) _)
  have hs0 : w0.heap.size = w.heap.size + 1 + 1 := by rw [← hw0]; simp
  have BX0 : Hid (Box w0 (w.heap.size + 1)) := Lib.hid (by have := box_alloc (w.alloc (Obj.cells #[Value.bool neg, Value.slice a l c, Value.int IntKind.i64 E] 36)); rw [show boxed _ = w0 from hw0] at this; simpa using this)
  have HS0 := Lib.hid hs0
  rw [hw0]
  clear hw0 hs0
  refine (p_make neg (HT.out.below HB0.out) (HS.out.below HB0.out) HX8.out (by omega) (by omega)).mono ?_
  rintro e1 w1 ⟨v1, rfl, hv1, hb1⟩
  obtain ⟨n1, a1, l1, k1, E1, rfl⟩ := hv1.shape
  have HV := Lib.hid (HMD.out _ _ _ hv1)
  have HBw := Lib.hid (HB0.out.trans (hb1.mono HB0.out.size))
  have BX := Lib.hid (BX0.out.below hb1 (by rw [HS0.out]; omega))
  obtain ⟨c0, c1, c2, _, f0, f1, f2⟩ := BX.out
  clear hv1 hb1
  go_wp2
  have h1 : w.heap.size + 1 < w0.heap.size := by rw [HS0.out]; omega
  refine bodyPost_ret (v := Dv n1 (.slice a1 l1 k1) E1) (by simp [results, Tryz.results127, go_sem, c0, c1, c2]) rfl ⟨_, rfl, ?_, Box.keepB HBw.out (by omega) _ _ _⟩
  exact (((HV.out.set (p := ⟨w.heap.size + 1, 0, none⟩) h1 _).set (p := ⟨w.heap.size + 1, 1, none⟩) h1 _).set (p := ⟨w.heap.size + 1, 2, none⟩) h1 _).mono (by omega)

theorem NewD.flip {B : Nat} {W : World} {v : Value} {z e : Int} (h : NewD B W v (sgz (!decide (z < 0)) (dM z)) (dE z e)) : NewD B W v (-z) e := by
  by_cases h0 : z = 0
  · subst h0
    rw [dM_zero, sgz_zero] at h
    exact h.zero _
  · have e1 : (!decide (z < 0)) = decide (-z < 0) := by
      rw [← decide_not]; exact decide_eq_decide.2 (by omega)
    rw [e1, ← dM_neg, ← dE_neg, ← Int.add_zero (dE (-z) e)] at h
    have := NewD.made h
    rwa [Int.add_zero] at this

set_option maxHeartbeats 1000000 in
theorem p_flip {v : Value} {z e : Int} {w : World} (ht : Tab w) (hv : IsD w v z e) (hz : Sz z) (he1 : -100000 ≤ e) (he2 : e ≤ 100000) : Calls Tryz.prog 129 #[v] w (MakesZ w (-z) e) := by
  have HMD : Hid (∀ B W u, NewD B W u (sgz (!decide (z < 0)) (dM z)) (dE z e) → NewD B W u (-z) e) := Lib.hid (fun _ _ _ => NewD.flip)
  obtain ⟨hE1, hE2⟩ := hz.dE he1 he2
  have HX8 : Hid ((digs (dM z)).length ≤ 1600) := Lib.hid (Nat.le_trans hz.dM (by decide))
  obtain ⟨a, l, c, rfl, hl, hs⟩ := hv.parts
  have HS := Lib.hid hs
  have HT := Lib.hid ht
  obtain ⟨E, hE⟩ : ∃ E, dE z e = E := ⟨_, rfl⟩
  obtain ⟨neg, hneg⟩ : ∃ neg, decide (z < 0) = neg := ⟨_, rfl⟩
  rw [hE, hneg] at HMD
  rw [hE] at hE1 hE2 ⊢
  rw [hneg]
  clear hs hl hE hneg hv hz ht
  go_enter Tryz.func129, Tryz.ntmps129
  go_wp2_with fail
  obtain ⟨w0, hw0⟩ : ∃ w0, ((w.alloc (Obj.cells #[Value.bool neg, Value.slice a l c, Value.int IntKind.i64 E] 36)).alloc (Obj.cells #[Value.bool false, Value.slice none 0 0, Value.int IntKind.i64 0] 36)) = w0 := ⟨_, rfl⟩
  have HB0 : Hid (Below w.heap.size w w0) := Lib.hid (by rw [← hw0]; exact ((Below.refl _ w).alloc (Nat.le_refl _) _).alloc (by simp) _)
  have hs0 : w0.heap.size = w.heap.size + 1 + 1 := by rw [← hw0]; simp
  have BX0 : Hid (Box w0 (w.heap.size + 1)) := Lib.hid (by have := box_alloc (w.alloc (Obj.cells #[Value.bool neg, Value.slice a l c, Value.int IntKind.i64 E] 36)); rw [show boxed _ = w0 from hw0] at this; simpa using this)
  have HS0 := Lib.hid hs0
  rw [hw0]
  clear hw0 hs0
  refine (p_make (!neg) (HT.out.below HB0.out) (HS.out.below HB0.out) HX8.out (by omega) (by omega)).mono ?_
  rintro e1 w1 ⟨v1, rfl, hv1, hb1⟩
  obtain ⟨n1, a1, l1, k1, E1, rfl⟩ := hv1.shape
  have HV := Lib.hid (HMD.out _ _ _ hv1)
  have HBw := Lib.hid (HB0.out.trans (hb1.mono HB0.out.size))
  have BX := Lib.hid (BX0.out.below hb1 (by rw [HS0.out]; omega))
  obtain ⟨c0, c1, c2, _, f0, f1, f2⟩ := BX.out
  clear hv1 hb1
  go_wp2
  have h1 : w.heap.size + 1 < w0.heap.size := by rw [HS0.out]; omega
  refine bodyPost_ret (v := Dv n1 (.slice a1 l1 k1) E1) (by simp [results, Tryz.results129, go_sem, c0, c1, c2]) rfl ⟨_, rfl, ?_, Box.keepB HBw.out (by omega) _ _ _⟩
  exact (((HV.out.set (p := ⟨w.heap.size + 1, 0, none⟩) h1 _).set (p := ⟨w.heap.size + 1, 1, none⟩) h1 _).set (p := ⟨w.heap.size + 1, 2, none⟩) h1 _).mono (by omega)

set_option maxHeartbeats 1000000 in
theorem p_dof {n : Nat} {w : World} (ht : Tab w) (hn : n < 4000000000000000000) : Calls Tryz.prog 126 #[.int .i64 n] w (MakesZ w n 0) := by
  have HT := Lib.hid ht
  have HX8 : Hid ((digs n).length ≤ 1600) := Lib.hid (Nat.le_trans (digs_len_le' (k := 3) (by have : W 3 = 4722366482869645213696 := rfl; omega)) (by decide))
  have HN : Hid (sgz false n = (n : Int)) := Lib.hid (by unfold sgz; simp)
  have hn0 : ¬ (n : Int) < 0 := by omega
  have hn1 : ¬ (n : Int) < -n := by omega
  have hn2 : -(n : Int) ≤ n := by omega
  have hn3 : (0 : Int) ≤ n := by omega
  have hn4 : (n : Int) ≤ 4000000000000000000 := by omega
  have HO := Lib.hid (p_of n (by omega))
  clear ht
  go_enter Tryz.func126, Tryz.ntmps126
  go_wp2_with fail
  rw [show max (n : Int) (-(n : Int)) = n by omega]
  obtain ⟨w0, hw0⟩ : ∃ w0, w.alloc (Obj.cells #[Value.bool false, Value.slice none 0 0, Value.int IntKind.i64 0] 36) = w0 := ⟨_, rfl⟩
  have HB0 : Hid (Below w.heap.size w w0) := Lib.hid (by rw [← hw0]; exact (Below.refl _ w).alloc (Nat.le_refl _) _)
  have hs0 : w0.heap.size = w.heap.size + 1 := by rw [← hw0]; simp
  have BX0 : Hid (Box w0 w.heap.size) := Lib.hid (by rw [← hw0]; exact box_alloc w)
  have HS0 := Lib.hid hs0
  rw [hw0]
  clear hw0 hs0
  refine (HO.out w0).mono ?_
  rintro e1 w1 ⟨v1, rfl, hv1, hb1⟩
  have HV1 := Lib.hid hv1
  have HB1 := Lib.hid hb1
  clear hv1 hb1
  go_wp2_with fail
  refine (p_make false (HT.out.below (HB0.out.trans (HB1.out.mono HB0.out.size))) HV1.out HX8.out (by omega) (by omega)).mono ?_
  rw [HN.out]
  rintro e2 w2 ⟨v2, rfl, hv2, hb2⟩
  obtain ⟨n1, a1, l1, k1, E1, rfl⟩ := hv2.shape
  have HV := Lib.hid hv2
  have HB2 := Lib.hid (HB1.out.trans (hb2.mono HB1.out.size))
  have HBw := Lib.hid (HB0.out.trans (HB2.out.mono HB0.out.size))
  have BX := Lib.hid (BX0.out.below HB2.out (by rw [HS0.out]; omega))
  obtain ⟨c0, c1, c2, _, f0, f1, f2⟩ := BX.out
  have hs1 := HB1.out.size
  clear hv2 hb2
  go_wp2
  have h1 : w.heap.size < w1.heap.size := by have := HS0.out; omega
  refine bodyPost_ret (v := Dv n1 (.slice a1 l1 k1) E1) (by simp [results, Tryz.results126, go_sem, c0, c1, c2]) rfl ⟨_, rfl, ?_, Box.keepB HBw.out (Nat.le_refl _) _ _ _⟩
  exact (((HV.out.set (p := ⟨w.heap.size, 0, none⟩) h1 _).set (p := ⟨w.heap.size, 1, none⟩) h1 _).set (p := ⟨w.heap.size, 2, none⟩) h1 _).mono (by omega)

/-- is a number 0? -/
theorem c_zero (neg : Bool) (a : Option Addr) (l c : Nat) (E : Int) (b : Bool) (hb : ((l : Int) == 0) = b) (w : World) : Calls Tryz.prog 179 #[.agg #[.bool neg, .slice a l c, .int .i64 E]] w fun e w' => e = .returned (.bool b) ∧ Below w.heap.size w w' := by
  go_enter Tryz.func179, Tryz.ntmps179
  go_wp2
  go_ret
  exact ⟨rfl, (Below.refl _ _).alloc (Nat.le_refl _) _⟩
end Go.Proofs.YtdflbipaicpdcaaGreatDoor
namespace Go.Proofs.YtdflbipaicpdcaaGreatDoor
open Go.RowKit
set_option maxRecDepth 100000

set_option maxHeartbeats 1000000 in
theorem p_sign {v : Value} {z e : Int} {w : World} (hv : IsD w v z e) : Calls Tryz.prog 128 #[v] w (Gets w (cmpv z 0)) := by
  obtain ⟨a, l, c, rfl, hl, hs⟩ := hv.parts
  obtain ⟨E, hE⟩ : ∃ E, dE z e = E := ⟨_, rfl⟩
  rw [hE]
  obtain ⟨b, hb⟩ : ∃ b, ((l : Int) == 0) = b := ⟨_, rfl⟩
  have HZ := Lib.hid (fun w => c_zero (decide (z < 0)) a l c E b hb w)
  have hlz : (l : Int) = 0 ↔ z = 0 := by
    rw [← hl]
    constructor
    · intro h
      have h1 : dM z = 0 := digs_len_zero.1 (by omega)
      exact dM_eq_zero.1 h1
    · intro h; subst h; rw [dM_zero, digs_zero]; rfl
  rcases Int.lt_trichotomy z 0 with h | h | h
  · have HC := Lib.hid (cmpv_lt h)
    have hn : decide (z < 0) = true := decide_eq_true h
    have hb2 : b = false := by rw [← hb]; apply beq_false_of_ne; intro h0; have := hlz.1 h0; omega
    rw [hn] at HZ ⊢
    subst hb2
    clear hlz hb h hn hs hl hE hv
    go_enter Tryz.func128, Tryz.ntmps128
    go_wp2_with fail
    refine (HZ.out _).mono ?_
    rintro e1 w1 ⟨rfl, hb1⟩
    have HB1 := Lib.hid ((((Below.refl _ w).alloc (Nat.le_refl _) _).alloc (by simp) _).trans (hb1.mono (by simp; omega)))
    obtain ⟨hc, hf⟩ : (∀ b o, b < w.heap.size + 1 + 1 → w1.cell? ⟨b, o, none⟩ = ((w.alloc (Obj.cells #[Value.bool true, Value.slice a l c, Value.int IntKind.i64 E] 36)).alloc (Obj.cells #[Value.bool true, Value.slice a l c, Value.int IntKind.i64 E] 225)).cell? ⟨b, o, none⟩) ∧ True := ⟨fun b o h => hb1.cell (p := ⟨b, o, none⟩) (by simpa using h), trivial⟩
    have c0 : w1.cell? ⟨w.heap.size + 1, 0, none⟩ = some (.bool true) := by rw [hc _ _ (by omega)]; simp [go_sem]
    clear hc hf hb1
    go_wp2
    go_ret
    exact ⟨by rw [HC.out] <;> rfl, HB1.out⟩
  · have HC := Lib.hid (cmpv_eq h)
    have hb2 : b = true := by rw [← hb, hlz.2 h]; rfl
    subst hb2
    clear hlz hb hs hl hE hv
    generalize decide (z < 0) = neg at *
    clear h
    go_enter Tryz.func128, Tryz.ntmps128
    go_wp2_with fail
    refine (HZ.out _).mono ?_
    rintro e1 w1 ⟨rfl, hb1⟩
    have HB1 := Lib.hid ((((Below.refl _ w).alloc (Nat.le_refl _) _).alloc (by simp) _).trans (hb1.mono (by simp; omega)))
    clear hb1
    go_wp2
    go_ret
    exact ⟨by rw [HC.out] <;> rfl, HB1.out⟩
  · have HC := Lib.hid (cmpv_gt h)
    have hn : decide (z < 0) = false := decide_eq_false (by omega)
    have hb2 : b = false := by rw [← hb]; apply beq_false_of_ne; intro h0; have := hlz.1 h0; omega
    rw [hn] at HZ ⊢
    subst hb2
    clear hlz hb h hn hs hl hE hv
    go_enter Tryz.func128, Tryz.ntmps128
    go_wp2_with fail
    refine (HZ.out _).mono ?_
    rintro e1 w1 ⟨rfl, hb1⟩
    have HB1 := Lib.hid ((((Below.refl _ w).alloc (Nat.le_refl _) _).alloc (by simp) _).trans (hb1.mono (by simp; omega)))
    obtain ⟨hc, hf⟩ : (∀ b o, b < w.heap.size + 1 + 1 → w1.cell? ⟨b, o, none⟩ = ((w.alloc (Obj.cells #[Value.bool false, Value.slice a l c, Value.int IntKind.i64 E] 36)).alloc (Obj.cells #[Value.bool false, Value.slice a l c, Value.int IntKind.i64 E] 225)).cell? ⟨b, o, none⟩) ∧ True := ⟨fun b o h => hb1.cell (p := ⟨b, o, none⟩) (by simpa using h), trivial⟩
    have c0 : w1.cell? ⟨w.heap.size + 1, 0, none⟩ = some (.bool false) := by rw [hc _ _ (by omega)]; simp [go_sem]
    clear hc hf hb1
    go_wp2
    go_ret
    exact ⟨by rw [HC.out] <;> rfl, HB1.out⟩
theorem NewD.mulMade {B : Nat} {W : World} {v : Value} {x y e f : Int} (h : NewD B W v (sgz (decide (x < 0) != decide (y < 0)) (dM x * dM y)) (dE x e + dE y f)) : NewD B W v (x * y) (e + f) := by
  by_cases hx : x = 0
  · subst hx
    rw [dM_zero, Nat.zero_mul, sgz_zero] at h
    rw [Int.zero_mul]
    exact h.zero _
  · by_cases hy : y = 0
    · subst hy
      rw [dM_zero, Nat.mul_zero, sgz_zero] at h
      rw [Int.mul_zero]
      exact h.zero _
    · refine h.to (tz x.natAbs + tz y.natAbs) ?_ ?_
      · unfold dE; rw [if_neg hx, if_neg hy]; omega
      · rw [Nat.pow_add, sgz_mulmul, z_canon, z_canon]

set_option maxHeartbeats 2000000 in
theorem p_dmul {u v : Value} {x y e f : Int} {w : World} (ht : Tab w) (hu : IsD w u x e) (hv : IsD w v y f) (hx : Sz x) (hy : Sz y) (hxy : Sz (x * y)) (he1 : -100000 ≤ e) (he2 : e ≤ 100000) (hf1 : -100000 ≤ f) (hf2 : f ≤ 100000) : Calls Tryz.prog 124 #[u, v] w (MakesZ w (x * y) (e + f)) := by
  have HTAB := Lib.hid ht
  have HMD : Hid (∀ B W z, NewD B W z (sgz (decide (x < 0) != decide (y < 0)) (dM x * dM y)) (dE x e + dE y f) → NewD B W z (x * y) (e + f)) := Lib.hid (fun _ _ _ => NewD.mulMade)
  clear ht
  obtain ⟨hE1, hE2⟩ := hx.dE he1 he2
  obtain ⟨hF1, hF2⟩ := hy.dE hf1 hf2
  have HX8 : Hid ((digs (dM x)).length ≤ 2000) := Lib.hid (Nat.le_trans hx.dM (by decide))
  have HY8 : Hid ((digs (dM y)).length ≤ 2000) := Lib.hid (Nat.le_trans hy.dM (by decide))
  have HXY8 : Hid ((digs (dM x * dM y)).length ≤ 1600) := Lib.hid (Nat.le_trans (Nat.le_trans (digs_mono (by rw [Int.natAbs_mul]; exact Nat.mul_le_mul (od_le _) (od_le _))) hxy) (by decide))
  obtain ⟨a, l, c, rfl, hl, hs⟩ := hu.parts
  obtain ⟨a', l', c', rfl, hl', hs'⟩ := hv.parts
  have HS := Lib.hid hs
  have HS' := Lib.hid hs'
  obtain ⟨E, hE⟩ : ∃ E, dE x e = E := ⟨_, rfl⟩
  obtain ⟨F, hF⟩ : ∃ F, dE y f = F := ⟨_, rfl⟩
  obtain ⟨neg, hneg⟩ : ∃ neg, decide (x < 0) = neg := ⟨_, rfl⟩
  obtain ⟨neg', hneg'⟩ : ∃ neg', decide (y < 0) = neg' := ⟨_, rfl⟩
  rw [hE, hF, hneg, hneg'] at HMD
  rw [hE] at hE1 hE2 ⊢
  rw [hF] at hF1 hF2 ⊢
  rw [hneg, hneg']
  clear hs hs' hl hl' hE hF hneg hneg' hu hv hx hy hxy
  have hwr : IntKind.i64.wrap (E + F) = E + F := by rw [IntKind.wrap_i64]; omega
  go_enter Tryz.func124, Tryz.ntmps124
  go_wp2_with fail
  obtain ⟨w0, hw0⟩ : ∃ w0, ((w.alloc (Obj.cells #[Value.bool neg, Value.slice a l c, Value.int IntKind.i64 E] 36)).alloc (Obj.cells #[Value.bool neg', Value.slice a' l' c', Value.int IntKind.i64 F] 36)).alloc (Obj.cells #[Value.bool false, Value.slice none 0 0, Value.int IntKind.i64 0] 36) = w0 := ⟨_, rfl⟩
  have HB0 : Hid (Below w.heap.size w w0) := Lib.hid (by rw [← hw0]; exact (((Below.refl _ w).alloc (Nat.le_refl _) _).alloc (by simp) _).alloc (by simp <;> omega) _)
  have HBX0 : Hid (Box w0 (w.heap.size + 1 + 1)) := Lib.hid (by have := box_alloc ((w.alloc (Obj.cells #[Value.bool neg, Value.slice a l c, Value.int IntKind.i64 E] 36)).alloc (Obj.cells #[Value.bool neg', Value.slice a' l' c', Value.int IntKind.i64 F] 36)); rw [show boxed _ = w0 from hw0] at this; simpa using this)
  have HS0 : Hid (w0.heap.size = w.heap.size + 3) := Lib.hid (by rw [← hw0]; simp)
  have A0 : Hid (w0.cell? ⟨w.heap.size, 0, none⟩ = some (.bool neg)) := Lib.hid (by rw [← hw0]; simp [go_sem])
  have A1 : Hid (w0.cell? ⟨w.heap.size, 1, none⟩ = some (.slice a l c)) := Lib.hid (by rw [← hw0]; simp [go_sem])
  have A2 : Hid (w0.cell? ⟨w.heap.size, 2, none⟩ = some (.int .i64 E)) := Lib.hid (by rw [← hw0]; simp [go_sem])
  have B0 : Hid (w0.cell? ⟨w.heap.size + 1, 0, none⟩ = some (.bool neg')) := Lib.hid (by rw [← hw0]; simp [go_sem])
  have B1 : Hid (w0.cell? ⟨w.heap.size + 1, 1, none⟩ = some (.slice a' l' c')) := Lib.hid (by rw [← hw0]; simp [go_sem])
  have B2 : Hid (w0.cell? ⟨w.heap.size + 1, 2, none⟩ = some (.int .i64 F)) := Lib.hid (by rw [← hw0]; simp [go_sem])
  rw [hw0]
  clear hw0
  refine wp_region_still (S := Below (w.heap.size + 1 + 1) w0) (by kernel_rfl) ?_
  have hS0 : Below (w.heap.size + 1 + 1) w0 w0.drew := (Below.refl _ w0).drew
  refine wpAnyR_take (i := 0) rfl (by kernel_rfl) (by kernel_rfl) (by kernel_rfl) (fun _ _ _ h => h) hS0 (.inl ⟨by kernel_rfl, fun w' hS => (by have yA0 := cell_at hS (by omega) A0.out; have yA1 := cell_at hS (by omega) A1.out; have yA2 := cell_at hS (by omega) A2.out; have yB0 := cell_at hS (by omega) B0.out; have yB1 := cell_at hS (by omega) B1.out; have yB2 := cell_at hS (by omega) B2.out; go_simp; exact ⟨rfl, rfl⟩)⟩) rfl (by go_simp; rfl) ?_
  refine wpAnyR_take (i := 1) rfl (by kernel_rfl) (by kernel_rfl) (by kernel_rfl) (fun _ _ _ h => h) hS0 (.inl ⟨by kernel_rfl, fun w' hS => (by have yA0 := cell_at hS (by omega) A0.out; have yA1 := cell_at hS (by omega) A1.out; have yA2 := cell_at hS (by omega) A2.out; have yB0 := cell_at hS (by omega) B0.out; have yB1 := cell_at hS (by omega) B1.out; have yB2 := cell_at hS (by omega) B2.out; go_simp; exact ⟨rfl, rfl⟩)⟩) rfl (by go_simp; rfl) ?_
  refine wpAnyR_take (i := 2) rfl (by kernel_rfl) (by kernel_rfl) (by kernel_rfl) (fun _ _ _ h => h) hS0 (.inl ⟨by kernel_rfl, fun w' hS => (by have yA0 := cell_at hS (by omega) A0.out; have yA1 := cell_at hS (by omega) A1.out; have yA2 := cell_at hS (by omega) A2.out; have yB0 := cell_at hS (by omega) B0.out; have yB1 := cell_at hS (by omega) B1.out; have yB2 := cell_at hS (by omega) B2.out; go_simp; exact ⟨rfl, rfl⟩)⟩) rfl (by go_simp; rfl) ?_
  refine wpAnyR_take (i := 3) rfl (by kernel_rfl) (by kernel_rfl) (by kernel_rfl) (fun _ _ _ h => h) hS0 (.inl ⟨by kernel_rfl, fun w' hS => (by have yA0 := cell_at hS (by omega) A0.out; have yA1 := cell_at hS (by omega) A1.out; have yA2 := cell_at hS (by omega) A2.out; have yB0 := cell_at hS (by omega) B0.out; have yB1 := cell_at hS (by omega) B1.out; have yB2 := cell_at hS (by omega) B2.out; go_simp; exact ⟨rfl, rfl⟩)⟩) rfl (by go_simp; rfl) ?_
  refine wpAnyR_take (i := 4) rfl (by kernel_rfl) (by kernel_rfl) (by kernel_rfl) (fun _ _ _ h => h) hS0 (.inl ⟨by kernel_rfl, fun w' hS => (by have yA0 := cell_at hS (by omega) A0.out; have yA1 := cell_at hS (by omega) A1.out; have yA2 := cell_at hS (by omega) A2.out; have yB0 := cell_at hS (by omega) B0.out; have yB1 := cell_at hS (by omega) B1.out; have yB2 := cell_at hS (by omega) B2.out; go_simp; exact ⟨rfl, rfl⟩)⟩) rfl (by go_simp; rfl) ?_
  refine wpAnyR_take (i := 5) rfl (by kernel_rfl) (by kernel_rfl) (by kernel_rfl) (fun _ _ _ h => h) hS0 (.inl ⟨by kernel_rfl, fun w' hS => (by have yA0 := cell_at hS (by omega) A0.out; have yA1 := cell_at hS (by omega) A1.out; have yA2 := cell_at hS (by omega) A2.out; have yB0 := cell_at hS (by omega) B0.out; have yB1 := cell_at hS (by omega) B1.out; have yB2 := cell_at hS (by omega) B2.out; go_simp; exact ⟨rfl, rfl⟩)⟩) rfl (by go_simp; rfl) ?_
  refine wpAnyR_take (i := 6) rfl (by kernel_rfl) (by kernel_rfl) (by kernel_rfl) (fun _ _ _ h => h) hS0 (.inl ⟨by kernel_rfl, fun w' hS => (by have yA0 := cell_at hS (by omega) A0.out; have yA1 := cell_at hS (by omega) A1.out; have yA2 := cell_at hS (by omega) A2.out; have yB0 := cell_at hS (by omega) B0.out; have yB1 := cell_at hS (by omega) B1.out; have yB2 := cell_at hS (by omega) B2.out; go_simp; exact ⟨rfl, rfl⟩)⟩) rfl (by go_simp; rfl) ?_
  refine wpAnyR_take (i := 7) rfl (by kernel_rfl) (by kernel_rfl) (by kernel_rfl) (fun _ _ _ h => h) hS0 (.inl ⟨by kernel_rfl, fun w' hS => (by have yA0 := cell_at hS (by omega) A0.out; have yA1 := cell_at hS (by omega) A1.out; have yA2 := cell_at hS (by omega) A2.out; have yB0 := cell_at hS (by omega) B0.out; have yB1 := cell_at hS (by omega) B1.out; have yB2 := cell_at hS (by omega) B2.out; go_simp; exact ⟨rfl, rfl⟩)⟩) rfl (by go_simp; rfl) ?_
  refine wpAnyR_take (i := 8) rfl (by kernel_rfl) (by kernel_rfl) (by kernel_rfl) (fun _ _ _ h => h) hS0 (.inl ⟨by kernel_rfl, fun w' hS => (by have yA0 := cell_at hS (by omega) A0.out; have yA1 := cell_at hS (by omega) A1.out; have yA2 := cell_at hS (by omega) A2.out; have yB0 := cell_at hS (by omega) B0.out; have yB1 := cell_at hS (by omega) B1.out; have yB2 := cell_at hS (by omega) B2.out; go_simp; exact ⟨rfl, rfl⟩)⟩) rfl (by go_simp; rfl) ?_
  refine wpAnyR_take (i := 10) rfl (by kernel_rfl) (by kernel_rfl) (by kernel_rfl) (fun _ _ _ h => h) hS0 (.inl ⟨by kernel_rfl, fun w' hS => (by have yA0 := cell_at hS (by omega) A0.out; have yA1 := cell_at hS (by omega) A1.out; have yA2 := cell_at hS (by omega) A2.out; have yB0 := cell_at hS (by omega) B0.out; have yB1 := cell_at hS (by omega) B1.out; have yB2 := cell_at hS (by omega) B2.out; go_simp; exact ⟨rfl, rfl⟩)⟩) rfl (by go_simp; rfl) ?_
  refine wpAnyR_take (i := 11) rfl (by kernel_rfl) (by kernel_rfl) (by kernel_rfl) (fun _ _ _ h => h) hS0 (.inl ⟨by kernel_rfl, fun w' hS => (by have yA0 := cell_at hS (by omega) A0.out; have yA1 := cell_at hS (by omega) A1.out; have yA2 := cell_at hS (by omega) A2.out; have yB0 := cell_at hS (by omega) B0.out; have yB1 := cell_at hS (by omega) B1.out; have yB2 := cell_at hS (by omega) B2.out; go_simp; exact ⟨rfl, rfl⟩)⟩) rfl (by go_simp; rfl) ?_
  refine wpAnyR_take (i := 12) rfl (by kernel_rfl) (by kernel_rfl) (by kernel_rfl) (fun _ _ _ h => h) hS0 (.inl ⟨by kernel_rfl, fun w' hS => (by have yA0 := cell_at hS (by omega) A0.out; have yA1 := cell_at hS (by omega) A1.out; have yA2 := cell_at hS (by omega) A2.out; have yB0 := cell_at hS (by omega) B0.out; have yB1 := cell_at hS (by omega) B1.out; have yB2 := cell_at hS (by omega) B2.out; go_simp; exact ⟨rfl, rfl⟩)⟩) rfl (by go_simp; rfl) ?_
  refine wpAnyR_take (i := 13) rfl (by kernel_rfl) (by kernel_rfl) (by kernel_rfl) (fun _ _ _ h => h) hS0 (.inl ⟨by kernel_rfl, fun w' hS => (by have yA0 := cell_at hS (by omega) A0.out; have yA1 := cell_at hS (by omega) A1.out; have yA2 := cell_at hS (by omega) A2.out; have yB0 := cell_at hS (by omega) B0.out; have yB1 := cell_at hS (by omega) B1.out; have yB2 := cell_at hS (by omega) B2.out; go_simp; exact ⟨rfl, rfl⟩)⟩) rfl (by go_simp; rfl) ?_
  refine wpAnyR_take (i := 14) rfl (by kernel_rfl) (by kernel_rfl) (by kernel_rfl) (fun _ _ _ h => h) hS0 (.inl ⟨by kernel_rfl, fun w' hS => (by have yA0 := cell_at hS (by omega) A0.out; have yA1 := cell_at hS (by omega) A1.out; have yA2 := cell_at hS (by omega) A2.out; have yB0 := cell_at hS (by omega) B0.out; have yB1 := cell_at hS (by omega) B1.out; have yB2 := cell_at hS (by omega) B2.out; go_simp; exact ⟨rfl, rfl⟩)⟩) rfl (by go_simp; rfl) ?_
  refine wpAnyR_one (i := 9) rfl (by kernel_rfl) rfl rfl ?_
  go_simp
  refine (p_mul (HS.out.below (HB0.out.drew)) (HS'.out.below (HB0.out.drew)) HX8.out HY8.out).mono ?_
  rintro e1 w1 ⟨v1, rfl, hv1, hb1⟩
  have HB1 : Hid (Below w0.heap.size w0 w1) := Lib.hid ((Below.refl _ w0).drew.trans hb1)
  have HV1 := Lib.hid hv1
  have HM1 : Hid (w.heap.size + 1 + 1 ≤ w0.heap.size) := Lib.hid (by rw [HS0.out]; omega)
  clear hv1 hb1
  refine ⟨HB1.out.mono HM1.out, wpAnyR_one (i := 15) rfl (by kernel_rfl) rfl rfl ?_⟩
  go_simp
  refine (p_make (neg != neg') (HTAB.out.below (HB0.out.trans (HB1.out.mono HB0.out.size))) HV1.out HXY8.out (by omega) (by omega)).mono ?_
  rintro e2 w2 ⟨v2, rfl, hv2, hb2⟩
  have HB2 : Hid (Below w0.heap.size w0 w2) := Lib.hid (HB1.out.trans (hb2.mono HB1.out.size))
  obtain ⟨n1, a1, l1, k1, E1, rfl⟩ := hv2.shape
  have HBw : Hid (Below w.heap.size w w2) := Lib.hid (HB0.out.trans (HB2.out.mono HB0.out.size))
  have BX := Lib.hid (HBX0.out.below HB2.out (by rw [HS0.out]; omega))
  obtain ⟨c0, c1, c2, _, f0, f1, f2⟩ := BX.out
  have HN := Lib.hid (HMD.out _ _ _ hv2)
  have hs1 := HB1.out.size
  have HSz : Hid (w0.heap.size ≤ w.heap.size + 1 + 1 + 1) := Lib.hid (by rw [HS0.out]; omega)
  clear hv2 hb2
  refine ⟨HB2.out.mono HM1.out, wpAnyR_one (i := 16) rfl (by kernel_rfl) rfl rfl ?_⟩
  go_simp
  refine ⟨Box.keepB (HB2.out.mono HM1.out) (by omega) _ _ _, wpAnyR_done (by kernel_rfl) ?_ _⟩
  go_wp2
  have h1 : w.heap.size + 1 + 1 < w1.heap.size := by have := HS0.out; omega
  refine bodyPost_ret (v := Dv n1 (.slice a1 l1 k1) E1) (by simp [results, Tryz.results124, go_sem, c0, c1, c2]) rfl ⟨_, rfl, ?_, Box.keepB HBw.out (by omega) _ _ _⟩
  exact (((HN.out.set (p := ⟨w.heap.size + 1 + 1, 0, none⟩) h1 _).set (p := ⟨w.heap.size + 1 + 1, 1, none⟩) h1 _).set (p := ⟨w.heap.size + 1 + 1, 2, none⟩) h1 _).mono (by omega)
end Go.Proofs.YtdflbipaicpdcaaGreatDoor
namespace Go.Proofs.YtdflbipaicpdcaaGreatDoor
open Go.RowKit
set_option maxRecDepth 100000

/-- block b holds a number's parts -/
structure Parts (w : World) (b : Nat) (neg : Bool) (s : Value) (E : Int) : Prop where
  c0 : w.cell? ⟨b, 0, none⟩ = some (.bool neg)
  c1 : w.cell? ⟨b, 1, none⟩ = some s
  c2 : w.cell? ⟨b, 2, none⟩ = some (.int .i64 E)
theorem Parts.below {w w' : World} {B b : Nat} {neg : Bool} {s : Value} {E : Int} (h : Parts w b neg s E) (hb : Below B w w') (hlt : b < B) : Parts w' b neg s E :=
  ⟨cell_at hb hlt h.c0, cell_at hb hlt h.c1, cell_at hb hlt h.c2⟩

theorem bool_other {a b : Bool} (h : ¬ a = b) : b = !a := by cases a <;> cases b <;> simp_all
theorem Parts.besides {w w' : World} {g b : Nat} {neg : Bool} {s : Value} {E : Int} (h : Parts w b neg s E) (hb : Besides g w w') (hne : b ≠ g) (hlt : b < w.heap.size) : Parts w' b neg s E :=
  have hk := hb.block b hlt hne
  ⟨(World.cell?_of_block (w := w) hk).trans h.c0, (World.cell?_of_block (w := w) hk).trans h.c1, (World.cell?_of_block (w := w) hk).trans h.c2⟩

theorem NewD.addMade {B : Nat} {w : World} {v : Value} {x y e g : Int} {i j : Nat} (hx : x ≠ 0) (hy : y ≠ 0) (hi : dE x e = g + i) (hj : dE y e = g + j) (hij : i = 0 ∨ j = 0) (h : NewD B w v (sgz (decide (x < 0)) (dM x * 2 ^ i) + sgz (decide (y < 0)) (dM y * 2 ^ j)) g) : NewD B w v (x + y) e := by
  have hge : e ≤ g := by
    unfold dE at hi hj
    rw [if_neg hx] at hi
    rw [if_neg hy] at hj
    omega
  obtain ⟨k, hk⟩ : ∃ k : Nat, e + k = g := ⟨(g - e).toNat, by omega⟩
  refine h.to k hk ?_
  rw [Int.add_mul, part_pow hx hi hk, part_pow hy hj hk]

/-- what stands after the two numbers are boxed -/
structure TwoAt (w : World) (neg : Bool) (s : Value) (E : Int) (neg' : Bool) (s' : Value) (F : Int) (p q : Nat) (wx : World) : Prop where
  p0 : w.heap.size + 2 < p
  p1 : p < w.heap.size + 5
  q0 : w.heap.size + 2 < q
  q1 : q < w.heap.size + 5
  pp : Parts wx p neg s E
  pq : Parts wx q neg' s' F
  pa : Parts wx w.heap.size neg s E
  pb : Parts wx (w.heap.size + 1) neg' s' F
  bx : Box wx (w.heap.size + 1 + 1)
  sz : w.heap.size + 5 ≤ wx.heap.size
  bl : Below w.heap.size w wx
theorem TwoAt.below {w : World} {neg : Bool} {s : Value} {E : Int} {neg' : Bool} {s' : Value} {F : Int} {p q : Nat} {wx w' : World} (h : TwoAt w neg s E neg' s' F p q wx) (hb : Below wx.heap.size wx w') : TwoAt w neg s E neg' s' F p q w' :=
  have := h.sz
  have := h.p1
  have := h.q1
  ⟨h.p0, h.p1, h.q0, h.q1, h.pp.below hb (by omega), h.pq.below hb (by omega), h.pa.below hb (by omega), h.pb.below hb (by omega), h.bx.below hb (by omega), Nat.le_trans h.sz hb.size, h.bl.trans (hb.mono (by omega))⟩
def Two (w : World) (neg : Bool) (s : Value) (E : Int) (neg' : Bool) (s' : Value) (F : Int) (a b : Value) (wx : World) : Prop := ∃ p q, a = .pointer (some ⟨p, 0, none⟩) ∧ b = .pointer (some ⟨q, 0, none⟩) ∧ TwoAt w neg s E neg' s' F p q wx

theorem c_raised {neg : Bool} {a : Option Addr} {l c n i : Nat} {E g : Int} {w : World} (h : IsN w (.slice a l c) n) (h8 : (digs n).length ≤ 2000) (hi : E = g + i) (hi8 : i ≤ 20000) (hE1 : -1000000 ≤ E) (hE2 : E ≤ 1000000) :
    Calls Tryz.prog 180 #[.agg #[.bool neg, .slice a l c, .int .i64 E], .int .i64 g] w (MakesN w (n * 2 ^ i)) := by
  have hw : IntKind.i64.wrap (E - g) = (i : Int) := by rw [IntKind.wrap_i64]; omega
  have hs : E - g = (i : Int) := by omega
  have HH := Lib.hid h
  clear h hi
  go_enter Tryz.func180, Tryz.ntmps180
  go_wp2_with fail
  have HB0 : Hid (Below w.heap.size w (w.alloc (Obj.cells #[Value.bool neg, Value.slice a l c, Value.int IntKind.i64 E] 225))) := Lib.hid ((Below.refl _ w).alloc (Nat.le_refl _) _)
  refine (p_shl (HH.out.below HB0.out) h8 i hi8).mono ?_
  rintro e w1 ⟨v, rfl, hv, hb⟩
  have HV := Lib.hid hv
  have HB := Lib.hid (HB0.out.trans (hb.mono HB0.out.size))
  clear hv hb
  go_wp2
  go_ret
  exact ⟨_, rfl, HV.out, HB.out⟩

/-- both powers, the lower one, what is shifted -/
def MinAt (E F g : Int) (i j : Nat) : Prop := E = g + i ∧ F = g + j ∧ (i = 0 ∨ j = 0) ∧ min E F = g

set_option maxHeartbeats 8000000 in
theorem p_dadd {u v : Value} {x y e : Int} {w : World} (ht : Tab w) (hu : IsD w u x e) (hv : IsD w v y e) (hz : (digs (x.natAbs + y.natAbs)).length ≤ 800) (he1 : -100000 ≤ e) (he2 : e ≤ 100000) : Calls Tryz.prog 123 #[u, v] w (MakesZ w (x + y) e) := by
  have hx : Sz x := Nat.le_trans (digs_mono (Nat.le_add_right _ _)) hz
  have hy : Sz y := Nat.le_trans (digs_mono (Nat.le_add_left _ _)) hz
  have hEE := hx.dE he1 he2
  have hFF := hy.dE he1 he2
  have htx := hx.tz
  have hty := hy.tz
  have HX := Lib.hid hx
  have HY := Lib.hid hy
  have HU := Lib.hid hu
  have HV := Lib.hid hv
  have HT := Lib.hid ht
  have HZ := Lib.hid hz
  obtain ⟨a, l, c, rfl, hl, hs⟩ := hu.parts
  obtain ⟨a', l', c', rfl, hl', hs'⟩ := hv.parts
  have HS := Lib.hid hs
  have HS' := Lib.hid hs'
  have hlz : l = 0 ↔ x = 0 := by rw [← hl, digs_len_zero, dM_eq_zero]
  have hlz' : l' = 0 ↔ y = 0 := by rw [← hl', digs_len_zero, dM_eq_zero]
  obtain ⟨E, hE⟩ : ∃ E, dE x e = E := ⟨_, rfl⟩
  obtain ⟨F, hF⟩ : ∃ F, dE y e = F := ⟨_, rfl⟩
  obtain ⟨neg, hneg⟩ : ∃ neg, decide (x < 0) = neg := ⟨_, rfl⟩
  obtain ⟨neg', hneg'⟩ : ∃ neg', decide (y < 0) = neg' := ⟨_, rfl⟩
  rw [hE, hneg] at HU
  rw [hF, hneg'] at HV
  rw [hE] at hEE
  rw [hF] at hFF
  have HEQ := Lib.hid hE
  have HFQ := Lib.hid hF
  have HNQ := Lib.hid hneg
  have HNQ' := Lib.hid hneg'
  have HLZ := Lib.hid hlz
  have HLZ' := Lib.hid hlz'
  rw [hE, hF, hneg, hneg']
  clear hs hs' hl hl' hu hv hE hF hneg hneg' hlz hlz' ht hz hx hy
  go_enter Tryz.func123, Tryz.ntmps123
  go_upto_region 1 with fail
  go_cut [5, 6] (fun s5 s6 wx => Two w neg (.slice a l c) E neg' (.slice a' l' c') F s5 s6 wx)
  case first =>
    go_region
    all_goals (go_wp2_with fail; go_meet)
    all_goals
      refine ⟨_, _, rfl, rfl, ⟨by omega, by omega, by omega, by omega, ⟨?_, ?_, ?_⟩, ⟨?_, ?_, ?_⟩, ⟨?_, ?_, ?_⟩, ⟨?_, ?_, ?_⟩, ⟨?_, ?_, ?_, fun k => ?_, ?_, ?_, ?_⟩, ?_, ?_⟩⟩
      any_goals (simp [go_sem]; done)
      all_goals exact ((((((Below.refl _ w).alloc (Nat.le_refl _) _).alloc (by simp) _).alloc (by simp <;> omega) _).alloc (by simp <;> omega) _).alloc (by simp <;> omega) _).drew
  case rest =>
    obtain ⟨p, q, rfl, rfl, hat⟩ := hcut
    have HS0 := Lib.hid hat
    obtain ⟨c0, c1, c2⟩ := hat.pp
    obtain ⟨d0, d1, d2⟩ := hat.pq
    have hp0 := hat.p0
    have hp1 := hat.p1
    have hq0 := hat.q0
    have hq1 := hat.q1
    clear hat
    by_cases hx0 : x = 0
    · subst hx0
      have hl1 : ((l : Int) == 0) = true := by rw [HLZ.out.2 rfl]; rfl
      clear HLZ
      go_wp2_with fail
      refine (c_zero _ _ _ _ _ _ hl1 _).mono ?_
      rintro e1 w1 ⟨rfl, hb1⟩
      have HS1 := Lib.hid (HS0.out.below hb1)
      clear c0 c1 c2 d0 d1 d2 hb1 hl1
      obtain ⟨b0, b1, b2⟩ := HS1.out.pb
      go_wp2_with fail
      refine (p_shift (HT.out.below HS1.out.bl) (HV.out.below HS1.out.bl) HY.out 0 he1 he2 (by omega) (by omega)).mono ?_
      rintro e2 w2 ⟨v2, rfl, hv2, hb2⟩
      obtain ⟨n1, a1, l1, k1, E1, rfl⟩ := hv2.shape
      have hs1 := HS1.out.sz
      have HVV : Hid (NewD w1.heap.size w2 (Dv n1 (.slice a1 l1 k1) E1) (0 + y) e) := Lib.hid (by rw [Int.zero_add]; rwa [Int.add_zero] at hv2)
      have HBw := Lib.hid (HS1.out.bl.trans (hb2.mono (by omega)))
      have BX := Lib.hid (HS1.out.bx.below hb2 (by omega))
      obtain ⟨x0, x1, x2, _, f0, f1, f2⟩ := BX.out
      clear hv2 hb2 b0 b1 b2
      have h1 : w.heap.size + 1 + 1 < w1.heap.size := by omega
      go_wp2
      refine bodyPost_ret (v := Dv n1 (.slice a1 l1 k1) E1) (by simp [results, Tryz.results123, go_sem, x0, x1, x2]) rfl ⟨_, rfl, ?_, Box.keepB HBw.out (by omega) _ _ _⟩
      exact (((HVV.out.set (p := ⟨w.heap.size + 1 + 1, 0, none⟩) h1 _).set (p := ⟨w.heap.size + 1 + 1, 1, none⟩) h1 _).set (p := ⟨w.heap.size + 1 + 1, 2, none⟩) h1 _).mono (by omega)
    have hl1 : ((l : Int) == 0) = false := by apply beq_false_of_ne; intro h; exact hx0 (HLZ.out.1 (by omega))
    clear HLZ
    have HX0 := Lib.hid hx0
    clear hx0
    by_cases hy0 : y = 0
    · subst hy0
      have hl2 : ((l' : Int) == 0) = true := by rw [HLZ'.out.2 rfl]; rfl
      clear HLZ'
      go_wp2_with fail
      refine (c_zero _ _ _ _ _ _ hl1 _).mono ?_
      rintro e1 w1 ⟨rfl, hb1⟩
      have HS1 := Lib.hid (HS0.out.below hb1)
      clear c0 c1 c2 d0 d1 d2 hb1 hl1
      obtain ⟨d0, d1, d2⟩ := HS1.out.pq
      go_wp2_with fail
      refine (c_zero _ _ _ _ _ _ hl2 _).mono ?_
      rintro e2 w2 ⟨rfl, hb2⟩
      have HS2 := Lib.hid (HS1.out.below hb2)
      clear d0 d1 d2 hb2 hl2
      obtain ⟨b0, b1, b2⟩ := HS2.out.pa
      go_wp2_with fail
      refine (p_shift (HT.out.below HS2.out.bl) (HU.out.below HS2.out.bl) HX.out 0 he1 he2 (by omega) (by omega)).mono ?_
      rintro e3 w3 ⟨v2, rfl, hv2, hb2⟩
      obtain ⟨n1, a1, l1, k1, E1, rfl⟩ := hv2.shape
      have hs1 := HS2.out.sz
      have HVV : Hid (NewD w2.heap.size w3 (Dv n1 (.slice a1 l1 k1) E1) (x + 0) e) := Lib.hid (by rw [Int.add_zero]; rwa [Int.add_zero] at hv2)
      have HBw := Lib.hid (HS2.out.bl.trans (hb2.mono (by omega)))
      have BX := Lib.hid (HS2.out.bx.below hb2 (by omega))
      obtain ⟨x0, x1, x2, _, f0, f1, f2⟩ := BX.out
      clear hv2 hb2 b0 b1 b2
      have h1 : w.heap.size + 1 + 1 < w2.heap.size := by omega
      go_wp2
      refine bodyPost_ret (v := Dv n1 (.slice a1 l1 k1) E1) (by simp [results, Tryz.results123, go_sem, x0, x1, x2]) rfl ⟨_, rfl, ?_, Box.keepB HBw.out (by omega) _ _ _⟩
      exact (((HVV.out.set (p := ⟨w.heap.size + 1 + 1, 0, none⟩) h1 _).set (p := ⟨w.heap.size + 1 + 1, 1, none⟩) h1 _).set (p := ⟨w.heap.size + 1 + 1, 2, none⟩) h1 _).mono (by omega)
    have hl2 : ((l' : Int) == 0) = false := by apply beq_false_of_ne; intro h; exact hy0 (HLZ'.out.1 (by omega))
    clear HLZ'
    have HY0 := Lib.hid hy0
    clear hy0
    obtain ⟨g, i, j, hmin⟩ : ∃ g i j, MinAt E F g i j := by
      rcases Int.le_total E F with h | h
      · exact ⟨E, 0, (F - E).toNat, by omega, by omega, .inl rfl, by omega⟩
      · exact ⟨F, (E - F).toNat, 0, by omega, by omega, .inr rfl, by omega⟩
    have HMIN := Lib.hid hmin
    have hi : dE x e = g + i := by rw [HEQ.out]; exact hmin.1
    have hj : dE y e = g + j := by rw [HFQ.out]; exact hmin.2.1
    have hpx := part_le HX0.out HY0.out hi hj hmin.2.2.1
    have hpy := part_le HY0.out HX0.out hj hi (Or.comm.1 hmin.2.2.1)
    have HADD : Hid (∀ B W u, NewD B W u (sgz neg (dM x * 2 ^ i) + sgz neg' (dM y * 2 ^ j)) g → NewD B W u (x + y) e) := Lib.hid (fun B W u h => by rw [← HNQ.out, ← HNQ'.out] at h; exact NewD.addMade HX0.out HY0.out hi hj hmin.2.2.1 h)
    have HSX : Hid ((digs (dM x)).length ≤ 2000) := Lib.hid (Nat.le_trans HX.out.dM (by decide))
    have HSY : Hid ((digs (dM y)).length ≤ 2000) := Lib.hid (Nat.le_trans HY.out.dM (by decide))
    have HM8 : Hid ((digs (dM x * 2 ^ i)).length ≤ 800) := Lib.hid (Nat.le_trans (digs_mono hpx.1) HX.out)
    have HN8 : Hid ((digs (dM y * 2 ^ j)).length ≤ 800) := Lib.hid (Nat.le_trans (digs_mono hpy.1) HY.out)
    have HS8 : Hid ((digs (dM x * 2 ^ i + dM y * 2 ^ j)).length ≤ 800) := Lib.hid (Nat.le_trans (digs_mono (Nat.add_le_add hpx.1 hpy.1)) HZ.out)
    have hi8 : i ≤ 20000 := by omega
    have hj8 : j ≤ 20000 := by omega
    have hg1 : -1000000 ≤ g ∧ g ≤ 1000000 := by have := hmin.1; have := hmin.2.1; omega
    have HMN := Lib.hid hmin.2.2.2
    have HG := Lib.hid hg1
    clear hmin hi hj hpx hpy hg1
    obtain ⟨M, hM⟩ : ∃ M, dM x * 2 ^ i = M := ⟨_, rfl⟩
    obtain ⟨N, hN⟩ : ∃ N, dM y * 2 ^ j = N := ⟨_, rfl⟩
    have HMQ := Lib.hid hM
    have HNQ2 := Lib.hid hN
    rw [hM, hN] at HADD HS8
    rw [hM] at HM8
    rw [hN] at HN8
    clear hM hN
    go_wp2_with fail
    refine (c_zero _ _ _ _ _ _ hl1 _).mono ?_
    rintro e1 w1 ⟨rfl, hb1⟩
    have HS1 := Lib.hid (HS0.out.below hb1)
    clear c0 c1 c2 d0 d1 d2 hb1 hl1
    obtain ⟨d0, d1, d2⟩ := HS1.out.pq
    go_wp2_with fail
    refine (c_zero _ _ _ _ _ _ hl2 _).mono ?_
    rintro e2 w2 ⟨rfl, hb2⟩
    have HS2 := Lib.hid (HS1.out.below hb2)
    clear d0 d1 d2 hb2 hl2
    obtain ⟨c0, c1, c2⟩ := HS2.out.pp
    obtain ⟨d0, d1, d2⟩ := HS2.out.pq
    have hs2 := HS2.out.sz
    go_wp2_with fail
    rw [HMN.out]
    have hpz : p < w2.heap.size := by omega
    have hqz : q < w2.heap.size := by omega
    refine wp_region_still (S := Below w2.heap.size w2) (by kernel_rfl) ?_
    have hS0 : Below w2.heap.size w2 w2.drew := (Below.refl _ w2).drew
    refine wpAnyR_take (i := 0) rfl (by kernel_rfl) (by kernel_rfl) (by kernel_rfl) (fun _ _ _ h => h) hS0 (.inl ⟨by kernel_rfl, fun w' hS => (by have y0 := (HS2.out.pp.below hS hpz).c0; have y1 := (HS2.out.pp.below hS hpz).c1; have y2 := (HS2.out.pp.below hS hpz).c2; have y3 := (HS2.out.pq.below hS hqz).c0; have y4 := (HS2.out.pq.below hS hqz).c1; have y5 := (HS2.out.pq.below hS hqz).c2; go_simp; exact ⟨rfl, rfl⟩)⟩) rfl (by go_simp; rfl) ?_
    refine wpAnyR_take (i := 1) rfl (by kernel_rfl) (by kernel_rfl) (by kernel_rfl) (fun _ _ _ h => h) hS0 (.inl ⟨by kernel_rfl, fun w' hS => (by have y0 := (HS2.out.pp.below hS hpz).c0; have y1 := (HS2.out.pp.below hS hpz).c1; have y2 := (HS2.out.pp.below hS hpz).c2; have y3 := (HS2.out.pq.below hS hqz).c0; have y4 := (HS2.out.pq.below hS hqz).c1; have y5 := (HS2.out.pq.below hS hqz).c2; go_simp; exact ⟨rfl, rfl⟩)⟩) rfl (by go_simp; rfl) ?_
    refine wpAnyR_take (i := 3) rfl (by kernel_rfl) (by kernel_rfl) (by kernel_rfl) (fun _ _ _ h => h) hS0 (.inl ⟨by kernel_rfl, fun w' hS => (by have y0 := (HS2.out.pp.below hS hpz).c0; have y1 := (HS2.out.pp.below hS hpz).c1; have y2 := (HS2.out.pp.below hS hpz).c2; have y3 := (HS2.out.pq.below hS hqz).c0; have y4 := (HS2.out.pq.below hS hqz).c1; have y5 := (HS2.out.pq.below hS hqz).c2; go_simp; exact ⟨rfl, rfl⟩)⟩) rfl (by go_simp; rfl) ?_
    refine wpAnyR_take (i := 4) rfl (by kernel_rfl) (by kernel_rfl) (by kernel_rfl) (fun _ _ _ h => h) hS0 (.inl ⟨by kernel_rfl, fun w' hS => (by have y0 := (HS2.out.pp.below hS hpz).c0; have y1 := (HS2.out.pp.below hS hpz).c1; have y2 := (HS2.out.pp.below hS hpz).c2; have y3 := (HS2.out.pq.below hS hqz).c0; have y4 := (HS2.out.pq.below hS hqz).c1; have y5 := (HS2.out.pq.below hS hqz).c2; go_simp; exact ⟨rfl, rfl⟩)⟩) rfl (by go_simp; rfl) ?_
    refine wpAnyR_one (i := 2) rfl (by kernel_rfl) rfl rfl ?_
    go_simp
    refine (c_raised (HS.out.below ((HS2.out.bl).trans (hS0.mono (by omega)))) HSX.out HMIN.out.1 hi8 (by omega) (by omega)).mono ?_
    rw [HMQ.out]
    rintro e3 w3 ⟨v3, rfl, hv3, hb3⟩
    have HB3 : Hid (Below w2.heap.size w2 w3) := Lib.hid (hS0.trans hb3)
    have HV3 := Lib.hid hv3
    clear hv3 hb3
    refine ⟨HB3.out, wpAnyR_one (i := 5) rfl (by kernel_rfl) rfl rfl ?_⟩
    go_simp
    refine (c_raised (HS'.out.below ((HS2.out.bl).trans (HB3.out.mono (by omega)))) HSY.out HMIN.out.2.1 hj8 (by omega) (by omega)).mono ?_
    rw [HNQ2.out]
    rintro e4 w4 ⟨v4, rfl, hv4, hb4⟩
    have HB4 : Hid (Below w2.heap.size w2 w4) := Lib.hid (HB3.out.trans (hb4.mono HB3.out.size))
    have HV3' := Lib.hid (HV3.out.below hb4)
    have HV4 := Lib.hid hv4
    clear hv4 hb4 HV3
    refine ⟨HB4.out, ?_⟩
    refine wpAnyR_take (i := 6) rfl (by kernel_rfl) (by kernel_rfl) (by kernel_rfl) (fun _ _ _ h => h) HB4.out (.inl ⟨by kernel_rfl, fun w' hS => (by go_simp; exact ⟨rfl, rfl⟩)⟩) rfl (by go_simp; rfl) ?_
    refine wpAnyR_take (i := 7) rfl (by kernel_rfl) (by kernel_rfl) (by kernel_rfl) (fun _ _ _ h => h) HB4.out (.inl ⟨by kernel_rfl, fun w' hS => (by go_simp; exact ⟨rfl, rfl⟩)⟩) rfl (by go_simp; rfl) ?_
    refine wpAnyR_done (by kernel_rfl) ?_ _
    have HS4 := Lib.hid (HS2.out.below HB4.out)
    clear c0 c1 c2 d0 d1 d2 hS0 HB3 HB4
    obtain ⟨c0, c1, c2⟩ := HS4.out.pp
    obtain ⟨d0, d1, d2⟩ := HS4.out.pq
    have hs4 := HS4.out.sz
    have HT4 := Lib.hid (HT.out.below HS4.out.bl)
    obtain ⟨x0, x1, x2, _, f0, f1, f2⟩ := HS4.out.bx
    by_cases hnn : neg = neg'
    · subst hnn
      have hnb : (neg == neg) = true := by simp
      clear x0 x1 x2 f0 f1 f2
      go_wp2_with fail
      have hpz4 : p < w4.heap.size := by omega
      have hpn : p ≠ w.heap.size + 1 + 1 := by omega
      refine wp_region_still (S := Besides (w.heap.size + 1 + 1) w4) (by kernel_rfl) ?_
      have hS0 : Besides (w.heap.size + 1 + 1) w4 w4.drew := (Besides.refl _ w4).drew
      refine wpAnyR_take (i := 0) rfl (by kernel_rfl) (by kernel_rfl) (by kernel_rfl) (fun _ _ _ h => h) hS0 (.inl ⟨by kernel_rfl, fun w' hS => (by go_simp; exact ⟨rfl, rfl⟩)⟩) rfl (by go_simp; rfl) ?_
      refine wpAnyR_take (i := 1) rfl (by kernel_rfl) (by kernel_rfl) (by kernel_rfl) (fun _ _ _ h => h) hS0 (.inl ⟨by kernel_rfl, fun w' hS => (by go_simp; exact ⟨rfl, rfl⟩)⟩) rfl (by go_simp; rfl) ?_
      refine wpAnyR_take (i := 2) rfl (by kernel_rfl) (by kernel_rfl) (by kernel_rfl) (fun _ _ _ h => h) hS0 (.inl ⟨by kernel_rfl, fun w' hS => (by have y0 := (HS4.out.pp.besides hS hpn hpz4).c0; have y1 := (HS4.out.pp.besides hS hpn hpz4).c1; have y2 := (HS4.out.pp.besides hS hpn hpz4).c2; go_simp; exact ⟨rfl, rfl⟩)⟩) rfl (by go_simp; rfl) ?_
      refine wpAnyR_take (i := 3) rfl (by kernel_rfl) (by kernel_rfl) (by kernel_rfl) (fun _ _ _ h => h) hS0 (.inl ⟨by kernel_rfl, fun w' hS => (by go_simp; exact ⟨rfl, rfl⟩)⟩) rfl (by go_simp; rfl) ?_
      refine wpAnyR_take (i := 4) rfl (by kernel_rfl) (by kernel_rfl) (by kernel_rfl) (fun _ _ _ h => h) hS0 (.inl ⟨by kernel_rfl, fun w' hS => (by go_simp; exact ⟨rfl, rfl⟩)⟩) rfl (by go_simp; rfl) ?_
      refine wpAnyR_take (i := 6) rfl (by kernel_rfl) (by kernel_rfl) (by kernel_rfl) (fun _ _ _ h => h) hS0 (.inl ⟨by kernel_rfl, fun w' hS => (by go_simp; exact ⟨rfl, rfl⟩)⟩) rfl (by go_simp; rfl) ?_
      refine wpAnyR_one (i := 5) rfl (by kernel_rfl) rfl rfl ?_
      go_simp
      refine (p_add (w := w4.drew) HV3'.out HV4.out (Nat.le_trans HM8.out (by decide)) (Nat.le_trans HN8.out (by decide))).mono ?_
      rintro e5 w5 ⟨v5, rfl, hv5, hb5⟩
      have hb5' : Below w4.heap.size w4 w5 := (Below.refl _ w4).drew.trans hb5
      have HB5 := Lib.hid hb5'
      have HV5 := Lib.hid hv5
      clear hv5 hb5 hb5'
      refine ⟨Besides.of_below HB5.out, wpAnyR_one (i := 7) rfl (by kernel_rfl) rfl rfl ?_⟩
      go_simp
      refine (p_make neg (HT4.out.below HB5.out) HV5.out (Nat.le_trans HS8.out (by decide)) HG.out.1 HG.out.2).mono ?_
      rw [sgz_add]
      rintro e6 w6 ⟨v6, rfl, hv6, hb6⟩
      obtain ⟨n1, a1, l1, k1, E1, rfl⟩ := hv6.shape
      have HVV := Lib.hid (HADD.out _ _ _ hv6)
      have HB6 := Lib.hid (HB5.out.trans (hb6.mono HB5.out.size))
      have HBw := Lib.hid (HS4.out.bl.trans (HB6.out.mono (by omega)))
      have BX := Lib.hid (HS4.out.bx.below HB6.out (by omega))
      obtain ⟨x0, x1, x2, _, f0, f1, f2⟩ := BX.out
      have hs5 := HB5.out.size
      clear hv6 hb6 c0 c1 c2 d0 d1 d2
      refine ⟨Besides.of_below HB6.out, wpAnyR_one (i := 8) rfl (by kernel_rfl) rfl rfl ?_⟩
      go_simp
      refine ⟨(((Besides.of_below HB6.out).set (p := ⟨w.heap.size + 1 + 1, 0, none⟩) (.inr rfl) _).set (p := ⟨w.heap.size + 1 + 1, 1, none⟩) (.inr rfl) _).set (p := ⟨w.heap.size + 1 + 1, 2, none⟩) (.inr rfl) _, wpAnyR_done (by kernel_rfl) ?_ _⟩
      have h1 : w.heap.size + 1 + 1 < w5.heap.size := by omega
      go_wp2
      refine bodyPost_ret (v := Dv n1 (.slice a1 l1 k1) E1) (by simp [results, Tryz.results123, go_sem, x0, x1, x2]) rfl ⟨_, rfl, ?_, Box.keepB HBw.out (by omega) _ _ _⟩
      exact (((HVV.out.set (p := ⟨w.heap.size + 1 + 1, 0, none⟩) h1 _).set (p := ⟨w.heap.size + 1 + 1, 1, none⟩) h1 _).set (p := ⟨w.heap.size + 1 + 1, 2, none⟩) h1 _).mono (by omega)
    · have hnb : (neg == neg') = false := by simpa using hnn
      have HNN : Hid (neg' = !neg) := Lib.hid (bool_other hnn)
      clear hnn x0 x1 x2 f0 f1 f2
      go_wp2_with fail
      refine (p_sub HV3'.out HV4.out (Nat.le_trans HM8.out (by decide)) (Nat.le_trans HN8.out (by decide))).mono ?_
      rintro e5 w5 ⟨v5, rfl, hv5, hb5⟩
      have HS5 := Lib.hid (HS4.out.below hb5)
      have HV3b := Lib.hid (HV3'.out.below hb5)
      have HV4b := Lib.hid (HV4.out.below hb5)
      have HT5 := Lib.hid (HT4.out.below hb5)
      have hs5 := hb5.size
      clear c0 c1 c2 d0 d1 d2 hb5 HV3' HV4
      obtain ⟨c0, c1, c2⟩ := HS5.out.pp
      obtain ⟨d0, d1, d2⟩ := HS5.out.pq
      by_cases hle : N ≤ M
      · have HV5 := Lib.hid (hv5 hle)
        have hdec : decide (N ≤ M) = true := decide_eq_true hle
        rw [hdec]
        have HSD : Hid (sgz neg (M - N) = sgz neg M + sgz neg' N) := Lib.hid (by rw [HNN.out]; exact sgz_sub hle)
        have HM9 : Hid ((digs (M - N)).length ≤ 1600) := Lib.hid (Nat.le_trans (digs_mono (Nat.sub_le _ _)) (Nat.le_trans HM8.out (by decide)))
        clear hv5 hle hdec
        go_wp2_with fail
        refine (p_make neg HT5.out HV5.out HM9.out HG.out.1 HG.out.2).mono ?_
        rw [HSD.out]
        rintro e6 w6 ⟨v6, rfl, hv6, hb6⟩
        obtain ⟨n1, a1, l1, k1, E1, rfl⟩ := hv6.shape
        have HVV := Lib.hid (HADD.out _ _ _ hv6)
        have HBw := Lib.hid (HS5.out.bl.trans (hb6.mono (by omega)))
        have BX := Lib.hid (HS5.out.bx.below hb6 (by omega))
        obtain ⟨x0, x1, x2, _, f0, f1, f2⟩ := BX.out
        clear hv6 hb6 c0 c1 c2 d0 d1 d2
        have h1 : w.heap.size + 1 + 1 < w5.heap.size := by omega
        go_wp2
        refine bodyPost_ret (v := Dv n1 (.slice a1 l1 k1) E1) (by simp [results, Tryz.results123, go_sem, x0, x1, x2]) rfl ⟨_, rfl, ?_, Box.keepB HBw.out (by omega) _ _ _⟩
        exact (((HVV.out.set (p := ⟨w.heap.size + 1 + 1, 0, none⟩) h1 _).set (p := ⟨w.heap.size + 1 + 1, 1, none⟩) h1 _).set (p := ⟨w.heap.size + 1 + 1, 2, none⟩) h1 _).mono (by omega)
      · have hdec : decide (N ≤ M) = false := decide_eq_false hle
        rw [hdec]
        have hle2 : M ≤ N := by omega
        have HLE := Lib.hid hle2
        have HSD : Hid (sgz neg' (N - M) = sgz neg M + sgz neg' N) := Lib.hid (by rw [sgz_sub hle2, HNN.out, Bool.not_not, Int.add_comm])
        have HM9 : Hid ((digs (N - M)).length ≤ 1600) := Lib.hid (Nat.le_trans (digs_mono (Nat.sub_le _ _)) (Nat.le_trans HN8.out (by decide)))
        clear hv5 hle hdec hle2
        go_wp2_with fail
        refine (p_sub HV4b.out HV3b.out (Nat.le_trans HN8.out (by decide)) (Nat.le_trans HM8.out (by decide))).mono ?_
        rintro e6 w6 ⟨v6, rfl, hv6, hb6⟩
        have HS6 := Lib.hid (HS5.out.below hb6)
        have HV6 := Lib.hid (hv6 HLE.out)
        have HT6 := Lib.hid (HT5.out.below hb6)
        have hs6 := hb6.size
        clear c0 c1 c2 d0 d1 d2 hb6 hv6
        obtain ⟨c0, c1, c2⟩ := HS6.out.pp
        obtain ⟨d0, d1, d2⟩ := HS6.out.pq
        go_wp2_with fail
        refine (p_make neg' HT6.out HV6.out HM9.out HG.out.1 HG.out.2).mono ?_
        rw [HSD.out]
        rintro e7 w7 ⟨v7, rfl, hv7, hb7⟩
        obtain ⟨n1, a1, l1, k1, E1, rfl⟩ := hv7.shape
        have HVV := Lib.hid (HADD.out _ _ _ hv7)
        have HBw := Lib.hid (HS6.out.bl.trans (hb7.mono (by omega)))
        have BX := Lib.hid (HS6.out.bx.below hb7 (by omega))
        obtain ⟨x0, x1, x2, _, f0, f1, f2⟩ := BX.out
        clear hv7 hb7 c0 c1 c2 d0 d1 d2
        have h1 : w.heap.size + 1 + 1 < w6.heap.size := by omega
        go_wp2
        refine bodyPost_ret (v := Dv n1 (.slice a1 l1 k1) E1) (by simp [results, Tryz.results123, go_sem, x0, x1, x2]) rfl ⟨_, rfl, ?_, Box.keepB HBw.out (by omega) _ _ _⟩
        exact (((HVV.out.set (p := ⟨w.heap.size + 1 + 1, 0, none⟩) h1 _).set (p := ⟨w.heap.size + 1 + 1, 1, none⟩) h1 _).set (p := ⟨w.heap.size + 1 + 1, 2, none⟩) h1 _).mono (by omega)
end Go.Proofs.YtdflbipaicpdcaaGreatDoor
namespace Go.Proofs.YtdflbipaicpdcaaGreatDoor
open Go.RowKit
set_option maxRecDepth 100000

set_option maxHeartbeats 4000000 in
theorem p_dcmp {u v : Value} {x y e : Int} {w : World} (ht : Tab w) (hu : IsD w u x e) (hv : IsD w v y e) (hz : (digs (x.natAbs + y.natAbs)).length ≤ 800) (he1 : -100000 ≤ e) (he2 : e ≤ 100000) : Calls Tryz.prog 64 #[u, v] w (Gets w (cmpv x y)) := by
  have hy : Sz y := Nat.le_trans (digs_mono (Nat.le_add_left _ _)) hz
  have HY := Lib.hid hy
  have HZ : Hid ((digs (x.natAbs + (-y).natAbs)).length ≤ 800) := Lib.hid (by rw [Int.natAbs_neg]; exact hz)
  have HU := Lib.hid hu
  have HV := Lib.hid hv
  have HT := Lib.hid ht
  have HC := Lib.hid (cmpv_sub x y)
  obtain ⟨nx, ax, lx, cx, Ex, rfl⟩ := hu.shape
  obtain ⟨ny, ay, ly, cy, Ey, rfl⟩ := hv.shape
  clear hu hv ht hz hy
  go_enter Tryz.func64, Tryz.ntmps64
  go_wp2_with fail
  obtain ⟨w0, hw0⟩ : ∃ w0, (w.alloc (Obj.cells #[Value.bool nx, Value.slice ax lx cx, Value.int IntKind.i64 Ex] 36)).alloc (Obj.cells #[Value.bool ny, Value.slice ay ly cy, Value.int IntKind.i64 Ey] 36) = w0 := ⟨_, rfl⟩
  have HB0 : Hid (Below w.heap.size w w0) := Lib.hid (by rw [← hw0]; exact ((Below.refl _ w).alloc (Nat.le_refl _) _).alloc (by simp) _)
  have hs0 : w0.heap.size = w.heap.size + 2 := by rw [← hw0]; simp
  have HPA : Hid (Parts w0 w.heap.size nx (.slice ax lx cx) Ex) := Lib.hid (by rw [← hw0]; exact ⟨by simp [go_sem], by simp [go_sem], by simp [go_sem]⟩)
  have HPB : Hid (Parts w0 (w.heap.size + 1) ny (.slice ay ly cy) Ey) := Lib.hid (by rw [← hw0]; exact ⟨by simp [go_sem], by simp [go_sem], by simp [go_sem]⟩)
  rw [hw0]
  have hs1 : w.heap.size + 1 < w0.heap.size := by omega
  clear hw0 hs0
  refine wp_region_still (S := Below w0.heap.size w0) (by kernel_rfl) ?_
  have hS0 : Below w0.heap.size w0 w0.drew := (Below.refl _ w0).drew
  refine wpAnyR_take (i := 0) rfl (by kernel_rfl) (by kernel_rfl) (by kernel_rfl) (fun _ _ _ h => h) hS0 (.inl ⟨by kernel_rfl, fun w' hS => (by have y0 := (HPA.out.below hS (by omega)).c0; have y1 := (HPA.out.below hS (by omega)).c1; have y2 := (HPA.out.below hS (by omega)).c2; go_simp; exact ⟨rfl, rfl⟩)⟩) rfl (by go_simp; rfl) ?_
  refine wpAnyR_take (i := 1) rfl (by kernel_rfl) (by kernel_rfl) (by kernel_rfl) (fun _ _ _ h => h) hS0 (.inl ⟨by kernel_rfl, fun w' hS => (by have y0 := (HPB.out.below hS (by omega)).c0; have y1 := (HPB.out.below hS (by omega)).c1; have y2 := (HPB.out.below hS (by omega)).c2; go_simp; exact ⟨rfl, rfl⟩)⟩) rfl (by go_simp; rfl) ?_
  refine wpAnyR_one (i := 2) rfl (by kernel_rfl) rfl rfl ?_
  go_simp
  have HT0 := Lib.hid (HT.out.below HB0.out)
  refine (p_flip (HT0.out.below hS0) (HV.out.below (HB0.out.trans (hS0.mono (by omega)))) HY.out he1 he2).mono ?_
  rintro e1 w1 ⟨v1, rfl, hv1, hb1⟩
  have HB1 : Hid (Below w0.heap.size w0 w1) := Lib.hid (hS0.trans hb1)
  have HV1 := Lib.hid hv1.isD
  clear hv1 hb1
  refine ⟨HB1.out, wpAnyR_one (i := 3) rfl (by kernel_rfl) rfl rfl ?_⟩
  go_simp
  refine (p_dadd (HT0.out.below HB1.out) (HU.out.below (HB0.out.trans (HB1.out.mono (by omega)))) HV1.out HZ.out he1 he2).mono ?_
  rintro e2 w2 ⟨v2, rfl, hv2, hb2⟩
  have HB2 : Hid (Below w0.heap.size w0 w2) := Lib.hid (HB1.out.trans (hb2.mono HB1.out.size))
  have HV2 := Lib.hid hv2.isD
  clear hv2 hb2
  refine ⟨HB2.out, wpAnyR_one (i := 4) rfl (by kernel_rfl) rfl rfl ?_⟩
  go_simp
  refine (p_sign HV2.out).mono ?_
  rw [HC.out]
  rintro e3 w3 ⟨rfl, hb3⟩
  have HB3 : Hid (Below w0.heap.size w0 w3) := Lib.hid (HB2.out.trans (hb3.mono HB2.out.size))
  refine ⟨HB3.out, ?_⟩
  refine wpAnyR_take (i := 5) rfl (by kernel_rfl) (by kernel_rfl) (by kernel_rfl) (fun _ _ _ h => h) HB3.out (.inl ⟨by kernel_rfl, fun w' hS => (by go_simp; exact ⟨rfl, rfl⟩)⟩) rfl (by go_simp; rfl) ?_
  refine wpAnyR_done (by kernel_rfl) ?_ _
  clear hb3
  go_wp2
  go_ret
  exact ⟨rfl, HB0.out.trans (HB3.out.mono HB0.out.size)⟩

/-- a natural, and one more, or not -/
theorem c_more {n B D : Nat} {u : Value} {up neg : Bool} {w : World} (hu : IsN w u n) (h8 : (digs n).length ≤ 2000) (hB : w.cell? ⟨B, 0, none⟩ = some (.bool up)) (hD : w.cell? ⟨D, 0, none⟩ = some (.bool neg)) :
    Calls Tryz.prog 277 #[u, .pointer (some ⟨B, 0, none⟩), .pointer (some ⟨D, 0, none⟩)] w (MakesN w (if up = neg then n else n + 1)) := by
  have HU := Lib.hid hu
  have H8 := Lib.hid h8
  obtain ⟨a, l, c, rfl⟩ := hu.slice
  clear hu h8
  by_cases hn : up = neg
  · have hb : (up == neg) = true := by simp [hn]
    rw [if_pos hn]
    clear hn
    go_enter Tryz.func277, Tryz.ntmps277
    go_wp2
    go_ret
    exact ⟨_, rfl, HU.out, Below.refl _ _⟩
  · have hb : (up == neg) = false := by simpa using hn
    rw [if_neg hn]
    clear hn
    have HO := Lib.hid (fun w => p_of 1 (by decide) w)
    have HD1 : Hid ((digs 1).length ≤ 2000) := Lib.hid (Nat.le_trans (digs_len_le' (k := 1) (by decide)) (by decide))
    go_enter Tryz.func277, Tryz.ntmps277
    go_wp2_with fail
    refine (HO.out _).mono ?_
    rintro e1 w1 ⟨v1, rfl, hv1, hb1⟩
    have HV1 := Lib.hid hv1
    have HB1 := Lib.hid hb1
    clear hv1 hb1 hB hD
    go_wp2_with fail
    refine (p_add (HU.out.below HB1.out) HV1.out H8.out HD1.out).mono ?_
    rintro e2 w2 ⟨v2, rfl, hv2, hb2⟩
    have HV2 := Lib.hid hv2
    have HB2 := Lib.hid (HB1.out.trans (hb2.mono HB1.out.size))
    clear hv2 hb2
    go_wp2
    go_ret
    exact ⟨_, rfl, HV2.out, HB2.out⟩

set_option maxHeartbeats 4000000 in
theorem p_cut_le {v : Value} {z e : Int} {n : Nat} {up : Bool} {w : World} (ht : Tab w) (hv : IsD w v z e) (hz : Sz z) (he1 : -100000 ≤ e) (he2 : e ≤ 100000) (hn : blen (dM z) ≤ n) (hn8 : n ≤ 100000) : Calls Tryz.prog 275 #[v, .int .i64 n, .bool up] w (MakesZ w z e) := by
  have HX8 : Hid ((digs (dM z)).length ≤ 5000) := Lib.hid (Nat.le_trans hz.dM (by decide))
  obtain ⟨a, l, c, rfl, hl, hs⟩ := hv.parts
  have HS := Lib.hid hs
  have HT := Lib.hid ht
  have HV := Lib.hid hv
  have HZ := Lib.hid hz
  obtain ⟨E, hE⟩ : ∃ E, dE z e = E := ⟨_, rfl⟩
  obtain ⟨neg, hneg⟩ : ∃ neg, decide (z < 0) = neg := ⟨_, rfl⟩
  obtain ⟨b, hb⟩ : ∃ b, blen (dM z) = b := ⟨_, rfl⟩
  have HBL := Lib.hid hb
  rw [hb] at hn
  have hbn : ((b : Int) - n) ≤ 0 := by omega
  rw [hE, hneg] at HV
  rw [hE, hneg]
  clear hs hl hE hneg hv hz ht hb
  go_enter Tryz.func275, Tryz.ntmps275
  go_wp2_with fail
  obtain ⟨w0, hw0⟩ : ∃ w0, ((w.alloc (Obj.cells #[Value.bool neg, Value.slice a l c, Value.int IntKind.i64 E] 36)).alloc (Obj.cells #[Value.bool up] 4)).alloc (Obj.cells #[Value.bool false, Value.slice none 0 0, Value.int IntKind.i64 0] 36) = w0 := ⟨_, rfl⟩
  have HB0 : Hid (Below w.heap.size w w0) := Lib.hid (by rw [← hw0]; exact (((Below.refl _ w).alloc (Nat.le_refl _) _).alloc (by simp) _).alloc (by simp <;> omega) _)
  have hs0 : w0.heap.size = w.heap.size + 1 + 1 + 1 := by rw [← hw0]; simp
  have BX0 : Hid (Box w0 (w.heap.size + 1 + 1)) := Lib.hid (by have := box_alloc ((w.alloc (Obj.cells #[Value.bool neg, Value.slice a l c, Value.int IntKind.i64 E] 36)).alloc (Obj.cells #[Value.bool up] 4)); rw [show boxed _ = w0 from hw0] at this; simpa using this)
  have HPA : Hid (Parts w0 w.heap.size neg (.slice a l c) E) := Lib.hid (by rw [← hw0]; exact ⟨by simp [go_sem], by simp [go_sem], by simp [go_sem]⟩)
  have HS0 := Lib.hid hs0
  rw [hw0]
  clear hw0 hs0
  refine (p_len (HS.out.below HB0.out) HX8.out).mono ?_
  rw [HBL.out]
  rintro e1 w1 ⟨rfl, rfl⟩
  obtain ⟨c0, c1, c2⟩ := HPA.out
  go_wp2_with fail
  refine (p_shift (HT.out.below HB0.out) (HV.out.below HB0.out) HZ.out 0 he1 he2 (by omega) (by omega)).mono ?_
  rintro e2 w2 ⟨v2, rfl, hv2, hb2⟩
  rw [Int.add_zero] at hv2
  obtain ⟨n1, a1, l1, k1, E1, rfl⟩ := hv2.shape
  have HVV := Lib.hid hv2
  have HBw := Lib.hid (HB0.out.trans (hb2.mono HB0.out.size))
  have BX := Lib.hid (BX0.out.below hb2 (by rw [HS0.out]; omega))
  obtain ⟨x0, x1, x2, _, f0, f1, f2⟩ := BX.out
  have h1 : w.heap.size + 1 + 1 < w1.heap.size := by have := HS0.out; omega
  clear hv2 hb2 c0 c1 c2
  go_wp2
  refine bodyPost_ret (v := Dv n1 (.slice a1 l1 k1) E1) (by simp [results, Tryz.results275, go_sem, x0, x1, x2]) rfl ⟨_, rfl, ?_, Box.keepB HBw.out (by omega) _ _ _⟩
  exact (((HVV.out.set (p := ⟨w.heap.size + 1 + 1, 0, none⟩) h1 _).set (p := ⟨w.heap.size + 1 + 1, 1, none⟩) h1 _).set (p := ⟨w.heap.size + 1 + 1, 2, none⟩) h1 _).mono (by omega)

theorem blen_digs {n L : Nat} (h : (digs n).length ≤ L) : blen n ≤ 24 * L := blen_le _ n (by rw [← W_two]; exact Nat.lt_of_lt_of_le (digs_len_lt n) (W_mono h))
/-- cut by k bits -/
def cutN (neg up : Bool) (m k : Nat) : Nat := if up = neg then m / 2 ^ k else m / 2 ^ k + 1

set_option maxHeartbeats 4000000 in
theorem p_cut_gt {v : Value} {z e : Int} {n k : Nat} {up : Bool} {w : World} (ht : Tab w) (hv : IsD w v z e) (hz : Sz z) (he1 : -100000 ≤ e) (he2 : e ≤ 100000) (hn : blen (dM z) = k + n) (hk : 0 < k) (hn8 : n ≤ 100000) : Calls Tryz.prog 275 #[v, .int .i64 n, .bool up] w (MakesZ w (sgz (decide (z < 0)) (cutN (decide (z < 0)) up (dM z) k)) (dE z e + k)) := by
  have HX8 : Hid ((digs (dM z)).length ≤ 800) := Lib.hid hz.dM
  obtain ⟨hE1, hE2⟩ := hz.dE he1 he2
  have hk8 : k ≤ 20000 := by
    have h1 := blen_digs HX8.out
    omega
  have HC8 : Hid (∀ neg, (digs (cutN neg up (dM z) k)).length ≤ 1600) := Lib.hid (fun neg => by
    refine Nat.le_trans (digs_len_le' (k := 801) ?_) (by decide)
    have h1 := Nat.lt_of_lt_of_le (digs_len_lt (dM z)) (W_mono HX8.out)
    have h2 : dM z / 2 ^ k ≤ dM z := Nat.div_le_self _ _
    have h3 : W 801 = 16777216 * W 800 := W_succ 800
    have h4 := W_pos 800
    unfold cutN
    split <;> omega)
  obtain ⟨a, l, c, rfl, hl, hs⟩ := hv.parts
  have HS := Lib.hid hs
  have HT := Lib.hid ht
  obtain ⟨E, hE⟩ : ∃ E, dE z e = E := ⟨_, rfl⟩
  obtain ⟨neg, hneg⟩ : ∃ neg, decide (z < 0) = neg := ⟨_, rfl⟩
  obtain ⟨M, hM⟩ : ∃ M, dM z = M := ⟨_, rfl⟩
  have HBL := Lib.hid hn
  rw [hE] at hE1 hE2
  rw [hM] at HX8 HS HBL HC8
  have hbn : (((k + n : Nat) : Int) - n) = (k : Int) := by omega
  have hki : (0 : Int) < k := by omega
  have hwr : IntKind.i64.wrap (E + k) = E + k := by rw [IntKind.wrap_i64]; omega
  rw [hE, hneg, hM]
  clear hs hl hE hneg hv hz ht hM hn
  go_enter Tryz.func275, Tryz.ntmps275
  go_wp2_with fail
  obtain ⟨w0, hw0⟩ : ∃ w0, ((w.alloc (Obj.cells #[Value.bool neg, Value.slice a l c, Value.int IntKind.i64 E] 36)).alloc (Obj.cells #[Value.bool up] 4)).alloc (Obj.cells #[Value.bool false, Value.slice none 0 0, Value.int IntKind.i64 0] 36) = w0 := ⟨_, rfl⟩
  have HB0 : Hid (Below w.heap.size w w0) := Lib.hid (by rw [← hw0]; exact (((Below.refl _ w).alloc (Nat.le_refl _) _).alloc (by simp) _).alloc (by simp <;> omega) _)
  have hs0 : w0.heap.size = w.heap.size + 1 + 1 + 1 := by rw [← hw0]; simp
  have BX0 : Hid (Box w0 (w.heap.size + 1 + 1)) := Lib.hid (by have := box_alloc ((w.alloc (Obj.cells #[Value.bool neg, Value.slice a l c, Value.int IntKind.i64 E] 36)).alloc (Obj.cells #[Value.bool up] 4)); rw [show boxed _ = w0 from hw0] at this; simpa using this)
  have HPA : Hid (Parts w0 w.heap.size neg (.slice a l c) E) := Lib.hid (by rw [← hw0]; exact ⟨by simp [go_sem], by simp [go_sem], by simp [go_sem]⟩)
  have HUP : Hid (w0.cell? ⟨w.heap.size + 1, 0, none⟩ = some (.bool up)) := Lib.hid (by rw [← hw0]; simp [go_sem])
  have hs1 : w.heap.size + 2 < w0.heap.size := by omega
  rw [hw0]
  clear hw0 hs0
  refine (p_len (HS.out.below HB0.out) (Nat.le_trans HX8.out (by decide))).mono ?_
  rw [HBL.out]
  rintro e1 w1 ⟨rfl, rfl⟩
  go_wp2_with fail
  refine wp_region_still (S := Besides (w.heap.size + 1 + 1) w1) (by kernel_rfl) ?_
  have hS0 : Besides (w.heap.size + 1 + 1) w1 w1.drew := (Besides.refl _ w1).drew
  refine wpAnyR_take (i := 0) rfl (by kernel_rfl) (by kernel_rfl) (by kernel_rfl) (fun _ _ _ h => h) hS0 (.inl ⟨by kernel_rfl, fun w' hS => (by go_simp; exact ⟨rfl, rfl⟩)⟩) rfl (by go_simp; rfl) ?_
  refine wpAnyR_take (i := 1) rfl (by kernel_rfl) (by kernel_rfl) (by kernel_rfl) (fun _ _ _ h => h) hS0 (.inl ⟨by kernel_rfl, fun w' hS => (by have y0 := (HPA.out.besides hS (by omega) (by omega)).c0; have y1 := (HPA.out.besides hS (by omega) (by omega)).c1; have y2 := (HPA.out.besides hS (by omega) (by omega)).c2; go_simp; exact ⟨rfl, rfl⟩)⟩) rfl (by go_simp; rfl) ?_
  refine wpAnyR_take (i := 2) rfl (by kernel_rfl) (by kernel_rfl) (by kernel_rfl) (fun _ _ _ h => h) hS0 (.inl ⟨by kernel_rfl, fun w' hS => (by go_simp; exact ⟨rfl, rfl⟩)⟩) rfl (by go_simp; rfl) ?_
  refine wpAnyR_take (i := 3) rfl (by kernel_rfl) (by kernel_rfl) (by kernel_rfl) (fun _ _ _ h => h) hS0 (.inl ⟨by kernel_rfl, fun w' hS => (by go_simp; exact ⟨rfl, rfl⟩)⟩) rfl (by go_simp; rfl) ?_
  refine wpAnyR_take (i := 4) rfl (by kernel_rfl) (by kernel_rfl) (by kernel_rfl) (fun _ _ _ h => h) hS0 (.inl ⟨by kernel_rfl, fun w' hS => (by have y0 := (HPA.out.besides hS (by omega) (by omega)).c0; have y1 := (HPA.out.besides hS (by omega) (by omega)).c1; have y2 := (HPA.out.besides hS (by omega) (by omega)).c2; go_simp; exact ⟨rfl, rfl⟩)⟩) rfl (by go_simp; rfl) ?_
  refine wpAnyR_take (i := 5) rfl (by kernel_rfl) (by kernel_rfl) (by kernel_rfl) (fun _ _ _ h => h) hS0 (.inl ⟨by kernel_rfl, fun w' hS => (by go_simp; exact ⟨rfl, rfl⟩)⟩) rfl (by go_simp; rfl) ?_
  refine wpAnyR_take (i := 8) rfl (by kernel_rfl) (by kernel_rfl) (by kernel_rfl) (fun _ _ _ h => h) hS0 (.inl ⟨by kernel_rfl, fun w' hS => (by go_simp; exact ⟨rfl, rfl⟩)⟩) rfl (by go_simp; rfl) ?_
  refine wpAnyR_take (i := 9) rfl (by kernel_rfl) (by kernel_rfl) (by kernel_rfl) (fun _ _ _ h => h) hS0 (.inl ⟨by kernel_rfl, fun w' hS => (by have y0 := (HPA.out.besides hS (by omega) (by omega)).c0; have y1 := (HPA.out.besides hS (by omega) (by omega)).c1; have y2 := (HPA.out.besides hS (by omega) (by omega)).c2; go_simp; exact ⟨rfl, rfl⟩)⟩) rfl (by go_simp; rfl) ?_
  refine wpAnyR_take (i := 10) rfl (by kernel_rfl) (by kernel_rfl) (by kernel_rfl) (fun _ _ _ h => h) hS0 (.inl ⟨by kernel_rfl, fun w' hS => (by go_simp; exact ⟨rfl, rfl⟩)⟩) rfl (by go_simp; rfl) ?_
  refine wpAnyR_take (i := 11) rfl (by kernel_rfl) (by kernel_rfl) (by kernel_rfl) (fun _ _ _ h => h) hS0 (.inl ⟨by kernel_rfl, fun w' hS => (by go_simp; exact ⟨rfl, rfl⟩)⟩) rfl (by go_simp; rfl) ?_
  refine wpAnyR_one (i := 6) rfl (by kernel_rfl) rfl rfl ?_
  go_simp
  refine (p_shr (w := w1.drew) (HS.out.below (HB0.out.trans (Below.refl _ w1).drew)) (Nat.le_trans HX8.out (by decide)) k (by omega)).mono ?_
  rintro e5 w5 ⟨v5, rfl, hv5, hb5⟩
  have hb5' : Below w1.heap.size w1 w5 := (Below.refl _ w1).drew.trans hb5
  have HB5 := Lib.hid hb5'
  have HV5 := Lib.hid hv5
  have cup : w5.cell? ⟨w.heap.size + 1, 0, none⟩ = some (.bool up) := cell_at hb5' (by omega) HUP.out
  have cng := (HPA.out.below hb5' (by omega)).c0
  clear hv5 hb5 hb5'
  have HQ8 : Hid ((digs (M / 2 ^ k)).length ≤ 2000) := Lib.hid (Nat.le_trans (digs_mono (Nat.div_le_self _ _)) (Nat.le_trans HX8.out (by decide)))
  refine ⟨Besides.of_below HB5.out, wpAnyR_one (i := 7) rfl (by kernel_rfl) rfl rfl ?_⟩
  go_simp
  refine (c_more HV5.out HQ8.out cup cng).mono ?_
  clear cup cng
  rintro e6 w6 ⟨v6, rfl, hv6, hb6⟩
  have HB6 := Lib.hid (HB5.out.trans (hb6.mono HB5.out.size))
  have HV6 : Hid (IsN w6 v6 (cutN neg up M k)) := Lib.hid hv6
  clear hv6 hb6
  refine ⟨Besides.of_below HB6.out, wpAnyR_one (i := 12) rfl (by kernel_rfl) rfl rfl ?_⟩
  go_simp
  have HT0 := Lib.hid (HT.out.below HB0.out)
  refine (p_make neg (HT0.out.below HB6.out) HV6.out (HC8.out neg) (by omega) (by omega)).mono ?_
  rintro e7 w7 ⟨v7, rfl, hv7, hb7⟩
  obtain ⟨n1, a1, l1, k1, E1, rfl⟩ := hv7.shape
  have HVV := Lib.hid hv7
  have HB7 := Lib.hid (HB6.out.trans (hb7.mono HB6.out.size))
  have HBw := Lib.hid (HB0.out.trans (HB7.out.mono HB0.out.size))
  have BX := Lib.hid (BX0.out.below HB7.out (by omega))
  obtain ⟨x0, x1, x2, _, f0, f1, f2⟩ := BX.out
  have hs6 := HB6.out.size
  clear hv7 hb7
  refine ⟨Besides.of_below HB7.out, wpAnyR_one (i := 13) rfl (by kernel_rfl) rfl rfl ?_⟩
  go_simp
  refine ⟨(((Besides.of_below HB7.out).set (p := ⟨w.heap.size + 1 + 1, 0, none⟩) (.inr rfl) _).set (p := ⟨w.heap.size + 1 + 1, 1, none⟩) (.inr rfl) _).set (p := ⟨w.heap.size + 1 + 1, 2, none⟩) (.inr rfl) _, wpAnyR_done (by kernel_rfl) ?_ _⟩
  have h1 : w.heap.size + 1 + 1 < w6.heap.size := by omega
  go_wp2
  refine bodyPost_ret (v := Dv n1 (.slice a1 l1 k1) E1) (by simp [results, Tryz.results275, go_sem, x0, x1, x2]) rfl ⟨_, rfl, ?_, Box.keepB HBw.out (by omega) _ _ _⟩
  exact (((HVV.out.set (p := ⟨w.heap.size + 1 + 1, 0, none⟩) h1 _).set (p := ⟨w.heap.size + 1 + 1, 1, none⟩) h1 _).set (p := ⟨w.heap.size + 1 + 1, 2, none⟩) h1 _).mono (by omega)
end Go.Proofs.YtdflbipaicpdcaaGreatDoor
