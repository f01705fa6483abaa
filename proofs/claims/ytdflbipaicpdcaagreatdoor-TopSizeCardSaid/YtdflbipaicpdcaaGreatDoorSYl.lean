/- Powers of two, and what rows fit, by hand. Numbers of a row of finite floats: dyadic numbers, each with a row of its own. Squares of a row of finite floats: what its loop's round does. Sized, and the small number of an int, by hand. No condition. -/
import Derived.Test.YtdflbipaicpdcaaGreatDoorSYk
import Derived.Test.YtdflbipaicpdcaaGreatDoorSYf
import Derived.Test.YtdflbipaicpdcaaGreatDoorSUd
import Derived.Maps.AppendAt
import Derived.Test.YtdflbipaicpdcaaGreatDoorSHo
set_option linter.unusedVariables false
set_option linter.unusedSimpArgs false
namespace Go.Proofs.YtdflbipaicpdcaaGreatDoor
open Go.RowKit
set_option maxRecDepth 100000

/-- which power of two n is, if it is one up to the p-th -/
def PowSo (n p : Nat) (r : Int) : Prop := (∃ j, j ≤ p ∧ n = 2 ^ j ∧ r = (j : Int)) ∨ ((∀ j, j ≤ p → n ≠ 2 ^ j) ∧ r = -1)
def GivesPow (w : World) (n p : Nat) (e : Ending) (w' : World) : Prop := ∃ r, e = .returned (.int .i64 r) ∧ PowSo n p r ∧ w' = w

theorem shl_eq (n i : Nat) (h : i ≤ 20) : ((n : Int) == wrap64 (2 ^ i)) = decide (n = 2 ^ i) := by
  have hk : ∀ j, j < 21 → wrap64 (2 ^ j) = ((2 ^ j : Nat) : Int) := by decide +kernel
  rw [hk i (by omega), Bool.eq_iff_iff, beq_iff_eq, decide_eq_true_iff]
  exact ⟨fun e => by exact_mod_cast e, fun e => by rw [e]⟩
set_option maxHeartbeats 1000000 in
theorem power_w (n p : Nat) (hp : p ≤ 20) (w : World) : Calls Tryz.prog 14 #[.int .i64 (n : Int), .int .i64 (p : Int)] w (GivesPow w n p) := by
  go_enter Tryz.func14, Tryz.ntmps14
  go_wp2
  go_loopw [5] (fun x wr => ∃ (i : Nat), i ≤ p + 1 ∧ x = .int .i64 (i : Int) ∧ Hid (∀ j, j < i → n ≠ 2 ^ j) ∧ wr = w) (fun x _ => p + 1 - (intOf x).toNat)
  case atStart => exact ⟨0, Nat.zero_le _, rfl, Lib.hid fun j hj => absurd hj (Nat.not_lt_zero _), rfl⟩
  case round =>
    obtain ⟨i, hi, rfl, HJ, rfl⟩ := hrel
    by_cases h0 : i ≤ p
    · have hi0 : (i : Int) ≤ (p : Int) := by omega
      have hs := shl_eq n i (by omega)
      go_wp2_with fail
      · rename_i he
        go_ret
        exact ⟨_, rfl, .inl ⟨i, h0, he, rfl⟩, rfl⟩
      · rename_i he
        refine ⟨⟨i + 1, by omega, by go_num, Lib.hid fun j hj => ?_, trivial⟩, by simp [intOf]; omega⟩
        by_cases e : j = i
        · rw [e]; exact he
        · exact HJ.out j (by omega)
    · have hi0 : (p : Int) < (i : Int) := by omega
      go_wp2_with fail
      go_ret
      exact ⟨_, rfl, .inr ⟨fun j hj => HJ.out j (by omega), rfl⟩, rfl⟩

/-- do rows of n fit a kind of which every power of two fits -/
def GivesFit (w : World) (n : Nat) (e : Ending) (w' : World) : Prop := ∃ b, e = .returned (.bool b) ∧ (b = true → 1 ≤ n ∧ ∃ j, 1 ≤ j ∧ j ≤ 10 ∧ n = 2 ^ j) ∧ w' = w
theorem pow_ge {n p : Nat} {r : Int} (h : PowSo n p r) (hr : 1 ≤ r) : ∃ j, 1 ≤ j ∧ j ≤ p ∧ n = 2 ^ j := by
  rcases h with ⟨j, h1, h2, h3⟩ | ⟨_, h3⟩
  · exact ⟨j, by omega, h1, h2⟩
  · omega
set_option maxHeartbeats 1000000 in
theorem fits_w (k n : Nat) (hk : k = 6 ∨ k = 10) (hn : n ≤ 64) (w : World) : Calls Tryz.prog 10 #[.int .i64 (k : Int), .int .i64 (n : Int)] w (GivesFit w n) := by
  rcases hk with rfl | rfl
  · by_cases h1 : n < 1
    · have h1' : (n : Int) < 1 := by omega
      go_enter Tryz.func10, Tryz.ntmps10
      go_wp2_with fail
      go_ret
      exact ⟨_, rfl, (fun h => by cases h), rfl⟩
    · have h1' : (1 : Int) ≤ n := by omega
      have h2' : (n : Int) ≤ 1025 := by omega
      go_enter Tryz.func10, Tryz.ntmps10
      go_wp2_with fail
      refine (power_w n 10 (by decide) w).mono ?_
      rintro e w' ⟨r, rfl, hr, rfl⟩
      go_wp2_with fail
      go_ret
      exact ⟨_, rfl, fun h => ⟨by omega, pow_ge hr (of_decide_eq_true h)⟩, rfl⟩
  · by_cases h1 : n < 1
    · have h1' : (n : Int) < 1 := by omega
      go_enter Tryz.func10, Tryz.ntmps10
      go_wp2_with fail
      go_ret
      exact ⟨_, rfl, (fun h => by cases h), rfl⟩
    · have h1' : (1 : Int) ≤ n := by omega
      have h2' : (n : Int) ≤ 1025 := by omega
      go_enter Tryz.func10, Tryz.ntmps10
      go_wp2_with fail
      refine (power_w n 10 (by decide) w).mono ?_
      rintro e w' ⟨r, rfl, hr, rfl⟩
      go_wp2_with fail
      go_ret
      exact ⟨_, rfl, fun h => ⟨by omega, pow_ge hr (of_decide_eq_true h)⟩, rfl⟩

/-- rows of 2^p fit -/
theorem fits_pow (k j : Nat) (hk : k = 6 ∨ k = 10) (h1 : 1 ≤ j) (h2 : j ≤ 6) (w : World) : Calls Tryz.prog 10 #[.int .i64 (k : Int), .int .i64 ((2 ^ j : Nat) : Int)] w fun e w' => e = .returned (.bool true) ∧ w' = w := by
  obtain ⟨n, hn⟩ : ∃ n, 2 ^ j = n := ⟨_, rfl⟩
  have hj : 2 ≤ n ∧ n ≤ 64 := by
    rcases (by omega : j = 1 ∨ j = 2 ∨ j = 3 ∨ j = 4 ∨ j = 5 ∨ j = 6) with rfl | rfl | rfl | rfl | rfl | rfl <;> (subst hn; decide)
  have hinj : ∀ i, n = 2 ^ i → i = j := fun i hi => (Nat.pow_right_inj (by decide : 1 < 2)).1 (by rw [← hi, hn])
  rw [hn]
  have hP : ∀ r, PowSo n 10 r → r = (j : Int) := fun r hr => by
    rcases hr with ⟨i, _, e, rfl⟩ | ⟨h, _⟩
    · rw [hinj i e]
    · exact absurd hn.symm (h j (by omega))
  have h1' : (1 : Int) ≤ n := by omega
  have h2' : (n : Int) ≤ 1025 := by omega
  have hj1 : (1 : Int) ≤ j := by omega
  have HP := Lib.hid hP
  have HJ := Lib.hid hj1
  clear hP hinj hj hn hj1
  rcases hk with rfl | rfl
  · go_enter Tryz.func10, Tryz.ntmps10
    go_wp2_with fail
    refine (power_w n 10 (by decide) w).mono ?_
    rintro e w' ⟨r, rfl, hr, rfl⟩
    obtain rfl := HP.out r hr
    have hj1 := HJ.out
    go_wp2_with fail
    go_ret
    exact ⟨rfl, rfl⟩
  · go_enter Tryz.func10, Tryz.ntmps10
    go_wp2_with fail
    refine (power_w n 10 (by decide) w).mono ?_
    rintro e w' ⟨r, rfl, hr, rfl⟩
    obtain rfl := HP.out r hr
    have hj1 := HJ.out
    go_wp2_with fail
    go_ret
    exact ⟨rfl, rfl⟩

set_option maxHeartbeats 1000000 in
theorem size_w (k j : Nat) (hk : k = 6 ∨ k = 10) (h2 : j ≤ 6) (w : World) : Calls Tryz.prog 29 #[.int .i64 (k : Int), .int .i64 ((2 ^ j : Nat) : Int)] w fun e w' => e = .returned (.tuple #[.int .i64 j, .int .i64 j]) ∧ w' = w := by
  obtain ⟨n, hn⟩ : ∃ n, 2 ^ j = n := ⟨_, rfl⟩
  have hinj : ∀ i, n = 2 ^ i → i = j := fun i hi => (Nat.pow_right_inj (by decide : 1 < 2)).1 (by rw [← hi, hn])
  rw [hn]
  have hP : ∀ r, PowSo n 20 r → r = (j : Int) := fun r hr => by
    rcases hr with ⟨i, _, e, rfl⟩ | ⟨h, _⟩
    · rw [hinj i e]
    · exact absurd hn.symm (h j (by omega))
  have HP := Lib.hid hP
  clear hP hinj hn
  rcases hk with rfl | rfl
  · go_enter Tryz.func29, Tryz.ntmps29
    go_wp2_with fail
    refine (power_w n 20 (by decide) w).mono ?_
    rintro e w' ⟨r, rfl, hr, rfl⟩
    obtain rfl := HP.out r hr
    go_wp2_with fail
    refine (power_w n 20 (by decide) w').mono ?_
    rintro e w2 ⟨r, rfl, hr, rfl⟩
    obtain rfl := HP.out r hr
    go_wp2_with fail
    go_ret2
    exact ⟨rfl, rfl⟩
  · go_enter Tryz.func29, Tryz.ntmps29
    go_wp2_with fail
    refine (power_w n 20 (by decide) w).mono ?_
    rintro e w' ⟨r, rfl, hr, rfl⟩
    obtain rfl := HP.out r hr
    go_wp2_with fail
    refine (power_w n 20 (by decide) w').mono ?_
    rintro e w2 ⟨r, rfl, hr, rfl⟩
    obtain rfl := HP.out r hr
    go_wp2_with fail
    go_ret2
    exact ⟨rfl, rfl⟩
end Go.Proofs.YtdflbipaicpdcaaGreatDoor
namespace Go.Proofs.YtdflbipaicpdcaaGreatDoor
open Go.RowKit
set_option maxRecDepth 100000

theorem info36 : (Tryz.prog.info? 36).map (fun i => (i.zero, i.size, i.bytes)) = some (some (Dv false (.slice none 0 0) 0), 3, 40) := by kernel_rfl

/-- a dyadic number's cells -/
structure Dn where
  neg : Bool
  m : Value
  e : Int
def Dn.val (d : Dn) : Value := Dv d.neg d.m d.e
def Dn.cells (d : Dn) : List Value := [.bool d.neg, d.m, .int .i64 d.e]
def dcells : List Dn → List Value
  | [] => []
  | d :: l => d.cells ++ dcells l
theorem dcells_append : ∀ l m, dcells (l ++ m) = dcells l ++ dcells m
  | [], m => rfl
  | d :: l, m => by simp only [List.cons_append, dcells, dcells_append l m, List.append_assoc]
theorem d_append {w : World} {ops : Array Oper} {rest : List Oper} {o : Oper} {act : Act} {Q : Exit → Act → World → Prop} (hgd : o.guard = none) (s x : Operand)
    (ho : o.op = .call { callee := .builtin .append, args := #[s, x], argTypes := #[58, 58] })
    (base : Nat) (v : Value) (l : List Dn) (hs : act.eval s = v) (hown : w.ownsRow base 36 3 v l.length (dcells l)) (ad : Addr) (c : Nat) (hx : act.eval x = .slice (some ad) 1 c) (d : Dn) (hd : ∀ j u, d.cells[j]? = some u → w.cell? (ad.add j) = some u)
    (h1 : d.m.oneCell' = true) (hsz : l.length ≤ 10000) (hb : base ≤ w.heap.size)
    (h : ∀ v' w', w'.ownsRow base 36 3 v' (l.length + 1) (dcells (l ++ [d])) → w.grownBy w' v.ownBlock → (v'.ownBlock = v.ownBlock ∨ v'.ownBlock = some w.heap.size) → wpList Tryz.prog ops Q rest (act.put o.dst v') w') : wpList Tryz.prog ops Q (o :: rest) act w := by
  obtain ⟨i0, hi, hz0, hz1, hz2⟩ := info_parts info36
  refine wpList_append_own_at _ hgd s x 58 ho base 36 i0 (Dv false (.slice none 0 0) 0) 3 40 Tryz.underlying58 hi hz0 hz1 hz2 rfl (by decide) v l.length (dcells l) hs hown ad 1 c d.cells hx (by simp [Dn.cells]) hd ?_ (by unfold maxLen; omega) (by omega) hb ?_
  · intro u hu
    simp only [Dn.cells, List.mem_cons, List.not_mem_nil, or_false] at hu
    rcases hu with rfl | rfl | rfl
    · rfl
    · exact h1
    · rfl
  · intro v' w1 ho' hg _ hb'
    refine h v' w1 ?_ hg hb'
    rw [dcells_append]
    simpa [dcells] using ho'

theorem Ila.same {w w' : World} {v : Value} {l : List Nat} (h : Ila w v l) (hs : ∀ ad n c, v = .slice (some ad) n c → n ≠ 0 → w'.heap[ad.block]? = w.heap[ad.block]?) : Ila w' v l := by
  obtain ⟨a, n, c, rfl, h1, h2, h3⟩ := h
  refine ⟨a, n, c, rfl, ⟨h1.1, ?_⟩, h2, h3⟩
  rcases h1.2 with h0 | ⟨b, off, rfl, hc⟩
  · exact .inl h0
  · refine .inr ⟨b, off, rfl, fun k hk => ?_⟩
    rw [World.cell?_of_block (w := w) (a := ⟨b, off + k, none⟩) (hs ⟨b, off, none⟩ _ _ rfl (by have := h1.1; omega))]
    exact hc k hk
theorem IsD.same {w w' : World} {d : Dn} {z e : Int} (h : IsD w d.val z e) (hs : ∀ ad n c, d.m = .slice (some ad) n c → n ≠ 0 → w'.heap[ad.block]? = w.heap[ad.block]?) : IsD w' d.val z e := by
  obtain ⟨s, h1, h2⟩ := h
  refine ⟨s, h1, Ila.same h2 fun ad n c e hn => hs ad n c ?_ hn⟩
  have h3 : (#[Value.bool d.neg, d.m, Value.int IntKind.i64 d.e] : Array Value) = #[Value.bool (decide (z < 0)), s, Value.int IntKind.i64 (dE z _)] := Value.agg.inj h1
  have h4 := congrArg Array.toList h3
  simp only [List.cons.injEq] at h4
  rw [h4.2.1]; exact e

theorem own_below {w w1 : World} {base : Nat} {e : TypeId} {size n : Nat} {v : Value} {xs : List Value} (h : w.ownsRow base e size v n xs) (hb : Below w.heap.size w w1) : w1.ownsRow base e size v n xs := by
  refine ⟨h.1, ?_⟩
  rcases h.2 with h1 | ⟨g, cap, cur, h1, h2, h3, h4⟩
  · exact .inl h1
  · exact .inr ⟨g, cap, cur, h1, h2, by rw [hb.block g (Array.getElem?_eq_some_iff.1 h3).1]; exact h3, h4⟩
theorem own_block_lt {w : World} {base : Nat} {e : TypeId} {size n : Nat} {v : Value} {xs : List Value} (h : w.ownsRow base e size v n xs) {k : Nat} (hk : v.ownBlock = some k) : k < w.heap.size ∧ base ≤ k := by
  rcases h.2 with ⟨rfl, _⟩ | ⟨g, cap, cur, rfl, h2, h3, h4⟩
  · cases hk
  · cases hk; exact ⟨(Array.getElem?_eq_some_iff.1 h3).1, h2⟩
theorem cell_three (w : World) (x y z : Value) (t : TypeId) : ∀ j u, [x, y, z][j]? = some u → (w.alloc (.cells #[x, y, z] t)).cell? ((⟨w.heap.size, 0, none⟩ : Addr).add j) = some u := by
  intro j u hj
  match j, hj with
  | 0, hj => simp at hj; subst hj; simp [Addr.add]
  | 1, hj => simp at hj; subst hj; simp [Addr.add]
  | 2, hj => simp at hj; subst hj; simp [Addr.add]

theorem cell_three' (w : World) (x y z : Value) (t : TypeId) (h : Nat) (hh : h = w.heap.size) : ∀ j u, [x, y, z][j]? = some u → (w.alloc (.cells #[x, y, z] t)).cell? ((⟨h, 0, none⟩ : Addr).add j) = some u := by
  subst hh; exact cell_three w x y z t

/-- where a number's row lies -/
def Dn.at_ (d : Dn) (w : World) (s : Value) : Prop := ∀ ad l c, d.m = .slice (some ad) l c → l ≠ 0 → s.ownBlock ≠ some ad.block ∧ ad.block < w.heap.size

/-- the numbers of so many floats, in a row of the call's own -/
structure NumsSo (w0 wr : World) (f : Nat → Nat) (s : Value) (ds : List Dn) : Prop where
  own : wr.ownsRow w0.heap.size 36 3 s ds.length (dcells ds)
  num : ∀ j d, ds[j]? = some d → IsD wr d.val (Fl.V (f j)) (-1074) ∧ d.at_ wr s
  bel : Below w0.heap.size w0 wr

theorem isD_lt {w : World} {d : Dn} {z e : Int} (h : IsD w d.val z e) {ad : Addr} {l c : Nat} (hm : d.m = .slice (some ad) l c) (hl : l ≠ 0) : ad.block < w.heap.size := by
  obtain ⟨s, h1, h2⟩ := h
  have h3 : (#[Value.bool d.neg, d.m, Value.int IntKind.i64 d.e] : Array Value) = #[Value.bool (decide (z < 0)), s, Value.int IntKind.i64 (dE z _)] := Value.agg.inj h1
  have h4 := congrArg Array.toList h3
  simp only [List.cons.injEq] at h4
  rw [← h4.2.1, hm] at h2
  obtain ⟨a, n, c', e1, i1, _, _⟩ := h2
  cases e1
  rcases i1.2 with h0 | ⟨b, off, e2, hc⟩
  · have := i1.1; exact absurd (by omega) hl
  · cases e2
    have := hc 0 (by have := i1.1; omega)
    exact World.block_lt_of_cell? w _ this

theorem nums_step {w wr w1 W2 w' : World} {f : Nat → Nat} {s v' : Value} {ds : List Dn} {d : Dn} {i : Nat} (HN : NumsSo w wr f s ds) (hi : ds.length = i) (HB : Below wr.heap.size wr w1) (hW : Below w1.heap.size w1 W2) (hsz : W2.heap.size = w1.heap.size + 2)
    (HV : IsD w1 d.val (Fl.V (f i)) (-1074)) (hnew : NewDv wr d.val) (ho : w'.ownsRow w.heap.size 36 3 v' (ds.length + 1) (dcells (ds ++ [d]))) (hg : W2.grownBy w' s.ownBlock) (hb' : v'.ownBlock = s.ownBlock ∨ v'.ownBlock = some W2.heap.size) : NumsSo w w' f v' (ds ++ [d]) := by
  have hs1 := HB.size
  have hs2 := HN.bel.size
  have hs3 := hg.size
  refine ⟨by rw [List.length_append]; exact ho, fun j d' hd => ?_, ⟨?_, ?_, ?_, by omega, fun k hk => ?_⟩⟩
  · by_cases hj : j < ds.length
    · rw [List.getElem?_append_left hj] at hd
      obtain ⟨h1, h2⟩ := HN.num j d' hd
      have hold : ∀ ad l c, d'.m = .slice (some ad) l c → l ≠ 0 → w'.heap[ad.block]? = wr.heap[ad.block]? := fun ad l c e hl => by
        obtain ⟨n1, n2⟩ := h2 ad l c e hl
        rw [hg.block ad.block (by omega) (fun e => n1 e.symm), hW.block ad.block (by omega), HB.block ad.block n2]
      refine ⟨h1.same hold, fun ad l c e hl => ?_⟩
      obtain ⟨n1, n2⟩ := h2 ad l c e hl
      refine ⟨fun e2 => ?_, by omega⟩
      rcases hb' with hb' | hb'
      · rw [hb'] at e2; exact n1 e2
      · rw [hb'] at e2; have := Option.some.inj e2; omega
    · have hj2 : j = ds.length := by
        have := (List.getElem?_eq_some_iff.1 hd).1
        rw [List.length_append, List.length_singleton] at this
        omega
      subst hj2
      rw [List.getElem?_append_right (Nat.le_refl _), Nat.sub_self] at hd
      simp only [List.getElem?_cons_zero, Option.some.injEq] at hd
      subst hd
      rw [hi]
      have hne : ∀ ad l c, d.m = .slice (some ad) l c → l ≠ 0 → s.ownBlock ≠ some ad.block ∧ ad.block < w1.heap.size := fun ad l c e hl => by
        refine ⟨fun e2 => ?_, isD_lt HV e hl⟩
        have h1 := (own_block_lt HN.own e2).1
        have h2 := hnew d.neg ad l c d.e (by unfold Dn.val; rw [e])
        omega
      refine ⟨HV.same fun ad l c e hl => ?_, fun ad l c e hl => ?_⟩
      · obtain ⟨n1, n2⟩ := hne ad l c e hl
        rw [hg.block ad.block (by omega) (fun e => n1 e.symm), hW.block ad.block n2]
      · obtain ⟨n1, n2⟩ := hne ad l c e hl
        refine ⟨fun e2 => ?_, by omega⟩
        rcases hb' with hb' | hb'
        · rw [hb'] at e2; exact n1 e2
        · rw [hb'] at e2; have := Option.some.inj e2; omega
  · rw [hg.os, hW.os, HB.os, HN.bel.os]
  · rw [hg.tape, hW.tape, HB.tape, HN.bel.tape]
  · rw [hg.output, hW.output, HB.output, HN.bel.output]
  · rw [hg.block k (by omega) (fun e => ?_), hW.block k (by omega), HB.block k (by omega), HN.bel.block k hk]
    have := (own_block_lt HN.own e.symm).2
    omega

def NumsGive (w : World) (f : Nat → Nat) (n : Nat) (e : Ending) (w' : World) : Prop := ∃ v ds, e = .returned (.tuple #[v, .bool true]) ∧ ds.length = n ∧ NumsSo w w' f v ds

set_option maxHeartbeats 2000000 in
theorem numbers_w (a : Option Addr) (len cap : Nat) (f : Nat → Nat) (w : World) (hr : RowIn3 w a len cap f) (hfin : ∀ i, i < len → Fl.Fin (f i)) (hlen : len ≤ 64) : Calls Tryz.prog 27 #[.slice a len cap] w (NumsGive w f len) := by
  have HR := Lib.hid hr
  have HF := Lib.hid hfin
  clear hr hfin
  go_enter Tryz.func27, Tryz.ntmps27
  go_wp2
  go_loopw [4, 5] (fun s x wr => ∃ (i : Nat) (ds : List Dn), i ≤ len ∧ x = .int .i64 (i : Int) ∧ Hid (ds.length = i) ∧ Hid (NumsSo w wr f s ds)) (fun _ x _ => len - (intOf x).toNat)
  case atStart => exact ⟨0, [], Nat.zero_le _, rfl, Lib.hid rfl, Lib.hid ⟨World.ownsRow_nil _ _ _ _, fun j d h => (by simp at h), Below.refl _ _⟩⟩
  case round =>
    obtain ⟨i, ds, hi, rfl, HD, HN⟩ := hrel
    by_cases h0 : i < len
    · obtain ⟨b, off, rfl, hbw, hcell⟩ : ∃ b off, a = some ⟨b, off, none⟩ ∧ b < w.heap.size ∧ w.cell? ⟨b, off + i, none⟩ = some (.float .f64 (f i)) := by
        rcases HR.out with ⟨_, h, _⟩ | ⟨b, off, h1, h2, _, h3⟩
        · omega
        · exact ⟨b, off, h1, h2, (h3 i h0).1⟩
      have hcr : wr.cell? ⟨b, off + i, none⟩ = some (.float .f64 (f i)) := by
        rw [HN.out.bel.cell (p := ⟨b, off + i, none⟩) hbw]; exact hcell
      have hi0 : (i : Int) < (len : Int) := by omega
      go_wp2_with fail
      refine (f_of_f (f i) (HF.out i h0).1 wr).mono ?_
      rintro e w1 ⟨v, rfl, hv, hb, hnew⟩
      have hok : Fl.isFin (f i) = true := decide_eq_true (HF.out i h0).2
      rw [hok]
      rw [Fl.VV_fin (HF.out i h0).2] at hv
      obtain ⟨n1, a1, l1, k1, E1, rfl⟩ := hv.shape
      have HV := Lib.hid hv
      have HB := Lib.hid hb
      clear hv hb hok hcr hcell
      have HO1 := Lib.hid (own_below HN.out.own HB.out)
      have HS1 := Lib.hid (Nat.le_trans HN.out.bel.size HB.out.size)
      have HD2 : Hid (ds.length ≤ 10000) := Lib.hid (by rw [HD.out]; omega)
      go_wp2_with (at_builtin; refine d_append rfl (.tmp 24) (.tmp 26) rfl w.heap.size u4 ds rfl ((HO1.out.alloc _).alloc _) _ _ rfl ⟨n1, .slice a1 l1 k1, E1⟩ (cell_three' _ _ _ _ _ (w1.heap.size + 1) (by simp)) rfl HD2.out (Nat.le_trans HS1.out (by simp; omega)) ?_; intro v' w' ho hg hb')
      go_roundw
      case rel => exact ⟨i + 1, ds ++ [⟨n1, .slice a1 l1 k1, E1⟩], by omega, by go_num, Lib.hid (by rw [List.length_append, HD.out]; rfl), Lib.hid (nums_step (w1 := w1) (d := ⟨n1, .slice a1 l1 k1, E1⟩) HN.out HD.out HB.out (((Below.refl _ w1).alloc (Nat.le_refl _) _).alloc (by simp) _) (by simp) HV.out hnew.out ho hg (by simpa using hb'))⟩
      case measure => simp [intOf]; omega
    · have hle : (len : Int) ≤ (i : Int) := by omega
      have hin : i = len := by omega
      go_wp2_with fail
      go_ret2
      exact ⟨_, ds, rfl, by rw [HD.out, hin], HN.out⟩
end Go.Proofs.YtdflbipaicpdcaaGreatDoor
namespace Go.Proofs.YtdflbipaicpdcaaGreatDoor
open Go.RowKit
set_option maxRecDepth 100000

/-- the sum of the squares of the first k -/
def sqs (f : Nat → Nat) : Nat → Int
  | 0 => 0
  | k + 1 => sqs f k + Fl.V (f k) * Fl.V (f k)
theorem RowIn3.below {w w' : World} {a : Option Addr} {len cap : Nat} {f : Nat → Nat} (h : RowIn3 w a len cap f) (hb : Below w.heap.size w w') : RowIn3 w' a len cap f := by
  rcases h with h | ⟨b, off, h1, h2, h3, h4⟩
  · exact .inl h
  · exact .inr ⟨b, off, h1, Nat.lt_of_lt_of_le h2 hb.size, h3, fun i hi => ⟨by rw [hb.cell (p := ⟨b, off + i, none⟩) h2]; exact (h4 i hi).1, (h4 i hi).2⟩⟩


/-- the number so far, in the variable b -/
structure SumAt (w : World) (b : Nat) (n : Bool) (a : Option Addr) (l c : Nat) (E z : Int) : Prop where
  var : Var w b n a l c E
  num : IsD w (Dv n (.slice a l c) E) z (-2148)
  far : ∀ ad, a = some ad → ad.block ≠ b
  f1 : w.frozen? ⟨b, 1, none⟩ = false
  f2 : w.frozen? ⟨b, 2, none⟩ = false
def farD (b : Nat) (v : Value) : Prop := ∀ n ad l c E, v = Dv n (.slice (some ad) l c) E → ad.block ≠ b

theorem own_cell {w : World} {base : Nat} {v : Value} {n : Nat} {xs : List Value} {g c k : Nat} {u : Value} (h : w.ownsRow base 36 3 v n xs) (hv : v = .slice (some ⟨g, 0, none⟩) n c) (hu : xs[k]? = some u) : w.cell? ⟨g, k, none⟩ = some u := by
  rcases h.2 with ⟨e, _⟩ | ⟨g', c', cur, e, _, hg, _, _, hsz, ht⟩
  · rw [e] at hv; cases hv
  · rw [e] at hv
    cases hv
    have hk := (List.getElem?_eq_some_iff.1 hu).1
    rw [← ht, List.getElem?_take_of_lt (by rw [← ht] at hk; simp at hk; omega), Array.getElem?_toList] at hu
    simp only [World.cell?, hg]
    simpa using hu
theorem dcells_at : ∀ (ds : List Dn) (i : Nat) (d : Dn) (k : Nat) (u : Value), ds[i]? = some d → d.cells[k]? = some u → (dcells ds)[i * 3 + k]? = some u
  | [], i, d, k, u, h, _ => by simp at h
  | e :: l, 0, d, k, u, h, hu => by
    simp at h; subst h
    have hk : k < 3 := (List.getElem?_eq_some_iff.1 hu).1
    rw [dcells, Nat.zero_mul, Nat.zero_add, List.getElem?_append_left (by simpa [Dn.cells] using hk)]
    exact hu
  | e :: l, i + 1, d, k, u, h, hu => by
    rw [dcells, List.getElem?_append_right (by simp [Dn.cells]; omega)]
    rw [show (i + 1) * 3 + k - e.cells.length = i * 3 + k by simp [Dn.cells]; omega]
    exact dcells_at l i d k u (by simpa using h) hu

theorem bd_zero (L : Nat) : Bd 0 L := ⟨Nat.two_pow_pos L⟩
theorem sqs_bd (f : Nat → Nat) : ∀ k, (∀ j, j < k → Bd (Fl.V (f j)) 2098) → Bd (sqs f k) (4196 + k)
  | 0, _ => bd_zero _
  | k + 1, h => (sqs_bd f k fun j hj => h j (by omega)).add (((h k (by omega)).mul (h k (by omega)) rfl).mono (by omega)) rfl
/-- what the operations leave -/
def VQ (wr w : World) (b g i len cv : Nat) (V0 : Value) (d : Dn) (z x : Int) (j : Nat) (v : Value) : Prop :=
  match j with
  | 0 => v = V0
  | 1 => v = .slice (some ⟨g, 0, none⟩) len cv
  | 2 => v = .int .i64 (i : Int)
  | 3 => v = .pointer (some ⟨g, i * 3, none⟩)
  | 4 => v = d.val
  | 5 => v = .slice (some ⟨g, 0, none⟩) len cv
  | 6 => v = .int .i64 (i : Int)
  | 7 => v = .pointer (some ⟨g, i * 3, none⟩)
  | 8 => v = d.val
  | 9 => IsD w v (x * x) (-2148) ∧ NewDv wr v
  | 10 => IsD w v (z + x * x) (-2148) ∧ farD b v
  | _ => True
theorem block_far {w : World} {b b' : Nat} (h : b' ≠ b) (k : Nat) (u : Value) : (w.setCell ⟨b, k, none⟩ u).heap[b']? = w.heap[b']? := by
  simp [World.setCell, Array.getElem?_modify, Ne.symm h]
/-- a number of another block is written into it -/
theorem IsD.write {w : World} {n : Bool} {a : Option Addr} {l c : Nat} {E z e : Int} (h : IsD w (Dv n (.slice a l c) E) z e) {b : Nat} (hf : ∀ ad, a = some ad → ad.block ≠ b) (k : Nat) (u : Value) : IsD (w.setCell ⟨b, k, none⟩ u) (Dv n (.slice a l c) E) z e := by
  have h' : IsD w (Dn.val ⟨n, .slice a l c, E⟩) z e := h
  refine h'.same (w' := w.setCell ⟨b, k, none⟩ u) fun ad l' c' e' hl => ?_
  cases e'
  exact block_far (hf ad rfl) k u
theorem isD_nil (w : World) (e : Int) : IsD w (Dv false (.slice none 0 0) 0) 0 e := ⟨_, by rw [dE_zero]; rfl, by rw [dM_zero]; exact isN_nil _⟩
theorem VQ.below {wr w w' : World} {b g i len cv : Nat} {V0 : Value} {d : Dn} {z x : Int} {j : Nat} {v : Value} (h : VQ wr w b g i len cv V0 d z x j v) (hb : Below w.heap.size w w') : VQ wr w' b g i len cv V0 d z x j v := by
  match j, h with
  | 0, h | 1, h | 2, h | 3, h | 4, h | 5, h | 6, h | 7, h | 8, h => exact h
  | 9, h => exact ⟨h.1.below hb, h.2⟩
  | 10, h => exact ⟨h.1.below hb, h.2⟩
  | _ + 11, h => trivial

theorem on_set' {L : Array Bool} {N i j : Nat} (hs : L.size = N) (hi : i < N) : on (L.setIfInBounds i true) j ↔ (j = i ∨ on L j) := by
  unfold on
  rw [Array.getD_eq_getD_getElem?, Array.getD_eq_getD_getElem?, Array.getElem?_setIfInBounds]
  by_cases h : i = j
  · subst h; simp [hs, hi]
  · simp [h, Ne.symm h]
theorem off' {L : Array Bool} {i : Nat} (hL : L.getD i true = false) : ¬ on L i := fun k => by
  unfold on at k
  rw [Array.getD_eq_getD_getElem?] at hL k
  cases e : L[i]? with
  | none => rw [e] at k; cases k
  | some b => rw [e] at hL k; simp at hL k; rw [hL] at k; cases k
/-- what holds while the round's region is walked -/
structure SqI (A : (Nat → Value) → Act) (V : World → Nat → Value → Prop) (W : World → Prop) (wr : World) (L : Array Bool) (a : Act) (w : World) : Prop where
  size : L.size = 12
  body : (¬ on L 11 ∧ ∃ x, a = A x ∧ Below wr.heap.size wr w ∧ ∀ j, j < 11 → on L j → V w j (x j)) ∨ ((∀ j, j < 12 → on L j) ∧ ∃ x, a = A x ∧ W w)
theorem SqI.put {A : (Nat → Value) → Act} {V : World → Nat → Value → Prop} {W : World → Prop} {wr w w' : World} {L : Array Bool} {a' : Act} {x : Nat → Value} {i : Nat} {v : Value} (hs : L.size = 12) (hn : ¬ on L 11) (hb : Below wr.heap.size wr w) (hv : ∀ j, j < 11 → on L j → V w j (x j))
    (hV : ∀ j y, V w j y → V w' j y) (hi : i < 11) (hw : Below w.heap.size w w') (hi' : V w' i v) (he : a' = A (fun k => if k = i then v else x k)) : SqI A V W wr (L.setIfInBounds i true) a' w' := by
  have hn' : ∀ j, on (L.setIfInBounds i true) j ↔ (j = i ∨ on L j) := fun j => on_set' hs (by omega)
  refine ⟨by simp [hs], .inl ⟨fun k => ?_, _, he, hb.trans (hw.mono hb.size), fun j hj ho => ?_⟩⟩
  · rcases (hn' 11).1 k with e | e
    · omega
    · exact hn e
  · by_cases e : j = i
    · rw [if_pos e, e]; exact hi'
    · rw [if_neg e]
      rcases (hn' j).1 ho with e2 | e2
      · exact absurd e2 e
      · exact hV _ _ (hv j hj e2)

set_option maxHeartbeats 2000000 in
theorem squares_w (a : Option Addr) (len cap : Nat) (f : Nat → Nat) (w : World) (hr : RowIn3 w a len cap f) (hfin : ∀ i, i < len → Fl.Fin (f i)) (hlen : len ≤ 64) : Calls Tryz.prog 12 #[.slice a len cap] w fun e w' => ∃ v, e = .returned (.tuple #[v, .bool true]) ∧ IsD w' v (sqs f len) (-2148) ∧ Below w.heap.size w w' := by
  have HR := Lib.hid hr
  have HF := Lib.hid hfin
  clear hr hfin
  go_enter Tryz.func12, Tryz.ntmps12
  go_wp2_with fail
  obtain ⟨w0, hw0⟩ : ∃ w0, w.alloc (Obj.cells #[Value.bool false, Value.slice none 0 0, Value.int IntKind.i64 0] 36) = w0 := ⟨_, rfl⟩
  have HB0 : Hid (Below w.heap.size w w0) := Lib.hid (by rw [← hw0]; exact below_alloc _ _)
  have HS0 : Hid (w0.heap.size = w.heap.size + 1) := Lib.hid (by rw [← hw0]; simp)
  have HBX0 : Hid (Box w0 w.heap.size) := Lib.hid (by rw [← hw0]; exact box_alloc w)
  rw [hw0]
  clear hw0
  refine (numbers_w a len cap f w0 (HR.out.below HB0.out) HF.out hlen).mono ?_
  rintro e w1 ⟨v, ds, rfl, hds, hn⟩
  have HD := Lib.hid hds
  have HN := Lib.hid hn
  clear hds hn
  obtain ⟨av, cv, rfl⟩ : ∃ av cv, v = .slice av len cv := by
    rw [← HD.out]
    rcases HN.out.own.2 with ⟨h1, h2⟩ | ⟨g, cap, cur, h1, _⟩
    · exact ⟨none, 0, by rw [h1, h2]⟩
    · exact ⟨_, _, h1⟩
  go_wp2_with fail
  obtain ⟨w2, hw2⟩ : ∃ w2, w1.alloc (Obj.cells #[Value.bool false, Value.slice none 0 0, Value.int IntKind.i64 0] 36) = w2 := ⟨_, rfl⟩
  have HB2 : Hid (Below w1.heap.size w1 w2) := Lib.hid (by rw [← hw2]; exact below_alloc _ _)
  have HV2 : Hid (SumAt w2 w1.heap.size false none 0 0 0 (sqs f 0)) := Lib.hid (by rw [← hw2]; exact ⟨var_alloc _ _ _ _ _ _, isD_nil _ _, (fun ad h => by cases h), by simp [go_sem], by simp [go_sem]⟩)
  rw [hw2]
  clear hw2
  go_loopw [7] (fun x wr => ∃ (i : Nat) (n : Bool) (a : Option Addr) (l c : Nat) (E : Int), i ≤ len ∧ x = .int .i64 (i : Int) ∧ Hid (Below w1.heap.size w1 wr) ∧ Hid (SumAt wr w1.heap.size n a l c E (sqs f i))) (fun x _ => len - (intOf x).toNat)
  case atStart => exact ⟨0, _, _, _, _, _, Nat.zero_le _, rfl, HB2, HV2⟩
  case round =>
    obtain ⟨i, n, la, l, c, E, hi, rfl, HB, HV⟩ := hrel
    have HB1 : Hid (Below w0.heap.size w0 wr) := Lib.hid (HN.out.bel.trans (HB.out.mono HN.out.bel.size))
    have HB' : Hid (Below w.heap.size w wr) := Lib.hid (HB0.out.trans (HB1.out.mono HB0.out.size))
    by_cases h0 : i < len
    · have hi0 : (i : Int) < (len : Int) := by omega
      obtain ⟨g, hg⟩ : ∃ g, av = some ⟨g, 0, none⟩ := by
        rcases HN.out.own.2 with ⟨_, h2⟩ | ⟨g, cap, cur, e, _⟩
        · rw [HD.out] at h2; omega
        · cases e; exact ⟨_, rfl⟩
      subst hg
      go_wp2_with fail
      rename_i K hK
      obtain ⟨d, hd⟩ : ∃ d, ds[i]? = some d := ⟨ds[i]'(by rw [HD.out]; exact h0), List.getElem?_eq_getElem _⟩
      have hgl := own_block_lt HN.out.own (k := g) rfl
      have hcell := fun k u (hu : d.cells[k]? = some u) => own_cell (g := g) (c := cv) (n := ds.length) HN.out.own (by rw [HD.out]) (dcells_at ds i d k u hd hu)
      obtain ⟨hdn, hda⟩ := HN.out.num i d hd
      have e0 : wr.cell? ⟨g, i * 3, none⟩ = some (.bool d.neg) := cell_at HB.out hgl.1 (hcell 0 _ rfl)
      have e1 : wr.cell? ⟨g, i * 3 + 1, none⟩ = some d.m := cell_at HB.out hgl.1 (hcell 1 _ rfl)
      have e2 : wr.cell? ⟨g, i * 3 + 2, none⟩ = some (.int .i64 d.e) := cell_at HB.out hgl.1 (hcell 2 _ rfl)
      have HE := Lib.hid (And.intro e0 (And.intro e1 e2))
      have HDN := Lib.hid (hdn.below HB.out)
      clear e0 e1 e2 hcell hda hdn
      have HX : Hid (Bd (Fl.V (f i)) 2098) := Lib.hid (by rw [← Fl.VV_fin (HF.out i h0).2]; exact bd_VV _)
      have HXX : Hid (Bd (Fl.V (f i) * Fl.V (f i)) 4196) := Lib.hid (HX.out.mul HX.out rfl)
      have HZ : Hid (Bd (sqs f i) (4196 + i)) := Lib.hid (sqs_bd f i fun j hj => by rw [← Fl.VV_fin (HF.out j (by omega)).2]; exact bd_VV _)
      have hbl : w1.heap.size < wr.heap.size := HV.out.var.lt
      refine wp_region_any (by kernel_rfl) (wpAny_inv (SqI (fun x => { tmps := #[Value.slice a len cap, undef, Value.pointer (some { block := w.heap.size, off := 0 }), Value.bool false, Value.slice (some { block := g, off := 0 }) len cv, Value.bool true, Value.pointer (some { block := w1.heap.size, off := 0 }), Value.int IntKind.i64 ↑i, Value.tuple #[Value.slice (some { block := g, off := 0 }) len cv, Value.bool true], Value.slice a len cap, Value.tuple #[Value.slice (some { block := g, off := 0 }) len cv, Value.bool true], Value.slice (some { block := g, off := 0 }) len cv, Value.bool true, Value.int IntKind.i64 ↑i, Value.slice (some { block := g, off := 0 }) len cv, Value.int IntKind.i64 ↑len, Value.bool true, u17, u18, x 0, x 1, x 2, x 3, x 4, x 5, x 6, x 7, x 8, x 9, x 10, undef, undef], defers := [] })
        (fun w' => VQ wr w' w1.heap.size g i len cv (Dv n (.slice la l c) E) d (sqs f i) (Fl.V (f i))) (fun w' => ∃ n a l c E, Hid (Below w1.heap.size wr w') ∧ Hid (SumAt w' w1.heap.size n a l c E (sqs f (i + 1)))) wr) ?step ?fin _ _ _ _ ?cnt ?beg)
      case cnt => decide
      case beg =>
        have hz : ∀ j, j < 12 → ¬ on (Array.replicate 12 false) j := by decide
        refine ⟨rfl, .inl ⟨hz 11 (by decide), fun k => [u19, u20, u21, u22, u23, u24, u25, u26, u27, u28, u29].getD k undef, rfl, (Below.refl _ wr).drew, fun j hj k => absurd k (hz j (by omega))⟩⟩
      case fin =>
        intro L a w1 hr hI
        have hall := all_listed hI.size (backB_spec (by kernel_rfl)) hr
        have h26 : on L 11 := by
          have := hall 11 (by decide)
          unfold on
          rw [Array.getD_eq_getD_getElem?] at this ⊢
          rw [Array.getElem?_eq_getElem (by rw [hI.size]; decide)] at this ⊢
          exact this
        rcases hI.body with ⟨h, _⟩ | ⟨_, x, rfl, n', a', l', c', E', HB', HV'⟩
        · exact absurd h26 h
        · refine hK _ _ ?_
          go_wp2_with fail
          go_roundw
          case rel => exact ⟨i + 1, _, _, _, _, _, by omega, by go_num, Lib.hid (HB.out.trans (HB'.out)), HV'⟩
          case measure => simp [intOf]; omega
      case step =>
        intro L a w3 j hj hI
        obtain ⟨hL, o, ho, he⟩ := mem_ready.1 hj
        have hj12 : j < 12 := (Array.getElem?_eq_some_iff.1 ho).1
        have hs := hI.size
        obtain ⟨hn, x, rfl, hb, hv⟩ : ¬ on L 11 ∧ _ := by
          rcases hI.body with h | ⟨h, _⟩
          · exact h
          · exact absurd (h j hj12) (off' hL)
        clear hI
        have hV : ∀ {w'} (hw : Below w3.heap.size w3 w') j y, VQ wr w3 w1.heap.size g i len cv (Dv n (.slice la l c) E) d (sqs f i) (Fl.V (f i)) j y → VQ wr w' w1.heap.size g i len cv (Dv n (.slice la l c) E) d (sqs f i) (Fl.V (f i)) j y := fun hw j y h => h.below hw
        have hre := Below.refl w3.heap.size w3
        rcases (by omega : j = 0 ∨ j = 1 ∨ j = 2 ∨ j = 3 ∨ j = 4 ∨ j = 5 ∨ j = 6 ∨ j = 7 ∨ j = 8 ∨ j = 9 ∨ j = 10 ∨ j = 11) with rfl | rfl | rfl | rfl | rfl | rfl | rfl | rfl | rfl | rfl | rfl | rfl <;> cases ho
        · have d0 := cell_at hb hbl HV.out.var.c0
          have d1 := cell_at hb hbl HV.out.var.c1
          have d2 := cell_at hb hbl HV.out.var.c2
          refine wpOp_val rfl rfl (v := Dv n (.slice la l c) E) (w' := w3) (by go_simp) (SqI.put hs hn hb hv (hV hre) (by decide) hre rfl rfl)
        · exact wpOp_val rfl rfl (v := .slice (some ⟨g, 0, none⟩) len cv) (w' := w3) (by go_simp) (SqI.put hs hn hb hv (hV hre) (by decide) hre rfl rfl)
        · exact wpOp_val rfl rfl (v := .int .i64 (i : Int)) (w' := w3) (by go_simp) (SqI.put hs hn hb hv (hV hre) (by decide) hre rfl rfl)
        · have k1 : x 1 = _ := hv 1 (by decide) (he { on := 1, ground := .data } (by simp) rfl)
          have k2 : x 2 = _ := hv 2 (by decide) (he { on := 2, ground := .data } (by simp) rfl)
          exact wpOp_val rfl rfl (v := .pointer (some ⟨g, i * 3, none⟩)) (w' := w3) (by go_simp) (SqI.put hs hn hb hv (hV hre) (by decide) hre rfl rfl)
        · obtain ⟨e0, e1, e2⟩ := HE.out
          have hgr : g < wr.heap.size := by omega
          have e0 := cell_at hb hgr e0
          have e1 := cell_at hb hgr e1
          have e2 := cell_at hb hgr e2
          have k1 : x 3 = _ := hv 3 (by decide) (he { on := 3, ground := .data } (by simp) rfl)
          exact wpOp_val rfl rfl (v := d.val) (w' := w3) (by go_simp; rfl) (SqI.put hs hn hb hv (hV hre) (by decide) hre rfl rfl)
        · exact wpOp_val rfl rfl (v := .slice (some ⟨g, 0, none⟩) len cv) (w' := w3) (by go_simp) (SqI.put hs hn hb hv (hV hre) (by decide) hre rfl rfl)
        · exact wpOp_val rfl rfl (v := .int .i64 (i : Int)) (w' := w3) (by go_simp) (SqI.put hs hn hb hv (hV hre) (by decide) hre rfl rfl)
        · have k1 : x 5 = _ := hv 5 (by decide) (he { on := 5, ground := .data } (by simp) rfl)
          have k2 : x 6 = _ := hv 6 (by decide) (he { on := 6, ground := .data } (by simp) rfl)
          exact wpOp_val rfl rfl (v := .pointer (some ⟨g, i * 3, none⟩)) (w' := w3) (by go_simp) (SqI.put hs hn hb hv (hV hre) (by decide) hre rfl rfl)
        · obtain ⟨e0, e1, e2⟩ := HE.out
          have hgr : g < wr.heap.size := by omega
          have e0 := cell_at hb hgr e0
          have e1 := cell_at hb hgr e1
          have e2 := cell_at hb hgr e2
          have k1 : x 7 = _ := hv 7 (by decide) (he { on := 7, ground := .data } (by simp) rfl)
          exact wpOp_val rfl rfl (v := d.val) (w' := w3) (by go_simp; rfl) (SqI.put hs hn hb hv (hV hre) (by decide) hre rfl rfl)
        · have k1 : x 4 = _ := hv 4 (by decide) (he { on := 4, ground := .data } (by simp) rfl)
          have k2 : x 8 = _ := hv 8 (by decide) (he { on := 8, ground := .data } (by simp) rfl)
          have hD := HDN.out.below hb
          refine wpOp_call (f := 19) (args := #[d.val, d.val]) rfl rfl (by go_simp) (d_mul_f hD hD (HX.out.sz (by decide)) (HX.out.sz (by decide)) (HXX.out.sz (by decide)) (by decide) (by decide) (by decide) (by decide)) fun e w' hR => ?_
          obtain ⟨v, rfl, h1, h2, h3⟩ := hR
          exact ⟨v, rfl, SqI.put hs hn hb hv (hV h2) (by decide) h2 ⟨h1, fun _ _ _ _ _ e => Nat.le_trans hb.size (h3.out _ _ _ _ _ e)⟩ rfl⟩
        · have k1 : x 0 = _ := hv 0 (by decide) (he { on := 0, ground := .data } (by simp) rfl)
          have k2 := hv 9 (by decide) (he { on := 9, ground := .data } (by simp) rfl)
          obtain ⟨k2, k3⟩ := k2
          have hD := HV.out.num.below hb
          refine wpOp_call (f := 16) (args := #[Dv n (.slice la l c) E, x 9]) rfl rfl (by go_simp) (d_add_f hD k2 ((HZ.out.mono (L := 4300) (by omega)).sz2 (HXX.out.mono (by decide)) (by decide)) (by decide) (by decide)) fun e w' hR => ?_
          obtain ⟨v, rfl, h1, h2, h3⟩ := hR
          refine ⟨v, rfl, SqI.put hs hn hb hv (hV h2) (by decide) h2 ⟨h1, fun n' ad l' c' E' e => ?_⟩ rfl⟩
          rcases h3 with h3 | h3 | h3
          · have := h3.out _ _ _ _ _ e
            have := hb.size
            omega
          · rw [h3] at e
            have e3 := congrArg Array.toList (Value.agg.inj e)
            simp only [List.cons.injEq, Value.slice.injEq] at e3
            exact HV.out.far ad e3.2.1.1
          · rw [h3] at e
            have := k3 _ _ _ _ _ e
            omega
        · have k := hv 10 (by decide) (he { on := 10, ground := .data } (by simp) rfl)
          obtain ⟨k1, k2⟩ := k
          obtain ⟨n1, a1, l1, c1, E1, hx⟩ := k1.shape
          rw [hx] at k1 k2
          have hall : ∀ j, j < 12 → on (L.setIfInBounds 11 true) j := fun j hj => by
            rw [on_set' hs (by decide)]
            rcases (by omega : j = 0 ∨ j = 1 ∨ j = 2 ∨ j = 3 ∨ j = 4 ∨ j = 5 ∨ j = 6 ∨ j = 7 ∨ j = 8 ∨ j = 9 ∨ j = 10 ∨ j = 11) with rfl | rfl | rfl | rfl | rfl | rfl | rfl | rfl | rfl | rfl | rfl | rfl
            · exact .inr (he { on := 0, ground := .phase } (by simp) rfl)
            · exact .inr (he { on := 1, ground := .phase } (by simp) rfl)
            · exact .inr (he { on := 2, ground := .phase } (by simp) rfl)
            · exact .inr (he { on := 3, ground := .phase } (by simp) rfl)
            · exact .inr (he { on := 4, ground := .phase } (by simp) rfl)
            · exact .inr (he { on := 5, ground := .phase } (by simp) rfl)
            · exact .inr (he { on := 6, ground := .phase } (by simp) rfl)
            · exact .inr (he { on := 7, ground := .phase } (by simp) rfl)
            · exact .inr (he { on := 8, ground := .phase } (by simp) rfl)
            · exact .inr (he { on := 9, ground := .phase } (by simp) rfl)
            · exact .inr (he { on := 10, ground := .phase } (by simp) rfl)
            · exact .inl rfl
          have d0 := cell_at hb hbl HV.out.var.c0
          have d1 := cell_at hb hbl HV.out.var.c1
          have d2 := cell_at hb hbl HV.out.var.c2
          have f0 := froz_of hb hbl HV.out.var.f0
          have f1 := froz_of hb hbl HV.out.f1
          have f2 := froz_of hb hbl HV.out.f2
          have hfar : ∀ ad, a1 = some ad → ad.block ≠ w1.heap.size := fun ad e => k2 n1 ad l1 c1 E1 (by rw [e])
          refine wpOp_ins rfl rfl (w' := ((w3.setCell ⟨w1.heap.size, 0, none⟩ (.bool n1)).setCell ⟨w1.heap.size, 1, none⟩ (.slice a1 l1 c1)).setCell ⟨w1.heap.size, 2, none⟩ (.int .i64 E1)) (by go_simp) ⟨by simp [hs], .inr ⟨hall, x, rfl, n1, a1, l1, c1, E1, Lib.hid ?_, Lib.hid ⟨⟨?_, ?_, ?_, ?_, ?_⟩, ((k1.write hfar _ _).write hfar _ _).write hfar _ _, hfar, ?_, ?_⟩⟩⟩
          · exact (((hb.mono (by omega)).setCell (by simp) _).setCell (by simp) _).setCell (by simp) _
          all_goals first | (simp [go_sem, d0, d1, d2, f0, f1, f2]; done) | (simp only [World.size_setCell]; have := hb.size; omega)
    · have hle : (len : Int) ≤ (i : Int) := by omega
      have hin : i = len := by omega
      obtain ⟨d0, d1, d2, _, _⟩ := HV.out.var
      have BX := Lib.hid (HBX0.out.below HB1.out (by rw [HS0.out]; omega))
      obtain ⟨c0, c1, c2, _, f0, f1, f2⟩ := BX.out
      have HK := Lib.hid (fun x y u => BX.out.keepD HV.out.num x y u)
      clear HV
      go_wp2_with fail
      refine bodyPost_ret (v := .tuple #[Dv n (.slice la l c) E, .bool true]) (by simp [results, Tryz.results12, go_sem, c0, c1, c2]) rfl ⟨_, rfl, by rw [← hin]; exact HK.out _ _ _, Box.keepB HB'.out (by omega) _ _ _⟩
end Go.Proofs.YtdflbipaicpdcaaGreatDoor
namespace Go.Proofs.YtdflbipaicpdcaaGreatDoor
open Go.RowKit
set_option maxRecDepth 100000

namespace Fl
open Ieee
theorem read_wild {x : Nat} (h : x < 2 ^ 64) (hf : ¬ Fin x) : D.read x = .infinity (sg x) ∨ ∃ k, D.read x = .nan (sg x) k := by
  have h2 : ¬ rg x < 2047 * 2 ^ 52 := fun e => hf ⟨h, e⟩
  unfold Format.read
  simp only [signWeight, binade, infRung, leastPlace]
  unfold sg rg at *
  rw [if_neg (by omega), if_neg (by omega)]
  split
  · exact .inl rfl
  · exact .inr ⟨_, rfl⟩
abbrev C1 : Nat := 6858982232485265408
abbrev C2 : Nat := 16082354269340041216
def Sz5 (x : Nat) : Prop := (D.order x C1 = some .lt ∨ D.order x C1 = some .eq) ∧ (D.order x C2 = some .gt ∨ D.order x C2 = some .eq)
theorem finC1 : Fin C1 := by unfold Fin rg; decide
theorem finC2 : Fin C2 := by unfold Fin rg; decide
theorem V_C1 {K : Nat} (hK : K = 1574) : V C1 = ((2 ^ K : Nat) : Int) := by
  have h1 : mant (rg C1) = 2 ^ 52 := by decide +kernel
  have h2 : ex (rg C1) = 1522 := by decide +kernel
  have h3 : sg C1 = false := by decide +kernel
  obtain ⟨z, hz⟩ : ∃ z, z = 1522 := ⟨_, rfl⟩
  unfold V mg
  rw [h3, RV_eq, h1, h2, ← hz, ← Nat.pow_add, show 52 + z = K by omega]
  rfl
theorem V_C2 {K : Nat} (hK : K = 1574) : V C2 = -((2 ^ K : Nat) : Int) := by
  have h1 : mant (rg C2) = 2 ^ 52 := by decide +kernel
  have h2 : ex (rg C2) = 1522 := by decide +kernel
  have h3 : sg C2 = true := by decide +kernel
  obtain ⟨z, hz⟩ : ∃ z, z = 1522 := ⟨_, rfl⟩
  unfold V mg
  rw [h3, RV_eq, h1, h2, ← hz, ← Nat.pow_add, show 52 + z = K by omega]
  rfl
theorem Sz5.fin {x : Nat} (h : Sz5 x) (hx : x < 2 ^ 64) : Fin x := by
  refine Classical.byContradiction fun hf => ?_
  obtain ⟨h1, h2⟩ := h
  unfold Format.order at h1 h2
  rw [read_fin finC1] at h1
  rw [read_fin finC2] at h2
  rcases read_wild hx hf with e | ⟨k, e⟩ <;> rw [e] at h1 h2 <;> simp only [Datum.order] at h1 h2
  · cases hs : sg x <;> rw [hs] at h1 h2
    · rcases h1 with h1 | h1 <;> cases h1
    · rcases h2 with h2 | h2 <;> cases h2
  · rcases h1 with h1 | h1 <;> cases h1
theorem Sz5.le {x K : Nat} (h : Sz5 x) (hx : x < 2 ^ 64) (hK : K = 1574) : (V x).natAbs ≤ 2 ^ K := by
  have hf := h.fin hx
  obtain ⟨h1, h2⟩ := h
  rw [order_fin hf finC1, V_C1 hK] at h1
  rw [order_fin hf finC2, V_C2 hK] at h2
  generalize 2 ^ K = p at *
  simp only [Option.some.injEq, Int.compare_eq_lt, Int.compare_eq_eq, Int.compare_eq_gt] at h1 h2
  omega
end Fl
/-- all finite, at most 2^500 -/
def SizedSo (w : World) (f : Nat → Nat) (n : Nat) (e : Ending) (w' : World) : Prop := ∃ b, e = .returned (.bool b) ∧ (b = true → ∀ i, i < n → Fl.Sz5 (f i)) ∧ w' = w
theorem sz5_of {x : Nat} (h1 : FloatKind.f64.format.order x Fl.C1 = some Ordering.lt ∨ FloatKind.f64.format.order x Fl.C1 = some Ordering.eq)
    (h2 : (!FloatKind.f64.format.order x Fl.C2 == some Ordering.gt) = false ∨ (!FloatKind.f64.format.order x Fl.C2 == some Ordering.eq) = false) : Fl.Sz5 x :=
  ⟨h1, (show FloatKind.f64.format.order x Fl.C2 = some Ordering.gt ∨ FloatKind.f64.format.order x Fl.C2 = some Ordering.eq by simpa using h2)⟩

set_option maxHeartbeats 1000000 in
theorem sized_w (a : Option Addr) (len cap : Nat) (f : Nat → Nat) (w : World) (hr : RowIn3 w a len cap f) (hlen : len ≤ 64) : Calls Tryz.prog 11 #[.slice a len cap] w (SizedSo w f len) := by
  have HR := Lib.hid hr
  clear hr
  go_enter Tryz.func11, Tryz.ntmps11
  go_wp2
  go_loopw [3] (fun x wr => ∃ (i : Nat), i ≤ len ∧ x = .int .i64 (i : Int) ∧ Hid (∀ j, j < i → Fl.Sz5 (f j)) ∧ wr = w) (fun x _ => len - (intOf x).toNat)
  case atStart => exact ⟨0, Nat.zero_le _, rfl, Lib.hid fun j hj => absurd hj (Nat.not_lt_zero _), rfl⟩
  case round =>
    obtain ⟨i, hi, rfl, HJ, rfl⟩ := hrel
    by_cases h0 : i < len
    · have hi0 : (i : Int) < (len : Int) := by omega
      obtain ⟨b, off, rfl, hbw, hcell⟩ : ∃ b off, a = some ⟨b, off, none⟩ ∧ b < wr.heap.size ∧ wr.cell? ⟨b, off + i, none⟩ = some (.float .f64 (f i)) := by
        rcases HR.out with ⟨_, h, _⟩ | ⟨b, off, h1, h2, _, h3⟩
        · omega
        · exact ⟨b, off, h1, h2, (h3 i h0).1⟩
      go_wp2_with fail
      all_goals first
        | (go_ret; exact ⟨_, rfl, (fun h => by cases h), rfl⟩)
        | (rename_i h1 h2
           refine ⟨⟨i + 1, by omega, by go_num, Lib.hid fun j hj => ?_, trivial⟩, by simp [intOf]; omega⟩
           by_cases e : j = i
           · rw [e]; exact sz5_of h1 h2.2
           · exact HJ.out j (by omega))
    · have hi0 : (len : Int) ≤ (i : Int) := by omega
      go_wp2_with fail
      go_ret
      exact ⟨_, rfl, fun _ j hj => HJ.out j (by omega), rfl⟩

set_option maxHeartbeats 1000000 in
theorem d_of (n : Nat) (hn : n < 1000000000) (w : World) : Calls Tryz.prog 30 #[.int .i64 (n : Int)] w (MakesD w (n : Int) 0) := by
  have h0 : (0 : Int) ≤ n := by omega
  have HD : Hid ((digs n).length ≤ 800) := Lib.hid (digs_pow (j := 30) (by omega) (by decide))
  have HN : Hid (n < 9223372036854775808) := Lib.hid (by omega)
  clear hn
  go_enter Tryz.func30, Tryz.ntmps30
  go_wp2_with fail
  obtain ⟨w0, hw0⟩ : ∃ w0, w.alloc (Obj.cells #[Value.bool false, Value.slice none 0 0, Value.int IntKind.i64 0] 36) = w0 := ⟨_, rfl⟩
  have HB0 : Hid (Below w.heap.size w w0) := Lib.hid (by rw [← hw0]; exact below_alloc _ _)
  have HS0 : Hid (w.heap.size < w0.heap.size) := Lib.hid (by rw [← hw0]; simp)
  have HBX0 : Hid (Box w0 w.heap.size) := Lib.hid (by rw [← hw0]; exact box_alloc w)
  rw [hw0]
  clear hw0
  refine (n_of n HN.out w0).mono ?_
  rintro e w1 ⟨v, rfl, hv, hb⟩
  have HV := Lib.hid hv
  have HB := Lib.hid hb
  clear hv hb
  go_wp2_with fail
  refine (d_make false HV.out HD.out (by decide) (by decide)).mono ?_
  rintro e w2 ⟨r, rfl, hv, hb⟩
  obtain ⟨n1, a1, l1, k1, E1, rfl⟩ := hv.shape
  have HB2 := Lib.hid (HB.out.trans (hb.mono HB.out.size))
  have BX := Lib.hid (HBX0.out.below HB2.out HS0.out)
  obtain ⟨c0, c1, c2, _, f0, f1, f2⟩ := BX.out
  have HK := Lib.hid (fun x y u => BX.out.keepD hv x y u)
  have HBw := Lib.hid (HB0.out.trans (HB2.out.mono HB0.out.size))
  clear hv hb
  go_wp2
  refine bodyPost_ret (v := Dv n1 (.slice a1 l1 k1) E1) (by simp [results, Tryz.results30, go_sem, c0, c1, c2]) rfl ⟨_, rfl, HK.out _ _ _, Box.keepB HBw.out (by omega) _ _ _⟩
end Go.Proofs.YtdflbipaicpdcaaGreatDoor
