/- perm.Even, Odd, Rev, Signs: their contracts. -/
import Derived.Test.YtajnjghbppcfdaaChg
namespace Go.Proofs.Ytajnjghbppcfdaa
open Go.RowKit Go.Shelf

def takes (l : List Nat) (n : Nat) (g : Nat → Nat) : List Nat := (List.range n).map fun k => l.getD (g k) 0
theorem takes_length (l : List Nat) (n : Nat) (g : Nat → Nat) : (takes l n g).length = n := by simp [takes]
theorem takes_getD (l : List Nat) (n : Nat) (g : Nat → Nat) (k : Nat) (h : k < n) : (takes l n g).getD k 0 = l.getD (g k) 0 := by
  simp [takes, h]
def plOf (m n : Nat) (g : Nat → Nat) (hg : ∀ k, k < n → g k < m) : List (Pl m) := List.ofFn (fun k : Fin n => ⟨g k.1, hg k.1 k.2⟩)
theorem plOf_length (m n : Nat) (g : Nat → Nat) (hg : ∀ k, k < n → g k < m) : (plOf m n g hg).length = n := by simp [plOf]
theorem plOf_get (m n : Nat) (g : Nat → Nat) (hg : ∀ k, k < n → g k < m) (k : Nat) (h : k < (plOf m n g hg).length) : ((plOf m n g hg)[k]).1 = g k := by simp [plOf]
theorem pick_plOf (l : List Nat) (m n : Nat) (g : Nat → Nat) (hg : ∀ k, k < n → g k < m) : pick l (plOf m n g hg) = takes l n g := by
  apply List.ext_getElem
  · simp [pick, takes, plOf]
  · intro i h1 h2
    simp [pick, takes, plOf, at_]
theorem steps_plOf (m n : Nat) (g : Nat → Nat) (hg : ∀ k, k < n → g k < m) (fr by_ : Int) (h1 : ∀ k, k < n → ((g k : Nat) : Int) = fr + k * by_) (h2 : ¬ (0 ≤ fr + n * by_ ∧ fr + n * by_ < (m : Int))) : Steps m (plOf m n g hg) fr by_ :=
  ⟨fun k h => by rw [plOf_get]; exact h1 k (by simpa [plOf] using h), by rw [plOf_length]; exact h2⟩

theorem chg_at (m : Nat) : ∀ (xs : List (Pl m)) (l : List Nat), (xs.map (·.1)).Nodup → ∀ k, (chg l xs).getD k 0 = if k ∈ xs.map (·.1) ∧ k < l.length then Fl.fneg (l.getD k 0) else l.getD k 0
  | [], l, _, k => by simp [chg]
  | x :: xs, l, hn, k => by
    rw [List.map_cons, List.nodup_cons] at hn
    have ih := chg_at m xs (l.set x.1 (Fl.fneg (l.getD x.1 0))) hn.2 k
    show (chg (l.set x.1 (Fl.fneg (l.getD x.1 0))) xs).getD k 0 = _
    rw [ih, List.length_set]
    by_cases hk : x.1 = k
    · have h1 : k ∉ xs.map (·.1) := by rw [← hk]; exact hn.1
      rw [if_neg (fun h => h1 h.1), List.map_cons]
      by_cases hl : k < l.length
      · rw [if_pos ⟨by rw [hk]; exact List.mem_cons_self, hl⟩]
        rw [List.getD_eq_getElem?_getD, ← hk, List.getElem?_set_self (by omega)]
        rfl
      · rw [if_neg (fun h => hl h.2), List.set_eq_of_length_le (by omega)]
    · have e : (l.set x.1 (Fl.fneg (l.getD x.1 0))).getD k 0 = l.getD k 0 := by
        rw [List.getD_eq_getElem?_getD, List.getElem?_set_ne hk, List.getD_eq_getElem?_getD]
      rw [e, List.map_cons]
      by_cases h1 : k ∈ xs.map (·.1) ∧ k < l.length
      · rw [if_pos h1, if_pos ⟨List.mem_cons_of_mem _ h1.1, h1.2⟩]
      · rw [if_neg h1, if_neg]
        rintro ⟨h2, h3⟩
        rcases List.mem_cons.mp h2 with h4 | h4
        · exact hk h4.symm
        · exact h1 ⟨h4, h3⟩

/-- those at the places that a test picks have the other sign -/
def signs (p : Nat → Bool) (l : List Nat) : List Nat := (List.range l.length).map fun k => if p k then Fl.fneg (l.getD k 0) else l.getD k 0
theorem signs_length (p : Nat → Bool) (l : List Nat) : (signs p l).length = l.length := by simp [signs]
theorem signs_getD (p : Nat → Bool) (l : List Nat) (k : Nat) (h : k < l.length) : (signs p l).getD k 0 = if p k then Fl.fneg (l.getD k 0) else l.getD k 0 := by simp [signs, h]
theorem ext_getD {l m : List Nat} (h : l.length = m.length) (h2 : ∀ k, k < l.length → l.getD k 0 = m.getD k 0) : l = m := by
  apply List.ext_getElem h
  intro i h3 h4
  have := h2 i h3
  simpa [h3, h4] using this
theorem chg_plOf (l : List Nat) (m n : Nat) (g : Nat → Nat) (hg : ∀ k, k < n → g k < m) (hm : l.length = m) (hi : ∀ i j, i < n → j < n → g i = g j → i = j) (p : Nat → Bool) (hp : ∀ k, k < m → (p k = true ↔ ∃ i, i < n ∧ g i = k)) : chg l (plOf m n g hg) = signs p l := by
  have hmem : ∀ k, k ∈ (plOf m n g hg).map (·.1) ↔ ∃ i, i < n ∧ g i = k := by
    intro k
    simp only [plOf, List.mem_map, List.mem_ofFn]
    constructor
    · rintro ⟨x, ⟨i, rfl⟩, rfl⟩
      exact ⟨i.1, i.2, rfl⟩
    · rintro ⟨i, h, rfl⟩
      exact ⟨_, ⟨⟨i, h⟩, rfl⟩, rfl⟩
  have hnd : ((plOf m n g hg).map (·.1)).Nodup := by
    rw [List.nodup_iff_pairwise_ne, List.pairwise_iff_getElem]
    intro i j h1 h2 h3 he
    simp [plOf] at h1 h2 he
    have := hi i j h1 h2 he
    omega
  apply ext_getD
  · rw [chg_length, signs_length]
  · intro k hk
    rw [chg_length] at hk
    rw [chg_at m _ _ hnd, signs_getD _ _ _ hk]
    by_cases h : p k = true
    · rw [if_pos ⟨(hmem k).2 ((hp k (by omega)).1 h), hk⟩, if_pos h]
    · rw [if_neg (fun h2 => h ((hp k (by omega)).2 ((hmem k).1 h2.1))), if_neg h]

abbrev evens (l : List Nat) : List Nat := takes l ((l.length + 1) / 2) (fun k => 2 * k)
abbrev odds (l : List Nat) : List Nat := takes l (l.length / 2) (fun k => 2 * k + 1)
abbrev revs (l : List Nat) : List Nat := takes l l.length (fun k => l.length - 1 - k)

/-- the world that places(..) leaves -/
def wPl (w : World) (fr by_ m : Int) : World := ((w.alloc (.cells #[.int .i64 fr] 3)).alloc (.cells #[.int .i64 by_] 3)).alloc (.cells #[.int .i64 m] 3)
theorem places_c (fr by_ m : Int) (w : World) :
    Calls Try.prog 31 #[.int .i64 fr, .int .i64 by_, .int .i64 m] w fun e w' => e = .returned (.func (.func 36) #[] #[.pointer (some ⟨w.heap.size, 0, none⟩), .pointer (some ⟨w.heap.size + 2, 0, none⟩), .pointer (some ⟨w.heap.size + 1, 0, none⟩)]) ∧ w' = wPl w fr by_ m :=
  callsIn_wide.1 (places_in Fence.wide 9 trivial rfl fr by_ m w)

theorem wPl_size (w : World) (fr by_ m : Int) : (wPl w fr by_ m).heap.size = w.heap.size + 3 := by simp [wPl]
theorem wPl_below (w : World) (fr by_ m : Int) : Below w.heap.size w (wPl w fr by_ m) := (((Below.refl _ w).alloc (Nat.le_refl _) _).alloc (by simp) _).alloc (by simp; omega) _
theorem wPl_cells (w : World) (fr by_ m : Int) : (wPl w fr by_ m).cell? ⟨w.heap.size, 0, none⟩ = some (.int .i64 fr) ∧ (wPl w fr by_ m).cell? ⟨w.heap.size + 2, 0, none⟩ = some (.int .i64 m) ∧ (wPl w fr by_ m).cell? ⟨w.heap.size + 1, 0, none⟩ = some (.int .i64 by_) := by
  refine ⟨?_, ?_, ?_⟩ <;> simp [wPl, go_sem]

theorem picked_c (a : Option Addr) (len cap : Nat) (l : List Nat) (w : World) (hl : IsFl w a len l) (h8 : len ≤ 2000) (fr by_ : Int) (n : Nat) (g : Nat → Nat) (hg : ∀ k, k < n → g k < len) (hn : n ≤ len) (h1 : ∀ k, k < n → ((g k : Nat) : Int) = fr + k * by_) (h2 : ¬ (0 ≤ fr + n * by_ ∧ fr + n * by_ < (len : Int)))
    (hb0 : by_ ≠ 0) (hb1 : -2 ≤ by_) (hb2 : by_ ≤ 2) :
    Calls Try.prog 30 #[.slice a len cap, .func (.func 36) #[] #[.pointer (some ⟨w.heap.size, 0, none⟩), .pointer (some ⟨w.heap.size + 2, 0, none⟩), .pointer (some ⟨w.heap.size + 1, 0, none⟩)]] (wPl w fr by_ len)
      fun e W' => ∃ v, e = .returned v ∧ W'.ownsRow w.heap.size 35 1 v n ((takes l n g).map F) ∧ Below w.heap.size w W' := by
  obtain ⟨c1, c2, c3⟩ := wPl_cells w fr by_ len
  refine callsIn_wide.1 ((picked_in Fence.wide 9 trivial trivial rfl (by omega) a len cap l _ (hl.below (wPl_below w fr by_ len)) _ _ _ fr by_ (plOf len n g hg) (steps_plOf len n g hg fr by_ h1 h2) (by omega) (by rw [plOf_length]; omega) hb0 hb1 hb2 (by rw [wPl_size]; omega) c1 c2 c3).mono ?_)
  rintro e W' ⟨v, rfl, ho, hb⟩
  rw [plOf_length, pick_plOf] at ho
  rw [wPl_size] at ho hb
  exact ⟨v, rfl, ownsRow_base ho (by omega), (wPl_below w fr by_ len).trans (hb.mono (by omega))⟩

theorem changed_c (a : Option Addr) (len cap : Nat) (l : List Nat) (w : World) (hl : IsFl w a len l) (h8 : len ≤ 2000) (fr by_ : Int) (n : Nat) (g : Nat → Nat) (hg : ∀ k, k < n → g k < len) (h1 : ∀ k, k < n → ((g k : Nat) : Int) = fr + k * by_) (h2 : ¬ (0 ≤ fr + n * by_ ∧ fr + n * by_ < (len : Int)))
    (hb0 : by_ ≠ 0) (hb1 : -2 ≤ by_) (hb2 : by_ ≤ 2) (p : Nat → Bool) (hp : ∀ k, k < len → (p k = true ↔ ∃ i, i < n ∧ g i = k)) :
    Calls Try.prog 33 #[.slice a len cap, .func (.func 36) #[] #[.pointer (some ⟨w.heap.size, 0, none⟩), .pointer (some ⟨w.heap.size + 2, 0, none⟩), .pointer (some ⟨w.heap.size + 1, 0, none⟩)], .func (.func 34) #[] #[]] (wPl w fr by_ len)
      fun e W' => ∃ v, e = .returned v ∧ W'.ownsRow w.heap.size 35 1 v len ((signs p l).map F) ∧ Below w.heap.size w W' := by
  obtain ⟨c1, c2, c3⟩ := wPl_cells w fr by_ len
  have hi : ∀ i j, i < n → j < n → g i = g j → i = j := by
    intro i j h3 h4 h5
    have h6 := h1 i h3
    have h7 := h1 j h4
    rw [h5] at h6
    have h8 : (i : Int) * by_ = j * by_ := by omega
    exact Int.ofNat_inj.1 (Int.mul_eq_mul_right_iff hb0 |>.1 h8)
  refine callsIn_wide.1 ((changed_in Fence.wide 9 trivial trivial trivial trivial rfl (by omega) a len cap l _ (hl.below (wPl_below w fr by_ len)) (by omega) _ _ _ fr by_ (plOf len n g hg) (steps_plOf len n g hg fr by_ h1 h2) (by omega) hb0 hb1 hb2 (by rw [wPl_size]; omega) c1 c2 c3).mono ?_)
  rintro e W' ⟨v, rfl, ho, hb⟩
  rw [chg_plOf l len n g hg hl.1 hi p hp] at ho
  rw [wPl_size] at ho hb
  exact ⟨v, rfl, ownsRow_base ho (by omega), (wPl_below w fr by_ len).trans (hb.mono (by omega))⟩

theorem even_c (a : Option Addr) (len cap : Nat) (l : List Nat) (w : World) (hl : IsFl w a len l) (h8 : len ≤ 2000) :
    Calls Try.prog 15 #[.slice a len cap] w fun e W' => ∃ v, e = .returned v ∧ W'.ownsRow w.heap.size 35 1 v (evens l).length ((evens l).map F) ∧ Below w.heap.size w W' := by
  go_enter Try.func15, Try.ntmps15
  have hll := hl.1
  have hg : ∀ k, k < ((len + 1) / 2) → 2 * k < len := fun k hk => by omega
  have hgi : ∀ k, k < ((len + 1) / 2) → ((2 * k : Nat) : Int) = (0) + (k : Int) * 2 := fun k hk => by omega
  go_wp2_with (first | (go_at_call 31; refine (places_c _ _ _ _).mono ?_; rintro e w' ⟨rfl, rfl⟩) | (go_at_call 30; (refine (picked_c a len cap l w hl h8 (0) 2 ((len + 1) / 2) (fun k => 2 * k) hg (by omega) hgi (by omega) (by decide) (by decide) (by decide)).mono ?_; rintro e W' ⟨v, rfl, ho, hb⟩)))
  go_ret
  exact ⟨v, rfl, by simp only [evens, takes_length, hll]; exact ho, hb⟩

theorem odd_c (a : Option Addr) (len cap : Nat) (l : List Nat) (w : World) (hl : IsFl w a len l) (h8 : len ≤ 2000) :
    Calls Try.prog 17 #[.slice a len cap] w fun e W' => ∃ v, e = .returned v ∧ W'.ownsRow w.heap.size 35 1 v (odds l).length ((odds l).map F) ∧ Below w.heap.size w W' := by
  go_enter Try.func17, Try.ntmps17
  have hll := hl.1
  have hg : ∀ k, k < (len / 2) → 2 * k + 1 < len := fun k hk => by omega
  have hgi : ∀ k, k < (len / 2) → ((2 * k + 1 : Nat) : Int) = (1) + (k : Int) * 2 := fun k hk => by omega
  go_wp2_with (first | (go_at_call 31; refine (places_c _ _ _ _).mono ?_; rintro e w' ⟨rfl, rfl⟩) | (go_at_call 30; (refine (picked_c a len cap l w hl h8 (1) 2 (len / 2) (fun k => 2 * k + 1) hg (by omega) hgi (by omega) (by decide) (by decide) (by decide)).mono ?_; rintro e W' ⟨v, rfl, ho, hb⟩)))
  go_ret
  exact ⟨v, rfl, by simp only [odds, takes_length, hll]; exact ho, hb⟩

theorem rev_c (a : Option Addr) (len cap : Nat) (l : List Nat) (w : World) (hl : IsFl w a len l) (h8 : len ≤ 2000) :
    Calls Try.prog 19 #[.slice a len cap] w fun e W' => ∃ v, e = .returned v ∧ W'.ownsRow w.heap.size 35 1 v (revs l).length ((revs l).map F) ∧ Below w.heap.size w W' := by
  go_enter Try.func19, Try.ntmps19
  have hll := hl.1
  have hg : ∀ k, k < len → len - 1 - k < len := fun k hk => by omega
  have hgi : ∀ k, k < len → ((len - 1 - k : Nat) : Int) = ((len : Int) - 1) + (k : Int) * (-1) := fun k hk => by omega
  go_wp2_with (first | (go_at_call 31; refine (places_c _ _ _ _).mono ?_; rintro e w' ⟨rfl, rfl⟩) | (go_at_call 30; (refine (picked_c a len cap l w hl h8 ((len : Int) - 1) (-1) len (fun k => len - 1 - k) hg (by omega) hgi (by omega) (by decide) (by decide) (by decide)).mono ?_; rintro e W' ⟨v, rfl, ho, hb⟩)))
  go_ret
  exact ⟨v, rfl, by simp only [revs, takes_length, hll]; exact ho, hb⟩

theorem signsf_c (a : Option Addr) (len cap : Nat) (l : List Nat) (w : World) (hl : IsFl w a len l) (h8 : len ≤ 2000) :
    Calls Try.prog 21 #[.slice a len cap] w fun e W' => ∃ v, e = .returned v ∧ W'.ownsRow w.heap.size 35 1 v (signs (fun k => k % 2 == 1) l).length ((signs (fun k => k % 2 == 1) l).map F) ∧ Below w.heap.size w W' := by
  go_enter Try.func21, Try.ntmps21
  have hll := hl.1
  have hg : ∀ k, k < (len / 2) → 2 * k + 1 < len := fun k hk => by omega
  have hgi : ∀ k, k < (len / 2) → ((2 * k + 1 : Nat) : Int) = (1) + (k : Int) * 2 := fun k hk => by omega
  go_wp2_with (first | (go_at_call 31; refine (places_c _ _ _ _).mono ?_; rintro e w' ⟨rfl, rfl⟩) | (go_at_call 33; (refine (changed_c a len cap l w hl h8 (1) 2 (len / 2) (fun k => 2 * k + 1) hg hgi (by omega) (by decide) (by decide) (by decide) (fun k => k % 2 == 1) (fun k hk => by simp only [beq_iff_eq]; exact ⟨fun h => ⟨k / 2, by omega, by omega⟩, fun ⟨i, h, e⟩ => by omega⟩)).mono ?_; rintro e W' ⟨v, rfl, ho, hb⟩)))
  go_ret
  exact ⟨v, rfl, by simp only [signs_length, hll]; exact ho, hb⟩
end Go.Proofs.Ytajnjghbppcfdaa
