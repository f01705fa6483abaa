/- Naturals as rows of limbs below 2^24, plain. No condition. -/
namespace Go.Proofs.Ytemneeknemijpaa

/-- 2^24 to the i -/
def W (i : Nat) : Nat := 16777216 ^ i
theorem W_zero : W 0 = 1 := rfl
theorem W_succ (i : Nat) : W (i + 1) = 16777216 * W i := by unfold W; rw [Nat.pow_succ, Nat.mul_comm]
theorem W_pos (i : Nat) : 0 < W i := Nat.pow_pos (by decide)
theorem W_add (i j : Nat) : W (i + j) = W i * W j := by unfold W; exact Nat.pow_add _ _ _
theorem W_mono {i j : Nat} (h : i ≤ j) : W i ≤ W j := Nat.pow_le_pow_right (by decide) h

/-- limb i; what lies below it -/
def limb (n i : Nat) : Nat := n / W i % 16777216
def low (n i : Nat) : Nat := n % W i
theorem limb_lt (n i : Nat) : limb n i < 16777216 := Nat.mod_lt _ (by decide)
theorem low_zero (n : Nat) : low n 0 = 0 := by unfold low; rw [W_zero]; exact Nat.mod_one n
theorem low_succ (n i : Nat) : low n (i + 1) = low n i + W i * limb n i := by
  unfold low limb
  rw [W_succ, Nat.mul_comm 16777216, Nat.mod_mul]
theorem low_all {n i : Nat} (h : n < W i) : low n i = n := Nat.mod_eq_of_lt h
theorem low_lt (n i : Nat) : low n i < W i := Nat.mod_lt _ (W_pos i)
theorem limb_zero_of {n i : Nat} (h : n < W i) : limb n i = 0 := by unfold limb; rw [Nat.div_eq_of_lt h]

/-- the number that a row tells -/
def num : List Nat → Nat
  | [] => 0
  | d :: l => d + 16777216 * num l
theorem num_snoc : ∀ (l : List Nat) (x : Nat), num (l ++ [x]) = num l + W l.length * x
  | [], x => by simp [num, W_zero]
  | d :: l, x => by
    rw [List.cons_append, num, num, num_snoc l x, List.length_cons, W_succ, Nat.mul_add, Nat.mul_assoc]
    omega
theorem num_lt : ∀ (l : List Nat), (∀ d ∈ l, d < 16777216) → num l < W l.length
  | [], _ => by simp [num, W_zero]
  | d :: l, h => by
    have h1 := num_lt l (fun x hx => h x (List.mem_cons_of_mem _ hx))
    have h2 := h d (List.mem_cons_self ..)
    rw [num, List.length_cons, W_succ]
    omega
theorem num_limb : ∀ (l : List Nat), (∀ d ∈ l, d < 16777216) → ∀ i, limb (num l) i = l.getD i 0
  | [], _, i => by simp [num, limb]
  | d :: l, h, 0 => by
    have h2 := h d (List.mem_cons_self ..)
    simp only [num, limb, W_zero, Nat.div_one, List.getD_cons_zero]
    omega
  | d :: l, h, i + 1 => by
    have h2 := h d (List.mem_cons_self ..)
    rw [List.getD_cons_succ, ← num_limb l (fun x hx => h x (List.mem_cons_of_mem _ hx)) i]
    unfold limb
    rw [W_succ, ← Nat.div_div_eq_div_mul, num, show (d + 16777216 * num l) / 16777216 = num l by omega]

/-- a number's row: its limbs, without noughts at the end -/
def digs (n : Nat) : List Nat := if h : n = 0 then [] else n % 16777216 :: digs (n / 16777216)
termination_by n
decreasing_by omega
theorem digs_zero : digs 0 = [] := by rw [digs]; simp
theorem digs_pos {n : Nat} (h : n ≠ 0) : digs n = n % 16777216 :: digs (n / 16777216) := by
  conv => lhs; rw [digs]
  rw [dif_neg h]
theorem num_digs (n : Nat) : num (digs n) = n := by
  induction n using Nat.strongRecOn with
  | _ n ih =>
    by_cases h : n = 0
    · subst h; rw [digs_zero]; rfl
    · rw [digs_pos h, num, ih _ (by omega)]; omega
theorem digs_lt (n : Nat) : ∀ d ∈ digs n, d < 16777216 := by
  induction n using Nat.strongRecOn with
  | _ n ih =>
    by_cases h : n = 0
    · subst h; rw [digs_zero]; intro d hd; cases hd
    · rw [digs_pos h]
      intro d hd
      rcases List.mem_cons.1 hd with rfl | hd
      · exact Nat.mod_lt _ (by decide)
      · exact ih _ (by omega) d hd
theorem digs_limb (n i : Nat) : (digs n).getD i 0 = limb n i := by rw [← num_limb _ (digs_lt n), num_digs]
theorem digs_len_lt (n : Nat) : n < W (digs n).length := by have := num_lt _ (digs_lt n); rwa [num_digs] at this
theorem digs_of_num : ∀ (l : List Nat), (∀ d ∈ l, d < 16777216) → (∀ h : l ≠ [], l.getLast h ≠ 0) → digs (num l) = l
  | [], _, _ => by rw [num, digs_zero]
  | d :: l, h, hl => by
    have h2 := h d (List.mem_cons_self ..)
    have ih := digs_of_num l (fun x hx => h x (List.mem_cons_of_mem _ hx)) (fun hn => by have := hl (List.cons_ne_nil _ _); rwa [List.getLast_cons hn] at this)
    have hne : num (d :: l) ≠ 0 := by
      intro h0
      rw [num] at h0
      by_cases hn : l = []
      · subst hn
        have := hl (List.cons_ne_nil _ _)
        simp at this
        omega
      · have : num l ≠ 0 := fun h1 => by rw [h1, digs_zero] at ih; exact hn ih.symm
        omega
    rw [digs_pos hne, num, show (d + 16777216 * num l) % 16777216 = d by omega, show (d + 16777216 * num l) / 16777216 = num l by omega, ih]
theorem digs_ne_last (n : Nat) : ∀ h : digs n ≠ [], (digs n).getLast h ≠ 0 := by
  induction n using Nat.strongRecOn with
  | _ n ih =>
    by_cases h : n = 0
    · subst h; intro hn; exact absurd digs_zero hn
    · rw [digs_pos h]
      intro hn
      by_cases h2 : digs (n / 16777216) = []
      · have : n / 16777216 = 0 := by have := num_digs (n / 16777216); rw [h2] at this; exact this.symm
        simp only [h2, List.getLast_singleton]
        omega
      · rw [List.getLast_cons h2]
        exact ih _ (by omega) h2
theorem digs_len_le (n : Nat) (h : n ≠ 0) : W ((digs n).length - 1) ≤ n := by
  have hne : digs n ≠ [] := fun h0 => by have := num_digs n; rw [h0] at this; exact h this.symm
  have hl := digs_ne_last n hne
  obtain ⟨l, x, hx⟩ : ∃ l x, digs n = l ++ [x] := ⟨(digs n).dropLast, (digs n).getLast hne, (List.dropLast_concat_getLast hne).symm⟩
  have hn := num_digs n
  have hx0 : x ≠ 0 := by simpa [hx] using hl
  rw [hx] at hn ⊢
  rw [num_snoc] at hn
  rw [List.length_append, List.length_singleton, Nat.add_sub_cancel]
  have : W l.length ≤ W l.length * x := Nat.le_mul_of_pos_right _ (by omega)
  omega
/-- noughts at the end tell nothing -/
theorem num_take : ∀ (l : List Nat) (k : Nat), (∀ i, k ≤ i → l.getD i 0 = 0) → num (l.take k) = num l
  | [], _, _ => by simp
  | d :: l, 0, h => by
    have h0 := h 0 (Nat.le_refl _)
    have ih := num_take l 0 (fun i _ => by have := h (i + 1) (Nat.zero_le _); simpa using this)
    simp only [List.getD_cons_zero] at h0
    rw [List.take_zero, num] at ih
    rw [List.take_zero, num, num, h0, ← ih]
  | d :: l, k + 1, h => by
    rw [List.take_succ_cons, num, num, num_take l k (fun i hi => by have := h (i + 1) (by omega); simpa using this)]
/-- the row of what a row tells: without the noughts at its end -/
theorem digs_take (l : List Nat) (hl : ∀ d ∈ l, d < 16777216) (k : Nat) (hk : k ≤ l.length) (hz : ∀ i, k ≤ i → l.getD i 0 = 0) (hn : k ≠ 0 → l.getD (k - 1) 0 ≠ 0) : l.take k = digs (num l) := by
  rw [← num_take l k hz]
  refine (digs_of_num _ (fun d hd => hl d (List.mem_of_mem_take hd)) (fun hne => ?_)).symm
  have hk0 : k ≠ 0 := by intro h0; subst h0; exact hne (List.take_zero ..)
  have h1 := hn hk0
  rw [List.getLast_eq_getElem]
  have hlen : (l.take k).length = k := by rw [List.length_take]; omega
  rw [List.getElem_take]
  have : l.getD (k - 1) 0 = l[k - 1]'(by omega) := by rw [List.getD_eq_getElem?_getD, List.getElem?_eq_getElem (by omega)]; rfl
  rw [this] at h1
  simpa [hlen] using h1
end Go.Proofs.Ytemneeknemijpaa
