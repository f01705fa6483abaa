/- Mul of the document's naturals, plain: out[i+k] += a[i] * b[k] with a carry. No condition. -/
import Derived.Test.YtemneeknemijpaaNh
namespace Go.Proofs.Ytemneeknemijpaa

theorem num_set : ∀ (l : List Nat) (j d : Nat), j < l.length → num (l.set j d) + W j * l.getD j 0 = num l + W j * d
  | [], _, _, h => by simp at h
  | x :: l, 0, d, _ => by simp [num, W_zero]; omega
  | x :: l, j + 1, d, h => by
    have := num_set l j d (by simp at h; omega)
    simp only [List.set_cons_succ, num, List.getD_cons_succ, W_succ]
    have e1 : 16777216 * W j * l.getD j 0 = 16777216 * (W j * l.getD j 0) := Nat.mul_assoc _ _ _
    have e2 : 16777216 * W j * d = 16777216 * (W j * d) := Nat.mul_assoc _ _ _
    rw [e1, e2]
    omega

theorem getD_set_self {l : List Nat} {j d : Nat} (h : j < l.length) : (l.set j d).getD j 0 = d := by
  rw [List.getD_eq_getElem?_getD, List.getElem?_set_self h]; rfl
theorem getD_set_other {l : List Nat} {j i d : Nat} (h : j ≠ i) : (l.set j d).getD i 0 = l.getD i 0 := by
  rw [List.getD_eq_getElem?_getD, List.getElem?_set_ne h, ← List.getD_eq_getElem?_getD]
theorem set_lt {l : List Nat} {j d : Nat} (hl : ∀ x ∈ l, x < 16777216) (hd : d < 16777216) : ∀ x ∈ l.set j d, x < 16777216 := fun x hx => by
  rcases List.mem_or_eq_of_mem_set hx with h | h
  · exact hl x h
  · rw [h]; exact hd
theorem getD_lt {l : List Nat} (hl : ∀ x ∈ l, x < 16777216) (j : Nat) : l.getD j 0 < 16777216 := by
  rw [List.getD_eq_getElem?_getD]
  cases h : l[j]? with
  | none => simp
  | some x => simp; exact hl x (List.mem_of_getElem? h)

/-- the outer loop's, ahead of round i -/
structure MulSo (a b la lb i : Nat) (l : List Nat) : Prop where
  len : l.length = la + lb
  lt : ∀ d ∈ l, d < 16777216
  zero : ∀ j, i + lb ≤ j → l.getD j 0 = 0
  sum : num l = low a i * b
/-- the inner loop's, ahead of round k -/
structure MulIn (a b la lb i k c : Nat) (l : List Nat) : Prop where
  len : l.length = la + lb
  lt : ∀ d ∈ l, d < 16777216
  zero : ∀ j, i + lb ≤ j → l.getD j 0 = 0
  sum : num l + W (i + k) * c = low a i * b + W i * (limb a i * low b k)
  cl : c < 16777216
theorem mulSo_zero (a b la lb : Nat) : MulSo a b la lb 0 (List.replicate (la + lb) 0) :=
  ⟨by simp, (fun d hd => by rw [(List.mem_replicate.1 hd).2]; decide), (fun j _ => by
    rw [List.getD_eq_getElem?_getD, List.getElem?_replicate]; split <;> rfl), by rw [num_zeros, low_zero, Nat.zero_mul]⟩
theorem MulSo.start {a b la lb i : Nat} {l : List Nat} (h : MulSo a b la lb i l) : MulIn a b la lb i 0 0 l :=
  ⟨h.len, h.lt, h.zero, by rw [h.sum, low_zero]; simp, by decide⟩
theorem MulIn.step {a b la lb i k c x : Nat} {l : List Nat} (h : MulIn a b la lb i k c l) (hi : i < la) (hk : k < lb) (hx : l.getD (i + k) 0 = x) :
    MulIn a b la lb i (k + 1) ((x + limb a i * limb b k + c) / 16777216) (l.set (i + k) ((x + limb a i * limb b k + c) % 16777216)) := by
  have hxl : x < 16777216 := by rw [← hx]; exact getD_lt h.lt _
  have hal := limb_lt a i
  have hbl := limb_lt b k
  have hm : limb a i * limb b k ≤ 16777215 * 16777215 := Nat.mul_le_mul (by omega) (by omega)
  have hcl := h.cl
  have hs := num_set l (i + k) ((x + limb a i * limb b k + c) % 16777216) (by rw [h.len]; omega)
  rw [hx] at hs
  have h3 := h.sum
  refine ⟨by rw [List.length_set, h.len], set_lt h.lt (Nat.mod_lt _ (by decide)), fun j hj => by rw [getD_set_other (by omega)]; exact h.zero j hj, ?_, by omega⟩
  rw [low_succ, ← Nat.add_assoc, W_succ]
  have e0 : W i * (limb a i * (low b k + W k * limb b k)) = W i * (limb a i * low b k) + W (i + k) * (limb a i * limb b k) := by
    rw [Nat.mul_add, Nat.mul_add, W_add]
    congr 1
    simp only [Nat.mul_assoc, Nat.mul_left_comm]
  rw [e0]
  generalize limb a i * limb b k = m at hs ⊢
  generalize ht : x + m + c = t at hs ⊢
  have e1 : W (i + k) * (t % 16777216) + 16777216 * W (i + k) * (t / 16777216) = W (i + k) * t := by
    rw [Nat.mul_comm 16777216, Nat.mul_assoc, ← Nat.mul_add, Nat.mod_add_div]
  have e2 : W (i + k) * t = W (i + k) * x + W (i + k) * m + W (i + k) * c := by rw [← ht, Nat.mul_add, Nat.mul_add]
  omega
theorem MulIn.end {a b la lb i c : Nat} {l : List Nat} (h : MulIn a b la lb i lb c l) (hi : i < la) (hb : b < W lb) : MulSo a b la lb (i + 1) (l.set (i + lb) c) := by
  have hs := num_set l (i + lb) c (by rw [h.len]; omega)
  rw [h.zero _ (Nat.le_refl _), Nat.mul_zero, Nat.add_zero, h.sum, low_all hb] at hs
  refine ⟨by rw [List.length_set, h.len], set_lt h.lt h.cl, fun j hj => by rw [getD_set_other (by omega)]; exact h.zero j (by omega), ?_⟩
  rw [hs, low_succ, Nat.add_mul, Nat.mul_assoc]
theorem MulSo.end {a b la lb : Nat} {l : List Nat} (h : MulSo a b la lb la l) (ha : a < W la) : digs (num l) = digs (a * b) := by
  rw [h.sum, low_all ha]
end Go.Proofs.Ytemneeknemijpaa
