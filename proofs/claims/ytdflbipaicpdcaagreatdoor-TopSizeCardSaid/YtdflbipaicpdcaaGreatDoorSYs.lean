/- TopSize: a sum of squares that is kept so well does as the law wants: plain. TopSize: every run does as the law wants. Under: the library's table lies at its place. -/
import Derived.Test.YtdflbipaicpdcaaGreatDoorSYp
import Derived.Test.YtdflbipaicpdcaaGreatDoorSYa
import Derived.Test.YtdflbipaicpdcaaGreatDoorSYq
import Derived.Test.YtdflbipaicpdcaaGreatDoorSZa
import Derived.Test.YtdflbipaicpdcaaGreatDoorSQw
import Derived.Test.YtdflbipaicpdcaaGreatDoorSFn
set_option linter.unusedVariables false
set_option linter.unusedSimpArgs false
set_option maxRecDepth 100000
namespace Go.Proofs.YtdflbipaicpdcaaGreatDoor

theorem sq_two (A T : Nat) : (A + T) * (A + T) ≤ 2 * (A * A) + 2 * (T * T) := by
  rcases Nat.le_total A T with h | h <;> obtain ⟨c, rfl⟩ := Nat.exists_eq_add_of_le h
  · have : 0 ≤ c * c := Nat.zero_le _
    grind
  · have : 0 ≤ c * c := Nat.zero_le _
    grind
theorem sq_one {u t T : Nat} (h : u * 2 ^ 50 ≤ 65 * t + T) : u * u * 2 ^ 100 ≤ 8450 * (t * t) + 2 * (T * T) := by
  have h1 := Nat.mul_le_mul h h
  have h2 := Nat.le_trans h1 (sq_two _ _)
  have e1 : u * 2 ^ 50 * (u * 2 ^ 50) = u * u * 2 ^ 100 := by
    rw [Nat.mul_mul_mul_comm, ← Nat.pow_add]
  rw [e1] at h2
  grind
theorem nat_good {u x t T M q N P K e W : Nat} (hu : u * u * W ≤ 8450 * (t * t) + 2 * (T * T)) (ht : t = x * P) (hP : P * P * e = 2 * K) (hM : M = q * x + N) (hq : 40000 ≤ q) (hN : 2 * (T * T) * e ≤ N * N) : u * u * (W * e) ≤ M * M + M * x * K := by
  subst ht hM
  have h1 := Nat.mul_le_mul_right e hu
  have h2 : (8450 * (x * P * (x * P)) + 2 * (T * T)) * e = 8450 * (x * x) * (P * P * e) + 2 * (T * T) * e := by grind
  rw [h2, hP] at h1
  have h3 : 40000 * (x * x) * K ≤ q * (x * x) * K := Nat.mul_le_mul_right _ (Nat.mul_le_mul_right _ hq)
  have h4 : (q * x + N) * (q * x + N) = N * N + (q * x * (q * x) + 2 * (q * x * N)) := by grind
  have h5 : (q * x + N) * x * K = q * (x * x) * K + N * x * K := by grind
  have h6 : 8450 * (x * x) * (2 * K) ≤ 40000 * (x * x) * K := by
    have : 0 ≤ x * x * K := Nat.zero_le _
    grind
  rw [h4, h5, ← Nat.mul_assoc]
  refine Nat.le_trans h1 ?_
  generalize q * (x * x) * K = a at *
  generalize N * x * K = b at *
  generalize q * x * (q * x) + 2 * (q * x * N) = c at *
  omega

theorem good_of {j x y a T : Nat} (h1 : 1 ≤ j) (h2 : j ≤ 6) (h : Fl.Nr a T (x * 2 ^ (j - 1)) y) (ha : a ≤ 65) (hT : T ≤ 2 ^ 150) : Good j (x : Int) (y : Int) := by
  obtain ⟨n1, n2⟩ := h
  obtain ⟨P, hP⟩ : ∃ P, 2 ^ (j - 1) = P := ⟨_, rfl⟩
  obtain ⟨q, hq⟩ : ∃ q, 1600 * (j + 4) * (j + 4) = q := ⟨_, rfl⟩
  obtain ⟨N, hN⟩ : ∃ N, 2 ^ j * 2 ^ j * 2 ^ (254 - j) = N := ⟨_, rfl⟩
  obtain ⟨W, hW⟩ : ∃ W, W = 100 := ⟨_, rfl⟩
  obtain ⟨K, hK⟩ : ∃ K, K = 106 := ⟨_, rfl⟩
  have hq2 : 40000 ≤ q := by rw [← hq]; rcases (by omega : j = 1 ∨ j = 2 ∨ j = 3 ∨ j = 4 ∨ j = 5 ∨ j = 6) with rfl | rfl | rfl | rfl | rfl | rfl <;> decide
  have hPe : P * P * 2 ^ (109 - 2 * j) = 2 * 2 ^ K := by
    rw [← hP, ← Nat.pow_add, ← Nat.pow_add, ← Nat.pow_succ']
    congr 1
    omega
  have hNT : 2 * (T * T) * 2 ^ (109 - 2 * j) ≤ N * N := by
    obtain ⟨s, hs⟩ : ∃ s, s = 150 := ⟨_, rfl⟩
    rw [← hs] at hT
    have t1 : T * T ≤ 2 ^ s * 2 ^ s := Nat.mul_le_mul hT hT
    rw [← Nat.pow_add] at t1
    have t2 : 2 * (T * T) * 2 ^ (109 - 2 * j) ≤ 2 * 2 ^ (s + s) * 2 ^ (109 - 2 * j) := Nat.mul_le_mul_right _ (Nat.mul_le_mul_left _ t1)
    refine Nat.le_trans t2 ?_
    rw [← Nat.pow_succ', ← Nat.pow_add, ← hN, ← Nat.pow_add, ← Nat.pow_add, ← Nat.pow_add]
    exact Nat.pow_le_pow_right (by decide) (by omega)
  obtain ⟨u, hu⟩ : ∃ u, ((y : Int) + -(x : Int) * ((P : Nat) : Int)).natAbs = u := ⟨_, rfl⟩
  rw [hP] at n1 n2
  have hat : a * (x * P) ≤ 65 * (x * P) := Nat.mul_le_mul_right _ ha
  have hut : u * 2 ^ 50 ≤ 65 * (x * P) + T := by
    rw [← hu, Int.neg_mul, ← Int.natCast_mul]
    generalize x * P = t at *
    generalize a * t = s at *
    generalize 65 * t = r at *
    generalize 2 ^ 50 = B at *
    rcases Nat.le_total y t with h | h
    · rw [show ((y : Int) + -(t : Int)).natAbs = t - y by omega, Nat.sub_mul]
      generalize t * B = tB at *
      generalize y * B = yB at *
      omega
    · rw [show ((y : Int) + -(t : Int)).natAbs = y - t by omega, Nat.sub_mul]
      generalize t * B = tB at *
      generalize y * B = yB at *
      omega
  have hsq : ((y : Int) + -(x : Int) * ((P : Nat) : Int)) * ((y : Int) + -(x : Int) * ((P : Nat) : Int)) = ((u * u : Nat) : Int) := by
    rw [← hu, Int.natAbs_mul_self]
  have key := nat_good (W := 2 ^ 100) (sq_one hut) rfl hPe rfl hq2 hNT
  have hWe : 2 ^ 100 * 2 ^ (109 - 2 * j) = 2 ^ (209 - 2 * j) := by
    rw [← hW, ← Nat.pow_add]; congr 1; omega
  rw [hWe] at key
  unfold Good MM
  rw [hP, hq, hN, hsq, ← hK]
  generalize 2 ^ (209 - 2 * j) = D at *
  generalize 2 ^ K = E at *
  exact_mod_cast key

theorem tt_small : ∀ k, k < 14 → Fl.tt k 0 ≤ 2 ^ 150 := by decide +kernel
theorem sqs_sum (f : Nat → Nat) : ∀ n, sqs f n = (Go.AM.sumG (fun i => Fl.en (f i)) n : Int)
  | 0 => rfl
  | n + 1 => by
    rw [sqs, sqs_sum f n, Go.AM.sumG, Int.natCast_add]
    congr 1
    rw [Fl.en_V, Int.natAbs_mul_self]
theorem sum_le (g : Nat → Nat) (B : Nat) : ∀ n, (∀ i, i < n → g i ≤ B) → Go.AM.sumG g n ≤ n * B
  | 0, _ => by simp [Go.AM.sumG]
  | n + 1, h => by
    rw [Go.AM.sumG, Nat.succ_mul]
    exact Nat.add_le_add (sum_le g B n fun i hi => h i (by omega)) (h n (by omega))
/-- the sizes are far from where floats end -/
theorem big_of {f : Nat → Nat} {n L : Nat} (hs : ∀ i, i < n → Fl.Sz5 (f i) ∧ f i < 2 ^ 64) (hn : n ≤ 64) (hL : L < 14) : 2 * (Go.AM.sumG (fun i => Fl.en (f i)) n * 2 ^ L) + Fl.tt L 0 ≤ Fl.BIG1 * Fl.BIG1 := by
  obtain ⟨k, hk⟩ : ∃ k, k = 1574 := ⟨_, rfl⟩
  obtain ⟨b, hb⟩ : ∃ b, b = 1600 := ⟨_, rfl⟩
  obtain ⟨s, hs'⟩ : ∃ s, s = 150 := ⟨_, rfl⟩
  have h1 : Go.AM.sumG (fun i => Fl.en (f i)) n ≤ n * (2 ^ k * 2 ^ k) := sum_le _ _ _ fun i hi => by
    have := (hs i hi).1.le (hs i hi).2 hk
    rw [Fl.en_V]
    exact Nat.mul_le_mul this this
  have h2 : n * (2 ^ k * 2 ^ k) ≤ 2 ^ 6 * (2 ^ k * 2 ^ k) := Nat.mul_le_mul_right _ hn
  have h3 : Go.AM.sumG (fun i => Fl.en (f i)) n * 2 ^ L ≤ 2 ^ 6 * (2 ^ k * 2 ^ k) * 2 ^ 13 := Nat.mul_le_mul (Nat.le_trans h1 h2) (Nat.pow_le_pow_right (by decide) (by omega))
  have h4 := tt_small L hL
  rw [← hs'] at h4
  have h5 : 2 ^ 6 * (2 ^ k * 2 ^ k) * 2 ^ 13 = 2 ^ (6 + (k + k) + 13) := by rw [Nat.pow_add, Nat.pow_add, Nat.pow_add]
  rw [h5] at h3
  have h6 : 2 ^ (6 + (k + k) + 13) ≤ 2 ^ (b + b - 2) := Nat.pow_le_pow_right (by decide) (by omega)
  have h7 : 2 ^ s ≤ 2 ^ (b + b - 2) := Nat.pow_le_pow_right (by decide) (by omega)
  have h8 : 2 ^ (b + b) = 2 ^ (b + b - 2) * 2 ^ 2 := by rw [← Nat.pow_add]; congr 1; omega
  rw [Fl.BIG1_eq b hb, ← Nat.pow_add, h8]
  generalize Go.AM.sumG (fun i => Fl.en (f i)) n * 2 ^ L = Z at *
  generalize 2 ^ (b + b - 2) = G at *
  omega
end Go.Proofs.YtdflbipaicpdcaaGreatDoor
set_option maxRecDepth 100000
namespace Go.AM
open Go Go.RowKit Go.Proofs Go.Proofs.YtdflbipaicpdcaaGreatDoor

theorem tabQ_all : ∀ x ∈ tabQ, 0 < x.1 ∧ ∃ plug, PlugOk Tryz.prog plug ∧ runT Tryz.prog plug 70 x.1 x.2 = true := fun x hx => by
  simp only [tabQ, List.mem_cons, List.not_mem_nil, or_false] at hx
  rcases hx with rfl | rfl | rfl | rfl | rfl | rfl
  · exact ⟨by decide, _, plugT_ok, dctfour_2_run⟩
  · exact ⟨by decide, _, plugT_ok, dctfour_4_run⟩
  · exact ⟨by decide, _, plugT_ok, dctfour_8_run⟩
  · exact ⟨by decide, _, plugT_ok, dctfour_16_run⟩
  · exact ⟨by decide, _, plugT_ok, dctfour_32_run⟩
  · exact ⟨by decide, _, plugT_ok, dctfour_64_run⟩
theorem listQ_ok : ∀ x ∈ listQ, Pl1 Tryz.prog x.1 x.2 := fun x hx => by
  rcases List.mem_cons.1 hx with rfl | hx
  · exact memT_ok (hb_of (by kernel_rfl)) tabQ_all
  · cases hx
theorem plugQ_ok : PlugOk Tryz.prog plugQ := plugOf_ok _ listQ_ok
end Go.AM
namespace Go.Proofs.YtdflbipaicpdcaaGreatDoor
open Go Go.RowKit Go.AM

theorem lt_of_row {w : World} {a : Option Addr} {len cap : Nat} {f : Nat → Nat} (h : RowIn3 w a len cap f) {i : Nat} (hi : i < len) : f i < 2 ^ 64 := by
  rcases h with ⟨_, h, _⟩ | ⟨b, off, _, _, _, h⟩
  · omega
  · exact (h i hi).2
theorem row_of {w : World} {b off n cap : Nat} {z : Nat → Nat} (hb : b < w.heap.size) (hc : n ≤ cap) (h : ∀ i, i < n → w.cell? ⟨b, off + i, none⟩ = some (.float .f64 (z i)) ∧ Fl.Fin (z i)) : RowIn3 w (some ⟨b, off, none⟩) n cap z :=
  .inr ⟨b, off, rfl, hb, hc, fun i hi => ⟨(h i hi).1, (h i hi).2.1⟩⟩
theorem run_good {kind j n : Nat} {Ls : List Fl.Layer} (hrun : chkRun Tryz.prog plugQ 6 kind n Ls = true) (hL : Ls.length < 14) (hd : Fl.dbls Ls = j - 1) (h1 : 1 ≤ j) (h2 : j ≤ 6) (hn : 0 < n) (h64 : n ≤ 64)
    {a : Option Addr} {cap : Nat} {f : Nat → Nat} (hs : ∀ i, i < n → Fl.Sz5 (f i)) : RunGood kind j a n cap f := by
  intro w hLd hr
  have hlt := fun i hi => lt_of_row hr (i := i) hi
  rcases hr with ⟨_, h0, _⟩ | ⟨b, off, rfl, hb, hcap, hc⟩
  · omega
  obtain ⟨c, t, fz, hh, hcell⟩ := cells_at hn hc
  have hfin : ∀ i, i < n → Fl.Fin (f i) := fun i hi => (hs i hi).fin (hlt i hi)
  refine (run_so plugQ_ok (hb_of (by kernel_rfl)) hrun hLd hh hn hcell hfin hcap (Nat.le_trans (show 4 * (0 + 5 * Ls.length) ≤ 4 * 65 by omega) (by decide)) (big_of (fun i hi => ⟨hs i hi, hlt i hi⟩) h64 hL)).mono ?_
  rintro e w' ⟨hk, B, o, cp, z, he, hB, hcp, hz, hNr⟩
  refine ⟨B, o, cp, z, he, hk, row_of hB hcp hz, fun i hi => (hz i hi).2, ?_⟩
  rw [sqs_sum, sqs_sum]
  rw [hd] at hNr
  exact good_of h1 h2 hNr (by omega) (tt_small _ hL)
theorem all_good_6 (j len : Nat) (h1 : 1 ≤ j) (h2 : j ≤ 6) (hl : len = 2 ^ j) {a : Option Addr} {cap : Nat} {f : Nat → Nat} (hs : ∀ i, i < len → Fl.Sz5 (f i)) : RunGood 6 j a len cap f := by
  subst hl
  rcases (by omega : j = 1 ∨ j = 2 ∨ j = 3 ∨ j = 4 ∨ j = 5 ∨ j = 6) with rfl | rfl | rfl | rfl | rfl | rfl
  · exact run_good run_6_2 (by decide) (by decide) (by decide) (by decide) (by decide) (by decide) hs
  · exact run_good run_6_4 (by decide) (by decide) (by decide) (by decide) (by decide) (by decide) hs
  · exact run_good run_6_8 (by decide) (by decide) (by decide) (by decide) (by decide) (by decide) hs
  · exact run_good run_6_16 (by decide) (by decide) (by decide) (by decide) (by decide) (by decide) hs
  · exact run_good run_6_32 (by decide) (by decide) (by decide) (by decide) (by decide) (by decide) hs
  · exact run_good run_6_64 (by decide) (by decide) (by decide) (by decide) (by decide) (by decide) hs
theorem all_good_10 (j len : Nat) (h1 : 1 ≤ j) (h2 : j ≤ 6) (hl : len = 2 ^ j) {a : Option Addr} {cap : Nat} {f : Nat → Nat} (hs : ∀ i, i < len → Fl.Sz5 (f i)) : RunGood 10 j a len cap f := by
  subst hl
  rcases (by omega : j = 1 ∨ j = 2 ∨ j = 3 ∨ j = 4 ∨ j = 5 ∨ j = 6) with rfl | rfl | rfl | rfl | rfl | rfl
  · exact run_good run_10_2 (by decide) (by decide) (by decide) (by decide) (by decide) (by decide) hs
  · exact run_good run_10_4 (by decide) (by decide) (by decide) (by decide) (by decide) (by decide) hs
  · exact run_good run_10_8 (by decide) (by decide) (by decide) (by decide) (by decide) (by decide) hs
  · exact run_good run_10_16 (by decide) (by decide) (by decide) (by decide) (by decide) (by decide) hs
  · exact run_good run_10_32 (by decide) (by decide) (by decide) (by decide) (by decide) (by decide) hs
  · exact run_good run_10_64 (by decide) (by decide) (by decide) (by decide) (by decide) (by decide) hs

theorem size_walk (a : Option Addr) (len cap : Nat) (f : Nat → Nat) (odd : Bool) (w : World) (hL : Laid w) (hr : RowIn3 w a len cap f) : Calls Tryz.prog 4 #[.slice a len cap, .bool odd] w fun e w' => e = .returned (.bool true) ∧ Kept w w' := by
  cases odd
  · exact size_walk_6 a len cap f w hL hr fun j h1 h2 hl hs => all_good_6 j len h1 h2 hl hs
  · exact size_walk_10 a len cap f w hL hr fun j h1 h2 hl hs => all_good_10 j len h1 h2 hl hs
end Go.Proofs.YtdflbipaicpdcaaGreatDoor
