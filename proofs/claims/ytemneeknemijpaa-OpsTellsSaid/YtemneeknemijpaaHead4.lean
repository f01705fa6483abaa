/- The live question of layer 4: it answers true. No condition. -/
import Derived.Test.YtemneeknemijpaaLdexpb
import Derived.Test.YtemneeknemijpaaSum
namespace Go.Proofs.Ytemneeknemijpaa
open Go.RowKit

/-- The float c is handed back. -/
def GivesC (c : Nat) (w : World) (e : Ending) (w' : World) : Prop := ∃ n, e = .returned (F c) ∧ w' = w.drewN n
theorem givesC {v c : Nat} {w w' : World} {e : Ending} (h : Gives v w e w') (hv : v = c) (hc : c ≠ Fl.qnan) : GivesC c w e w' := by
  obtain ⟨r, n, rfl, h1, h2, rfl⟩ := h
  exact ⟨n, by rw [eq_of_canon (h1.trans hv) hc], rfl⟩
/-- A NaN is handed back. -/
def GivesQ (w : World) (e : Ending) (w' : World) : Prop := ∃ r n, e = .returned (F r) ∧ Fl.isNaN r = true ∧ w' = w.drewN n
theorem givesQ {v : Nat} {w w' : World} {e : Ending} (h : Gives v w e w') (hv : v = Fl.qnan) : GivesQ w e w' := by
  obtain ⟨r, n, rfl, h1, h2, rfl⟩ := h
  exact ⟨r, n, rfl, nan_of_canon (h1.trans hv), rfl⟩

theorem live4_add (w : World) : Calls Try.prog 39 #[F 4591870180066957722, F 4596373779694328218] w (GivesC 4599075939470750516 w) :=
  (ops_add _ _ w).mono fun e w' h => givesC h (by decide +kernel) (by decide)
theorem live4_sub (w : World) : Calls Try.prog 41 #[F 4607182418800017408, F 4363988038922010624] w (GivesC 4607182418800017408 w) :=
  (ops_sub _ _ w).mono fun e w' h => givesC h (by decide +kernel) (by decide)
theorem live4_mul (w : World) : Calls Try.prog 43 #[F 4591870180066957722, F 4613937818241073152] w (GivesC 4599075939470750516 w) :=
  (ops_mul _ _ w).mono fun e w' h => givesC h (by decide +kernel) (by decide)
theorem live4_root (w : World) : Calls Try.prog 45 #[F 4611686018427387904] w (GivesC 4609047870845172685 w) :=
  (ops_root _ w).mono fun e w' h => givesC h (by decide +kernel) (by decide)
theorem live4_scale (w : World) : Calls Try.prog 47 #[F 4613937818241073152, .int .i64 (-1)] w (GivesC 4609434218613702656 w) :=
  (ops_scale _ _ ⟨by decide, by decide +kernel⟩ (by decide) (by decide) w).mono fun e w' h => givesC h (by decide +kernel) (by decide)
theorem live4_inf1 (w : World) : Calls Try.prog 39 #[F 9218868437227405312, F 4607182418800017408] w (GivesC 9218868437227405312 w) :=
  (ops_add _ _ w).mono fun e w' h => givesC h (by decide +kernel) (by decide)
theorem live4_nan1 (w : World) : Calls Try.prog 39 #[F 9218868437227405312, F 18442240474082181120] w (GivesQ w) :=
  (ops_add _ _ w).mono fun e w' h => givesQ h (by decide +kernel)
theorem live4_inf2 (w : World) : Calls Try.prog 43 #[F 9218868437227405312, F 13835058055282163712] w (GivesC 18442240474082181120 w) :=
  (ops_mul _ _ w).mono fun e w' h => givesC h (by decide +kernel) (by decide)
theorem live4_nan2 (w : World) : Calls Try.prog 45 #[F 13830554455654793216] w (GivesQ w) :=
  (ops_root _ w).mono fun e w' h => givesQ h (by decide +kernel)
theorem live4_inf3 (w : World) : Calls Try.prog 43 #[F 9218868437227405311, F 4611686018427387904] w (GivesC 9218868437227405312 w) :=
  (ops_mul _ _ w).mono fun e w' h => givesC h (by decide +kernel) (by decide)
theorem live4_sum (b off cap : Nat) (w : World) (h0 : w.cell? ⟨b, off, none⟩ = some (F 4607182418800017408)) (h1 : w.cell? ⟨b, off + 1, none⟩ = some (F 4368491638549381120)) (h2 : w.cell? ⟨b, off + 2, none⟩ = some (F 4368491638549381120)) :
    Calls Try.prog 51 #[.slice (some ⟨b, off, none⟩) 3 cap] w (GivesC 4607182418800017408 w) := by
  refine (ops_sum _ 3 cap [4607182418800017408, 4368491638549381120, 4368491638549381120] w (by decide) ⟨rfl, .inr ⟨b, off, rfl, ?_⟩⟩).mono fun e w' h => givesC h (by decide +kernel) (by decide)
  intro k hk
  match k, hk with
  | 0, _ => exact h0
  | 1, _ => exact h1
  | 2, _ => exact h2

theorem live4_sum' (b : Nat) (W : World) (hb : b = W.heap.size) :
    Calls Try.prog 51 #[.slice (some ⟨b, 0, none⟩) 3 3] (W.alloc (.cells #[.float .f64 4607182418800017408, .float .f64 4368491638549381120, .float .f64 4368491638549381120] 22)) (GivesC 4607182418800017408 (W.alloc (.cells #[.float .f64 4607182418800017408, .float .f64 4368491638549381120, .float .f64 4368491638549381120] 22))) := by
  subst hb
  refine live4_sum _ _ _ _ ?_ ?_ ?_
  all_goals simp [go_sem]

set_option maxHeartbeats 1000000 in
theorem l4_head (w : World) : Calls Try.prog 38 #[] w fun e w' => e = .returned (.bool true) ∧ Below w.heap.size w w' := by
  have o0 : (FloatKind.f64.format.order 4599075939470750516 4599075939470750516 == some .eq) = true := by decide +kernel
  have o1 : (FloatKind.f64.format.order 4607182418800017408 4607182418800017408 == some .eq) = true := by decide +kernel
  have o2 : (FloatKind.f64.format.order 4609047870845172685 4609047870845172685 == some .eq) = true := by decide +kernel
  have o3 : (FloatKind.f64.format.order 4609434218613702656 4609434218613702656 == some .eq) = true := by decide +kernel
  have o4 : (FloatKind.f64.format.order 9218868437227405312 9218868437227405312 == some .eq) = true := by decide +kernel
  have o5 : (FloatKind.f64.format.order 18442240474082181120 18442240474082181120 == some .eq) = true := by decide +kernel
  have en : Fl.fneg 9218868437227405312 = 18442240474082181120 := by decide +kernel
  go_enter Try.func38, Try.ntmps38
  go_wp2_with fail
  refine (m_inf _).mono ?_
  rintro e w' ⟨rfl, rfl⟩
  go_wp2_with fail
  refine (live4_add _).mono ?_
  rintro e w' ⟨n1, rfl, rfl⟩
  go_wp2_with fail
  refine (live4_sub _).mono ?_
  rintro e w' ⟨n2, rfl, rfl⟩
  go_wp2_with fail
  refine (live4_mul _).mono ?_
  rintro e w' ⟨n3, rfl, rfl⟩
  go_wp2_with fail
  refine (live4_root _).mono ?_
  rintro e w' ⟨n4, rfl, rfl⟩
  go_wp2_with fail
  refine (live4_scale _).mono ?_
  rintro e w' ⟨n5, rfl, rfl⟩
  go_wp2_with fail
  refine (live4_sum' _ _ rfl).mono ?_
  rintro e w' ⟨n6, rfl, rfl⟩
  go_wp2_with fail
  refine (live4_inf1 _).mono ?_
  rintro e w' ⟨n7, rfl, rfl⟩
  go_wp2_with fail
  refine (live4_nan1 _).mono ?_
  rintro e w' ⟨x8, n8, rfl, hx8, rfl⟩
  have hq8 := ne_of_nan hx8
  go_wp2_with fail
  refine (live4_nan1 _).mono ?_
  rintro e w' ⟨x9, n9, rfl, hx9, rfl⟩
  have hr9 := hq8 x9
  clear hq8 hx8 hx9
  go_wp2_with fail
  refine (live4_inf2 _).mono ?_
  rintro e w' ⟨n10, rfl, rfl⟩
  go_wp2_with fail
  refine (live4_nan2 _).mono ?_
  rintro e w' ⟨x11, n11, rfl, hx11, rfl⟩
  have hq11 := ne_of_nan hx11
  go_wp2_with fail
  refine (live4_nan2 _).mono ?_
  rintro e w' ⟨x12, n12, rfl, hx12, rfl⟩
  have hr12 := hq11 x12
  clear hq11 hx11 hx12
  go_wp2_with fail
  refine (live4_inf3 _).mono ?_
  rintro e w' ⟨n13, rfl, rfl⟩
  go_wp2
  go_ret
  exact ⟨rfl, ⟨rfl, rfl, rfl, by simp, fun k hk => Below.heap_alloc _ _ _ hk⟩⟩
end Go.Proofs.Ytemneeknemijpaa
