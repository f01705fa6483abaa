/- F.Near of the document. No condition but the sizes. -/
import Derived.Test.YtemneeknemijpaaFk
namespace Go.Proofs.Ytemneeknemijpaa
open Go.RowKit

def NearGives (w : World) (neg : Bool) (m : Nat) (E : Int) (e : Ending) (w' : World) : Prop := ∃ x, e = .returned (F x) ∧ Fl.NearSo neg m E x ∧ Below w.heap.size w w'
theorem gives_scal {x : Nat} {k : Int} {w w' : World} {e : Ending} (h : Gives (Fl.scal x k) w e w') : e = .returned (F (Fl.scal x k)) ∧ ∃ n, w' = w.drewN n := by
  obtain ⟨r, n, rfl, hr, _, rfl⟩ := h
  rw [Fl.of_canon hr (Fl.scal_notNaN x k)]
  exact ⟨rfl, n, rfl⟩

theorem blen_digs {n L : Nat} (h : (digs n).length ≤ L) : blen n ≤ 24 * L := blen_le _ n (by rw [← W_two]; exact Nat.lt_of_lt_of_le (digs_len_lt n) (W_mono h))
theorem f_near_zero (neg : Bool) {s : Value} {E : Int} {w : World} (hs : IsN w s 0) : Calls Try.prog 37 #[Dv neg s E] w (NearGives w neg 0 E) := by
  obtain ⟨a, l, c, rfl, hl⟩ := hs.parts
  rw [digs_zero] at hl
  obtain rfl : 0 = l := hl
  have HZ : Hid (Fl.rndS 0 (E + 1074) = 0) := Lib.hid (by unfold Fl.rndS; rw [Nat.zero_mul]; rfl)
  clear hs
  go_enter Try.func37, Try.ntmps37
  go_wp2
  go_ret
  exact ⟨0, rfl, .inr ⟨HZ.out, rfl⟩, (Below.refl _ w).alloc (Nat.le_refl _) _⟩

set_option maxHeartbeats 2000000 in
theorem f_near_pos (neg : Bool) {s : Value} {m : Nat} {E : Int} {w : World} (hs : IsN w s m) (hm8 : (digs m).length ≤ 800) (hE1 : -19000 ≤ E) (hE2 : E ≤ 200000) (hm : m ≠ 0) : Calls Try.prog 37 #[Dv neg s E] w (NearGives w neg m E) := by
  obtain ⟨a, l, c, rfl, hl⟩ := hs.parts
  have hl1 : ((l : Int) == 0) = false := by
    apply beq_false_of_ne
    intro h0
    exact hm (digs_len_zero.1 (by omega))
  have HS := Lib.hid hs
  have HM8 := Lib.hid hm8
  have hB8 : blen m ≤ 24 * 800 := blen_digs hm8
  have hB1 : 1 ≤ blen m := by rw [blen_pos hm]; omega
  have HLN : Hid (∀ w', Below w.heap.size w w' → Calls Try.prog 67 #[.slice a l c] w' fun e w'' => e = .returned (I (blen m)) ∧ w'' = w') := Lib.hid (fun w' hb => n_len (hs.below hb) (Nat.le_trans hm8 (by decide)))
  have HNI := Lib.hid (Fl.near_inf hm E)
  have HNN := Lib.hid (Fl.near_nil hm E)
  have HUP := Lib.hid (Fl.near_up (m := m) E)
  have HDN := Lib.hid (Fl.near_dn hm E)
  obtain ⟨B, hB⟩ : ∃ B, blen m = B := ⟨_, rfl⟩
  rw [hB] at hB8 hB1 HLN HNI HNN HUP HDN
  clear hs hl hm hm8 hB
  go_enter Try.func37, Try.ntmps37
  go_wp2_with fail
  obtain ⟨w0, hw0⟩ : ∃ w0, w.alloc (Obj.cells #[Value.bool neg, Value.slice a l c, Value.int IntKind.i64 E] 35) = w0 := ⟨_, rfl⟩
  have HB0 : Hid (Below w.heap.size w w0) := Lib.hid (by rw [← hw0]; exact (Below.refl _ w).alloc (Nat.le_refl _) _)
  have HS0 : Hid (w0.heap.size = w.heap.size + 1) := Lib.hid (by rw [← hw0]; simp)
  have A0 : Hid (w0.cell? ⟨w.heap.size, 0, none⟩ = some (.bool neg)) := Lib.hid (by rw [← hw0]; simp [go_sem])
  have A1 : Hid (w0.cell? ⟨w.heap.size, 1, none⟩ = some (.slice a l c)) := Lib.hid (by rw [← hw0]; simp [go_sem])
  have A2 : Hid (w0.cell? ⟨w.heap.size, 2, none⟩ = some (.int .i64 E)) := Lib.hid (by rw [← hw0]; simp [go_sem])
  rw [hw0]
  clear hw0
  refine wp_region_still (S := Below w0.heap.size w0) (by kernel_rfl) ?_
  have hS0 : Below w0.heap.size w0 w0.drew := (Below.refl _ w0).drew
  refine wpAnyR_take (i := 0) rfl (by kernel_rfl) (by kernel_rfl) (by kernel_rfl) (fun _ _ _ h => h) hS0 (.inl ⟨by kernel_rfl, fun w' hS => (by have yA0 := cell_at hS (by rw [HS0.out]; omega) A0.out; have yA1 := cell_at hS (by rw [HS0.out]; omega) A1.out; have yA2 := cell_at hS (by rw [HS0.out]; omega) A2.out; go_simp; exact ⟨rfl, rfl⟩)⟩) rfl (by go_simp; rfl) ?_
  refine wpAnyR_take (i := 1) rfl (by kernel_rfl) (by kernel_rfl) (by kernel_rfl) (fun _ _ _ h => h) hS0 (.inl ⟨by kernel_rfl, fun w' hS => (by have yA0 := cell_at hS (by rw [HS0.out]; omega) A0.out; have yA1 := cell_at hS (by rw [HS0.out]; omega) A1.out; have yA2 := cell_at hS (by rw [HS0.out]; omega) A2.out; go_simp; exact ⟨rfl, rfl⟩)⟩) rfl (by go_simp; rfl) ?_
  refine wpAnyR_take (i := 2) rfl (by kernel_rfl) (by kernel_rfl) (by kernel_rfl) (fun _ _ _ h => h) hS0 (.inl ⟨by kernel_rfl, fun w' hS => (by have yA0 := cell_at hS (by rw [HS0.out]; omega) A0.out; have yA1 := cell_at hS (by rw [HS0.out]; omega) A1.out; have yA2 := cell_at hS (by rw [HS0.out]; omega) A2.out; go_simp; exact ⟨rfl, rfl⟩)⟩) rfl (by go_simp; rfl) ?_
  refine wpAnyR_take (i := 3) rfl (by kernel_rfl) (by kernel_rfl) (by kernel_rfl) (fun _ _ _ h => h) hS0 (.inl ⟨by kernel_rfl, fun w' hS => (by have yA0 := cell_at hS (by rw [HS0.out]; omega) A0.out; have yA1 := cell_at hS (by rw [HS0.out]; omega) A1.out; have yA2 := cell_at hS (by rw [HS0.out]; omega) A2.out; go_simp; exact ⟨rfl, rfl⟩)⟩) rfl (by go_simp; rfl) ?_
  refine wpAnyR_take (i := 4) rfl (by kernel_rfl) (by kernel_rfl) (by kernel_rfl) (fun _ _ _ h => h) hS0 (.inl ⟨by kernel_rfl, fun w' hS => (by have yA0 := cell_at hS (by rw [HS0.out]; omega) A0.out; have yA1 := cell_at hS (by rw [HS0.out]; omega) A1.out; have yA2 := cell_at hS (by rw [HS0.out]; omega) A2.out; go_simp; exact (HLN.out _ (HB0.out.trans (hS.mono HB0.out.size))))⟩) rfl (by go_simp; rfl) ?_
  refine wpAnyR_take (i := 5) rfl (by kernel_rfl) (by kernel_rfl) (by kernel_rfl) (fun _ _ _ h => h) hS0 (.inl ⟨by kernel_rfl, fun w' hS => (by have yA0 := cell_at hS (by rw [HS0.out]; omega) A0.out; have yA1 := cell_at hS (by rw [HS0.out]; omega) A1.out; have yA2 := cell_at hS (by rw [HS0.out]; omega) A2.out; go_simp; exact ⟨rfl, rfl⟩)⟩) rfl (by go_simp; rfl) ?_
  refine wpAnyR_take (i := 6) rfl (by kernel_rfl) (by kernel_rfl) (by kernel_rfl) (fun _ _ _ h => h) hS0 (.inl ⟨by kernel_rfl, fun w' hS => (by have yA0 := cell_at hS (by rw [HS0.out]; omega) A0.out; have yA1 := cell_at hS (by rw [HS0.out]; omega) A1.out; have yA2 := cell_at hS (by rw [HS0.out]; omega) A2.out; go_simp; exact ⟨rfl, rfl⟩)⟩) rfl (by go_simp; rfl) ?_
  refine wpAnyR_take (i := 7) rfl (by kernel_rfl) (by kernel_rfl) (by kernel_rfl) (fun _ _ _ h => h) hS0 (.inl ⟨by kernel_rfl, fun w' hS => (by have yA0 := cell_at hS (by rw [HS0.out]; omega) A0.out; have yA1 := cell_at hS (by rw [HS0.out]; omega) A1.out; have yA2 := cell_at hS (by rw [HS0.out]; omega) A2.out; go_simp; exact ⟨rfl, rfl⟩)⟩) rfl (by go_simp; rfl) ?_
  refine wpAnyR_done (by kernel_rfl) ?_ _
  obtain ⟨w1, hw1⟩ : ∃ w1, w0.drew = w1 := ⟨_, rfl⟩
  rw [hw1] at hS0 ⊢
  have HB1 := Lib.hid hS0
  have HBw : Hid (Below w.heap.size w w1) := Lib.hid (HB0.out.trans (HB1.out.mono HB0.out.size))
  have a0 := cell_at HB1.out (show _ < w0.heap.size by rw [HS0.out]; omega) A0.out
  have a1 := cell_at HB1.out (show _ < w0.heap.size by rw [HS0.out]; omega) A1.out
  have a2 := cell_at HB1.out (show _ < w0.heap.size by rw [HS0.out]; omega) A2.out
  obtain ⟨t, ht⟩ : ∃ t, E + (B : Int) - 1 = t := ⟨_, rfl⟩
  rw [ht] at HNI HNN HUP HDN
  have hwr1 : IntKind.i64.wrap (E + (B : Int)) = E + B := by rw [IntKind.wrap_i64]; omega
  try rw [hwr1]
  try rw [ht]
  have hwr2 : IntKind.i64.wrap t = t := by rw [IntKind.wrap_i64]; omega
  try rw [hwr2]
  have hEt : E ≤ t := by omega
  have ht1 : -1000000 ≤ t := by omega
  have ht2 : t ≤ 1000000 := by omega
  clear hw1 hS0 hwr1 ht hwr2
  by_cases hT : 1023 < t
  · have HR := HNI.out hT
    cases neg
    · have HX : Hid (Fl.NearSo false m E 9218868437227405312) := Lib.hid (.inl (by rw [HR]; decide))
      clear HR
      go_wp2_with fail
      refine (m_inf _).mono ?_
      rintro e w' ⟨rfl, rfl⟩
      go_wp2
      go_ret
      exact ⟨_, rfl, HX.out, HBw.out⟩
    · have HX : Hid (Fl.NearSo true m E 18442240474082181120) := Lib.hid (.inl (by rw [HR]; decide))
      clear HR
      go_wp2_with fail
      refine (m_minf _).mono ?_
      rintro e w' ⟨rfl, rfl⟩
      go_wp2
      go_ret
      exact ⟨_, rfl, HX.out, HBw.out⟩
  by_cases hT2 : t < -1080
  · have HX : Hid (Fl.NearSo neg m E 0) := Lib.hid (.inr ⟨HNN.out hT2, rfl⟩)
    go_wp2
    go_ret
    exact ⟨_, rfl, HX.out, HBw.out⟩
  obtain ⟨q, hq⟩ : ∃ q, q = max (t - 52) (-1074) := ⟨_, rfl⟩
  have hq1 : -1074 ≤ q := by omega
  have hq2 : q ≤ 971 := by omega
  have HFIN : Hid (∀ N : Nat, N ≤ 2 ^ 53 → Fl.rndS N (q + 1074) = Fl.rndS m (E + 1074) → ∀ w2, Below w1.heap.size w1 w2 → Calls Try.prog 69 #[F (Fl.ofInt N), .int .i64 q] w2 fun e w3 => e = .returned (F (Fl.D.word false (Fl.rndS m (E + 1074)))) ∧ Below w1.heap.size w1 w3) := Lib.hid (fun N hN hr w2 hb => by
    refine (m_Ldexp _ q (Fl.mg_ofInt hN).1 (by omega) (by omega) w2).mono ?_
    intro e w3 hg
    obtain ⟨rfl, n, rfl⟩ := gives_scal hg
    rw [Fl.scal_ofInt hN, hr]
    exact ⟨rfl, below_drewN hb n⟩)
  have HEND : Hid (Fl.NearSo neg m E (Fl.D.word neg (Fl.rndS m (E + 1074)))) := Lib.hid (.inl rfl)
  obtain ⟨R, hR⟩ : ∃ R, Fl.rndS m (E + 1074) = R := ⟨_, rfl⟩
  have HNEG : Hid (Fl.fneg (Fl.D.word false R) = Fl.D.word true R) := Lib.hid (Fl.word_neg false (by rw [← hR]; have := Fl.rndS_le m (E + 1074); omega)).symm
  rw [hR] at HFIN HEND HUP HDN
  clear hR
  by_cases hqE : q ≤ E
  · obtain ⟨i, hi⟩ : ∃ i : Nat, q + i = E := ⟨(E - q).toNat, by omega⟩
    obtain ⟨hr1, hr2⟩ := HUP.out q hq i hi
    have hqe : q - E = -(i : Int) := by omega
    have hi8 : i ≤ 20000 := by omega
    have HRD : Hid (Calls Try.prog 70 #[.slice a l c, .int .i64 (q - E)] w1 (Gets w1 (m * 2 ^ i : Nat))) := Lib.hid (by rw [hqe]; exact f_round_up (HS.out.below HBw.out) HM8.out i hi8 (by omega))
    obtain ⟨N, hN⟩ : ∃ N, m * 2 ^ i = N := ⟨_, rfl⟩
    rw [hN] at hr1 hr2 HRD
    have HFN := Lib.hid (HFIN.out N (by omega) hr1)
    clear hr1 hr2 hN hi hqe hi8 hqE
    by_cases hbig : ¬ t - 52 < -1074
    · obtain rfl : q = t - 52 := by omega
      have hm1 : -1074 ≤ t - 52 := by omega
      clear hq hq1 hq2
      go_wp2_with fail
      refine HRD.out.mono ?_
      rintro e2 w2 ⟨rfl, hb2⟩
      have HB2 := Lib.hid hb2
      have a0' := cell_at (HB1.out.trans (hb2.mono HB1.out.size)) (show _ < w0.heap.size by rw [HS0.out]; omega) A0.out
      clear hb2
      go_wp2_with fail
      refine (HFN.out _ HB2.out).mono ?_
      rintro e3 w3 ⟨rfl, hb3⟩
      have HB3 : Hid (Below w.heap.size w w3) := Lib.hid (HBw.out.trans (hb3.mono HBw.out.size))
      have a0'' := cell_at (HB1.out.trans (hb3.mono HB1.out.size)) (show _ < w0.heap.size by rw [HS0.out]; omega) A0.out
      clear hb3 a0'
      cases neg
      · go_wp2
        go_ret
        exact ⟨_, rfl, HEND.out, HB3.out⟩
      · go_wp2
        go_ret
        exact ⟨_, rfl, by rw [HNEG.out]; exact HEND.out, HB3.out⟩
    · obtain rfl : q = -1074 := by omega
      have hm1 : t - 52 < -1074 := by omega
      clear hq hq1 hq2
      go_wp2_with fail
      refine HRD.out.mono ?_
      rintro e2 w2 ⟨rfl, hb2⟩
      have HB2 := Lib.hid hb2
      have a0' := cell_at (HB1.out.trans (hb2.mono HB1.out.size)) (show _ < w0.heap.size by rw [HS0.out]; omega) A0.out
      clear hb2
      go_wp2_with fail
      refine (HFN.out _ HB2.out).mono ?_
      rintro e3 w3 ⟨rfl, hb3⟩
      have HB3 : Hid (Below w.heap.size w w3) := Lib.hid (HBw.out.trans (hb3.mono HBw.out.size))
      have a0'' := cell_at (HB1.out.trans (hb3.mono HB1.out.size)) (show _ < w0.heap.size by rw [HS0.out]; omega) A0.out
      clear hb3 a0'
      cases neg
      · go_wp2
        go_ret
        exact ⟨_, rfl, HEND.out, HB3.out⟩
      · go_wp2
        go_ret
        exact ⟨_, rfl, by rw [HNEG.out]; exact HEND.out, HB3.out⟩
  · obtain ⟨i, hi⟩ : ∃ i : Nat, E + i = q := ⟨(q - E).toNat, by omega⟩
    obtain ⟨hr1, hr2, hr3⟩ := HDN.out q hq i hi
    have hqe : q - E = (i : Int) := by omega
    have hi8 : i ≤ 20000 := by omega
    have hi9 : 0 < i := by omega
    have HRD : Hid (Calls Try.prog 70 #[.slice a l c, .int .i64 (q - E)] w1 (Gets w1 (Fl.rne m (2 ^ i) : Nat))) := Lib.hid (by rw [hqe]; exact f_round_dn (HS.out.below HBw.out) HM8.out i hi8 hi9 hr3)
    obtain ⟨N, hN⟩ : ∃ N, Fl.rne m (2 ^ i) = N := ⟨_, rfl⟩
    rw [hN] at hr1 hr2 HRD
    have HFN := Lib.hid (HFIN.out N hr2 hr1)
    clear hr1 hr2 hr3 hN hi hqe hi8 hi9 hqE
    by_cases hbig : ¬ t - 52 < -1074
    · obtain rfl : q = t - 52 := by omega
      have hm1 : -1074 ≤ t - 52 := by omega
      clear hq hq1 hq2
      go_wp2_with fail
      refine HRD.out.mono ?_
      rintro e2 w2 ⟨rfl, hb2⟩
      have HB2 := Lib.hid hb2
      have a0' := cell_at (HB1.out.trans (hb2.mono HB1.out.size)) (show _ < w0.heap.size by rw [HS0.out]; omega) A0.out
      clear hb2
      go_wp2_with fail
      refine (HFN.out _ HB2.out).mono ?_
      rintro e3 w3 ⟨rfl, hb3⟩
      have HB3 : Hid (Below w.heap.size w w3) := Lib.hid (HBw.out.trans (hb3.mono HBw.out.size))
      have a0'' := cell_at (HB1.out.trans (hb3.mono HB1.out.size)) (show _ < w0.heap.size by rw [HS0.out]; omega) A0.out
      clear hb3 a0'
      cases neg
      · go_wp2
        go_ret
        exact ⟨_, rfl, HEND.out, HB3.out⟩
      · go_wp2
        go_ret
        exact ⟨_, rfl, by rw [HNEG.out]; exact HEND.out, HB3.out⟩
    · obtain rfl : q = -1074 := by omega
      have hm1 : t - 52 < -1074 := by omega
      clear hq hq1 hq2
      go_wp2_with fail
      refine HRD.out.mono ?_
      rintro e2 w2 ⟨rfl, hb2⟩
      have HB2 := Lib.hid hb2
      have a0' := cell_at (HB1.out.trans (hb2.mono HB1.out.size)) (show _ < w0.heap.size by rw [HS0.out]; omega) A0.out
      clear hb2
      go_wp2_with fail
      refine (HFN.out _ HB2.out).mono ?_
      rintro e3 w3 ⟨rfl, hb3⟩
      have HB3 : Hid (Below w.heap.size w w3) := Lib.hid (HBw.out.trans (hb3.mono HBw.out.size))
      have a0'' := cell_at (HB1.out.trans (hb3.mono HB1.out.size)) (show _ < w0.heap.size by rw [HS0.out]; omega) A0.out
      clear hb3 a0'
      cases neg
      · go_wp2
        go_ret
        exact ⟨_, rfl, HEND.out, HB3.out⟩
      · go_wp2
        go_ret
        exact ⟨_, rfl, by rw [HNEG.out]; exact HEND.out, HB3.out⟩

theorem f_near (neg : Bool) {s : Value} {m : Nat} {E : Int} {w : World} (hs : IsN w s m) (hm8 : (digs m).length ≤ 800) (hE1 : -19000 ≤ E) (hE2 : E ≤ 200000) : Calls Try.prog 37 #[Dv neg s E] w (NearGives w neg m E) := by
  by_cases h0 : m = 0
  · subst h0; exact f_near_zero neg hs
  · exact f_near_pos neg hs hm8 hE1 hE2 h0
end Go.Proofs.Ytemneeknemijpaa
