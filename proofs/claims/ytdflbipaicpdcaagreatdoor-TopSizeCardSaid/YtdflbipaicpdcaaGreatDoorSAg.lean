/- The abstract machine: copying, new slices, maps, sums and comparisons, against the model's. The abstract machine: numbers, floats, comparisons with nil, against the model's. The abstract machine: comparisons with nil, conversions, maps, against the model's. The abstract machine: the operations that call nothing, against the model's. The abstract machine: a function's body, what it hands back, how it is left, against the model's. The abstract machine: calls of function values, rounds of loops over functions, operations, against the model's. The abstract machine: operations and plain regions against the model's. The abstract machine: loops, scopes, loops over functions, against the model's. No condition. -/
import Derived.Test.YtdflbipaicpdcaaGreatDoorSAa
import Derived.RangeFuncRecord
import Derived.RangeFuncNested
import Derived.Scope
set_option linter.unusedVariables false
set_option linter.unusedSimpArgs false
namespace Go.AM
open Go Go.Proofs.YtdflbipaicpdcaaGreatDoor
variable {P : Program}

theorem copyA_sound {g : Gh} {J : Io} {S : Nat → Prop} {s s1 : St} {w : World} (hM : Mem g J S s w) {tys : List TypeId} {x y u1 u2 v : Value} {ty : TypeId}
    (h : copyA P g.base s tys x y = some (v, s1)) (hx : Den J x u1) (hy : Den J y u2) (hSx : ∀ b ∈ blockOf x, S b) (hSy : ∀ b ∈ blockOf y, S b) :
    ∃ u w', (Builtin.copy_ tys.toArray ty #[u1, u2]).run P w = .ok u w' ∧ Mem g J S s1 w' ∧ Den J v u ∧ s1.T = s.T ∧ s1.df = s.df := by
  unfold copyA at h
  split at h
  case h_2 => cases h
  rename_i sT rest
  cases hu : P.underlying sT with
  | none => rw [hu] at h; simp at h
  | some d =>
    rw [hu] at h
    cases d with
    | slice elem =>
      simp only at h
      cases hs : sizeT P elem with
      | none => rw [hs] at h; simp at h
      | some size =>
        rw [hs] at h
        cases hl : lenA y with
        | none => rw [hl] at h; simp at h
        | some n =>
          rw [hl] at h
          obtain ⟨ln1, a2, c2, ln2⟩ := lenA_sound (P := P) hl hy w
          have hsz := (sizeT_spec hs w).1
          cases hx with
          | slice0 m c hc =>
            simp only at h
            cases hys : cellsA s size (Nat.min n m) y with
            | none => rw [hys] at h; simp at h
            | some ys =>
              rw [hys] at h
              simp only [Option.some.injEq, Prod.mk.injEq] at h
              obtain ⟨rfl, rfl⟩ := h
              obtain ⟨us2, k1, k2, k3⟩ := cellsA_sound (P := P) hM hys hSy hy
              exact ⟨goInt (Nat.min n m), w, by simp [Builtin.copy_, run_underlying hu w, ln1, hsz, k1], hM, .int _ _, rfl, rfl⟩
          | slice b o m c p hp hc =>
            simp only at h
            cases hys : cellsA s size (Nat.min n m) y with
            | none => rw [hys] at h; simp at h
            | some ys =>
              rw [hys] at h
              simp only [Option.map_eq_some_iff, Prod.mk.injEq] at h
              obtain ⟨s2, hst, rfl, rfl⟩ := h
              obtain ⟨us2, k1, k2, k3⟩ := cellsA_sound (P := P) hM hys hSy hy
              obtain ⟨w', q1, q2, q3, q4, q5⟩ := storeCellsA_sound (P := P) hM (hSx b (by simp [blockOf])) hst hp k2
              exact ⟨goInt (Nat.min n m), w', by simp [Builtin.copy_, run_underlying hu w, ln1, hsz, k1, q1], q2, .int _ _, q3, q4⟩
          | wide b o m c c' p hp hc hmc hss =>
            simp only at h
            cases hys : cellsA s size (Nat.min n m) y with
            | none => rw [hys] at h; simp at h
            | some ys =>
              rw [hys] at h
              simp only [Option.map_eq_some_iff, Prod.mk.injEq] at h
              obtain ⟨s2, hst, rfl, rfl⟩ := h
              obtain ⟨us2, k1, k2, k3⟩ := cellsA_sound (P := P) hM hys hSy hy
              obtain ⟨w', q1, q2, q3, q4, q5⟩ := storeCellsA_sound (P := P) hM (hSx b (by simp [blockOf])) hst hp k2
              exact ⟨goInt (Nat.min n m), w', by simp [Builtin.copy_, run_underlying hu w, ln1, hsz, k1, q1], q2, .int _ _, q3, q4⟩
          | _ => simp at h
    | _ => simp at h

theorem wrap_small {n : Nat} (h : n ≤ 16777216) : IntKind.i64.wrap (n : Int) = (n : Int) := by
  unfold IntKind.wrap
  have e : (n : Int) % (2 ^ IntKind.i64.bits : Int) = n := Int.emod_eq_of_lt (by omega) (by show (n : Int) < 2 ^ 64; have : (2 : Int) ^ 64 = 18446744073709551616 := by decide
                                                                                            omega)
  simp only [e]
  rw [if_neg]
  simp only [Bool.and_eq_true, decide_eq_true_eq, not_and]
  intro _
  show ¬ ((n : Int) ≥ 2 ^ 63)
  have : (2 : Int) ^ 63 = 9223372036854775808 := by decide
  omega

theorem makeSliceOp_sound {g : Gh} {J : Io} {S : Nat → Prop} {s s1 : St} {w : World} (hM : Mem g J S s w) {t : TypeId} {l c lu cu v : Value}
    (h : makeSliceOp P s t l c = some (v, s1)) (hl : Den J l lu) (hc : Den J c cu) :
    ∃ J' u w', (Instr.makeSlice t lu cu).run P w = .ok u w' ∧ J.Le J' ∧ Mem g J' S s1 w' ∧ Den J' v u ∧ s1.T = s.T ∧ s1.df = s.df := by
  unfold makeSliceOp at h
  cases hln : natOf l with
  | none => rw [hln] at h; simp at h
  | some len =>
    cases hcn : natOf c with
    | none => rw [hln, hcn] at h; simp at h
    | some cap =>
      rw [hln, hcn] at h
      simp only at h
      obtain ⟨k1, rfl⟩ := natOf_den hln hl
      obtain ⟨k2, rfl⟩ := natOf_den hcn hc
      unfold makeSliceA at h
      cases hu : P.underlying t with
      | none => rw [hu] at h; simp at h
      | some d =>
        rw [hu] at h
        cases d with
        | slice elem =>
          simp only at h
          cases hi : P.info? elem with
          | none => rw [hi] at h; simp at h
          | some i =>
            rw [hi] at h
            simp only at h
            cases hz : zeroT P elem with
            | none => rw [hz] at h; simp at h
            | some z =>
              obtain ⟨z1, z2, z3, _⟩ := zeroT_spec hz w
              rw [hz] at h
              simp only at h
              cases hb : (Nat.ble len cap && Nat.ble cap 16777216 && Nat.ble i.bytes 65536 && Nat.beq z.cells.size i.size) with
              | false => rw [hb] at h; simp at h
              | true =>
                rw [hb] at h
                simp only [cond_true, Option.map_eq_some_iff, Prod.exists, Prod.mk.injEq] at h
                obtain ⟨b, s2, hn, rfl, rfl⟩ := h
                simp only [Bool.and_eq_true] at hb
                have b1 := nble_true hb.1.1.1
                have b2 := nble_true hb.1.1.2
                have b3 := nble_true hb.1.2
                have b4 := nbeq_true hb.2
                have hsz : (sizeOf elem).run P w = .ok i.size w := by simp [sizeOf, typeInfo, hi]
                have hti : (typeInfo elem).run P w = .ok i w := by simp [typeInfo, hi]
                have hinit : ∀ zz : Array Value, (cap * i.size = 0 → zz = #[]) → (cap * i.size ≠ 0 → zz = z.cells) → ((Array.range (cap * i.size)).map (zz[· % zz.size]!)).toList = zeros z.cells.toList cap := by
                  intro zz h0 h1
                  rcases Nat.eq_zero_or_pos (cap * i.size) with e | e
                  · rw [e]; simp
                    have := zeros_length z.cells.toList cap
                    simp [b4, e] at this
                    exact this
                  · rw [h1 (by omega), ← b4]; exact zeros_eq z.cells cap
                have hwl := wrap_small (n := len) (by omega)
                have hwc := wrap_small (n := cap) b2
                have hbc : (i.bytes : Int) * (cap : Int) ≤ 2 ^ 48 := by
                  have h1 : i.bytes * cap ≤ 65536 * 16777216 := Nat.mul_le_mul b3 b2
                  have h2 : ((i.bytes * cap : Nat) : Int) ≤ ((65536 * 16777216 : Nat) : Int) := by omega
                  rw [Int.natCast_mul] at h2
                  have h3 : ((65536 * 16777216 : Nat) : Int) ≤ 2 ^ 48 := by decide
                  omega
                have hbc' : ¬ (281474976710656 < (i.bytes : Int) * (cap : Int)) := by
                  have h48 : (2 : Int) ^ 48 = 281474976710656 := by decide
                  omega
                have hfin : ∀ zz : Array Value, (cap * i.size = 0 → zz = #[]) → (cap * i.size ≠ 0 → zz = z.cells) → ∃ J' w', (newRow elem ((Array.range (cap * i.size)).map (zz[· % zz.size]!))).run P w = .ok ⟨w.heap.size, 0, none⟩ w' ∧ J.Le J' ∧ Mem g J' S s2 w' ∧ Den J' (.slice (some ⟨b, 0, none⟩) len cap) (.slice (some ⟨w.heap.size, 0, none⟩) len cap) ∧ s2.T = s.T ∧ s2.df = s.df := by
                  intro zz h0 h1
                  obtain ⟨J', w', q1, q2, q3, q4, q5, q6⟩ := newRow_sound (P := P) (c' := (Array.range (cap * i.size)).map (zz[· % zz.size]!)) hM hn (CellsDen.of (by rw [hinit zz h0 h1]; exact zeros_den (z3 J) cap))
                  exact ⟨J', w', q1, q2, q3, Den.newSlice q4 (by unfold OPEN; omega), q5, q6⟩
                by_cases e : cap * i.size = 0
                · obtain ⟨J', w', q1, q2, q3, q4, q5, q6⟩ := hfin #[] (fun _ => rfl) (fun h => absurd e h)
                  refine ⟨J', _, w', ?_, q2, q3, q4, q5, q6⟩
                  have : ¬ ((cap : Int) < 0) := by omega
                  have h4 : ¬ ((len : Int) < 0) := by omega
                  have h5 : ¬ ((cap : Int) < (len : Int)) := by omega
                  simp only [Instr.makeSlice, Sem.run_bind, run_underlying hu w, Result.andThen_ok, asInt, asIntOf, Sem.run_pure, hti, hwl, hwc, hsz, Int.toNat_natCast, if_pos e, q1, run_askRoom]
                  simp only [e] at q1
                  simp at q1
                  simp [this, hbc', h4, h5, hsz, e, q1]
                · obtain ⟨J', w', q1, q2, q3, q4, q5, q6⟩ := hfin z.cells (fun h => absurd h e) (fun _ => rfl)
                  refine ⟨J', _, w', ?_, q2, q3, q4, q5, q6⟩
                  have : ¬ ((cap : Int) < 0) := by omega
                  have h4 : ¬ ((len : Int) < 0) := by omega
                  have h5 : ¬ ((cap : Int) < (len : Int)) := by omega
                  simp only [Instr.makeSlice, Sem.run_bind, run_underlying hu w, Result.andThen_ok, asInt, asIntOf, Sem.run_pure, hti, hwl, hwc, hsz, Int.toNat_natCast, if_neg e, q1, run_askRoom]
                  simp [this, hbc', h4, h5, q1, hsz, e, z1]
        | _ => simp at h
end Go.AM
namespace Go.AM
open Go Go.Proofs.YtdflbipaicpdcaaGreatDoor
variable {P : Program}

theorem wrap63 {n : Nat} (h : n < 9223372036854775808) : IntKind.i64.wrap (n : Int) = (n : Int) := by
  unfold IntKind.wrap
  have e : (n : Int) % (2 ^ IntKind.i64.bits : Int) = n := Int.emod_eq_of_lt (by omega) (by
    show (n : Int) < 2 ^ 64
    have : (2 : Int) ^ 64 = 18446744073709551616 := by decide
    omega)
  simp only [e]
  rw [if_neg]
  simp only [Bool.and_eq_true, decide_eq_true_eq, not_and]
  intro _
  show ¬ ((n : Int) ≥ 2 ^ 63)
  have : (2 : Int) ^ 63 = 9223372036854775808 := by decide
  omega

theorem wrap63u {n : Nat} (h : n < 9223372036854775808) : IntKind.u64.wrap (n : Int) = (n : Int) := by
  unfold IntKind.wrap
  have e : (n : Int) % (2 ^ IntKind.u64.bits : Int) = n := Int.emod_eq_of_lt (by omega) (by
    show (n : Int) < 2 ^ 64
    have : (2 : Int) ^ 64 = 18446744073709551616 := by decide
    omega)
  simp only [e]
  rw [if_neg]
  simp [IntKind.signed]

theorem fit_spec {n : Nat} {v : Value} (h : fit .i64 n = some v) : v = .int .i64 (n : Int) ∧ IntKind.i64.wrap (n : Int) = (n : Int) := by
  unfold fit at h
  cases hb : small n with
  | false => rw [hb] at h; simp at h
  | true => rw [hb] at h; simp only [cond_true, Option.some.injEq] at h; exact ⟨h.symm, wrap63 (nblt_true hb)⟩

theorem binNat_sound {op : BinOp} {x y : Nat} {v : Value} (h : binNat op .i64 x y = some v) (t : TypeId) (w : World) :
    (binOp op t (.int .i64 (x : Int)) (.int .i64 (y : Int))).run P w = .ok v w ∧ ∀ J, Den J v v := by
  cases op <;> simp only [binNat] at h
  case add =>
    obtain ⟨rfl, e⟩ := fit_spec h
    refine ⟨?_, fun J => .int _ _⟩
    have : ((Nat.add x y : Nat) : Int) = (x : Int) + (y : Int) := Int.natCast_add x y
    rw [this] at e ⊢
    simp [binOp, Op.intArith, e]
  case sub =>
    cases hb : Nat.ble y x with
    | false => rw [hb] at h; simp at h
    | true =>
      rw [hb] at h
      simp only [cond_true] at h
      obtain ⟨rfl, e⟩ := fit_spec h
      refine ⟨?_, fun J => .int _ _⟩
      have : ((Nat.sub x y : Nat) : Int) = (x : Int) - (y : Int) := Int.natCast_sub (nble_true hb)
      rw [this] at e ⊢
      simp [binOp, Op.intArith, e]
  case mul =>
    obtain ⟨rfl, e⟩ := fit_spec h
    refine ⟨?_, fun J => .int _ _⟩
    have : ((Nat.mul x y : Nat) : Int) = (x : Int) * (y : Int) := Int.natCast_mul x y
    rw [this] at e ⊢
    simp [binOp, Op.intArith, e]
  case quo =>
    cases hb : Nat.beq y 0 with
    | true => rw [hb] at h; simp at h
    | false =>
      rw [hb] at h
      simp only [cond_false] at h
      obtain ⟨rfl, e⟩ := fit_spec h
      refine ⟨?_, fun J => .int _ _⟩
      have : ((Nat.div x y : Nat) : Int) = (x : Int).tdiv (y : Int) := (Int.ofNat_tdiv x y).symm ▸ rfl
      rw [this] at e ⊢
      have hy : ¬ y = 0 := fun e => by rw [e] at hb; simp at hb
      rw [Int.tdiv_eq_ediv_of_nonneg (by omega)] at e
      rw [Int.tdiv_eq_ediv_of_nonneg (by omega)]
      simp [binOp, Op.intDiv, e, hy]
  case rem =>
    cases hb : Nat.beq y 0 with
    | true => rw [hb] at h; simp at h
    | false =>
      rw [hb] at h
      simp only [cond_false, Option.some.injEq] at h
      subst h
      refine ⟨?_, fun J => .int _ _⟩
      have hy : ¬ y = 0 := fun e => by rw [e] at hb; simp at hb
      have : (x : Int).tmod (y : Int) = ((x % y : Nat) : Int) := (Int.ofNat_tmod x y).symm
      simp [binOp, Op.intDiv, hy, this]
      rfl
  case eql =>
    simp only [Option.some.injEq] at h
    subst h
    refine ⟨?_, fun J => .bool _⟩
    have : Nat.beq x y = ((x : Int) == (y : Int)) := by
      rw [Bool.eq_iff_iff]
      simp
      omega
    rw [this]
    simp [binOp, Op.intCmp]
  case neq =>
    simp only [Option.some.injEq] at h
    subst h
    refine ⟨?_, fun J => .bool _⟩
    have : Nat.beq x y = ((x : Int) == (y : Int)) := by
      rw [Bool.eq_iff_iff]
      simp
      omega
    rw [this]
    simp [binOp, Op.intCmp, bne]
  case lss =>
    simp only [Option.some.injEq] at h
    subst h
    refine ⟨?_, fun J => .bool _⟩
    have : Nat.blt x y = decide ((x : Int) < (y : Int)) := by
      rw [Bool.eq_iff_iff]
      simp only [decide_eq_true_eq]
      exact ⟨fun h => by have := nblt_true h; omega, fun h => Nat.ble_eq_true_of_le (by omega)⟩
    rw [this]
    simp [binOp, Op.intCmp]
  case leq =>
    simp only [Option.some.injEq] at h
    subst h
    refine ⟨?_, fun J => .bool _⟩
    have : Nat.ble x y = decide ((x : Int) ≤ (y : Int)) := by
      rw [Bool.eq_iff_iff]
      simp only [decide_eq_true_eq]
      exact ⟨fun h => by have := nble_true h; omega, fun h => Nat.ble_eq_true_of_le (by omega)⟩
    rw [this]
    simp [binOp, Op.intCmp]
  case gtr =>
    simp only [Option.some.injEq] at h
    subst h
    refine ⟨?_, fun J => .bool _⟩
    have : Nat.blt y x = decide ((x : Int) > (y : Int)) := by
      rw [Bool.eq_iff_iff]
      simp only [decide_eq_true_eq]
      exact ⟨fun h => by have := nblt_true h; omega, fun h => Nat.ble_eq_true_of_le (by omega)⟩
    rw [this]
    simp [binOp, Op.intCmp]
  case geq =>
    simp only [Option.some.injEq] at h
    subst h
    refine ⟨?_, fun J => .bool _⟩
    have : Nat.ble y x = decide ((x : Int) ≥ (y : Int)) := by
      rw [Bool.eq_iff_iff]
      simp only [decide_eq_true_eq]
      exact ⟨fun h => by have := nble_true h; omega, fun h => Nat.ble_eq_true_of_le (by omega)⟩
    rw [this]
    simp [binOp, Op.intCmp]
  all_goals (cases h)

/-! ### Operations of which only flat values are asked -/
def OpsDen (J : Io) (s : St) (a : Act) (o : Oper) : Prop := ∀ x ∈ o.op.operands, Den J (ev s x) (a.eval x)

theorem flatOp_sound {J : Io} {s s1 : St} {a : Act} {o : Oper} {v : Value} (h : flatOp P s o = some (v, s1)) (hsel : ∀ cs b, o.op ≠ .select cs b) (hd : OpsDen J s a o) (w : World) :
    (execOp a.eval o).run P w = .ok (.value v) w ∧ s1 = s ∧ ∀ J, Den J v v := by
  unfold flatOp at h
  cases hall : o.op.operands.toList.all (fun x => flat 6 (ev s x)) with
  | false => rw [hall] at h; simp at h
  | true =>
    rw [hall] at h
    simp only [cond_true] at h
    have heq : execOp a.eval o = execOp (ev s) o := execOp_congr o hsel fun x hx => flat_eq 6 _ _ (List.all_eq_true.1 hall x (by simpa using hx)) (hd x hx)
    split at h
    case h_2 => cases h
    rename_i u hp
    cases hf : flat 6 u with
    | false => rw [hf] at h; simp at h
    | true =>
      rw [hf] at h
      simp only [cond_true, Option.some.injEq, Prod.mk.injEq] at h
      obtain ⟨rfl, rfl⟩ := h
      exact ⟨by rw [heq]; exact pureRun_run _ _ hp w, rfl, flat_den 6 u hf⟩

/-! ### Floats -/
theorem Den.float {J : Io} {x : Nat} {u : Value} (h : Den J (.float .f64 x) u) : ∃ m X, u = .float .f64 m ∧ vl J.fl x = some X ∧ Fl.canon m = Fl.canon X ∧ (x < SYM → m = x) ∧ (SYM ≤ x → m < 2 ^ 64 ∧ Fl.canon m = X) := by
  cases h with
  | word _ _ h => exact ⟨x, x, rfl, by unfold vl; rw [if_pos h], rfl, fun _ => rfl, fun h' => by omega⟩
  | sym _ m X h hx hl ha => exact ⟨m, X, rfl, by unfold vl; rw [if_neg (by omega)]; exact hx, by rw [← ha, Fl.canon_canon], fun h' => by omega, fun _ => ⟨hl, ha⟩⟩

theorem newF_sound {g : Gh} {J : Io} {S : Nat → Prop} {s s1 : St} {w : World} (hM : Mem g J S s w) {op x y : Nat} {v : Value} (h : newF s op x y = some (v, s1)) (hop : 1 ≤ op ∧ op ≤ 4) {m V : Nat} (hm : m < 2 ^ 64) (hV : V < 2 ^ 64) (hc : Fl.canon V = V) (he : Fl.canon m = V)
    (hn : ∀ fl : Nat → Option Nat, (∀ r x, J.fl r = some x → fl r = some x) → fl (SYM + s.nd) = some V → nodeOk fl ⟨op, x, y⟩ (SYM + s.nd)) :
    ∃ J', J.Le J' ∧ Mem g J' S s1 w ∧ Den J' v (.float .f64 m) ∧ s1.T = s.T ∧ s1.df = s.df := by
  obtain ⟨J', h1, h2, h3, h4⟩ := hM.float ⟨op, x, y⟩ hop V hV hc hn
  obtain ⟨T, H, nx, W, D, nd, df⟩ := s
  simp only [newF, Option.some.injEq, Prod.mk.injEq] at h
  obtain ⟨rfl, rfl⟩ := h
  exact ⟨J', h1, h2, .sym _ m V (Nat.le_add_right _ _) h3 hm he, rfl, rfl⟩

theorem vl_lt {g : Gh} {J : Io} {S : Nat → Prop} {s : St} {w : World} (hM : Mem g J S s w) {x X : Nat} (h : vl J.fl x = some X) : x < SYM + s.nd := by
  unfold vl at h
  split at h
  · omega
  · exact (hM.flr _ _ h).2.1

theorem fadd_canon2 {m1 m2 X Y : Nat} (h1 : Fl.canon m1 = Fl.canon X) (h2 : Fl.canon m2 = Fl.canon Y) : Fl.fadd m1 m2 = Fl.fadd X Y := by
  rw [← Fl.fadd_canon_left, h1, Fl.fadd_canon_left, ← Fl.fadd_canon_right, h2, Fl.fadd_canon_right]
theorem fsub_canon2 {m1 m2 X Y : Nat} (h1 : Fl.canon m1 = Fl.canon X) (h2 : Fl.canon m2 = Fl.canon Y) : Fl.fsub m1 m2 = Fl.fsub X Y := by
  rw [← Fl.fsub_canon_left, h1, Fl.fsub_canon_left, ← Fl.fsub_canon_right, h2, Fl.fsub_canon_right]
theorem fmul_canon2 {m1 m2 X Y : Nat} (h1 : Fl.canon m1 = Fl.canon X) (h2 : Fl.canon m2 = Fl.canon Y) : Fl.fmul m1 m2 = Fl.fmul X Y := by
  rw [← Fl.fmul_canon_left, h1, Fl.fmul_canon_left, ← Fl.fmul_canon_right, h2, Fl.fmul_canon_right]

theorem fneg_canon {m : Nat} (h : m < 2 ^ 64) : Fl.canon (Fl.fneg (Fl.canon m)) = Fl.canon (Fl.fneg m) := by
  cases hn : Fl.isNaN m with
  | false => rw [Fl.canon_of hn]
  | true =>
    rw [Fl.canon_nan hn, Fl.canon_nan (by rw [Fl.isNaN_neg Fl.qnan_lt]; exact Fl.isNaN_qnan), Fl.canon_nan (by rw [Fl.isNaN_neg h]; exact hn)]

theorem canon_lt {m : Nat} (h : m < 2 ^ 64) : Fl.canon m < 2 ^ 64 := by
  cases hn : Fl.isNaN m with
  | false => rw [Fl.canon_of hn]; exact h
  | true => rw [Fl.canon_nan hn]; exact Fl.qnan_lt

theorem run_guard_float (op : BinOp) (t : TypeId) (x y : Operand) (k k' : FloatKind) (a b : Nat) (w : World) : (eqGuard op t x y (.float k a) (.float k' b)).run P w = .ok () w := by
  cases op <;> rfl
theorem run_guard_int (op : BinOp) (t : TypeId) (x y : Operand) (k k' : IntKind) (a b : Int) (w : World) : (eqGuard op t x y (.int k a) (.int k' b)).run P w = .ok () w := by
  cases op <;> rfl

/-- what a light operation comes to -/
def Lights (P : Program) (g : Gh) (J : Io) (S : Nat → Prop) (s s1 : St) (v : Value) (w : World) (r : Result Next) : Prop :=
  ∃ J' u w', (r = .ok (.value u) w' ∨ (r = .ok .skip w' ∧ u = undef)) ∧ J.Le J' ∧ Mem g J' S s1 w' ∧ Den J' v u ∧ s1.T = s.T ∧ s1.df = s.df

theorem binFloat_sound {g : Gh} {J : Io} {S : Nat → Prop} {s s1 : St} {a : Act} {w : World} (hM : Mem g J S s w) {o : Oper} {op : BinOp} {t t2 : TypeId} {ox oy : Operand} {x y : Nat} {v : Value} (ho : o.op = .binOp op t ox oy t2)
    (h : binFloat P s o op x y = some (v, s1)) (hx : ev s ox = .float .f64 x) (hy : ev s oy = .float .f64 y) (hd : OpsDen J s a o) : Lights P g J S s s1 v w ((execOp a.eval o).run P w) := by
  have h1 := hd ox (by rw [ho]; simp [Op.operands])
  have h2 := hd oy (by rw [ho]; simp [Op.operands])
  rw [hx] at h1
  rw [hy] at h2
  unfold binFloat at h
  cases hs : (bif Nat.ble SYM x then true else Nat.ble SYM y) with
  | false =>
    rw [hs] at h
    simp only [cond_false] at h
    obtain ⟨r1, rfl, r3⟩ := flatOp_sound h (fun cs b e => by rw [ho] at e; cases e) hd w
    exact ⟨J, v, w, .inl r1, .refl _, hM, r3 J, rfl, rfl⟩
  | true =>
    rw [hs] at h
    simp only [cond_true] at h
    obtain ⟨m1, X, e1, v1, c1, _, _⟩ := h1.float
    obtain ⟨m2, Y, e2, v2, c2, _, _⟩ := h2.float
    have hrun : ∀ (r n : Nat), (binOp op t (.float .f64 m1) (.float .f64 m2)).run P w = .ok (.float .f64 r) (w.drewN n) → (execOp a.eval o).run P w = .ok (.value (.float .f64 r)) (w.drewN n) := fun r n hr => by
      obtain ⟨dst, op', ty, pos, af, gd⟩ := o
      simp only at ho
      subst ho
      simp [execOp, e1, e2, run_guard_float, hr]
    cases op <;> simp only at h <;> try (cases h; done)
    case add =>
      obtain ⟨r, n, q1, q2, q3⟩ := run_add m1 m2 w t P
      rw [fadd_canon2 c1 c2] at q2
      obtain ⟨J', j1, j2, j3, j4, j5⟩ := newF_sound hM h (by omega) q3 (Fl.fadd_lt X Y) (Fl.canon_fadd X Y) q2 fun fl hfl hv => ⟨_, hv, Fl.fadd_lt X Y, Fl.canon_fadd X Y, fun _ => ⟨X, Y, vl_lt hM v1, vl_lt hM v2, vl_mono hfl v1, vl_mono hfl v2, rfl⟩, fun e => by simp at e, fun e => by simp at e, fun e => by simp at e⟩
      exact ⟨J', _, _, .inl (hrun r n q1), j1, j2.of_heap rfl, j3, j4, j5⟩
    case sub =>
      obtain ⟨r, n, q1, q2, q3⟩ := run_sub m1 m2 w t P
      rw [fsub_canon2 c1 c2] at q2
      obtain ⟨J', j1, j2, j3, j4, j5⟩ := newF_sound hM h (by omega) q3 (Fl.fsub_lt X Y) (Fl.canon_fsub X Y) q2 fun fl hfl hv => ⟨_, hv, Fl.fsub_lt X Y, Fl.canon_fsub X Y, fun e => by simp at e, fun _ => ⟨X, Y, vl_lt hM v1, vl_lt hM v2, vl_mono hfl v1, vl_mono hfl v2, rfl⟩, fun e => by simp at e, fun e => by simp at e⟩
      exact ⟨J', _, _, .inl (hrun r n q1), j1, j2.of_heap rfl, j3, j4, j5⟩
    case mul =>
      obtain ⟨r, n, q1, q2, q3⟩ := run_mul m1 m2 w t P
      rw [fmul_canon2 c1 c2] at q2
      obtain ⟨J', j1, j2, j3, j4, j5⟩ := newF_sound hM h (by omega) q3 (Fl.fmul_lt X Y) (Fl.canon_fmul X Y) q2 fun fl hfl hv => ⟨_, hv, Fl.fmul_lt X Y, Fl.canon_fmul X Y, fun e => by simp at e, fun e => by simp at e, fun _ => ⟨X, Y, vl_lt hM v1, vl_lt hM v2, vl_mono hfl v1, vl_mono hfl v2, rfl⟩, fun e => by simp at e⟩
      exact ⟨J', _, _, .inl (hrun r n q1), j1, j2.of_heap rfl, j3, j4, j5⟩

theorem unA_sound {g : Gh} {J : Io} {S : Nat → Prop} {s s1 : St} {a : Act} {w : World} (hM : Mem g J S s w) {o : Oper} {op : UnOp} {t : TypeId} {ox : Operand} {v : Value} (ho : o.op = .unOp op t ox)
    (h : unA P s o op (ev s ox) = some (v, s1)) (hd : OpsDen J s a o) : Lights P g J S s s1 v w ((execOp a.eval o).run P w) := by
  have h1 := hd ox (by rw [ho]; simp [Op.operands])
  have hflat : flatOp P s o = some (v, s1) → Lights P g J S s s1 v w ((execOp a.eval o).run P w) := fun h => by
    obtain ⟨r1, rfl, r3⟩ := flatOp_sound h (fun cs b e => by rw [ho] at e; cases e) hd w
    exact ⟨J, v, w, .inl r1, .refl _, hM, r3 J, rfl, rfl⟩
  unfold unA at h
  split at h
  case h_2 => exact hflat h
  rename_i x hx
  cases hs : Nat.ble SYM x with
  | false => rw [hs] at h; exact hflat h
  | true =>
    rw [hs] at h
    simp only [cond_true] at h
    rw [hx] at h1
    obtain ⟨m, X, e1, v1, c1, _, c3⟩ := h1.float
    obtain ⟨l1, l2⟩ := c3 (nble_true hs)
    have hX : X < 2 ^ 64 := by rw [← l2]; exact canon_lt l1
    have hrun : (execOp a.eval o).run P w = .ok (.value (.float .f64 (Fl.fneg m))) w := by
      obtain ⟨dst, op', ty, pos, af, gd⟩ := o
      simp only at ho
      subst ho
      simp only [execOp, e1, Op.unary, pure_bind]
      rfl
    have he : Fl.canon (Fl.fneg m) = Fl.canon (Fl.fneg X) := by rw [← l2, fneg_canon l1]
    obtain ⟨J', j1, j2, j3, j4, j5⟩ := newF_sound hM h (by omega) (Fl.fneg_lt l1) (canon_lt (Fl.fneg_lt hX)) (Fl.canon_canon _) he fun fl hfl hv => ⟨_, hv, canon_lt (Fl.fneg_lt hX), Fl.canon_canon _, fun e => by simp at e, fun e => by simp at e, fun e => by simp at e, fun _ => ⟨X, vl_lt hM v1, vl_mono hfl v1, rfl⟩⟩
    exact ⟨J', _, _, .inl hrun, j1, j2, j3, j4, j5⟩
end Go.AM
namespace Go.AM
open Go Go.Proofs.YtdflbipaicpdcaaGreatDoor
variable {P : Program}

theorem pureRun_bind {α β : Type} : ∀ (x : Sem α) (f : α → Sem β), pureRun P (x.bind f) = (pureRun P x).bind fun a => pureRun P (f a)
  | .pure a, f => rfl
  | .program k, f => by simp only [Sem.bind, pureRun]; exact pureRun_bind (k P) f
  | .mark m k, f => by simp only [Sem.bind, pureRun]; exact pureRun_bind k f
  | .load .., _ => rfl
  | .store .., _ => rfl
  | .new .., _ => rfl
  | .shape .., _ => rfl
  | .freeze .., _ => rfl
  | .frozen .., _ => rfl
  | .getObj .., _ => rfl
  | .setObj .., _ => rfl
  | .choose .., _ => rfl
  | .sys .., _ => rfl
  | .halt .., _ => rfl

theorem pureRun_bind' {α β : Type} (x : Sem α) (f : α → Sem β) : pureRun P (x >>= f) = (pureRun P x).bind fun a => pureRun P (f a) := pureRun_bind x f
theorem pureRun_pure {α : Type} (a : α) : pureRun P (pure a : Sem α) = some a := rfl
theorem pureRun_underlying (t : TypeId) : pureRun P (underlying t) = P.underlying t := by
  unfold underlying
  rw [pureRun_bind']
  show (some P).bind _ = _
  simp only [Option.bind_some]
  cases P.underlying t <;> rfl

/-- one is nil, the other is none -/
inductive NilRef : Value → Value → Value → Value → Prop
  | ptr (a b : Addr) : NilRef (.pointer none) (.pointer (some a)) (.pointer none) (.pointer (some b))
  | slice (n c n' c' d : Nat) (a b : Addr) : NilRef (.slice none n c) (.slice (some a) n' c') (.slice none n c) (.slice (some b) n' d)
  | map (a b : Nat) : NilRef (.map none) (.map (some a)) (.map none) (.map (some b))
  | func (f f' : Fn) (a b a' b' : Array Value) : NilRef .nilFunc (.func f a b) .nilFunc (.func f' a' b')
  | iface (t : TypeId) (v v' : Value) : NilRef .nilIface (.iface t v) .nilIface (.iface t v')

theorem equalIn_nilRef {x y x' y' : Value} (h : NilRef x y x' y') (d : Nat) (t : TypeId) (b : Bool) :
    (pureRun P (Op.equalIn (d + 1) t x y) = some b → ∀ w, (Op.equalIn (d + 1) t x' y').run P w = .ok b w) ∧ (pureRun P (Op.equalIn (d + 1) t y x) = some b → ∀ w, (Op.equalIn (d + 1) t y' x').run P w = .ok b w) := by
  constructor
  all_goals
    intro hp w
    simp only [Op.equalIn] at hp ⊢
    rw [pureRun_bind', pureRun_underlying] at hp
    cases hu : P.underlying t with
    | none => rw [hu] at hp; simp at hp
    | some d =>
      rw [hu] at hp
      simp only [Option.bind_some] at hp
      rw [Sem.run_bind, run_underlying hu w, Result.andThen_ok]
      cases h <;> cases d <;> simp only [stuck, pureRun] at hp ⊢ <;> first
        | (cases hp; done)
        | (rw [pureRun_pure] at hp; cases hp; rfl)
        | (have hp' : some false = some b := hp
           cases hp'; rfl)

theorem equal_nilRef {x y x' y' : Value} (h : NilRef x y x' y') (t : TypeId) (b : Bool) : (pureRun P (Op.equal t x y) = some b → ∀ w, (Op.equal t x' y').run P w = .ok b w) ∧ (pureRun P (Op.equal t y x) = some b → ∀ w, (Op.equal t y' x').run P w = .ok b w) :=
  equalIn_nilRef h 9999 t b

theorem Den.nilRef {J : Io} {x y x' y' : Value} (hx : Den J x x') (hy : Den J y y') (hn : nilPair x y = true) : NilRef x y x' y' := by
  unfold nilPair at hn
  split at hn
  · cases hx; cases hy; exact .ptr _ _
  · cases hx
    cases hy
    · exact .slice _ _ _ _ _ _ _
    · exact .slice _ _ _ _ _ _ _
  · cases hx; cases hy; exact .map _ _
  · cases hx
    cases hy
    · exact .func _ _ _ _ _ _
    · exact .func _ _ _ _ _ _
  · cases hx; cases hy; exact .iface _ _ _
  · cases hn

theorem run_eql {op : BinOp} (hop : op = .eql ∨ op = .neq) {t : TypeId} {x y x' y' v : Value} (h : NilRef x y x' y') (ox oy : Operand) (w : World) :
    (pureRun P (binOp op t x y) = some v → (do eqGuard op t ox oy x' y'; binOp op t x' y').run P w = .ok v w) ∧ (pureRun P (binOp op t y x) = some v → (do eqGuard op t ox oy y' x'; binOp op t y' x').run P w = .ok v w) := by
  have key : ∀ (p q p' q' : Value), (∀ b, pureRun P (Op.equal t p q) = some b → ∀ w, (Op.equal t p' q').run P w = .ok b w) → (eqGuard op t ox oy p' q').run P w = .ok () w →
      (binOp .eql t p q = do pure (.bool (← Op.equal t p q))) → (binOp .neq t p q = do pure (.bool (!(← Op.equal t p q)))) → (binOp .eql t p' q' = do pure (.bool (← Op.equal t p' q'))) → (binOp .neq t p' q' = do pure (.bool (!(← Op.equal t p' q')))) →
      pureRun P (binOp op t p q) = some v → (do eqGuard op t ox oy p' q'; binOp op t p' q').run P w = .ok v w := by
    intro p q p' q' he hg e1 e2 e3 e4 hp
    rcases hop with rfl | rfl
    · rw [e1, pureRun_bind'] at hp
      cases hq : pureRun P (Op.equal t p q) with
      | none => rw [hq] at hp; simp at hp
      | some b =>
        rw [hq] at hp
        simp only [Option.bind_some, pureRun_pure, Option.some.injEq] at hp
        subst hp
        simp [hg, e3, he b hq w]
    · rw [e2, pureRun_bind'] at hp
      cases hq : pureRun P (Op.equal t p q) with
      | none => rw [hq] at hp; simp at hp
      | some b =>
        rw [hq] at hp
        simp only [Option.bind_some, pureRun_pure, Option.some.injEq] at hp
        subst hp
        simp [hg, e4, he b hq w]
  constructor
  · refine key x y x' y' (fun b => (equal_nilRef h t b).1) ?_ ?_ ?_ ?_ ?_
    all_goals cases h <;> rcases hop with rfl | rfl <;> rfl
  · refine key y x y' x' (fun b => (equal_nilRef h t b).2) ?_ ?_ ?_ ?_ ?_
    all_goals cases h <;> rcases hop with rfl | rfl <;> rfl

theorem binA_sound {g : Gh} {J : Io} {S : Nat → Prop} {s s1 : St} {a : Act} {w : World} (hM : Mem g J S s w) {o : Oper} {op : BinOp} {t t2 : TypeId} {ox oy : Operand} {v : Value} (ho : o.op = .binOp op t ox oy t2)
    (h : binA P s o op t (ev s ox) (ev s oy) = some (v, s1)) (hd : OpsDen J s a o) : Lights P g J S s s1 v w ((execOp a.eval o).run P w) := by
  have h1 := hd ox (by rw [ho]; simp [Op.operands])
  have h2 := hd oy (by rw [ho]; simp [Op.operands])
  have hflat : flatOp P s o = some (v, s1) → Lights P g J S s s1 v w ((execOp a.eval o).run P w) := fun h => by
    obtain ⟨r1, rfl, r3⟩ := flatOp_sound h (fun cs b e => by rw [ho] at e; cases e) hd w
    exact ⟨J, v, w, .inl r1, .refl _, hM, r3 J, rfl, rfl⟩
  have hexec : ∀ (u : Value) (w' : World), (do eqGuard op t ox oy (a.eval ox) (a.eval oy); binOp op t (a.eval ox) (a.eval oy)).run P w = .ok u w' → (execOp a.eval o).run P w = .ok (.value u) w' := fun u w' hr => by
    obtain ⟨dst, op', ty, pos, af, gd⟩ := o
    simp only at ho
    subst ho
    simp only [execOp]
    rw [Sem.run_bind, hr]
    rfl
  generalize a.eval ox = ux at h1 hexec
  generalize a.eval oy = uy at h2 hexec
  unfold binA at h
  split at h
  · rename_i k a1 k' b1 e1 e2
    cases hb : binInt op k k' a1 b1 with
    | none => rw [hb] at h; exact hflat h
    | some u =>
      rw [hb] at h
      simp only [Option.some.injEq, Prod.mk.injEq] at h
      obtain ⟨rfl, rfl⟩ := h
      unfold binInt at hb
      split at hb
      · split at hb
        · rename_i x y
          rw [e1] at h1
          rw [e2] at h2
          cases h1; cases h2
          obtain ⟨r1, r2⟩ := binNat_sound (P := P) hb t w
          refine ⟨J, u, w, .inl (hexec u w ?_), .refl _, hM, r2 J, rfl, rfl⟩
          rw [Sem.run_bind, run_guard_int, Result.andThen_ok]
          exact r1
        · cases hb
      · cases hb
  · rename_i x y e1 e2
    exact binFloat_sound hM ho h e1 e2 hd
  · cases hn : (bif nilPair (ev s ox) (ev s oy) then true else nilPair (ev s oy) (ev s ox)) with
    | false => rw [hn] at h; exact hflat h
    | true =>
      rw [hn] at h
      simp only [cond_true] at h
      have hnil : ∀ op', op' = op → (op' = .eql ∨ op' = .neq) → nilA P s op' t (ev s ox) (ev s oy) = some (v, s1) → Lights P g J S s s1 v w ((execOp a.eval o).run P w) := by
        intro op' e hop hq
        clear h
        subst e
        unfold nilA at hq
        cases hp : pureRun P (binOp op' t (ev s ox) (ev s oy)) with
        | none => rw [hp] at hq; simp at hq
        | some u =>
          rw [hp] at hq
          simp only at hq
          cases hf : flat 6 u with
          | false => rw [hf] at hq; simp at hq
          | true =>
            rw [hf] at hq
            simp only [cond_true, Option.some.injEq, Prod.mk.injEq] at hq
            obtain ⟨rfl, rfl⟩ := hq
            refine ⟨J, u, w, .inl (hexec u w ?_), .refl _, hM, flat_den 6 u hf J, rfl, rfl⟩
            cases hn1 : nilPair (ev s ox) (ev s oy) with
            | true => exact (run_eql hop (h1.nilRef h2 hn1) ox oy w).1 hp
            | false =>
              rw [hn1] at hn
              exact (run_eql hop (h2.nilRef h1 hn) ox oy w).2 hp
      split at h
      · exact hnil .eql rfl (.inl rfl) h
      · exact hnil .neq rfl (.inr rfl) h
      · cases h

theorem convA_sound {g : Gh} {J : Io} {S : Nat → Prop} {s s1 : St} {a : Act} {w : World} (hM : Mem g J S s w) {o : Oper} {src dst : TypeId} {ox : Operand} {v : Value} (ho : o.op = .convert src dst ox)
    (h : convA P s o src dst (ev s ox) = some (v, s1)) (hd : OpsDen J s a o) : Lights P g J S s s1 v w ((execOp a.eval o).run P w) := by
  have h1 := hd ox (by rw [ho]; simp [Op.operands])
  have hflat : flatOp P s o = some (v, s1) → Lights P g J S s s1 v w ((execOp a.eval o).run P w) := fun h => by
    obtain ⟨r1, rfl, r3⟩ := flatOp_sound h (fun cs b e => by rw [ho] at e; cases e) hd w
    exact ⟨J, v, w, .inl r1, .refl _, hM, r3 J, rfl, rfl⟩
  have hexec : ∀ (u : Value) (w' : World), (convert src dst (a.eval ox)).run P w = .ok u w' → (execOp a.eval o).run P w = .ok (.value u) w' := fun u w' hr => by
    obtain ⟨dst', op', ty, pos, af, gd⟩ := o
    simp only at ho
    subst ho
    simp only [execOp]
    rw [Sem.run_bind, hr]
    rfl
  generalize a.eval ox = ux at h1 hexec
  unfold convA at h
  split at h
  case h_2 => exact hflat h
  rename_i k n e1
  rw [e1] at h1
  cases h1
  split at h
  · rename_i ds hds hsr
    cases hb : small n with
    | false => rw [hb] at h; exact hflat h
    | true =>
      rw [hb] at h
      simp only [cond_true, Option.some.injEq, Prod.mk.injEq] at h
      obtain ⟨rfl, rfl⟩ := h
      refine ⟨J, _, w, .inl (hexec _ w ?_), .refl _, hM, .int _ _, rfl, rfl⟩
      simp only [convert, Sem.run_bind, run_underlying hds w, run_underlying hsr w, Result.andThen_ok, Conv.intToInt, Sem.run_pure]
      rw [show IntKind.i64.wrap (Int.ofNat n) = (n : Int) from wrap63 (nblt_true hb)]
      rfl
  · rename_i ds hds hsr
    cases hb : small n with
    | false => rw [hb] at h; exact hflat h
    | true =>
      rw [hb] at h
      simp only [cond_true, Option.some.injEq, Prod.mk.injEq] at h
      obtain ⟨rfl, rfl⟩ := h
      refine ⟨J, _, w, .inl (hexec _ w ?_), .refl _, hM, .int _ _, rfl, rfl⟩
      simp only [convert, Sem.run_bind, run_underlying hds w, run_underlying hsr w, Result.andThen_ok, Conv.intToInt, Sem.run_pure]
      rw [show IntKind.u64.wrap (Int.ofNat n) = (n : Int) from wrap63u (nblt_true hb)]
      rfl
  · exact hflat h

/-! ### Maps -/
theorem sameKey_spec {t : TypeId} {k k' : Value} {b : Bool} (h : sameKey P t k k' = some b) : flat 6 k = true ∧ flat 6 k' = true ∧ pureRun P (Op.equal t k k') = some b := by
  unfold sameKey at h
  cases hf : (flat 6 k && flat 6 k') with
  | false => rw [hf] at h; simp at h
  | true => rw [hf] at h; simp only [cond_true] at h; simp only [Bool.and_eq_true] at hf; exact ⟨hf.1, hf.2, h⟩

theorem noneK_spec {t : TypeId} {k : Value} : ∀ {es : List (Value × Value × Nat)}, noneK P t k es = true → ∀ k' v n, (k', v, n) ∈ es → sameKey P t k k' = some false
  | [], _, k', v, n, hm => by simp at hm
  | (k1, v1, n1) :: es, h, k', v, n, hm => by
    simp only [noneK] at h
    split at h
    · rename_i e
      rcases List.mem_cons.1 hm with h' | h'
      · cases h'; exact e
      · exact noneK_spec h k' v n h'
    · cases h

theorem findK_none {t : TypeId} {k : Value} : ∀ {es : List (Value × Value × Nat)}, findK P t k es = some none → ∀ k' v n, (k', v, n) ∈ es → sameKey P t k k' = some false
  | [], _, k', v, n, hm => by simp at hm
  | (k1, v1, n1) :: es, h, k', v, n, hm => by
    simp only [findK] at h
    split at h
    · cases hn : noneK P t k es <;> rw [hn] at h <;> simp at h
    · rename_i e
      rcases List.mem_cons.1 hm with h' | h'
      · cases h'; exact e
      · exact findK_none h k' v n h'
    · cases h

theorem findK_some {t : TypeId} {k : Value} : ∀ {es : List (Value × Value × Nat)} {v : Value}, findK P t k es = some (some v) → ∀ k' v' n, (k', v', n) ∈ es → (sameKey P t k k' = some false) ∨ (sameKey P t k k' = some true ∧ v' = v)
  | [], _, h, k', v', n, hm => by simp at hm
  | (k1, v1, n1) :: es, v, h, k', v', n, hm => by
    simp only [findK] at h
    split at h
    · rename_i e
      cases hn : noneK P t k es with
      | false => rw [hn] at h; simp at h
      | true =>
        rw [hn] at h
        simp only [cond_true, Option.some.injEq] at h
        subst h
        rcases List.mem_cons.1 hm with h' | h'
        · cases h'; exact .inr ⟨e, rfl⟩
        · exact .inl (noneK_spec hn k' v' n h')
    · rename_i e
      rcases List.mem_cons.1 hm with h' | h'
      · cases h'; exact .inl e
      · exact findK_some h k' v' n h'
    · cases h

theorem findK_has {t : TypeId} {k : Value} : ∀ {es : List (Value × Value × Nat)} {v : Value}, findK P t k es = some (some v) → ∃ k' n, (k', v, n) ∈ es ∧ sameKey P t k k' = some true
  | [], _, h => by simp [findK] at h
  | (k1, v1, n1) :: es, v, h => by
    simp only [findK] at h
    split at h
    · rename_i e
      cases hn : noneK P t k es with
      | false => rw [hn] at h; simp at h
      | true =>
        rw [hn] at h
        simp only [cond_true, Option.some.injEq] at h
        subst h
        exact ⟨k1, n1, by simp, e⟩
    · obtain ⟨k', n, h1, h2⟩ := findK_has h
      exact ⟨k', n, by simp [h1], h2⟩
    · cases h

theorem sameNow_eq {t : TypeId} {d : TypeDesc} (hu : P.underlying t = some d) {a b : Value} {x : Bool} (h : Instr.sameNow d a b = some x) : pureRun P (Op.equal t a b) = some x := by
  have key : ∀ n, pureRun P (Op.equalIn (n + 1) t a b) = some x := by
    intro n
    simp only [Op.equalIn]
    rw [pureRun_bind', pureRun_underlying, hu]
    simp only [Option.bind_some]
    unfold Instr.sameNow at h
    split at h
    · rename_i k a1 k' b1
      split at h
      · rename_i e
        subst e
        simp only [if_true, pureRun_pure]
        exact h
      · cases h
    · exact h
    · exact h
    · cases h
  exact key 9999

/-- which entry is found: one whose key is alike; none: none is -/
def Found (P : Program) (t : TypeId) (k : Value) (l : List MapEntry) (r : Option (Nat × Value)) : Prop :=
  (r = none ∧ ∀ e ∈ l, pureRun P (Op.equal t k e.key) = some false) ∨ (∃ e i, e ∈ l ∧ pureRun P (Op.equal t k e.key) = some true ∧ r = some (i, e.val))

theorem findNow_found {t : TypeId} {d : TypeDesc} (hu : P.underlying t = some d) {k : Value} : ∀ {l : List MapEntry} {i : Nat} {r : Option (Nat × Value)}, Instr.findNow d k l i = some r → Found P t k l r
  | [], i, r, h => by simp [Instr.findNow] at h; subst h; exact .inl ⟨rfl, fun e he => by simp at he⟩
  | e :: l, i, r, h => by
    simp only [Instr.findNow] at h
    split at h
    · rename_i hs
      simp only [Option.some.injEq] at h
      subst h
      exact .inr ⟨e, i, by simp, sameNow_eq hu hs, rfl⟩
    · rename_i hs
      rcases findNow_found hu h with ⟨rfl, hall⟩ | ⟨e', i', h1, h2, h3⟩
      · refine .inl ⟨rfl, fun x hx => ?_⟩
        rcases List.mem_cons.1 hx with rfl | hx
        · exact sameNow_eq hu hs
        · exact hall x hx
      · exact .inr ⟨e', i', by simp [h1], h2, h3⟩
    · cases h

theorem findAsking_found {t : TypeId} {k : Value} (w : World) : ∀ (l : List MapEntry) (i : Nat), (∀ e ∈ l, ∃ b, pureRun P (Op.equal t k e.key) = some b) → ∃ r, (Instr.findAsking t k l i).run P w = .ok r w ∧ Found P t k l r
  | [], i, _ => ⟨none, rfl, .inl ⟨rfl, fun e he => by simp at he⟩⟩
  | e :: l, i, h => by
    obtain ⟨b, hb⟩ := h e (by simp)
    have hr := pureRun_run _ _ hb w
    cases b with
    | true => exact ⟨some (i, e.val), by simp [Instr.findAsking, hr], .inr ⟨e, i, by simp, hb, rfl⟩⟩
    | false =>
      obtain ⟨r, h1, h2⟩ := findAsking_found w l (i + 1) (fun x hx => h x (by simp [hx]))
      refine ⟨r, by simp [Instr.findAsking, hr, h1], ?_⟩
      rcases h2 with ⟨rfl, hall⟩ | ⟨e', i', k1, k2, k3⟩
      · refine .inl ⟨rfl, fun x hx => ?_⟩
        rcases List.mem_cons.1 hx with rfl | hx
        · exact hb
        · exact hall x hx
      · exact .inr ⟨e', i', by simp [k1], k2, k3⟩

theorem findKey_found {t : TypeId} {d : TypeDesc} (hu : P.underlying t = some d) {k : Value} (w : World) (l : List MapEntry) (h : ∀ e ∈ l, ∃ b, pureRun P (Op.equal t k e.key) = some b) : ∃ r, (Instr.findKey t k l).run P w = .ok r w ∧ Found P t k l r := by
  unfold Instr.findKey
  rw [Sem.run_bind, run_underlying hu w, Result.andThen_ok]
  cases hn : Instr.findNow d k l 0 with
  | some r => exact ⟨r, rfl, findNow_found hu hn⟩
  | none => exact findAsking_found w l 0 h

theorem Mem.map {g : Gh} {J : Io} {S : Nat → Prop} {s : St} {w : World} (hM : Mem g J S s w) {b : Nat} {es : List (Value × Value × Nat)} {c : Nat} (hS : S b) (h : s.H.get b = some (.map es c)) :
    ∃ p es' c', J.blk b = some p ∧ w.heap[p.blk]? = some (.map es' c') ∧ EntDen J es es'.toList := by
  obtain ⟨p, o', h1, h2, es', c', rfl, h3⟩ := hM.objs b _ hS h
  exact ⟨p, es', c', h1, h2, h3⟩

theorem lookupA_sound {g : Gh} {J : Io} {S : Nat → Prop} {s : St} {w : World} (hM : Mem g J S s w) {t : TypeId} {x k x' k' v : Value} {ok : Bool} (h : lookupA P s t x k ok = some v) (hx : Den J x x') (hk : Den J k k') (hS : ∀ b ∈ blockOf x, S b) :
    ∃ u, (Instr.lookup t x' k' ok).run P w = .ok u w ∧ Den J v u := by
  unfold lookupA at h
  cases hu : P.underlying t with
  | none => rw [hu] at h; simp at h
  | some d =>
    rw [hu] at h
    cases d with
    | map key elem =>
      cases hx with
      | map r p hp =>
        simp only at h
        split at h
        case h_2 => cases h
        rename_i es c hH
        obtain ⟨q, es', c', h1, h2, h3, h4⟩ := hM.map (hS r (by simp [blockOf])) hH
        obtain rfl : q = p := Option.some.inj (h1.symm.trans hp)
        have hget : (getObj q.blk).run P w = .ok (.map es' c') w := by simp [getObj, Sem.run, h2]
        have hemp : es.isEmpty = es'.isEmpty := by
          cases es with
          | nil =>
            have : es'.toList = [] := by
              cases he : es'.toList with
              | nil => rfl
              | cons e l => obtain ⟨_, _, _, hm, _⟩ := h4 e (by rw [he]; simp); simp at hm
            have : es' = #[] := by simpa using this
            subst this; rfl
          | cons e l =>
            obtain ⟨e', he', _⟩ := h3 e.1 e.2.1 e.2.2 (by simp)
            cases hes : es'.toList with
            | nil => rw [hes] at he'; simp at he'
            | cons y l' =>
              have : es'.isEmpty = false := by
                cases hie : es'.isEmpty
                · rfl
                · have : es' = #[] := by simpa using hie
                  rw [this] at hes; simp at hes
              rw [this]; rfl
        cases hok : keyOk P key k es.isEmpty with
        | false => rw [hok] at h; simp at h
        | true =>
          rw [hok] at h
          simp only [cond_true] at h
          simp only [keyOk, Bool.and_eq_true] at hok
          obtain ⟨o1, o2, o3⟩ := hok
          obtain rfl : k' = k := flat_eq 6 _ _ o1 hk
          obtain ⟨kd, hkd⟩ := Option.isSome_iff_exists.1 o2
          obtain ⟨chk, hchk⟩ := Option.isSome_iff_exists.1 o3
          rw [hemp] at hchk
          have hc' := pureRun_run _ _ hchk w
          have hall : ∀ e ∈ es'.toList, ∃ b, pureRun P (Op.equal key k' e.key) = some b := by
            intro e he
            obtain ⟨k1, v1, n1, m1, m2, m3⟩ := h4 e he
            rw [m2]
            cases hf : findK P key k' es with
            | none => rw [hf] at h; cases h
            | some o =>
              cases o with
              | none => exact ⟨_, (sameKey_spec (findK_none hf k1 v1 n1 m1)).2.2⟩
              | some vv =>
                rcases findK_some hf k1 v1 n1 m1 with h' | ⟨h', _⟩
                · exact ⟨_, (sameKey_spec h').2.2⟩
                · exact ⟨_, (sameKey_spec h').2.2⟩
          obtain ⟨r, hr, hfound⟩ := findKey_found hkd w es'.toList hall
          have hrun : (Instr.lookup t (.map (some q.blk)) k' ok).run P w = (match r with
              | some (_, v) => .ok (if ok then .tuple #[v, .bool true] else v) w
              | none => ((zeroValue elem).run P w).andThen fun z w => .ok (if ok then .tuple #[z, .bool false] else z) w) := by
            simp only [Instr.lookup, Sem.run_bind, run_underlying hu w, Result.andThen_ok, hget, Sem.run_pure, hc', hr]
            cases r with
            | none => simp only [Sem.run_bind]; cases (zeroValue elem).run P w <;> simp
            | some x => obtain ⟨i, y⟩ := x; simp
          rw [hrun]
          cases hf : findK P key k' es with
          | none => rw [hf] at h; cases h
          | some o =>
            rw [hf] at h
            cases o with
            | none =>
              simp only at h
              cases hz : zeroT P elem with
              | none => rw [hz] at h; cases h
              | some z =>
                rw [hz] at h
                simp only [Option.some.injEq] at h
                subst h
                obtain ⟨z1, z2, z3, _⟩ := zeroT_spec hz w
                rcases hfound with ⟨rfl, _⟩ | ⟨e, i, m1, m2, rfl⟩
                · simp only [z1, Result.andThen_ok]
                  cases ok with
                  | true => exact ⟨_, rfl, .tuple _ _ (.cons _ _ _ _ (z2 J) (.cons _ _ _ _ (.bool _) .nil))⟩
                  | false => exact ⟨_, rfl, z2 J⟩
                · obtain ⟨k1, v1, n1, j1, j2, j3⟩ := h4 e m1
                  have := (sameKey_spec (findK_none hf k1 v1 n1 j1)).2.2
                  rw [← j2, m2] at this
                  cases this
            | some vv =>
              simp only [Option.some.injEq] at h
              subst h
              rcases hfound with ⟨rfl, hno⟩ | ⟨e, i, m1, m2, rfl⟩
              · obtain ⟨k1, n1, j1, j2⟩ := findK_has hf
                obtain ⟨e, he, ek, _⟩ := h3 k1 vv n1 j1
                have := hno e he
                rw [ek, (sameKey_spec j2).2.2] at this
                cases this
              · obtain ⟨k1, v1, n1, j1, j2, j3⟩ := h4 e m1
                have hv : v1 = vv := by
                  rcases findK_some hf k1 v1 n1 j1 with h' | ⟨_, h'⟩
                  · have := (sameKey_spec h').2.2
                    rw [← j2, m2] at this
                    cases this
                  · exact h'
                subst hv
                cases ok with
                | true => exact ⟨_, rfl, .tuple _ _ (.cons _ _ _ _ j3 (.cons _ _ _ _ (.bool _) .nil))⟩
                | false => exact ⟨_, rfl, j3⟩
      | _ => simp at h
    | _ => simp at h

theorem EntDen.push {J : Io} {es : List (Value × Value × Nat)} {es' : List MapEntry} (h : EntDen J es es') {k v u : Value} (n m : Nat) (hv : Den J v u) : EntDen J (es ++ [(k, v, n)]) (es' ++ [{ key := k, val := u, born := m }]) := by
  refine ⟨fun k1 v1 n1 hm => ?_, fun e he => ?_⟩
  · rcases List.mem_append.1 hm with hm | hm
    · obtain ⟨e, he, h1, h2⟩ := h.1 k1 v1 n1 hm
      exact ⟨e, by simp [he], h1, h2⟩
    · simp only [List.mem_singleton, Prod.mk.injEq] at hm
      obtain ⟨rfl, rfl, rfl⟩ := hm
      exact ⟨_, by simp; exact .inr rfl, rfl, hv⟩
  · rcases List.mem_append.1 he with he | he
    · obtain ⟨k1, v1, n1, h1, h2, h3⟩ := h.2 e he
      exact ⟨k1, v1, n1, by simp [h1], h2, h3⟩
    · simp only [List.mem_singleton] at he
      subst he
      exact ⟨k, v, n, by simp, rfl, hv⟩

theorem mapNewA_sound {g : Gh} {J : Io} {S : Nat → Prop} {s s1 : St} {w : World} (hM : Mem g J S s w) {t : TypeId} {x k y x' k' y' v : Value} (h : mapNewA P g.base s t x k y = some (v, s1)) (hx : Den J x x') (hk : Den J k k') (hy : Den J y y') (hS : ∀ b ∈ blockOf x, S b) :
    ∃ w', (Instr.mapUpdate t x' k' y').run P w = .ok () w' ∧ Mem g J S s1 w' ∧ v = undef ∧ s1.T = s.T ∧ s1.df = s.df := by
  unfold mapNewA at h
  cases hu : P.underlying t with
  | none => rw [hu] at h; simp at h
  | some d =>
    rw [hu] at h
    cases d with
    | map key elem =>
      cases hx with
      | map r p hp =>
        simp only at h
        split at h
        case h_2 => cases h
        rename_i es c hH
        obtain ⟨q, es', c', h1, h2, h3⟩ := hM.map (hS r (by simp [blockOf])) hH
        obtain rfl : q = p := Option.some.inj (h1.symm.trans hp)
        have hget : (getObj q.blk).run P w = .ok (.map es' c') w := by simp [getObj, Sem.run, h2]
        cases hok : keyOk P key k false with
        | false => rw [hok] at h; simp at h
        | true =>
          rw [hok] at h
          simp only [cond_true] at h
          simp only [keyOk, Bool.and_eq_true] at hok
          obtain ⟨o1, o2, o3⟩ := hok
          obtain rfl : k' = k := flat_eq 6 _ _ o1 hk
          obtain ⟨kd, hkd⟩ := Option.isSome_iff_exists.1 o2
          obtain ⟨chk, hchk⟩ := Option.isSome_iff_exists.1 o3
          have hc' := pureRun_run _ _ hchk w
          split at h
          case h_2 => cases h
          rename_i hf
          simp only [Option.some.injEq, Prod.mk.injEq] at h
          obtain ⟨rfl, rfl⟩ := h
          have hall : ∀ e ∈ es'.toList, pureRun P (Op.equal key k' e.key) = some false := by
            intro e he
            obtain ⟨k1, v1, n1, m1, m2, m3⟩ := h3.2 e he
            rw [m2]
            exact (sameKey_spec (findK_none hf k1 v1 n1 m1)).2.2
          obtain ⟨r', hr, hfound⟩ := findKey_found hkd w es'.toList (fun e he => ⟨_, hall e he⟩)
          have hnone : r' = none := by
            rcases hfound with ⟨h', _⟩ | ⟨e, i, m1, m2, _⟩
            · exact h'
            · rw [hall e m1] at m2; cases m2
          subst hnone
          have hset : (setObj q.blk (.map (es'.push { key := k', val := y', born := c' }) (c' + 1))).run P w = .ok () { w with heap := w.heap.setIfInBounds q.blk (.map (es'.push { key := k', val := y', born := c' }) (c' + 1)) } := by
            simp [setObj, Sem.run, h2]
          have hlt : q.blk < w.heap.size := hM.lt _ _ hp
          have hb : r + 1 < 2 ^ 40 := by have := hM.dom _ _ hp; have := hM.nxs; omega
          obtain ⟨e1, e2, e3, e4, e5, e6, e7⟩ := setO_spec (base := g.base) (s := s) (b := r) (o := some (AO.map (es ++ [(k', y, c)]) (c + 1))) hb
          refine ⟨_, ?_, hM.store (w' := { w with heap := w.heap.setIfInBounds q.blk (.map (es'.push { key := k', val := y', born := c' }) (c' + 1)) }) (hS r (by simp [blockOf])) hH hp (o' := .map (es'.push { key := k', val := y', born := c' }) (c' + 1)) (by simp) (fun z hz => by simp [Array.getElem?_setIfInBounds_ne (Ne.symm hz)]) (by simp [hlt]) ⟨_, _, rfl, by simpa using h3.push c c' hy⟩, rfl, e1, e6⟩
          simp only [Instr.mapUpdate, Sem.run_bind, run_underlying hu w, Result.andThen_ok, hget, hc', hr, hset]
      | _ => simp at h
    | _ => simp at h
end Go.AM
namespace Go.AM
open Go Go.Proofs.YtdflbipaicpdcaaGreatDoor
variable {P : Program}

theorem withS_spec {s s1 : St} {x : Option Value} {v : Value} (h : withS s x = some (v, s1)) : x = some v ∧ s1 = s := by
  unfold withS at h
  cases x with
  | none => cases h
  | some u => simp only [Option.some.injEq, Prod.mk.injEq] at h; exact ⟨by rw [h.1], h.2.symm⟩

/-- a value is handed over, and no more -/
theorem Lights.value {g : Gh} {J : Io} {S : Nat → Prop} {s s1 : St} {v u : Value} {w : World} {r : Result Next} (hM : Mem g J S s w) (hs : s1 = s) (hr : r = .ok (.value u) w) (hd : Den J v u) : Lights P g J S s s1 v w r := by
  subst hs
  exact ⟨J, u, w, .inl hr, .refl _, hM, hd, rfl, rfl⟩

theorem run_v {s : Sem Value} {u : Value} {w w' : World} (h : s.run P w = .ok u w') : (do pure (Next.value (← s)) : Sem Next).run P w = .ok (.value u) w' := by
  rw [Sem.run_bind, h]; rfl
theorem run_u {s : Sem Unit} {w w' : World} (h : s.run P w = .ok () w') : (do s; pure Next.skip : Sem Next).run P w = .ok .skip w' := by
  rw [Sem.run_bind, h]; rfl

theorem DenL.map {α : Type} {J : Io} {f : α → Value} {f' : α → Value} : ∀ (l : List α), (∀ x ∈ l, Den J (f x) (f' x)) → DenL J (l.map f) (l.map f')
  | [], _ => .nil
  | x :: l, h => .cons _ _ _ _ (h x (by simp)) (DenL.map l fun y hy => h y (by simp [hy]))

theorem PartsDen.map {J : Io} {f f' : Operand → Value} : ∀ (l : List (Nat × Operand)), (∀ x ∈ l, Den J (f x.2) (f' x.2)) → PartsDen J (l.map fun p => (p.1, f p.2)) (l.map fun p => (p.1, f' p.2))
  | [], _ => .nil
  | (i, x) :: l, h => .cons _ _ _ _ _ (h (i, x) (by simp)) (PartsDen.map l fun y hy => h y (by simp [hy]))

theorem optNat_sound {J : Io} {s : St} {a : Act} {x : Option Operand} {n : Option Nat} (h : optNat s x = some n) (hd : ∀ y, x = some y → Den J (ev s y) (a.eval y)) : OptDen n (x.map a.eval) := by
  unfold optNat at h
  cases x with
  | none => simp at h; subst h; exact .none
  | some y =>
    simp only [Option.map_eq_some_iff] at h
    obtain ⟨m, hm, rfl⟩ := h
    obtain ⟨k, e⟩ := natOf_den hm (hd y rfl)
    simp only [Option.map_some, e]
    exact .some m k

set_option maxHeartbeats 1000000 in
theorem lightOp_sound {g : Gh} {J : Io} {S : Nat → Prop} {s s1 : St} {a : Act} {w : World} (hM : Mem g J S s w) {o : Oper} {v : Value} (h : lightOp P g.base s o = some (v, s1)) (hd : OpsDen J s a o) (hS : ∀ b ∈ touches s o, S b) :
    Lights P g J S s s1 v w ((execOp a.eval o).run P w) := by
  obtain ⟨dst, op, ty, pos, af, gd⟩ := o
  cases op <;> simp only [lightOp] at h <;> try (cases h; done)
  case move x =>
    simp only [Option.some.injEq, Prod.mk.injEq] at h
    obtain ⟨rfl, rfl⟩ := h
    exact .value hM rfl rfl (hd x (by simp [Op.operands]))
  case assign x =>
    simp only [Option.some.injEq, Prod.mk.injEq] at h
    obtain ⟨rfl, rfl⟩ := h
    exact .value hM rfl rfl (hd x (by simp [Op.operands]))
  case pick c x y =>
    obtain ⟨h, hs⟩ := withS_spec h
    have hc := hd c (by simp [Op.operands])
    have hx := hd x (by simp [Op.operands])
    have hy := hd y (by simp [Op.operands])
    unfold pickA at h
    split at h
    · rename_i e
      cases h
      rw [e] at hc
      have e2 : a.eval c = .bool true := by generalize a.eval c = u at hc; cases hc; rfl
      exact .value hM hs (by simp [execOp, e2, asBool]) hx
    · rename_i e
      cases h
      rw [e] at hc
      have e2 : a.eval c = .bool false := by generalize a.eval c = u at hc; cases hc; rfl
      exact .value hM hs (by simp [execOp, e2, asBool]) hy
    · cases h
  case alloc t =>
    unfold allocA at h
    cases hz : zeroT P t with
    | none => rw [hz] at h; cases h
    | some z =>
      rw [hz] at h
      simp only [Option.map_eq_some_iff, Prod.exists, Prod.mk.injEq] at h
      obtain ⟨b, s2, hn, rfl, rfl⟩ := h
      obtain ⟨z1, z2, z3, _⟩ := zeroT_spec hz w
      obtain ⟨J', x, w', q1, q2, q3, q4, q5, q6⟩ := newVar_sound (P := P) hM hn (z2 J)
      exact ⟨J', _, w', .inl (by simp only [execOp]; refine run_v ?_; simp [Instr.alloc, z1, q1]), q2, q3, q4, q5, q6⟩
  case box t x =>
    unfold boxA at h
    simp only [Option.map_eq_some_iff, Prod.exists, Prod.mk.injEq] at h
    obtain ⟨b, s2, hn, rfl, rfl⟩ := h
    obtain ⟨J', x', w', q1, q2, q3, q4, q5, q6⟩ := newVar_sound (P := P) hM hn (hd x (by simp [Op.operands]))
    exact ⟨J', _, w', .inl (by simp only [execOp]; refine run_v ?_; simp [Instr.box, q1]), q2, q3, q4, q5, q6⟩
  case build t ps =>
    obtain ⟨h, hs⟩ := withS_spec h
    have hp := PartsDen.map (J := J) (f := ev s) (f' := a.eval) ps.toList fun x hx => hd x.2 (by simp [Op.operands]; exact ⟨x.1, by simpa using hx⟩)
    obtain ⟨u, q1, q2⟩ := buildA_sound h hp w
    refine .value hM hs ?_ q2
    simp only [execOp]
    refine run_v ?_
    have : (ps.map fun (i, x) => (i, a.eval x)) = (ps.toList.map fun p => (p.1, a.eval p.2)).toArray := by
      apply Array.ext'; simp
    rw [this]
    exact q1
  case buildSlice t n ps =>
    have hp := PartsDen.map (J := J) (f := ev s) (f' := a.eval) ps.toList fun x hx => hd x.2 (by simp [Op.operands]; exact ⟨x.1, by simpa using hx⟩)
    cases hb : Nat.blt n OPEN with
    | false => rw [hb] at h; simp at h
    | true =>
      rw [hb] at h
      simp only [cond_true] at h
      obtain ⟨J', u, w', q1, q2, q3, q4, q5, q6⟩ := buildSliceA_sound (P := P) hM h hp (nblt_true hb)
      refine ⟨J', u, w', .inl ?_, q2, q3, q4, q5, q6⟩
      simp only [execOp]
      refine run_v ?_
      have : (ps.map fun (i, x) => (i, a.eval x)) = (ps.toList.map fun p => (p.1, a.eval p.2)).toArray := by
        apply Array.ext'; simp
      rw [this]
      exact q1
  case load t x =>
    obtain ⟨h, hs⟩ := withS_spec h
    have hx := hd x (by simp [Op.operands])
    unfold loadOp at h
    split at h
    case h_2 => cases h
    rename_i ad e
    simp only [touches, e, blockOf, List.mem_singleton, forall_eq] at hS
    rw [e] at hx
    generalize hu : a.eval x = u at hx
    cases hx with
    | ptr b o p hp =>
      obtain ⟨u', q1, q2⟩ := loadA_sound (P := P) hM hS h hp
      exact .value hM hs (by simp only [execOp]; refine run_v ?_; simp [Instr.loadAt, Instr.sureAddr, hu, q1]) q2
  case store t x y =>
    have hx := hd x (by simp [Op.operands])
    have hy := hd y (by simp [Op.operands])
    unfold storeOp at h
    split at h
    case h_2 => cases h
    rename_i ad e
    simp only [touches, e, blockOf, List.mem_singleton, forall_eq] at hS
    simp only [Option.map_eq_some_iff, Prod.mk.injEq] at h
    obtain ⟨s2, hst, rfl, rfl⟩ := h
    rw [e] at hx
    generalize hu : a.eval x = u at hx
    cases hx with
    | ptr b o p hp =>
      obtain ⟨w', q1, q2, q3, q4⟩ := storeA_sound (P := P) hM hS hst hp hy
      exact ⟨J, undef, w', .inr ⟨by simp only [execOp]; refine run_u ?_; simp [Instr.storeAt, Instr.sureAddr, hu, q1], rfl⟩, .refl _, q2, Den.und J, q3, q4⟩
  case nilCheck x =>
    obtain ⟨h, hs⟩ := withS_spec h
    have hx := hd x (by simp [Op.operands])
    unfold nilCheckA at h
    split at h
    · rename_i ad e
      cases h
      rw [e] at hx
      generalize hu : a.eval x = u at hx
      cases hx with
      | ptr b o p hp => exact .value hM hs (by simp [execOp, hu]) (.ptr b o p hp)
    · rename_i f fa fb e
      cases h
      rw [e] at hx
      generalize hu : a.eval x = u at hx
      cases hx with
      | func f a1 a2 b1 b2 ha hb => exact .value hM hs (by simp [execOp, hu]) (.func f _ _ _ _ ha hb)
    · cases h
  case binOp op t x y t2 => exact binA_sound hM rfl h hd
  case unOp op t x => exact unA_sound hM rfl h hd
  case convert t1 t2 x => exact convA_sound hM rfl h hd
  case makeInterface t x =>
    obtain ⟨h, hs⟩ := withS_spec h
    obtain ⟨u, q1, q2⟩ := ifaceA_sound h (hd x (by simp [Op.operands])) w
    exact .value hM hs (by simp only [execOp]; exact run_v q1) q2
  case makeFunc fn first cap =>
    cases fn <;> simp only at h <;> try (cases h; done)
    rename_i f
    simp only [Option.some.injEq, Prod.mk.injEq] at h
    obtain ⟨rfl, rfl⟩ := h
    refine .value hM rfl (by simp only [execOp]; exact run_v rfl) (.func f _ _ _ _ ?_ ?_)
    · simp only [Array.toList_map]; exact DenL.map _ fun x hx => hd x (by simp [Op.operands]; exact .inl (by simpa using hx))
    · simp only [Array.toList_map]; exact DenL.map _ fun x hx => hd x (by simp [Op.operands]; exact .inr (by simpa using hx))
  case makeMap t r =>
    have key : ∀ (b : Nat) (s2 : St), AM.new s (.map [] 0) = some (b, s2) → ∃ J', J.Le J' ∧ Mem g J' S s2 (w.alloc (.map #[] 0)) ∧ Den J' (.map (some b)) (.map (some w.heap.size)) ∧ s2.T = s.T ∧ s2.df = s.df := by
      intro b s2 hn
      obtain ⟨k1, k2, k3⟩ := hM.alloc (w' := w.alloc (.map #[] 0)) (o' := .map #[] 0) (p := ⟨w.heap.size, 0, 0⟩) hn rfl rfl ⟨#[], 0, rfl, fun _ _ _ hm => by simp at hm, fun e he => by simp at he⟩
      have e8 := new_spec hn
      exact ⟨_, k1, k2, .map b ⟨w.heap.size, 0, 0⟩ k3, e8.2.1, e8.2.2.2.2.2.2.1⟩
    unfold mapA at h
    cases r with
    | none =>
      simp only [Option.map_none, Option.map_eq_some_iff, Prod.exists, Prod.mk.injEq] at h
      obtain ⟨b, s2, hn, rfl, rfl⟩ := h
      obtain ⟨J', j1, j2, j3, j4, j5⟩ := key b s2 hn
      exact ⟨J', _, _, .inl (by simp only [execOp]; refine run_v ?_; simp [Instr.makeMap]), j1, j2, j3, j4, j5⟩
    | some x =>
      have hx := hd x (by simp [Op.operands])
      simp only [Option.map_some] at h
      split at h
      case h_2 => cases h
      rename_i kt et ik n hu e
      simp only [Option.map_eq_some_iff, Prod.exists, Prod.mk.injEq] at h
      obtain ⟨b, s2, hn, rfl, rfl⟩ := h
      obtain ⟨J', j1, j2, j3, j4, j5⟩ := key b s2 hn
      rw [e] at hx
      generalize hux : a.eval x = u at hx
      cases hx
      exact ⟨J', _, _, .inl (by simp only [execOp]; refine run_v ?_; simp [Instr.makeMap, run_underlying hu w, hux, asInt, asIntOf]), j1, j2, j3, j4, j5⟩
  case makeSlice t l c =>
    obtain ⟨J', u, w', q1, q2, q3, q4, q5, q6⟩ := makeSliceOp_sound (P := P) hM h (hd l (by simp [Op.operands])) (hd c (by simp [Op.operands]))
    exact ⟨J', u, w', .inl (by simp only [execOp]; exact run_v q1), q2, q3, q4, q5, q6⟩
  case slice t x lo hi mx =>
    obtain ⟨h, hs⟩ := withS_spec h
    unfold sliceOp at h
    cases h1 : optNat s lo with
    | none => rw [h1] at h; simp at h
    | some l1 =>
      cases h2 : optNat s hi with
      | none => rw [h1, h2] at h; simp at h
      | some l2 =>
        cases h3 : optNat s mx with
        | none => rw [h1, h2, h3] at h; simp at h
        | some l3 =>
          rw [h1, h2, h3] at h
          simp only at h
          obtain ⟨u, q1, q2⟩ := sliceA_sound h (hd x (by simp [Op.operands])) (optNat_sound h1 fun y hy => hd y (by subst hy; simp [Op.operands])) (optNat_sound h2 fun y hy => hd y (by subst hy; simp [Op.operands])) (optNat_sound h3 fun y hy => hd y (by subst hy; simp [Op.operands])) w
          exact .value hM hs (by simp only [execOp]; exact run_v q1) q2
  case fieldAddr t x f =>
    obtain ⟨h, hs⟩ := withS_spec h
    obtain ⟨u, q1, q2⟩ := fieldAddrA_sound h (hd x (by simp [Op.operands])) w
    exact .value hM hs (by simp only [execOp]; exact run_v q1) q2
  case field t x f =>
    obtain ⟨h, hs⟩ := withS_spec h
    obtain ⟨u, q1, q2⟩ := fieldA_sound h (hd x (by simp [Op.operands])) w
    exact .value hM hs (by simp only [execOp]; exact run_v q1) q2
  case indexAddr t x i =>
    obtain ⟨h, hs⟩ := withS_spec h
    unfold indexAddrOp at h
    cases hi : natOf (ev s i) with
    | none => rw [hi] at h; cases h
    | some n =>
      rw [hi] at h
      obtain ⟨u, q1, q2⟩ := indexAddrA_sound hi h (hd x (by simp [Op.operands])) (hd i (by simp [Op.operands])) w
      exact .value hM hs (by simp only [execOp]; exact run_v q1) q2
  case index t x i =>
    have hx := hd x (by simp [Op.operands])
    have hi' := hd i (by simp [Op.operands])
    have hflat : flatOp P s ⟨dst, .index t x i, ty, pos, af, gd⟩ = some (v, s1) → Lights P g J S s s1 v w ((execOp a.eval ⟨dst, .index t x i, ty, pos, af, gd⟩).run P w) := fun h => by
      obtain ⟨r1, rfl, r3⟩ := flatOp_sound h (fun cs b e => by cases e) hd w
      exact ⟨J, v, w, .inl r1, .refl _, hM, r3 J, rfl, rfl⟩
    unfold indexOp at h
    split at h
    · rename_i cs n e1 e2
      simp only [Option.map_eq_some_iff, Prod.mk.injEq] at h
      obtain ⟨v', hv, rfl, rfl⟩ := h
      rw [e1] at hx
      generalize hux : a.eval x = u at hx
      cases hx with
      | agg a1 a2 ha =>
        obtain ⟨u, q1, q2⟩ := indexA_sound e2 hv ha hi' w
        exact .value hM rfl (by simp only [execOp, hux]; exact run_v q1) q2
    · exact hflat h
  case lookup t x k ok =>
    obtain ⟨h, hs⟩ := withS_spec h
    obtain ⟨u, q1, q2⟩ := lookupA_sound (P := P) hM h (hd x (by simp [Op.operands])) (hd k (by simp [Op.operands])) (by simpa only [touches] using hS)
    exact .value hM hs (by simp only [execOp]; exact run_v q1) q2
  case mapUpdate t m k x =>
    obtain ⟨w', q1, q2, q3, q4, q5⟩ := mapNewA_sound (P := P) hM h (hd m (by simp [Op.operands])) (hd k (by simp [Op.operands])) (hd x (by simp [Op.operands])) (by simpa only [touches] using hS)
    subst q3
    exact ⟨J, undef, w', .inr ⟨by simp only [execOp]; exact run_u q1, rfl⟩, .refl _, q2, Den.und J, q4, q5⟩
  case insert t m k x =>
    obtain ⟨w', q1, q2, q3, q4, q5⟩ := mapNewA_sound (P := P) hM h (hd m (by simp [Op.operands])) (hd k (by simp [Op.operands])) (hd x (by simp [Op.operands])) (by simpa only [touches] using hS)
    subst q3
    exact ⟨J, undef, w', .inr ⟨by simp only [execOp]; exact run_u q1, rfl⟩, .refl _, q2, Den.und J, q4, q5⟩
  case extract t i =>
    obtain ⟨h, hs⟩ := withS_spec h
    obtain ⟨u, q1, q2⟩ := extractA_sound h (hd t (by simp [Op.operands])) w
    exact .value hM hs (by simp only [execOp]; exact run_v q1) q2
  case call c =>
    obtain ⟨callee, args, tys⟩ := c
    cases callee with
    | value f => simp at h
    | invoke r m => simp at h
    | builtin b =>
      simp only at h
      have hargs : ∀ x ∈ args.toList, Den J (ev s x) (a.eval x) := fun x hx => hd x (by simp [Op.operands, Call.operands]; simpa using hx)
      have hflat : flatOp P s ⟨dst, .call ⟨.builtin b, args, tys⟩, ty, pos, af, gd⟩ = some (v, s1) → Lights P g J S s s1 v w ((execOp a.eval ⟨dst, .call ⟨.builtin b, args, tys⟩, ty, pos, af, gd⟩).run P w) := fun h => by
        obtain ⟨r1, rfl, r3⟩ := flatOp_sound h (fun cs b e => by cases e) hd w
        exact ⟨J, v, w, .inl r1, .refl _, hM, r3 J, rfl, rfl⟩
      have hexec : (execOp a.eval ⟨dst, .call ⟨.builtin b, args, tys⟩, ty, pos, af, gd⟩).run P w = (builtin b tys ty (args.map fun | .const _ => true | _ => false) (args.map a.eval)).run P w := by
        simp [execOp, resolve, invoke]
        rfl
      unfold builtinA at h
      split at h
      · -- append
        rename_i x y hxy
        obtain ⟨X, Y, hXY⟩ : ∃ X Y, args.toList = [X, Y] := by
          simp only [evs] at hxy
          match args.toList, hxy with
          | [X, Y], _ => exact ⟨X, Y, rfl⟩
        have e1 : args = #[X, Y] := by apply Array.ext'; simpa using hXY
        subst e1
        simp only [evs, List.map_cons, List.map_nil, List.cons.injEq, and_true] at hxy
        obtain ⟨rfl, rfl⟩ := hxy
        obtain ⟨J', u, w', q1, q2, q3, q4, q5, q6⟩ := appendA_sound (P := P) (ty := ty) hM h (hargs X (by simp)) (hargs Y (by simp)) (fun b hb => hS b (by simp [touches, List.mem_flatMap]; exact .inl hb)) (fun b hb => hS b (by simp [touches, List.mem_flatMap]; exact .inr hb))
        refine ⟨J', u, w', .inl ?_, q2, q3, q4, q5, q6⟩
        rw [hexec]
        have e2 : tys = tys.toList.toArray := by simp
        rw [e2]
        simp only [builtin, List.map_toArray, List.map_cons, List.map_nil]
        exact run_v q1
      · rename_i x y hxy
        obtain ⟨X, Y, hXY⟩ : ∃ X Y, args.toList = [X, Y] := by
          simp only [evs] at hxy
          match args.toList, hxy with
          | [X, Y], _ => exact ⟨X, Y, rfl⟩
        have e1 : args = #[X, Y] := by apply Array.ext'; simpa using hXY
        subst e1
        simp only [evs, List.map_cons, List.map_nil, List.cons.injEq, and_true] at hxy
        obtain ⟨rfl, rfl⟩ := hxy
        obtain ⟨u, w', q1, q2, q3, q4, q5⟩ := copyA_sound (P := P) (ty := ty) hM h (hargs X (by simp)) (hargs Y (by simp)) (fun b hb => hS b (by simp [touches, List.mem_flatMap]; exact .inl hb)) (fun b hb => hS b (by simp [touches, List.mem_flatMap]; exact .inr hb))
        refine ⟨J, u, w', .inl ?_, .refl _, q2, q3, q4, q5⟩
        rw [hexec]
        have e2 : tys = tys.toList.toArray := by simp
        rw [e2]
        simp only [builtin, List.map_toArray, List.map_cons, List.map_nil]
        exact run_v q1
      · -- len
        rename_i x hxy
        obtain ⟨X, hXY⟩ : ∃ X, args.toList = [X] := by
          simp only [evs] at hxy
          match args.toList, hxy with
          | [X], _ => exact ⟨X, rfl⟩
        have e1 : args = #[X] := by apply Array.ext'; simpa using hXY
        subst e1
        simp only [evs, List.map_cons, List.map_nil, List.cons.injEq, and_true] at hxy
        subst hxy
        have hX := hargs X (by simp)
        unfold lenOp at h
        split at h
        · rename_i ad n c t e e3
          cases hb : isSliceT P t with
          | false => rw [hb] at h; simp at h
          | true =>
            rw [hb] at h
            simp only [cond_true, Option.some.injEq, Prod.mk.injEq] at h
            obtain ⟨rfl, rfl⟩ := h
            rw [e] at hX
            obtain ⟨a', c', hu⟩ := (lenA_sound (P := P) (y := .slice ad n c) rfl hX w).2
            have e4 : tys = #[t] := by apply Array.ext'; simpa using e3
            unfold isSliceT at hb
            split at hb
            case h_2 => cases hb
            rename_i elem hel
            refine .value hM rfl ?_ (.int _ _)
            rw [hexec, e4]
            simp only [builtin, List.map_toArray, List.map_cons, List.map_nil, hu]
            refine run_v ?_
            simp [Builtin.len_, run_underlying hel w, goInt]
        · exact hflat h
      · -- cap
        rename_i x hxy
        obtain ⟨X, hXY⟩ : ∃ X, args.toList = [X] := by
          simp only [evs] at hxy
          match args.toList, hxy with
          | [X], _ => exact ⟨X, rfl⟩
        have e1 : args = #[X] := by apply Array.ext'; simpa using hXY
        subst e1
        simp only [evs, List.map_cons, List.map_nil, List.cons.injEq, and_true] at hxy
        subst hxy
        have hX := hargs X (by simp)
        unfold capOp at h
        split at h
        · rename_i ad n c t e e3
          cases hb : (isSliceT P t && Nat.blt c OPEN) with
          | false => rw [hb] at h; simp at h
          | true =>
            rw [hb] at h
            simp only [cond_true, Option.some.injEq, Prod.mk.injEq] at h
            obtain ⟨rfl, rfl⟩ := h
            simp only [Bool.and_eq_true] at hb
            have hc := nblt_true hb.2
            have hb := hb.1
            rw [e] at hX
            have hu : ∃ a', a.eval X = .slice a' n c := by
              generalize a.eval X = u at hX
              cases hX
              · exact ⟨_, rfl⟩
              · exact ⟨_, rfl⟩
              · omega
            obtain ⟨a', hu⟩ := hu
            have e4 : tys = #[t] := by apply Array.ext'; simpa using e3
            unfold isSliceT at hb
            split at hb
            case h_2 => cases hb
            rename_i elem hel
            refine .value hM rfl ?_ (.int _ _)
            rw [hexec, e4]
            simp only [builtin, List.map_toArray, List.map_cons, List.map_nil, hu]
            refine run_v ?_
            simp [Builtin.cap_, run_underlying hel w, goInt]
        · cases h
      · exact hflat h
      · exact hflat h
      · cases h
end Go.AM
namespace Go.AM
open Go Go.Proofs.YtdflbipaicpdcaaGreatDoor
variable {P : Program}

abbrev All : Nat → Prop := fun _ => True

def Fr (r : Option Nat) : Fence := { Fence.wide with round := r }

theorem callsIn_Fr {r : Option Nat} {n : Nat} {f : FuncId} {args : Array Value} {w : World} {R : Ending → World → Prop} (h : CallsIn Fence.wide n P f args w R) : CallsIn (Fr r) n P f args w R := h
inductive RdDen (J : Io) : Option Nat → Option Nat → Prop
  | none : RdDen J none none
  | some (l : Nat) (p : Pl) (h : J.blk l = some p) : RdDen J (some l) (some p.blk)

theorem RdDen.mono {J J' : Io} (hJ : J.Le J') {x y : Option Nat} (h : RdDen J x y) : RdDen J' x y := by
  cases h with
  | none => exact .none
  | some l p h => exact .some l p (hJ.blk _ _ h)

/-- a piece of code comes to what the machine says -/
def Goes (P : Program) (rec : Rec) : Prop := ∀ c E s ex s', rec c E s = some (ex, s') → ∀ g J a w r, g.base = E.base → E.nt ≤ 60000 → Mem g J All s w → Fra J E s a → RdDen J E.rd r →
  c.wpIn (Fr r) 0 P (fun e a' w' => e = ex ∧ ∃ J', J.Le J' ∧ Mem g J' All s' w' ∧ Fra J' E s' a') a w

/-- a call comes to a value -/
def CallPost (g : Gh) (J : Io) (s' : St) (v : Value) (e : Ending) (w' : World) : Prop := ∃ u J', e = .returned u ∧ J.Le J' ∧ Mem g J' All s' w' ∧ Den J' v u

theorem tmpsGo_get : ∀ (vs : List Value) (i : Nat) (t : Tr Value) (j : Nat), i + vs.length ≤ 65000 → (tmpsGo vs i t).get j = if i ≤ j ∧ j < i + vs.length then vs[j - i]? else t.get j
  | [], i, t, j, _ => by simp [tmpsGo]; intro h1 h2; omega
  | v :: vs, i, t, j, h => by
    simp only [tmpsGo]
    simp only [List.length_cons] at h ⊢
    rw [tmpsGo_get vs (Nat.succ i) _ j (by omega), Tr.get_set 16 t i (some v) j (by omega)]
    by_cases h1 : j = i
    · subst h1
      rw [if_neg (by omega), if_pos rfl, if_pos (by omega)]
      simp
    · by_cases h2 : i + 1 ≤ j ∧ j < i + 1 + vs.length
      · rw [if_pos (by omega), if_pos (by omega), show j - i = (j - (i + 1)) + 1 by omega]
        simp
      · rw [if_neg (by omega), if_neg h1, if_neg (by omega)]

theorem tmpsOf_den {J : Io} {args args' : List Value} {nt : Nat} (h : DenL J args args') (hn : args.length ≤ nt) (hb : nt ≤ 60000) : TmpsDen J nt (tmpsOf args) (args'.toArray ++ Array.replicate (nt - args'.toArray.size) undef) := by
  have hl := h.length
  refine ⟨by simp; omega, fun t ht => ?_, fun t ht => ?_⟩
  · unfold tmpsOf
    rw [tmpsGo_get args 0 .lf t (by omega)]
    by_cases h1 : t < args.length
    · rw [if_pos (by omega)]
      obtain ⟨v, hv⟩ : ∃ v, args[t]? = some v := ⟨_, List.getElem?_eq_getElem h1⟩
      obtain ⟨u, hu, hd⟩ := h.get hv
      have : (args'.toArray ++ Array.replicate (nt - args'.toArray.size) undef).getD t undef = u := by
        rw [Array.getD_eq_getD_getElem?, Array.getElem?_append_left (by simp; omega)]
        simp [hu]
      rw [this, Nat.sub_zero, hv]
      exact hd
    · rw [if_neg (by omega)]
      have : (args'.toArray ++ Array.replicate (nt - args'.toArray.size) undef).getD t undef = undef := by
        rw [Array.getD_eq_getD_getElem?, Array.getElem?_append_right (by simp; omega)]
        rw [Array.getElem?_replicate]
        split <;> rfl
      rw [this]
      exact Den.und J
  · unfold tmpsOf
    rw [tmpsGo_get args 0 .lf t (by omega), if_neg (by omega)]
    rfl

theorem inFrame_spec (s : St) (T : Tr Value) : (inFrame s T).T = T ∧ (inFrame s T).H = s.H ∧ (inFrame s T).nx = s.nx ∧ (inFrame s T).W = s.W ∧ (inFrame s T).D = s.D ∧ (inFrame s T).nd = s.nd ∧ (inFrame s T).df = [] := by
  obtain ⟨T0, H, nx, W, D, nd, df⟩ := s
  exact ⟨rfl, rfl, rfl, rfl, rfl, rfl, rfl⟩

theorem backTo_spec (s0 s : St) : (backTo s0 s).T = s0.T ∧ (backTo s0 s).H = s.H ∧ (backTo s0 s).nx = s.nx ∧ (backTo s0 s).W = s.W ∧ (backTo s0 s).D = s.D ∧ (backTo s0 s).nd = s.nd ∧ (backTo s0 s).df = s0.df := by
  obtain ⟨T0, H, nx, W, D, nd, df⟩ := s
  obtain ⟨T1, H1, nx1, W1, D1, nd1, df1⟩ := s0
  exact ⟨rfl, rfl, rfl, rfl, rfl, rfl, rfl⟩

theorem Mem.inFrame {g : Gh} {J : Io} {S : Nat → Prop} {s : St} {w : World} (h : Mem g J S s w) (T : Tr Value) : Mem g J S (AM.inFrame s T) w :=
  let ⟨_, h1, h2, h3, h4, h5, _⟩ := inFrame_spec s T; h.of_st h1 h2 h3 h4 h5
theorem Mem.backTo {g : Gh} {J : Io} {S : Nat → Prop} {s : St} {w : World} (h : Mem g J S s w) (s0 : St) : Mem g J S (AM.backTo s0 s) w :=
  let ⟨_, h1, h2, h3, h4, h5, _⟩ := backTo_spec s0 s; h.of_st h1 h2 h3 h4 h5

theorem bodyA_sound {rec : Rec} (hG : Goes P rec) {g : Gh} {J : Io} {s s1 : St} {w : World} {f : FuncId} {fn : Func} {c : Code} {args args' : List Value} (hb : fn.body = some c) (h : bodyA rec g.base f fn args s = some s1) (hM : Mem g J All s w) (hd : DenL J args args') :
    c.wpIn Fence.wide 0 P (fun e a' w' => (e = .normal ∨ e = .ret) ∧ ∃ J', J.Le J' ∧ Mem g J' All s1 w' ∧ Fra J' ⟨f, fn.ntmps, none, g.base⟩ s1 a') { tmps := args'.toArray ++ Array.replicate (fn.ntmps - args'.toArray.size) undef, defers := [] } w := by
  unfold bodyA at h
  rw [hb] at h
  simp only at h
  cases hc : (bif Nat.ble fn.ntmps 60000 then Nat.ble args.length fn.ntmps else false) with
  | false => rw [hc] at h; simp at h
  | true =>
    rw [hc] at h
    simp only [cond_true] at h
    have h1 : fn.ntmps ≤ 60000 ∧ args.length ≤ fn.ntmps := by
      cases e : Nat.ble fn.ntmps 60000 with
      | false => rw [e] at hc; simp at hc
      | true => rw [e] at hc; exact ⟨nble_true e, nble_true hc⟩
    have hfr : Fra J ⟨f, fn.ntmps, none, g.base⟩ (AM.inFrame s (tmpsOf args)) { tmps := args'.toArray ++ Array.replicate (fn.ntmps - args'.toArray.size) undef, defers := [] } := by
      obtain ⟨e1, _, _, _, _, _, e7⟩ := inFrame_spec s (tmpsOf args)
      exact ⟨by rw [e1]; exact tmpsOf_den hd h1.2 h1.1, by rw [e7]; exact .nil⟩
    have key : ∀ ex s2, rec c ⟨f, fn.ntmps, none, g.base⟩ (AM.inFrame s (tmpsOf args)) = some (ex, s2) → (ex = .normal ∨ ex = .ret) → s2 = s1 → c.wpIn Fence.wide 0 P (fun e a' w' => (e = .normal ∨ e = .ret) ∧ ∃ J', J.Le J' ∧ Mem g J' All s1 w' ∧ Fra J' ⟨f, fn.ntmps, none, g.base⟩ s1 a') { tmps := args'.toArray ++ Array.replicate (fn.ntmps - args'.toArray.size) undef, defers := [] } w := by
      intro ex s2 hr hex e
      subst e
      refine wpIn_mono (hG c _ _ ex s2 hr g J _ w none rfl h1.1 (hM.inFrame _) hfr .none) fun e a' w' ⟨he, J', j1, j2, j3⟩ => ?_
      subst he
      exact ⟨hex, J', j1, j2, j3⟩
    split at h
    · rename_i s2 hr; exact key _ _ hr (.inl rfl) (Option.some.inj h)
    · rename_i s2 hr; exact key _ _ hr (.inr rfl) (Option.some.inj h)
    · cases h

def resF (tm : Array Value) : ResultVar → Sem Value
  | .tmp t => pure (tm.getD t undef)
  | .cell a t => do loadVar t (← asAddr (tm.getD a undef))

theorem resultsA_sound {g : Gh} {J : Io} {s : St} {w : World} (hM : Mem g J All s w) {nt : Nat} {tm : Array Value} (ht : TmpsDen J nt s.T tm) : ∀ (rs : List ResultVar) (vs : List Value), resultsA P s rs = some vs →
    ∃ us, (rs.mapM (resF tm)).run P w = .ok us w ∧ DenL J vs us
  | [], vs, h => by simp [resultsA] at h; subst h; exact ⟨[], rfl, .nil⟩
  | .tmp t :: rs, vs, h => by
    simp only [resultsA, Option.map_eq_some_iff] at h
    obtain ⟨vs', h1, rfl⟩ := h
    obtain ⟨us, k1, k2⟩ := resultsA_sound hM ht rs vs' h1
    refine ⟨tm.getD t undef :: us, ?_, .cons _ _ _ _ ?_ k2⟩
    · rw [List.mapM_cons, Sem.run_bind]
      simp only [resF, Sem.run_pure, Result.andThen_ok, Sem.run_bind, k1]
    · rcases Nat.lt_or_ge t nt with h' | h'
      · exact ht.2.1 t h'
      · rw [ht.2.2 t h', Array.getD_eq_getD_getElem?, Array.getElem?_eq_none (by rw [ht.1]; exact h')]; exact Den.und J
  | .cell a t :: rs, vs, h => by
    simp only [resultsA] at h
    cases hl : loadOp P s t ((s.T.get a).getD undef) with
    | none => rw [hl] at h; simp at h
    | some v =>
      cases hr : resultsA P s rs with
      | none => rw [hl, hr] at h; simp at h
      | some vs' =>
        rw [hl, hr] at h
        simp only [Option.some.injEq] at h
        subst h
        obtain ⟨us, k1, k2⟩ := resultsA_sound hM ht rs vs' hr
        have hda : Den J ((s.T.get a).getD undef) (tm.getD a undef) := by
          rcases Nat.lt_or_ge a nt with h' | h'
          · exact ht.2.1 a h'
          · rw [ht.2.2 a h', Array.getD_eq_getD_getElem?, Array.getElem?_eq_none (by rw [ht.1]; exact h')]; exact Den.und J
        unfold loadOp at hl
        split at hl
        case h_2 => cases hl
        rename_i ad e
        rw [e] at hda
        generalize hu : tm.getD a undef = u at hda
        cases hda with
        | ptr b o p hp =>
          obtain ⟨u', q1, q2⟩ := loadA_sound (P := P) hM trivial hl hp
          refine ⟨u' :: us, ?_, .cons _ _ _ _ q2 k2⟩
          rw [List.mapM_cons, Sem.run_bind]
          simp only [resF, hu, asAddr, Sem.run_bind, Sem.run_pure, Result.andThen_ok, q1, k1]

theorem results_sound {g : Gh} {J : Io} {s : St} {w : World} (hM : Mem g J All s w) {nt : Nat} {tm : Array Value} (ht : TmpsDen J nt s.T tm) {fn : Func} {vs : List Value} (h : resultsA P s fn.results.toList = some vs) :
    ∃ u, (results fn tm).run P w = .ok u w ∧ Den J (oneOf vs) u := by
  obtain ⟨us, k1, k2⟩ := resultsA_sound (P := P) hM ht _ _ h
  have hrun : (results fn tm).run P w = .ok (if h : us.toArray.size = 1 then us.toArray[0] else .tuple us.toArray) w := by
    have e : results fn tm = (do let vs ← fn.results.mapM (resF tm); pure (if h : vs.size = 1 then vs[0] else .tuple vs)) := by
      unfold results
      congr 1
    rw [e, Array.mapM_eq_mapM_toList]
    rw [Sem.run_bind, Sem.run_map, k1]
    simp only [Result.andThen_ok, Sem.run_pure]
  refine ⟨_, hrun, ?_⟩
  cases k2 with
  | nil => exact .tuple _ _ .nil
  | cons v v' l l' hv hl =>
    cases hl with
    | nil => simpa [oneOf] using hv
    | cons v2 v2' l2 l2' hv2 hl2 =>
      have : ¬ ((v' :: v2' :: l2').toArray.size = 1) := by simp
      rw [dif_neg this]
      exact .tuple _ _ (.cons _ _ _ _ hv (.cons _ _ _ _ hv2 hl2))

/-- memory that a mark's block is taken from -/
theorem Mem.defd {g : Gh} {J : Io} {S : Nat → Prop} {s : St} {w : World} (hM : Mem g J S s w) {r : Nat} (hS : S r) (h : s.H.get r = some (.defd false)) {p : Pl} (hp : J.blk r = some p) :
    ∃ w', (Instr.takeDeferred p.blk).run P w = .ok [] w' ∧ Mem g J S (setO g.base s r (some (.defd true))) w' := by
  obtain ⟨q, o', h1, h2, h3⟩ := hM.objs r _ hS h
  obtain rfl : q = p := Option.some.inj (h1.symm.trans hp)
  have h3 : o' = .deferred (some []) := h3
  subst h3
  have hlt := hM.lt _ _ hp
  refine ⟨w.putObj q.blk (.deferred none), run_takeDeferred h2, hM.store hS h hp (o' := .deferred none) (by simp) (fun x hx => World.putObj_heap_other hx) (World.putObj_heap_same hlt) rfl⟩

theorem TmpsDen.ofSt {J : Io} {nt : Nat} {s s' : St} {tm : Array Value} (h : TmpsDen J nt s.T tm) (e : s'.T = s.T) : TmpsDen J nt s'.T tm := by rw [e]; exact h

theorem deferFn_sound {rec : Rec} (hG : Goes P rec) (hP : ∀ f fn, P.funcs[f]? = some fn → fn.body ≠ none → ∀ args w, (callFunc f args).run P w = .ok (.enter f args) w) {g : Gh} {J : Io} {s s1 : St} {w : World} {f : FuncId} {args : List Value} (h : deferFn P rec g.base f args s = some s1) (hM : Mem g J All s w)
    {d : Deferred} (hd : Def1Den J (.call f args) d) (u : FrameMode) :
    ∃ fv cap args2, d.target = .fn fv cap ∧ (invoke d.target d.args).run P w = .ok (.enter f args2) w ∧ s1.T = s.T ∧ s1.df = s.df ∧
      CallsDIn Fence.wide 0 P f args2 u w fun e u' w' => u' = u ∧ ∃ v J', e = .returned v ∧ J.Le J' ∧ Mem g J' All s1 w' := by
  obtain ⟨cap, hc1, hc2⟩ := hd
  unfold deferFn at h
  cases hf : P.funcs[f]? with
  | none => rw [hf] at h; cases h
  | some fn =>
    rw [hf] at h
    simp only at h
    cases hb : bodyA rec g.base f fn args s with
    | none => rw [hb] at h; cases h
    | some s2 =>
      rw [hb] at h
      simp only at h
      split at h
      case h_2 => cases h
      rename_i hdf
      cases hbk : backFn P fn s s2 with
      | none => rw [hbk] at h; cases h
      | some x =>
        obtain ⟨v, s3⟩ := x
        rw [hbk] at h
        simp only [Option.some.injEq] at h
        subst h
        unfold backFn at hbk
        cases hr : resultsA P s2 fn.results.toList with
        | none => rw [hr] at hbk; cases hbk
        | some vs =>
          rw [hr] at hbk
          simp only [Option.some.injEq, Prod.mk.injEq] at hbk
          obtain ⟨rfl, rfl⟩ := hbk
          cases hbody : fn.body with
          | none => unfold bodyA at hb; rw [hbody] at hb; cases hb
          | some c =>
            have hden : DenL J args (d.args ++ cap).toList := by simpa using hc2
            have hwp := bodyA_sound hG hbody hb hM hden
            have ebk := backTo_spec s s2
            refine ⟨.func f, cap, d.args ++ cap, hc1, ?_, ebk.1, ebk.2.2.2.2.2.2, ?_⟩
            · rw [hc1]
              exact hP f fn hf (by rw [hbody]; simp) _ w
            · refine CallsDIn.mono (callsDIn_of_wp (R := fun e w' => ∃ v J', e = .returned v ∧ J.Le J' ∧ Mem g J' All (AM.backTo s s2) w') hf hbody trivial ?_) fun e u' w' h => h
              have e0 : (d.args ++ cap).toList.toArray = d.args ++ cap := by simp
              rw [e0] at hwp
              refine wpIn_mono hwp fun e a' w' ⟨hex, J', j1, j2, j3⟩ => ?_
              obtain ⟨uu, r1, r2⟩ := results_sound (P := P) j2 j3.tmps hr
              have hnil : a'.defers = [] := by
                have := j3.dfs
                rw [hdf] at this
                generalize a'.defers = dd at this
                cases this
                rfl
              rcases hex with rfl | rfl
              · exact ⟨hnil, uu, r1, uu, J', rfl, j1, j2.backTo s⟩
              · exact ⟨hnil, uu, r1, uu, J', rfl, j1, j2.backTo s⟩

theorem leaveFn_sound {rec : Rec} (hG : Goes P rec) (hP : ∀ f fn, P.funcs[f]? = some fn → fn.body ≠ none → ∀ args w, (callFunc f args).run P w = .ok (.enter f args) w) {g : Gh} {fn : Func} {tm : Array Value} {R : Ending → World → Prop} : ∀ (ds : List ADef) {J : Io} {s s2 : St} {w : World} (ds' : List Deferred), leaveFn P rec g.base ds s = some s2 →
    Mem g J All s w → DefsDen J ds ds' → (∀ J' w', J.Le J' → Mem g J' All s2 w' → s2.T = s.T → ∃ v, (results fn tm).run P w' = .ok v w' ∧ R (.returned v) w') → LeavesInM Fence.wide 0 P fn tm R ds' .returning w
  | [], J, s, s2, w, _, h, hM, .nil, hR => by
    simp only [leaveFn, Option.some.injEq] at h
    subst h
    exact hR J w (.refl _) hM rfl
  | .mark r :: ds, J, s, s2, w, _, h, hM, .cons _ d _ ds' hd hds, hR => by
    simp only [leaveFn] at h
    split at h
    case h_2 => cases h
    rename_i hH
    obtain ⟨q, hq, ht⟩ := hd
    obtain ⟨w', h1, h2⟩ := hM.defd (P := P) (S := All) trivial hH hq
    have hb : r + 1 < 2 ^ 40 := by have := hM.dom _ _ hq; have := hM.nxs; omega
    have e1 := (setO_spec (base := g.base) (s := s) (b := r) (o := some (AO.defd true)) hb).1
    refine ⟨by simp, .inl ⟨q.blk, w', ht, h1, leaveFn_sound hG hP ds ds' h h2 hds fun J' w'' j1 j2 j3 => hR J' w'' j1 j2 (j3.trans e1)⟩⟩
  | .call f args :: ds, J, s, s2, w, _, h, hM, .cons _ d _ ds' hd hds, hR => by
    simp only [leaveFn] at h
    cases hdf : deferFn P rec g.base f args s with
    | none => rw [hdf] at h; cases h
    | some s1 =>
      rw [hdf] at h
      simp only at h
      obtain ⟨fv, cap, args2, k1, k2, k3, k4, k5⟩ := deferFn_sound hG hP hdf hM hd .returning
      refine ⟨by simp, .inr ⟨fun hh => by simp [Fence.wide] at hh, fv, cap, f, args2, k1, k2, fun _ _ => trivial, ?_⟩⟩
      refine CallsDIn.mono k5 fun e u' w' ⟨hu, v, J', he, j1, j2⟩ => ?_
      subst hu; subst he
      exact leaveFn_sound hG hP ds ds' h j2 (hds.mono j1) fun J'' w'' l1 l2 l3 => hR J'' w'' (j1.trans l1) l2 (l3.trans k3)

/-- what a summary must keep -/
def PlugOk (P : Program) (plug : Plug) : Prop := ∀ f h, plug f = some h → (∃ fn, P.funcs[f]? = some fn ∧ fn.body ≠ none) ∧
  ∀ args base s v s', h args base s = some (v, s') → s'.T = s.T ∧ s'.df = s.df ∧ ∀ g J w args', g.base = base → Mem g J All s w → DenL J args args' → CallsIn Fence.wide 0 P f args'.toArray w (CallPost g J s' v)

/-- a call as the model makes it: a function is entered, or the model answers by itself -/
def Called (P : Program) (g : Gh) (J : Io) (s' : St) (v : Value) (f : FuncId) (args : Array Value) (w : World) : Prop :=
  (∀ w, (callFunc f args).run P w = .ok (.enter f args) w) ∧ CallsIn Fence.wide 0 P f args w (CallPost g J s' v) ∨
  (callFunc f args).run P w = .ok (.value v) w ∧ Mem g J All s' w ∧ Den J v v

theorem callFn_sound {plug : Plug} {rec : Rec} (hG : Goes P rec) (hP : ∀ f fn, P.funcs[f]? = some fn → fn.body ≠ none → ∀ args w, (callFunc f args).run P w = .ok (.enter f args) w) (hplug : PlugOk P plug) {g : Gh} {J : Io} {s s' : St} {w : World} {f : FuncId} {args args' : List Value} {v : Value}
    (h : callFn P plug rec g.base f args s = some (v, s')) (hM : Mem g J All s w) (hd : DenL J args args') : Called P g J s' v f args'.toArray w ∧ s'.T = s.T ∧ s'.df = s.df := by
  unfold callFn at h
  cases hp : plug f with
  | some hh =>
    rw [hp] at h
    simp only at h
    obtain ⟨⟨fn, k1, k2⟩, k3⟩ := hplug f hh hp
    obtain ⟨t1, t2, t3⟩ := k3 _ _ _ _ _ h
    exact ⟨.inl ⟨hP f fn k1 k2 _, t3 g J w args' rfl hM hd⟩, t1, t2⟩
  | none =>
    rw [hp] at h
    simp only at h
    cases hf : P.funcs[f]? with
    | none => rw [hf] at h; cases h
    | some fn =>
      rw [hf] at h
      simp only at h
      cases hbody : fn.body with
      | none =>
        rw [hbody] at h
        simp only at h
        unfold externA at h
        cases hfl : args.all (flat 6) with
        | false => rw [hfl] at h; simp at h
        | true =>
          rw [hfl] at h
          simp only [cond_true] at h
          have hargs := hd.flat hfl
          subst hargs
          split at h
          case h_2 => cases h
          rename_i u hpu
          cases hfu : flat 6 u with
          | false => rw [hfu] at h; simp at h
          | true =>
            rw [hfu] at h
            simp only [cond_true, Option.some.injEq, Prod.mk.injEq] at h
            obtain ⟨rfl, rfl⟩ := h
            exact ⟨.inr ⟨pureRun_run _ _ hpu w, hM, flat_den 6 u hfu J⟩, rfl, rfl⟩
      | some c =>
        rw [hbody] at h
        simp only at h
        cases hb : bodyA rec g.base f fn args s with
        | none => rw [hb] at h; cases h
        | some s1 =>
          rw [hb] at h
          simp only at h
          cases hl : leaveFn P rec g.base s1.df s1 with
          | none => rw [hl] at h; cases h
          | some s2 =>
            rw [hl] at h
            simp only at h
            unfold backFn at h
            cases hr : resultsA P s2 fn.results.toList with
            | none => rw [hr] at h; cases h
            | some vs =>
              rw [hr] at h
              simp only [Option.some.injEq, Prod.mk.injEq] at h
              obtain ⟨rfl, rfl⟩ := h
              have ebk := backTo_spec s s2
              refine ⟨.inl ⟨hP f fn hf (by rw [hbody]; simp) _, ?_⟩, ebk.1, ebk.2.2.2.2.2.2⟩
              refine callsIn_of_wp_marks hf hbody trivial ?_
              refine wpIn_mono (bodyA_sound hG hbody hb hM hd) fun e a' w' ⟨hex, J', j1, j2, j3⟩ => ?_
              have key : LeavesInM Fence.wide 0 P fn a'.tmps (CallPost g J (AM.backTo s s2) (oneOf vs)) a'.defers .returning w' := by
                refine leaveFn_sound hG hP s1.df a'.defers hl j2 j3.dfs fun J'' w'' l1 l2 l3 => ?_
                obtain ⟨u, r1, r2⟩ := results_sound (P := P) l2 ((j3.tmps.mono l1).ofSt l3) hr
                exact ⟨u, r1, u, J'', rfl, j1.trans l1, l2.backTo s, r2⟩
              rcases hex with rfl | rfl
              · exact key
              · exact key
end Go.AM
namespace Go.AM
open Go Go.Proofs.YtdflbipaicpdcaaGreatDoor
variable {P : Program}

/-- an operation comes to a value, deferred calls, a world -/
def OpGoes (P : Program) (r : Option Nat) (o : Oper) (a : Act) (w : World) (R : Value → List Deferred → World → Prop) : Prop :=
  ∀ (K : Act → World → Prop) (Q : Exit → Act → World → Prop), (∀ u ds w', R u ds w' → K (({ a with defers := ds } : Act).put o.dst u) w') → o.wpIn (Fr r) 0 P a w K Q

/-- what an operation leaves -/
def Left (g : Gh) (J : Io) (S : Nat → Prop) (s1 : St) (v : Value) (u : Value) (ds : List Deferred) (w' : World) : Prop := ∃ J', J.Le J' ∧ Mem g J' S s1 w' ∧ Den J' v u ∧ DefsDen J' s1.df ds

theorem Lights.goes {g : Gh} {J : Io} {S : Nat → Prop} {s s1 : St} {v : Value} {w : World} {o : Oper} {a : Act} {r : Option Nat} (h : Lights P g J S s s1 v w ((execOp a.eval o).run P w)) (hnd : ∀ c, o.op ≠ .defer c) (hds : DefsDen J s.df a.defers) :
    OpGoes P r o a w (Left g J S s1 v) ∧ s1.T = s.T := by
  obtain ⟨J', u, w', hr, j1, j2, j3, j4, j5⟩ := h
  refine ⟨fun K Q hK => ⟨fun _ _ => trivial, ?_⟩, j4⟩
  rw [Oper.semAt_eq _ _ _ hnd]
  have hleft : Left g J S s1 v u a.defers w' := ⟨J', j1, j2, j3, by rw [j5]; exact hds.mono j1⟩
  rcases hr with hr | ⟨hr, rfl⟩
  · rw [hr]; exact hK u a.defers w' hleft
  · rw [hr]; exact hK undef a.defers w' hleft

/-- as a call's operation goes -/
theorem run_call_value {c : Call} {f : Operand} (hc : c.callee = .value f) {dst : Option Tmp} {ty : TypeId} {pos : String} {af : Array Edge} {gd : Option (Nat × Bool)} {a : Act} {fn : Fn} {first cap : Array Value} (hf : a.eval f = .func fn first cap) (w : World) :
    (execOp a.eval ⟨dst, .call c, ty, pos, af, gd⟩).run P w = (invoke (.fn fn cap) (first ++ c.args.map a.eval)).run P w := by
  simp [execOp, resolve, hc, hf, Deferred.ofValue]

theorem TmpsDen.set {J : Io} {nt : Nat} {T : Tr Value} {tm : Array Value} (h : TmpsDen J nt T tm) {p : Nat} {v u : Value} (hp : p < nt) (hb : nt ≤ 60000) (hd : Den J v u) : TmpsDen J nt (T.set 16 p (some v)) (tm.setIfInBounds p u) := by
  refine ⟨by simpa using h.1, fun t ht => ?_, fun t ht => ?_⟩
  · rw [Tr.get_set 16 T p (some v) t (by omega)]
    by_cases e : t = p
    · subst e
      have hlt : t < tm.size := by rw [h.1]; exact hp
      rw [if_pos rfl]
      have : (tm.setIfInBounds t u).getD t undef = u := by simp [Array.getD_eq_getD_getElem?, hlt]
      rw [this]; exact hd
    · rw [if_neg e]
      have : (tm.setIfInBounds p u).getD t undef = tm.getD t undef := by simp [Array.getD_eq_getD_getElem?, Array.getElem?_setIfInBounds_ne (Ne.symm e)]
      rw [this]; exact h.2.1 t ht
  · rw [Tr.get_set 16 T p (some v) t (by omega), if_neg (by omega)]
    exact h.2.2 t ht

theorem TmpsDen.params {J : Io} {nt : Nat} (hb : nt ≤ 60000) : ∀ (ps : List Tmp) (vs us : List Value) (T : Tr Value) (tm : Array Value), TmpsDen J nt T tm → (∀ p ∈ ps, p < nt) → DenL J vs us → ps.length = vs.length →
    TmpsDen J nt (layParams ps vs T) ((ps.zip us).foldl (fun tmps (x : Tmp × Value) => tmps.setIfInBounds x.1 x.2) tm)
  | [], _, _, T, tm, h, _, .nil, _ => h
  | [], _, _, T, tm, h, _, .cons .., hl => by simp at hl
  | p :: ps, _, _, T, tm, h, _, .nil, hl => by simp at hl
  | p :: ps, _, _, T, tm, h, hps, .cons v u vs us hd hds, hl => by
    simp only [layParams, List.zip_cons_cons, List.foldl_cons]
    exact TmpsDen.params hb ps vs us _ _ (h.set (hps p (by simp)) hb hd) (fun q hq => hps q (by simp [hq])) hds (by simpa using hl)

/-- a loop's record -/
theorem Mem.loop {g : Gh} {J : Io} {S : Nat → Prop} {s : St} {w : World} (hM : Mem g J S s w) {l : Nat} {st : LoopState} {pd : Option Code} {fn : FuncId} {nt : Nat} {T : Tr Value} {ps : List Tmp} {asg body : Code} {d : Nat} (hS : S l) (h : s.H.get l = some (.loop st pd fn nt T ps asg body d)) {p : Pl} (hp : J.blk l = some p) :
    ∃ r : Loop, w.heap[p.blk]? = some (.loop r) ∧ r.state = st ∧ r.pending = pd ∧ r.params = ps.toArray ∧ r.assign = asg ∧ r.body = body ∧ TmpsDen J nt T r.tmps ∧ ∃ q, J.blk d = some q ∧ r.defers = q.blk := by
  obtain ⟨q, o', h1, h2, tm, q2, f, rfl, h3, h4⟩ := hM.objs l _ hS h
  obtain rfl : q = p := Option.some.inj (h1.symm.trans hp)
  exact ⟨_, h2, rfl, rfl, rfl, rfl, rfl, h4, q2, h3, rfl⟩

theorem Mem.setLoop {g : Gh} {J : Io} {S : Nat → Prop} {s : St} {w : World} (hM : Mem g J S s w) {l : Nat} {st : LoopState} {pd : Option Code} {fn : FuncId} {nt : Nat} {T : Tr Value} {ps : List Tmp} {asg body : Code} {d : Nat} (hS : S l) (h : s.H.get l = some (.loop st pd fn nt T ps asg body d)) {p : Pl} (hp : J.blk l = some p)
    {r : Loop} (hr : w.heap[p.blk]? = some (.loop r)) (e3 : r.params = ps.toArray) (e4 : r.assign = asg) (e5 : r.body = body) (e6 : TmpsDen J nt T r.tmps) (e7 : ∃ q, J.blk d = some q ∧ r.defers = q.blk) (st' : LoopState) (pd' : Option Code) :
    Mem g J S (setO g.base s l (some (.loop st' pd' fn nt T ps asg body d))) (w.putObj p.blk (.loop { r with state := st', pending := pd' })) := by
  obtain ⟨q, hq, hq2⟩ := e7
  refine hM.store hS h hp (o' := .loop { r with state := st', pending := pd' }) (by simp) (fun x hx => World.putObj_heap_other hx) (World.putObj_heap_same (hM.lt _ _ hp)) ⟨r.tmps, q, r.fn, ?_, hq, e6⟩
  rw [← e3, ← e4, ← e5, ← hq2]

theorem roundA_sound {rec : Rec} (hG : Goes P rec) {g : Gh} {J : Io} {s s' : St} {w : World} {l : Nat} {args args' : List Value} {v : Value} (h : roundA rec g.base l args s = some (v, s')) (hM : Mem g J All s w) (hd : DenL J args args') {p : Pl} (hp : J.blk l = some p) :
    ∃ (r : Loop) (tmps : Array Value), (Instr.yield p.blk args'.toArray).run P w = .ok (.round p.blk r.fn tmps r.assign r.body) w ∧ s'.T = s.T ∧ s'.df = s.df ∧ ∀ ro, RoundIn (Fr ro) 0 P p.blk r.fn tmps r.assign r.body w (CallPost g J s' v) := by
  unfold roundA at h
  split at h
  case h_2 => cases h
  rename_i pd0 fn nt T ps asg body d hH
  obtain ⟨r, k1, k2, k3, k4, k5, k6, k7, k8⟩ := hM.loop trivial hH hp
  cases hb : (Nat.beq args.length ps.length && ps.all (fun p => Nat.blt p nt) && Nat.ble nt 60000) with
  | false => rw [hb] at h; simp at h
  | true =>
    rw [hb] at h
    simp only [cond_true] at h
    simp only [Bool.and_eq_true] at hb
    have hlen := nbeq_true hb.1.1
    have hlt : ∀ q ∈ ps, q < nt := fun q hq => nblt_true (List.all_eq_true.1 hb.1.2 q hq)
    have hnt := nble_true hb.2
    have hsz : args'.toArray.size = r.params.size := by rw [k4]; have := hd.length; simp; omega
    have hy := run_yield (P := P) k1 hsz
    have htm := TmpsDen.params hnt ps args args' T r.tmps k7 hlt hd hlen.symm
    have hfold : (r.params.zip args'.toArray).foldl (fun tmps (x : Tmp × Value) => tmps.setIfInBounds x.1 x.2) r.tmps = (ps.zip args').foldl (fun tmps (x : Tmp × Value) => tmps.setIfInBounds x.1 x.2) r.tmps := by
      rw [k4, ← Array.foldl_toList]
      simp
    refine ⟨r, _, hy, ?_⟩
    have hfold' : (r.params.zip args'.toArray).foldl (fun tmps (x : Tmp × Value) => match x with | (t, a) => tmps.setIfInBounds t a) r.tmps = (ps.zip args').foldl (fun tmps (x : Tmp × Value) => tmps.setIfInBounds x.1 x.2) r.tmps := hfold
    rw [hfold']
    split at h
    case h_2 => cases h
    rename_i s1 hra
    split at h
    case h_2 => cases h
    rename_i pd fn1 nt1 T1 ps1 a1 b1 d1 hH1
    split at h
    case h_2 => cases h
    rename_i e s2 hrb
    unfold roundEnd at h
    split at h
    case h_2 => cases h
    rename_i st2 pd2 fn2 nt2 T2 ps2 a2 b2 d2 hH2 hdf2
    have hbk : ∀ j st, backA g.base l s s2 j st fn2 nt2 T2 ps2 a2 b2 d2 = some (v, s') → s'.T = s.T ∧ s'.df = s.df ∧ v = .bool j.isNone ∧ s' = AM.backTo s (setO g.base s2 l (some (.loop st j fn2 nt2 T2 ps2 a2 b2 d2))) := fun j st hj => by
      unfold backA at hj
      simp only [Option.some.injEq, Prod.mk.injEq] at hj
      obtain ⟨rfl, rfl⟩ := hj
      have e := backTo_spec s (setO g.base s2 l (some (.loop st j fn2 nt2 T2 ps2 a2 b2 d2)))
      exact ⟨e.1, e.2.2.2.2.2.2, rfl, rfl⟩
    have hTdf : s'.T = s.T ∧ s'.df = s.df := by
      split at h
      · exact ⟨(hbk _ _ h).1, (hbk _ _ h).2.1⟩
      · exact ⟨(hbk _ _ h).1, (hbk _ _ h).2.1⟩
      · exact ⟨(hbk _ _ h).1, (hbk _ _ h).2.1⟩
      · exact ⟨(hbk _ _ h).1, (hbk _ _ h).2.1⟩
      · cases h
    refine ⟨hTdf.1, hTdf.2, fun ro => ?_⟩
    refine roundIn_of_wpIn (F := Fr ro) trivial ?_
    have ein := inFrame_spec s (layParams ps args T)
    have hfr : Fra J ⟨fn, nt, some l, g.base⟩ (AM.inFrame s (layParams ps args T)) { tmps := (ps.zip args').foldl (fun tmps (x : Tmp × Value) => tmps.setIfInBounds x.1 x.2) r.tmps, defers := [] } :=
      ⟨by rw [ein.1]; exact htm, by rw [ein.2.2.2.2.2.2]; exact .nil⟩
    rw [k5, k6]
    refine wpIn_mono (hG asg _ _ _ _ hra g J _ w (some p.blk) rfl hnt (hM.inFrame _) hfr (.some l p hp)) fun ex a1' w1 ⟨hex, J1, j1, j2, j3⟩ => ?_
    subst hex
    obtain ⟨r1, m1, m2, m3, m4, m5, m6, m7, m8⟩ := j2.loop trivial hH1 (j1.blk _ _ hp)
    refine ⟨_, run_beginRound m1 m2, ?_⟩
    have hM2 := j2.setLoop trivial hH1 (j1.blk _ _ hp) m1 m4 m5 m6 m7 m8 .busy pd
    have e2 : ({ r1 with state := .busy } : Loop) = { r1 with state := .busy, pending := pd } := by rw [← m3]
    rw [e2]
    have eset := setO_spec (base := g.base) (s := s1) (b := l) (o := some (.loop .busy pd fn1 nt1 T1 ps1 a1 b1 d1)) (by have := j2.dom _ _ (j1.blk _ _ hp); have := j2.nxs; omega)
    have hfr2 : Fra J1 ⟨fn, nt, some l, g.base⟩ (setO g.base s1 l (some (.loop .busy pd fn1 nt1 T1 ps1 a1 b1 d1))) a1' := ⟨by rw [eset.1]; exact j3.tmps, by rw [eset.2.2.2.2.2.1]; exact j3.dfs⟩
    refine wpIn_mono (hG body _ _ _ _ hrb g J1 _ _ (some p.blk) rfl hnt hM2 hfr2 (.some l p (j1.blk _ _ hp))) fun ex a2' w2 ⟨hex, J2, l1, l2, l3⟩ => ?_
    subst hex
    have hp2 := l1.blk _ _ (j1.blk _ _ hp)
    obtain ⟨r2, n1, n2, n3, n4, n5, n6, n7, n8⟩ := l2.loop trivial hH2 hp2
    have fin : ∀ (j : Option Code) (st : LoopState), backA g.base l s s2 j st fn2 nt2 T2 ps2 a2 b2 d2 = some (v, s') → (st = if j.isNone then .ready else .done) → ∃ v' w', (Instr.endRound p.blk j).run P w2 = .ok v' w' ∧ CallPost g J s' v (.returned v') w' := by
      intro j st hj hst
      obtain ⟨_, _, rfl, rfl⟩ := hbk j st hj
      refine ⟨_, _, run_endRound j n1, .bool j.isNone, J2, rfl, j1.trans l1, ?_, .bool _⟩
      rw [← hst]
      exact (l2.setLoop trivial hH2 hp2 n1 n4 n5 n6 n7 n8 st j).backTo s
    split at h
    · exact fin none .ready h rfl
    · exact fin (some .ret) .done h rfl
    · exact fin (some (.exit _)) .done h rfl
    · exact fin (some (.goto _)) .done h rfl
    · cases h
end Go.AM
namespace Go.AM
open Go Go.Proofs.YtdflbipaicpdcaaGreatDoor
variable {P : Program}

/-- functions with bodies are entered -/
def Enters (P : Program) : Prop := ∀ f fn, P.funcs[f]? = some fn → fn.body ≠ none → ∀ args w, (callFunc f args).run P w = .ok (.enter f args) w

/-- what a call's operation asks for, and what comes of it -/
def Inv (P : Program) (g : Gh) (J : Io) (s' : St) (v : Value) (w : World) (res : Result Next) : Prop :=
  (∃ f A, res = .ok (.enter f A) w ∧ CallsIn Fence.wide 0 P f A w (CallPost g J s' v)) ∨ (res = .ok (.value v) w ∧ Mem g J All s' w ∧ Den J v v) ∨
  (∃ l f tmps asg body, res = .ok (.round l f tmps asg body) w ∧ ∀ ro, RoundIn (Fr ro) 0 P l f tmps asg body w (CallPost g J s' v))

theorem Called.inv {g : Gh} {J : Io} {s' : St} {v : Value} {f : FuncId} {args : Array Value} {w : World} (h : Called P g J s' v f args w) : Inv P g J s' v w ((callFunc f args).run P w) := by
  rcases h with ⟨h1, h2⟩ | ⟨h1, h2, h3⟩
  · exact .inl ⟨f, args, h1 w, h2⟩
  · exact .inr (.inl ⟨h1, h2, h3⟩)

theorem Inv.goes {g : Gh} {J : Io} {s s' : St} {v : Value} {w : World} {o : Oper} {a : Act} {r : Option Nat} (h : Inv P g J s' v w ((execOp a.eval o).run P w)) (hnd : ∀ c, o.op ≠ .defer c) (hds : DefsDen J s.df a.defers) (hdf : s'.df = s.df) :
    OpGoes P r o a w (Left g J All s' v) := by
  intro K Q hK
  refine ⟨fun _ _ => trivial, ?_⟩
  rw [Oper.semAt_eq _ _ _ hnd]
  have hpost : ∀ e w', CallPost g J s' v e w' → ∃ u, e = .returned u ∧ Left g J All s' v u a.defers w' := fun e w' ⟨u, J', he, j1, j2, j3⟩ => ⟨u, he, J', j1, j2, j3, by rw [hdf]; exact hds.mono j1⟩
  rcases h with ⟨f, A, hr, hc⟩ | ⟨hr, hm, hd⟩ | ⟨l, f, tmps, asg, body, hr, hc⟩
  · rw [hr]
    refine ⟨fun hh => by simp [Fr, Fence.wide] at hh, callsIn_Fr (CallsIn.mono hc fun e w' he => ?_)⟩
    obtain ⟨u, rfl, hl⟩ := hpost e w' he
    exact hK u a.defers w' hl
  · rw [hr]
    exact hK v a.defers w ⟨J, .refl _, hm, hd, by rw [hdf]; exact hds⟩
  · rw [hr]
    refine ⟨fun hh => by simp [Fr, Fence.wide] at hh, RoundIn.mono (hc r) fun e w' he => ?_⟩
    obtain ⟨u, rfl, hl⟩ := hpost e w' he
    exact hK u a.defers w' hl

theorem callV_sound {plug : Plug} {rec : Rec} (hG : Goes P rec) (hP : Enters P) (hplug : PlugOk P plug) {g : Gh} {J : Io} {s s' : St} {w : World} {fv fu : Value} {args args' : List Value} {v : Value} (h : callV P plug rec g.base fv args s = some (v, s')) (hM : Mem g J All s w) (hf : Den J fv fu) (hd : DenL J args args') :
    s'.T = s.T ∧ s'.df = s.df ∧ ∃ fn first cap, fu = .func fn first cap ∧ Inv P g J s' v w ((invoke (.fn fn cap) (first ++ args'.toArray)).run P w) := by
  unfold callV at h
  split at h
  · rename_i f first cap
    cases hf with
    | func f a a' b b' ha hb =>
      obtain ⟨h1, h2, h3⟩ := callFn_sound hG hP hplug h hM (ha.append (hd.append hb))
      refine ⟨h2, h3, _, _, _, rfl, ?_⟩
      have e : (a'.toList ++ (args' ++ b'.toList)).toArray = (a' ++ args'.toArray) ++ b' := by apply Array.ext'; simp
      rw [e] at h1
      exact h1.inv
  · rename_i l first cap
    cases hb : (first.isEmpty && cap.isEmpty) with
    | false => rw [hb] at h; simp at h
    | true =>
      rw [hb] at h
      simp only [cond_true] at h
      cases hf with
      | yield l p hp =>
        obtain ⟨r, tmps, h1, h2, h3, h4⟩ := roundA_sound hG h hM hd hp
        refine ⟨h2, h3, _, _, _, rfl, .inr (.inr ⟨p.blk, r.fn, tmps, r.assign, r.body, ?_, h4⟩)⟩
        simpa [invoke] using h1
  · cases h

theorem DenL.evs {g : Gh} {J : Io} {S : Nat → Prop} {E : En} {s : St} {a : Act} {w : World} (hF : Fra J E s a) (hM : Mem g J S s w) : ∀ (l : List Operand), (∀ x ∈ l, okx x = true) → DenL J (evs s l) (l.map a.eval)
  | [], _ => .nil
  | x :: l, h => .cons _ _ _ _ (Den.ev hF hM (h x (by simp))) (DenL.evs hF hM l fun y hy => h y (by simp [hy]))

theorem callOp_sound {plug : Plug} {rec : Rec} (hG : Goes P rec) (hP : Enters P) (hplug : PlugOk P plug) {g : Gh} {J : Io} {s s' : St} {a : Act} {w : World} {o : Oper} {c : Call} {v : Value} (ho : o.op = .call c)
    (h : callOp P plug rec g.base s c = some (v, s')) (hM : Mem g J All s w) (hd : OpsDen J s a o) : s'.T = s.T ∧ s'.df = s.df ∧ Inv P g J s' v w ((execOp a.eval o).run P w) := by
  obtain ⟨dst, op, ty, pos, af, gd⟩ := o
  simp only at ho
  subst ho
  have hdx : ∀ x ∈ c.operands, Den J (ev s x) (a.eval x) := fun x hx => hd x (by simpa only [Op.operands] using hx)
  have hargs : DenL J (evs s c.args.toList) (c.args.toList.map a.eval) := DenL.map _ fun x hx => hdx x (by simp only [Call.operands, Array.mem_append]; exact .inr (by simpa using hx))
  unfold callOp at h
  split at h
  · rename_i f hc
    have hf := hdx f (by simp only [Call.operands, hc, Array.mem_append]; exact .inl (by simp))
    obtain ⟨h1, h2, fn, first, cap, e, h3⟩ := callV_sound hG hP hplug h hM hf hargs
    refine ⟨h1, h2, ?_⟩
    rw [run_call_value hc e]
    have e2 : (c.args.toList.map a.eval).toArray = c.args.map a.eval := by apply Array.ext'; simp
    rw [e2] at h3
    exact h3
  · rename_i rv name hc
    have hr := hdx rv (by simp only [Call.operands, hc, Array.mem_append]; exact .inl (by simp))
    split at h
    case h_2 => cases h
    rename_i f recv hm
    unfold methodA at hm
    split at hm
    case h_2 => cases hm
    rename_i t y e
    cases hfl : flat 6 y with
    | false => rw [hfl] at hm; simp at hm
    | true =>
      rw [hfl] at hm
      simp only [cond_true] at hm
      split at hm
      case h_2 => cases hm
      rename_i f' r' hpr
      cases hfr : flat 6 r' with
      | false => rw [hfr] at hm; simp at hm
      | true =>
        rw [hfr] at hm
        simp only [cond_true, Option.some.injEq, Prod.mk.injEq] at hm
        obtain ⟨rfl, rfl⟩ := hm
        rw [e] at hr
        generalize hu : a.eval rv = u at hr
        cases hr with
        | iface t y y' hy =>
          have hyy := flat_eq 6 _ _ hfl hy
          subst hyy
          obtain ⟨h1, h2, h3⟩ := callFn_sound hG hP hplug h hM (.cons _ _ _ _ (flat_den 6 r' hfr J) hargs)
          refine ⟨h2, h3, ?_⟩
          have hrun : (execOp a.eval ⟨dst, .call c, ty, pos, af, gd⟩).run P w = (callFunc f' (#[r'] ++ c.args.map a.eval)).run P w := by
            have hmr := pureRun_run _ _ hpr w
            have h0 : (#[Value.iface t y'] ++ Array.map a.eval c.args)[0]? = some (Value.iface t y') := by rw [Array.getElem?_append_left Nat.zero_lt_one]; rfl
            have hx : (#[Value.iface t y'] ++ Array.map a.eval c.args).extract 1 (#[Value.iface t y'] ++ Array.map a.eval c.args).size = Array.map a.eval c.args := by apply Array.ext'; simp; exact List.take_of_length_le (by simp)
            simp only [execOp, resolve, hc, pure_bind, invoke, hu, h0, hx, callMethod, Sem.run_bind, run_program, Result.andThen_ok, hmr]
          rw [hrun]
          have e2 : (r' :: c.args.toList.map a.eval).toArray = #[r'] ++ c.args.map a.eval := by apply Array.ext'; rw [Array.toList_append, Array.toList_map]; rfl
          rw [e2] at h1
          exact h1.inv
        | _ => skip
  · cases h

/-- an operation, whatever it is -/
theorem evOp_sound {plug : Plug} {rec : Rec} (hG : Goes P rec) (hP : Enters P) (hplug : PlugOk P plug) {g : Gh} {J : Io} {E : En} {s s' : St} {a : Act} {w : World} {o : Oper} {v : Value} {r : Option Nat} (hr : RdDen J E.rd r) (hbase : g.base = E.base)
    (h : evOp P plug rec E s o = some (v, s')) (hM : Mem g J All s w) (hF : Fra J E s a) : OpGoes P r o a w (Left g J All s' v) ∧ s'.T = s.T := by
  unfold evOp at h
  cases hok : opOk o with
  | false => rw [hok] at h; simp at h
  | true =>
    rw [hok] at h
    simp only [cond_true] at h
    have hokx : ∀ x ∈ o.op.operands, okx x = true := fun x hx => List.all_eq_true.1 hok x (by simpa using hx)
    cases hic : isCall o with
    | true =>
      rw [hic] at h
      simp only [cond_true] at h
      split at h
      case h_2 => cases h
      rename_i c ho
      rw [← hbase] at h
      obtain ⟨h1, h2, h3⟩ := callOp_sound hG hP hplug ho h hM (fun x hx => Den.ev hF hM (hokx x hx))
      exact ⟨h3.goes (fun c' e => by rw [ho] at e; cases e) hF.dfs h2, h1⟩
    | false =>
      rw [hic] at h
      simp only [cond_false] at h
      split at h
      · rename_i c ho
        unfold deferA at h
        split at h
        case h_2 => cases h
        rename_i f hrd hcal
        split at h
        case h_2 => cases h
        rename_i fg first cap e
        have hrn : r = none := by rw [hrd] at hr; cases hr; rfl
        subst hrn
        obtain ⟨T, H, nx, W, D, nd, df⟩ := s
        simp only [Option.some.injEq, Prod.mk.injEq] at h
        obtain ⟨rfl, rfl⟩ := h
        refine ⟨fun K Q hK => ⟨fun _ _ => trivial, ?_⟩, rfl⟩
        have hopr : o.op.operands = c.operands := by rw [ho]; rfl
        have hf := Den.ev hF hM (hokx f (by rw [hopr]; simp only [Call.operands, hcal, Array.mem_append]; exact .inl (by simp)))
        have hargs := DenL.evs hF hM c.args.toList fun x hx => hokx x (by rw [hopr]; simp only [Call.operands, Array.mem_append]; exact .inr (by simpa using hx))
        rw [e] at hf
        generalize hu : a.eval f = u at hf
        cases hf with
        | func _ a1 a2 b1 b2 ha hb =>
          have hrun : ((o.semAt none a.eval).run P w) = .ok (.defer { target := .fn (.func fg) b2, args := a2 ++ c.args.map a.eval }) w := by
            obtain ⟨dst, op, ty, pos, af, gd⟩ := o
            simp only at ho
            subst ho
            simp [Oper.semAt, execOp, resolve, hcal, hu, Deferred.ofValue]
          show Oper.uponIn (Fr none) 0 P o a K Q ((o.semAt none a.eval).run P w)
          rw [hrun]
          refine hK undef _ w ⟨J, .refl _, hM.of_st rfl rfl rfl rfl rfl, Den.und J, .cons _ _ _ _ ⟨b2, rfl, ?_⟩ hF.dfs⟩
          have e3 : (a2 ++ c.args.map a.eval).toList ++ b2.toList = a2.toList ++ (c.args.toList.map a.eval ++ b2.toList) := by simp
          rw [e3]
          exact ha.append (hargs.append hb)
      · rename_i hnd
        rw [← hbase] at h
        exact (lightOp_sound hM h (fun x hx => Den.ev hF hM (hokx x hx)) (fun _ _ => trivial)).goes hnd hF.dfs

/-! ### Plain regions -/
theorem put_spec {nt : Nat} {s s' : St} {dst : Option Tmp} {v : Value} (h : put nt s dst v = some s') : s'.H = s.H ∧ s'.nx = s.nx ∧ s'.W = s.W ∧ s'.D = s.D ∧ s'.nd = s.nd ∧ s'.df = s.df ∧
    match dst with
    | none => s'.T = s.T
    | some d => d < nt ∧ s'.T = s.T.set 16 d (some v) := by
  unfold put at h
  cases dst with
  | none => simp only [Option.some.injEq] at h; subst h; exact ⟨rfl, rfl, rfl, rfl, rfl, rfl, rfl⟩
  | some d =>
    simp only at h
    cases hb : Nat.blt d nt with
    | false => rw [hb] at h; simp at h
    | true =>
      rw [hb] at h
      obtain ⟨T, H, nx, W, D, nd, df⟩ := s
      simp only [cond_true, Option.some.injEq] at h
      subst h
      exact ⟨rfl, rfl, rfl, rfl, rfl, rfl, nblt_true hb, rfl⟩

theorem TmpsDen.put {J : Io} {nt : Nat} {s s' : St} {tm : Array Value} {dst : Option Tmp} {v u : Value} (h : TmpsDen J nt s.T tm) (hb : nt ≤ 60000) (hp : AM.put nt s dst v = some s') (hd : Den J v u) :
    TmpsDen J nt s'.T (match dst with | some d => tm.setIfInBounds d u | none => tm) := by
  obtain ⟨_, _, _, _, _, _, e⟩ := put_spec hp
  cases dst with
  | none => simp only at e ⊢; rw [e]; exact h
  | some d => simp only at e ⊢; rw [e.2]; exact h.set e.1 hb hd

theorem Fra.put {J : Io} {E : En} {s s' : St} {a : Act} {dst : Option Tmp} {v u : Value} {ds : List Deferred} (ht : TmpsDen J E.nt s.T a.tmps) (hds : DefsDen J s.df ds) (hb : E.nt ≤ 60000) (hp : AM.put E.nt s dst v = some s') (hd : Den J v u) :
    Fra J E s' (({ a with defers := ds } : Act).put dst u) := by
  have h1 := ht.put hb hp hd
  obtain ⟨_, _, _, _, _, e6, _⟩ := put_spec hp
  cases dst with
  | none => exact ⟨h1, by rw [e6]; exact hds⟩
  | some d => exact ⟨h1, by rw [e6]; exact hds⟩

theorem wanted_sound {J : Io} {nt : Nat} {ops : Array Oper} {s : St} {tm : Array Value} (hT : TmpsDen J nt s.T tm) (o : Oper) : Region.wanted o (yielded ops tm) = wantedA ops.toList s o := by
  unfold Region.wanted wantedA
  cases o.guard with
  | none => rfl
  | some gw =>
    obtain ⟨j, want⟩ := gw
    simp only
    have key : yielded ops tm j = yieldedA ops.toList s j := by
      unfold yielded yieldedA
      rw [Array.getElem?_toList]
      cases hd : (ops[j]?).bind (·.dst) with
      | none => rfl
      | some t =>
        simp only [Option.bind_some]
        rcases Nat.lt_or_ge t nt with h | h
        · have h1 := hT.2.1 t h
          have h2 : tm[t]? = some (tm.getD t undef) := by
            have : t < tm.size := by rw [hT.1]; exact h
            simp [Array.getD_eq_getD_getElem?, this]
          rw [h2]
          generalize tm.getD t undef = u at h1
          cases hg : s.T.get t with
          | none => rw [hg] at h1; simp only [Option.getD_none] at h1; cases h1; rfl
          | some x =>
            rw [hg] at h1
            simp only [Option.getD_some] at h1
            cases h1 <;> rfl
        · rw [hT.2.2 t h, Array.getElem?_eq_none (by rw [hT.1]; exact h)]
    rw [key]
    cases yieldedA ops.toList s j with
    | none => rfl
    | some b => cases b <;> cases want <;> rfl

theorem plainGo_sound {plug : Plug} {rec : Rec} (hG : Goes P rec) (hP : Enters P) (hplug : PlugOk P plug) {g : Gh} {E : En} {r : Option Nat} (hbase : g.base = E.base) (hnt : E.nt ≤ 60000) {ops : Array Oper} {s' : St} {Q : Exit → Act → World → Prop} : ∀ (l : List Nat) (lo : List Oper) {J : Io} {s : St} {a : Act} {w : World},
    l.map (fun i => ops[i]?) = lo.map some → plainGo P plug rec E ops.toList lo s = some s' → RdDen J E.rd r → Mem g J All s w → Fra J E s a → (∀ J' a' w', J.Le J' → Mem g J' All s' w' → Fra J' E s' a' → Q .normal a' w') → wpOpsIn (Fr r) 0 P ops Q l a w
  | [], [], J, s, a, w, _, h, hr, hM, hF, hQ => by
    simp only [plainGo, Option.some.injEq] at h
    subst h
    exact hQ J a w (.refl _) hM hF
  | [], _ :: _, J, s, a, w, hl, h, hr, hM, hF, hQ => by simp at hl
  | i :: l, [], J, s, a, w, hl, h, hr, hM, hF, hQ => by simp at hl
  | i :: l, o :: lo, J, s, a, w, hl, h, hr, hM, hF, hQ => by
    simp only [List.map_cons, List.cons.injEq] at hl
    obtain ⟨hi, hl⟩ := hl
    simp only [wpOpsIn, hi]
    have hw := wanted_sound (ops := ops) hF.tmps o
    simp only [plainGo] at h
    cases hwa : wantedA ops.toList s o with
    | true =>
      rw [hwa] at h hw
      rw [if_pos hw]
      simp only [cond_true] at h
      cases he : evOp P plug rec E s o with
      | none => rw [he] at h; cases h
      | some x =>
        obtain ⟨v, s1⟩ := x
        rw [he] at h
        simp only at h
        cases hp : put E.nt s1 o.dst v with
        | none => rw [hp] at h; cases h
        | some s2 =>
          rw [hp] at h
          simp only at h
          obtain ⟨hgo, hT⟩ := evOp_sound hG hP hplug hr hbase he hM hF
          refine hgo _ _ fun u ds w' ⟨J', j1, j2, j3, j4⟩ => ?_
          obtain ⟨e1, e2, e3, e4, e5, e6, _⟩ := put_spec hp
          have hF2 : Fra J' E s2 (({ a with defers := ds } : Act).put o.dst u) := Fra.put (by rw [hT]; exact hF.tmps.mono j1) j4 hnt hp j3
          exact plainGo_sound hG hP hplug hbase hnt l lo hl h (hr.mono j1) (j2.of_st e1 e2 e3 e4 e5) hF2 fun J'' a' w'' k1 k2 k3 => hQ J'' a' w'' (j1.trans k1) k2 k3
    | false =>
      rw [hwa] at h hw
      rw [if_neg (by rw [hw]; simp)]
      simp only [cond_false] at h
      cases hp : put E.nt s o.dst undef with
      | none => rw [hp] at h; cases h
      | some s2 =>
        rw [hp] at h
        simp only at h
        obtain ⟨e1, e2, e3, e4, e5, e6, _⟩ := put_spec hp
        have hF2 : Fra J E s2 (a.put o.dst undef) := Fra.put (ds := a.defers) hF.tmps hF.dfs hnt hp (Den.und J)
        exact ⟨fun _ _ => trivial, plainGo_sound hG hP hplug hbase hnt l lo hl h hr (hM.of_st e1 e2 e3 e4 e5) hF2 hQ⟩
end Go.AM
namespace Go.AM
open Go Go.Proofs.YtdflbipaicpdcaaGreatDoor
variable {P : Program}

section
variable {F : Fence} {n : Nat} {Q : Exit → Act → World → Prop} {a : Act} {w : World}

/-- from behind a loop's beginning -/
def LoopWp (F : Fence) (n : Nat) (P : Program) (c : Code) (Q : Exit → Act → World → Prop) (a : Act) (w : World) : Prop :=
  ∀ (b : Frame) (k : List Item) (cs : List Frame), b.roundOf = F.round → F.fn b.fn → F.room (cs.length + 1 + n) →
    ∃ e a' w', Q e a' w' ∧ ArrivesIn (Machine.fenced P F) P (lone (b.atR a (.code c :: .inLoop c :: k)) cs w) b k cs e a' w'

theorem LoopWp.round {c : Code} (h : c.wpIn F n P (Exit.then (LoopWp F n P c Q) Q) a w) : LoopWp F n P c Q a w := by
  intro b k cs hro hb hr
  obtain ⟨e, a₁, w₁, hq, harr⟩ := h b (.inLoop c :: k) cs hro hb hr
  cases e with
  | normal =>
    obtain ⟨e₂, a₂, w₂, hq₂, harr₂⟩ := hq b k cs hro hb hr
    exact ⟨e₂, a₂, w₂, hq₂, .of_steps (StepsIn.trans harr (.one (fenced_calm hb hr rfl) stepR_inLoop)) harr₂⟩
  | exit id => exact ⟨_, a₁, w₁, hq, .pass (x := .inLoop c) rfl (fun _ _ => .inl (by simp)) harr⟩
  | goto l => exact ⟨_, a₁, w₁, hq, .pass (x := .inLoop c) rfl (fun _ _ => .inl (by simp)) harr⟩
  | ret => exact ⟨_, a₁, w₁, hq, .pass (x := .inLoop c) rfl (fun _ _ => .inl (by simp)) harr⟩
  | panic ch => exact ⟨_, a₁, w₁, hq, .pass (x := .inLoop c) rfl (fun _ _ => .inl (by simp)) harr⟩
  | outgrown => exact ⟨_, a₁, w₁, hq, .pass (x := .inLoop c) rfl (fun _ _ => .inl (by simp)) harr⟩

theorem LoopWp.loop {c : Code} (h : LoopWp F n P c Q a w) : (Code.loop c).wpIn F n P Q a w := by
  intro b k cs hro hb hr
  obtain ⟨e, a₁, w₁, hq, harr⟩ := h b k cs hro hb hr
  exact ⟨e, a₁, w₁, hq, .of_steps (.one (fenced_calm hb hr rfl) stepR_loop) harr⟩

theorem stepR_scope {b : Frame} {k : List Item} {cs : List Frame} {c : Code} : Go.step P (lone (b.atR a (.code (.scope c) :: k)) cs w) = .next (lone (b.atR a (.code c :: .inScope c :: k)) cs w) :=
  step_lone_go (by simp [stepG, stepG.exec, Frame.atR])
theorem stepR_inScope {b : Frame} {k : List Item} {cs : List Frame} {c : Code} : Go.step P (lone (b.atR a (.inScope c :: k)) cs w) = .next (lone (b.atR a k) cs w) :=
  step_lone_go (by simp [stepG, stepG.exec, Frame.atR])

/-- within a scope, the rest of its body before one -/
def ScopeWp (F : Fence) (n : Nat) (P : Program) (body cur : Code) (Q : Exit → Act → World → Prop) (a : Act) (w : World) : Prop :=
  ∀ (b : Frame) (k : List Item) (cs : List Frame), b.roundOf = F.round → F.fn b.fn → F.room (cs.length + 1 + n) →
    ∃ e a' w', Q e a' w' ∧ ArrivesIn (Machine.fenced P F) P (lone (b.atR a (.code cur :: .inScope body :: k)) cs w) b k cs e a' w'

def scopePost (F : Fence) (n : Nat) (P : Program) (body : Code) (Q : Exit → Act → World → Prop) : Exit → Act → World → Prop
  | .goto l, a, w => match findLabel body l with
    | some rest => ScopeWp F n P body rest Q a w
    | none => Q (.goto l) a w
  | e, a, w => Q e a w

theorem ScopeWp.go {body cur : Code} (h : cur.wpIn F n P (scopePost F n P body Q) a w) : ScopeWp F n P body cur Q a w := by
  intro b k cs hro hb hr
  obtain ⟨e, a₁, w₁, hq, harr⟩ := h b (.inScope body :: k) cs hro hb hr
  cases e with
  | normal => exact ⟨.normal, a₁, w₁, hq, StepsIn.trans harr (.one (fenced_calm hb hr rfl) stepR_inScope)⟩
  | exit id =>
    have hx : exitTo id (.inScope body :: k) = exitTo id k := by simp [exitTo]
    exact ⟨.exit id, a₁, w₁, hq, fun k' hk => harr.1 k' (by rw [hx]; exact hk), fun hr' hk => harr.2 hr' (by rw [hx]; exact hk)⟩
  | goto l =>
    simp only [scopePost] at hq
    cases hl : findLabel body l with
    | some rest =>
      rw [hl] at hq
      have hg : gotoIn l (.inScope body :: k) = some (.code rest :: .inScope body :: k) := by simp [gotoIn, hl]
      obtain ⟨e₂, a₂, w₂, hq₂, harr₂⟩ := hq b k cs hro hb hr
      exact ⟨e₂, a₂, w₂, hq₂, .of_steps (harr.1 _ hg) harr₂⟩
    | none =>
      rw [hl] at hq
      have hg : gotoIn l (.inScope body :: k) = gotoIn l k := by simp [gotoIn, hl]
      exact ⟨.goto l, a₁, w₁, hq, fun k' hk => harr.1 k' (by rw [hg]; exact hk), fun hr' hk => harr.2 hr' (by rw [hg]; exact hk)⟩
  | ret => exact ⟨_, a₁, w₁, hq, harr⟩
  | panic ch => exact ⟨_, a₁, w₁, hq, harr⟩
  | outgrown => exact ⟨_, a₁, w₁, hq, harr⟩

theorem ScopeWp.scope {body : Code} (h : ScopeWp F n P body body Q a w) : (Code.scope body).wpIn F n P Q a w := by
  intro b k cs hro hb hr
  obtain ⟨e, a₁, w₁, hq, harr⟩ := h b k cs hro hb hr
  exact ⟨e, a₁, w₁, hq, .of_steps (.one (fenced_calm hb hr rfl) stepR_scope) harr⟩
end

/-- what a piece of code leaves -/
def Post (g : Gh) (J : Io) (E : En) (ex : Exit) (s' : St) (e : Exit) (a' : Act) (w' : World) : Prop := e = ex ∧ ∃ J', J.Le J' ∧ Mem g J' All s' w' ∧ Fra J' E s' a'

theorem loopGo_sound {rec : Rec} (hG : Goes P rec) {g : Gh} {E : En} {r : Option Nat} (hbase : g.base = E.base) (hnt : E.nt ≤ 60000) {body : Code} {ex : Exit} {s' : St} : ∀ (n : Nat) {J : Io} {s : St} {a : Act} {w : World}, loopGo rec E body n s = some (ex, s') → RdDen J E.rd r → Mem g J All s w → Fra J E s a →
    LoopWp (Fr r) 0 P body (Post g J E ex s') a w
  | 0, J, s, a, w, h, _, _, _ => by simp [loopGo] at h
  | n + 1, J, s, a, w, h, hr, hM, hF => by
    simp only [loopGo] at h
    cases he : rec body E s with
    | none => rw [he] at h; cases h
    | some x =>
      obtain ⟨e1, s1⟩ := x
      rw [he] at h
      refine LoopWp.round (wpIn_mono (hG body E s e1 s1 he g J a w r hbase hnt hM hF hr) fun e a' w' ⟨hee, J', j1, j2, j3⟩ => ?_)
      subst hee
      have other : e ≠ .normal → Exit.then (LoopWp (Fr r) 0 P body (Post g J E ex s')) (Post g J E ex s') e a' w' := fun hne => by
        have hh : (e, s1) = (ex, s') := by
          cases e <;> first | exact absurd rfl hne | exact Option.some.inj h
        simp only [Prod.mk.injEq] at hh
        obtain ⟨rfl, rfl⟩ := hh
        cases e <;> first | exact absurd rfl hne | exact ⟨rfl, J', j1, j2, j3⟩
      cases e with
      | normal =>
        simp only at h
        have := loopGo_sound hG hbase hnt n h (hr.mono j1) j2 j3
        intro b k cs hro hb hrm
        obtain ⟨e2, a2, w2, ⟨h1, J2, h2, h3, h4⟩, harr⟩ := this b k cs hro hb hrm
        exact ⟨e2, a2, w2, ⟨h1, J2, j1.trans h2, h3, h4⟩, harr⟩
      | _ => exact other (by simp)

theorem scopeGo_sound {rec : Rec} (hG : Goes P rec) {g : Gh} {E : En} {r : Option Nat} (hbase : g.base = E.base) (hnt : E.nt ≤ 60000) {body : Code} {ex : Exit} {s' : St} : ∀ (n : Nat) (cur : Code) {J : Io} {s : St} {a : Act} {w : World}, scopeGo rec E body n cur s = some (ex, s') → RdDen J E.rd r → Mem g J All s w → Fra J E s a →
    ScopeWp (Fr r) 0 P body cur (Post g J E ex s') a w
  | 0, cur, J, s, a, w, h, _, _, _ => by simp [scopeGo] at h
  | n + 1, cur, J, s, a, w, h, hr, hM, hF => by
    simp only [scopeGo] at h
    cases he : rec cur E s with
    | none => rw [he] at h; cases h
    | some x =>
      obtain ⟨e1, s1⟩ := x
      rw [he] at h
      refine ScopeWp.go (wpIn_mono (hG cur E s e1 s1 he g J a w r hbase hnt hM hF hr) fun e a' w' ⟨hee, J', j1, j2, j3⟩ => ?_)
      subst hee
      cases e with
      | goto l =>
        simp only at h
        simp only [scopePost]
        cases hl : findLabel body l with
        | none =>
          rw [hl] at h
          simp only [Option.some.injEq, Prod.mk.injEq] at h
          obtain ⟨rfl, rfl⟩ := h
          exact ⟨rfl, J', j1, j2, j3⟩
        | some rest =>
          rw [hl] at h
          simp only at h
          have := scopeGo_sound hG hbase hnt n rest h (hr.mono j1) j2 j3
          intro b k cs hro hb hrm
          obtain ⟨e2, a2, w2, ⟨h1, J2, h2, h3, h4⟩, harr⟩ := this b k cs hro hb hrm
          exact ⟨e2, a2, w2, ⟨h1, J2, j1.trans h2, h3, h4⟩, harr⟩
      | _ =>
        simp only [Option.some.injEq, Prod.mk.injEq] at h
        obtain ⟨rfl, rfl⟩ := h
        exact ⟨rfl, J', j1, j2, j3⟩

/-! ### Loops over functions -/
theorem rangeIn_sound {g : Gh} {J : Io} {E : En} {s s1 : St} {a : Act} {w : World} {r : Option Nat} {d : Nat} (h : rangeIn E s = some (d, s1)) (hM : Mem g J All s w) (hF : Fra J E s a) (hr : RdDen J E.rd r) (fn : FuncId) (ps : Array Tmp) (asg body : Code) :
    ∃ (J' : Io) (w1 : World) (q : Pl) (mark : List Deferred), J.Le J' ∧ Mem g J' All s1 w1 ∧ Fra J' E s1 { a with defers := mark ++ a.defers } ∧ J'.blk d = some q ∧ s1.T = s.T ∧
      (Instr.enterLoop fn a.tmps ps asg body r).run P w = .ok (w1.heap.size, mark) (w1.alloc (.loop { state := .ready, pending := none, fn := fn, tmps := a.tmps, params := ps, assign := asg, body := body, defers := q.blk })) := by
  unfold rangeIn at h
  generalize hrd : E.rd = x at h hr
  cases hr with
  | none =>
    simp only at h
    cases hn : AM.new s (.defd false) with
    | none => rw [hn] at h; cases h
    | some y =>
      obtain ⟨b, s2⟩ := y
      rw [hn] at h
      simp only at h
      obtain ⟨k1, k2, k3⟩ := hM.alloc (w' := w.alloc (.deferred (some []))) (o' := .deferred (some [])) (p := ⟨w.heap.size, 0, 0⟩) hn rfl rfl rfl
      have e8 := new_spec hn
      obtain ⟨T, H, nx, W, D, nd, df⟩ := s2
      simp only [Option.some.injEq, Prod.mk.injEq] at h
      obtain ⟨rfl, rfl⟩ := h
      refine ⟨_, w.alloc (.deferred (some [])), ⟨w.heap.size, 0, 0⟩, [{ target := .collected w.heap.size, args := #[] }], k1, k2.of_st rfl rfl rfl rfl rfl, ⟨?_, ?_⟩, k3, e8.2.1, ?_⟩
      · have := e8.2.1
        simp only at this
        simp only [this]
        exact hF.tmps.mono k1
      · have := e8.2.2.2.2.2.2.1
        simp only at this
        simp only [this]
        exact .cons _ _ _ _ ⟨_, k3, rfl⟩ (hF.dfs.mono k1)
      · have := run_enterLoop_outer (P := P) (w := w) fn a.tmps ps asg body
        simpa using this
  | some l p hp =>
    simp only at h
    split at h
    case h_2 => cases h
    rename_i st pd f0 nt0 T0 ps0 a0 b0 d0 hH
    simp only [Option.some.injEq, Prod.mk.injEq] at h
    obtain ⟨rfl, rfl⟩ := h
    obtain ⟨r0, k1, k2, k3, k4, k5, k6, k7, q, k8, k9⟩ := hM.loop trivial hH hp
    refine ⟨J, w, q, [], .refl _, hM, ⟨hF.tmps, by simpa using hF.dfs⟩, k8, rfl, ?_⟩
    have := run_enterLoop_inner (P := P) (w := w) k1 fn a.tmps ps asg body
    rw [k9] at this
    exact this

theorem rangeOut_sound {rec : Rec} (hG : Goes P rec) {g : Gh} {J : Io} {E : En} {r : Option Nat} (hbase : g.base = E.base) (hnt : E.nt ≤ 60000) {l : Nat} {s s' : St} {a : Act} {w : World} {ex : Exit} (h : rangeOut rec E l s = some (ex, s')) (hM : Mem g J All s w) (hF : Fra J E s a) (hr : RdDen J E.rd r) {p : Pl} (hp : J.blk l = some p) :
    ∃ jump w', (Instr.endLoop p.blk).run P w = .ok jump w' ∧ (match jump with
      | none => Post g J E ex s' .normal a w'
      | some c => c.wpIn (Fr r) 0 P (Post g J E ex s') a w') := by
  unfold rangeOut at h
  split at h
  case h_2 => cases h
  rename_i st pd fn nt T ps a0 b0 d hH
  obtain ⟨r0, k1, k2, k3, k4, k5, k6, k7, k8⟩ := hM.loop trivial hH hp
  have eset := setO_spec (base := g.base) (s := s) (b := l) (o := some (.loop .exhausted pd fn nt T ps a0 b0 d)) (by have := hM.dom _ _ hp; have := hM.nxs; omega)
  have hM2 := hM.setLoop trivial hH hp k1 k4 k5 k6 k7 k8 .exhausted pd
  have hF2 : Fra J E (setO g.base s l (some (.loop .exhausted pd fn nt T ps a0 b0 d))) a := ⟨by rw [eset.1]; exact hF.tmps, by rw [eset.2.2.2.2.2.1]; exact hF.dfs⟩
  have hst : st ≠ .busy := fun e => by subst e; cases h
  have hrun := run_endLoop (P := P) k1 (by rw [k2]; exact hst)
  have e2 : ({ r0 with state := .exhausted } : Loop) = { r0 with state := .exhausted, pending := pd } := by rw [← k3]
  rw [e2, k3] at hrun
  refine ⟨pd, _, hrun, ?_⟩
  rw [← hbase] at h
  cases pd with
  | none =>
    have h' : some (Exit.normal, setO g.base s l (some (.loop .exhausted none fn nt T ps a0 b0 d))) = some (ex, s') := by
      cases st <;> first | exact absurd rfl hst | exact h
    simp only [Option.some.injEq, Prod.mk.injEq] at h'
    obtain ⟨rfl, rfl⟩ := h'
    exact ⟨rfl, J, .refl _, hM2, hF2⟩
  | some c =>
    have h' : rec c E (setO g.base s l (some (.loop .exhausted (some c) fn nt T ps a0 b0 d))) = some (ex, s') := by
      cases st <;> first | exact absurd rfl hst | exact h
    exact hG c E _ ex s' h' g J a _ r hbase hnt hM2 hF2 hr

theorem callFn_enters {plug : Plug} {rec : Rec} (hG : Goes P rec) (hP : Enters P) (hplug : PlugOk P plug) {g : Gh} {J : Io} {s s' : St} {w : World} {f : FuncId} {args args' : List Value} {v : Value} (hb : hasBody P f = true)
    (h : callFn P plug rec g.base f args s = some (v, s')) (hM : Mem g J All s w) (hd : DenL J args args') : (∀ w, (callFunc f args'.toArray).run P w = .ok (.enter f args'.toArray) w) ∧ CallsIn Fence.wide 0 P f args'.toArray w (CallPost g J s' v) ∧ s'.T = s.T ∧ s'.df = s.df := by
  obtain ⟨h1, h2, h3⟩ := callFn_sound hG hP hplug h hM hd
  rcases h1 with ⟨k1, k2⟩ | ⟨k1, _, _⟩
  · exact ⟨k1, k2, h2, h3⟩
  · unfold hasBody at hb
    cases hf : P.funcs[f]? with
    | none => rw [hf] at hb; cases hb
    | some fn =>
      rw [hf] at hb
      simp only at hb
      have := hP f fn hf (by intro e; rw [e] at hb; cases hb) args'.toArray w
      rw [this] at k1
      cases k1

theorem rangeA_sound {plug : Plug} {rec : Rec} (hG : Goes P rec) (hP : Enters P) (hplug : PlugOk P plug) {g : Gh} {J : Io} {E : En} {r : Option Nat} (hbase : g.base = E.base) (hnt : E.nt ≤ 60000) {gv : Operand} {ps : Array Tmp} {asg body : Code} {s s' : St} {a : Act} {w : World} {ex : Exit}
    (hok : okx gv = true) (h : rangeA P plug rec gv ps asg body E s = some (ex, s')) (hM : Mem g J All s w) (hF : Fra J E s a) (hr : RdDen J E.rd r) : (Code.rangeFunc gv ps asg body).wpIn (Fr r) 0 P (Post g J E ex s') a w := by
  unfold rangeA at h
  cases hri : rangeIn E s with
  | none => rw [hri] at h; cases h
  | some x =>
    obtain ⟨d, s1⟩ := x
    rw [hri] at h
    simp only at h
    split at h
    · cases h
    · rename_i l s2 hn
      split at h
      · cases h
      · rename_i v0 s3 hc
        refine wpIn_rangeFunc fun fn _ => ?_
        obtain ⟨J1, w1, q, mark, j1, j2, j3, j4, j5, j6⟩ := rangeIn_sound (P := P) hri hM hF hr fn ps asg body
        have e8 := new_spec hn
        have hfree : ∀ q', J1.blk s1.nx = some q' → False := fun q' hq' => absurd (j2.dom _ _ hq') (Nat.lt_irrefl _)
        obtain ⟨k1, k2, k3⟩ := j2.alloc (w' := w1.alloc (.loop { state := .ready, pending := none, fn := fn, tmps := a.tmps, params := ps, assign := asg, body := body, defers := q.blk })) (o' := .loop { state := .ready, pending := none, fn := fn, tmps := a.tmps, params := ps, assign := asg, body := body, defers := q.blk }) (p := ⟨w1.heap.size, 0, 0⟩) hn rfl rfl
          ⟨a.tmps, q, fn, by simp, by
            have e := e8.1
            subst e
            exact (Io.add_le _ hfree).blk _ _ j4, by
            have e := e8.1
            subst e
            exact j3.tmps.mono (Io.add_le _ hfree)⟩
        have hle := j1.trans k1
        unfold rangeCall at hc
        split at hc
        case h_2 => cases hc
        rename_i f first cap ef
        cases hbf : hasBody P f with
        | false => rw [hbf] at hc; simp at hc
        | true =>
          rw [hbf] at hc
          simp only [cond_true] at hc
          have hgv := Den.ev hF hM hok
          rw [ef] at hgv
          generalize hu : a.eval gv = u at hgv
          cases hgv with
          | func _ a1 a2 b1 b2 ha hb2 =>
            rw [← hbase] at hc
            have hdargs : DenL (J1.add l ⟨w1.heap.size, 0, 0⟩) (first.toList ++ ([Value.func (.yield l) #[] #[]] ++ cap.toList)) (a2.toList ++ ([Value.func (.yield w1.heap.size) #[] #[]] ++ b2.toList)) :=
              (ha.mono hle).append ((DenL.single (.yield l ⟨w1.heap.size, 0, 0⟩ k3)).append (hb2.mono hle))
            obtain ⟨m1, m2, m3, m4⟩ := callFn_enters hG hP hplug hbf hc k2 hdargs
            have eA : (a2.toList ++ ([Value.func (.yield w1.heap.size) #[] #[]] ++ b2.toList)).toArray = (a2 ++ #[Value.func (.yield w1.heap.size) #[] #[]]) ++ b2 := by apply Array.ext'; simp
            rw [eA] at m1 m2
            refine ⟨w1.heap.size, mark, (w1.alloc (.loop { state := .ready, pending := none, fn := fn, tmps := a.tmps, params := ps, assign := asg, body := body, defers := q.blk })), { target := .fn (.func f) b2, args := a2 ++ #[Value.func (.yield w1.heap.size) #[] #[]] }, (w1.alloc (.loop { state := .ready, pending := none, fn := fn, tmps := a.tmps, params := ps, assign := asg, body := body, defers := q.blk })), f, (a2 ++ #[Value.func (.yield w1.heap.size) #[] #[]]) ++ b2, (w1.alloc (.loop { state := .ready, pending := none, fn := fn, tmps := a.tmps, params := ps, assign := asg, body := body, defers := q.blk })), j6, ?_, fun _ _ => trivial, m1 _, fun hh => by simp [Fr, Fence.wide] at hh, ?_⟩
            · simp only [resolve, Go.rangeCall, hu]
              simp [Deferred.ofValue, Act.eval]
            · refine callsIn_Fr (CallsIn.mono m2 fun e w' ⟨u', J2, he, l1, l2, l3⟩ => ?_)
              subst he
              have hF3 : Fra J2 E s3 { a with defers := mark ++ a.defers } := by
                refine ⟨?_, ?_⟩
                · have := e8.2.1
                  rw [m3, this]
                  exact (j3.tmps.mono k1).mono l1
                · have := e8.2.2.2.2.2.2.1
                  rw [m4, this]
                  exact (j3.dfs.mono k1).mono l1
              obtain ⟨jump, w4, n1, n2⟩ := rangeOut_sound (P := P) hG hbase hnt h l2 hF3 ((hr.mono hle).mono l1) (l1.blk _ _ k3)
              refine ⟨jump, w4, n1, ?_⟩
              have hall : J.Le J2 := hle.trans l1
              cases jump with
              | none =>
                obtain ⟨hex, J3, p1, p2, p3⟩ := n2
                exact ⟨hex, J3, hall.trans p1, p2, p3⟩
              | some c =>
                exact wpIn_mono n2 fun e a' w' ⟨hex, J3, p1, p2, p3⟩ => ⟨hex, J3, hall.trans p1, p2, p3⟩
end Go.AM
