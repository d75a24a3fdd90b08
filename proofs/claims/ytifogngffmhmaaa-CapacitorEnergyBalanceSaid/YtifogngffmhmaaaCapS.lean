/- The capacitor, over numbers alone: what each operation does to the charge. -/
import Derived.Test.YtifogngffmhmaaaQSdx4
import Derived.Test.YtifogngffmhmaaaQSdx5
namespace Go.Proofs.Ytifogngffmhmaaa.QSd
open Go.RowKit Go.Proofs.YtifogngffmhmaaaW.PrintWords Go.Proofs.YtifogngffmhmaaaW.PrintLast Go.Proofs.YtifogngffmhmaaaW.PrintMore
set_option linter.unusedVariables false
set_option linter.unusedSimpArgs false

theorem cap_wrap {x : Int} (h0 : -9223372036854775808 ≤ x) (h1 : x ≤ 9223372036854775807) : wrap64 x = x := by
  unfold wrap64
  omega
theorem lit_u16 {n : Int} (h : (Lit.int .u16 n).wf = true) : 0 ≤ n ∧ n ≤ 65535 := by
  simp only [Lit.wf, IntKind.min, IntKind.max, IntKind.signed, IntKind.bits, Bool.and_eq_true, decide_eq_true_eq] at h
  simpa using h
theorem lit_i64 {n : Int} (h : (Lit.int .i64 n).wf = true) : -9223372036854775808 ≤ n ∧ n ≤ 9223372036854775807 := by
  simp only [Lit.wf, IntKind.min, IntKind.max, IntKind.signed, IntKind.bits, Bool.and_eq_true, decide_eq_true_eq] at h
  simpa using h
theorem cap_awake1 : tricklelaw08_awake.f 1 = some true := by decide +kernel
theorem cap_awake : ∀ k, tricklelaw08_awake.f (k + 1) = some true := by
  intro k
  induction k with
  | zero => exact cap_awake1
  | succ n ih => exact (tricklelaw08_awake.mono (n + 1)) _ ih
theorem charge_f (a b c d : Int) (e : Bool) : capacitor_Capacitor_Charge.f a b c d e = some (d, a, b, c, d, e) := rfl
theorem running_f (a b c d : Int) (e : Bool) : capacitor_Capacitor_Running.f a b c d e = some (e, a, b, c, d, e) := rfl

/-- A configuration that the capacitor takes. -/
def CapOk (c on off : Int) : Prop := 0 ≤ off ∧ off < on ∧ on ≤ c ∧ c ≤ 1073741824
/-- What holds of the charge and of 'running' between operations. -/
def CapInv (c on off ch : Int) (run : Bool) : Prop := 0 ≤ ch ∧ ch ≤ c ∧ (run = true → off < ch) ∧ (run = false → ch < on)

theorem valid_ok {c on off : Int} (h : trickleref08_Valid.f c on off = some true) : CapOk c on off := by
  unfold trickleref08_Valid.f at h
  unfold CapOk
  by_cases h1 : off ≥ 0
  · by_cases h2 : off < on
    · by_cases h3 : on ≤ c
      · rw [if_pos h1, if_pos h2, if_pos h3] at h
        exact ⟨h1, h2, h3, by simpa using h⟩
      · rw [if_pos h1, if_pos h2, if_neg h3] at h; simp at h
    · rw [if_pos h1, if_neg h2] at h; simp at h
  · rw [if_neg h1] at h; simp at h
theorem valid_some (c on off : Int) : (trickleref08_Valid.f c on off = some true ∧ CapOk c on off) ∨ (trickleref08_Valid.f c on off = some false ∧ ¬ CapOk c on off) := by
  have key : ∀ o, trickleref08_Valid.f c on off = o → (o = some true ∧ CapOk c on off) ∨ (o = some false ∧ ¬ CapOk c on off) := by
    intro o ho
    unfold trickleref08_Valid.f at ho
    unfold CapOk
    by_cases h1 : off ≥ 0
    · by_cases h2 : off < on
      · by_cases h3 : on ≤ c
        · by_cases h4 : c ≤ 1073741824
          · rw [if_pos h1, if_pos h2, if_pos h3, decide_eq_true h4] at ho
            exact .inl ⟨ho.symm, h1, h2, h3, h4⟩
          · rw [if_pos h1, if_pos h2, if_pos h3, decide_eq_false h4] at ho
            exact .inr ⟨ho.symm, by omega⟩
        · rw [if_pos h1, if_pos h2, if_neg h3] at ho; exact .inr ⟨ho.symm, by omega⟩
      · rw [if_pos h1, if_neg h2] at ho; exact .inr ⟨ho.symm, by omega⟩
    · rw [if_neg h1] at ho; exact .inr ⟨ho.symm, by omega⟩
  exact key _ rfl
theorem new_ok {c on off : Int} (h : CapOk c on off) : capacitor_New.f c on off = some (c, on, off, 0, false, 0) := by
  unfold capacitor_New.f
  exact if_pos h
theorem config_f (c on off : Int) : tricklelaw08_config.f c on off = some (c, on, off) := rfl

theorem draw_step {c on off ch n : Int} {run : Bool} (hV : CapOk c on off) (hI : CapInv c on off ch run) (hn : n ≤ 9223372036854775807) :
    ∃ r ch' run', capacitor_Capacitor_Draw.f c on off ch run n = some (r, c, on, off, ch', run') ∧ CapInv c on off ch' run' ∧ ch' ≤ ch ∧
      (run = true → 0 ≤ n → ch' = max 0 (ch - n) ∧ run' = decide (max 0 (ch - n) > off) ∧ r = run') ∧ ((run = false ∨ n < 0) → ch' = ch ∧ run' = run ∧ r = false) := by
  obtain ⟨i1, i2, i3, i4⟩ := hI
  obtain ⟨v1, v2, v3, v4⟩ := hV
  unfold capacitor_Capacitor_Draw.f
  cases run with
  | false => exact ⟨false, ch, false, by rw [if_neg (by decide)], ⟨i1, i2, i3, i4⟩, Int.le_refl _, fun h => absurd h (by decide), fun _ => ⟨rfl, rfl, rfl⟩⟩
  | true =>
    rw [if_pos rfl]
    by_cases h0 : n < 0
    · rw [if_pos h0]
      exact ⟨false, ch, true, rfl, ⟨i1, i2, i3, i4⟩, Int.le_refl _, fun _ h => by omega, fun _ => ⟨rfl, rfl, rfl⟩⟩
    · rw [if_neg h0, cap_wrap (x := ch - n) (by omega) (by omega)]
      have hm : mx 0 (ch - n) = max 0 (ch - n) := by unfold mx; rw [Int.max_def]; split <;> split <;> omega
      rw [hm]
      have m0 : 0 ≤ max 0 (ch - n) := Int.le_max_left _ _
      have m1 : max 0 (ch - n) ≤ ch := Int.max_le.2 ⟨i1, by omega⟩
      refine ⟨_, max 0 (ch - n), _, rfl, ⟨m0, by omega, fun h => of_decide_eq_true h, fun h => ?_⟩, m1, fun _ _ => ⟨rfl, rfl, rfl⟩, fun h => ?_⟩
      · have := of_decide_eq_false h
        omega
      · rcases h with h | h
        · exact absurd h (by decide)
        · omega

theorem harvest_step {c on off ch p t : Int} {run : Bool} (hV : CapOk c on off) (hI : CapInv c on off ch run) :
    ∃ e ch' run', capacitor_Capacitor_Harvest.f c on off ch run p t = some (e, c, on, off, ch', run') ∧ CapInv c on off ch' run' ∧ ch ≤ ch' ∧
      (0 ≤ p → p ≤ 1048576 → 0 ≤ t → t ≤ 1099511627776 → e = 0 ∧ ch' = min c (ch + p * t) ∧ run' = (run || decide (min c (ch + p * t) ≥ on))) ∧
      (¬ (0 ≤ p ∧ p ≤ 1048576 ∧ 0 ≤ t ∧ t ≤ 1099511627776) → e = 1 ∧ ch' = ch ∧ run' = run) := by
  obtain ⟨i1, i2, i3, i4⟩ := hI
  obtain ⟨v1, v2, v3, v4⟩ := hV
  have bad : ∀ h : ¬ (0 ≤ p ∧ p ≤ 1048576 ∧ 0 ≤ t ∧ t ≤ 1099511627776), ∃ e ch' run', some (1, c, on, off, ch, run) = some (e, c, on, off, ch', run') ∧ CapInv c on off ch' run' ∧ ch ≤ ch' ∧
      (0 ≤ p → p ≤ 1048576 → 0 ≤ t → t ≤ 1099511627776 → e = (0 : Int) ∧ ch' = min c (ch + p * t) ∧ run' = (run || decide (min c (ch + p * t) ≥ on))) ∧
      (¬ (0 ≤ p ∧ p ≤ 1048576 ∧ 0 ≤ t ∧ t ≤ 1099511627776) → e = 1 ∧ ch' = ch ∧ run' = run) := fun h =>
    ⟨1, ch, run, rfl, ⟨i1, i2, i3, i4⟩, Int.le_refl _, fun a b d f => absurd ⟨a, b, d, f⟩ h, fun _ => ⟨rfl, rfl, rfl⟩⟩
  unfold capacitor_Capacitor_Harvest.f
  by_cases h0 : p < 0
  · rw [if_pos h0]; exact bad (by omega)
  rw [if_neg h0]
  by_cases h1 : p > 1048576
  · rw [if_pos h1]; exact bad (by omega)
  rw [if_neg h1]
  by_cases h2 : t < 0
  · rw [if_pos h2]; exact bad (by omega)
  rw [if_neg h2]
  by_cases h3 : t > 1099511627776
  · rw [if_pos h3]; exact bad (by omega)
  rw [if_neg h3]
  have q0 : 0 ≤ p * t := Int.mul_nonneg (by omega) (by omega)
  have q1 : p * t ≤ 1048576 * 1099511627776 := Int.mul_le_mul (by omega) (by omega) (by omega) (by omega)
  rw [cap_wrap (x := p * t) (by omega) (by omega), cap_wrap (x := ch + p * t) (by omega) (by omega)]
  have hm : mn c (ch + p * t) = min c (ch + p * t) := by unfold mn; rw [Int.min_def]; split <;> split <;> omega
  rw [hm]
  have m0 : ch ≤ min c (ch + p * t) := Int.le_min.2 ⟨i2, by omega⟩
  have m1 : min c (ch + p * t) ≤ c := Int.min_le_left _ _
  generalize min c (ch + p * t) = y at *
  refine ⟨0, y, _, rfl, ⟨by omega, m1, fun h => ?_, fun h => ?_⟩, m0, fun _ _ _ _ => ⟨rfl, rfl, rfl⟩, fun h => by omega⟩
  · rw [Bool.or_eq_true, decide_eq_true_iff] at h
    rcases h with h | h
    · have := i3 h; omega
    · omega
  · rw [Bool.or_eq_false_iff, decide_eq_false_iff_not] at h
    omega

theorem draw_ref {c on off ch n : Int} {run : Bool} (hV : CapOk c on off) (hI : CapInv c on off ch run) (hn : n ≤ 9223372036854775807) :
    ∃ r ch' run', capacitor_Capacitor_Draw.f c on off ch run n = some (r, c, on, off, ch', run') ∧ trickleref08_Draw.f c on off ch run n = some (c, on, off, ch', run', r) ∧ CapInv c on off ch' run' := by
  obtain ⟨r, ch', run', e, hI', _, h1, h2⟩ := draw_step hV hI hn
  refine ⟨r, ch', run', e, ?_, hI'⟩
  obtain ⟨i1, i2, i3, i4⟩ := hI
  obtain ⟨v1, v2, v3, v4⟩ := hV
  unfold trickleref08_Draw.f
  cases run with
  | false =>
    obtain ⟨rfl, rfl, rfl⟩ := h2 (.inl rfl)
    rw [if_neg (by decide)]
  | true =>
    rw [if_pos rfl]
    by_cases h0 : n < 0
    · obtain ⟨rfl, rfl, rfl⟩ := h2 (.inr h0)
      rw [if_pos h0]
    · obtain ⟨e1, e2, e3⟩ := h1 rfl (by omega)
      rw [if_neg h0]
      by_cases h3 : n > ch
      · have hm : max 0 (ch - n) = 0 := Int.max_eq_left (by omega)
        rw [hm] at e1 e2
        rw [if_pos h3, e3, e2, e1]
      · have hm : max 0 (ch - n) = ch - n := Int.max_eq_right (by omega)
        rw [hm] at e1 e2
        rw [if_neg h3, e3, e2, e1, cap_wrap (x := ch - n) (by omega) (by omega)]

theorem harvest_ref {c on off ch p t : Int} {run : Bool} (hV : CapOk c on off) (hI : CapInv c on off ch run) :
    ∃ e ch' run', capacitor_Capacitor_Harvest.f c on off ch run p t = some (e, c, on, off, ch', run') ∧ trickleref08_Harvest.f c on off ch run p t = some (c, on, off, ch', run', e) ∧ CapInv c on off ch' run' := by
  obtain ⟨e, ch', run', e1, hI', _, h1, h2⟩ := harvest_step (p := p) (t := t) hV hI
  refine ⟨e, ch', run', e1, ?_, hI'⟩
  clear h1 h2 hI'
  unfold capacitor_Capacitor_Harvest.f at e1
  unfold trickleref08_Harvest.f
  by_cases h0 : p < 0
  · rw [if_pos h0] at e1
    rw [if_neg (by omega)]
    simp only [Option.some.injEq, Prod.mk.injEq] at e1
    obtain ⟨rfl, _, _, _, rfl, rfl⟩ := e1
    rfl
  rw [if_neg h0] at e1
  rw [if_pos (by omega)]
  by_cases h1 : p > 1048576
  · rw [if_pos h1] at e1
    rw [if_neg (by omega)]
    simp only [Option.some.injEq, Prod.mk.injEq] at e1
    obtain ⟨rfl, _, _, _, rfl, rfl⟩ := e1
    rfl
  rw [if_neg h1] at e1
  rw [if_pos (by omega)]
  by_cases h2 : t < 0
  · rw [if_pos h2] at e1
    rw [if_neg (by omega)]
    simp only [Option.some.injEq, Prod.mk.injEq] at e1
    obtain ⟨rfl, _, _, _, rfl, rfl⟩ := e1
    rfl
  rw [if_neg h2] at e1
  rw [if_pos (by omega)]
  by_cases h3 : t > 1099511627776
  · rw [if_pos h3] at e1
    rw [if_neg (by omega)]
    simp only [Option.some.injEq, Prod.mk.injEq] at e1
    obtain ⟨rfl, _, _, _, rfl, rfl⟩ := e1
    rfl
  rw [if_neg h3] at e1
  rw [if_pos (by omega)]
  simp only [Option.some.injEq, Prod.mk.injEq] at e1
  obtain ⟨rfl, _, _, _, rfl, rfl⟩ := e1
  rfl

end Go.Proofs.Ytifogngffmhmaaa.QSd
