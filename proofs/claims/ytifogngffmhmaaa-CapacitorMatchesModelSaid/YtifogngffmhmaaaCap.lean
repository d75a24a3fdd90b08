/- The capacitor, over numbers alone: what each operation does to the charge. -/
import Derived.Test.YtifogngffmhmaaaQAlx3
import Derived.Test.YtifogngffmhmaaaQAlx5
namespace Go.Proofs.Ytifogngffmhmaaa.QAl
open Go.RowKit Go.Proofs.YtifogngffmhmaaaW.PrintWords Go.Proofs.YtifogngffmhmaaaW.PrintLast Go.Proofs.YtifogngffmhmaaaW.PrintMore
set_option linter.unusedVariables false
set_option linter.unusedSimpArgs false

theorem cap_wrap {x : Int} (h0 : -9223372036854775808 ≤ x) (h1 : x ≤ 9223372036854775807) : wrap64 x = x := by
  unfold wrap64
  omega
theorem lit_u16 {n : Int} (h : (Lit.int .u16 n).wf = true) : 0 ≤ n ∧ n ≤ 65535 := by
  simp only [Lit.wf, IntKind.min, IntKind.max, IntKind.signed, IntKind.bits, Bool.and_eq_true, decide_eq_true_eq] at h
  simpa using h
theorem lit_i64 {n : Int} (h : (Lit.int .i64 n).wf = true) : -9223372036854775808 ≤ n ∧ n ≤ 9223372036854775807 := by
  simp only [Lit.wf, IntKind.min, IntKind.max, IntKind.signed, IntKind.bits, Bool.and_eq_true, decide_eq_true_eq] at h
  simpa using h
theorem cap_awake1 : tricklelaw08_awake.f 1 = some true := by decide +kernel
theorem cap_awake : ∀ k, tricklelaw08_awake.f (k + 1) = some true := by
  intro k
  induction k with
  | zero => exact cap_awake1
  | succ n ih => exact (tricklelaw08_awake.mono (n + 1)) _ ih
theorem charge_f (a b c d : Int) (e : Bool) : capacitor_Capacitor_Charge.f a b c d e = some (d, a, b, c, d, e) := rfl
theorem running_f (a b c d : Int) (e : Bool) : capacitor_Capacitor_Running.f a b c d e = some (e, a, b, c, d, e) := rfl

/-- A configuration that the capacitor takes. -/
def CapOk (c on off : Int) : Prop := 0 ≤ off ∧ off < on ∧ on ≤ c ∧ c ≤ 1073741824
/-- What holds of the charge and of 'running' between operations. -/
def CapInv (c on off ch : Int) (run : Bool) : Prop := 0 ≤ ch ∧ ch ≤ c ∧ (run = true → off < ch) ∧ (run = false → ch < on)

theorem valid_ok {c on off : Int} (h : trickleref08_Valid.f c on off = some true) : CapOk c on off := by
  unfold trickleref08_Valid.f at h
  unfold CapOk
  by_cases h1 : off ≥ 0
  · by_cases h2 : off < on
    · by_cases h3 : on ≤ c
      · rw [if_pos h1, if_pos h2, if_pos h3] at h
        exact ⟨h1, h2, h3, by simpa using h⟩
      · rw [if_pos h1, if_pos h2, if_neg h3] at h; simp at h
    · rw [if_pos h1, if_neg h2] at h; simp at h
  · rw [if_neg h1] at h; simp at h
theorem valid_some (c on off : Int) : (trickleref08_Valid.f c on off = some true ∧ CapOk c on off) ∨ (trickleref08_Valid.f c on off = some false ∧ ¬ CapOk c on off) := by
  have key : ∀ o, trickleref08_Valid.f c on off = o → (o = some true ∧ CapOk c on off) ∨ (o = some false ∧ ¬ CapOk c on off) := by
    intro o ho
    unfold trickleref08_Valid.f at ho
    unfold CapOk
    by_cases h1 : off ≥ 0
    · by_cases h2 : off < on
      · by_cases h3 : on ≤ c
        · by_cases h4 : c ≤ 1073741824
          · rw [if_pos h1, if_pos h2, if_pos h3, decide_eq_true h4] at ho
            exact .inl ⟨ho.symm, h1, h2, h3, h4⟩
          · rw [if_pos h1, if_pos h2, if_pos h3, decide_eq_false h4] at ho
            exact .inr ⟨ho.symm, by omega⟩
        · rw [if_pos h1, if_pos h2, if_neg h3] at ho; exact .inr ⟨ho.symm, by omega⟩
      · rw [if_pos h1, if_neg h2] at ho; exact .inr ⟨ho.symm, by omega⟩
    · rw [if_neg h1] at ho; exact .inr ⟨ho.symm, by omega⟩
  exact key _ rfl
theorem new_ok {c on off : Int} (h : CapOk c on off) : capacitor_New.f c on off = some (c, on, off, 0, false, 0) := by
  unfold capacitor_New.f
  exact if_pos h
theorem config_f (c on off : Int) : tricklelaw08_config.f c on off = some (c, on, off) := rfl

theorem draw_step {c on off ch n : Int} {run : Bool} (hV : CapOk c on off) (hI : CapInv c on off ch run) (hn : n ≤ 9223372036854775807) :
    ∃ r ch' run', capacitor_Capacitor_Draw.f c on off ch run n = some (r, c, on, off, ch', run') ∧ CapInv c on off ch' run' ∧ ch' ≤ ch ∧
      (run = true → 0 ≤ n → ch' = max 0 (ch - n) ∧ run' = decide (max 0 (ch - n) > off) ∧ r = run') ∧ ((run = false ∨ n < 0) → ch' = ch ∧ run' = run ∧ r = false) := by
  obtain ⟨i1, i2, i3, i4⟩ := hI
  obtain ⟨v1, v2, v3, v4⟩ := hV
  unfold capacitor_Capacitor_Draw.f
  cases run with
  | false => exact ⟨false, ch, false, by rw [if_neg (by decide)], ⟨i1, i2, i3, i4⟩, Int.le_refl _, fun h => absurd h (by decide), fun _ => ⟨rfl, rfl, rfl⟩⟩
  | true =>
    rw [if_pos rfl]
    by_cases h0 : n < 0
    · rw [if_pos h0]
      exact ⟨false, ch, true, rfl, ⟨i1, i2, i3, i4⟩, Int.le_refl _, fun _ h => by omega, fun _ => ⟨rfl, rfl, rfl⟩⟩
    · rw [if_neg h0, cap_wrap (x := ch - n) (by omega) (by omega)]
      have hm : mx 0 (ch - n) = max 0 (ch - n) := by unfold mx; rw [Int.max_def]; split <;> split <;> omega
      rw [hm]
      have m0 : 0 ≤ max 0 (ch - n) := Int.le_max_left _ _
      have m1 : max 0 (ch - n) ≤ ch := Int.max_le.2 ⟨i1, by omega⟩
      refine ⟨_, max 0 (ch - n), _, rfl, ⟨m0, by omega, fun h => of_decide_eq_true h, fun h => ?_⟩, m1, fun _ _ => ⟨rfl, rfl, rfl⟩, fun h => ?_⟩
      · have := of_decide_eq_false h
        omega
      · rcases h with h | h
        · exact absurd h (by decide)
        · omega

theorem harvest_step {c on off ch p t : Int} {run : Bool} (hV : CapOk c on off) (hI : CapInv c on off ch run) :
    ∃ e ch' run', capacitor_Capacitor_Harvest.f c on off ch run p t = some (e, c, on, off, ch', run') ∧ CapInv c on off ch' run' ∧ ch ≤ ch' ∧
      (0 ≤ p → p ≤ 1048576 → 0 ≤ t → t ≤ 1099511627776 → e = 0 ∧ ch' = min c (ch + p * t) ∧ run' = (run || decide (min c (ch + p * t) ≥ on))) ∧
      (¬ (0 ≤ p ∧ p ≤ 1048576 ∧ 0 ≤ t ∧ t ≤ 1099511627776) → e = 1 ∧ ch' = ch ∧ run' = run) := by
  obtain ⟨i1, i2, i3, i4⟩ := hI
  obtain ⟨v1, v2, v3, v4⟩ := hV
  have bad : ∀ h : ¬ (0 ≤ p ∧ p ≤ 1048576 ∧ 0 ≤ t ∧ t ≤ 1099511627776), ∃ e ch' run', some (1, c, on, off, ch, run) = some (e, c, on, off, ch', run') ∧ CapInv c on off ch' run' ∧ ch ≤ ch' ∧
      (0 ≤ p → p ≤ 1048576 → 0 ≤ t → t ≤ 1099511627776 → e = (0 : Int) ∧ ch' = min c (ch + p * t) ∧ run' = (run || decide (min c (ch + p * t) ≥ on))) ∧
      (¬ (0 ≤ p ∧ p ≤ 1048576 ∧ 0 ≤ t ∧ t ≤ 1099511627776) → e = 1 ∧ ch' = ch ∧ run' = run) := fun h =>
    ⟨1, ch, run, rfl, ⟨i1, i2, i3, i4⟩, Int.le_refl _, fun a b d f => absurd ⟨a, b, d, f⟩ h, fun _ => ⟨rfl, rfl, rfl⟩⟩
  unfold capacitor_Capacitor_Harvest.f
  by_cases h0 : p < 0
  · rw [if_pos h0]; exact bad (by omega)
  rw [if_neg h0]
  by_cases h1 : p > 1048576
  · rw [if_pos h1]; exact bad (by omega)
  rw [if_neg h1]
  by_cases h2 : t < 0
  · rw [if_pos h2]; exact bad (by omega)
  rw [if_neg h2]
  by_cases h3 : t > 1099511627776
  · rw [if_pos h3]; exact bad (by omega)
  rw [if_neg h3]
  have q0 : 0 ≤ p * t := Int.mul_nonneg (by omega) (by omega)
  have q1 : p * t ≤ 1048576 * 1099511627776 := Int.mul_le_mul (by omega) (by omega) (by omega) (by omega)
  rw [cap_wrap (x := p * t) (by omega) (by omega), cap_wrap (x := ch + p * t) (by omega) (by omega)]
  have hm : mn c (ch + p * t) = min c (ch + p * t) := by unfold mn; rw [Int.min_def]; split <;> split <;> omega
  rw [hm]
  have m0 : ch ≤ min c (ch + p * t) := Int.le_min.2 ⟨i2, by omega⟩
  have m1 : min c (ch + p * t) ≤ c := Int.min_le_left _ _
  generalize min c (ch + p * t) = y at *
  refine ⟨0, y, _, rfl, ⟨by omega, m1, fun h => ?_, fun h => ?_⟩, m0, fun _ _ _ _ => ⟨rfl, rfl, rfl⟩, fun h => by omega⟩
  · rw [Bool.or_eq_true, decide_eq_true_iff] at h
    rcases h with h | h
    · have := i3 h; omega
    · omega
  · rw [Bool.or_eq_false_iff, decide_eq_false_iff_not] at h
    omega

theorem wait_step {c on off ch p : Int} (hV : CapOk c on off) (hI : CapInv c on off ch false) (h1 : 1 ≤ p) (h2 : p ≤ 1048576) :
    ∃ t, capacitor_Capacitor_WaitTime.f c on off ch false p = some (t, true, c, on, off, ch, false) ∧ t = (on - ch + p - 1) / p ∧ 1 ≤ t ∧ t ≤ 1073741824 ∧ on - ch ≤ p * t ∧ p * (t - 1) < on - ch := by
  obtain ⟨i1, i2, i3, i4⟩ := hI
  obtain ⟨v1, v2, v3, v4⟩ := hV
  have hd := i4 rfl
  unfold capacitor_Capacitor_WaitTime.f
  rw [if_neg (by decide), if_neg (by omega), if_neg (by omega), if_neg (by omega), cap_wrap (x := on - ch) (by omega) (by omega), cap_wrap (x := on - ch + p) (by omega) (by omega), cap_wrap (x := on - ch + p - 1) (by omega) (by omega)]
  have e1 : Int.tdiv (on - ch + p - 1) p = (on - ch + p - 1) / p := Int.tdiv_eq_ediv_of_nonneg (by omega)
  have q0 : 0 ≤ (on - ch + p - 1) / p := Int.ediv_nonneg (by omega) (by omega)
  have hm := Int.mul_ediv_add_emod (on - ch + p - 1) p
  have hr0 := Int.emod_nonneg (on - ch + p - 1) (show p ≠ 0 by omega)
  have hr1 := Int.emod_lt_of_pos (on - ch + p - 1) (show 0 < p by omega)
  rw [e1]
  generalize (on - ch + p - 1) / p = q at *
  generalize (on - ch + p - 1) % p = r at *
  have b1 : 1 ≤ q := by
    rcases Int.lt_or_le q 1 with h | h
    · have : q = 0 := by omega
      subst this
      rw [Int.mul_zero] at hm
      omega
    · exact h
  have b2 : p * (q - 1) = p * q - p := by rw [Int.mul_sub, Int.mul_one]
  have b3 : q - 1 ≤ p * (q - 1) := by
    have := Int.mul_le_mul_of_nonneg_right h1 (show 0 ≤ q - 1 by omega)
    omega
  rw [cap_wrap (x := q) (by omega) (by omega)]
  exact ⟨q, rfl, rfl, b1, by omega, by omega, by omega⟩

end Go.Proofs.Ytifogngffmhmaaa.QAl
