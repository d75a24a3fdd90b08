/- What this claim needs of Vp. Parted by prune.py. -/
import Derived.Test.YtleafbihfmiidaaDoorZ5QAlx6
import Derived.Test.YtleafbihfmiidaaDoorZ5Vq
namespace Go.Proofs.YtleafbihfmiidaaDoor.QAl
open Go.RowKit Go.Proofs.YtleafbihfmiidaaDoorW.PrintWords
set_option linter.unusedVariables false
set_option linter.unusedSimpArgs false
theorem register_f {k : Nat} {S : ByteArray} {ch : Int} {u : Bool} (h : trickleref11_has.f k S ch = some u) (n : Int) : trickleref11_register.f k S ch n = some (regB u n) := by
  unfold trickleref11_register.f regB
  rw [h, Option.bind_some]
  cases u with
  | false => rfl
  | true =>
    rw [if_pos rfl, if_pos rfl]
    by_cases h0 : 0 ≤ n
    · rw [if_pos h0]; simp [h0]
    · rw [if_neg h0]; simp [h0]
theorem j0_f {k : Nat} {S : ByteArray} {op : Int} {ui : Bool} {m : Int} (hh : trickleref11_has.f k S 105 = some ui) (hb : ui = true → op = 2 ∨ (trickleref11_below.f k op = some m ∧ immN op = m ∧ 0 < m)) (h2 : op = 2 → immN op = 0) (x : Bool) (a b c im : Int) (i0 : -32768 ≤ im) (i1 : im ≤ 32767) :
    trickleref11_Valid.j0 (k + 1) S x op a b c im = some (!x && impB op ui im) := by
  have hw : wrap64 im = im := by unfold wrap64; omega
  rw [trickleref11_Valid.j0]
  cases x with
  | true => rfl
  | false =>
    rw [if_neg (by simp), hh, Option.bind_some, hw]
    unfold impB
    cases ui with
    | false => rfl
    | true =>
      rw [if_pos rfl, if_pos rfl]
      by_cases e2 : op = 2
      · rw [if_pos e2]
        unfold immB
        rw [if_pos (h2 e2)]
        rfl
      · rw [if_neg e2]
        obtain ⟨hf, hn, hm⟩ := (hb rfl).resolve_left e2
        rw [hf]
        simp only [Option.bind_some]
        unfold immB
        rw [hn, if_neg (show ¬ m = 0 by omega)]
        by_cases h0 : 0 ≤ im
        · have et : im.tmod 2 = im % 2 := Int.tmod_eq_emod_of_nonneg h0
          rw [et]
          simp only [ge_iff_le, if_pos h0]
          by_cases h3 : m = 16383
          · rw [if_pos h3, if_pos h3]
            by_cases h4 : im % 2 = 0 <;> by_cases h5 : im < m <;> simp [h0, h4, h5]
          · rw [if_neg h3, if_neg h3]
            by_cases h5 : im < m <;> simp [h0, h5]
        · simp only [ge_iff_le, if_neg h0]
          rw [if_neg (show ¬ (0 ≤ im ∧ im < m) by omega)]
          by_cases h3 : m = 16383
          · rw [if_pos h3]
            split <;> rfl
          · rw [if_neg h3]
            rfl
theorem refV_f {k : Nat} {op : Int} {M S : ByteArray} {ua ub uc ui : Bool} {m : Int} (hM : trickleref11_Mnemonic.f op = some M) (hM0 : ¬ M.toList = []) (hS : trickleref11_Shape.f (k + 1) op = some S)
    (ha : trickleref11_has.f (k + 1) S 97 = some ua) (hbb : trickleref11_has.f (k + 1) S 98 = some ub) (hc : trickleref11_has.f (k + 1) S 99 = some uc) (hh : trickleref11_has.f k S 105 = some ui)
    (hb : ui = true → op = 2 ∨ (trickleref11_below.f k op = some m ∧ immN op = m ∧ 0 < m)) (h2 : op = 2 → immN op = 0) (a b c im : Int) (i0 : -32768 ≤ im) (i1 : im ≤ 32767) :
    trickleref11_Valid.f (k + 1) op a b c im = some (regB ua a && (regB ub b && (regB uc c && impB op ui im))) := by
  unfold trickleref11_Valid.f
  rw [hM, Option.bind_some, if_neg hM0, hS, Option.bind_some, register_f ha, Option.bind_some, register_f hbb, Option.bind_some, register_f hc, Option.bind_some]
  rw [j0_f hh hb h2 _ a b c im i0 i1, j0_f hh hb h2 _ a b c im i0 i1]
  cases regB ua a <;> cases regB ub b <;> cases regB uc c <;> simp
theorem refV_1 (a b c im : Int) (i0 : -32768 ≤ im) (i1 : im ≤ 32767) : trickleref11_Valid.f 12 1 a b c im = some (validC ⟨1, a, b, c, im⟩) := by
  rw [refV_f (k := 11) (S := ⟨#[]⟩) (ua := false) (ub := false) (uc := false) (ui := false) (m := 0) rfl (by decide +kernel) rfl (by decide +kernel) (by decide +kernel) (by decide +kernel) (by decide +kernel) (fun h => absurd h (by decide)) (fun h => by first | rfl | (exact absurd h (by decide))) a b c im i0 i1, vC_1]
theorem refV_2 (a b c im : Int) (i0 : -32768 ≤ im) (i1 : im ≤ 32767) : trickleref11_Valid.f 12 2 a b c im = some (validC ⟨2, a, b, c, im⟩) := by
  rw [refV_f (k := 11) (S := ⟨#[97, 105]⟩) (ua := true) (ub := false) (uc := false) (ui := true) (m := 0) rfl (by decide +kernel) rfl (by decide +kernel) (by decide +kernel) (by decide +kernel) (by decide +kernel) (fun _ => Or.inl rfl) (fun h => by first | rfl | (exact absurd h (by decide))) a b c im i0 i1, vC_2]
theorem refV_3 (a b c im : Int) (i0 : -32768 ≤ im) (i1 : im ≤ 32767) : trickleref11_Valid.f 12 3 a b c im = some (validC ⟨3, a, b, c, im⟩) := by
  rw [refV_f (k := 11) (S := ⟨#[97, 98]⟩) (ua := true) (ub := true) (uc := false) (ui := false) (m := 0) rfl (by decide +kernel) rfl (by decide +kernel) (by decide +kernel) (by decide +kernel) (by decide +kernel) (fun h => absurd h (by decide)) (fun h => by first | rfl | (exact absurd h (by decide))) a b c im i0 i1, vC_3]
theorem refV_4 (a b c im : Int) (i0 : -32768 ≤ im) (i1 : im ≤ 32767) : trickleref11_Valid.f 12 4 a b c im = some (validC ⟨4, a, b, c, im⟩) := by
  rw [refV_f (k := 11) (S := ⟨#[97, 98]⟩) (ua := true) (ub := true) (uc := false) (ui := false) (m := 0) rfl (by decide +kernel) rfl (by decide +kernel) (by decide +kernel) (by decide +kernel) (by decide +kernel) (fun h => absurd h (by decide)) (fun h => by first | rfl | (exact absurd h (by decide))) a b c im i0 i1, vC_4]
theorem refV_5 (a b c im : Int) (i0 : -32768 ≤ im) (i1 : im ≤ 32767) : trickleref11_Valid.f 12 5 a b c im = some (validC ⟨5, a, b, c, im⟩) := by
  rw [refV_f (k := 11) (S := ⟨#[97, 98]⟩) (ua := true) (ub := true) (uc := false) (ui := false) (m := 0) rfl (by decide +kernel) rfl (by decide +kernel) (by decide +kernel) (by decide +kernel) (by decide +kernel) (fun h => absurd h (by decide)) (fun h => by first | rfl | (exact absurd h (by decide))) a b c im i0 i1, vC_5]
theorem refV_6 (a b c im : Int) (i0 : -32768 ≤ im) (i1 : im ≤ 32767) : trickleref11_Valid.f 12 6 a b c im = some (validC ⟨6, a, b, c, im⟩) := by
  rw [refV_f (k := 11) (S := ⟨#[97, 98, 99]⟩) (ua := true) (ub := true) (uc := true) (ui := false) (m := 0) rfl (by decide +kernel) rfl (by decide +kernel) (by decide +kernel) (by decide +kernel) (by decide +kernel) (fun h => absurd h (by decide)) (fun h => by first | rfl | (exact absurd h (by decide))) a b c im i0 i1, vC_6]
theorem refV_7 (a b c im : Int) (i0 : -32768 ≤ im) (i1 : im ≤ 32767) : trickleref11_Valid.f 12 7 a b c im = some (validC ⟨7, a, b, c, im⟩) := by
  rw [refV_f (k := 11) (S := ⟨#[97, 98, 99]⟩) (ua := true) (ub := true) (uc := true) (ui := false) (m := 0) rfl (by decide +kernel) rfl (by decide +kernel) (by decide +kernel) (by decide +kernel) (by decide +kernel) (fun h => absurd h (by decide)) (fun h => by first | rfl | (exact absurd h (by decide))) a b c im i0 i1, vC_7]
theorem refV_8 (a b c im : Int) (i0 : -32768 ≤ im) (i1 : im ≤ 32767) : trickleref11_Valid.f 12 8 a b c im = some (validC ⟨8, a, b, c, im⟩) := by
  rw [refV_f (k := 11) (S := ⟨#[97, 98, 99]⟩) (ua := true) (ub := true) (uc := true) (ui := false) (m := 0) rfl (by decide +kernel) rfl (by decide +kernel) (by decide +kernel) (by decide +kernel) (by decide +kernel) (fun h => absurd h (by decide)) (fun h => by first | rfl | (exact absurd h (by decide))) a b c im i0 i1, vC_8]
theorem refV_9 (a b c im : Int) (i0 : -32768 ≤ im) (i1 : im ≤ 32767) : trickleref11_Valid.f 12 9 a b c im = some (validC ⟨9, a, b, c, im⟩) := by
  rw [refV_f (k := 11) (S := ⟨#[97, 98, 99]⟩) (ua := true) (ub := true) (uc := true) (ui := false) (m := 0) rfl (by decide +kernel) rfl (by decide +kernel) (by decide +kernel) (by decide +kernel) (by decide +kernel) (fun h => absurd h (by decide)) (fun h => by first | rfl | (exact absurd h (by decide))) a b c im i0 i1, vC_9]
theorem refV_10 (a b c im : Int) (i0 : -32768 ≤ im) (i1 : im ≤ 32767) : trickleref11_Valid.f 12 10 a b c im = some (validC ⟨10, a, b, c, im⟩) := by
  rw [refV_f (k := 11) (S := ⟨#[97, 98, 99]⟩) (ua := true) (ub := true) (uc := true) (ui := false) (m := 0) rfl (by decide +kernel) rfl (by decide +kernel) (by decide +kernel) (by decide +kernel) (by decide +kernel) (fun h => absurd h (by decide)) (fun h => by first | rfl | (exact absurd h (by decide))) a b c im i0 i1, vC_10]
theorem refV_11 (a b c im : Int) (i0 : -32768 ≤ im) (i1 : im ≤ 32767) : trickleref11_Valid.f 12 11 a b c im = some (validC ⟨11, a, b, c, im⟩) := by
  rw [refV_f (k := 11) (S := ⟨#[97, 98, 99]⟩) (ua := true) (ub := true) (uc := true) (ui := false) (m := 0) rfl (by decide +kernel) rfl (by decide +kernel) (by decide +kernel) (by decide +kernel) (by decide +kernel) (fun h => absurd h (by decide)) (fun h => by first | rfl | (exact absurd h (by decide))) a b c im i0 i1, vC_11]
theorem refV_12 (a b c im : Int) (i0 : -32768 ≤ im) (i1 : im ≤ 32767) : trickleref11_Valid.f 12 12 a b c im = some (validC ⟨12, a, b, c, im⟩) := by
  rw [refV_f (k := 11) (S := ⟨#[97, 98, 99]⟩) (ua := true) (ub := true) (uc := true) (ui := false) (m := 0) rfl (by decide +kernel) rfl (by decide +kernel) (by decide +kernel) (by decide +kernel) (by decide +kernel) (fun h => absurd h (by decide)) (fun h => by first | rfl | (exact absurd h (by decide))) a b c im i0 i1, vC_12]
theorem refV_13 (a b c im : Int) (i0 : -32768 ≤ im) (i1 : im ≤ 32767) : trickleref11_Valid.f 12 13 a b c im = some (validC ⟨13, a, b, c, im⟩) := by
  rw [refV_f (k := 11) (S := ⟨#[97, 98, 99]⟩) (ua := true) (ub := true) (uc := true) (ui := false) (m := 0) rfl (by decide +kernel) rfl (by decide +kernel) (by decide +kernel) (by decide +kernel) (by decide +kernel) (fun h => absurd h (by decide)) (fun h => by first | rfl | (exact absurd h (by decide))) a b c im i0 i1, vC_13]
theorem refV_14 (a b c im : Int) (i0 : -32768 ≤ im) (i1 : im ≤ 32767) : trickleref11_Valid.f 12 14 a b c im = some (validC ⟨14, a, b, c, im⟩) := by
  rw [refV_f (k := 11) (S := ⟨#[97, 105]⟩) (ua := true) (ub := false) (uc := false) (ui := true) (m := 16383) rfl (by decide +kernel) rfl (by decide +kernel) (by decide +kernel) (by decide +kernel) (by decide +kernel) (fun _ => Or.inr ⟨rfl, rfl, by decide⟩) (fun h => by first | rfl | (exact absurd h (by decide))) a b c im i0 i1, vC_14]
theorem refV_15 (a b c im : Int) (i0 : -32768 ≤ im) (i1 : im ≤ 32767) : trickleref11_Valid.f 12 15 a b c im = some (validC ⟨15, a, b, c, im⟩) := by
  rw [refV_f (k := 11) (S := ⟨#[97, 105]⟩) (ua := true) (ub := false) (uc := false) (ui := true) (m := 16383) rfl (by decide +kernel) rfl (by decide +kernel) (by decide +kernel) (by decide +kernel) (by decide +kernel) (fun _ => Or.inr ⟨rfl, rfl, by decide⟩) (fun h => by first | rfl | (exact absurd h (by decide))) a b c im i0 i1, vC_15]
theorem refV_16 (a b c im : Int) (i0 : -32768 ≤ im) (i1 : im ≤ 32767) : trickleref11_Valid.f 12 16 a b c im = some (validC ⟨16, a, b, c, im⟩) := by
  rw [refV_f (k := 11) (S := ⟨#[97, 98]⟩) (ua := true) (ub := true) (uc := false) (ui := false) (m := 0) rfl (by decide +kernel) rfl (by decide +kernel) (by decide +kernel) (by decide +kernel) (by decide +kernel) (fun h => absurd h (by decide)) (fun h => by first | rfl | (exact absurd h (by decide))) a b c im i0 i1, vC_16]
theorem refV_17 (a b c im : Int) (i0 : -32768 ≤ im) (i1 : im ≤ 32767) : trickleref11_Valid.f 12 17 a b c im = some (validC ⟨17, a, b, c, im⟩) := by
  rw [refV_f (k := 11) (S := ⟨#[97, 98]⟩) (ua := true) (ub := true) (uc := false) (ui := false) (m := 0) rfl (by decide +kernel) rfl (by decide +kernel) (by decide +kernel) (by decide +kernel) (by decide +kernel) (fun h => absurd h (by decide)) (fun h => by first | rfl | (exact absurd h (by decide))) a b c im i0 i1, vC_17]
theorem refV_18 (a b c im : Int) (i0 : -32768 ≤ im) (i1 : im ≤ 32767) : trickleref11_Valid.f 12 18 a b c im = some (validC ⟨18, a, b, c, im⟩) := by
  rw [refV_f (k := 11) (S := ⟨#[97, 98, 105]⟩) (ua := true) (ub := true) (uc := false) (ui := true) (m := 32) rfl (by decide +kernel) rfl (by decide +kernel) (by decide +kernel) (by decide +kernel) (by decide +kernel) (fun _ => Or.inr ⟨rfl, rfl, by decide⟩) (fun h => by first | rfl | (exact absurd h (by decide))) a b c im i0 i1, vC_18]
theorem refV_19 (a b c im : Int) (i0 : -32768 ≤ im) (i1 : im ≤ 32767) : trickleref11_Valid.f 12 19 a b c im = some (validC ⟨19, a, b, c, im⟩) := by
  rw [refV_f (k := 11) (S := ⟨#[97, 105]⟩) (ua := true) (ub := false) (uc := false) (ui := true) (m := 64) rfl (by decide +kernel) rfl (by decide +kernel) (by decide +kernel) (by decide +kernel) (by decide +kernel) (fun _ => Or.inr ⟨rfl, rfl, by decide⟩) (fun h => by first | rfl | (exact absurd h (by decide))) a b c im i0 i1, vC_19]
theorem refV_20 (a b c im : Int) (i0 : -32768 ≤ im) (i1 : im ≤ 32767) : trickleref11_Valid.f 12 20 a b c im = some (validC ⟨20, a, b, c, im⟩) := by
  rw [refV_f (k := 11) (S := ⟨#[97, 105]⟩) (ua := true) (ub := false) (uc := false) (ui := true) (m := 64) rfl (by decide +kernel) rfl (by decide +kernel) (by decide +kernel) (by decide +kernel) (by decide +kernel) (fun _ => Or.inr ⟨rfl, rfl, by decide⟩) (fun h => by first | rfl | (exact absurd h (by decide))) a b c im i0 i1, vC_20]
theorem refV_21 (a b c im : Int) (i0 : -32768 ≤ im) (i1 : im ≤ 32767) : trickleref11_Valid.f 12 21 a b c im = some (validC ⟨21, a, b, c, im⟩) := by
  rw [refV_f (k := 11) (S := ⟨#[105]⟩) (ua := false) (ub := false) (uc := false) (ui := true) (m := 480) rfl (by decide +kernel) rfl (by decide +kernel) (by decide +kernel) (by decide +kernel) (by decide +kernel) (fun _ => Or.inr ⟨rfl, rfl, by decide⟩) (fun h => by first | rfl | (exact absurd h (by decide))) a b c im i0 i1, vC_21]
theorem refV_22 (a b c im : Int) (i0 : -32768 ≤ im) (i1 : im ≤ 32767) : trickleref11_Valid.f 12 22 a b c im = some (validC ⟨22, a, b, c, im⟩) := by
  rw [refV_f (k := 11) (S := ⟨#[97, 105]⟩) (ua := true) (ub := false) (uc := false) (ui := true) (m := 480) rfl (by decide +kernel) rfl (by decide +kernel) (by decide +kernel) (by decide +kernel) (by decide +kernel) (fun _ => Or.inr ⟨rfl, rfl, by decide⟩) (fun h => by first | rfl | (exact absurd h (by decide))) a b c im i0 i1, vC_22]
theorem refV_23 (a b c im : Int) (i0 : -32768 ≤ im) (i1 : im ≤ 32767) : trickleref11_Valid.f 12 23 a b c im = some (validC ⟨23, a, b, c, im⟩) := by
  rw [refV_f (k := 11) (S := ⟨#[97, 105]⟩) (ua := true) (ub := false) (uc := false) (ui := true) (m := 8) rfl (by decide +kernel) rfl (by decide +kernel) (by decide +kernel) (by decide +kernel) (by decide +kernel) (fun _ => Or.inr ⟨rfl, rfl, by decide⟩) (fun h => by first | rfl | (exact absurd h (by decide))) a b c im i0 i1, vC_23]
theorem refV_24 (a b c im : Int) (i0 : -32768 ≤ im) (i1 : im ≤ 32767) : trickleref11_Valid.f 12 24 a b c im = some (validC ⟨24, a, b, c, im⟩) := by
  rw [refV_f (k := 11) (S := ⟨#[97, 105]⟩) (ua := true) (ub := false) (uc := false) (ui := true) (m := 8) rfl (by decide +kernel) rfl (by decide +kernel) (by decide +kernel) (by decide +kernel) (by decide +kernel) (fun _ => Or.inr ⟨rfl, rfl, by decide⟩) (fun h => by first | rfl | (exact absurd h (by decide))) a b c im i0 i1, vC_24]
theorem refV_25 (a b c im : Int) (i0 : -32768 ≤ im) (i1 : im ≤ 32767) : trickleref11_Valid.f 12 25 a b c im = some (validC ⟨25, a, b, c, im⟩) := by
  rw [refV_f (k := 11) (S := ⟨#[97]⟩) (ua := true) (ub := false) (uc := false) (ui := false) (m := 0) rfl (by decide +kernel) rfl (by decide +kernel) (by decide +kernel) (by decide +kernel) (by decide +kernel) (fun h => absurd h (by decide)) (fun h => by first | rfl | (exact absurd h (by decide))) a b c im i0 i1, vC_25]
theorem refV_26 (a b c im : Int) (i0 : -32768 ≤ im) (i1 : im ≤ 32767) : trickleref11_Valid.f 12 26 a b c im = some (validC ⟨26, a, b, c, im⟩) := by
  rw [refV_f (k := 11) (S := ⟨#[97, 105]⟩) (ua := true) (ub := false) (uc := false) (ui := true) (m := 8) rfl (by decide +kernel) rfl (by decide +kernel) (by decide +kernel) (by decide +kernel) (by decide +kernel) (fun _ => Or.inr ⟨rfl, rfl, by decide⟩) (fun h => by first | rfl | (exact absurd h (by decide))) a b c im i0 i1, vC_26]
theorem refV_27 (a b c im : Int) (i0 : -32768 ≤ im) (i1 : im ≤ 32767) : trickleref11_Valid.f 12 27 a b c im = some (validC ⟨27, a, b, c, im⟩) := by
  rw [refV_f (k := 11) (S := ⟨#[105]⟩) (ua := false) (ub := false) (uc := false) (ui := true) (m := 16383) rfl (by decide +kernel) rfl (by decide +kernel) (by decide +kernel) (by decide +kernel) (by decide +kernel) (fun _ => Or.inr ⟨rfl, rfl, by decide⟩) (fun h => by first | rfl | (exact absurd h (by decide))) a b c im i0 i1, vC_27]
theorem refV_28 (a b c im : Int) (i0 : -32768 ≤ im) (i1 : im ≤ 32767) : trickleref11_Valid.f 12 28 a b c im = some (validC ⟨28, a, b, c, im⟩) := by
  rw [refV_f (k := 11) (S := ⟨#[97]⟩) (ua := true) (ub := false) (uc := false) (ui := false) (m := 0) rfl (by decide +kernel) rfl (by decide +kernel) (by decide +kernel) (by decide +kernel) (by decide +kernel) (fun h => absurd h (by decide)) (fun h => by first | rfl | (exact absurd h (by decide))) a b c im i0 i1, vC_28]
theorem refV_29 (a b c im : Int) (i0 : -32768 ≤ im) (i1 : im ≤ 32767) : trickleref11_Valid.f 12 29 a b c im = some (validC ⟨29, a, b, c, im⟩) := by
  rw [refV_f (k := 11) (S := ⟨#[105]⟩) (ua := false) (ub := false) (uc := false) (ui := true) (m := 120) rfl (by decide +kernel) rfl (by decide +kernel) (by decide +kernel) (by decide +kernel) (by decide +kernel) (fun _ => Or.inr ⟨rfl, rfl, by decide⟩) (fun h => by first | rfl | (exact absurd h (by decide))) a b c im i0 i1, vC_29]
theorem refV_30 (a b c im : Int) (i0 : -32768 ≤ im) (i1 : im ≤ 32767) : trickleref11_Valid.f 12 30 a b c im = some (validC ⟨30, a, b, c, im⟩) := by
  rw [refV_f (k := 11) (S := ⟨#[]⟩) (ua := false) (ub := false) (uc := false) (ui := false) (m := 0) rfl (by decide +kernel) rfl (by decide +kernel) (by decide +kernel) (by decide +kernel) (by decide +kernel) (fun h => absurd h (by decide)) (fun h => by first | rfl | (exact absurd h (by decide))) a b c im i0 i1, vC_30]
theorem mnem_no {op : Int} (h : ¬ (1 ≤ op ∧ op ≤ 30)) : trickleref11_Mnemonic.f op = some ⟨#[]⟩ := by
  unfold trickleref11_Mnemonic.f
  rw [Option.bind_some]
  by_cases h1 : op < 1
  · rw [if_pos h1]
  · rw [if_neg h1, if_pos (by show (31 : Int) ≤ op; omega)]
theorem refV_any (c : S72) (i0 : -32768 ≤ c.f4) (i1 : c.f4 ≤ 32767) : trickleref11_Valid.f 12 c.f0 c.f1 c.f2 c.f3 c.f4 = some (validC c) := by
  obtain ⟨op, a, b, cc, im⟩ := c
  by_cases hop : 1 ≤ op ∧ op ≤ 30
  · have ho : op = 1 ∨ op = 2 ∨ op = 3 ∨ op = 4 ∨ op = 5 ∨ op = 6 ∨ op = 7 ∨ op = 8 ∨ op = 9 ∨ op = 10 ∨ op = 11 ∨ op = 12 ∨ op = 13 ∨ op = 14 ∨ op = 15 ∨ op = 16 ∨ op = 17 ∨ op = 18 ∨ op = 19 ∨ op = 20 ∨ op = 21 ∨ op = 22 ∨ op = 23 ∨ op = 24 ∨ op = 25 ∨ op = 26 ∨ op = 27 ∨ op = 28 ∨ op = 29 ∨ op = 30 := by omega
    rcases ho with rfl | rfl | rfl | rfl | rfl | rfl | rfl | rfl | rfl | rfl | rfl | rfl | rfl | rfl | rfl | rfl | rfl | rfl | rfl | rfl | rfl | rfl | rfl | rfl | rfl | rfl | rfl | rfl | rfl | rfl
    · exact refV_1 a b cc im i0 i1
    · exact refV_2 a b cc im i0 i1
    · exact refV_3 a b cc im i0 i1
    · exact refV_4 a b cc im i0 i1
    · exact refV_5 a b cc im i0 i1
    · exact refV_6 a b cc im i0 i1
    · exact refV_7 a b cc im i0 i1
    · exact refV_8 a b cc im i0 i1
    · exact refV_9 a b cc im i0 i1
    · exact refV_10 a b cc im i0 i1
    · exact refV_11 a b cc im i0 i1
    · exact refV_12 a b cc im i0 i1
    · exact refV_13 a b cc im i0 i1
    · exact refV_14 a b cc im i0 i1
    · exact refV_15 a b cc im i0 i1
    · exact refV_16 a b cc im i0 i1
    · exact refV_17 a b cc im i0 i1
    · exact refV_18 a b cc im i0 i1
    · exact refV_19 a b cc im i0 i1
    · exact refV_20 a b cc im i0 i1
    · exact refV_21 a b cc im i0 i1
    · exact refV_22 a b cc im i0 i1
    · exact refV_23 a b cc im i0 i1
    · exact refV_24 a b cc im i0 i1
    · exact refV_25 a b cc im i0 i1
    · exact refV_26 a b cc im i0 i1
    · exact refV_27 a b cc im i0 i1
    · exact refV_28 a b cc im i0 i1
    · exact refV_29 a b cc im i0 i1
    · exact refV_30 a b cc im i0 i1
  · unfold trickleref11_Valid.f
    rw [mnem_no hop, Option.bind_some, if_pos (by decide +kernel)]
    rw [show validC ⟨op, a, b, cc, im⟩ = false from if_neg hop]
end Go.Proofs.YtleafbihfmiidaaDoor.QAl
