/- What this claim needs of Vq. Parted by prune.py. -/
import Derived.Test.YtleafbihfmiidaaDoorZ5Va
namespace Go.Proofs.YtleafbihfmiidaaDoor.QAl
open Go.RowKit Go.Proofs.YtleafbihfmiidaaDoorW.PrintWords
set_option linter.unusedVariables false
set_option linter.unusedSimpArgs false
def regB (u : Bool) (n : Int) : Bool := if u = true then decide (0 ≤ n) && decide (n < 8) else n == 0
/-- What is said of Imm. -/
def impB (op : Int) (ui : Bool) (im : Int) : Bool := if ui = true then immB op im else im == 0
theorem isaV {op a b c im : Int} (hop : 1 ≤ op ∧ op ≤ 30) : validC ⟨op, a, b, c, im⟩ = (match runO ⟨op, a, b, c, im⟩ ⟨op, 0, 0, 0, 0⟩ (opsL op) with | some s => eqC s ⟨op, a, b, c, im⟩ | none => false) := if_pos hop
theorem beq_flip (a : Int) : ((0 : Int) == a) = (a == 0) := by
  rw [Bool.eq_iff_iff]
  simp
  exact eq_comm
theorem vC_1 (a b c im : Int) : (regB false a && (regB false b && (regB false c && impB 1 false im))) = validC ⟨1, a, b, c, im⟩ := by
  have hl : opsL 1 = [] := rfl
  rw [isaV (by decide), hl]
  rw [show runO ⟨1, a, b, c, im⟩ ⟨1, 0, 0, 0, 0⟩ [] = some ⟨1, 0, 0, 0, 0⟩ from rfl]
  rw [show impB 1 false im = (im == 0) from rfl]
  simp [eqC, regB, beq_flip]
theorem vC_2 (a b c im : Int) : (regB true a && (regB false b && (regB false c && impB 2 true im))) = validC ⟨2, a, b, c, im⟩ := by
  have hl : opsL 2 = [0, 3] := rfl
  rw [isaV (by decide), hl]
  rw [show runO ⟨2, a, b, c, im⟩ ⟨2, 0, 0, 0, 0⟩ [0, 3] = (if okO ⟨2, a, b, c, im⟩ 0 = true then (if okO ⟨2, a, b, c, im⟩ 3 = true then some ⟨2, a, 0, 0, im⟩ else none) else none) from rfl]
  rw [show okO ⟨2, a, b, c, im⟩ 0 = regB true a from rfl]
  rw [show okO ⟨2, a, b, c, im⟩ 3 = immB 2 im from rfl]
  rw [show impB 2 true im = immB 2 im from rfl]
  generalize regB true a = xa
  generalize immB 2 im = xi
  cases xa <;> cases xi <;> simp [eqC, regB, beq_flip]
theorem vC_3 (a b c im : Int) : (regB true a && (regB true b && (regB false c && impB 3 false im))) = validC ⟨3, a, b, c, im⟩ := by
  have hl : opsL 3 = [0, 1] := rfl
  rw [isaV (by decide), hl]
  rw [show runO ⟨3, a, b, c, im⟩ ⟨3, 0, 0, 0, 0⟩ [0, 1] = (if okO ⟨3, a, b, c, im⟩ 0 = true then (if okO ⟨3, a, b, c, im⟩ 1 = true then some ⟨3, a, b, 0, 0⟩ else none) else none) from rfl]
  rw [show okO ⟨3, a, b, c, im⟩ 0 = regB true a from rfl]
  rw [show okO ⟨3, a, b, c, im⟩ 1 = regB true b from rfl]
  rw [show impB 3 false im = (im == 0) from rfl]
  generalize regB true a = xa
  generalize regB true b = xb
  cases xa <;> cases xb <;> simp [eqC, regB, beq_flip]
theorem vC_4 (a b c im : Int) : (regB true a && (regB true b && (regB false c && impB 4 false im))) = validC ⟨4, a, b, c, im⟩ := by
  have hl : opsL 4 = [0, 1] := rfl
  rw [isaV (by decide), hl]
  rw [show runO ⟨4, a, b, c, im⟩ ⟨4, 0, 0, 0, 0⟩ [0, 1] = (if okO ⟨4, a, b, c, im⟩ 0 = true then (if okO ⟨4, a, b, c, im⟩ 1 = true then some ⟨4, a, b, 0, 0⟩ else none) else none) from rfl]
  rw [show okO ⟨4, a, b, c, im⟩ 0 = regB true a from rfl]
  rw [show okO ⟨4, a, b, c, im⟩ 1 = regB true b from rfl]
  rw [show impB 4 false im = (im == 0) from rfl]
  generalize regB true a = xa
  generalize regB true b = xb
  cases xa <;> cases xb <;> simp [eqC, regB, beq_flip]
theorem vC_5 (a b c im : Int) : (regB true a && (regB true b && (regB false c && impB 5 false im))) = validC ⟨5, a, b, c, im⟩ := by
  have hl : opsL 5 = [0, 1] := rfl
  rw [isaV (by decide), hl]
  rw [show runO ⟨5, a, b, c, im⟩ ⟨5, 0, 0, 0, 0⟩ [0, 1] = (if okO ⟨5, a, b, c, im⟩ 0 = true then (if okO ⟨5, a, b, c, im⟩ 1 = true then some ⟨5, a, b, 0, 0⟩ else none) else none) from rfl]
  rw [show okO ⟨5, a, b, c, im⟩ 0 = regB true a from rfl]
  rw [show okO ⟨5, a, b, c, im⟩ 1 = regB true b from rfl]
  rw [show impB 5 false im = (im == 0) from rfl]
  generalize regB true a = xa
  generalize regB true b = xb
  cases xa <;> cases xb <;> simp [eqC, regB, beq_flip]
theorem vC_6 (a b c im : Int) : (regB true a && (regB true b && (regB true c && impB 6 false im))) = validC ⟨6, a, b, c, im⟩ := by
  have hl : opsL 6 = [0, 1, 2] := rfl
  rw [isaV (by decide), hl]
  rw [show runO ⟨6, a, b, c, im⟩ ⟨6, 0, 0, 0, 0⟩ [0, 1, 2] = (if okO ⟨6, a, b, c, im⟩ 0 = true then (if okO ⟨6, a, b, c, im⟩ 1 = true then (if okO ⟨6, a, b, c, im⟩ 2 = true then some ⟨6, a, b, c, 0⟩ else none) else none) else none) from rfl]
  rw [show okO ⟨6, a, b, c, im⟩ 0 = regB true a from rfl]
  rw [show okO ⟨6, a, b, c, im⟩ 1 = regB true b from rfl]
  rw [show okO ⟨6, a, b, c, im⟩ 2 = regB true c from rfl]
  rw [show impB 6 false im = (im == 0) from rfl]
  generalize regB true a = xa
  generalize regB true b = xb
  generalize regB true c = xc
  cases xa <;> cases xb <;> cases xc <;> simp [eqC, regB, beq_flip]
theorem vC_7 (a b c im : Int) : (regB true a && (regB true b && (regB true c && impB 7 false im))) = validC ⟨7, a, b, c, im⟩ := by
  have hl : opsL 7 = [0, 1, 2] := rfl
  rw [isaV (by decide), hl]
  rw [show runO ⟨7, a, b, c, im⟩ ⟨7, 0, 0, 0, 0⟩ [0, 1, 2] = (if okO ⟨7, a, b, c, im⟩ 0 = true then (if okO ⟨7, a, b, c, im⟩ 1 = true then (if okO ⟨7, a, b, c, im⟩ 2 = true then some ⟨7, a, b, c, 0⟩ else none) else none) else none) from rfl]
  rw [show okO ⟨7, a, b, c, im⟩ 0 = regB true a from rfl]
  rw [show okO ⟨7, a, b, c, im⟩ 1 = regB true b from rfl]
  rw [show okO ⟨7, a, b, c, im⟩ 2 = regB true c from rfl]
  rw [show impB 7 false im = (im == 0) from rfl]
  generalize regB true a = xa
  generalize regB true b = xb
  generalize regB true c = xc
  cases xa <;> cases xb <;> cases xc <;> simp [eqC, regB, beq_flip]
theorem vC_8 (a b c im : Int) : (regB true a && (regB true b && (regB true c && impB 8 false im))) = validC ⟨8, a, b, c, im⟩ := by
  have hl : opsL 8 = [0, 1, 2] := rfl
  rw [isaV (by decide), hl]
  rw [show runO ⟨8, a, b, c, im⟩ ⟨8, 0, 0, 0, 0⟩ [0, 1, 2] = (if okO ⟨8, a, b, c, im⟩ 0 = true then (if okO ⟨8, a, b, c, im⟩ 1 = true then (if okO ⟨8, a, b, c, im⟩ 2 = true then some ⟨8, a, b, c, 0⟩ else none) else none) else none) from rfl]
  rw [show okO ⟨8, a, b, c, im⟩ 0 = regB true a from rfl]
  rw [show okO ⟨8, a, b, c, im⟩ 1 = regB true b from rfl]
  rw [show okO ⟨8, a, b, c, im⟩ 2 = regB true c from rfl]
  rw [show impB 8 false im = (im == 0) from rfl]
  generalize regB true a = xa
  generalize regB true b = xb
  generalize regB true c = xc
  cases xa <;> cases xb <;> cases xc <;> simp [eqC, regB, beq_flip]
theorem vC_9 (a b c im : Int) : (regB true a && (regB true b && (regB true c && impB 9 false im))) = validC ⟨9, a, b, c, im⟩ := by
  have hl : opsL 9 = [0, 1, 2] := rfl
  rw [isaV (by decide), hl]
  rw [show runO ⟨9, a, b, c, im⟩ ⟨9, 0, 0, 0, 0⟩ [0, 1, 2] = (if okO ⟨9, a, b, c, im⟩ 0 = true then (if okO ⟨9, a, b, c, im⟩ 1 = true then (if okO ⟨9, a, b, c, im⟩ 2 = true then some ⟨9, a, b, c, 0⟩ else none) else none) else none) from rfl]
  rw [show okO ⟨9, a, b, c, im⟩ 0 = regB true a from rfl]
  rw [show okO ⟨9, a, b, c, im⟩ 1 = regB true b from rfl]
  rw [show okO ⟨9, a, b, c, im⟩ 2 = regB true c from rfl]
  rw [show impB 9 false im = (im == 0) from rfl]
  generalize regB true a = xa
  generalize regB true b = xb
  generalize regB true c = xc
  cases xa <;> cases xb <;> cases xc <;> simp [eqC, regB, beq_flip]
theorem vC_10 (a b c im : Int) : (regB true a && (regB true b && (regB true c && impB 10 false im))) = validC ⟨10, a, b, c, im⟩ := by
  have hl : opsL 10 = [0, 1, 2] := rfl
  rw [isaV (by decide), hl]
  rw [show runO ⟨10, a, b, c, im⟩ ⟨10, 0, 0, 0, 0⟩ [0, 1, 2] = (if okO ⟨10, a, b, c, im⟩ 0 = true then (if okO ⟨10, a, b, c, im⟩ 1 = true then (if okO ⟨10, a, b, c, im⟩ 2 = true then some ⟨10, a, b, c, 0⟩ else none) else none) else none) from rfl]
  rw [show okO ⟨10, a, b, c, im⟩ 0 = regB true a from rfl]
  rw [show okO ⟨10, a, b, c, im⟩ 1 = regB true b from rfl]
  rw [show okO ⟨10, a, b, c, im⟩ 2 = regB true c from rfl]
  rw [show impB 10 false im = (im == 0) from rfl]
  generalize regB true a = xa
  generalize regB true b = xb
  generalize regB true c = xc
  cases xa <;> cases xb <;> cases xc <;> simp [eqC, regB, beq_flip]
theorem vC_11 (a b c im : Int) : (regB true a && (regB true b && (regB true c && impB 11 false im))) = validC ⟨11, a, b, c, im⟩ := by
  have hl : opsL 11 = [0, 1, 2] := rfl
  rw [isaV (by decide), hl]
  rw [show runO ⟨11, a, b, c, im⟩ ⟨11, 0, 0, 0, 0⟩ [0, 1, 2] = (if okO ⟨11, a, b, c, im⟩ 0 = true then (if okO ⟨11, a, b, c, im⟩ 1 = true then (if okO ⟨11, a, b, c, im⟩ 2 = true then some ⟨11, a, b, c, 0⟩ else none) else none) else none) from rfl]
  rw [show okO ⟨11, a, b, c, im⟩ 0 = regB true a from rfl]
  rw [show okO ⟨11, a, b, c, im⟩ 1 = regB true b from rfl]
  rw [show okO ⟨11, a, b, c, im⟩ 2 = regB true c from rfl]
  rw [show impB 11 false im = (im == 0) from rfl]
  generalize regB true a = xa
  generalize regB true b = xb
  generalize regB true c = xc
  cases xa <;> cases xb <;> cases xc <;> simp [eqC, regB, beq_flip]
theorem vC_12 (a b c im : Int) : (regB true a && (regB true b && (regB true c && impB 12 false im))) = validC ⟨12, a, b, c, im⟩ := by
  have hl : opsL 12 = [0, 1, 2] := rfl
  rw [isaV (by decide), hl]
  rw [show runO ⟨12, a, b, c, im⟩ ⟨12, 0, 0, 0, 0⟩ [0, 1, 2] = (if okO ⟨12, a, b, c, im⟩ 0 = true then (if okO ⟨12, a, b, c, im⟩ 1 = true then (if okO ⟨12, a, b, c, im⟩ 2 = true then some ⟨12, a, b, c, 0⟩ else none) else none) else none) from rfl]
  rw [show okO ⟨12, a, b, c, im⟩ 0 = regB true a from rfl]
  rw [show okO ⟨12, a, b, c, im⟩ 1 = regB true b from rfl]
  rw [show okO ⟨12, a, b, c, im⟩ 2 = regB true c from rfl]
  rw [show impB 12 false im = (im == 0) from rfl]
  generalize regB true a = xa
  generalize regB true b = xb
  generalize regB true c = xc
  cases xa <;> cases xb <;> cases xc <;> simp [eqC, regB, beq_flip]
theorem vC_13 (a b c im : Int) : (regB true a && (regB true b && (regB true c && impB 13 false im))) = validC ⟨13, a, b, c, im⟩ := by
  have hl : opsL 13 = [0, 1, 2] := rfl
  rw [isaV (by decide), hl]
  rw [show runO ⟨13, a, b, c, im⟩ ⟨13, 0, 0, 0, 0⟩ [0, 1, 2] = (if okO ⟨13, a, b, c, im⟩ 0 = true then (if okO ⟨13, a, b, c, im⟩ 1 = true then (if okO ⟨13, a, b, c, im⟩ 2 = true then some ⟨13, a, b, c, 0⟩ else none) else none) else none) from rfl]
  rw [show okO ⟨13, a, b, c, im⟩ 0 = regB true a from rfl]
  rw [show okO ⟨13, a, b, c, im⟩ 1 = regB true b from rfl]
  rw [show okO ⟨13, a, b, c, im⟩ 2 = regB true c from rfl]
  rw [show impB 13 false im = (im == 0) from rfl]
  generalize regB true a = xa
  generalize regB true b = xb
  generalize regB true c = xc
  cases xa <;> cases xb <;> cases xc <;> simp [eqC, regB, beq_flip]
theorem vC_14 (a b c im : Int) : (regB true a && (regB false b && (regB false c && impB 14 true im))) = validC ⟨14, a, b, c, im⟩ := by
  have hl : opsL 14 = [0, 3] := rfl
  rw [isaV (by decide), hl]
  rw [show runO ⟨14, a, b, c, im⟩ ⟨14, 0, 0, 0, 0⟩ [0, 3] = (if okO ⟨14, a, b, c, im⟩ 0 = true then (if okO ⟨14, a, b, c, im⟩ 3 = true then some ⟨14, a, 0, 0, im⟩ else none) else none) from rfl]
  rw [show okO ⟨14, a, b, c, im⟩ 0 = regB true a from rfl]
  rw [show okO ⟨14, a, b, c, im⟩ 3 = immB 14 im from rfl]
  rw [show impB 14 true im = immB 14 im from rfl]
  generalize regB true a = xa
  generalize immB 14 im = xi
  cases xa <;> cases xi <;> simp [eqC, regB, beq_flip]
theorem vC_15 (a b c im : Int) : (regB true a && (regB false b && (regB false c && impB 15 true im))) = validC ⟨15, a, b, c, im⟩ := by
  have hl : opsL 15 = [0, 3] := rfl
  rw [isaV (by decide), hl]
  rw [show runO ⟨15, a, b, c, im⟩ ⟨15, 0, 0, 0, 0⟩ [0, 3] = (if okO ⟨15, a, b, c, im⟩ 0 = true then (if okO ⟨15, a, b, c, im⟩ 3 = true then some ⟨15, a, 0, 0, im⟩ else none) else none) from rfl]
  rw [show okO ⟨15, a, b, c, im⟩ 0 = regB true a from rfl]
  rw [show okO ⟨15, a, b, c, im⟩ 3 = immB 15 im from rfl]
  rw [show impB 15 true im = immB 15 im from rfl]
  generalize regB true a = xa
  generalize immB 15 im = xi
  cases xa <;> cases xi <;> simp [eqC, regB, beq_flip]
theorem vC_16 (a b c im : Int) : (regB true a && (regB true b && (regB false c && impB 16 false im))) = validC ⟨16, a, b, c, im⟩ := by
  have hl : opsL 16 = [0, 1] := rfl
  rw [isaV (by decide), hl]
  rw [show runO ⟨16, a, b, c, im⟩ ⟨16, 0, 0, 0, 0⟩ [0, 1] = (if okO ⟨16, a, b, c, im⟩ 0 = true then (if okO ⟨16, a, b, c, im⟩ 1 = true then some ⟨16, a, b, 0, 0⟩ else none) else none) from rfl]
  rw [show okO ⟨16, a, b, c, im⟩ 0 = regB true a from rfl]
  rw [show okO ⟨16, a, b, c, im⟩ 1 = regB true b from rfl]
  rw [show impB 16 false im = (im == 0) from rfl]
  generalize regB true a = xa
  generalize regB true b = xb
  cases xa <;> cases xb <;> simp [eqC, regB, beq_flip]
theorem vC_17 (a b c im : Int) : (regB true a && (regB true b && (regB false c && impB 17 false im))) = validC ⟨17, a, b, c, im⟩ := by
  have hl : opsL 17 = [0, 1] := rfl
  rw [isaV (by decide), hl]
  rw [show runO ⟨17, a, b, c, im⟩ ⟨17, 0, 0, 0, 0⟩ [0, 1] = (if okO ⟨17, a, b, c, im⟩ 0 = true then (if okO ⟨17, a, b, c, im⟩ 1 = true then some ⟨17, a, b, 0, 0⟩ else none) else none) from rfl]
  rw [show okO ⟨17, a, b, c, im⟩ 0 = regB true a from rfl]
  rw [show okO ⟨17, a, b, c, im⟩ 1 = regB true b from rfl]
  rw [show impB 17 false im = (im == 0) from rfl]
  generalize regB true a = xa
  generalize regB true b = xb
  cases xa <;> cases xb <;> simp [eqC, regB, beq_flip]
theorem vC_18 (a b c im : Int) : (regB true a && (regB true b && (regB false c && impB 18 true im))) = validC ⟨18, a, b, c, im⟩ := by
  have hl : opsL 18 = [0, 1, 3] := rfl
  rw [isaV (by decide), hl]
  rw [show runO ⟨18, a, b, c, im⟩ ⟨18, 0, 0, 0, 0⟩ [0, 1, 3] = (if okO ⟨18, a, b, c, im⟩ 0 = true then (if okO ⟨18, a, b, c, im⟩ 1 = true then (if okO ⟨18, a, b, c, im⟩ 3 = true then some ⟨18, a, b, 0, im⟩ else none) else none) else none) from rfl]
  rw [show okO ⟨18, a, b, c, im⟩ 0 = regB true a from rfl]
  rw [show okO ⟨18, a, b, c, im⟩ 1 = regB true b from rfl]
  rw [show okO ⟨18, a, b, c, im⟩ 3 = immB 18 im from rfl]
  rw [show impB 18 true im = immB 18 im from rfl]
  generalize regB true a = xa
  generalize regB true b = xb
  generalize immB 18 im = xi
  cases xa <;> cases xb <;> cases xi <;> simp [eqC, regB, beq_flip]
theorem vC_19 (a b c im : Int) : (regB true a && (regB false b && (regB false c && impB 19 true im))) = validC ⟨19, a, b, c, im⟩ := by
  have hl : opsL 19 = [0, 3] := rfl
  rw [isaV (by decide), hl]
  rw [show runO ⟨19, a, b, c, im⟩ ⟨19, 0, 0, 0, 0⟩ [0, 3] = (if okO ⟨19, a, b, c, im⟩ 0 = true then (if okO ⟨19, a, b, c, im⟩ 3 = true then some ⟨19, a, 0, 0, im⟩ else none) else none) from rfl]
  rw [show okO ⟨19, a, b, c, im⟩ 0 = regB true a from rfl]
  rw [show okO ⟨19, a, b, c, im⟩ 3 = immB 19 im from rfl]
  rw [show impB 19 true im = immB 19 im from rfl]
  generalize regB true a = xa
  generalize immB 19 im = xi
  cases xa <;> cases xi <;> simp [eqC, regB, beq_flip]
theorem vC_20 (a b c im : Int) : (regB true a && (regB false b && (regB false c && impB 20 true im))) = validC ⟨20, a, b, c, im⟩ := by
  have hl : opsL 20 = [0, 3] := rfl
  rw [isaV (by decide), hl]
  rw [show runO ⟨20, a, b, c, im⟩ ⟨20, 0, 0, 0, 0⟩ [0, 3] = (if okO ⟨20, a, b, c, im⟩ 0 = true then (if okO ⟨20, a, b, c, im⟩ 3 = true then some ⟨20, a, 0, 0, im⟩ else none) else none) from rfl]
  rw [show okO ⟨20, a, b, c, im⟩ 0 = regB true a from rfl]
  rw [show okO ⟨20, a, b, c, im⟩ 3 = immB 20 im from rfl]
  rw [show impB 20 true im = immB 20 im from rfl]
  generalize regB true a = xa
  generalize immB 20 im = xi
  cases xa <;> cases xi <;> simp [eqC, regB, beq_flip]
theorem vC_21 (a b c im : Int) : (regB false a && (regB false b && (regB false c && impB 21 true im))) = validC ⟨21, a, b, c, im⟩ := by
  have hl : opsL 21 = [3] := rfl
  rw [isaV (by decide), hl]
  rw [show runO ⟨21, a, b, c, im⟩ ⟨21, 0, 0, 0, 0⟩ [3] = (if okO ⟨21, a, b, c, im⟩ 3 = true then some ⟨21, 0, 0, 0, im⟩ else none) from rfl]
  rw [show okO ⟨21, a, b, c, im⟩ 3 = immB 21 im from rfl]
  rw [show impB 21 true im = immB 21 im from rfl]
  generalize immB 21 im = xi
  cases xi <;> simp [eqC, regB, beq_flip]
theorem vC_22 (a b c im : Int) : (regB true a && (regB false b && (regB false c && impB 22 true im))) = validC ⟨22, a, b, c, im⟩ := by
  have hl : opsL 22 = [0, 3] := rfl
  rw [isaV (by decide), hl]
  rw [show runO ⟨22, a, b, c, im⟩ ⟨22, 0, 0, 0, 0⟩ [0, 3] = (if okO ⟨22, a, b, c, im⟩ 0 = true then (if okO ⟨22, a, b, c, im⟩ 3 = true then some ⟨22, a, 0, 0, im⟩ else none) else none) from rfl]
  rw [show okO ⟨22, a, b, c, im⟩ 0 = regB true a from rfl]
  rw [show okO ⟨22, a, b, c, im⟩ 3 = immB 22 im from rfl]
  rw [show impB 22 true im = immB 22 im from rfl]
  generalize regB true a = xa
  generalize immB 22 im = xi
  cases xa <;> cases xi <;> simp [eqC, regB, beq_flip]
theorem vC_23 (a b c im : Int) : (regB true a && (regB false b && (regB false c && impB 23 true im))) = validC ⟨23, a, b, c, im⟩ := by
  have hl : opsL 23 = [0, 3] := rfl
  rw [isaV (by decide), hl]
  rw [show runO ⟨23, a, b, c, im⟩ ⟨23, 0, 0, 0, 0⟩ [0, 3] = (if okO ⟨23, a, b, c, im⟩ 0 = true then (if okO ⟨23, a, b, c, im⟩ 3 = true then some ⟨23, a, 0, 0, im⟩ else none) else none) from rfl]
  rw [show okO ⟨23, a, b, c, im⟩ 0 = regB true a from rfl]
  rw [show okO ⟨23, a, b, c, im⟩ 3 = immB 23 im from rfl]
  rw [show impB 23 true im = immB 23 im from rfl]
  generalize regB true a = xa
  generalize immB 23 im = xi
  cases xa <;> cases xi <;> simp [eqC, regB, beq_flip]
theorem vC_24 (a b c im : Int) : (regB true a && (regB false b && (regB false c && impB 24 true im))) = validC ⟨24, a, b, c, im⟩ := by
  have hl : opsL 24 = [0, 3] := rfl
  rw [isaV (by decide), hl]
  rw [show runO ⟨24, a, b, c, im⟩ ⟨24, 0, 0, 0, 0⟩ [0, 3] = (if okO ⟨24, a, b, c, im⟩ 0 = true then (if okO ⟨24, a, b, c, im⟩ 3 = true then some ⟨24, a, 0, 0, im⟩ else none) else none) from rfl]
  rw [show okO ⟨24, a, b, c, im⟩ 0 = regB true a from rfl]
  rw [show okO ⟨24, a, b, c, im⟩ 3 = immB 24 im from rfl]
  rw [show impB 24 true im = immB 24 im from rfl]
  generalize regB true a = xa
  generalize immB 24 im = xi
  cases xa <;> cases xi <;> simp [eqC, regB, beq_flip]
theorem vC_25 (a b c im : Int) : (regB true a && (regB false b && (regB false c && impB 25 false im))) = validC ⟨25, a, b, c, im⟩ := by
  have hl : opsL 25 = [0] := rfl
  rw [isaV (by decide), hl]
  rw [show runO ⟨25, a, b, c, im⟩ ⟨25, 0, 0, 0, 0⟩ [0] = (if okO ⟨25, a, b, c, im⟩ 0 = true then some ⟨25, a, 0, 0, 0⟩ else none) from rfl]
  rw [show okO ⟨25, a, b, c, im⟩ 0 = regB true a from rfl]
  rw [show impB 25 false im = (im == 0) from rfl]
  generalize regB true a = xa
  cases xa <;> simp [eqC, regB, beq_flip]
theorem vC_26 (a b c im : Int) : (regB true a && (regB false b && (regB false c && impB 26 true im))) = validC ⟨26, a, b, c, im⟩ := by
  have hl : opsL 26 = [0, 3] := rfl
  rw [isaV (by decide), hl]
  rw [show runO ⟨26, a, b, c, im⟩ ⟨26, 0, 0, 0, 0⟩ [0, 3] = (if okO ⟨26, a, b, c, im⟩ 0 = true then (if okO ⟨26, a, b, c, im⟩ 3 = true then some ⟨26, a, 0, 0, im⟩ else none) else none) from rfl]
  rw [show okO ⟨26, a, b, c, im⟩ 0 = regB true a from rfl]
  rw [show okO ⟨26, a, b, c, im⟩ 3 = immB 26 im from rfl]
  rw [show impB 26 true im = immB 26 im from rfl]
  generalize regB true a = xa
  generalize immB 26 im = xi
  cases xa <;> cases xi <;> simp [eqC, regB, beq_flip]
theorem vC_27 (a b c im : Int) : (regB false a && (regB false b && (regB false c && impB 27 true im))) = validC ⟨27, a, b, c, im⟩ := by
  have hl : opsL 27 = [3] := rfl
  rw [isaV (by decide), hl]
  rw [show runO ⟨27, a, b, c, im⟩ ⟨27, 0, 0, 0, 0⟩ [3] = (if okO ⟨27, a, b, c, im⟩ 3 = true then some ⟨27, 0, 0, 0, im⟩ else none) from rfl]
  rw [show okO ⟨27, a, b, c, im⟩ 3 = immB 27 im from rfl]
  rw [show impB 27 true im = immB 27 im from rfl]
  generalize immB 27 im = xi
  cases xi <;> simp [eqC, regB, beq_flip]
theorem vC_28 (a b c im : Int) : (regB true a && (regB false b && (regB false c && impB 28 false im))) = validC ⟨28, a, b, c, im⟩ := by
  have hl : opsL 28 = [0] := rfl
  rw [isaV (by decide), hl]
  rw [show runO ⟨28, a, b, c, im⟩ ⟨28, 0, 0, 0, 0⟩ [0] = (if okO ⟨28, a, b, c, im⟩ 0 = true then some ⟨28, a, 0, 0, 0⟩ else none) from rfl]
  rw [show okO ⟨28, a, b, c, im⟩ 0 = regB true a from rfl]
  rw [show impB 28 false im = (im == 0) from rfl]
  generalize regB true a = xa
  cases xa <;> simp [eqC, regB, beq_flip]
theorem vC_29 (a b c im : Int) : (regB false a && (regB false b && (regB false c && impB 29 true im))) = validC ⟨29, a, b, c, im⟩ := by
  have hl : opsL 29 = [3] := rfl
  rw [isaV (by decide), hl]
  rw [show runO ⟨29, a, b, c, im⟩ ⟨29, 0, 0, 0, 0⟩ [3] = (if okO ⟨29, a, b, c, im⟩ 3 = true then some ⟨29, 0, 0, 0, im⟩ else none) from rfl]
  rw [show okO ⟨29, a, b, c, im⟩ 3 = immB 29 im from rfl]
  rw [show impB 29 true im = immB 29 im from rfl]
  generalize immB 29 im = xi
  cases xi <;> simp [eqC, regB, beq_flip]
theorem vC_30 (a b c im : Int) : (regB false a && (regB false b && (regB false c && impB 30 false im))) = validC ⟨30, a, b, c, im⟩ := by
  have hl : opsL 30 = [] := rfl
  rw [isaV (by decide), hl]
  rw [show runO ⟨30, a, b, c, im⟩ ⟨30, 0, 0, 0, 0⟩ [] = some ⟨30, 0, 0, 0, 0⟩ from rfl]
  rw [show impB 30 false im = (im == 0) from rfl]
  simp [eqC, regB, beq_flip]
theorem reg_nat {u : Bool} {n : Int} (h : regB u n = true) : ∃ k : Nat, k < 8 ∧ n = (k : Int) := by
  unfold regB at h
  cases u with
  | true =>
    rw [if_pos rfl] at h
    simp at h
    exact ⟨n.toNat, by omega, by omega⟩
  | false =>
    rw [if_neg (by simp)] at h
    simp at h
    exact ⟨0, by omega, h⟩
theorem imp_rng {op : Int} {u : Bool} {im : Int} (h : impB op u im = true) : (u = true → immN op ≠ 0 → 0 ≤ im ∧ im < immN op) := by
  intro hu hn
  subst hu
  unfold impB immB at h
  rw [if_pos rfl, if_neg hn] at h
  by_cases hc : 0 ≤ im ∧ im < immN op
  · exact hc
  · rw [if_neg hc] at h
    cases h
/-- A valid instruction's registers are there. -/
theorem valid_ins {c : S72} (h : validC c = true) : ∃ a b cc : Nat, a < 8 ∧ b < 8 ∧ cc < 8 ∧ c = ⟨c.f0, (a : Int), (b : Int), (cc : Int), c.f4⟩ ∧ (1 ≤ c.f0 ∧ c.f0 ≤ 30) ∧ (immN c.f0 ≠ 0 → 0 ≤ c.f4 ∧ c.f4 < immN c.f0) := by
  obtain ⟨op, a, b, c, im⟩ := c
  have hop : 1 ≤ op ∧ op ≤ 30 := by
    by_cases hop : 1 ≤ op ∧ op ≤ 30
    · exact hop
    · rw [show validC ⟨op, a, b, c, im⟩ = false from if_neg hop] at h
      cases h
  have fin : ∀ (ua ub uc ui : Bool), (regB ua a && (regB ub b && (regB uc c && impB op ui im))) = true → (ui = false → immN op = 0) → ∃ a' b' c' : Nat, a' < 8 ∧ b' < 8 ∧ c' < 8 ∧ (⟨op, a, b, c, im⟩ : S72) = ⟨op, (a' : Int), (b' : Int), (c' : Int), im⟩ ∧ (1 ≤ op ∧ op ≤ 30) ∧ (immN op ≠ 0 → 0 ≤ im ∧ im < immN op) := by
    intro ua ub uc ui h hui
    simp only [Bool.and_eq_true] at h
    obtain ⟨h1, h2, h3, h4⟩ := h
    obtain ⟨a', ha, rfl⟩ := reg_nat h1
    obtain ⟨b', hb, rfl⟩ := reg_nat h2
    obtain ⟨c', hc, rfl⟩ := reg_nat h3
    refine ⟨a', b', c', ha, hb, hc, rfl, hop, fun hn => ?_⟩
    cases ui with
    | true => exact imp_rng h4 rfl hn
    | false => exact absurd (hui rfl) hn
  have ho : op = 1 ∨ op = 2 ∨ op = 3 ∨ op = 4 ∨ op = 5 ∨ op = 6 ∨ op = 7 ∨ op = 8 ∨ op = 9 ∨ op = 10 ∨ op = 11 ∨ op = 12 ∨ op = 13 ∨ op = 14 ∨ op = 15 ∨ op = 16 ∨ op = 17 ∨ op = 18 ∨ op = 19 ∨ op = 20 ∨ op = 21 ∨ op = 22 ∨ op = 23 ∨ op = 24 ∨ op = 25 ∨ op = 26 ∨ op = 27 ∨ op = 28 ∨ op = 29 ∨ op = 30 := by omega
  rcases ho with rfl | rfl | rfl | rfl | rfl | rfl | rfl | rfl | rfl | rfl | rfl | rfl | rfl | rfl | rfl | rfl | rfl | rfl | rfl | rfl | rfl | rfl | rfl | rfl | rfl | rfl | rfl | rfl | rfl | rfl
  · rw [← vC_1] at h; exact fin _ _ _ _ h (by first | (intro _; rfl) | (intro h; cases h))
  · rw [← vC_2] at h; exact fin _ _ _ _ h (by first | (intro _; rfl) | (intro h; cases h))
  · rw [← vC_3] at h; exact fin _ _ _ _ h (by first | (intro _; rfl) | (intro h; cases h))
  · rw [← vC_4] at h; exact fin _ _ _ _ h (by first | (intro _; rfl) | (intro h; cases h))
  · rw [← vC_5] at h; exact fin _ _ _ _ h (by first | (intro _; rfl) | (intro h; cases h))
  · rw [← vC_6] at h; exact fin _ _ _ _ h (by first | (intro _; rfl) | (intro h; cases h))
  · rw [← vC_7] at h; exact fin _ _ _ _ h (by first | (intro _; rfl) | (intro h; cases h))
  · rw [← vC_8] at h; exact fin _ _ _ _ h (by first | (intro _; rfl) | (intro h; cases h))
  · rw [← vC_9] at h; exact fin _ _ _ _ h (by first | (intro _; rfl) | (intro h; cases h))
  · rw [← vC_10] at h; exact fin _ _ _ _ h (by first | (intro _; rfl) | (intro h; cases h))
  · rw [← vC_11] at h; exact fin _ _ _ _ h (by first | (intro _; rfl) | (intro h; cases h))
  · rw [← vC_12] at h; exact fin _ _ _ _ h (by first | (intro _; rfl) | (intro h; cases h))
  · rw [← vC_13] at h; exact fin _ _ _ _ h (by first | (intro _; rfl) | (intro h; cases h))
  · rw [← vC_14] at h; exact fin _ _ _ _ h (by first | (intro _; rfl) | (intro h; cases h))
  · rw [← vC_15] at h; exact fin _ _ _ _ h (by first | (intro _; rfl) | (intro h; cases h))
  · rw [← vC_16] at h; exact fin _ _ _ _ h (by first | (intro _; rfl) | (intro h; cases h))
  · rw [← vC_17] at h; exact fin _ _ _ _ h (by first | (intro _; rfl) | (intro h; cases h))
  · rw [← vC_18] at h; exact fin _ _ _ _ h (by first | (intro _; rfl) | (intro h; cases h))
  · rw [← vC_19] at h; exact fin _ _ _ _ h (by first | (intro _; rfl) | (intro h; cases h))
  · rw [← vC_20] at h; exact fin _ _ _ _ h (by first | (intro _; rfl) | (intro h; cases h))
  · rw [← vC_21] at h; exact fin _ _ _ _ h (by first | (intro _; rfl) | (intro h; cases h))
  · rw [← vC_22] at h; exact fin _ _ _ _ h (by first | (intro _; rfl) | (intro h; cases h))
  · rw [← vC_23] at h; exact fin _ _ _ _ h (by first | (intro _; rfl) | (intro h; cases h))
  · rw [← vC_24] at h; exact fin _ _ _ _ h (by first | (intro _; rfl) | (intro h; cases h))
  · rw [← vC_25] at h; exact fin _ _ _ _ h (by first | (intro _; rfl) | (intro h; cases h))
  · rw [← vC_26] at h; exact fin _ _ _ _ h (by first | (intro _; rfl) | (intro h; cases h))
  · rw [← vC_27] at h; exact fin _ _ _ _ h (by first | (intro _; rfl) | (intro h; cases h))
  · rw [← vC_28] at h; exact fin _ _ _ _ h (by first | (intro _; rfl) | (intro h; cases h))
  · rw [← vC_29] at h; exact fin _ _ _ _ h (by first | (intro _; rfl) | (intro h; cases h))
  · rw [← vC_30] at h; exact fin _ _ _ _ h (by first | (intro _; rfl) | (intro h; cases h))
end Go.Proofs.YtleafbihfmiidaaDoor.QAl
