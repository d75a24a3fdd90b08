/- What this claim needs of Sr. Parted by prune.py. -/
import Derived.Test.YtleafbihfmiidaaDoorZ5Se
namespace Go.Proofs.YtleafbihfmiidaaDoor.QAl
open Go.RowKit Go.Proofs.YtleafbihfmiidaaDoorW.PrintWords
set_option linter.unusedVariables false
set_option linter.unusedSimpArgs false
theorem exe_ok {x : Img} {s : Cs} {B : Bs} (hs : s.Ok) (hB : B.Ok) (op : Int) (a b cc : Nat) {im : Int} (hi : S16 im) : (exeC x s B op a b cc im).1.Ok ∧ (exeC x s B op a b cc im).2.1.Ok ∧ (exeC x s B op a b cc im).2.1.calls.length ≤ B.calls.length + 1 := by
  obtain ⟨h1, h2, h3⟩ := acc_ok hB hs op a b im
  have h4 := cmp_ok (x := x) hs op a b cc hi
  unfold exeC
  split
  · split
    · exact ⟨adv_ok (hs.set a h1) _ _ _, h2, h3⟩
    · split
      · exact ⟨adv_ok (hs.set a h4) _ _ _, h2, h3⟩
      · exact ⟨adv_ok hs _ _ _, h2, h3⟩
  · exact ⟨hs, h2, h3⟩
theorem step_ok {x : Img} {s : Cs} {B : Bs} (hx : x.Ok) (hs : s.Ok) (hB : B.Ok) : (stepC x s B).1.Ok ∧ (stepC x s B).2.1.Ok ∧ (stepC x s B).2.1.calls.length ≤ B.calls.length + 2 := by
  have hl : (spend B (codeAt x s.pc).f0).calls.length = B.calls.length + 1 := by
    show (B.calls ++ [_]).length = _
    rw [List.length_append]
    rfl
  unfold stepC
  split
  · exact ⟨hs, hB, Nat.le_add_right _ _⟩
  · split
    · have := exe_ok (x := x) hs (show (spend B (codeAt x s.pc).f0).Ok from hB.log _ _ _) (codeAt x s.pc).f0 (codeAt x s.pc).f1.toNat (codeAt x s.pc).f2.toNat (codeAt x s.pc).f3.toNat (code_ok hx s.pc)
      exact ⟨this.1, this.2.1, by have := this.2.2; omega⟩
    · exact ⟨hs, hB.log _ _ _, by show (spend B (codeAt x s.pc).f0).calls.length ≤ _; rw [hl]; omega⟩
/-- A run. -/
def runC (x : Img) : Nat → Cs → Bs → Cs × Bs × Int × Nat
  | 0, s, B => (s, B, 1, 0)
  | k + 1, s, B => if (stepC x s B).2.2 = 1 then ((runC x k (stepC x s B).1 (stepC x s B).2.1).1, (runC x k (stepC x s B).1 (stepC x s B).2.1).2.1, (runC x k (stepC x s B).1 (stepC x s B).2.1).2.2.1, (runC x k (stepC x s B).1 (stepC x s B).2.1).2.2.2 + 1) else ((stepC x s B).1, (stepC x s B).2.1, (stepC x s B).2.2, 1)
/-- n + m steps are n steps and, where these ran to their end, m more. -/
theorem run_add (x : Img) (m : Nat) : ∀ (n : Nat) (s : Cs) (B : Bs), runC x (n + m) s B =
    if (runC x n s B).2.2.1 = 1 then ((runC x m (runC x n s B).1 (runC x n s B).2.1).1, (runC x m (runC x n s B).1 (runC x n s B).2.1).2.1, (runC x m (runC x n s B).1 (runC x n s B).2.1).2.2.1, (runC x n s B).2.2.2 + (runC x m (runC x n s B).1 (runC x n s B).2.1).2.2.2) else runC x n s B
  | 0, s, B => by
    rw [Nat.zero_add]
    show _ = if (1 : Int) = 1 then _ else _
    rw [if_pos rfl]
    show runC x m s B = ((runC x m s B).1, (runC x m s B).2.1, (runC x m s B).2.2.1, 0 + (runC x m s B).2.2.2)
    rw [Nat.zero_add]
  | n + 1, s, B => by
    rw [show n + 1 + m = (n + m) + 1 by omega]
    have e1 : runC x (n + m + 1) s B = if (stepC x s B).2.2 = 1 then ((runC x (n + m) (stepC x s B).1 (stepC x s B).2.1).1, (runC x (n + m) (stepC x s B).1 (stepC x s B).2.1).2.1, (runC x (n + m) (stepC x s B).1 (stepC x s B).2.1).2.2.1, (runC x (n + m) (stepC x s B).1 (stepC x s B).2.1).2.2.2 + 1) else ((stepC x s B).1, (stepC x s B).2.1, (stepC x s B).2.2, 1) := rfl
    have e2 : runC x (n + 1) s B = if (stepC x s B).2.2 = 1 then ((runC x n (stepC x s B).1 (stepC x s B).2.1).1, (runC x n (stepC x s B).1 (stepC x s B).2.1).2.1, (runC x n (stepC x s B).1 (stepC x s B).2.1).2.2.1, (runC x n (stepC x s B).1 (stepC x s B).2.1).2.2.2 + 1) else ((stepC x s B).1, (stepC x s B).2.1, (stepC x s B).2.2, 1) := rfl
    by_cases h : (stepC x s B).2.2 = 1
    · rw [if_pos h] at e1 e2
      rw [e1, e2, run_add x m n]
      dsimp only
      split
      · simp only [Prod.mk.injEq, true_and]; omega
      · rfl
    · rw [if_neg h] at e1 e2
      rw [e1, e2]
      rw [if_neg h]
end Go.Proofs.YtleafbihfmiidaaDoor.QAl
