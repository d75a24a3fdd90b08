/- c12: a step on a bus that fails at its first or second call. No program in sight. -/
import Derived.Test.YtleafbihfmiidaaDoorSr
namespace Go.Proofs.YtleafbihfmiidaaDoor.QAl
open Go.RowKit Go.Proofs.YtleafbihfmiidaaDoorW.PrintWords
set_option linter.unusedVariables false
set_option linter.unusedSimpArgs false
theorem log_len (B : Bs) (k a b : Int) : (B.log k a b).calls.length = B.calls.length + 1 := by
  show (B.calls ++ [_]).length = _
  rw [List.length_append]
  rfl
theorem bstore_len (B : Bs) (a v : Int) : (bstore B a v).calls.length = B.calls.length + 1 := by
  unfold bstore
  repeat' split
  all_goals first | exact log_len _ _ _ _ | (show ((B.log _ _ _).calls.length = _); exact log_len _ _ _ _)
theorem acc_calls (B : Bs) (s : Cs) (op : Int) (a b : Nat) (im : Int) : ((accC B s op a b im).2.2.1 = true ∧ (accC B s op a b im).2.2.2.calls.length = B.calls.length) ∨
    ((accC B s op a b im).2.2.1 = B.ok ∧ (accC B s op a b im).2.2.2.calls.length = B.calls.length + 1) := by
  unfold accC
  repeat' split
  all_goals first
    | exact .inl ⟨rfl, rfl⟩
    | exact .inr ⟨rfl, log_len _ _ _ _⟩
    | exact .inr ⟨rfl, bstore_len _ _ _⟩
theorem adv_out (s : Cs) (op : Int) (a : Nat) (im : Int) : (advC s op a im).2 ≠ 4 ∧ (advC s op a im).2 ≠ 5 := by
  unfold advC
  repeat' split
  all_goals (dsimp only; exact ⟨by decide, by decide⟩)
theorem exe_fail (x : Img) (s : Cs) (B : Bs) (op : Int) (a b cc : Nat) (im : Int) (h1 : B.calls.length = 1) (h2 : B.fail = 2) :
    (exeC x s B op a b cc im).2.1.calls.length ≤ 2 ∧ ((exeC x s B op a b cc im).2.1.calls.length = 2 ↔ (exeC x s B op a b cc im).2.2 = 4) ∧ (((exeC x s B op a b cc im).2.2 = 4 ∨ (exeC x s B op a b cc im).2.2 = 5) → (exeC x s B op a b cc im).1 = s) := by
  have hok : B.ok = false := by unfold Bs.ok; rw [h1, h2]; rfl
  rcases acc_calls B s op a b im with ⟨e1, e2⟩ | ⟨e1, e2⟩
  · unfold exeC
    rw [if_pos e1]
    rw [h1] at e2
    split
    · have := adv_out (s.set a (accC B s op a b im).1) op a im
      exact ⟨by show (accC B s op a b im).2.2.2.calls.length ≤ 2; omega, ⟨fun h => by (have h : (accC B s op a b im).2.2.2.calls.length = 2 := h); omega, fun h => absurd h this.1⟩, fun h => h.elim (fun h => absurd h this.1) (fun h => absurd h this.2)⟩
    · split
      · have := adv_out (s.set a (cmpC x s op a b cc im).1) op a im
        exact ⟨by show (accC B s op a b im).2.2.2.calls.length ≤ 2; omega, ⟨fun h => by (have h : (accC B s op a b im).2.2.2.calls.length = 2 := h); omega, fun h => absurd h this.1⟩, fun h => h.elim (fun h => absurd h this.1) (fun h => absurd h this.2)⟩
      · have := adv_out s op a im
        exact ⟨by show (accC B s op a b im).2.2.2.calls.length ≤ 2; omega, ⟨fun h => by (have h : (accC B s op a b im).2.2.2.calls.length = 2 := h); omega, fun h => absurd h this.1⟩, fun h => h.elim (fun h => absurd h this.1) (fun h => absurd h this.2)⟩
  · rw [hok] at e1
    rw [h1] at e2
    unfold exeC
    rw [if_neg (by rw [e1]; simp)]
    exact ⟨by show (accC B s op a b im).2.2.2.calls.length ≤ 2; omega, ⟨fun _ => rfl, fun _ => e2⟩, fun _ => rfl⟩
theorem step_fail (x : Img) (s : Cs) (B : Bs) (f : Nat) (hf : f = 1 ∨ f = 2) (h0 : B.calls = []) (hB : B.fail = (f : Int)) :
    (stepC x s B).2.1.calls.length ≤ 2 ∧ ((stepC x s B).2.1.calls.length = f ↔ (stepC x s B).2.2 = 4) ∧ (((stepC x s B).2.2 = 4 ∨ (stepC x s B).2.2 = 5) → (stepC x s B).1 = s) := by
  have hl : (spend B (codeAt x s.pc).f0).calls.length = 1 := by
    have := log_len B 8 (enC (codeAt x s.pc).f0 - wrC (codeAt x s.pc).f0) (tiC (codeAt x s.pc).f0)
    rw [h0] at this
    exact this
  unfold stepC
  split
  · rw [show (s, B, (5 : Int)).2.1.calls.length = 0 by show B.calls.length = 0; rw [h0]; rfl]
    refine ⟨by omega, ⟨fun h => by omega, fun h => absurd h (by dsimp only; decide)⟩, fun _ => rfl⟩
  · rcases hf with rfl | rfl
    · have hok : B.ok = false := by unfold Bs.ok; rw [h0, hB]; rfl
      rw [if_neg (by rw [hok]; simp)]
      exact ⟨by show (spend B (codeAt x s.pc).f0).calls.length ≤ 2; omega, ⟨fun _ => rfl, fun _ => hl⟩, fun _ => rfl⟩
    · have hok : B.ok = true := by unfold Bs.ok; rw [h0, hB]; rfl
      rw [if_pos hok]
      exact exe_fail x s _ _ _ _ _ _ hl hB
end Go.Proofs.YtleafbihfmiidaaDoor.QAl
