/- c12: what a run keeps of its bus's rows; a run cut in two. No program in sight. -/
import Derived.Test.YtleafbihfmiidaaDoorZ5Aw
namespace Go.Proofs.YtleafbihfmiidaaDoor.QAl
open Go.RowKit Go.Proofs.YtleafbihfmiidaaDoorW.PrintWords
set_option linter.unusedVariables false
set_option linter.unusedSimpArgs false
def Rows (B C : Bs) : Prop := C.words.length = B.words.length ∧ C.reads.length ≤ B.reads.length
theorem Rows.refl (B : Bs) : Rows B B := ⟨rfl, Nat.le_refl _⟩
theorem Rows.trans {B C D : Bs} (h : Rows B C) (h' : Rows C D) : Rows B D := ⟨h'.1.trans h.1, Nat.le_trans h'.2 h.2⟩
theorem Rows.log (B : Bs) (k a b : Int) : Rows B (B.log k a b) := ⟨rfl, Nat.le_refl _⟩
theorem Rows.setW (B : Bs) (i : Nat) (v : Int) : Rows B (B.setW i v) := ⟨by show (B.words.set i v).length = _; rw [List.length_set], Nat.le_refl _⟩
theorem Rows.readN (B : Bs) : Rows B B.readN := ⟨rfl, by show B.reads.tail.length ≤ _; rw [List.length_tail]; omega⟩
theorem Rows.acc (B : Bs) (s : Cs) (op : Int) (a b : Nat) (im : Int) : Rows B (accC B s op a b im).2.2.2 := by
  unfold accC
  repeat' split
  all_goals first
    | exact Rows.refl _
    | exact Rows.log _ _ _ _
    | exact (Rows.log _ _ _ _).trans (Rows.readN _)
    | exact (Rows.readN _).trans (Rows.log _ _ _ _)
    | (unfold bstore; split <;> first | exact (Rows.log _ _ _ _).trans (Rows.setW _ _ _) | exact Rows.log _ _ _ _)
theorem Rows.exe (x : Img) (s : Cs) (B : Bs) (op : Int) (a b cc : Nat) (im : Int) : Rows B (exeC x s B op a b cc im).2.1 := by
  unfold exeC
  repeat' split
  all_goals exact Rows.acc B s op a b im
theorem Rows.stp (x : Img) (s : Cs) (B : Bs) : Rows B (stepC x s B).2.1 := by
  unfold stepC
  split
  · exact Rows.refl _
  · split
    · exact (Rows.log B _ _ _).trans (Rows.exe x s (spend B _) _ _ _ _ _)
    · exact Rows.log _ _ _ _
theorem Rows.run (x : Img) : ∀ (n : Nat) (s : Cs) (B : Bs), Rows B (runC x n s B).2.1
  | 0, s, B => Rows.refl _
  | n + 1, s, B => by
    have h1 := Rows.stp x s B
    have ih := Rows.run x n (stepC x s B).1 (stepC x s B).2.1
    unfold runC
    split
    · exact h1.trans ih
    · exact h1
/-- What the two ways of running end with. -/
theorem splits (x : Img) (s : Cs) (B : Bs) (n m : Nat) : ∀ (s1 : Cs) (B1 : Bs) (o1 : Int) (k1 : Nat), runC x n s B = (s1, B1, o1, k1) →
    (o1 = 1 → ∀ s2 B2 o2 k2, runC x m s1 B1 = (s2, B2, o2, k2) → runC x (n + m) s B = (s2, B2, o2, k1 + k2)) ∧ (o1 ≠ 1 → runC x (n + m) s B = (s1, B1, o1, k1)) := by
  intro s1 B1 o1 k1 h
  rw [run_add, h]
  refine ⟨fun ho s2 B2 o2 k2 h2 => ?_, fun ho => ?_⟩
  · dsimp only
    rw [if_pos ho, h2]
  · dsimp only
    rw [if_neg ho]
theorem run_cnt (x : Img) : ∀ (n : Nat) (s : Cs) (B : Bs), (runC x n s B).2.2.2 ≤ n
  | 0, s, B => Nat.le_refl _
  | n + 1, s, B => by
    have ih := run_cnt x n (stepC x s B).1 (stepC x s B).2.1
    unfold runC
    split
    · show (runC x n (stepC x s B).1 (stepC x s B).2.1).2.2.2 + 1 ≤ n + 1
      omega
    · show 1 ≤ n + 1
      omega
/-- A run's state, bus and count. -/
theorem run_all {x : Img} (hx : x.Ok) (n : Nat) (s : Cs) (B : Bs) (hs : s.Ok) (hB : B.Ok) : (runC x n s B).1.Ok ∧ (runC x n s B).2.1.Ok ∧ (runC x n s B).2.1.calls.length ≤ B.calls.length + 2 * n ∧ Rows B (runC x n s B).2.1 ∧ (runC x n s B).2.2.2 ≤ n :=
  ⟨(run_ok hx n s B hs hB).1, (run_ok hx n s B hs hB).2.1, (run_ok hx n s B hs hB).2.2, Rows.run x n s B, run_cnt x n s B⟩
end Go.Proofs.YtleafbihfmiidaaDoor.QAl
