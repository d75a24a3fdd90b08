/- The queue's order, as a contract without fuel. -/
import Derived.Test.YteneigadnabolaaQAlx2
import Derived.Test.YteneigadnabolaaDq
namespace Go.Proofs.Yteneigadnabolaa.QAl
open Go.RowKit Go.Proofs.YteneigadnabolaaW.PrintWords Go.Proofs.YteneigadnabolaaW.PrintLast Go.Proofs.YteneigadnabolaaW.PrintMore
set_option linter.unusedVariables false

def ordI (a b : Int) : Int := if a < b then -1 else if a > b then 1 else 0
def ordJ (a b : S30) : Int := if ordI a.f1 b.f1 ≠ 0 then ordI a.f1 b.f1 else ordI a.f0 b.f0
theorem ord_cmp64 (a b : Int) : cmp_Compare_int64.f a b = some (ordI a b) := by
  unfold cmp_Compare_int64.f cmp_isNaN_int64.f ordI
  simp only [bne_self_eq_false, Option.bind_some, Bool.false_eq_true, if_false]
  split
  · rfl
  · split <;> rfl
theorem ord_cmpi (a b : Int) : cmp_Compare_int.f a b = some (ordI a b) := by
  unfold cmp_Compare_int.f cmp_isNaN_int.f ordI
  simp only [bne_self_eq_false, Option.bind_some, Bool.false_eq_true, if_false]
  split
  · rfl
  · split <;> rfl
theorem ord_or2 (a b : Int) (k : Nat) : cmp_Or_int.f (k + 3) [a, b] = some (if a ≠ 0 then a else b) := by
  unfold cmp_Or_int.f
  rw [cmp_Or_int.l0.eq_2]
  have r0 : rd [a, b] 0 = a := rfl
  have r1 : rd [a, b] 1 = b := rfl
  have w0 : wrap64 (0 + 1) = 1 := by unfold wrap64; omega
  have w1 : wrap64 (1 + 1) = 2 := by unfold wrap64; omega
  have l3 : (([a, b] : List Int).length : Int) = 2 := rfl
  rw [l3, if_pos (by decide), if_pos (by decide), if_pos (by decide), r0]
  by_cases ha : a = 0
  · rw [if_pos ha, w0, cmp_Or_int.l0.eq_2, l3, if_pos (by decide), if_pos (by decide), if_pos (by decide), r1]
    rw [if_neg (show ¬ a ≠ 0 from fun h => h ha)]
    by_cases hb : b = 0
    · rw [if_pos hb, w1, cmp_Or_int.l0.eq_2, if_neg (by decide), hb]
    · rw [if_neg hb]
  · rw [if_neg ha, if_pos ha]
theorem ord_order (a b : S30) (k : Nat) : deadlinequeue_order.f (k + 3) a.f0 a.f1 b.f0 b.f1 = some (ordJ a b) := by
  unfold deadlinequeue_order.f
  rw [ord_cmp64, Option.bind_some, ord_cmpi, Option.bind_some, ord_or2, Option.bind_some]
  rfl
def it (x : S30) : Dq.It := (x.f0, x.f1)
theorem ordJ_lt (a b : S30) : ordJ a b < 0 ↔ Dq.bef (it a) (it b) := by
  unfold ordJ ordI Dq.bef it
  dsimp only
  by_cases h1 : a.f1 < b.f1
  · rw [if_pos h1, if_pos (by decide)]; exact ⟨fun _ => .inl h1, fun _ => by decide⟩
  · rw [if_neg h1]
    by_cases h2 : a.f1 > b.f1
    · rw [if_pos h2, if_pos (by decide)]; exact ⟨fun h => absurd h (by decide), fun h => by omega⟩
    · rw [if_neg h2, if_neg (by decide)]
      by_cases h3 : a.f0 < b.f0
      · rw [if_pos h3]; exact ⟨fun _ => .inr ⟨by omega, h3⟩, fun _ => by decide⟩
      · rw [if_neg h3]
        by_cases h4 : a.f0 > b.f0
        · rw [if_pos h4]; exact ⟨fun h => absurd h (by decide), fun h => by omega⟩
        · rw [if_neg h4]; exact ⟨fun h => absurd h (by decide), fun h => by omega⟩
/-- order: its sign says which comes first. -/
theorem order_call (a b : S30) (w : World) : Calls Try.prog 29 #[.agg #[.int .i64 a.f0, .int .i64 a.f1], .agg #[.int .i64 b.f0, .int .i64 b.f1]] w fun e w' => e = .returned (.int .i64 (ordJ a b)) ∧ Below w.heap.size w w' :=
  deadlinequeue_order.calls 3 a.f0 a.f1 b.f0 b.f1 (ordJ a b) w (ord_order a b 0)
end Go.Proofs.Yteneigadnabolaa.QAl
