/- What the pure proofs of Orders, Monotone and EarliestDeadlineFirst share. -/
import Derived.Test.YtlklcfaejmeljaaQOmx
namespace Go.Proofs.Ytlklcfaejmeljaa.QOm
open Go.RowKit Go.Proofs.YtlklcfaejmeljaaW.PrintWords Go.Proofs.YtlklcfaejmeljaaW.PrintLast Go.Proofs.YtlklcfaejmeljaaW.PrintMore Go.Proofs.Ytlklcfaejmeljaa.Srt Go.Proofs.Ytlklcfaejmeljaa.St
set_option linter.unusedVariables false
set_option linter.unusedSimpArgs false

theorem awake_at : tricklelaw40_awake.f 60 = some true := by decide +kernel
theorem awake_ev : Ev (fun k => tricklelaw40_awake.f k) true := Ev.of tricklelaw40_awake.mono awake_at
theorem nat_wrap {j n : Nat} (h : j < n) (hn : n ≤ 140737488355328) : wrap64 ((j : Int) + 1) = ((j + 1 : Nat) : Int) := by unfold wrap64; omega
def jm (x : S58) : S54 := ⟨x.f0, x.f1, x.f2, x.f3⟩
theorem jobs_loop (l : List S58) (hl : l.length ≤ 4398046511103) : ∀ (n j : Nat), l.length - j ≤ n → j ≤ l.length → Ev (fun k => tricklelaw40_jobs.l0 k ((l.take j).map jm) l (l.length : Int) (j : Int)) (l.map jm) := by
  intro n
  induction n with
  | zero =>
    intro j h1 h2
    obtain rfl : j = l.length := by omega
    refine Ev.step (f := fun _ => some (l.map jm)) (fun k => ?_) (Ev.now _)
    rw [tricklelaw40_jobs.l0.eq_2, if_neg (by omega), List.take_length]
  | succ n ih =>
    intro j h1 h2
    by_cases hj : j < l.length
    · have ih := ih (j + 1) (by omega) (by omega)
      refine Ev.step (fun k => ?_) ih
      have e1 : rd_T58 l (j : Int) = l[j] := by
        unfold rd_T58
        rw [Int.toNat_natCast, List.getD_eq_getElem?_getD, List.getElem?_eq_getElem hj, Option.getD_some]
      rw [tricklelaw40_jobs.l0.eq_2, if_pos (by omega), if_pos (by omega), if_pos (by omega), if_pos (by rw [List.length_map, List.length_take]; omega), e1, nat_wrap hj (by omega), List.take_succ_eq_append_getElem hj, List.map_append]
      rfl
    · obtain rfl : j = l.length := by omega
      refine Ev.step (f := fun _ => some (l.map jm)) (fun k => ?_) (Ev.now _)
      rw [tricklelaw40_jobs.l0.eq_2, if_neg (by omega), List.take_length]
theorem jobs_ev (l : List S58) (hl : l.length ≤ 4398046511103) : Ev (fun k => tricklelaw40_jobs.f k l) (l.map jm) := by
  unfold tricklelaw40_jobs.f
  exact jobs_loop l hl l.length 0 (by omega) (by omega)
theorem rd54 {l : List S58} {j : Nat} (h : j < l.length) : rd_T54 (l.map jm) (j : Int) = jm l[j] := by
  unfold rd_T54
  rw [Int.toNat_natCast, List.getD_eq_getElem?_getD, List.getElem?_eq_getElem (by simpa using h), Option.getD_some, List.getElem_map]
theorem rd58 {l : List S58} {j : Nat} (h : j < l.length) : rd_T58 l (j : Int) = l[j] := by
  unfold rd_T58
  rw [Int.toNat_natCast, List.getD_eq_getElem?_getD, List.getElem?_eq_getElem h, Option.getD_some]
theorem rdN {xs : List Int} {k : Nat} : rd xs (k : Int) = xs.getD k 0 := by unfold rd; rw [Int.toNat_natCast]
theorem getm {l : List S58} {j : Nat} (h : j < l.length) : (l.map jm).getD j z54 = jm l[j] := by
  rw [List.getD_eq_getElem?_getD, List.getElem?_eq_getElem (by simpa using h), Option.getD_some, List.getElem_map]
/-- A job precedes another one. -/
def pre (a b : S58) : Bool := if a.f2 = b.f2 then (if a.f1 = b.f1 then decide (a.f0 < b.f0) else decide (a.f1 < b.f1)) else decide (a.f2 < b.f2)
theorem prec_f (a b : S58) : trickleref40_Precedes.f a.f0 a.f1 a.f2 a.f3 b.f0 b.f1 b.f2 b.f3 = some (pre a b) := by
  unfold trickleref40_Precedes.f pre
  split
  · split <;> rfl
  · rfl
theorem pre_iff (a b : S58) : pre a b = true ↔ ordJ (jm a) (jm b) < 0 := by
  rw [ordJ_lt]
  unfold pre jm
  dsimp only
  repeat' split
  all_goals simp only [decide_eq_true_eq]
  all_goals omega
/-- Of two places. -/
theorem ordC_at {l : List S58} {i j : Nat} (hi : i < l.length) (hj : j < l.length) : ordC (l.map jm) (i : Int) (j : Int) = ordJ (jm l[i]) (jm l[j]) := by
  unfold ordC
  rw [Int.toNat_natCast, Int.toNat_natCast, getm hi, getm hj]
theorem pre_at {l : List S58} {i j : Nat} (hi : i < l.length) (hj : j < l.length) : pre l[i] l[j] = true ↔ ordC (l.map jm) (i : Int) (j : Int) < 0 := by
  rw [ordC_at hi hj]
  exact pre_iff _ _
theorem order_f (l : List S58) (hl : l.length ≤ 40) : scheduler_Order.f (l.map jm) = some (ordW (l.map jm)) := by
  unfold scheduler_Order.f
  rw [if_pos (by rw [List.length_map]; exact hl)]
theorem ordIns_len (l : List S54) (x : Int) : ∀ ys, (ordIns l x ys).length = ys.length + 1
  | [] => rfl
  | y :: ys => by
    unfold ordIns
    split
    · rw [List.length_cons, ordIns_len l x ys]; rfl
    · rfl
theorem ordAcc_len (l : List S54) : ∀ j, (ordAcc l j).length = j
  | 0 => rfl
  | j + 1 => by show (ordIns l _ _).length = _; rw [ordIns_len, ordAcc_len l j]
theorem ordW_len (l : List S54) : (ordW l).length = l.length := by
  unfold ordW
  rw [List.length_reverse, ordAcc_len]
end Go.Proofs.Ytlklcfaejmeljaa.QOm
