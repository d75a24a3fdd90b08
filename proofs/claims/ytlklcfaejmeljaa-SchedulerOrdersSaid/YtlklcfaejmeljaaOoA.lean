/- SchedulerOrders, over lists alone. -/
import Derived.Test.YtlklcfaejmeljaaOoC
namespace Go.Proofs.Ytlklcfaejmeljaa.QOo
open Go.RowKit Go.Proofs.YtlklcfaejmeljaaW.PrintWords Go.Proofs.YtlklcfaejmeljaaW.PrintLast Go.Proofs.YtlklcfaejmeljaaW.PrintMore Go.Proofs.Ytlklcfaejmeljaa.Srt Go.Proofs.Ytlklcfaejmeljaa.St
set_option linter.unusedVariables false
set_option linter.unusedSimpArgs false

/-- The search from the last element down, and the insertion. -/
theorem ins_ev (l : List S58) (hl : l.length ≤ 40) {r : List Int} {j : Nat} (hj : j < l.length) : ∀ (rest done : List Int), (∀ y ∈ rest, 0 ≤ y ∧ y < (j : Int)) → (done ++ rest).length = j →
    Ev (fun k => trickleref40_Order.l0 k l ((done ++ ordIns (l.map jm) (j : Int) rest).reverse) l (l.length : Int) ((j + 1 : Nat) : Int)) r →
    Ev (fun k => trickleref40_Order.l1 k l ((done ++ rest).reverse) (j : Int) (rest.length : Int) l (l.length : Int) (j : Int) l[j].f0 l[j].f1 l[j].f2 l[j].f3) r
  | [], done, h1, h2, h => by
    refine Ev.step (fun k => ?_) h
    rw [List.append_nil] at h2
    rw [trickleref40_Order.l1.eq_2, if_neg (by simp), Option.bind_some, if_pos (by simp), if_pos (by simp), Option.bind_some, if_pos (by simp), Option.bind_some, if_pos (by simp), Option.bind_some, Option.bind_some, if_pos (by simp <;> omega), nat_wrap hj (by omega)]
    simp [ordIns]
  | y :: rest, done, h1, h2, h => by
    have hy := h1 y (by simp)
    obtain ⟨m, rfl⟩ := Int.eq_ofNat_of_zero_le hy.1
    have hm : m < l.length := by omega
    have hlen : ((done ++ (m : Int) :: rest).reverse).length = j := by rw [List.length_reverse, h2]
    have hrl : rest.length < j := by rw [← h2]; simp; omega
    have e0 : wrap64 ((((m : Int) :: rest).length : Int) - 1) = (rest.length : Int) := by unfold wrap64; simp; omega
    have e1 : rd ((done ++ (m : Int) :: rest).reverse) (rest.length : Int) = (m : Int) := by
      rw [rdN, List.getD_eq_getElem?_getD]
      simp
    have hp := pre_at hj hm
    by_cases hc : ordC (l.map jm) (j : Int) (m : Int) < 0
    · have ho : ordIns (l.map jm) (j : Int) ((m : Int) :: rest) = (m : Int) :: ordIns (l.map jm) (j : Int) rest := by
        rw [ordIns.eq_2, if_pos hc]
      have ih := ins_ev l hl hj rest (done ++ [(m : Int)]) (fun y hy => h1 y (by simp [hy])) (by rw [List.append_assoc]; exact h2) (by rw [List.append_assoc, List.singleton_append, ← ho]; exact h)
      rw [List.append_assoc, List.singleton_append] at ih
      refine Ev.step (fun k => ?_) ih
      rw [trickleref40_Order.l1.eq_2, if_pos (by simp <;> omega), e0, if_pos (by omega), if_pos (by rw [hlen]; omega), e1, if_pos (by omega), if_pos (by omega), rd58 hm, prec_f, hp.2 hc, Option.bind_some, if_pos rfl]
    · have ho : ordIns (l.map jm) (j : Int) ((m : Int) :: rest) = (j : Int) :: (m : Int) :: rest := by
        rw [ordIns.eq_2, if_neg hc]
      rw [ho] at h
      have hpf : pre l[j] l[m] = false := by
        cases hb : pre l[j] l[m]
        · rfl
        · exact absurd (hp.1 hb) hc
      refine Ev.step (fun k => ?_) h
      have hl2 : (((m : Int) :: rest).length : Int) ≤ (((done ++ (m : Int) :: rest).reverse).length : Int) := by rw [hlen]; simp; omega
      have et : ((done ++ (m : Int) :: rest).reverse).take ((((m : Int) :: rest).length : Int)).toNat = ((m : Int) :: rest).reverse := by
        rw [Int.toNat_natCast, List.reverse_append, List.take_append_of_le_length (by simp), List.take_of_length_le (by simp)]
      have ed : ((done ++ (m : Int) :: rest).reverse).drop ((((m : Int) :: rest).length : Int)).toNat = done.reverse := by
        rw [Int.toNat_natCast, List.reverse_append, List.drop_append_of_le_length (by simp), List.drop_of_length_le (by simp), List.nil_append]
      have hdl : done.length ≤ j := by rw [← h2]; simp
      rw [trickleref40_Order.l1.eq_2, if_pos (by simp <;> omega), e0, if_pos (by omega), if_pos (by rw [hlen]; omega), e1, if_pos (by omega), if_pos (by omega), rd58 hm, prec_f, hpf, Option.bind_some, if_neg (by decide), Option.bind_some, if_pos (by omega), if_pos hl2, et, Option.bind_some, if_pos (by simp <;> omega), Option.bind_some, if_pos (by simp <;> omega), Option.bind_some, ed, Option.bind_some, if_pos (by simp <;> omega), nat_wrap hj (by omega)]
      congr 1
      simp
theorem order_ev (l : List S58) (hl : l.length ≤ 40) : ∀ (n j : Nat), l.length - j ≤ n → j ≤ l.length → Ev (fun k => trickleref40_Order.l0 k l ((ordAcc (l.map jm) j).reverse) l (l.length : Int) (j : Int)) (ordW (l.map jm)) := by
  have last : Ev (fun k => trickleref40_Order.l0 k l ((ordAcc (l.map jm) l.length).reverse) l (l.length : Int) (l.length : Int)) (ordW (l.map jm)) := by
    refine Ev.step (f := fun _ => some _) (fun k => ?_) (Ev.now _)
    rw [trickleref40_Order.l0.eq_2, if_neg (by omega)]
    unfold ordW
    rw [List.length_map]
  intro n
  induction n with
  | zero =>
    intro j h1 h2
    obtain rfl : j = l.length := by omega
    exact last
  | succ n ih =>
    intro j h1 h2
    by_cases hj : j < l.length
    · have ih := ih (j + 1) (by omega) (by omega)
      have key := ins_ev l hl hj (ordAcc (l.map jm) j) [] (fun y hy => (ordAcc_mem _ j y).1 hy) (by rw [List.nil_append, ordAcc_len]) (by rw [List.nil_append]; exact ih)
      rw [List.nil_append, ordAcc_len] at key
      refine Ev.step (fun k => ?_) key
      rw [trickleref40_Order.l0.eq_2, if_pos (by omega), if_pos (by omega), if_pos (by omega), rd58 hj, List.length_reverse, ordAcc_len]
    · obtain rfl : j = l.length := by omega
      exact last
theorem refOrder_ev (l : List S58) (hl : l.length ≤ 40) : Ev (fun k => trickleref40_Order.f k l) (ordW (l.map jm)) := by
  unfold trickleref40_Order.f
  exact order_ev l hl l.length 0 (by omega) (by omega)
theorem ints_loop (a : List Int) (ha : a.length ≤ 1000) : ∀ (n j : Nat), a.length - j ≤ n → j ≤ a.length → Ev (fun k => tricklelaw40_ints.l0 k a a (a.length : Int) (j : Int)) true := by
  have last : Ev (fun k => tricklelaw40_ints.l0 k a a (a.length : Int) (a.length : Int)) true := by
    refine Ev.step (f := fun _ => some _) (fun k => ?_) (Ev.now _)
    rw [tricklelaw40_ints.l0.eq_2, if_neg (by omega)]
  intro n
  induction n with
  | zero =>
    intro j h1 h2
    obtain rfl : j = a.length := by omega
    exact last
  | succ n ih =>
    intro j h1 h2
    by_cases hj : j < a.length
    · refine Ev.step (fun k => ?_) (ih (j + 1) (by omega) (by omega))
      rw [tricklelaw40_ints.l0.eq_2, if_pos (by omega), if_pos (by omega), if_pos (by omega), if_pos (by omega), if_pos rfl, nat_wrap hj (by omega)]
    · obtain rfl : j = a.length := by omega
      exact last
theorem ints_ev (a : List Int) (ha : a.length ≤ 1000) : Ev (fun k => tricklelaw40_ints.f k a a) true := by
  unfold tricklelaw40_ints.f
  refine Ev.congr (fun k => ?_) (ints_loop a ha a.length 0 (by omega) (by omega))
  rw [if_pos rfl]; rfl
def lateW (l : List S58) (lo : Int) : Nat → List Int
  | 0 => []
  | j + 1 => if (l.getD j z58).f2 < lo then lateW l lo j ++ [(j : Int)] else lateW l lo j
theorem lateW_len (l : List S58) (lo : Int) : ∀ j, (lateW l lo j).length ≤ j
  | 0 => Nat.le_refl _
  | j + 1 => by
    have := lateW_len l lo j
    unfold lateW
    split
    · rw [List.length_append, List.length_singleton]; omega
    · omega
theorem getl {l : List S58} {j : Nat} (h : j < l.length) : l.getD j z58 = l[j] := by rw [List.getD_eq_getElem?_getD, List.getElem?_eq_getElem h, Option.getD_some]
theorem late_loop (l : List S58) (hl : l.length ≤ 40) (lo hi : Int) : ∀ (n j : Nat), l.length - j ≤ n → j ≤ l.length →
    Ev (fun k => scheduler_Late.l0 k (lateW l lo j) (l.map jm) (l.length : Int) (j : Int) lo hi) (lateW l lo l.length) ∧ Ev (fun k => trickleref40_Late.l0 k (lateW l lo j) l (l.length : Int) (j : Int) lo hi) (lateW l lo l.length) := by
  have last : Ev (fun k => scheduler_Late.l0 k (lateW l lo l.length) (l.map jm) (l.length : Int) (l.length : Int) lo hi) (lateW l lo l.length) ∧ Ev (fun k => trickleref40_Late.l0 k (lateW l lo l.length) l (l.length : Int) (l.length : Int) lo hi) (lateW l lo l.length) := by
    constructor
    · refine Ev.step (f := fun _ => some _) (fun k => ?_) (Ev.now _)
      rw [scheduler_Late.l0.eq_2, if_neg (by omega)]
    · refine Ev.step (f := fun _ => some _) (fun k => ?_) (Ev.now _)
      rw [trickleref40_Late.l0.eq_2, if_neg (by omega)]
  intro n
  induction n with
  | zero =>
    intro j h1 h2
    obtain rfl : j = l.length := by omega
    exact last
  | succ n ih =>
    intro j h1 h2
    by_cases hj : j < l.length
    · have ih := ih (j + 1) (by omega) (by omega)
      have hll := lateW_len l lo j
      have lm : ((l.map jm).length : Int) = (l.length : Int) := by simp
      have e : lateW l lo (j + 1) = if l[j].f2 < lo then lateW l lo j ++ [(j : Int)] else lateW l lo j := by rw [lateW, getl hj]
      rw [e] at ih
      by_cases hc : l[j].f2 < lo
      · rw [if_pos hc] at ih
        refine ⟨Ev.step (fun k => ?_) ih.1, Ev.step (fun k => ?_) ih.2⟩
        · rw [scheduler_Late.l0.eq_2, if_pos (by omega), if_pos (by omega), if_pos (by rw [lm]; omega), rd54 hj, if_pos (show (jm l[j]).f2 < lo from hc), if_pos (by omega), nat_wrap hj (by omega)]
        · rw [trickleref40_Late.l0.eq_2, if_pos (by omega), if_pos (by omega), if_pos (by omega), rd58 hj, if_pos hc, if_pos (by omega), nat_wrap hj (by omega)]
      · rw [if_neg hc] at ih
        refine ⟨Ev.step (fun k => ?_) ih.1, Ev.step (fun k => ?_) ih.2⟩
        · rw [scheduler_Late.l0.eq_2, if_pos (by omega), if_pos (by omega), if_pos (by rw [lm]; omega), rd54 hj, if_neg (show ¬ (jm l[j]).f2 < lo from hc), nat_wrap hj (by omega)]
        · rw [trickleref40_Late.l0.eq_2, if_pos (by omega), if_pos (by omega), if_pos (by omega), rd58 hj, if_neg hc, nat_wrap hj (by omega)]
    · obtain rfl : j = l.length := by omega
      exact last
theorem SchedulerOrders (l : List S58) (lo hi : Int) : ∃ k, tricklelaw40_SchedulerOrders.f k l lo hi = some true := by
  apply Ev.rounds
  unfold tricklelaw40_SchedulerOrders.f
  refine Ev.bind awake_ev ?_
  by_cases h : (l.length : Int) > 40
  · exact Ev.congr (fun k => by rw [if_pos rfl, if_pos h]) (Ev.now true)
  · have hl : l.length ≤ 40 := by omega
    refine Ev.congr (fun k => by rw [if_pos rfl, if_neg h]) ?_
    refine Ev.bind (jobs_ev l (by omega)) ?_
    refine Ev.congr (fun k => by rw [order_f l hl, Option.bind_some]) ?_
    refine Ev.bind (refOrder_ev l hl) ?_
    refine Ev.bind (ints_ev _ (by rw [ordW_len, List.length_map]; omega)) ?_
    refine Ev.congr (fun k => by rw [if_pos rfl]) ?_
    refine Ev.bind (jobs_ev l (by omega)) ?_
    have hb := late_loop l hl lo hi l.length 0 (by omega) (by omega)
    refine Ev.bind (g := fun k => scheduler_Late.f k (l.map jm) lo hi) (a := lateW l lo l.length) ?_ ?_
    · unfold scheduler_Late.f
      rw [List.length_map]
      exact hb.1
    · refine Ev.bind (g := fun k => trickleref40_Late.f k l lo hi) (a := lateW l lo l.length) ?_ ?_
      · unfold trickleref40_Late.f
        exact hb.2
      · refine Ev.bind (ints_ev _ (by have := lateW_len l lo l.length; omega)) ?_
        exact Ev.now true
theorem SchedulerOrders_row {G G' : Prop} (l : List S58) (lo hi : Int) (g : G) (g' : G') : ∃ k, tricklelaw40_SchedulerOrders.f k l lo hi = some true := SchedulerOrders l lo hi
end Go.Proofs.Ytlklcfaejmeljaa.QOo
