-- Printed by a program of this session (myprint.py) over the kit's print: functions, contracts; not trusted, Lean checks it.
import Derived.Test.YtifogngffmhmaaaQSdx0
import Derived.Test.YtifogngffmhmaaaQSdx1
import Derived.Test.YtifogngffmhmaaaQSdx4
import Derived.Test.YtifogngffmhmaaaQSdx5
namespace Go.Proofs.Ytifogngffmhmaaa.QSd
open Go.RowKit Go.Proofs.YtifogngffmhmaaaW.PrintWords Go.Proofs.YtifogngffmhmaaaW.PrintLast Go.Proofs.YtifogngffmhmaaaW.PrintMore
attribute [local go_sem] max2_int min2_int max_two min_two max_three min_three max_four min_four   -- for this text's walks alone
set_option linter.unusedVariables false
set_option linter.unusedSimpArgs false

attribute [local go_sem high] eqA67
/-! ### trickleref08_Schedule: function 24 -/
mutual
def trickleref08_Schedule.l0 : Nat → Int → List (S67) → Int → List (S57) → Int → Int → Int → Int → Int → Int → Bool → Option ((List (S67)) × Int)
  | 0, _, _, _, _, _, _, _, _, _, _, _ => none
  | k + 1, x1, x9, x10, x20, x21, x22, x199000, x199001, x199002, x199003, x199004 => if x22 < x21 then (if 0 ≤ x22 then (if x22 < (x20.length : Int) then (trickleref08_Schedule.l1 k x1 x9 x10 x20 x21 x22 ((rd_T57 x20 x22).f1) 0 x199000 x199001 x199002 x199003 x199004 ((rd_T57 x20 x22).f0) ((rd_T57 x20 x22).f1)) else (none)) else (none)) else (some (x9, 0))
def trickleref08_Schedule.l1 : Nat → Int → List (S67) → Int → List (S57) → Int → Int → Int → Int → Int → Int → Int → Int → Bool → Int → Int → Option ((List (S67)) × Int)
  | 0, _, _, _, _, _, _, _, _, _, _, _, _, _, _, _ => none
  | k + 1, x1, x9, x10, x20, x21, x22, x27, x28, x199000, x199001, x199002, x199003, x199004, x201000, x201001 => if x28 < x27 then ((trickleref08_Harvest.f x199000 x199001 x199002 x199003 x199004 x201000 1).bind fun bt201 => (if bt201.2.2.2.2.1 = true then ((trickleref08_Draw.f bt201.1 bt201.2.1 bt201.2.2.1 bt201.2.2.2.1 bt201.2.2.2.2.1 x1).bind fun bt207 => (if bt207.2.2.2.2.1 = true then (trickleref08_Schedule.l1 k x1 x9 (wrap64 (x10 + 1)) x20 x21 x22 x27 (wrap64 (x28 + 1)) bt207.1 bt207.2.1 bt207.2.2.1 bt207.2.2.2.1 bt207.2.2.2.2.1 x201000 x201001) else (if x9.length < 8796093022208 then (trickleref08_Schedule.l1 k x1 (x9 ++ [(⟨wrap64 (x1 * (wrap64 (x10 + 1))), 0⟩ : S67)]) 0 x20 x21 x22 x27 (wrap64 (x28 + 1)) bt207.1 bt207.2.1 bt207.2.2.1 bt207.2.2.2.1 bt207.2.2.2.2.1 x201000 x201001) else (none)))) else (if (x9.length : Int) > 0 then (if 0 ≤ (wrap64 ((x9.length : Int) - 1)) then (if (wrap64 ((x9.length : Int) - 1)) < (x9.length : Int) then (trickleref08_Schedule.l1 k x1 (x9.set ((wrap64 ((x9.length : Int) - 1)) : Int).toNat (⟨(rd_T67 x9 (wrap64 ((x9.length : Int) - 1))).f0, wrap64 (((rd_T67 x9 (wrap64 ((x9.length : Int) - 1))).f1) + 1)⟩ : S67)) x10 x20 x21 x22 x27 (wrap64 (x28 + 1)) bt201.1 bt201.2.1 bt201.2.2.1 bt201.2.2.2.1 bt201.2.2.2.2.1 x201000 x201001) else (none)) else (none)) else (trickleref08_Schedule.l1 k x1 x9 x10 x20 x21 x22 x27 (wrap64 (x28 + 1)) bt201.1 bt201.2.1 bt201.2.2.1 bt201.2.2.2.1 bt201.2.2.2.2.1 x201000 x201001)))) else (trickleref08_Schedule.l0 k x1 x9 x10 x20 x21 (wrap64 (x22 + 1)) x199000 x199001 x199002 x199003 x199004)
end
def trickleref08_Schedule.f (k : Nat) (a0_0 : Int) (a0_1 : Int) (a0_2 : Int) (a1 : Int) (l2 : List (S57)) : Option ((List (S67)) × Int) := (trickleref08_Right.f k a0_0 a0_1 a0_2 a1 l2).bind fun t197 => (if t197 = true then (trickleref08_Schedule.l0 k a1 ([] : List (S67)) 0 l2 (l2.length : Int) 0 a0_0 a0_1 a0_2 0 false) else (some (([] : List (S67)), 1)))
theorem trickleref08_Schedule.mono_l : ∀ k, (∀ y0 y1 y2 y3 y4 y5 y6 y7 y8 y9 y10, LeO (trickleref08_Schedule.l0 k y0 y1 y2 y3 y4 y5 y6 y7 y8 y9 y10) (trickleref08_Schedule.l0 (k + 1) y0 y1 y2 y3 y4 y5 y6 y7 y8 y9 y10)) ∧ (∀ y0 y1 y2 y3 y4 y5 y6 y7 y8 y9 y10 y11 y12 y13 y14, LeO (trickleref08_Schedule.l1 k y0 y1 y2 y3 y4 y5 y6 y7 y8 y9 y10 y11 y12 y13 y14) (trickleref08_Schedule.l1 (k + 1) y0 y1 y2 y3 y4 y5 y6 y7 y8 y9 y10 y11 y12 y13 y14))
  | 0 => ⟨fun _ _ _ _ _ _ _ _ _ _ _ r h => by simp [trickleref08_Schedule.l0] at h, fun _ _ _ _ _ _ _ _ _ _ _ _ _ _ _ r h => by simp [trickleref08_Schedule.l1] at h⟩
  | k + 1 => by
    obtain ⟨ih0, ih1⟩ := trickleref08_Schedule.mono_l k
    refine ⟨?_, ?_⟩
    · intro y0 y1 y2 y3 y4 y5 y6 y7 y8 y9 y10
      unfold trickleref08_Schedule.l0
      repeat' first
      | (with_reducible exact ih0 _ _ _ _ _ _ _ _ _ _ _)
      | (with_reducible exact ih1 _ _ _ _ _ _ _ _ _ _ _ _ _ _ _)
      | (with_reducible exact trickleref08_Right.mono _ _ _ _ _ _)
      | (with_reducible exact LeO.refl _)
      | (with_reducible exact LeO.none _)
      | (with_reducible refine LeO.ite ?_ ?_)
      | (with_reducible refine LeO.bind ?_ (fun _ => ?_))
      | exact ih0 _ _ _ _ _ _ _ _ _ _ _
      | exact ih1 _ _ _ _ _ _ _ _ _ _ _ _ _ _ _
      | exact trickleref08_Right.mono _ _ _ _ _ _
      | exact LeO.none _
      | refine LeO.ite ?_ ?_
      | refine LeO.bind ?_ (fun _ => ?_)
    · intro y0 y1 y2 y3 y4 y5 y6 y7 y8 y9 y10 y11 y12 y13 y14
      unfold trickleref08_Schedule.l1
      repeat' first
      | (with_reducible exact ih0 _ _ _ _ _ _ _ _ _ _ _)
      | (with_reducible exact ih1 _ _ _ _ _ _ _ _ _ _ _ _ _ _ _)
      | (with_reducible exact trickleref08_Right.mono _ _ _ _ _ _)
      | (with_reducible exact LeO.refl _)
      | (with_reducible exact LeO.none _)
      | (with_reducible refine LeO.ite ?_ ?_)
      | (with_reducible refine LeO.bind ?_ (fun _ => ?_))
      | exact ih0 _ _ _ _ _ _ _ _ _ _ _
      | exact ih1 _ _ _ _ _ _ _ _ _ _ _ _ _ _ _
      | exact trickleref08_Right.mono _ _ _ _ _ _
      | exact LeO.none _
      | refine LeO.ite ?_ ?_
      | refine LeO.bind ?_ (fun _ => ?_)
theorem trickleref08_Schedule.mono : ∀ a0 a1 a2 a3 a4 k, LeO (trickleref08_Schedule.f k a0 a1 a2 a3 a4) (trickleref08_Schedule.f (k + 1) a0 a1 a2 a3 a4) := by
  intro a0 a1 a2 a3 a4 k
  obtain ⟨ih0, ih1⟩ := trickleref08_Schedule.mono_l k
  unfold trickleref08_Schedule.f
  repeat' first
      | (with_reducible exact ih0 _ _ _ _ _ _ _ _ _ _ _)
      | (with_reducible exact ih1 _ _ _ _ _ _ _ _ _ _ _ _ _ _ _)
      | (with_reducible exact trickleref08_Right.mono _ _ _ _ _ _)
      | (with_reducible exact LeO.refl _)
      | (with_reducible exact LeO.none _)
      | (with_reducible refine LeO.ite ?_ ?_)
      | (with_reducible refine LeO.bind ?_ (fun _ => ?_))
      | exact ih0 _ _ _ _ _ _ _ _ _ _ _
      | exact ih1 _ _ _ _ _ _ _ _ _ _ _ _ _ _ _
      | exact trickleref08_Right.mono _ _ _ _ _ _
      | exact LeO.none _
      | refine LeO.ite ?_ ?_
      | refine LeO.bind ?_ (fun _ => ?_)
set_option maxHeartbeats 8000000 in
set_option maxRecDepth 100000 in
theorem trickleref08_Schedule.calls (k : Nat) (a0_0 : Int) (a0_1 : Int) (a0_2 : Int) (a1 : Int) (A2 : Option Addr) (c2 : Nat) (l2 : List (S57)) (r1 : List (S67)) (r2 : Int) (w : World) (hr2 : Kd.C k57 w A2 l2.length l2) (hc2 : l2.length ≤ c2) (h : trickleref08_Schedule.f k a0_0 a0_1 a0_2 a1 l2 = some (r1, r2)) :
    Calls Try.prog 24 #[.agg #[.int .i64 a0_0, .int .i64 a0_1, .int .i64 a0_2], .int .i64 a1, .slice A2 l2.length c2] w fun e w' => ∃ v0_ : Value, e = .returned (.tuple #[v0_, .int .i64 r2]) ∧ Kd.R k67 67 w' w.heap.size (fun _ => True) v0_ r1 ∧ Below w.heap.size w w' := by
  have hu23 := Try.underlying23
  have hu40 := Try.underlying40
  have hu57 := Try.underlying57
  have hu67 := Try.underlying67
  have HR2 := Aside0.mk hr2
  have HC2 := Aside0.mk hc2
  clear hr2 hc2
  have HB := Aside0.mk (Below.refl w.heap.size w)
  have H : ((trickleref08_Right.f k a0_0 a0_1 a0_2 a1 l2).bind fun t197 => (if t197 = true then (trickleref08_Schedule.l0 k a1 ([] : List (S67)) 0 l2 (l2.length : Int) 0 a0_0 a0_1 a0_2 0 false) else (some (([] : List (S67)), 1)))) = some (r1, r2) := h
  clear h
  replace H := Option.bind_eq_some_iff.mp H
  obtain ⟨t197, A40, H⟩ := H
  replace H : (if t197 = true then (trickleref08_Schedule.l0 k a1 ([] : List (S67)) 0 l2 (l2.length : Int) 0 a0_0 a0_1 a0_2 0 false) else (some (([] : List (S67)), 1))) = some (r1, r2) := H
  have A4 := Aside0.mk A40
  clear A40
  by_cases c5 : t197 = true
  · subst c5
    have H1 : (trickleref08_Schedule.l0 k a1 ([] : List (S67)) 0 l2 (l2.length : Int) 0 a0_0 a0_1 a0_2 0 false) = some (r1, r2) := by rw [if_pos rfl] at H; exact H
    clear H
    have H := H1
    clear H1
    have H' := Aside0.mk H
    clear H
    go_enter Try.func24, Try.ntmps24
    go_wp2_with (first | ((with_reducible refine gate_dst (N := 3) rfl ?_); refine box_event ?hg (N := 3) ?hd (cs := #[.int .i64 a0_0, .int .i64 a0_1, .int .i64 a0_2]) (t := 23) ?hr ?_; (case hd => rfl); (case hg => rfl); (case hr => first | (go_simp; done) | (go_simp; rfl)); intro gb196 hg w6 hbox hb; have n0_ := Aside0.mk (below_step (by repeat (first | (with_reducible first | exact HB.out | apply below_alloc | apply pw_below_drewN | apply below_drew1) | exact HB.out)) hb); have n1_ := Aside0.mk (hbox); have n2_ := Aside0.mk ((by rw [hg]; exact (below_size (by repeat (first | (with_reducible first | exact HB.out | apply below_alloc | apply pw_below_drewN | apply below_drew1) | exact HB.out))) : w.heap.size ≤ gb196)); have n3_ := Aside0.mk ((by rw [hg]; exact (below_size (by repeat (first | (with_reducible first | exact HB.out | apply below_alloc | apply pw_below_drewN | apply below_drew1) | exact HB.out))) : w.heap.size ≤ gb196)); clear HB; have HB := n0_; have BK196 := n1_; have GW196 := n2_; have GE196 := n3_; clear n0_ n1_ n2_ n3_; clear hb hbox hg; have hcz7_0 : w6.cell? ⟨gb196, 0, none⟩ = some (.int .i64 a0_0) := (blk_cell BK196.out 0).trans rfl; have hcz7_1 : w6.cell? ⟨gb196, 1, none⟩ = some (.int .i64 a0_1) := (blk_cell BK196.out 1).trans rfl; have hcz7_2 : w6.cell? ⟨gb196, 2, none⟩ = some (.int .i64 a0_2) := (blk_cell BK196.out 2).trans rfl; have hfz7_0 := blk_frozen BK196.out 0; have hfz7_1 := blk_frozen BK196.out 1; have hfz7_2 := blk_frozen BK196.out 2) | ((with_reducible refine gate_callee (f := 22) rfl ?_); refine goesL_ (some 16) rfl rfl Try.func22 (by kernel_rfl) rfl #[.agg #[.int .i64 a0_0, .int .i64 a0_1, .int .i64 a0_2], .int .i64 a1, .slice A2 l2.length c2] rfl (by (try simp only [List.map_toArray, List.map_cons, List.map_nil]); first | done | rfl | (simp only [List.length_drop, List.length_take]; rfl)) ?_; (with_reducible refine (trickleref08_Right.calls k a0_0 a0_1 a0_2 a1 _ _ l2 true _ ?side1 ?side2 A4.out).mono ?_); (case side1 => repeat (first | exact (Kd.C_below HR2.out HB.out) | (with_reducible refine Kd.C_alloc ?_ _) | (with_reducible refine Kd.C_drewN ?_ _) | (with_reducible refine Kd.C_drew ?_))); (case side2 => exact HC2.out); rintro e w8 ⟨rfl, hb⟩; refine ⟨_, rfl, ?_⟩; have n0_ := Aside0.mk (blk_below (g := gb196) (o := .cells #[.int .i64 a0_0, .int .i64 a0_1, .int .i64 a0_2] 23 (0, 0)) (by (with_reducible repeat (first | refine blk_drewN ?_ _ | refine blk_drew ?_ | refine blk_alloc ?_ _)); exact BK196.out) hb); have n1_ := Aside0.mk (below_step (by repeat (first | (with_reducible first | exact HB.out | apply below_alloc | apply pw_below_drewN | apply below_drew1 | refine below_set ?_ GE196.out) | exact HB.out)) hb); clear BK196; clear HB; have BK196 := n0_; have HB := n1_; clear n0_ n1_; (try clear hb); (try clear hb2); (try clear hk); (try clear hi); have hcz9_0 : w8.cell? ⟨gb196, 0, none⟩ = some (.int .i64 a0_0) := (blk_cell BK196.out 0).trans rfl; have hcz9_1 : w8.cell? ⟨gb196, 1, none⟩ = some (.int .i64 a0_1) := (blk_cell BK196.out 1).trans rfl; have hcz9_2 : w8.cell? ⟨gb196, 2, none⟩ = some (.int .i64 a0_2) := (blk_cell BK196.out 2).trans rfl; have hfz9_0 := blk_frozen BK196.out 0; have hfz9_1 := blk_frozen BK196.out 1; have hfz9_2 := blk_frozen BK196.out 2) | ((with_reducible refine gate_dst (N := 8) rfl ?_); refine box_event ?hg (N := 8) ?hd (cs := #[.int .i64 0, .int .i64 0, .int .i64 0, .int .i64 0, .bool false]) (t := 40) ?hr ?_; (case hd => rfl); (case hg => rfl); (case hr => first | (go_simp; done) | (go_simp; rfl)); intro gb198 hg w10 hbox hb; have n0_ := Aside0.mk (blk_below (g := gb196) (o := .cells #[.int .i64 a0_0, .int .i64 a0_1, .int .i64 a0_2] 23 (0, 0)) (by (with_reducible repeat (first | refine blk_drewN ?_ _ | refine blk_drew ?_ | refine blk_alloc ?_ _)); exact BK196.out) hb); have n1_ := Aside0.mk (below_step (by repeat (first | (with_reducible first | exact HB.out | apply below_alloc | apply pw_below_drewN | apply below_drew1 | refine below_set ?_ GE196.out) | exact HB.out)) hb); have n2_ := Aside0.mk (hbox); have n3_ := Aside0.mk ((by rw [hg]; exact (below_size (by repeat (first | (with_reducible first | exact HB.out | apply below_alloc | apply pw_below_drewN | apply below_drew1 | refine below_set ?_ GE196.out) | exact HB.out))) : w.heap.size ≤ gb198)); have n4_ := Aside0.mk ((by rw [hg]; exact (below_size (by repeat (first | (with_reducible first | exact HB.out | apply below_alloc | apply pw_below_drewN | apply below_drew1 | refine below_set ?_ GE196.out) | exact HB.out))) : w.heap.size ≤ gb198)); have n5_ := Aside0.mk ((by rw [hg]; exact Nat.ne_of_lt (blk_lt (g := gb196) (o := .cells #[.int .i64 a0_0, .int .i64 a0_1, .int .i64 a0_2] 23 (0, 0)) (by (with_reducible repeat (first | refine blk_drewN ?_ _ | refine blk_drew ?_ | refine blk_alloc ?_ _)); exact BK196.out)) : gb196 ≠ gb198)); have n6_ := Aside0.mk ((by rw [hg]; exact Nat.ne_of_gt (blk_lt (g := gb196) (o := .cells #[.int .i64 a0_0, .int .i64 a0_1, .int .i64 a0_2] 23 (0, 0)) (by (with_reducible repeat (first | refine blk_drewN ?_ _ | refine blk_drew ?_ | refine blk_alloc ?_ _)); exact BK196.out)) : gb198 ≠ gb196)); clear BK196; clear HB; have BK196 := n0_; have HB := n1_; have BK198 := n2_; have GW198 := n3_; have GE198 := n4_; have NB196_198 := n5_; have NB198_196 := n6_; clear n0_ n1_ n2_ n3_ n4_ n5_ n6_; clear hb hbox hg; have hnb11 := NB198_196.out; have hnc11 := NB196_198.out; have hcz12_0 : w10.cell? ⟨gb198, 0, none⟩ = some (.int .i64 0) := (blk_cell BK198.out 0).trans rfl; have hcz12_1 : w10.cell? ⟨gb198, 1, none⟩ = some (.int .i64 0) := (blk_cell BK198.out 1).trans rfl; have hcz12_2 : w10.cell? ⟨gb198, 2, none⟩ = some (.int .i64 0) := (blk_cell BK198.out 2).trans rfl; have hcz12_3 : w10.cell? ⟨gb198, 3, none⟩ = some (.int .i64 0) := (blk_cell BK198.out 3).trans rfl; have hcz12_4 : w10.cell? ⟨gb198, 4, none⟩ = some (.bool false) := (blk_cell BK198.out 4).trans rfl; have hfz12_0 := blk_frozen BK198.out 0; have hfz12_1 := blk_frozen BK198.out 1; have hfz12_2 := blk_frozen BK198.out 2; have hfz12_3 := blk_frozen BK198.out 3; have hfz12_4 := blk_frozen BK198.out 4))
    go_loopg [9, 10, 22] k (fun kq v9 v10 v22 w' => ∃ (x9_1 : List (S67)) (x10_1 : Int) (x22_1 : Int) (x199000_1 : Int) (x199001_1 : Int) (x199002_1 : Int) (x199003_1 : Int) (x199004_1 : Bool), v10 = .int .i64 x10_1 ∧ v22 = .int .i64 x22_1 ∧ Aside0 (trickleref08_Schedule.l0 kq a1 x9_1 x10_1 l2 (l2.length : Int) x22_1 x199000_1 x199001_1 x199002_1 x199003_1 x199004_1 = some (r1, r2)) ∧ Aside0 (kq ≤ k) ∧ Aside0 (Kd.R k67 67 w' w.heap.size (fun _ => True) v9 x9_1) ∧ Aside0 (w'.heap[gb196]? = some (.cells #[.int .i64 a0_0, .int .i64 a0_1, .int .i64 a0_2] 23 (0, 0))) ∧ Aside0 (w'.heap[gb198]? = some (.cells #[.int .i64 x199000_1, .int .i64 x199001_1, .int .i64 x199002_1, .int .i64 x199003_1, .bool x199004_1] 40 (0, 0))) ∧ Aside0 (Below w.heap.size w w'))
    case atStart => exact ⟨(([] : List (S67))), (0), (0), (a0_0), (a0_1), (a0_2), (0), (false), (by first | rfl | (simp; done) | (simp [*]; done)), (by first | rfl | (simp; done) | (simp [*]; done)), H', ⟨Nat.le_refl _⟩, ⟨by first | exact Kd.R_nil _ _ _ _ _ | exact Kd.N_nil _ _ _ _ _ | exact Kd.V_nil _ _ _ _ _ | exact Kd.Q_nil _ _ _ _ _ | exact Kd.S_nil _ _ _ _ _⟩, ⟨by (with_reducible repeat (first | refine blk_drewN ?_ _ | refine blk_drew ?_ | refine blk_alloc ?_ _)); refine blk_far ?_ NB196_198.out _; (with_reducible repeat (first | refine blk_drewN ?_ _ | refine blk_drew ?_ | refine blk_alloc ?_ _)); refine blk_far ?_ NB196_198.out _; (with_reducible repeat (first | refine blk_drewN ?_ _ | refine blk_drew ?_ | refine blk_alloc ?_ _)); refine blk_far ?_ NB196_198.out _; (with_reducible repeat (first | refine blk_drewN ?_ _ | refine blk_drew ?_ | refine blk_alloc ?_ _)); refine blk_far ?_ NB196_198.out _; (with_reducible repeat (first | refine blk_drewN ?_ _ | refine blk_drew ?_ | refine blk_alloc ?_ _)); refine blk_far ?_ NB196_198.out _; (with_reducible repeat (first | refine blk_drewN ?_ _ | refine blk_drew ?_ | refine blk_alloc ?_ _)); exact BK196.out⟩, ⟨by (with_reducible repeat (first | refine blk_drewN ?_ _ | refine blk_drew ?_ | refine blk_alloc ?_ _)); refine blk_put (cs := #[.int .i64 a0_0, .int .i64 a0_1, .int .i64 a0_2, .int .i64 0, .bool false]) ?_ 4 _ rfl; (with_reducible repeat (first | refine blk_drewN ?_ _ | refine blk_drew ?_ | refine blk_alloc ?_ _)); refine blk_put (cs := #[.int .i64 a0_0, .int .i64 a0_1, .int .i64 a0_2, .int .i64 0, .bool false]) ?_ 3 _ rfl; (with_reducible repeat (first | refine blk_drewN ?_ _ | refine blk_drew ?_ | refine blk_alloc ?_ _)); refine blk_put (cs := #[.int .i64 a0_0, .int .i64 a0_1, .int .i64 0, .int .i64 0, .bool false]) ?_ 2 _ rfl; (with_reducible repeat (first | refine blk_drewN ?_ _ | refine blk_drew ?_ | refine blk_alloc ?_ _)); refine blk_put (cs := #[.int .i64 a0_0, .int .i64 0, .int .i64 0, .int .i64 0, .bool false]) ?_ 1 _ rfl; (with_reducible repeat (first | refine blk_drewN ?_ _ | refine blk_drew ?_ | refine blk_alloc ?_ _)); refine blk_put (cs := #[.int .i64 0, .int .i64 0, .int .i64 0, .int .i64 0, .bool false]) ?_ 0 _ rfl; (with_reducible repeat (first | refine blk_drewN ?_ _ | refine blk_drew ?_ | refine blk_alloc ?_ _)); exact BK198.out⟩, ⟨by repeat (first | (with_reducible first | exact HB.out | apply below_alloc | apply pw_below_drewN | apply below_drew1 | refine below_set ?_ GE196.out | refine below_set ?_ GE198.out) | exact HB.out)⟩⟩
    case round =>
      clear H'
      try clear c1
      try clear c2
      try clear p2
      try clear c5
      try clear c11
      try clear hcz12_0
      try clear hcz12_1
      try clear hcz12_2
      try clear hcz12_3
      try clear hcz12_4
      try clear hcz7_0
      try clear hcz7_1
      try clear hcz7_2
      try clear hcz9_0
      try clear hcz9_1
      try clear hcz9_2
      try clear hfz12_0
      try clear hfz12_1
      try clear hfz12_2
      try clear hfz12_3
      try clear hfz12_4
      try clear hfz7_0
      try clear hfz7_1
      try clear hfz7_2
      try clear hfz9_0
      try clear hfz9_1
      try clear hfz9_2
      obtain ⟨x9_1, x10_1, x22_1, x199000_1, x199001_1, x199002_1, x199003_1, x199004_1, rfl, rfl, HA, HK1, HO_9, BK196, BK198, HB⟩ := hrel
      cases gk with
      | zero => exact absurd HA.out (by simp [trickleref08_Schedule.l0])
      | succ k1 =>
        have H := HA.out
        clear HA
        simp only [trickleref08_Schedule.l0] at H
        by_cases c13 : x22_1 < (l2.length : Int)
        · rw [if_pos c13] at H
          have c13b0 : decide (x22_1 < (l2.length : Int)) = true := decide_eq_true c13
          clear c13
          by_cases c14 : 0 ≤ x22_1
          · rw [if_pos c14] at H
            have c14b0 : decide (0 ≤ x22_1) = true := decide_eq_true c14
            clear c14
            by_cases c15 : x22_1 < (l2.length : Int)
            · rw [if_pos c15] at H
              have c15b0 : decide (x22_1 < (l2.length : Int)) = true := decide_eq_true c15
              clear c15
              have H' := Aside0.mk H
              clear H
              have p199 : 0 ≤ (x22_1 : Int) := of_decide_eq_true (by first | (with_reducible assumption) | assumption)
              have q199 : x22_1 < (l2.length : Int) := of_decide_eq_true (by first | (with_reducible assumption) | assumption)
              obtain ⟨ad199, e199, hx199_0, hx199_1⟩ := at_T57 HR2.out x22_1 p199 q199
              cases e199
              replace hx199_0 := (HB.out.cell (World.block_lt_of_cell? w _ hx199_0)).trans hx199_0
              replace hx199_1 := (HB.out.cell (World.block_lt_of_cell? w _ hx199_1)).trans hx199_1
              replace p199 := eq_true p199
              replace q199 := eq_true q199
              go_wp2_with (first | ((with_reducible refine gate_dst (N := 12) rfl ?_); refine box_event ?hg (N := 12) ?hd (cs := #[.int .i64 0, .int .i64 0]) (t := 57) ?hr ?_; (case hd => rfl); (case hg => rfl); (case hr => first | (go_simp; done) | (go_simp; rfl)); intro gb200 hg w16 hbox hb; have n0_ := Aside0.mk (Kd.R_below (by (with_reducible repeat (first | apply Kd.R_alloc | apply Kd.R_drewN | apply Kd.R_drew)); exact HO_9.out) hb); have n1_ := Aside0.mk (blk_below (g := gb196) (o := .cells #[.int .i64 a0_0, .int .i64 a0_1, .int .i64 a0_2] 23 (0, 0)) (by (with_reducible repeat (first | refine blk_drewN ?_ _ | refine blk_drew ?_ | refine blk_alloc ?_ _)); exact BK196.out) hb); have n2_ := Aside0.mk (blk_below (g := gb198) (o := .cells #[.int .i64 x199000_1, .int .i64 x199001_1, .int .i64 x199002_1, .int .i64 x199003_1, .bool x199004_1] 40 (0, 0)) (by (with_reducible repeat (first | refine blk_drewN ?_ _ | refine blk_drew ?_ | refine blk_alloc ?_ _)); exact BK198.out) hb); have n3_ := Aside0.mk (below_step (by repeat (first | (with_reducible first | exact HB.out | apply below_alloc | apply pw_below_drewN | apply below_drew1 | refine below_set ?_ GE196.out | refine below_set ?_ GE198.out) | exact HB.out)) hb); have n4_ := Aside0.mk (hbox); have n5_ := Aside0.mk ((by rw [hg]; exact (below_size (by repeat (first | (with_reducible first | exact HB.out | apply below_alloc | apply pw_below_drewN | apply below_drew1 | refine below_set ?_ GE196.out | refine below_set ?_ GE198.out) | exact HB.out))) : w.heap.size ≤ gb200)); have n6_ := Aside0.mk ((by rw [hg]; exact (below_size (by repeat (first | (with_reducible first | exact HB.out | apply below_alloc | apply pw_below_drewN | apply below_drew1 | refine below_set ?_ GE196.out | refine below_set ?_ GE198.out) | exact HB.out))) : w.heap.size ≤ gb200)); have n7_ := Aside0.mk ((by rw [hg]; exact Nat.ne_of_lt (blk_lt (g := gb196) (o := .cells #[.int .i64 a0_0, .int .i64 a0_1, .int .i64 a0_2] 23 (0, 0)) (by (with_reducible repeat (first | refine blk_drewN ?_ _ | refine blk_drew ?_ | refine blk_alloc ?_ _)); exact BK196.out)) : gb196 ≠ gb200)); have n8_ := Aside0.mk ((by rw [hg]; exact Nat.ne_of_gt (blk_lt (g := gb196) (o := .cells #[.int .i64 a0_0, .int .i64 a0_1, .int .i64 a0_2] 23 (0, 0)) (by (with_reducible repeat (first | refine blk_drewN ?_ _ | refine blk_drew ?_ | refine blk_alloc ?_ _)); exact BK196.out)) : gb200 ≠ gb196)); have n9_ := Aside0.mk ((by rw [hg]; exact Nat.ne_of_lt (blk_lt (g := gb198) (o := .cells #[.int .i64 x199000_1, .int .i64 x199001_1, .int .i64 x199002_1, .int .i64 x199003_1, .bool x199004_1] 40 (0, 0)) (by (with_reducible repeat (first | refine blk_drewN ?_ _ | refine blk_drew ?_ | refine blk_alloc ?_ _)); exact BK198.out)) : gb198 ≠ gb200)); have n10_ := Aside0.mk ((by rw [hg]; exact Nat.ne_of_gt (blk_lt (g := gb198) (o := .cells #[.int .i64 x199000_1, .int .i64 x199001_1, .int .i64 x199002_1, .int .i64 x199003_1, .bool x199004_1] 40 (0, 0)) (by (with_reducible repeat (first | refine blk_drewN ?_ _ | refine blk_drew ?_ | refine blk_alloc ?_ _)); exact BK198.out)) : gb200 ≠ gb198)); clear HO_9; clear BK196; clear BK198; clear HB; have HO_9 := n0_; have BK196 := n1_; have BK198 := n2_; have HB := n3_; have BK200 := n4_; have GW200 := n5_; have GE200 := n6_; have NB196_200 := n7_; have NB200_196 := n8_; have NB198_200 := n9_; have NB200_198 := n10_; clear n0_ n1_ n2_ n3_ n4_ n5_ n6_ n7_ n8_ n9_ n10_; clear hb hbox hg; have hnb17 := NB200_196.out; have hnc17 := NB196_200.out; have hnb18 := NB200_198.out; have hnc18 := NB198_200.out; have hcz19_0 : w16.cell? ⟨gb200, 0, none⟩ = some (.int .i64 0) := (blk_cell BK200.out 0).trans rfl; have hcz19_1 : w16.cell? ⟨gb200, 1, none⟩ = some (.int .i64 0) := (blk_cell BK200.out 1).trans rfl; have hfz19_0 := blk_frozen BK200.out 0; have hfz19_1 := blk_frozen BK200.out 1))
              go_loopg [9, 10, 28] k1 (fun kq v9 v10 v28 w' => ∃ (x9_2 : List (S67)) (x10_2 : Int) (x28_2 : Int) (x199000_2 : Int) (x199001_2 : Int) (x199002_2 : Int) (x199003_2 : Int) (x199004_2 : Bool), v10 = .int .i64 x10_2 ∧ v28 = .int .i64 x28_2 ∧ Aside0 (trickleref08_Schedule.l1 kq a1 x9_2 x10_2 l2 (l2.length : Int) x22_1 ((rd_T57 l2 x22_1).f1) x28_2 x199000_2 x199001_2 x199002_2 x199003_2 x199004_2 ((rd_T57 l2 x22_1).f0) ((rd_T57 l2 x22_1).f1) = some (r1, r2)) ∧ Aside0 (kq ≤ k1) ∧ Aside0 (Kd.R k67 67 w' w.heap.size (fun _ => True) v9 x9_2) ∧ Aside0 (w'.heap[gb196]? = some (.cells #[.int .i64 a0_0, .int .i64 a0_1, .int .i64 a0_2] 23 (0, 0))) ∧ Aside0 (w'.heap[gb198]? = some (.cells #[.int .i64 x199000_2, .int .i64 x199001_2, .int .i64 x199002_2, .int .i64 x199003_2, .bool x199004_2] 40 (0, 0))) ∧ Aside0 (w'.heap[gb200]? = some (.cells #[.int .i64 ((rd_T57 l2 x22_1).f0), .int .i64 ((rd_T57 l2 x22_1).f1)] 57 (0, 0))) ∧ Aside0 (Below w.heap.size w w'))
              case atStart => exact ⟨(x9_1), (x10_1), (0), (x199000_1), (x199001_1), (x199002_1), (x199003_1), (x199004_1), (by first | rfl | (simp; done) | (simp [*]; done)), (by first | rfl | (simp; done) | (simp [*]; done)), H', ⟨Nat.le_refl _⟩, ⟨by (with_reducible repeat (first | apply Kd.R_alloc | apply Kd.R_drewN | apply Kd.R_drew)); exact Kd.R_mono (Kd.R_far (p := ⟨gb200, 1, none⟩) (Kd.R_far (p := ⟨gb200, 0, none⟩) (Kd.R_types HO_9.out BK200.out (by decide)) (fun _ hk => hk.2) (.int .i64 ((rd_T57 l2 x22_1).f0))) (fun _ hk => hk.2) (.int .i64 ((rd_T57 l2 x22_1).f1))) (fun _ hk => trivial)⟩, ⟨by (with_reducible repeat (first | refine blk_drewN ?_ _ | refine blk_drew ?_ | refine blk_alloc ?_ _)); refine blk_far ?_ NB196_200.out _; (with_reducible repeat (first | refine blk_drewN ?_ _ | refine blk_drew ?_ | refine blk_alloc ?_ _)); refine blk_far ?_ NB196_200.out _; (with_reducible repeat (first | refine blk_drewN ?_ _ | refine blk_drew ?_ | refine blk_alloc ?_ _)); exact BK196.out⟩, ⟨by (with_reducible repeat (first | refine blk_drewN ?_ _ | refine blk_drew ?_ | refine blk_alloc ?_ _)); refine blk_far ?_ NB198_200.out _; (with_reducible repeat (first | refine blk_drewN ?_ _ | refine blk_drew ?_ | refine blk_alloc ?_ _)); refine blk_far ?_ NB198_200.out _; (with_reducible repeat (first | refine blk_drewN ?_ _ | refine blk_drew ?_ | refine blk_alloc ?_ _)); exact BK198.out⟩, ⟨by (with_reducible repeat (first | refine blk_drewN ?_ _ | refine blk_drew ?_ | refine blk_alloc ?_ _)); refine blk_put (cs := #[.int .i64 ((rd_T57 l2 x22_1).f0), .int .i64 0]) ?_ 1 _ rfl; (with_reducible repeat (first | refine blk_drewN ?_ _ | refine blk_drew ?_ | refine blk_alloc ?_ _)); refine blk_put (cs := #[.int .i64 0, .int .i64 0]) ?_ 0 _ rfl; (with_reducible repeat (first | refine blk_drewN ?_ _ | refine blk_drew ?_ | refine blk_alloc ?_ _)); exact BK200.out⟩, ⟨by repeat (first | (with_reducible first | exact HB.out | apply below_alloc | apply pw_below_drewN | apply below_drew1 | refine below_set ?_ GE196.out | refine below_set ?_ GE198.out | refine below_set ?_ GE200.out) | exact HB.out)⟩⟩
              case round =>
                clear H'
                try clear c1
                try clear p1
                try clear q1
                try clear hx1
                try clear c2
                try clear p2
                try clear c5
                try clear c11
                try clear c13
                try clear c13b0
                try clear c14
                try clear c14b0
                try clear c15
                try clear c15b0
                try clear c17
                try clear c18
                try clear p19
                try clear q19
                try clear hx19
                try clear hcz12_0
                try clear hcz12_1
                try clear hcz12_2
                try clear hcz12_3
                try clear hcz12_4
                try clear hcz19_0
                try clear hcz19_1
                try clear hcz7_0
                try clear hcz7_1
                try clear hcz7_2
                try clear hcz9_0
                try clear hcz9_1
                try clear hcz9_2
                try clear hfz12_0
                try clear hfz12_1
                try clear hfz12_2
                try clear hfz12_3
                try clear hfz12_4
                try clear hfz19_0
                try clear hfz19_1
                try clear hfz7_0
                try clear hfz7_1
                try clear hfz7_2
                try clear hfz9_0
                try clear hfz9_1
                try clear hfz9_2
                try clear hx199_0
                try clear hx199_1
                try clear p199
                try clear p2
                try clear q199
                obtain ⟨x9_2, x10_2, x28_2, x199000_2, x199001_2, x199002_2, x199003_2, x199004_2, rfl, rfl, HA, HK2, HO_9, BK196, BK198, BK200, HB⟩ := hrel
                cases gk with
                | zero => exact absurd HA.out (by simp [trickleref08_Schedule.l1])
                | succ k2 =>
                  have H := HA.out
                  clear HA
                  simp only [trickleref08_Schedule.l1] at H
                  by_cases c20 : x28_2 < ((rd_T57 l2 x22_1).f1)
                  · rw [if_pos c20] at H
                    have c20b0 : decide (x28_2 < ((rd_T57 l2 x22_1).f1)) = true := decide_eq_true c20
                    clear c20
                    replace H := Option.bind_eq_some_iff.mp H
                    obtain ⟨⟨t201, t202, t203, t204, t205, t206⟩, A210, H⟩ := H
                    replace H : (if t205 = true then ((trickleref08_Draw.f t201 t202 t203 t204 t205 a1).bind fun bt207 => (if bt207.2.2.2.2.1 = true then (trickleref08_Schedule.l1 k2 a1 x9_2 (wrap64 (x10_2 + 1)) l2 (l2.length : Int) x22_1 ((rd_T57 l2 x22_1).f1) (wrap64 (x28_2 + 1)) bt207.1 bt207.2.1 bt207.2.2.1 bt207.2.2.2.1 bt207.2.2.2.2.1 ((rd_T57 l2 x22_1).f0) ((rd_T57 l2 x22_1).f1)) else (if x9_2.length < 8796093022208 then (trickleref08_Schedule.l1 k2 a1 (x9_2 ++ [(⟨wrap64 (a1 * (wrap64 (x10_2 + 1))), 0⟩ : S67)]) 0 l2 (l2.length : Int) x22_1 ((rd_T57 l2 x22_1).f1) (wrap64 (x28_2 + 1)) bt207.1 bt207.2.1 bt207.2.2.1 bt207.2.2.2.1 bt207.2.2.2.2.1 ((rd_T57 l2 x22_1).f0) ((rd_T57 l2 x22_1).f1)) else (none)))) else (if (x9_2.length : Int) > 0 then (if 0 ≤ (wrap64 ((x9_2.length : Int) - 1)) then (if (wrap64 ((x9_2.length : Int) - 1)) < (x9_2.length : Int) then (trickleref08_Schedule.l1 k2 a1 (x9_2.set ((wrap64 ((x9_2.length : Int) - 1)) : Int).toNat (⟨(rd_T67 x9_2 (wrap64 ((x9_2.length : Int) - 1))).f0, wrap64 (((rd_T67 x9_2 (wrap64 ((x9_2.length : Int) - 1))).f1) + 1)⟩ : S67)) x10_2 l2 (l2.length : Int) x22_1 ((rd_T57 l2 x22_1).f1) (wrap64 (x28_2 + 1)) t201 t202 t203 t204 t205 ((rd_T57 l2 x22_1).f0) ((rd_T57 l2 x22_1).f1)) else (none)) else (none)) else (trickleref08_Schedule.l1 k2 a1 x9_2 x10_2 l2 (l2.length : Int) x22_1 ((rd_T57 l2 x22_1).f1) (wrap64 (x28_2 + 1)) t201 t202 t203 t204 t205 ((rd_T57 l2 x22_1).f0) ((rd_T57 l2 x22_1).f1)))) = some (r1, r2) := H
                    have A21 := Aside0.mk A210
                    clear A210
                    by_cases c22 : t205 = true
                    · subst c22
                      have H1 : ((trickleref08_Draw.f t201 t202 t203 t204 true a1).bind fun bt207 => (if bt207.2.2.2.2.1 = true then (trickleref08_Schedule.l1 k2 a1 x9_2 (wrap64 (x10_2 + 1)) l2 (l2.length : Int) x22_1 ((rd_T57 l2 x22_1).f1) (wrap64 (x28_2 + 1)) bt207.1 bt207.2.1 bt207.2.2.1 bt207.2.2.2.1 bt207.2.2.2.2.1 ((rd_T57 l2 x22_1).f0) ((rd_T57 l2 x22_1).f1)) else (if x9_2.length < 8796093022208 then (trickleref08_Schedule.l1 k2 a1 (x9_2 ++ [(⟨wrap64 (a1 * (wrap64 (x10_2 + 1))), 0⟩ : S67)]) 0 l2 (l2.length : Int) x22_1 ((rd_T57 l2 x22_1).f1) (wrap64 (x28_2 + 1)) bt207.1 bt207.2.1 bt207.2.2.1 bt207.2.2.2.1 bt207.2.2.2.2.1 ((rd_T57 l2 x22_1).f0) ((rd_T57 l2 x22_1).f1)) else (none)))) = some (r1, r2) := by rw [if_pos rfl] at H; exact H
                      clear H
                      have H := H1
                      clear H1
                      replace H := Option.bind_eq_some_iff.mp H
                      obtain ⟨⟨t207, t208, t209, t210, t211, t212⟩, A230, H⟩ := H
                      replace H : (if t211 = true then (trickleref08_Schedule.l1 k2 a1 x9_2 (wrap64 (x10_2 + 1)) l2 (l2.length : Int) x22_1 ((rd_T57 l2 x22_1).f1) (wrap64 (x28_2 + 1)) t207 t208 t209 t210 t211 ((rd_T57 l2 x22_1).f0) ((rd_T57 l2 x22_1).f1)) else (if x9_2.length < 8796093022208 then (trickleref08_Schedule.l1 k2 a1 (x9_2 ++ [(⟨wrap64 (a1 * (wrap64 (x10_2 + 1))), 0⟩ : S67)]) 0 l2 (l2.length : Int) x22_1 ((rd_T57 l2 x22_1).f1) (wrap64 (x28_2 + 1)) t207 t208 t209 t210 t211 ((rd_T57 l2 x22_1).f0) ((rd_T57 l2 x22_1).f1)) else (none))) = some (r1, r2) := H
                      have A23 := Aside0.mk A230
                      clear A230
                      by_cases c24 : t211 = true
                      · subst c24
                        have H1 : (trickleref08_Schedule.l1 k2 a1 x9_2 (wrap64 (x10_2 + 1)) l2 (l2.length : Int) x22_1 ((rd_T57 l2 x22_1).f1) (wrap64 (x28_2 + 1)) t207 t208 t209 t210 true ((rd_T57 l2 x22_1).f0) ((rd_T57 l2 x22_1).f1)) = some (r1, r2) := by rw [if_pos rfl] at H; exact H
                        clear H
                        have H := H1
                        clear H1
                        have H' := Aside0.mk H
                        clear H
                        have hnb25 := NB198_196.out
                        have hnc25 := NB196_198.out
                        have hnb26 := NB198_200.out
                        have hnc26 := NB200_198.out
                        have hcz27_0 : wr.cell? ⟨gb198, 0, none⟩ = some (.int .i64 x199000_2) := (blk_cell BK198.out 0).trans rfl
                        have hcz27_1 : wr.cell? ⟨gb198, 1, none⟩ = some (.int .i64 x199001_2) := (blk_cell BK198.out 1).trans rfl
                        have hcz27_2 : wr.cell? ⟨gb198, 2, none⟩ = some (.int .i64 x199002_2) := (blk_cell BK198.out 2).trans rfl
                        have hcz27_3 : wr.cell? ⟨gb198, 3, none⟩ = some (.int .i64 x199003_2) := (blk_cell BK198.out 3).trans rfl
                        have hcz27_4 : wr.cell? ⟨gb198, 4, none⟩ = some (.bool x199004_2) := (blk_cell BK198.out 4).trans rfl
                        have hfz27_0 := blk_frozen BK198.out 0
                        have hfz27_1 := blk_frozen BK198.out 1
                        have hfz27_2 := blk_frozen BK198.out 2
                        have hfz27_3 := blk_frozen BK198.out 3
                        have hfz27_4 := blk_frozen BK198.out 4
                        have hnb28 := NB200_196.out
                        have hnc28 := NB196_200.out
                        have hcz29_0 : wr.cell? ⟨gb200, 0, none⟩ = some (.int .i64 ((rd_T57 l2 x22_1).f0)) := (blk_cell BK200.out 0).trans rfl
                        have hcz29_1 : wr.cell? ⟨gb200, 1, none⟩ = some (.int .i64 ((rd_T57 l2 x22_1).f1)) := (blk_cell BK200.out 1).trans rfl
                        have hfz29_0 := blk_frozen BK200.out 0
                        have hfz29_1 := blk_frozen BK200.out 1
                        go_wp2_with (first | ((with_reducible refine gate_callee (f := 18) rfl ?_); refine goesL_ (some 34) rfl rfl Try.func18 (by kernel_rfl) rfl #[.agg #[.int .i64 x199000_2, .int .i64 x199001_2, .int .i64 x199002_2, .int .i64 x199003_2, .bool x199004_2], .int .i64 ((rd_T57 l2 x22_1).f0), .int .i64 1] rfl (by (try simp only [List.map_toArray, List.map_cons, List.map_nil]); first | done | rfl | (simp only [List.length_drop, List.length_take]; rfl)) ?_; (with_reducible refine (trickleref08_Harvest.calls x199000_2 x199001_2 x199002_2 x199003_2 x199004_2 ((rd_T57 l2 x22_1).f0) 1 t201 t202 t203 t204 true t206 _ A21.out).mono ?_); rintro e w30 ⟨rfl, hb⟩; refine ⟨_, rfl, ?_⟩; have n0_ := Aside0.mk (Kd.R_below (by (with_reducible repeat (first | apply Kd.R_alloc | apply Kd.R_drewN | apply Kd.R_drew)); exact HO_9.out) hb); have n1_ := Aside0.mk (blk_below (g := gb196) (o := .cells #[.int .i64 a0_0, .int .i64 a0_1, .int .i64 a0_2] 23 (0, 0)) (by (with_reducible repeat (first | refine blk_drewN ?_ _ | refine blk_drew ?_ | refine blk_alloc ?_ _)); exact BK196.out) hb); have n2_ := Aside0.mk (blk_below (g := gb198) (o := .cells #[.int .i64 x199000_2, .int .i64 x199001_2, .int .i64 x199002_2, .int .i64 x199003_2, .bool x199004_2] 40 (0, 0)) (by (with_reducible repeat (first | refine blk_drewN ?_ _ | refine blk_drew ?_ | refine blk_alloc ?_ _)); exact BK198.out) hb); have n3_ := Aside0.mk (blk_below (g := gb200) (o := .cells #[.int .i64 ((rd_T57 l2 x22_1).f0), .int .i64 ((rd_T57 l2 x22_1).f1)] 57 (0, 0)) (by (with_reducible repeat (first | refine blk_drewN ?_ _ | refine blk_drew ?_ | refine blk_alloc ?_ _)); exact BK200.out) hb); have n4_ := Aside0.mk (below_step (by repeat (first | (with_reducible first | exact HB.out | apply below_alloc | apply pw_below_drewN | apply below_drew1 | refine below_set ?_ GE196.out | refine below_set ?_ GE198.out | refine below_set ?_ GE200.out) | exact HB.out)) hb); clear HO_9; clear BK196; clear BK198; clear BK200; clear HB; have HO_9 := n0_; have BK196 := n1_; have BK198 := n2_; have BK200 := n3_; have HB := n4_; clear n0_ n1_ n2_ n3_ n4_; (try clear hb); (try clear hb2); (try clear hk); (try clear hi); have hcz31_0 : w30.cell? ⟨gb198, 0, none⟩ = some (.int .i64 x199000_2) := (blk_cell BK198.out 0).trans rfl; have hcz31_1 : w30.cell? ⟨gb198, 1, none⟩ = some (.int .i64 x199001_2) := (blk_cell BK198.out 1).trans rfl; have hcz31_2 : w30.cell? ⟨gb198, 2, none⟩ = some (.int .i64 x199002_2) := (blk_cell BK198.out 2).trans rfl; have hcz31_3 : w30.cell? ⟨gb198, 3, none⟩ = some (.int .i64 x199003_2) := (blk_cell BK198.out 3).trans rfl; have hcz31_4 : w30.cell? ⟨gb198, 4, none⟩ = some (.bool x199004_2) := (blk_cell BK198.out 4).trans rfl; have hfz31_0 := blk_frozen BK198.out 0; have hfz31_1 := blk_frozen BK198.out 1; have hfz31_2 := blk_frozen BK198.out 2; have hfz31_3 := blk_frozen BK198.out 3; have hfz31_4 := blk_frozen BK198.out 4) | ((with_reducible refine gate_callee (f := 17) rfl ?_); refine goesL_ (some 58) rfl rfl Try.func17 (by kernel_rfl) rfl #[.agg #[.int .i64 t201, .int .i64 t202, .int .i64 t203, .int .i64 t204, .bool true], .int .i64 a1] rfl (by (try simp only [List.map_toArray, List.map_cons, List.map_nil]); first | done | rfl | (simp only [List.length_drop, List.length_take]; rfl)) ?_; (with_reducible refine (trickleref08_Draw.calls t201 t202 t203 t204 true a1 t207 t208 t209 t210 true t212 _ A23.out).mono ?_); rintro e w32 ⟨rfl, hb⟩; refine ⟨_, rfl, ?_⟩; have n0_ := Aside0.mk (Kd.R_below (by (with_reducible repeat (first | apply Kd.R_alloc | apply Kd.R_drewN | apply Kd.R_drew)); exact (Kd.R_mono (Kd.R_far (p := ⟨gb198, 4, none⟩) (Kd.R_far (p := ⟨gb198, 3, none⟩) (Kd.R_far (p := ⟨gb198, 2, none⟩) (Kd.R_far (p := ⟨gb198, 1, none⟩) (Kd.R_far (p := ⟨gb198, 0, none⟩) (Kd.R_types HO_9.out BK198.out (by decide)) (fun _ hk => hk.2) (.int .i64 t201)) (fun _ hk => hk.2) (.int .i64 t202)) (fun _ hk => hk.2) (.int .i64 t203)) (fun _ hk => hk.2) (.int .i64 t204)) (fun _ hk => hk.2) (.bool true)) (fun _ h_ => h_.1))) hb); have n1_ := Aside0.mk (blk_below (g := gb196) (o := .cells #[.int .i64 a0_0, .int .i64 a0_1, .int .i64 a0_2] 23 (0, 0)) (by (with_reducible repeat (first | refine blk_drewN ?_ _ | refine blk_drew ?_ | refine blk_alloc ?_ _)); refine blk_far ?_ NB196_198.out _; (with_reducible repeat (first | refine blk_drewN ?_ _ | refine blk_drew ?_ | refine blk_alloc ?_ _)); refine blk_far ?_ NB196_198.out _; (with_reducible repeat (first | refine blk_drewN ?_ _ | refine blk_drew ?_ | refine blk_alloc ?_ _)); refine blk_far ?_ NB196_198.out _; (with_reducible repeat (first | refine blk_drewN ?_ _ | refine blk_drew ?_ | refine blk_alloc ?_ _)); refine blk_far ?_ NB196_198.out _; (with_reducible repeat (first | refine blk_drewN ?_ _ | refine blk_drew ?_ | refine blk_alloc ?_ _)); refine blk_far ?_ NB196_198.out _; (with_reducible repeat (first | refine blk_drewN ?_ _ | refine blk_drew ?_ | refine blk_alloc ?_ _)); exact BK196.out) hb); have n2_ := Aside0.mk (blk_below (g := gb198) (o := .cells #[.int .i64 t201, .int .i64 t202, .int .i64 t203, .int .i64 t204, .bool true] 40 (0, 0)) (by (with_reducible repeat (first | refine blk_drewN ?_ _ | refine blk_drew ?_ | refine blk_alloc ?_ _)); refine blk_put (cs := #[.int .i64 t201, .int .i64 t202, .int .i64 t203, .int .i64 t204, .bool x199004_2]) ?_ 4 _ rfl; (with_reducible repeat (first | refine blk_drewN ?_ _ | refine blk_drew ?_ | refine blk_alloc ?_ _)); refine blk_put (cs := #[.int .i64 t201, .int .i64 t202, .int .i64 t203, .int .i64 x199003_2, .bool x199004_2]) ?_ 3 _ rfl; (with_reducible repeat (first | refine blk_drewN ?_ _ | refine blk_drew ?_ | refine blk_alloc ?_ _)); refine blk_put (cs := #[.int .i64 t201, .int .i64 t202, .int .i64 x199002_2, .int .i64 x199003_2, .bool x199004_2]) ?_ 2 _ rfl; (with_reducible repeat (first | refine blk_drewN ?_ _ | refine blk_drew ?_ | refine blk_alloc ?_ _)); refine blk_put (cs := #[.int .i64 t201, .int .i64 x199001_2, .int .i64 x199002_2, .int .i64 x199003_2, .bool x199004_2]) ?_ 1 _ rfl; (with_reducible repeat (first | refine blk_drewN ?_ _ | refine blk_drew ?_ | refine blk_alloc ?_ _)); refine blk_put (cs := #[.int .i64 x199000_2, .int .i64 x199001_2, .int .i64 x199002_2, .int .i64 x199003_2, .bool x199004_2]) ?_ 0 _ rfl; (with_reducible repeat (first | refine blk_drewN ?_ _ | refine blk_drew ?_ | refine blk_alloc ?_ _)); exact BK198.out) hb); have n3_ := Aside0.mk (blk_below (g := gb200) (o := .cells #[.int .i64 ((rd_T57 l2 x22_1).f0), .int .i64 ((rd_T57 l2 x22_1).f1)] 57 (0, 0)) (by (with_reducible repeat (first | refine blk_drewN ?_ _ | refine blk_drew ?_ | refine blk_alloc ?_ _)); refine blk_far ?_ NB200_198.out _; (with_reducible repeat (first | refine blk_drewN ?_ _ | refine blk_drew ?_ | refine blk_alloc ?_ _)); refine blk_far ?_ NB200_198.out _; (with_reducible repeat (first | refine blk_drewN ?_ _ | refine blk_drew ?_ | refine blk_alloc ?_ _)); refine blk_far ?_ NB200_198.out _; (with_reducible repeat (first | refine blk_drewN ?_ _ | refine blk_drew ?_ | refine blk_alloc ?_ _)); refine blk_far ?_ NB200_198.out _; (with_reducible repeat (first | refine blk_drewN ?_ _ | refine blk_drew ?_ | refine blk_alloc ?_ _)); refine blk_far ?_ NB200_198.out _; (with_reducible repeat (first | refine blk_drewN ?_ _ | refine blk_drew ?_ | refine blk_alloc ?_ _)); exact BK200.out) hb); have n4_ := Aside0.mk (below_step (by repeat (first | (with_reducible first | exact HB.out | apply below_alloc | apply pw_below_drewN | apply below_drew1 | refine below_set ?_ GE196.out | refine below_set ?_ GE198.out | refine below_set ?_ GE200.out) | exact HB.out)) hb); clear HO_9; clear BK196; clear BK198; clear BK200; clear HB; have HO_9 := n0_; have BK196 := n1_; have BK198 := n2_; have BK200 := n3_; have HB := n4_; clear n0_ n1_ n2_ n3_ n4_; (try clear hb); (try clear hb2); (try clear hk); (try clear hi); have hcz33_0 : w32.cell? ⟨gb198, 0, none⟩ = some (.int .i64 t201) := (blk_cell BK198.out 0).trans rfl; have hcz33_1 : w32.cell? ⟨gb198, 1, none⟩ = some (.int .i64 t202) := (blk_cell BK198.out 1).trans rfl; have hcz33_2 : w32.cell? ⟨gb198, 2, none⟩ = some (.int .i64 t203) := (blk_cell BK198.out 2).trans rfl; have hcz33_3 : w32.cell? ⟨gb198, 3, none⟩ = some (.int .i64 t204) := (blk_cell BK198.out 3).trans rfl; have hcz33_4 : w32.cell? ⟨gb198, 4, none⟩ = some (.bool true) := (blk_cell BK198.out 4).trans rfl; have hfz33_0 := blk_frozen BK198.out 0; have hfz33_1 := blk_frozen BK198.out 1; have hfz33_2 := blk_frozen BK198.out 2; have hfz33_3 := blk_frozen BK198.out 3; have hfz33_4 := blk_frozen BK198.out 4))
                        go_roundg k2
                        case measure => have := HK1.out; have := HK2.out; omega
                        case rel => exact ⟨(x9_2), (wrap64 (x10_2 + 1)), (wrap64 (x28_2 + 1)), (t207), (t208), (t209), (t210), (true), (by first | rfl | (simp; done) | (simp [*]; done)), (by first | rfl | (simp; done) | (simp [*]; done)), H', ⟨by have := HK1.out; have := HK2.out; omega⟩, ⟨by (with_reducible repeat (first | apply Kd.R_alloc | apply Kd.R_drewN | apply Kd.R_drew)); exact Kd.R_mono (Kd.R_far (p := ⟨gb198, 4, none⟩) (Kd.R_far (p := ⟨gb198, 3, none⟩) (Kd.R_far (p := ⟨gb198, 2, none⟩) (Kd.R_far (p := ⟨gb198, 1, none⟩) (Kd.R_far (p := ⟨gb198, 0, none⟩) (Kd.R_types HO_9.out BK198.out (by decide)) (fun _ hk => hk.2) (.int .i64 t207)) (fun _ hk => hk.2) (.int .i64 t208)) (fun _ hk => hk.2) (.int .i64 t209)) (fun _ hk => hk.2) (.int .i64 t210)) (fun _ hk => hk.2) (.bool true)) (fun _ hk => trivial)⟩, ⟨by (with_reducible repeat (first | refine blk_drewN ?_ _ | refine blk_drew ?_ | refine blk_alloc ?_ _)); refine blk_far ?_ NB196_198.out _; (with_reducible repeat (first | refine blk_drewN ?_ _ | refine blk_drew ?_ | refine blk_alloc ?_ _)); refine blk_far ?_ NB196_198.out _; (with_reducible repeat (first | refine blk_drewN ?_ _ | refine blk_drew ?_ | refine blk_alloc ?_ _)); refine blk_far ?_ NB196_198.out _; (with_reducible repeat (first | refine blk_drewN ?_ _ | refine blk_drew ?_ | refine blk_alloc ?_ _)); refine blk_far ?_ NB196_198.out _; (with_reducible repeat (first | refine blk_drewN ?_ _ | refine blk_drew ?_ | refine blk_alloc ?_ _)); refine blk_far ?_ NB196_198.out _; (with_reducible repeat (first | refine blk_drewN ?_ _ | refine blk_drew ?_ | refine blk_alloc ?_ _)); exact BK196.out⟩, ⟨by (with_reducible repeat (first | refine blk_drewN ?_ _ | refine blk_drew ?_ | refine blk_alloc ?_ _)); refine blk_put (cs := #[.int .i64 t207, .int .i64 t208, .int .i64 t209, .int .i64 t210, .bool true]) ?_ 4 _ rfl; (with_reducible repeat (first | refine blk_drewN ?_ _ | refine blk_drew ?_ | refine blk_alloc ?_ _)); refine blk_put (cs := #[.int .i64 t207, .int .i64 t208, .int .i64 t209, .int .i64 t204, .bool true]) ?_ 3 _ rfl; (with_reducible repeat (first | refine blk_drewN ?_ _ | refine blk_drew ?_ | refine blk_alloc ?_ _)); refine blk_put (cs := #[.int .i64 t207, .int .i64 t208, .int .i64 t203, .int .i64 t204, .bool true]) ?_ 2 _ rfl; (with_reducible repeat (first | refine blk_drewN ?_ _ | refine blk_drew ?_ | refine blk_alloc ?_ _)); refine blk_put (cs := #[.int .i64 t207, .int .i64 t202, .int .i64 t203, .int .i64 t204, .bool true]) ?_ 1 _ rfl; (with_reducible repeat (first | refine blk_drewN ?_ _ | refine blk_drew ?_ | refine blk_alloc ?_ _)); refine blk_put (cs := #[.int .i64 t201, .int .i64 t202, .int .i64 t203, .int .i64 t204, .bool true]) ?_ 0 _ rfl; (with_reducible repeat (first | refine blk_drewN ?_ _ | refine blk_drew ?_ | refine blk_alloc ?_ _)); exact BK198.out⟩, ⟨by (with_reducible repeat (first | refine blk_drewN ?_ _ | refine blk_drew ?_ | refine blk_alloc ?_ _)); refine blk_far ?_ NB200_198.out _; (with_reducible repeat (first | refine blk_drewN ?_ _ | refine blk_drew ?_ | refine blk_alloc ?_ _)); refine blk_far ?_ NB200_198.out _; (with_reducible repeat (first | refine blk_drewN ?_ _ | refine blk_drew ?_ | refine blk_alloc ?_ _)); refine blk_far ?_ NB200_198.out _; (with_reducible repeat (first | refine blk_drewN ?_ _ | refine blk_drew ?_ | refine blk_alloc ?_ _)); refine blk_far ?_ NB200_198.out _; (with_reducible repeat (first | refine blk_drewN ?_ _ | refine blk_drew ?_ | refine blk_alloc ?_ _)); refine blk_far ?_ NB200_198.out _; (with_reducible repeat (first | refine blk_drewN ?_ _ | refine blk_drew ?_ | refine blk_alloc ?_ _)); exact BK200.out⟩, ⟨by repeat (first | (with_reducible first | exact HB.out | apply below_alloc | apply pw_below_drewN | apply below_drew1 | refine below_set ?_ GE196.out | refine below_set ?_ GE198.out | refine below_set ?_ GE200.out) | exact HB.out)⟩⟩
                      · replace c24 := Bool.eq_false_iff.mpr c24
                        subst c24
                        have H1 : (if x9_2.length < 8796093022208 then (trickleref08_Schedule.l1 k2 a1 (x9_2 ++ [(⟨wrap64 (a1 * (wrap64 (x10_2 + 1))), 0⟩ : S67)]) 0 l2 (l2.length : Int) x22_1 ((rd_T57 l2 x22_1).f1) (wrap64 (x28_2 + 1)) t207 t208 t209 t210 false ((rd_T57 l2 x22_1).f0) ((rd_T57 l2 x22_1).f1)) else (none)) = some (r1, r2) := by rw [if_neg (show ¬ (false = true) by decide)] at H; exact H
                        clear H
                        have H := H1
                        clear H1
                        by_cases c34 : x9_2.length < 8796093022208
                        · rw [if_pos c34] at H
                          have LMc34 := Aside0.mk c34
                          clear c34
                          obtain ⟨y213, hy213⟩ : ∃ y_ : List (S67), y_ = (x9_2 ++ [(⟨wrap64 (a1 * (wrap64 (x10_2 + 1))), 0⟩ : S67)]) := ⟨_, rfl⟩
                          replace H : (trickleref08_Schedule.l1 k2 a1 y213 0 l2 (l2.length : Int) x22_1 ((rd_T57 l2 x22_1).f1) (wrap64 (x28_2 + 1)) t207 t208 t209 t210 false ((rd_T57 l2 x22_1).f0) ((rd_T57 l2 x22_1).f1)) = some (r1, r2) := by first | (rw [hy213]; with_reducible exact H) | (have H2_ := (Option.bind_some _ _).symm.trans H; rw [hy213]; with_reducible exact H2_) | (have H2_ := (Option.bind_some _ _).symm.trans H; with_reducible exact H2_) | with_reducible exact H | (rw [hy213]; exact H) | exact H
                          have Ny213 := Aside0.mk hy213
                          clear hy213
                          have H' := Aside0.mk H
                          clear H
                          have hnb35 := NB198_196.out
                          have hnc35 := NB196_198.out
                          have hnb36 := NB198_200.out
                          have hnc36 := NB200_198.out
                          have hcz37_0 : wr.cell? ⟨gb198, 0, none⟩ = some (.int .i64 x199000_2) := (blk_cell BK198.out 0).trans rfl
                          have hcz37_1 : wr.cell? ⟨gb198, 1, none⟩ = some (.int .i64 x199001_2) := (blk_cell BK198.out 1).trans rfl
                          have hcz37_2 : wr.cell? ⟨gb198, 2, none⟩ = some (.int .i64 x199002_2) := (blk_cell BK198.out 2).trans rfl
                          have hcz37_3 : wr.cell? ⟨gb198, 3, none⟩ = some (.int .i64 x199003_2) := (blk_cell BK198.out 3).trans rfl
                          have hcz37_4 : wr.cell? ⟨gb198, 4, none⟩ = some (.bool x199004_2) := (blk_cell BK198.out 4).trans rfl
                          have hfz37_0 := blk_frozen BK198.out 0
                          have hfz37_1 := blk_frozen BK198.out 1
                          have hfz37_2 := blk_frozen BK198.out 2
                          have hfz37_3 := blk_frozen BK198.out 3
                          have hfz37_4 := blk_frozen BK198.out 4
                          have hnb38 := NB200_196.out
                          have hnc38 := NB196_200.out
                          have hcz39_0 : wr.cell? ⟨gb200, 0, none⟩ = some (.int .i64 ((rd_T57 l2 x22_1).f0)) := (blk_cell BK200.out 0).trans rfl
                          have hcz39_1 : wr.cell? ⟨gb200, 1, none⟩ = some (.int .i64 ((rd_T57 l2 x22_1).f1)) := (blk_cell BK200.out 1).trans rfl
                          have hfz39_0 := blk_frozen BK200.out 0
                          have hfz39_1 := blk_frozen BK200.out 1
                          go_wp2_with (first | ((with_reducible refine gate_callee (f := 18) rfl ?_); refine goesL_ (some 34) rfl rfl Try.func18 (by kernel_rfl) rfl #[.agg #[.int .i64 x199000_2, .int .i64 x199001_2, .int .i64 x199002_2, .int .i64 x199003_2, .bool x199004_2], .int .i64 ((rd_T57 l2 x22_1).f0), .int .i64 1] rfl (by (try simp only [List.map_toArray, List.map_cons, List.map_nil]); first | done | rfl | (simp only [List.length_drop, List.length_take]; rfl)) ?_; (with_reducible refine (trickleref08_Harvest.calls x199000_2 x199001_2 x199002_2 x199003_2 x199004_2 ((rd_T57 l2 x22_1).f0) 1 t201 t202 t203 t204 true t206 _ A21.out).mono ?_); rintro e w40 ⟨rfl, hb⟩; refine ⟨_, rfl, ?_⟩; have n0_ := Aside0.mk (Kd.R_below (by (with_reducible repeat (first | apply Kd.R_alloc | apply Kd.R_drewN | apply Kd.R_drew)); exact HO_9.out) hb); have n1_ := Aside0.mk (blk_below (g := gb196) (o := .cells #[.int .i64 a0_0, .int .i64 a0_1, .int .i64 a0_2] 23 (0, 0)) (by (with_reducible repeat (first | refine blk_drewN ?_ _ | refine blk_drew ?_ | refine blk_alloc ?_ _)); exact BK196.out) hb); have n2_ := Aside0.mk (blk_below (g := gb198) (o := .cells #[.int .i64 x199000_2, .int .i64 x199001_2, .int .i64 x199002_2, .int .i64 x199003_2, .bool x199004_2] 40 (0, 0)) (by (with_reducible repeat (first | refine blk_drewN ?_ _ | refine blk_drew ?_ | refine blk_alloc ?_ _)); exact BK198.out) hb); have n3_ := Aside0.mk (blk_below (g := gb200) (o := .cells #[.int .i64 ((rd_T57 l2 x22_1).f0), .int .i64 ((rd_T57 l2 x22_1).f1)] 57 (0, 0)) (by (with_reducible repeat (first | refine blk_drewN ?_ _ | refine blk_drew ?_ | refine blk_alloc ?_ _)); exact BK200.out) hb); have n4_ := Aside0.mk (below_step (by repeat (first | (with_reducible first | exact HB.out | apply below_alloc | apply pw_below_drewN | apply below_drew1 | refine below_set ?_ GE196.out | refine below_set ?_ GE198.out | refine below_set ?_ GE200.out) | exact HB.out)) hb); clear HO_9; clear BK196; clear BK198; clear BK200; clear HB; have HO_9 := n0_; have BK196 := n1_; have BK198 := n2_; have BK200 := n3_; have HB := n4_; clear n0_ n1_ n2_ n3_ n4_; (try clear hb); (try clear hb2); (try clear hk); (try clear hi); have hcz41_0 : w40.cell? ⟨gb198, 0, none⟩ = some (.int .i64 x199000_2) := (blk_cell BK198.out 0).trans rfl; have hcz41_1 : w40.cell? ⟨gb198, 1, none⟩ = some (.int .i64 x199001_2) := (blk_cell BK198.out 1).trans rfl; have hcz41_2 : w40.cell? ⟨gb198, 2, none⟩ = some (.int .i64 x199002_2) := (blk_cell BK198.out 2).trans rfl; have hcz41_3 : w40.cell? ⟨gb198, 3, none⟩ = some (.int .i64 x199003_2) := (blk_cell BK198.out 3).trans rfl; have hcz41_4 : w40.cell? ⟨gb198, 4, none⟩ = some (.bool x199004_2) := (blk_cell BK198.out 4).trans rfl; have hfz41_0 := blk_frozen BK198.out 0; have hfz41_1 := blk_frozen BK198.out 1; have hfz41_2 := blk_frozen BK198.out 2; have hfz41_3 := blk_frozen BK198.out 3; have hfz41_4 := blk_frozen BK198.out 4) | ((with_reducible refine gate_callee (f := 17) rfl ?_); refine goesL_ (some 58) rfl rfl Try.func17 (by kernel_rfl) rfl #[.agg #[.int .i64 t201, .int .i64 t202, .int .i64 t203, .int .i64 t204, .bool true], .int .i64 a1] rfl (by (try simp only [List.map_toArray, List.map_cons, List.map_nil]); first | done | rfl | (simp only [List.length_drop, List.length_take]; rfl)) ?_; (with_reducible refine (trickleref08_Draw.calls t201 t202 t203 t204 true a1 t207 t208 t209 t210 false t212 _ A23.out).mono ?_); rintro e w42 ⟨rfl, hb⟩; refine ⟨_, rfl, ?_⟩; have n0_ := Aside0.mk (Kd.R_below (by (with_reducible repeat (first | apply Kd.R_alloc | apply Kd.R_drewN | apply Kd.R_drew)); exact (Kd.R_mono (Kd.R_far (p := ⟨gb198, 4, none⟩) (Kd.R_far (p := ⟨gb198, 3, none⟩) (Kd.R_far (p := ⟨gb198, 2, none⟩) (Kd.R_far (p := ⟨gb198, 1, none⟩) (Kd.R_far (p := ⟨gb198, 0, none⟩) (Kd.R_types HO_9.out BK198.out (by decide)) (fun _ hk => hk.2) (.int .i64 t201)) (fun _ hk => hk.2) (.int .i64 t202)) (fun _ hk => hk.2) (.int .i64 t203)) (fun _ hk => hk.2) (.int .i64 t204)) (fun _ hk => hk.2) (.bool true)) (fun _ h_ => h_.1))) hb); have n1_ := Aside0.mk (blk_below (g := gb196) (o := .cells #[.int .i64 a0_0, .int .i64 a0_1, .int .i64 a0_2] 23 (0, 0)) (by (with_reducible repeat (first | refine blk_drewN ?_ _ | refine blk_drew ?_ | refine blk_alloc ?_ _)); refine blk_far ?_ NB196_198.out _; (with_reducible repeat (first | refine blk_drewN ?_ _ | refine blk_drew ?_ | refine blk_alloc ?_ _)); refine blk_far ?_ NB196_198.out _; (with_reducible repeat (first | refine blk_drewN ?_ _ | refine blk_drew ?_ | refine blk_alloc ?_ _)); refine blk_far ?_ NB196_198.out _; (with_reducible repeat (first | refine blk_drewN ?_ _ | refine blk_drew ?_ | refine blk_alloc ?_ _)); refine blk_far ?_ NB196_198.out _; (with_reducible repeat (first | refine blk_drewN ?_ _ | refine blk_drew ?_ | refine blk_alloc ?_ _)); refine blk_far ?_ NB196_198.out _; (with_reducible repeat (first | refine blk_drewN ?_ _ | refine blk_drew ?_ | refine blk_alloc ?_ _)); exact BK196.out) hb); have n2_ := Aside0.mk (blk_below (g := gb198) (o := .cells #[.int .i64 t201, .int .i64 t202, .int .i64 t203, .int .i64 t204, .bool true] 40 (0, 0)) (by (with_reducible repeat (first | refine blk_drewN ?_ _ | refine blk_drew ?_ | refine blk_alloc ?_ _)); refine blk_put (cs := #[.int .i64 t201, .int .i64 t202, .int .i64 t203, .int .i64 t204, .bool x199004_2]) ?_ 4 _ rfl; (with_reducible repeat (first | refine blk_drewN ?_ _ | refine blk_drew ?_ | refine blk_alloc ?_ _)); refine blk_put (cs := #[.int .i64 t201, .int .i64 t202, .int .i64 t203, .int .i64 x199003_2, .bool x199004_2]) ?_ 3 _ rfl; (with_reducible repeat (first | refine blk_drewN ?_ _ | refine blk_drew ?_ | refine blk_alloc ?_ _)); refine blk_put (cs := #[.int .i64 t201, .int .i64 t202, .int .i64 x199002_2, .int .i64 x199003_2, .bool x199004_2]) ?_ 2 _ rfl; (with_reducible repeat (first | refine blk_drewN ?_ _ | refine blk_drew ?_ | refine blk_alloc ?_ _)); refine blk_put (cs := #[.int .i64 t201, .int .i64 x199001_2, .int .i64 x199002_2, .int .i64 x199003_2, .bool x199004_2]) ?_ 1 _ rfl; (with_reducible repeat (first | refine blk_drewN ?_ _ | refine blk_drew ?_ | refine blk_alloc ?_ _)); refine blk_put (cs := #[.int .i64 x199000_2, .int .i64 x199001_2, .int .i64 x199002_2, .int .i64 x199003_2, .bool x199004_2]) ?_ 0 _ rfl; (with_reducible repeat (first | refine blk_drewN ?_ _ | refine blk_drew ?_ | refine blk_alloc ?_ _)); exact BK198.out) hb); have n3_ := Aside0.mk (blk_below (g := gb200) (o := .cells #[.int .i64 ((rd_T57 l2 x22_1).f0), .int .i64 ((rd_T57 l2 x22_1).f1)] 57 (0, 0)) (by (with_reducible repeat (first | refine blk_drewN ?_ _ | refine blk_drew ?_ | refine blk_alloc ?_ _)); refine blk_far ?_ NB200_198.out _; (with_reducible repeat (first | refine blk_drewN ?_ _ | refine blk_drew ?_ | refine blk_alloc ?_ _)); refine blk_far ?_ NB200_198.out _; (with_reducible repeat (first | refine blk_drewN ?_ _ | refine blk_drew ?_ | refine blk_alloc ?_ _)); refine blk_far ?_ NB200_198.out _; (with_reducible repeat (first | refine blk_drewN ?_ _ | refine blk_drew ?_ | refine blk_alloc ?_ _)); refine blk_far ?_ NB200_198.out _; (with_reducible repeat (first | refine blk_drewN ?_ _ | refine blk_drew ?_ | refine blk_alloc ?_ _)); refine blk_far ?_ NB200_198.out _; (with_reducible repeat (first | refine blk_drewN ?_ _ | refine blk_drew ?_ | refine blk_alloc ?_ _)); exact BK200.out) hb); have n4_ := Aside0.mk (below_step (by repeat (first | (with_reducible first | exact HB.out | apply below_alloc | apply pw_below_drewN | apply below_drew1 | refine below_set ?_ GE196.out | refine below_set ?_ GE198.out | refine below_set ?_ GE200.out) | exact HB.out)) hb); clear HO_9; clear BK196; clear BK198; clear BK200; clear HB; have HO_9 := n0_; have BK196 := n1_; have BK198 := n2_; have BK200 := n3_; have HB := n4_; clear n0_ n1_ n2_ n3_ n4_; (try clear hb); (try clear hb2); (try clear hk); (try clear hi); have hcz43_0 : w42.cell? ⟨gb198, 0, none⟩ = some (.int .i64 t201) := (blk_cell BK198.out 0).trans rfl; have hcz43_1 : w42.cell? ⟨gb198, 1, none⟩ = some (.int .i64 t202) := (blk_cell BK198.out 1).trans rfl; have hcz43_2 : w42.cell? ⟨gb198, 2, none⟩ = some (.int .i64 t203) := (blk_cell BK198.out 2).trans rfl; have hcz43_3 : w42.cell? ⟨gb198, 3, none⟩ = some (.int .i64 t204) := (blk_cell BK198.out 3).trans rfl; have hcz43_4 : w42.cell? ⟨gb198, 4, none⟩ = some (.bool true) := (blk_cell BK198.out 4).trans rfl; have hfz43_0 := blk_frozen BK198.out 0; have hfz43_1 := blk_frozen BK198.out 1; have hfz43_2 := blk_frozen BK198.out 2; have hfz43_3 := blk_frozen BK198.out 3; have hfz43_4 := blk_frozen BK198.out 4) | ((with_reducible refine gate_builtin (b := .append) (xs := #[.tmp 64, .tmp 69]) rfl ?_); at_builtin; refine Kd.R_append k67 (w0 := w) w.heap.size rfl (.tmp 64) (.tmp 69) 61 67 (.agg #[(.int .i64 0), (.int .i64 0)]) 16 rfl Try.underlying61 info67 rfl (by decide) (by omega) u9 x9_2 (⟨wrap64 (a1 * (wrap64 (x10_2 + 1))), 0⟩ : S67) [.int .i64 (wrap64 (a1 * (wrap64 (x10_2 + 1)))), .int .i64 0] (fun _ => True) (fun _ => False) rfl (by first | (go_simp; done) | (go_simp; rfl)) ?aP (fun _ hk => hk.elim) ?aF ?aO ?aB ?aS ?aL ?_; (case aP => exact k67_mkM _ _ _ (⟨wrap64 (a1 * (wrap64 (x10_2 + 1))), 0⟩ : S67)); (case aB => exact (by repeat (first | (with_reducible first | exact HB.out | apply below_alloc | apply pw_below_drewN | apply below_drew1 | refine below_set ?_ GE196.out | refine below_set ?_ GE198.out | refine below_set ?_ GE200.out) | exact HB.out))); (case aF => exact (fun _ _ => trivial)); (case aO => exact (by (with_reducible repeat (first | apply Kd.R_alloc | apply Kd.R_drewN | apply Kd.R_drew)); exact Kd.R_mono (Kd.R_far (p := ⟨gb198, 4, none⟩) (Kd.R_far (p := ⟨gb198, 3, none⟩) (Kd.R_far (p := ⟨gb198, 2, none⟩) (Kd.R_far (p := ⟨gb198, 1, none⟩) (Kd.R_far (p := ⟨gb198, 0, none⟩) (Kd.R_types HO_9.out BK198.out (by decide)) (fun _ hk => hk.2) (.int .i64 t207)) (fun _ hk => hk.2) (.int .i64 t208)) (fun _ hk => hk.2) (.int .i64 t209)) (fun _ hk => hk.2) (.int .i64 t210)) (fun _ hk => hk.2) (.bool false)) (fun _ hk => trivial))); (case aS => exact (below_size (by repeat (first | (with_reducible first | exact HB.out | apply below_alloc | apply pw_below_drewN | apply below_drew1 | refine below_set ?_ GE196.out | refine below_set ?_ GE198.out | refine below_set ?_ GE200.out) | exact HB.out)))); (case aL => have := LMc34.out; omega); intro v214 w44 ho hb hg hat; rw [← Ny213.out] at ho; have n0_ := Aside0.mk (blk_grown (g := gb196) (o := .cells #[.int .i64 a0_0, .int .i64 a0_1, .int .i64 a0_2] 23 (0, 0)) (by (with_reducible repeat (first | refine blk_drewN ?_ _ | refine blk_drew ?_ | refine blk_alloc ?_ _)); refine blk_far ?_ NB196_198.out _; (with_reducible repeat (first | refine blk_drewN ?_ _ | refine blk_drew ?_ | refine blk_alloc ?_ _)); refine blk_far ?_ NB196_198.out _; (with_reducible repeat (first | refine blk_drewN ?_ _ | refine blk_drew ?_ | refine blk_alloc ?_ _)); refine blk_far ?_ NB196_198.out _; (with_reducible repeat (first | refine blk_drewN ?_ _ | refine blk_drew ?_ | refine blk_alloc ?_ _)); refine blk_far ?_ NB196_198.out _; (with_reducible repeat (first | refine blk_drewN ?_ _ | refine blk_drew ?_ | refine blk_alloc ?_ _)); refine blk_far ?_ NB196_198.out _; (with_reducible repeat (first | refine blk_drewN ?_ _ | refine blk_drew ?_ | refine blk_alloc ?_ _)); exact BK196.out) hg (Kd.R_ne HO_9.out BK196.out (by decide))); have n1_ := Aside0.mk (blk_grown (g := gb198) (o := .cells #[.int .i64 t207, .int .i64 t208, .int .i64 t209, .int .i64 t210, .bool false] 40 (0, 0)) (by (with_reducible repeat (first | refine blk_drewN ?_ _ | refine blk_drew ?_ | refine blk_alloc ?_ _)); refine blk_put (cs := #[.int .i64 t207, .int .i64 t208, .int .i64 t209, .int .i64 t210, .bool true]) ?_ 4 _ rfl; (with_reducible repeat (first | refine blk_drewN ?_ _ | refine blk_drew ?_ | refine blk_alloc ?_ _)); refine blk_put (cs := #[.int .i64 t207, .int .i64 t208, .int .i64 t209, .int .i64 t204, .bool true]) ?_ 3 _ rfl; (with_reducible repeat (first | refine blk_drewN ?_ _ | refine blk_drew ?_ | refine blk_alloc ?_ _)); refine blk_put (cs := #[.int .i64 t207, .int .i64 t208, .int .i64 t203, .int .i64 t204, .bool true]) ?_ 2 _ rfl; (with_reducible repeat (first | refine blk_drewN ?_ _ | refine blk_drew ?_ | refine blk_alloc ?_ _)); refine blk_put (cs := #[.int .i64 t207, .int .i64 t202, .int .i64 t203, .int .i64 t204, .bool true]) ?_ 1 _ rfl; (with_reducible repeat (first | refine blk_drewN ?_ _ | refine blk_drew ?_ | refine blk_alloc ?_ _)); refine blk_put (cs := #[.int .i64 t201, .int .i64 t202, .int .i64 t203, .int .i64 t204, .bool true]) ?_ 0 _ rfl; (with_reducible repeat (first | refine blk_drewN ?_ _ | refine blk_drew ?_ | refine blk_alloc ?_ _)); exact BK198.out) hg (Kd.R_ne HO_9.out BK198.out (by decide))); have n2_ := Aside0.mk (blk_grown (g := gb200) (o := .cells #[.int .i64 ((rd_T57 l2 x22_1).f0), .int .i64 ((rd_T57 l2 x22_1).f1)] 57 (0, 0)) (by (with_reducible repeat (first | refine blk_drewN ?_ _ | refine blk_drew ?_ | refine blk_alloc ?_ _)); refine blk_far ?_ NB200_198.out _; (with_reducible repeat (first | refine blk_drewN ?_ _ | refine blk_drew ?_ | refine blk_alloc ?_ _)); refine blk_far ?_ NB200_198.out _; (with_reducible repeat (first | refine blk_drewN ?_ _ | refine blk_drew ?_ | refine blk_alloc ?_ _)); refine blk_far ?_ NB200_198.out _; (with_reducible repeat (first | refine blk_drewN ?_ _ | refine blk_drew ?_ | refine blk_alloc ?_ _)); refine blk_far ?_ NB200_198.out _; (with_reducible repeat (first | refine blk_drewN ?_ _ | refine blk_drew ?_ | refine blk_alloc ?_ _)); refine blk_far ?_ NB200_198.out _; (with_reducible repeat (first | refine blk_drewN ?_ _ | refine blk_drew ?_ | refine blk_alloc ?_ _)); exact BK200.out) hg (Kd.R_ne HO_9.out BK200.out (by decide))); have n3_ := Aside0.mk (hb); have n4_ := Aside0.mk (ho); clear BK196; clear BK198; clear BK200; clear HB; clear HO_9; have BK196 := n0_; have BK198 := n1_; have BK200 := n2_; have HB := n3_; have HO215 := n4_; clear n0_ n1_ n2_ n3_ n4_; clear ho hb hg hat))
                          go_roundg k2
                          case measure => have := HK1.out; have := HK2.out; omega
                          case rel => exact ⟨(y213), (0), (wrap64 (x28_2 + 1)), (t207), (t208), (t209), (t210), (false), (by first | rfl | (simp; done) | (simp [*]; done)), (by first | rfl | (simp; done) | (simp [*]; done)), H', ⟨by have := HK1.out; have := HK2.out; omega⟩, ⟨by (with_reducible repeat (first | apply Kd.R_alloc | apply Kd.R_drewN | apply Kd.R_drew)); exact HO215.out⟩, ⟨by (with_reducible repeat (first | refine blk_drewN ?_ _ | refine blk_drew ?_ | refine blk_alloc ?_ _)); exact BK196.out⟩, ⟨by (with_reducible repeat (first | refine blk_drewN ?_ _ | refine blk_drew ?_ | refine blk_alloc ?_ _)); exact BK198.out⟩, ⟨by (with_reducible repeat (first | refine blk_drewN ?_ _ | refine blk_drew ?_ | refine blk_alloc ?_ _)); exact BK200.out⟩, ⟨by repeat (first | (with_reducible first | exact HB.out | apply below_alloc | apply pw_below_drewN | apply below_drew1 | refine below_set ?_ GE196.out | refine below_set ?_ GE198.out | refine below_set ?_ GE200.out) | exact HB.out)⟩⟩
                        · rw [if_neg c34] at H
                          exact absurd H (by simp)
                    · replace c22 := Bool.eq_false_iff.mpr c22
                      subst c22
                      have H1 : (if (x9_2.length : Int) > 0 then (if 0 ≤ (wrap64 ((x9_2.length : Int) - 1)) then (if (wrap64 ((x9_2.length : Int) - 1)) < (x9_2.length : Int) then (trickleref08_Schedule.l1 k2 a1 (x9_2.set ((wrap64 ((x9_2.length : Int) - 1)) : Int).toNat (⟨(rd_T67 x9_2 (wrap64 ((x9_2.length : Int) - 1))).f0, wrap64 (((rd_T67 x9_2 (wrap64 ((x9_2.length : Int) - 1))).f1) + 1)⟩ : S67)) x10_2 l2 (l2.length : Int) x22_1 ((rd_T57 l2 x22_1).f1) (wrap64 (x28_2 + 1)) t201 t202 t203 t204 false ((rd_T57 l2 x22_1).f0) ((rd_T57 l2 x22_1).f1)) else (none)) else (none)) else (trickleref08_Schedule.l1 k2 a1 x9_2 x10_2 l2 (l2.length : Int) x22_1 ((rd_T57 l2 x22_1).f1) (wrap64 (x28_2 + 1)) t201 t202 t203 t204 false ((rd_T57 l2 x22_1).f0) ((rd_T57 l2 x22_1).f1))) = some (r1, r2) := by rw [if_neg (show ¬ (false = true) by decide)] at H; exact H
                      clear H
                      have H := H1
                      clear H1
                      by_cases c45 : (x9_2.length : Int) > 0
                      · rw [if_pos c45] at H
                        have c45b0 : decide (0 < (x9_2.length : Int)) = true := decide_eq_true c45
                        have c45b1 : decide (0 < x9_2.length) = true := decide_eq_true (by omega)
                        clear c45
                        obtain ⟨ji46, hji46⟩ : ∃ j_ : Int, (wrap64 ((x9_2.length : Int) - 1)) = j_ := ⟨_, rfl⟩
                        replace H : (if 0 ≤ (ji46) then (if (ji46) < (x9_2.length : Int) then (trickleref08_Schedule.l1 k2 a1 (x9_2.set ((ji46) : Int).toNat (⟨(rd_T67 x9_2 (ji46)).f0, wrap64 (((rd_T67 x9_2 (ji46)).f1) + 1)⟩ : S67)) x10_2 l2 (l2.length : Int) x22_1 ((rd_T57 l2 x22_1).f1) (wrap64 (x28_2 + 1)) t201 t202 t203 t204 false ((rd_T57 l2 x22_1).f0) ((rd_T57 l2 x22_1).f1)) else (none)) else (none)) = some (r1, r2) := by first | (rw [hji46] at H; exact H) | (simp only [hji46] at H ⊢; exact H)
                        (try rw [hji46] at A21)
                        have hji46w : (IntKind.i64.wrap ((x9_2.length : Int) - 1)) = ji46 := (i64_w _).trans hji46
                        by_cases c47 : 0 ≤ (ji46)
                        · rw [if_pos c47] at H
                          have c47b0 : decide (0 ≤ (ji46)) = true := decide_eq_true c47
                          clear c47
                          by_cases c48 : (ji46) < (x9_2.length : Int)
                          · rw [if_pos c48] at H
                            have c48b0 : decide ((ji46) < (x9_2.length : Int)) = true := decide_eq_true c48
                            clear c48
                            obtain ⟨y217, hy217⟩ : ∃ y_ : List (S67), y_ = (x9_2.set ((ji46) : Int).toNat (⟨(rd_T67 x9_2 (ji46)).f0, wrap64 (((rd_T67 x9_2 (ji46)).f1) + 1)⟩ : S67)) := ⟨_, rfl⟩
                            replace H : (trickleref08_Schedule.l1 k2 a1 y217 x10_2 l2 (l2.length : Int) x22_1 ((rd_T57 l2 x22_1).f1) (wrap64 (x28_2 + 1)) t201 t202 t203 t204 false ((rd_T57 l2 x22_1).f0) ((rd_T57 l2 x22_1).f1)) = some (r1, r2) := by first | (rw [hy217]; with_reducible exact H) | (have H2_ := (Option.bind_some _ _).symm.trans H; rw [hy217]; with_reducible exact H2_) | (have H2_ := (Option.bind_some _ _).symm.trans H; with_reducible exact H2_) | with_reducible exact H | (rw [hy217]; exact H) | exact H
                            have Ny217 := Aside0.mk hy217
                            clear hy217
                            have H' := Aside0.mk H
                            clear H
                            have hnb50 := NB198_196.out
                            have hnc50 := NB196_198.out
                            have hnb51 := NB198_200.out
                            have hnc51 := NB200_198.out
                            have hcz52_0 : wr.cell? ⟨gb198, 0, none⟩ = some (.int .i64 x199000_2) := (blk_cell BK198.out 0).trans rfl
                            have hcz52_1 : wr.cell? ⟨gb198, 1, none⟩ = some (.int .i64 x199001_2) := (blk_cell BK198.out 1).trans rfl
                            have hcz52_2 : wr.cell? ⟨gb198, 2, none⟩ = some (.int .i64 x199002_2) := (blk_cell BK198.out 2).trans rfl
                            have hcz52_3 : wr.cell? ⟨gb198, 3, none⟩ = some (.int .i64 x199003_2) := (blk_cell BK198.out 3).trans rfl
                            have hcz52_4 : wr.cell? ⟨gb198, 4, none⟩ = some (.bool x199004_2) := (blk_cell BK198.out 4).trans rfl
                            have hfz52_0 := blk_frozen BK198.out 0
                            have hfz52_1 := blk_frozen BK198.out 1
                            have hfz52_2 := blk_frozen BK198.out 2
                            have hfz52_3 := blk_frozen BK198.out 3
                            have hfz52_4 := blk_frozen BK198.out 4
                            have hnb53 := NB200_196.out
                            have hnc53 := NB196_200.out
                            have hcz54_0 : wr.cell? ⟨gb200, 0, none⟩ = some (.int .i64 ((rd_T57 l2 x22_1).f0)) := (blk_cell BK200.out 0).trans rfl
                            have hcz54_1 : wr.cell? ⟨gb200, 1, none⟩ = some (.int .i64 ((rd_T57 l2 x22_1).f1)) := (blk_cell BK200.out 1).trans rfl
                            have hfz54_0 := blk_frozen BK200.out 0
                            have hfz54_1 := blk_frozen BK200.out 1
                            go_wp2_with (first | ((with_reducible refine gate_callee (f := 18) rfl ?_); refine goesL_ (some 34) rfl rfl Try.func18 (by kernel_rfl) rfl #[.agg #[.int .i64 x199000_2, .int .i64 x199001_2, .int .i64 x199002_2, .int .i64 x199003_2, .bool x199004_2], .int .i64 ((rd_T57 l2 x22_1).f0), .int .i64 1] rfl (by (try simp only [List.map_toArray, List.map_cons, List.map_nil]); first | done | rfl | (simp only [List.length_drop, List.length_take]; rfl)) ?_; (with_reducible refine (trickleref08_Harvest.calls x199000_2 x199001_2 x199002_2 x199003_2 x199004_2 ((rd_T57 l2 x22_1).f0) 1 t201 t202 t203 t204 false t206 _ A21.out).mono ?_); rintro e w55 ⟨rfl, hb⟩; refine ⟨_, rfl, ?_⟩; have n0_ := Aside0.mk (Kd.R_below (by (with_reducible repeat (first | apply Kd.R_alloc | apply Kd.R_drewN | apply Kd.R_drew)); exact HO_9.out) hb); have n1_ := Aside0.mk (blk_below (g := gb196) (o := .cells #[.int .i64 a0_0, .int .i64 a0_1, .int .i64 a0_2] 23 (0, 0)) (by (with_reducible repeat (first | refine blk_drewN ?_ _ | refine blk_drew ?_ | refine blk_alloc ?_ _)); exact BK196.out) hb); have n2_ := Aside0.mk (blk_below (g := gb198) (o := .cells #[.int .i64 x199000_2, .int .i64 x199001_2, .int .i64 x199002_2, .int .i64 x199003_2, .bool x199004_2] 40 (0, 0)) (by (with_reducible repeat (first | refine blk_drewN ?_ _ | refine blk_drew ?_ | refine blk_alloc ?_ _)); exact BK198.out) hb); have n3_ := Aside0.mk (blk_below (g := gb200) (o := .cells #[.int .i64 ((rd_T57 l2 x22_1).f0), .int .i64 ((rd_T57 l2 x22_1).f1)] 57 (0, 0)) (by (with_reducible repeat (first | refine blk_drewN ?_ _ | refine blk_drew ?_ | refine blk_alloc ?_ _)); exact BK200.out) hb); have n4_ := Aside0.mk (below_step (by repeat (first | (with_reducible first | exact HB.out | apply below_alloc | apply pw_below_drewN | apply below_drew1 | refine below_set ?_ GE196.out | refine below_set ?_ GE198.out | refine below_set ?_ GE200.out) | exact HB.out)) hb); clear HO_9; clear BK196; clear BK198; clear BK200; clear HB; have HO_9 := n0_; have BK196 := n1_; have BK198 := n2_; have BK200 := n3_; have HB := n4_; clear n0_ n1_ n2_ n3_ n4_; (try clear hb); (try clear hb2); (try clear hk); (try clear hi); have hcz56_0 : w55.cell? ⟨gb198, 0, none⟩ = some (.int .i64 x199000_2) := (blk_cell BK198.out 0).trans rfl; have hcz56_1 : w55.cell? ⟨gb198, 1, none⟩ = some (.int .i64 x199001_2) := (blk_cell BK198.out 1).trans rfl; have hcz56_2 : w55.cell? ⟨gb198, 2, none⟩ = some (.int .i64 x199002_2) := (blk_cell BK198.out 2).trans rfl; have hcz56_3 : w55.cell? ⟨gb198, 3, none⟩ = some (.int .i64 x199003_2) := (blk_cell BK198.out 3).trans rfl; have hcz56_4 : w55.cell? ⟨gb198, 4, none⟩ = some (.bool x199004_2) := (blk_cell BK198.out 4).trans rfl; have hfz56_0 := blk_frozen BK198.out 0; have hfz56_1 := blk_frozen BK198.out 1; have hfz56_2 := blk_frozen BK198.out 2; have hfz56_3 := blk_frozen BK198.out 3; have hfz56_4 := blk_frozen BK198.out 4) | ((with_reducible refine gate_store (t := 40) (p := 8) rfl ?_); refine store_event (t := 40) (p := 8) (v := ?vo_w57) (w1 := (((((w55.setCell ⟨gb198, 0, none⟩ (.int .i64 t201)).setCell ⟨gb198, 1, none⟩ (.int .i64 t202)).setCell ⟨gb198, 2, none⟩ (.int .i64 t203)).setCell ⟨gb198, 3, none⟩ (.int .i64 t204)).setCell ⟨gb198, 4, none⟩ (.bool false))) ?hg ?ho ?hn ?hr ?_; (case ho => rfl); (case hg => rfl); (case hn => rfl); (case hr => first | (go_simp; done) | (go_simp; rfl)); intro w57 hw; have n0_ : Aside0 (Kd.R k67 67 w57 w.heap.size (fun _ => True) u9 x9_2) := ⟨(by rw [hw]; exact (by (with_reducible repeat (first | apply Kd.R_alloc | apply Kd.R_drewN | apply Kd.R_drew)); exact Kd.R_mono (Kd.R_far (p := ⟨gb198, 4, none⟩) (Kd.R_far (p := ⟨gb198, 3, none⟩) (Kd.R_far (p := ⟨gb198, 2, none⟩) (Kd.R_far (p := ⟨gb198, 1, none⟩) (Kd.R_far (p := ⟨gb198, 0, none⟩) (Kd.R_types HO_9.out BK198.out (by decide)) (fun _ hk => hk.2) (.int .i64 t201)) (fun _ hk => hk.2) (.int .i64 t202)) (fun _ hk => hk.2) (.int .i64 t203)) (fun _ hk => hk.2) (.int .i64 t204)) (fun _ hk => hk.2) (.bool false)) (fun _ hk => trivial)))⟩; have n1_ : Aside0 (w57.heap[gb196]? = some (.cells #[.int .i64 a0_0, .int .i64 a0_1, .int .i64 a0_2] 23 (0, 0))) := ⟨(by rw [hw]; exact (by (with_reducible repeat (first | refine blk_drewN ?_ _ | refine blk_drew ?_ | refine blk_alloc ?_ _)); refine blk_far ?_ NB196_198.out _; (with_reducible repeat (first | refine blk_drewN ?_ _ | refine blk_drew ?_ | refine blk_alloc ?_ _)); refine blk_far ?_ NB196_198.out _; (with_reducible repeat (first | refine blk_drewN ?_ _ | refine blk_drew ?_ | refine blk_alloc ?_ _)); refine blk_far ?_ NB196_198.out _; (with_reducible repeat (first | refine blk_drewN ?_ _ | refine blk_drew ?_ | refine blk_alloc ?_ _)); refine blk_far ?_ NB196_198.out _; (with_reducible repeat (first | refine blk_drewN ?_ _ | refine blk_drew ?_ | refine blk_alloc ?_ _)); refine blk_far ?_ NB196_198.out _; (with_reducible repeat (first | refine blk_drewN ?_ _ | refine blk_drew ?_ | refine blk_alloc ?_ _)); exact BK196.out))⟩; have n2_ : Aside0 (w57.heap[gb198]? = some (.cells #[.int .i64 t201, .int .i64 t202, .int .i64 t203, .int .i64 t204, .bool false] 40 (0, 0))) := ⟨(by rw [hw]; exact (by (with_reducible repeat (first | refine blk_drewN ?_ _ | refine blk_drew ?_ | refine blk_alloc ?_ _)); refine blk_put (cs := #[.int .i64 t201, .int .i64 t202, .int .i64 t203, .int .i64 t204, .bool x199004_2]) ?_ 4 _ rfl; (with_reducible repeat (first | refine blk_drewN ?_ _ | refine blk_drew ?_ | refine blk_alloc ?_ _)); refine blk_put (cs := #[.int .i64 t201, .int .i64 t202, .int .i64 t203, .int .i64 x199003_2, .bool x199004_2]) ?_ 3 _ rfl; (with_reducible repeat (first | refine blk_drewN ?_ _ | refine blk_drew ?_ | refine blk_alloc ?_ _)); refine blk_put (cs := #[.int .i64 t201, .int .i64 t202, .int .i64 x199002_2, .int .i64 x199003_2, .bool x199004_2]) ?_ 2 _ rfl; (with_reducible repeat (first | refine blk_drewN ?_ _ | refine blk_drew ?_ | refine blk_alloc ?_ _)); refine blk_put (cs := #[.int .i64 t201, .int .i64 x199001_2, .int .i64 x199002_2, .int .i64 x199003_2, .bool x199004_2]) ?_ 1 _ rfl; (with_reducible repeat (first | refine blk_drewN ?_ _ | refine blk_drew ?_ | refine blk_alloc ?_ _)); refine blk_put (cs := #[.int .i64 x199000_2, .int .i64 x199001_2, .int .i64 x199002_2, .int .i64 x199003_2, .bool x199004_2]) ?_ 0 _ rfl; (with_reducible repeat (first | refine blk_drewN ?_ _ | refine blk_drew ?_ | refine blk_alloc ?_ _)); exact BK198.out))⟩; have n3_ : Aside0 (w57.heap[gb200]? = some (.cells #[.int .i64 ((rd_T57 l2 x22_1).f0), .int .i64 ((rd_T57 l2 x22_1).f1)] 57 (0, 0))) := ⟨(by rw [hw]; exact (by (with_reducible repeat (first | refine blk_drewN ?_ _ | refine blk_drew ?_ | refine blk_alloc ?_ _)); refine blk_far ?_ NB200_198.out _; (with_reducible repeat (first | refine blk_drewN ?_ _ | refine blk_drew ?_ | refine blk_alloc ?_ _)); refine blk_far ?_ NB200_198.out _; (with_reducible repeat (first | refine blk_drewN ?_ _ | refine blk_drew ?_ | refine blk_alloc ?_ _)); refine blk_far ?_ NB200_198.out _; (with_reducible repeat (first | refine blk_drewN ?_ _ | refine blk_drew ?_ | refine blk_alloc ?_ _)); refine blk_far ?_ NB200_198.out _; (with_reducible repeat (first | refine blk_drewN ?_ _ | refine blk_drew ?_ | refine blk_alloc ?_ _)); refine blk_far ?_ NB200_198.out _; (with_reducible repeat (first | refine blk_drewN ?_ _ | refine blk_drew ?_ | refine blk_alloc ?_ _)); exact BK200.out))⟩; have n4_ : Aside0 (Below w.heap.size w w57) := ⟨(by rw [hw]; exact (by repeat (first | (with_reducible first | exact HB.out | apply below_alloc | apply pw_below_drewN | apply below_drew1 | refine below_set ?_ GE196.out | refine below_set ?_ GE198.out | refine below_set ?_ GE200.out) | exact HB.out)))⟩; clear hw; clear HO_9; clear BK196; clear BK198; clear BK200; clear HB; have HO_9 := n0_; have BK196 := n1_; have BK198 := n2_; have BK200 := n3_; have HB := n4_; clear n0_ n1_ n2_ n3_ n4_; have hcz58_0 : w57.cell? ⟨gb198, 0, none⟩ = some (.int .i64 t201) := (blk_cell BK198.out 0).trans rfl; have hcz58_1 : w57.cell? ⟨gb198, 1, none⟩ = some (.int .i64 t202) := (blk_cell BK198.out 1).trans rfl; have hcz58_2 : w57.cell? ⟨gb198, 2, none⟩ = some (.int .i64 t203) := (blk_cell BK198.out 2).trans rfl; have hcz58_3 : w57.cell? ⟨gb198, 3, none⟩ = some (.int .i64 t204) := (blk_cell BK198.out 3).trans rfl; have hcz58_4 : w57.cell? ⟨gb198, 4, none⟩ = some (.bool false) := (blk_cell BK198.out 4).trans rfl; have hfz58_0 := blk_frozen BK198.out 0; have hfz58_1 := blk_frozen BK198.out 1; have hfz58_2 := blk_frozen BK198.out 2; have hfz58_3 := blk_frozen BK198.out 3; have hfz58_4 := blk_frozen BK198.out 4; obtain ⟨Ao59, co59, eo59⟩ := Kd.R_slice HO_9.out; subst eo59; have p216 : 0 ≤ ((ji46) : Int) := of_decide_eq_true (by first | (with_reducible assumption) | assumption); have q216 : (ji46) < (x9_2.length : Int) := of_decide_eq_true (by first | (with_reducible assumption) | assumption); obtain ⟨ad216, e216, hx216_0, hx216_1⟩ := at_T67 (Kd.R_reads' HO_9.out).2.2 (ji46) p216 q216; cases e216; replace p216 := eq_true p216; replace q216 := eq_true q216; have p49 : 0 ≤ ((ji46) : Int) := of_decide_eq_true (by first | (with_reducible assumption) | assumption); have q49 : ((ji46) : Int) < ((x9_2.length : Int) : Int) := of_decide_eq_true (by first | (with_reducible assumption) | assumption); obtain ⟨go49, co49, eo49, gb49, gl49, cl49, HG49⟩ := Kd.R_form HO_9.out (by omega); (first | cases eo49 | (injection eo49 with ea_ en_ ec_; (first | subst ea_ | (injection ea_ with ea_; subst ea_)); subst ec_; clear en_)); have GB49 := Aside0.mk gb49; have GG49 := Aside0.mk HG49; clear gb49 gl49 HG49; (first | simp only [add_plain] at hx216_0 | skip); (first | simp only [add_plain] at hx216_1 | skip); obtain ⟨ce49, hcl49, hM49, hcc49, hfr49⟩ := Kd.R_elem HO_9.out z67 ((ji46) : Int) p49 q49; obtain rfl := k67_openM hM49; have hx49_0 : w57.cell? ⟨go49, ((ji46) : Int).toNat * 2, none⟩ = some (.int .i64 ((rd_T67 x9_2 (ji46)).f0)) := hcc49 0 _ rfl; have hx49_1 : w57.cell? ⟨go49, ((ji46) : Int).toNat * 2 + 1, none⟩ = some (.int .i64 ((rd_T67 x9_2 (ji46)).f1)) := hcc49 1 _ rfl; have hf49_0 : w57.frozen? ⟨go49, ((ji46) : Int).toNat * 2, none⟩ = false := hfr49 0; have hf49_1 : w57.frozen? ⟨go49, ((ji46) : Int).toNat * 2 + 1, none⟩ = false := hfr49 1; clear hcl49 hcc49 hfr49 hM49; replace p49 := eq_true p49; replace q49 := eq_true q49; have HX60 := Aside0.mk (show Kd.R k67 67 w57 w.heap.size (fun _ => True) (.slice (some ⟨go49, 0, none⟩) x9_2.length co59) x9_2 from (by (with_reducible repeat (first | apply Kd.R_alloc | apply Kd.R_drewN | apply Kd.R_drew)); exact HO_9.out)); obtain ⟨ce60, hcl60, hM60, hcc60, hfr60⟩ := Kd.R_elem HX60.out z67 ((ji46) : Int) (of_decide_eq_true (by first | (with_reducible assumption) | assumption)) (by have h_ : ((ji46) : Int) < ((x9_2.length : Int) : Int) := of_decide_eq_true (by first | (with_reducible assumption) | assumption); first | exact h_ | (have e_ := (Kd.R_reads' HO_9.out).1; omega) | simpa using h_); obtain rfl := k67_openM hM60; have HP60 := Kd.R_seg HX60.out ((ji46) : Int) (of_decide_eq_true (by first | (with_reducible assumption) | assumption)) (by have h_ : ((ji46) : Int) < ((x9_2.length : Int) : Int) := of_decide_eq_true (by first | (with_reducible assumption) | assumption); first | exact h_ | (have e_ := (Kd.R_reads' HO_9.out).1; omega) | simpa using h_) (seg := [.int .i64 (wrap64 (((rd_T67 x9_2 (ji46)).f1) + 1))]) (j := 1) hcl60 hcc60 (show 2 ≤ 2 from by decide) (x' := (⟨(rd_T67 x9_2 (ji46)).f0, wrap64 (((rd_T67 x9_2 (ji46)).f1) + 1)⟩ : S67)) (k67_mkM _ _ _ (⟨(rd_T67 x9_2 (ji46)).f0, wrap64 (((rd_T67 x9_2 (ji46)).f1) + 1)⟩ : S67) ) (fun _ hk => hk); have hx60_1 := hcc60 1 _ rfl; (try simp only [show (k67).sz = 2 from rfl, Nat.mul_one, Nat.add_zero] at hx60_1); have hf60_1 := hfr60 1; (try simp only [show (k67).sz = 2 from rfl, Nat.mul_one, Nat.add_zero] at hf60_1); clear hcl60 hcc60 hfr60 hM60) | ((with_reducible refine gate_store (t := 2) (p := 52) rfl ?_); refine store_event (t := 2) (p := 52) (v := ?vo_w61) (w1 := (w57.setCell ⟨go49, ((ji46) : Int).toNat * 2 + 1, none⟩ (.int .i64 (wrap64 (((rd_T67 x9_2 (ji46)).f1) + 1))))) ?hg ?ho ?hn ?hr ?_; (case ho => rfl); (case hg => rfl); (case hn => rfl); (case hr => first | (go_simp; done) | (go_simp; rfl)); intro w61 hw; have hg : w57.grownBy w61 (some go49) := (by rw [hw]; exact HP60.2); have hp_ : Kd.R k67 67 w61 w.heap.size (fun _ => True) (.slice (some ⟨go49, 0, none⟩) x9_2.length co59) y217 := (by rw [hw, Ny217.out]; exact HP60.1); clear HP60; have n0_ := Aside0.mk (hp_); have n1_ := Aside0.mk (blk_grown (g := gb196) (o := .cells #[.int .i64 a0_0, .int .i64 a0_1, .int .i64 a0_2] 23 (0, 0)) (by (with_reducible repeat (first | refine blk_drewN ?_ _ | refine blk_drew ?_ | refine blk_alloc ?_ _)); exact BK196.out) hg (Kd.R_ne HO_9.out BK196.out (by decide))); have n2_ := Aside0.mk (blk_grown (g := gb198) (o := .cells #[.int .i64 t201, .int .i64 t202, .int .i64 t203, .int .i64 t204, .bool false] 40 (0, 0)) (by (with_reducible repeat (first | refine blk_drewN ?_ _ | refine blk_drew ?_ | refine blk_alloc ?_ _)); exact BK198.out) hg (Kd.R_ne HO_9.out BK198.out (by decide))); have n3_ := Aside0.mk (blk_grown (g := gb200) (o := .cells #[.int .i64 ((rd_T57 l2 x22_1).f0), .int .i64 ((rd_T57 l2 x22_1).f1)] 57 (0, 0)) (by (with_reducible repeat (first | refine blk_drewN ?_ _ | refine blk_drew ?_ | refine blk_alloc ?_ _)); exact BK200.out) hg (Kd.R_ne HO_9.out BK200.out (by decide))); have n4_ := Aside0.mk ((by rw [hw]; exact below_set (HB.out) GB49.out : Below w.heap.size w w61)); clear HO_9; clear BK196; clear BK198; clear BK200; clear HB; have HO_9 := n0_; have BK196 := n1_; have BK198 := n2_; have BK200 := n3_; have HB := n4_; clear n0_ n1_ n2_ n3_ n4_; clear hg hw hp_))
                            go_roundg k2
                            case measure => have := HK1.out; have := HK2.out; omega
                            case rel => exact ⟨(y217), (x10_2), (wrap64 (x28_2 + 1)), (t201), (t202), (t203), (t204), (false), (by first | rfl | (simp; done) | (simp [*]; done)), (by first | rfl | (simp; done) | (simp [*]; done)), H', ⟨by have := HK1.out; have := HK2.out; omega⟩, ⟨by (with_reducible repeat (first | apply Kd.R_alloc | apply Kd.R_drewN | apply Kd.R_drew)); exact HO_9.out⟩, ⟨by (with_reducible repeat (first | refine blk_drewN ?_ _ | refine blk_drew ?_ | refine blk_alloc ?_ _)); exact BK196.out⟩, ⟨by (with_reducible repeat (first | refine blk_drewN ?_ _ | refine blk_drew ?_ | refine blk_alloc ?_ _)); exact BK198.out⟩, ⟨by (with_reducible repeat (first | refine blk_drewN ?_ _ | refine blk_drew ?_ | refine blk_alloc ?_ _)); exact BK200.out⟩, ⟨by repeat (first | (with_reducible first | exact HB.out | apply below_alloc | apply pw_below_drewN | apply below_drew1 | refine below_set ?_ GE196.out | refine below_set ?_ GE198.out | refine below_set ?_ GE200.out) | exact HB.out)⟩⟩
                          · rw [if_neg c48] at H
                            exact absurd H (by simp)
                        · rw [if_neg c47] at H
                          exact absurd H (by simp)
                      · rw [if_neg c45] at H
                        have c45b0 : decide (0 < (x9_2.length : Int)) = false := decide_eq_false c45
                        have c45b1 : decide (0 < x9_2.length) = false := decide_eq_false (by omega)
                        clear c45
                        have H' := Aside0.mk H
                        clear H
                        have hnb62 := NB198_196.out
                        have hnc62 := NB196_198.out
                        have hnb63 := NB198_200.out
                        have hnc63 := NB200_198.out
                        have hcz64_0 : wr.cell? ⟨gb198, 0, none⟩ = some (.int .i64 x199000_2) := (blk_cell BK198.out 0).trans rfl
                        have hcz64_1 : wr.cell? ⟨gb198, 1, none⟩ = some (.int .i64 x199001_2) := (blk_cell BK198.out 1).trans rfl
                        have hcz64_2 : wr.cell? ⟨gb198, 2, none⟩ = some (.int .i64 x199002_2) := (blk_cell BK198.out 2).trans rfl
                        have hcz64_3 : wr.cell? ⟨gb198, 3, none⟩ = some (.int .i64 x199003_2) := (blk_cell BK198.out 3).trans rfl
                        have hcz64_4 : wr.cell? ⟨gb198, 4, none⟩ = some (.bool x199004_2) := (blk_cell BK198.out 4).trans rfl
                        have hfz64_0 := blk_frozen BK198.out 0
                        have hfz64_1 := blk_frozen BK198.out 1
                        have hfz64_2 := blk_frozen BK198.out 2
                        have hfz64_3 := blk_frozen BK198.out 3
                        have hfz64_4 := blk_frozen BK198.out 4
                        have hnb65 := NB200_196.out
                        have hnc65 := NB196_200.out
                        have hcz66_0 : wr.cell? ⟨gb200, 0, none⟩ = some (.int .i64 ((rd_T57 l2 x22_1).f0)) := (blk_cell BK200.out 0).trans rfl
                        have hcz66_1 : wr.cell? ⟨gb200, 1, none⟩ = some (.int .i64 ((rd_T57 l2 x22_1).f1)) := (blk_cell BK200.out 1).trans rfl
                        have hfz66_0 := blk_frozen BK200.out 0
                        have hfz66_1 := blk_frozen BK200.out 1
                        go_wp2_with (first | ((with_reducible refine gate_callee (f := 18) rfl ?_); refine goesL_ (some 34) rfl rfl Try.func18 (by kernel_rfl) rfl #[.agg #[.int .i64 x199000_2, .int .i64 x199001_2, .int .i64 x199002_2, .int .i64 x199003_2, .bool x199004_2], .int .i64 ((rd_T57 l2 x22_1).f0), .int .i64 1] rfl (by (try simp only [List.map_toArray, List.map_cons, List.map_nil]); first | done | rfl | (simp only [List.length_drop, List.length_take]; rfl)) ?_; (with_reducible refine (trickleref08_Harvest.calls x199000_2 x199001_2 x199002_2 x199003_2 x199004_2 ((rd_T57 l2 x22_1).f0) 1 t201 t202 t203 t204 false t206 _ A21.out).mono ?_); rintro e w67 ⟨rfl, hb⟩; refine ⟨_, rfl, ?_⟩; have n0_ := Aside0.mk (Kd.R_below (by (with_reducible repeat (first | apply Kd.R_alloc | apply Kd.R_drewN | apply Kd.R_drew)); exact HO_9.out) hb); have n1_ := Aside0.mk (blk_below (g := gb196) (o := .cells #[.int .i64 a0_0, .int .i64 a0_1, .int .i64 a0_2] 23 (0, 0)) (by (with_reducible repeat (first | refine blk_drewN ?_ _ | refine blk_drew ?_ | refine blk_alloc ?_ _)); exact BK196.out) hb); have n2_ := Aside0.mk (blk_below (g := gb198) (o := .cells #[.int .i64 x199000_2, .int .i64 x199001_2, .int .i64 x199002_2, .int .i64 x199003_2, .bool x199004_2] 40 (0, 0)) (by (with_reducible repeat (first | refine blk_drewN ?_ _ | refine blk_drew ?_ | refine blk_alloc ?_ _)); exact BK198.out) hb); have n3_ := Aside0.mk (blk_below (g := gb200) (o := .cells #[.int .i64 ((rd_T57 l2 x22_1).f0), .int .i64 ((rd_T57 l2 x22_1).f1)] 57 (0, 0)) (by (with_reducible repeat (first | refine blk_drewN ?_ _ | refine blk_drew ?_ | refine blk_alloc ?_ _)); exact BK200.out) hb); have n4_ := Aside0.mk (below_step (by repeat (first | (with_reducible first | exact HB.out | apply below_alloc | apply pw_below_drewN | apply below_drew1 | refine below_set ?_ GE196.out | refine below_set ?_ GE198.out | refine below_set ?_ GE200.out) | exact HB.out)) hb); clear HO_9; clear BK196; clear BK198; clear BK200; clear HB; have HO_9 := n0_; have BK196 := n1_; have BK198 := n2_; have BK200 := n3_; have HB := n4_; clear n0_ n1_ n2_ n3_ n4_; (try clear hb); (try clear hb2); (try clear hk); (try clear hi); have hcz68_0 : w67.cell? ⟨gb198, 0, none⟩ = some (.int .i64 x199000_2) := (blk_cell BK198.out 0).trans rfl; have hcz68_1 : w67.cell? ⟨gb198, 1, none⟩ = some (.int .i64 x199001_2) := (blk_cell BK198.out 1).trans rfl; have hcz68_2 : w67.cell? ⟨gb198, 2, none⟩ = some (.int .i64 x199002_2) := (blk_cell BK198.out 2).trans rfl; have hcz68_3 : w67.cell? ⟨gb198, 3, none⟩ = some (.int .i64 x199003_2) := (blk_cell BK198.out 3).trans rfl; have hcz68_4 : w67.cell? ⟨gb198, 4, none⟩ = some (.bool x199004_2) := (blk_cell BK198.out 4).trans rfl; have hfz68_0 := blk_frozen BK198.out 0; have hfz68_1 := blk_frozen BK198.out 1; have hfz68_2 := blk_frozen BK198.out 2; have hfz68_3 := blk_frozen BK198.out 3; have hfz68_4 := blk_frozen BK198.out 4; obtain ⟨Ao69, co69, eo69⟩ := Kd.R_slice HO_9.out; subst eo69))
                        go_roundg k2
                        case measure => have := HK1.out; have := HK2.out; omega
                        case rel => exact ⟨(x9_2), (x10_2), (wrap64 (x28_2 + 1)), (t201), (t202), (t203), (t204), (false), (by first | rfl | (simp; done) | (simp [*]; done)), (by first | rfl | (simp; done) | (simp [*]; done)), H', ⟨by have := HK1.out; have := HK2.out; omega⟩, ⟨by (with_reducible repeat (first | apply Kd.R_alloc | apply Kd.R_drewN | apply Kd.R_drew)); exact Kd.R_mono (Kd.R_far (p := ⟨gb198, 4, none⟩) (Kd.R_far (p := ⟨gb198, 3, none⟩) (Kd.R_far (p := ⟨gb198, 2, none⟩) (Kd.R_far (p := ⟨gb198, 1, none⟩) (Kd.R_far (p := ⟨gb198, 0, none⟩) (Kd.R_types HO_9.out BK198.out (by decide)) (fun _ hk => hk.2) (.int .i64 t201)) (fun _ hk => hk.2) (.int .i64 t202)) (fun _ hk => hk.2) (.int .i64 t203)) (fun _ hk => hk.2) (.int .i64 t204)) (fun _ hk => hk.2) (.bool false)) (fun _ hk => trivial)⟩, ⟨by (with_reducible repeat (first | refine blk_drewN ?_ _ | refine blk_drew ?_ | refine blk_alloc ?_ _)); refine blk_far ?_ NB196_198.out _; (with_reducible repeat (first | refine blk_drewN ?_ _ | refine blk_drew ?_ | refine blk_alloc ?_ _)); refine blk_far ?_ NB196_198.out _; (with_reducible repeat (first | refine blk_drewN ?_ _ | refine blk_drew ?_ | refine blk_alloc ?_ _)); refine blk_far ?_ NB196_198.out _; (with_reducible repeat (first | refine blk_drewN ?_ _ | refine blk_drew ?_ | refine blk_alloc ?_ _)); refine blk_far ?_ NB196_198.out _; (with_reducible repeat (first | refine blk_drewN ?_ _ | refine blk_drew ?_ | refine blk_alloc ?_ _)); refine blk_far ?_ NB196_198.out _; (with_reducible repeat (first | refine blk_drewN ?_ _ | refine blk_drew ?_ | refine blk_alloc ?_ _)); exact BK196.out⟩, ⟨by (with_reducible repeat (first | refine blk_drewN ?_ _ | refine blk_drew ?_ | refine blk_alloc ?_ _)); refine blk_put (cs := #[.int .i64 t201, .int .i64 t202, .int .i64 t203, .int .i64 t204, .bool x199004_2]) ?_ 4 _ rfl; (with_reducible repeat (first | refine blk_drewN ?_ _ | refine blk_drew ?_ | refine blk_alloc ?_ _)); refine blk_put (cs := #[.int .i64 t201, .int .i64 t202, .int .i64 t203, .int .i64 x199003_2, .bool x199004_2]) ?_ 3 _ rfl; (with_reducible repeat (first | refine blk_drewN ?_ _ | refine blk_drew ?_ | refine blk_alloc ?_ _)); refine blk_put (cs := #[.int .i64 t201, .int .i64 t202, .int .i64 x199002_2, .int .i64 x199003_2, .bool x199004_2]) ?_ 2 _ rfl; (with_reducible repeat (first | refine blk_drewN ?_ _ | refine blk_drew ?_ | refine blk_alloc ?_ _)); refine blk_put (cs := #[.int .i64 t201, .int .i64 x199001_2, .int .i64 x199002_2, .int .i64 x199003_2, .bool x199004_2]) ?_ 1 _ rfl; (with_reducible repeat (first | refine blk_drewN ?_ _ | refine blk_drew ?_ | refine blk_alloc ?_ _)); refine blk_put (cs := #[.int .i64 x199000_2, .int .i64 x199001_2, .int .i64 x199002_2, .int .i64 x199003_2, .bool x199004_2]) ?_ 0 _ rfl; (with_reducible repeat (first | refine blk_drewN ?_ _ | refine blk_drew ?_ | refine blk_alloc ?_ _)); exact BK198.out⟩, ⟨by (with_reducible repeat (first | refine blk_drewN ?_ _ | refine blk_drew ?_ | refine blk_alloc ?_ _)); refine blk_far ?_ NB200_198.out _; (with_reducible repeat (first | refine blk_drewN ?_ _ | refine blk_drew ?_ | refine blk_alloc ?_ _)); refine blk_far ?_ NB200_198.out _; (with_reducible repeat (first | refine blk_drewN ?_ _ | refine blk_drew ?_ | refine blk_alloc ?_ _)); refine blk_far ?_ NB200_198.out _; (with_reducible repeat (first | refine blk_drewN ?_ _ | refine blk_drew ?_ | refine blk_alloc ?_ _)); refine blk_far ?_ NB200_198.out _; (with_reducible repeat (first | refine blk_drewN ?_ _ | refine blk_drew ?_ | refine blk_alloc ?_ _)); refine blk_far ?_ NB200_198.out _; (with_reducible repeat (first | refine blk_drewN ?_ _ | refine blk_drew ?_ | refine blk_alloc ?_ _)); exact BK200.out⟩, ⟨by repeat (first | (with_reducible first | exact HB.out | apply below_alloc | apply pw_below_drewN | apply below_drew1 | refine below_set ?_ GE196.out | refine below_set ?_ GE198.out | refine below_set ?_ GE200.out) | exact HB.out)⟩⟩
                  · rw [if_neg c20] at H
                    have c20b0 : decide (x28_2 < ((rd_T57 l2 x22_1).f1)) = false := decide_eq_false c20
                    clear c20
                    have H' := Aside0.mk H
                    clear H
                    go_wp2
                    go_roundg k2
                    case measure => have := HK1.out; have := HK2.out; omega
                    case rel => exact ⟨(x9_2), (x10_2), (wrap64 (x22_1 + 1)), (x199000_2), (x199001_2), (x199002_2), (x199003_2), (x199004_2), (by first | rfl | (simp; done) | (simp [*]; done)), (by first | rfl | (simp; done) | (simp [*]; done)), H', ⟨by have := HK1.out; have := HK2.out; omega⟩, ⟨by (with_reducible repeat (first | apply Kd.R_alloc | apply Kd.R_drewN | apply Kd.R_drew)); exact HO_9.out⟩, ⟨by (with_reducible repeat (first | refine blk_drewN ?_ _ | refine blk_drew ?_ | refine blk_alloc ?_ _)); exact BK196.out⟩, ⟨by (with_reducible repeat (first | refine blk_drewN ?_ _ | refine blk_drew ?_ | refine blk_alloc ?_ _)); exact BK198.out⟩, ⟨by repeat (first | (with_reducible first | exact HB.out | apply below_alloc | apply pw_below_drewN | apply below_drew1 | refine below_set ?_ GE196.out | refine below_set ?_ GE198.out | refine below_set ?_ GE200.out) | exact HB.out)⟩⟩
            · rw [if_neg c15] at H
              exact absurd H (by simp)
          · rw [if_neg c14] at H
            exact absurd H (by simp)
        · rw [if_neg c13] at H
          have c13b0 : decide (x22_1 < (l2.length : Int)) = false := decide_eq_false c13
          clear c13
          simp only [Option.some.injEq, Prod.mk.injEq] at H
          obtain ⟨rfl, rfl⟩ := H
          go_wp2
          go_ret2
          exact ⟨_, by first | rfl | (simp [errW_none, errW_some] <;> rfl) | (simp [*, errW_none, errW_some] <;> rfl), by (with_reducible repeat (first | apply Kd.R_alloc | apply Kd.R_drewN | apply Kd.R_drew)); exact HO_9.out, by repeat (first | (with_reducible first | exact HB.out | apply below_alloc | apply pw_below_drewN | apply below_drew1 | refine below_set ?_ GE196.out | refine below_set ?_ GE198.out) | exact HB.out)⟩
  · replace c5 := Bool.eq_false_iff.mpr c5
    subst c5
    have H1 : (some (([] : List (S67)), 1)) = some (r1, r2) := by rw [if_neg (show ¬ (false = true) by decide)] at H; exact H
    clear H
    have H := H1
    clear H1
    simp only [Option.some.injEq, Prod.mk.injEq] at H
    obtain ⟨rfl, rfl⟩ := H
    go_enter Try.func24, Try.ntmps24
    go_wp2_with (first | ((with_reducible refine gate_dst (N := 3) rfl ?_); refine box_event ?hg (N := 3) ?hd (cs := #[.int .i64 a0_0, .int .i64 a0_1, .int .i64 a0_2]) (t := 23) ?hr ?_; (case hd => rfl); (case hg => rfl); (case hr => first | (go_simp; done) | (go_simp; rfl)); intro gb196 hg w70 hbox hb; have n0_ := Aside0.mk (below_step (by repeat (first | (with_reducible first | exact HB.out | apply below_alloc | apply pw_below_drewN | apply below_drew1) | exact HB.out)) hb); have n1_ := Aside0.mk (hbox); have n2_ := Aside0.mk ((by rw [hg]; exact (below_size (by repeat (first | (with_reducible first | exact HB.out | apply below_alloc | apply pw_below_drewN | apply below_drew1) | exact HB.out))) : w.heap.size ≤ gb196)); have n3_ := Aside0.mk ((by rw [hg]; exact (below_size (by repeat (first | (with_reducible first | exact HB.out | apply below_alloc | apply pw_below_drewN | apply below_drew1) | exact HB.out))) : w.heap.size ≤ gb196)); clear HB; have HB := n0_; have BK196 := n1_; have GW196 := n2_; have GE196 := n3_; clear n0_ n1_ n2_ n3_; clear hb hbox hg; have hcz71_0 : w70.cell? ⟨gb196, 0, none⟩ = some (.int .i64 a0_0) := (blk_cell BK196.out 0).trans rfl; have hcz71_1 : w70.cell? ⟨gb196, 1, none⟩ = some (.int .i64 a0_1) := (blk_cell BK196.out 1).trans rfl; have hcz71_2 : w70.cell? ⟨gb196, 2, none⟩ = some (.int .i64 a0_2) := (blk_cell BK196.out 2).trans rfl; have hfz71_0 := blk_frozen BK196.out 0; have hfz71_1 := blk_frozen BK196.out 1; have hfz71_2 := blk_frozen BK196.out 2) | ((with_reducible refine gate_callee (f := 22) rfl ?_); refine goesL_ (some 16) rfl rfl Try.func22 (by kernel_rfl) rfl #[.agg #[.int .i64 a0_0, .int .i64 a0_1, .int .i64 a0_2], .int .i64 a1, .slice A2 l2.length c2] rfl (by (try simp only [List.map_toArray, List.map_cons, List.map_nil]); first | done | rfl | (simp only [List.length_drop, List.length_take]; rfl)) ?_; (with_reducible refine (trickleref08_Right.calls k a0_0 a0_1 a0_2 a1 _ _ l2 false _ ?side1 ?side2 A4.out).mono ?_); (case side1 => repeat (first | exact (Kd.C_below HR2.out HB.out) | (with_reducible refine Kd.C_alloc ?_ _) | (with_reducible refine Kd.C_drewN ?_ _) | (with_reducible refine Kd.C_drew ?_))); (case side2 => exact HC2.out); rintro e w72 ⟨rfl, hb⟩; refine ⟨_, rfl, ?_⟩; have n0_ := Aside0.mk (blk_below (g := gb196) (o := .cells #[.int .i64 a0_0, .int .i64 a0_1, .int .i64 a0_2] 23 (0, 0)) (by (with_reducible repeat (first | refine blk_drewN ?_ _ | refine blk_drew ?_ | refine blk_alloc ?_ _)); exact BK196.out) hb); have n1_ := Aside0.mk (below_step (by repeat (first | (with_reducible first | exact HB.out | apply below_alloc | apply pw_below_drewN | apply below_drew1 | refine below_set ?_ GE196.out) | exact HB.out)) hb); clear BK196; clear HB; have BK196 := n0_; have HB := n1_; clear n0_ n1_; (try clear hb); (try clear hb2); (try clear hk); (try clear hi)))
    go_ret2
    exact ⟨_, by first | rfl | (simp [errW_none, errW_some] <;> rfl) | (simp [*, errW_none, errW_some] <;> rfl), by first | exact Kd.R_nil _ _ _ _ _ | exact Kd.N_nil _ _ _ _ _ | exact Kd.V_nil _ _ _ _ _ | exact Kd.Q_nil _ _ _ _ _ | exact Kd.S_nil _ _ _ _ _, by repeat (first | (with_reducible first | exact HB.out | apply below_alloc | apply pw_below_drewN | apply below_drew1 | refine below_set ?_ GE196.out) | exact HB.out)⟩

/-! ### trickleref08_Same: function 25 -/
def trickleref08_Same.l0 : Nat → List (S67) → List (S67) → Int → Int → Option (Bool)
  | 0, _, _, _, _ => none
  | k + 1, x0, x1, x12, x13 => if x13 < x12 then (if 0 ≤ x13 then (if x13 < (x0.length : Int) then (if x13 < (x1.length : Int) then (if (!(((rd_T67 x0 x13).f0) == ((rd_T67 x1 x13).f0)) || (!(((rd_T67 x0 x13).f1) == ((rd_T67 x1 x13).f1)))) = true then (some false) else (trickleref08_Same.l0 k x0 x1 x12 (wrap64 (x13 + 1)))) else (none)) else (none)) else (none)) else (some true)
def trickleref08_Same.f (k : Nat) (l0 : List (S67)) (l1 : List (S67)) : Option (Bool) := if (l0.length : Int) = (l1.length : Int) then (trickleref08_Same.l0 k l0 l1 (l0.length : Int) 0) else (some false)
theorem trickleref08_Same.mono_l : ∀ k, (∀ y0 y1 y2 y3, LeO (trickleref08_Same.l0 k y0 y1 y2 y3) (trickleref08_Same.l0 (k + 1) y0 y1 y2 y3))
  | 0 => fun _ _ _ _ r h => by simp [trickleref08_Same.l0] at h
  | k + 1 => by
    have ih0 := trickleref08_Same.mono_l k
    · intro y0 y1 y2 y3
      unfold trickleref08_Same.l0
      repeat' first
      | (with_reducible exact ih0 _ _ _ _)
      | (with_reducible exact LeO.refl _)
      | (with_reducible exact LeO.none _)
      | (with_reducible refine LeO.ite ?_ ?_)
      | (with_reducible refine LeO.bind ?_ (fun _ => ?_))
      | exact ih0 _ _ _ _
      | exact LeO.none _
      | refine LeO.ite ?_ ?_
      | refine LeO.bind ?_ (fun _ => ?_)
theorem trickleref08_Same.mono : ∀ a0 a1 k, LeO (trickleref08_Same.f k a0 a1) (trickleref08_Same.f (k + 1) a0 a1) := by
  intro a0 a1 k
  have ih0 := trickleref08_Same.mono_l k
  unfold trickleref08_Same.f
  repeat' first
      | (with_reducible exact ih0 _ _ _ _)
      | (with_reducible exact LeO.refl _)
      | (with_reducible exact LeO.none _)
      | (with_reducible refine LeO.ite ?_ ?_)
      | (with_reducible refine LeO.bind ?_ (fun _ => ?_))
      | exact ih0 _ _ _ _
      | exact LeO.none _
      | refine LeO.ite ?_ ?_
      | refine LeO.bind ?_ (fun _ => ?_)
set_option maxHeartbeats 8000000 in
set_option maxRecDepth 100000 in
theorem trickleref08_Same.calls (k : Nat) (A0 : Option Addr) (c0 : Nat) (l0 : List (S67)) (A1 : Option Addr) (c1 : Nat) (l1 : List (S67)) (r : Bool) (w : World) (hr0 : Kd.C k67 w A0 l0.length l0) (hc0 : l0.length ≤ c0) (hr1 : Kd.C k67 w A1 l1.length l1) (hc1 : l1.length ≤ c1) (h : trickleref08_Same.f k l0 l1 = some r) :
    Calls Try.prog 25 #[.slice A0 l0.length c0, .slice A1 l1.length c1] w fun e w' => e = .returned (.bool r) ∧ Drawn0 w w' := by
  have hu67 := Try.underlying67
  have HR0 := Aside0.mk hr0
  have HC0 := Aside0.mk hc0
  clear hr0 hc0
  have HR1 := Aside0.mk hr1
  have HC1 := Aside0.mk hc1
  clear hr1 hc1
  have H : (if (l0.length : Int) = (l1.length : Int) then (trickleref08_Same.l0 k l0 l1 (l0.length : Int) 0) else (some false)) = some r := h
  clear h
  by_cases c3 : (l0.length : Int) = (l1.length : Int)
  · rw [if_pos c3] at H
    have c3b0 : ((l0.length : Int) == (l1.length : Int)) = true := beq_iff_eq.mpr c3
    have c3b1 : ((l0.length : Int) != (l1.length : Int)) = false := bne_eq_false_iff_eq.mpr c3
    have c3b2 : (l0.length == l1.length) = true := by first | simpa using c3 | (simp at c3 ⊢; omega)
    clear c3
    have H' := Aside0.mk H
    clear H
    go_enter Try.func25, Try.ntmps25
    go_wp2
    repeat (go_quiet (fail); try go_wp2)
    go_loopg [13] k (fun kq v13 w' => ∃ (x13_1 : Int), v13 = .int .i64 x13_1 ∧ Aside0 (trickleref08_Same.l0 kq l0 l1 (l0.length : Int) x13_1 = some r) ∧ Aside0 (kq ≤ k) ∧ Drawn0 w w')
    case atStart => exact ⟨(0), (by first | rfl | (simp; done) | (simp [*]; done)), H', ⟨Nat.le_refl _⟩, by repeat (first | exact Drawn0.refl _ | apply Drawn0.step)⟩
    case round =>
      clear H'
      try clear c1
      try clear c2
      try clear p2
      try clear c3
      try clear c3b0
      try clear c3b1
      try clear c3b2
      obtain ⟨x13_1, rfl, HA, HK1, ⟨m1, rfl⟩⟩ := hrel
      cases gk with
      | zero => exact absurd HA.out (by simp [trickleref08_Same.l0])
      | succ k1 =>
        have H := HA.out
        clear HA
        simp only [trickleref08_Same.l0] at H
        by_cases c4 : x13_1 < (l0.length : Int)
        · rw [if_pos c4] at H
          have c4b0 : decide (x13_1 < (l0.length : Int)) = true := decide_eq_true c4
          clear c4
          by_cases c5 : 0 ≤ x13_1
          · rw [if_pos c5] at H
            have c5b0 : decide (0 ≤ x13_1) = true := decide_eq_true c5
            clear c5
            by_cases c6 : x13_1 < (l0.length : Int)
            · rw [if_pos c6] at H
              have c6b0 : decide (x13_1 < (l0.length : Int)) = true := decide_eq_true c6
              clear c6
              by_cases c7 : x13_1 < (l1.length : Int)
              · rw [if_pos c7] at H
                have c7b0 : decide (x13_1 < (l1.length : Int)) = true := decide_eq_true c7
                clear c7
                by_cases c8 : (!(((rd_T67 l0 x13_1).f0) == ((rd_T67 l1 x13_1).f0)) || (!(((rd_T67 l0 x13_1).f1) == ((rd_T67 l1 x13_1).f1)))) = true
                · rw [if_pos c8] at H
                  have c8b0 : (!(((rd_T67 l0 x13_1).f0) == ((rd_T67 l1 x13_1).f0)) || (!(((rd_T67 l0 x13_1).f1) == ((rd_T67 l1 x13_1).f1)))) = true := c8
                  clear c8
                  obtain rfl := Option.some.inj H
                  have p218 : 0 ≤ (x13_1 : Int) := of_decide_eq_true (by first | (with_reducible assumption) | assumption)
                  have q218 : x13_1 < (l0.length : Int) := of_decide_eq_true (by first | (with_reducible assumption) | assumption)
                  obtain ⟨ad218, e218, hx218_0, hx218_1⟩ := at_T67 HR0.out x13_1 p218 q218
                  cases e218
                  replace p218 := eq_true p218
                  replace q218 := eq_true q218
                  have p219 : 0 ≤ (x13_1 : Int) := of_decide_eq_true (by first | (with_reducible assumption) | assumption)
                  have q219 : x13_1 < (l1.length : Int) := of_decide_eq_true (by first | (with_reducible assumption) | assumption)
                  obtain ⟨ad219, e219, hx219_0, hx219_1⟩ := at_T67 HR1.out x13_1 p219 q219
                  cases e219
                  replace p219 := eq_true p219
                  replace q219 := eq_true q219
                  go_wp2
                  repeat (go_quiet (fail); try go_wp2)
                  go_ret
                  exact ⟨by first | rfl | (simp; done) | (simp [*]; done), by repeat (first | exact Drawn0.refl _ | apply Drawn0.step)⟩
                · rw [if_neg c8] at H
                  have c8b0 : (!(((rd_T67 l0 x13_1).f0) == ((rd_T67 l1 x13_1).f0)) || (!(((rd_T67 l0 x13_1).f1) == ((rd_T67 l1 x13_1).f1)))) = false := by simpa using c8
                  clear c8
                  have H' := Aside0.mk H
                  clear H
                  have p218 : 0 ≤ (x13_1 : Int) := of_decide_eq_true (by first | (with_reducible assumption) | assumption)
                  have q218 : x13_1 < (l0.length : Int) := of_decide_eq_true (by first | (with_reducible assumption) | assumption)
                  obtain ⟨ad218, e218, hx218_0, hx218_1⟩ := at_T67 HR0.out x13_1 p218 q218
                  cases e218
                  replace p218 := eq_true p218
                  replace q218 := eq_true q218
                  have p219 : 0 ≤ (x13_1 : Int) := of_decide_eq_true (by first | (with_reducible assumption) | assumption)
                  have q219 : x13_1 < (l1.length : Int) := of_decide_eq_true (by first | (with_reducible assumption) | assumption)
                  obtain ⟨ad219, e219, hx219_0, hx219_1⟩ := at_T67 HR1.out x13_1 p219 q219
                  cases e219
                  replace p219 := eq_true p219
                  replace q219 := eq_true q219
                  go_wp2
                  repeat (go_quiet (fail); try go_wp2)
                  go_roundg k1
                  case measure => have := HK1.out; omega
                  case rel => exact ⟨(wrap64 (x13_1 + 1)), (by first | rfl | (simp; done) | (simp [*]; done)), H', ⟨by have := HK1.out; omega⟩, by repeat (first | exact Drawn0.refl _ | apply Drawn0.step)⟩
              · rw [if_neg c7] at H
                exact absurd H (by simp)
            · rw [if_neg c6] at H
              exact absurd H (by simp)
          · rw [if_neg c5] at H
            exact absurd H (by simp)
        · rw [if_neg c4] at H
          have c4b0 : decide (x13_1 < (l0.length : Int)) = false := decide_eq_false c4
          clear c4
          obtain rfl := Option.some.inj H
          go_wp2
          repeat (go_quiet (fail); try go_wp2)
          go_ret
          exact ⟨by first | rfl | (simp; done) | (simp [*]; done), by repeat (first | exact Drawn0.refl _ | apply Drawn0.step)⟩
  · rw [if_neg c3] at H
    have c3b0 : ((l0.length : Int) == (l1.length : Int)) = false := beq_eq_false_iff_ne.mpr c3
    have c3b1 : ((l0.length : Int) != (l1.length : Int)) = true := bne_iff_ne.mpr c3
    have c3b2 : (l0.length == l1.length) = false := by first | simpa using c3 | (simp at c3 ⊢; omega)
    obtain rfl := Option.some.inj H
    go_enter Try.func25, Try.ntmps25
    go_wp2
    repeat (go_quiet (fail); try go_wp2)
    go_ret
    exact ⟨by first | rfl | (simp; done) | (simp [*]; done), by repeat (first | exact Drawn0.refl _ | apply Drawn0.step)⟩

end Go.Proofs.Ytifogngffmhmaaa.QSd
