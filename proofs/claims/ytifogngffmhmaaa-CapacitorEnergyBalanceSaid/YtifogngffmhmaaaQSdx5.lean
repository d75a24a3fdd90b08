-- Printed by a program of this session (myprint.py) over the kit's print: functions, contracts; not trusted, Lean checks it.
import Derived.Test.YtifogngffmhmaaaQSdx0
import Derived.Test.YtifogngffmhmaaaQSdx2
import Derived.Test.YtifogngffmhmaaaQSdx3
import Derived.Test.YtifogngffmhmaaaQSdx4
namespace Go.Proofs.Ytifogngffmhmaaa.QSd
open Go.RowKit Go.Proofs.YtifogngffmhmaaaW.PrintWords Go.Proofs.YtifogngffmhmaaaW.PrintLast Go.Proofs.YtifogngffmhmaaaW.PrintMore
attribute [local go_sem] max2_int min2_int max_two min_two max_three min_three max_four min_four   -- for this text's walks alone
set_option linter.unusedVariables false
set_option linter.unusedSimpArgs false


/-! ### capacitor_Schedule: function 23 -/
/-! ### capacitor_Schedule0: function 23 -/
mutual
def capacitor_Schedule0.j0 : Nat → Int → List (S60) → Bool → Int → Int → Int → Int → Bool → Option ((List (S67)) × Int)
  | 0, _, _, _, _, _, _, _, _ => none
  | k + 1, x1, x2, x33, x175000, x175001, x175002, x175003, x175004 => if x33 = true then (some (([] : List (S67)), 1)) else (capacitor_Schedule0.l0 k x1 ([] : List (S67)) 0 x2 (x2.length : Int) 0 x175000 x175001 x175002 x175003 x175004)
def capacitor_Schedule0.l0 : Nat → Int → List (S67) → Int → List (S60) → Int → Int → Int → Int → Int → Int → Bool → Option ((List (S67)) × Int)
  | 0, _, _, _, _, _, _, _, _, _, _, _ => none
  | k + 1, x1, x10, x11, x34, x35, x36, x175000, x175001, x175002, x175003, x175004 => if x36 < x35 then (if 0 ≤ x36 then (if x36 < (x34.length : Int) then (capacitor_Schedule0.l1 k x1 x10 x11 x34 x35 x36 ((rd_T60 x34 x36).f1) 0 x175000 x175001 x175002 x175003 x175004 ((rd_T60 x34 x36).f0) ((rd_T60 x34 x36).f1)) else (none)) else (none)) else (some (x10, 0))
def capacitor_Schedule0.l1 : Nat → Int → List (S67) → Int → List (S60) → Int → Int → Int → Int → Int → Int → Int → Int → Bool → Int → Int → Option ((List (S67)) × Int)
  | 0, _, _, _, _, _, _, _, _, _, _, _, _, _, _, _ => none
  | k + 1, x1, x10, x11, x34, x35, x36, x41, x42, x175000, x175001, x175002, x175003, x175004, x179000, x179001 => if x42 < x41 then ((capacitor_Capacitor_Harvest.f x175000 x175001 x175002 x175003 x175004 x179000 1).bind fun bt179 => (if bt179.2.2.2.2.2 = true then ((capacitor_Capacitor_Draw.f bt179.2.1 bt179.2.2.1 bt179.2.2.2.1 bt179.2.2.2.2.1 bt179.2.2.2.2.2 x1).bind fun bt185 => (if bt185.1 = true then (capacitor_Schedule0.l1 k x1 x10 (wrap64 (x11 + x1)) x34 x35 x36 x41 (wrap64 (x42 + 1)) bt185.2.1 bt185.2.2.1 bt185.2.2.2.1 bt185.2.2.2.2.1 bt185.2.2.2.2.2 x179000 x179001) else (if x10.length < 8796093022208 then (capacitor_Schedule0.l1 k x1 (x10 ++ [(⟨wrap64 (x11 + x1), 0⟩ : S67)]) 0 x34 x35 x36 x41 (wrap64 (x42 + 1)) bt185.2.1 bt185.2.2.1 bt185.2.2.2.1 bt185.2.2.2.2.1 bt185.2.2.2.2.2 x179000 x179001) else (none)))) else (if (x10.length : Int) > 0 then (if 0 ≤ (wrap64 ((x10.length : Int) - 1)) then (if (wrap64 ((x10.length : Int) - 1)) < (x10.length : Int) then (capacitor_Schedule0.l1 k x1 (x10.set ((wrap64 ((x10.length : Int) - 1)) : Int).toNat (⟨(rd_T67 x10 (wrap64 ((x10.length : Int) - 1))).f0, wrap64 (((rd_T67 x10 (wrap64 ((x10.length : Int) - 1))).f1) + 1)⟩ : S67)) x11 x34 x35 x36 x41 (wrap64 (x42 + 1)) bt179.2.1 bt179.2.2.1 bt179.2.2.2.1 bt179.2.2.2.2.1 bt179.2.2.2.2.2 x179000 x179001) else (none)) else (none)) else (capacitor_Schedule0.l1 k x1 x10 x11 x34 x35 x36 x41 (wrap64 (x42 + 1)) bt179.2.1 bt179.2.2.1 bt179.2.2.2.1 bt179.2.2.2.2.1 bt179.2.2.2.2.2 x179000 x179001)))) else (capacitor_Schedule0.l0 k x1 x10 x11 x34 x35 (wrap64 (x36 + 1)) x175000 x175001 x175002 x175003 x175004)
end
def capacitor_Schedule0.f (k : Nat) (a0_0 : Int) (a0_1 : Int) (a0_2 : Int) (a1 : Int) (l2 : List (S60)) : Option ((List (S67)) × Int) := (capacitor_New.f a0_0 a0_1 a0_2).bind fun bt169 => (if bt169.2.2.2.2.2 = 0 then (if a1 < 1 then (capacitor_Schedule0.j0 k a1 l2 true bt169.1 bt169.2.1 bt169.2.2.1 bt169.2.2.2.1 bt169.2.2.2.2.1) else (if a1 > 1048576 then (capacitor_Schedule0.j0 k a1 l2 true bt169.1 bt169.2.1 bt169.2.2.1 bt169.2.2.2.1 bt169.2.2.2.2.1) else ((capacitor_validSteps.f l2).bind fun t176 => (capacitor_Schedule0.j0 k a1 l2 (!t176) bt169.1 bt169.2.1 bt169.2.2.1 bt169.2.2.2.1 bt169.2.2.2.2.1)))) else (capacitor_Schedule0.j0 k a1 l2 true bt169.1 bt169.2.1 bt169.2.2.1 bt169.2.2.2.1 bt169.2.2.2.2.1))
theorem capacitor_Schedule0.mono_l : ∀ k, (∀ y0 y1 y2 y3 y4 y5 y6 y7, LeO (capacitor_Schedule0.j0 k y0 y1 y2 y3 y4 y5 y6 y7) (capacitor_Schedule0.j0 (k + 1) y0 y1 y2 y3 y4 y5 y6 y7)) ∧ (∀ y0 y1 y2 y3 y4 y5 y6 y7 y8 y9 y10, LeO (capacitor_Schedule0.l0 k y0 y1 y2 y3 y4 y5 y6 y7 y8 y9 y10) (capacitor_Schedule0.l0 (k + 1) y0 y1 y2 y3 y4 y5 y6 y7 y8 y9 y10)) ∧ (∀ y0 y1 y2 y3 y4 y5 y6 y7 y8 y9 y10 y11 y12 y13 y14, LeO (capacitor_Schedule0.l1 k y0 y1 y2 y3 y4 y5 y6 y7 y8 y9 y10 y11 y12 y13 y14) (capacitor_Schedule0.l1 (k + 1) y0 y1 y2 y3 y4 y5 y6 y7 y8 y9 y10 y11 y12 y13 y14))
  | 0 => ⟨fun _ _ _ _ _ _ _ _ r h => by simp [capacitor_Schedule0.j0] at h, fun _ _ _ _ _ _ _ _ _ _ _ r h => by simp [capacitor_Schedule0.l0] at h, fun _ _ _ _ _ _ _ _ _ _ _ _ _ _ _ r h => by simp [capacitor_Schedule0.l1] at h⟩
  | k + 1 => by
    obtain ⟨ih0, ih1, ih2⟩ := capacitor_Schedule0.mono_l k
    refine ⟨?_, ?_, ?_⟩
    · intro y0 y1 y2 y3 y4 y5 y6 y7
      unfold capacitor_Schedule0.j0
      repeat' first
      | (with_reducible exact ih0 _ _ _ _ _ _ _ _)
      | (with_reducible exact ih1 _ _ _ _ _ _ _ _ _ _ _)
      | (with_reducible exact ih2 _ _ _ _ _ _ _ _ _ _ _ _ _ _ _)
      | (with_reducible exact LeO.refl _)
      | (with_reducible exact LeO.none _)
      | (with_reducible refine LeO.ite ?_ ?_)
      | (with_reducible refine LeO.bind ?_ (fun _ => ?_))
      | exact ih0 _ _ _ _ _ _ _ _
      | exact ih1 _ _ _ _ _ _ _ _ _ _ _
      | exact ih2 _ _ _ _ _ _ _ _ _ _ _ _ _ _ _
      | exact LeO.none _
      | refine LeO.ite ?_ ?_
      | refine LeO.bind ?_ (fun _ => ?_)
    · intro y0 y1 y2 y3 y4 y5 y6 y7 y8 y9 y10
      unfold capacitor_Schedule0.l0
      repeat' first
      | (with_reducible exact ih0 _ _ _ _ _ _ _ _)
      | (with_reducible exact ih1 _ _ _ _ _ _ _ _ _ _ _)
      | (with_reducible exact ih2 _ _ _ _ _ _ _ _ _ _ _ _ _ _ _)
      | (with_reducible exact LeO.refl _)
      | (with_reducible exact LeO.none _)
      | (with_reducible refine LeO.ite ?_ ?_)
      | (with_reducible refine LeO.bind ?_ (fun _ => ?_))
      | exact ih0 _ _ _ _ _ _ _ _
      | exact ih1 _ _ _ _ _ _ _ _ _ _ _
      | exact ih2 _ _ _ _ _ _ _ _ _ _ _ _ _ _ _
      | exact LeO.none _
      | refine LeO.ite ?_ ?_
      | refine LeO.bind ?_ (fun _ => ?_)
    · intro y0 y1 y2 y3 y4 y5 y6 y7 y8 y9 y10 y11 y12 y13 y14
      unfold capacitor_Schedule0.l1
      repeat' first
      | (with_reducible exact ih0 _ _ _ _ _ _ _ _)
      | (with_reducible exact ih1 _ _ _ _ _ _ _ _ _ _ _)
      | (with_reducible exact ih2 _ _ _ _ _ _ _ _ _ _ _ _ _ _ _)
      | (with_reducible exact LeO.refl _)
      | (with_reducible exact LeO.none _)
      | (with_reducible refine LeO.ite ?_ ?_)
      | (with_reducible refine LeO.bind ?_ (fun _ => ?_))
      | exact ih0 _ _ _ _ _ _ _ _
      | exact ih1 _ _ _ _ _ _ _ _ _ _ _
      | exact ih2 _ _ _ _ _ _ _ _ _ _ _ _ _ _ _
      | exact LeO.none _
      | refine LeO.ite ?_ ?_
      | refine LeO.bind ?_ (fun _ => ?_)
theorem capacitor_Schedule0.mono : ∀ a0 a1 a2 a3 a4 k, LeO (capacitor_Schedule0.f k a0 a1 a2 a3 a4) (capacitor_Schedule0.f (k + 1) a0 a1 a2 a3 a4) := by
  intro a0 a1 a2 a3 a4 k
  obtain ⟨ih0, ih1, ih2⟩ := capacitor_Schedule0.mono_l k
  unfold capacitor_Schedule0.f
  repeat' first
      | (with_reducible exact ih0 _ _ _ _ _ _ _ _)
      | (with_reducible exact ih1 _ _ _ _ _ _ _ _ _ _ _)
      | (with_reducible exact ih2 _ _ _ _ _ _ _ _ _ _ _ _ _ _ _)
      | (with_reducible exact LeO.refl _)
      | (with_reducible exact LeO.none _)
      | (with_reducible refine LeO.ite ?_ ?_)
      | (with_reducible refine LeO.bind ?_ (fun _ => ?_))
      | exact ih0 _ _ _ _ _ _ _ _
      | exact ih1 _ _ _ _ _ _ _ _ _ _ _
      | exact ih2 _ _ _ _ _ _ _ _ _ _ _ _ _ _ _
      | exact LeO.none _
      | refine LeO.ite ?_ ?_
      | refine LeO.bind ?_ (fun _ => ?_)
set_option maxHeartbeats 8000000 in
set_option maxRecDepth 100000 in
theorem capacitor_Schedule0.calls (k : Nat) (a0_0 : Int) (a0_1 : Int) (a0_2 : Int) (a1 : Int) (A2 : Option Addr) (c2 : Nat) (l2 : List (S60)) (r1 : List (S67)) (r2 : Int) (w : World) (hr2 : Kd.C k60 w A2 l2.length l2) (hc2 : l2.length ≤ c2) (h : capacitor_Schedule0.f k a0_0 a0_1 a0_2 a1 l2 = some (r1, r2)) :
    Calls Try.prog 23 #[.agg #[.int .i64 a0_0, .int .i64 a0_1, .int .i64 a0_2], .int .i64 a1, .slice A2 l2.length c2] w fun e w' => ∃ v0_ : Value, e = .returned (.tuple #[v0_, .int .i64 r2]) ∧ Kd.R k67 67 w' w.heap.size (fun _ => True) v0_ r1 ∧ Below w.heap.size w w' := by
  have hu31 := Try.underlying31
  have hu60 := Try.underlying60
  have hu67 := Try.underlying67
  have HR2 := Aside0.mk hr2
  have HC2 := Aside0.mk hc2
  clear hr2 hc2
  have HB := Aside0.mk (Below.refl w.heap.size w)
  have H : ((capacitor_New.f a0_0 a0_1 a0_2).bind fun bt169 => (if bt169.2.2.2.2.2 = 0 then (if a1 < 1 then (capacitor_Schedule0.j0 k a1 l2 true bt169.1 bt169.2.1 bt169.2.2.1 bt169.2.2.2.1 bt169.2.2.2.2.1) else (if a1 > 1048576 then (capacitor_Schedule0.j0 k a1 l2 true bt169.1 bt169.2.1 bt169.2.2.1 bt169.2.2.2.1 bt169.2.2.2.2.1) else ((capacitor_validSteps.f l2).bind fun t176 => (capacitor_Schedule0.j0 k a1 l2 (!t176) bt169.1 bt169.2.1 bt169.2.2.1 bt169.2.2.2.1 bt169.2.2.2.2.1)))) else (capacitor_Schedule0.j0 k a1 l2 true bt169.1 bt169.2.1 bt169.2.2.1 bt169.2.2.2.1 bt169.2.2.2.2.1))) = some (r1, r2) := h
  clear h
  replace H := Option.bind_eq_some_iff.mp H
  obtain ⟨⟨t169, t170, t171, t172, t173, t175⟩, A40, H⟩ := H
  replace H : (if t175 = 0 then (if a1 < 1 then (capacitor_Schedule0.j0 k a1 l2 true t169 t170 t171 t172 t173) else (if a1 > 1048576 then (capacitor_Schedule0.j0 k a1 l2 true t169 t170 t171 t172 t173) else ((capacitor_validSteps.f l2).bind fun t176 => (capacitor_Schedule0.j0 k a1 l2 (!t176) t169 t170 t171 t172 t173)))) else (capacitor_Schedule0.j0 k a1 l2 true t169 t170 t171 t172 t173)) = some (r1, r2) := H
  have A4 := Aside0.mk A40
  clear A40
  have HC5 := Aside0.mk H
  clear H
  go_enter Try.func23, Try.ntmps23
  go_upto_region 2 with (first | ((with_reducible refine gate_dst (N := 3) rfl ?_); refine box_event ?hg (N := 3) ?hd (cs := #[.int .i64 a0_0, .int .i64 a0_1, .int .i64 a0_2]) (t := 31) ?hr ?_; (case hd => rfl); (case hg => rfl); (case hr => first | (go_simp; done) | (go_simp; rfl)); intro gb168 hg w6 hbox hb; have n0_ := Aside0.mk (below_step (by repeat (first | (with_reducible first | exact HB.out | apply below_alloc | apply pw_below_drewN | apply below_drew1) | exact HB.out)) hb); have n1_ := Aside0.mk (hbox); have n2_ := Aside0.mk ((by rw [hg]; exact (below_size (by repeat (first | (with_reducible first | exact HB.out | apply below_alloc | apply pw_below_drewN | apply below_drew1) | exact HB.out))) : w.heap.size ≤ gb168)); have n3_ := Aside0.mk ((by rw [hg]; exact (below_size (by repeat (first | (with_reducible first | exact HB.out | apply below_alloc | apply pw_below_drewN | apply below_drew1) | exact HB.out))) : w.heap.size ≤ gb168)); clear HB; have HB := n0_; have BK168 := n1_; have GW168 := n2_; have GE168 := n3_; clear n0_ n1_ n2_ n3_; clear hb hbox hg; have hcz7_0 : w6.cell? ⟨gb168, 0, none⟩ = some (.int .i64 a0_0) := (blk_cell BK168.out 0).trans rfl; have hcz7_1 : w6.cell? ⟨gb168, 1, none⟩ = some (.int .i64 a0_1) := (blk_cell BK168.out 1).trans rfl; have hcz7_2 : w6.cell? ⟨gb168, 2, none⟩ = some (.int .i64 a0_2) := (blk_cell BK168.out 2).trans rfl; have hfz7_0 := blk_frozen BK168.out 0; have hfz7_1 := blk_frozen BK168.out 1; have hfz7_2 := blk_frozen BK168.out 2) | ((with_reducible refine gate_callee (f := 11) rfl ?_); refine goesL_ (some 16) rfl rfl Try.func11 (by kernel_rfl) rfl #[.agg #[.int .i64 a0_0, .int .i64 a0_1, .int .i64 a0_2]] rfl (by (try simp only [List.map_toArray, List.map_cons, List.map_nil]); first | done | rfl | (simp only [List.length_drop, List.length_take]; rfl)) ?_; (with_reducible refine (capacitor_New.calls a0_0 a0_1 a0_2 t169 t170 t171 t172 t173 t175 w _ ?side1 A4.out).mono ?_); (case side1 => repeat (first | (with_reducible first | exact HB.out | apply below_alloc | apply pw_below_drewN | apply below_drew1 | refine below_set ?_ GE168.out) | exact HB.out)); rintro e w8 ⟨g174, rfl, hi, hb, hb2⟩; refine ⟨_, rfl, ?_⟩; have n0_ := Aside0.mk (blk_below (g := gb168) (o := .cells #[.int .i64 a0_0, .int .i64 a0_1, .int .i64 a0_2] 31 (0, 0)) (by (with_reducible repeat (first | refine blk_drewN ?_ _ | refine blk_drew ?_ | refine blk_alloc ?_ _)); exact BK168.out) hb2); have n1_ := Aside0.mk (hb); have n2_ := Aside0.mk (hi); have n3_ := Aside0.mk (IsS70.ne_blk hi (blk_below (g := gb168) (o := .cells #[.int .i64 a0_0, .int .i64 a0_1, .int .i64 a0_2] 31 (0, 0)) (by (with_reducible repeat (first | refine blk_drewN ?_ _ | refine blk_drew ?_ | refine blk_alloc ?_ _)); exact BK168.out) hb2) (by decide)); have n4_ := Aside0.mk (Ne.symm (IsS70.ne_blk hi (blk_below (g := gb168) (o := .cells #[.int .i64 a0_0, .int .i64 a0_1, .int .i64 a0_2] 31 (0, 0)) (by (with_reducible repeat (first | refine blk_drewN ?_ _ | refine blk_drew ?_ | refine blk_alloc ?_ _)); exact BK168.out) hb2) (by decide))); clear BK168; clear HB; have BK168 := n0_; have HB := n1_; have HI174 := n2_; have NB174_168 := n3_; have NB168_174 := n4_; clear n0_ n1_ n2_ n3_ n4_; (try clear hb); (try clear hb2); (try clear hk); (try clear hi)))
  (try simp only [Act.put, List.setIfInBounds_toArray, List.set_cons_zero, List.set_cons_succ])
  go_cut [33] (fun v33 wc => ∃ (kq : Nat) (x33_4 : Bool), v33 = .bool x33_4 ∧ Aside0 (capacitor_Schedule0.j0 kq a1 l2 x33_4 t169 t170 t171 t172 t173 = some (r1, r2)) ∧ Aside0 (kq ≤ k) ∧ Aside0 (wc.heap[gb168]? = some (.cells #[.int .i64 a0_0, .int .i64 a0_1, .int .i64 a0_2] 31 (0, 0))) ∧ Aside0 (IsS70 w wc g174 t169 t170 t171 t172 t173) ∧ Aside0 (Below w.heap.size w wc))
  case first =>
    have H := HC5.out
    clear HC5
    by_cases c9 : t175 = 0
    · rw [if_pos c9] at H
      have c9b0 : (t175 == 0) = true := beq_iff_eq.mpr c9
      have c9b1 : (t175 != 0) = false := bne_eq_false_iff_eq.mpr c9
      clear c9
      (first | rw [c9b0] | (simp only [i64_w, i32_w]; rw [c9b0]) | skip)
      by_cases c10 : a1 < 1
      · rw [if_pos c10] at H
        have c10b0 : decide (a1 < 1) = true := decide_eq_true c10
        clear c10
        have H' := Aside0.mk H
        clear H
        go_wp2
        go_meet
        case rel => exact ⟨_, (true), (by first | rfl | (simp; done) | (simp [*]; done)), H', ⟨by first | omega | exact Nat.le_refl _⟩, ⟨by (with_reducible repeat (first | refine blk_drewN ?_ _ | refine blk_drew ?_ | refine blk_alloc ?_ _)); exact BK168.out⟩, ⟨by repeat (first | (with_reducible first | exact HI174.out | apply IsS70.alloc | apply IsS70.drewN | apply IsS70.drew | apply IsS70.set_0 | apply IsS70.set_1 | apply IsS70.set_2 | apply IsS70.set_3 | apply IsS70.set_4 | refine IsS70.far ?_ NB174_168.out _) | exact HI174.out)⟩, ⟨by repeat (first | (with_reducible first | exact HB.out | apply below_alloc | apply pw_below_drewN | apply below_drew1 | refine below_set ?_ (IsS70.ge HI174.out) | refine below_set ?_ GE168.out) | exact HB.out)⟩⟩
      · rw [if_neg c10] at H
        have c10b0 : decide (a1 < 1) = false := decide_eq_false c10
        clear c10
        by_cases c11 : a1 > 1048576
        · rw [if_pos c11] at H
          have c11b0 : decide (1048576 < a1) = true := decide_eq_true c11
          clear c11
          have H' := Aside0.mk H
          clear H
          go_wp2
          go_meet
          case rel => exact ⟨_, (true), (by first | rfl | (simp; done) | (simp [*]; done)), H', ⟨by first | omega | exact Nat.le_refl _⟩, ⟨by (with_reducible repeat (first | refine blk_drewN ?_ _ | refine blk_drew ?_ | refine blk_alloc ?_ _)); exact BK168.out⟩, ⟨by repeat (first | (with_reducible first | exact HI174.out | apply IsS70.alloc | apply IsS70.drewN | apply IsS70.drew | apply IsS70.set_0 | apply IsS70.set_1 | apply IsS70.set_2 | apply IsS70.set_3 | apply IsS70.set_4 | refine IsS70.far ?_ NB174_168.out _) | exact HI174.out)⟩, ⟨by repeat (first | (with_reducible first | exact HB.out | apply below_alloc | apply pw_below_drewN | apply below_drew1 | refine below_set ?_ (IsS70.ge HI174.out) | refine below_set ?_ GE168.out) | exact HB.out)⟩⟩
        · rw [if_neg c11] at H
          have c11b0 : decide (1048576 < a1) = false := decide_eq_false c11
          clear c11
          replace H := Option.bind_eq_some_iff.mp H
          obtain ⟨t176, A120, H⟩ := H
          replace H : (capacitor_Schedule0.j0 k a1 l2 (!t176) t169 t170 t171 t172 t173) = some (r1, r2) := H
          have A12 := Aside0.mk A120
          clear A120
          have H' := Aside0.mk H
          clear H
          go_wp2_with (first | (go_at_call 28; (with_reducible refine (capacitor_validSteps.calls _ _ l2 t176 _ ?side1 ?side2 A12.out).mono ?_); (case side1 => repeat (first | exact (Kd.C_below HR2.out HB.out) | (with_reducible refine Kd.C_alloc ?_ _) | (with_reducible refine Kd.C_drewN ?_ _) | (with_reducible refine Kd.C_drew ?_))); (case side2 => exact HC2.out); rintro e w13 ⟨rfl, hb⟩; have n0_ := Aside0.mk (blk_below (g := gb168) (o := .cells #[.int .i64 a0_0, .int .i64 a0_1, .int .i64 a0_2] 31 (0, 0)) (by (with_reducible repeat (first | refine blk_drewN ?_ _ | refine blk_drew ?_ | refine blk_alloc ?_ _)); exact BK168.out) hb); have n1_ := Aside0.mk (IsS70.below (by repeat (first | (with_reducible first | exact HI174.out | apply IsS70.alloc | apply IsS70.drewN | apply IsS70.drew | apply IsS70.set_0 | apply IsS70.set_1 | apply IsS70.set_2 | apply IsS70.set_3 | apply IsS70.set_4 | refine IsS70.far ?_ NB174_168.out _) | exact HI174.out)) hb); have n2_ := Aside0.mk (below_step (by repeat (first | (with_reducible first | exact HB.out | apply below_alloc | apply pw_below_drewN | apply below_drew1 | refine below_set ?_ (IsS70.ge HI174.out) | refine below_set ?_ GE168.out) | exact HB.out)) hb); clear BK168; clear HI174; clear HB; have BK168 := n0_; have HI174 := n1_; have HB := n2_; clear n0_ n1_ n2_; (try clear hb); (try clear hb2); (try clear hk); (try clear hi)))
          go_meet
          case rel => exact ⟨_, (!t176), (by first | rfl | (simp; done) | (simp [*]; done)), H', ⟨by first | omega | exact Nat.le_refl _⟩, ⟨by (with_reducible repeat (first | refine blk_drewN ?_ _ | refine blk_drew ?_ | refine blk_alloc ?_ _)); exact BK168.out⟩, ⟨by repeat (first | (with_reducible first | exact HI174.out | apply IsS70.alloc | apply IsS70.drewN | apply IsS70.drew | apply IsS70.set_0 | apply IsS70.set_1 | apply IsS70.set_2 | apply IsS70.set_3 | apply IsS70.set_4 | refine IsS70.far ?_ NB174_168.out _) | exact HI174.out)⟩, ⟨by repeat (first | (with_reducible first | exact HB.out | apply below_alloc | apply pw_below_drewN | apply below_drew1 | refine below_set ?_ (IsS70.ge HI174.out) | refine below_set ?_ GE168.out) | exact HB.out)⟩⟩
    · rw [if_neg c9] at H
      have c9b0 : (t175 == 0) = false := beq_eq_false_iff_ne.mpr c9
      have c9b1 : (t175 != 0) = true := bne_iff_ne.mpr c9
      (first | rw [c9b0] | (simp only [i64_w, i32_w]; rw [c9b0]) | skip)
      have H' := Aside0.mk H
      clear H
      go_wp2
      go_meet
      case rel => exact ⟨_, (true), (by first | rfl | (simp; done) | (simp [*]; done)), H', ⟨by first | omega | exact Nat.le_refl _⟩, ⟨by (with_reducible repeat (first | refine blk_drewN ?_ _ | refine blk_drew ?_ | refine blk_alloc ?_ _)); exact BK168.out⟩, ⟨by repeat (first | (with_reducible first | exact HI174.out | apply IsS70.alloc | apply IsS70.drewN | apply IsS70.drew | apply IsS70.set_0 | apply IsS70.set_1 | apply IsS70.set_2 | apply IsS70.set_3 | apply IsS70.set_4 | refine IsS70.far ?_ NB174_168.out _) | exact HI174.out)⟩, ⟨by repeat (first | (with_reducible first | exact HB.out | apply below_alloc | apply pw_below_drewN | apply below_drew1 | refine below_set ?_ (IsS70.ge HI174.out) | refine below_set ?_ GE168.out) | exact HB.out)⟩⟩
  case rest =>
    clear HC5
    try clear c1
    try clear c2
    try clear p2
    try clear c9
    try clear c9b0
    try clear c9b1
    try clear c10
    try clear c10b0
    try clear c11
    try clear c11b0
    try clear hcz7_0
    try clear hcz7_1
    try clear hcz7_2
    try clear hfz7_0
    try clear hfz7_1
    try clear hfz7_2
    obtain ⟨kq, x33_4, rfl, HA, HJ4, BK168, HI174, HB⟩ := hcut
    cases kq with
    | zero => exact absurd HA.out (by simp [capacitor_Schedule0.j0])
    | succ kj4 =>
      have H := HA.out
      clear HA
      simp only [capacitor_Schedule0.j0] at H
      by_cases c14 : x33_4 = true
      · subst c14
        have H1 : (some (([] : List (S67)), 1)) = some (r1, r2) := by rw [if_pos rfl] at H; exact H
        clear H
        have H := H1
        clear H1
        simp only [Option.some.injEq, Prod.mk.injEq] at H
        obtain ⟨rfl, rfl⟩ := H
        go_wp2
        go_ret2
        exact ⟨_, by first | rfl | (simp [errW_none, errW_some] <;> rfl) | (simp [*, errW_none, errW_some] <;> rfl), by first | exact Kd.R_nil _ _ _ _ _ | exact Kd.N_nil _ _ _ _ _ | exact Kd.V_nil _ _ _ _ _ | exact Kd.Q_nil _ _ _ _ _ | exact Kd.S_nil _ _ _ _ _, by repeat (first | (with_reducible first | exact HB.out | apply below_alloc | apply pw_below_drewN | apply below_drew1 | refine below_set ?_ (IsS70.ge HI174.out) | refine below_set ?_ GE168.out) | exact HB.out)⟩
      · replace c14 := Bool.eq_false_iff.mpr c14
        subst c14
        have H1 : (capacitor_Schedule0.l0 kj4 a1 ([] : List (S67)) 0 l2 (l2.length : Int) 0 t169 t170 t171 t172 t173) = some (r1, r2) := by rw [if_neg (show ¬ (false = true) by decide)] at H; exact H
        clear H
        have H := H1
        clear H1
        have H' := Aside0.mk H
        clear H
        go_wp2
        go_loopg [10, 11, 36] kj4 (fun kq v10 v11 v36 w' => ∃ (x10_2 : List (S67)) (x11_2 : Int) (x36_2 : Int) (x175000_2 : Int) (x175001_2 : Int) (x175002_2 : Int) (x175003_2 : Int) (x175004_2 : Bool), v11 = .int .i64 x11_2 ∧ v36 = .int .i64 x36_2 ∧ Aside0 (capacitor_Schedule0.l0 kq a1 x10_2 x11_2 l2 (l2.length : Int) x36_2 x175000_2 x175001_2 x175002_2 x175003_2 x175004_2 = some (r1, r2)) ∧ Aside0 (kq ≤ kj4) ∧ Aside0 (Kd.R k67 67 w' w.heap.size (fun _ => True) v10 x10_2) ∧ Aside0 (w'.heap[gb168]? = some (.cells #[.int .i64 a0_0, .int .i64 a0_1, .int .i64 a0_2] 31 (0, 0))) ∧ Aside0 (IsS70 w w' g174 x175000_2 x175001_2 x175002_2 x175003_2 x175004_2) ∧ Aside0 (Below w.heap.size w w'))
        case atStart => exact ⟨(([] : List (S67))), (0), (0), (t169), (t170), (t171), (t172), (t173), (by first | rfl | (simp; done) | (simp [*]; done)), (by first | rfl | (simp; done) | (simp [*]; done)), H', ⟨Nat.le_refl _⟩, ⟨by first | exact Kd.R_nil _ _ _ _ _ | exact Kd.N_nil _ _ _ _ _ | exact Kd.V_nil _ _ _ _ _ | exact Kd.Q_nil _ _ _ _ _ | exact Kd.S_nil _ _ _ _ _⟩, ⟨by (with_reducible repeat (first | refine blk_drewN ?_ _ | refine blk_drew ?_ | refine blk_alloc ?_ _)); exact BK168.out⟩, ⟨by repeat (first | (with_reducible first | exact HI174.out | apply IsS70.alloc | apply IsS70.drewN | apply IsS70.drew | apply IsS70.set_0 | apply IsS70.set_1 | apply IsS70.set_2 | apply IsS70.set_3 | apply IsS70.set_4 | refine IsS70.far ?_ NB174_168.out _) | exact HI174.out)⟩, ⟨by repeat (first | (with_reducible first | exact HB.out | apply below_alloc | apply pw_below_drewN | apply below_drew1 | refine below_set ?_ (IsS70.ge HI174.out) | refine below_set ?_ GE168.out) | exact HB.out)⟩⟩
        case round =>
          clear H'
          try clear c1
          try clear c2
          try clear p2
          try clear c9
          try clear c9b0
          try clear c9b1
          try clear c10
          try clear c10b0
          try clear c11
          try clear c11b0
          try clear c14
          try clear hcz7_0
          try clear hcz7_1
          try clear hcz7_2
          try clear hfz7_0
          try clear hfz7_1
          try clear hfz7_2
          try clear p2
          obtain ⟨x10_2, x11_2, x36_2, x175000_2, x175001_2, x175002_2, x175003_2, x175004_2, rfl, rfl, HA, HK2, HO_10, BK168, HI174, HB⟩ := hrel
          cases gk with
          | zero => exact absurd HA.out (by simp [capacitor_Schedule0.l0])
          | succ k2 =>
            have H := HA.out
            clear HA
            simp only [capacitor_Schedule0.l0] at H
            by_cases c15 : x36_2 < (l2.length : Int)
            · rw [if_pos c15] at H
              have c15b0 : decide (x36_2 < (l2.length : Int)) = true := decide_eq_true c15
              clear c15
              by_cases c16 : 0 ≤ x36_2
              · rw [if_pos c16] at H
                have c16b0 : decide (0 ≤ x36_2) = true := decide_eq_true c16
                clear c16
                by_cases c17 : x36_2 < (l2.length : Int)
                · rw [if_pos c17] at H
                  have c17b0 : decide (x36_2 < (l2.length : Int)) = true := decide_eq_true c17
                  clear c17
                  have H' := Aside0.mk H
                  clear H
                  have p177 : 0 ≤ (x36_2 : Int) := of_decide_eq_true (by first | (with_reducible assumption) | assumption)
                  have q177 : x36_2 < (l2.length : Int) := of_decide_eq_true (by first | (with_reducible assumption) | assumption)
                  obtain ⟨ad177, e177, hx177_0, hx177_1⟩ := at_T60 HR2.out x36_2 p177 q177
                  cases e177
                  replace hx177_0 := (HB.out.cell (World.block_lt_of_cell? w _ hx177_0)).trans hx177_0
                  replace hx177_1 := (HB.out.cell (World.block_lt_of_cell? w _ hx177_1)).trans hx177_1
                  replace p177 := eq_true p177
                  replace q177 := eq_true q177
                  go_wp2_with (first | ((with_reducible refine gate_dst (N := 13) rfl ?_); refine box_event ?hg (N := 13) ?hd (cs := #[.int .i64 0, .int .i64 0]) (t := 60) ?hr ?_; (case hd => rfl); (case hg => rfl); (case hr => first | (go_simp; done) | (go_simp; rfl)); intro gb178 hg w18 hbox hb; have n0_ := Aside0.mk (Kd.R_below (by (with_reducible repeat (first | apply Kd.R_alloc | apply Kd.R_drewN | apply Kd.R_drew)); exact HO_10.out) hb); have n1_ := Aside0.mk (blk_below (g := gb168) (o := .cells #[.int .i64 a0_0, .int .i64 a0_1, .int .i64 a0_2] 31 (0, 0)) (by (with_reducible repeat (first | refine blk_drewN ?_ _ | refine blk_drew ?_ | refine blk_alloc ?_ _)); exact BK168.out) hb); have n2_ := Aside0.mk (IsS70.below (by repeat (first | (with_reducible first | exact HI174.out | apply IsS70.alloc | apply IsS70.drewN | apply IsS70.drew | apply IsS70.set_0 | apply IsS70.set_1 | apply IsS70.set_2 | apply IsS70.set_3 | apply IsS70.set_4 | refine IsS70.far ?_ NB174_168.out _) | exact HI174.out)) hb); have n3_ := Aside0.mk (below_step (by repeat (first | (with_reducible first | exact HB.out | apply below_alloc | apply pw_below_drewN | apply below_drew1 | refine below_set ?_ (IsS70.ge HI174.out) | refine below_set ?_ GE168.out) | exact HB.out)) hb); have n4_ := Aside0.mk (hbox); have n5_ := Aside0.mk ((by rw [hg]; exact (below_size (by repeat (first | (with_reducible first | exact HB.out | apply below_alloc | apply pw_below_drewN | apply below_drew1 | refine below_set ?_ (IsS70.ge HI174.out) | refine below_set ?_ GE168.out) | exact HB.out))) : w.heap.size ≤ gb178)); have n6_ := Aside0.mk ((by rw [hg]; exact (below_size (by repeat (first | (with_reducible first | exact HB.out | apply below_alloc | apply pw_below_drewN | apply below_drew1 | refine below_set ?_ (IsS70.ge HI174.out) | refine below_set ?_ GE168.out) | exact HB.out))) : w.heap.size ≤ gb178)); have n7_ := Aside0.mk ((by rw [hg]; exact Nat.ne_of_lt (blk_lt (g := gb168) (o := .cells #[.int .i64 a0_0, .int .i64 a0_1, .int .i64 a0_2] 31 (0, 0)) (by (with_reducible repeat (first | refine blk_drewN ?_ _ | refine blk_drew ?_ | refine blk_alloc ?_ _)); exact BK168.out)) : gb168 ≠ gb178)); have n8_ := Aside0.mk ((by rw [hg]; exact Nat.ne_of_gt (blk_lt (g := gb168) (o := .cells #[.int .i64 a0_0, .int .i64 a0_1, .int .i64 a0_2] 31 (0, 0)) (by (with_reducible repeat (first | refine blk_drewN ?_ _ | refine blk_drew ?_ | refine blk_alloc ?_ _)); exact BK168.out)) : gb178 ≠ gb168)); have n9_ := Aside0.mk ((by rw [hg]; exact Nat.ne_of_lt (IsS70.lt (show IsS70 w _ g174 x175000_2 x175001_2 x175002_2 x175003_2 x175004_2 from by repeat (first | (with_reducible first | exact HI174.out | apply IsS70.alloc | apply IsS70.drewN | apply IsS70.drew | apply IsS70.set_0 | apply IsS70.set_1 | apply IsS70.set_2 | apply IsS70.set_3 | apply IsS70.set_4 | refine IsS70.far ?_ NB174_168.out _) | exact HI174.out))) : g174 ≠ gb178)); have n10_ := Aside0.mk ((by rw [hg]; exact Nat.ne_of_gt (IsS70.lt (show IsS70 w _ g174 x175000_2 x175001_2 x175002_2 x175003_2 x175004_2 from by repeat (first | (with_reducible first | exact HI174.out | apply IsS70.alloc | apply IsS70.drewN | apply IsS70.drew | apply IsS70.set_0 | apply IsS70.set_1 | apply IsS70.set_2 | apply IsS70.set_3 | apply IsS70.set_4 | refine IsS70.far ?_ NB174_168.out _) | exact HI174.out))) : gb178 ≠ g174)); clear HO_10; clear BK168; clear HI174; clear HB; have HO_10 := n0_; have BK168 := n1_; have HI174 := n2_; have HB := n3_; have BK178 := n4_; have GW178 := n5_; have GE178 := n6_; have NB168_178 := n7_; have NB178_168 := n8_; have NB174_178 := n9_; have NB178_174 := n10_; clear n0_ n1_ n2_ n3_ n4_ n5_ n6_ n7_ n8_ n9_ n10_; clear hb hbox hg; have hnb19 := NB178_168.out; have hnc19 := NB168_178.out; have hnb20 := NB178_174.out; have hnc20 := NB174_178.out; have hcz21_0 : w18.cell? ⟨gb178, 0, none⟩ = some (.int .i64 0) := (blk_cell BK178.out 0).trans rfl; have hcz21_1 : w18.cell? ⟨gb178, 1, none⟩ = some (.int .i64 0) := (blk_cell BK178.out 1).trans rfl; have hfz21_0 := blk_frozen BK178.out 0; have hfz21_1 := blk_frozen BK178.out 1))
                  go_loopg [10, 11, 42] k2 (fun kq v10 v11 v42 w' => ∃ (x10_3 : List (S67)) (x11_3 : Int) (x42_3 : Int) (x175000_3 : Int) (x175001_3 : Int) (x175002_3 : Int) (x175003_3 : Int) (x175004_3 : Bool), v11 = .int .i64 x11_3 ∧ v42 = .int .i64 x42_3 ∧ Aside0 (capacitor_Schedule0.l1 kq a1 x10_3 x11_3 l2 (l2.length : Int) x36_2 ((rd_T60 l2 x36_2).f1) x42_3 x175000_3 x175001_3 x175002_3 x175003_3 x175004_3 ((rd_T60 l2 x36_2).f0) ((rd_T60 l2 x36_2).f1) = some (r1, r2)) ∧ Aside0 (kq ≤ k2) ∧ Aside0 (Kd.R k67 67 w' w.heap.size (fun _ => True) v10 x10_3) ∧ Aside0 (w'.heap[gb168]? = some (.cells #[.int .i64 a0_0, .int .i64 a0_1, .int .i64 a0_2] 31 (0, 0))) ∧ Aside0 (w'.heap[gb178]? = some (.cells #[.int .i64 ((rd_T60 l2 x36_2).f0), .int .i64 ((rd_T60 l2 x36_2).f1)] 60 (0, 0))) ∧ Aside0 (IsS70 w w' g174 x175000_3 x175001_3 x175002_3 x175003_3 x175004_3) ∧ Aside0 (Below w.heap.size w w'))
                  case atStart => exact ⟨(x10_2), (x11_2), (0), (x175000_2), (x175001_2), (x175002_2), (x175003_2), (x175004_2), (by first | rfl | (simp; done) | (simp [*]; done)), (by first | rfl | (simp; done) | (simp [*]; done)), H', ⟨Nat.le_refl _⟩, ⟨by (with_reducible repeat (first | apply Kd.R_alloc | apply Kd.R_drewN | apply Kd.R_drew)); exact Kd.R_mono (Kd.R_far (p := ⟨gb178, 1, none⟩) (Kd.R_far (p := ⟨gb178, 0, none⟩) (Kd.R_types HO_10.out BK178.out (by decide)) (fun _ hk => hk.2) (.int .i64 ((rd_T60 l2 x36_2).f0))) (fun _ hk => hk.2) (.int .i64 ((rd_T60 l2 x36_2).f1))) (fun _ hk => trivial)⟩, ⟨by (with_reducible repeat (first | refine blk_drewN ?_ _ | refine blk_drew ?_ | refine blk_alloc ?_ _)); refine blk_far ?_ NB168_178.out _; (with_reducible repeat (first | refine blk_drewN ?_ _ | refine blk_drew ?_ | refine blk_alloc ?_ _)); refine blk_far ?_ NB168_178.out _; (with_reducible repeat (first | refine blk_drewN ?_ _ | refine blk_drew ?_ | refine blk_alloc ?_ _)); exact BK168.out⟩, ⟨by (with_reducible repeat (first | refine blk_drewN ?_ _ | refine blk_drew ?_ | refine blk_alloc ?_ _)); refine blk_put (cs := #[.int .i64 ((rd_T60 l2 x36_2).f0), .int .i64 0]) ?_ 1 _ rfl; (with_reducible repeat (first | refine blk_drewN ?_ _ | refine blk_drew ?_ | refine blk_alloc ?_ _)); refine blk_put (cs := #[.int .i64 0, .int .i64 0]) ?_ 0 _ rfl; (with_reducible repeat (first | refine blk_drewN ?_ _ | refine blk_drew ?_ | refine blk_alloc ?_ _)); exact BK178.out⟩, ⟨by repeat (first | (with_reducible first | exact HI174.out | apply IsS70.alloc | apply IsS70.drewN | apply IsS70.drew | apply IsS70.set_0 | apply IsS70.set_1 | apply IsS70.set_2 | apply IsS70.set_3 | apply IsS70.set_4 | refine IsS70.far ?_ NB174_168.out _ | refine IsS70.far ?_ NB174_178.out _) | exact HI174.out)⟩, ⟨by repeat (first | (with_reducible first | exact HB.out | apply below_alloc | apply pw_below_drewN | apply below_drew1 | refine below_set ?_ (IsS70.ge HI174.out) | refine below_set ?_ GE168.out | refine below_set ?_ GE178.out) | exact HB.out)⟩⟩
                  case round =>
                    clear H'
                    try clear c1
                    try clear p1
                    try clear q1
                    try clear hx1
                    try clear c2
                    try clear p2
                    try clear c9
                    try clear c9b0
                    try clear c9b1
                    try clear c10
                    try clear c10b0
                    try clear c11
                    try clear c11b0
                    try clear c14
                    try clear c15
                    try clear c15b0
                    try clear c16
                    try clear c16b0
                    try clear c17
                    try clear c17b0
                    try clear p17
                    try clear q17
                    try clear hx17
                    try clear c19
                    try clear c20
                    try clear hcz21_0
                    try clear hcz21_1
                    try clear hcz7_0
                    try clear hcz7_1
                    try clear hcz7_2
                    try clear hfz21_0
                    try clear hfz21_1
                    try clear hfz7_0
                    try clear hfz7_1
                    try clear hfz7_2
                    try clear hx177_0
                    try clear hx177_1
                    try clear p177
                    try clear p2
                    try clear q177
                    obtain ⟨x10_3, x11_3, x42_3, x175000_3, x175001_3, x175002_3, x175003_3, x175004_3, rfl, rfl, HA, HK3, HO_10, BK168, BK178, HI174, HB⟩ := hrel
                    cases gk with
                    | zero => exact absurd HA.out (by simp [capacitor_Schedule0.l1])
                    | succ k3 =>
                      have H := HA.out
                      clear HA
                      simp only [capacitor_Schedule0.l1] at H
                      by_cases c22 : x42_3 < ((rd_T60 l2 x36_2).f1)
                      · rw [if_pos c22] at H
                        have c22b0 : decide (x42_3 < ((rd_T60 l2 x36_2).f1)) = true := decide_eq_true c22
                        clear c22
                        replace H := Option.bind_eq_some_iff.mp H
                        obtain ⟨⟨t179, t180, t181, t182, t183, t184⟩, A230, H⟩ := H
                        replace H : (if t184 = true then ((capacitor_Capacitor_Draw.f t180 t181 t182 t183 t184 a1).bind fun bt185 => (if bt185.1 = true then (capacitor_Schedule0.l1 k3 a1 x10_3 (wrap64 (x11_3 + a1)) l2 (l2.length : Int) x36_2 ((rd_T60 l2 x36_2).f1) (wrap64 (x42_3 + 1)) bt185.2.1 bt185.2.2.1 bt185.2.2.2.1 bt185.2.2.2.2.1 bt185.2.2.2.2.2 ((rd_T60 l2 x36_2).f0) ((rd_T60 l2 x36_2).f1)) else (if x10_3.length < 8796093022208 then (capacitor_Schedule0.l1 k3 a1 (x10_3 ++ [(⟨wrap64 (x11_3 + a1), 0⟩ : S67)]) 0 l2 (l2.length : Int) x36_2 ((rd_T60 l2 x36_2).f1) (wrap64 (x42_3 + 1)) bt185.2.1 bt185.2.2.1 bt185.2.2.2.1 bt185.2.2.2.2.1 bt185.2.2.2.2.2 ((rd_T60 l2 x36_2).f0) ((rd_T60 l2 x36_2).f1)) else (none)))) else (if (x10_3.length : Int) > 0 then (if 0 ≤ (wrap64 ((x10_3.length : Int) - 1)) then (if (wrap64 ((x10_3.length : Int) - 1)) < (x10_3.length : Int) then (capacitor_Schedule0.l1 k3 a1 (x10_3.set ((wrap64 ((x10_3.length : Int) - 1)) : Int).toNat (⟨(rd_T67 x10_3 (wrap64 ((x10_3.length : Int) - 1))).f0, wrap64 (((rd_T67 x10_3 (wrap64 ((x10_3.length : Int) - 1))).f1) + 1)⟩ : S67)) x11_3 l2 (l2.length : Int) x36_2 ((rd_T60 l2 x36_2).f1) (wrap64 (x42_3 + 1)) t180 t181 t182 t183 t184 ((rd_T60 l2 x36_2).f0) ((rd_T60 l2 x36_2).f1)) else (none)) else (none)) else (capacitor_Schedule0.l1 k3 a1 x10_3 x11_3 l2 (l2.length : Int) x36_2 ((rd_T60 l2 x36_2).f1) (wrap64 (x42_3 + 1)) t180 t181 t182 t183 t184 ((rd_T60 l2 x36_2).f0) ((rd_T60 l2 x36_2).f1)))) = some (r1, r2) := H
                        have A23 := Aside0.mk A230
                        clear A230
                        by_cases c24 : t184 = true
                        · subst c24
                          have H1 : ((capacitor_Capacitor_Draw.f t180 t181 t182 t183 true a1).bind fun bt185 => (if bt185.1 = true then (capacitor_Schedule0.l1 k3 a1 x10_3 (wrap64 (x11_3 + a1)) l2 (l2.length : Int) x36_2 ((rd_T60 l2 x36_2).f1) (wrap64 (x42_3 + 1)) bt185.2.1 bt185.2.2.1 bt185.2.2.2.1 bt185.2.2.2.2.1 bt185.2.2.2.2.2 ((rd_T60 l2 x36_2).f0) ((rd_T60 l2 x36_2).f1)) else (if x10_3.length < 8796093022208 then (capacitor_Schedule0.l1 k3 a1 (x10_3 ++ [(⟨wrap64 (x11_3 + a1), 0⟩ : S67)]) 0 l2 (l2.length : Int) x36_2 ((rd_T60 l2 x36_2).f1) (wrap64 (x42_3 + 1)) bt185.2.1 bt185.2.2.1 bt185.2.2.2.1 bt185.2.2.2.2.1 bt185.2.2.2.2.2 ((rd_T60 l2 x36_2).f0) ((rd_T60 l2 x36_2).f1)) else (none)))) = some (r1, r2) := by rw [if_pos rfl] at H; exact H
                          clear H
                          have H := H1
                          clear H1
                          replace H := Option.bind_eq_some_iff.mp H
                          obtain ⟨⟨t185, t186, t187, t188, t189, t190⟩, A250, H⟩ := H
                          replace H : (if t185 = true then (capacitor_Schedule0.l1 k3 a1 x10_3 (wrap64 (x11_3 + a1)) l2 (l2.length : Int) x36_2 ((rd_T60 l2 x36_2).f1) (wrap64 (x42_3 + 1)) t186 t187 t188 t189 t190 ((rd_T60 l2 x36_2).f0) ((rd_T60 l2 x36_2).f1)) else (if x10_3.length < 8796093022208 then (capacitor_Schedule0.l1 k3 a1 (x10_3 ++ [(⟨wrap64 (x11_3 + a1), 0⟩ : S67)]) 0 l2 (l2.length : Int) x36_2 ((rd_T60 l2 x36_2).f1) (wrap64 (x42_3 + 1)) t186 t187 t188 t189 t190 ((rd_T60 l2 x36_2).f0) ((rd_T60 l2 x36_2).f1)) else (none))) = some (r1, r2) := H
                          have A25 := Aside0.mk A250
                          clear A250
                          by_cases c26 : t185 = true
                          · subst c26
                            have H1 : (capacitor_Schedule0.l1 k3 a1 x10_3 (wrap64 (x11_3 + a1)) l2 (l2.length : Int) x36_2 ((rd_T60 l2 x36_2).f1) (wrap64 (x42_3 + 1)) t186 t187 t188 t189 t190 ((rd_T60 l2 x36_2).f0) ((rd_T60 l2 x36_2).f1)) = some (r1, r2) := by rw [if_pos rfl] at H; exact H
                            clear H
                            have H := H1
                            clear H1
                            have H' := Aside0.mk H
                            clear H
                            have hnb27 := NB178_168.out
                            have hnc27 := NB168_178.out
                            have hnb28 := NB178_174.out
                            have hnc28 := NB174_178.out
                            have hcz29_0 : wr.cell? ⟨gb178, 0, none⟩ = some (.int .i64 ((rd_T60 l2 x36_2).f0)) := (blk_cell BK178.out 0).trans rfl
                            have hcz29_1 : wr.cell? ⟨gb178, 1, none⟩ = some (.int .i64 ((rd_T60 l2 x36_2).f1)) := (blk_cell BK178.out 1).trans rfl
                            have hfz29_0 := blk_frozen BK178.out 0
                            have hfz29_1 := blk_frozen BK178.out 1
                            go_wp2_with (first | ((with_reducible refine gate_callee (f := 15) rfl ?_); refine goesL_ (some 47) rfl rfl Try.func15 (by kernel_rfl) rfl #[.pointer (some ⟨g174, 0, none⟩), .int .i64 ((rd_T60 l2 x36_2).f0), .int .i64 1] rfl (by (try simp only [List.map_toArray, List.map_cons, List.map_nil]); first | done | rfl | (simp only [List.length_drop, List.length_take]; rfl)) ?_; (with_reducible refine (capacitor_Capacitor_Harvest.calls g174 x175000_3 x175001_3 x175002_3 x175003_3 x175004_3 ((rd_T60 l2 x36_2).f0) 1 t179 t180 t181 t182 t183 true w _ ?side1 ?side2 A23.out).mono ?_); (case side1 => repeat (first | (with_reducible first | exact HI174.out | apply IsS70.alloc | apply IsS70.drewN | apply IsS70.drew | apply IsS70.set_0 | apply IsS70.set_1 | apply IsS70.set_2 | apply IsS70.set_3 | apply IsS70.set_4 | refine IsS70.far ?_ NB174_168.out _ | refine IsS70.far ?_ NB174_178.out _) | exact HI174.out)); (case side2 => repeat (first | (with_reducible first | exact HB.out | apply below_alloc | apply pw_below_drewN | apply below_drew1 | refine below_set ?_ (IsS70.ge HI174.out) | refine below_set ?_ GE168.out | refine below_set ?_ GE178.out) | exact HB.out)); rintro e w30 ⟨rfl, hi, hb, hk⟩; refine ⟨_, rfl, ?_⟩; have n0_ := Aside0.mk (Kd.R_mono (Kd.R_keep (IsS70.apart (show IsS70 w _ g174 x175000_3 x175001_3 x175002_3 x175003_3 x175004_3 from by repeat (first | (with_reducible first | exact HI174.out | apply IsS70.alloc | apply IsS70.drewN | apply IsS70.drew | apply IsS70.set_0 | apply IsS70.set_1 | apply IsS70.set_2 | apply IsS70.set_3 | apply IsS70.set_4 | refine IsS70.far ?_ NB174_168.out _ | refine IsS70.far ?_ NB174_178.out _) | exact HI174.out)) (by (with_reducible repeat (first | apply Kd.R_alloc | apply Kd.R_drewN | apply Kd.R_drew)); exact HO_10.out) (by decide)) hk (fun _ h => h.2)) (fun _ h => h.1)); have n1_ := Aside0.mk (KeepBut.blk hk (g' := gb168) (o := .cells #[.int .i64 a0_0, .int .i64 a0_1, .int .i64 a0_2] 31 (0, 0)) (by (with_reducible repeat (first | refine blk_drewN ?_ _ | refine blk_drew ?_ | refine blk_alloc ?_ _)); exact BK168.out) NB168_174.out (by simp)); have n2_ := Aside0.mk (KeepBut.blk hk (g' := gb178) (o := .cells #[.int .i64 ((rd_T60 l2 x36_2).f0), .int .i64 ((rd_T60 l2 x36_2).f1)] 60 (0, 0)) (by (with_reducible repeat (first | refine blk_drewN ?_ _ | refine blk_drew ?_ | refine blk_alloc ?_ _)); exact BK178.out) NB178_174.out (by simp)); have n3_ := Aside0.mk (hb); have n4_ := Aside0.mk (hi); clear HO_10; clear BK168; clear BK178; clear HB; clear HI174; have HO_10 := n0_; have BK168 := n1_; have BK178 := n2_; have HB := n3_; have HI174 := n4_; clear n0_ n1_ n2_ n3_ n4_; (try clear hb); (try clear hb2); (try clear hk); (try clear hi); obtain ⟨HGz31, hgz31⟩ := HI174.out; have hcz31_0 := cellS70_0 HGz31; have hcz31_1 := cellS70_1 HGz31; have hcz31_2 := cellS70_2 HGz31; have hcz31_3 := cellS70_3 HGz31; have hcz31_4 := cellS70_4 HGz31; have hfz31_0 := blk_frozen HGz31 0; have hfz31_1 := blk_frozen HGz31 1; have hfz31_2 := blk_frozen HGz31 2; have hfz31_3 := blk_frozen HGz31 3; have hfz31_4 := blk_frozen HGz31 4; clear HGz31 hgz31) | ((with_reducible refine gate_callee (f := 14) rfl ?_); refine goesL_ (some 58) rfl rfl Try.func14 (by kernel_rfl) rfl #[.pointer (some ⟨g174, 0, none⟩), .int .i64 a1] rfl (by (try simp only [List.map_toArray, List.map_cons, List.map_nil]); first | done | rfl | (simp only [List.length_drop, List.length_take]; rfl)) ?_; (with_reducible refine (capacitor_Capacitor_Draw.calls g174 t180 t181 t182 t183 true a1 true t186 t187 t188 t189 t190 w _ ?side1 ?side2 A25.out).mono ?_); (case side1 => repeat (first | (with_reducible first | exact HI174.out | apply IsS70.alloc | apply IsS70.drewN | apply IsS70.drew | apply IsS70.set_0 | apply IsS70.set_1 | apply IsS70.set_2 | apply IsS70.set_3 | apply IsS70.set_4 | refine IsS70.far ?_ NB174_168.out _ | refine IsS70.far ?_ NB174_178.out _) | exact HI174.out)); (case side2 => repeat (first | (with_reducible first | exact HB.out | apply below_alloc | apply pw_below_drewN | apply below_drew1 | refine below_set ?_ (IsS70.ge HI174.out) | refine below_set ?_ GE168.out | refine below_set ?_ GE178.out) | exact HB.out)); rintro e w32 ⟨rfl, hi, hb, hk⟩; refine ⟨_, rfl, ?_⟩; have n0_ := Aside0.mk (Kd.R_mono (Kd.R_keep (IsS70.apart (show IsS70 w _ g174 t180 t181 t182 t183 true from by repeat (first | (with_reducible first | exact HI174.out | apply IsS70.alloc | apply IsS70.drewN | apply IsS70.drew | apply IsS70.set_0 | apply IsS70.set_1 | apply IsS70.set_2 | apply IsS70.set_3 | apply IsS70.set_4 | refine IsS70.far ?_ NB174_168.out _ | refine IsS70.far ?_ NB174_178.out _) | exact HI174.out)) (by (with_reducible repeat (first | apply Kd.R_alloc | apply Kd.R_drewN | apply Kd.R_drew)); exact HO_10.out) (by decide)) hk (fun _ h => h.2)) (fun _ h => h.1)); have n1_ := Aside0.mk (KeepBut.blk hk (g' := gb168) (o := .cells #[.int .i64 a0_0, .int .i64 a0_1, .int .i64 a0_2] 31 (0, 0)) (by (with_reducible repeat (first | refine blk_drewN ?_ _ | refine blk_drew ?_ | refine blk_alloc ?_ _)); exact BK168.out) NB168_174.out (by simp)); have n2_ := Aside0.mk (KeepBut.blk hk (g' := gb178) (o := .cells #[.int .i64 ((rd_T60 l2 x36_2).f0), .int .i64 ((rd_T60 l2 x36_2).f1)] 60 (0, 0)) (by (with_reducible repeat (first | refine blk_drewN ?_ _ | refine blk_drew ?_ | refine blk_alloc ?_ _)); exact BK178.out) NB178_174.out (by simp)); have n3_ := Aside0.mk (hb); have n4_ := Aside0.mk (hi); clear HO_10; clear BK168; clear BK178; clear HB; clear HI174; have HO_10 := n0_; have BK168 := n1_; have BK178 := n2_; have HB := n3_; have HI174 := n4_; clear n0_ n1_ n2_ n3_ n4_; (try clear hb); (try clear hb2); (try clear hk); (try clear hi)))
                            go_roundg k3
                            case measure => have := HJ4.out; have := HK2.out; have := HK3.out; omega
                            case rel => exact ⟨(x10_3), (wrap64 (x11_3 + a1)), (wrap64 (x42_3 + 1)), (t186), (t187), (t188), (t189), (t190), (by first | rfl | (simp; done) | (simp [*]; done)), (by first | rfl | (simp; done) | (simp [*]; done)), H', ⟨by have := HJ4.out; have := HK2.out; have := HK3.out; omega⟩, ⟨by (with_reducible repeat (first | apply Kd.R_alloc | apply Kd.R_drewN | apply Kd.R_drew)); exact HO_10.out⟩, ⟨by (with_reducible repeat (first | refine blk_drewN ?_ _ | refine blk_drew ?_ | refine blk_alloc ?_ _)); exact BK168.out⟩, ⟨by (with_reducible repeat (first | refine blk_drewN ?_ _ | refine blk_drew ?_ | refine blk_alloc ?_ _)); exact BK178.out⟩, ⟨by repeat (first | (with_reducible first | exact HI174.out | apply IsS70.alloc | apply IsS70.drewN | apply IsS70.drew | apply IsS70.set_0 | apply IsS70.set_1 | apply IsS70.set_2 | apply IsS70.set_3 | apply IsS70.set_4 | refine IsS70.far ?_ NB174_168.out _ | refine IsS70.far ?_ NB174_178.out _) | exact HI174.out)⟩, ⟨by repeat (first | (with_reducible first | exact HB.out | apply below_alloc | apply pw_below_drewN | apply below_drew1 | refine below_set ?_ (IsS70.ge HI174.out) | refine below_set ?_ GE168.out | refine below_set ?_ GE178.out) | exact HB.out)⟩⟩
                          · replace c26 := Bool.eq_false_iff.mpr c26
                            subst c26
                            have H1 : (if x10_3.length < 8796093022208 then (capacitor_Schedule0.l1 k3 a1 (x10_3 ++ [(⟨wrap64 (x11_3 + a1), 0⟩ : S67)]) 0 l2 (l2.length : Int) x36_2 ((rd_T60 l2 x36_2).f1) (wrap64 (x42_3 + 1)) t186 t187 t188 t189 t190 ((rd_T60 l2 x36_2).f0) ((rd_T60 l2 x36_2).f1)) else (none)) = some (r1, r2) := by rw [if_neg (show ¬ (false = true) by decide)] at H; exact H
                            clear H
                            have H := H1
                            clear H1
                            by_cases c33 : x10_3.length < 8796093022208
                            · rw [if_pos c33] at H
                              have LMc33 := Aside0.mk c33
                              clear c33
                              obtain ⟨y191, hy191⟩ : ∃ y_ : List (S67), y_ = (x10_3 ++ [(⟨wrap64 (x11_3 + a1), 0⟩ : S67)]) := ⟨_, rfl⟩
                              replace H : (capacitor_Schedule0.l1 k3 a1 y191 0 l2 (l2.length : Int) x36_2 ((rd_T60 l2 x36_2).f1) (wrap64 (x42_3 + 1)) t186 t187 t188 t189 t190 ((rd_T60 l2 x36_2).f0) ((rd_T60 l2 x36_2).f1)) = some (r1, r2) := by first | (rw [hy191]; with_reducible exact H) | (have H2_ := (Option.bind_some _ _).symm.trans H; rw [hy191]; with_reducible exact H2_) | (have H2_ := (Option.bind_some _ _).symm.trans H; with_reducible exact H2_) | with_reducible exact H | (rw [hy191]; exact H) | exact H
                              have Ny191 := Aside0.mk hy191
                              clear hy191
                              have H' := Aside0.mk H
                              clear H
                              have hnb34 := NB178_168.out
                              have hnc34 := NB168_178.out
                              have hnb35 := NB178_174.out
                              have hnc35 := NB174_178.out
                              have hcz36_0 : wr.cell? ⟨gb178, 0, none⟩ = some (.int .i64 ((rd_T60 l2 x36_2).f0)) := (blk_cell BK178.out 0).trans rfl
                              have hcz36_1 : wr.cell? ⟨gb178, 1, none⟩ = some (.int .i64 ((rd_T60 l2 x36_2).f1)) := (blk_cell BK178.out 1).trans rfl
                              have hfz36_0 := blk_frozen BK178.out 0
                              have hfz36_1 := blk_frozen BK178.out 1
                              go_wp2_with (first | ((with_reducible refine gate_callee (f := 15) rfl ?_); refine goesL_ (some 47) rfl rfl Try.func15 (by kernel_rfl) rfl #[.pointer (some ⟨g174, 0, none⟩), .int .i64 ((rd_T60 l2 x36_2).f0), .int .i64 1] rfl (by (try simp only [List.map_toArray, List.map_cons, List.map_nil]); first | done | rfl | (simp only [List.length_drop, List.length_take]; rfl)) ?_; (with_reducible refine (capacitor_Capacitor_Harvest.calls g174 x175000_3 x175001_3 x175002_3 x175003_3 x175004_3 ((rd_T60 l2 x36_2).f0) 1 t179 t180 t181 t182 t183 true w _ ?side1 ?side2 A23.out).mono ?_); (case side1 => repeat (first | (with_reducible first | exact HI174.out | apply IsS70.alloc | apply IsS70.drewN | apply IsS70.drew | apply IsS70.set_0 | apply IsS70.set_1 | apply IsS70.set_2 | apply IsS70.set_3 | apply IsS70.set_4 | refine IsS70.far ?_ NB174_168.out _ | refine IsS70.far ?_ NB174_178.out _) | exact HI174.out)); (case side2 => repeat (first | (with_reducible first | exact HB.out | apply below_alloc | apply pw_below_drewN | apply below_drew1 | refine below_set ?_ (IsS70.ge HI174.out) | refine below_set ?_ GE168.out | refine below_set ?_ GE178.out) | exact HB.out)); rintro e w37 ⟨rfl, hi, hb, hk⟩; refine ⟨_, rfl, ?_⟩; have n0_ := Aside0.mk (Kd.R_mono (Kd.R_keep (IsS70.apart (show IsS70 w _ g174 x175000_3 x175001_3 x175002_3 x175003_3 x175004_3 from by repeat (first | (with_reducible first | exact HI174.out | apply IsS70.alloc | apply IsS70.drewN | apply IsS70.drew | apply IsS70.set_0 | apply IsS70.set_1 | apply IsS70.set_2 | apply IsS70.set_3 | apply IsS70.set_4 | refine IsS70.far ?_ NB174_168.out _ | refine IsS70.far ?_ NB174_178.out _) | exact HI174.out)) (by (with_reducible repeat (first | apply Kd.R_alloc | apply Kd.R_drewN | apply Kd.R_drew)); exact HO_10.out) (by decide)) hk (fun _ h => h.2)) (fun _ h => h.1)); have n1_ := Aside0.mk (KeepBut.blk hk (g' := gb168) (o := .cells #[.int .i64 a0_0, .int .i64 a0_1, .int .i64 a0_2] 31 (0, 0)) (by (with_reducible repeat (first | refine blk_drewN ?_ _ | refine blk_drew ?_ | refine blk_alloc ?_ _)); exact BK168.out) NB168_174.out (by simp)); have n2_ := Aside0.mk (KeepBut.blk hk (g' := gb178) (o := .cells #[.int .i64 ((rd_T60 l2 x36_2).f0), .int .i64 ((rd_T60 l2 x36_2).f1)] 60 (0, 0)) (by (with_reducible repeat (first | refine blk_drewN ?_ _ | refine blk_drew ?_ | refine blk_alloc ?_ _)); exact BK178.out) NB178_174.out (by simp)); have n3_ := Aside0.mk (hb); have n4_ := Aside0.mk (hi); clear HO_10; clear BK168; clear BK178; clear HB; clear HI174; have HO_10 := n0_; have BK168 := n1_; have BK178 := n2_; have HB := n3_; have HI174 := n4_; clear n0_ n1_ n2_ n3_ n4_; (try clear hb); (try clear hb2); (try clear hk); (try clear hi); obtain ⟨HGz38, hgz38⟩ := HI174.out; have hcz38_0 := cellS70_0 HGz38; have hcz38_1 := cellS70_1 HGz38; have hcz38_2 := cellS70_2 HGz38; have hcz38_3 := cellS70_3 HGz38; have hcz38_4 := cellS70_4 HGz38; have hfz38_0 := blk_frozen HGz38 0; have hfz38_1 := blk_frozen HGz38 1; have hfz38_2 := blk_frozen HGz38 2; have hfz38_3 := blk_frozen HGz38 3; have hfz38_4 := blk_frozen HGz38 4; clear HGz38 hgz38) | ((with_reducible refine gate_callee (f := 14) rfl ?_); refine goesL_ (some 58) rfl rfl Try.func14 (by kernel_rfl) rfl #[.pointer (some ⟨g174, 0, none⟩), .int .i64 a1] rfl (by (try simp only [List.map_toArray, List.map_cons, List.map_nil]); first | done | rfl | (simp only [List.length_drop, List.length_take]; rfl)) ?_; (with_reducible refine (capacitor_Capacitor_Draw.calls g174 t180 t181 t182 t183 true a1 false t186 t187 t188 t189 t190 w _ ?side1 ?side2 A25.out).mono ?_); (case side1 => repeat (first | (with_reducible first | exact HI174.out | apply IsS70.alloc | apply IsS70.drewN | apply IsS70.drew | apply IsS70.set_0 | apply IsS70.set_1 | apply IsS70.set_2 | apply IsS70.set_3 | apply IsS70.set_4 | refine IsS70.far ?_ NB174_168.out _ | refine IsS70.far ?_ NB174_178.out _) | exact HI174.out)); (case side2 => repeat (first | (with_reducible first | exact HB.out | apply below_alloc | apply pw_below_drewN | apply below_drew1 | refine below_set ?_ (IsS70.ge HI174.out) | refine below_set ?_ GE168.out | refine below_set ?_ GE178.out) | exact HB.out)); rintro e w39 ⟨rfl, hi, hb, hk⟩; refine ⟨_, rfl, ?_⟩; have n0_ := Aside0.mk (Kd.R_mono (Kd.R_keep (IsS70.apart (show IsS70 w _ g174 t180 t181 t182 t183 true from by repeat (first | (with_reducible first | exact HI174.out | apply IsS70.alloc | apply IsS70.drewN | apply IsS70.drew | apply IsS70.set_0 | apply IsS70.set_1 | apply IsS70.set_2 | apply IsS70.set_3 | apply IsS70.set_4 | refine IsS70.far ?_ NB174_168.out _ | refine IsS70.far ?_ NB174_178.out _) | exact HI174.out)) (by (with_reducible repeat (first | apply Kd.R_alloc | apply Kd.R_drewN | apply Kd.R_drew)); exact HO_10.out) (by decide)) hk (fun _ h => h.2)) (fun _ h => h.1)); have n1_ := Aside0.mk (KeepBut.blk hk (g' := gb168) (o := .cells #[.int .i64 a0_0, .int .i64 a0_1, .int .i64 a0_2] 31 (0, 0)) (by (with_reducible repeat (first | refine blk_drewN ?_ _ | refine blk_drew ?_ | refine blk_alloc ?_ _)); exact BK168.out) NB168_174.out (by simp)); have n2_ := Aside0.mk (KeepBut.blk hk (g' := gb178) (o := .cells #[.int .i64 ((rd_T60 l2 x36_2).f0), .int .i64 ((rd_T60 l2 x36_2).f1)] 60 (0, 0)) (by (with_reducible repeat (first | refine blk_drewN ?_ _ | refine blk_drew ?_ | refine blk_alloc ?_ _)); exact BK178.out) NB178_174.out (by simp)); have n3_ := Aside0.mk (hb); have n4_ := Aside0.mk (hi); clear HO_10; clear BK168; clear BK178; clear HB; clear HI174; have HO_10 := n0_; have BK168 := n1_; have BK178 := n2_; have HB := n3_; have HI174 := n4_; clear n0_ n1_ n2_ n3_ n4_; (try clear hb); (try clear hb2); (try clear hk); (try clear hi)) | ((with_reducible refine gate_builtin (b := .append) (xs := #[.tmp 60, .tmp 63]) rfl ?_); at_builtin; refine Kd.R_append k67 (w0 := w) w.heap.size rfl (.tmp 60) (.tmp 63) 61 67 (.agg #[(.int .i64 0), (.int .i64 0)]) 16 rfl Try.underlying61 info67 rfl (by decide) (by omega) u10 x10_3 (⟨wrap64 (x11_3 + a1), 0⟩ : S67) [.int .i64 (wrap64 (x11_3 + a1)), .int .i64 0] (fun _ => True) (fun _ => False) rfl rfl ?aP (fun _ hk => hk.elim) ?aF ?aO ?aB ?aS ?aL ?_; (case aP => exact k67_mkM _ _ _ (⟨wrap64 (x11_3 + a1), 0⟩ : S67)); (case aB => exact (by repeat (first | (with_reducible first | exact HB.out | apply below_alloc | apply pw_below_drewN | apply below_drew1 | refine below_set ?_ (IsS70.ge HI174.out) | refine below_set ?_ GE168.out | refine below_set ?_ GE178.out) | exact HB.out))); (case aF => exact (fun _ _ => trivial)); (case aO => exact (by (with_reducible repeat (first | apply Kd.R_alloc | apply Kd.R_drewN | apply Kd.R_drew)); exact HO_10.out)); (case aS => exact (below_size (by repeat (first | (with_reducible first | exact HB.out | apply below_alloc | apply pw_below_drewN | apply below_drew1 | refine below_set ?_ (IsS70.ge HI174.out) | refine below_set ?_ GE168.out | refine below_set ?_ GE178.out) | exact HB.out)))); (case aL => have := LMc33.out; omega); intro v192 w40 ho hb hg hat; rw [← Ny191.out] at ho; have n0_ := Aside0.mk (blk_grown (g := gb168) (o := .cells #[.int .i64 a0_0, .int .i64 a0_1, .int .i64 a0_2] 31 (0, 0)) (by (with_reducible repeat (first | refine blk_drewN ?_ _ | refine blk_drew ?_ | refine blk_alloc ?_ _)); exact BK168.out) hg (Kd.R_ne HO_10.out BK168.out (by decide))); have n1_ := Aside0.mk (blk_grown (g := gb178) (o := .cells #[.int .i64 ((rd_T60 l2 x36_2).f0), .int .i64 ((rd_T60 l2 x36_2).f1)] 60 (0, 0)) (by (with_reducible repeat (first | refine blk_drewN ?_ _ | refine blk_drew ?_ | refine blk_alloc ?_ _)); exact BK178.out) hg (Kd.R_ne HO_10.out BK178.out (by decide))); have n2_ := Aside0.mk (IsS70.grown (by repeat (first | (with_reducible first | exact HI174.out | apply IsS70.alloc | apply IsS70.drewN | apply IsS70.drew | apply IsS70.set_0 | apply IsS70.set_1 | apply IsS70.set_2 | apply IsS70.set_3 | apply IsS70.set_4 | refine IsS70.far ?_ NB174_168.out _ | refine IsS70.far ?_ NB174_178.out _) | exact HI174.out)) hg (IsS70.own_ne HI174.out HO_10.out (by decide))); have n3_ := Aside0.mk (hb); have n4_ := Aside0.mk (ho); clear BK168; clear BK178; clear HI174; clear HB; clear HO_10; have BK168 := n0_; have BK178 := n1_; have HI174 := n2_; have HB := n3_; have HO193 := n4_; clear n0_ n1_ n2_ n3_ n4_; clear ho hb hg hat))
                              go_roundg k3
                              case measure => have := HJ4.out; have := HK2.out; have := HK3.out; omega
                              case rel => exact ⟨(y191), (0), (wrap64 (x42_3 + 1)), (t186), (t187), (t188), (t189), (t190), (by first | rfl | (simp; done) | (simp [*]; done)), (by first | rfl | (simp; done) | (simp [*]; done)), H', ⟨by have := HJ4.out; have := HK2.out; have := HK3.out; omega⟩, ⟨by (with_reducible repeat (first | apply Kd.R_alloc | apply Kd.R_drewN | apply Kd.R_drew)); exact HO193.out⟩, ⟨by (with_reducible repeat (first | refine blk_drewN ?_ _ | refine blk_drew ?_ | refine blk_alloc ?_ _)); exact BK168.out⟩, ⟨by (with_reducible repeat (first | refine blk_drewN ?_ _ | refine blk_drew ?_ | refine blk_alloc ?_ _)); exact BK178.out⟩, ⟨by repeat (first | (with_reducible first | exact HI174.out | apply IsS70.alloc | apply IsS70.drewN | apply IsS70.drew | apply IsS70.set_0 | apply IsS70.set_1 | apply IsS70.set_2 | apply IsS70.set_3 | apply IsS70.set_4 | refine IsS70.far ?_ NB174_168.out _ | refine IsS70.far ?_ NB174_178.out _) | exact HI174.out)⟩, ⟨by repeat (first | (with_reducible first | exact HB.out | apply below_alloc | apply pw_below_drewN | apply below_drew1 | refine below_set ?_ (IsS70.ge HI174.out) | refine below_set ?_ GE168.out | refine below_set ?_ GE178.out) | exact HB.out)⟩⟩
                            · rw [if_neg c33] at H
                              exact absurd H (by simp)
                        · replace c24 := Bool.eq_false_iff.mpr c24
                          subst c24
                          have H1 : (if (x10_3.length : Int) > 0 then (if 0 ≤ (wrap64 ((x10_3.length : Int) - 1)) then (if (wrap64 ((x10_3.length : Int) - 1)) < (x10_3.length : Int) then (capacitor_Schedule0.l1 k3 a1 (x10_3.set ((wrap64 ((x10_3.length : Int) - 1)) : Int).toNat (⟨(rd_T67 x10_3 (wrap64 ((x10_3.length : Int) - 1))).f0, wrap64 (((rd_T67 x10_3 (wrap64 ((x10_3.length : Int) - 1))).f1) + 1)⟩ : S67)) x11_3 l2 (l2.length : Int) x36_2 ((rd_T60 l2 x36_2).f1) (wrap64 (x42_3 + 1)) t180 t181 t182 t183 false ((rd_T60 l2 x36_2).f0) ((rd_T60 l2 x36_2).f1)) else (none)) else (none)) else (capacitor_Schedule0.l1 k3 a1 x10_3 x11_3 l2 (l2.length : Int) x36_2 ((rd_T60 l2 x36_2).f1) (wrap64 (x42_3 + 1)) t180 t181 t182 t183 false ((rd_T60 l2 x36_2).f0) ((rd_T60 l2 x36_2).f1))) = some (r1, r2) := by rw [if_neg (show ¬ (false = true) by decide)] at H; exact H
                          clear H
                          have H := H1
                          clear H1
                          by_cases c41 : (x10_3.length : Int) > 0
                          · rw [if_pos c41] at H
                            have c41b0 : decide (0 < (x10_3.length : Int)) = true := decide_eq_true c41
                            have c41b1 : decide (0 < x10_3.length) = true := decide_eq_true (by omega)
                            clear c41
                            obtain ⟨ji42, hji42⟩ : ∃ j_ : Int, (wrap64 ((x10_3.length : Int) - 1)) = j_ := ⟨_, rfl⟩
                            replace H : (if 0 ≤ (ji42) then (if (ji42) < (x10_3.length : Int) then (capacitor_Schedule0.l1 k3 a1 (x10_3.set ((ji42) : Int).toNat (⟨(rd_T67 x10_3 (ji42)).f0, wrap64 (((rd_T67 x10_3 (ji42)).f1) + 1)⟩ : S67)) x11_3 l2 (l2.length : Int) x36_2 ((rd_T60 l2 x36_2).f1) (wrap64 (x42_3 + 1)) t180 t181 t182 t183 false ((rd_T60 l2 x36_2).f0) ((rd_T60 l2 x36_2).f1)) else (none)) else (none)) = some (r1, r2) := by first | (rw [hji42] at H; exact H) | (simp only [hji42] at H ⊢; exact H)
                            (try rw [hji42] at A23)
                            have hji42w : (IntKind.i64.wrap ((x10_3.length : Int) - 1)) = ji42 := (i64_w _).trans hji42
                            by_cases c43 : 0 ≤ (ji42)
                            · rw [if_pos c43] at H
                              have c43b0 : decide (0 ≤ (ji42)) = true := decide_eq_true c43
                              clear c43
                              by_cases c44 : (ji42) < (x10_3.length : Int)
                              · rw [if_pos c44] at H
                                have c44b0 : decide ((ji42) < (x10_3.length : Int)) = true := decide_eq_true c44
                                clear c44
                                obtain ⟨y195, hy195⟩ : ∃ y_ : List (S67), y_ = (x10_3.set ((ji42) : Int).toNat (⟨(rd_T67 x10_3 (ji42)).f0, wrap64 (((rd_T67 x10_3 (ji42)).f1) + 1)⟩ : S67)) := ⟨_, rfl⟩
                                replace H : (capacitor_Schedule0.l1 k3 a1 y195 x11_3 l2 (l2.length : Int) x36_2 ((rd_T60 l2 x36_2).f1) (wrap64 (x42_3 + 1)) t180 t181 t182 t183 false ((rd_T60 l2 x36_2).f0) ((rd_T60 l2 x36_2).f1)) = some (r1, r2) := by first | (rw [hy195]; with_reducible exact H) | (have H2_ := (Option.bind_some _ _).symm.trans H; rw [hy195]; with_reducible exact H2_) | (have H2_ := (Option.bind_some _ _).symm.trans H; with_reducible exact H2_) | with_reducible exact H | (rw [hy195]; exact H) | exact H
                                have Ny195 := Aside0.mk hy195
                                clear hy195
                                have H' := Aside0.mk H
                                clear H
                                have hnb46 := NB178_168.out
                                have hnc46 := NB168_178.out
                                have hnb47 := NB178_174.out
                                have hnc47 := NB174_178.out
                                have hcz48_0 : wr.cell? ⟨gb178, 0, none⟩ = some (.int .i64 ((rd_T60 l2 x36_2).f0)) := (blk_cell BK178.out 0).trans rfl
                                have hcz48_1 : wr.cell? ⟨gb178, 1, none⟩ = some (.int .i64 ((rd_T60 l2 x36_2).f1)) := (blk_cell BK178.out 1).trans rfl
                                have hfz48_0 := blk_frozen BK178.out 0
                                have hfz48_1 := blk_frozen BK178.out 1
                                go_wp2_with (first | ((with_reducible refine gate_callee (f := 15) rfl ?_); refine goesL_ (some 47) rfl rfl Try.func15 (by kernel_rfl) rfl #[.pointer (some ⟨g174, 0, none⟩), .int .i64 ((rd_T60 l2 x36_2).f0), .int .i64 1] rfl (by (try simp only [List.map_toArray, List.map_cons, List.map_nil]); first | done | rfl | (simp only [List.length_drop, List.length_take]; rfl)) ?_; (with_reducible refine (capacitor_Capacitor_Harvest.calls g174 x175000_3 x175001_3 x175002_3 x175003_3 x175004_3 ((rd_T60 l2 x36_2).f0) 1 t179 t180 t181 t182 t183 false w _ ?side1 ?side2 A23.out).mono ?_); (case side1 => repeat (first | (with_reducible first | exact HI174.out | apply IsS70.alloc | apply IsS70.drewN | apply IsS70.drew | apply IsS70.set_0 | apply IsS70.set_1 | apply IsS70.set_2 | apply IsS70.set_3 | apply IsS70.set_4 | refine IsS70.far ?_ NB174_168.out _ | refine IsS70.far ?_ NB174_178.out _) | exact HI174.out)); (case side2 => repeat (first | (with_reducible first | exact HB.out | apply below_alloc | apply pw_below_drewN | apply below_drew1 | refine below_set ?_ (IsS70.ge HI174.out) | refine below_set ?_ GE168.out | refine below_set ?_ GE178.out) | exact HB.out)); rintro e w49 ⟨rfl, hi, hb, hk⟩; refine ⟨_, rfl, ?_⟩; have n0_ := Aside0.mk (Kd.R_mono (Kd.R_keep (IsS70.apart (show IsS70 w _ g174 x175000_3 x175001_3 x175002_3 x175003_3 x175004_3 from by repeat (first | (with_reducible first | exact HI174.out | apply IsS70.alloc | apply IsS70.drewN | apply IsS70.drew | apply IsS70.set_0 | apply IsS70.set_1 | apply IsS70.set_2 | apply IsS70.set_3 | apply IsS70.set_4 | refine IsS70.far ?_ NB174_168.out _ | refine IsS70.far ?_ NB174_178.out _) | exact HI174.out)) (by (with_reducible repeat (first | apply Kd.R_alloc | apply Kd.R_drewN | apply Kd.R_drew)); exact HO_10.out) (by decide)) hk (fun _ h => h.2)) (fun _ h => h.1)); have n1_ := Aside0.mk (KeepBut.blk hk (g' := gb168) (o := .cells #[.int .i64 a0_0, .int .i64 a0_1, .int .i64 a0_2] 31 (0, 0)) (by (with_reducible repeat (first | refine blk_drewN ?_ _ | refine blk_drew ?_ | refine blk_alloc ?_ _)); exact BK168.out) NB168_174.out (by simp)); have n2_ := Aside0.mk (KeepBut.blk hk (g' := gb178) (o := .cells #[.int .i64 ((rd_T60 l2 x36_2).f0), .int .i64 ((rd_T60 l2 x36_2).f1)] 60 (0, 0)) (by (with_reducible repeat (first | refine blk_drewN ?_ _ | refine blk_drew ?_ | refine blk_alloc ?_ _)); exact BK178.out) NB178_174.out (by simp)); have n3_ := Aside0.mk (hb); have n4_ := Aside0.mk (hi); clear HO_10; clear BK168; clear BK178; clear HB; clear HI174; have HO_10 := n0_; have BK168 := n1_; have BK178 := n2_; have HB := n3_; have HI174 := n4_; clear n0_ n1_ n2_ n3_ n4_; (try clear hb); (try clear hb2); (try clear hk); (try clear hi); obtain ⟨HGz50, hgz50⟩ := HI174.out; have hcz50_0 := cellS70_0 HGz50; have hcz50_1 := cellS70_1 HGz50; have hcz50_2 := cellS70_2 HGz50; have hcz50_3 := cellS70_3 HGz50; have hcz50_4 := cellS70_4 HGz50; have hfz50_0 := blk_frozen HGz50 0; have hfz50_1 := blk_frozen HGz50 1; have hfz50_2 := blk_frozen HGz50 2; have hfz50_3 := blk_frozen HGz50 3; have hfz50_4 := blk_frozen HGz50 4; clear HGz50 hgz50; obtain ⟨Ao51, co51, eo51⟩ := Kd.R_slice HO_10.out; subst eo51; have p194 : 0 ≤ ((ji42) : Int) := of_decide_eq_true (by first | (with_reducible assumption) | assumption); have q194 : (ji42) < (x10_3.length : Int) := of_decide_eq_true (by first | (with_reducible assumption) | assumption); obtain ⟨ad194, e194, hx194_0, hx194_1⟩ := at_T67 (Kd.R_reads' HO_10.out).2.2 (ji42) p194 q194; cases e194; replace p194 := eq_true p194; replace q194 := eq_true q194; have p45 : 0 ≤ ((ji42) : Int) := of_decide_eq_true (by first | (with_reducible assumption) | assumption); have q45 : ((ji42) : Int) < ((x10_3.length : Int) : Int) := of_decide_eq_true (by first | (with_reducible assumption) | assumption); obtain ⟨go45, co45, eo45, gb45, gl45, cl45, HG45⟩ := Kd.R_form HO_10.out (by omega); (first | cases eo45 | (injection eo45 with ea_ en_ ec_; (first | subst ea_ | (injection ea_ with ea_; subst ea_)); subst ec_; clear en_)); have GB45 := Aside0.mk gb45; have GG45 := Aside0.mk HG45; clear gb45 gl45 HG45; (first | simp only [add_plain] at hx194_0 | skip); (first | simp only [add_plain] at hx194_1 | skip); obtain ⟨ce45, hcl45, hM45, hcc45, hfr45⟩ := Kd.R_elem HO_10.out z67 ((ji42) : Int) p45 q45; obtain rfl := k67_openM hM45; have hx45_0 : w49.cell? ⟨go45, ((ji42) : Int).toNat * 2, none⟩ = some (.int .i64 ((rd_T67 x10_3 (ji42)).f0)) := hcc45 0 _ rfl; have hx45_1 : w49.cell? ⟨go45, ((ji42) : Int).toNat * 2 + 1, none⟩ = some (.int .i64 ((rd_T67 x10_3 (ji42)).f1)) := hcc45 1 _ rfl; have hf45_0 : w49.frozen? ⟨go45, ((ji42) : Int).toNat * 2, none⟩ = false := hfr45 0; have hf45_1 : w49.frozen? ⟨go45, ((ji42) : Int).toNat * 2 + 1, none⟩ = false := hfr45 1; clear hcl45 hcc45 hfr45 hM45; replace p45 := eq_true p45; replace q45 := eq_true q45; have HX52 := Aside0.mk (show Kd.R k67 67 w49 w.heap.size (fun _ => True) (.slice (some ⟨go45, 0, none⟩) x10_3.length co51) x10_3 from (by (with_reducible repeat (first | apply Kd.R_alloc | apply Kd.R_drewN | apply Kd.R_drew)); exact HO_10.out)); obtain ⟨ce52, hcl52, hM52, hcc52, hfr52⟩ := Kd.R_elem HX52.out z67 ((ji42) : Int) (of_decide_eq_true (by first | (with_reducible assumption) | assumption)) (by have h_ : ((ji42) : Int) < ((x10_3.length : Int) : Int) := of_decide_eq_true (by first | (with_reducible assumption) | assumption); first | exact h_ | (have e_ := (Kd.R_reads' HO_10.out).1; omega) | simpa using h_); obtain rfl := k67_openM hM52; have HP52 := Kd.R_seg HX52.out ((ji42) : Int) (of_decide_eq_true (by first | (with_reducible assumption) | assumption)) (by have h_ : ((ji42) : Int) < ((x10_3.length : Int) : Int) := of_decide_eq_true (by first | (with_reducible assumption) | assumption); first | exact h_ | (have e_ := (Kd.R_reads' HO_10.out).1; omega) | simpa using h_) (seg := [.int .i64 (wrap64 (((rd_T67 x10_3 (ji42)).f1) + 1))]) (j := 1) hcl52 hcc52 (show 2 ≤ 2 from by decide) (x' := (⟨(rd_T67 x10_3 (ji42)).f0, wrap64 (((rd_T67 x10_3 (ji42)).f1) + 1)⟩ : S67)) (k67_mkM _ _ _ (⟨(rd_T67 x10_3 (ji42)).f0, wrap64 (((rd_T67 x10_3 (ji42)).f1) + 1)⟩ : S67) ) (fun _ hk => hk); have hx52_1 := hcc52 1 _ rfl; (try simp only [show (k67).sz = 2 from rfl, Nat.mul_one, Nat.add_zero] at hx52_1); have hf52_1 := hfr52 1; (try simp only [show (k67).sz = 2 from rfl, Nat.mul_one, Nat.add_zero] at hf52_1); clear hcl52 hcc52 hfr52 hM52) | ((with_reducible refine gate_store (t := 2) (p := 78) rfl ?_); refine store_event (t := 2) (p := 78) (v := ?vo_w53) (w1 := (w49.setCell ⟨go45, ((ji42) : Int).toNat * 2 + 1, none⟩ (.int .i64 (wrap64 (((rd_T67 x10_3 (ji42)).f1) + 1))))) ?hg ?ho ?hn ?hr ?_; (case ho => rfl); (case hg => rfl); (case hn => rfl); (case hr => first | (go_simp; done) | (go_simp; rfl)); intro w53 hw; have hg : w49.grownBy w53 (some go45) := (by rw [hw]; exact HP52.2); have hp_ : Kd.R k67 67 w53 w.heap.size (fun _ => True) (.slice (some ⟨go45, 0, none⟩) x10_3.length co51) y195 := (by rw [hw, Ny195.out]; exact HP52.1); clear HP52; have n0_ := Aside0.mk (hp_); have n1_ := Aside0.mk (blk_grown (g := gb168) (o := .cells #[.int .i64 a0_0, .int .i64 a0_1, .int .i64 a0_2] 31 (0, 0)) (by (with_reducible repeat (first | refine blk_drewN ?_ _ | refine blk_drew ?_ | refine blk_alloc ?_ _)); exact BK168.out) hg (Kd.R_ne HO_10.out BK168.out (by decide))); have n2_ := Aside0.mk (blk_grown (g := gb178) (o := .cells #[.int .i64 ((rd_T60 l2 x36_2).f0), .int .i64 ((rd_T60 l2 x36_2).f1)] 60 (0, 0)) (by (with_reducible repeat (first | refine blk_drewN ?_ _ | refine blk_drew ?_ | refine blk_alloc ?_ _)); exact BK178.out) hg (Kd.R_ne HO_10.out BK178.out (by decide))); have n3_ := Aside0.mk (IsS70.grown (by repeat (first | (with_reducible first | exact HI174.out | apply IsS70.alloc | apply IsS70.drewN | apply IsS70.drew | apply IsS70.set_0 | apply IsS70.set_1 | apply IsS70.set_2 | apply IsS70.set_3 | apply IsS70.set_4 | refine IsS70.far ?_ NB174_168.out _ | refine IsS70.far ?_ NB174_178.out _) | exact HI174.out)) hg (IsS70.own_ne HI174.out HO_10.out (by decide))); have n4_ := Aside0.mk ((by rw [hw]; exact below_set (HB.out) GB45.out : Below w.heap.size w w53)); clear HO_10; clear BK168; clear BK178; clear HI174; clear HB; have HO_10 := n0_; have BK168 := n1_; have BK178 := n2_; have HI174 := n3_; have HB := n4_; clear n0_ n1_ n2_ n3_ n4_; clear hg hw hp_))
                                go_roundg k3
                                case measure => have := HJ4.out; have := HK2.out; have := HK3.out; omega
                                case rel => exact ⟨(y195), (x11_3), (wrap64 (x42_3 + 1)), (t180), (t181), (t182), (t183), (false), (by first | rfl | (simp; done) | (simp [*]; done)), (by first | rfl | (simp; done) | (simp [*]; done)), H', ⟨by have := HJ4.out; have := HK2.out; have := HK3.out; omega⟩, ⟨by (with_reducible repeat (first | apply Kd.R_alloc | apply Kd.R_drewN | apply Kd.R_drew)); exact HO_10.out⟩, ⟨by (with_reducible repeat (first | refine blk_drewN ?_ _ | refine blk_drew ?_ | refine blk_alloc ?_ _)); exact BK168.out⟩, ⟨by (with_reducible repeat (first | refine blk_drewN ?_ _ | refine blk_drew ?_ | refine blk_alloc ?_ _)); exact BK178.out⟩, ⟨by repeat (first | (with_reducible first | exact HI174.out | apply IsS70.alloc | apply IsS70.drewN | apply IsS70.drew | apply IsS70.set_0 | apply IsS70.set_1 | apply IsS70.set_2 | apply IsS70.set_3 | apply IsS70.set_4 | refine IsS70.far ?_ NB174_168.out _ | refine IsS70.far ?_ NB174_178.out _) | exact HI174.out)⟩, ⟨by repeat (first | (with_reducible first | exact HB.out | apply below_alloc | apply pw_below_drewN | apply below_drew1 | refine below_set ?_ (IsS70.ge HI174.out) | refine below_set ?_ GE168.out | refine below_set ?_ GE178.out) | exact HB.out)⟩⟩
                              · rw [if_neg c44] at H
                                exact absurd H (by simp)
                            · rw [if_neg c43] at H
                              exact absurd H (by simp)
                          · rw [if_neg c41] at H
                            have c41b0 : decide (0 < (x10_3.length : Int)) = false := decide_eq_false c41
                            have c41b1 : decide (0 < x10_3.length) = false := decide_eq_false (by omega)
                            clear c41
                            have H' := Aside0.mk H
                            clear H
                            have hnb54 := NB178_168.out
                            have hnc54 := NB168_178.out
                            have hnb55 := NB178_174.out
                            have hnc55 := NB174_178.out
                            have hcz56_0 : wr.cell? ⟨gb178, 0, none⟩ = some (.int .i64 ((rd_T60 l2 x36_2).f0)) := (blk_cell BK178.out 0).trans rfl
                            have hcz56_1 : wr.cell? ⟨gb178, 1, none⟩ = some (.int .i64 ((rd_T60 l2 x36_2).f1)) := (blk_cell BK178.out 1).trans rfl
                            have hfz56_0 := blk_frozen BK178.out 0
                            have hfz56_1 := blk_frozen BK178.out 1
                            go_wp2_with (first | ((with_reducible refine gate_callee (f := 15) rfl ?_); refine goesL_ (some 47) rfl rfl Try.func15 (by kernel_rfl) rfl #[.pointer (some ⟨g174, 0, none⟩), .int .i64 ((rd_T60 l2 x36_2).f0), .int .i64 1] rfl (by (try simp only [List.map_toArray, List.map_cons, List.map_nil]); first | done | rfl | (simp only [List.length_drop, List.length_take]; rfl)) ?_; (with_reducible refine (capacitor_Capacitor_Harvest.calls g174 x175000_3 x175001_3 x175002_3 x175003_3 x175004_3 ((rd_T60 l2 x36_2).f0) 1 t179 t180 t181 t182 t183 false w _ ?side1 ?side2 A23.out).mono ?_); (case side1 => repeat (first | (with_reducible first | exact HI174.out | apply IsS70.alloc | apply IsS70.drewN | apply IsS70.drew | apply IsS70.set_0 | apply IsS70.set_1 | apply IsS70.set_2 | apply IsS70.set_3 | apply IsS70.set_4 | refine IsS70.far ?_ NB174_168.out _ | refine IsS70.far ?_ NB174_178.out _) | exact HI174.out)); (case side2 => repeat (first | (with_reducible first | exact HB.out | apply below_alloc | apply pw_below_drewN | apply below_drew1 | refine below_set ?_ (IsS70.ge HI174.out) | refine below_set ?_ GE168.out | refine below_set ?_ GE178.out) | exact HB.out)); rintro e w57 ⟨rfl, hi, hb, hk⟩; refine ⟨_, rfl, ?_⟩; have n0_ := Aside0.mk (Kd.R_mono (Kd.R_keep (IsS70.apart (show IsS70 w _ g174 x175000_3 x175001_3 x175002_3 x175003_3 x175004_3 from by repeat (first | (with_reducible first | exact HI174.out | apply IsS70.alloc | apply IsS70.drewN | apply IsS70.drew | apply IsS70.set_0 | apply IsS70.set_1 | apply IsS70.set_2 | apply IsS70.set_3 | apply IsS70.set_4 | refine IsS70.far ?_ NB174_168.out _ | refine IsS70.far ?_ NB174_178.out _) | exact HI174.out)) (by (with_reducible repeat (first | apply Kd.R_alloc | apply Kd.R_drewN | apply Kd.R_drew)); exact HO_10.out) (by decide)) hk (fun _ h => h.2)) (fun _ h => h.1)); have n1_ := Aside0.mk (KeepBut.blk hk (g' := gb168) (o := .cells #[.int .i64 a0_0, .int .i64 a0_1, .int .i64 a0_2] 31 (0, 0)) (by (with_reducible repeat (first | refine blk_drewN ?_ _ | refine blk_drew ?_ | refine blk_alloc ?_ _)); exact BK168.out) NB168_174.out (by simp)); have n2_ := Aside0.mk (KeepBut.blk hk (g' := gb178) (o := .cells #[.int .i64 ((rd_T60 l2 x36_2).f0), .int .i64 ((rd_T60 l2 x36_2).f1)] 60 (0, 0)) (by (with_reducible repeat (first | refine blk_drewN ?_ _ | refine blk_drew ?_ | refine blk_alloc ?_ _)); exact BK178.out) NB178_174.out (by simp)); have n3_ := Aside0.mk (hb); have n4_ := Aside0.mk (hi); clear HO_10; clear BK168; clear BK178; clear HB; clear HI174; have HO_10 := n0_; have BK168 := n1_; have BK178 := n2_; have HB := n3_; have HI174 := n4_; clear n0_ n1_ n2_ n3_ n4_; (try clear hb); (try clear hb2); (try clear hk); (try clear hi); obtain ⟨HGz58, hgz58⟩ := HI174.out; have hcz58_0 := cellS70_0 HGz58; have hcz58_1 := cellS70_1 HGz58; have hcz58_2 := cellS70_2 HGz58; have hcz58_3 := cellS70_3 HGz58; have hcz58_4 := cellS70_4 HGz58; have hfz58_0 := blk_frozen HGz58 0; have hfz58_1 := blk_frozen HGz58 1; have hfz58_2 := blk_frozen HGz58 2; have hfz58_3 := blk_frozen HGz58 3; have hfz58_4 := blk_frozen HGz58 4; clear HGz58 hgz58; obtain ⟨Ao59, co59, eo59⟩ := Kd.R_slice HO_10.out; subst eo59))
                            go_roundg k3
                            case measure => have := HJ4.out; have := HK2.out; have := HK3.out; omega
                            case rel => exact ⟨(x10_3), (x11_3), (wrap64 (x42_3 + 1)), (t180), (t181), (t182), (t183), (false), (by first | rfl | (simp; done) | (simp [*]; done)), (by first | rfl | (simp; done) | (simp [*]; done)), H', ⟨by have := HJ4.out; have := HK2.out; have := HK3.out; omega⟩, ⟨by (with_reducible repeat (first | apply Kd.R_alloc | apply Kd.R_drewN | apply Kd.R_drew)); exact HO_10.out⟩, ⟨by (with_reducible repeat (first | refine blk_drewN ?_ _ | refine blk_drew ?_ | refine blk_alloc ?_ _)); exact BK168.out⟩, ⟨by (with_reducible repeat (first | refine blk_drewN ?_ _ | refine blk_drew ?_ | refine blk_alloc ?_ _)); exact BK178.out⟩, ⟨by repeat (first | (with_reducible first | exact HI174.out | apply IsS70.alloc | apply IsS70.drewN | apply IsS70.drew | apply IsS70.set_0 | apply IsS70.set_1 | apply IsS70.set_2 | apply IsS70.set_3 | apply IsS70.set_4 | refine IsS70.far ?_ NB174_168.out _ | refine IsS70.far ?_ NB174_178.out _) | exact HI174.out)⟩, ⟨by repeat (first | (with_reducible first | exact HB.out | apply below_alloc | apply pw_below_drewN | apply below_drew1 | refine below_set ?_ (IsS70.ge HI174.out) | refine below_set ?_ GE168.out | refine below_set ?_ GE178.out) | exact HB.out)⟩⟩
                      · rw [if_neg c22] at H
                        have c22b0 : decide (x42_3 < ((rd_T60 l2 x36_2).f1)) = false := decide_eq_false c22
                        clear c22
                        have H' := Aside0.mk H
                        clear H
                        go_wp2
                        go_roundg k3
                        case measure => have := HJ4.out; have := HK2.out; have := HK3.out; omega
                        case rel => exact ⟨(x10_3), (x11_3), (wrap64 (x36_2 + 1)), (x175000_3), (x175001_3), (x175002_3), (x175003_3), (x175004_3), (by first | rfl | (simp; done) | (simp [*]; done)), (by first | rfl | (simp; done) | (simp [*]; done)), H', ⟨by have := HJ4.out; have := HK2.out; have := HK3.out; omega⟩, ⟨by (with_reducible repeat (first | apply Kd.R_alloc | apply Kd.R_drewN | apply Kd.R_drew)); exact HO_10.out⟩, ⟨by (with_reducible repeat (first | refine blk_drewN ?_ _ | refine blk_drew ?_ | refine blk_alloc ?_ _)); exact BK168.out⟩, ⟨by repeat (first | (with_reducible first | exact HI174.out | apply IsS70.alloc | apply IsS70.drewN | apply IsS70.drew | apply IsS70.set_0 | apply IsS70.set_1 | apply IsS70.set_2 | apply IsS70.set_3 | apply IsS70.set_4 | refine IsS70.far ?_ NB174_168.out _ | refine IsS70.far ?_ NB174_178.out _) | exact HI174.out)⟩, ⟨by repeat (first | (with_reducible first | exact HB.out | apply below_alloc | apply pw_below_drewN | apply below_drew1 | refine below_set ?_ (IsS70.ge HI174.out) | refine below_set ?_ GE168.out | refine below_set ?_ GE178.out) | exact HB.out)⟩⟩
                · rw [if_neg c17] at H
                  exact absurd H (by simp)
              · rw [if_neg c16] at H
                exact absurd H (by simp)
            · rw [if_neg c15] at H
              have c15b0 : decide (x36_2 < (l2.length : Int)) = false := decide_eq_false c15
              clear c15
              simp only [Option.some.injEq, Prod.mk.injEq] at H
              obtain ⟨rfl, rfl⟩ := H
              go_wp2
              go_ret2
              exact ⟨_, by first | rfl | (simp [errW_none, errW_some] <;> rfl) | (simp [*, errW_none, errW_some] <;> rfl), by (with_reducible repeat (first | apply Kd.R_alloc | apply Kd.R_drewN | apply Kd.R_drew)); exact HO_10.out, by repeat (first | (with_reducible first | exact HB.out | apply below_alloc | apply pw_below_drewN | apply below_drew1 | refine below_set ?_ (IsS70.ge HI174.out) | refine below_set ?_ GE168.out) | exact HB.out)⟩

def capacitor_Schedule.f (k : Nat) (a0_0 : Int) (a0_1 : Int) (a0_2 : Int) (a1 : Int) (l2 : List (S60)) : Option ((List (S67)) × Int) := if 0 ≤ a0_2 ∧ a0_2 < a0_1 ∧ a0_1 ≤ a0_0 ∧ a0_0 ≤ 1073741824 then capacitor_Schedule0.f k a0_0 a0_1 a0_2 a1 l2 else some (([] : List (S67)), 1)
theorem capacitor_Schedule.mono : ∀ a0 a1 a2 a3 a4 k, LeO (capacitor_Schedule.f k a0 a1 a2 a3 a4) (capacitor_Schedule.f (k + 1) a0 a1 a2 a3 a4) := by
  intro a0 a1 a2 a3 a4 k
  unfold capacitor_Schedule.f
  by_cases c : 0 ≤ a2 ∧ a2 < a1 ∧ a1 ≤ a0 ∧ a0 ≤ 1073741824
  · rw [if_pos c, if_pos c]
    exact capacitor_Schedule0.mono a0 a1 a2 a3 a4 k
  · rw [if_neg c, if_neg c]
    exact fun _ h => h
set_option maxHeartbeats 8000000 in
set_option maxRecDepth 100000 in
theorem capacitor_Schedule.calls (k : Nat) (a0_0 : Int) (a0_1 : Int) (a0_2 : Int) (a1 : Int) (A2 : Option Addr) (c2 : Nat) (l2 : List (S60)) (r1 : List (S67)) (r2 : Int) (w : World) (hr2 : Kd.C k60 w A2 l2.length l2) (hc2 : l2.length ≤ c2) (h : capacitor_Schedule.f k a0_0 a0_1 a0_2 a1 l2 = some (r1, r2)) :
    Calls Try.prog 23 #[.agg #[.int .i64 a0_0, .int .i64 a0_1, .int .i64 a0_2], .int .i64 a1, .slice A2 l2.length c2] w fun e w' => ∃ v0_ : Value, e = .returned (.tuple #[v0_, .int .i64 r2]) ∧ Kd.R k67 67 w' w.heap.size (fun _ => True) v0_ r1 ∧ Below w.heap.size w w' := by
  by_cases c : 0 ≤ a0_2 ∧ a0_2 < a0_1 ∧ a0_1 ≤ a0_0 ∧ a0_0 ≤ 1073741824
  · unfold capacitor_Schedule.f at h
    rw [if_pos c] at h
    exact capacitor_Schedule0.calls k a0_0 a0_1 a0_2 a1 A2 c2 l2 r1 r2 w hr2 hc2 h
  · unfold capacitor_Schedule.f at h
    rw [if_neg c] at h
    simp only [Option.some.injEq, Prod.mk.injEq] at h
    obtain ⟨rfl, rfl⟩ := h
    have C := Aside0.mk c
    clear c hr2 hc2
    go_enter Try.func23, Try.ntmps23
    go_wp2_with fail
    refine (capacitor_New.bad a0_0 a0_1 a0_2 _ C.out).mono ?_
    rintro e w1 ⟨rfl, hb⟩
    go_wp2
    go_ret2
    first | exact ⟨_, rfl, Kd.R_nil _ _ _ _ _, hb⟩ | exact ⟨_, rfl, Kd.R_nil _ _ _ _ _, below_step (below_alloc (Below.refl _ _) _) hb⟩


/-! ### trickleref08_Draw: function 17 -/
def trickleref08_Draw.f (a0_0 : Int) (a0_1 : Int) (a0_2 : Int) (a0_3 : Int) (a0_4 : Bool) (a1 : Int) : Option (Int × Int × Int × Int × Bool × Bool) := if a0_4 = true then (if a1 < 0 then some (a0_0, a0_1, a0_2, a0_3, a0_4, false) else if a1 > a0_3 then some (a0_0, a0_1, a0_2, 0, decide (0 > a0_2), decide (0 > a0_2)) else some (a0_0, a0_1, a0_2, wrap64 (a0_3 - a1), decide (wrap64 (a0_3 - a1) > a0_2), decide (wrap64 (a0_3 - a1) > a0_2))) else some (a0_0, a0_1, a0_2, a0_3, a0_4, false)
set_option maxHeartbeats 8000000 in
set_option maxRecDepth 100000 in
theorem trickleref08_Draw.calls (a0_0 : Int) (a0_1 : Int) (a0_2 : Int) (a0_3 : Int) (a0_4 : Bool) (a1 : Int) (r1 : Int) (r2 : Int) (r3 : Int) (r4 : Int) (r5 : Bool) (r6 : Bool) (w : World) (h : trickleref08_Draw.f a0_0 a0_1 a0_2 a0_3 a0_4 a1 = some (r1, r2, r3, r4, r5, r6)) :
    Calls Try.prog 17 #[.agg #[.int .i64 a0_0, .int .i64 a0_1, .int .i64 a0_2, .int .i64 a0_3, .bool a0_4], .int .i64 a1] w fun e w' => e = .returned (.tuple #[.agg #[.int .i64 r1, .int .i64 r2, .int .i64 r3, .int .i64 r4, .bool r5], .bool r6]) ∧ Below w.heap.size w w' := by
  have hu40 := Try.underlying40
  have H := h
  clear h
  unfold trickleref08_Draw.f at H
  cases a0_4 with
  | false =>
    rw [if_neg (by decide)] at H
    simp only [Option.some.injEq, Prod.mk.injEq] at H
    obtain ⟨rfl, rfl, rfl, rfl, rfl, rfl⟩ := H
    go_enter Try.func17, Try.ntmps17
    go_wp2
    all_goals try (exfalso; omega)
    all_goals
      (try simp only [Act.put, List.setIfInBounds_toArray, List.set_cons_zero, List.set_cons_succ])
      have hbk : ∀ X Y, ((w.alloc X).alloc Y).heap[w.heap.size + 1]? = some Y := by intro X Y; have := blk_new (w.alloc X) Y; simpa using this
      refine bodyPost_ret (results_ct rfl _ _ (w.heap.size + 1) 40 _ (0, 0) _ rfl (hbk _ _) hu40 rfl rfl) rfl ?_
      exact ⟨rfl, by repeat (first | exact Below.refl _ _ | apply below_alloc | apply below_drew1)⟩
  | true =>
    rw [if_pos rfl] at H
    by_cases c1 : a1 < 0
    · rw [if_pos c1] at H
      have c1b : decide (a1 < 0) = true := decide_eq_true c1
      clear c1
      simp only [Option.some.injEq, Prod.mk.injEq] at H
      obtain ⟨rfl, rfl, rfl, rfl, rfl, rfl⟩ := H
      go_enter Try.func17, Try.ntmps17
      go_wp2
      all_goals try (exfalso; omega)
      all_goals
        (try simp only [Act.put, List.setIfInBounds_toArray, List.set_cons_zero, List.set_cons_succ])
        have hbk : ∀ X Y, ((w.alloc X).alloc Y).heap[w.heap.size + 1]? = some Y := by intro X Y; have := blk_new (w.alloc X) Y; simpa using this
        refine bodyPost_ret (results_ct rfl _ _ (w.heap.size + 1) 40 _ (0, 0) _ rfl (hbk _ _) hu40 rfl rfl) rfl ?_
        exact ⟨rfl, by repeat (first | exact Below.refl _ _ | apply below_alloc | apply below_drew1)⟩
    · rw [if_neg c1] at H
      have c1b : decide (a1 < 0) = false := decide_eq_false c1
      clear c1
      by_cases c2 : a1 > a0_3
      · rw [if_pos c2] at H
        have c2b : decide (a0_3 < a1) = true := decide_eq_true c2
        clear c2
        obtain ⟨b, hb⟩ : ∃ b, decide (0 > a0_2) = b := ⟨_, rfl⟩
        rw [hb] at H
        have hb' : decide (a0_2 < 0) = b := hb
        clear hb
        simp only [Option.some.injEq, Prod.mk.injEq] at H
        obtain ⟨rfl, rfl, rfl, rfl, rfl, rfl⟩ := H
        go_enter Try.func17, Try.ntmps17
        go_wp2
        all_goals try (exfalso; omega)
        all_goals go_region_with fail
        all_goals (try go_wp2)
        all_goals
          (try simp only [Act.put, List.setIfInBounds_toArray, List.set_cons_zero, List.set_cons_succ])
          have hbk : ∀ X Y, ((w.alloc X).alloc Y).heap[w.heap.size + 1]? = some Y := by intro X Y; have := blk_new (w.alloc X) Y; simpa using this
          refine bodyPost_ret (results_ct rfl _ _ (w.heap.size + 1) 40 _ (0, 0) _ rfl (hbk _ _) hu40 rfl rfl) rfl ?_
          exact ⟨rfl, by repeat (first | exact Below.refl _ _ | apply below_alloc | apply below_drew1)⟩
      · rw [if_neg c2] at H
        have c2b : decide (a0_3 < a1) = false := decide_eq_false c2
        clear c2
        obtain ⟨y, hy⟩ : ∃ y, wrap64 (a0_3 - a1) = y := ⟨_, rfl⟩
        obtain ⟨b, hb⟩ : ∃ b, decide (y > a0_2) = b := ⟨_, rfl⟩
        rw [hy, hb] at H
        have hb' : decide (a0_2 < y) = b := hb
        have hv : IntKind.i64.wrap (a0_3 - a1) = y := by simp only [i64_w]; exact hy
        clear hb hy
        simp only [Option.some.injEq, Prod.mk.injEq] at H
        obtain ⟨rfl, rfl, rfl, rfl, rfl, rfl⟩ := H
        go_enter Try.func17, Try.ntmps17
        go_wp2
        all_goals try (exfalso; omega)
        all_goals go_region_with fail
        all_goals (try go_wp2)
        all_goals
          (try simp only [Act.put, List.setIfInBounds_toArray, List.set_cons_zero, List.set_cons_succ])
          have hbk : ∀ X Y, ((w.alloc X).alloc Y).heap[w.heap.size + 1]? = some Y := by intro X Y; have := blk_new (w.alloc X) Y; simpa using this
          refine bodyPost_ret (results_ct rfl _ _ (w.heap.size + 1) 40 _ (0, 0) _ rfl (hbk _ _) hu40 rfl rfl) rfl ?_
          exact ⟨rfl, by repeat (first | exact Below.refl _ _ | apply below_alloc | apply below_drew1)⟩


/-! ### trickleref08_Harvest: function 18 -/
def trickleref08_Harvest.f (a0_0 : Int) (a0_1 : Int) (a0_2 : Int) (a0_3 : Int) (a0_4 : Bool) (a1 : Int) (a2 : Int) : Option (Int × Int × Int × Int × Bool × Int) := if a1 ≥ 0 then (if a1 ≤ 1048576 then (if a2 ≥ 0 then (if a2 ≤ 1099511627776 then (some (a0_0, a0_1, a0_2, mn a0_0 (wrap64 (a0_3 + wrap64 (a1 * a2))), a0_4 || decide (mn a0_0 (wrap64 (a0_3 + wrap64 (a1 * a2))) ≥ a0_1), 0)) else some (a0_0, a0_1, a0_2, a0_3, a0_4, 1)) else some (a0_0, a0_1, a0_2, a0_3, a0_4, 1)) else some (a0_0, a0_1, a0_2, a0_3, a0_4, 1)) else some (a0_0, a0_1, a0_2, a0_3, a0_4, 1)
set_option maxHeartbeats 8000000 in
set_option maxRecDepth 100000 in
theorem trickleref08_Harvest.calls (a0_0 : Int) (a0_1 : Int) (a0_2 : Int) (a0_3 : Int) (a0_4 : Bool) (a1 : Int) (a2 : Int) (r1 : Int) (r2 : Int) (r3 : Int) (r4 : Int) (r5 : Bool) (r6 : Int) (w : World) (h : trickleref08_Harvest.f a0_0 a0_1 a0_2 a0_3 a0_4 a1 a2 = some (r1, r2, r3, r4, r5, r6)) :
    Calls Try.prog 18 #[.agg #[.int .i64 a0_0, .int .i64 a0_1, .int .i64 a0_2, .int .i64 a0_3, .bool a0_4], .int .i64 a1, .int .i64 a2] w fun e w' => e = .returned (.tuple #[.agg #[.int .i64 r1, .int .i64 r2, .int .i64 r3, .int .i64 r4, .bool r5], .int .i64 r6]) ∧ Below w.heap.size w w' := by
  have hu40 := Try.underlying40
  have H := h
  clear h
  unfold trickleref08_Harvest.f at H
  by_cases c0 : a1 ≥ 0
  · rw [if_pos c0] at H
    have c0b : decide (0 ≤ a1) = true := decide_eq_true c0
    by_cases c1 : a1 ≤ 1048576
    · rw [if_pos c1] at H
      have c1b : decide (a1 ≤ 1048576) = true := decide_eq_true c1
      by_cases c2 : a2 ≥ 0
      · rw [if_pos c2] at H
        have c2b : decide (0 ≤ a2) = true := decide_eq_true c2
        by_cases c3 : a2 ≤ 1099511627776
        · rw [if_pos c3] at H
          have c3b : decide (a2 ≤ 1099511627776) = true := decide_eq_true c3
          by_cases cm : wrap64 (a0_3 + wrap64 (a1 * a2)) < a0_0
          · have hy : mn a0_0 (wrap64 (a0_3 + wrap64 (a1 * a2))) = wrap64 (a0_3 + wrap64 (a1 * a2)) := by unfold mn; rw [if_pos cm]
            obtain ⟨b, hb⟩ : ∃ b, decide (wrap64 (a0_3 + wrap64 (a1 * a2)) ≥ a0_1) = b := ⟨_, rfl⟩
            rw [hy, hb] at H
            have hb' : decide (a0_1 ≤ wrap64 (a0_3 + wrap64 (a1 * a2))) = b := hb
            clear hb hy
            cases a0_4 with
            | true =>
              rw [Bool.true_or] at H
              simp only [Option.some.injEq, Prod.mk.injEq] at H
              obtain ⟨rfl, rfl, rfl, rfl, rfl, rfl⟩ := H
              go_enter Try.func18, Try.ntmps18
              go_wp2
              all_goals try (exfalso; omega)
              all_goals
                (try simp only [Act.put, List.setIfInBounds_toArray, List.set_cons_zero, List.set_cons_succ])
                have hbk : ∀ X Y, ((w.alloc X).alloc Y).heap[w.heap.size + 1]? = some Y := by intro X Y; have := blk_new (w.alloc X) Y; simpa using this
                refine bodyPost_ret (results_ct rfl _ _ (w.heap.size + 1) 40 _ (0, 0) _ rfl (hbk _ _) hu40 rfl rfl) rfl ?_
                exact ⟨rfl, by repeat (first | exact Below.refl _ _ | apply below_alloc | apply below_drew1)⟩
            | false =>
              rw [Bool.false_or] at H
              simp only [Option.some.injEq, Prod.mk.injEq] at H
              obtain ⟨rfl, rfl, rfl, rfl, rfl, rfl⟩ := H
              go_enter Try.func18, Try.ntmps18
              go_wp2
              all_goals try (exfalso; omega)
              all_goals
                (try simp only [Act.put, List.setIfInBounds_toArray, List.set_cons_zero, List.set_cons_succ])
                have hbk : ∀ X Y, ((w.alloc X).alloc Y).heap[w.heap.size + 1]? = some Y := by intro X Y; have := blk_new (w.alloc X) Y; simpa using this
                refine bodyPost_ret (results_ct rfl _ _ (w.heap.size + 1) 40 _ (0, 0) _ rfl (hbk _ _) hu40 rfl rfl) rfl ?_
                exact ⟨rfl, by repeat (first | exact Below.refl _ _ | apply below_alloc | apply below_drew1)⟩
          · have hy : mn a0_0 (wrap64 (a0_3 + wrap64 (a1 * a2))) = a0_0 := by unfold mn; rw [if_neg cm]
            obtain ⟨b, hb⟩ : ∃ b, decide (a0_0 ≥ a0_1) = b := ⟨_, rfl⟩
            rw [hy, hb] at H
            have hb' : decide (a0_1 ≤ a0_0) = b := hb
            clear hb hy
            cases a0_4 with
            | true =>
              rw [Bool.true_or] at H
              simp only [Option.some.injEq, Prod.mk.injEq] at H
              obtain ⟨rfl, rfl, rfl, rfl, rfl, rfl⟩ := H
              go_enter Try.func18, Try.ntmps18
              go_wp2
              all_goals try (exfalso; omega)
              all_goals
                (try simp only [Act.put, List.setIfInBounds_toArray, List.set_cons_zero, List.set_cons_succ])
                have hbk : ∀ X Y, ((w.alloc X).alloc Y).heap[w.heap.size + 1]? = some Y := by intro X Y; have := blk_new (w.alloc X) Y; simpa using this
                refine bodyPost_ret (results_ct rfl _ _ (w.heap.size + 1) 40 _ (0, 0) _ rfl (hbk _ _) hu40 rfl rfl) rfl ?_
                exact ⟨rfl, by repeat (first | exact Below.refl _ _ | apply below_alloc | apply below_drew1)⟩
            | false =>
              rw [Bool.false_or] at H
              simp only [Option.some.injEq, Prod.mk.injEq] at H
              obtain ⟨rfl, rfl, rfl, rfl, rfl, rfl⟩ := H
              go_enter Try.func18, Try.ntmps18
              go_wp2
              all_goals try (exfalso; omega)
              all_goals
                (try simp only [Act.put, List.setIfInBounds_toArray, List.set_cons_zero, List.set_cons_succ])
                have hbk : ∀ X Y, ((w.alloc X).alloc Y).heap[w.heap.size + 1]? = some Y := by intro X Y; have := blk_new (w.alloc X) Y; simpa using this
                refine bodyPost_ret (results_ct rfl _ _ (w.heap.size + 1) 40 _ (0, 0) _ rfl (hbk _ _) hu40 rfl rfl) rfl ?_
                exact ⟨rfl, by repeat (first | exact Below.refl _ _ | apply below_alloc | apply below_drew1)⟩
        · rw [if_neg c3] at H
          have c3b : decide (a2 ≤ 1099511627776) = false := decide_eq_false c3
          simp only [Option.some.injEq, Prod.mk.injEq] at H
          obtain ⟨rfl, rfl, rfl, rfl, rfl, rfl⟩ := H
          go_enter Try.func18, Try.ntmps18
          go_wp2
          all_goals try (exfalso; omega)
          all_goals
            (try simp only [Act.put, List.setIfInBounds_toArray, List.set_cons_zero, List.set_cons_succ])
            have hbk : ∀ X Y, ((w.alloc X).alloc Y).heap[w.heap.size + 1]? = some Y := by intro X Y; have := blk_new (w.alloc X) Y; simpa using this
            refine bodyPost_ret (results_ct rfl _ _ (w.heap.size + 1) 40 _ (0, 0) _ rfl (hbk _ _) hu40 rfl rfl) rfl ?_
            exact ⟨rfl, by repeat (first | exact Below.refl _ _ | apply below_alloc | apply below_drew1)⟩
      · rw [if_neg c2] at H
        have c2b : decide (0 ≤ a2) = false := decide_eq_false c2
        simp only [Option.some.injEq, Prod.mk.injEq] at H
        obtain ⟨rfl, rfl, rfl, rfl, rfl, rfl⟩ := H
        go_enter Try.func18, Try.ntmps18
        go_wp2
        all_goals try (exfalso; omega)
        all_goals
          (try simp only [Act.put, List.setIfInBounds_toArray, List.set_cons_zero, List.set_cons_succ])
          have hbk : ∀ X Y, ((w.alloc X).alloc Y).heap[w.heap.size + 1]? = some Y := by intro X Y; have := blk_new (w.alloc X) Y; simpa using this
          refine bodyPost_ret (results_ct rfl _ _ (w.heap.size + 1) 40 _ (0, 0) _ rfl (hbk _ _) hu40 rfl rfl) rfl ?_
          exact ⟨rfl, by repeat (first | exact Below.refl _ _ | apply below_alloc | apply below_drew1)⟩
    · rw [if_neg c1] at H
      have c1b : decide (a1 ≤ 1048576) = false := decide_eq_false c1
      simp only [Option.some.injEq, Prod.mk.injEq] at H
      obtain ⟨rfl, rfl, rfl, rfl, rfl, rfl⟩ := H
      go_enter Try.func18, Try.ntmps18
      go_wp2
      all_goals try (exfalso; omega)
      all_goals
        (try simp only [Act.put, List.setIfInBounds_toArray, List.set_cons_zero, List.set_cons_succ])
        have hbk : ∀ X Y, ((w.alloc X).alloc Y).heap[w.heap.size + 1]? = some Y := by intro X Y; have := blk_new (w.alloc X) Y; simpa using this
        refine bodyPost_ret (results_ct rfl _ _ (w.heap.size + 1) 40 _ (0, 0) _ rfl (hbk _ _) hu40 rfl rfl) rfl ?_
        exact ⟨rfl, by repeat (first | exact Below.refl _ _ | apply below_alloc | apply below_drew1)⟩
  · rw [if_neg c0] at H
    have c0b : decide (0 ≤ a1) = false := decide_eq_false c0
    simp only [Option.some.injEq, Prod.mk.injEq] at H
    obtain ⟨rfl, rfl, rfl, rfl, rfl, rfl⟩ := H
    go_enter Try.func18, Try.ntmps18
    go_wp2
    all_goals try (exfalso; omega)
    all_goals
      (try simp only [Act.put, List.setIfInBounds_toArray, List.set_cons_zero, List.set_cons_succ])
      have hbk : ∀ X Y, ((w.alloc X).alloc Y).heap[w.heap.size + 1]? = some Y := by intro X Y; have := blk_new (w.alloc X) Y; simpa using this
      refine bodyPost_ret (results_ct rfl _ _ (w.heap.size + 1) 40 _ (0, 0) _ rfl (hbk _ _) hu40 rfl rfl) rfl ?_
      exact ⟨rfl, by repeat (first | exact Below.refl _ _ | apply below_alloc | apply below_drew1)⟩

end Go.Proofs.Ytifogngffmhmaaa.QSd
