-- Printed by a program of this session (myprint.py) over the kit's print: functions, contracts; not trusted, Lean checks it.
import Derived.Test.YtifogngffmhmaaaMmA
import Derived.Test.YtifogngffmhmaaaQAlx0
import Derived.Test.YtifogngffmhmaaaQAlx1
import Derived.Test.YtifogngffmhmaaaQAlx2
import Derived.Test.YtifogngffmhmaaaQAlx3
import Derived.Test.YtifogngffmhmaaaQAlx5
namespace Go.Proofs.Ytifogngffmhmaaa.QAl
open Go.RowKit Go.Proofs.YtifogngffmhmaaaW.PrintWords Go.Proofs.YtifogngffmhmaaaW.PrintLast Go.Proofs.YtifogngffmhmaaaW.PrintMore
attribute [local go_sem] max2_int min2_int max_two min_two max_three min_three max_four min_four   -- for this text's walks alone
set_option linter.unusedVariables false
set_option linter.unusedSimpArgs false

set_option maxHeartbeats 8000000 in
set_option maxRecDepth 100000 in
theorem mm.calls (k : Nat) (a0_0 : Int) (a0_1 : Int) (a0_2 : Int) (A1 : Option Addr) (c1 : Nat) (l1 : List (S34)) (a2 : Int) (r : Bool) (w : World) (hr1 : Kd.C k34 w A1 l1.length l1) (hc1 : l1.length ≤ c1) (h : mm.f k a0_0 a0_1 a0_2 l1 a2 = some r) :
  Calls Try.prog 4 #[.agg #[.int .i64 a0_0, .int .i64 a0_1, .int .i64 a0_2], .slice A1 l1.length c1, .int .i64 a2] w fun e w' => e = .returned (.bool r) ∧ Below w.heap.size w w' := by
 have hu23 := Try.underlying23
 have hu40 := Try.underlying40
 have hu34 := Try.underlying34
 have HR1 := Aside0.mk hr1
 have HC1 := Aside0.mk hc1
 clear hr1 hc1
 have HB := Aside0.mk (Below.refl w.heap.size w)
 have H : ((tricklelaw08_awake.f k).bind fun t165 => (if t165 = true then (if (l1.length : Int) > 60 then (some true) else ((tricklelaw08_config.f a0_0 a0_1 a0_2).bind fun bt166 => ((capacitor_New.f bt166.1 bt166.2.1 bt166.2.2).bind fun bt169 => ((trickleref08_Valid.f a0_0 a0_1 a0_2).bind fun t176 => (if t176 = true then (if bt169.2.2.2.2.2 = 0 then (mm.j0 k l1 a2 false a0_0 a0_1 a0_2 bt169.1 bt169.2.1 bt169.2.2.1 bt169.2.2.2.1 bt169.2.2.2.2.1) else (mm.j0 k l1 a2 true a0_0 a0_1 a0_2 bt169.1 bt169.2.1 bt169.2.2.1 bt169.2.2.2.1 bt169.2.2.2.2.1)) else (some false)))))) else (some false))) = some r := h
 clear h
 replace H := Option.bind_eq_some_iff.mp H
 obtain ⟨t165, A40, H⟩ := H
 replace H : (if t165 = true then (if (l1.length : Int) > 60 then (some true) else ((tricklelaw08_config.f a0_0 a0_1 a0_2).bind fun bt166 => ((capacitor_New.f bt166.1 bt166.2.1 bt166.2.2).bind fun bt169 => ((trickleref08_Valid.f a0_0 a0_1 a0_2).bind fun t176 => (if t176 = true then (if bt169.2.2.2.2.2 = 0 then (mm.j0 k l1 a2 false a0_0 a0_1 a0_2 bt169.1 bt169.2.1 bt169.2.2.1 bt169.2.2.2.1 bt169.2.2.2.2.1) else (mm.j0 k l1 a2 true a0_0 a0_1 a0_2 bt169.1 bt169.2.1 bt169.2.2.1 bt169.2.2.2.1 bt169.2.2.2.2.1)) else (some false)))))) else (some false)) = some r := H
 have A4 := Aside0.mk A40
 clear A40
 by_cases c5 : t165 = true
 ·
  subst c5
  have H1 : (if (l1.length : Int) > 60 then (some true) else ((tricklelaw08_config.f a0_0 a0_1 a0_2).bind fun bt166 => ((capacitor_New.f bt166.1 bt166.2.1 bt166.2.2).bind fun bt169 => ((trickleref08_Valid.f a0_0 a0_1 a0_2).bind fun t176 => (if t176 = true then (if bt169.2.2.2.2.2 = 0 then (mm.j0 k l1 a2 false a0_0 a0_1 a0_2 bt169.1 bt169.2.1 bt169.2.2.1 bt169.2.2.2.1 bt169.2.2.2.2.1) else (mm.j0 k l1 a2 true a0_0 a0_1 a0_2 bt169.1 bt169.2.1 bt169.2.2.1 bt169.2.2.2.1 bt169.2.2.2.2.1)) else (some false)))))) = some r := by rw [if_pos rfl] at H; exact H
  clear H
  have H := H1
  clear H1
  by_cases c6 : (l1.length : Int) > 60
  ·
   rw [if_pos c6] at H
   have c6b0 : decide (60 < (l1.length : Int)) = true := decide_eq_true c6
   have c6b1 : decide (60 < l1.length) = true := decide_eq_true (by omega)
   clear c6
   obtain rfl := Option.some.inj H
   go_enter Try.func4, Try.ntmps4
   go_wp2_with (first | ((with_reducible refine gate_dst (N := 3) rfl ?_); refine box_event ?hg (N := 3) ?hd (cs := #[.int .i64 a0_0, .int .i64 a0_1, .int .i64 a0_2]) (t := 23) ?hr ?_; (case hd => rfl); (case hg => rfl); (case hr => first | (go_simp; done) | (go_simp; rfl)); intro gb164 hg w7 hbox hb; have n0_ := Aside0.mk (below_step (by repeat (first | (with_reducible first | exact HB.out | apply below_alloc | apply pw_below_drewN | apply below_drew1) | exact HB.out)) hb); have n1_ := Aside0.mk (hbox); have n2_ := Aside0.mk ((by rw [hg]; exact (below_size (by repeat (first | (with_reducible first | exact HB.out | apply below_alloc | apply pw_below_drewN | apply below_drew1) | exact HB.out))) : w.heap.size ≤ gb164)); have n3_ := Aside0.mk ((by rw [hg]; exact (below_size (by repeat (first | (with_reducible first | exact HB.out | apply below_alloc | apply pw_below_drewN | apply below_drew1) | exact HB.out))) : w.heap.size ≤ gb164)); clear HB; have HB := n0_; have BK164 := n1_; have GW164 := n2_; have GE164 := n3_; clear n0_ n1_ n2_ n3_; clear hb hbox hg) | ((with_reducible refine gate_callee (f := 9) rfl ?_); refine goesL_ (some 22) rfl rfl Try.func9 (by kernel_rfl) rfl #[] rfl (by (try simp only [List.map_toArray, List.map_cons, List.map_nil]); first | done | rfl | (simp only [List.length_drop, List.length_take]; rfl)) ?_; (with_reducible refine (tricklelaw08_awake.calls k  true _ A4.out).mono ?_); rintro e w8 ⟨rfl, hb⟩; refine ⟨_, rfl, ?_⟩; have n0_ := Aside0.mk (blk_below (g := gb164) (o := .cells #[.int .i64 a0_0, .int .i64 a0_1, .int .i64 a0_2] 23 (0, 0)) (by (with_reducible repeat (first | refine blk_drewN ?_ _ | refine blk_drew ?_ | refine blk_alloc ?_ _)); exact BK164.out) hb); have n1_ := Aside0.mk (below_step (by repeat (first | (with_reducible first | exact HB.out | apply below_alloc | apply pw_below_drewN | apply below_drew1 | refine below_set ?_ GE164.out) | exact HB.out)) hb); clear BK164; clear HB; have BK164 := n0_; have HB := n1_; clear n0_ n1_; (try clear hb); (try clear hb2); (try clear hk); (try clear hi)))
   go_ret
   exact ⟨by first | rfl | (simp [errW_none, errW_some] <;> rfl) | (simp [*, errW_none, errW_some] <;> rfl), by repeat (first | (with_reducible first | exact HB.out | apply below_alloc | apply pw_below_drewN | apply below_drew1 | refine below_set ?_ GE164.out) | exact HB.out)⟩
  ·
   rw [if_neg c6] at H
   have c6b0 : decide (60 < (l1.length : Int)) = false := decide_eq_false c6
   have c6b1 : decide (60 < l1.length) = false := decide_eq_false (by omega)
   clear c6
   replace H := Option.bind_eq_some_iff.mp H
   obtain ⟨⟨t166, t167, t168⟩, A90, H⟩ := H
   replace H : ((capacitor_New.f t166 t167 t168).bind fun bt169 => ((trickleref08_Valid.f a0_0 a0_1 a0_2).bind fun t176 => (if t176 = true then (if bt169.2.2.2.2.2 = 0 then (mm.j0 k l1 a2 false a0_0 a0_1 a0_2 bt169.1 bt169.2.1 bt169.2.2.1 bt169.2.2.2.1 bt169.2.2.2.2.1) else (mm.j0 k l1 a2 true a0_0 a0_1 a0_2 bt169.1 bt169.2.1 bt169.2.2.1 bt169.2.2.2.1 bt169.2.2.2.2.1)) else (some false)))) = some r := H
   have A9 := Aside0.mk A90
   clear A90
   replace H := Option.bind_eq_some_iff.mp H
   obtain ⟨⟨t169, t170, t171, t172, t173, t175⟩, A100, H⟩ := H
   replace H : ((trickleref08_Valid.f a0_0 a0_1 a0_2).bind fun t176 => (if t176 = true then (if t175 = 0 then (mm.j0 k l1 a2 false a0_0 a0_1 a0_2 t169 t170 t171 t172 t173) else (mm.j0 k l1 a2 true a0_0 a0_1 a0_2 t169 t170 t171 t172 t173)) else (some false))) = some r := H
   have A10 := Aside0.mk A100
   clear A100
   replace H := Option.bind_eq_some_iff.mp H
   obtain ⟨t176, A110, H⟩ := H
   replace H : (if t176 = true then (if t175 = 0 then (mm.j0 k l1 a2 false a0_0 a0_1 a0_2 t169 t170 t171 t172 t173) else (mm.j0 k l1 a2 true a0_0 a0_1 a0_2 t169 t170 t171 t172 t173)) else (some false)) = some r := H
   have A11 := Aside0.mk A110
   clear A110
   by_cases c12 : t176 = true
   ·
    subst c12
    have H1 : (if t175 = 0 then (mm.j0 k l1 a2 false a0_0 a0_1 a0_2 t169 t170 t171 t172 t173) else (mm.j0 k l1 a2 true a0_0 a0_1 a0_2 t169 t170 t171 t172 t173)) = some r := by rw [if_pos rfl] at H; exact H
    clear H
    have H := H1
    clear H1
    have HC13 := Aside0.mk H
    clear H
    go_enter Try.func4, Try.ntmps4
    go_upto_region 8 with (first | ((with_reducible refine gate_dst (N := 3) rfl ?_); refine box_event ?hg (N := 3) ?hd (cs := #[.int .i64 a0_0, .int .i64 a0_1, .int .i64 a0_2]) (t := 23) ?hr ?_; (case hd => rfl); (case hg => rfl); (case hr => first | (go_simp; done) | (go_simp; rfl)); intro gb164 hg w14 hbox hb; have n0_ := Aside0.mk (below_step (by repeat (first | (with_reducible first | exact HB.out | apply below_alloc | apply pw_below_drewN | apply below_drew1) | exact HB.out)) hb); have n1_ := Aside0.mk (hbox); have n2_ := Aside0.mk ((by rw [hg]; exact (below_size (by repeat (first | (with_reducible first | exact HB.out | apply below_alloc | apply pw_below_drewN | apply below_drew1) | exact HB.out))) : w.heap.size ≤ gb164)); have n3_ := Aside0.mk ((by rw [hg]; exact (below_size (by repeat (first | (with_reducible first | exact HB.out | apply below_alloc | apply pw_below_drewN | apply below_drew1) | exact HB.out))) : w.heap.size ≤ gb164)); clear HB; have HB := n0_; have BK164 := n1_; have GW164 := n2_; have GE164 := n3_; clear n0_ n1_ n2_ n3_; clear hb hbox hg) | ((with_reducible refine gate_callee (f := 9) rfl ?_); refine goesL_ (some 22) rfl rfl Try.func9 (by kernel_rfl) rfl #[] rfl (by (try simp only [List.map_toArray, List.map_cons, List.map_nil]); first | done | rfl | (simp only [List.length_drop, List.length_take]; rfl)) ?_; (with_reducible refine (tricklelaw08_awake.calls k  true _ A4.out).mono ?_); rintro e w15 ⟨rfl, hb⟩; refine ⟨_, rfl, ?_⟩; have n0_ := Aside0.mk (blk_below (g := gb164) (o := .cells #[.int .i64 a0_0, .int .i64 a0_1, .int .i64 a0_2] 23 (0, 0)) (by (with_reducible repeat (first | refine blk_drewN ?_ _ | refine blk_drew ?_ | refine blk_alloc ?_ _)); exact BK164.out) hb); have n1_ := Aside0.mk (below_step (by repeat (first | (with_reducible first | exact HB.out | apply below_alloc | apply pw_below_drewN | apply below_drew1 | refine below_set ?_ GE164.out) | exact HB.out)) hb); clear BK164; clear HB; have BK164 := n0_; have HB := n1_; clear n0_ n1_; (try clear hb); (try clear hb2); (try clear hk); (try clear hi); have hcz16_0 : w15.cell? ⟨gb164, 0, none⟩ = some (.int .i64 a0_0) := (blk_cell BK164.out 0).trans rfl; have hcz16_1 : w15.cell? ⟨gb164, 1, none⟩ = some (.int .i64 a0_1) := (blk_cell BK164.out 1).trans rfl; have hcz16_2 : w15.cell? ⟨gb164, 2, none⟩ = some (.int .i64 a0_2) := (blk_cell BK164.out 2).trans rfl; have hfz16_0 := blk_frozen BK164.out 0; have hfz16_1 := blk_frozen BK164.out 1; have hfz16_2 := blk_frozen BK164.out 2) | ((with_reducible refine gate_callee (f := 12) rfl ?_); refine goesL_ (some 29) rfl rfl Try.func12 (by kernel_rfl) rfl #[.agg #[.int .i64 a0_0, .int .i64 a0_1, .int .i64 a0_2]] rfl (by (try simp only [List.map_toArray, List.map_cons, List.map_nil]); first | done | rfl | (simp only [List.length_drop, List.length_take]; rfl)) ?_; (with_reducible refine (tricklelaw08_config.calls a0_0 a0_1 a0_2 t166 t167 t168 _ A9.out).mono ?_); rintro e w17 ⟨rfl, hb⟩; refine ⟨_, rfl, ?_⟩; have n0_ := Aside0.mk (blk_below (g := gb164) (o := .cells #[.int .i64 a0_0, .int .i64 a0_1, .int .i64 a0_2] 23 (0, 0)) (by (with_reducible repeat (first | refine blk_drewN ?_ _ | refine blk_drew ?_ | refine blk_alloc ?_ _)); exact BK164.out) hb); have n1_ := Aside0.mk (below_step (by repeat (first | (with_reducible first | exact HB.out | apply below_alloc | apply pw_below_drewN | apply below_drew1 | refine below_set ?_ GE164.out) | exact HB.out)) hb); clear BK164; clear HB; have BK164 := n0_; have HB := n1_; clear n0_ n1_; (try clear hb); (try clear hb2); (try clear hk); (try clear hi)) | ((with_reducible refine gate_callee (f := 11) rfl ?_); refine goesL_ (some 30) rfl rfl Try.func11 (by kernel_rfl) rfl #[.agg #[.int .i64 t166, .int .i64 t167, .int .i64 t168]] rfl (by (try simp only [List.map_toArray, List.map_cons, List.map_nil]); first | done | rfl | (simp only [List.length_drop, List.length_take]; rfl)) ?_; (with_reducible refine (capacitor_New.calls t166 t167 t168 t169 t170 t171 t172 t173 t175 w _ ?side1 A10.out).mono ?_); (case side1 => repeat (first | (with_reducible first | exact HB.out | apply below_alloc | apply pw_below_drewN | apply below_drew1 | refine below_set ?_ GE164.out) | exact HB.out)); rintro e w18 ⟨g174, rfl, hi, hb, hb2⟩; refine ⟨_, rfl, ?_⟩; have n0_ := Aside0.mk (blk_below (g := gb164) (o := .cells #[.int .i64 a0_0, .int .i64 a0_1, .int .i64 a0_2] 23 (0, 0)) (by (with_reducible repeat (first | refine blk_drewN ?_ _ | refine blk_drew ?_ | refine blk_alloc ?_ _)); exact BK164.out) hb2); have n1_ := Aside0.mk (hb); have n2_ := Aside0.mk (hi); have n3_ := Aside0.mk (IsS70.ne_blk hi (blk_below (g := gb164) (o := .cells #[.int .i64 a0_0, .int .i64 a0_1, .int .i64 a0_2] 23 (0, 0)) (by (with_reducible repeat (first | refine blk_drewN ?_ _ | refine blk_drew ?_ | refine blk_alloc ?_ _)); exact BK164.out) hb2) (by decide)); have n4_ := Aside0.mk (Ne.symm (IsS70.ne_blk hi (blk_below (g := gb164) (o := .cells #[.int .i64 a0_0, .int .i64 a0_1, .int .i64 a0_2] 23 (0, 0)) (by (with_reducible repeat (first | refine blk_drewN ?_ _ | refine blk_drew ?_ | refine blk_alloc ?_ _)); exact BK164.out) hb2) (by decide))); clear BK164; clear HB; have BK164 := n0_; have HB := n1_; have HI174 := n2_; have NB174_164 := n3_; have NB164_174 := n4_; clear n0_ n1_ n2_ n3_ n4_; (try clear hb); (try clear hb2); (try clear hk); (try clear hi); have hnb19 := NB164_174.out; have hnc19 := NB174_164.out; have hcz20_0 : w18.cell? ⟨gb164, 0, none⟩ = some (.int .i64 a0_0) := (blk_cell BK164.out 0).trans rfl; have hcz20_1 : w18.cell? ⟨gb164, 1, none⟩ = some (.int .i64 a0_1) := (blk_cell BK164.out 1).trans rfl; have hcz20_2 : w18.cell? ⟨gb164, 2, none⟩ = some (.int .i64 a0_2) := (blk_cell BK164.out 2).trans rfl; have hfz20_0 := blk_frozen BK164.out 0; have hfz20_1 := blk_frozen BK164.out 1; have hfz20_2 := blk_frozen BK164.out 2) | ((with_reducible refine gate_callee (f := 10) rfl ?_); refine goesL_ (some 34) rfl rfl Try.func10 (by kernel_rfl) rfl #[.agg #[.int .i64 a0_0, .int .i64 a0_1, .int .i64 a0_2]] rfl (by (try simp only [List.map_toArray, List.map_cons, List.map_nil]); first | done | rfl | (simp only [List.length_drop, List.length_take]; rfl)) ?_; (with_reducible refine (trickleref08_Valid.calls a0_0 a0_1 a0_2 true _ A11.out).mono ?_); rintro e w21 ⟨rfl, hb⟩; refine ⟨_, rfl, ?_⟩; have n0_ := Aside0.mk (blk_below (g := gb164) (o := .cells #[.int .i64 a0_0, .int .i64 a0_1, .int .i64 a0_2] 23 (0, 0)) (by (with_reducible repeat (first | refine blk_drewN ?_ _ | refine blk_drew ?_ | refine blk_alloc ?_ _)); exact BK164.out) hb); have n1_ := Aside0.mk (IsS70.below (by repeat (first | (with_reducible first | exact HI174.out | apply IsS70.alloc | apply IsS70.drewN | apply IsS70.drew | apply IsS70.set_0 | apply IsS70.set_1 | apply IsS70.set_2 | apply IsS70.set_3 | apply IsS70.set_4 | refine IsS70.far ?_ NB174_164.out _) | exact HI174.out)) hb); have n2_ := Aside0.mk (below_step (by repeat (first | (with_reducible first | exact HB.out | apply below_alloc | apply pw_below_drewN | apply below_drew1 | refine below_set ?_ (IsS70.ge HI174.out) | refine below_set ?_ GE164.out) | exact HB.out)) hb); clear BK164; clear HI174; clear HB; have BK164 := n0_; have HI174 := n1_; have HB := n2_; clear n0_ n1_ n2_; (try clear hb); (try clear hb2); (try clear hk); (try clear hi)))
    (try simp only [Act.put, List.setIfInBounds_toArray, List.set_cons_zero, List.set_cons_succ])
    go_cut [47] (fun v47 wc => ∃ (kq : Nat) (x47_12 : Bool), v47 = .bool x47_12 ∧ Aside0 (mm.j0 kq l1 a2 x47_12 a0_0 a0_1 a0_2 t169 t170 t171 t172 t173 = some r) ∧ Aside0 (kq ≤ k) ∧ Aside0 (wc.heap[gb164]? = some (.cells #[.int .i64 a0_0, .int .i64 a0_1, .int .i64 a0_2] 23 (0, 0))) ∧ Aside0 (IsS70 w wc g174 t169 t170 t171 t172 t173) ∧ Aside0 (Below w.heap.size w wc))
    case first =>
     have H := HC13.out
     clear HC13
     by_cases c22 : t175 = 0
     ·
      rw [if_pos c22] at H
      have c22b0 : (t175 == 0) = true := beq_iff_eq.mpr c22
      have c22b1 : (t175 != 0) = false := bne_eq_false_iff_eq.mpr c22
      clear c22
      (first | rw [c22b0] | (simp only [i64_w, i32_w]; rw [c22b0]) | skip)
      have H' := Aside0.mk H
      clear H
      go_wp2
      go_meet
      case rel => exact ⟨_, (false), (by first | rfl | (simp; done) | (simp [*]; done)), H', ⟨by first | omega | exact Nat.le_refl _⟩, ⟨by (with_reducible repeat (first | refine blk_drewN ?_ _ | refine blk_drew ?_ | refine blk_alloc ?_ _)); exact BK164.out⟩, ⟨by repeat (first | (with_reducible first | exact HI174.out | apply IsS70.alloc | apply IsS70.drewN | apply IsS70.drew | apply IsS70.set_0 | apply IsS70.set_1 | apply IsS70.set_2 | apply IsS70.set_3 | apply IsS70.set_4 | refine IsS70.far ?_ NB174_164.out _) | exact HI174.out)⟩, ⟨by repeat (first | (with_reducible first | exact HB.out | apply below_alloc | apply pw_below_drewN | apply below_drew1 | refine below_set ?_ (IsS70.ge HI174.out) | refine below_set ?_ GE164.out) | exact HB.out)⟩⟩
     ·
      rw [if_neg c22] at H
      have c22b0 : (t175 == 0) = false := beq_eq_false_iff_ne.mpr c22
      have c22b1 : (t175 != 0) = true := bne_iff_ne.mpr c22
      (first | rw [c22b0] | (simp only [i64_w, i32_w]; rw [c22b0]) | skip)
      have H' := Aside0.mk H
      clear H
      go_wp2
      go_meet
      case rel => exact ⟨_, (true), (by first | rfl | (simp; done) | (simp [*]; done)), H', ⟨by first | omega | exact Nat.le_refl _⟩, ⟨by (with_reducible repeat (first | refine blk_drewN ?_ _ | refine blk_drew ?_ | refine blk_alloc ?_ _)); exact BK164.out⟩, ⟨by repeat (first | (with_reducible first | exact HI174.out | apply IsS70.alloc | apply IsS70.drewN | apply IsS70.drew | apply IsS70.set_0 | apply IsS70.set_1 | apply IsS70.set_2 | apply IsS70.set_3 | apply IsS70.set_4 | refine IsS70.far ?_ NB174_164.out _) | exact HI174.out)⟩, ⟨by repeat (first | (with_reducible first | exact HB.out | apply below_alloc | apply pw_below_drewN | apply below_drew1 | refine below_set ?_ (IsS70.ge HI174.out) | refine below_set ?_ GE164.out) | exact HB.out)⟩⟩
    case rest =>
     clear HC13
     try clear c1
     try clear c2
     try clear p2
     try clear c4
     try clear c5
     try clear c6
     try clear c6b0
     try clear c6b1
     try clear c9
     try clear c10
     try clear c11
     try clear c12
     try clear c19
     try clear c22
     try clear c22b0
     try clear c22b1
     try clear hcz16_0
     try clear hcz16_1
     try clear hcz16_2
     try clear hcz20_0
     try clear hcz20_1
     try clear hcz20_2
     try clear hfz16_0
     try clear hfz16_1
     try clear hfz16_2
     try clear hfz20_0
     try clear hfz20_1
     try clear hfz20_2
     obtain ⟨kq, x47_12, rfl, HA, HJ12, BK164, HI174, HB⟩ := hcut
     cases kq with
     | zero => exact absurd HA.out (by simp [mm.j0])
     | succ kj12 =>
      have H := HA.out
      clear HA
      simp only [mm.j0] at H
      by_cases c23 : x47_12 = true
      ·
       subst c23
       have H1 : (some false) = some r := by rw [if_pos rfl] at H; exact H
       clear H
       have H := H1
       clear H1
       obtain rfl := Option.some.inj H
       go_wp2
       go_ret
       exact ⟨by first | rfl | (simp [errW_none, errW_some] <;> rfl) | (simp [*, errW_none, errW_some] <;> rfl), by repeat (first | (with_reducible first | exact HB.out | apply below_alloc | apply pw_below_drewN | apply below_drew1 | refine below_set ?_ (IsS70.ge HI174.out) | refine below_set ?_ GE164.out) | exact HB.out)⟩
      ·
       replace c23 := Bool.eq_false_iff.mpr c23
       subst c23
       have H1 : (mm.l0 kj12 a2 l1 (l1.length : Int) 0 t169 t170 t171 t172 t173 a0_0 a0_1 a0_2 0 false) = some r := by rw [if_neg (show ¬ (false = true) by decide)] at H; exact H
       clear H
       have H := H1
       clear H1
       have H' := Aside0.mk H
       clear H
       have hnb24 := NB164_174.out
       have hnc24 := NB174_164.out
       have hcz25_0 : wc.cell? ⟨gb164, 0, none⟩ = some (.int .i64 a0_0) := (blk_cell BK164.out 0).trans rfl
       have hcz25_1 : wc.cell? ⟨gb164, 1, none⟩ = some (.int .i64 a0_1) := (blk_cell BK164.out 1).trans rfl
       have hcz25_2 : wc.cell? ⟨gb164, 2, none⟩ = some (.int .i64 a0_2) := (blk_cell BK164.out 2).trans rfl
       have hfz25_0 := blk_frozen BK164.out 0
       have hfz25_1 := blk_frozen BK164.out 1
       have hfz25_2 := blk_frozen BK164.out 2
       go_wp2_with (first | ((with_reducible refine gate_dst (N := 9) rfl ?_); refine box_event ?hg (N := 9) ?hd (cs := #[.int .i64 0, .int .i64 0, .int .i64 0, .int .i64 0, .bool false]) (t := 40) ?hr ?_; (case hd => rfl); (case hg => rfl); (case hr => first | (go_simp; done) | (go_simp; rfl)); intro gb177 hg w26 hbox hb; have n0_ := Aside0.mk (blk_below (g := gb164) (o := .cells #[.int .i64 a0_0, .int .i64 a0_1, .int .i64 a0_2] 23 (0, 0)) (by (with_reducible repeat (first | refine blk_drewN ?_ _ | refine blk_drew ?_ | refine blk_alloc ?_ _)); exact BK164.out) hb); have n1_ := Aside0.mk (IsS70.below (by repeat (first | (with_reducible first | exact HI174.out | apply IsS70.alloc | apply IsS70.drewN | apply IsS70.drew | apply IsS70.set_0 | apply IsS70.set_1 | apply IsS70.set_2 | apply IsS70.set_3 | apply IsS70.set_4 | refine IsS70.far ?_ NB174_164.out _) | exact HI174.out)) hb); have n2_ := Aside0.mk (below_step (by repeat (first | (with_reducible first | exact HB.out | apply below_alloc | apply pw_below_drewN | apply below_drew1 | refine below_set ?_ (IsS70.ge HI174.out) | refine below_set ?_ GE164.out) | exact HB.out)) hb); have n3_ := Aside0.mk (hbox); have n4_ := Aside0.mk ((by rw [hg]; exact (below_size (by repeat (first | (with_reducible first | exact HB.out | apply below_alloc | apply pw_below_drewN | apply below_drew1 | refine below_set ?_ (IsS70.ge HI174.out) | refine below_set ?_ GE164.out) | exact HB.out))) : w.heap.size ≤ gb177)); have n5_ := Aside0.mk ((by rw [hg]; exact (below_size (by repeat (first | (with_reducible first | exact HB.out | apply below_alloc | apply pw_below_drewN | apply below_drew1 | refine below_set ?_ (IsS70.ge HI174.out) | refine below_set ?_ GE164.out) | exact HB.out))) : w.heap.size ≤ gb177)); have n6_ := Aside0.mk ((by rw [hg]; exact Nat.ne_of_lt (blk_lt (g := gb164) (o := .cells #[.int .i64 a0_0, .int .i64 a0_1, .int .i64 a0_2] 23 (0, 0)) (by (with_reducible repeat (first | refine blk_drewN ?_ _ | refine blk_drew ?_ | refine blk_alloc ?_ _)); exact BK164.out)) : gb164 ≠ gb177)); have n7_ := Aside0.mk ((by rw [hg]; exact Nat.ne_of_gt (blk_lt (g := gb164) (o := .cells #[.int .i64 a0_0, .int .i64 a0_1, .int .i64 a0_2] 23 (0, 0)) (by (with_reducible repeat (first | refine blk_drewN ?_ _ | refine blk_drew ?_ | refine blk_alloc ?_ _)); exact BK164.out)) : gb177 ≠ gb164)); have n8_ := Aside0.mk ((by rw [hg]; exact Nat.ne_of_lt (IsS70.lt (show IsS70 w _ g174 t169 t170 t171 t172 t173 from by repeat (first | (with_reducible first | exact HI174.out | apply IsS70.alloc | apply IsS70.drewN | apply IsS70.drew | apply IsS70.set_0 | apply IsS70.set_1 | apply IsS70.set_2 | apply IsS70.set_3 | apply IsS70.set_4 | refine IsS70.far ?_ NB174_164.out _) | exact HI174.out))) : g174 ≠ gb177)); have n9_ := Aside0.mk ((by rw [hg]; exact Nat.ne_of_gt (IsS70.lt (show IsS70 w _ g174 t169 t170 t171 t172 t173 from by repeat (first | (with_reducible first | exact HI174.out | apply IsS70.alloc | apply IsS70.drewN | apply IsS70.drew | apply IsS70.set_0 | apply IsS70.set_1 | apply IsS70.set_2 | apply IsS70.set_3 | apply IsS70.set_4 | refine IsS70.far ?_ NB174_164.out _) | exact HI174.out))) : gb177 ≠ g174)); clear BK164; clear HI174; clear HB; have BK164 := n0_; have HI174 := n1_; have HB := n2_; have BK177 := n3_; have GW177 := n4_; have GE177 := n5_; have NB164_177 := n6_; have NB177_164 := n7_; have NB174_177 := n8_; have NB177_174 := n9_; clear n0_ n1_ n2_ n3_ n4_ n5_ n6_ n7_ n8_ n9_; clear hb hbox hg; have hnb27 := NB177_164.out; have hnc27 := NB164_177.out; have hnb28 := NB177_174.out; have hnc28 := NB174_177.out; have hcz29_0 : w26.cell? ⟨gb177, 0, none⟩ = some (.int .i64 0) := (blk_cell BK177.out 0).trans rfl; have hcz29_1 : w26.cell? ⟨gb177, 1, none⟩ = some (.int .i64 0) := (blk_cell BK177.out 1).trans rfl; have hcz29_2 : w26.cell? ⟨gb177, 2, none⟩ = some (.int .i64 0) := (blk_cell BK177.out 2).trans rfl; have hcz29_3 : w26.cell? ⟨gb177, 3, none⟩ = some (.int .i64 0) := (blk_cell BK177.out 3).trans rfl; have hcz29_4 : w26.cell? ⟨gb177, 4, none⟩ = some (.bool false) := (blk_cell BK177.out 4).trans rfl; have hfz29_0 := blk_frozen BK177.out 0; have hfz29_1 := blk_frozen BK177.out 1; have hfz29_2 := blk_frozen BK177.out 2; have hfz29_3 := blk_frozen BK177.out 3; have hfz29_4 := blk_frozen BK177.out 4))
       go_loopg [52] kj12 (fun kq v52 w' => ∃ (x52_2 : Int) (x175000_2 : Int) (x175001_2 : Int) (x175002_2 : Int) (x175003_2 : Int) (x175004_2 : Bool) (x178000_2 : Int) (x178001_2 : Int) (x178002_2 : Int) (x178003_2 : Int) (x178004_2 : Bool), v52 = .int .i64 x52_2 ∧ Aside0 (mm.l0 kq a2 l1 (l1.length : Int) x52_2 x175000_2 x175001_2 x175002_2 x175003_2 x175004_2 x178000_2 x178001_2 x178002_2 x178003_2 x178004_2 = some r) ∧ Aside0 (kq ≤ kj12) ∧ Aside0 (w'.heap[gb164]? = some (.cells #[.int .i64 a0_0, .int .i64 a0_1, .int .i64 a0_2] 23 (0, 0))) ∧ Aside0 (w'.heap[gb177]? = some (.cells #[.int .i64 x178000_2, .int .i64 x178001_2, .int .i64 x178002_2, .int .i64 x178003_2, .bool x178004_2] 40 (0, 0))) ∧ Aside0 (IsS70 w w' g174 x175000_2 x175001_2 x175002_2 x175003_2 x175004_2) ∧ Aside0 (Below w.heap.size w w'))
       case atStart => exact ⟨(0), (t169), (t170), (t171), (t172), (t173), (a0_0), (a0_1), (a0_2), (0), (false), (by first | rfl | (simp; done) | (simp [*]; done)), H', ⟨Nat.le_refl _⟩, ⟨by (with_reducible repeat (first | refine blk_drewN ?_ _ | refine blk_drew ?_ | refine blk_alloc ?_ _)); refine blk_far ?_ NB164_177.out _; (with_reducible repeat (first | refine blk_drewN ?_ _ | refine blk_drew ?_ | refine blk_alloc ?_ _)); refine blk_far ?_ NB164_177.out _; (with_reducible repeat (first | refine blk_drewN ?_ _ | refine blk_drew ?_ | refine blk_alloc ?_ _)); refine blk_far ?_ NB164_177.out _; (with_reducible repeat (first | refine blk_drewN ?_ _ | refine blk_drew ?_ | refine blk_alloc ?_ _)); refine blk_far ?_ NB164_177.out _; (with_reducible repeat (first | refine blk_drewN ?_ _ | refine blk_drew ?_ | refine blk_alloc ?_ _)); refine blk_far ?_ NB164_177.out _; (with_reducible repeat (first | refine blk_drewN ?_ _ | refine blk_drew ?_ | refine blk_alloc ?_ _)); exact BK164.out⟩, ⟨by (with_reducible repeat (first | refine blk_drewN ?_ _ | refine blk_drew ?_ | refine blk_alloc ?_ _)); refine blk_put (cs := #[.int .i64 a0_0, .int .i64 a0_1, .int .i64 a0_2, .int .i64 0, .bool false]) ?_ 4 _ rfl; (with_reducible repeat (first | refine blk_drewN ?_ _ | refine blk_drew ?_ | refine blk_alloc ?_ _)); refine blk_put (cs := #[.int .i64 a0_0, .int .i64 a0_1, .int .i64 a0_2, .int .i64 0, .bool false]) ?_ 3 _ rfl; (with_reducible repeat (first | refine blk_drewN ?_ _ | refine blk_drew ?_ | refine blk_alloc ?_ _)); refine blk_put (cs := #[.int .i64 a0_0, .int .i64 a0_1, .int .i64 0, .int .i64 0, .bool false]) ?_ 2 _ rfl; (with_reducible repeat (first | refine blk_drewN ?_ _ | refine blk_drew ?_ | refine blk_alloc ?_ _)); refine blk_put (cs := #[.int .i64 a0_0, .int .i64 0, .int .i64 0, .int .i64 0, .bool false]) ?_ 1 _ rfl; (with_reducible repeat (first | refine blk_drewN ?_ _ | refine blk_drew ?_ | refine blk_alloc ?_ _)); refine blk_put (cs := #[.int .i64 0, .int .i64 0, .int .i64 0, .int .i64 0, .bool false]) ?_ 0 _ rfl; (with_reducible repeat (first | refine blk_drewN ?_ _ | refine blk_drew ?_ | refine blk_alloc ?_ _)); exact BK177.out⟩, ⟨by repeat (first | (with_reducible first | exact HI174.out | apply IsS70.alloc | apply IsS70.drewN | apply IsS70.drew | apply IsS70.set_0 | apply IsS70.set_1 | apply IsS70.set_2 | apply IsS70.set_3 | apply IsS70.set_4 | refine IsS70.far ?_ NB174_164.out _ | refine IsS70.far ?_ NB174_177.out _) | exact HI174.out)⟩, ⟨by repeat (first | (with_reducible first | exact HB.out | apply below_alloc | apply pw_below_drewN | apply below_drew1 | refine below_set ?_ (IsS70.ge HI174.out) | refine below_set ?_ GE164.out | refine below_set ?_ GE177.out) | exact HB.out)⟩⟩
       case round =>
        clear H'
        try clear c1
        try clear c2
        try clear p2
        try clear c4
        try clear c5
        try clear c6
        try clear c6b0
        try clear c6b1
        try clear c9
        try clear c10
        try clear c11
        try clear c12
        try clear c19
        try clear c22
        try clear c22b0
        try clear c22b1
        try clear c23
        try clear c24
        try clear c27
        try clear c28
        try clear hcz16_0
        try clear hcz16_1
        try clear hcz16_2
        try clear hcz20_0
        try clear hcz20_1
        try clear hcz20_2
        try clear hcz25_0
        try clear hcz25_1
        try clear hcz25_2
        try clear hcz29_0
        try clear hcz29_1
        try clear hcz29_2
        try clear hcz29_3
        try clear hcz29_4
        try clear hfz16_0
        try clear hfz16_1
        try clear hfz16_2
        try clear hfz20_0
        try clear hfz20_1
        try clear hfz20_2
        try clear hfz25_0
        try clear hfz25_1
        try clear hfz25_2
        try clear hfz29_0
        try clear hfz29_1
        try clear hfz29_2
        try clear hfz29_3
        try clear hfz29_4
        try clear p2
        obtain ⟨x52_2, x175000_2, x175001_2, x175002_2, x175003_2, x175004_2, x178000_2, x178001_2, x178002_2, x178003_2, x178004_2, rfl, HA, HK2, BK164, BK177, HI174, HB⟩ := hrel
        cases gk with
        | zero => exact absurd HA.out (by simp [mm.l0])
        | succ k2 =>
         have H := HA.out
         clear HA
         simp only [mm.l0] at H
         by_cases c30 : x52_2 < (l1.length : Int)
         ·
          rw [if_pos c30] at H
          have c30b0 : decide (x52_2 < (l1.length : Int)) = true := decide_eq_true c30
          clear c30
          by_cases c31 : 0 ≤ x52_2
          ·
           rw [if_pos c31] at H
           have c31b0 : decide (0 ≤ x52_2) = true := decide_eq_true c31
           clear c31
           by_cases c32 : x52_2 < (l1.length : Int)
           ·
            rw [if_pos c32] at H
            have c32b0 : decide (x52_2 < (l1.length : Int)) = true := decide_eq_true c32
            clear c32
            have HC33 := Aside0.mk H
            clear H
            have p178 : 0 ≤ (x52_2 : Int) := of_decide_eq_true (by first | (with_reducible assumption) | assumption)
            have q178 : x52_2 < (l1.length : Int) := of_decide_eq_true (by first | (with_reducible assumption) | assumption)
            obtain ⟨ad178, e178, hx178_0, hx178_1, hx178_2⟩ := at_T34 HR1.out x52_2 p178 q178
            cases e178
            replace hx178_0 := (HB.out.cell (World.block_lt_of_cell? w _ hx178_0)).trans hx178_0
            replace hx178_1 := (HB.out.cell (World.block_lt_of_cell? w _ hx178_1)).trans hx178_1
            replace hx178_2 := (HB.out.cell (World.block_lt_of_cell? w _ hx178_2)).trans hx178_2
            replace p178 := eq_true p178
            replace q178 := eq_true q178
            go_upto_if 57 with (first | ((with_reducible refine gate_dst (N := 11) rfl ?_); refine box_event ?hg (N := 11) ?hd (cs := #[.bool false, .int .i64 0, .int .i64 0]) (t := 34) ?hr ?_; (case hd => rfl); (case hg => rfl); (case hr => first | (go_simp; done) | (go_simp; rfl)); intro gb179 hg w34 hbox hb; have n0_ := Aside0.mk (blk_below (g := gb164) (o := .cells #[.int .i64 a0_0, .int .i64 a0_1, .int .i64 a0_2] 23 (0, 0)) (by (with_reducible repeat (first | refine blk_drewN ?_ _ | refine blk_drew ?_ | refine blk_alloc ?_ _)); exact BK164.out) hb); have n1_ := Aside0.mk (blk_below (g := gb177) (o := .cells #[.int .i64 x178000_2, .int .i64 x178001_2, .int .i64 x178002_2, .int .i64 x178003_2, .bool x178004_2] 40 (0, 0)) (by (with_reducible repeat (first | refine blk_drewN ?_ _ | refine blk_drew ?_ | refine blk_alloc ?_ _)); exact BK177.out) hb); have n2_ := Aside0.mk (IsS70.below (by repeat (first | (with_reducible first | exact HI174.out | apply IsS70.alloc | apply IsS70.drewN | apply IsS70.drew | apply IsS70.set_0 | apply IsS70.set_1 | apply IsS70.set_2 | apply IsS70.set_3 | apply IsS70.set_4 | refine IsS70.far ?_ NB174_164.out _ | refine IsS70.far ?_ NB174_177.out _) | exact HI174.out)) hb); have n3_ := Aside0.mk (below_step (by repeat (first | (with_reducible first | exact HB.out | apply below_alloc | apply pw_below_drewN | apply below_drew1 | refine below_set ?_ (IsS70.ge HI174.out) | refine below_set ?_ GE164.out | refine below_set ?_ GE177.out) | exact HB.out)) hb); have n4_ := Aside0.mk (hbox); have n5_ := Aside0.mk ((by rw [hg]; exact (below_size (by repeat (first | (with_reducible first | exact HB.out | apply below_alloc | apply pw_below_drewN | apply below_drew1 | refine below_set ?_ (IsS70.ge HI174.out) | refine below_set ?_ GE164.out | refine below_set ?_ GE177.out) | exact HB.out))) : w.heap.size ≤ gb179)); have n6_ := Aside0.mk ((by rw [hg]; exact (below_size (by repeat (first | (with_reducible first | exact HB.out | apply below_alloc | apply pw_below_drewN | apply below_drew1 | refine below_set ?_ (IsS70.ge HI174.out) | refine below_set ?_ GE164.out | refine below_set ?_ GE177.out) | exact HB.out))) : w.heap.size ≤ gb179)); have n7_ := Aside0.mk ((by rw [hg]; exact Nat.ne_of_lt (blk_lt (g := gb164) (o := .cells #[.int .i64 a0_0, .int .i64 a0_1, .int .i64 a0_2] 23 (0, 0)) (by (with_reducible repeat (first | refine blk_drewN ?_ _ | refine blk_drew ?_ | refine blk_alloc ?_ _)); exact BK164.out)) : gb164 ≠ gb179)); have n8_ := Aside0.mk ((by rw [hg]; exact Nat.ne_of_gt (blk_lt (g := gb164) (o := .cells #[.int .i64 a0_0, .int .i64 a0_1, .int .i64 a0_2] 23 (0, 0)) (by (with_reducible repeat (first | refine blk_drewN ?_ _ | refine blk_drew ?_ | refine blk_alloc ?_ _)); exact BK164.out)) : gb179 ≠ gb164)); have n9_ := Aside0.mk ((by rw [hg]; exact Nat.ne_of_lt (blk_lt (g := gb177) (o := .cells #[.int .i64 x178000_2, .int .i64 x178001_2, .int .i64 x178002_2, .int .i64 x178003_2, .bool x178004_2] 40 (0, 0)) (by (with_reducible repeat (first | refine blk_drewN ?_ _ | refine blk_drew ?_ | refine blk_alloc ?_ _)); exact BK177.out)) : gb177 ≠ gb179)); have n10_ := Aside0.mk ((by rw [hg]; exact Nat.ne_of_gt (blk_lt (g := gb177) (o := .cells #[.int .i64 x178000_2, .int .i64 x178001_2, .int .i64 x178002_2, .int .i64 x178003_2, .bool x178004_2] 40 (0, 0)) (by (with_reducible repeat (first | refine blk_drewN ?_ _ | refine blk_drew ?_ | refine blk_alloc ?_ _)); exact BK177.out)) : gb179 ≠ gb177)); have n11_ := Aside0.mk ((by rw [hg]; exact Nat.ne_of_lt (IsS70.lt (show IsS70 w _ g174 x175000_2 x175001_2 x175002_2 x175003_2 x175004_2 from by repeat (first | (with_reducible first | exact HI174.out | apply IsS70.alloc | apply IsS70.drewN | apply IsS70.drew | apply IsS70.set_0 | apply IsS70.set_1 | apply IsS70.set_2 | apply IsS70.set_3 | apply IsS70.set_4 | refine IsS70.far ?_ NB174_164.out _ | refine IsS70.far ?_ NB174_177.out _) | exact HI174.out))) : g174 ≠ gb179)); have n12_ := Aside0.mk ((by rw [hg]; exact Nat.ne_of_gt (IsS70.lt (show IsS70 w _ g174 x175000_2 x175001_2 x175002_2 x175003_2 x175004_2 from by repeat (first | (with_reducible first | exact HI174.out | apply IsS70.alloc | apply IsS70.drewN | apply IsS70.drew | apply IsS70.set_0 | apply IsS70.set_1 | apply IsS70.set_2 | apply IsS70.set_3 | apply IsS70.set_4 | refine IsS70.far ?_ NB174_164.out _ | refine IsS70.far ?_ NB174_177.out _) | exact HI174.out))) : gb179 ≠ g174)); clear BK164; clear BK177; clear HI174; clear HB; have BK164 := n0_; have BK177 := n1_; have HI174 := n2_; have HB := n3_; have BK179 := n4_; have GW179 := n5_; have GE179 := n6_; have NB164_179 := n7_; have NB179_164 := n8_; have NB177_179 := n9_; have NB179_177 := n10_; have NB174_179 := n11_; have NB179_174 := n12_; clear n0_ n1_ n2_ n3_ n4_ n5_ n6_ n7_ n8_ n9_ n10_ n11_ n12_; clear hb hbox hg; have hnb35 := NB179_164.out; have hnc35 := NB164_179.out; have hnb36 := NB179_177.out; have hnc36 := NB177_179.out; have hnb37 := NB179_174.out; have hnc37 := NB174_179.out; have hcz38_0 : w34.cell? ⟨gb179, 0, none⟩ = some (.bool false) := (blk_cell BK179.out 0).trans rfl; have hcz38_1 : w34.cell? ⟨gb179, 1, none⟩ = some (.int .i64 0) := (blk_cell BK179.out 1).trans rfl; have hcz38_2 : w34.cell? ⟨gb179, 2, none⟩ = some (.int .i64 0) := (blk_cell BK179.out 2).trans rfl; have hfz38_0 := blk_frozen BK179.out 0; have hfz38_1 := blk_frozen BK179.out 1; have hfz38_2 := blk_frozen BK179.out 2))
            (try simp only [Act.put, List.setIfInBounds_toArray, List.set_cons_zero, List.set_cons_succ])
            go_cut [] (fun wc => ∃ (kq : Nat) (x175000_32 : Int) (x175001_32 : Int) (x175002_32 : Int) (x175003_32 : Int) (x175004_32 : Bool) (x178000_32 : Int) (x178001_32 : Int) (x178002_32 : Int) (x178003_32 : Int) (x178004_32 : Bool), Aside0 (mm.j2 kq a2 l1 (l1.length : Int) x52_2 x175000_32 x175001_32 x175002_32 x175003_32 x175004_32 x178000_32 x178001_32 x178002_32 x178003_32 x178004_32 = some r) ∧ Aside0 (kq ≤ k2) ∧ Aside0 (wc.heap[gb164]? = some (.cells #[.int .i64 a0_0, .int .i64 a0_1, .int .i64 a0_2] 23 (0, 0))) ∧ Aside0 (wc.heap[gb177]? = some (.cells #[.int .i64 x178000_32, .int .i64 x178001_32, .int .i64 x178002_32, .int .i64 x178003_32, .bool x178004_32] 40 (0, 0))) ∧ Aside0 (wc.heap[gb179]? = some (.cells #[.bool ((rd_T34 l1 x52_2).f0), .int .i64 ((rd_T34 l1 x52_2).f1), .int .i64 ((rd_T34 l1 x52_2).f2)] 34 (0, 0))) ∧ Aside0 (IsS70 w wc g174 x175000_32 x175001_32 x175002_32 x175003_32 x175004_32) ∧ Aside0 (Below w.heap.size w wc))
            case first =>
             have H := HC33.out
             clear HC33
             obtain ⟨bq39, hbq39⟩ : ∃ b_ : Bool, b_ = ((rd_T34 l1 x52_2).f0) := ⟨_, rfl⟩
             replace H : (if bq39 = true then ((capacitor_Capacitor_Draw.f x175000_2 x175001_2 x175002_2 x175003_2 x175004_2 ((rd_T34 l1 x52_2).f1)).bind fun bt180 => ((trickleref08_Draw.f x178000_2 x178001_2 x178002_2 x178003_2 x178004_2 ((rd_T34 l1 x52_2).f1)).bind fun bt186 => (if (bt180.1 != bt186.2.2.2.2.2) = true then (some false) else (mm.j2 k2 a2 l1 (l1.length : Int) x52_2 bt180.2.1 bt180.2.2.1 bt180.2.2.2.1 bt180.2.2.2.2.1 bt180.2.2.2.2.2 bt186.1 bt186.2.1 bt186.2.2.1 bt186.2.2.2.1 bt186.2.2.2.2.1)))) else ((capacitor_Capacitor_Harvest.f x175000_2 x175001_2 x175002_2 x175003_2 x175004_2 ((rd_T34 l1 x52_2).f1) ((rd_T34 l1 x52_2).f2)).bind fun bt193 => ((trickleref08_Harvest.f x178000_2 x178001_2 x178002_2 x178003_2 x178004_2 ((rd_T34 l1 x52_2).f1) ((rd_T34 l1 x52_2).f2)).bind fun bt199 => (if bt193.1 = bt199.2.2.2.2.2 then (mm.j2 k2 a2 l1 (l1.length : Int) x52_2 bt193.2.1 bt193.2.2.1 bt193.2.2.2.1 bt193.2.2.2.2.1 bt193.2.2.2.2.2 bt199.1 bt199.2.1 bt199.2.2.1 bt199.2.2.2.1 bt199.2.2.2.2.1) else (some false))))) = some r := by rw [← hbq39] at H; exact H
             have Nbq39 := Aside0.mk hbq39
             clear hbq39
             (try rw [← Nbq39.out])
             by_cases c40 : bq39 = true
             ·
              subst c40
              have H1 : ((capacitor_Capacitor_Draw.f x175000_2 x175001_2 x175002_2 x175003_2 x175004_2 ((rd_T34 l1 x52_2).f1)).bind fun bt180 => ((trickleref08_Draw.f x178000_2 x178001_2 x178002_2 x178003_2 x178004_2 ((rd_T34 l1 x52_2).f1)).bind fun bt186 => (if (bt180.1 != bt186.2.2.2.2.2) = true then (some false) else (mm.j2 k2 a2 l1 (l1.length : Int) x52_2 bt180.2.1 bt180.2.2.1 bt180.2.2.2.1 bt180.2.2.2.2.1 bt180.2.2.2.2.2 bt186.1 bt186.2.1 bt186.2.2.1 bt186.2.2.2.1 bt186.2.2.2.2.1)))) = some r := by rw [if_pos rfl] at H; exact H
              clear H
              have H := H1
              clear H1
              replace H := Option.bind_eq_some_iff.mp H
              obtain ⟨⟨t180, t181, t182, t183, t184, t185⟩, A410, H⟩ := H
              replace H : ((trickleref08_Draw.f x178000_2 x178001_2 x178002_2 x178003_2 x178004_2 ((rd_T34 l1 x52_2).f1)).bind fun bt186 => (if (t180 != bt186.2.2.2.2.2) = true then (some false) else (mm.j2 k2 a2 l1 (l1.length : Int) x52_2 t181 t182 t183 t184 t185 bt186.1 bt186.2.1 bt186.2.2.1 bt186.2.2.2.1 bt186.2.2.2.2.1))) = some r := H
              have A41 := Aside0.mk A410
              clear A410
              replace H := Option.bind_eq_some_iff.mp H
              obtain ⟨⟨t186, t187, t188, t189, t190, t191⟩, A420, H⟩ := H
              replace H : (if (t180 != t191) = true then (some false) else (mm.j2 k2 a2 l1 (l1.length : Int) x52_2 t181 t182 t183 t184 t185 t186 t187 t188 t189 t190)) = some r := H
              have A42 := Aside0.mk A420
              clear A420
              by_cases c43 : (t180 != t191) = true
              ·
               rw [if_pos c43] at H
               have c43b0 : (t180 != t191) = true := c43
               (try (have c43b1 : decide (t180 = t191) = false := by simpa using c43))
               (try (have c43b2 : (t180 == t191) = false := by simpa using c43))
               (try (have c43b3 : ¬ (t180 = t191) := by simpa using c43))
               clear c43
               obtain rfl := Option.some.inj H
               have hnb44 := NB179_164.out
               have hnc44 := NB164_179.out
               have hnb45 := NB179_177.out
               have hnc45 := NB177_179.out
               have hnb46 := NB179_174.out
               have hnc46 := NB174_179.out
               have hcz47_0 : w34.cell? ⟨gb179, 0, none⟩ = some (.bool false) := (blk_cell BK179.out 0).trans (by first | rfl | (rw [← Nbq39.out]; rfl))
               have hcz47_1 : w34.cell? ⟨gb179, 1, none⟩ = some (.int .i64 0) := (blk_cell BK179.out 1).trans rfl
               have hcz47_2 : w34.cell? ⟨gb179, 2, none⟩ = some (.int .i64 0) := (blk_cell BK179.out 2).trans rfl
               have hfz47_0 := blk_frozen BK179.out 0
               have hfz47_1 := blk_frozen BK179.out 1
               have hfz47_2 := blk_frozen BK179.out 2
               go_wp2_with (first | ((with_reducible refine gate_callee (f := 14) rfl ?_); refine goesL_ (some 61) rfl rfl Try.func14 (by kernel_rfl) rfl #[.pointer (some ⟨g174, 0, none⟩), .int .i64 ((rd_T34 l1 x52_2).f1)] rfl (by (try simp only [List.map_toArray, List.map_cons, List.map_nil]); first | done | rfl | (simp only [List.length_drop, List.length_take]; rfl)) ?_; (with_reducible refine (capacitor_Capacitor_Draw.calls g174 x175000_2 x175001_2 x175002_2 x175003_2 x175004_2 ((rd_T34 l1 x52_2).f1) t180 t181 t182 t183 t184 t185 w _ ?side1 ?side2 A41.out).mono ?_); (case side1 => repeat (first | (with_reducible first | exact HI174.out | apply IsS70.alloc | apply IsS70.drewN | apply IsS70.drew | apply IsS70.set_0 | apply IsS70.set_1 | apply IsS70.set_2 | apply IsS70.set_3 | apply IsS70.set_4 | refine IsS70.far ?_ NB174_164.out _ | refine IsS70.far ?_ NB174_177.out _ | refine IsS70.far ?_ NB174_179.out _) | exact HI174.out)); (case side2 => repeat (first | (with_reducible first | exact HB.out | apply below_alloc | apply pw_below_drewN | apply below_drew1 | refine below_set ?_ (IsS70.ge HI174.out) | refine below_set ?_ GE164.out | refine below_set ?_ GE177.out | refine below_set ?_ GE179.out) | exact HB.out)); rintro e w48 ⟨rfl, hi, hb, hk⟩; refine ⟨_, rfl, ?_⟩; have n0_ := Aside0.mk (KeepBut.blk hk (g' := gb164) (o := .cells #[.int .i64 a0_0, .int .i64 a0_1, .int .i64 a0_2] 23 (0, 0)) (by (with_reducible repeat (first | refine blk_drewN ?_ _ | refine blk_drew ?_ | refine blk_alloc ?_ _)); refine blk_far ?_ NB164_179.out _; (with_reducible repeat (first | refine blk_drewN ?_ _ | refine blk_drew ?_ | refine blk_alloc ?_ _)); refine blk_far ?_ NB164_179.out _; (with_reducible repeat (first | refine blk_drewN ?_ _ | refine blk_drew ?_ | refine blk_alloc ?_ _)); refine blk_far ?_ NB164_179.out _; (with_reducible repeat (first | refine blk_drewN ?_ _ | refine blk_drew ?_ | refine blk_alloc ?_ _)); (first | exact BK164.out | (rw [Nbq39.out]; exact BK164.out) | (rw [← Nbq39.out]; exact BK164.out))) NB164_174.out (by simp)); have n1_ := Aside0.mk (KeepBut.blk hk (g' := gb177) (o := .cells #[.int .i64 x178000_2, .int .i64 x178001_2, .int .i64 x178002_2, .int .i64 x178003_2, .bool x178004_2] 40 (0, 0)) (by (with_reducible repeat (first | refine blk_drewN ?_ _ | refine blk_drew ?_ | refine blk_alloc ?_ _)); refine blk_far ?_ NB177_179.out _; (with_reducible repeat (first | refine blk_drewN ?_ _ | refine blk_drew ?_ | refine blk_alloc ?_ _)); refine blk_far ?_ NB177_179.out _; (with_reducible repeat (first | refine blk_drewN ?_ _ | refine blk_drew ?_ | refine blk_alloc ?_ _)); refine blk_far ?_ NB177_179.out _; (with_reducible repeat (first | refine blk_drewN ?_ _ | refine blk_drew ?_ | refine blk_alloc ?_ _)); (first | exact BK177.out | (rw [Nbq39.out]; exact BK177.out) | (rw [← Nbq39.out]; exact BK177.out))) NB177_174.out (by simp)); have n2_ := Aside0.mk (KeepBut.blk hk (g' := gb179) (o := .cells #[.bool true, .int .i64 ((rd_T34 l1 x52_2).f1), .int .i64 ((rd_T34 l1 x52_2).f2)] 34 (0, 0)) (by (with_reducible repeat (first | refine blk_drewN ?_ _ | refine blk_drew ?_ | refine blk_alloc ?_ _)); refine blk_put (cs := #[.bool (true), .int .i64 ((rd_T34 l1 x52_2).f1), .int .i64 0]) ?_ 2 _ rfl; (with_reducible repeat (first | refine blk_drewN ?_ _ | refine blk_drew ?_ | refine blk_alloc ?_ _)); refine blk_put (cs := #[.bool (true), .int .i64 0, .int .i64 0]) ?_ 1 _ rfl; (with_reducible repeat (first | refine blk_drewN ?_ _ | refine blk_drew ?_ | refine blk_alloc ?_ _)); refine blk_put (cs := #[.bool false, .int .i64 0, .int .i64 0]) ?_ 0 _ rfl; (with_reducible repeat (first | refine blk_drewN ?_ _ | refine blk_drew ?_ | refine blk_alloc ?_ _)); (first | exact BK179.out | (rw [Nbq39.out]; exact BK179.out) | (rw [← Nbq39.out]; exact BK179.out))) NB179_174.out (by simp)); have n3_ := Aside0.mk (hb); have n4_ := Aside0.mk (hi); clear BK164; clear BK177; clear BK179; clear HB; clear HI174; have BK164 := n0_; have BK177 := n1_; have BK179 := n2_; have HB := n3_; have HI174 := n4_; clear n0_ n1_ n2_ n3_ n4_; (try clear hb); (try clear hb2); (try clear hk); (try clear hi); have hnb49 := NB177_164.out; have hnc49 := NB164_177.out; have hnb50 := NB177_174.out; have hnc50 := NB174_177.out; have hcz51_0 : w48.cell? ⟨gb177, 0, none⟩ = some (.int .i64 x178000_2) := (blk_cell BK177.out 0).trans rfl; have hcz51_1 : w48.cell? ⟨gb177, 1, none⟩ = some (.int .i64 x178001_2) := (blk_cell BK177.out 1).trans rfl; have hcz51_2 : w48.cell? ⟨gb177, 2, none⟩ = some (.int .i64 x178002_2) := (blk_cell BK177.out 2).trans rfl; have hcz51_3 : w48.cell? ⟨gb177, 3, none⟩ = some (.int .i64 x178003_2) := (blk_cell BK177.out 3).trans rfl; have hcz51_4 : w48.cell? ⟨gb177, 4, none⟩ = some (.bool x178004_2) := (blk_cell BK177.out 4).trans rfl; have hfz51_0 := blk_frozen BK177.out 0; have hfz51_1 := blk_frozen BK177.out 1; have hfz51_2 := blk_frozen BK177.out 2; have hfz51_3 := blk_frozen BK177.out 3; have hfz51_4 := blk_frozen BK177.out 4; have hcz52_0 : w48.cell? ⟨gb179, 0, none⟩ = some (.bool true) := (blk_cell BK179.out 0).trans rfl; have hcz52_1 : w48.cell? ⟨gb179, 1, none⟩ = some (.int .i64 ((rd_T34 l1 x52_2).f1)) := (blk_cell BK179.out 1).trans rfl; have hcz52_2 : w48.cell? ⟨gb179, 2, none⟩ = some (.int .i64 ((rd_T34 l1 x52_2).f2)) := (blk_cell BK179.out 2).trans rfl; have hfz52_0 := blk_frozen BK179.out 0; have hfz52_1 := blk_frozen BK179.out 1; have hfz52_2 := blk_frozen BK179.out 2) | ((with_reducible refine gate_callee (f := 17) rfl ?_); refine goesL_ (some 66) rfl rfl Try.func17 (by kernel_rfl) rfl #[.agg #[.int .i64 x178000_2, .int .i64 x178001_2, .int .i64 x178002_2, .int .i64 x178003_2, .bool x178004_2], .int .i64 ((rd_T34 l1 x52_2).f1)] rfl (by (try simp only [List.map_toArray, List.map_cons, List.map_nil]); first | done | rfl | (simp only [List.length_drop, List.length_take]; rfl)) ?_; (with_reducible refine (trickleref08_Draw.calls x178000_2 x178001_2 x178002_2 x178003_2 x178004_2 ((rd_T34 l1 x52_2).f1) t186 t187 t188 t189 t190 t191 _ A42.out).mono ?_); rintro e w53 ⟨rfl, hb⟩; refine ⟨_, rfl, ?_⟩; have n0_ := Aside0.mk (blk_below (g := gb164) (o := .cells #[.int .i64 a0_0, .int .i64 a0_1, .int .i64 a0_2] 23 (0, 0)) (by (with_reducible repeat (first | refine blk_drewN ?_ _ | refine blk_drew ?_ | refine blk_alloc ?_ _)); (first | exact BK164.out | (rw [Nbq39.out]; exact BK164.out) | (rw [← Nbq39.out]; exact BK164.out))) hb); have n1_ := Aside0.mk (blk_below (g := gb177) (o := .cells #[.int .i64 x178000_2, .int .i64 x178001_2, .int .i64 x178002_2, .int .i64 x178003_2, .bool x178004_2] 40 (0, 0)) (by (with_reducible repeat (first | refine blk_drewN ?_ _ | refine blk_drew ?_ | refine blk_alloc ?_ _)); (first | exact BK177.out | (rw [Nbq39.out]; exact BK177.out) | (rw [← Nbq39.out]; exact BK177.out))) hb); have n2_ := Aside0.mk (IsS70.below (by repeat (first | (with_reducible first | exact HI174.out | apply IsS70.alloc | apply IsS70.drewN | apply IsS70.drew | apply IsS70.set_0 | apply IsS70.set_1 | apply IsS70.set_2 | apply IsS70.set_3 | apply IsS70.set_4 | refine IsS70.far ?_ NB174_164.out _ | refine IsS70.far ?_ NB174_177.out _ | refine IsS70.far ?_ NB174_179.out _) | exact HI174.out)) hb); have n3_ := Aside0.mk (blk_below (g := gb179) (o := .cells #[.bool true, .int .i64 ((rd_T34 l1 x52_2).f1), .int .i64 ((rd_T34 l1 x52_2).f2)] 34 (0, 0)) (by (with_reducible repeat (first | refine blk_drewN ?_ _ | refine blk_drew ?_ | refine blk_alloc ?_ _)); (first | exact BK179.out | (rw [Nbq39.out]; exact BK179.out) | (rw [← Nbq39.out]; exact BK179.out))) hb); have n4_ := Aside0.mk (below_step (by repeat (first | (with_reducible first | exact HB.out | apply below_alloc | apply pw_below_drewN | apply below_drew1 | refine below_set ?_ (IsS70.ge HI174.out) | refine below_set ?_ GE164.out | refine below_set ?_ GE177.out | refine below_set ?_ GE179.out) | exact HB.out)) hb); clear BK164; clear BK177; clear HI174; clear BK179; clear HB; have BK164 := n0_; have BK177 := n1_; have HI174 := n2_; have BK179 := n3_; have HB := n4_; clear n0_ n1_ n2_ n3_ n4_; (try clear hb); (try clear hb2); (try clear hk); (try clear hi)) | ((with_reducible refine gate_dst (N := 13) rfl ?_); refine box_event ?hg (N := 13) ?hd (cs := #[.int .i64 0, .int .i64 0, .int .i64 0, .int .i64 0, .bool false]) (t := 40) ?hr ?_; (case hd => rfl); (case hg => rfl); (case hr => first | (go_simp; done) | (go_simp; rfl)); intro gb192 hg w54 hbox hb; have n0_ := Aside0.mk (blk_below (g := gb164) (o := .cells #[.int .i64 a0_0, .int .i64 a0_1, .int .i64 a0_2] 23 (0, 0)) (by (with_reducible repeat (first | refine blk_drewN ?_ _ | refine blk_drew ?_ | refine blk_alloc ?_ _)); (first | exact BK164.out | (rw [Nbq39.out]; exact BK164.out) | (rw [← Nbq39.out]; exact BK164.out))) hb); have n1_ := Aside0.mk (blk_below (g := gb177) (o := .cells #[.int .i64 x178000_2, .int .i64 x178001_2, .int .i64 x178002_2, .int .i64 x178003_2, .bool x178004_2] 40 (0, 0)) (by (with_reducible repeat (first | refine blk_drewN ?_ _ | refine blk_drew ?_ | refine blk_alloc ?_ _)); (first | exact BK177.out | (rw [Nbq39.out]; exact BK177.out) | (rw [← Nbq39.out]; exact BK177.out))) hb); have n2_ := Aside0.mk (IsS70.below (by repeat (first | (with_reducible first | exact HI174.out | apply IsS70.alloc | apply IsS70.drewN | apply IsS70.drew | apply IsS70.set_0 | apply IsS70.set_1 | apply IsS70.set_2 | apply IsS70.set_3 | apply IsS70.set_4 | refine IsS70.far ?_ NB174_164.out _ | refine IsS70.far ?_ NB174_177.out _ | refine IsS70.far ?_ NB174_179.out _) | exact HI174.out)) hb); have n3_ := Aside0.mk (blk_below (g := gb179) (o := .cells #[.bool true, .int .i64 ((rd_T34 l1 x52_2).f1), .int .i64 ((rd_T34 l1 x52_2).f2)] 34 (0, 0)) (by (with_reducible repeat (first | refine blk_drewN ?_ _ | refine blk_drew ?_ | refine blk_alloc ?_ _)); (first | exact BK179.out | (rw [Nbq39.out]; exact BK179.out) | (rw [← Nbq39.out]; exact BK179.out))) hb); have n4_ := Aside0.mk (below_step (by repeat (first | (with_reducible first | exact HB.out | apply below_alloc | apply pw_below_drewN | apply below_drew1 | refine below_set ?_ (IsS70.ge HI174.out) | refine below_set ?_ GE164.out | refine below_set ?_ GE177.out | refine below_set ?_ GE179.out) | exact HB.out)) hb); have n5_ := Aside0.mk (hbox); have n6_ := Aside0.mk ((by rw [hg]; exact (below_size (by repeat (first | (with_reducible first | exact HB.out | apply below_alloc | apply pw_below_drewN | apply below_drew1 | refine below_set ?_ (IsS70.ge HI174.out) | refine below_set ?_ GE164.out | refine below_set ?_ GE177.out | refine below_set ?_ GE179.out) | exact HB.out))) : w.heap.size ≤ gb192)); have n7_ := Aside0.mk ((by rw [hg]; exact (below_size (by repeat (first | (with_reducible first | exact HB.out | apply below_alloc | apply pw_below_drewN | apply below_drew1 | refine below_set ?_ (IsS70.ge HI174.out) | refine below_set ?_ GE164.out | refine below_set ?_ GE177.out | refine below_set ?_ GE179.out) | exact HB.out))) : w.heap.size ≤ gb192)); have n8_ := Aside0.mk ((by rw [hg]; exact Nat.ne_of_lt (blk_lt (g := gb164) (o := .cells #[.int .i64 a0_0, .int .i64 a0_1, .int .i64 a0_2] 23 (0, 0)) (by (with_reducible repeat (first | refine blk_drewN ?_ _ | refine blk_drew ?_ | refine blk_alloc ?_ _)); (first | exact BK164.out | (rw [Nbq39.out]; exact BK164.out) | (rw [← Nbq39.out]; exact BK164.out)))) : gb164 ≠ gb192)); have n9_ := Aside0.mk ((by rw [hg]; exact Nat.ne_of_gt (blk_lt (g := gb164) (o := .cells #[.int .i64 a0_0, .int .i64 a0_1, .int .i64 a0_2] 23 (0, 0)) (by (with_reducible repeat (first | refine blk_drewN ?_ _ | refine blk_drew ?_ | refine blk_alloc ?_ _)); (first | exact BK164.out | (rw [Nbq39.out]; exact BK164.out) | (rw [← Nbq39.out]; exact BK164.out)))) : gb192 ≠ gb164)); have n10_ := Aside0.mk ((by rw [hg]; exact Nat.ne_of_lt (blk_lt (g := gb177) (o := .cells #[.int .i64 x178000_2, .int .i64 x178001_2, .int .i64 x178002_2, .int .i64 x178003_2, .bool x178004_2] 40 (0, 0)) (by (with_reducible repeat (first | refine blk_drewN ?_ _ | refine blk_drew ?_ | refine blk_alloc ?_ _)); (first | exact BK177.out | (rw [Nbq39.out]; exact BK177.out) | (rw [← Nbq39.out]; exact BK177.out)))) : gb177 ≠ gb192)); have n11_ := Aside0.mk ((by rw [hg]; exact Nat.ne_of_gt (blk_lt (g := gb177) (o := .cells #[.int .i64 x178000_2, .int .i64 x178001_2, .int .i64 x178002_2, .int .i64 x178003_2, .bool x178004_2] 40 (0, 0)) (by (with_reducible repeat (first | refine blk_drewN ?_ _ | refine blk_drew ?_ | refine blk_alloc ?_ _)); (first | exact BK177.out | (rw [Nbq39.out]; exact BK177.out) | (rw [← Nbq39.out]; exact BK177.out)))) : gb192 ≠ gb177)); have n12_ := Aside0.mk ((by rw [hg]; exact Nat.ne_of_lt (blk_lt (g := gb179) (o := .cells #[.bool true, .int .i64 ((rd_T34 l1 x52_2).f1), .int .i64 ((rd_T34 l1 x52_2).f2)] 34 (0, 0)) (by (with_reducible repeat (first | refine blk_drewN ?_ _ | refine blk_drew ?_ | refine blk_alloc ?_ _)); (first | exact BK179.out | (rw [Nbq39.out]; exact BK179.out) | (rw [← Nbq39.out]; exact BK179.out)))) : gb179 ≠ gb192)); have n13_ := Aside0.mk ((by rw [hg]; exact Nat.ne_of_gt (blk_lt (g := gb179) (o := .cells #[.bool true, .int .i64 ((rd_T34 l1 x52_2).f1), .int .i64 ((rd_T34 l1 x52_2).f2)] 34 (0, 0)) (by (with_reducible repeat (first | refine blk_drewN ?_ _ | refine blk_drew ?_ | refine blk_alloc ?_ _)); (first | exact BK179.out | (rw [Nbq39.out]; exact BK179.out) | (rw [← Nbq39.out]; exact BK179.out)))) : gb192 ≠ gb179)); have n14_ := Aside0.mk ((by rw [hg]; exact Nat.ne_of_lt (IsS70.lt (show IsS70 w _ g174 t181 t182 t183 t184 t185 from by repeat (first | (with_reducible first | exact HI174.out | apply IsS70.alloc | apply IsS70.drewN | apply IsS70.drew | apply IsS70.set_0 | apply IsS70.set_1 | apply IsS70.set_2 | apply IsS70.set_3 | apply IsS70.set_4 | refine IsS70.far ?_ NB174_164.out _ | refine IsS70.far ?_ NB174_177.out _ | refine IsS70.far ?_ NB174_179.out _) | exact HI174.out))) : g174 ≠ gb192)); have n15_ := Aside0.mk ((by rw [hg]; exact Nat.ne_of_gt (IsS70.lt (show IsS70 w _ g174 t181 t182 t183 t184 t185 from by repeat (first | (with_reducible first | exact HI174.out | apply IsS70.alloc | apply IsS70.drewN | apply IsS70.drew | apply IsS70.set_0 | apply IsS70.set_1 | apply IsS70.set_2 | apply IsS70.set_3 | apply IsS70.set_4 | refine IsS70.far ?_ NB174_164.out _ | refine IsS70.far ?_ NB174_177.out _ | refine IsS70.far ?_ NB174_179.out _) | exact HI174.out))) : gb192 ≠ g174)); clear BK164; clear BK177; clear HI174; clear BK179; clear HB; have BK164 := n0_; have BK177 := n1_; have HI174 := n2_; have BK179 := n3_; have HB := n4_; have BK192 := n5_; have GW192 := n6_; have GE192 := n7_; have NB164_192 := n8_; have NB192_164 := n9_; have NB177_192 := n10_; have NB192_177 := n11_; have NB179_192 := n12_; have NB192_179 := n13_; have NB174_192 := n14_; have NB192_174 := n15_; clear n0_ n1_ n2_ n3_ n4_ n5_ n6_ n7_ n8_ n9_ n10_ n11_ n12_ n13_ n14_ n15_; clear hb hbox hg; have hnb55 := NB192_164.out; have hnc55 := NB164_192.out; have hnb56 := NB192_177.out; have hnc56 := NB177_192.out; have hnb57 := NB192_179.out; have hnc57 := NB179_192.out; have hnb58 := NB192_174.out; have hnc58 := NB174_192.out; have hcz59_0 : w54.cell? ⟨gb192, 0, none⟩ = some (.int .i64 0) := (blk_cell BK192.out 0).trans rfl; have hcz59_1 : w54.cell? ⟨gb192, 1, none⟩ = some (.int .i64 0) := (blk_cell BK192.out 1).trans rfl; have hcz59_2 : w54.cell? ⟨gb192, 2, none⟩ = some (.int .i64 0) := (blk_cell BK192.out 2).trans rfl; have hcz59_3 : w54.cell? ⟨gb192, 3, none⟩ = some (.int .i64 0) := (blk_cell BK192.out 3).trans rfl; have hcz59_4 : w54.cell? ⟨gb192, 4, none⟩ = some (.bool false) := (blk_cell BK192.out 4).trans rfl; have hfz59_0 := blk_frozen BK192.out 0; have hfz59_1 := blk_frozen BK192.out 1; have hfz59_2 := blk_frozen BK192.out 2; have hfz59_3 := blk_frozen BK192.out 3; have hfz59_4 := blk_frozen BK192.out 4; have hcz60_0 : w54.cell? ⟨gb177, 0, none⟩ = some (.int .i64 x178000_2) := (blk_cell BK177.out 0).trans rfl; have hcz60_1 : w54.cell? ⟨gb177, 1, none⟩ = some (.int .i64 x178001_2) := (blk_cell BK177.out 1).trans rfl; have hcz60_2 : w54.cell? ⟨gb177, 2, none⟩ = some (.int .i64 x178002_2) := (blk_cell BK177.out 2).trans rfl; have hcz60_3 : w54.cell? ⟨gb177, 3, none⟩ = some (.int .i64 x178003_2) := (blk_cell BK177.out 3).trans rfl; have hcz60_4 : w54.cell? ⟨gb177, 4, none⟩ = some (.bool x178004_2) := (blk_cell BK177.out 4).trans rfl; have hfz60_0 := blk_frozen BK177.out 0; have hfz60_1 := blk_frozen BK177.out 1; have hfz60_2 := blk_frozen BK177.out 2; have hfz60_3 := blk_frozen BK177.out 3; have hfz60_4 := blk_frozen BK177.out 4))
               go_ret
               exact ⟨by first | rfl | (simp [errW_none, errW_some] <;> rfl) | (simp [*, errW_none, errW_some] <;> rfl), by repeat (first | (with_reducible first | exact HB.out | apply below_alloc | apply pw_below_drewN | apply below_drew1 | refine below_set ?_ (IsS70.ge HI174.out) | refine below_set ?_ GE164.out | refine below_set ?_ GE177.out | refine below_set ?_ GE179.out | refine below_set ?_ GE192.out) | exact HB.out)⟩
              ·
               rw [if_neg c43] at H
               have c43b0 : (t180 != t191) = false := by simpa using c43
               (try (have c43b1 : decide (t180 = t191) = true := by simpa using c43))
               (try (have c43b2 : (t180 == t191) = true := by simpa using c43))
               clear c43
               have H' := Aside0.mk H
               clear H
               have hnb61 := NB179_164.out
               have hnc61 := NB164_179.out
               have hnb62 := NB179_177.out
               have hnc62 := NB177_179.out
               have hnb63 := NB179_174.out
               have hnc63 := NB174_179.out
               have hcz64_0 : w34.cell? ⟨gb179, 0, none⟩ = some (.bool false) := (blk_cell BK179.out 0).trans (by first | rfl | (rw [← Nbq39.out]; rfl))
               have hcz64_1 : w34.cell? ⟨gb179, 1, none⟩ = some (.int .i64 0) := (blk_cell BK179.out 1).trans rfl
               have hcz64_2 : w34.cell? ⟨gb179, 2, none⟩ = some (.int .i64 0) := (blk_cell BK179.out 2).trans rfl
               have hfz64_0 := blk_frozen BK179.out 0
               have hfz64_1 := blk_frozen BK179.out 1
               have hfz64_2 := blk_frozen BK179.out 2
               go_wp2_with (first | ((with_reducible refine gate_callee (f := 14) rfl ?_); refine goesL_ (some 61) rfl rfl Try.func14 (by kernel_rfl) rfl #[.pointer (some ⟨g174, 0, none⟩), .int .i64 ((rd_T34 l1 x52_2).f1)] rfl (by (try simp only [List.map_toArray, List.map_cons, List.map_nil]); first | done | rfl | (simp only [List.length_drop, List.length_take]; rfl)) ?_; (with_reducible refine (capacitor_Capacitor_Draw.calls g174 x175000_2 x175001_2 x175002_2 x175003_2 x175004_2 ((rd_T34 l1 x52_2).f1) t180 t181 t182 t183 t184 t185 w _ ?side1 ?side2 A41.out).mono ?_); (case side1 => repeat (first | (with_reducible first | exact HI174.out | apply IsS70.alloc | apply IsS70.drewN | apply IsS70.drew | apply IsS70.set_0 | apply IsS70.set_1 | apply IsS70.set_2 | apply IsS70.set_3 | apply IsS70.set_4 | refine IsS70.far ?_ NB174_164.out _ | refine IsS70.far ?_ NB174_177.out _ | refine IsS70.far ?_ NB174_179.out _) | exact HI174.out)); (case side2 => repeat (first | (with_reducible first | exact HB.out | apply below_alloc | apply pw_below_drewN | apply below_drew1 | refine below_set ?_ (IsS70.ge HI174.out) | refine below_set ?_ GE164.out | refine below_set ?_ GE177.out | refine below_set ?_ GE179.out) | exact HB.out)); rintro e w65 ⟨rfl, hi, hb, hk⟩; refine ⟨_, rfl, ?_⟩; have n0_ := Aside0.mk (KeepBut.blk hk (g' := gb164) (o := .cells #[.int .i64 a0_0, .int .i64 a0_1, .int .i64 a0_2] 23 (0, 0)) (by (with_reducible repeat (first | refine blk_drewN ?_ _ | refine blk_drew ?_ | refine blk_alloc ?_ _)); refine blk_far ?_ NB164_179.out _; (with_reducible repeat (first | refine blk_drewN ?_ _ | refine blk_drew ?_ | refine blk_alloc ?_ _)); refine blk_far ?_ NB164_179.out _; (with_reducible repeat (first | refine blk_drewN ?_ _ | refine blk_drew ?_ | refine blk_alloc ?_ _)); refine blk_far ?_ NB164_179.out _; (with_reducible repeat (first | refine blk_drewN ?_ _ | refine blk_drew ?_ | refine blk_alloc ?_ _)); (first | exact BK164.out | (rw [Nbq39.out]; exact BK164.out) | (rw [← Nbq39.out]; exact BK164.out))) NB164_174.out (by simp)); have n1_ := Aside0.mk (KeepBut.blk hk (g' := gb177) (o := .cells #[.int .i64 x178000_2, .int .i64 x178001_2, .int .i64 x178002_2, .int .i64 x178003_2, .bool x178004_2] 40 (0, 0)) (by (with_reducible repeat (first | refine blk_drewN ?_ _ | refine blk_drew ?_ | refine blk_alloc ?_ _)); refine blk_far ?_ NB177_179.out _; (with_reducible repeat (first | refine blk_drewN ?_ _ | refine blk_drew ?_ | refine blk_alloc ?_ _)); refine blk_far ?_ NB177_179.out _; (with_reducible repeat (first | refine blk_drewN ?_ _ | refine blk_drew ?_ | refine blk_alloc ?_ _)); refine blk_far ?_ NB177_179.out _; (with_reducible repeat (first | refine blk_drewN ?_ _ | refine blk_drew ?_ | refine blk_alloc ?_ _)); (first | exact BK177.out | (rw [Nbq39.out]; exact BK177.out) | (rw [← Nbq39.out]; exact BK177.out))) NB177_174.out (by simp)); have n2_ := Aside0.mk (KeepBut.blk hk (g' := gb179) (o := .cells #[.bool true, .int .i64 ((rd_T34 l1 x52_2).f1), .int .i64 ((rd_T34 l1 x52_2).f2)] 34 (0, 0)) (by (with_reducible repeat (first | refine blk_drewN ?_ _ | refine blk_drew ?_ | refine blk_alloc ?_ _)); refine blk_put (cs := #[.bool (true), .int .i64 ((rd_T34 l1 x52_2).f1), .int .i64 0]) ?_ 2 _ rfl; (with_reducible repeat (first | refine blk_drewN ?_ _ | refine blk_drew ?_ | refine blk_alloc ?_ _)); refine blk_put (cs := #[.bool (true), .int .i64 0, .int .i64 0]) ?_ 1 _ rfl; (with_reducible repeat (first | refine blk_drewN ?_ _ | refine blk_drew ?_ | refine blk_alloc ?_ _)); refine blk_put (cs := #[.bool false, .int .i64 0, .int .i64 0]) ?_ 0 _ rfl; (with_reducible repeat (first | refine blk_drewN ?_ _ | refine blk_drew ?_ | refine blk_alloc ?_ _)); (first | exact BK179.out | (rw [Nbq39.out]; exact BK179.out) | (rw [← Nbq39.out]; exact BK179.out))) NB179_174.out (by simp)); have n3_ := Aside0.mk (hb); have n4_ := Aside0.mk (hi); clear BK164; clear BK177; clear BK179; clear HB; clear HI174; have BK164 := n0_; have BK177 := n1_; have BK179 := n2_; have HB := n3_; have HI174 := n4_; clear n0_ n1_ n2_ n3_ n4_; (try clear hb); (try clear hb2); (try clear hk); (try clear hi); have hnb66 := NB177_164.out; have hnc66 := NB164_177.out; have hnb67 := NB177_174.out; have hnc67 := NB174_177.out; have hcz68_0 : w65.cell? ⟨gb177, 0, none⟩ = some (.int .i64 x178000_2) := (blk_cell BK177.out 0).trans rfl; have hcz68_1 : w65.cell? ⟨gb177, 1, none⟩ = some (.int .i64 x178001_2) := (blk_cell BK177.out 1).trans rfl; have hcz68_2 : w65.cell? ⟨gb177, 2, none⟩ = some (.int .i64 x178002_2) := (blk_cell BK177.out 2).trans rfl; have hcz68_3 : w65.cell? ⟨gb177, 3, none⟩ = some (.int .i64 x178003_2) := (blk_cell BK177.out 3).trans rfl; have hcz68_4 : w65.cell? ⟨gb177, 4, none⟩ = some (.bool x178004_2) := (blk_cell BK177.out 4).trans rfl; have hfz68_0 := blk_frozen BK177.out 0; have hfz68_1 := blk_frozen BK177.out 1; have hfz68_2 := blk_frozen BK177.out 2; have hfz68_3 := blk_frozen BK177.out 3; have hfz68_4 := blk_frozen BK177.out 4; have hcz69_0 : w65.cell? ⟨gb179, 0, none⟩ = some (.bool true) := (blk_cell BK179.out 0).trans rfl; have hcz69_1 : w65.cell? ⟨gb179, 1, none⟩ = some (.int .i64 ((rd_T34 l1 x52_2).f1)) := (blk_cell BK179.out 1).trans rfl; have hcz69_2 : w65.cell? ⟨gb179, 2, none⟩ = some (.int .i64 ((rd_T34 l1 x52_2).f2)) := (blk_cell BK179.out 2).trans rfl; have hfz69_0 := blk_frozen BK179.out 0; have hfz69_1 := blk_frozen BK179.out 1; have hfz69_2 := blk_frozen BK179.out 2) | ((with_reducible refine gate_callee (f := 17) rfl ?_); refine goesL_ (some 66) rfl rfl Try.func17 (by kernel_rfl) rfl #[.agg #[.int .i64 x178000_2, .int .i64 x178001_2, .int .i64 x178002_2, .int .i64 x178003_2, .bool x178004_2], .int .i64 ((rd_T34 l1 x52_2).f1)] rfl (by (try simp only [List.map_toArray, List.map_cons, List.map_nil]); first | done | rfl | (simp only [List.length_drop, List.length_take]; rfl)) ?_; (with_reducible refine (trickleref08_Draw.calls x178000_2 x178001_2 x178002_2 x178003_2 x178004_2 ((rd_T34 l1 x52_2).f1) t186 t187 t188 t189 t190 t191 _ A42.out).mono ?_); rintro e w70 ⟨rfl, hb⟩; refine ⟨_, rfl, ?_⟩; have n0_ := Aside0.mk (blk_below (g := gb164) (o := .cells #[.int .i64 a0_0, .int .i64 a0_1, .int .i64 a0_2] 23 (0, 0)) (by (with_reducible repeat (first | refine blk_drewN ?_ _ | refine blk_drew ?_ | refine blk_alloc ?_ _)); (first | exact BK164.out | (rw [Nbq39.out]; exact BK164.out) | (rw [← Nbq39.out]; exact BK164.out))) hb); have n1_ := Aside0.mk (blk_below (g := gb177) (o := .cells #[.int .i64 x178000_2, .int .i64 x178001_2, .int .i64 x178002_2, .int .i64 x178003_2, .bool x178004_2] 40 (0, 0)) (by (with_reducible repeat (first | refine blk_drewN ?_ _ | refine blk_drew ?_ | refine blk_alloc ?_ _)); (first | exact BK177.out | (rw [Nbq39.out]; exact BK177.out) | (rw [← Nbq39.out]; exact BK177.out))) hb); have n2_ := Aside0.mk (IsS70.below (by repeat (first | (with_reducible first | exact HI174.out | apply IsS70.alloc | apply IsS70.drewN | apply IsS70.drew | apply IsS70.set_0 | apply IsS70.set_1 | apply IsS70.set_2 | apply IsS70.set_3 | apply IsS70.set_4 | refine IsS70.far ?_ NB174_164.out _ | refine IsS70.far ?_ NB174_177.out _ | refine IsS70.far ?_ NB174_179.out _) | exact HI174.out)) hb); have n3_ := Aside0.mk (blk_below (g := gb179) (o := .cells #[.bool true, .int .i64 ((rd_T34 l1 x52_2).f1), .int .i64 ((rd_T34 l1 x52_2).f2)] 34 (0, 0)) (by (with_reducible repeat (first | refine blk_drewN ?_ _ | refine blk_drew ?_ | refine blk_alloc ?_ _)); (first | exact BK179.out | (rw [Nbq39.out]; exact BK179.out) | (rw [← Nbq39.out]; exact BK179.out))) hb); have n4_ := Aside0.mk (below_step (by repeat (first | (with_reducible first | exact HB.out | apply below_alloc | apply pw_below_drewN | apply below_drew1 | refine below_set ?_ (IsS70.ge HI174.out) | refine below_set ?_ GE164.out | refine below_set ?_ GE177.out | refine below_set ?_ GE179.out) | exact HB.out)) hb); clear BK164; clear BK177; clear HI174; clear BK179; clear HB; have BK164 := n0_; have BK177 := n1_; have HI174 := n2_; have BK179 := n3_; have HB := n4_; clear n0_ n1_ n2_ n3_ n4_; (try clear hb); (try clear hb2); (try clear hk); (try clear hi)) | ((with_reducible refine gate_dst (N := 13) rfl ?_); refine box_event ?hg (N := 13) ?hd (cs := #[.int .i64 0, .int .i64 0, .int .i64 0, .int .i64 0, .bool false]) (t := 40) ?hr ?_; (case hd => rfl); (case hg => rfl); (case hr => first | (go_simp; done) | (go_simp; rfl)); intro gb192 hg w71 hbox hb; have n0_ := Aside0.mk (blk_below (g := gb164) (o := .cells #[.int .i64 a0_0, .int .i64 a0_1, .int .i64 a0_2] 23 (0, 0)) (by (with_reducible repeat (first | refine blk_drewN ?_ _ | refine blk_drew ?_ | refine blk_alloc ?_ _)); (first | exact BK164.out | (rw [Nbq39.out]; exact BK164.out) | (rw [← Nbq39.out]; exact BK164.out))) hb); have n1_ := Aside0.mk (blk_below (g := gb177) (o := .cells #[.int .i64 x178000_2, .int .i64 x178001_2, .int .i64 x178002_2, .int .i64 x178003_2, .bool x178004_2] 40 (0, 0)) (by (with_reducible repeat (first | refine blk_drewN ?_ _ | refine blk_drew ?_ | refine blk_alloc ?_ _)); (first | exact BK177.out | (rw [Nbq39.out]; exact BK177.out) | (rw [← Nbq39.out]; exact BK177.out))) hb); have n2_ := Aside0.mk (IsS70.below (by repeat (first | (with_reducible first | exact HI174.out | apply IsS70.alloc | apply IsS70.drewN | apply IsS70.drew | apply IsS70.set_0 | apply IsS70.set_1 | apply IsS70.set_2 | apply IsS70.set_3 | apply IsS70.set_4 | refine IsS70.far ?_ NB174_164.out _ | refine IsS70.far ?_ NB174_177.out _ | refine IsS70.far ?_ NB174_179.out _) | exact HI174.out)) hb); have n3_ := Aside0.mk (blk_below (g := gb179) (o := .cells #[.bool true, .int .i64 ((rd_T34 l1 x52_2).f1), .int .i64 ((rd_T34 l1 x52_2).f2)] 34 (0, 0)) (by (with_reducible repeat (first | refine blk_drewN ?_ _ | refine blk_drew ?_ | refine blk_alloc ?_ _)); (first | exact BK179.out | (rw [Nbq39.out]; exact BK179.out) | (rw [← Nbq39.out]; exact BK179.out))) hb); have n4_ := Aside0.mk (below_step (by repeat (first | (with_reducible first | exact HB.out | apply below_alloc | apply pw_below_drewN | apply below_drew1 | refine below_set ?_ (IsS70.ge HI174.out) | refine below_set ?_ GE164.out | refine below_set ?_ GE177.out | refine below_set ?_ GE179.out) | exact HB.out)) hb); have n5_ := Aside0.mk (hbox); have n6_ := Aside0.mk ((by rw [hg]; exact (below_size (by repeat (first | (with_reducible first | exact HB.out | apply below_alloc | apply pw_below_drewN | apply below_drew1 | refine below_set ?_ (IsS70.ge HI174.out) | refine below_set ?_ GE164.out | refine below_set ?_ GE177.out | refine below_set ?_ GE179.out) | exact HB.out))) : w.heap.size ≤ gb192)); have n7_ := Aside0.mk ((by rw [hg]; exact (below_size (by repeat (first | (with_reducible first | exact HB.out | apply below_alloc | apply pw_below_drewN | apply below_drew1 | refine below_set ?_ (IsS70.ge HI174.out) | refine below_set ?_ GE164.out | refine below_set ?_ GE177.out | refine below_set ?_ GE179.out) | exact HB.out))) : w.heap.size ≤ gb192)); have n8_ := Aside0.mk ((by rw [hg]; exact Nat.ne_of_lt (blk_lt (g := gb164) (o := .cells #[.int .i64 a0_0, .int .i64 a0_1, .int .i64 a0_2] 23 (0, 0)) (by (with_reducible repeat (first | refine blk_drewN ?_ _ | refine blk_drew ?_ | refine blk_alloc ?_ _)); (first | exact BK164.out | (rw [Nbq39.out]; exact BK164.out) | (rw [← Nbq39.out]; exact BK164.out)))) : gb164 ≠ gb192)); have n9_ := Aside0.mk ((by rw [hg]; exact Nat.ne_of_gt (blk_lt (g := gb164) (o := .cells #[.int .i64 a0_0, .int .i64 a0_1, .int .i64 a0_2] 23 (0, 0)) (by (with_reducible repeat (first | refine blk_drewN ?_ _ | refine blk_drew ?_ | refine blk_alloc ?_ _)); (first | exact BK164.out | (rw [Nbq39.out]; exact BK164.out) | (rw [← Nbq39.out]; exact BK164.out)))) : gb192 ≠ gb164)); have n10_ := Aside0.mk ((by rw [hg]; exact Nat.ne_of_lt (blk_lt (g := gb177) (o := .cells #[.int .i64 x178000_2, .int .i64 x178001_2, .int .i64 x178002_2, .int .i64 x178003_2, .bool x178004_2] 40 (0, 0)) (by (with_reducible repeat (first | refine blk_drewN ?_ _ | refine blk_drew ?_ | refine blk_alloc ?_ _)); (first | exact BK177.out | (rw [Nbq39.out]; exact BK177.out) | (rw [← Nbq39.out]; exact BK177.out)))) : gb177 ≠ gb192)); have n11_ := Aside0.mk ((by rw [hg]; exact Nat.ne_of_gt (blk_lt (g := gb177) (o := .cells #[.int .i64 x178000_2, .int .i64 x178001_2, .int .i64 x178002_2, .int .i64 x178003_2, .bool x178004_2] 40 (0, 0)) (by (with_reducible repeat (first | refine blk_drewN ?_ _ | refine blk_drew ?_ | refine blk_alloc ?_ _)); (first | exact BK177.out | (rw [Nbq39.out]; exact BK177.out) | (rw [← Nbq39.out]; exact BK177.out)))) : gb192 ≠ gb177)); have n12_ := Aside0.mk ((by rw [hg]; exact Nat.ne_of_lt (blk_lt (g := gb179) (o := .cells #[.bool true, .int .i64 ((rd_T34 l1 x52_2).f1), .int .i64 ((rd_T34 l1 x52_2).f2)] 34 (0, 0)) (by (with_reducible repeat (first | refine blk_drewN ?_ _ | refine blk_drew ?_ | refine blk_alloc ?_ _)); (first | exact BK179.out | (rw [Nbq39.out]; exact BK179.out) | (rw [← Nbq39.out]; exact BK179.out)))) : gb179 ≠ gb192)); have n13_ := Aside0.mk ((by rw [hg]; exact Nat.ne_of_gt (blk_lt (g := gb179) (o := .cells #[.bool true, .int .i64 ((rd_T34 l1 x52_2).f1), .int .i64 ((rd_T34 l1 x52_2).f2)] 34 (0, 0)) (by (with_reducible repeat (first | refine blk_drewN ?_ _ | refine blk_drew ?_ | refine blk_alloc ?_ _)); (first | exact BK179.out | (rw [Nbq39.out]; exact BK179.out) | (rw [← Nbq39.out]; exact BK179.out)))) : gb192 ≠ gb179)); have n14_ := Aside0.mk ((by rw [hg]; exact Nat.ne_of_lt (IsS70.lt (show IsS70 w _ g174 t181 t182 t183 t184 t185 from by repeat (first | (with_reducible first | exact HI174.out | apply IsS70.alloc | apply IsS70.drewN | apply IsS70.drew | apply IsS70.set_0 | apply IsS70.set_1 | apply IsS70.set_2 | apply IsS70.set_3 | apply IsS70.set_4 | refine IsS70.far ?_ NB174_164.out _ | refine IsS70.far ?_ NB174_177.out _ | refine IsS70.far ?_ NB174_179.out _) | exact HI174.out))) : g174 ≠ gb192)); have n15_ := Aside0.mk ((by rw [hg]; exact Nat.ne_of_gt (IsS70.lt (show IsS70 w _ g174 t181 t182 t183 t184 t185 from by repeat (first | (with_reducible first | exact HI174.out | apply IsS70.alloc | apply IsS70.drewN | apply IsS70.drew | apply IsS70.set_0 | apply IsS70.set_1 | apply IsS70.set_2 | apply IsS70.set_3 | apply IsS70.set_4 | refine IsS70.far ?_ NB174_164.out _ | refine IsS70.far ?_ NB174_177.out _ | refine IsS70.far ?_ NB174_179.out _) | exact HI174.out))) : gb192 ≠ g174)); clear BK164; clear BK177; clear HI174; clear BK179; clear HB; have BK164 := n0_; have BK177 := n1_; have HI174 := n2_; have BK179 := n3_; have HB := n4_; have BK192 := n5_; have GW192 := n6_; have GE192 := n7_; have NB164_192 := n8_; have NB192_164 := n9_; have NB177_192 := n10_; have NB192_177 := n11_; have NB179_192 := n12_; have NB192_179 := n13_; have NB174_192 := n14_; have NB192_174 := n15_; clear n0_ n1_ n2_ n3_ n4_ n5_ n6_ n7_ n8_ n9_ n10_ n11_ n12_ n13_ n14_ n15_; clear hb hbox hg; have hnb72 := NB192_164.out; have hnc72 := NB164_192.out; have hnb73 := NB192_177.out; have hnc73 := NB177_192.out; have hnb74 := NB192_179.out; have hnc74 := NB179_192.out; have hnb75 := NB192_174.out; have hnc75 := NB174_192.out; have hcz76_0 : w71.cell? ⟨gb192, 0, none⟩ = some (.int .i64 0) := (blk_cell BK192.out 0).trans rfl; have hcz76_1 : w71.cell? ⟨gb192, 1, none⟩ = some (.int .i64 0) := (blk_cell BK192.out 1).trans rfl; have hcz76_2 : w71.cell? ⟨gb192, 2, none⟩ = some (.int .i64 0) := (blk_cell BK192.out 2).trans rfl; have hcz76_3 : w71.cell? ⟨gb192, 3, none⟩ = some (.int .i64 0) := (blk_cell BK192.out 3).trans rfl; have hcz76_4 : w71.cell? ⟨gb192, 4, none⟩ = some (.bool false) := (blk_cell BK192.out 4).trans rfl; have hfz76_0 := blk_frozen BK192.out 0; have hfz76_1 := blk_frozen BK192.out 1; have hfz76_2 := blk_frozen BK192.out 2; have hfz76_3 := blk_frozen BK192.out 3; have hfz76_4 := blk_frozen BK192.out 4; have hcz77_0 : w71.cell? ⟨gb177, 0, none⟩ = some (.int .i64 x178000_2) := (blk_cell BK177.out 0).trans rfl; have hcz77_1 : w71.cell? ⟨gb177, 1, none⟩ = some (.int .i64 x178001_2) := (blk_cell BK177.out 1).trans rfl; have hcz77_2 : w71.cell? ⟨gb177, 2, none⟩ = some (.int .i64 x178002_2) := (blk_cell BK177.out 2).trans rfl; have hcz77_3 : w71.cell? ⟨gb177, 3, none⟩ = some (.int .i64 x178003_2) := (blk_cell BK177.out 3).trans rfl; have hcz77_4 : w71.cell? ⟨gb177, 4, none⟩ = some (.bool x178004_2) := (blk_cell BK177.out 4).trans rfl; have hfz77_0 := blk_frozen BK177.out 0; have hfz77_1 := blk_frozen BK177.out 1; have hfz77_2 := blk_frozen BK177.out 2; have hfz77_3 := blk_frozen BK177.out 3; have hfz77_4 := blk_frozen BK177.out 4))
               go_meet
               case rel => exact ⟨_, (t181), (t182), (t183), (t184), (t185), (t186), (t187), (t188), (t189), (t190), H', ⟨by have := HJ12.out; have := HK2.out; first | omega | exact Nat.le_refl _⟩, ⟨by (with_reducible repeat (first | refine blk_drewN ?_ _ | refine blk_drew ?_ | refine blk_alloc ?_ _)); refine blk_far ?_ NB164_177.out _; (with_reducible repeat (first | refine blk_drewN ?_ _ | refine blk_drew ?_ | refine blk_alloc ?_ _)); refine blk_far ?_ NB164_177.out _; (with_reducible repeat (first | refine blk_drewN ?_ _ | refine blk_drew ?_ | refine blk_alloc ?_ _)); refine blk_far ?_ NB164_177.out _; (with_reducible repeat (first | refine blk_drewN ?_ _ | refine blk_drew ?_ | refine blk_alloc ?_ _)); refine blk_far ?_ NB164_177.out _; (with_reducible repeat (first | refine blk_drewN ?_ _ | refine blk_drew ?_ | refine blk_alloc ?_ _)); refine blk_far ?_ NB164_177.out _; (with_reducible repeat (first | refine blk_drewN ?_ _ | refine blk_drew ?_ | refine blk_alloc ?_ _)); refine blk_far ?_ NB164_192.out _; (with_reducible repeat (first | refine blk_drewN ?_ _ | refine blk_drew ?_ | refine blk_alloc ?_ _)); refine blk_far ?_ NB164_192.out _; (with_reducible repeat (first | refine blk_drewN ?_ _ | refine blk_drew ?_ | refine blk_alloc ?_ _)); refine blk_far ?_ NB164_192.out _; (with_reducible repeat (first | refine blk_drewN ?_ _ | refine blk_drew ?_ | refine blk_alloc ?_ _)); refine blk_far ?_ NB164_192.out _; (with_reducible repeat (first | refine blk_drewN ?_ _ | refine blk_drew ?_ | refine blk_alloc ?_ _)); refine blk_far ?_ NB164_192.out _; (with_reducible repeat (first | refine blk_drewN ?_ _ | refine blk_drew ?_ | refine blk_alloc ?_ _)); (first | exact BK164.out | (rw [Nbq39.out]; exact BK164.out) | (rw [← Nbq39.out]; exact BK164.out))⟩, ⟨by (with_reducible repeat (first | refine blk_drewN ?_ _ | refine blk_drew ?_ | refine blk_alloc ?_ _)); refine blk_put (cs := #[.int .i64 t186, .int .i64 t187, .int .i64 t188, .int .i64 t189, .bool x178004_2]) ?_ 4 _ rfl; (with_reducible repeat (first | refine blk_drewN ?_ _ | refine blk_drew ?_ | refine blk_alloc ?_ _)); refine blk_put (cs := #[.int .i64 t186, .int .i64 t187, .int .i64 t188, .int .i64 x178003_2, .bool x178004_2]) ?_ 3 _ rfl; (with_reducible repeat (first | refine blk_drewN ?_ _ | refine blk_drew ?_ | refine blk_alloc ?_ _)); refine blk_put (cs := #[.int .i64 t186, .int .i64 t187, .int .i64 x178002_2, .int .i64 x178003_2, .bool x178004_2]) ?_ 2 _ rfl; (with_reducible repeat (first | refine blk_drewN ?_ _ | refine blk_drew ?_ | refine blk_alloc ?_ _)); refine blk_put (cs := #[.int .i64 t186, .int .i64 x178001_2, .int .i64 x178002_2, .int .i64 x178003_2, .bool x178004_2]) ?_ 1 _ rfl; (with_reducible repeat (first | refine blk_drewN ?_ _ | refine blk_drew ?_ | refine blk_alloc ?_ _)); refine blk_put (cs := #[.int .i64 x178000_2, .int .i64 x178001_2, .int .i64 x178002_2, .int .i64 x178003_2, .bool x178004_2]) ?_ 0 _ rfl; (with_reducible repeat (first | refine blk_drewN ?_ _ | refine blk_drew ?_ | refine blk_alloc ?_ _)); refine blk_far ?_ NB177_192.out _; (with_reducible repeat (first | refine blk_drewN ?_ _ | refine blk_drew ?_ | refine blk_alloc ?_ _)); refine blk_far ?_ NB177_192.out _; (with_reducible repeat (first | refine blk_drewN ?_ _ | refine blk_drew ?_ | refine blk_alloc ?_ _)); refine blk_far ?_ NB177_192.out _; (with_reducible repeat (first | refine blk_drewN ?_ _ | refine blk_drew ?_ | refine blk_alloc ?_ _)); refine blk_far ?_ NB177_192.out _; (with_reducible repeat (first | refine blk_drewN ?_ _ | refine blk_drew ?_ | refine blk_alloc ?_ _)); refine blk_far ?_ NB177_192.out _; (with_reducible repeat (first | refine blk_drewN ?_ _ | refine blk_drew ?_ | refine blk_alloc ?_ _)); (first | exact BK177.out | (rw [Nbq39.out]; exact BK177.out) | (rw [← Nbq39.out]; exact BK177.out))⟩, ⟨by (with_reducible repeat (first | refine blk_drewN ?_ _ | refine blk_drew ?_ | refine blk_alloc ?_ _)); refine blk_far ?_ NB179_177.out _; (with_reducible repeat (first | refine blk_drewN ?_ _ | refine blk_drew ?_ | refine blk_alloc ?_ _)); refine blk_far ?_ NB179_177.out _; (with_reducible repeat (first | refine blk_drewN ?_ _ | refine blk_drew ?_ | refine blk_alloc ?_ _)); refine blk_far ?_ NB179_177.out _; (with_reducible repeat (first | refine blk_drewN ?_ _ | refine blk_drew ?_ | refine blk_alloc ?_ _)); refine blk_far ?_ NB179_177.out _; (with_reducible repeat (first | refine blk_drewN ?_ _ | refine blk_drew ?_ | refine blk_alloc ?_ _)); refine blk_far ?_ NB179_177.out _; (with_reducible repeat (first | refine blk_drewN ?_ _ | refine blk_drew ?_ | refine blk_alloc ?_ _)); refine blk_far ?_ NB179_192.out _; (with_reducible repeat (first | refine blk_drewN ?_ _ | refine blk_drew ?_ | refine blk_alloc ?_ _)); refine blk_far ?_ NB179_192.out _; (with_reducible repeat (first | refine blk_drewN ?_ _ | refine blk_drew ?_ | refine blk_alloc ?_ _)); refine blk_far ?_ NB179_192.out _; (with_reducible repeat (first | refine blk_drewN ?_ _ | refine blk_drew ?_ | refine blk_alloc ?_ _)); refine blk_far ?_ NB179_192.out _; (with_reducible repeat (first | refine blk_drewN ?_ _ | refine blk_drew ?_ | refine blk_alloc ?_ _)); refine blk_far ?_ NB179_192.out _; (with_reducible repeat (first | refine blk_drewN ?_ _ | refine blk_drew ?_ | refine blk_alloc ?_ _)); (first | exact BK179.out | (rw [Nbq39.out]; exact BK179.out) | (rw [← Nbq39.out]; exact BK179.out))⟩, ⟨by repeat (first | (with_reducible first | exact HI174.out | apply IsS70.alloc | apply IsS70.drewN | apply IsS70.drew | apply IsS70.set_0 | apply IsS70.set_1 | apply IsS70.set_2 | apply IsS70.set_3 | apply IsS70.set_4 | refine IsS70.far ?_ NB174_164.out _ | refine IsS70.far ?_ NB174_177.out _ | refine IsS70.far ?_ NB174_179.out _ | refine IsS70.far ?_ NB174_192.out _) | exact HI174.out)⟩, ⟨by repeat (first | (with_reducible first | exact HB.out | apply below_alloc | apply pw_below_drewN | apply below_drew1 | refine below_set ?_ (IsS70.ge HI174.out) | refine below_set ?_ GE164.out | refine below_set ?_ GE177.out | refine below_set ?_ GE179.out | refine below_set ?_ GE192.out) | exact HB.out)⟩⟩
             ·
              replace c40 := Bool.eq_false_iff.mpr c40
              subst c40
              have H1 : ((capacitor_Capacitor_Harvest.f x175000_2 x175001_2 x175002_2 x175003_2 x175004_2 ((rd_T34 l1 x52_2).f1) ((rd_T34 l1 x52_2).f2)).bind fun bt193 => ((trickleref08_Harvest.f x178000_2 x178001_2 x178002_2 x178003_2 x178004_2 ((rd_T34 l1 x52_2).f1) ((rd_T34 l1 x52_2).f2)).bind fun bt199 => (if bt193.1 = bt199.2.2.2.2.2 then (mm.j2 k2 a2 l1 (l1.length : Int) x52_2 bt193.2.1 bt193.2.2.1 bt193.2.2.2.1 bt193.2.2.2.2.1 bt193.2.2.2.2.2 bt199.1 bt199.2.1 bt199.2.2.1 bt199.2.2.2.1 bt199.2.2.2.2.1) else (some false)))) = some r := by rw [if_neg (show ¬ (false = true) by decide)] at H; exact H
              clear H
              have H := H1
              clear H1
              replace H := Option.bind_eq_some_iff.mp H
              obtain ⟨⟨t193, t194, t195, t196, t197, t198⟩, A780, H⟩ := H
              replace H : ((trickleref08_Harvest.f x178000_2 x178001_2 x178002_2 x178003_2 x178004_2 ((rd_T34 l1 x52_2).f1) ((rd_T34 l1 x52_2).f2)).bind fun bt199 => (if t193 = bt199.2.2.2.2.2 then (mm.j2 k2 a2 l1 (l1.length : Int) x52_2 t194 t195 t196 t197 t198 bt199.1 bt199.2.1 bt199.2.2.1 bt199.2.2.2.1 bt199.2.2.2.2.1) else (some false))) = some r := H
              have A78 := Aside0.mk A780
              clear A780
              replace H := Option.bind_eq_some_iff.mp H
              obtain ⟨⟨t199, t200, t201, t202, t203, t204⟩, A790, H⟩ := H
              replace H : (if t193 = t204 then (mm.j2 k2 a2 l1 (l1.length : Int) x52_2 t194 t195 t196 t197 t198 t199 t200 t201 t202 t203) else (some false)) = some r := H
              have A79 := Aside0.mk A790
              clear A790
              by_cases c80 : t193 = t204
              ·
               rw [if_pos c80] at H
               have c80b0 : (t193 == t204) = true := beq_iff_eq.mpr c80
               have c80b1 : (t193 != t204) = false := bne_eq_false_iff_eq.mpr c80
               clear c80
               have H' := Aside0.mk H
               clear H
               have hnb81 := NB179_164.out
               have hnc81 := NB164_179.out
               have hnb82 := NB179_177.out
               have hnc82 := NB177_179.out
               have hnb83 := NB179_174.out
               have hnc83 := NB174_179.out
               have hcz84_0 : w34.cell? ⟨gb179, 0, none⟩ = some (.bool false) := (blk_cell BK179.out 0).trans (by first | rfl | (rw [← Nbq39.out]; rfl))
               have hcz84_1 : w34.cell? ⟨gb179, 1, none⟩ = some (.int .i64 0) := (blk_cell BK179.out 1).trans rfl
               have hcz84_2 : w34.cell? ⟨gb179, 2, none⟩ = some (.int .i64 0) := (blk_cell BK179.out 2).trans rfl
               have hfz84_0 := blk_frozen BK179.out 0
               have hfz84_1 := blk_frozen BK179.out 1
               have hfz84_2 := blk_frozen BK179.out 2
               go_wp2_with (first | ((with_reducible refine gate_callee (f := 15) rfl ?_); refine goesL_ (some 78) rfl rfl Try.func15 (by kernel_rfl) rfl #[.pointer (some ⟨g174, 0, none⟩), .int .i64 ((rd_T34 l1 x52_2).f1), .int .i64 ((rd_T34 l1 x52_2).f2)] rfl (by (try simp only [List.map_toArray, List.map_cons, List.map_nil]); first | done | rfl | (simp only [List.length_drop, List.length_take]; rfl)) ?_; (with_reducible refine (capacitor_Capacitor_Harvest.calls g174 x175000_2 x175001_2 x175002_2 x175003_2 x175004_2 ((rd_T34 l1 x52_2).f1) ((rd_T34 l1 x52_2).f2) t193 t194 t195 t196 t197 t198 w _ ?side1 ?side2 A78.out).mono ?_); (case side1 => repeat (first | (with_reducible first | exact HI174.out | apply IsS70.alloc | apply IsS70.drewN | apply IsS70.drew | apply IsS70.set_0 | apply IsS70.set_1 | apply IsS70.set_2 | apply IsS70.set_3 | apply IsS70.set_4 | refine IsS70.far ?_ NB174_164.out _ | refine IsS70.far ?_ NB174_177.out _ | refine IsS70.far ?_ NB174_179.out _) | exact HI174.out)); (case side2 => repeat (first | (with_reducible first | exact HB.out | apply below_alloc | apply pw_below_drewN | apply below_drew1 | refine below_set ?_ (IsS70.ge HI174.out) | refine below_set ?_ GE164.out | refine below_set ?_ GE177.out | refine below_set ?_ GE179.out) | exact HB.out)); rintro e w85 ⟨rfl, hi, hb, hk⟩; refine ⟨_, rfl, ?_⟩; have n0_ := Aside0.mk (KeepBut.blk hk (g' := gb164) (o := .cells #[.int .i64 a0_0, .int .i64 a0_1, .int .i64 a0_2] 23 (0, 0)) (by (with_reducible repeat (first | refine blk_drewN ?_ _ | refine blk_drew ?_ | refine blk_alloc ?_ _)); refine blk_far ?_ NB164_179.out _; (with_reducible repeat (first | refine blk_drewN ?_ _ | refine blk_drew ?_ | refine blk_alloc ?_ _)); refine blk_far ?_ NB164_179.out _; (with_reducible repeat (first | refine blk_drewN ?_ _ | refine blk_drew ?_ | refine blk_alloc ?_ _)); refine blk_far ?_ NB164_179.out _; (with_reducible repeat (first | refine blk_drewN ?_ _ | refine blk_drew ?_ | refine blk_alloc ?_ _)); (first | exact BK164.out | (rw [Nbq39.out]; exact BK164.out) | (rw [← Nbq39.out]; exact BK164.out))) NB164_174.out (by simp)); have n1_ := Aside0.mk (KeepBut.blk hk (g' := gb177) (o := .cells #[.int .i64 x178000_2, .int .i64 x178001_2, .int .i64 x178002_2, .int .i64 x178003_2, .bool x178004_2] 40 (0, 0)) (by (with_reducible repeat (first | refine blk_drewN ?_ _ | refine blk_drew ?_ | refine blk_alloc ?_ _)); refine blk_far ?_ NB177_179.out _; (with_reducible repeat (first | refine blk_drewN ?_ _ | refine blk_drew ?_ | refine blk_alloc ?_ _)); refine blk_far ?_ NB177_179.out _; (with_reducible repeat (first | refine blk_drewN ?_ _ | refine blk_drew ?_ | refine blk_alloc ?_ _)); refine blk_far ?_ NB177_179.out _; (with_reducible repeat (first | refine blk_drewN ?_ _ | refine blk_drew ?_ | refine blk_alloc ?_ _)); (first | exact BK177.out | (rw [Nbq39.out]; exact BK177.out) | (rw [← Nbq39.out]; exact BK177.out))) NB177_174.out (by simp)); have n2_ := Aside0.mk (KeepBut.blk hk (g' := gb179) (o := .cells #[.bool false, .int .i64 ((rd_T34 l1 x52_2).f1), .int .i64 ((rd_T34 l1 x52_2).f2)] 34 (0, 0)) (by (with_reducible repeat (first | refine blk_drewN ?_ _ | refine blk_drew ?_ | refine blk_alloc ?_ _)); refine blk_put (cs := #[.bool (false), .int .i64 ((rd_T34 l1 x52_2).f1), .int .i64 0]) ?_ 2 _ rfl; (with_reducible repeat (first | refine blk_drewN ?_ _ | refine blk_drew ?_ | refine blk_alloc ?_ _)); refine blk_put (cs := #[.bool (false), .int .i64 0, .int .i64 0]) ?_ 1 _ rfl; (with_reducible repeat (first | refine blk_drewN ?_ _ | refine blk_drew ?_ | refine blk_alloc ?_ _)); refine blk_put (cs := #[.bool false, .int .i64 0, .int .i64 0]) ?_ 0 _ rfl; (with_reducible repeat (first | refine blk_drewN ?_ _ | refine blk_drew ?_ | refine blk_alloc ?_ _)); (first | exact BK179.out | (rw [Nbq39.out]; exact BK179.out) | (rw [← Nbq39.out]; exact BK179.out))) NB179_174.out (by simp)); have n3_ := Aside0.mk (hb); have n4_ := Aside0.mk (hi); clear BK164; clear BK177; clear BK179; clear HB; clear HI174; have BK164 := n0_; have BK177 := n1_; have BK179 := n2_; have HB := n3_; have HI174 := n4_; clear n0_ n1_ n2_ n3_ n4_; (try clear hb); (try clear hb2); (try clear hk); (try clear hi); have hnb86 := NB177_164.out; have hnc86 := NB164_177.out; have hnb87 := NB177_174.out; have hnc87 := NB174_177.out; have hcz88_0 : w85.cell? ⟨gb177, 0, none⟩ = some (.int .i64 x178000_2) := (blk_cell BK177.out 0).trans rfl; have hcz88_1 : w85.cell? ⟨gb177, 1, none⟩ = some (.int .i64 x178001_2) := (blk_cell BK177.out 1).trans rfl; have hcz88_2 : w85.cell? ⟨gb177, 2, none⟩ = some (.int .i64 x178002_2) := (blk_cell BK177.out 2).trans rfl; have hcz88_3 : w85.cell? ⟨gb177, 3, none⟩ = some (.int .i64 x178003_2) := (blk_cell BK177.out 3).trans rfl; have hcz88_4 : w85.cell? ⟨gb177, 4, none⟩ = some (.bool x178004_2) := (blk_cell BK177.out 4).trans rfl; have hfz88_0 := blk_frozen BK177.out 0; have hfz88_1 := blk_frozen BK177.out 1; have hfz88_2 := blk_frozen BK177.out 2; have hfz88_3 := blk_frozen BK177.out 3; have hfz88_4 := blk_frozen BK177.out 4; have hcz89_0 : w85.cell? ⟨gb179, 0, none⟩ = some (.bool false) := (blk_cell BK179.out 0).trans rfl; have hcz89_1 : w85.cell? ⟨gb179, 1, none⟩ = some (.int .i64 ((rd_T34 l1 x52_2).f1)) := (blk_cell BK179.out 1).trans rfl; have hcz89_2 : w85.cell? ⟨gb179, 2, none⟩ = some (.int .i64 ((rd_T34 l1 x52_2).f2)) := (blk_cell BK179.out 2).trans rfl; have hfz89_0 := blk_frozen BK179.out 0; have hfz89_1 := blk_frozen BK179.out 1; have hfz89_2 := blk_frozen BK179.out 2) | ((with_reducible refine gate_callee (f := 18) rfl ?_); refine goesL_ (some 85) rfl rfl Try.func18 (by kernel_rfl) rfl #[.agg #[.int .i64 x178000_2, .int .i64 x178001_2, .int .i64 x178002_2, .int .i64 x178003_2, .bool x178004_2], .int .i64 ((rd_T34 l1 x52_2).f1), .int .i64 ((rd_T34 l1 x52_2).f2)] rfl (by (try simp only [List.map_toArray, List.map_cons, List.map_nil]); first | done | rfl | (simp only [List.length_drop, List.length_take]; rfl)) ?_; (with_reducible refine (trickleref08_Harvest.calls x178000_2 x178001_2 x178002_2 x178003_2 x178004_2 ((rd_T34 l1 x52_2).f1) ((rd_T34 l1 x52_2).f2) t199 t200 t201 t202 t203 t204 _ A79.out).mono ?_); rintro e w90 ⟨rfl, hb⟩; refine ⟨_, rfl, ?_⟩; have n0_ := Aside0.mk (blk_below (g := gb164) (o := .cells #[.int .i64 a0_0, .int .i64 a0_1, .int .i64 a0_2] 23 (0, 0)) (by (with_reducible repeat (first | refine blk_drewN ?_ _ | refine blk_drew ?_ | refine blk_alloc ?_ _)); (first | exact BK164.out | (rw [Nbq39.out]; exact BK164.out) | (rw [← Nbq39.out]; exact BK164.out))) hb); have n1_ := Aside0.mk (blk_below (g := gb177) (o := .cells #[.int .i64 x178000_2, .int .i64 x178001_2, .int .i64 x178002_2, .int .i64 x178003_2, .bool x178004_2] 40 (0, 0)) (by (with_reducible repeat (first | refine blk_drewN ?_ _ | refine blk_drew ?_ | refine blk_alloc ?_ _)); (first | exact BK177.out | (rw [Nbq39.out]; exact BK177.out) | (rw [← Nbq39.out]; exact BK177.out))) hb); have n2_ := Aside0.mk (IsS70.below (by repeat (first | (with_reducible first | exact HI174.out | apply IsS70.alloc | apply IsS70.drewN | apply IsS70.drew | apply IsS70.set_0 | apply IsS70.set_1 | apply IsS70.set_2 | apply IsS70.set_3 | apply IsS70.set_4 | refine IsS70.far ?_ NB174_164.out _ | refine IsS70.far ?_ NB174_177.out _ | refine IsS70.far ?_ NB174_179.out _) | exact HI174.out)) hb); have n3_ := Aside0.mk (blk_below (g := gb179) (o := .cells #[.bool false, .int .i64 ((rd_T34 l1 x52_2).f1), .int .i64 ((rd_T34 l1 x52_2).f2)] 34 (0, 0)) (by (with_reducible repeat (first | refine blk_drewN ?_ _ | refine blk_drew ?_ | refine blk_alloc ?_ _)); (first | exact BK179.out | (rw [Nbq39.out]; exact BK179.out) | (rw [← Nbq39.out]; exact BK179.out))) hb); have n4_ := Aside0.mk (below_step (by repeat (first | (with_reducible first | exact HB.out | apply below_alloc | apply pw_below_drewN | apply below_drew1 | refine below_set ?_ (IsS70.ge HI174.out) | refine below_set ?_ GE164.out | refine below_set ?_ GE177.out | refine below_set ?_ GE179.out) | exact HB.out)) hb); clear BK164; clear BK177; clear HI174; clear BK179; clear HB; have BK164 := n0_; have BK177 := n1_; have HI174 := n2_; have BK179 := n3_; have HB := n4_; clear n0_ n1_ n2_ n3_ n4_; (try clear hb); (try clear hb2); (try clear hk); (try clear hi)) | ((with_reducible refine gate_dst (N := 16) rfl ?_); refine box_event ?hg (N := 16) ?hd (cs := #[.int .i64 0, .int .i64 0, .int .i64 0, .int .i64 0, .bool false]) (t := 40) ?hr ?_; (case hd => rfl); (case hg => rfl); (case hr => first | (go_simp; done) | (go_simp; rfl)); intro gb205 hg w91 hbox hb; have n0_ := Aside0.mk (blk_below (g := gb164) (o := .cells #[.int .i64 a0_0, .int .i64 a0_1, .int .i64 a0_2] 23 (0, 0)) (by (with_reducible repeat (first | refine blk_drewN ?_ _ | refine blk_drew ?_ | refine blk_alloc ?_ _)); (first | exact BK164.out | (rw [Nbq39.out]; exact BK164.out) | (rw [← Nbq39.out]; exact BK164.out))) hb); have n1_ := Aside0.mk (blk_below (g := gb177) (o := .cells #[.int .i64 x178000_2, .int .i64 x178001_2, .int .i64 x178002_2, .int .i64 x178003_2, .bool x178004_2] 40 (0, 0)) (by (with_reducible repeat (first | refine blk_drewN ?_ _ | refine blk_drew ?_ | refine blk_alloc ?_ _)); (first | exact BK177.out | (rw [Nbq39.out]; exact BK177.out) | (rw [← Nbq39.out]; exact BK177.out))) hb); have n2_ := Aside0.mk (IsS70.below (by repeat (first | (with_reducible first | exact HI174.out | apply IsS70.alloc | apply IsS70.drewN | apply IsS70.drew | apply IsS70.set_0 | apply IsS70.set_1 | apply IsS70.set_2 | apply IsS70.set_3 | apply IsS70.set_4 | refine IsS70.far ?_ NB174_164.out _ | refine IsS70.far ?_ NB174_177.out _ | refine IsS70.far ?_ NB174_179.out _) | exact HI174.out)) hb); have n3_ := Aside0.mk (blk_below (g := gb179) (o := .cells #[.bool false, .int .i64 ((rd_T34 l1 x52_2).f1), .int .i64 ((rd_T34 l1 x52_2).f2)] 34 (0, 0)) (by (with_reducible repeat (first | refine blk_drewN ?_ _ | refine blk_drew ?_ | refine blk_alloc ?_ _)); (first | exact BK179.out | (rw [Nbq39.out]; exact BK179.out) | (rw [← Nbq39.out]; exact BK179.out))) hb); have n4_ := Aside0.mk (below_step (by repeat (first | (with_reducible first | exact HB.out | apply below_alloc | apply pw_below_drewN | apply below_drew1 | refine below_set ?_ (IsS70.ge HI174.out) | refine below_set ?_ GE164.out | refine below_set ?_ GE177.out | refine below_set ?_ GE179.out) | exact HB.out)) hb); have n5_ := Aside0.mk (hbox); have n6_ := Aside0.mk ((by rw [hg]; exact (below_size (by repeat (first | (with_reducible first | exact HB.out | apply below_alloc | apply pw_below_drewN | apply below_drew1 | refine below_set ?_ (IsS70.ge HI174.out) | refine below_set ?_ GE164.out | refine below_set ?_ GE177.out | refine below_set ?_ GE179.out) | exact HB.out))) : w.heap.size ≤ gb205)); have n7_ := Aside0.mk ((by rw [hg]; exact (below_size (by repeat (first | (with_reducible first | exact HB.out | apply below_alloc | apply pw_below_drewN | apply below_drew1 | refine below_set ?_ (IsS70.ge HI174.out) | refine below_set ?_ GE164.out | refine below_set ?_ GE177.out | refine below_set ?_ GE179.out) | exact HB.out))) : w.heap.size ≤ gb205)); have n8_ := Aside0.mk ((by rw [hg]; exact Nat.ne_of_lt (blk_lt (g := gb164) (o := .cells #[.int .i64 a0_0, .int .i64 a0_1, .int .i64 a0_2] 23 (0, 0)) (by (with_reducible repeat (first | refine blk_drewN ?_ _ | refine blk_drew ?_ | refine blk_alloc ?_ _)); (first | exact BK164.out | (rw [Nbq39.out]; exact BK164.out) | (rw [← Nbq39.out]; exact BK164.out)))) : gb164 ≠ gb205)); have n9_ := Aside0.mk ((by rw [hg]; exact Nat.ne_of_gt (blk_lt (g := gb164) (o := .cells #[.int .i64 a0_0, .int .i64 a0_1, .int .i64 a0_2] 23 (0, 0)) (by (with_reducible repeat (first | refine blk_drewN ?_ _ | refine blk_drew ?_ | refine blk_alloc ?_ _)); (first | exact BK164.out | (rw [Nbq39.out]; exact BK164.out) | (rw [← Nbq39.out]; exact BK164.out)))) : gb205 ≠ gb164)); have n10_ := Aside0.mk ((by rw [hg]; exact Nat.ne_of_lt (blk_lt (g := gb177) (o := .cells #[.int .i64 x178000_2, .int .i64 x178001_2, .int .i64 x178002_2, .int .i64 x178003_2, .bool x178004_2] 40 (0, 0)) (by (with_reducible repeat (first | refine blk_drewN ?_ _ | refine blk_drew ?_ | refine blk_alloc ?_ _)); (first | exact BK177.out | (rw [Nbq39.out]; exact BK177.out) | (rw [← Nbq39.out]; exact BK177.out)))) : gb177 ≠ gb205)); have n11_ := Aside0.mk ((by rw [hg]; exact Nat.ne_of_gt (blk_lt (g := gb177) (o := .cells #[.int .i64 x178000_2, .int .i64 x178001_2, .int .i64 x178002_2, .int .i64 x178003_2, .bool x178004_2] 40 (0, 0)) (by (with_reducible repeat (first | refine blk_drewN ?_ _ | refine blk_drew ?_ | refine blk_alloc ?_ _)); (first | exact BK177.out | (rw [Nbq39.out]; exact BK177.out) | (rw [← Nbq39.out]; exact BK177.out)))) : gb205 ≠ gb177)); have n12_ := Aside0.mk ((by rw [hg]; exact Nat.ne_of_lt (blk_lt (g := gb179) (o := .cells #[.bool false, .int .i64 ((rd_T34 l1 x52_2).f1), .int .i64 ((rd_T34 l1 x52_2).f2)] 34 (0, 0)) (by (with_reducible repeat (first | refine blk_drewN ?_ _ | refine blk_drew ?_ | refine blk_alloc ?_ _)); (first | exact BK179.out | (rw [Nbq39.out]; exact BK179.out) | (rw [← Nbq39.out]; exact BK179.out)))) : gb179 ≠ gb205)); have n13_ := Aside0.mk ((by rw [hg]; exact Nat.ne_of_gt (blk_lt (g := gb179) (o := .cells #[.bool false, .int .i64 ((rd_T34 l1 x52_2).f1), .int .i64 ((rd_T34 l1 x52_2).f2)] 34 (0, 0)) (by (with_reducible repeat (first | refine blk_drewN ?_ _ | refine blk_drew ?_ | refine blk_alloc ?_ _)); (first | exact BK179.out | (rw [Nbq39.out]; exact BK179.out) | (rw [← Nbq39.out]; exact BK179.out)))) : gb205 ≠ gb179)); have n14_ := Aside0.mk ((by rw [hg]; exact Nat.ne_of_lt (IsS70.lt (show IsS70 w _ g174 t194 t195 t196 t197 t198 from by repeat (first | (with_reducible first | exact HI174.out | apply IsS70.alloc | apply IsS70.drewN | apply IsS70.drew | apply IsS70.set_0 | apply IsS70.set_1 | apply IsS70.set_2 | apply IsS70.set_3 | apply IsS70.set_4 | refine IsS70.far ?_ NB174_164.out _ | refine IsS70.far ?_ NB174_177.out _ | refine IsS70.far ?_ NB174_179.out _) | exact HI174.out))) : g174 ≠ gb205)); have n15_ := Aside0.mk ((by rw [hg]; exact Nat.ne_of_gt (IsS70.lt (show IsS70 w _ g174 t194 t195 t196 t197 t198 from by repeat (first | (with_reducible first | exact HI174.out | apply IsS70.alloc | apply IsS70.drewN | apply IsS70.drew | apply IsS70.set_0 | apply IsS70.set_1 | apply IsS70.set_2 | apply IsS70.set_3 | apply IsS70.set_4 | refine IsS70.far ?_ NB174_164.out _ | refine IsS70.far ?_ NB174_177.out _ | refine IsS70.far ?_ NB174_179.out _) | exact HI174.out))) : gb205 ≠ g174)); clear BK164; clear BK177; clear HI174; clear BK179; clear HB; have BK164 := n0_; have BK177 := n1_; have HI174 := n2_; have BK179 := n3_; have HB := n4_; have BK205 := n5_; have GW205 := n6_; have GE205 := n7_; have NB164_205 := n8_; have NB205_164 := n9_; have NB177_205 := n10_; have NB205_177 := n11_; have NB179_205 := n12_; have NB205_179 := n13_; have NB174_205 := n14_; have NB205_174 := n15_; clear n0_ n1_ n2_ n3_ n4_ n5_ n6_ n7_ n8_ n9_ n10_ n11_ n12_ n13_ n14_ n15_; clear hb hbox hg; have hnb92 := NB205_164.out; have hnc92 := NB164_205.out; have hnb93 := NB205_177.out; have hnc93 := NB177_205.out; have hnb94 := NB205_179.out; have hnc94 := NB179_205.out; have hnb95 := NB205_174.out; have hnc95 := NB174_205.out; have hcz96_0 : w91.cell? ⟨gb205, 0, none⟩ = some (.int .i64 0) := (blk_cell BK205.out 0).trans rfl; have hcz96_1 : w91.cell? ⟨gb205, 1, none⟩ = some (.int .i64 0) := (blk_cell BK205.out 1).trans rfl; have hcz96_2 : w91.cell? ⟨gb205, 2, none⟩ = some (.int .i64 0) := (blk_cell BK205.out 2).trans rfl; have hcz96_3 : w91.cell? ⟨gb205, 3, none⟩ = some (.int .i64 0) := (blk_cell BK205.out 3).trans rfl; have hcz96_4 : w91.cell? ⟨gb205, 4, none⟩ = some (.bool false) := (blk_cell BK205.out 4).trans rfl; have hfz96_0 := blk_frozen BK205.out 0; have hfz96_1 := blk_frozen BK205.out 1; have hfz96_2 := blk_frozen BK205.out 2; have hfz96_3 := blk_frozen BK205.out 3; have hfz96_4 := blk_frozen BK205.out 4; have hcz97_0 : w91.cell? ⟨gb177, 0, none⟩ = some (.int .i64 x178000_2) := (blk_cell BK177.out 0).trans rfl; have hcz97_1 : w91.cell? ⟨gb177, 1, none⟩ = some (.int .i64 x178001_2) := (blk_cell BK177.out 1).trans rfl; have hcz97_2 : w91.cell? ⟨gb177, 2, none⟩ = some (.int .i64 x178002_2) := (blk_cell BK177.out 2).trans rfl; have hcz97_3 : w91.cell? ⟨gb177, 3, none⟩ = some (.int .i64 x178003_2) := (blk_cell BK177.out 3).trans rfl; have hcz97_4 : w91.cell? ⟨gb177, 4, none⟩ = some (.bool x178004_2) := (blk_cell BK177.out 4).trans rfl; have hfz97_0 := blk_frozen BK177.out 0; have hfz97_1 := blk_frozen BK177.out 1; have hfz97_2 := blk_frozen BK177.out 2; have hfz97_3 := blk_frozen BK177.out 3; have hfz97_4 := blk_frozen BK177.out 4))
               go_meet
               case rel => exact ⟨_, (t194), (t195), (t196), (t197), (t198), (t199), (t200), (t201), (t202), (t203), H', ⟨by have := HJ12.out; have := HK2.out; first | omega | exact Nat.le_refl _⟩, ⟨by (with_reducible repeat (first | refine blk_drewN ?_ _ | refine blk_drew ?_ | refine blk_alloc ?_ _)); refine blk_far ?_ NB164_177.out _; (with_reducible repeat (first | refine blk_drewN ?_ _ | refine blk_drew ?_ | refine blk_alloc ?_ _)); refine blk_far ?_ NB164_177.out _; (with_reducible repeat (first | refine blk_drewN ?_ _ | refine blk_drew ?_ | refine blk_alloc ?_ _)); refine blk_far ?_ NB164_177.out _; (with_reducible repeat (first | refine blk_drewN ?_ _ | refine blk_drew ?_ | refine blk_alloc ?_ _)); refine blk_far ?_ NB164_177.out _; (with_reducible repeat (first | refine blk_drewN ?_ _ | refine blk_drew ?_ | refine blk_alloc ?_ _)); refine blk_far ?_ NB164_177.out _; (with_reducible repeat (first | refine blk_drewN ?_ _ | refine blk_drew ?_ | refine blk_alloc ?_ _)); refine blk_far ?_ NB164_205.out _; (with_reducible repeat (first | refine blk_drewN ?_ _ | refine blk_drew ?_ | refine blk_alloc ?_ _)); refine blk_far ?_ NB164_205.out _; (with_reducible repeat (first | refine blk_drewN ?_ _ | refine blk_drew ?_ | refine blk_alloc ?_ _)); refine blk_far ?_ NB164_205.out _; (with_reducible repeat (first | refine blk_drewN ?_ _ | refine blk_drew ?_ | refine blk_alloc ?_ _)); refine blk_far ?_ NB164_205.out _; (with_reducible repeat (first | refine blk_drewN ?_ _ | refine blk_drew ?_ | refine blk_alloc ?_ _)); refine blk_far ?_ NB164_205.out _; (with_reducible repeat (first | refine blk_drewN ?_ _ | refine blk_drew ?_ | refine blk_alloc ?_ _)); (first | exact BK164.out | (rw [Nbq39.out]; exact BK164.out) | (rw [← Nbq39.out]; exact BK164.out))⟩, ⟨by (with_reducible repeat (first | refine blk_drewN ?_ _ | refine blk_drew ?_ | refine blk_alloc ?_ _)); refine blk_put (cs := #[.int .i64 t199, .int .i64 t200, .int .i64 t201, .int .i64 t202, .bool x178004_2]) ?_ 4 _ rfl; (with_reducible repeat (first | refine blk_drewN ?_ _ | refine blk_drew ?_ | refine blk_alloc ?_ _)); refine blk_put (cs := #[.int .i64 t199, .int .i64 t200, .int .i64 t201, .int .i64 x178003_2, .bool x178004_2]) ?_ 3 _ rfl; (with_reducible repeat (first | refine blk_drewN ?_ _ | refine blk_drew ?_ | refine blk_alloc ?_ _)); refine blk_put (cs := #[.int .i64 t199, .int .i64 t200, .int .i64 x178002_2, .int .i64 x178003_2, .bool x178004_2]) ?_ 2 _ rfl; (with_reducible repeat (first | refine blk_drewN ?_ _ | refine blk_drew ?_ | refine blk_alloc ?_ _)); refine blk_put (cs := #[.int .i64 t199, .int .i64 x178001_2, .int .i64 x178002_2, .int .i64 x178003_2, .bool x178004_2]) ?_ 1 _ rfl; (with_reducible repeat (first | refine blk_drewN ?_ _ | refine blk_drew ?_ | refine blk_alloc ?_ _)); refine blk_put (cs := #[.int .i64 x178000_2, .int .i64 x178001_2, .int .i64 x178002_2, .int .i64 x178003_2, .bool x178004_2]) ?_ 0 _ rfl; (with_reducible repeat (first | refine blk_drewN ?_ _ | refine blk_drew ?_ | refine blk_alloc ?_ _)); refine blk_far ?_ NB177_205.out _; (with_reducible repeat (first | refine blk_drewN ?_ _ | refine blk_drew ?_ | refine blk_alloc ?_ _)); refine blk_far ?_ NB177_205.out _; (with_reducible repeat (first | refine blk_drewN ?_ _ | refine blk_drew ?_ | refine blk_alloc ?_ _)); refine blk_far ?_ NB177_205.out _; (with_reducible repeat (first | refine blk_drewN ?_ _ | refine blk_drew ?_ | refine blk_alloc ?_ _)); refine blk_far ?_ NB177_205.out _; (with_reducible repeat (first | refine blk_drewN ?_ _ | refine blk_drew ?_ | refine blk_alloc ?_ _)); refine blk_far ?_ NB177_205.out _; (with_reducible repeat (first | refine blk_drewN ?_ _ | refine blk_drew ?_ | refine blk_alloc ?_ _)); (first | exact BK177.out | (rw [Nbq39.out]; exact BK177.out) | (rw [← Nbq39.out]; exact BK177.out))⟩, ⟨by (with_reducible repeat (first | refine blk_drewN ?_ _ | refine blk_drew ?_ | refine blk_alloc ?_ _)); refine blk_far ?_ NB179_177.out _; (with_reducible repeat (first | refine blk_drewN ?_ _ | refine blk_drew ?_ | refine blk_alloc ?_ _)); refine blk_far ?_ NB179_177.out _; (with_reducible repeat (first | refine blk_drewN ?_ _ | refine blk_drew ?_ | refine blk_alloc ?_ _)); refine blk_far ?_ NB179_177.out _; (with_reducible repeat (first | refine blk_drewN ?_ _ | refine blk_drew ?_ | refine blk_alloc ?_ _)); refine blk_far ?_ NB179_177.out _; (with_reducible repeat (first | refine blk_drewN ?_ _ | refine blk_drew ?_ | refine blk_alloc ?_ _)); refine blk_far ?_ NB179_177.out _; (with_reducible repeat (first | refine blk_drewN ?_ _ | refine blk_drew ?_ | refine blk_alloc ?_ _)); refine blk_far ?_ NB179_205.out _; (with_reducible repeat (first | refine blk_drewN ?_ _ | refine blk_drew ?_ | refine blk_alloc ?_ _)); refine blk_far ?_ NB179_205.out _; (with_reducible repeat (first | refine blk_drewN ?_ _ | refine blk_drew ?_ | refine blk_alloc ?_ _)); refine blk_far ?_ NB179_205.out _; (with_reducible repeat (first | refine blk_drewN ?_ _ | refine blk_drew ?_ | refine blk_alloc ?_ _)); refine blk_far ?_ NB179_205.out _; (with_reducible repeat (first | refine blk_drewN ?_ _ | refine blk_drew ?_ | refine blk_alloc ?_ _)); refine blk_far ?_ NB179_205.out _; (with_reducible repeat (first | refine blk_drewN ?_ _ | refine blk_drew ?_ | refine blk_alloc ?_ _)); (first | exact BK179.out | (rw [Nbq39.out]; exact BK179.out) | (rw [← Nbq39.out]; exact BK179.out))⟩, ⟨by repeat (first | (with_reducible first | exact HI174.out | apply IsS70.alloc | apply IsS70.drewN | apply IsS70.drew | apply IsS70.set_0 | apply IsS70.set_1 | apply IsS70.set_2 | apply IsS70.set_3 | apply IsS70.set_4 | refine IsS70.far ?_ NB174_164.out _ | refine IsS70.far ?_ NB174_177.out _ | refine IsS70.far ?_ NB174_179.out _ | refine IsS70.far ?_ NB174_205.out _) | exact HI174.out)⟩, ⟨by repeat (first | (with_reducible first | exact HB.out | apply below_alloc | apply pw_below_drewN | apply below_drew1 | refine below_set ?_ (IsS70.ge HI174.out) | refine below_set ?_ GE164.out | refine below_set ?_ GE177.out | refine below_set ?_ GE179.out | refine below_set ?_ GE205.out) | exact HB.out)⟩⟩
              ·
               rw [if_neg c80] at H
               have c80b0 : (t193 == t204) = false := beq_eq_false_iff_ne.mpr c80
               have c80b1 : (t193 != t204) = true := bne_iff_ne.mpr c80
               obtain rfl := Option.some.inj H
               have hnb98 := NB179_164.out
               have hnc98 := NB164_179.out
               have hnb99 := NB179_177.out
               have hnc99 := NB177_179.out
               have hnb100 := NB179_174.out
               have hnc100 := NB174_179.out
               have hcz101_0 : w34.cell? ⟨gb179, 0, none⟩ = some (.bool false) := (blk_cell BK179.out 0).trans (by first | rfl | (rw [← Nbq39.out]; rfl))
               have hcz101_1 : w34.cell? ⟨gb179, 1, none⟩ = some (.int .i64 0) := (blk_cell BK179.out 1).trans rfl
               have hcz101_2 : w34.cell? ⟨gb179, 2, none⟩ = some (.int .i64 0) := (blk_cell BK179.out 2).trans rfl
               have hfz101_0 := blk_frozen BK179.out 0
               have hfz101_1 := blk_frozen BK179.out 1
               have hfz101_2 := blk_frozen BK179.out 2
               go_wp2_with (first | ((with_reducible refine gate_callee (f := 15) rfl ?_); refine goesL_ (some 78) rfl rfl Try.func15 (by kernel_rfl) rfl #[.pointer (some ⟨g174, 0, none⟩), .int .i64 ((rd_T34 l1 x52_2).f1), .int .i64 ((rd_T34 l1 x52_2).f2)] rfl (by (try simp only [List.map_toArray, List.map_cons, List.map_nil]); first | done | rfl | (simp only [List.length_drop, List.length_take]; rfl)) ?_; (with_reducible refine (capacitor_Capacitor_Harvest.calls g174 x175000_2 x175001_2 x175002_2 x175003_2 x175004_2 ((rd_T34 l1 x52_2).f1) ((rd_T34 l1 x52_2).f2) t193 t194 t195 t196 t197 t198 w _ ?side1 ?side2 A78.out).mono ?_); (case side1 => repeat (first | (with_reducible first | exact HI174.out | apply IsS70.alloc | apply IsS70.drewN | apply IsS70.drew | apply IsS70.set_0 | apply IsS70.set_1 | apply IsS70.set_2 | apply IsS70.set_3 | apply IsS70.set_4 | refine IsS70.far ?_ NB174_164.out _ | refine IsS70.far ?_ NB174_177.out _ | refine IsS70.far ?_ NB174_179.out _) | exact HI174.out)); (case side2 => repeat (first | (with_reducible first | exact HB.out | apply below_alloc | apply pw_below_drewN | apply below_drew1 | refine below_set ?_ (IsS70.ge HI174.out) | refine below_set ?_ GE164.out | refine below_set ?_ GE177.out | refine below_set ?_ GE179.out) | exact HB.out)); rintro e w102 ⟨rfl, hi, hb, hk⟩; refine ⟨_, rfl, ?_⟩; have n0_ := Aside0.mk (KeepBut.blk hk (g' := gb164) (o := .cells #[.int .i64 a0_0, .int .i64 a0_1, .int .i64 a0_2] 23 (0, 0)) (by (with_reducible repeat (first | refine blk_drewN ?_ _ | refine blk_drew ?_ | refine blk_alloc ?_ _)); refine blk_far ?_ NB164_179.out _; (with_reducible repeat (first | refine blk_drewN ?_ _ | refine blk_drew ?_ | refine blk_alloc ?_ _)); refine blk_far ?_ NB164_179.out _; (with_reducible repeat (first | refine blk_drewN ?_ _ | refine blk_drew ?_ | refine blk_alloc ?_ _)); refine blk_far ?_ NB164_179.out _; (with_reducible repeat (first | refine blk_drewN ?_ _ | refine blk_drew ?_ | refine blk_alloc ?_ _)); (first | exact BK164.out | (rw [Nbq39.out]; exact BK164.out) | (rw [← Nbq39.out]; exact BK164.out))) NB164_174.out (by simp)); have n1_ := Aside0.mk (KeepBut.blk hk (g' := gb177) (o := .cells #[.int .i64 x178000_2, .int .i64 x178001_2, .int .i64 x178002_2, .int .i64 x178003_2, .bool x178004_2] 40 (0, 0)) (by (with_reducible repeat (first | refine blk_drewN ?_ _ | refine blk_drew ?_ | refine blk_alloc ?_ _)); refine blk_far ?_ NB177_179.out _; (with_reducible repeat (first | refine blk_drewN ?_ _ | refine blk_drew ?_ | refine blk_alloc ?_ _)); refine blk_far ?_ NB177_179.out _; (with_reducible repeat (first | refine blk_drewN ?_ _ | refine blk_drew ?_ | refine blk_alloc ?_ _)); refine blk_far ?_ NB177_179.out _; (with_reducible repeat (first | refine blk_drewN ?_ _ | refine blk_drew ?_ | refine blk_alloc ?_ _)); (first | exact BK177.out | (rw [Nbq39.out]; exact BK177.out) | (rw [← Nbq39.out]; exact BK177.out))) NB177_174.out (by simp)); have n2_ := Aside0.mk (KeepBut.blk hk (g' := gb179) (o := .cells #[.bool false, .int .i64 ((rd_T34 l1 x52_2).f1), .int .i64 ((rd_T34 l1 x52_2).f2)] 34 (0, 0)) (by (with_reducible repeat (first | refine blk_drewN ?_ _ | refine blk_drew ?_ | refine blk_alloc ?_ _)); refine blk_put (cs := #[.bool (false), .int .i64 ((rd_T34 l1 x52_2).f1), .int .i64 0]) ?_ 2 _ rfl; (with_reducible repeat (first | refine blk_drewN ?_ _ | refine blk_drew ?_ | refine blk_alloc ?_ _)); refine blk_put (cs := #[.bool (false), .int .i64 0, .int .i64 0]) ?_ 1 _ rfl; (with_reducible repeat (first | refine blk_drewN ?_ _ | refine blk_drew ?_ | refine blk_alloc ?_ _)); refine blk_put (cs := #[.bool false, .int .i64 0, .int .i64 0]) ?_ 0 _ rfl; (with_reducible repeat (first | refine blk_drewN ?_ _ | refine blk_drew ?_ | refine blk_alloc ?_ _)); (first | exact BK179.out | (rw [Nbq39.out]; exact BK179.out) | (rw [← Nbq39.out]; exact BK179.out))) NB179_174.out (by simp)); have n3_ := Aside0.mk (hb); have n4_ := Aside0.mk (hi); clear BK164; clear BK177; clear BK179; clear HB; clear HI174; have BK164 := n0_; have BK177 := n1_; have BK179 := n2_; have HB := n3_; have HI174 := n4_; clear n0_ n1_ n2_ n3_ n4_; (try clear hb); (try clear hb2); (try clear hk); (try clear hi); have hnb103 := NB177_164.out; have hnc103 := NB164_177.out; have hnb104 := NB177_174.out; have hnc104 := NB174_177.out; have hcz105_0 : w102.cell? ⟨gb177, 0, none⟩ = some (.int .i64 x178000_2) := (blk_cell BK177.out 0).trans rfl; have hcz105_1 : w102.cell? ⟨gb177, 1, none⟩ = some (.int .i64 x178001_2) := (blk_cell BK177.out 1).trans rfl; have hcz105_2 : w102.cell? ⟨gb177, 2, none⟩ = some (.int .i64 x178002_2) := (blk_cell BK177.out 2).trans rfl; have hcz105_3 : w102.cell? ⟨gb177, 3, none⟩ = some (.int .i64 x178003_2) := (blk_cell BK177.out 3).trans rfl; have hcz105_4 : w102.cell? ⟨gb177, 4, none⟩ = some (.bool x178004_2) := (blk_cell BK177.out 4).trans rfl; have hfz105_0 := blk_frozen BK177.out 0; have hfz105_1 := blk_frozen BK177.out 1; have hfz105_2 := blk_frozen BK177.out 2; have hfz105_3 := blk_frozen BK177.out 3; have hfz105_4 := blk_frozen BK177.out 4; have hcz106_0 : w102.cell? ⟨gb179, 0, none⟩ = some (.bool false) := (blk_cell BK179.out 0).trans rfl; have hcz106_1 : w102.cell? ⟨gb179, 1, none⟩ = some (.int .i64 ((rd_T34 l1 x52_2).f1)) := (blk_cell BK179.out 1).trans rfl; have hcz106_2 : w102.cell? ⟨gb179, 2, none⟩ = some (.int .i64 ((rd_T34 l1 x52_2).f2)) := (blk_cell BK179.out 2).trans rfl; have hfz106_0 := blk_frozen BK179.out 0; have hfz106_1 := blk_frozen BK179.out 1; have hfz106_2 := blk_frozen BK179.out 2) | ((with_reducible refine gate_callee (f := 18) rfl ?_); refine goesL_ (some 85) rfl rfl Try.func18 (by kernel_rfl) rfl #[.agg #[.int .i64 x178000_2, .int .i64 x178001_2, .int .i64 x178002_2, .int .i64 x178003_2, .bool x178004_2], .int .i64 ((rd_T34 l1 x52_2).f1), .int .i64 ((rd_T34 l1 x52_2).f2)] rfl (by (try simp only [List.map_toArray, List.map_cons, List.map_nil]); first | done | rfl | (simp only [List.length_drop, List.length_take]; rfl)) ?_; (with_reducible refine (trickleref08_Harvest.calls x178000_2 x178001_2 x178002_2 x178003_2 x178004_2 ((rd_T34 l1 x52_2).f1) ((rd_T34 l1 x52_2).f2) t199 t200 t201 t202 t203 t204 _ A79.out).mono ?_); rintro e w107 ⟨rfl, hb⟩; refine ⟨_, rfl, ?_⟩; have n0_ := Aside0.mk (blk_below (g := gb164) (o := .cells #[.int .i64 a0_0, .int .i64 a0_1, .int .i64 a0_2] 23 (0, 0)) (by (with_reducible repeat (first | refine blk_drewN ?_ _ | refine blk_drew ?_ | refine blk_alloc ?_ _)); (first | exact BK164.out | (rw [Nbq39.out]; exact BK164.out) | (rw [← Nbq39.out]; exact BK164.out))) hb); have n1_ := Aside0.mk (blk_below (g := gb177) (o := .cells #[.int .i64 x178000_2, .int .i64 x178001_2, .int .i64 x178002_2, .int .i64 x178003_2, .bool x178004_2] 40 (0, 0)) (by (with_reducible repeat (first | refine blk_drewN ?_ _ | refine blk_drew ?_ | refine blk_alloc ?_ _)); (first | exact BK177.out | (rw [Nbq39.out]; exact BK177.out) | (rw [← Nbq39.out]; exact BK177.out))) hb); have n2_ := Aside0.mk (IsS70.below (by repeat (first | (with_reducible first | exact HI174.out | apply IsS70.alloc | apply IsS70.drewN | apply IsS70.drew | apply IsS70.set_0 | apply IsS70.set_1 | apply IsS70.set_2 | apply IsS70.set_3 | apply IsS70.set_4 | refine IsS70.far ?_ NB174_164.out _ | refine IsS70.far ?_ NB174_177.out _ | refine IsS70.far ?_ NB174_179.out _) | exact HI174.out)) hb); have n3_ := Aside0.mk (blk_below (g := gb179) (o := .cells #[.bool false, .int .i64 ((rd_T34 l1 x52_2).f1), .int .i64 ((rd_T34 l1 x52_2).f2)] 34 (0, 0)) (by (with_reducible repeat (first | refine blk_drewN ?_ _ | refine blk_drew ?_ | refine blk_alloc ?_ _)); (first | exact BK179.out | (rw [Nbq39.out]; exact BK179.out) | (rw [← Nbq39.out]; exact BK179.out))) hb); have n4_ := Aside0.mk (below_step (by repeat (first | (with_reducible first | exact HB.out | apply below_alloc | apply pw_below_drewN | apply below_drew1 | refine below_set ?_ (IsS70.ge HI174.out) | refine below_set ?_ GE164.out | refine below_set ?_ GE177.out | refine below_set ?_ GE179.out) | exact HB.out)) hb); clear BK164; clear BK177; clear HI174; clear BK179; clear HB; have BK164 := n0_; have BK177 := n1_; have HI174 := n2_; have BK179 := n3_; have HB := n4_; clear n0_ n1_ n2_ n3_ n4_; (try clear hb); (try clear hb2); (try clear hk); (try clear hi)) | ((with_reducible refine gate_dst (N := 16) rfl ?_); refine box_event ?hg (N := 16) ?hd (cs := #[.int .i64 0, .int .i64 0, .int .i64 0, .int .i64 0, .bool false]) (t := 40) ?hr ?_; (case hd => rfl); (case hg => rfl); (case hr => first | (go_simp; done) | (go_simp; rfl)); intro gb205 hg w108 hbox hb; have n0_ := Aside0.mk (blk_below (g := gb164) (o := .cells #[.int .i64 a0_0, .int .i64 a0_1, .int .i64 a0_2] 23 (0, 0)) (by (with_reducible repeat (first | refine blk_drewN ?_ _ | refine blk_drew ?_ | refine blk_alloc ?_ _)); (first | exact BK164.out | (rw [Nbq39.out]; exact BK164.out) | (rw [← Nbq39.out]; exact BK164.out))) hb); have n1_ := Aside0.mk (blk_below (g := gb177) (o := .cells #[.int .i64 x178000_2, .int .i64 x178001_2, .int .i64 x178002_2, .int .i64 x178003_2, .bool x178004_2] 40 (0, 0)) (by (with_reducible repeat (first | refine blk_drewN ?_ _ | refine blk_drew ?_ | refine blk_alloc ?_ _)); (first | exact BK177.out | (rw [Nbq39.out]; exact BK177.out) | (rw [← Nbq39.out]; exact BK177.out))) hb); have n2_ := Aside0.mk (IsS70.below (by repeat (first | (with_reducible first | exact HI174.out | apply IsS70.alloc | apply IsS70.drewN | apply IsS70.drew | apply IsS70.set_0 | apply IsS70.set_1 | apply IsS70.set_2 | apply IsS70.set_3 | apply IsS70.set_4 | refine IsS70.far ?_ NB174_164.out _ | refine IsS70.far ?_ NB174_177.out _ | refine IsS70.far ?_ NB174_179.out _) | exact HI174.out)) hb); have n3_ := Aside0.mk (blk_below (g := gb179) (o := .cells #[.bool false, .int .i64 ((rd_T34 l1 x52_2).f1), .int .i64 ((rd_T34 l1 x52_2).f2)] 34 (0, 0)) (by (with_reducible repeat (first | refine blk_drewN ?_ _ | refine blk_drew ?_ | refine blk_alloc ?_ _)); (first | exact BK179.out | (rw [Nbq39.out]; exact BK179.out) | (rw [← Nbq39.out]; exact BK179.out))) hb); have n4_ := Aside0.mk (below_step (by repeat (first | (with_reducible first | exact HB.out | apply below_alloc | apply pw_below_drewN | apply below_drew1 | refine below_set ?_ (IsS70.ge HI174.out) | refine below_set ?_ GE164.out | refine below_set ?_ GE177.out | refine below_set ?_ GE179.out) | exact HB.out)) hb); have n5_ := Aside0.mk (hbox); have n6_ := Aside0.mk ((by rw [hg]; exact (below_size (by repeat (first | (with_reducible first | exact HB.out | apply below_alloc | apply pw_below_drewN | apply below_drew1 | refine below_set ?_ (IsS70.ge HI174.out) | refine below_set ?_ GE164.out | refine below_set ?_ GE177.out | refine below_set ?_ GE179.out) | exact HB.out))) : w.heap.size ≤ gb205)); have n7_ := Aside0.mk ((by rw [hg]; exact (below_size (by repeat (first | (with_reducible first | exact HB.out | apply below_alloc | apply pw_below_drewN | apply below_drew1 | refine below_set ?_ (IsS70.ge HI174.out) | refine below_set ?_ GE164.out | refine below_set ?_ GE177.out | refine below_set ?_ GE179.out) | exact HB.out))) : w.heap.size ≤ gb205)); have n8_ := Aside0.mk ((by rw [hg]; exact Nat.ne_of_lt (blk_lt (g := gb164) (o := .cells #[.int .i64 a0_0, .int .i64 a0_1, .int .i64 a0_2] 23 (0, 0)) (by (with_reducible repeat (first | refine blk_drewN ?_ _ | refine blk_drew ?_ | refine blk_alloc ?_ _)); (first | exact BK164.out | (rw [Nbq39.out]; exact BK164.out) | (rw [← Nbq39.out]; exact BK164.out)))) : gb164 ≠ gb205)); have n9_ := Aside0.mk ((by rw [hg]; exact Nat.ne_of_gt (blk_lt (g := gb164) (o := .cells #[.int .i64 a0_0, .int .i64 a0_1, .int .i64 a0_2] 23 (0, 0)) (by (with_reducible repeat (first | refine blk_drewN ?_ _ | refine blk_drew ?_ | refine blk_alloc ?_ _)); (first | exact BK164.out | (rw [Nbq39.out]; exact BK164.out) | (rw [← Nbq39.out]; exact BK164.out)))) : gb205 ≠ gb164)); have n10_ := Aside0.mk ((by rw [hg]; exact Nat.ne_of_lt (blk_lt (g := gb177) (o := .cells #[.int .i64 x178000_2, .int .i64 x178001_2, .int .i64 x178002_2, .int .i64 x178003_2, .bool x178004_2] 40 (0, 0)) (by (with_reducible repeat (first | refine blk_drewN ?_ _ | refine blk_drew ?_ | refine blk_alloc ?_ _)); (first | exact BK177.out | (rw [Nbq39.out]; exact BK177.out) | (rw [← Nbq39.out]; exact BK177.out)))) : gb177 ≠ gb205)); have n11_ := Aside0.mk ((by rw [hg]; exact Nat.ne_of_gt (blk_lt (g := gb177) (o := .cells #[.int .i64 x178000_2, .int .i64 x178001_2, .int .i64 x178002_2, .int .i64 x178003_2, .bool x178004_2] 40 (0, 0)) (by (with_reducible repeat (first | refine blk_drewN ?_ _ | refine blk_drew ?_ | refine blk_alloc ?_ _)); (first | exact BK177.out | (rw [Nbq39.out]; exact BK177.out) | (rw [← Nbq39.out]; exact BK177.out)))) : gb205 ≠ gb177)); have n12_ := Aside0.mk ((by rw [hg]; exact Nat.ne_of_lt (blk_lt (g := gb179) (o := .cells #[.bool false, .int .i64 ((rd_T34 l1 x52_2).f1), .int .i64 ((rd_T34 l1 x52_2).f2)] 34 (0, 0)) (by (with_reducible repeat (first | refine blk_drewN ?_ _ | refine blk_drew ?_ | refine blk_alloc ?_ _)); (first | exact BK179.out | (rw [Nbq39.out]; exact BK179.out) | (rw [← Nbq39.out]; exact BK179.out)))) : gb179 ≠ gb205)); have n13_ := Aside0.mk ((by rw [hg]; exact Nat.ne_of_gt (blk_lt (g := gb179) (o := .cells #[.bool false, .int .i64 ((rd_T34 l1 x52_2).f1), .int .i64 ((rd_T34 l1 x52_2).f2)] 34 (0, 0)) (by (with_reducible repeat (first | refine blk_drewN ?_ _ | refine blk_drew ?_ | refine blk_alloc ?_ _)); (first | exact BK179.out | (rw [Nbq39.out]; exact BK179.out) | (rw [← Nbq39.out]; exact BK179.out)))) : gb205 ≠ gb179)); have n14_ := Aside0.mk ((by rw [hg]; exact Nat.ne_of_lt (IsS70.lt (show IsS70 w _ g174 t194 t195 t196 t197 t198 from by repeat (first | (with_reducible first | exact HI174.out | apply IsS70.alloc | apply IsS70.drewN | apply IsS70.drew | apply IsS70.set_0 | apply IsS70.set_1 | apply IsS70.set_2 | apply IsS70.set_3 | apply IsS70.set_4 | refine IsS70.far ?_ NB174_164.out _ | refine IsS70.far ?_ NB174_177.out _ | refine IsS70.far ?_ NB174_179.out _) | exact HI174.out))) : g174 ≠ gb205)); have n15_ := Aside0.mk ((by rw [hg]; exact Nat.ne_of_gt (IsS70.lt (show IsS70 w _ g174 t194 t195 t196 t197 t198 from by repeat (first | (with_reducible first | exact HI174.out | apply IsS70.alloc | apply IsS70.drewN | apply IsS70.drew | apply IsS70.set_0 | apply IsS70.set_1 | apply IsS70.set_2 | apply IsS70.set_3 | apply IsS70.set_4 | refine IsS70.far ?_ NB174_164.out _ | refine IsS70.far ?_ NB174_177.out _ | refine IsS70.far ?_ NB174_179.out _) | exact HI174.out))) : gb205 ≠ g174)); clear BK164; clear BK177; clear HI174; clear BK179; clear HB; have BK164 := n0_; have BK177 := n1_; have HI174 := n2_; have BK179 := n3_; have HB := n4_; have BK205 := n5_; have GW205 := n6_; have GE205 := n7_; have NB164_205 := n8_; have NB205_164 := n9_; have NB177_205 := n10_; have NB205_177 := n11_; have NB179_205 := n12_; have NB205_179 := n13_; have NB174_205 := n14_; have NB205_174 := n15_; clear n0_ n1_ n2_ n3_ n4_ n5_ n6_ n7_ n8_ n9_ n10_ n11_ n12_ n13_ n14_ n15_; clear hb hbox hg; have hnb109 := NB205_164.out; have hnc109 := NB164_205.out; have hnb110 := NB205_177.out; have hnc110 := NB177_205.out; have hnb111 := NB205_179.out; have hnc111 := NB179_205.out; have hnb112 := NB205_174.out; have hnc112 := NB174_205.out; have hcz113_0 : w108.cell? ⟨gb205, 0, none⟩ = some (.int .i64 0) := (blk_cell BK205.out 0).trans rfl; have hcz113_1 : w108.cell? ⟨gb205, 1, none⟩ = some (.int .i64 0) := (blk_cell BK205.out 1).trans rfl; have hcz113_2 : w108.cell? ⟨gb205, 2, none⟩ = some (.int .i64 0) := (blk_cell BK205.out 2).trans rfl; have hcz113_3 : w108.cell? ⟨gb205, 3, none⟩ = some (.int .i64 0) := (blk_cell BK205.out 3).trans rfl; have hcz113_4 : w108.cell? ⟨gb205, 4, none⟩ = some (.bool false) := (blk_cell BK205.out 4).trans rfl; have hfz113_0 := blk_frozen BK205.out 0; have hfz113_1 := blk_frozen BK205.out 1; have hfz113_2 := blk_frozen BK205.out 2; have hfz113_3 := blk_frozen BK205.out 3; have hfz113_4 := blk_frozen BK205.out 4; have hcz114_0 : w108.cell? ⟨gb177, 0, none⟩ = some (.int .i64 x178000_2) := (blk_cell BK177.out 0).trans rfl; have hcz114_1 : w108.cell? ⟨gb177, 1, none⟩ = some (.int .i64 x178001_2) := (blk_cell BK177.out 1).trans rfl; have hcz114_2 : w108.cell? ⟨gb177, 2, none⟩ = some (.int .i64 x178002_2) := (blk_cell BK177.out 2).trans rfl; have hcz114_3 : w108.cell? ⟨gb177, 3, none⟩ = some (.int .i64 x178003_2) := (blk_cell BK177.out 3).trans rfl; have hcz114_4 : w108.cell? ⟨gb177, 4, none⟩ = some (.bool x178004_2) := (blk_cell BK177.out 4).trans rfl; have hfz114_0 := blk_frozen BK177.out 0; have hfz114_1 := blk_frozen BK177.out 1; have hfz114_2 := blk_frozen BK177.out 2; have hfz114_3 := blk_frozen BK177.out 3; have hfz114_4 := blk_frozen BK177.out 4))
               go_ret
               exact ⟨by first | rfl | (simp [errW_none, errW_some] <;> rfl) | (simp [*, errW_none, errW_some] <;> rfl), by repeat (first | (with_reducible first | exact HB.out | apply below_alloc | apply pw_below_drewN | apply below_drew1 | refine below_set ?_ (IsS70.ge HI174.out) | refine below_set ?_ GE164.out | refine below_set ?_ GE177.out | refine below_set ?_ GE179.out | refine below_set ?_ GE205.out) | exact HB.out)⟩
            case rest =>
             clear HC33
             try clear c1
             try clear p1
             try clear q1
             try clear hx1
             try clear c2
             try clear p2
             try clear c3
             try clear q3
             try clear c4
             try clear c5
             try clear c6
             try clear c6b0
             try clear c6b1
             try clear c7
             try clear c8
             try clear c9
             try clear c10
             try clear c11
             try clear c12
             try clear c14
             try clear c15
             try clear c17
             try clear p17
             try clear q17
             try clear hx17
             try clear c18
             try clear c19
             try clear c22
             try clear c22b0
             try clear c22b1
             try clear c23
             try clear c24
             try clear c27
             try clear c28
             try clear c30
             try clear c30b0
             try clear c31
             try clear c31b0
             try clear c32
             try clear c32b0
             try clear c35
             try clear c36
             try clear c37
             try clear q39
             try clear c40
             try clear c43
             try clear c43b0
             try clear c43b1
             try clear c43b2
             try clear c44
             try clear c45
             try clear c46
             try clear c49
             try clear c50
             try clear c55
             try clear c56
             try clear c57
             try clear c58
             try clear c61
             try clear c62
             try clear c63
             try clear c66
             try clear c67
             try clear c72
             try clear c73
             try clear c74
             try clear c75
             try clear c80
             try clear c80b0
             try clear c80b1
             try clear c81
             try clear c82
             try clear c83
             try clear c86
             try clear c87
             try clear c92
             try clear c93
             try clear c94
             try clear c95
             try clear c98
             try clear c99
             try clear c100
             try clear c103
             try clear c104
             try clear c109
             try clear c110
             try clear c111
             try clear c112
             try clear hcz101_0
             try clear hcz101_1
             try clear hcz101_2
             try clear hcz105_0
             try clear hcz105_1
             try clear hcz105_2
             try clear hcz105_3
             try clear hcz105_4
             try clear hcz106_0
             try clear hcz106_1
             try clear hcz106_2
             try clear hcz113_0
             try clear hcz113_1
             try clear hcz113_2
             try clear hcz113_3
             try clear hcz113_4
             try clear hcz114_0
             try clear hcz114_1
             try clear hcz114_2
             try clear hcz114_3
             try clear hcz114_4
             try clear hcz16_0
             try clear hcz16_1
             try clear hcz16_2
             try clear hcz20_0
             try clear hcz20_1
             try clear hcz20_2
             try clear hcz25_0
             try clear hcz25_1
             try clear hcz25_2
             try clear hcz29_0
             try clear hcz29_1
             try clear hcz29_2
             try clear hcz29_3
             try clear hcz29_4
             try clear hcz38_0
             try clear hcz38_1
             try clear hcz38_2
             try clear hcz47_0
             try clear hcz47_1
             try clear hcz47_2
             try clear hcz51_0
             try clear hcz51_1
             try clear hcz51_2
             try clear hcz51_3
             try clear hcz51_4
             try clear hcz52_0
             try clear hcz52_1
             try clear hcz52_2
             try clear hcz59_0
             try clear hcz59_1
             try clear hcz59_2
             try clear hcz59_3
             try clear hcz59_4
             try clear hcz60_0
             try clear hcz60_1
             try clear hcz60_2
             try clear hcz60_3
             try clear hcz60_4
             try clear hcz64_0
             try clear hcz64_1
             try clear hcz64_2
             try clear hcz68_0
             try clear hcz68_1
             try clear hcz68_2
             try clear hcz68_3
             try clear hcz68_4
             try clear hcz69_0
             try clear hcz69_1
             try clear hcz69_2
             try clear hcz76_0
             try clear hcz76_1
             try clear hcz76_2
             try clear hcz76_3
             try clear hcz76_4
             try clear hcz77_0
             try clear hcz77_1
             try clear hcz77_2
             try clear hcz77_3
             try clear hcz77_4
             try clear hcz84_0
             try clear hcz84_1
             try clear hcz84_2
             try clear hcz88_0
             try clear hcz88_1
             try clear hcz88_2
             try clear hcz88_3
             try clear hcz88_4
             try clear hcz89_0
             try clear hcz89_1
             try clear hcz89_2
             try clear hcz96_0
             try clear hcz96_1
             try clear hcz96_2
             try clear hcz96_3
             try clear hcz96_4
             try clear hcz97_0
             try clear hcz97_1
             try clear hcz97_2
             try clear hcz97_3
             try clear hcz97_4
             try clear hfz101_0
             try clear hfz101_1
             try clear hfz101_2
             try clear hfz105_0
             try clear hfz105_1
             try clear hfz105_2
             try clear hfz105_3
             try clear hfz105_4
             try clear hfz106_0
             try clear hfz106_1
             try clear hfz106_2
             try clear hfz113_0
             try clear hfz113_1
             try clear hfz113_2
             try clear hfz113_3
             try clear hfz113_4
             try clear hfz114_0
             try clear hfz114_1
             try clear hfz114_2
             try clear hfz114_3
             try clear hfz114_4
             try clear hfz16_0
             try clear hfz16_1
             try clear hfz16_2
             try clear hfz20_0
             try clear hfz20_1
             try clear hfz20_2
             try clear hfz25_0
             try clear hfz25_1
             try clear hfz25_2
             try clear hfz29_0
             try clear hfz29_1
             try clear hfz29_2
             try clear hfz29_3
             try clear hfz29_4
             try clear hfz38_0
             try clear hfz38_1
             try clear hfz38_2
             try clear hfz47_0
             try clear hfz47_1
             try clear hfz47_2
             try clear hfz51_0
             try clear hfz51_1
             try clear hfz51_2
             try clear hfz51_3
             try clear hfz51_4
             try clear hfz52_0
             try clear hfz52_1
             try clear hfz52_2
             try clear hfz59_0
             try clear hfz59_1
             try clear hfz59_2
             try clear hfz59_3
             try clear hfz59_4
             try clear hfz60_0
             try clear hfz60_1
             try clear hfz60_2
             try clear hfz60_3
             try clear hfz60_4
             try clear hfz64_0
             try clear hfz64_1
             try clear hfz64_2
             try clear hfz68_0
             try clear hfz68_1
             try clear hfz68_2
             try clear hfz68_3
             try clear hfz68_4
             try clear hfz69_0
             try clear hfz69_1
             try clear hfz69_2
             try clear hfz76_0
             try clear hfz76_1
             try clear hfz76_2
             try clear hfz76_3
             try clear hfz76_4
             try clear hfz77_0
             try clear hfz77_1
             try clear hfz77_2
             try clear hfz77_3
             try clear hfz77_4
             try clear hfz84_0
             try clear hfz84_1
             try clear hfz84_2
             try clear hfz88_0
             try clear hfz88_1
             try clear hfz88_2
             try clear hfz88_3
             try clear hfz88_4
             try clear hfz89_0
             try clear hfz89_1
             try clear hfz89_2
             try clear hfz96_0
             try clear hfz96_1
             try clear hfz96_2
             try clear hfz96_3
             try clear hfz96_4
             try clear hfz97_0
             try clear hfz97_1
             try clear hfz97_2
             try clear hfz97_3
             try clear hfz97_4
             try clear hx178_0
             try clear hx178_1
             try clear hx178_2
             try clear p178
             try clear p2
             try clear q178
             obtain ⟨kq, x175000_32, x175001_32, x175002_32, x175003_32, x175004_32, x178000_32, x178001_32, x178002_32, x178003_32, x178004_32, HA, HJ32, BK164, BK177, BK179, HI174, HB⟩ := hcut
             cases kq with
             | zero => exact absurd HA.out (by simp [mm.j2])
             | succ kj32 =>
              have H := HA.out
              clear HA
              simp only [mm.j2] at H
              replace H := Option.bind_eq_some_iff.mp H
              obtain ⟨⟨t206, t207, t208, t209, t210, t211, t212⟩, A1150, H⟩ := H
              replace H : ((trickleref08_WaitTime.f kj32 x178000_32 x178001_32 x178002_32 x178003_32 x178004_32 a2).bind fun bt213 => ((capacitor_Capacitor_Charge.f t208 t209 t210 t211 t212).bind fun bt215 => (if bt215.1 = x178003_32 then ((capacitor_Capacitor_Running.f bt215.2.1 bt215.2.2.1 bt215.2.2.2.1 bt215.2.2.2.2.1 bt215.2.2.2.2.2).bind fun bt221 => (if (bt221.1 != x178004_32) = true then (some false) else (if t206 = bt213.1 then (if (t207 != bt213.2) = true then (some false) else (mm.l0 kj32 a2 l1 (l1.length : Int) (wrap64 (x52_2 + 1)) bt221.2.1 bt221.2.2.1 bt221.2.2.2.1 bt221.2.2.2.2.1 bt221.2.2.2.2.2 x178000_32 x178001_32 x178002_32 x178003_32 x178004_32)) else (some false)))) else (some false)))) = some r := H
              have A115 := Aside0.mk A1150
              clear A1150
              replace H := Option.bind_eq_some_iff.mp H
              obtain ⟨⟨t213, t214⟩, A1160, H⟩ := H
              replace H : ((capacitor_Capacitor_Charge.f t208 t209 t210 t211 t212).bind fun bt215 => (if bt215.1 = x178003_32 then ((capacitor_Capacitor_Running.f bt215.2.1 bt215.2.2.1 bt215.2.2.2.1 bt215.2.2.2.2.1 bt215.2.2.2.2.2).bind fun bt221 => (if (bt221.1 != x178004_32) = true then (some false) else (if t206 = t213 then (if (t207 != t214) = true then (some false) else (mm.l0 kj32 a2 l1 (l1.length : Int) (wrap64 (x52_2 + 1)) bt221.2.1 bt221.2.2.1 bt221.2.2.2.1 bt221.2.2.2.2.1 bt221.2.2.2.2.2 x178000_32 x178001_32 x178002_32 x178003_32 x178004_32)) else (some false)))) else (some false))) = some r := H
              have A116 := Aside0.mk A1160
              clear A1160
              replace H := Option.bind_eq_some_iff.mp H
              obtain ⟨⟨t215, t216, t217, t218, t219, t220⟩, A1170, H⟩ := H
              replace H : (if t215 = x178003_32 then ((capacitor_Capacitor_Running.f t216 t217 t218 t219 t220).bind fun bt221 => (if (bt221.1 != x178004_32) = true then (some false) else (if t206 = t213 then (if (t207 != t214) = true then (some false) else (mm.l0 kj32 a2 l1 (l1.length : Int) (wrap64 (x52_2 + 1)) bt221.2.1 bt221.2.2.1 bt221.2.2.2.1 bt221.2.2.2.2.1 bt221.2.2.2.2.2 x178000_32 x178001_32 x178002_32 x178003_32 x178004_32)) else (some false)))) else (some false)) = some r := H
              have A117 := Aside0.mk A1170
              clear A1170
              by_cases c118 : t215 = x178003_32
              ·
               rw [if_pos c118] at H
               have c118b0 : (t215 == x178003_32) = true := beq_iff_eq.mpr c118
               have c118b1 : (t215 != x178003_32) = false := bne_eq_false_iff_eq.mpr c118
               clear c118
               replace H := Option.bind_eq_some_iff.mp H
               obtain ⟨⟨t221, t222, t223, t224, t225, t226⟩, A1190, H⟩ := H
               replace H : (if (t221 != x178004_32) = true then (some false) else (if t206 = t213 then (if (t207 != t214) = true then (some false) else (mm.l0 kj32 a2 l1 (l1.length : Int) (wrap64 (x52_2 + 1)) t222 t223 t224 t225 t226 x178000_32 x178001_32 x178002_32 x178003_32 x178004_32)) else (some false))) = some r := H
               have A119 := Aside0.mk A1190
               clear A1190
               by_cases c120 : (t221 != x178004_32) = true
               ·
                rw [if_pos c120] at H
                have c120b0 : (t221 != x178004_32) = true := c120
                (try (have c120b1 : decide (t221 = x178004_32) = false := by simpa using c120))
                (try (have c120b2 : (t221 == x178004_32) = false := by simpa using c120))
                (try (have c120b3 : ¬ (t221 = x178004_32) := by simpa using c120))
                clear c120
                obtain rfl := Option.some.inj H
                try go_wp2_with (first | ((with_reducible refine gate_callee (f := 19) rfl ?_); refine goesL_ (some 95) rfl rfl Try.func19 (by kernel_rfl) rfl #[.pointer (some ⟨g174, 0, none⟩), .int .i64 a2] rfl (by (try simp only [List.map_toArray, List.map_cons, List.map_nil]); first | done | rfl | (simp only [List.length_drop, List.length_take]; rfl)) ?_; (with_reducible refine (capacitor_Capacitor_WaitTime.calls g174 x175000_32 x175001_32 x175002_32 x175003_32 x175004_32 a2 t206 t207 t208 t209 t210 t211 t212 w _ ?side1 ?side2 A115.out).mono ?_); (case side1 => repeat (first | (with_reducible first | exact HI174.out | apply IsS70.alloc | apply IsS70.drewN | apply IsS70.drew | apply IsS70.set_0 | apply IsS70.set_1 | apply IsS70.set_2 | apply IsS70.set_3 | apply IsS70.set_4 | refine IsS70.far ?_ NB174_164.out _ | refine IsS70.far ?_ NB174_177.out _ | refine IsS70.far ?_ NB174_179.out _) | exact HI174.out)); (case side2 => repeat (first | (with_reducible first | exact HB.out | apply below_alloc | apply pw_below_drewN | apply below_drew1 | refine below_set ?_ (IsS70.ge HI174.out) | refine below_set ?_ GE164.out | refine below_set ?_ GE177.out | refine below_set ?_ GE179.out) | exact HB.out)); rintro e w121 ⟨rfl, hi, hb, hk⟩; refine ⟨_, rfl, ?_⟩; have n0_ := Aside0.mk (KeepBut.blk hk (g' := gb164) (o := .cells #[.int .i64 a0_0, .int .i64 a0_1, .int .i64 a0_2] 23 (0, 0)) (by (with_reducible repeat (first | refine blk_drewN ?_ _ | refine blk_drew ?_ | refine blk_alloc ?_ _)); (first | exact BK164.out | (rw [Nbq39.out]; exact BK164.out) | (rw [← Nbq39.out]; exact BK164.out))) NB164_174.out (by simp)); have n1_ := Aside0.mk (KeepBut.blk hk (g' := gb177) (o := .cells #[.int .i64 x178000_32, .int .i64 x178001_32, .int .i64 x178002_32, .int .i64 x178003_32, .bool x178004_32] 40 (0, 0)) (by (with_reducible repeat (first | refine blk_drewN ?_ _ | refine blk_drew ?_ | refine blk_alloc ?_ _)); (first | exact BK177.out | (rw [Nbq39.out]; exact BK177.out) | (rw [← Nbq39.out]; exact BK177.out))) NB177_174.out (by simp)); have n2_ := Aside0.mk (KeepBut.blk hk (g' := gb179) (o := .cells #[.bool ((rd_T34 l1 x52_2).f0), .int .i64 ((rd_T34 l1 x52_2).f1), .int .i64 ((rd_T34 l1 x52_2).f2)] 34 (0, 0)) (by (with_reducible repeat (first | refine blk_drewN ?_ _ | refine blk_drew ?_ | refine blk_alloc ?_ _)); (first | exact BK179.out | (rw [Nbq39.out]; exact BK179.out) | (rw [← Nbq39.out]; exact BK179.out))) NB179_174.out (by simp)); have n3_ := Aside0.mk (hb); have n4_ := Aside0.mk (hi); clear BK164; clear BK177; clear BK179; clear HB; clear HI174; have BK164 := n0_; have BK177 := n1_; have BK179 := n2_; have HB := n3_; have HI174 := n4_; clear n0_ n1_ n2_ n3_ n4_; (try clear hb); (try clear hb2); (try clear hk); (try clear hi); have hnb122 := NB177_164.out; have hnc122 := NB164_177.out; have hnb123 := NB177_179.out; have hnc123 := NB179_177.out; have hnb124 := NB177_174.out; have hnc124 := NB174_177.out; have hcz125_0 : w121.cell? ⟨gb177, 0, none⟩ = some (.int .i64 x178000_32) := (blk_cell BK177.out 0).trans rfl; have hcz125_1 : w121.cell? ⟨gb177, 1, none⟩ = some (.int .i64 x178001_32) := (blk_cell BK177.out 1).trans rfl; have hcz125_2 : w121.cell? ⟨gb177, 2, none⟩ = some (.int .i64 x178002_32) := (blk_cell BK177.out 2).trans rfl; have hcz125_3 : w121.cell? ⟨gb177, 3, none⟩ = some (.int .i64 x178003_32) := (blk_cell BK177.out 3).trans rfl; have hcz125_4 : w121.cell? ⟨gb177, 4, none⟩ = some (.bool x178004_32) := (blk_cell BK177.out 4).trans rfl; have hfz125_0 := blk_frozen BK177.out 0; have hfz125_1 := blk_frozen BK177.out 1; have hfz125_2 := blk_frozen BK177.out 2; have hfz125_3 := blk_frozen BK177.out 3; have hfz125_4 := blk_frozen BK177.out 4) | ((with_reducible refine gate_callee (f := 20) rfl ?_); refine goesL_ (some 101) rfl rfl Try.func20 (by kernel_rfl) rfl #[.agg #[.int .i64 x178000_32, .int .i64 x178001_32, .int .i64 x178002_32, .int .i64 x178003_32, .bool x178004_32], .int .i64 a2] rfl (by (try simp only [List.map_toArray, List.map_cons, List.map_nil]); first | done | rfl | (simp only [List.length_drop, List.length_take]; rfl)) ?_; (with_reducible refine (trickleref08_WaitTime.calls kj32 x178000_32 x178001_32 x178002_32 x178003_32 x178004_32 a2 t213 t214 _ A116.out).mono ?_); rintro e w126 ⟨rfl, hb⟩; refine ⟨_, rfl, ?_⟩; have n0_ := Aside0.mk (blk_below (g := gb164) (o := .cells #[.int .i64 a0_0, .int .i64 a0_1, .int .i64 a0_2] 23 (0, 0)) (by (with_reducible repeat (first | refine blk_drewN ?_ _ | refine blk_drew ?_ | refine blk_alloc ?_ _)); (first | exact BK164.out | (rw [Nbq39.out]; exact BK164.out) | (rw [← Nbq39.out]; exact BK164.out))) hb); have n1_ := Aside0.mk (blk_below (g := gb177) (o := .cells #[.int .i64 x178000_32, .int .i64 x178001_32, .int .i64 x178002_32, .int .i64 x178003_32, .bool x178004_32] 40 (0, 0)) (by (with_reducible repeat (first | refine blk_drewN ?_ _ | refine blk_drew ?_ | refine blk_alloc ?_ _)); (first | exact BK177.out | (rw [Nbq39.out]; exact BK177.out) | (rw [← Nbq39.out]; exact BK177.out))) hb); have n2_ := Aside0.mk (blk_below (g := gb179) (o := .cells #[.bool ((rd_T34 l1 x52_2).f0), .int .i64 ((rd_T34 l1 x52_2).f1), .int .i64 ((rd_T34 l1 x52_2).f2)] 34 (0, 0)) (by (with_reducible repeat (first | refine blk_drewN ?_ _ | refine blk_drew ?_ | refine blk_alloc ?_ _)); (first | exact BK179.out | (rw [Nbq39.out]; exact BK179.out) | (rw [← Nbq39.out]; exact BK179.out))) hb); have n3_ := Aside0.mk (IsS70.below (by repeat (first | (with_reducible first | exact HI174.out | apply IsS70.alloc | apply IsS70.drewN | apply IsS70.drew | apply IsS70.set_0 | apply IsS70.set_1 | apply IsS70.set_2 | apply IsS70.set_3 | apply IsS70.set_4 | refine IsS70.far ?_ NB174_164.out _ | refine IsS70.far ?_ NB174_177.out _ | refine IsS70.far ?_ NB174_179.out _) | exact HI174.out)) hb); have n4_ := Aside0.mk (below_step (by repeat (first | (with_reducible first | exact HB.out | apply below_alloc | apply pw_below_drewN | apply below_drew1 | refine below_set ?_ (IsS70.ge HI174.out) | refine below_set ?_ GE164.out | refine below_set ?_ GE177.out | refine below_set ?_ GE179.out) | exact HB.out)) hb); clear BK164; clear BK177; clear BK179; clear HI174; clear HB; have BK164 := n0_; have BK177 := n1_; have BK179 := n2_; have HI174 := n3_; have HB := n4_; clear n0_ n1_ n2_ n3_ n4_; (try clear hb); (try clear hb2); (try clear hk); (try clear hi)))
                have n0_ := Aside0.mk (blk_drew BK164.out)
                have n1_ := Aside0.mk (blk_drew BK177.out)
                have n2_ := Aside0.mk (blk_drew BK179.out)
                have n3_ := Aside0.mk (IsS70.drew HI174.out)
                have n4_ := Aside0.mk (below_drew1 HB.out)
                clear BK164
                clear BK177
                clear BK179
                clear HI174
                clear HB
                have BK164 := n0_
                have BK177 := n1_
                have BK179 := n2_
                have HI174 := n3_
                have HB := n4_
                clear n0_ n1_ n2_ n3_ n4_
                refine start_ (n := 22) (S := fun w' => w'.cell? ⟨gb177, 0, none⟩ = some (.int .i64 x178000_32) ∧ w'.cell? ⟨gb177, 1, none⟩ = some (.int .i64 x178001_32) ∧ w'.cell? ⟨gb177, 2, none⟩ = some (.int .i64 x178002_32) ∧ w'.cell? ⟨gb177, 3, none⟩ = some (.int .i64 x178003_32) ∧ w'.cell? ⟨gb177, 4, none⟩ = some (.bool x178004_32)) (ds := []) #[false, false, false, false, false, false, false, false, false, false, false, false, false, false, false, false, false, false, false, false, false, false] (by kernel_rfl) rfl rfl ⟨(blk_cell BK177.out 0).trans rfl, (blk_cell BK177.out 1).trans rfl, (blk_cell BK177.out 2).trans rfl, (blk_cell BK177.out 3).trans rfl, (blk_cell BK177.out 4).trans rfl⟩ (fun hHeld => ?_); refine with_tabW mm.tab27 mm.bits27 (fun HT_ HW_ => ?_)
                generalize w126.drew = w127 at BK164 BK177 BK179 HI174 HB hHeld ⊢
                refine pure_ (i := 0) (N := some 104) (v := ?_) (a' := ?_) #[true, false, false, false, false, false, false, false, false, false, false, false, false, false, false, false, false, false, false, false, false, false] rfl rfl (any_of HT_.out (by kernel_rfl)) (fun _ _ _ h => h) (Or.inl ⟨by rfl, ?_⟩) ?_ ?_
                rotate_left
                ·
                 intro w'
                 go_simp
                 with_reducible rfl
                rotate_left
                ·
                 simp only [Act.put, List.setIfInBounds_toArray, List.set_cons_zero, List.set_cons_succ, i64_w, i32_w]
                 rfl
                refine pure_ (i := 2) (N := some 106) (v := ?_) (a' := ?_) #[true, false, true, false, false, false, false, false, false, false, false, false, false, false, false, false, false, false, false, false, false, false] rfl rfl (any_of HT_.out (by kernel_rfl)) (fun _ _ _ h => h) (Or.inl ⟨by rfl, ?_⟩) ?_ ?_
                rotate_left
                ·
                 intro w'
                 go_simp
                 with_reducible rfl
                rotate_left
                ·
                 simp only [Act.put, List.setIfInBounds_toArray, List.set_cons_zero, List.set_cons_succ, i64_w, i32_w]
                 rfl
                refine take_ (i := 3) (N := some 107) (v := ?_) (a' := ?_) #[true, false, true, true, false, false, false, false, false, false, false, false, false, false, false, false, false, false, false, false, false, false] rfl rfl (take_ofW HT_.out HW_.out (by kernel_rfl)) (fun _ _ _ h => h) (Or.inl ⟨by rfl, ?_⟩) hHeld ?_ ?_
                rotate_left
                ·
                 rintro w' ⟨s0, s1, s2, s3, s4⟩
                 go_simp
                 with_reducible rfl
                rotate_left
                ·
                 simp only [Act.put, List.setIfInBounds_toArray, List.set_cons_zero, List.set_cons_succ, i64_w, i32_w]
                 rfl
                refine one_ (i := 1) (N := some 105) #[true, true, true, true, false, false, false, false, false, false, false, false, false, false, false, false, false, false, false, false, false, false] rfl rfl (one_of HT_.out (by kernel_rfl)) (by decide) (fun K hK => ?_)
                refine goes_ Try.func13 (by kernel_rfl) rfl #[.pointer (some ⟨g174, 0, none⟩)] (by rfl) rfl rfl (by (try simp only [List.map_toArray, List.map_cons, List.map_nil]); first | done | rfl | (simp only [List.length_drop, List.length_take]; rfl)) ?_
                with_reducible refine (capacitor_Capacitor_Charge.calls g174 t208 t209 t210 t211 t212 t215 t216 t217 t218 t219 t220 w _ ?side1 ?side2 A117.out).mono ?_
                (case side1 => repeat (first | (with_reducible first | exact HI174.out | apply IsS70.alloc | apply IsS70.drewN | apply IsS70.drew | apply IsS70.set_0 | apply IsS70.set_1 | apply IsS70.set_2 | apply IsS70.set_3 | apply IsS70.set_4 | refine IsS70.far ?_ NB174_164.out _ | refine IsS70.far ?_ NB174_177.out _ | refine IsS70.far ?_ NB174_179.out _) | exact HI174.out))
                (case side2 => repeat (first | (with_reducible first | exact HB.out | apply below_alloc | apply pw_below_drewN | apply below_drew1 | refine below_set ?_ (IsS70.ge HI174.out) | refine below_set ?_ GE164.out | refine below_set ?_ GE177.out | refine below_set ?_ GE179.out) | exact HB.out))
                rintro e w128 ⟨rfl, hi, hb, hk⟩
                refine ⟨_, rfl, ?_⟩
                have n0_ := Aside0.mk (KeepBut.blk hk (g' := gb164) (o := .cells #[.int .i64 a0_0, .int .i64 a0_1, .int .i64 a0_2] 23 (0, 0)) (by (with_reducible repeat (first | refine blk_drewN ?_ _ | refine blk_drew ?_ | refine blk_alloc ?_ _)); (first | exact BK164.out | (rw [Nbq39.out]; exact BK164.out) | (rw [← Nbq39.out]; exact BK164.out))) NB164_174.out (by simp))
                have n1_ := Aside0.mk (KeepBut.blk hk (g' := gb177) (o := .cells #[.int .i64 x178000_32, .int .i64 x178001_32, .int .i64 x178002_32, .int .i64 x178003_32, .bool x178004_32] 40 (0, 0)) (by (with_reducible repeat (first | refine blk_drewN ?_ _ | refine blk_drew ?_ | refine blk_alloc ?_ _)); (first | exact BK177.out | (rw [Nbq39.out]; exact BK177.out) | (rw [← Nbq39.out]; exact BK177.out))) NB177_174.out (by simp))
                have n2_ := Aside0.mk (KeepBut.blk hk (g' := gb179) (o := .cells #[.bool ((rd_T34 l1 x52_2).f0), .int .i64 ((rd_T34 l1 x52_2).f1), .int .i64 ((rd_T34 l1 x52_2).f2)] 34 (0, 0)) (by (with_reducible repeat (first | refine blk_drewN ?_ _ | refine blk_drew ?_ | refine blk_alloc ?_ _)); (first | exact BK179.out | (rw [Nbq39.out]; exact BK179.out) | (rw [← Nbq39.out]; exact BK179.out))) NB179_174.out (by simp))
                have n3_ := Aside0.mk (hb)
                have n4_ := Aside0.mk (hi)
                clear BK164
                clear BK177
                clear BK179
                clear HB
                clear HI174
                have BK164 := n0_
                have BK177 := n1_
                have BK179 := n2_
                have HB := n3_
                have HI174 := n4_
                clear n0_ n1_ n2_ n3_ n4_
                (try clear hb)
                (try clear hb2)
                (try clear hk)
                (try clear hi)
                refine hK.out _ _ ⟨(blk_cell BK177.out 0).trans rfl, (blk_cell BK177.out 1).trans rfl, (blk_cell BK177.out 2).trans rfl, (blk_cell BK177.out 3).trans rfl, (blk_cell BK177.out 4).trans rfl⟩ (fun hHeld => ?_)
                clear hK K
                refine norm_ (a' := ?_) ?_ ?_
                rotate_left
                ·
                 show Act.put _ (some 105) _ = _
                 simp only [Act.put, List.setIfInBounds_toArray, List.set_cons_zero, List.set_cons_succ, i64_w, i32_w]
                 rfl
                refine pure_ (i := 4) (N := some 108) (v := ?_) (a' := ?_) #[true, true, true, true, true, false, false, false, false, false, false, false, false, false, false, false, false, false, false, false, false, false] rfl rfl (any_of HT_.out (by kernel_rfl)) (fun _ _ _ h => h) (Or.inl ⟨by rfl, ?_⟩) ?_ ?_
                rotate_left
                ·
                 intro w'
                 go_simp
                 with_reducible rfl
                rotate_left
                ·
                 simp only [Act.put, List.setIfInBounds_toArray, List.set_cons_zero, List.set_cons_succ, i64_w, i32_w]
                 rfl
                refine pure_ (i := 5) (N := some 109) (v := ?_) (a' := ?_) #[true, true, true, true, true, true, false, false, false, false, false, false, false, false, false, false, false, false, false, false, false, false] rfl rfl (any_of HT_.out (by kernel_rfl)) (fun _ _ _ h => h) (Or.inl ⟨by rfl, ?_⟩) ?_ ?_
                rotate_left
                ·
                 intro w'
                 go_simp
                 with_reducible rfl
                rotate_left
                ·
                 simp only [Act.put, List.setIfInBounds_toArray, List.set_cons_zero, List.set_cons_succ, i64_w, i32_w]
                 rfl
                refine pure_ (i := 6) (N := some 110) (v := ?_) (a' := ?_) #[true, true, true, true, true, true, true, false, false, false, false, false, false, false, false, false, false, false, false, false, false, false] rfl rfl (any_of HT_.out (by kernel_rfl)) (fun _ _ _ h => h) (Or.inl ⟨by rfl, ?_⟩) ?_ ?_
                rotate_left
                ·
                 intro w'
                 go_simp
                 with_reducible rfl
                rotate_left
                ·
                 simp only [Act.put, List.setIfInBounds_toArray, List.set_cons_zero, List.set_cons_succ, i64_w, i32_w]
                 rfl
                refine pure_ (i := 8) (N := some 112) (v := ?_) (a' := ?_) #[true, true, true, true, true, true, true, false, true, false, false, false, false, false, false, false, false, false, false, false, false, false] rfl rfl (any_of HT_.out (by kernel_rfl)) (fun _ _ _ h => h) (Or.inl ⟨by rfl, ?_⟩) ?_ ?_
                rotate_left
                ·
                 intro w'
                 go_simp
                 with_reducible rfl
                rotate_left
                ·
                 simp only [Act.put, List.setIfInBounds_toArray, List.set_cons_zero, List.set_cons_succ, i64_w, i32_w]
                 rfl
                refine take_ (i := 9) (N := some 113) (v := ?_) (a' := ?_) #[true, true, true, true, true, true, true, false, true, true, false, false, false, false, false, false, false, false, false, false, false, false] rfl rfl (take_ofW HT_.out HW_.out (by kernel_rfl)) (fun _ _ _ h => h) (Or.inl ⟨by rfl, ?_⟩) hHeld ?_ ?_
                rotate_left
                ·
                 rintro w' ⟨s0, s1, s2, s3, s4⟩
                 go_simp
                 with_reducible rfl
                rotate_left
                ·
                 simp only [Act.put, List.setIfInBounds_toArray, List.set_cons_zero, List.set_cons_succ, i64_w, i32_w]
                 rfl
                refine one_ (i := 7) (N := some 111) #[true, true, true, true, true, true, true, true, true, true, false, false, false, false, false, false, false, false, false, false, false, false] rfl rfl (one_of HT_.out (by kernel_rfl)) (by decide) (fun K hK => ?_)
                refine goes_ Try.func16 (by kernel_rfl) rfl #[.pointer (some ⟨g174, 0, none⟩)] (by rfl) rfl rfl (by (try simp only [List.map_toArray, List.map_cons, List.map_nil]); first | done | rfl | (simp only [List.length_drop, List.length_take]; rfl)) ?_
                with_reducible refine (capacitor_Capacitor_Running.calls g174 t216 t217 t218 t219 t220 t221 t222 t223 t224 t225 t226 w _ ?side1 ?side2 A119.out).mono ?_
                (case side1 => repeat (first | (with_reducible first | exact HI174.out | apply IsS70.alloc | apply IsS70.drewN | apply IsS70.drew | apply IsS70.set_0 | apply IsS70.set_1 | apply IsS70.set_2 | apply IsS70.set_3 | apply IsS70.set_4 | refine IsS70.far ?_ NB174_164.out _ | refine IsS70.far ?_ NB174_177.out _ | refine IsS70.far ?_ NB174_179.out _) | exact HI174.out))
                (case side2 => repeat (first | (with_reducible first | exact HB.out | apply below_alloc | apply pw_below_drewN | apply below_drew1 | refine below_set ?_ (IsS70.ge HI174.out) | refine below_set ?_ GE164.out | refine below_set ?_ GE177.out | refine below_set ?_ GE179.out) | exact HB.out))
                rintro e w129 ⟨rfl, hi, hb, hk⟩
                refine ⟨_, rfl, ?_⟩
                have n0_ := Aside0.mk (KeepBut.blk hk (g' := gb164) (o := .cells #[.int .i64 a0_0, .int .i64 a0_1, .int .i64 a0_2] 23 (0, 0)) (by (with_reducible repeat (first | refine blk_drewN ?_ _ | refine blk_drew ?_ | refine blk_alloc ?_ _)); (first | exact BK164.out | (rw [Nbq39.out]; exact BK164.out) | (rw [← Nbq39.out]; exact BK164.out))) NB164_174.out (by simp))
                have n1_ := Aside0.mk (KeepBut.blk hk (g' := gb177) (o := .cells #[.int .i64 x178000_32, .int .i64 x178001_32, .int .i64 x178002_32, .int .i64 x178003_32, .bool x178004_32] 40 (0, 0)) (by (with_reducible repeat (first | refine blk_drewN ?_ _ | refine blk_drew ?_ | refine blk_alloc ?_ _)); (first | exact BK177.out | (rw [Nbq39.out]; exact BK177.out) | (rw [← Nbq39.out]; exact BK177.out))) NB177_174.out (by simp))
                have n2_ := Aside0.mk (KeepBut.blk hk (g' := gb179) (o := .cells #[.bool ((rd_T34 l1 x52_2).f0), .int .i64 ((rd_T34 l1 x52_2).f1), .int .i64 ((rd_T34 l1 x52_2).f2)] 34 (0, 0)) (by (with_reducible repeat (first | refine blk_drewN ?_ _ | refine blk_drew ?_ | refine blk_alloc ?_ _)); (first | exact BK179.out | (rw [Nbq39.out]; exact BK179.out) | (rw [← Nbq39.out]; exact BK179.out))) NB179_174.out (by simp))
                have n3_ := Aside0.mk (hb)
                have n4_ := Aside0.mk (hi)
                clear BK164
                clear BK177
                clear BK179
                clear HB
                clear HI174
                have BK164 := n0_
                have BK177 := n1_
                have BK179 := n2_
                have HB := n3_
                have HI174 := n4_
                clear n0_ n1_ n2_ n3_ n4_
                (try clear hb)
                (try clear hb2)
                (try clear hk)
                (try clear hi)
                refine hK.out _ _ ⟨(blk_cell BK177.out 0).trans rfl, (blk_cell BK177.out 1).trans rfl, (blk_cell BK177.out 2).trans rfl, (blk_cell BK177.out 3).trans rfl, (blk_cell BK177.out 4).trans rfl⟩ (fun hHeld => ?_)
                clear hK K
                refine norm_ (a' := ?_) ?_ ?_
                rotate_left
                ·
                 show Act.put _ (some 111) _ = _
                 simp only [Act.put, List.setIfInBounds_toArray, List.set_cons_zero, List.set_cons_succ, i64_w, i32_w]
                 rfl
                refine pure_ (i := 10) (N := some 114) (v := ?_) (a' := ?_) #[true, true, true, true, true, true, true, true, true, true, true, false, false, false, false, false, false, false, false, false, false, false] rfl rfl (any_of HT_.out (by kernel_rfl)) (fun _ _ _ h => h) (Or.inl ⟨by rfl, ?_⟩) ?_ ?_
                rotate_left
                ·
                 intro w'
                 go_simp
                 with_reducible rfl
                rotate_left
                ·
                 simp only [Act.put, List.setIfInBounds_toArray, List.set_cons_zero, List.set_cons_succ, i64_w, i32_w]
                 rfl
                refine pure_ (i := 11) (N := some 115) (v := ?_) (a' := ?_) #[true, true, true, true, true, true, true, true, true, true, true, true, false, false, false, false, false, false, false, false, false, false] rfl rfl (any_of HT_.out (by kernel_rfl)) (fun _ _ _ h => h) (Or.inl ⟨by rfl, ?_⟩) ?_ ?_
                rotate_left
                ·
                 intro w'
                 go_simp
                 with_reducible rfl
                rotate_left
                ·
                 simp only [Act.put, List.setIfInBounds_toArray, List.set_cons_zero, List.set_cons_succ, i64_w, i32_w]
                 rfl
                refine pure_ (i := 12) (N := some 116) (v := ?_) (a' := ?_) #[true, true, true, true, true, true, true, true, true, true, true, true, true, false, false, false, false, false, false, false, false, false] rfl rfl (any_of HT_.out (by kernel_rfl)) (fun _ _ _ h => h) (Or.inl ⟨by rfl, ?_⟩) ?_ ?_
                rotate_left
                ·
                 intro w'
                 go_simp
                 with_reducible rfl
                rotate_left
                ·
                 simp only [Act.put, List.setIfInBounds_toArray, List.set_cons_zero, List.set_cons_succ, i64_w, i32_w]
                 rfl
                refine pure_ (i := 13) (N := some 117) (v := undef) (a' := ?_) #[true, true, true, true, true, true, true, true, true, true, true, true, true, true, false, false, false, false, false, false, false, false] rfl rfl (any_of HT_.out (by kernel_rfl)) (fun _ _ _ h => h) (Or.inr ⟨by rfl, rfl⟩) ?_ ?_
                rotate_left
                ·
                 simp only [Act.put, List.setIfInBounds_toArray, List.set_cons_zero, List.set_cons_succ, i64_w, i32_w]
                 rfl
                refine pure_ (i := 14) (N := some 118) (v := undef) (a' := ?_) #[true, true, true, true, true, true, true, true, true, true, true, true, true, true, true, false, false, false, false, false, false, false] rfl rfl (any_of HT_.out (by kernel_rfl)) (fun _ _ _ h => h) (Or.inr ⟨by rfl, rfl⟩) ?_ ?_
                rotate_left
                ·
                 simp only [Act.put, List.setIfInBounds_toArray, List.set_cons_zero, List.set_cons_succ, i64_w, i32_w]
                 rfl
                refine pure_ (i := 15) (N := some 119) (v := undef) (a' := ?_) #[true, true, true, true, true, true, true, true, true, true, true, true, true, true, true, true, false, false, false, false, false, false] rfl rfl (any_of HT_.out (by kernel_rfl)) (fun _ _ _ h => h) (Or.inr ⟨by rfl, rfl⟩) ?_ ?_
                rotate_left
                ·
                 simp only [Act.put, List.setIfInBounds_toArray, List.set_cons_zero, List.set_cons_succ, i64_w, i32_w]
                 rfl
                refine pure_ (i := 16) (N := some 120) (v := ?_) (a' := ?_) #[true, true, true, true, true, true, true, true, true, true, true, true, true, true, true, true, true, false, false, false, false, false] rfl rfl (any_of HT_.out (by kernel_rfl)) (fun _ _ _ h => h) (Or.inl ⟨by rfl, ?_⟩) ?_ ?_
                rotate_left
                ·
                 intro w'
                 go_simp
                 with_reducible rfl
                rotate_left
                ·
                 simp only [Act.put, List.setIfInBounds_toArray, List.set_cons_zero, List.set_cons_succ, i64_w, i32_w]
                 rfl
                refine pure_ (i := 17) (N := some 121) (v := ?_) (a' := ?_) #[true, true, true, true, true, true, true, true, true, true, true, true, true, true, true, true, true, true, false, false, false, false] rfl rfl (any_of HT_.out (by kernel_rfl)) (fun _ _ _ h => h) (Or.inl ⟨by rfl, ?_⟩) ?_ ?_
                rotate_left
                ·
                 intro w'
                 go_simp
                 with_reducible rfl
                rotate_left
                ·
                 simp only [Act.put, List.setIfInBounds_toArray, List.set_cons_zero, List.set_cons_succ, i64_w, i32_w]
                 rfl
                refine pure_ (i := 18) (N := some 122) (v := undef) (a' := ?_) #[true, true, true, true, true, true, true, true, true, true, true, true, true, true, true, true, true, true, true, false, false, false] rfl rfl (any_of HT_.out (by kernel_rfl)) (fun _ _ _ h => h) (Or.inr ⟨by rfl, rfl⟩) ?_ ?_
                rotate_left
                ·
                 simp only [Act.put, List.setIfInBounds_toArray, List.set_cons_zero, List.set_cons_succ, i64_w, i32_w]
                 rfl
                refine pure_ (i := 19) (N := some 123) (v := undef) (a' := ?_) #[true, true, true, true, true, true, true, true, true, true, true, true, true, true, true, true, true, true, true, true, false, false] rfl rfl (any_of HT_.out (by kernel_rfl)) (fun _ _ _ h => h) (Or.inr ⟨by rfl, rfl⟩) ?_ ?_
                rotate_left
                ·
                 simp only [Act.put, List.setIfInBounds_toArray, List.set_cons_zero, List.set_cons_succ, i64_w, i32_w]
                 rfl
                refine pure_ (i := 20) (N := some 124) (v := undef) (a' := ?_) #[true, true, true, true, true, true, true, true, true, true, true, true, true, true, true, true, true, true, true, true, true, false] rfl rfl (any_of HT_.out (by kernel_rfl)) (fun _ _ _ h => h) (Or.inr ⟨by rfl, rfl⟩) ?_ ?_
                rotate_left
                ·
                 simp only [Act.put, List.setIfInBounds_toArray, List.set_cons_zero, List.set_cons_succ, i64_w, i32_w]
                 rfl
                refine pure_ (i := 21) (N := some 125) (v := ?_) (a' := ?_) #[true, true, true, true, true, true, true, true, true, true, true, true, true, true, true, true, true, true, true, true, true, true] rfl rfl (any_of HT_.out (by kernel_rfl)) (fun _ _ _ h => h) (Or.inl ⟨by rfl, ?_⟩) ?_ ?_
                rotate_left
                ·
                 intro w'
                 go_simp
                 with_reducible rfl
                rotate_left
                ·
                 simp only [Act.put, List.setIfInBounds_toArray, List.set_cons_zero, List.set_cons_succ, i64_w, i32_w]
                 rfl
                refine done_ (done_of HT_.out (by kernel_rfl)) ?_
                try go_wp2
                go_ret
                exact ⟨by first | rfl | (simp [errW_none, errW_some] <;> rfl) | (simp [*, errW_none, errW_some] <;> rfl), by repeat (first | (with_reducible first | exact HB.out | apply below_alloc | apply pw_below_drewN | apply below_drew1 | refine below_set ?_ (IsS70.ge HI174.out) | refine below_set ?_ GE164.out | refine below_set ?_ GE177.out | refine below_set ?_ GE179.out) | exact HB.out)⟩
               ·
                rw [if_neg c120] at H
                have c120b0 : (t221 != x178004_32) = false := by simpa using c120
                (try (have c120b1 : decide (t221 = x178004_32) = true := by simpa using c120))
                (try (have c120b2 : (t221 == x178004_32) = true := by simpa using c120))
                clear c120
                by_cases c130 : t206 = t213
                ·
                 rw [if_pos c130] at H
                 have c130b0 : (t206 == t213) = true := beq_iff_eq.mpr c130
                 have c130b1 : (t206 != t213) = false := bne_eq_false_iff_eq.mpr c130
                 clear c130
                 by_cases c131 : (t207 != t214) = true
                 ·
                  rw [if_pos c131] at H
                  have c131b0 : (t207 != t214) = true := c131
                  (try (have c131b1 : decide (t207 = t214) = false := by simpa using c131))
                  (try (have c131b2 : (t207 == t214) = false := by simpa using c131))
                  (try (have c131b3 : ¬ (t207 = t214) := by simpa using c131))
                  clear c131
                  obtain rfl := Option.some.inj H
                  try go_wp2_with (first | ((with_reducible refine gate_callee (f := 19) rfl ?_); refine goesL_ (some 95) rfl rfl Try.func19 (by kernel_rfl) rfl #[.pointer (some ⟨g174, 0, none⟩), .int .i64 a2] rfl (by (try simp only [List.map_toArray, List.map_cons, List.map_nil]); first | done | rfl | (simp only [List.length_drop, List.length_take]; rfl)) ?_; (with_reducible refine (capacitor_Capacitor_WaitTime.calls g174 x175000_32 x175001_32 x175002_32 x175003_32 x175004_32 a2 t206 t207 t208 t209 t210 t211 t212 w _ ?side1 ?side2 A115.out).mono ?_); (case side1 => repeat (first | (with_reducible first | exact HI174.out | apply IsS70.alloc | apply IsS70.drewN | apply IsS70.drew | apply IsS70.set_0 | apply IsS70.set_1 | apply IsS70.set_2 | apply IsS70.set_3 | apply IsS70.set_4 | refine IsS70.far ?_ NB174_164.out _ | refine IsS70.far ?_ NB174_177.out _ | refine IsS70.far ?_ NB174_179.out _) | exact HI174.out)); (case side2 => repeat (first | (with_reducible first | exact HB.out | apply below_alloc | apply pw_below_drewN | apply below_drew1 | refine below_set ?_ (IsS70.ge HI174.out) | refine below_set ?_ GE164.out | refine below_set ?_ GE177.out | refine below_set ?_ GE179.out) | exact HB.out)); rintro e w132 ⟨rfl, hi, hb, hk⟩; refine ⟨_, rfl, ?_⟩; have n0_ := Aside0.mk (KeepBut.blk hk (g' := gb164) (o := .cells #[.int .i64 a0_0, .int .i64 a0_1, .int .i64 a0_2] 23 (0, 0)) (by (with_reducible repeat (first | refine blk_drewN ?_ _ | refine blk_drew ?_ | refine blk_alloc ?_ _)); (first | exact BK164.out | (rw [Nbq39.out]; exact BK164.out) | (rw [← Nbq39.out]; exact BK164.out))) NB164_174.out (by simp)); have n1_ := Aside0.mk (KeepBut.blk hk (g' := gb177) (o := .cells #[.int .i64 x178000_32, .int .i64 x178001_32, .int .i64 x178002_32, .int .i64 x178003_32, .bool x178004_32] 40 (0, 0)) (by (with_reducible repeat (first | refine blk_drewN ?_ _ | refine blk_drew ?_ | refine blk_alloc ?_ _)); (first | exact BK177.out | (rw [Nbq39.out]; exact BK177.out) | (rw [← Nbq39.out]; exact BK177.out))) NB177_174.out (by simp)); have n2_ := Aside0.mk (KeepBut.blk hk (g' := gb179) (o := .cells #[.bool ((rd_T34 l1 x52_2).f0), .int .i64 ((rd_T34 l1 x52_2).f1), .int .i64 ((rd_T34 l1 x52_2).f2)] 34 (0, 0)) (by (with_reducible repeat (first | refine blk_drewN ?_ _ | refine blk_drew ?_ | refine blk_alloc ?_ _)); (first | exact BK179.out | (rw [Nbq39.out]; exact BK179.out) | (rw [← Nbq39.out]; exact BK179.out))) NB179_174.out (by simp)); have n3_ := Aside0.mk (hb); have n4_ := Aside0.mk (hi); clear BK164; clear BK177; clear BK179; clear HB; clear HI174; have BK164 := n0_; have BK177 := n1_; have BK179 := n2_; have HB := n3_; have HI174 := n4_; clear n0_ n1_ n2_ n3_ n4_; (try clear hb); (try clear hb2); (try clear hk); (try clear hi); have hnb133 := NB177_164.out; have hnc133 := NB164_177.out; have hnb134 := NB177_179.out; have hnc134 := NB179_177.out; have hnb135 := NB177_174.out; have hnc135 := NB174_177.out; have hcz136_0 : w132.cell? ⟨gb177, 0, none⟩ = some (.int .i64 x178000_32) := (blk_cell BK177.out 0).trans rfl; have hcz136_1 : w132.cell? ⟨gb177, 1, none⟩ = some (.int .i64 x178001_32) := (blk_cell BK177.out 1).trans rfl; have hcz136_2 : w132.cell? ⟨gb177, 2, none⟩ = some (.int .i64 x178002_32) := (blk_cell BK177.out 2).trans rfl; have hcz136_3 : w132.cell? ⟨gb177, 3, none⟩ = some (.int .i64 x178003_32) := (blk_cell BK177.out 3).trans rfl; have hcz136_4 : w132.cell? ⟨gb177, 4, none⟩ = some (.bool x178004_32) := (blk_cell BK177.out 4).trans rfl; have hfz136_0 := blk_frozen BK177.out 0; have hfz136_1 := blk_frozen BK177.out 1; have hfz136_2 := blk_frozen BK177.out 2; have hfz136_3 := blk_frozen BK177.out 3; have hfz136_4 := blk_frozen BK177.out 4) | ((with_reducible refine gate_callee (f := 20) rfl ?_); refine goesL_ (some 101) rfl rfl Try.func20 (by kernel_rfl) rfl #[.agg #[.int .i64 x178000_32, .int .i64 x178001_32, .int .i64 x178002_32, .int .i64 x178003_32, .bool x178004_32], .int .i64 a2] rfl (by (try simp only [List.map_toArray, List.map_cons, List.map_nil]); first | done | rfl | (simp only [List.length_drop, List.length_take]; rfl)) ?_; (with_reducible refine (trickleref08_WaitTime.calls kj32 x178000_32 x178001_32 x178002_32 x178003_32 x178004_32 a2 t213 t214 _ A116.out).mono ?_); rintro e w137 ⟨rfl, hb⟩; refine ⟨_, rfl, ?_⟩; have n0_ := Aside0.mk (blk_below (g := gb164) (o := .cells #[.int .i64 a0_0, .int .i64 a0_1, .int .i64 a0_2] 23 (0, 0)) (by (with_reducible repeat (first | refine blk_drewN ?_ _ | refine blk_drew ?_ | refine blk_alloc ?_ _)); (first | exact BK164.out | (rw [Nbq39.out]; exact BK164.out) | (rw [← Nbq39.out]; exact BK164.out))) hb); have n1_ := Aside0.mk (blk_below (g := gb177) (o := .cells #[.int .i64 x178000_32, .int .i64 x178001_32, .int .i64 x178002_32, .int .i64 x178003_32, .bool x178004_32] 40 (0, 0)) (by (with_reducible repeat (first | refine blk_drewN ?_ _ | refine blk_drew ?_ | refine blk_alloc ?_ _)); (first | exact BK177.out | (rw [Nbq39.out]; exact BK177.out) | (rw [← Nbq39.out]; exact BK177.out))) hb); have n2_ := Aside0.mk (blk_below (g := gb179) (o := .cells #[.bool ((rd_T34 l1 x52_2).f0), .int .i64 ((rd_T34 l1 x52_2).f1), .int .i64 ((rd_T34 l1 x52_2).f2)] 34 (0, 0)) (by (with_reducible repeat (first | refine blk_drewN ?_ _ | refine blk_drew ?_ | refine blk_alloc ?_ _)); (first | exact BK179.out | (rw [Nbq39.out]; exact BK179.out) | (rw [← Nbq39.out]; exact BK179.out))) hb); have n3_ := Aside0.mk (IsS70.below (by repeat (first | (with_reducible first | exact HI174.out | apply IsS70.alloc | apply IsS70.drewN | apply IsS70.drew | apply IsS70.set_0 | apply IsS70.set_1 | apply IsS70.set_2 | apply IsS70.set_3 | apply IsS70.set_4 | refine IsS70.far ?_ NB174_164.out _ | refine IsS70.far ?_ NB174_177.out _ | refine IsS70.far ?_ NB174_179.out _) | exact HI174.out)) hb); have n4_ := Aside0.mk (below_step (by repeat (first | (with_reducible first | exact HB.out | apply below_alloc | apply pw_below_drewN | apply below_drew1 | refine below_set ?_ (IsS70.ge HI174.out) | refine below_set ?_ GE164.out | refine below_set ?_ GE177.out | refine below_set ?_ GE179.out) | exact HB.out)) hb); clear BK164; clear BK177; clear BK179; clear HI174; clear HB; have BK164 := n0_; have BK177 := n1_; have BK179 := n2_; have HI174 := n3_; have HB := n4_; clear n0_ n1_ n2_ n3_ n4_; (try clear hb); (try clear hb2); (try clear hk); (try clear hi)))
                  have n0_ := Aside0.mk (blk_drew BK164.out)
                  have n1_ := Aside0.mk (blk_drew BK177.out)
                  have n2_ := Aside0.mk (blk_drew BK179.out)
                  have n3_ := Aside0.mk (IsS70.drew HI174.out)
                  have n4_ := Aside0.mk (below_drew1 HB.out)
                  clear BK164
                  clear BK177
                  clear BK179
                  clear HI174
                  clear HB
                  have BK164 := n0_
                  have BK177 := n1_
                  have BK179 := n2_
                  have HI174 := n3_
                  have HB := n4_
                  clear n0_ n1_ n2_ n3_ n4_
                  refine start_ (n := 22) (S := fun w' => w'.cell? ⟨gb177, 0, none⟩ = some (.int .i64 x178000_32) ∧ w'.cell? ⟨gb177, 1, none⟩ = some (.int .i64 x178001_32) ∧ w'.cell? ⟨gb177, 2, none⟩ = some (.int .i64 x178002_32) ∧ w'.cell? ⟨gb177, 3, none⟩ = some (.int .i64 x178003_32) ∧ w'.cell? ⟨gb177, 4, none⟩ = some (.bool x178004_32)) (ds := []) #[false, false, false, false, false, false, false, false, false, false, false, false, false, false, false, false, false, false, false, false, false, false] (by kernel_rfl) rfl rfl ⟨(blk_cell BK177.out 0).trans rfl, (blk_cell BK177.out 1).trans rfl, (blk_cell BK177.out 2).trans rfl, (blk_cell BK177.out 3).trans rfl, (blk_cell BK177.out 4).trans rfl⟩ (fun hHeld => ?_); refine with_tabW mm.tab27 mm.bits27 (fun HT_ HW_ => ?_)
                  generalize w137.drew = w138 at BK164 BK177 BK179 HI174 HB hHeld ⊢
                  refine pure_ (i := 0) (N := some 104) (v := ?_) (a' := ?_) #[true, false, false, false, false, false, false, false, false, false, false, false, false, false, false, false, false, false, false, false, false, false] rfl rfl (any_of HT_.out (by kernel_rfl)) (fun _ _ _ h => h) (Or.inl ⟨by rfl, ?_⟩) ?_ ?_
                  rotate_left
                  ·
                   intro w'
                   go_simp
                   with_reducible rfl
                  rotate_left
                  ·
                   simp only [Act.put, List.setIfInBounds_toArray, List.set_cons_zero, List.set_cons_succ, i64_w, i32_w]
                   rfl
                  refine pure_ (i := 2) (N := some 106) (v := ?_) (a' := ?_) #[true, false, true, false, false, false, false, false, false, false, false, false, false, false, false, false, false, false, false, false, false, false] rfl rfl (any_of HT_.out (by kernel_rfl)) (fun _ _ _ h => h) (Or.inl ⟨by rfl, ?_⟩) ?_ ?_
                  rotate_left
                  ·
                   intro w'
                   go_simp
                   with_reducible rfl
                  rotate_left
                  ·
                   simp only [Act.put, List.setIfInBounds_toArray, List.set_cons_zero, List.set_cons_succ, i64_w, i32_w]
                   rfl
                  refine take_ (i := 3) (N := some 107) (v := ?_) (a' := ?_) #[true, false, true, true, false, false, false, false, false, false, false, false, false, false, false, false, false, false, false, false, false, false] rfl rfl (take_ofW HT_.out HW_.out (by kernel_rfl)) (fun _ _ _ h => h) (Or.inl ⟨by rfl, ?_⟩) hHeld ?_ ?_
                  rotate_left
                  ·
                   rintro w' ⟨s0, s1, s2, s3, s4⟩
                   go_simp
                   with_reducible rfl
                  rotate_left
                  ·
                   simp only [Act.put, List.setIfInBounds_toArray, List.set_cons_zero, List.set_cons_succ, i64_w, i32_w]
                   rfl
                  refine one_ (i := 1) (N := some 105) #[true, true, true, true, false, false, false, false, false, false, false, false, false, false, false, false, false, false, false, false, false, false] rfl rfl (one_of HT_.out (by kernel_rfl)) (by decide) (fun K hK => ?_)
                  refine goes_ Try.func13 (by kernel_rfl) rfl #[.pointer (some ⟨g174, 0, none⟩)] (by rfl) rfl rfl (by (try simp only [List.map_toArray, List.map_cons, List.map_nil]); first | done | rfl | (simp only [List.length_drop, List.length_take]; rfl)) ?_
                  with_reducible refine (capacitor_Capacitor_Charge.calls g174 t208 t209 t210 t211 t212 t215 t216 t217 t218 t219 t220 w _ ?side1 ?side2 A117.out).mono ?_
                  (case side1 => repeat (first | (with_reducible first | exact HI174.out | apply IsS70.alloc | apply IsS70.drewN | apply IsS70.drew | apply IsS70.set_0 | apply IsS70.set_1 | apply IsS70.set_2 | apply IsS70.set_3 | apply IsS70.set_4 | refine IsS70.far ?_ NB174_164.out _ | refine IsS70.far ?_ NB174_177.out _ | refine IsS70.far ?_ NB174_179.out _) | exact HI174.out))
                  (case side2 => repeat (first | (with_reducible first | exact HB.out | apply below_alloc | apply pw_below_drewN | apply below_drew1 | refine below_set ?_ (IsS70.ge HI174.out) | refine below_set ?_ GE164.out | refine below_set ?_ GE177.out | refine below_set ?_ GE179.out) | exact HB.out))
                  rintro e w139 ⟨rfl, hi, hb, hk⟩
                  refine ⟨_, rfl, ?_⟩
                  have n0_ := Aside0.mk (KeepBut.blk hk (g' := gb164) (o := .cells #[.int .i64 a0_0, .int .i64 a0_1, .int .i64 a0_2] 23 (0, 0)) (by (with_reducible repeat (first | refine blk_drewN ?_ _ | refine blk_drew ?_ | refine blk_alloc ?_ _)); (first | exact BK164.out | (rw [Nbq39.out]; exact BK164.out) | (rw [← Nbq39.out]; exact BK164.out))) NB164_174.out (by simp))
                  have n1_ := Aside0.mk (KeepBut.blk hk (g' := gb177) (o := .cells #[.int .i64 x178000_32, .int .i64 x178001_32, .int .i64 x178002_32, .int .i64 x178003_32, .bool x178004_32] 40 (0, 0)) (by (with_reducible repeat (first | refine blk_drewN ?_ _ | refine blk_drew ?_ | refine blk_alloc ?_ _)); (first | exact BK177.out | (rw [Nbq39.out]; exact BK177.out) | (rw [← Nbq39.out]; exact BK177.out))) NB177_174.out (by simp))
                  have n2_ := Aside0.mk (KeepBut.blk hk (g' := gb179) (o := .cells #[.bool ((rd_T34 l1 x52_2).f0), .int .i64 ((rd_T34 l1 x52_2).f1), .int .i64 ((rd_T34 l1 x52_2).f2)] 34 (0, 0)) (by (with_reducible repeat (first | refine blk_drewN ?_ _ | refine blk_drew ?_ | refine blk_alloc ?_ _)); (first | exact BK179.out | (rw [Nbq39.out]; exact BK179.out) | (rw [← Nbq39.out]; exact BK179.out))) NB179_174.out (by simp))
                  have n3_ := Aside0.mk (hb)
                  have n4_ := Aside0.mk (hi)
                  clear BK164
                  clear BK177
                  clear BK179
                  clear HB
                  clear HI174
                  have BK164 := n0_
                  have BK177 := n1_
                  have BK179 := n2_
                  have HB := n3_
                  have HI174 := n4_
                  clear n0_ n1_ n2_ n3_ n4_
                  (try clear hb)
                  (try clear hb2)
                  (try clear hk)
                  (try clear hi)
                  refine hK.out _ _ ⟨(blk_cell BK177.out 0).trans rfl, (blk_cell BK177.out 1).trans rfl, (blk_cell BK177.out 2).trans rfl, (blk_cell BK177.out 3).trans rfl, (blk_cell BK177.out 4).trans rfl⟩ (fun hHeld => ?_)
                  clear hK K
                  refine norm_ (a' := ?_) ?_ ?_
                  rotate_left
                  ·
                   show Act.put _ (some 105) _ = _
                   simp only [Act.put, List.setIfInBounds_toArray, List.set_cons_zero, List.set_cons_succ, i64_w, i32_w]
                   rfl
                  refine pure_ (i := 4) (N := some 108) (v := ?_) (a' := ?_) #[true, true, true, true, true, false, false, false, false, false, false, false, false, false, false, false, false, false, false, false, false, false] rfl rfl (any_of HT_.out (by kernel_rfl)) (fun _ _ _ h => h) (Or.inl ⟨by rfl, ?_⟩) ?_ ?_
                  rotate_left
                  ·
                   intro w'
                   go_simp
                   with_reducible rfl
                  rotate_left
                  ·
                   simp only [Act.put, List.setIfInBounds_toArray, List.set_cons_zero, List.set_cons_succ, i64_w, i32_w]
                   rfl
                  refine pure_ (i := 5) (N := some 109) (v := ?_) (a' := ?_) #[true, true, true, true, true, true, false, false, false, false, false, false, false, false, false, false, false, false, false, false, false, false] rfl rfl (any_of HT_.out (by kernel_rfl)) (fun _ _ _ h => h) (Or.inl ⟨by rfl, ?_⟩) ?_ ?_
                  rotate_left
                  ·
                   intro w'
                   go_simp
                   with_reducible rfl
                  rotate_left
                  ·
                   simp only [Act.put, List.setIfInBounds_toArray, List.set_cons_zero, List.set_cons_succ, i64_w, i32_w]
                   rfl
                  refine pure_ (i := 6) (N := some 110) (v := ?_) (a' := ?_) #[true, true, true, true, true, true, true, false, false, false, false, false, false, false, false, false, false, false, false, false, false, false] rfl rfl (any_of HT_.out (by kernel_rfl)) (fun _ _ _ h => h) (Or.inl ⟨by rfl, ?_⟩) ?_ ?_
                  rotate_left
                  ·
                   intro w'
                   go_simp
                   with_reducible rfl
                  rotate_left
                  ·
                   simp only [Act.put, List.setIfInBounds_toArray, List.set_cons_zero, List.set_cons_succ, i64_w, i32_w]
                   rfl
                  refine pure_ (i := 8) (N := some 112) (v := ?_) (a' := ?_) #[true, true, true, true, true, true, true, false, true, false, false, false, false, false, false, false, false, false, false, false, false, false] rfl rfl (any_of HT_.out (by kernel_rfl)) (fun _ _ _ h => h) (Or.inl ⟨by rfl, ?_⟩) ?_ ?_
                  rotate_left
                  ·
                   intro w'
                   go_simp
                   with_reducible rfl
                  rotate_left
                  ·
                   simp only [Act.put, List.setIfInBounds_toArray, List.set_cons_zero, List.set_cons_succ, i64_w, i32_w]
                   rfl
                  refine take_ (i := 9) (N := some 113) (v := ?_) (a' := ?_) #[true, true, true, true, true, true, true, false, true, true, false, false, false, false, false, false, false, false, false, false, false, false] rfl rfl (take_ofW HT_.out HW_.out (by kernel_rfl)) (fun _ _ _ h => h) (Or.inl ⟨by rfl, ?_⟩) hHeld ?_ ?_
                  rotate_left
                  ·
                   rintro w' ⟨s0, s1, s2, s3, s4⟩
                   go_simp
                   with_reducible rfl
                  rotate_left
                  ·
                   simp only [Act.put, List.setIfInBounds_toArray, List.set_cons_zero, List.set_cons_succ, i64_w, i32_w]
                   rfl
                  refine one_ (i := 7) (N := some 111) #[true, true, true, true, true, true, true, true, true, true, false, false, false, false, false, false, false, false, false, false, false, false] rfl rfl (one_of HT_.out (by kernel_rfl)) (by decide) (fun K hK => ?_)
                  refine goes_ Try.func16 (by kernel_rfl) rfl #[.pointer (some ⟨g174, 0, none⟩)] (by rfl) rfl rfl (by (try simp only [List.map_toArray, List.map_cons, List.map_nil]); first | done | rfl | (simp only [List.length_drop, List.length_take]; rfl)) ?_
                  with_reducible refine (capacitor_Capacitor_Running.calls g174 t216 t217 t218 t219 t220 t221 t222 t223 t224 t225 t226 w _ ?side1 ?side2 A119.out).mono ?_
                  (case side1 => repeat (first | (with_reducible first | exact HI174.out | apply IsS70.alloc | apply IsS70.drewN | apply IsS70.drew | apply IsS70.set_0 | apply IsS70.set_1 | apply IsS70.set_2 | apply IsS70.set_3 | apply IsS70.set_4 | refine IsS70.far ?_ NB174_164.out _ | refine IsS70.far ?_ NB174_177.out _ | refine IsS70.far ?_ NB174_179.out _) | exact HI174.out))
                  (case side2 => repeat (first | (with_reducible first | exact HB.out | apply below_alloc | apply pw_below_drewN | apply below_drew1 | refine below_set ?_ (IsS70.ge HI174.out) | refine below_set ?_ GE164.out | refine below_set ?_ GE177.out | refine below_set ?_ GE179.out) | exact HB.out))
                  rintro e w140 ⟨rfl, hi, hb, hk⟩
                  refine ⟨_, rfl, ?_⟩
                  have n0_ := Aside0.mk (KeepBut.blk hk (g' := gb164) (o := .cells #[.int .i64 a0_0, .int .i64 a0_1, .int .i64 a0_2] 23 (0, 0)) (by (with_reducible repeat (first | refine blk_drewN ?_ _ | refine blk_drew ?_ | refine blk_alloc ?_ _)); (first | exact BK164.out | (rw [Nbq39.out]; exact BK164.out) | (rw [← Nbq39.out]; exact BK164.out))) NB164_174.out (by simp))
                  have n1_ := Aside0.mk (KeepBut.blk hk (g' := gb177) (o := .cells #[.int .i64 x178000_32, .int .i64 x178001_32, .int .i64 x178002_32, .int .i64 x178003_32, .bool x178004_32] 40 (0, 0)) (by (with_reducible repeat (first | refine blk_drewN ?_ _ | refine blk_drew ?_ | refine blk_alloc ?_ _)); (first | exact BK177.out | (rw [Nbq39.out]; exact BK177.out) | (rw [← Nbq39.out]; exact BK177.out))) NB177_174.out (by simp))
                  have n2_ := Aside0.mk (KeepBut.blk hk (g' := gb179) (o := .cells #[.bool ((rd_T34 l1 x52_2).f0), .int .i64 ((rd_T34 l1 x52_2).f1), .int .i64 ((rd_T34 l1 x52_2).f2)] 34 (0, 0)) (by (with_reducible repeat (first | refine blk_drewN ?_ _ | refine blk_drew ?_ | refine blk_alloc ?_ _)); (first | exact BK179.out | (rw [Nbq39.out]; exact BK179.out) | (rw [← Nbq39.out]; exact BK179.out))) NB179_174.out (by simp))
                  have n3_ := Aside0.mk (hb)
                  have n4_ := Aside0.mk (hi)
                  clear BK164
                  clear BK177
                  clear BK179
                  clear HB
                  clear HI174
                  have BK164 := n0_
                  have BK177 := n1_
                  have BK179 := n2_
                  have HB := n3_
                  have HI174 := n4_
                  clear n0_ n1_ n2_ n3_ n4_
                  (try clear hb)
                  (try clear hb2)
                  (try clear hk)
                  (try clear hi)
                  refine hK.out _ _ ⟨(blk_cell BK177.out 0).trans rfl, (blk_cell BK177.out 1).trans rfl, (blk_cell BK177.out 2).trans rfl, (blk_cell BK177.out 3).trans rfl, (blk_cell BK177.out 4).trans rfl⟩ (fun hHeld => ?_)
                  clear hK K
                  refine norm_ (a' := ?_) ?_ ?_
                  rotate_left
                  ·
                   show Act.put _ (some 111) _ = _
                   simp only [Act.put, List.setIfInBounds_toArray, List.set_cons_zero, List.set_cons_succ, i64_w, i32_w]
                   rfl
                  refine pure_ (i := 10) (N := some 114) (v := ?_) (a' := ?_) #[true, true, true, true, true, true, true, true, true, true, true, false, false, false, false, false, false, false, false, false, false, false] rfl rfl (any_of HT_.out (by kernel_rfl)) (fun _ _ _ h => h) (Or.inl ⟨by rfl, ?_⟩) ?_ ?_
                  rotate_left
                  ·
                   intro w'
                   go_simp
                   with_reducible rfl
                  rotate_left
                  ·
                   simp only [Act.put, List.setIfInBounds_toArray, List.set_cons_zero, List.set_cons_succ, i64_w, i32_w]
                   rfl
                  refine pure_ (i := 11) (N := some 115) (v := ?_) (a' := ?_) #[true, true, true, true, true, true, true, true, true, true, true, true, false, false, false, false, false, false, false, false, false, false] rfl rfl (any_of HT_.out (by kernel_rfl)) (fun _ _ _ h => h) (Or.inl ⟨by rfl, ?_⟩) ?_ ?_
                  rotate_left
                  ·
                   intro w'
                   go_simp
                   with_reducible rfl
                  rotate_left
                  ·
                   simp only [Act.put, List.setIfInBounds_toArray, List.set_cons_zero, List.set_cons_succ, i64_w, i32_w]
                   rfl
                  refine pure_ (i := 12) (N := some 116) (v := ?_) (a' := ?_) #[true, true, true, true, true, true, true, true, true, true, true, true, true, false, false, false, false, false, false, false, false, false] rfl rfl (any_of HT_.out (by kernel_rfl)) (fun _ _ _ h => h) (Or.inl ⟨by rfl, ?_⟩) ?_ ?_
                  rotate_left
                  ·
                   intro w'
                   go_simp
                   with_reducible rfl
                  rotate_left
                  ·
                   simp only [Act.put, List.setIfInBounds_toArray, List.set_cons_zero, List.set_cons_succ, i64_w, i32_w]
                   rfl
                  refine pure_ (i := 13) (N := some 117) (v := ?_) (a' := ?_) #[true, true, true, true, true, true, true, true, true, true, true, true, true, true, false, false, false, false, false, false, false, false] rfl rfl (any_of HT_.out (by kernel_rfl)) (fun _ _ _ h => h) (Or.inl ⟨by rfl, ?_⟩) ?_ ?_
                  rotate_left
                  ·
                   intro w'
                   go_simp
                   with_reducible rfl
                  rotate_left
                  ·
                   simp only [Act.put, List.setIfInBounds_toArray, List.set_cons_zero, List.set_cons_succ, i64_w, i32_w]
                   rfl
                  refine pure_ (i := 14) (N := some 118) (v := ?_) (a' := ?_) #[true, true, true, true, true, true, true, true, true, true, true, true, true, true, true, false, false, false, false, false, false, false] rfl rfl (any_of HT_.out (by kernel_rfl)) (fun _ _ _ h => h) (Or.inl ⟨by rfl, ?_⟩) ?_ ?_
                  rotate_left
                  ·
                   intro w'
                   go_simp
                   with_reducible rfl
                  rotate_left
                  ·
                   simp only [Act.put, List.setIfInBounds_toArray, List.set_cons_zero, List.set_cons_succ, i64_w, i32_w]
                   rfl
                  refine pure_ (i := 15) (N := some 119) (v := ?_) (a' := ?_) #[true, true, true, true, true, true, true, true, true, true, true, true, true, true, true, true, false, false, false, false, false, false] rfl rfl (any_of HT_.out (by kernel_rfl)) (fun _ _ _ h => h) (Or.inl ⟨by rfl, ?_⟩) ?_ ?_
                  rotate_left
                  ·
                   intro w'
                   go_simp
                   with_reducible rfl
                  rotate_left
                  ·
                   simp only [Act.put, List.setIfInBounds_toArray, List.set_cons_zero, List.set_cons_succ, i64_w, i32_w]
                   rfl
                  refine pure_ (i := 16) (N := some 120) (v := ?_) (a' := ?_) #[true, true, true, true, true, true, true, true, true, true, true, true, true, true, true, true, true, false, false, false, false, false] rfl rfl (any_of HT_.out (by kernel_rfl)) (fun _ _ _ h => h) (Or.inl ⟨by rfl, ?_⟩) ?_ ?_
                  rotate_left
                  ·
                   intro w'
                   go_simp
                   with_reducible rfl
                  rotate_left
                  ·
                   simp only [Act.put, List.setIfInBounds_toArray, List.set_cons_zero, List.set_cons_succ, i64_w, i32_w]
                   rfl
                  refine pure_ (i := 17) (N := some 121) (v := ?_) (a' := ?_) #[true, true, true, true, true, true, true, true, true, true, true, true, true, true, true, true, true, true, false, false, false, false] rfl rfl (any_of HT_.out (by kernel_rfl)) (fun _ _ _ h => h) (Or.inl ⟨by rfl, ?_⟩) ?_ ?_
                  rotate_left
                  ·
                   intro w'
                   go_simp
                   with_reducible rfl
                  rotate_left
                  ·
                   simp only [Act.put, List.setIfInBounds_toArray, List.set_cons_zero, List.set_cons_succ, i64_w, i32_w]
                   rfl
                  refine pure_ (i := 18) (N := some 122) (v := ?_) (a' := ?_) #[true, true, true, true, true, true, true, true, true, true, true, true, true, true, true, true, true, true, true, false, false, false] rfl rfl (any_of HT_.out (by kernel_rfl)) (fun _ _ _ h => h) (Or.inl ⟨by rfl, ?_⟩) ?_ ?_
                  rotate_left
                  ·
                   intro w'
                   go_simp
                   with_reducible rfl
                  rotate_left
                  ·
                   simp only [Act.put, List.setIfInBounds_toArray, List.set_cons_zero, List.set_cons_succ, i64_w, i32_w]
                   rfl
                  refine pure_ (i := 19) (N := some 123) (v := ?_) (a' := ?_) #[true, true, true, true, true, true, true, true, true, true, true, true, true, true, true, true, true, true, true, true, false, false] rfl rfl (any_of HT_.out (by kernel_rfl)) (fun _ _ _ h => h) (Or.inl ⟨by rfl, ?_⟩) ?_ ?_
                  rotate_left
                  ·
                   intro w'
                   go_simp
                   with_reducible rfl
                  rotate_left
                  ·
                   simp only [Act.put, List.setIfInBounds_toArray, List.set_cons_zero, List.set_cons_succ, i64_w, i32_w]
                   rfl
                  refine pure_ (i := 20) (N := some 124) (v := ?_) (a' := ?_) #[true, true, true, true, true, true, true, true, true, true, true, true, true, true, true, true, true, true, true, true, true, false] rfl rfl (any_of HT_.out (by kernel_rfl)) (fun _ _ _ h => h) (Or.inl ⟨by rfl, ?_⟩) ?_ ?_
                  rotate_left
                  ·
                   intro w'
                   go_simp
                   with_reducible rfl
                  rotate_left
                  ·
                   simp only [Act.put, List.setIfInBounds_toArray, List.set_cons_zero, List.set_cons_succ, i64_w, i32_w]
                   rfl
                  refine pure_ (i := 21) (N := some 125) (v := ?_) (a' := ?_) #[true, true, true, true, true, true, true, true, true, true, true, true, true, true, true, true, true, true, true, true, true, true] rfl rfl (any_of HT_.out (by kernel_rfl)) (fun _ _ _ h => h) (Or.inl ⟨by rfl, ?_⟩) ?_ ?_
                  rotate_left
                  ·
                   intro w'
                   go_simp
                   with_reducible rfl
                  rotate_left
                  ·
                   simp only [Act.put, List.setIfInBounds_toArray, List.set_cons_zero, List.set_cons_succ, i64_w, i32_w]
                   rfl
                  refine done_ (done_of HT_.out (by kernel_rfl)) ?_
                  try go_wp2
                  go_ret
                  exact ⟨by first | rfl | (simp [errW_none, errW_some] <;> rfl) | (simp [*, errW_none, errW_some] <;> rfl), by repeat (first | (with_reducible first | exact HB.out | apply below_alloc | apply pw_below_drewN | apply below_drew1 | refine below_set ?_ (IsS70.ge HI174.out) | refine below_set ?_ GE164.out | refine below_set ?_ GE177.out | refine below_set ?_ GE179.out) | exact HB.out)⟩
                 ·
                  rw [if_neg c131] at H
                  have c131b0 : (t207 != t214) = false := by simpa using c131
                  (try (have c131b1 : decide (t207 = t214) = true := by simpa using c131))
                  (try (have c131b2 : (t207 == t214) = true := by simpa using c131))
                  clear c131
                  have H' := Aside0.mk H
                  clear H
                  try go_wp2_with (first | ((with_reducible refine gate_callee (f := 19) rfl ?_); refine goesL_ (some 95) rfl rfl Try.func19 (by kernel_rfl) rfl #[.pointer (some ⟨g174, 0, none⟩), .int .i64 a2] rfl (by (try simp only [List.map_toArray, List.map_cons, List.map_nil]); first | done | rfl | (simp only [List.length_drop, List.length_take]; rfl)) ?_; (with_reducible refine (capacitor_Capacitor_WaitTime.calls g174 x175000_32 x175001_32 x175002_32 x175003_32 x175004_32 a2 t206 t207 t208 t209 t210 t211 t212 w _ ?side1 ?side2 A115.out).mono ?_); (case side1 => repeat (first | (with_reducible first | exact HI174.out | apply IsS70.alloc | apply IsS70.drewN | apply IsS70.drew | apply IsS70.set_0 | apply IsS70.set_1 | apply IsS70.set_2 | apply IsS70.set_3 | apply IsS70.set_4 | refine IsS70.far ?_ NB174_164.out _ | refine IsS70.far ?_ NB174_177.out _ | refine IsS70.far ?_ NB174_179.out _) | exact HI174.out)); (case side2 => repeat (first | (with_reducible first | exact HB.out | apply below_alloc | apply pw_below_drewN | apply below_drew1 | refine below_set ?_ (IsS70.ge HI174.out) | refine below_set ?_ GE164.out | refine below_set ?_ GE177.out | refine below_set ?_ GE179.out) | exact HB.out)); rintro e w141 ⟨rfl, hi, hb, hk⟩; refine ⟨_, rfl, ?_⟩; have n0_ := Aside0.mk (KeepBut.blk hk (g' := gb164) (o := .cells #[.int .i64 a0_0, .int .i64 a0_1, .int .i64 a0_2] 23 (0, 0)) (by (with_reducible repeat (first | refine blk_drewN ?_ _ | refine blk_drew ?_ | refine blk_alloc ?_ _)); (first | exact BK164.out | (rw [Nbq39.out]; exact BK164.out) | (rw [← Nbq39.out]; exact BK164.out))) NB164_174.out (by simp)); have n1_ := Aside0.mk (KeepBut.blk hk (g' := gb177) (o := .cells #[.int .i64 x178000_32, .int .i64 x178001_32, .int .i64 x178002_32, .int .i64 x178003_32, .bool x178004_32] 40 (0, 0)) (by (with_reducible repeat (first | refine blk_drewN ?_ _ | refine blk_drew ?_ | refine blk_alloc ?_ _)); (first | exact BK177.out | (rw [Nbq39.out]; exact BK177.out) | (rw [← Nbq39.out]; exact BK177.out))) NB177_174.out (by simp)); have n2_ := Aside0.mk (KeepBut.blk hk (g' := gb179) (o := .cells #[.bool ((rd_T34 l1 x52_2).f0), .int .i64 ((rd_T34 l1 x52_2).f1), .int .i64 ((rd_T34 l1 x52_2).f2)] 34 (0, 0)) (by (with_reducible repeat (first | refine blk_drewN ?_ _ | refine blk_drew ?_ | refine blk_alloc ?_ _)); (first | exact BK179.out | (rw [Nbq39.out]; exact BK179.out) | (rw [← Nbq39.out]; exact BK179.out))) NB179_174.out (by simp)); have n3_ := Aside0.mk (hb); have n4_ := Aside0.mk (hi); clear BK164; clear BK177; clear BK179; clear HB; clear HI174; have BK164 := n0_; have BK177 := n1_; have BK179 := n2_; have HB := n3_; have HI174 := n4_; clear n0_ n1_ n2_ n3_ n4_; (try clear hb); (try clear hb2); (try clear hk); (try clear hi); have hnb142 := NB177_164.out; have hnc142 := NB164_177.out; have hnb143 := NB177_179.out; have hnc143 := NB179_177.out; have hnb144 := NB177_174.out; have hnc144 := NB174_177.out; have hcz145_0 : w141.cell? ⟨gb177, 0, none⟩ = some (.int .i64 x178000_32) := (blk_cell BK177.out 0).trans rfl; have hcz145_1 : w141.cell? ⟨gb177, 1, none⟩ = some (.int .i64 x178001_32) := (blk_cell BK177.out 1).trans rfl; have hcz145_2 : w141.cell? ⟨gb177, 2, none⟩ = some (.int .i64 x178002_32) := (blk_cell BK177.out 2).trans rfl; have hcz145_3 : w141.cell? ⟨gb177, 3, none⟩ = some (.int .i64 x178003_32) := (blk_cell BK177.out 3).trans rfl; have hcz145_4 : w141.cell? ⟨gb177, 4, none⟩ = some (.bool x178004_32) := (blk_cell BK177.out 4).trans rfl; have hfz145_0 := blk_frozen BK177.out 0; have hfz145_1 := blk_frozen BK177.out 1; have hfz145_2 := blk_frozen BK177.out 2; have hfz145_3 := blk_frozen BK177.out 3; have hfz145_4 := blk_frozen BK177.out 4) | ((with_reducible refine gate_callee (f := 20) rfl ?_); refine goesL_ (some 101) rfl rfl Try.func20 (by kernel_rfl) rfl #[.agg #[.int .i64 x178000_32, .int .i64 x178001_32, .int .i64 x178002_32, .int .i64 x178003_32, .bool x178004_32], .int .i64 a2] rfl (by (try simp only [List.map_toArray, List.map_cons, List.map_nil]); first | done | rfl | (simp only [List.length_drop, List.length_take]; rfl)) ?_; (with_reducible refine (trickleref08_WaitTime.calls kj32 x178000_32 x178001_32 x178002_32 x178003_32 x178004_32 a2 t213 t214 _ A116.out).mono ?_); rintro e w146 ⟨rfl, hb⟩; refine ⟨_, rfl, ?_⟩; have n0_ := Aside0.mk (blk_below (g := gb164) (o := .cells #[.int .i64 a0_0, .int .i64 a0_1, .int .i64 a0_2] 23 (0, 0)) (by (with_reducible repeat (first | refine blk_drewN ?_ _ | refine blk_drew ?_ | refine blk_alloc ?_ _)); (first | exact BK164.out | (rw [Nbq39.out]; exact BK164.out) | (rw [← Nbq39.out]; exact BK164.out))) hb); have n1_ := Aside0.mk (blk_below (g := gb177) (o := .cells #[.int .i64 x178000_32, .int .i64 x178001_32, .int .i64 x178002_32, .int .i64 x178003_32, .bool x178004_32] 40 (0, 0)) (by (with_reducible repeat (first | refine blk_drewN ?_ _ | refine blk_drew ?_ | refine blk_alloc ?_ _)); (first | exact BK177.out | (rw [Nbq39.out]; exact BK177.out) | (rw [← Nbq39.out]; exact BK177.out))) hb); have n2_ := Aside0.mk (blk_below (g := gb179) (o := .cells #[.bool ((rd_T34 l1 x52_2).f0), .int .i64 ((rd_T34 l1 x52_2).f1), .int .i64 ((rd_T34 l1 x52_2).f2)] 34 (0, 0)) (by (with_reducible repeat (first | refine blk_drewN ?_ _ | refine blk_drew ?_ | refine blk_alloc ?_ _)); (first | exact BK179.out | (rw [Nbq39.out]; exact BK179.out) | (rw [← Nbq39.out]; exact BK179.out))) hb); have n3_ := Aside0.mk (IsS70.below (by repeat (first | (with_reducible first | exact HI174.out | apply IsS70.alloc | apply IsS70.drewN | apply IsS70.drew | apply IsS70.set_0 | apply IsS70.set_1 | apply IsS70.set_2 | apply IsS70.set_3 | apply IsS70.set_4 | refine IsS70.far ?_ NB174_164.out _ | refine IsS70.far ?_ NB174_177.out _ | refine IsS70.far ?_ NB174_179.out _) | exact HI174.out)) hb); have n4_ := Aside0.mk (below_step (by repeat (first | (with_reducible first | exact HB.out | apply below_alloc | apply pw_below_drewN | apply below_drew1 | refine below_set ?_ (IsS70.ge HI174.out) | refine below_set ?_ GE164.out | refine below_set ?_ GE177.out | refine below_set ?_ GE179.out) | exact HB.out)) hb); clear BK164; clear BK177; clear BK179; clear HI174; clear HB; have BK164 := n0_; have BK177 := n1_; have BK179 := n2_; have HI174 := n3_; have HB := n4_; clear n0_ n1_ n2_ n3_ n4_; (try clear hb); (try clear hb2); (try clear hk); (try clear hi)))
                  have n0_ := Aside0.mk (blk_drew BK164.out)
                  have n1_ := Aside0.mk (blk_drew BK177.out)
                  have n2_ := Aside0.mk (blk_drew BK179.out)
                  have n3_ := Aside0.mk (IsS70.drew HI174.out)
                  have n4_ := Aside0.mk (below_drew1 HB.out)
                  clear BK164
                  clear BK177
                  clear BK179
                  clear HI174
                  clear HB
                  have BK164 := n0_
                  have BK177 := n1_
                  have BK179 := n2_
                  have HI174 := n3_
                  have HB := n4_
                  clear n0_ n1_ n2_ n3_ n4_
                  refine start_ (n := 22) (S := fun w' => w'.cell? ⟨gb177, 0, none⟩ = some (.int .i64 x178000_32) ∧ w'.cell? ⟨gb177, 1, none⟩ = some (.int .i64 x178001_32) ∧ w'.cell? ⟨gb177, 2, none⟩ = some (.int .i64 x178002_32) ∧ w'.cell? ⟨gb177, 3, none⟩ = some (.int .i64 x178003_32) ∧ w'.cell? ⟨gb177, 4, none⟩ = some (.bool x178004_32)) (ds := []) #[false, false, false, false, false, false, false, false, false, false, false, false, false, false, false, false, false, false, false, false, false, false] (by kernel_rfl) rfl rfl ⟨(blk_cell BK177.out 0).trans rfl, (blk_cell BK177.out 1).trans rfl, (blk_cell BK177.out 2).trans rfl, (blk_cell BK177.out 3).trans rfl, (blk_cell BK177.out 4).trans rfl⟩ (fun hHeld => ?_); refine with_tabW mm.tab27 mm.bits27 (fun HT_ HW_ => ?_)
                  generalize w146.drew = w147 at BK164 BK177 BK179 HI174 HB hHeld ⊢
                  refine pure_ (i := 0) (N := some 104) (v := ?_) (a' := ?_) #[true, false, false, false, false, false, false, false, false, false, false, false, false, false, false, false, false, false, false, false, false, false] rfl rfl (any_of HT_.out (by kernel_rfl)) (fun _ _ _ h => h) (Or.inl ⟨by rfl, ?_⟩) ?_ ?_
                  rotate_left
                  ·
                   intro w'
                   go_simp
                   with_reducible rfl
                  rotate_left
                  ·
                   simp only [Act.put, List.setIfInBounds_toArray, List.set_cons_zero, List.set_cons_succ, i64_w, i32_w]
                   rfl
                  refine pure_ (i := 2) (N := some 106) (v := ?_) (a' := ?_) #[true, false, true, false, false, false, false, false, false, false, false, false, false, false, false, false, false, false, false, false, false, false] rfl rfl (any_of HT_.out (by kernel_rfl)) (fun _ _ _ h => h) (Or.inl ⟨by rfl, ?_⟩) ?_ ?_
                  rotate_left
                  ·
                   intro w'
                   go_simp
                   with_reducible rfl
                  rotate_left
                  ·
                   simp only [Act.put, List.setIfInBounds_toArray, List.set_cons_zero, List.set_cons_succ, i64_w, i32_w]
                   rfl
                  refine take_ (i := 3) (N := some 107) (v := ?_) (a' := ?_) #[true, false, true, true, false, false, false, false, false, false, false, false, false, false, false, false, false, false, false, false, false, false] rfl rfl (take_ofW HT_.out HW_.out (by kernel_rfl)) (fun _ _ _ h => h) (Or.inl ⟨by rfl, ?_⟩) hHeld ?_ ?_
                  rotate_left
                  ·
                   rintro w' ⟨s0, s1, s2, s3, s4⟩
                   go_simp
                   with_reducible rfl
                  rotate_left
                  ·
                   simp only [Act.put, List.setIfInBounds_toArray, List.set_cons_zero, List.set_cons_succ, i64_w, i32_w]
                   rfl
                  refine one_ (i := 1) (N := some 105) #[true, true, true, true, false, false, false, false, false, false, false, false, false, false, false, false, false, false, false, false, false, false] rfl rfl (one_of HT_.out (by kernel_rfl)) (by decide) (fun K hK => ?_)
                  refine goes_ Try.func13 (by kernel_rfl) rfl #[.pointer (some ⟨g174, 0, none⟩)] (by rfl) rfl rfl (by (try simp only [List.map_toArray, List.map_cons, List.map_nil]); first | done | rfl | (simp only [List.length_drop, List.length_take]; rfl)) ?_
                  with_reducible refine (capacitor_Capacitor_Charge.calls g174 t208 t209 t210 t211 t212 t215 t216 t217 t218 t219 t220 w _ ?side1 ?side2 A117.out).mono ?_
                  (case side1 => repeat (first | (with_reducible first | exact HI174.out | apply IsS70.alloc | apply IsS70.drewN | apply IsS70.drew | apply IsS70.set_0 | apply IsS70.set_1 | apply IsS70.set_2 | apply IsS70.set_3 | apply IsS70.set_4 | refine IsS70.far ?_ NB174_164.out _ | refine IsS70.far ?_ NB174_177.out _ | refine IsS70.far ?_ NB174_179.out _) | exact HI174.out))
                  (case side2 => repeat (first | (with_reducible first | exact HB.out | apply below_alloc | apply pw_below_drewN | apply below_drew1 | refine below_set ?_ (IsS70.ge HI174.out) | refine below_set ?_ GE164.out | refine below_set ?_ GE177.out | refine below_set ?_ GE179.out) | exact HB.out))
                  rintro e w148 ⟨rfl, hi, hb, hk⟩
                  refine ⟨_, rfl, ?_⟩
                  have n0_ := Aside0.mk (KeepBut.blk hk (g' := gb164) (o := .cells #[.int .i64 a0_0, .int .i64 a0_1, .int .i64 a0_2] 23 (0, 0)) (by (with_reducible repeat (first | refine blk_drewN ?_ _ | refine blk_drew ?_ | refine blk_alloc ?_ _)); (first | exact BK164.out | (rw [Nbq39.out]; exact BK164.out) | (rw [← Nbq39.out]; exact BK164.out))) NB164_174.out (by simp))
                  have n1_ := Aside0.mk (KeepBut.blk hk (g' := gb177) (o := .cells #[.int .i64 x178000_32, .int .i64 x178001_32, .int .i64 x178002_32, .int .i64 x178003_32, .bool x178004_32] 40 (0, 0)) (by (with_reducible repeat (first | refine blk_drewN ?_ _ | refine blk_drew ?_ | refine blk_alloc ?_ _)); (first | exact BK177.out | (rw [Nbq39.out]; exact BK177.out) | (rw [← Nbq39.out]; exact BK177.out))) NB177_174.out (by simp))
                  have n2_ := Aside0.mk (KeepBut.blk hk (g' := gb179) (o := .cells #[.bool ((rd_T34 l1 x52_2).f0), .int .i64 ((rd_T34 l1 x52_2).f1), .int .i64 ((rd_T34 l1 x52_2).f2)] 34 (0, 0)) (by (with_reducible repeat (first | refine blk_drewN ?_ _ | refine blk_drew ?_ | refine blk_alloc ?_ _)); (first | exact BK179.out | (rw [Nbq39.out]; exact BK179.out) | (rw [← Nbq39.out]; exact BK179.out))) NB179_174.out (by simp))
                  have n3_ := Aside0.mk (hb)
                  have n4_ := Aside0.mk (hi)
                  clear BK164
                  clear BK177
                  clear BK179
                  clear HB
                  clear HI174
                  have BK164 := n0_
                  have BK177 := n1_
                  have BK179 := n2_
                  have HB := n3_
                  have HI174 := n4_
                  clear n0_ n1_ n2_ n3_ n4_
                  (try clear hb)
                  (try clear hb2)
                  (try clear hk)
                  (try clear hi)
                  refine hK.out _ _ ⟨(blk_cell BK177.out 0).trans rfl, (blk_cell BK177.out 1).trans rfl, (blk_cell BK177.out 2).trans rfl, (blk_cell BK177.out 3).trans rfl, (blk_cell BK177.out 4).trans rfl⟩ (fun hHeld => ?_)
                  clear hK K
                  refine norm_ (a' := ?_) ?_ ?_
                  rotate_left
                  ·
                   show Act.put _ (some 105) _ = _
                   simp only [Act.put, List.setIfInBounds_toArray, List.set_cons_zero, List.set_cons_succ, i64_w, i32_w]
                   rfl
                  refine pure_ (i := 4) (N := some 108) (v := ?_) (a' := ?_) #[true, true, true, true, true, false, false, false, false, false, false, false, false, false, false, false, false, false, false, false, false, false] rfl rfl (any_of HT_.out (by kernel_rfl)) (fun _ _ _ h => h) (Or.inl ⟨by rfl, ?_⟩) ?_ ?_
                  rotate_left
                  ·
                   intro w'
                   go_simp
                   with_reducible rfl
                  rotate_left
                  ·
                   simp only [Act.put, List.setIfInBounds_toArray, List.set_cons_zero, List.set_cons_succ, i64_w, i32_w]
                   rfl
                  refine pure_ (i := 5) (N := some 109) (v := ?_) (a' := ?_) #[true, true, true, true, true, true, false, false, false, false, false, false, false, false, false, false, false, false, false, false, false, false] rfl rfl (any_of HT_.out (by kernel_rfl)) (fun _ _ _ h => h) (Or.inl ⟨by rfl, ?_⟩) ?_ ?_
                  rotate_left
                  ·
                   intro w'
                   go_simp
                   with_reducible rfl
                  rotate_left
                  ·
                   simp only [Act.put, List.setIfInBounds_toArray, List.set_cons_zero, List.set_cons_succ, i64_w, i32_w]
                   rfl
                  refine pure_ (i := 6) (N := some 110) (v := ?_) (a' := ?_) #[true, true, true, true, true, true, true, false, false, false, false, false, false, false, false, false, false, false, false, false, false, false] rfl rfl (any_of HT_.out (by kernel_rfl)) (fun _ _ _ h => h) (Or.inl ⟨by rfl, ?_⟩) ?_ ?_
                  rotate_left
                  ·
                   intro w'
                   go_simp
                   with_reducible rfl
                  rotate_left
                  ·
                   simp only [Act.put, List.setIfInBounds_toArray, List.set_cons_zero, List.set_cons_succ, i64_w, i32_w]
                   rfl
                  refine pure_ (i := 8) (N := some 112) (v := ?_) (a' := ?_) #[true, true, true, true, true, true, true, false, true, false, false, false, false, false, false, false, false, false, false, false, false, false] rfl rfl (any_of HT_.out (by kernel_rfl)) (fun _ _ _ h => h) (Or.inl ⟨by rfl, ?_⟩) ?_ ?_
                  rotate_left
                  ·
                   intro w'
                   go_simp
                   with_reducible rfl
                  rotate_left
                  ·
                   simp only [Act.put, List.setIfInBounds_toArray, List.set_cons_zero, List.set_cons_succ, i64_w, i32_w]
                   rfl
                  refine take_ (i := 9) (N := some 113) (v := ?_) (a' := ?_) #[true, true, true, true, true, true, true, false, true, true, false, false, false, false, false, false, false, false, false, false, false, false] rfl rfl (take_ofW HT_.out HW_.out (by kernel_rfl)) (fun _ _ _ h => h) (Or.inl ⟨by rfl, ?_⟩) hHeld ?_ ?_
                  rotate_left
                  ·
                   rintro w' ⟨s0, s1, s2, s3, s4⟩
                   go_simp
                   with_reducible rfl
                  rotate_left
                  ·
                   simp only [Act.put, List.setIfInBounds_toArray, List.set_cons_zero, List.set_cons_succ, i64_w, i32_w]
                   rfl
                  refine one_ (i := 7) (N := some 111) #[true, true, true, true, true, true, true, true, true, true, false, false, false, false, false, false, false, false, false, false, false, false] rfl rfl (one_of HT_.out (by kernel_rfl)) (by decide) (fun K hK => ?_)
                  refine goes_ Try.func16 (by kernel_rfl) rfl #[.pointer (some ⟨g174, 0, none⟩)] (by rfl) rfl rfl (by (try simp only [List.map_toArray, List.map_cons, List.map_nil]); first | done | rfl | (simp only [List.length_drop, List.length_take]; rfl)) ?_
                  with_reducible refine (capacitor_Capacitor_Running.calls g174 t216 t217 t218 t219 t220 t221 t222 t223 t224 t225 t226 w _ ?side1 ?side2 A119.out).mono ?_
                  (case side1 => repeat (first | (with_reducible first | exact HI174.out | apply IsS70.alloc | apply IsS70.drewN | apply IsS70.drew | apply IsS70.set_0 | apply IsS70.set_1 | apply IsS70.set_2 | apply IsS70.set_3 | apply IsS70.set_4 | refine IsS70.far ?_ NB174_164.out _ | refine IsS70.far ?_ NB174_177.out _ | refine IsS70.far ?_ NB174_179.out _) | exact HI174.out))
                  (case side2 => repeat (first | (with_reducible first | exact HB.out | apply below_alloc | apply pw_below_drewN | apply below_drew1 | refine below_set ?_ (IsS70.ge HI174.out) | refine below_set ?_ GE164.out | refine below_set ?_ GE177.out | refine below_set ?_ GE179.out) | exact HB.out))
                  rintro e w149 ⟨rfl, hi, hb, hk⟩
                  refine ⟨_, rfl, ?_⟩
                  have n0_ := Aside0.mk (KeepBut.blk hk (g' := gb164) (o := .cells #[.int .i64 a0_0, .int .i64 a0_1, .int .i64 a0_2] 23 (0, 0)) (by (with_reducible repeat (first | refine blk_drewN ?_ _ | refine blk_drew ?_ | refine blk_alloc ?_ _)); (first | exact BK164.out | (rw [Nbq39.out]; exact BK164.out) | (rw [← Nbq39.out]; exact BK164.out))) NB164_174.out (by simp))
                  have n1_ := Aside0.mk (KeepBut.blk hk (g' := gb177) (o := .cells #[.int .i64 x178000_32, .int .i64 x178001_32, .int .i64 x178002_32, .int .i64 x178003_32, .bool x178004_32] 40 (0, 0)) (by (with_reducible repeat (first | refine blk_drewN ?_ _ | refine blk_drew ?_ | refine blk_alloc ?_ _)); (first | exact BK177.out | (rw [Nbq39.out]; exact BK177.out) | (rw [← Nbq39.out]; exact BK177.out))) NB177_174.out (by simp))
                  have n2_ := Aside0.mk (KeepBut.blk hk (g' := gb179) (o := .cells #[.bool ((rd_T34 l1 x52_2).f0), .int .i64 ((rd_T34 l1 x52_2).f1), .int .i64 ((rd_T34 l1 x52_2).f2)] 34 (0, 0)) (by (with_reducible repeat (first | refine blk_drewN ?_ _ | refine blk_drew ?_ | refine blk_alloc ?_ _)); (first | exact BK179.out | (rw [Nbq39.out]; exact BK179.out) | (rw [← Nbq39.out]; exact BK179.out))) NB179_174.out (by simp))
                  have n3_ := Aside0.mk (hb)
                  have n4_ := Aside0.mk (hi)
                  clear BK164
                  clear BK177
                  clear BK179
                  clear HB
                  clear HI174
                  have BK164 := n0_
                  have BK177 := n1_
                  have BK179 := n2_
                  have HB := n3_
                  have HI174 := n4_
                  clear n0_ n1_ n2_ n3_ n4_
                  (try clear hb)
                  (try clear hb2)
                  (try clear hk)
                  (try clear hi)
                  refine hK.out _ _ ⟨(blk_cell BK177.out 0).trans rfl, (blk_cell BK177.out 1).trans rfl, (blk_cell BK177.out 2).trans rfl, (blk_cell BK177.out 3).trans rfl, (blk_cell BK177.out 4).trans rfl⟩ (fun hHeld => ?_)
                  clear hK K
                  refine norm_ (a' := ?_) ?_ ?_
                  rotate_left
                  ·
                   show Act.put _ (some 111) _ = _
                   simp only [Act.put, List.setIfInBounds_toArray, List.set_cons_zero, List.set_cons_succ, i64_w, i32_w]
                   rfl
                  refine pure_ (i := 10) (N := some 114) (v := ?_) (a' := ?_) #[true, true, true, true, true, true, true, true, true, true, true, false, false, false, false, false, false, false, false, false, false, false] rfl rfl (any_of HT_.out (by kernel_rfl)) (fun _ _ _ h => h) (Or.inl ⟨by rfl, ?_⟩) ?_ ?_
                  rotate_left
                  ·
                   intro w'
                   go_simp
                   with_reducible rfl
                  rotate_left
                  ·
                   simp only [Act.put, List.setIfInBounds_toArray, List.set_cons_zero, List.set_cons_succ, i64_w, i32_w]
                   rfl
                  refine pure_ (i := 11) (N := some 115) (v := ?_) (a' := ?_) #[true, true, true, true, true, true, true, true, true, true, true, true, false, false, false, false, false, false, false, false, false, false] rfl rfl (any_of HT_.out (by kernel_rfl)) (fun _ _ _ h => h) (Or.inl ⟨by rfl, ?_⟩) ?_ ?_
                  rotate_left
                  ·
                   intro w'
                   go_simp
                   with_reducible rfl
                  rotate_left
                  ·
                   simp only [Act.put, List.setIfInBounds_toArray, List.set_cons_zero, List.set_cons_succ, i64_w, i32_w]
                   rfl
                  refine pure_ (i := 12) (N := some 116) (v := ?_) (a' := ?_) #[true, true, true, true, true, true, true, true, true, true, true, true, true, false, false, false, false, false, false, false, false, false] rfl rfl (any_of HT_.out (by kernel_rfl)) (fun _ _ _ h => h) (Or.inl ⟨by rfl, ?_⟩) ?_ ?_
                  rotate_left
                  ·
                   intro w'
                   go_simp
                   with_reducible rfl
                  rotate_left
                  ·
                   simp only [Act.put, List.setIfInBounds_toArray, List.set_cons_zero, List.set_cons_succ, i64_w, i32_w]
                   rfl
                  refine pure_ (i := 13) (N := some 117) (v := ?_) (a' := ?_) #[true, true, true, true, true, true, true, true, true, true, true, true, true, true, false, false, false, false, false, false, false, false] rfl rfl (any_of HT_.out (by kernel_rfl)) (fun _ _ _ h => h) (Or.inl ⟨by rfl, ?_⟩) ?_ ?_
                  rotate_left
                  ·
                   intro w'
                   go_simp
                   with_reducible rfl
                  rotate_left
                  ·
                   simp only [Act.put, List.setIfInBounds_toArray, List.set_cons_zero, List.set_cons_succ, i64_w, i32_w]
                   rfl
                  refine pure_ (i := 14) (N := some 118) (v := ?_) (a' := ?_) #[true, true, true, true, true, true, true, true, true, true, true, true, true, true, true, false, false, false, false, false, false, false] rfl rfl (any_of HT_.out (by kernel_rfl)) (fun _ _ _ h => h) (Or.inl ⟨by rfl, ?_⟩) ?_ ?_
                  rotate_left
                  ·
                   intro w'
                   go_simp
                   with_reducible rfl
                  rotate_left
                  ·
                   simp only [Act.put, List.setIfInBounds_toArray, List.set_cons_zero, List.set_cons_succ, i64_w, i32_w]
                   rfl
                  refine pure_ (i := 15) (N := some 119) (v := ?_) (a' := ?_) #[true, true, true, true, true, true, true, true, true, true, true, true, true, true, true, true, false, false, false, false, false, false] rfl rfl (any_of HT_.out (by kernel_rfl)) (fun _ _ _ h => h) (Or.inl ⟨by rfl, ?_⟩) ?_ ?_
                  rotate_left
                  ·
                   intro w'
                   go_simp
                   with_reducible rfl
                  rotate_left
                  ·
                   simp only [Act.put, List.setIfInBounds_toArray, List.set_cons_zero, List.set_cons_succ, i64_w, i32_w]
                   rfl
                  refine pure_ (i := 16) (N := some 120) (v := ?_) (a' := ?_) #[true, true, true, true, true, true, true, true, true, true, true, true, true, true, true, true, true, false, false, false, false, false] rfl rfl (any_of HT_.out (by kernel_rfl)) (fun _ _ _ h => h) (Or.inl ⟨by rfl, ?_⟩) ?_ ?_
                  rotate_left
                  ·
                   intro w'
                   go_simp
                   with_reducible rfl
                  rotate_left
                  ·
                   simp only [Act.put, List.setIfInBounds_toArray, List.set_cons_zero, List.set_cons_succ, i64_w, i32_w]
                   rfl
                  refine pure_ (i := 17) (N := some 121) (v := ?_) (a' := ?_) #[true, true, true, true, true, true, true, true, true, true, true, true, true, true, true, true, true, true, false, false, false, false] rfl rfl (any_of HT_.out (by kernel_rfl)) (fun _ _ _ h => h) (Or.inl ⟨by rfl, ?_⟩) ?_ ?_
                  rotate_left
                  ·
                   intro w'
                   go_simp
                   with_reducible rfl
                  rotate_left
                  ·
                   simp only [Act.put, List.setIfInBounds_toArray, List.set_cons_zero, List.set_cons_succ, i64_w, i32_w]
                   rfl
                  refine pure_ (i := 18) (N := some 122) (v := ?_) (a' := ?_) #[true, true, true, true, true, true, true, true, true, true, true, true, true, true, true, true, true, true, true, false, false, false] rfl rfl (any_of HT_.out (by kernel_rfl)) (fun _ _ _ h => h) (Or.inl ⟨by rfl, ?_⟩) ?_ ?_
                  rotate_left
                  ·
                   intro w'
                   go_simp
                   with_reducible rfl
                  rotate_left
                  ·
                   simp only [Act.put, List.setIfInBounds_toArray, List.set_cons_zero, List.set_cons_succ, i64_w, i32_w]
                   rfl
                  refine pure_ (i := 19) (N := some 123) (v := ?_) (a' := ?_) #[true, true, true, true, true, true, true, true, true, true, true, true, true, true, true, true, true, true, true, true, false, false] rfl rfl (any_of HT_.out (by kernel_rfl)) (fun _ _ _ h => h) (Or.inl ⟨by rfl, ?_⟩) ?_ ?_
                  rotate_left
                  ·
                   intro w'
                   go_simp
                   with_reducible rfl
                  rotate_left
                  ·
                   simp only [Act.put, List.setIfInBounds_toArray, List.set_cons_zero, List.set_cons_succ, i64_w, i32_w]
                   rfl
                  refine pure_ (i := 20) (N := some 124) (v := ?_) (a' := ?_) #[true, true, true, true, true, true, true, true, true, true, true, true, true, true, true, true, true, true, true, true, true, false] rfl rfl (any_of HT_.out (by kernel_rfl)) (fun _ _ _ h => h) (Or.inl ⟨by rfl, ?_⟩) ?_ ?_
                  rotate_left
                  ·
                   intro w'
                   go_simp
                   with_reducible rfl
                  rotate_left
                  ·
                   simp only [Act.put, List.setIfInBounds_toArray, List.set_cons_zero, List.set_cons_succ, i64_w, i32_w]
                   rfl
                  refine pure_ (i := 21) (N := some 125) (v := ?_) (a' := ?_) #[true, true, true, true, true, true, true, true, true, true, true, true, true, true, true, true, true, true, true, true, true, true] rfl rfl (any_of HT_.out (by kernel_rfl)) (fun _ _ _ h => h) (Or.inl ⟨by rfl, ?_⟩) ?_ ?_
                  rotate_left
                  ·
                   intro w'
                   go_simp
                   with_reducible rfl
                  rotate_left
                  ·
                   simp only [Act.put, List.setIfInBounds_toArray, List.set_cons_zero, List.set_cons_succ, i64_w, i32_w]
                   rfl
                  refine done_ (done_of HT_.out (by kernel_rfl)) ?_
                  try go_wp2
                  go_roundg kj32
                  case measure => have := HJ12.out; have := HK2.out; have := HJ32.out; omega
                  case rel => exact ⟨(wrap64 (x52_2 + 1)), (t222), (t223), (t224), (t225), (t226), (x178000_32), (x178001_32), (x178002_32), (x178003_32), (x178004_32), (by first | rfl | (simp; done) | (simp [*]; done)), H', ⟨by have := HJ12.out; have := HK2.out; have := HJ32.out; omega⟩, ⟨by (with_reducible repeat (first | refine blk_drewN ?_ _ | refine blk_drew ?_ | refine blk_alloc ?_ _)); (first | exact BK164.out | (rw [Nbq39.out]; exact BK164.out) | (rw [← Nbq39.out]; exact BK164.out))⟩, ⟨by (with_reducible repeat (first | refine blk_drewN ?_ _ | refine blk_drew ?_ | refine blk_alloc ?_ _)); (first | exact BK177.out | (rw [Nbq39.out]; exact BK177.out) | (rw [← Nbq39.out]; exact BK177.out))⟩, ⟨by repeat (first | (with_reducible first | exact HI174.out | apply IsS70.alloc | apply IsS70.drewN | apply IsS70.drew | apply IsS70.set_0 | apply IsS70.set_1 | apply IsS70.set_2 | apply IsS70.set_3 | apply IsS70.set_4 | refine IsS70.far ?_ NB174_164.out _ | refine IsS70.far ?_ NB174_177.out _ | refine IsS70.far ?_ NB174_179.out _) | exact HI174.out)⟩, ⟨by repeat (first | (with_reducible first | exact HB.out | apply below_alloc | apply pw_below_drewN | apply below_drew1 | refine below_set ?_ (IsS70.ge HI174.out) | refine below_set ?_ GE164.out | refine below_set ?_ GE177.out | refine below_set ?_ GE179.out) | exact HB.out)⟩⟩
                ·
                 rw [if_neg c130] at H
                 have c130b0 : (t206 == t213) = false := beq_eq_false_iff_ne.mpr c130
                 have c130b1 : (t206 != t213) = true := bne_iff_ne.mpr c130
                 obtain rfl := Option.some.inj H
                 try go_wp2_with (first | ((with_reducible refine gate_callee (f := 19) rfl ?_); refine goesL_ (some 95) rfl rfl Try.func19 (by kernel_rfl) rfl #[.pointer (some ⟨g174, 0, none⟩), .int .i64 a2] rfl (by (try simp only [List.map_toArray, List.map_cons, List.map_nil]); first | done | rfl | (simp only [List.length_drop, List.length_take]; rfl)) ?_; (with_reducible refine (capacitor_Capacitor_WaitTime.calls g174 x175000_32 x175001_32 x175002_32 x175003_32 x175004_32 a2 t206 t207 t208 t209 t210 t211 t212 w _ ?side1 ?side2 A115.out).mono ?_); (case side1 => repeat (first | (with_reducible first | exact HI174.out | apply IsS70.alloc | apply IsS70.drewN | apply IsS70.drew | apply IsS70.set_0 | apply IsS70.set_1 | apply IsS70.set_2 | apply IsS70.set_3 | apply IsS70.set_4 | refine IsS70.far ?_ NB174_164.out _ | refine IsS70.far ?_ NB174_177.out _ | refine IsS70.far ?_ NB174_179.out _) | exact HI174.out)); (case side2 => repeat (first | (with_reducible first | exact HB.out | apply below_alloc | apply pw_below_drewN | apply below_drew1 | refine below_set ?_ (IsS70.ge HI174.out) | refine below_set ?_ GE164.out | refine below_set ?_ GE177.out | refine below_set ?_ GE179.out) | exact HB.out)); rintro e w150 ⟨rfl, hi, hb, hk⟩; refine ⟨_, rfl, ?_⟩; have n0_ := Aside0.mk (KeepBut.blk hk (g' := gb164) (o := .cells #[.int .i64 a0_0, .int .i64 a0_1, .int .i64 a0_2] 23 (0, 0)) (by (with_reducible repeat (first | refine blk_drewN ?_ _ | refine blk_drew ?_ | refine blk_alloc ?_ _)); (first | exact BK164.out | (rw [Nbq39.out]; exact BK164.out) | (rw [← Nbq39.out]; exact BK164.out))) NB164_174.out (by simp)); have n1_ := Aside0.mk (KeepBut.blk hk (g' := gb177) (o := .cells #[.int .i64 x178000_32, .int .i64 x178001_32, .int .i64 x178002_32, .int .i64 x178003_32, .bool x178004_32] 40 (0, 0)) (by (with_reducible repeat (first | refine blk_drewN ?_ _ | refine blk_drew ?_ | refine blk_alloc ?_ _)); (first | exact BK177.out | (rw [Nbq39.out]; exact BK177.out) | (rw [← Nbq39.out]; exact BK177.out))) NB177_174.out (by simp)); have n2_ := Aside0.mk (KeepBut.blk hk (g' := gb179) (o := .cells #[.bool ((rd_T34 l1 x52_2).f0), .int .i64 ((rd_T34 l1 x52_2).f1), .int .i64 ((rd_T34 l1 x52_2).f2)] 34 (0, 0)) (by (with_reducible repeat (first | refine blk_drewN ?_ _ | refine blk_drew ?_ | refine blk_alloc ?_ _)); (first | exact BK179.out | (rw [Nbq39.out]; exact BK179.out) | (rw [← Nbq39.out]; exact BK179.out))) NB179_174.out (by simp)); have n3_ := Aside0.mk (hb); have n4_ := Aside0.mk (hi); clear BK164; clear BK177; clear BK179; clear HB; clear HI174; have BK164 := n0_; have BK177 := n1_; have BK179 := n2_; have HB := n3_; have HI174 := n4_; clear n0_ n1_ n2_ n3_ n4_; (try clear hb); (try clear hb2); (try clear hk); (try clear hi); have hnb151 := NB177_164.out; have hnc151 := NB164_177.out; have hnb152 := NB177_179.out; have hnc152 := NB179_177.out; have hnb153 := NB177_174.out; have hnc153 := NB174_177.out; have hcz154_0 : w150.cell? ⟨gb177, 0, none⟩ = some (.int .i64 x178000_32) := (blk_cell BK177.out 0).trans rfl; have hcz154_1 : w150.cell? ⟨gb177, 1, none⟩ = some (.int .i64 x178001_32) := (blk_cell BK177.out 1).trans rfl; have hcz154_2 : w150.cell? ⟨gb177, 2, none⟩ = some (.int .i64 x178002_32) := (blk_cell BK177.out 2).trans rfl; have hcz154_3 : w150.cell? ⟨gb177, 3, none⟩ = some (.int .i64 x178003_32) := (blk_cell BK177.out 3).trans rfl; have hcz154_4 : w150.cell? ⟨gb177, 4, none⟩ = some (.bool x178004_32) := (blk_cell BK177.out 4).trans rfl; have hfz154_0 := blk_frozen BK177.out 0; have hfz154_1 := blk_frozen BK177.out 1; have hfz154_2 := blk_frozen BK177.out 2; have hfz154_3 := blk_frozen BK177.out 3; have hfz154_4 := blk_frozen BK177.out 4) | ((with_reducible refine gate_callee (f := 20) rfl ?_); refine goesL_ (some 101) rfl rfl Try.func20 (by kernel_rfl) rfl #[.agg #[.int .i64 x178000_32, .int .i64 x178001_32, .int .i64 x178002_32, .int .i64 x178003_32, .bool x178004_32], .int .i64 a2] rfl (by (try simp only [List.map_toArray, List.map_cons, List.map_nil]); first | done | rfl | (simp only [List.length_drop, List.length_take]; rfl)) ?_; (with_reducible refine (trickleref08_WaitTime.calls kj32 x178000_32 x178001_32 x178002_32 x178003_32 x178004_32 a2 t213 t214 _ A116.out).mono ?_); rintro e w155 ⟨rfl, hb⟩; refine ⟨_, rfl, ?_⟩; have n0_ := Aside0.mk (blk_below (g := gb164) (o := .cells #[.int .i64 a0_0, .int .i64 a0_1, .int .i64 a0_2] 23 (0, 0)) (by (with_reducible repeat (first | refine blk_drewN ?_ _ | refine blk_drew ?_ | refine blk_alloc ?_ _)); (first | exact BK164.out | (rw [Nbq39.out]; exact BK164.out) | (rw [← Nbq39.out]; exact BK164.out))) hb); have n1_ := Aside0.mk (blk_below (g := gb177) (o := .cells #[.int .i64 x178000_32, .int .i64 x178001_32, .int .i64 x178002_32, .int .i64 x178003_32, .bool x178004_32] 40 (0, 0)) (by (with_reducible repeat (first | refine blk_drewN ?_ _ | refine blk_drew ?_ | refine blk_alloc ?_ _)); (first | exact BK177.out | (rw [Nbq39.out]; exact BK177.out) | (rw [← Nbq39.out]; exact BK177.out))) hb); have n2_ := Aside0.mk (blk_below (g := gb179) (o := .cells #[.bool ((rd_T34 l1 x52_2).f0), .int .i64 ((rd_T34 l1 x52_2).f1), .int .i64 ((rd_T34 l1 x52_2).f2)] 34 (0, 0)) (by (with_reducible repeat (first | refine blk_drewN ?_ _ | refine blk_drew ?_ | refine blk_alloc ?_ _)); (first | exact BK179.out | (rw [Nbq39.out]; exact BK179.out) | (rw [← Nbq39.out]; exact BK179.out))) hb); have n3_ := Aside0.mk (IsS70.below (by repeat (first | (with_reducible first | exact HI174.out | apply IsS70.alloc | apply IsS70.drewN | apply IsS70.drew | apply IsS70.set_0 | apply IsS70.set_1 | apply IsS70.set_2 | apply IsS70.set_3 | apply IsS70.set_4 | refine IsS70.far ?_ NB174_164.out _ | refine IsS70.far ?_ NB174_177.out _ | refine IsS70.far ?_ NB174_179.out _) | exact HI174.out)) hb); have n4_ := Aside0.mk (below_step (by repeat (first | (with_reducible first | exact HB.out | apply below_alloc | apply pw_below_drewN | apply below_drew1 | refine below_set ?_ (IsS70.ge HI174.out) | refine below_set ?_ GE164.out | refine below_set ?_ GE177.out | refine below_set ?_ GE179.out) | exact HB.out)) hb); clear BK164; clear BK177; clear BK179; clear HI174; clear HB; have BK164 := n0_; have BK177 := n1_; have BK179 := n2_; have HI174 := n3_; have HB := n4_; clear n0_ n1_ n2_ n3_ n4_; (try clear hb); (try clear hb2); (try clear hk); (try clear hi)))
                 have n0_ := Aside0.mk (blk_drew BK164.out)
                 have n1_ := Aside0.mk (blk_drew BK177.out)
                 have n2_ := Aside0.mk (blk_drew BK179.out)
                 have n3_ := Aside0.mk (IsS70.drew HI174.out)
                 have n4_ := Aside0.mk (below_drew1 HB.out)
                 clear BK164
                 clear BK177
                 clear BK179
                 clear HI174
                 clear HB
                 have BK164 := n0_
                 have BK177 := n1_
                 have BK179 := n2_
                 have HI174 := n3_
                 have HB := n4_
                 clear n0_ n1_ n2_ n3_ n4_
                 refine start_ (n := 22) (S := fun w' => w'.cell? ⟨gb177, 0, none⟩ = some (.int .i64 x178000_32) ∧ w'.cell? ⟨gb177, 1, none⟩ = some (.int .i64 x178001_32) ∧ w'.cell? ⟨gb177, 2, none⟩ = some (.int .i64 x178002_32) ∧ w'.cell? ⟨gb177, 3, none⟩ = some (.int .i64 x178003_32) ∧ w'.cell? ⟨gb177, 4, none⟩ = some (.bool x178004_32)) (ds := []) #[false, false, false, false, false, false, false, false, false, false, false, false, false, false, false, false, false, false, false, false, false, false] (by kernel_rfl) rfl rfl ⟨(blk_cell BK177.out 0).trans rfl, (blk_cell BK177.out 1).trans rfl, (blk_cell BK177.out 2).trans rfl, (blk_cell BK177.out 3).trans rfl, (blk_cell BK177.out 4).trans rfl⟩ (fun hHeld => ?_); refine with_tabW mm.tab27 mm.bits27 (fun HT_ HW_ => ?_)
                 generalize w155.drew = w156 at BK164 BK177 BK179 HI174 HB hHeld ⊢
                 refine pure_ (i := 0) (N := some 104) (v := ?_) (a' := ?_) #[true, false, false, false, false, false, false, false, false, false, false, false, false, false, false, false, false, false, false, false, false, false] rfl rfl (any_of HT_.out (by kernel_rfl)) (fun _ _ _ h => h) (Or.inl ⟨by rfl, ?_⟩) ?_ ?_
                 rotate_left
                 ·
                  intro w'
                  go_simp
                  with_reducible rfl
                 rotate_left
                 ·
                  simp only [Act.put, List.setIfInBounds_toArray, List.set_cons_zero, List.set_cons_succ, i64_w, i32_w]
                  rfl
                 refine pure_ (i := 2) (N := some 106) (v := ?_) (a' := ?_) #[true, false, true, false, false, false, false, false, false, false, false, false, false, false, false, false, false, false, false, false, false, false] rfl rfl (any_of HT_.out (by kernel_rfl)) (fun _ _ _ h => h) (Or.inl ⟨by rfl, ?_⟩) ?_ ?_
                 rotate_left
                 ·
                  intro w'
                  go_simp
                  with_reducible rfl
                 rotate_left
                 ·
                  simp only [Act.put, List.setIfInBounds_toArray, List.set_cons_zero, List.set_cons_succ, i64_w, i32_w]
                  rfl
                 refine take_ (i := 3) (N := some 107) (v := ?_) (a' := ?_) #[true, false, true, true, false, false, false, false, false, false, false, false, false, false, false, false, false, false, false, false, false, false] rfl rfl (take_ofW HT_.out HW_.out (by kernel_rfl)) (fun _ _ _ h => h) (Or.inl ⟨by rfl, ?_⟩) hHeld ?_ ?_
                 rotate_left
                 ·
                  rintro w' ⟨s0, s1, s2, s3, s4⟩
                  go_simp
                  with_reducible rfl
                 rotate_left
                 ·
                  simp only [Act.put, List.setIfInBounds_toArray, List.set_cons_zero, List.set_cons_succ, i64_w, i32_w]
                  rfl
                 refine one_ (i := 1) (N := some 105) #[true, true, true, true, false, false, false, false, false, false, false, false, false, false, false, false, false, false, false, false, false, false] rfl rfl (one_of HT_.out (by kernel_rfl)) (by decide) (fun K hK => ?_)
                 refine goes_ Try.func13 (by kernel_rfl) rfl #[.pointer (some ⟨g174, 0, none⟩)] (by rfl) rfl rfl (by (try simp only [List.map_toArray, List.map_cons, List.map_nil]); first | done | rfl | (simp only [List.length_drop, List.length_take]; rfl)) ?_
                 with_reducible refine (capacitor_Capacitor_Charge.calls g174 t208 t209 t210 t211 t212 t215 t216 t217 t218 t219 t220 w _ ?side1 ?side2 A117.out).mono ?_
                 (case side1 => repeat (first | (with_reducible first | exact HI174.out | apply IsS70.alloc | apply IsS70.drewN | apply IsS70.drew | apply IsS70.set_0 | apply IsS70.set_1 | apply IsS70.set_2 | apply IsS70.set_3 | apply IsS70.set_4 | refine IsS70.far ?_ NB174_164.out _ | refine IsS70.far ?_ NB174_177.out _ | refine IsS70.far ?_ NB174_179.out _) | exact HI174.out))
                 (case side2 => repeat (first | (with_reducible first | exact HB.out | apply below_alloc | apply pw_below_drewN | apply below_drew1 | refine below_set ?_ (IsS70.ge HI174.out) | refine below_set ?_ GE164.out | refine below_set ?_ GE177.out | refine below_set ?_ GE179.out) | exact HB.out))
                 rintro e w157 ⟨rfl, hi, hb, hk⟩
                 refine ⟨_, rfl, ?_⟩
                 have n0_ := Aside0.mk (KeepBut.blk hk (g' := gb164) (o := .cells #[.int .i64 a0_0, .int .i64 a0_1, .int .i64 a0_2] 23 (0, 0)) (by (with_reducible repeat (first | refine blk_drewN ?_ _ | refine blk_drew ?_ | refine blk_alloc ?_ _)); (first | exact BK164.out | (rw [Nbq39.out]; exact BK164.out) | (rw [← Nbq39.out]; exact BK164.out))) NB164_174.out (by simp))
                 have n1_ := Aside0.mk (KeepBut.blk hk (g' := gb177) (o := .cells #[.int .i64 x178000_32, .int .i64 x178001_32, .int .i64 x178002_32, .int .i64 x178003_32, .bool x178004_32] 40 (0, 0)) (by (with_reducible repeat (first | refine blk_drewN ?_ _ | refine blk_drew ?_ | refine blk_alloc ?_ _)); (first | exact BK177.out | (rw [Nbq39.out]; exact BK177.out) | (rw [← Nbq39.out]; exact BK177.out))) NB177_174.out (by simp))
                 have n2_ := Aside0.mk (KeepBut.blk hk (g' := gb179) (o := .cells #[.bool ((rd_T34 l1 x52_2).f0), .int .i64 ((rd_T34 l1 x52_2).f1), .int .i64 ((rd_T34 l1 x52_2).f2)] 34 (0, 0)) (by (with_reducible repeat (first | refine blk_drewN ?_ _ | refine blk_drew ?_ | refine blk_alloc ?_ _)); (first | exact BK179.out | (rw [Nbq39.out]; exact BK179.out) | (rw [← Nbq39.out]; exact BK179.out))) NB179_174.out (by simp))
                 have n3_ := Aside0.mk (hb)
                 have n4_ := Aside0.mk (hi)
                 clear BK164
                 clear BK177
                 clear BK179
                 clear HB
                 clear HI174
                 have BK164 := n0_
                 have BK177 := n1_
                 have BK179 := n2_
                 have HB := n3_
                 have HI174 := n4_
                 clear n0_ n1_ n2_ n3_ n4_
                 (try clear hb)
                 (try clear hb2)
                 (try clear hk)
                 (try clear hi)
                 refine hK.out _ _ ⟨(blk_cell BK177.out 0).trans rfl, (blk_cell BK177.out 1).trans rfl, (blk_cell BK177.out 2).trans rfl, (blk_cell BK177.out 3).trans rfl, (blk_cell BK177.out 4).trans rfl⟩ (fun hHeld => ?_)
                 clear hK K
                 refine norm_ (a' := ?_) ?_ ?_
                 rotate_left
                 ·
                  show Act.put _ (some 105) _ = _
                  simp only [Act.put, List.setIfInBounds_toArray, List.set_cons_zero, List.set_cons_succ, i64_w, i32_w]
                  rfl
                 refine pure_ (i := 4) (N := some 108) (v := ?_) (a' := ?_) #[true, true, true, true, true, false, false, false, false, false, false, false, false, false, false, false, false, false, false, false, false, false] rfl rfl (any_of HT_.out (by kernel_rfl)) (fun _ _ _ h => h) (Or.inl ⟨by rfl, ?_⟩) ?_ ?_
                 rotate_left
                 ·
                  intro w'
                  go_simp
                  with_reducible rfl
                 rotate_left
                 ·
                  simp only [Act.put, List.setIfInBounds_toArray, List.set_cons_zero, List.set_cons_succ, i64_w, i32_w]
                  rfl
                 refine pure_ (i := 5) (N := some 109) (v := ?_) (a' := ?_) #[true, true, true, true, true, true, false, false, false, false, false, false, false, false, false, false, false, false, false, false, false, false] rfl rfl (any_of HT_.out (by kernel_rfl)) (fun _ _ _ h => h) (Or.inl ⟨by rfl, ?_⟩) ?_ ?_
                 rotate_left
                 ·
                  intro w'
                  go_simp
                  with_reducible rfl
                 rotate_left
                 ·
                  simp only [Act.put, List.setIfInBounds_toArray, List.set_cons_zero, List.set_cons_succ, i64_w, i32_w]
                  rfl
                 refine pure_ (i := 6) (N := some 110) (v := ?_) (a' := ?_) #[true, true, true, true, true, true, true, false, false, false, false, false, false, false, false, false, false, false, false, false, false, false] rfl rfl (any_of HT_.out (by kernel_rfl)) (fun _ _ _ h => h) (Or.inl ⟨by rfl, ?_⟩) ?_ ?_
                 rotate_left
                 ·
                  intro w'
                  go_simp
                  with_reducible rfl
                 rotate_left
                 ·
                  simp only [Act.put, List.setIfInBounds_toArray, List.set_cons_zero, List.set_cons_succ, i64_w, i32_w]
                  rfl
                 refine pure_ (i := 8) (N := some 112) (v := ?_) (a' := ?_) #[true, true, true, true, true, true, true, false, true, false, false, false, false, false, false, false, false, false, false, false, false, false] rfl rfl (any_of HT_.out (by kernel_rfl)) (fun _ _ _ h => h) (Or.inl ⟨by rfl, ?_⟩) ?_ ?_
                 rotate_left
                 ·
                  intro w'
                  go_simp
                  with_reducible rfl
                 rotate_left
                 ·
                  simp only [Act.put, List.setIfInBounds_toArray, List.set_cons_zero, List.set_cons_succ, i64_w, i32_w]
                  rfl
                 refine take_ (i := 9) (N := some 113) (v := ?_) (a' := ?_) #[true, true, true, true, true, true, true, false, true, true, false, false, false, false, false, false, false, false, false, false, false, false] rfl rfl (take_ofW HT_.out HW_.out (by kernel_rfl)) (fun _ _ _ h => h) (Or.inl ⟨by rfl, ?_⟩) hHeld ?_ ?_
                 rotate_left
                 ·
                  rintro w' ⟨s0, s1, s2, s3, s4⟩
                  go_simp
                  with_reducible rfl
                 rotate_left
                 ·
                  simp only [Act.put, List.setIfInBounds_toArray, List.set_cons_zero, List.set_cons_succ, i64_w, i32_w]
                  rfl
                 refine one_ (i := 7) (N := some 111) #[true, true, true, true, true, true, true, true, true, true, false, false, false, false, false, false, false, false, false, false, false, false] rfl rfl (one_of HT_.out (by kernel_rfl)) (by decide) (fun K hK => ?_)
                 refine goes_ Try.func16 (by kernel_rfl) rfl #[.pointer (some ⟨g174, 0, none⟩)] (by rfl) rfl rfl (by (try simp only [List.map_toArray, List.map_cons, List.map_nil]); first | done | rfl | (simp only [List.length_drop, List.length_take]; rfl)) ?_
                 with_reducible refine (capacitor_Capacitor_Running.calls g174 t216 t217 t218 t219 t220 t221 t222 t223 t224 t225 t226 w _ ?side1 ?side2 A119.out).mono ?_
                 (case side1 => repeat (first | (with_reducible first | exact HI174.out | apply IsS70.alloc | apply IsS70.drewN | apply IsS70.drew | apply IsS70.set_0 | apply IsS70.set_1 | apply IsS70.set_2 | apply IsS70.set_3 | apply IsS70.set_4 | refine IsS70.far ?_ NB174_164.out _ | refine IsS70.far ?_ NB174_177.out _ | refine IsS70.far ?_ NB174_179.out _) | exact HI174.out))
                 (case side2 => repeat (first | (with_reducible first | exact HB.out | apply below_alloc | apply pw_below_drewN | apply below_drew1 | refine below_set ?_ (IsS70.ge HI174.out) | refine below_set ?_ GE164.out | refine below_set ?_ GE177.out | refine below_set ?_ GE179.out) | exact HB.out))
                 rintro e w158 ⟨rfl, hi, hb, hk⟩
                 refine ⟨_, rfl, ?_⟩
                 have n0_ := Aside0.mk (KeepBut.blk hk (g' := gb164) (o := .cells #[.int .i64 a0_0, .int .i64 a0_1, .int .i64 a0_2] 23 (0, 0)) (by (with_reducible repeat (first | refine blk_drewN ?_ _ | refine blk_drew ?_ | refine blk_alloc ?_ _)); (first | exact BK164.out | (rw [Nbq39.out]; exact BK164.out) | (rw [← Nbq39.out]; exact BK164.out))) NB164_174.out (by simp))
                 have n1_ := Aside0.mk (KeepBut.blk hk (g' := gb177) (o := .cells #[.int .i64 x178000_32, .int .i64 x178001_32, .int .i64 x178002_32, .int .i64 x178003_32, .bool x178004_32] 40 (0, 0)) (by (with_reducible repeat (first | refine blk_drewN ?_ _ | refine blk_drew ?_ | refine blk_alloc ?_ _)); (first | exact BK177.out | (rw [Nbq39.out]; exact BK177.out) | (rw [← Nbq39.out]; exact BK177.out))) NB177_174.out (by simp))
                 have n2_ := Aside0.mk (KeepBut.blk hk (g' := gb179) (o := .cells #[.bool ((rd_T34 l1 x52_2).f0), .int .i64 ((rd_T34 l1 x52_2).f1), .int .i64 ((rd_T34 l1 x52_2).f2)] 34 (0, 0)) (by (with_reducible repeat (first | refine blk_drewN ?_ _ | refine blk_drew ?_ | refine blk_alloc ?_ _)); (first | exact BK179.out | (rw [Nbq39.out]; exact BK179.out) | (rw [← Nbq39.out]; exact BK179.out))) NB179_174.out (by simp))
                 have n3_ := Aside0.mk (hb)
                 have n4_ := Aside0.mk (hi)
                 clear BK164
                 clear BK177
                 clear BK179
                 clear HB
                 clear HI174
                 have BK164 := n0_
                 have BK177 := n1_
                 have BK179 := n2_
                 have HB := n3_
                 have HI174 := n4_
                 clear n0_ n1_ n2_ n3_ n4_
                 (try clear hb)
                 (try clear hb2)
                 (try clear hk)
                 (try clear hi)
                 refine hK.out _ _ ⟨(blk_cell BK177.out 0).trans rfl, (blk_cell BK177.out 1).trans rfl, (blk_cell BK177.out 2).trans rfl, (blk_cell BK177.out 3).trans rfl, (blk_cell BK177.out 4).trans rfl⟩ (fun hHeld => ?_)
                 clear hK K
                 refine norm_ (a' := ?_) ?_ ?_
                 rotate_left
                 ·
                  show Act.put _ (some 111) _ = _
                  simp only [Act.put, List.setIfInBounds_toArray, List.set_cons_zero, List.set_cons_succ, i64_w, i32_w]
                  rfl
                 refine pure_ (i := 10) (N := some 114) (v := ?_) (a' := ?_) #[true, true, true, true, true, true, true, true, true, true, true, false, false, false, false, false, false, false, false, false, false, false] rfl rfl (any_of HT_.out (by kernel_rfl)) (fun _ _ _ h => h) (Or.inl ⟨by rfl, ?_⟩) ?_ ?_
                 rotate_left
                 ·
                  intro w'
                  go_simp
                  with_reducible rfl
                 rotate_left
                 ·
                  simp only [Act.put, List.setIfInBounds_toArray, List.set_cons_zero, List.set_cons_succ, i64_w, i32_w]
                  rfl
                 refine pure_ (i := 11) (N := some 115) (v := ?_) (a' := ?_) #[true, true, true, true, true, true, true, true, true, true, true, true, false, false, false, false, false, false, false, false, false, false] rfl rfl (any_of HT_.out (by kernel_rfl)) (fun _ _ _ h => h) (Or.inl ⟨by rfl, ?_⟩) ?_ ?_
                 rotate_left
                 ·
                  intro w'
                  go_simp
                  with_reducible rfl
                 rotate_left
                 ·
                  simp only [Act.put, List.setIfInBounds_toArray, List.set_cons_zero, List.set_cons_succ, i64_w, i32_w]
                  rfl
                 refine pure_ (i := 12) (N := some 116) (v := ?_) (a' := ?_) #[true, true, true, true, true, true, true, true, true, true, true, true, true, false, false, false, false, false, false, false, false, false] rfl rfl (any_of HT_.out (by kernel_rfl)) (fun _ _ _ h => h) (Or.inl ⟨by rfl, ?_⟩) ?_ ?_
                 rotate_left
                 ·
                  intro w'
                  go_simp
                  with_reducible rfl
                 rotate_left
                 ·
                  simp only [Act.put, List.setIfInBounds_toArray, List.set_cons_zero, List.set_cons_succ, i64_w, i32_w]
                  rfl
                 refine pure_ (i := 13) (N := some 117) (v := ?_) (a' := ?_) #[true, true, true, true, true, true, true, true, true, true, true, true, true, true, false, false, false, false, false, false, false, false] rfl rfl (any_of HT_.out (by kernel_rfl)) (fun _ _ _ h => h) (Or.inl ⟨by rfl, ?_⟩) ?_ ?_
                 rotate_left
                 ·
                  intro w'
                  go_simp
                  with_reducible rfl
                 rotate_left
                 ·
                  simp only [Act.put, List.setIfInBounds_toArray, List.set_cons_zero, List.set_cons_succ, i64_w, i32_w]
                  rfl
                 refine pure_ (i := 14) (N := some 118) (v := ?_) (a' := ?_) #[true, true, true, true, true, true, true, true, true, true, true, true, true, true, true, false, false, false, false, false, false, false] rfl rfl (any_of HT_.out (by kernel_rfl)) (fun _ _ _ h => h) (Or.inl ⟨by rfl, ?_⟩) ?_ ?_
                 rotate_left
                 ·
                  intro w'
                  go_simp
                  with_reducible rfl
                 rotate_left
                 ·
                  simp only [Act.put, List.setIfInBounds_toArray, List.set_cons_zero, List.set_cons_succ, i64_w, i32_w]
                  rfl
                 refine pure_ (i := 15) (N := some 119) (v := ?_) (a' := ?_) #[true, true, true, true, true, true, true, true, true, true, true, true, true, true, true, true, false, false, false, false, false, false] rfl rfl (any_of HT_.out (by kernel_rfl)) (fun _ _ _ h => h) (Or.inl ⟨by rfl, ?_⟩) ?_ ?_
                 rotate_left
                 ·
                  intro w'
                  go_simp
                  with_reducible rfl
                 rotate_left
                 ·
                  simp only [Act.put, List.setIfInBounds_toArray, List.set_cons_zero, List.set_cons_succ, i64_w, i32_w]
                  rfl
                 refine pure_ (i := 16) (N := some 120) (v := ?_) (a' := ?_) #[true, true, true, true, true, true, true, true, true, true, true, true, true, true, true, true, true, false, false, false, false, false] rfl rfl (any_of HT_.out (by kernel_rfl)) (fun _ _ _ h => h) (Or.inl ⟨by rfl, ?_⟩) ?_ ?_
                 rotate_left
                 ·
                  intro w'
                  go_simp
                  with_reducible rfl
                 rotate_left
                 ·
                  simp only [Act.put, List.setIfInBounds_toArray, List.set_cons_zero, List.set_cons_succ, i64_w, i32_w]
                  rfl
                 refine pure_ (i := 17) (N := some 121) (v := ?_) (a' := ?_) #[true, true, true, true, true, true, true, true, true, true, true, true, true, true, true, true, true, true, false, false, false, false] rfl rfl (any_of HT_.out (by kernel_rfl)) (fun _ _ _ h => h) (Or.inl ⟨by rfl, ?_⟩) ?_ ?_
                 rotate_left
                 ·
                  intro w'
                  go_simp
                  with_reducible rfl
                 rotate_left
                 ·
                  simp only [Act.put, List.setIfInBounds_toArray, List.set_cons_zero, List.set_cons_succ, i64_w, i32_w]
                  rfl
                 refine pure_ (i := 18) (N := some 122) (v := undef) (a' := ?_) #[true, true, true, true, true, true, true, true, true, true, true, true, true, true, true, true, true, true, true, false, false, false] rfl rfl (any_of HT_.out (by kernel_rfl)) (fun _ _ _ h => h) (Or.inr ⟨by rfl, rfl⟩) ?_ ?_
                 rotate_left
                 ·
                  simp only [Act.put, List.setIfInBounds_toArray, List.set_cons_zero, List.set_cons_succ, i64_w, i32_w]
                  rfl
                 refine pure_ (i := 19) (N := some 123) (v := undef) (a' := ?_) #[true, true, true, true, true, true, true, true, true, true, true, true, true, true, true, true, true, true, true, true, false, false] rfl rfl (any_of HT_.out (by kernel_rfl)) (fun _ _ _ h => h) (Or.inr ⟨by rfl, rfl⟩) ?_ ?_
                 rotate_left
                 ·
                  simp only [Act.put, List.setIfInBounds_toArray, List.set_cons_zero, List.set_cons_succ, i64_w, i32_w]
                  rfl
                 refine pure_ (i := 20) (N := some 124) (v := undef) (a' := ?_) #[true, true, true, true, true, true, true, true, true, true, true, true, true, true, true, true, true, true, true, true, true, false] rfl rfl (any_of HT_.out (by kernel_rfl)) (fun _ _ _ h => h) (Or.inr ⟨by rfl, rfl⟩) ?_ ?_
                 rotate_left
                 ·
                  simp only [Act.put, List.setIfInBounds_toArray, List.set_cons_zero, List.set_cons_succ, i64_w, i32_w]
                  rfl
                 refine pure_ (i := 21) (N := some 125) (v := ?_) (a' := ?_) #[true, true, true, true, true, true, true, true, true, true, true, true, true, true, true, true, true, true, true, true, true, true] rfl rfl (any_of HT_.out (by kernel_rfl)) (fun _ _ _ h => h) (Or.inl ⟨by rfl, ?_⟩) ?_ ?_
                 rotate_left
                 ·
                  intro w'
                  go_simp
                  with_reducible rfl
                 rotate_left
                 ·
                  simp only [Act.put, List.setIfInBounds_toArray, List.set_cons_zero, List.set_cons_succ, i64_w, i32_w]
                  rfl
                 refine done_ (done_of HT_.out (by kernel_rfl)) ?_
                 try go_wp2
                 go_ret
                 exact ⟨by first | rfl | (simp [errW_none, errW_some] <;> rfl) | (simp [*, errW_none, errW_some] <;> rfl), by repeat (first | (with_reducible first | exact HB.out | apply below_alloc | apply pw_below_drewN | apply below_drew1 | refine below_set ?_ (IsS70.ge HI174.out) | refine below_set ?_ GE164.out | refine below_set ?_ GE177.out | refine below_set ?_ GE179.out) | exact HB.out)⟩
              ·
               rw [if_neg c118] at H
               have c118b0 : (t215 == x178003_32) = false := beq_eq_false_iff_ne.mpr c118
               have c118b1 : (t215 != x178003_32) = true := bne_iff_ne.mpr c118
               obtain rfl := Option.some.inj H
               try go_wp2_with (first | ((with_reducible refine gate_callee (f := 19) rfl ?_); refine goesL_ (some 95) rfl rfl Try.func19 (by kernel_rfl) rfl #[.pointer (some ⟨g174, 0, none⟩), .int .i64 a2] rfl (by (try simp only [List.map_toArray, List.map_cons, List.map_nil]); first | done | rfl | (simp only [List.length_drop, List.length_take]; rfl)) ?_; (with_reducible refine (capacitor_Capacitor_WaitTime.calls g174 x175000_32 x175001_32 x175002_32 x175003_32 x175004_32 a2 t206 t207 t208 t209 t210 t211 t212 w _ ?side1 ?side2 A115.out).mono ?_); (case side1 => repeat (first | (with_reducible first | exact HI174.out | apply IsS70.alloc | apply IsS70.drewN | apply IsS70.drew | apply IsS70.set_0 | apply IsS70.set_1 | apply IsS70.set_2 | apply IsS70.set_3 | apply IsS70.set_4 | refine IsS70.far ?_ NB174_164.out _ | refine IsS70.far ?_ NB174_177.out _ | refine IsS70.far ?_ NB174_179.out _) | exact HI174.out)); (case side2 => repeat (first | (with_reducible first | exact HB.out | apply below_alloc | apply pw_below_drewN | apply below_drew1 | refine below_set ?_ (IsS70.ge HI174.out) | refine below_set ?_ GE164.out | refine below_set ?_ GE177.out | refine below_set ?_ GE179.out) | exact HB.out)); rintro e w159 ⟨rfl, hi, hb, hk⟩; refine ⟨_, rfl, ?_⟩; have n0_ := Aside0.mk (KeepBut.blk hk (g' := gb164) (o := .cells #[.int .i64 a0_0, .int .i64 a0_1, .int .i64 a0_2] 23 (0, 0)) (by (with_reducible repeat (first | refine blk_drewN ?_ _ | refine blk_drew ?_ | refine blk_alloc ?_ _)); (first | exact BK164.out | (rw [Nbq39.out]; exact BK164.out) | (rw [← Nbq39.out]; exact BK164.out))) NB164_174.out (by simp)); have n1_ := Aside0.mk (KeepBut.blk hk (g' := gb177) (o := .cells #[.int .i64 x178000_32, .int .i64 x178001_32, .int .i64 x178002_32, .int .i64 x178003_32, .bool x178004_32] 40 (0, 0)) (by (with_reducible repeat (first | refine blk_drewN ?_ _ | refine blk_drew ?_ | refine blk_alloc ?_ _)); (first | exact BK177.out | (rw [Nbq39.out]; exact BK177.out) | (rw [← Nbq39.out]; exact BK177.out))) NB177_174.out (by simp)); have n2_ := Aside0.mk (KeepBut.blk hk (g' := gb179) (o := .cells #[.bool ((rd_T34 l1 x52_2).f0), .int .i64 ((rd_T34 l1 x52_2).f1), .int .i64 ((rd_T34 l1 x52_2).f2)] 34 (0, 0)) (by (with_reducible repeat (first | refine blk_drewN ?_ _ | refine blk_drew ?_ | refine blk_alloc ?_ _)); (first | exact BK179.out | (rw [Nbq39.out]; exact BK179.out) | (rw [← Nbq39.out]; exact BK179.out))) NB179_174.out (by simp)); have n3_ := Aside0.mk (hb); have n4_ := Aside0.mk (hi); clear BK164; clear BK177; clear BK179; clear HB; clear HI174; have BK164 := n0_; have BK177 := n1_; have BK179 := n2_; have HB := n3_; have HI174 := n4_; clear n0_ n1_ n2_ n3_ n4_; (try clear hb); (try clear hb2); (try clear hk); (try clear hi); have hnb160 := NB177_164.out; have hnc160 := NB164_177.out; have hnb161 := NB177_179.out; have hnc161 := NB179_177.out; have hnb162 := NB177_174.out; have hnc162 := NB174_177.out; have hcz163_0 : w159.cell? ⟨gb177, 0, none⟩ = some (.int .i64 x178000_32) := (blk_cell BK177.out 0).trans rfl; have hcz163_1 : w159.cell? ⟨gb177, 1, none⟩ = some (.int .i64 x178001_32) := (blk_cell BK177.out 1).trans rfl; have hcz163_2 : w159.cell? ⟨gb177, 2, none⟩ = some (.int .i64 x178002_32) := (blk_cell BK177.out 2).trans rfl; have hcz163_3 : w159.cell? ⟨gb177, 3, none⟩ = some (.int .i64 x178003_32) := (blk_cell BK177.out 3).trans rfl; have hcz163_4 : w159.cell? ⟨gb177, 4, none⟩ = some (.bool x178004_32) := (blk_cell BK177.out 4).trans rfl; have hfz163_0 := blk_frozen BK177.out 0; have hfz163_1 := blk_frozen BK177.out 1; have hfz163_2 := blk_frozen BK177.out 2; have hfz163_3 := blk_frozen BK177.out 3; have hfz163_4 := blk_frozen BK177.out 4) | ((with_reducible refine gate_callee (f := 20) rfl ?_); refine goesL_ (some 101) rfl rfl Try.func20 (by kernel_rfl) rfl #[.agg #[.int .i64 x178000_32, .int .i64 x178001_32, .int .i64 x178002_32, .int .i64 x178003_32, .bool x178004_32], .int .i64 a2] rfl (by (try simp only [List.map_toArray, List.map_cons, List.map_nil]); first | done | rfl | (simp only [List.length_drop, List.length_take]; rfl)) ?_; (with_reducible refine (trickleref08_WaitTime.calls kj32 x178000_32 x178001_32 x178002_32 x178003_32 x178004_32 a2 t213 t214 _ A116.out).mono ?_); rintro e w164 ⟨rfl, hb⟩; refine ⟨_, rfl, ?_⟩; have n0_ := Aside0.mk (blk_below (g := gb164) (o := .cells #[.int .i64 a0_0, .int .i64 a0_1, .int .i64 a0_2] 23 (0, 0)) (by (with_reducible repeat (first | refine blk_drewN ?_ _ | refine blk_drew ?_ | refine blk_alloc ?_ _)); (first | exact BK164.out | (rw [Nbq39.out]; exact BK164.out) | (rw [← Nbq39.out]; exact BK164.out))) hb); have n1_ := Aside0.mk (blk_below (g := gb177) (o := .cells #[.int .i64 x178000_32, .int .i64 x178001_32, .int .i64 x178002_32, .int .i64 x178003_32, .bool x178004_32] 40 (0, 0)) (by (with_reducible repeat (first | refine blk_drewN ?_ _ | refine blk_drew ?_ | refine blk_alloc ?_ _)); (first | exact BK177.out | (rw [Nbq39.out]; exact BK177.out) | (rw [← Nbq39.out]; exact BK177.out))) hb); have n2_ := Aside0.mk (blk_below (g := gb179) (o := .cells #[.bool ((rd_T34 l1 x52_2).f0), .int .i64 ((rd_T34 l1 x52_2).f1), .int .i64 ((rd_T34 l1 x52_2).f2)] 34 (0, 0)) (by (with_reducible repeat (first | refine blk_drewN ?_ _ | refine blk_drew ?_ | refine blk_alloc ?_ _)); (first | exact BK179.out | (rw [Nbq39.out]; exact BK179.out) | (rw [← Nbq39.out]; exact BK179.out))) hb); have n3_ := Aside0.mk (IsS70.below (by repeat (first | (with_reducible first | exact HI174.out | apply IsS70.alloc | apply IsS70.drewN | apply IsS70.drew | apply IsS70.set_0 | apply IsS70.set_1 | apply IsS70.set_2 | apply IsS70.set_3 | apply IsS70.set_4 | refine IsS70.far ?_ NB174_164.out _ | refine IsS70.far ?_ NB174_177.out _ | refine IsS70.far ?_ NB174_179.out _) | exact HI174.out)) hb); have n4_ := Aside0.mk (below_step (by repeat (first | (with_reducible first | exact HB.out | apply below_alloc | apply pw_below_drewN | apply below_drew1 | refine below_set ?_ (IsS70.ge HI174.out) | refine below_set ?_ GE164.out | refine below_set ?_ GE177.out | refine below_set ?_ GE179.out) | exact HB.out)) hb); clear BK164; clear BK177; clear BK179; clear HI174; clear HB; have BK164 := n0_; have BK177 := n1_; have BK179 := n2_; have HI174 := n3_; have HB := n4_; clear n0_ n1_ n2_ n3_ n4_; (try clear hb); (try clear hb2); (try clear hk); (try clear hi)))
               have n0_ := Aside0.mk (blk_drew BK164.out)
               have n1_ := Aside0.mk (blk_drew BK177.out)
               have n2_ := Aside0.mk (blk_drew BK179.out)
               have n3_ := Aside0.mk (IsS70.drew HI174.out)
               have n4_ := Aside0.mk (below_drew1 HB.out)
               clear BK164
               clear BK177
               clear BK179
               clear HI174
               clear HB
               have BK164 := n0_
               have BK177 := n1_
               have BK179 := n2_
               have HI174 := n3_
               have HB := n4_
               clear n0_ n1_ n2_ n3_ n4_
               refine start_ (n := 22) (S := fun w' => w'.cell? ⟨gb177, 0, none⟩ = some (.int .i64 x178000_32) ∧ w'.cell? ⟨gb177, 1, none⟩ = some (.int .i64 x178001_32) ∧ w'.cell? ⟨gb177, 2, none⟩ = some (.int .i64 x178002_32) ∧ w'.cell? ⟨gb177, 3, none⟩ = some (.int .i64 x178003_32) ∧ w'.cell? ⟨gb177, 4, none⟩ = some (.bool x178004_32)) (ds := []) #[false, false, false, false, false, false, false, false, false, false, false, false, false, false, false, false, false, false, false, false, false, false] (by kernel_rfl) rfl rfl ⟨(blk_cell BK177.out 0).trans rfl, (blk_cell BK177.out 1).trans rfl, (blk_cell BK177.out 2).trans rfl, (blk_cell BK177.out 3).trans rfl, (blk_cell BK177.out 4).trans rfl⟩ (fun hHeld => ?_); refine with_tabW mm.tab27 mm.bits27 (fun HT_ HW_ => ?_)
               generalize w164.drew = w165 at BK164 BK177 BK179 HI174 HB hHeld ⊢
               refine pure_ (i := 0) (N := some 104) (v := ?_) (a' := ?_) #[true, false, false, false, false, false, false, false, false, false, false, false, false, false, false, false, false, false, false, false, false, false] rfl rfl (any_of HT_.out (by kernel_rfl)) (fun _ _ _ h => h) (Or.inl ⟨by rfl, ?_⟩) ?_ ?_
               rotate_left
               ·
                intro w'
                go_simp
                with_reducible rfl
               rotate_left
               ·
                simp only [Act.put, List.setIfInBounds_toArray, List.set_cons_zero, List.set_cons_succ, i64_w, i32_w]
                rfl
               refine pure_ (i := 2) (N := some 106) (v := ?_) (a' := ?_) #[true, false, true, false, false, false, false, false, false, false, false, false, false, false, false, false, false, false, false, false, false, false] rfl rfl (any_of HT_.out (by kernel_rfl)) (fun _ _ _ h => h) (Or.inl ⟨by rfl, ?_⟩) ?_ ?_
               rotate_left
               ·
                intro w'
                go_simp
                with_reducible rfl
               rotate_left
               ·
                simp only [Act.put, List.setIfInBounds_toArray, List.set_cons_zero, List.set_cons_succ, i64_w, i32_w]
                rfl
               refine take_ (i := 3) (N := some 107) (v := ?_) (a' := ?_) #[true, false, true, true, false, false, false, false, false, false, false, false, false, false, false, false, false, false, false, false, false, false] rfl rfl (take_ofW HT_.out HW_.out (by kernel_rfl)) (fun _ _ _ h => h) (Or.inl ⟨by rfl, ?_⟩) hHeld ?_ ?_
               rotate_left
               ·
                rintro w' ⟨s0, s1, s2, s3, s4⟩
                go_simp
                with_reducible rfl
               rotate_left
               ·
                simp only [Act.put, List.setIfInBounds_toArray, List.set_cons_zero, List.set_cons_succ, i64_w, i32_w]
                rfl
               refine one_ (i := 1) (N := some 105) #[true, true, true, true, false, false, false, false, false, false, false, false, false, false, false, false, false, false, false, false, false, false] rfl rfl (one_of HT_.out (by kernel_rfl)) (by decide) (fun K hK => ?_)
               refine goes_ Try.func13 (by kernel_rfl) rfl #[.pointer (some ⟨g174, 0, none⟩)] (by rfl) rfl rfl (by (try simp only [List.map_toArray, List.map_cons, List.map_nil]); first | done | rfl | (simp only [List.length_drop, List.length_take]; rfl)) ?_
               with_reducible refine (capacitor_Capacitor_Charge.calls g174 t208 t209 t210 t211 t212 t215 t216 t217 t218 t219 t220 w _ ?side1 ?side2 A117.out).mono ?_
               (case side1 => repeat (first | (with_reducible first | exact HI174.out | apply IsS70.alloc | apply IsS70.drewN | apply IsS70.drew | apply IsS70.set_0 | apply IsS70.set_1 | apply IsS70.set_2 | apply IsS70.set_3 | apply IsS70.set_4 | refine IsS70.far ?_ NB174_164.out _ | refine IsS70.far ?_ NB174_177.out _ | refine IsS70.far ?_ NB174_179.out _) | exact HI174.out))
               (case side2 => repeat (first | (with_reducible first | exact HB.out | apply below_alloc | apply pw_below_drewN | apply below_drew1 | refine below_set ?_ (IsS70.ge HI174.out) | refine below_set ?_ GE164.out | refine below_set ?_ GE177.out | refine below_set ?_ GE179.out) | exact HB.out))
               rintro e w166 ⟨rfl, hi, hb, hk⟩
               refine ⟨_, rfl, ?_⟩
               have n0_ := Aside0.mk (KeepBut.blk hk (g' := gb164) (o := .cells #[.int .i64 a0_0, .int .i64 a0_1, .int .i64 a0_2] 23 (0, 0)) (by (with_reducible repeat (first | refine blk_drewN ?_ _ | refine blk_drew ?_ | refine blk_alloc ?_ _)); (first | exact BK164.out | (rw [Nbq39.out]; exact BK164.out) | (rw [← Nbq39.out]; exact BK164.out))) NB164_174.out (by simp))
               have n1_ := Aside0.mk (KeepBut.blk hk (g' := gb177) (o := .cells #[.int .i64 x178000_32, .int .i64 x178001_32, .int .i64 x178002_32, .int .i64 x178003_32, .bool x178004_32] 40 (0, 0)) (by (with_reducible repeat (first | refine blk_drewN ?_ _ | refine blk_drew ?_ | refine blk_alloc ?_ _)); (first | exact BK177.out | (rw [Nbq39.out]; exact BK177.out) | (rw [← Nbq39.out]; exact BK177.out))) NB177_174.out (by simp))
               have n2_ := Aside0.mk (KeepBut.blk hk (g' := gb179) (o := .cells #[.bool ((rd_T34 l1 x52_2).f0), .int .i64 ((rd_T34 l1 x52_2).f1), .int .i64 ((rd_T34 l1 x52_2).f2)] 34 (0, 0)) (by (with_reducible repeat (first | refine blk_drewN ?_ _ | refine blk_drew ?_ | refine blk_alloc ?_ _)); (first | exact BK179.out | (rw [Nbq39.out]; exact BK179.out) | (rw [← Nbq39.out]; exact BK179.out))) NB179_174.out (by simp))
               have n3_ := Aside0.mk (hb)
               have n4_ := Aside0.mk (hi)
               clear BK164
               clear BK177
               clear BK179
               clear HB
               clear HI174
               have BK164 := n0_
               have BK177 := n1_
               have BK179 := n2_
               have HB := n3_
               have HI174 := n4_
               clear n0_ n1_ n2_ n3_ n4_
               (try clear hb)
               (try clear hb2)
               (try clear hk)
               (try clear hi)
               refine hK.out _ _ ⟨(blk_cell BK177.out 0).trans rfl, (blk_cell BK177.out 1).trans rfl, (blk_cell BK177.out 2).trans rfl, (blk_cell BK177.out 3).trans rfl, (blk_cell BK177.out 4).trans rfl⟩ (fun hHeld => ?_)
               clear hK K
               refine norm_ (a' := ?_) ?_ ?_
               rotate_left
               ·
                show Act.put _ (some 105) _ = _
                simp only [Act.put, List.setIfInBounds_toArray, List.set_cons_zero, List.set_cons_succ, i64_w, i32_w]
                rfl
               refine pure_ (i := 4) (N := some 108) (v := ?_) (a' := ?_) #[true, true, true, true, true, false, false, false, false, false, false, false, false, false, false, false, false, false, false, false, false, false] rfl rfl (any_of HT_.out (by kernel_rfl)) (fun _ _ _ h => h) (Or.inl ⟨by rfl, ?_⟩) ?_ ?_
               rotate_left
               ·
                intro w'
                go_simp
                with_reducible rfl
               rotate_left
               ·
                simp only [Act.put, List.setIfInBounds_toArray, List.set_cons_zero, List.set_cons_succ, i64_w, i32_w]
                rfl
               refine pure_ (i := 5) (N := some 109) (v := ?_) (a' := ?_) #[true, true, true, true, true, true, false, false, false, false, false, false, false, false, false, false, false, false, false, false, false, false] rfl rfl (any_of HT_.out (by kernel_rfl)) (fun _ _ _ h => h) (Or.inl ⟨by rfl, ?_⟩) ?_ ?_
               rotate_left
               ·
                intro w'
                go_simp
                with_reducible rfl
               rotate_left
               ·
                simp only [Act.put, List.setIfInBounds_toArray, List.set_cons_zero, List.set_cons_succ, i64_w, i32_w]
                rfl
               refine pure_ (i := 6) (N := some 110) (v := undef) (a' := ?_) #[true, true, true, true, true, true, true, false, false, false, false, false, false, false, false, false, false, false, false, false, false, false] rfl rfl (any_of HT_.out (by kernel_rfl)) (fun _ _ _ h => h) (Or.inr ⟨by rfl, rfl⟩) ?_ ?_
               rotate_left
               ·
                simp only [Act.put, List.setIfInBounds_toArray, List.set_cons_zero, List.set_cons_succ, i64_w, i32_w]
                rfl
               refine pure_ (i := 7) (N := some 111) (v := undef) (a' := ?_) #[true, true, true, true, true, true, true, true, false, false, false, false, false, false, false, false, false, false, false, false, false, false] rfl rfl (any_of HT_.out (by kernel_rfl)) (fun _ _ _ h => h) (Or.inr ⟨by rfl, rfl⟩) ?_ ?_
               rotate_left
               ·
                simp only [Act.put, List.setIfInBounds_toArray, List.set_cons_zero, List.set_cons_succ, i64_w, i32_w]
                rfl
               refine pure_ (i := 8) (N := some 112) (v := undef) (a' := ?_) #[true, true, true, true, true, true, true, true, true, false, false, false, false, false, false, false, false, false, false, false, false, false] rfl rfl (any_of HT_.out (by kernel_rfl)) (fun _ _ _ h => h) (Or.inr ⟨by rfl, rfl⟩) ?_ ?_
               rotate_left
               ·
                simp only [Act.put, List.setIfInBounds_toArray, List.set_cons_zero, List.set_cons_succ, i64_w, i32_w]
                rfl
               refine pure_ (i := 9) (N := some 113) (v := undef) (a' := ?_) #[true, true, true, true, true, true, true, true, true, true, false, false, false, false, false, false, false, false, false, false, false, false] rfl rfl (any_of HT_.out (by kernel_rfl)) (fun _ _ _ h => h) (Or.inr ⟨by rfl, rfl⟩) ?_ ?_
               rotate_left
               ·
                simp only [Act.put, List.setIfInBounds_toArray, List.set_cons_zero, List.set_cons_succ, i64_w, i32_w]
                rfl
               refine pure_ (i := 10) (N := some 114) (v := undef) (a' := ?_) #[true, true, true, true, true, true, true, true, true, true, true, false, false, false, false, false, false, false, false, false, false, false] rfl rfl (any_of HT_.out (by kernel_rfl)) (fun _ _ _ h => h) (Or.inr ⟨by rfl, rfl⟩) ?_ ?_
               rotate_left
               ·
                simp only [Act.put, List.setIfInBounds_toArray, List.set_cons_zero, List.set_cons_succ, i64_w, i32_w]
                rfl
               refine pure_ (i := 11) (N := some 115) (v := ?_) (a' := ?_) #[true, true, true, true, true, true, true, true, true, true, true, true, false, false, false, false, false, false, false, false, false, false] rfl rfl (any_of HT_.out (by kernel_rfl)) (fun _ _ _ h => h) (Or.inl ⟨by rfl, ?_⟩) ?_ ?_
               rotate_left
               ·
                intro w'
                go_simp
                with_reducible rfl
               rotate_left
               ·
                simp only [Act.put, List.setIfInBounds_toArray, List.set_cons_zero, List.set_cons_succ, i64_w, i32_w]
                rfl
               refine pure_ (i := 12) (N := some 116) (v := ?_) (a' := ?_) #[true, true, true, true, true, true, true, true, true, true, true, true, true, false, false, false, false, false, false, false, false, false] rfl rfl (any_of HT_.out (by kernel_rfl)) (fun _ _ _ h => h) (Or.inl ⟨by rfl, ?_⟩) ?_ ?_
               rotate_left
               ·
                intro w'
                go_simp
                with_reducible rfl
               rotate_left
               ·
                simp only [Act.put, List.setIfInBounds_toArray, List.set_cons_zero, List.set_cons_succ, i64_w, i32_w]
                rfl
               refine pure_ (i := 13) (N := some 117) (v := undef) (a' := ?_) #[true, true, true, true, true, true, true, true, true, true, true, true, true, true, false, false, false, false, false, false, false, false] rfl rfl (any_of HT_.out (by kernel_rfl)) (fun _ _ _ h => h) (Or.inr ⟨by rfl, rfl⟩) ?_ ?_
               rotate_left
               ·
                simp only [Act.put, List.setIfInBounds_toArray, List.set_cons_zero, List.set_cons_succ, i64_w, i32_w]
                rfl
               refine pure_ (i := 14) (N := some 118) (v := undef) (a' := ?_) #[true, true, true, true, true, true, true, true, true, true, true, true, true, true, true, false, false, false, false, false, false, false] rfl rfl (any_of HT_.out (by kernel_rfl)) (fun _ _ _ h => h) (Or.inr ⟨by rfl, rfl⟩) ?_ ?_
               rotate_left
               ·
                simp only [Act.put, List.setIfInBounds_toArray, List.set_cons_zero, List.set_cons_succ, i64_w, i32_w]
                rfl
               refine pure_ (i := 15) (N := some 119) (v := undef) (a' := ?_) #[true, true, true, true, true, true, true, true, true, true, true, true, true, true, true, true, false, false, false, false, false, false] rfl rfl (any_of HT_.out (by kernel_rfl)) (fun _ _ _ h => h) (Or.inr ⟨by rfl, rfl⟩) ?_ ?_
               rotate_left
               ·
                simp only [Act.put, List.setIfInBounds_toArray, List.set_cons_zero, List.set_cons_succ, i64_w, i32_w]
                rfl
               refine pure_ (i := 16) (N := some 120) (v := ?_) (a' := ?_) #[true, true, true, true, true, true, true, true, true, true, true, true, true, true, true, true, true, false, false, false, false, false] rfl rfl (any_of HT_.out (by kernel_rfl)) (fun _ _ _ h => h) (Or.inl ⟨by rfl, ?_⟩) ?_ ?_
               rotate_left
               ·
                intro w'
                go_simp
                with_reducible rfl
               rotate_left
               ·
                simp only [Act.put, List.setIfInBounds_toArray, List.set_cons_zero, List.set_cons_succ, i64_w, i32_w]
                rfl
               refine pure_ (i := 17) (N := some 121) (v := ?_) (a' := ?_) #[true, true, true, true, true, true, true, true, true, true, true, true, true, true, true, true, true, true, false, false, false, false] rfl rfl (any_of HT_.out (by kernel_rfl)) (fun _ _ _ h => h) (Or.inl ⟨by rfl, ?_⟩) ?_ ?_
               rotate_left
               ·
                intro w'
                go_simp
                with_reducible rfl
               rotate_left
               ·
                simp only [Act.put, List.setIfInBounds_toArray, List.set_cons_zero, List.set_cons_succ, i64_w, i32_w]
                rfl
               refine pure_ (i := 18) (N := some 122) (v := undef) (a' := ?_) #[true, true, true, true, true, true, true, true, true, true, true, true, true, true, true, true, true, true, true, false, false, false] rfl rfl (any_of HT_.out (by kernel_rfl)) (fun _ _ _ h => h) (Or.inr ⟨by rfl, rfl⟩) ?_ ?_
               rotate_left
               ·
                simp only [Act.put, List.setIfInBounds_toArray, List.set_cons_zero, List.set_cons_succ, i64_w, i32_w]
                rfl
               refine pure_ (i := 19) (N := some 123) (v := undef) (a' := ?_) #[true, true, true, true, true, true, true, true, true, true, true, true, true, true, true, true, true, true, true, true, false, false] rfl rfl (any_of HT_.out (by kernel_rfl)) (fun _ _ _ h => h) (Or.inr ⟨by rfl, rfl⟩) ?_ ?_
               rotate_left
               ·
                simp only [Act.put, List.setIfInBounds_toArray, List.set_cons_zero, List.set_cons_succ, i64_w, i32_w]
                rfl
               refine pure_ (i := 20) (N := some 124) (v := undef) (a' := ?_) #[true, true, true, true, true, true, true, true, true, true, true, true, true, true, true, true, true, true, true, true, true, false] rfl rfl (any_of HT_.out (by kernel_rfl)) (fun _ _ _ h => h) (Or.inr ⟨by rfl, rfl⟩) ?_ ?_
               rotate_left
               ·
                simp only [Act.put, List.setIfInBounds_toArray, List.set_cons_zero, List.set_cons_succ, i64_w, i32_w]
                rfl
               refine pure_ (i := 21) (N := some 125) (v := ?_) (a' := ?_) #[true, true, true, true, true, true, true, true, true, true, true, true, true, true, true, true, true, true, true, true, true, true] rfl rfl (any_of HT_.out (by kernel_rfl)) (fun _ _ _ h => h) (Or.inl ⟨by rfl, ?_⟩) ?_ ?_
               rotate_left
               ·
                intro w'
                go_simp
                with_reducible rfl
               rotate_left
               ·
                simp only [Act.put, List.setIfInBounds_toArray, List.set_cons_zero, List.set_cons_succ, i64_w, i32_w]
                rfl
               refine done_ (done_of HT_.out (by kernel_rfl)) ?_
               try go_wp2
               go_ret
               exact ⟨by first | rfl | (simp [errW_none, errW_some] <;> rfl) | (simp [*, errW_none, errW_some] <;> rfl), by repeat (first | (with_reducible first | exact HB.out | apply below_alloc | apply pw_below_drewN | apply below_drew1 | refine below_set ?_ (IsS70.ge HI174.out) | refine below_set ?_ GE164.out | refine below_set ?_ GE177.out | refine below_set ?_ GE179.out) | exact HB.out)⟩
           ·
            rw [if_neg c32] at H
            exact absurd H (by simp)
          ·
           rw [if_neg c31] at H
           exact absurd H (by simp)
         ·
          rw [if_neg c30] at H
          have c30b0 : decide (x52_2 < (l1.length : Int)) = false := decide_eq_false c30
          clear c30
          obtain rfl := Option.some.inj H
          go_wp2
          go_ret
          exact ⟨by first | rfl | (simp [errW_none, errW_some] <;> rfl) | (simp [*, errW_none, errW_some] <;> rfl), by repeat (first | (with_reducible first | exact HB.out | apply below_alloc | apply pw_below_drewN | apply below_drew1 | refine below_set ?_ (IsS70.ge HI174.out) | refine below_set ?_ GE164.out | refine below_set ?_ GE177.out) | exact HB.out)⟩
   ·
    replace c12 := Bool.eq_false_iff.mpr c12
    subst c12
    have H1 : (some false) = some r := by rw [if_neg (show ¬ (false = true) by decide)] at H; exact H
    clear H
    have H := H1
    clear H1
    obtain rfl := Option.some.inj H
    go_enter Try.func4, Try.ntmps4
    go_wp2_with (first | ((with_reducible refine gate_dst (N := 3) rfl ?_); refine box_event ?hg (N := 3) ?hd (cs := #[.int .i64 a0_0, .int .i64 a0_1, .int .i64 a0_2]) (t := 23) ?hr ?_; (case hd => rfl); (case hg => rfl); (case hr => first | (go_simp; done) | (go_simp; rfl)); intro gb164 hg w167 hbox hb; have n0_ := Aside0.mk (below_step (by repeat (first | (with_reducible first | exact HB.out | apply below_alloc | apply pw_below_drewN | apply below_drew1) | exact HB.out)) hb); have n1_ := Aside0.mk (hbox); have n2_ := Aside0.mk ((by rw [hg]; exact (below_size (by repeat (first | (with_reducible first | exact HB.out | apply below_alloc | apply pw_below_drewN | apply below_drew1) | exact HB.out))) : w.heap.size ≤ gb164)); have n3_ := Aside0.mk ((by rw [hg]; exact (below_size (by repeat (first | (with_reducible first | exact HB.out | apply below_alloc | apply pw_below_drewN | apply below_drew1) | exact HB.out))) : w.heap.size ≤ gb164)); clear HB; have HB := n0_; have BK164 := n1_; have GW164 := n2_; have GE164 := n3_; clear n0_ n1_ n2_ n3_; clear hb hbox hg) | ((with_reducible refine gate_callee (f := 9) rfl ?_); refine goesL_ (some 22) rfl rfl Try.func9 (by kernel_rfl) rfl #[] rfl (by (try simp only [List.map_toArray, List.map_cons, List.map_nil]); first | done | rfl | (simp only [List.length_drop, List.length_take]; rfl)) ?_; (with_reducible refine (tricklelaw08_awake.calls k  true _ A4.out).mono ?_); rintro e w168 ⟨rfl, hb⟩; refine ⟨_, rfl, ?_⟩; have n0_ := Aside0.mk (blk_below (g := gb164) (o := .cells #[.int .i64 a0_0, .int .i64 a0_1, .int .i64 a0_2] 23 (0, 0)) (by (with_reducible repeat (first | refine blk_drewN ?_ _ | refine blk_drew ?_ | refine blk_alloc ?_ _)); (first | exact BK164.out | (rw [Nbq39.out]; exact BK164.out) | (rw [← Nbq39.out]; exact BK164.out))) hb); have n1_ := Aside0.mk (below_step (by repeat (first | (with_reducible first | exact HB.out | apply below_alloc | apply pw_below_drewN | apply below_drew1 | refine below_set ?_ GE164.out) | exact HB.out)) hb); clear BK164; clear HB; have BK164 := n0_; have HB := n1_; clear n0_ n1_; (try clear hb); (try clear hb2); (try clear hk); (try clear hi); have hcz169_0 : w168.cell? ⟨gb164, 0, none⟩ = some (.int .i64 a0_0) := (blk_cell BK164.out 0).trans rfl; have hcz169_1 : w168.cell? ⟨gb164, 1, none⟩ = some (.int .i64 a0_1) := (blk_cell BK164.out 1).trans rfl; have hcz169_2 : w168.cell? ⟨gb164, 2, none⟩ = some (.int .i64 a0_2) := (blk_cell BK164.out 2).trans rfl; have hfz169_0 := blk_frozen BK164.out 0; have hfz169_1 := blk_frozen BK164.out 1; have hfz169_2 := blk_frozen BK164.out 2) | ((with_reducible refine gate_callee (f := 12) rfl ?_); refine goesL_ (some 29) rfl rfl Try.func12 (by kernel_rfl) rfl #[.agg #[.int .i64 a0_0, .int .i64 a0_1, .int .i64 a0_2]] rfl (by (try simp only [List.map_toArray, List.map_cons, List.map_nil]); first | done | rfl | (simp only [List.length_drop, List.length_take]; rfl)) ?_; (with_reducible refine (tricklelaw08_config.calls a0_0 a0_1 a0_2 t166 t167 t168 _ A9.out).mono ?_); rintro e w170 ⟨rfl, hb⟩; refine ⟨_, rfl, ?_⟩; have n0_ := Aside0.mk (blk_below (g := gb164) (o := .cells #[.int .i64 a0_0, .int .i64 a0_1, .int .i64 a0_2] 23 (0, 0)) (by (with_reducible repeat (first | refine blk_drewN ?_ _ | refine blk_drew ?_ | refine blk_alloc ?_ _)); (first | exact BK164.out | (rw [Nbq39.out]; exact BK164.out) | (rw [← Nbq39.out]; exact BK164.out))) hb); have n1_ := Aside0.mk (below_step (by repeat (first | (with_reducible first | exact HB.out | apply below_alloc | apply pw_below_drewN | apply below_drew1 | refine below_set ?_ GE164.out) | exact HB.out)) hb); clear BK164; clear HB; have BK164 := n0_; have HB := n1_; clear n0_ n1_; (try clear hb); (try clear hb2); (try clear hk); (try clear hi)) | ((with_reducible refine gate_callee (f := 11) rfl ?_); refine goesL_ (some 30) rfl rfl Try.func11 (by kernel_rfl) rfl #[.agg #[.int .i64 t166, .int .i64 t167, .int .i64 t168]] rfl (by (try simp only [List.map_toArray, List.map_cons, List.map_nil]); first | done | rfl | (simp only [List.length_drop, List.length_take]; rfl)) ?_; (with_reducible refine (capacitor_New.calls t166 t167 t168 t169 t170 t171 t172 t173 t175 w _ ?side1 A10.out).mono ?_); (case side1 => repeat (first | (with_reducible first | exact HB.out | apply below_alloc | apply pw_below_drewN | apply below_drew1 | refine below_set ?_ GE164.out) | exact HB.out)); rintro e w171 ⟨g174, rfl, hi, hb, hb2⟩; refine ⟨_, rfl, ?_⟩; have n0_ := Aside0.mk (blk_below (g := gb164) (o := .cells #[.int .i64 a0_0, .int .i64 a0_1, .int .i64 a0_2] 23 (0, 0)) (by (with_reducible repeat (first | refine blk_drewN ?_ _ | refine blk_drew ?_ | refine blk_alloc ?_ _)); (first | exact BK164.out | (rw [Nbq39.out]; exact BK164.out) | (rw [← Nbq39.out]; exact BK164.out))) hb2); have n1_ := Aside0.mk (hb); have n2_ := Aside0.mk (hi); have n3_ := Aside0.mk (IsS70.ne_blk hi (blk_below (g := gb164) (o := .cells #[.int .i64 a0_0, .int .i64 a0_1, .int .i64 a0_2] 23 (0, 0)) (by (with_reducible repeat (first | refine blk_drewN ?_ _ | refine blk_drew ?_ | refine blk_alloc ?_ _)); (first | exact BK164.out | (rw [Nbq39.out]; exact BK164.out) | (rw [← Nbq39.out]; exact BK164.out))) hb2) (by decide)); have n4_ := Aside0.mk (Ne.symm (IsS70.ne_blk hi (blk_below (g := gb164) (o := .cells #[.int .i64 a0_0, .int .i64 a0_1, .int .i64 a0_2] 23 (0, 0)) (by (with_reducible repeat (first | refine blk_drewN ?_ _ | refine blk_drew ?_ | refine blk_alloc ?_ _)); (first | exact BK164.out | (rw [Nbq39.out]; exact BK164.out) | (rw [← Nbq39.out]; exact BK164.out))) hb2) (by decide))); clear BK164; clear HB; have BK164 := n0_; have HB := n1_; have HI174 := n2_; have NB174_164 := n3_; have NB164_174 := n4_; clear n0_ n1_ n2_ n3_ n4_; (try clear hb); (try clear hb2); (try clear hk); (try clear hi); have hnb172 := NB164_174.out; have hnc172 := NB174_164.out; have hcz173_0 : w171.cell? ⟨gb164, 0, none⟩ = some (.int .i64 a0_0) := (blk_cell BK164.out 0).trans rfl; have hcz173_1 : w171.cell? ⟨gb164, 1, none⟩ = some (.int .i64 a0_1) := (blk_cell BK164.out 1).trans rfl; have hcz173_2 : w171.cell? ⟨gb164, 2, none⟩ = some (.int .i64 a0_2) := (blk_cell BK164.out 2).trans rfl; have hfz173_0 := blk_frozen BK164.out 0; have hfz173_1 := blk_frozen BK164.out 1; have hfz173_2 := blk_frozen BK164.out 2) | ((with_reducible refine gate_callee (f := 10) rfl ?_); refine goesL_ (some 34) rfl rfl Try.func10 (by kernel_rfl) rfl #[.agg #[.int .i64 a0_0, .int .i64 a0_1, .int .i64 a0_2]] rfl (by (try simp only [List.map_toArray, List.map_cons, List.map_nil]); first | done | rfl | (simp only [List.length_drop, List.length_take]; rfl)) ?_; (with_reducible refine (trickleref08_Valid.calls a0_0 a0_1 a0_2 false _ A11.out).mono ?_); rintro e w174 ⟨rfl, hb⟩; refine ⟨_, rfl, ?_⟩; have n0_ := Aside0.mk (blk_below (g := gb164) (o := .cells #[.int .i64 a0_0, .int .i64 a0_1, .int .i64 a0_2] 23 (0, 0)) (by (with_reducible repeat (first | refine blk_drewN ?_ _ | refine blk_drew ?_ | refine blk_alloc ?_ _)); (first | exact BK164.out | (rw [Nbq39.out]; exact BK164.out) | (rw [← Nbq39.out]; exact BK164.out))) hb); have n1_ := Aside0.mk (IsS70.below (by repeat (first | (with_reducible first | exact HI174.out | apply IsS70.alloc | apply IsS70.drewN | apply IsS70.drew | apply IsS70.set_0 | apply IsS70.set_1 | apply IsS70.set_2 | apply IsS70.set_3 | apply IsS70.set_4 | refine IsS70.far ?_ NB174_164.out _) | exact HI174.out)) hb); have n2_ := Aside0.mk (below_step (by repeat (first | (with_reducible first | exact HB.out | apply below_alloc | apply pw_below_drewN | apply below_drew1 | refine below_set ?_ (IsS70.ge HI174.out) | refine below_set ?_ GE164.out) | exact HB.out)) hb); clear BK164; clear HI174; clear HB; have BK164 := n0_; have HI174 := n1_; have HB := n2_; clear n0_ n1_ n2_; (try clear hb); (try clear hb2); (try clear hk); (try clear hi)))
    go_ret
    exact ⟨by first | rfl | (simp [errW_none, errW_some] <;> rfl) | (simp [*, errW_none, errW_some] <;> rfl), by repeat (first | (with_reducible first | exact HB.out | apply below_alloc | apply pw_below_drewN | apply below_drew1 | refine below_set ?_ (IsS70.ge HI174.out) | refine below_set ?_ GE164.out) | exact HB.out)⟩
 ·
  replace c5 := Bool.eq_false_iff.mpr c5
  subst c5
  have H1 : (some false) = some r := by rw [if_neg (show ¬ (false = true) by decide)] at H; exact H
  clear H
  have H := H1
  clear H1
  obtain rfl := Option.some.inj H
  go_enter Try.func4, Try.ntmps4
  go_wp2_with (first | ((with_reducible refine gate_dst (N := 3) rfl ?_); refine box_event ?hg (N := 3) ?hd (cs := #[.int .i64 a0_0, .int .i64 a0_1, .int .i64 a0_2]) (t := 23) ?hr ?_; (case hd => rfl); (case hg => rfl); (case hr => first | (go_simp; done) | (go_simp; rfl)); intro gb164 hg w175 hbox hb; have n0_ := Aside0.mk (below_step (by repeat (first | (with_reducible first | exact HB.out | apply below_alloc | apply pw_below_drewN | apply below_drew1) | exact HB.out)) hb); have n1_ := Aside0.mk (hbox); have n2_ := Aside0.mk ((by rw [hg]; exact (below_size (by repeat (first | (with_reducible first | exact HB.out | apply below_alloc | apply pw_below_drewN | apply below_drew1) | exact HB.out))) : w.heap.size ≤ gb164)); have n3_ := Aside0.mk ((by rw [hg]; exact (below_size (by repeat (first | (with_reducible first | exact HB.out | apply below_alloc | apply pw_below_drewN | apply below_drew1) | exact HB.out))) : w.heap.size ≤ gb164)); clear HB; have HB := n0_; have BK164 := n1_; have GW164 := n2_; have GE164 := n3_; clear n0_ n1_ n2_ n3_; clear hb hbox hg) | ((with_reducible refine gate_callee (f := 9) rfl ?_); refine goesL_ (some 22) rfl rfl Try.func9 (by kernel_rfl) rfl #[] rfl (by (try simp only [List.map_toArray, List.map_cons, List.map_nil]); first | done | rfl | (simp only [List.length_drop, List.length_take]; rfl)) ?_; (with_reducible refine (tricklelaw08_awake.calls k  false _ A4.out).mono ?_); rintro e w176 ⟨rfl, hb⟩; refine ⟨_, rfl, ?_⟩; have n0_ := Aside0.mk (blk_below (g := gb164) (o := .cells #[.int .i64 a0_0, .int .i64 a0_1, .int .i64 a0_2] 23 (0, 0)) (by (with_reducible repeat (first | refine blk_drewN ?_ _ | refine blk_drew ?_ | refine blk_alloc ?_ _)); (first | exact BK164.out | (rw [Nbq39.out]; exact BK164.out) | (rw [← Nbq39.out]; exact BK164.out))) hb); have n1_ := Aside0.mk (below_step (by repeat (first | (with_reducible first | exact HB.out | apply below_alloc | apply pw_below_drewN | apply below_drew1 | refine below_set ?_ GE164.out) | exact HB.out)) hb); clear BK164; clear HB; have BK164 := n0_; have HB := n1_; clear n0_ n1_; (try clear hb); (try clear hb2); (try clear hk); (try clear hi)))
  go_ret
  exact ⟨by first | rfl | (simp [errW_none, errW_some] <;> rfl) | (simp [*, errW_none, errW_some] <;> rfl), by repeat (first | (with_reducible first | exact HB.out | apply below_alloc | apply pw_below_drewN | apply below_drew1 | refine below_set ?_ GE164.out) | exact HB.out)⟩

end Go.Proofs.Ytifogngffmhmaaa.QAl
