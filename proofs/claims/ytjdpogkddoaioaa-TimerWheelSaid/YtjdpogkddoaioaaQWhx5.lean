-- Printed by a program of this session (myprint.py) over the kit's print: functions, contracts; not trusted, Lean checks it.
import Derived.Test.YtjdpogkddoaioaaQWhx0
import Derived.Test.YtjdpogkddoaioaaQWhx2
import Derived.Test.YtjdpogkddoaioaaQWhx4
namespace Go.Proofs.Ytjdpogkddoaioaa.QWh
open Go.RowKit Go.Proofs.YtjdpogkddoaioaaW.PrintWords Go.Proofs.YtjdpogkddoaioaaW.PrintLast Go.Proofs.YtjdpogkddoaioaaW.PrintMore
attribute [local go_sem] max2_int min2_int max_two min_two max_three min_three max_four min_four   -- for this text's walks alone
set_option linter.unusedVariables false
set_option linter.unusedSimpArgs false

/-! ### trickleref39_Fire: function 30 -/
def trickleref39_Fire.j0 : Nat → Int → Bool → List Int → List Int → Int → Int → Option (List Int × List Int × Int × Int)
  | 0, _, _, _, _, _, _ => none
  | k + 1, x1, x25, x206000, x206001, x207000, x207001 => if x25 = true then (some (x206000, x206001, 0, 1)) else (if 0 ≤ x1 then (if x1 < (x206000.length : Int) then (if (rd x206000 x1) = 0 then (some (x206000, x206001, 0, 5)) else (if x1 < (x206001.length : Int) then ((trickleref39_Advance.f k (rd x206001 x1) (rd x206000 x1) x207000 x207001).bind fun bt212 => (if bt212.2.2 = 0 then ((some (([] : List Int) : List Int)).bind fun y215 => (if y215.length + x206001.length < 17592186044416 then ((some (y215 ++ x206001 : List Int)).bind fun y218 => (if x1 < (y218.length : Int) then (some (x206000, (y218.set (x1 : Int).toNat bt212.1), bt212.2.1, 0)) else (none))) else (none))) else (some (x206000, x206001, 0, bt212.2.2)))) else (none))) else (none)) else (none))
def trickleref39_Fire.f (k : Nat) (l0_0 : List Int) (l0_1 : List Int) (a1 : Int) (a2_0 : Int) (a2_1 : Int) : Option (List Int × List Int × Int × Int) := if a1 < 0 then (trickleref39_Fire.j0 k a1 true l0_0 l0_1 a2_0 a2_1) else (if a1 ≥ (l0_0.length : Int) then (trickleref39_Fire.j0 k a1 true l0_0 l0_1 a2_0 a2_1) else ((trickleref39_Interval.f a2_0 a2_1).bind fun t208 => (trickleref39_Fire.j0 k a1 (!t208) l0_0 l0_1 a2_0 a2_1)))
theorem trickleref39_Fire.mono_l : ∀ k, (∀ y0 y1 y2 y3 y4 y5, LeO (trickleref39_Fire.j0 k y0 y1 y2 y3 y4 y5) (trickleref39_Fire.j0 (k + 1) y0 y1 y2 y3 y4 y5))
  | 0 => fun _ _ _ _ _ _ r h => by simp [trickleref39_Fire.j0] at h
  | k + 1 => by
    have ih0 := trickleref39_Fire.mono_l k
    · intro y0 y1 y2 y3 y4 y5
      unfold trickleref39_Fire.j0
      repeat' first
      | (with_reducible exact ih0 _ _ _ _ _ _)
      | (with_reducible exact trickleref39_Advance.mono _ _ _ _ _)
      | (with_reducible exact LeO.refl _)
      | (with_reducible exact LeO.none _)
      | (with_reducible refine LeO.ite ?_ ?_)
      | (with_reducible refine LeO.bind ?_ (fun _ => ?_))
      | exact ih0 _ _ _ _ _ _
      | exact trickleref39_Advance.mono _ _ _ _ _
      | exact LeO.none _
      | refine LeO.ite ?_ ?_
      | refine LeO.bind ?_ (fun _ => ?_)
theorem trickleref39_Fire.mono : ∀ a0 a1 a2 a3 a4 k, LeO (trickleref39_Fire.f k a0 a1 a2 a3 a4) (trickleref39_Fire.f (k + 1) a0 a1 a2 a3 a4) := by
  intro a0 a1 a2 a3 a4 k
  have ih0 := trickleref39_Fire.mono_l k
  unfold trickleref39_Fire.f
  repeat' first
      | (with_reducible exact ih0 _ _ _ _ _ _)
      | (with_reducible exact trickleref39_Advance.mono _ _ _ _ _)
      | (with_reducible exact LeO.refl _)
      | (with_reducible exact LeO.none _)
      | (with_reducible refine LeO.ite ?_ ?_)
      | (with_reducible refine LeO.bind ?_ (fun _ => ?_))
      | exact ih0 _ _ _ _ _ _
      | exact trickleref39_Advance.mono _ _ _ _ _
      | exact LeO.none _
      | refine LeO.ite ?_ ?_
      | refine LeO.bind ?_ (fun _ => ?_)
def trickleref39_Fire.T5 : Bool × List (List Nat × List Nat) := (true, [([], []), ([0], [0]), ([], []), ([1, 2], [1, 2]), ([3], [3]), ([], []), ([5], [5]), ([], []), ([6, 7], [6, 7]), ([8], [8]), ([], []), ([4, 9, 10], [4, 9, 10]), ([11], [11]), ([12], [12]), ([12], [12]), ([12], [12]), ([13, 11, 0, 1, 2, 3, 4, 5, 6, 7, 8, 9, 10, 11, 12, 13], [13]), ([14, 16, 0, 1, 2, 3, 4, 5, 6, 7, 8, 9, 10, 11, 12, 13, 14, 16], [14]), ([15, 17, 0, 1, 2, 3, 4, 5, 6, 7, 8, 9, 10, 11, 12, 13, 14, 15, 16, 17], [15])])
def trickleref39_Fire.B5 : List Nat := [0, 1, 0, 7, 15, 0, 32, 0, 224, 480, 0, 2047, 4095, 8191, 8191, 8191, 16383, 98303, 262143]
theorem trickleref39_Fire.tab5 : rtab .any (opsOf Try.f30 5) = trickleref39_Fire.T5 := by kernel_rfl
theorem trickleref39_Fire.bits5 : waitsOk trickleref39_Fire.T5.2 trickleref39_Fire.B5 = true := by kernel_rfl
set_option maxHeartbeats 8000000 in
set_option maxRecDepth 100000 in
theorem trickleref39_Fire.calls (k : Nat) (P0_0_ : Nat → Prop) (u9000_ : Value) (l0_0 : List Int) (P0_1_ : Nat → Prop) (u9001_ : Value) (l0_1 : List Int) (a1 : Int) (a2_0 : Int) (a2_1 : Int) (r1 : List Int) (r2 : List Int) (r3 : Int) (r4 : Int) (w0 w : World) (hB : Below w0.heap.size w0 w) (ho0_0 : Kd.R (Kd.int .i64) 3 w w0.heap.size P0_0_ u9000_ l0_0) (ho0_1 : Kd.R (Kd.int .i64) 2 w w0.heap.size P0_1_ u9001_ l0_1) (h : trickleref39_Fire.f k l0_0 l0_1 a1 a2_0 a2_1 = some (r1, r2, r3, r4)) :
    Calls Try.prog 30 #[.agg #[u9000_, u9001_], .int .i64 a1, .agg #[.int .i64 a2_0, .int .i64 a2_1]] w fun e w' => ∃ v0_ v1_ : Value, e = .returned (.tuple #[.agg #[v0_, v1_], .int .i64 r3, .int .i64 r4]) ∧ Kd.R (Kd.int .i64) 3 w' w0.heap.size (fun k_ => ((P0_0_ k_ ∨ P0_1_ k_) ∨ w.heap.size ≤ k_)) v0_ r1 ∧ Kd.R (Kd.int .i64) 2 w' w0.heap.size (fun k_ => ((P0_0_ k_ ∨ P0_1_ k_) ∨ w.heap.size ≤ k_)) v1_ r2 ∧ Below w0.heap.size w0 w' ∧ Kept w w' (fun k_ => P0_0_ k_ ∨ P0_1_ k_) := by
  have hu44 := Try.underlying44
  have hu23 := Try.underlying23
  have HO0_0 := Aside0.mk (show Kd.R (Kd.int .i64) 3 w w0.heap.size (fun k_ => ((P0_0_ k_ ∨ P0_1_ k_) ∨ w.heap.size ≤ k_)) u9000_ l0_0 from Kd.R_mono ho0_0 (fun k_ hk => (.inl (.inl hk))))
  have HO0_1 := Aside0.mk (show Kd.R (Kd.int .i64) 2 w w0.heap.size (fun k_ => ((P0_0_ k_ ∨ P0_1_ k_) ∨ w.heap.size ≤ k_)) u9001_ l0_1 from Kd.R_mono ho0_1 (fun k_ hk => (.inl (.inr hk))))
  have HK := Aside0.mk (Kept.refl w (fun k_ => P0_0_ k_ ∨ P0_1_ k_))
  have HW0 := Aside0.mk hB.size
  have HB := Aside0.mk hB
  clear hB
  have H : (if a1 < 0 then (trickleref39_Fire.j0 k a1 true l0_0 l0_1 a2_0 a2_1) else (if a1 ≥ (l0_0.length : Int) then (trickleref39_Fire.j0 k a1 true l0_0 l0_1 a2_0 a2_1) else ((trickleref39_Interval.f a2_0 a2_1).bind fun t208 => (trickleref39_Fire.j0 k a1 (!t208) l0_0 l0_1 a2_0 a2_1)))) = some (r1, r2, r3, r4) := h
  clear h
  have HC4 := Aside0.mk H
  clear H
  obtain ⟨Ao5, co5, eo5⟩ := Kd.R_slice HO0_0.out
  subst eo5
  obtain ⟨Ao6, co6, eo6⟩ := Kd.R_slice HO0_1.out
  subst eo6
  go_enter Try.func30, Try.ntmps30
  go_upto_region 1 with (first | ((with_reducible refine gate_dst (N := 3) rfl ?_); (try (refine gate_guard (by rfl) ?_; dsimp only)); refine box_event ?hg (N := 3) ?hd (cs := #[.slice Ao5 l0_0.length co5, .slice Ao6 l0_1.length co6]) (t := 44) ?hr ?_; (case hd => rfl); (case hg => rfl); (case hr => first | (go_simp; done) | (go_simp; rfl)); intro gb205 hg w7 hbox hb; have n0_ := Aside0.mk (Kd.R_below (by (with_reducible repeat (first | apply Kd.R_alloc | apply Kd.R_drewN | apply Kd.R_drew)); exact HO0_0.out) hb); have n1_ := Aside0.mk (Kd.R_below (by (with_reducible repeat (first | apply Kd.R_alloc | apply Kd.R_drewN | apply Kd.R_drew)); exact HO0_1.out) hb); have n2_ := Aside0.mk (Kept.below (S := (fun k_ => P0_0_ k_ ∨ P0_1_ k_)) (by repeat (first | (with_reducible first | exact HK.out | apply Kept.alloc | apply Kept.drewN | apply Kept.drew) | exact HK.out)) hb); have n3_ := Aside0.mk (below_step (by repeat (first | (with_reducible first | exact HB.out | apply below_alloc | apply pw_below_drewN | apply below_drew1) | exact HB.out)) hb); have n4_ := Aside0.mk (hbox); have n5_ := Aside0.mk ((by rw [hg]; exact (by first | exact HK.out.1 | exact (show Kept w _ (fun k_ => P0_0_ k_ ∨ P0_1_ k_) from by repeat (first | (with_reducible first | exact HK.out | apply Kept.alloc | apply Kept.drewN | apply Kept.drew) | exact HK.out)).1) : w.heap.size ≤ gb205)); have n6_ := Aside0.mk ((by rw [hg]; exact (below_size (by repeat (first | (with_reducible first | exact HB.out | apply below_alloc | apply pw_below_drewN | apply below_drew1) | exact HB.out))) : w0.heap.size ≤ gb205)); clear HO0_0; clear HO0_1; clear HK; clear HB; have HO0_0 := n0_; have HO0_1 := n1_; have HK := n2_; have HB := n3_; have BK205 := n4_; have GW205 := n5_; have GE205 := n6_; clear n0_ n1_ n2_ n3_ n4_ n5_ n6_; clear hb hbox hg) | ((with_reducible refine gate_dst (N := 5) rfl ?_); (try (refine gate_guard (by rfl) ?_; dsimp only)); refine box_event ?hg (N := 5) ?hd (cs := #[.int .i64 a2_0, .int .i64 a2_1]) (t := 23) ?hr ?_; (case hd => rfl); (case hg => rfl); (case hr => first | (go_simp; done) | (go_simp; rfl)); intro gb206 hg w8 hbox hb; have n0_ := Aside0.mk (Kd.R_below (by (with_reducible repeat (first | apply Kd.R_alloc | apply Kd.R_drewN | apply Kd.R_drew)); exact HO0_0.out) hb); have n1_ := Aside0.mk (Kd.R_below (by (with_reducible repeat (first | apply Kd.R_alloc | apply Kd.R_drewN | apply Kd.R_drew)); exact HO0_1.out) hb); have n2_ := Aside0.mk (blk_below (g := gb205) (o := .cells #[.slice Ao5 l0_0.length co5, .slice Ao6 l0_1.length co6] 44 (0, 0)) (by (with_reducible repeat (first | refine blk_drewN ?_ _ | refine blk_drew ?_ | refine blk_alloc ?_ _)); exact BK205.out) hb); have n3_ := Aside0.mk (Kept.below (S := (fun k_ => P0_0_ k_ ∨ P0_1_ k_)) (by repeat (first | (with_reducible first | exact HK.out | apply Kept.alloc | apply Kept.drewN | apply Kept.drew | refine Kept.setCell ?_ (.inr GW205.out) _) | exact HK.out)) hb); have n4_ := Aside0.mk (below_step (by repeat (first | (with_reducible first | exact HB.out | apply below_alloc | apply pw_below_drewN | apply below_drew1 | refine below_set ?_ GE205.out) | exact HB.out)) hb); have n5_ := Aside0.mk (hbox); have n6_ := Aside0.mk ((by rw [hg]; exact (by first | exact HK.out.1 | exact (show Kept w _ (fun k_ => P0_0_ k_ ∨ P0_1_ k_) from by repeat (first | (with_reducible first | exact HK.out | apply Kept.alloc | apply Kept.drewN | apply Kept.drew | refine Kept.setCell ?_ (.inr GW205.out) _) | exact HK.out)).1) : w.heap.size ≤ gb206)); have n7_ := Aside0.mk ((by rw [hg]; exact (below_size (by repeat (first | (with_reducible first | exact HB.out | apply below_alloc | apply pw_below_drewN | apply below_drew1 | refine below_set ?_ GE205.out) | exact HB.out))) : w0.heap.size ≤ gb206)); have n8_ := Aside0.mk ((by rw [hg]; exact Nat.ne_of_lt (blk_lt (g := gb205) (o := .cells #[.slice Ao5 l0_0.length co5, .slice Ao6 l0_1.length co6] 44 (0, 0)) (by (with_reducible repeat (first | refine blk_drewN ?_ _ | refine blk_drew ?_ | refine blk_alloc ?_ _)); exact BK205.out)) : gb205 ≠ gb206)); have n9_ := Aside0.mk ((by rw [hg]; exact Nat.ne_of_gt (blk_lt (g := gb205) (o := .cells #[.slice Ao5 l0_0.length co5, .slice Ao6 l0_1.length co6] 44 (0, 0)) (by (with_reducible repeat (first | refine blk_drewN ?_ _ | refine blk_drew ?_ | refine blk_alloc ?_ _)); exact BK205.out)) : gb206 ≠ gb205)); clear HO0_0; clear HO0_1; clear BK205; clear HK; clear HB; have HO0_0 := n0_; have HO0_1 := n1_; have BK205 := n2_; have HK := n3_; have HB := n4_; have BK206 := n5_; have GW206 := n6_; have GE206 := n7_; have NB205_206 := n8_; have NB206_205 := n9_; clear n0_ n1_ n2_ n3_ n4_ n5_ n6_ n7_ n8_ n9_; clear hb hbox hg) | ((with_reducible refine gate_dst (N := 6) rfl ?_); (try (refine gate_guard (by rfl) ?_; dsimp only)); refine box_event ?hg (N := 6) ?hd (cs := #[.slice none 0 0, .slice none 0 0]) (t := 44) ?hr ?_; (case hd => rfl); (case hg => rfl); (case hr => first | (go_simp; done) | (go_simp; rfl)); intro gb207 hg w9 hbox hb; have n0_ := Aside0.mk (Kd.R_below (by (with_reducible repeat (first | apply Kd.R_alloc | apply Kd.R_drewN | apply Kd.R_drew)); exact HO0_0.out) hb); have n1_ := Aside0.mk (Kd.R_below (by (with_reducible repeat (first | apply Kd.R_alloc | apply Kd.R_drewN | apply Kd.R_drew)); exact HO0_1.out) hb); have n2_ := Aside0.mk (blk_below (g := gb205) (o := .cells #[.slice Ao5 l0_0.length co5, .slice Ao6 l0_1.length co6] 44 (0, 0)) (by (with_reducible repeat (first | refine blk_drewN ?_ _ | refine blk_drew ?_ | refine blk_alloc ?_ _)); exact BK205.out) hb); have n3_ := Aside0.mk (blk_below (g := gb206) (o := .cells #[.int .i64 a2_0, .int .i64 a2_1] 23 (0, 0)) (by (with_reducible repeat (first | refine blk_drewN ?_ _ | refine blk_drew ?_ | refine blk_alloc ?_ _)); exact BK206.out) hb); have n4_ := Aside0.mk (Kept.below (S := (fun k_ => P0_0_ k_ ∨ P0_1_ k_)) (by repeat (first | (with_reducible first | exact HK.out | apply Kept.alloc | apply Kept.drewN | apply Kept.drew | refine Kept.setCell ?_ (.inr GW205.out) _ | refine Kept.setCell ?_ (.inr GW206.out) _) | exact HK.out)) hb); have n5_ := Aside0.mk (below_step (by repeat (first | (with_reducible first | exact HB.out | apply below_alloc | apply pw_below_drewN | apply below_drew1 | refine below_set ?_ GE205.out | refine below_set ?_ GE206.out) | exact HB.out)) hb); have n6_ := Aside0.mk (hbox); have n7_ := Aside0.mk ((by rw [hg]; exact (by first | exact HK.out.1 | exact (show Kept w _ (fun k_ => P0_0_ k_ ∨ P0_1_ k_) from by repeat (first | (with_reducible first | exact HK.out | apply Kept.alloc | apply Kept.drewN | apply Kept.drew | refine Kept.setCell ?_ (.inr GW205.out) _ | refine Kept.setCell ?_ (.inr GW206.out) _) | exact HK.out)).1) : w.heap.size ≤ gb207)); have n8_ := Aside0.mk ((by rw [hg]; exact (below_size (by repeat (first | (with_reducible first | exact HB.out | apply below_alloc | apply pw_below_drewN | apply below_drew1 | refine below_set ?_ GE205.out | refine below_set ?_ GE206.out) | exact HB.out))) : w0.heap.size ≤ gb207)); have n9_ := Aside0.mk ((by rw [hg]; exact Nat.ne_of_lt (blk_lt (g := gb205) (o := .cells #[.slice Ao5 l0_0.length co5, .slice Ao6 l0_1.length co6] 44 (0, 0)) (by (with_reducible repeat (first | refine blk_drewN ?_ _ | refine blk_drew ?_ | refine blk_alloc ?_ _)); exact BK205.out)) : gb205 ≠ gb207)); have n10_ := Aside0.mk ((by rw [hg]; exact Nat.ne_of_gt (blk_lt (g := gb205) (o := .cells #[.slice Ao5 l0_0.length co5, .slice Ao6 l0_1.length co6] 44 (0, 0)) (by (with_reducible repeat (first | refine blk_drewN ?_ _ | refine blk_drew ?_ | refine blk_alloc ?_ _)); exact BK205.out)) : gb207 ≠ gb205)); have n11_ := Aside0.mk ((by rw [hg]; exact Nat.ne_of_lt (blk_lt (g := gb206) (o := .cells #[.int .i64 a2_0, .int .i64 a2_1] 23 (0, 0)) (by (with_reducible repeat (first | refine blk_drewN ?_ _ | refine blk_drew ?_ | refine blk_alloc ?_ _)); exact BK206.out)) : gb206 ≠ gb207)); have n12_ := Aside0.mk ((by rw [hg]; exact Nat.ne_of_gt (blk_lt (g := gb206) (o := .cells #[.int .i64 a2_0, .int .i64 a2_1] 23 (0, 0)) (by (with_reducible repeat (first | refine blk_drewN ?_ _ | refine blk_drew ?_ | refine blk_alloc ?_ _)); exact BK206.out)) : gb207 ≠ gb206)); clear HO0_0; clear HO0_1; clear BK205; clear BK206; clear HK; clear HB; have HO0_0 := n0_; have HO0_1 := n1_; have BK205 := n2_; have BK206 := n3_; have HK := n4_; have HB := n5_; have BK207 := n6_; have GW207 := n7_; have GE207 := n8_; have NB205_207 := n9_; have NB207_205 := n10_; have NB206_207 := n11_; have NB207_206 := n12_; clear n0_ n1_ n2_ n3_ n4_ n5_ n6_ n7_ n8_ n9_ n10_ n11_ n12_; clear hb hbox hg))
  (try simp only [Act.put, List.setIfInBounds_toArray, List.set_cons_zero, List.set_cons_succ])
  go_cut [25] (fun v25 wc => ∃ (kq : Nat) (x25_3 : Bool), v25 = .bool x25_3 ∧ Aside0 (trickleref39_Fire.j0 kq a1 x25_3 l0_0 l0_1 a2_0 a2_1 = some (r1, r2, r3, r4)) ∧ Aside0 (kq ≤ k) ∧ Aside0 (Kd.R (Kd.int .i64) 3 wc w0.heap.size (fun k_ => ((P0_0_ k_ ∨ P0_1_ k_) ∨ w.heap.size ≤ k_)) (.slice Ao5 l0_0.length co5) l0_0) ∧ Aside0 (Kd.R (Kd.int .i64) 2 wc w0.heap.size (fun k_ => ((P0_0_ k_ ∨ P0_1_ k_) ∨ w.heap.size ≤ k_)) (.slice Ao6 l0_1.length co6) l0_1) ∧ Aside0 (wc.heap[gb205]? = some (.cells #[(.slice Ao5 l0_0.length co5), (.slice Ao6 l0_1.length co6)] 44 (0, 0))) ∧ Aside0 (wc.heap[gb206]? = some (.cells #[.int .i64 a2_0, .int .i64 a2_1] 23 (0, 0))) ∧ Aside0 (wc.heap[gb207]? = some (.cells #[(.slice none 0 0), (.slice none 0 0)] 44 (0, 0))) ∧ Aside0 (Kept w wc (fun k_ => P0_0_ k_ ∨ P0_1_ k_)) ∧ Aside0 (Below w0.heap.size w0 wc))
  case first =>
    have H := HC4.out
    clear HC4
    by_cases c10 : a1 < 0
    · rw [if_pos c10] at H
      have c10b0 : decide (a1 < 0) = true := decide_eq_true c10
      clear c10
      (first | rw [c10b0] | (simp only [i64_w, i32_w]; rw [c10b0]) | skip)
      have H' := Aside0.mk H
      clear H
      go_wp2
      go_meet
      case rel => exact ⟨_, (true), (by first | rfl | (simp; done) | (simp [*]; done)), H', ⟨by first | omega | exact Nat.le_refl _⟩, ⟨by (with_reducible repeat (first | apply Kd.R_alloc | apply Kd.R_drewN | apply Kd.R_drew)); exact HO0_0.out⟩, ⟨by (with_reducible repeat (first | apply Kd.R_alloc | apply Kd.R_drewN | apply Kd.R_drew)); exact HO0_1.out⟩, ⟨by (with_reducible repeat (first | refine blk_drewN ?_ _ | refine blk_drew ?_ | refine blk_alloc ?_ _)); exact BK205.out⟩, ⟨by (with_reducible repeat (first | refine blk_drewN ?_ _ | refine blk_drew ?_ | refine blk_alloc ?_ _)); exact BK206.out⟩, ⟨by (with_reducible repeat (first | refine blk_drewN ?_ _ | refine blk_drew ?_ | refine blk_alloc ?_ _)); exact BK207.out⟩, ⟨by repeat (first | (with_reducible first | exact HK.out | apply Kept.alloc | apply Kept.drewN | apply Kept.drew | refine Kept.setCell ?_ (.inr GW205.out) _ | refine Kept.setCell ?_ (.inr GW206.out) _ | refine Kept.setCell ?_ (.inr GW207.out) _) | exact HK.out)⟩, ⟨by repeat (first | (with_reducible first | exact HB.out | apply below_alloc | apply pw_below_drewN | apply below_drew1 | refine below_set ?_ GE205.out | refine below_set ?_ GE206.out | refine below_set ?_ GE207.out) | exact HB.out)⟩⟩
    · rw [if_neg c10] at H
      have c10b0 : decide (a1 < 0) = false := decide_eq_false c10
      clear c10
      (first | rw [c10b0] | (simp only [i64_w, i32_w]; rw [c10b0]) | skip)
      by_cases c11 : a1 ≥ (l0_0.length : Int)
      · rw [if_pos c11] at H
        have c11b0 : decide ((l0_0.length : Int) ≤ a1) = true := decide_eq_true c11
        clear c11
        have H' := Aside0.mk H
        clear H
        have hnb12 := NB205_206.out
        have hnc12 := NB206_205.out
        have hnb13 := NB205_207.out
        have hnc13 := NB207_205.out
        have hcz14_0 : w9.cell? ⟨gb205, 0, none⟩ = some (.slice Ao5 l0_0.length co5) := (blk_cell BK205.out 0).trans rfl
        have hcz14_1 : w9.cell? ⟨gb205, 1, none⟩ = some (.slice Ao6 l0_1.length co6) := (blk_cell BK205.out 1).trans rfl
        have hfz14_0 := blk_frozen BK205.out 0
        have hfz14_1 := blk_frozen BK205.out 1
        go_wp2
        go_meet
        case rel => exact ⟨_, (true), (by first | rfl | (simp; done) | (simp [*]; done)), H', ⟨by first | omega | exact Nat.le_refl _⟩, ⟨by (with_reducible repeat (first | apply Kd.R_alloc | apply Kd.R_drewN | apply Kd.R_drew)); exact HO0_0.out⟩, ⟨by (with_reducible repeat (first | apply Kd.R_alloc | apply Kd.R_drewN | apply Kd.R_drew)); exact HO0_1.out⟩, ⟨by (with_reducible repeat (first | refine blk_drewN ?_ _ | refine blk_drew ?_ | refine blk_alloc ?_ _)); exact BK205.out⟩, ⟨by (with_reducible repeat (first | refine blk_drewN ?_ _ | refine blk_drew ?_ | refine blk_alloc ?_ _)); exact BK206.out⟩, ⟨by (with_reducible repeat (first | refine blk_drewN ?_ _ | refine blk_drew ?_ | refine blk_alloc ?_ _)); exact BK207.out⟩, ⟨by repeat (first | (with_reducible first | exact HK.out | apply Kept.alloc | apply Kept.drewN | apply Kept.drew | refine Kept.setCell ?_ (.inr GW205.out) _ | refine Kept.setCell ?_ (.inr GW206.out) _ | refine Kept.setCell ?_ (.inr GW207.out) _) | exact HK.out)⟩, ⟨by repeat (first | (with_reducible first | exact HB.out | apply below_alloc | apply pw_below_drewN | apply below_drew1 | refine below_set ?_ GE205.out | refine below_set ?_ GE206.out | refine below_set ?_ GE207.out) | exact HB.out)⟩⟩
      · rw [if_neg c11] at H
        have c11b0 : decide ((l0_0.length : Int) ≤ a1) = false := decide_eq_false c11
        clear c11
        replace H := Option.bind_eq_some_iff.mp H
        obtain ⟨t208, A150, H⟩ := H
        replace H : (trickleref39_Fire.j0 k a1 (!t208) l0_0 l0_1 a2_0 a2_1) = some (r1, r2, r3, r4) := H
        have A15 := Aside0.mk A150
        clear A150
        have H' := Aside0.mk H
        clear H
        have hnb16 := NB205_206.out
        have hnc16 := NB206_205.out
        have hnb17 := NB205_207.out
        have hnc17 := NB207_205.out
        have hcz18_0 : w9.cell? ⟨gb205, 0, none⟩ = some (.slice Ao5 l0_0.length co5) := (blk_cell BK205.out 0).trans rfl
        have hcz18_1 : w9.cell? ⟨gb205, 1, none⟩ = some (.slice Ao6 l0_1.length co6) := (blk_cell BK205.out 1).trans rfl
        have hfz18_0 := blk_frozen BK205.out 0
        have hfz18_1 := blk_frozen BK205.out 1
        have hnb19 := NB206_207.out
        have hnc19 := NB207_206.out
        have hcz20_0 : w9.cell? ⟨gb206, 0, none⟩ = some (.int .i64 a2_0) := (blk_cell BK206.out 0).trans rfl
        have hcz20_1 : w9.cell? ⟨gb206, 1, none⟩ = some (.int .i64 a2_1) := (blk_cell BK206.out 1).trans rfl
        have hfz20_0 := blk_frozen BK206.out 0
        have hfz20_1 := blk_frozen BK206.out 1
        go_wp2_with (first | (go_at_call 18; (with_reducible refine (trickleref39_Interval.calls a2_0 a2_1 t208 _ A15.out).mono ?_); rintro e w21 ⟨rfl, hb⟩; have n0_ := Aside0.mk (Kd.R_below (by (with_reducible repeat (first | apply Kd.R_alloc | apply Kd.R_drewN | apply Kd.R_drew)); exact HO0_0.out) hb); have n1_ := Aside0.mk (Kd.R_below (by (with_reducible repeat (first | apply Kd.R_alloc | apply Kd.R_drewN | apply Kd.R_drew)); exact HO0_1.out) hb); have n2_ := Aside0.mk (blk_below (g := gb205) (o := .cells #[.slice Ao5 l0_0.length co5, .slice Ao6 l0_1.length co6] 44 (0, 0)) (by (with_reducible repeat (first | refine blk_drewN ?_ _ | refine blk_drew ?_ | refine blk_alloc ?_ _)); exact BK205.out) hb); have n3_ := Aside0.mk (blk_below (g := gb206) (o := .cells #[.int .i64 a2_0, .int .i64 a2_1] 23 (0, 0)) (by (with_reducible repeat (first | refine blk_drewN ?_ _ | refine blk_drew ?_ | refine blk_alloc ?_ _)); exact BK206.out) hb); have n4_ := Aside0.mk (blk_below (g := gb207) (o := .cells #[.slice none 0 0, .slice none 0 0] 44 (0, 0)) (by (with_reducible repeat (first | refine blk_drewN ?_ _ | refine blk_drew ?_ | refine blk_alloc ?_ _)); exact BK207.out) hb); have n5_ := Aside0.mk (Kept.below (S := (fun k_ => P0_0_ k_ ∨ P0_1_ k_)) (by repeat (first | (with_reducible first | exact HK.out | apply Kept.alloc | apply Kept.drewN | apply Kept.drew | refine Kept.setCell ?_ (.inr GW205.out) _ | refine Kept.setCell ?_ (.inr GW206.out) _ | refine Kept.setCell ?_ (.inr GW207.out) _) | exact HK.out)) hb); have n6_ := Aside0.mk (below_step (by repeat (first | (with_reducible first | exact HB.out | apply below_alloc | apply pw_below_drewN | apply below_drew1 | refine below_set ?_ GE205.out | refine below_set ?_ GE206.out | refine below_set ?_ GE207.out) | exact HB.out)) hb); clear HO0_0; clear HO0_1; clear BK205; clear BK206; clear BK207; clear HK; clear HB; have HO0_0 := n0_; have HO0_1 := n1_; have BK205 := n2_; have BK206 := n3_; have BK207 := n4_; have HK := n5_; have HB := n6_; clear n0_ n1_ n2_ n3_ n4_ n5_ n6_; (try clear hb); (try clear hb2); (try clear hk); (try clear hi)))
        go_meet
        case rel => exact ⟨_, (!t208), (by first | rfl | (simp; done) | (simp [*]; done)), H', ⟨by first | omega | exact Nat.le_refl _⟩, ⟨by (with_reducible repeat (first | apply Kd.R_alloc | apply Kd.R_drewN | apply Kd.R_drew)); exact HO0_0.out⟩, ⟨by (with_reducible repeat (first | apply Kd.R_alloc | apply Kd.R_drewN | apply Kd.R_drew)); exact HO0_1.out⟩, ⟨by (with_reducible repeat (first | refine blk_drewN ?_ _ | refine blk_drew ?_ | refine blk_alloc ?_ _)); exact BK205.out⟩, ⟨by (with_reducible repeat (first | refine blk_drewN ?_ _ | refine blk_drew ?_ | refine blk_alloc ?_ _)); exact BK206.out⟩, ⟨by (with_reducible repeat (first | refine blk_drewN ?_ _ | refine blk_drew ?_ | refine blk_alloc ?_ _)); exact BK207.out⟩, ⟨by repeat (first | (with_reducible first | exact HK.out | apply Kept.alloc | apply Kept.drewN | apply Kept.drew | refine Kept.setCell ?_ (.inr GW205.out) _ | refine Kept.setCell ?_ (.inr GW206.out) _ | refine Kept.setCell ?_ (.inr GW207.out) _) | exact HK.out)⟩, ⟨by repeat (first | (with_reducible first | exact HB.out | apply below_alloc | apply pw_below_drewN | apply below_drew1 | refine below_set ?_ GE205.out | refine below_set ?_ GE206.out | refine below_set ?_ GE207.out) | exact HB.out)⟩⟩
  case rest =>
    clear HC4
    try clear c1
    try clear p2
    try clear c3
    try clear c10
    try clear c10b0
    try clear c11
    try clear c11b0
    try clear c12
    try clear c13
    try clear c16
    try clear c17
    try clear c19
    try clear hcz14_0
    try clear hcz14_1
    try clear hcz18_0
    try clear hcz18_1
    try clear hcz20_0
    try clear hcz20_1
    try clear hfz14_0
    try clear hfz14_1
    try clear hfz18_0
    try clear hfz18_1
    try clear hfz20_0
    try clear hfz20_1
    obtain ⟨kq, x25_3, rfl, HA, HJ3, HO_206000, HO_206001, BK205, BK206, BK207, HK, HB⟩ := hcut
    cases kq with
    | zero => exact absurd HA.out (by simp [trickleref39_Fire.j0])
    | succ kj3 =>
      have H := HA.out
      clear HA
      simp only [trickleref39_Fire.j0] at H
      by_cases c22 : x25_3 = true
      · subst c22
        have H1 : (some (l0_0, l0_1, 0, 1)) = some (r1, r2, r3, r4) := by rw [if_pos rfl] at H; exact H
        clear H
        have H := H1
        clear H1
        simp only [Option.some.injEq, Prod.mk.injEq] at H
        obtain ⟨rfl, rfl, rfl, rfl⟩ := H
        have hnb23 := NB205_206.out
        have hnc23 := NB206_205.out
        have hnb24 := NB205_207.out
        have hnc24 := NB207_205.out
        have hcz25_0 : wc.cell? ⟨gb205, 0, none⟩ = some (.slice Ao5 l0_0.length co5) := (blk_cell BK205.out 0).trans rfl
        have hcz25_1 : wc.cell? ⟨gb205, 1, none⟩ = some (.slice Ao6 l0_1.length co6) := (blk_cell BK205.out 1).trans rfl
        have hfz25_0 := blk_frozen BK205.out 0
        have hfz25_1 := blk_frozen BK205.out 1
        have hnb26 := NB207_206.out
        have hnc26 := NB206_207.out
        have hcz27_0 : wc.cell? ⟨gb207, 0, none⟩ = some (.slice none 0 0) := (blk_cell BK207.out 0).trans rfl
        have hcz27_1 : wc.cell? ⟨gb207, 1, none⟩ = some (.slice none 0 0) := (blk_cell BK207.out 1).trans rfl
        have hfz27_0 := blk_frozen BK207.out 0
        have hfz27_1 := blk_frozen BK207.out 1
        go_wp2
        refine bodyPost_ret (results_ctt rfl _ _ gb207 44 #[.slice Ao5 l0_0.length co5, .slice Ao6 l0_1.length co6] (0, 0) _ rfl (by (with_reducible repeat (first | refine blk_drewN ?_ _ | refine blk_drew ?_ | refine blk_alloc ?_ _)); refine blk_put (cs := #[.slice Ao5 l0_0.length co5, .slice none 0 0]) ?_ 1 _ rfl; (with_reducible repeat (first | refine blk_drewN ?_ _ | refine blk_drew ?_ | refine blk_alloc ?_ _)); refine blk_put (cs := #[.slice none 0 0, .slice none 0 0]) ?_ 0 _ rfl; (with_reducible repeat (first | refine blk_drewN ?_ _ | refine blk_drew ?_ | refine blk_alloc ?_ _)); exact BK207.out) Try.underlying44 rfl (by kernel_rfl)) rfl ?_
        exact ⟨_, _, by first | rfl | (simp [errW_none, errW_some] <;> rfl) | (simp [*, errW_none, errW_some] <;> rfl), by (with_reducible repeat (first | apply Kd.R_alloc | apply Kd.R_drewN | apply Kd.R_drew)); exact Kd.R_mono (Kd.R_far (p := ⟨gb207, 1, none⟩) (Kd.R_far (p := ⟨gb207, 0, none⟩) (Kd.R_types HO_206000.out BK207.out (by decide)) (fun _ hk => hk.2) (.slice Ao5 l0_0.length co5)) (fun _ hk => hk.2) (.slice Ao6 l0_1.length co6)) (fun _ hk => hk.1), by (with_reducible repeat (first | apply Kd.R_alloc | apply Kd.R_drewN | apply Kd.R_drew)); exact Kd.R_mono (Kd.R_far (p := ⟨gb207, 1, none⟩) (Kd.R_far (p := ⟨gb207, 0, none⟩) (Kd.R_types HO_206001.out BK207.out (by decide)) (fun _ hk => hk.2) (.slice Ao5 l0_0.length co5)) (fun _ hk => hk.2) (.slice Ao6 l0_1.length co6)) (fun _ hk => hk.1), by repeat (first | (with_reducible first | exact HB.out | apply below_alloc | apply pw_below_drewN | apply below_drew1 | refine below_set ?_ GE205.out | refine below_set ?_ GE206.out | refine below_set ?_ GE207.out) | exact HB.out), by repeat (first | (with_reducible first | exact HK.out | apply Kept.alloc | apply Kept.drewN | apply Kept.drew | refine Kept.setCell ?_ (.inr GW205.out) _ | refine Kept.setCell ?_ (.inr GW206.out) _ | refine Kept.setCell ?_ (.inr GW207.out) _) | exact HK.out)⟩
      · replace c22 := Bool.eq_false_iff.mpr c22
        subst c22
        have H1 : (if 0 ≤ a1 then (if a1 < (l0_0.length : Int) then (if (rd l0_0 a1) = 0 then (some (l0_0, l0_1, 0, 5)) else (if a1 < (l0_1.length : Int) then ((trickleref39_Advance.f kj3 (rd l0_1 a1) (rd l0_0 a1) a2_0 a2_1).bind fun bt212 => (if bt212.2.2 = 0 then ((some (([] : List Int) : List Int)).bind fun y215 => (if y215.length + l0_1.length < 17592186044416 then ((some (y215 ++ l0_1 : List Int)).bind fun y218 => (if a1 < (y218.length : Int) then (some (l0_0, (y218.set (a1 : Int).toNat bt212.1), bt212.2.1, 0)) else (none))) else (none))) else (some (l0_0, l0_1, 0, bt212.2.2)))) else (none))) else (none)) else (none)) = some (r1, r2, r3, r4) := by rw [if_neg (show ¬ (false = true) by decide)] at H; exact H
        clear H
        have H := H1
        clear H1
        by_cases c28 : 0 ≤ a1
        · rw [if_pos c28] at H
          have c28b0 : decide (0 ≤ a1) = true := decide_eq_true c28
          clear c28
          by_cases c29 : a1 < (l0_0.length : Int)
          · rw [if_pos c29] at H
            have c29b0 : decide (a1 < (l0_0.length : Int)) = true := decide_eq_true c29
            clear c29
            by_cases c30 : (rd l0_0 a1) = 0
            · rw [if_pos c30] at H
              have c30b0 : ((rd l0_0 a1) == 0) = true := beq_iff_eq.mpr c30
              have c30b1 : ((rd l0_0 a1) != 0) = false := bne_eq_false_iff_eq.mpr c30
              clear c30
              simp only [Option.some.injEq, Prod.mk.injEq] at H
              obtain ⟨rfl, rfl, rfl, rfl⟩ := H
              have hnb31 := NB205_206.out
              have hnc31 := NB206_205.out
              have hnb32 := NB205_207.out
              have hnc32 := NB207_205.out
              have hcz33_0 : wc.cell? ⟨gb205, 0, none⟩ = some (.slice Ao5 l0_0.length co5) := (blk_cell BK205.out 0).trans rfl
              have hcz33_1 : wc.cell? ⟨gb205, 1, none⟩ = some (.slice Ao6 l0_1.length co6) := (blk_cell BK205.out 1).trans rfl
              have hfz33_0 := blk_frozen BK205.out 0
              have hfz33_1 := blk_frozen BK205.out 1
              have p209 : 0 ≤ (a1 : Int) := of_decide_eq_true (by first | (with_reducible assumption) | assumption)
              have q209 : a1 < (l0_0.length : Int) := of_decide_eq_true (by first | (with_reducible assumption) | assumption)
              obtain ⟨ad209, e209, hx209_0⟩ := Kd.at_int (Kd.R_reads' HO_206000.out).2.2 a1 p209 q209
              cases e209
              replace p209 := eq_true p209
              replace q209 := eq_true q209
              have hnb34 := NB207_206.out
              have hnc34 := NB206_207.out
              have hcz35_0 : wc.cell? ⟨gb207, 0, none⟩ = some (.slice none 0 0) := (blk_cell BK207.out 0).trans rfl
              have hcz35_1 : wc.cell? ⟨gb207, 1, none⟩ = some (.slice none 0 0) := (blk_cell BK207.out 1).trans rfl
              have hfz35_0 := blk_frozen BK207.out 0
              have hfz35_1 := blk_frozen BK207.out 1
              go_wp2
              refine bodyPost_ret (results_ctt rfl _ _ gb207 44 #[.slice (some ad209) l0_0.length co5, .slice Ao6 l0_1.length co6] (0, 0) _ rfl (by (with_reducible repeat (first | refine blk_drewN ?_ _ | refine blk_drew ?_ | refine blk_alloc ?_ _)); refine blk_put (cs := #[.slice (some ad209) l0_0.length co5, .slice none 0 0]) ?_ 1 _ rfl; (with_reducible repeat (first | refine blk_drewN ?_ _ | refine blk_drew ?_ | refine blk_alloc ?_ _)); refine blk_put (cs := #[.slice none 0 0, .slice none 0 0]) ?_ 0 _ rfl; (with_reducible repeat (first | refine blk_drewN ?_ _ | refine blk_drew ?_ | refine blk_alloc ?_ _)); exact BK207.out) Try.underlying44 rfl (by kernel_rfl)) rfl ?_
              exact ⟨_, _, by first | rfl | (simp [errW_none, errW_some] <;> rfl) | (simp [*, errW_none, errW_some] <;> rfl), by (with_reducible repeat (first | apply Kd.R_alloc | apply Kd.R_drewN | apply Kd.R_drew)); exact Kd.R_mono (Kd.R_far (p := ⟨gb207, 1, none⟩) (Kd.R_far (p := ⟨gb207, 0, none⟩) (Kd.R_types HO_206000.out BK207.out (by decide)) (fun _ hk => hk.2) (.slice (some ad209) l0_0.length co5)) (fun _ hk => hk.2) (.slice Ao6 l0_1.length co6)) (fun _ hk => hk.1), by (with_reducible repeat (first | apply Kd.R_alloc | apply Kd.R_drewN | apply Kd.R_drew)); exact Kd.R_mono (Kd.R_far (p := ⟨gb207, 1, none⟩) (Kd.R_far (p := ⟨gb207, 0, none⟩) (Kd.R_types HO_206001.out BK207.out (by decide)) (fun _ hk => hk.2) (.slice (some ad209) l0_0.length co5)) (fun _ hk => hk.2) (.slice Ao6 l0_1.length co6)) (fun _ hk => hk.1), by repeat (first | (with_reducible first | exact HB.out | apply below_alloc | apply pw_below_drewN | apply below_drew1 | refine below_set ?_ GE205.out | refine below_set ?_ GE206.out | refine below_set ?_ GE207.out) | exact HB.out), by repeat (first | (with_reducible first | exact HK.out | apply Kept.alloc | apply Kept.drewN | apply Kept.drew | refine Kept.setCell ?_ (.inr GW205.out) _ | refine Kept.setCell ?_ (.inr GW206.out) _ | refine Kept.setCell ?_ (.inr GW207.out) _) | exact HK.out)⟩
            · rw [if_neg c30] at H
              have c30b0 : ((rd l0_0 a1) == 0) = false := beq_eq_false_iff_ne.mpr c30
              have c30b1 : ((rd l0_0 a1) != 0) = true := bne_iff_ne.mpr c30
              by_cases c36 : a1 < (l0_1.length : Int)
              · rw [if_pos c36] at H
                have c36b0 : decide (a1 < (l0_1.length : Int)) = true := decide_eq_true c36
                clear c36
                replace H := Option.bind_eq_some_iff.mp H
                obtain ⟨⟨t212, t213, t214⟩, A370, H⟩ := H
                replace H : (if t214 = 0 then ((some (([] : List Int) : List Int)).bind fun y215 => (if y215.length + l0_1.length < 17592186044416 then ((some (y215 ++ l0_1 : List Int)).bind fun y218 => (if a1 < (y218.length : Int) then (some (l0_0, (y218.set (a1 : Int).toNat t212), t213, 0)) else (none))) else (none))) else (some (l0_0, l0_1, 0, t214))) = some (r1, r2, r3, r4) := H
                have A37 := Aside0.mk A370
                clear A370
                by_cases c38 : t214 = 0
                · rw [if_pos c38] at H
                  have c38b0 : (t214 == 0) = true := beq_iff_eq.mpr c38
                  have c38b1 : (t214 != 0) = false := bne_eq_false_iff_eq.mpr c38
                  clear c38
                  obtain ⟨y215, hy215⟩ : ∃ y_ : List Int, y_ = (([] : List Int)) := ⟨_, rfl⟩
                  replace H : (if y215.length + l0_1.length < 17592186044416 then ((some (y215 ++ l0_1 : List Int)).bind fun y218 => (if a1 < (y218.length : Int) then (some (l0_0, (y218.set (a1 : Int).toNat t212), t213, 0)) else (none))) else (none)) = some (r1, r2, r3, r4) := by first | (rw [hy215]; with_reducible exact H) | (have H2_ := (Option.bind_some _ _).symm.trans H; rw [hy215]; with_reducible exact H2_) | (have H2_ := (Option.bind_some _ _).symm.trans H; with_reducible exact H2_) | with_reducible exact H | (rw [hy215]; exact H) | exact H
                  have Ny215 := Aside0.mk hy215
                  clear hy215
                  by_cases c39 : y215.length + l0_1.length < 17592186044416
                  · rw [if_pos c39] at H
                    have LMc39 := Aside0.mk c39
                    clear c39
                    obtain ⟨y218, hy218⟩ : ∃ y_ : List Int, y_ = (y215 ++ l0_1) := ⟨_, rfl⟩
                    replace H : (if a1 < (y218.length : Int) then (some (l0_0, (y218.set (a1 : Int).toNat t212), t213, 0)) else (none)) = some (r1, r2, r3, r4) := by first | (rw [hy218]; with_reducible exact H) | (have H2_ := (Option.bind_some _ _).symm.trans H; rw [hy218]; with_reducible exact H2_) | (have H2_ := (Option.bind_some _ _).symm.trans H; with_reducible exact H2_) | with_reducible exact H | (rw [hy218]; exact H) | exact H
                    have Ny218 := Aside0.mk hy218
                    clear hy218
                    by_cases c40 : a1 < (y218.length : Int)
                    · rw [if_pos c40] at H
                      have c40b0 : decide (a1 < (y218.length : Int)) = true := decide_eq_true c40
                      clear c40
                      obtain ⟨y221, hy221⟩ : ∃ y_ : List Int, y_ = (y218.set (a1 : Int).toNat t212) := ⟨_, rfl⟩
                      replace H : (some (l0_0, y221, t213, 0)) = some (r1, r2, r3, r4) := by first | (rw [hy221]; with_reducible exact H) | (have H2_ := (Option.bind_some _ _).symm.trans H; rw [hy221]; with_reducible exact H2_) | (have H2_ := (Option.bind_some _ _).symm.trans H; with_reducible exact H2_) | with_reducible exact H | (rw [hy221]; exact H) | exact H
                      have Ny221 := Aside0.mk hy221
                      clear hy221
                      simp only [Option.some.injEq, Prod.mk.injEq] at H
                      obtain ⟨rfl, rfl, rfl, rfl⟩ := H
                      have hnb42 := NB205_206.out
                      have hnc42 := NB206_205.out
                      have hnb43 := NB205_207.out
                      have hnc43 := NB207_205.out
                      have hcz44_0 : wc.cell? ⟨gb205, 0, none⟩ = some (.slice Ao5 l0_0.length co5) := (blk_cell BK205.out 0).trans rfl
                      have hcz44_1 : wc.cell? ⟨gb205, 1, none⟩ = some (.slice Ao6 l0_1.length co6) := (blk_cell BK205.out 1).trans rfl
                      have hfz44_0 := blk_frozen BK205.out 0
                      have hfz44_1 := blk_frozen BK205.out 1
                      have p209 : 0 ≤ (a1 : Int) := of_decide_eq_true (by first | (with_reducible assumption) | assumption)
                      have q209 : a1 < (l0_0.length : Int) := of_decide_eq_true (by first | (with_reducible assumption) | assumption)
                      obtain ⟨ad209, e209, hx209_0⟩ := Kd.at_int (Kd.R_reads' HO_206000.out).2.2 a1 p209 q209
                      cases e209
                      replace p209 := eq_true p209
                      replace q209 := eq_true q209
                      try go_wp2
                      have n0_ := Aside0.mk (Kd.R_drew HO_206000.out)
                      have n1_ := Aside0.mk (Kd.R_drew HO_206001.out)
                      have n2_ := Aside0.mk (blk_drew BK205.out)
                      have n3_ := Aside0.mk (blk_drew BK206.out)
                      have n4_ := Aside0.mk (blk_drew BK207.out)
                      have n5_ := Aside0.mk (Kept.drew HK.out)
                      have n6_ := Aside0.mk (below_drew1 HB.out)
                      clear HO_206000
                      clear HO_206001
                      clear BK205
                      clear BK206
                      clear BK207
                      clear HK
                      clear HB
                      have HO_206000 := n0_
                      have HO_206001 := n1_
                      have BK205 := n2_
                      have BK206 := n3_
                      have BK207 := n4_
                      have HK := n5_
                      have HB := n6_
                      clear n0_ n1_ n2_ n3_ n4_ n5_ n6_
                      have p210 : 0 ≤ (a1 : Int) := of_decide_eq_true (by first | (with_reducible assumption) | assumption)
                      have q210 : a1 < (l0_1.length : Int) := of_decide_eq_true (by first | (with_reducible assumption) | assumption)
                      obtain ⟨ad210, e210, hx210_0⟩ := Kd.at_int (Kd.R_reads' HO_206001.out).2.2 a1 p210 q210
                      cases e210
                      replace p210 := eq_true p210
                      replace q210 := eq_true q210
                      have p211 : 0 ≤ (a1 : Int) := of_decide_eq_true (by first | (with_reducible assumption) | assumption)
                      have q211 : a1 < (l0_0.length : Int) := of_decide_eq_true (by first | (with_reducible assumption) | assumption)
                      obtain ⟨ad211, e211, hx211_0⟩ := Kd.at_int (Kd.R_reads' HO_206000.out).2.2 a1 p211 q211
                      obtain rfl : ad209 = ad211 := (by injection e211)
                      replace p211 := eq_true p211
                      replace q211 := eq_true q211
                      refine start_ (n := 19) (S := fun w' => w'.cell? ⟨gb205, 0, none⟩ = some (.slice (some ad209) l0_0.length co5) ∧ w'.cell? ⟨gb205, 1, none⟩ = some (.slice (some ad210) l0_1.length co6) ∧ w'.cell? ⟨gb206, 0, none⟩ = some (.int .i64 a2_0) ∧ w'.cell? ⟨gb206, 1, none⟩ = some (.int .i64 a2_1) ∧ w'.cell? (ad210.add (a1).toNat) = some (.int .i64 (rd l0_1 a1)) ∧ w'.cell? (ad209.add (a1).toNat) = some (.int .i64 (rd l0_0 a1))) (ds := []) #[false, false, false, false, false, false, false, false, false, false, false, false, false, false, false, false, false, false, false] (by kernel_rfl) rfl rfl ⟨(blk_cell BK205.out 0).trans rfl, (blk_cell BK205.out 1).trans rfl, (blk_cell BK206.out 0).trans rfl, (blk_cell BK206.out 1).trans rfl, hx210_0, hx211_0⟩ (fun hHeld => ?_); refine with_tabW trickleref39_Fire.tab5 trickleref39_Fire.bits5 (fun HT_ HW_ => ?_)
                      generalize wc.drew = w45 at HO_206000 HO_206001 BK205 BK206 BK207 HK HB hx210_0 hx211_0 hHeld ⊢
                      refine pure_ (i := 0) (N := some 35) (v := ?_) (a' := ?_) #[true, false, false, false, false, false, false, false, false, false, false, false, false, false, false, false, false, false, false] rfl rfl (any_of HT_.out (by kernel_rfl)) (fun _ _ _ h => h) (Or.inl ⟨by rfl, ?_⟩) ?_ ?_
                      rotate_left
                      · intro w'
                        go_simp
                        with_reducible rfl
                      rotate_left
                      · simp only [Act.put, List.setIfInBounds_toArray, List.set_cons_zero, List.set_cons_succ, i64_w, i32_w]
                        rfl
                      refine pure_ (i := 2) (N := some 37) (v := ?_) (a' := ?_) #[true, false, true, false, false, false, false, false, false, false, false, false, false, false, false, false, false, false, false] rfl rfl (any_of HT_.out (by kernel_rfl)) (fun _ _ _ h => h) (Or.inl ⟨by rfl, ?_⟩) ?_ ?_
                      rotate_left
                      · intro w'
                        go_simp
                        with_reducible rfl
                      rotate_left
                      · simp only [Act.put, List.setIfInBounds_toArray, List.set_cons_zero, List.set_cons_succ, i64_w, i32_w]
                        rfl
                      refine pure_ (i := 5) (N := some 40) (v := ?_) (a' := ?_) #[true, false, true, false, false, true, false, false, false, false, false, false, false, false, false, false, false, false, false] rfl rfl (any_of HT_.out (by kernel_rfl)) (fun _ _ _ h => h) (Or.inl ⟨by rfl, ?_⟩) ?_ ?_
                      rotate_left
                      · intro w'
                        go_simp
                        with_reducible rfl
                      rotate_left
                      · simp only [Act.put, List.setIfInBounds_toArray, List.set_cons_zero, List.set_cons_succ, i64_w, i32_w]
                        rfl
                      refine pure_ (i := 7) (N := some 42) (v := ?_) (a' := ?_) #[true, false, true, false, false, true, false, true, false, false, false, false, false, false, false, false, false, false, false] rfl rfl (any_of HT_.out (by kernel_rfl)) (fun _ _ _ h => h) (Or.inl ⟨by rfl, ?_⟩) ?_ ?_
                      rotate_left
                      · intro w'
                        go_simp
                        with_reducible rfl
                      rotate_left
                      · simp only [Act.put, List.setIfInBounds_toArray, List.set_cons_zero, List.set_cons_succ, i64_w, i32_w]
                        rfl
                      refine take_ (i := 1) (N := some 36) (v := ?_) (a' := ?_) #[true, true, true, false, false, true, false, true, false, false, false, false, false, false, false, false, false, false, false] rfl rfl (take_ofW HT_.out HW_.out (by kernel_rfl)) (fun _ _ _ h => h) (Or.inl ⟨by rfl, ?_⟩) hHeld ?_ ?_
                      rotate_left
                      · rintro w' ⟨s0, s1, s2, s3, s4, s5⟩
                        go_simp
                        with_reducible rfl
                      rotate_left
                      · simp only [Act.put, List.setIfInBounds_toArray, List.set_cons_zero, List.set_cons_succ, i64_w, i32_w]
                        rfl
                      refine pure_ (i := 3) (N := some 38) (v := ?_) (a' := ?_) #[true, true, true, true, false, true, false, true, false, false, false, false, false, false, false, false, false, false, false] rfl rfl (any_of HT_.out (by kernel_rfl)) (fun _ _ _ h => h) (Or.inl ⟨by rfl, ?_⟩) ?_ ?_
                      rotate_left
                      · intro w'
                        go_simp
                        with_reducible rfl
                      rotate_left
                      · simp only [Act.put, List.setIfInBounds_toArray, List.set_cons_zero, List.set_cons_succ, i64_w, i32_w]
                        rfl
                      refine take_ (i := 4) (N := some 39) (v := ?_) (a' := ?_) #[true, true, true, true, true, true, false, true, false, false, false, false, false, false, false, false, false, false, false] rfl rfl (take_ofW HT_.out HW_.out (by kernel_rfl)) (fun _ _ _ h => h) (Or.inl ⟨by rfl, ?_⟩) hHeld ?_ ?_
                      rotate_left
                      · rintro w' ⟨s0, s1, s2, s3, s4, s5⟩
                        go_simp
                        with_reducible rfl
                      rotate_left
                      · simp only [Act.put, List.setIfInBounds_toArray, List.set_cons_zero, List.set_cons_succ, i64_w, i32_w]
                        rfl
                      refine take_ (i := 6) (N := some 41) (v := ?_) (a' := ?_) #[true, true, true, true, true, true, true, true, false, false, false, false, false, false, false, false, false, false, false] rfl rfl (take_ofW HT_.out HW_.out (by kernel_rfl)) (fun _ _ _ h => h) (Or.inl ⟨by rfl, ?_⟩) hHeld ?_ ?_
                      rotate_left
                      · rintro w' ⟨s0, s1, s2, s3, s4, s5⟩
                        go_simp
                        with_reducible rfl
                      rotate_left
                      · simp only [Act.put, List.setIfInBounds_toArray, List.set_cons_zero, List.set_cons_succ, i64_w, i32_w]
                        rfl
                      refine pure_ (i := 8) (N := some 43) (v := ?_) (a' := ?_) #[true, true, true, true, true, true, true, true, true, false, false, false, false, false, false, false, false, false, false] rfl rfl (any_of HT_.out (by kernel_rfl)) (fun _ _ _ h => h) (Or.inl ⟨by rfl, ?_⟩) ?_ ?_
                      rotate_left
                      · intro w'
                        go_simp
                        with_reducible rfl
                      rotate_left
                      · simp only [Act.put, List.setIfInBounds_toArray, List.set_cons_zero, List.set_cons_succ, i64_w, i32_w]
                        rfl
                      refine take_ (i := 9) (N := some 44) (v := ?_) (a' := ?_) #[true, true, true, true, true, true, true, true, true, true, false, false, false, false, false, false, false, false, false] rfl rfl (take_ofW HT_.out HW_.out (by kernel_rfl)) (fun _ _ _ h => h) (Or.inl ⟨by rfl, ?_⟩) hHeld ?_ ?_
                      rotate_left
                      · rintro w' ⟨s0, s1, s2, s3, s4, s5⟩
                        go_simp
                        with_reducible rfl
                      rotate_left
                      · simp only [Act.put, List.setIfInBounds_toArray, List.set_cons_zero, List.set_cons_succ, i64_w, i32_w]
                        rfl
                      refine take_ (i := 10) (N := some 45) (v := ?_) (a' := ?_) #[true, true, true, true, true, true, true, true, true, true, true, false, false, false, false, false, false, false, false] rfl rfl (take_ofW HT_.out HW_.out (by kernel_rfl)) (fun _ _ _ h => h) (Or.inl ⟨by rfl, ?_⟩) hHeld ?_ ?_
                      rotate_left
                      · rintro w' ⟨s0, s1, s2, s3, s4, s5⟩
                        go_simp
                        with_reducible rfl
                      rotate_left
                      · simp only [Act.put, List.setIfInBounds_toArray, List.set_cons_zero, List.set_cons_succ, i64_w, i32_w]
                        rfl
                      refine one_ (i := 11) (N := some 46) #[true, true, true, true, true, true, true, true, true, true, true, true, false, false, false, false, false, false, false] rfl rfl (one_of HT_.out (by kernel_rfl)) (by decide) (fun K hK => ?_)
                      refine goes_ Try.func12 (by kernel_rfl) rfl #[.int .i64 (rd l0_1 a1), .int .i64 (rd l0_0 a1), .agg #[.int .i64 a2_0, .int .i64 a2_1]] (by rfl) rfl rfl (by (try simp only [List.map_toArray, List.map_cons, List.map_nil]); first | done | rfl | (simp only [List.length_drop, List.length_take]; rfl)) ?_
                      with_reducible refine (trickleref39_Advance.calls kj3 (rd l0_1 a1) (rd l0_0 a1) a2_0 a2_1 t212 t213 t214 _ A37.out).mono ?_
                      rintro e w46 ⟨rfl, hb⟩
                      have HS4_ := (hb.cell (World.block_lt_of_cell? _ _ (hHeld.2.2.2.2.1))).trans (hHeld.2.2.2.2.1)
                      have HS5_ := (hb.cell (World.block_lt_of_cell? _ _ (hHeld.2.2.2.2.2))).trans (hHeld.2.2.2.2.2)
                      refine ⟨_, rfl, ?_⟩
                      have n0_ := Aside0.mk (Kd.R_below (by (with_reducible repeat (first | apply Kd.R_alloc | apply Kd.R_drewN | apply Kd.R_drew)); exact HO_206000.out) hb)
                      have n1_ := Aside0.mk (Kd.R_below (by (with_reducible repeat (first | apply Kd.R_alloc | apply Kd.R_drewN | apply Kd.R_drew)); exact HO_206001.out) hb)
                      have n2_ := Aside0.mk (blk_below (g := gb205) (o := .cells #[.slice (some ad209) l0_0.length co5, .slice (some ad210) l0_1.length co6] 44 (0, 0)) (by (with_reducible repeat (first | refine blk_drewN ?_ _ | refine blk_drew ?_ | refine blk_alloc ?_ _)); exact BK205.out) hb)
                      have n3_ := Aside0.mk (blk_below (g := gb206) (o := .cells #[.int .i64 a2_0, .int .i64 a2_1] 23 (0, 0)) (by (with_reducible repeat (first | refine blk_drewN ?_ _ | refine blk_drew ?_ | refine blk_alloc ?_ _)); exact BK206.out) hb)
                      have n4_ := Aside0.mk (blk_below (g := gb207) (o := .cells #[.slice none 0 0, .slice none 0 0] 44 (0, 0)) (by (with_reducible repeat (first | refine blk_drewN ?_ _ | refine blk_drew ?_ | refine blk_alloc ?_ _)); exact BK207.out) hb)
                      have n5_ := Aside0.mk (Kept.below (S := (fun k_ => P0_0_ k_ ∨ P0_1_ k_)) (by repeat (first | (with_reducible first | exact HK.out | apply Kept.alloc | apply Kept.drewN | apply Kept.drew | refine Kept.setCell ?_ (.inr GW205.out) _ | refine Kept.setCell ?_ (.inr GW206.out) _ | refine Kept.setCell ?_ (.inr GW207.out) _) | exact HK.out)) hb)
                      have n6_ := Aside0.mk (below_step (by repeat (first | (with_reducible first | exact HB.out | apply below_alloc | apply pw_below_drewN | apply below_drew1 | refine below_set ?_ GE205.out | refine below_set ?_ GE206.out | refine below_set ?_ GE207.out) | exact HB.out)) hb)
                      clear HO_206000
                      clear HO_206001
                      clear BK205
                      clear BK206
                      clear BK207
                      clear HK
                      clear HB
                      have HO_206000 := n0_
                      have HO_206001 := n1_
                      have BK205 := n2_
                      have BK206 := n3_
                      have BK207 := n4_
                      have HK := n5_
                      have HB := n6_
                      clear n0_ n1_ n2_ n3_ n4_ n5_ n6_
                      (try clear hb)
                      (try clear hb2)
                      (try clear hk)
                      (try clear hi)
                      refine hK.out _ _ ⟨(blk_cell BK205.out 0).trans rfl, (blk_cell BK205.out 1).trans rfl, (blk_cell BK206.out 0).trans rfl, (blk_cell BK206.out 1).trans rfl, HS4_, HS5_⟩ (fun hHeld => ?_)
                      clear hK K
                      refine norm_ (a' := ?_) ?_ ?_
                      rotate_left
                      · show Act.put _ (some 46) _ = _
                        simp only [Act.put, List.setIfInBounds_toArray, List.set_cons_zero, List.set_cons_succ, i64_w, i32_w]
                        rfl
                      refine pure_ (i := 12) (N := some 34) (v := ?_) (a' := ?_) #[true, true, true, true, true, true, true, true, true, true, true, true, true, false, false, false, false, false, false] rfl rfl (any_of HT_.out (by kernel_rfl)) (fun _ _ _ h => h) (Or.inl ⟨by rfl, ?_⟩) ?_ ?_
                      rotate_left
                      · intro w'
                        go_simp
                        with_reducible rfl
                      rotate_left
                      · simp only [Act.put, List.setIfInBounds_toArray, List.set_cons_zero, List.set_cons_succ, i64_w, i32_w]
                        rfl
                      refine pure_ (i := 13) (N := some 47) (v := ?_) (a' := ?_) #[true, true, true, true, true, true, true, true, true, true, true, true, true, true, false, false, false, false, false] rfl rfl (any_of HT_.out (by kernel_rfl)) (fun _ _ _ h => h) (Or.inl ⟨by rfl, ?_⟩) ?_ ?_
                      rotate_left
                      · intro w'
                        go_simp
                        with_reducible rfl
                      rotate_left
                      · simp only [Act.put, List.setIfInBounds_toArray, List.set_cons_zero, List.set_cons_succ, i64_w, i32_w]
                        rfl
                      refine pure_ (i := 14) (N := some 48) (v := ?_) (a' := ?_) #[true, true, true, true, true, true, true, true, true, true, true, true, true, true, true, false, false, false, false] rfl rfl (any_of HT_.out (by kernel_rfl)) (fun _ _ _ h => h) (Or.inl ⟨by rfl, ?_⟩) ?_ ?_
                      rotate_left
                      · intro w'
                        go_simp
                        with_reducible rfl
                      rotate_left
                      · simp only [Act.put, List.setIfInBounds_toArray, List.set_cons_zero, List.set_cons_succ, i64_w, i32_w]
                        rfl
                      refine pure_ (i := 15) (N := some 49) (v := ?_) (a' := ?_) #[true, true, true, true, true, true, true, true, true, true, true, true, true, true, true, true, false, false, false] rfl rfl (any_of HT_.out (by kernel_rfl)) (fun _ _ _ h => h) (Or.inl ⟨by rfl, ?_⟩) ?_ ?_
                      rotate_left
                      · intro w'
                        go_simp
                        with_reducible rfl
                      rotate_left
                      · simp only [Act.put, List.setIfInBounds_toArray, List.set_cons_zero, List.set_cons_succ, i64_w, i32_w]
                        rfl
                      refine pure_ (i := 16) (N := some 9) (v := ?_) (a' := ?_) #[true, true, true, true, true, true, true, true, true, true, true, true, true, true, true, true, true, false, false] rfl rfl (any_of HT_.out (by kernel_rfl)) (fun _ _ _ h => h) (Or.inl ⟨by rfl, ?_⟩) ?_ ?_
                      rotate_left
                      · intro w'
                        go_simp
                        with_reducible rfl
                      rotate_left
                      · simp only [Act.put, List.setIfInBounds_toArray, List.set_cons_zero, List.set_cons_succ, i64_w, i32_w]
                        rfl
                      refine pure_ (i := 17) (N := some 10) (v := ?_) (a' := ?_) #[true, true, true, true, true, true, true, true, true, true, true, true, true, true, true, true, true, true, false] rfl rfl (any_of HT_.out (by kernel_rfl)) (fun _ _ _ h => h) (Or.inl ⟨by rfl, ?_⟩) ?_ ?_
                      rotate_left
                      · intro w'
                        go_simp
                        with_reducible rfl
                      rotate_left
                      · simp only [Act.put, List.setIfInBounds_toArray, List.set_cons_zero, List.set_cons_succ, i64_w, i32_w]
                        rfl
                      refine pure_ (i := 18) (N := some 11) (v := ?_) (a' := ?_) #[true, true, true, true, true, true, true, true, true, true, true, true, true, true, true, true, true, true, true] rfl rfl (any_of HT_.out (by kernel_rfl)) (fun _ _ _ h => h) (Or.inl ⟨by rfl, ?_⟩) ?_ ?_
                      rotate_left
                      · intro w'
                        go_simp
                        with_reducible rfl
                      rotate_left
                      · simp only [Act.put, List.setIfInBounds_toArray, List.set_cons_zero, List.set_cons_succ, i64_w, i32_w]
                        rfl
                      refine done_ (done_of HT_.out (by kernel_rfl)) ?_
                      try go_wp2_with (first | ((with_reducible refine gate_dst (N := 54) rfl ?_); (try (refine gate_guard (by rfl) ?_; dsimp only)); refine Kd.R_lit (Kd.int .i64) _ 2 ?hg (N := 54) ?hd (xs := ([] : List Int)) (inner := []) (ok := fun _ => True) (okp := fun _ => True) ?hr ?hp (fun _ hk => hk) trivial (Below.refl _ _) (Nat.le_refl _) (by simp) ?_; (case hd => rfl); (case hg => rfl); (case hr => first | (go_simp; done) | (go_simp; rfl)); (case hp => exact (Reps.none _ _)); intro v216 w47 ho48 hb hg_ hnew_; clear hg_ hnew_; (first | rw [← Ny215.out] at ho48 | (simp only [Int.reduceToNat] at ho48; rw [← Ny215.out] at ho48)); have n0_ := Aside0.mk (Kd.R_below (by (with_reducible repeat (first | apply Kd.R_alloc | apply Kd.R_drewN | apply Kd.R_drew)); exact HO_206000.out) hb); have n1_ := Aside0.mk (Kd.R_elder' (by (with_reducible repeat (first | apply Kd.R_alloc | apply Kd.R_drewN | apply Kd.R_drew)); exact HO_206001.out) (Kd.R_base ho48) hb); have n2_ := Aside0.mk (Kd.R_lower (Kd.R_new' (Kd.R_newM (M := fun k_ => ((P0_0_ k_ ∨ P0_1_ k_) ∨ w.heap.size ≤ k_)) ho48 (by first | exact HK.out.1 | exact (show Kept w _ (fun k_ => P0_0_ k_ ∨ P0_1_ k_) from by repeat (first | (with_reducible first | exact HK.out | apply Kept.alloc | apply Kept.drewN | apply Kept.drew | refine Kept.setCell ?_ (.inr GW205.out) _ | refine Kept.setCell ?_ (.inr GW206.out) _ | refine Kept.setCell ?_ (.inr GW207.out) _) | exact HK.out)).1) (fun k_ h_ => .inr h_)) (Kd.R_lt (by (with_reducible repeat (first | apply Kd.R_alloc | apply Kd.R_drewN | apply Kd.R_drew)); exact HO_206001.out))) (below_size (by repeat (first | (with_reducible first | exact HB.out | apply below_alloc | apply pw_below_drewN | apply below_drew1 | refine below_set ?_ GE205.out | refine below_set ?_ GE206.out | refine below_set ?_ GE207.out) | exact HB.out)))); have n3_ := Aside0.mk (blk_below (g := gb205) (o := .cells #[.slice (some ad209) l0_0.length co5, .slice (some ad210) l0_1.length co6] 44 (0, 0)) (by (with_reducible repeat (first | refine blk_drewN ?_ _ | refine blk_drew ?_ | refine blk_alloc ?_ _)); exact BK205.out) hb); have n4_ := Aside0.mk (blk_below (g := gb206) (o := .cells #[.int .i64 a2_0, .int .i64 a2_1] 23 (0, 0)) (by (with_reducible repeat (first | refine blk_drewN ?_ _ | refine blk_drew ?_ | refine blk_alloc ?_ _)); exact BK206.out) hb); have n5_ := Aside0.mk (blk_below (g := gb207) (o := .cells #[.slice none 0 0, .slice none 0 0] 44 (0, 0)) (by (with_reducible repeat (first | refine blk_drewN ?_ _ | refine blk_drew ?_ | refine blk_alloc ?_ _)); exact BK207.out) hb); have n6_ := Aside0.mk (Kept.below (S := (fun k_ => P0_0_ k_ ∨ P0_1_ k_)) (by repeat (first | (with_reducible first | exact HK.out | apply Kept.alloc | apply Kept.drewN | apply Kept.drew | refine Kept.setCell ?_ (.inr GW205.out) _ | refine Kept.setCell ?_ (.inr GW206.out) _ | refine Kept.setCell ?_ (.inr GW207.out) _) | exact HK.out)) hb); have n7_ := Aside0.mk (below_step (by repeat (first | (with_reducible first | exact HB.out | apply below_alloc | apply pw_below_drewN | apply below_drew1 | refine below_set ?_ GE205.out | refine below_set ?_ GE206.out | refine below_set ?_ GE207.out) | exact HB.out)) hb); clear HO_206000; clear HO_206001; clear BK205; clear BK206; clear BK207; clear HK; clear HB; have HO_206000 := n0_; have HO_206001 := n1_; have HO217 := n2_; have BK205 := n3_; have BK206 := n4_; have BK207 := n5_; have HK := n6_; have HB := n7_; clear n0_ n1_ n2_ n3_ n4_ n5_ n6_ n7_; clear hb ho48; have hcz49_0 : w47.cell? ⟨gb205, 0, none⟩ = some (.slice (some ad209) l0_0.length co5) := (blk_cell BK205.out 0).trans rfl; have hcz49_1 : w47.cell? ⟨gb205, 1, none⟩ = some (.slice (some ad210) l0_1.length co6) := (blk_cell BK205.out 1).trans rfl; have hfz49_0 := blk_frozen BK205.out 0; have hfz49_1 := blk_frozen BK205.out 1) | ((with_reducible refine gate_builtin (b := .append) (xs := #[.tmp 54, .tmp 56]) rfl ?_); (try (refine gate_guard (by rfl) ?_; dsimp only)); at_builtin; refine Kd.R_append_rows (Kd.int .i64) (w0 := w0) w0.heap.size rfl (.tmp 54) (.tmp 56) 34 2 (.int .i64 0) 8 rfl Try.underlying34 info2 rfl (by decide) (by omega) v216 y215 l0_1 _ _ _ (fun k_ => ((P0_0_ k_ ∨ P0_1_ k_) ∨ w.heap.size ≤ k_) ∧ some k_ ≠ (.slice (some ad210) l0_1.length co6 : Value).ownBlock) (fun _ => False) rfl rfl ?aO ?aR (fun _ _ h => h) (fun _ h => h.elim) ?aF ?aB ?aS ?aL ?_; (case aR => repeat (first | exact (Kd.R_reads' HO_206001.out).2.2 | (with_reducible refine Kd.C_alloc ?_ _) | (with_reducible refine Kd.C_drewN ?_ _) | (with_reducible refine Kd.C_drew ?_))); (case aB => exact (by repeat (first | (with_reducible first | exact HB.out | apply below_alloc | apply pw_below_drewN | apply below_drew1 | refine below_set ?_ GE205.out | refine below_set ?_ GE206.out | refine below_set ?_ GE207.out) | exact HB.out))); (case aF => exact (fun k_ hk => ⟨(.inr (Nat.le_trans (by first | exact HK.out.1 | exact (show Kept w _ (fun k_ => P0_0_ k_ ∨ P0_1_ k_) from by repeat (first | (with_reducible first | exact HK.out | apply Kept.alloc | apply Kept.drewN | apply Kept.drew | refine Kept.setCell ?_ (.inr GW205.out) _ | refine Kept.setCell ?_ (.inr GW206.out) _ | refine Kept.setCell ?_ (.inr GW207.out) _) | exact HK.out)).1) hk)), Kd.fresh' (Kd.R_lt (by (with_reducible repeat (first | apply Kd.R_alloc | apply Kd.R_drewN | apply Kd.R_drew)); exact HO_206001.out)) k_ hk⟩)); (case aO => exact (by (with_reducible repeat (first | apply Kd.R_alloc | apply Kd.R_drewN | apply Kd.R_drew)); exact Kd.R_mono HO217.out (fun _ hk => ⟨hk.1.1, hk.2⟩))); (case aS => exact (below_size (by repeat (first | (with_reducible first | exact HB.out | apply below_alloc | apply pw_below_drewN | apply below_drew1 | refine below_set ?_ GE205.out | refine below_set ?_ GE206.out | refine below_set ?_ GE207.out) | exact HB.out)))); (case aL => have := LMc39.out; omega); intro v219 w50 ho hb hg hat; rw [← Ny218.out] at ho; have n0_ := Aside0.mk (Kd.R_over' (by (with_reducible repeat (first | apply Kd.R_alloc | apply Kd.R_drewN | apply Kd.R_drew)); exact HO_206000.out) (Kd.R_typed (by (with_reducible repeat (first | apply Kd.R_alloc | apply Kd.R_drewN | apply Kd.R_drew)); exact HO217.out)) (by decide) hg); have n1_ := Aside0.mk (Kd.R_after (ok := (fun k_ => ((P0_0_ k_ ∨ P0_1_ k_) ∨ w.heap.size ≤ k_))) (by (with_reducible repeat (first | apply Kd.R_alloc | apply Kd.R_drewN | apply Kd.R_drew)); exact HO_206001.out) hg hat); have n2_ := Aside0.mk (blk_grown (g := gb205) (o := .cells #[.slice (some ad209) l0_0.length co5, .slice (some ad210) l0_1.length co6] 44 (0, 0)) (by (with_reducible repeat (first | refine blk_drewN ?_ _ | refine blk_drew ?_ | refine blk_alloc ?_ _)); exact BK205.out) hg (Kd.R_ne HO217.out BK205.out (by decide))); have n3_ := Aside0.mk (blk_grown (g := gb206) (o := .cells #[.int .i64 a2_0, .int .i64 a2_1] 23 (0, 0)) (by (with_reducible repeat (first | refine blk_drewN ?_ _ | refine blk_drew ?_ | refine blk_alloc ?_ _)); exact BK206.out) hg (Kd.R_ne HO217.out BK206.out (by decide))); have n4_ := Aside0.mk (blk_grown (g := gb207) (o := .cells #[.slice none 0 0, .slice none 0 0] 44 (0, 0)) (by (with_reducible repeat (first | refine blk_drewN ?_ _ | refine blk_drew ?_ | refine blk_alloc ?_ _)); exact BK207.out) hg (Kd.R_ne HO217.out BK207.out (by decide))); have n5_ := Aside0.mk (hb); have n6_ := Aside0.mk (Kept.of_grown (S := (fun k_ => P0_0_ k_ ∨ P0_1_ k_)) hg (by repeat (first | (with_reducible first | exact HK.out | apply Kept.alloc | apply Kept.drewN | apply Kept.drew | refine Kept.setCell ?_ (.inr GW205.out) _ | refine Kept.setCell ?_ (.inr GW206.out) _ | refine Kept.setCell ?_ (.inr GW207.out) _) | exact HK.out)) (fun k_ e_ => (HO217.out.1 k_ e_).1.1)); have n7_ := Aside0.mk (ho); clear HO_206000; clear HO_206001; clear BK205; clear BK206; clear BK207; clear HB; clear HK; clear HO217; have HO_206000 := n0_; have HO_206001 := n1_; have BK205 := n2_; have BK206 := n3_; have BK207 := n4_; have HB := n5_; have HK := n6_; have HO220 := n7_; clear n0_ n1_ n2_ n3_ n4_ n5_ n6_ n7_; clear ho hb hg hat; obtain ⟨Ao51, co51, eo51⟩ := Kd.R_slice HO220.out; subst eo51; have hcz52_0 : w50.cell? ⟨gb205, 0, none⟩ = some (.slice (some ad209) l0_0.length co5) := (blk_cell BK205.out 0).trans rfl; have hcz52_1 : w50.cell? ⟨gb205, 1, none⟩ = some (.slice (some ad210) l0_1.length co6) := (blk_cell BK205.out 1).trans rfl; have hfz52_0 := blk_frozen BK205.out 0; have hfz52_1 := blk_frozen BK205.out 1) | ((with_reducible refine gate_store (t := 34) (p := 58) rfl ?_); refine store_event (t := 34) (p := 58) (v := ?vo_w53) (w1 := (w50.setCell ⟨gb205, 1, none⟩ (.slice Ao51 y218.length co51))) ?hg ?ho ?hn ?hr ?_; (case ho => rfl); (case hg => rfl); (case hn => rfl); (case hr => first | (go_simp; done) | (go_simp; rfl)); intro w53 hw; have n0_ : Aside0 (Kd.R (Kd.int .i64) 3 w53 w0.heap.size (fun k_ => ((P0_0_ k_ ∨ P0_1_ k_) ∨ w.heap.size ≤ k_)) (.slice (some ad209) l0_0.length co5) l0_0) := ⟨(by rw [hw]; exact (by (with_reducible repeat (first | apply Kd.R_alloc | apply Kd.R_drewN | apply Kd.R_drew)); exact Kd.R_mono (Kd.R_far (p := ⟨gb205, 1, none⟩) (Kd.R_types HO_206000.out BK205.out (by decide)) (fun _ hk => hk.2) (.slice Ao51 y218.length co51)) (fun _ hk => hk.1)))⟩; have n1_ : Aside0 (Kd.R (Kd.int .i64) 2 w53 w0.heap.size (fun k_ => ((P0_0_ k_ ∨ P0_1_ k_) ∨ w.heap.size ≤ k_) ∧ some k_ ≠ (.slice Ao51 y218.length co51 : Value).ownBlock) (.slice (some ad210) l0_1.length co6) l0_1) := ⟨(by rw [hw]; exact (by (with_reducible repeat (first | apply Kd.R_alloc | apply Kd.R_drewN | apply Kd.R_drew)); exact Kd.R_mono (Kd.R_far (p := ⟨gb205, 1, none⟩) (Kd.R_types HO_206001.out BK205.out (by decide)) (fun _ hk => hk.2) (.slice Ao51 y218.length co51)) (fun _ hk => ⟨hk.1.1, hk.1.2⟩)))⟩; have n2_ : Aside0 (Kd.R (Kd.int .i64) 2 w53 w0.heap.size (fun k_ => ((P0_0_ k_ ∨ P0_1_ k_) ∨ w.heap.size ≤ k_) ∧ some k_ ≠ (.slice (some ad210) l0_1.length co6 : Value).ownBlock) (.slice Ao51 y218.length co51) y218) := ⟨(by rw [hw]; exact (by (with_reducible repeat (first | apply Kd.R_alloc | apply Kd.R_drewN | apply Kd.R_drew)); exact Kd.R_mono (Kd.R_far (p := ⟨gb205, 1, none⟩) (Kd.R_types HO220.out BK205.out (by decide)) (fun _ hk => hk.2) (.slice Ao51 y218.length co51)) (fun _ hk => ⟨hk.1.1, hk.1.2⟩)))⟩; have n3_ : Aside0 (w53.heap[gb205]? = some (.cells #[.slice (some ad209) l0_0.length co5, .slice Ao51 y218.length co51] 44 (0, 0))) := ⟨(by rw [hw]; exact (by (with_reducible repeat (first | refine blk_drewN ?_ _ | refine blk_drew ?_ | refine blk_alloc ?_ _)); refine blk_put (cs := #[.slice (some ad209) l0_0.length co5, .slice (some ad210) l0_1.length co6]) ?_ 1 _ rfl; (with_reducible repeat (first | refine blk_drewN ?_ _ | refine blk_drew ?_ | refine blk_alloc ?_ _)); exact BK205.out))⟩; have n4_ : Aside0 (w53.heap[gb206]? = some (.cells #[.int .i64 a2_0, .int .i64 a2_1] 23 (0, 0))) := ⟨(by rw [hw]; exact (by (with_reducible repeat (first | refine blk_drewN ?_ _ | refine blk_drew ?_ | refine blk_alloc ?_ _)); refine blk_far ?_ NB206_205.out _; (with_reducible repeat (first | refine blk_drewN ?_ _ | refine blk_drew ?_ | refine blk_alloc ?_ _)); exact BK206.out))⟩; have n5_ : Aside0 (w53.heap[gb207]? = some (.cells #[.slice none 0 0, .slice none 0 0] 44 (0, 0))) := ⟨(by rw [hw]; exact (by (with_reducible repeat (first | refine blk_drewN ?_ _ | refine blk_drew ?_ | refine blk_alloc ?_ _)); refine blk_far ?_ NB207_205.out _; (with_reducible repeat (first | refine blk_drewN ?_ _ | refine blk_drew ?_ | refine blk_alloc ?_ _)); exact BK207.out))⟩; have n6_ : Aside0 (Kept w w53 (fun k_ => P0_0_ k_ ∨ P0_1_ k_)) := ⟨(by rw [hw]; exact (by repeat (first | (with_reducible first | exact HK.out | apply Kept.alloc | apply Kept.drewN | apply Kept.drew | refine Kept.setCell ?_ (.inr GW205.out) _ | refine Kept.setCell ?_ (.inr GW206.out) _ | refine Kept.setCell ?_ (.inr GW207.out) _) | exact HK.out)))⟩; have n7_ : Aside0 (Below w0.heap.size w0 w53) := ⟨(by rw [hw]; exact (by repeat (first | (with_reducible first | exact HB.out | apply below_alloc | apply pw_below_drewN | apply below_drew1 | refine below_set ?_ GE205.out | refine below_set ?_ GE206.out | refine below_set ?_ GE207.out) | exact HB.out)))⟩; clear hw; clear HO_206000; clear HO_206001; clear HO220; clear BK205; clear BK206; clear BK207; clear HK; clear HB; have HO_206000 := n0_; have HO_206001 := n1_; have HO220 := n2_; have BK205 := n3_; have BK206 := n4_; have BK207 := n5_; have HK := n6_; have HB := n7_; clear n0_ n1_ n2_ n3_ n4_ n5_ n6_ n7_; have hcz54_0 : w53.cell? ⟨gb205, 0, none⟩ = some (.slice (some ad209) l0_0.length co5) := (blk_cell BK205.out 0).trans rfl; have hcz54_1 : w53.cell? ⟨gb205, 1, none⟩ = some (.slice Ao51 y218.length co51) := (blk_cell BK205.out 1).trans rfl; have hfz54_0 := blk_frozen BK205.out 0; have hfz54_1 := blk_frozen BK205.out 1; have p41 : 0 ≤ (a1 : Int) := of_decide_eq_true (by first | (with_reducible assumption) | assumption); have q41 : (a1 : Int) < ((y218.length : Int) : Int) := of_decide_eq_true (by first | (with_reducible assumption) | assumption); obtain ⟨go41, co41, eo41, gb41, gl41, cl41, HG41⟩ := Kd.R_form HO220.out (by omega); (first | cases eo41 | (injection eo41 with ea_ en_ ec_; (first | subst ea_ | (injection ea_ with ea_; subst ea_)); subst ec_; clear en_)); have GB41 := Aside0.mk gb41; have GG41 := Aside0.mk HG41; clear gb41 gl41 HG41; have HMgo41 := Aside0.mk (show ((P0_0_ go41 ∨ P0_1_ go41) ∨ w.heap.size ≤ go41) from (HO220.out.1 _ rfl).1); obtain ⟨hx41_0, hf41_0⟩ := Kd.R_celln 0 HO220.out (a1 : Int) p41 q41; replace p41 := eq_true p41; replace q41 := eq_true q41; obtain ⟨hy55_, hz55_⟩ := Kd.R_celln 0 HO220.out (a1 : Int) (of_decide_eq_true (by first | (with_reducible assumption) | assumption)) (of_decide_eq_true (by first | (with_reducible assumption) | assumption)); have HP55 := Kd.R_putg HO220.out (a1 : Int) t212) | ((with_reducible refine gate_store (t := 2) (p := 63) rfl ?_); refine store_event (t := 2) (p := 63) (v := ?vo_w56) (w1 := (w53.setCell ⟨go41, (a1 : Int).toNat, none⟩ (.int .i64 t212))) ?hg ?ho ?hn ?hr ?_; (case ho => rfl); (case hg => rfl); (case hn => rfl); (case hr => first | (go_simp; done) | (go_simp; rfl)); intro w56 hw; have hg : w53.grownBy w56 (some go41) := (by rw [hw]; exact HP55.2); have hp_ : Kd.R (Kd.int .i64) 2 w56 w0.heap.size (fun k_ => ((P0_0_ k_ ∨ P0_1_ k_) ∨ w.heap.size ≤ k_) ∧ some k_ ≠ (.slice (some ad210) l0_1.length co6 : Value).ownBlock) (.slice (some ⟨go41, 0, none⟩) y218.length co51) y221 := (by rw [hw, Ny221.out]; exact HP55.1); clear HP55; have n0_ := Aside0.mk (Kd.R_over' (v := (.slice (some ⟨go41, 0, none⟩) y218.length co51)) (by (with_reducible repeat (first | apply Kd.R_alloc | apply Kd.R_drewN | apply Kd.R_drew)); exact HO_206000.out) (Kd.R_typed HO220.out) (by decide) hg); have n1_ := Aside0.mk (Kd.R_after (v := (.slice (some ⟨go41, 0, none⟩) y218.length co51)) (v1 := (.slice (some ⟨go41, 0, none⟩) y218.length co51)) (ok := (fun k_ => ((P0_0_ k_ ∨ P0_1_ k_) ∨ w.heap.size ≤ k_))) (by (with_reducible repeat (first | apply Kd.R_alloc | apply Kd.R_drewN | apply Kd.R_drew)); exact HO_206001.out) hg (.inl rfl)); have n2_ := Aside0.mk (blk_grown (g := gb205) (o := .cells #[.slice (some ad209) l0_0.length co5, .slice (some ⟨go41, 0, none⟩) y218.length co51] 44 (0, 0)) (by (with_reducible repeat (first | refine blk_drewN ?_ _ | refine blk_drew ?_ | refine blk_alloc ?_ _)); exact BK205.out) hg (Kd.R_ne HO220.out BK205.out (by decide))); have n3_ := Aside0.mk (blk_grown (g := gb206) (o := .cells #[.int .i64 a2_0, .int .i64 a2_1] 23 (0, 0)) (by (with_reducible repeat (first | refine blk_drewN ?_ _ | refine blk_drew ?_ | refine blk_alloc ?_ _)); exact BK206.out) hg (Kd.R_ne HO220.out BK206.out (by decide))); have n4_ := Aside0.mk (blk_grown (g := gb207) (o := .cells #[.slice none 0 0, .slice none 0 0] 44 (0, 0)) (by (with_reducible repeat (first | refine blk_drewN ?_ _ | refine blk_drew ?_ | refine blk_alloc ?_ _)); exact BK207.out) hg (Kd.R_ne HO220.out BK207.out (by decide))); have n5_ := Aside0.mk (hp_); have n6_ := Aside0.mk ((by rw [hw]; exact below_set (HB.out) GB41.out : Below w0.heap.size w0 w56)); have n7_ := Aside0.mk (Kept.of_grown (S := (fun k_ => P0_0_ k_ ∨ P0_1_ k_)) hg (by repeat (first | (with_reducible first | exact HK.out | apply Kept.alloc | apply Kept.drewN | apply Kept.drew | refine Kept.setCell ?_ (.inr GW205.out) _ | refine Kept.setCell ?_ (.inr GW206.out) _ | refine Kept.setCell ?_ (.inr GW207.out) _) | exact HK.out)) (fun k_ e_ => (HO220.out.1 k_ e_).1)); clear HO_206000; clear HO_206001; clear BK205; clear BK206; clear BK207; clear HO220; clear HB; clear HK; have HO_206000 := n0_; have HO_206001 := n1_; have BK205 := n2_; have BK206 := n3_; have BK207 := n4_; have HO220 := n5_; have HB := n6_; have HK := n7_; clear n0_ n1_ n2_ n3_ n4_ n5_ n6_ n7_; clear hg hw hp_; have hcz57_0 : w56.cell? ⟨gb205, 0, none⟩ = some (.slice (some ad209) l0_0.length co5) := (blk_cell BK205.out 0).trans rfl; have hcz57_1 : w56.cell? ⟨gb205, 1, none⟩ = some (.slice (some ⟨go41, 0, none⟩) y218.length co51) := (blk_cell BK205.out 1).trans rfl; have hfz57_0 := blk_frozen BK205.out 0; have hfz57_1 := blk_frozen BK205.out 1; have hnb58 := NB207_206.out; have hnc58 := NB206_207.out; have hcz59_0 : w56.cell? ⟨gb207, 0, none⟩ = some (.slice none 0 0) := (blk_cell BK207.out 0).trans rfl; have hcz59_1 : w56.cell? ⟨gb207, 1, none⟩ = some (.slice none 0 0) := (blk_cell BK207.out 1).trans rfl; have hfz59_0 := blk_frozen BK207.out 0; have hfz59_1 := blk_frozen BK207.out 1))
                      refine bodyPost_ret (results_ctt rfl _ _ gb207 44 #[.slice (some ad209) l0_0.length co5, .slice (some ⟨go41, 0, none⟩) y218.length co51] (0, 0) _ rfl (by (with_reducible repeat (first | refine blk_drewN ?_ _ | refine blk_drew ?_ | refine blk_alloc ?_ _)); refine blk_put (cs := #[.slice (some ad209) l0_0.length co5, .slice none 0 0]) ?_ 1 _ rfl; (with_reducible repeat (first | refine blk_drewN ?_ _ | refine blk_drew ?_ | refine blk_alloc ?_ _)); refine blk_put (cs := #[.slice none 0 0, .slice none 0 0]) ?_ 0 _ rfl; (with_reducible repeat (first | refine blk_drewN ?_ _ | refine blk_drew ?_ | refine blk_alloc ?_ _)); exact BK207.out) Try.underlying44 rfl (by kernel_rfl)) rfl ?_
                      exact ⟨_, _, by first | rfl | (simp [errW_none, errW_some] <;> rfl) | (simp [*, errW_none, errW_some] <;> rfl), by (with_reducible repeat (first | apply Kd.R_alloc | apply Kd.R_drewN | apply Kd.R_drew)); exact Kd.R_mono (Kd.R_far (p := ⟨gb207, 1, none⟩) (Kd.R_far (p := ⟨gb207, 0, none⟩) (Kd.R_types HO_206000.out BK207.out (by decide)) (fun _ hk => hk.2) (.slice (some ad209) l0_0.length co5)) (fun _ hk => hk.2) (.slice (some ⟨go41, 0, none⟩) y218.length co51)) (fun _ hk => hk.1), by (with_reducible repeat (first | apply Kd.R_alloc | apply Kd.R_drewN | apply Kd.R_drew)); exact Kd.R_mono (Kd.R_far (p := ⟨gb207, 1, none⟩) (Kd.R_far (p := ⟨gb207, 0, none⟩) (Kd.R_types HO220.out BK207.out (by decide)) (fun _ hk => hk.2) (.slice (some ad209) l0_0.length co5)) (fun _ hk => hk.2) (.slice (some ⟨go41, 0, none⟩) y218.length co51)) (fun _ hk => hk.1.1), by repeat (first | (with_reducible first | exact HB.out | apply below_alloc | apply pw_below_drewN | apply below_drew1 | refine below_set ?_ GE205.out | refine below_set ?_ GE206.out | refine below_set ?_ GE207.out) | exact HB.out), by repeat (first | (with_reducible first | exact HK.out | apply Kept.alloc | apply Kept.drewN | apply Kept.drew | refine Kept.setCell ?_ (.inr GW205.out) _ | refine Kept.setCell ?_ (.inr GW206.out) _ | refine Kept.setCell ?_ (.inr GW207.out) _) | exact HK.out)⟩
                    · rw [if_neg c40] at H
                      exact absurd H (by simp)
                  · rw [if_neg c39] at H
                    exact absurd H (by simp)
                · rw [if_neg c38] at H
                  have c38b0 : (t214 == 0) = false := beq_eq_false_iff_ne.mpr c38
                  have c38b1 : (t214 != 0) = true := bne_iff_ne.mpr c38
                  simp only [Option.some.injEq, Prod.mk.injEq] at H
                  obtain ⟨rfl, rfl, rfl, rfl⟩ := H
                  have hnb60 := NB205_206.out
                  have hnc60 := NB206_205.out
                  have hnb61 := NB205_207.out
                  have hnc61 := NB207_205.out
                  have hcz62_0 : wc.cell? ⟨gb205, 0, none⟩ = some (.slice Ao5 l0_0.length co5) := (blk_cell BK205.out 0).trans rfl
                  have hcz62_1 : wc.cell? ⟨gb205, 1, none⟩ = some (.slice Ao6 l0_1.length co6) := (blk_cell BK205.out 1).trans rfl
                  have hfz62_0 := blk_frozen BK205.out 0
                  have hfz62_1 := blk_frozen BK205.out 1
                  have p209 : 0 ≤ (a1 : Int) := of_decide_eq_true (by first | (with_reducible assumption) | assumption)
                  have q209 : a1 < (l0_0.length : Int) := of_decide_eq_true (by first | (with_reducible assumption) | assumption)
                  obtain ⟨ad209, e209, hx209_0⟩ := Kd.at_int (Kd.R_reads' HO_206000.out).2.2 a1 p209 q209
                  cases e209
                  replace p209 := eq_true p209
                  replace q209 := eq_true q209
                  try go_wp2
                  have n0_ := Aside0.mk (Kd.R_drew HO_206000.out)
                  have n1_ := Aside0.mk (Kd.R_drew HO_206001.out)
                  have n2_ := Aside0.mk (blk_drew BK205.out)
                  have n3_ := Aside0.mk (blk_drew BK206.out)
                  have n4_ := Aside0.mk (blk_drew BK207.out)
                  have n5_ := Aside0.mk (Kept.drew HK.out)
                  have n6_ := Aside0.mk (below_drew1 HB.out)
                  clear HO_206000
                  clear HO_206001
                  clear BK205
                  clear BK206
                  clear BK207
                  clear HK
                  clear HB
                  have HO_206000 := n0_
                  have HO_206001 := n1_
                  have BK205 := n2_
                  have BK206 := n3_
                  have BK207 := n4_
                  have HK := n5_
                  have HB := n6_
                  clear n0_ n1_ n2_ n3_ n4_ n5_ n6_
                  have p210 : 0 ≤ (a1 : Int) := of_decide_eq_true (by first | (with_reducible assumption) | assumption)
                  have q210 : a1 < (l0_1.length : Int) := of_decide_eq_true (by first | (with_reducible assumption) | assumption)
                  obtain ⟨ad210, e210, hx210_0⟩ := Kd.at_int (Kd.R_reads' HO_206001.out).2.2 a1 p210 q210
                  cases e210
                  replace p210 := eq_true p210
                  replace q210 := eq_true q210
                  have p211 : 0 ≤ (a1 : Int) := of_decide_eq_true (by first | (with_reducible assumption) | assumption)
                  have q211 : a1 < (l0_0.length : Int) := of_decide_eq_true (by first | (with_reducible assumption) | assumption)
                  obtain ⟨ad211, e211, hx211_0⟩ := Kd.at_int (Kd.R_reads' HO_206000.out).2.2 a1 p211 q211
                  obtain rfl : ad209 = ad211 := (by injection e211)
                  replace p211 := eq_true p211
                  replace q211 := eq_true q211
                  refine start_ (n := 19) (S := fun w' => w'.cell? ⟨gb205, 0, none⟩ = some (.slice (some ad209) l0_0.length co5) ∧ w'.cell? ⟨gb205, 1, none⟩ = some (.slice (some ad210) l0_1.length co6) ∧ w'.cell? ⟨gb206, 0, none⟩ = some (.int .i64 a2_0) ∧ w'.cell? ⟨gb206, 1, none⟩ = some (.int .i64 a2_1) ∧ w'.cell? (ad210.add (a1).toNat) = some (.int .i64 (rd l0_1 a1)) ∧ w'.cell? (ad209.add (a1).toNat) = some (.int .i64 (rd l0_0 a1))) (ds := []) #[false, false, false, false, false, false, false, false, false, false, false, false, false, false, false, false, false, false, false] (by kernel_rfl) rfl rfl ⟨(blk_cell BK205.out 0).trans rfl, (blk_cell BK205.out 1).trans rfl, (blk_cell BK206.out 0).trans rfl, (blk_cell BK206.out 1).trans rfl, hx210_0, hx211_0⟩ (fun hHeld => ?_); refine with_tabW trickleref39_Fire.tab5 trickleref39_Fire.bits5 (fun HT_ HW_ => ?_)
                  generalize wc.drew = w63 at HO_206000 HO_206001 BK205 BK206 BK207 HK HB hx210_0 hx211_0 hHeld ⊢
                  refine pure_ (i := 0) (N := some 35) (v := ?_) (a' := ?_) #[true, false, false, false, false, false, false, false, false, false, false, false, false, false, false, false, false, false, false] rfl rfl (any_of HT_.out (by kernel_rfl)) (fun _ _ _ h => h) (Or.inl ⟨by rfl, ?_⟩) ?_ ?_
                  rotate_left
                  · intro w'
                    go_simp
                    with_reducible rfl
                  rotate_left
                  · simp only [Act.put, List.setIfInBounds_toArray, List.set_cons_zero, List.set_cons_succ, i64_w, i32_w]
                    rfl
                  refine pure_ (i := 2) (N := some 37) (v := ?_) (a' := ?_) #[true, false, true, false, false, false, false, false, false, false, false, false, false, false, false, false, false, false, false] rfl rfl (any_of HT_.out (by kernel_rfl)) (fun _ _ _ h => h) (Or.inl ⟨by rfl, ?_⟩) ?_ ?_
                  rotate_left
                  · intro w'
                    go_simp
                    with_reducible rfl
                  rotate_left
                  · simp only [Act.put, List.setIfInBounds_toArray, List.set_cons_zero, List.set_cons_succ, i64_w, i32_w]
                    rfl
                  refine pure_ (i := 5) (N := some 40) (v := ?_) (a' := ?_) #[true, false, true, false, false, true, false, false, false, false, false, false, false, false, false, false, false, false, false] rfl rfl (any_of HT_.out (by kernel_rfl)) (fun _ _ _ h => h) (Or.inl ⟨by rfl, ?_⟩) ?_ ?_
                  rotate_left
                  · intro w'
                    go_simp
                    with_reducible rfl
                  rotate_left
                  · simp only [Act.put, List.setIfInBounds_toArray, List.set_cons_zero, List.set_cons_succ, i64_w, i32_w]
                    rfl
                  refine pure_ (i := 7) (N := some 42) (v := ?_) (a' := ?_) #[true, false, true, false, false, true, false, true, false, false, false, false, false, false, false, false, false, false, false] rfl rfl (any_of HT_.out (by kernel_rfl)) (fun _ _ _ h => h) (Or.inl ⟨by rfl, ?_⟩) ?_ ?_
                  rotate_left
                  · intro w'
                    go_simp
                    with_reducible rfl
                  rotate_left
                  · simp only [Act.put, List.setIfInBounds_toArray, List.set_cons_zero, List.set_cons_succ, i64_w, i32_w]
                    rfl
                  refine take_ (i := 1) (N := some 36) (v := ?_) (a' := ?_) #[true, true, true, false, false, true, false, true, false, false, false, false, false, false, false, false, false, false, false] rfl rfl (take_ofW HT_.out HW_.out (by kernel_rfl)) (fun _ _ _ h => h) (Or.inl ⟨by rfl, ?_⟩) hHeld ?_ ?_
                  rotate_left
                  · rintro w' ⟨s0, s1, s2, s3, s4, s5⟩
                    go_simp
                    with_reducible rfl
                  rotate_left
                  · simp only [Act.put, List.setIfInBounds_toArray, List.set_cons_zero, List.set_cons_succ, i64_w, i32_w]
                    rfl
                  refine pure_ (i := 3) (N := some 38) (v := ?_) (a' := ?_) #[true, true, true, true, false, true, false, true, false, false, false, false, false, false, false, false, false, false, false] rfl rfl (any_of HT_.out (by kernel_rfl)) (fun _ _ _ h => h) (Or.inl ⟨by rfl, ?_⟩) ?_ ?_
                  rotate_left
                  · intro w'
                    go_simp
                    with_reducible rfl
                  rotate_left
                  · simp only [Act.put, List.setIfInBounds_toArray, List.set_cons_zero, List.set_cons_succ, i64_w, i32_w]
                    rfl
                  refine take_ (i := 4) (N := some 39) (v := ?_) (a' := ?_) #[true, true, true, true, true, true, false, true, false, false, false, false, false, false, false, false, false, false, false] rfl rfl (take_ofW HT_.out HW_.out (by kernel_rfl)) (fun _ _ _ h => h) (Or.inl ⟨by rfl, ?_⟩) hHeld ?_ ?_
                  rotate_left
                  · rintro w' ⟨s0, s1, s2, s3, s4, s5⟩
                    go_simp
                    with_reducible rfl
                  rotate_left
                  · simp only [Act.put, List.setIfInBounds_toArray, List.set_cons_zero, List.set_cons_succ, i64_w, i32_w]
                    rfl
                  refine take_ (i := 6) (N := some 41) (v := ?_) (a' := ?_) #[true, true, true, true, true, true, true, true, false, false, false, false, false, false, false, false, false, false, false] rfl rfl (take_ofW HT_.out HW_.out (by kernel_rfl)) (fun _ _ _ h => h) (Or.inl ⟨by rfl, ?_⟩) hHeld ?_ ?_
                  rotate_left
                  · rintro w' ⟨s0, s1, s2, s3, s4, s5⟩
                    go_simp
                    with_reducible rfl
                  rotate_left
                  · simp only [Act.put, List.setIfInBounds_toArray, List.set_cons_zero, List.set_cons_succ, i64_w, i32_w]
                    rfl
                  refine pure_ (i := 8) (N := some 43) (v := ?_) (a' := ?_) #[true, true, true, true, true, true, true, true, true, false, false, false, false, false, false, false, false, false, false] rfl rfl (any_of HT_.out (by kernel_rfl)) (fun _ _ _ h => h) (Or.inl ⟨by rfl, ?_⟩) ?_ ?_
                  rotate_left
                  · intro w'
                    go_simp
                    with_reducible rfl
                  rotate_left
                  · simp only [Act.put, List.setIfInBounds_toArray, List.set_cons_zero, List.set_cons_succ, i64_w, i32_w]
                    rfl
                  refine take_ (i := 9) (N := some 44) (v := ?_) (a' := ?_) #[true, true, true, true, true, true, true, true, true, true, false, false, false, false, false, false, false, false, false] rfl rfl (take_ofW HT_.out HW_.out (by kernel_rfl)) (fun _ _ _ h => h) (Or.inl ⟨by rfl, ?_⟩) hHeld ?_ ?_
                  rotate_left
                  · rintro w' ⟨s0, s1, s2, s3, s4, s5⟩
                    go_simp
                    with_reducible rfl
                  rotate_left
                  · simp only [Act.put, List.setIfInBounds_toArray, List.set_cons_zero, List.set_cons_succ, i64_w, i32_w]
                    rfl
                  refine take_ (i := 10) (N := some 45) (v := ?_) (a' := ?_) #[true, true, true, true, true, true, true, true, true, true, true, false, false, false, false, false, false, false, false] rfl rfl (take_ofW HT_.out HW_.out (by kernel_rfl)) (fun _ _ _ h => h) (Or.inl ⟨by rfl, ?_⟩) hHeld ?_ ?_
                  rotate_left
                  · rintro w' ⟨s0, s1, s2, s3, s4, s5⟩
                    go_simp
                    with_reducible rfl
                  rotate_left
                  · simp only [Act.put, List.setIfInBounds_toArray, List.set_cons_zero, List.set_cons_succ, i64_w, i32_w]
                    rfl
                  refine one_ (i := 11) (N := some 46) #[true, true, true, true, true, true, true, true, true, true, true, true, false, false, false, false, false, false, false] rfl rfl (one_of HT_.out (by kernel_rfl)) (by decide) (fun K hK => ?_)
                  refine goes_ Try.func12 (by kernel_rfl) rfl #[.int .i64 (rd l0_1 a1), .int .i64 (rd l0_0 a1), .agg #[.int .i64 a2_0, .int .i64 a2_1]] (by rfl) rfl rfl (by (try simp only [List.map_toArray, List.map_cons, List.map_nil]); first | done | rfl | (simp only [List.length_drop, List.length_take]; rfl)) ?_
                  with_reducible refine (trickleref39_Advance.calls kj3 (rd l0_1 a1) (rd l0_0 a1) a2_0 a2_1 t212 t213 t214 _ A37.out).mono ?_
                  rintro e w64 ⟨rfl, hb⟩
                  have HS4_ := (hb.cell (World.block_lt_of_cell? _ _ (hHeld.2.2.2.2.1))).trans (hHeld.2.2.2.2.1)
                  have HS5_ := (hb.cell (World.block_lt_of_cell? _ _ (hHeld.2.2.2.2.2))).trans (hHeld.2.2.2.2.2)
                  refine ⟨_, rfl, ?_⟩
                  have n0_ := Aside0.mk (Kd.R_below (by (with_reducible repeat (first | apply Kd.R_alloc | apply Kd.R_drewN | apply Kd.R_drew)); exact HO_206000.out) hb)
                  have n1_ := Aside0.mk (Kd.R_below (by (with_reducible repeat (first | apply Kd.R_alloc | apply Kd.R_drewN | apply Kd.R_drew)); exact HO_206001.out) hb)
                  have n2_ := Aside0.mk (blk_below (g := gb205) (o := .cells #[.slice (some ad209) l0_0.length co5, .slice (some ad210) l0_1.length co6] 44 (0, 0)) (by (with_reducible repeat (first | refine blk_drewN ?_ _ | refine blk_drew ?_ | refine blk_alloc ?_ _)); exact BK205.out) hb)
                  have n3_ := Aside0.mk (blk_below (g := gb206) (o := .cells #[.int .i64 a2_0, .int .i64 a2_1] 23 (0, 0)) (by (with_reducible repeat (first | refine blk_drewN ?_ _ | refine blk_drew ?_ | refine blk_alloc ?_ _)); exact BK206.out) hb)
                  have n4_ := Aside0.mk (blk_below (g := gb207) (o := .cells #[.slice none 0 0, .slice none 0 0] 44 (0, 0)) (by (with_reducible repeat (first | refine blk_drewN ?_ _ | refine blk_drew ?_ | refine blk_alloc ?_ _)); exact BK207.out) hb)
                  have n5_ := Aside0.mk (Kept.below (S := (fun k_ => P0_0_ k_ ∨ P0_1_ k_)) (by repeat (first | (with_reducible first | exact HK.out | apply Kept.alloc | apply Kept.drewN | apply Kept.drew | refine Kept.setCell ?_ (.inr GW205.out) _ | refine Kept.setCell ?_ (.inr GW206.out) _ | refine Kept.setCell ?_ (.inr GW207.out) _) | exact HK.out)) hb)
                  have n6_ := Aside0.mk (below_step (by repeat (first | (with_reducible first | exact HB.out | apply below_alloc | apply pw_below_drewN | apply below_drew1 | refine below_set ?_ GE205.out | refine below_set ?_ GE206.out | refine below_set ?_ GE207.out) | exact HB.out)) hb)
                  clear HO_206000
                  clear HO_206001
                  clear BK205
                  clear BK206
                  clear BK207
                  clear HK
                  clear HB
                  have HO_206000 := n0_
                  have HO_206001 := n1_
                  have BK205 := n2_
                  have BK206 := n3_
                  have BK207 := n4_
                  have HK := n5_
                  have HB := n6_
                  clear n0_ n1_ n2_ n3_ n4_ n5_ n6_
                  (try clear hb)
                  (try clear hb2)
                  (try clear hk)
                  (try clear hi)
                  refine hK.out _ _ ⟨(blk_cell BK205.out 0).trans rfl, (blk_cell BK205.out 1).trans rfl, (blk_cell BK206.out 0).trans rfl, (blk_cell BK206.out 1).trans rfl, HS4_, HS5_⟩ (fun hHeld => ?_)
                  clear hK K
                  refine norm_ (a' := ?_) ?_ ?_
                  rotate_left
                  · show Act.put _ (some 46) _ = _
                    simp only [Act.put, List.setIfInBounds_toArray, List.set_cons_zero, List.set_cons_succ, i64_w, i32_w]
                    rfl
                  refine pure_ (i := 12) (N := some 34) (v := ?_) (a' := ?_) #[true, true, true, true, true, true, true, true, true, true, true, true, true, false, false, false, false, false, false] rfl rfl (any_of HT_.out (by kernel_rfl)) (fun _ _ _ h => h) (Or.inl ⟨by rfl, ?_⟩) ?_ ?_
                  rotate_left
                  · intro w'
                    go_simp
                    with_reducible rfl
                  rotate_left
                  · simp only [Act.put, List.setIfInBounds_toArray, List.set_cons_zero, List.set_cons_succ, i64_w, i32_w]
                    rfl
                  refine pure_ (i := 13) (N := some 47) (v := ?_) (a' := ?_) #[true, true, true, true, true, true, true, true, true, true, true, true, true, true, false, false, false, false, false] rfl rfl (any_of HT_.out (by kernel_rfl)) (fun _ _ _ h => h) (Or.inl ⟨by rfl, ?_⟩) ?_ ?_
                  rotate_left
                  · intro w'
                    go_simp
                    with_reducible rfl
                  rotate_left
                  · simp only [Act.put, List.setIfInBounds_toArray, List.set_cons_zero, List.set_cons_succ, i64_w, i32_w]
                    rfl
                  refine pure_ (i := 14) (N := some 48) (v := ?_) (a' := ?_) #[true, true, true, true, true, true, true, true, true, true, true, true, true, true, true, false, false, false, false] rfl rfl (any_of HT_.out (by kernel_rfl)) (fun _ _ _ h => h) (Or.inl ⟨by rfl, ?_⟩) ?_ ?_
                  rotate_left
                  · intro w'
                    go_simp
                    with_reducible rfl
                  rotate_left
                  · simp only [Act.put, List.setIfInBounds_toArray, List.set_cons_zero, List.set_cons_succ, i64_w, i32_w]
                    rfl
                  refine pure_ (i := 15) (N := some 49) (v := ?_) (a' := ?_) #[true, true, true, true, true, true, true, true, true, true, true, true, true, true, true, true, false, false, false] rfl rfl (any_of HT_.out (by kernel_rfl)) (fun _ _ _ h => h) (Or.inl ⟨by rfl, ?_⟩) ?_ ?_
                  rotate_left
                  · intro w'
                    go_simp
                    with_reducible rfl
                  rotate_left
                  · simp only [Act.put, List.setIfInBounds_toArray, List.set_cons_zero, List.set_cons_succ, i64_w, i32_w]
                    rfl
                  refine pure_ (i := 16) (N := some 9) (v := ?_) (a' := ?_) #[true, true, true, true, true, true, true, true, true, true, true, true, true, true, true, true, true, false, false] rfl rfl (any_of HT_.out (by kernel_rfl)) (fun _ _ _ h => h) (Or.inl ⟨by rfl, ?_⟩) ?_ ?_
                  rotate_left
                  · intro w'
                    go_simp
                    with_reducible rfl
                  rotate_left
                  · simp only [Act.put, List.setIfInBounds_toArray, List.set_cons_zero, List.set_cons_succ, i64_w, i32_w]
                    rfl
                  refine pure_ (i := 17) (N := some 10) (v := ?_) (a' := ?_) #[true, true, true, true, true, true, true, true, true, true, true, true, true, true, true, true, true, true, false] rfl rfl (any_of HT_.out (by kernel_rfl)) (fun _ _ _ h => h) (Or.inl ⟨by rfl, ?_⟩) ?_ ?_
                  rotate_left
                  · intro w'
                    go_simp
                    with_reducible rfl
                  rotate_left
                  · simp only [Act.put, List.setIfInBounds_toArray, List.set_cons_zero, List.set_cons_succ, i64_w, i32_w]
                    rfl
                  refine pure_ (i := 18) (N := some 11) (v := ?_) (a' := ?_) #[true, true, true, true, true, true, true, true, true, true, true, true, true, true, true, true, true, true, true] rfl rfl (any_of HT_.out (by kernel_rfl)) (fun _ _ _ h => h) (Or.inl ⟨by rfl, ?_⟩) ?_ ?_
                  rotate_left
                  · intro w'
                    go_simp
                    with_reducible rfl
                  rotate_left
                  · simp only [Act.put, List.setIfInBounds_toArray, List.set_cons_zero, List.set_cons_succ, i64_w, i32_w]
                    rfl
                  refine done_ (done_of HT_.out (by kernel_rfl)) ?_
                  have hcz65_0 : w64.cell? ⟨gb205, 0, none⟩ = some (.slice (some ad209) l0_0.length co5) := (blk_cell BK205.out 0).trans rfl
                  have hcz65_1 : w64.cell? ⟨gb205, 1, none⟩ = some (.slice (some ad210) l0_1.length co6) := (blk_cell BK205.out 1).trans rfl
                  have hfz65_0 := blk_frozen BK205.out 0
                  have hfz65_1 := blk_frozen BK205.out 1
                  have hnb66 := NB207_206.out
                  have hnc66 := NB206_207.out
                  have hcz67_0 : w64.cell? ⟨gb207, 0, none⟩ = some (.slice none 0 0) := (blk_cell BK207.out 0).trans rfl
                  have hcz67_1 : w64.cell? ⟨gb207, 1, none⟩ = some (.slice none 0 0) := (blk_cell BK207.out 1).trans rfl
                  have hfz67_0 := blk_frozen BK207.out 0
                  have hfz67_1 := blk_frozen BK207.out 1
                  try go_wp2
                  refine bodyPost_ret (results_ctt rfl _ _ gb207 44 #[.slice (some ad209) l0_0.length co5, .slice (some ad210) l0_1.length co6] (0, 0) _ rfl (by (with_reducible repeat (first | refine blk_drewN ?_ _ | refine blk_drew ?_ | refine blk_alloc ?_ _)); refine blk_put (cs := #[.slice (some ad209) l0_0.length co5, .slice none 0 0]) ?_ 1 _ rfl; (with_reducible repeat (first | refine blk_drewN ?_ _ | refine blk_drew ?_ | refine blk_alloc ?_ _)); refine blk_put (cs := #[.slice none 0 0, .slice none 0 0]) ?_ 0 _ rfl; (with_reducible repeat (first | refine blk_drewN ?_ _ | refine blk_drew ?_ | refine blk_alloc ?_ _)); exact BK207.out) Try.underlying44 rfl (by kernel_rfl)) rfl ?_
                  exact ⟨_, _, by first | rfl | (simp [errW_none, errW_some] <;> rfl) | (simp [*, errW_none, errW_some] <;> rfl), by (with_reducible repeat (first | apply Kd.R_alloc | apply Kd.R_drewN | apply Kd.R_drew)); exact Kd.R_mono (Kd.R_far (p := ⟨gb207, 1, none⟩) (Kd.R_far (p := ⟨gb207, 0, none⟩) (Kd.R_types HO_206000.out BK207.out (by decide)) (fun _ hk => hk.2) (.slice (some ad209) l0_0.length co5)) (fun _ hk => hk.2) (.slice (some ad210) l0_1.length co6)) (fun _ hk => hk.1), by (with_reducible repeat (first | apply Kd.R_alloc | apply Kd.R_drewN | apply Kd.R_drew)); exact Kd.R_mono (Kd.R_far (p := ⟨gb207, 1, none⟩) (Kd.R_far (p := ⟨gb207, 0, none⟩) (Kd.R_types HO_206001.out BK207.out (by decide)) (fun _ hk => hk.2) (.slice (some ad209) l0_0.length co5)) (fun _ hk => hk.2) (.slice (some ad210) l0_1.length co6)) (fun _ hk => hk.1), by repeat (first | (with_reducible first | exact HB.out | apply below_alloc | apply pw_below_drewN | apply below_drew1 | refine below_set ?_ GE205.out | refine below_set ?_ GE206.out | refine below_set ?_ GE207.out) | exact HB.out), by repeat (first | (with_reducible first | exact HK.out | apply Kept.alloc | apply Kept.drewN | apply Kept.drew | refine Kept.setCell ?_ (.inr GW205.out) _ | refine Kept.setCell ?_ (.inr GW206.out) _ | refine Kept.setCell ?_ (.inr GW207.out) _) | exact HK.out)⟩
              · rw [if_neg c36] at H
                exact absurd H (by simp)
          · rw [if_neg c29] at H
            exact absurd H (by simp)
        · rw [if_neg c28] at H
          exact absurd H (by simp)

end Go.Proofs.Ytjdpogkddoaioaa.QWh
