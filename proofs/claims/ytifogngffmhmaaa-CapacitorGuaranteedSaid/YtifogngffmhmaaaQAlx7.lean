-- Printed by a program of this session (myprint.py) over the kit's print: functions, contracts; not trusted, Lean checks it.
import Derived.Test.YtifogngffmhmaaaQAlx0
import Derived.Test.YtifogngffmhmaaaQAlx1
import Derived.Test.YtifogngffmhmaaaQAlx2
import Derived.Test.YtifogngffmhmaaaQAlx3
import Derived.Test.YtifogngffmhmaaaQAlx5
namespace Go.Proofs.Ytifogngffmhmaaa.QAl
open Go.RowKit Go.Proofs.YtifogngffmhmaaaW.PrintWords Go.Proofs.YtifogngffmhmaaaW.PrintLast Go.Proofs.YtifogngffmhmaaaW.PrintMore
attribute [local go_sem] max2_int min2_int max_two min_two max_three min_three max_four min_four   -- for this text's walks alone
set_option linter.unusedVariables false
set_option linter.unusedSimpArgs false

/-! ### tricklelaw08_CapacitorGuaranteed: function 6 -/
mutual
def tricklelaw08_CapacitorGuaranteed.j0 : Nat → Int → List Int → Int → Bool → Int → Int → Int → Int → Int → Int → Int → Bool → Option (Bool)
  | 0, _, _, _, _, _, _, _, _, _, _, _, _ => none
  | k + 1, x1, x2, x8, x47, x352000, x352001, x352002, x362000, x362001, x362002, x362003, x362004 => if x47 = true then (some (x8 == 0)) else ((capacitor_Capacitor_WaitTime.f x362000 x362001 x362002 x362003 x362004 (wrap64 (x1))).bind fun bt364 => (if bt364.2.1 = true then ((capacitor_Capacitor_Harvest.f bt364.2.2.1 bt364.2.2.2.1 bt364.2.2.2.2.1 bt364.2.2.2.2.2.1 bt364.2.2.2.2.2.2 (wrap64 (x1)) bt364.1).bind fun bt371 => (if bt371.1 = 0 then ((capacitor_Capacitor_Running.f bt371.2.1 bt371.2.2.1 bt371.2.2.2.1 bt371.2.2.2.2.1 bt371.2.2.2.2.2).bind fun bt377 => (tricklelaw08_CapacitorGuaranteed.j1 k x2 (!bt377.1) x352000 x352001 x352002 bt377.2.1 bt377.2.2.1 bt377.2.2.2.1 bt377.2.2.2.2.1 bt377.2.2.2.2.2)) else (tricklelaw08_CapacitorGuaranteed.j1 k x2 true x352000 x352001 x352002 bt371.2.1 bt371.2.2.1 bt371.2.2.2.1 bt371.2.2.2.2.1 bt371.2.2.2.2.2))) else (tricklelaw08_CapacitorGuaranteed.j1 k x2 true x352000 x352001 x352002 bt364.2.2.1 bt364.2.2.2.1 bt364.2.2.2.2.1 bt364.2.2.2.2.2.1 bt364.2.2.2.2.2.2)))
def tricklelaw08_CapacitorGuaranteed.j1 : Nat → List Int → Bool → Int → Int → Int → Int → Int → Int → Int → Bool → Option (Bool)
  | 0, _, _, _, _, _, _, _, _, _, _ => none
  | k + 1, x2, x71, x352000, x352001, x352002, x362000, x362001, x362002, x362003, x362004 => if x71 = true then (some false) else ((tricklelaw08_config.f x352000 x352001 x352002).bind fun bt383 => ((capacitor_Guaranteed.f bt383.1 bt383.2.1 bt383.2.2).bind fun t386 => (if t386 = (wrap64 ((wrap64 (x352001 - x352002)) - 1)) then (tricklelaw08_CapacitorGuaranteed.l0 k t386 x2 (x2.length : Int) 0 x362000 x362001 x362002 x362003 x362004) else (some false))))
def tricklelaw08_CapacitorGuaranteed.l0 : Nat → Int → List Int → Int → Int → Int → Int → Int → Int → Bool → Option (Bool)
  | 0, _, _, _, _, _, _, _, _, _ => none
  | k + 1, x11, x83, x84, x85, x362000, x362001, x362002, x362003, x362004 => if x85 < x84 then (if 0 ≤ x85 then (if x85 < (x83.length : Int) then (if (wrap64 (rd x83 x85)) > x11 then (some true) else ((capacitor_Capacitor_Draw.f x362000 x362001 x362002 x362003 x362004 (wrap64 (rd x83 x85))).bind fun bt388 => (if bt388.1 = true then ((capacitor_Capacitor_Running.f bt388.2.1 bt388.2.2.1 bt388.2.2.2.1 bt388.2.2.2.2.1 bt388.2.2.2.2.2).bind fun bt394 => (if bt394.1 = true then (tricklelaw08_CapacitorGuaranteed.l0 k (wrap64 (x11 - (wrap64 (rd x83 x85)))) x83 x84 (wrap64 (x85 + 1)) bt394.2.1 bt394.2.2.1 bt394.2.2.2.1 bt394.2.2.2.2.1 bt394.2.2.2.2.2) else (some false))) else (some false)))) else (none)) else (none)) else (some true)
end
def tricklelaw08_CapacitorGuaranteed.f (k : Nat) (a0_0 : Int) (a0_1 : Int) (a0_2 : Int) (a1 : Int) (l2 : List Int) : Option (Bool) := (tricklelaw08_awake.f k).bind fun t352 => (if t352 = true then ((tricklelaw08_config.f a0_0 a0_1 a0_2).bind fun bt353 => ((capacitor_New.f bt353.1 bt353.2.1 bt353.2.2).bind fun bt356 => ((trickleref08_Valid.f a0_0 a0_1 a0_2).bind fun t363 => (if t363 = true then (if bt356.2.2.2.2.2 = 0 then (if a1 = 0 then (tricklelaw08_CapacitorGuaranteed.j0 k a1 l2 bt356.2.2.2.2.2 true a0_0 a0_1 a0_2 bt356.1 bt356.2.1 bt356.2.2.1 bt356.2.2.2.1 bt356.2.2.2.2.1) else (tricklelaw08_CapacitorGuaranteed.j0 k a1 l2 bt356.2.2.2.2.2 (decide ((l2.length : Int) > 60)) a0_0 a0_1 a0_2 bt356.1 bt356.2.1 bt356.2.2.1 bt356.2.2.2.1 bt356.2.2.2.2.1)) else (tricklelaw08_CapacitorGuaranteed.j0 k a1 l2 bt356.2.2.2.2.2 true a0_0 a0_1 a0_2 bt356.1 bt356.2.1 bt356.2.2.1 bt356.2.2.2.1 bt356.2.2.2.2.1)) else (some false))))) else (some false))
theorem tricklelaw08_CapacitorGuaranteed.mono_l : ∀ k, (∀ y0 y1 y2 y3 y4 y5 y6 y7 y8 y9 y10 y11, LeO (tricklelaw08_CapacitorGuaranteed.j0 k y0 y1 y2 y3 y4 y5 y6 y7 y8 y9 y10 y11) (tricklelaw08_CapacitorGuaranteed.j0 (k + 1) y0 y1 y2 y3 y4 y5 y6 y7 y8 y9 y10 y11)) ∧ (∀ y0 y1 y2 y3 y4 y5 y6 y7 y8 y9, LeO (tricklelaw08_CapacitorGuaranteed.j1 k y0 y1 y2 y3 y4 y5 y6 y7 y8 y9) (tricklelaw08_CapacitorGuaranteed.j1 (k + 1) y0 y1 y2 y3 y4 y5 y6 y7 y8 y9)) ∧ (∀ y0 y1 y2 y3 y4 y5 y6 y7 y8, LeO (tricklelaw08_CapacitorGuaranteed.l0 k y0 y1 y2 y3 y4 y5 y6 y7 y8) (tricklelaw08_CapacitorGuaranteed.l0 (k + 1) y0 y1 y2 y3 y4 y5 y6 y7 y8))
  | 0 => ⟨fun _ _ _ _ _ _ _ _ _ _ _ _ r h => by simp [tricklelaw08_CapacitorGuaranteed.j0] at h, fun _ _ _ _ _ _ _ _ _ _ r h => by simp [tricklelaw08_CapacitorGuaranteed.j1] at h, fun _ _ _ _ _ _ _ _ _ r h => by simp [tricklelaw08_CapacitorGuaranteed.l0] at h⟩
  | k + 1 => by
    obtain ⟨ih0, ih1, ih2⟩ := tricklelaw08_CapacitorGuaranteed.mono_l k
    refine ⟨?_, ?_, ?_⟩
    · intro y0 y1 y2 y3 y4 y5 y6 y7 y8 y9 y10 y11
      unfold tricklelaw08_CapacitorGuaranteed.j0
      repeat' first
      | (with_reducible exact ih0 _ _ _ _ _ _ _ _ _ _ _ _)
      | (with_reducible exact ih1 _ _ _ _ _ _ _ _ _ _)
      | (with_reducible exact ih2 _ _ _ _ _ _ _ _ _)
      | (with_reducible exact tricklelaw08_awake.mono _)
      | (with_reducible exact LeO.refl _)
      | (with_reducible exact LeO.none _)
      | (with_reducible refine LeO.ite ?_ ?_)
      | (with_reducible refine LeO.bind ?_ (fun _ => ?_))
      | exact ih0 _ _ _ _ _ _ _ _ _ _ _ _
      | exact ih1 _ _ _ _ _ _ _ _ _ _
      | exact ih2 _ _ _ _ _ _ _ _ _
      | exact tricklelaw08_awake.mono _
      | exact LeO.none _
      | refine LeO.ite ?_ ?_
      | refine LeO.bind ?_ (fun _ => ?_)
    · intro y0 y1 y2 y3 y4 y5 y6 y7 y8 y9
      unfold tricklelaw08_CapacitorGuaranteed.j1
      repeat' first
      | (with_reducible exact ih0 _ _ _ _ _ _ _ _ _ _ _ _)
      | (with_reducible exact ih1 _ _ _ _ _ _ _ _ _ _)
      | (with_reducible exact ih2 _ _ _ _ _ _ _ _ _)
      | (with_reducible exact tricklelaw08_awake.mono _)
      | (with_reducible exact LeO.refl _)
      | (with_reducible exact LeO.none _)
      | (with_reducible refine LeO.ite ?_ ?_)
      | (with_reducible refine LeO.bind ?_ (fun _ => ?_))
      | exact ih0 _ _ _ _ _ _ _ _ _ _ _ _
      | exact ih1 _ _ _ _ _ _ _ _ _ _
      | exact ih2 _ _ _ _ _ _ _ _ _
      | exact tricklelaw08_awake.mono _
      | exact LeO.none _
      | refine LeO.ite ?_ ?_
      | refine LeO.bind ?_ (fun _ => ?_)
    · intro y0 y1 y2 y3 y4 y5 y6 y7 y8
      unfold tricklelaw08_CapacitorGuaranteed.l0
      repeat' first
      | (with_reducible exact ih0 _ _ _ _ _ _ _ _ _ _ _ _)
      | (with_reducible exact ih1 _ _ _ _ _ _ _ _ _ _)
      | (with_reducible exact ih2 _ _ _ _ _ _ _ _ _)
      | (with_reducible exact tricklelaw08_awake.mono _)
      | (with_reducible exact LeO.refl _)
      | (with_reducible exact LeO.none _)
      | (with_reducible refine LeO.ite ?_ ?_)
      | (with_reducible refine LeO.bind ?_ (fun _ => ?_))
      | exact ih0 _ _ _ _ _ _ _ _ _ _ _ _
      | exact ih1 _ _ _ _ _ _ _ _ _ _
      | exact ih2 _ _ _ _ _ _ _ _ _
      | exact tricklelaw08_awake.mono _
      | exact LeO.none _
      | refine LeO.ite ?_ ?_
      | refine LeO.bind ?_ (fun _ => ?_)
theorem tricklelaw08_CapacitorGuaranteed.mono : ∀ a0 a1 a2 a3 a4 k, LeO (tricklelaw08_CapacitorGuaranteed.f k a0 a1 a2 a3 a4) (tricklelaw08_CapacitorGuaranteed.f (k + 1) a0 a1 a2 a3 a4) := by
  intro a0 a1 a2 a3 a4 k
  obtain ⟨ih0, ih1, ih2⟩ := tricklelaw08_CapacitorGuaranteed.mono_l k
  unfold tricklelaw08_CapacitorGuaranteed.f
  repeat' first
      | (with_reducible exact ih0 _ _ _ _ _ _ _ _ _ _ _ _)
      | (with_reducible exact ih1 _ _ _ _ _ _ _ _ _ _)
      | (with_reducible exact ih2 _ _ _ _ _ _ _ _ _)
      | (with_reducible exact tricklelaw08_awake.mono _)
      | (with_reducible exact LeO.refl _)
      | (with_reducible exact LeO.none _)
      | (with_reducible refine LeO.ite ?_ ?_)
      | (with_reducible refine LeO.bind ?_ (fun _ => ?_))
      | exact ih0 _ _ _ _ _ _ _ _ _ _ _ _
      | exact ih1 _ _ _ _ _ _ _ _ _ _
      | exact ih2 _ _ _ _ _ _ _ _ _
      | exact tricklelaw08_awake.mono _
      | exact LeO.none _
      | refine LeO.ite ?_ ?_
      | refine LeO.bind ?_ (fun _ => ?_)
set_option maxHeartbeats 8000000 in
set_option maxRecDepth 100000 in
theorem tricklelaw08_CapacitorGuaranteed.calls (k : Nat) (a0_0 : Int) (a0_1 : Int) (a0_2 : Int) (a1 : Int) (A2 : Option Addr) (c2 : Nat) (l2 : List Int) (r : Bool) (w : World) (hr2 : Kd.C (Kd.int .u16) w A2 l2.length l2) (hc2 : l2.length ≤ c2) (h : tricklelaw08_CapacitorGuaranteed.f k a0_0 a0_1 a0_2 a1 l2 = some r) :
    Calls Try.prog 6 #[.agg #[.int .i64 a0_0, .int .i64 a0_1, .int .i64 a0_2], .int .u16 a1, .slice A2 l2.length c2] w fun e w' => e = .returned (.bool r) ∧ Below w.heap.size w w' := by
  have hu23 := Try.underlying23
  have HR2 := Aside0.mk hr2
  have HC2 := Aside0.mk hc2
  clear hr2 hc2
  have HB := Aside0.mk (Below.refl w.heap.size w)
  have H : ((tricklelaw08_awake.f k).bind fun t352 => (if t352 = true then ((tricklelaw08_config.f a0_0 a0_1 a0_2).bind fun bt353 => ((capacitor_New.f bt353.1 bt353.2.1 bt353.2.2).bind fun bt356 => ((trickleref08_Valid.f a0_0 a0_1 a0_2).bind fun t363 => (if t363 = true then (if bt356.2.2.2.2.2 = 0 then (if a1 = 0 then (tricklelaw08_CapacitorGuaranteed.j0 k a1 l2 bt356.2.2.2.2.2 true a0_0 a0_1 a0_2 bt356.1 bt356.2.1 bt356.2.2.1 bt356.2.2.2.1 bt356.2.2.2.2.1) else (tricklelaw08_CapacitorGuaranteed.j0 k a1 l2 bt356.2.2.2.2.2 (decide ((l2.length : Int) > 60)) a0_0 a0_1 a0_2 bt356.1 bt356.2.1 bt356.2.2.1 bt356.2.2.2.1 bt356.2.2.2.2.1)) else (tricklelaw08_CapacitorGuaranteed.j0 k a1 l2 bt356.2.2.2.2.2 true a0_0 a0_1 a0_2 bt356.1 bt356.2.1 bt356.2.2.1 bt356.2.2.2.1 bt356.2.2.2.2.1)) else (some false))))) else (some false))) = some r := h
  clear h
  replace H := Option.bind_eq_some_iff.mp H
  obtain ⟨t352, A40, H⟩ := H
  replace H : (if t352 = true then ((tricklelaw08_config.f a0_0 a0_1 a0_2).bind fun bt353 => ((capacitor_New.f bt353.1 bt353.2.1 bt353.2.2).bind fun bt356 => ((trickleref08_Valid.f a0_0 a0_1 a0_2).bind fun t363 => (if t363 = true then (if bt356.2.2.2.2.2 = 0 then (if a1 = 0 then (tricklelaw08_CapacitorGuaranteed.j0 k a1 l2 bt356.2.2.2.2.2 true a0_0 a0_1 a0_2 bt356.1 bt356.2.1 bt356.2.2.1 bt356.2.2.2.1 bt356.2.2.2.2.1) else (tricklelaw08_CapacitorGuaranteed.j0 k a1 l2 bt356.2.2.2.2.2 (decide ((l2.length : Int) > 60)) a0_0 a0_1 a0_2 bt356.1 bt356.2.1 bt356.2.2.1 bt356.2.2.2.1 bt356.2.2.2.2.1)) else (tricklelaw08_CapacitorGuaranteed.j0 k a1 l2 bt356.2.2.2.2.2 true a0_0 a0_1 a0_2 bt356.1 bt356.2.1 bt356.2.2.1 bt356.2.2.2.1 bt356.2.2.2.2.1)) else (some false))))) else (some false)) = some r := H
  have A4 := Aside0.mk A40
  clear A40
  by_cases c5 : t352 = true
  · subst c5
    have H1 : ((tricklelaw08_config.f a0_0 a0_1 a0_2).bind fun bt353 => ((capacitor_New.f bt353.1 bt353.2.1 bt353.2.2).bind fun bt356 => ((trickleref08_Valid.f a0_0 a0_1 a0_2).bind fun t363 => (if t363 = true then (if bt356.2.2.2.2.2 = 0 then (if a1 = 0 then (tricklelaw08_CapacitorGuaranteed.j0 k a1 l2 bt356.2.2.2.2.2 true a0_0 a0_1 a0_2 bt356.1 bt356.2.1 bt356.2.2.1 bt356.2.2.2.1 bt356.2.2.2.2.1) else (tricklelaw08_CapacitorGuaranteed.j0 k a1 l2 bt356.2.2.2.2.2 (decide ((l2.length : Int) > 60)) a0_0 a0_1 a0_2 bt356.1 bt356.2.1 bt356.2.2.1 bt356.2.2.2.1 bt356.2.2.2.2.1)) else (tricklelaw08_CapacitorGuaranteed.j0 k a1 l2 bt356.2.2.2.2.2 true a0_0 a0_1 a0_2 bt356.1 bt356.2.1 bt356.2.2.1 bt356.2.2.2.1 bt356.2.2.2.2.1)) else (some false))))) = some r := by rw [if_pos rfl] at H; exact H
    clear H
    have H := H1
    clear H1
    replace H := Option.bind_eq_some_iff.mp H
    obtain ⟨⟨t353, t354, t355⟩, A60, H⟩ := H
    replace H : ((capacitor_New.f t353 t354 t355).bind fun bt356 => ((trickleref08_Valid.f a0_0 a0_1 a0_2).bind fun t363 => (if t363 = true then (if bt356.2.2.2.2.2 = 0 then (if a1 = 0 then (tricklelaw08_CapacitorGuaranteed.j0 k a1 l2 bt356.2.2.2.2.2 true a0_0 a0_1 a0_2 bt356.1 bt356.2.1 bt356.2.2.1 bt356.2.2.2.1 bt356.2.2.2.2.1) else (tricklelaw08_CapacitorGuaranteed.j0 k a1 l2 bt356.2.2.2.2.2 (decide ((l2.length : Int) > 60)) a0_0 a0_1 a0_2 bt356.1 bt356.2.1 bt356.2.2.1 bt356.2.2.2.1 bt356.2.2.2.2.1)) else (tricklelaw08_CapacitorGuaranteed.j0 k a1 l2 bt356.2.2.2.2.2 true a0_0 a0_1 a0_2 bt356.1 bt356.2.1 bt356.2.2.1 bt356.2.2.2.1 bt356.2.2.2.2.1)) else (some false)))) = some r := H
    have A6 := Aside0.mk A60
    clear A60
    replace H := Option.bind_eq_some_iff.mp H
    obtain ⟨⟨t356, t357, t358, t359, t360, t362⟩, A70, H⟩ := H
    replace H : ((trickleref08_Valid.f a0_0 a0_1 a0_2).bind fun t363 => (if t363 = true then (if t362 = 0 then (if a1 = 0 then (tricklelaw08_CapacitorGuaranteed.j0 k a1 l2 t362 true a0_0 a0_1 a0_2 t356 t357 t358 t359 t360) else (tricklelaw08_CapacitorGuaranteed.j0 k a1 l2 t362 (decide ((l2.length : Int) > 60)) a0_0 a0_1 a0_2 t356 t357 t358 t359 t360)) else (tricklelaw08_CapacitorGuaranteed.j0 k a1 l2 t362 true a0_0 a0_1 a0_2 t356 t357 t358 t359 t360)) else (some false))) = some r := H
    have A7 := Aside0.mk A70
    clear A70
    replace H := Option.bind_eq_some_iff.mp H
    obtain ⟨t363, A80, H⟩ := H
    replace H : (if t363 = true then (if t362 = 0 then (if a1 = 0 then (tricklelaw08_CapacitorGuaranteed.j0 k a1 l2 t362 true a0_0 a0_1 a0_2 t356 t357 t358 t359 t360) else (tricklelaw08_CapacitorGuaranteed.j0 k a1 l2 t362 (decide ((l2.length : Int) > 60)) a0_0 a0_1 a0_2 t356 t357 t358 t359 t360)) else (tricklelaw08_CapacitorGuaranteed.j0 k a1 l2 t362 true a0_0 a0_1 a0_2 t356 t357 t358 t359 t360)) else (some false)) = some r := H
    have A8 := Aside0.mk A80
    clear A80
    by_cases c9 : t363 = true
    · subst c9
      have H1 : (if t362 = 0 then (if a1 = 0 then (tricklelaw08_CapacitorGuaranteed.j0 k a1 l2 t362 true a0_0 a0_1 a0_2 t356 t357 t358 t359 t360) else (tricklelaw08_CapacitorGuaranteed.j0 k a1 l2 t362 (decide ((l2.length : Int) > 60)) a0_0 a0_1 a0_2 t356 t357 t358 t359 t360)) else (tricklelaw08_CapacitorGuaranteed.j0 k a1 l2 t362 true a0_0 a0_1 a0_2 t356 t357 t358 t359 t360)) = some r := by rw [if_pos rfl] at H; exact H
      clear H
      have H := H1
      clear H1
      have HC10 := Aside0.mk H
      clear H
      go_enter Try.func6, Try.ntmps6
      go_upto_region 6 with (first | ((with_reducible refine gate_dst (N := 3) rfl ?_); (try (refine gate_guard (by rfl) ?_; dsimp only)); refine box_event ?hg (N := 3) ?hd (cs := #[.int .i64 a0_0, .int .i64 a0_1, .int .i64 a0_2]) (t := 23) ?hr ?_; (case hd => rfl); (case hg => rfl); (case hr => first | (go_simp; done) | (go_simp; rfl)); intro gb351 hg w11 hbox hb; have n0_ := Aside0.mk (below_step (by repeat (first | (with_reducible first | exact HB.out | apply below_alloc | apply pw_below_drewN | apply below_drew1) | exact HB.out)) hb); have n1_ := Aside0.mk (hbox); have n2_ := Aside0.mk ((by rw [hg]; exact (below_size (by repeat (first | (with_reducible first | exact HB.out | apply below_alloc | apply pw_below_drewN | apply below_drew1) | exact HB.out))) : w.heap.size ≤ gb351)); have n3_ := Aside0.mk ((by rw [hg]; exact (below_size (by repeat (first | (with_reducible first | exact HB.out | apply below_alloc | apply pw_below_drewN | apply below_drew1) | exact HB.out))) : w.heap.size ≤ gb351)); clear HB; have HB := n0_; have BK351 := n1_; have GW351 := n2_; have GE351 := n3_; clear n0_ n1_ n2_ n3_; clear hb hbox hg) | ((with_reducible refine gate_callee (f := 9) rfl ?_); refine goesL_ (some 14) rfl rfl Try.func9 (by kernel_rfl) rfl #[] rfl (by (try simp only [List.map_toArray, List.map_cons, List.map_nil]); first | done | rfl | (simp only [List.length_drop, List.length_take]; rfl)) ?_; (with_reducible refine (tricklelaw08_awake.calls k  true _ A4.out).mono ?_); rintro e w12 ⟨rfl, hb⟩; refine ⟨_, rfl, ?_⟩; have n0_ := Aside0.mk (blk_below (g := gb351) (o := .cells #[.int .i64 a0_0, .int .i64 a0_1, .int .i64 a0_2] 23 (0, 0)) (by (with_reducible repeat (first | refine blk_drewN ?_ _ | refine blk_drew ?_ | refine blk_alloc ?_ _)); exact BK351.out) hb); have n1_ := Aside0.mk (below_step (by repeat (first | (with_reducible first | exact HB.out | apply below_alloc | apply pw_below_drewN | apply below_drew1 | refine below_set ?_ GE351.out) | exact HB.out)) hb); clear BK351; clear HB; have BK351 := n0_; have HB := n1_; clear n0_ n1_; (try clear hb); (try clear hb2); (try clear hk); (try clear hi); have hcz13_0 : w12.cell? ⟨gb351, 0, none⟩ = some (.int .i64 a0_0) := (blk_cell BK351.out 0).trans rfl; have hcz13_1 : w12.cell? ⟨gb351, 1, none⟩ = some (.int .i64 a0_1) := (blk_cell BK351.out 1).trans rfl; have hcz13_2 : w12.cell? ⟨gb351, 2, none⟩ = some (.int .i64 a0_2) := (blk_cell BK351.out 2).trans rfl; have hfz13_0 := blk_frozen BK351.out 0; have hfz13_1 := blk_frozen BK351.out 1; have hfz13_2 := blk_frozen BK351.out 2) | ((with_reducible refine gate_callee (f := 12) rfl ?_); refine goesL_ (some 18) rfl rfl Try.func12 (by kernel_rfl) rfl #[.agg #[.int .i64 a0_0, .int .i64 a0_1, .int .i64 a0_2]] rfl (by (try simp only [List.map_toArray, List.map_cons, List.map_nil]); first | done | rfl | (simp only [List.length_drop, List.length_take]; rfl)) ?_; (with_reducible refine (tricklelaw08_config.calls a0_0 a0_1 a0_2 t353 t354 t355 _ A6.out).mono ?_); rintro e w14 ⟨rfl, hb⟩; refine ⟨_, rfl, ?_⟩; have n0_ := Aside0.mk (blk_below (g := gb351) (o := .cells #[.int .i64 a0_0, .int .i64 a0_1, .int .i64 a0_2] 23 (0, 0)) (by (with_reducible repeat (first | refine blk_drewN ?_ _ | refine blk_drew ?_ | refine blk_alloc ?_ _)); exact BK351.out) hb); have n1_ := Aside0.mk (below_step (by repeat (first | (with_reducible first | exact HB.out | apply below_alloc | apply pw_below_drewN | apply below_drew1 | refine below_set ?_ GE351.out) | exact HB.out)) hb); clear BK351; clear HB; have BK351 := n0_; have HB := n1_; clear n0_ n1_; (try clear hb); (try clear hb2); (try clear hk); (try clear hi)) | ((with_reducible refine gate_callee (f := 11) rfl ?_); refine goesL_ (some 19) rfl rfl Try.func11 (by kernel_rfl) rfl #[.agg #[.int .i64 t353, .int .i64 t354, .int .i64 t355]] rfl (by (try simp only [List.map_toArray, List.map_cons, List.map_nil]); first | done | rfl | (simp only [List.length_drop, List.length_take]; rfl)) ?_; (with_reducible refine (capacitor_New.calls t353 t354 t355 t356 t357 t358 t359 t360 t362 w _ ?side1 A7.out).mono ?_); (case side1 => repeat (first | (with_reducible first | exact HB.out | apply below_alloc | apply pw_below_drewN | apply below_drew1 | refine below_set ?_ GE351.out) | exact HB.out)); rintro e w15 ⟨g361, rfl, hi, hb, hb2⟩; refine ⟨_, rfl, ?_⟩; have n0_ := Aside0.mk (blk_below (g := gb351) (o := .cells #[.int .i64 a0_0, .int .i64 a0_1, .int .i64 a0_2] 23 (0, 0)) (by (with_reducible repeat (first | refine blk_drewN ?_ _ | refine blk_drew ?_ | refine blk_alloc ?_ _)); exact BK351.out) hb2); have n1_ := Aside0.mk (hb); have n2_ := Aside0.mk (hi); have n3_ := Aside0.mk (IsS70.ne_blk hi (blk_below (g := gb351) (o := .cells #[.int .i64 a0_0, .int .i64 a0_1, .int .i64 a0_2] 23 (0, 0)) (by (with_reducible repeat (first | refine blk_drewN ?_ _ | refine blk_drew ?_ | refine blk_alloc ?_ _)); exact BK351.out) hb2) (by decide)); have n4_ := Aside0.mk (Ne.symm (IsS70.ne_blk hi (blk_below (g := gb351) (o := .cells #[.int .i64 a0_0, .int .i64 a0_1, .int .i64 a0_2] 23 (0, 0)) (by (with_reducible repeat (first | refine blk_drewN ?_ _ | refine blk_drew ?_ | refine blk_alloc ?_ _)); exact BK351.out) hb2) (by decide))); clear BK351; clear HB; have BK351 := n0_; have HB := n1_; have HI361 := n2_; have NB361_351 := n3_; have NB351_361 := n4_; clear n0_ n1_ n2_ n3_ n4_; (try clear hb); (try clear hb2); (try clear hk); (try clear hi); have hnb16 := NB351_361.out; have hnc16 := NB361_351.out; have hcz17_0 : w15.cell? ⟨gb351, 0, none⟩ = some (.int .i64 a0_0) := (blk_cell BK351.out 0).trans rfl; have hcz17_1 : w15.cell? ⟨gb351, 1, none⟩ = some (.int .i64 a0_1) := (blk_cell BK351.out 1).trans rfl; have hcz17_2 : w15.cell? ⟨gb351, 2, none⟩ = some (.int .i64 a0_2) := (blk_cell BK351.out 2).trans rfl; have hfz17_0 := blk_frozen BK351.out 0; have hfz17_1 := blk_frozen BK351.out 1; have hfz17_2 := blk_frozen BK351.out 2) | ((with_reducible refine gate_callee (f := 10) rfl ?_); refine goesL_ (some 23) rfl rfl Try.func10 (by kernel_rfl) rfl #[.agg #[.int .i64 a0_0, .int .i64 a0_1, .int .i64 a0_2]] rfl (by (try simp only [List.map_toArray, List.map_cons, List.map_nil]); first | done | rfl | (simp only [List.length_drop, List.length_take]; rfl)) ?_; (with_reducible refine (trickleref08_Valid.calls a0_0 a0_1 a0_2 true _ A8.out).mono ?_); rintro e w18 ⟨rfl, hb⟩; refine ⟨_, rfl, ?_⟩; have n0_ := Aside0.mk (blk_below (g := gb351) (o := .cells #[.int .i64 a0_0, .int .i64 a0_1, .int .i64 a0_2] 23 (0, 0)) (by (with_reducible repeat (first | refine blk_drewN ?_ _ | refine blk_drew ?_ | refine blk_alloc ?_ _)); exact BK351.out) hb); have n1_ := Aside0.mk (IsS70.below (by repeat (first | (with_reducible first | exact HI361.out | apply IsS70.alloc | apply IsS70.drewN | apply IsS70.drew | apply IsS70.set_0 | apply IsS70.set_1 | apply IsS70.set_2 | apply IsS70.set_3 | apply IsS70.set_4 | refine IsS70.far ?_ NB361_351.out _) | exact HI361.out)) hb); have n2_ := Aside0.mk (below_step (by repeat (first | (with_reducible first | exact HB.out | apply below_alloc | apply pw_below_drewN | apply below_drew1 | refine below_set ?_ (IsS70.ge HI361.out) | refine below_set ?_ GE351.out) | exact HB.out)) hb); clear BK351; clear HI361; clear HB; have BK351 := n0_; have HI361 := n1_; have HB := n2_; clear n0_ n1_ n2_; (try clear hb); (try clear hb2); (try clear hk); (try clear hi)))
      (try simp only [Act.put, List.setIfInBounds_toArray, List.set_cons_zero, List.set_cons_succ])
      go_cut [47] (fun v47 wc => ∃ (kq : Nat) (x47_9 : Bool), v47 = .bool x47_9 ∧ Aside0 (tricklelaw08_CapacitorGuaranteed.j0 kq a1 l2 t362 x47_9 a0_0 a0_1 a0_2 t356 t357 t358 t359 t360 = some r) ∧ Aside0 (kq ≤ k) ∧ Aside0 (wc.heap[gb351]? = some (.cells #[.int .i64 a0_0, .int .i64 a0_1, .int .i64 a0_2] 23 (0, 0))) ∧ Aside0 (IsS70 w wc g361 t356 t357 t358 t359 t360) ∧ Aside0 (Below w.heap.size w wc))
      case first =>
        have H := HC10.out
        clear HC10
        by_cases c19 : t362 = 0
        · rw [if_pos c19] at H
          have c19b0 : (t362 == 0) = true := beq_iff_eq.mpr c19
          have c19b1 : (t362 != 0) = false := bne_eq_false_iff_eq.mpr c19
          clear c19
          (first | rw [c19b0] | (simp only [i64_w, i32_w]; rw [c19b0]) | skip)
          by_cases c20 : a1 = 0
          · rw [if_pos c20] at H
            have c20b0 : (a1 == 0) = true := beq_iff_eq.mpr c20
            have c20b1 : (a1 != 0) = false := bne_eq_false_iff_eq.mpr c20
            clear c20
            have H' := Aside0.mk H
            clear H
            go_wp2
            go_meet
            case rel => exact ⟨_, (true), (by first | rfl | (simp; done) | (simp [*]; done)), H', ⟨by first | omega | exact Nat.le_refl _⟩, ⟨by (with_reducible repeat (first | refine blk_drewN ?_ _ | refine blk_drew ?_ | refine blk_alloc ?_ _)); exact BK351.out⟩, ⟨by repeat (first | (with_reducible first | exact HI361.out | apply IsS70.alloc | apply IsS70.drewN | apply IsS70.drew | apply IsS70.set_0 | apply IsS70.set_1 | apply IsS70.set_2 | apply IsS70.set_3 | apply IsS70.set_4 | refine IsS70.far ?_ NB361_351.out _) | exact HI361.out)⟩, ⟨by repeat (first | (with_reducible first | exact HB.out | apply below_alloc | apply pw_below_drewN | apply below_drew1 | refine below_set ?_ (IsS70.ge HI361.out) | refine below_set ?_ GE351.out) | exact HB.out)⟩⟩
          · rw [if_neg c20] at H
            have c20b0 : (a1 == 0) = false := beq_eq_false_iff_ne.mpr c20
            have c20b1 : (a1 != 0) = true := bne_iff_ne.mpr c20
            have H' := Aside0.mk H
            clear H
            go_wp2
            go_meet
            case rel => exact ⟨_, (decide ((l2.length : Int) > 60)), (by first | rfl | (simp; done) | (simp [*]; done)), H', ⟨by first | omega | exact Nat.le_refl _⟩, ⟨by (with_reducible repeat (first | refine blk_drewN ?_ _ | refine blk_drew ?_ | refine blk_alloc ?_ _)); exact BK351.out⟩, ⟨by repeat (first | (with_reducible first | exact HI361.out | apply IsS70.alloc | apply IsS70.drewN | apply IsS70.drew | apply IsS70.set_0 | apply IsS70.set_1 | apply IsS70.set_2 | apply IsS70.set_3 | apply IsS70.set_4 | refine IsS70.far ?_ NB361_351.out _) | exact HI361.out)⟩, ⟨by repeat (first | (with_reducible first | exact HB.out | apply below_alloc | apply pw_below_drewN | apply below_drew1 | refine below_set ?_ (IsS70.ge HI361.out) | refine below_set ?_ GE351.out) | exact HB.out)⟩⟩
        · rw [if_neg c19] at H
          have c19b0 : (t362 == 0) = false := beq_eq_false_iff_ne.mpr c19
          have c19b1 : (t362 != 0) = true := bne_iff_ne.mpr c19
          (first | rw [c19b0] | (simp only [i64_w, i32_w]; rw [c19b0]) | skip)
          have H' := Aside0.mk H
          clear H
          go_wp2
          go_meet
          case rel => exact ⟨_, (true), (by first | rfl | (simp; done) | (simp [*]; done)), H', ⟨by first | omega | exact Nat.le_refl _⟩, ⟨by (with_reducible repeat (first | refine blk_drewN ?_ _ | refine blk_drew ?_ | refine blk_alloc ?_ _)); exact BK351.out⟩, ⟨by repeat (first | (with_reducible first | exact HI361.out | apply IsS70.alloc | apply IsS70.drewN | apply IsS70.drew | apply IsS70.set_0 | apply IsS70.set_1 | apply IsS70.set_2 | apply IsS70.set_3 | apply IsS70.set_4 | refine IsS70.far ?_ NB361_351.out _) | exact HI361.out)⟩, ⟨by repeat (first | (with_reducible first | exact HB.out | apply below_alloc | apply pw_below_drewN | apply below_drew1 | refine below_set ?_ (IsS70.ge HI361.out) | refine below_set ?_ GE351.out) | exact HB.out)⟩⟩
      case rest =>
        clear HC10
        try clear c1
        try clear c2
        try clear p2
        try clear c5
        try clear c6
        try clear c9
        try clear c10
        try clear c11
        try clear c12
        try clear c16
        try clear c19
        try clear c19b0
        try clear c19b1
        try clear c20
        try clear c20b0
        try clear c20b1
        try clear hcz13_0
        try clear hcz13_1
        try clear hcz13_2
        try clear hcz17_0
        try clear hcz17_1
        try clear hcz17_2
        try clear hfz13_0
        try clear hfz13_1
        try clear hfz13_2
        try clear hfz17_0
        try clear hfz17_1
        try clear hfz17_2
        obtain ⟨kq, x47_9, rfl, HA, HJ9, BK351, HI361, HB⟩ := hcut
        cases kq with
        | zero => exact absurd HA.out (by simp [tricklelaw08_CapacitorGuaranteed.j0])
        | succ kj9 =>
          have H := HA.out
          clear HA
          simp only [tricklelaw08_CapacitorGuaranteed.j0] at H
          by_cases c21 : x47_9 = true
          · subst c21
            have H1 : (some (t362 == 0)) = some r := by rw [if_pos rfl] at H; exact H
            clear H
            have H := H1
            clear H1
            obtain rfl := Option.some.inj H
            go_wp2
            go_ret
            exact ⟨by first | rfl | (simp [errW_none, errW_some] <;> rfl) | (simp [*, errW_none, errW_some] <;> rfl), by repeat (first | (with_reducible first | exact HB.out | apply below_alloc | apply pw_below_drewN | apply below_drew1 | refine below_set ?_ (IsS70.ge HI361.out) | refine below_set ?_ GE351.out) | exact HB.out)⟩
          · replace c21 := Bool.eq_false_iff.mpr c21
            subst c21
            have H1 : ((capacitor_Capacitor_WaitTime.f t356 t357 t358 t359 t360 (wrap64 (a1))).bind fun bt364 => (if bt364.2.1 = true then ((capacitor_Capacitor_Harvest.f bt364.2.2.1 bt364.2.2.2.1 bt364.2.2.2.2.1 bt364.2.2.2.2.2.1 bt364.2.2.2.2.2.2 (wrap64 (a1)) bt364.1).bind fun bt371 => (if bt371.1 = 0 then ((capacitor_Capacitor_Running.f bt371.2.1 bt371.2.2.1 bt371.2.2.2.1 bt371.2.2.2.2.1 bt371.2.2.2.2.2).bind fun bt377 => (tricklelaw08_CapacitorGuaranteed.j1 kj9 l2 (!bt377.1) a0_0 a0_1 a0_2 bt377.2.1 bt377.2.2.1 bt377.2.2.2.1 bt377.2.2.2.2.1 bt377.2.2.2.2.2)) else (tricklelaw08_CapacitorGuaranteed.j1 kj9 l2 true a0_0 a0_1 a0_2 bt371.2.1 bt371.2.2.1 bt371.2.2.2.1 bt371.2.2.2.2.1 bt371.2.2.2.2.2))) else (tricklelaw08_CapacitorGuaranteed.j1 kj9 l2 true a0_0 a0_1 a0_2 bt364.2.2.1 bt364.2.2.2.1 bt364.2.2.2.2.1 bt364.2.2.2.2.2.1 bt364.2.2.2.2.2.2))) = some r := by rw [if_neg (show ¬ (false = true) by decide)] at H; exact H
            clear H
            have H := H1
            clear H1
            replace H := Option.bind_eq_some_iff.mp H
            obtain ⟨⟨t364, t365, t366, t367, t368, t369, t370⟩, A220, H⟩ := H
            replace H : (if t365 = true then ((capacitor_Capacitor_Harvest.f t366 t367 t368 t369 t370 (wrap64 (a1)) t364).bind fun bt371 => (if bt371.1 = 0 then ((capacitor_Capacitor_Running.f bt371.2.1 bt371.2.2.1 bt371.2.2.2.1 bt371.2.2.2.2.1 bt371.2.2.2.2.2).bind fun bt377 => (tricklelaw08_CapacitorGuaranteed.j1 kj9 l2 (!bt377.1) a0_0 a0_1 a0_2 bt377.2.1 bt377.2.2.1 bt377.2.2.2.1 bt377.2.2.2.2.1 bt377.2.2.2.2.2)) else (tricklelaw08_CapacitorGuaranteed.j1 kj9 l2 true a0_0 a0_1 a0_2 bt371.2.1 bt371.2.2.1 bt371.2.2.2.1 bt371.2.2.2.2.1 bt371.2.2.2.2.2))) else (tricklelaw08_CapacitorGuaranteed.j1 kj9 l2 true a0_0 a0_1 a0_2 t366 t367 t368 t369 t370)) = some r := H
            have A22 := Aside0.mk A220
            clear A220
            have HC23 := Aside0.mk H
            clear H
            go_upto_region 9 with (first | ((with_reducible refine gate_callee (f := 19) rfl ?_); refine goesL_ (some 54) rfl rfl Try.func19 (by kernel_rfl) rfl #[.pointer (some ⟨g361, 0, none⟩), .int .i64 (wrap64 (a1))] rfl (by (try simp only [List.map_toArray, List.map_cons, List.map_nil]); first | done | rfl | (simp only [List.length_drop, List.length_take]; rfl)) ?_; (with_reducible refine (capacitor_Capacitor_WaitTime.calls g361 t356 t357 t358 t359 t360 (wrap64 (a1)) t364 t365 t366 t367 t368 t369 t370 w _ ?side1 ?side2 A22.out).mono ?_); (case side1 => repeat (first | (with_reducible first | exact HI361.out | apply IsS70.alloc | apply IsS70.drewN | apply IsS70.drew | apply IsS70.set_0 | apply IsS70.set_1 | apply IsS70.set_2 | apply IsS70.set_3 | apply IsS70.set_4 | refine IsS70.far ?_ NB361_351.out _) | exact HI361.out)); (case side2 => repeat (first | (with_reducible first | exact HB.out | apply below_alloc | apply pw_below_drewN | apply below_drew1 | refine below_set ?_ (IsS70.ge HI361.out) | refine below_set ?_ GE351.out) | exact HB.out)); rintro e w24 ⟨rfl, hi, hb, hk⟩; refine ⟨_, rfl, ?_⟩; have n0_ := Aside0.mk (KeepBut.blk hk (g' := gb351) (o := .cells #[.int .i64 a0_0, .int .i64 a0_1, .int .i64 a0_2] 23 (0, 0)) (by (with_reducible repeat (first | refine blk_drewN ?_ _ | refine blk_drew ?_ | refine blk_alloc ?_ _)); exact BK351.out) NB351_361.out (by simp)); have n1_ := Aside0.mk (hb); have n2_ := Aside0.mk (hi); clear BK351; clear HB; clear HI361; have BK351 := n0_; have HB := n1_; have HI361 := n2_; clear n0_ n1_ n2_; (try clear hb); (try clear hb2); (try clear hk); (try clear hi)))
            (try simp only [Act.put, List.setIfInBounds_toArray, List.set_cons_zero, List.set_cons_succ])
            go_cut [71] (fun v71 wc => ∃ (kq : Nat) (x71_22 : Bool) (x362000_22 : Int) (x362001_22 : Int) (x362002_22 : Int) (x362003_22 : Int) (x362004_22 : Bool), v71 = .bool x71_22 ∧ Aside0 (tricklelaw08_CapacitorGuaranteed.j1 kq l2 x71_22 a0_0 a0_1 a0_2 x362000_22 x362001_22 x362002_22 x362003_22 x362004_22 = some r) ∧ Aside0 (kq ≤ kj9) ∧ Aside0 (wc.heap[gb351]? = some (.cells #[.int .i64 a0_0, .int .i64 a0_1, .int .i64 a0_2] 23 (0, 0))) ∧ Aside0 (IsS70 w wc g361 x362000_22 x362001_22 x362002_22 x362003_22 x362004_22) ∧ Aside0 (Below w.heap.size w wc))
            case first =>
              have H := HC23.out
              clear HC23
              by_cases c25 : t365 = true
              · subst c25
                have H1 : ((capacitor_Capacitor_Harvest.f t366 t367 t368 t369 t370 (wrap64 (a1)) t364).bind fun bt371 => (if bt371.1 = 0 then ((capacitor_Capacitor_Running.f bt371.2.1 bt371.2.2.1 bt371.2.2.2.1 bt371.2.2.2.2.1 bt371.2.2.2.2.2).bind fun bt377 => (tricklelaw08_CapacitorGuaranteed.j1 kj9 l2 (!bt377.1) a0_0 a0_1 a0_2 bt377.2.1 bt377.2.2.1 bt377.2.2.2.1 bt377.2.2.2.2.1 bt377.2.2.2.2.2)) else (tricklelaw08_CapacitorGuaranteed.j1 kj9 l2 true a0_0 a0_1 a0_2 bt371.2.1 bt371.2.2.1 bt371.2.2.2.1 bt371.2.2.2.2.1 bt371.2.2.2.2.2))) = some r := by rw [if_pos rfl] at H; exact H
                clear H
                have H := H1
                clear H1
                replace H := Option.bind_eq_some_iff.mp H
                obtain ⟨⟨t371, t372, t373, t374, t375, t376⟩, A260, H⟩ := H
                replace H : (if t371 = 0 then ((capacitor_Capacitor_Running.f t372 t373 t374 t375 t376).bind fun bt377 => (tricklelaw08_CapacitorGuaranteed.j1 kj9 l2 (!bt377.1) a0_0 a0_1 a0_2 bt377.2.1 bt377.2.2.1 bt377.2.2.2.1 bt377.2.2.2.2.1 bt377.2.2.2.2.2)) else (tricklelaw08_CapacitorGuaranteed.j1 kj9 l2 true a0_0 a0_1 a0_2 t372 t373 t374 t375 t376)) = some r := H
                have A26 := Aside0.mk A260
                clear A260
                by_cases c27 : t371 = 0
                · rw [if_pos c27] at H
                  have c27b0 : (t371 == 0) = true := beq_iff_eq.mpr c27
                  have c27b1 : (t371 != 0) = false := bne_eq_false_iff_eq.mpr c27
                  clear c27
                  (first | rw [c27b0] | (simp only [i64_w, i32_w]; rw [c27b0]) | skip)
                  replace H := Option.bind_eq_some_iff.mp H
                  obtain ⟨⟨t377, t378, t379, t380, t381, t382⟩, A280, H⟩ := H
                  replace H : (tricklelaw08_CapacitorGuaranteed.j1 kj9 l2 (!t377) a0_0 a0_1 a0_2 t378 t379 t380 t381 t382) = some r := H
                  have A28 := Aside0.mk A280
                  clear A280
                  have H' := Aside0.mk H
                  clear H
                  go_wp2_with (first | (go_at_call 15; (with_reducible refine (capacitor_Capacitor_Harvest.calls g361 t366 t367 t368 t369 t370 (wrap64 (a1)) t364 t371 t372 t373 t374 t375 t376 w _ ?side1 ?side2 A26.out).mono ?_); (case side1 => repeat (first | (with_reducible first | exact HI361.out | apply IsS70.alloc | apply IsS70.drewN | apply IsS70.drew | apply IsS70.set_0 | apply IsS70.set_1 | apply IsS70.set_2 | apply IsS70.set_3 | apply IsS70.set_4 | refine IsS70.far ?_ NB361_351.out _) | exact HI361.out)); (case side2 => repeat (first | (with_reducible first | exact HB.out | apply below_alloc | apply pw_below_drewN | apply below_drew1 | refine below_set ?_ (IsS70.ge HI361.out) | refine below_set ?_ GE351.out) | exact HB.out)); rintro e w29 ⟨rfl, hi, hb, hk⟩; have n0_ := Aside0.mk (KeepBut.blk hk (g' := gb351) (o := .cells #[.int .i64 a0_0, .int .i64 a0_1, .int .i64 a0_2] 23 (0, 0)) (by (with_reducible repeat (first | refine blk_drewN ?_ _ | refine blk_drew ?_ | refine blk_alloc ?_ _)); exact BK351.out) NB351_361.out (by simp)); have n1_ := Aside0.mk (hb); have n2_ := Aside0.mk (hi); clear BK351; clear HB; clear HI361; have BK351 := n0_; have HB := n1_; have HI361 := n2_; clear n0_ n1_ n2_; (try clear hb); (try clear hb2); (try clear hk); (try clear hi)) | (go_at_call 16; (with_reducible refine (capacitor_Capacitor_Running.calls g361 t372 t373 t374 t375 t376 t377 t378 t379 t380 t381 t382 w _ ?side1 ?side2 A28.out).mono ?_); (case side1 => repeat (first | (with_reducible first | exact HI361.out | apply IsS70.alloc | apply IsS70.drewN | apply IsS70.drew | apply IsS70.set_0 | apply IsS70.set_1 | apply IsS70.set_2 | apply IsS70.set_3 | apply IsS70.set_4 | refine IsS70.far ?_ NB361_351.out _) | exact HI361.out)); (case side2 => repeat (first | (with_reducible first | exact HB.out | apply below_alloc | apply pw_below_drewN | apply below_drew1 | refine below_set ?_ (IsS70.ge HI361.out) | refine below_set ?_ GE351.out) | exact HB.out)); rintro e w30 ⟨rfl, hi, hb, hk⟩; have n0_ := Aside0.mk (KeepBut.blk hk (g' := gb351) (o := .cells #[.int .i64 a0_0, .int .i64 a0_1, .int .i64 a0_2] 23 (0, 0)) (by (with_reducible repeat (first | refine blk_drewN ?_ _ | refine blk_drew ?_ | refine blk_alloc ?_ _)); exact BK351.out) NB351_361.out (by simp)); have n1_ := Aside0.mk (hb); have n2_ := Aside0.mk (hi); clear BK351; clear HB; clear HI361; have BK351 := n0_; have HB := n1_; have HI361 := n2_; clear n0_ n1_ n2_; (try clear hb); (try clear hb2); (try clear hk); (try clear hi)))
                  go_meet
                  case rel => exact ⟨_, (!t377), (t378), (t379), (t380), (t381), (t382), (by first | rfl | (simp; done) | (simp [*]; done)), H', ⟨by have := HJ9.out; first | omega | exact Nat.le_refl _⟩, ⟨by (with_reducible repeat (first | refine blk_drewN ?_ _ | refine blk_drew ?_ | refine blk_alloc ?_ _)); exact BK351.out⟩, ⟨by repeat (first | (with_reducible first | exact HI361.out | apply IsS70.alloc | apply IsS70.drewN | apply IsS70.drew | apply IsS70.set_0 | apply IsS70.set_1 | apply IsS70.set_2 | apply IsS70.set_3 | apply IsS70.set_4 | refine IsS70.far ?_ NB361_351.out _) | exact HI361.out)⟩, ⟨by repeat (first | (with_reducible first | exact HB.out | apply below_alloc | apply pw_below_drewN | apply below_drew1 | refine below_set ?_ (IsS70.ge HI361.out) | refine below_set ?_ GE351.out) | exact HB.out)⟩⟩
                · rw [if_neg c27] at H
                  have c27b0 : (t371 == 0) = false := beq_eq_false_iff_ne.mpr c27
                  have c27b1 : (t371 != 0) = true := bne_iff_ne.mpr c27
                  (first | rw [c27b0] | (simp only [i64_w, i32_w]; rw [c27b0]) | skip)
                  have H' := Aside0.mk H
                  clear H
                  go_wp2_with (first | (go_at_call 15; (with_reducible refine (capacitor_Capacitor_Harvest.calls g361 t366 t367 t368 t369 t370 (wrap64 (a1)) t364 t371 t372 t373 t374 t375 t376 w _ ?side1 ?side2 A26.out).mono ?_); (case side1 => repeat (first | (with_reducible first | exact HI361.out | apply IsS70.alloc | apply IsS70.drewN | apply IsS70.drew | apply IsS70.set_0 | apply IsS70.set_1 | apply IsS70.set_2 | apply IsS70.set_3 | apply IsS70.set_4 | refine IsS70.far ?_ NB361_351.out _) | exact HI361.out)); (case side2 => repeat (first | (with_reducible first | exact HB.out | apply below_alloc | apply pw_below_drewN | apply below_drew1 | refine below_set ?_ (IsS70.ge HI361.out) | refine below_set ?_ GE351.out) | exact HB.out)); rintro e w31 ⟨rfl, hi, hb, hk⟩; have n0_ := Aside0.mk (KeepBut.blk hk (g' := gb351) (o := .cells #[.int .i64 a0_0, .int .i64 a0_1, .int .i64 a0_2] 23 (0, 0)) (by (with_reducible repeat (first | refine blk_drewN ?_ _ | refine blk_drew ?_ | refine blk_alloc ?_ _)); exact BK351.out) NB351_361.out (by simp)); have n1_ := Aside0.mk (hb); have n2_ := Aside0.mk (hi); clear BK351; clear HB; clear HI361; have BK351 := n0_; have HB := n1_; have HI361 := n2_; clear n0_ n1_ n2_; (try clear hb); (try clear hb2); (try clear hk); (try clear hi)))
                  go_meet
                  case rel => exact ⟨_, (true), (t372), (t373), (t374), (t375), (t376), (by first | rfl | (simp; done) | (simp [*]; done)), H', ⟨by have := HJ9.out; first | omega | exact Nat.le_refl _⟩, ⟨by (with_reducible repeat (first | refine blk_drewN ?_ _ | refine blk_drew ?_ | refine blk_alloc ?_ _)); exact BK351.out⟩, ⟨by repeat (first | (with_reducible first | exact HI361.out | apply IsS70.alloc | apply IsS70.drewN | apply IsS70.drew | apply IsS70.set_0 | apply IsS70.set_1 | apply IsS70.set_2 | apply IsS70.set_3 | apply IsS70.set_4 | refine IsS70.far ?_ NB361_351.out _) | exact HI361.out)⟩, ⟨by repeat (first | (with_reducible first | exact HB.out | apply below_alloc | apply pw_below_drewN | apply below_drew1 | refine below_set ?_ (IsS70.ge HI361.out) | refine below_set ?_ GE351.out) | exact HB.out)⟩⟩
              · replace c25 := Bool.eq_false_iff.mpr c25
                subst c25
                have H1 : (tricklelaw08_CapacitorGuaranteed.j1 kj9 l2 true a0_0 a0_1 a0_2 t366 t367 t368 t369 t370) = some r := by rw [if_neg (show ¬ (false = true) by decide)] at H; exact H
                clear H
                have H := H1
                clear H1
                have H' := Aside0.mk H
                clear H
                go_wp2
                go_meet
                case rel => exact ⟨_, (true), (t366), (t367), (t368), (t369), (t370), (by first | rfl | (simp; done) | (simp [*]; done)), H', ⟨by have := HJ9.out; first | omega | exact Nat.le_refl _⟩, ⟨by (with_reducible repeat (first | refine blk_drewN ?_ _ | refine blk_drew ?_ | refine blk_alloc ?_ _)); exact BK351.out⟩, ⟨by repeat (first | (with_reducible first | exact HI361.out | apply IsS70.alloc | apply IsS70.drewN | apply IsS70.drew | apply IsS70.set_0 | apply IsS70.set_1 | apply IsS70.set_2 | apply IsS70.set_3 | apply IsS70.set_4 | refine IsS70.far ?_ NB361_351.out _) | exact HI361.out)⟩, ⟨by repeat (first | (with_reducible first | exact HB.out | apply below_alloc | apply pw_below_drewN | apply below_drew1 | refine below_set ?_ (IsS70.ge HI361.out) | refine below_set ?_ GE351.out) | exact HB.out)⟩⟩
            case rest =>
              clear HC23
              try clear c1
              try clear c2
              try clear p2
              try clear c5
              try clear c6
              try clear p6
              try clear c9
              try clear c10
              try clear c11
              try clear c12
              try clear c16
              try clear c19
              try clear c19b0
              try clear c19b1
              try clear c20
              try clear c20b0
              try clear c20b1
              try clear c21
              try clear c25
              try clear c27
              try clear c27b0
              try clear c27b1
              try clear hcz13_0
              try clear hcz13_1
              try clear hcz13_2
              try clear hcz17_0
              try clear hcz17_1
              try clear hcz17_2
              try clear hfz13_0
              try clear hfz13_1
              try clear hfz13_2
              try clear hfz17_0
              try clear hfz17_1
              try clear hfz17_2
              try clear p2
              obtain ⟨kq, x71_22, x362000_22, x362001_22, x362002_22, x362003_22, x362004_22, rfl, HA, HJ22, BK351, HI361, HB⟩ := hcut
              cases kq with
              | zero => exact absurd HA.out (by simp [tricklelaw08_CapacitorGuaranteed.j1])
              | succ kj22 =>
                have H := HA.out
                clear HA
                simp only [tricklelaw08_CapacitorGuaranteed.j1] at H
                by_cases c32 : x71_22 = true
                · subst c32
                  have H1 : (some false) = some r := by rw [if_pos rfl] at H; exact H
                  clear H
                  have H := H1
                  clear H1
                  obtain rfl := Option.some.inj H
                  go_wp2
                  go_ret
                  exact ⟨by first | rfl | (simp [errW_none, errW_some] <;> rfl) | (simp [*, errW_none, errW_some] <;> rfl), by repeat (first | (with_reducible first | exact HB.out | apply below_alloc | apply pw_below_drewN | apply below_drew1 | refine below_set ?_ (IsS70.ge HI361.out) | refine below_set ?_ GE351.out) | exact HB.out)⟩
                · replace c32 := Bool.eq_false_iff.mpr c32
                  subst c32
                  have H1 : ((tricklelaw08_config.f a0_0 a0_1 a0_2).bind fun bt383 => ((capacitor_Guaranteed.f bt383.1 bt383.2.1 bt383.2.2).bind fun t386 => (if t386 = (wrap64 ((wrap64 (a0_1 - a0_2)) - 1)) then (tricklelaw08_CapacitorGuaranteed.l0 kj22 t386 l2 (l2.length : Int) 0 x362000_22 x362001_22 x362002_22 x362003_22 x362004_22) else (some false)))) = some r := by rw [if_neg (show ¬ (false = true) by decide)] at H; exact H
                  clear H
                  have H := H1
                  clear H1
                  replace H := Option.bind_eq_some_iff.mp H
                  obtain ⟨⟨t383, t384, t385⟩, A330, H⟩ := H
                  replace H : ((capacitor_Guaranteed.f t383 t384 t385).bind fun t386 => (if t386 = (wrap64 ((wrap64 (a0_1 - a0_2)) - 1)) then (tricklelaw08_CapacitorGuaranteed.l0 kj22 t386 l2 (l2.length : Int) 0 x362000_22 x362001_22 x362002_22 x362003_22 x362004_22) else (some false))) = some r := H
                  have A33 := Aside0.mk A330
                  clear A330
                  replace H := Option.bind_eq_some_iff.mp H
                  obtain ⟨t386, A340, H⟩ := H
                  replace H : (if t386 = (wrap64 ((wrap64 (a0_1 - a0_2)) - 1)) then (tricklelaw08_CapacitorGuaranteed.l0 kj22 t386 l2 (l2.length : Int) 0 x362000_22 x362001_22 x362002_22 x362003_22 x362004_22) else (some false)) = some r := H
                  have A34 := Aside0.mk A340
                  clear A340
                  by_cases c35 : t386 = (wrap64 ((wrap64 (a0_1 - a0_2)) - 1))
                  · rw [if_pos c35] at H
                    have c35b0 : (t386 == (wrap64 ((wrap64 (a0_1 - a0_2)) - 1))) = true := beq_iff_eq.mpr c35
                    have c35b1 : (t386 != (wrap64 ((wrap64 (a0_1 - a0_2)) - 1))) = false := bne_eq_false_iff_eq.mpr c35
                    clear c35
                    have H' := Aside0.mk H
                    clear H
                    have hnb36 := NB351_361.out
                    have hnc36 := NB361_351.out
                    have hcz37_0 : wc.cell? ⟨gb351, 0, none⟩ = some (.int .i64 a0_0) := (blk_cell BK351.out 0).trans rfl
                    have hcz37_1 : wc.cell? ⟨gb351, 1, none⟩ = some (.int .i64 a0_1) := (blk_cell BK351.out 1).trans rfl
                    have hcz37_2 : wc.cell? ⟨gb351, 2, none⟩ = some (.int .i64 a0_2) := (blk_cell BK351.out 2).trans rfl
                    have hfz37_0 := blk_frozen BK351.out 0
                    have hfz37_1 := blk_frozen BK351.out 1
                    have hfz37_2 := blk_frozen BK351.out 2
                    go_wp2_with (first | ((with_reducible refine gate_callee (f := 12) rfl ?_); refine goesL_ (some 73) rfl rfl Try.func12 (by kernel_rfl) rfl #[.agg #[.int .i64 a0_0, .int .i64 a0_1, .int .i64 a0_2]] rfl (by (try simp only [List.map_toArray, List.map_cons, List.map_nil]); first | done | rfl | (simp only [List.length_drop, List.length_take]; rfl)) ?_; (with_reducible refine (tricklelaw08_config.calls a0_0 a0_1 a0_2 t383 t384 t385 _ A33.out).mono ?_); rintro e w38 ⟨rfl, hb⟩; refine ⟨_, rfl, ?_⟩; have n0_ := Aside0.mk (blk_below (g := gb351) (o := .cells #[.int .i64 a0_0, .int .i64 a0_1, .int .i64 a0_2] 23 (0, 0)) (by (with_reducible repeat (first | refine blk_drewN ?_ _ | refine blk_drew ?_ | refine blk_alloc ?_ _)); exact BK351.out) hb); have n1_ := Aside0.mk (IsS70.below (by repeat (first | (with_reducible first | exact HI361.out | apply IsS70.alloc | apply IsS70.drewN | apply IsS70.drew | apply IsS70.set_0 | apply IsS70.set_1 | apply IsS70.set_2 | apply IsS70.set_3 | apply IsS70.set_4 | refine IsS70.far ?_ NB361_351.out _) | exact HI361.out)) hb); have n2_ := Aside0.mk (below_step (by repeat (first | (with_reducible first | exact HB.out | apply below_alloc | apply pw_below_drewN | apply below_drew1 | refine below_set ?_ (IsS70.ge HI361.out) | refine below_set ?_ GE351.out) | exact HB.out)) hb); clear BK351; clear HI361; clear HB; have BK351 := n0_; have HI361 := n1_; have HB := n2_; clear n0_ n1_ n2_; (try clear hb); (try clear hb2); (try clear hk); (try clear hi)) | ((with_reducible refine gate_callee (f := 21) rfl ?_); refine goesL_ (some 74) rfl rfl Try.func21 (by kernel_rfl) rfl #[.agg #[.int .i64 t383, .int .i64 t384, .int .i64 t385]] rfl (by (try simp only [List.map_toArray, List.map_cons, List.map_nil]); first | done | rfl | (simp only [List.length_drop, List.length_take]; rfl)) ?_; (with_reducible refine (capacitor_Guaranteed.calls t383 t384 t385 t386 _ A34.out).mono ?_); rintro e w39 ⟨rfl, hb⟩; refine ⟨_, rfl, ?_⟩; have n0_ := Aside0.mk (blk_below (g := gb351) (o := .cells #[.int .i64 a0_0, .int .i64 a0_1, .int .i64 a0_2] 23 (0, 0)) (by (with_reducible repeat (first | refine blk_drewN ?_ _ | refine blk_drew ?_ | refine blk_alloc ?_ _)); exact BK351.out) hb); have n1_ := Aside0.mk (IsS70.below (by repeat (first | (with_reducible first | exact HI361.out | apply IsS70.alloc | apply IsS70.drewN | apply IsS70.drew | apply IsS70.set_0 | apply IsS70.set_1 | apply IsS70.set_2 | apply IsS70.set_3 | apply IsS70.set_4 | refine IsS70.far ?_ NB361_351.out _) | exact HI361.out)) hb); have n2_ := Aside0.mk (below_step (by repeat (first | (with_reducible first | exact HB.out | apply below_alloc | apply pw_below_drewN | apply below_drew1 | refine below_set ?_ (IsS70.ge HI361.out) | refine below_set ?_ GE351.out) | exact HB.out)) hb); clear BK351; clear HI361; clear HB; have BK351 := n0_; have HI361 := n1_; have HB := n2_; clear n0_ n1_ n2_; (try clear hb); (try clear hb2); (try clear hk); (try clear hi); have hcz40_0 : w39.cell? ⟨gb351, 0, none⟩ = some (.int .i64 a0_0) := (blk_cell BK351.out 0).trans rfl; have hcz40_1 : w39.cell? ⟨gb351, 1, none⟩ = some (.int .i64 a0_1) := (blk_cell BK351.out 1).trans rfl; have hcz40_2 : w39.cell? ⟨gb351, 2, none⟩ = some (.int .i64 a0_2) := (blk_cell BK351.out 2).trans rfl; have hfz40_0 := blk_frozen BK351.out 0; have hfz40_1 := blk_frozen BK351.out 1; have hfz40_2 := blk_frozen BK351.out 2))
                    go_loopg [11, 85] kj22 (fun kq v11 v85 w' => ∃ (x11_3 : Int) (x85_3 : Int) (x362000_3 : Int) (x362001_3 : Int) (x362002_3 : Int) (x362003_3 : Int) (x362004_3 : Bool), v11 = .int .i64 x11_3 ∧ v85 = .int .i64 x85_3 ∧ Aside0 (tricklelaw08_CapacitorGuaranteed.l0 kq x11_3 l2 (l2.length : Int) x85_3 x362000_3 x362001_3 x362002_3 x362003_3 x362004_3 = some r) ∧ Aside0 (kq ≤ kj22) ∧ Aside0 (w'.heap[gb351]? = some (.cells #[.int .i64 a0_0, .int .i64 a0_1, .int .i64 a0_2] 23 (0, 0))) ∧ Aside0 (IsS70 w w' g361 x362000_3 x362001_3 x362002_3 x362003_3 x362004_3) ∧ Aside0 (Below w.heap.size w w'))
                    case atStart => exact ⟨(t386), (0), (x362000_22), (x362001_22), (x362002_22), (x362003_22), (x362004_22), (by first | rfl | (simp; done) | (simp [*]; done)), (by first | rfl | (simp; done) | (simp [*]; done)), H', ⟨Nat.le_refl _⟩, ⟨by (with_reducible repeat (first | refine blk_drewN ?_ _ | refine blk_drew ?_ | refine blk_alloc ?_ _)); exact BK351.out⟩, ⟨by repeat (first | (with_reducible first | exact HI361.out | apply IsS70.alloc | apply IsS70.drewN | apply IsS70.drew | apply IsS70.set_0 | apply IsS70.set_1 | apply IsS70.set_2 | apply IsS70.set_3 | apply IsS70.set_4 | refine IsS70.far ?_ NB361_351.out _) | exact HI361.out)⟩, ⟨by repeat (first | (with_reducible first | exact HB.out | apply below_alloc | apply pw_below_drewN | apply below_drew1 | refine below_set ?_ (IsS70.ge HI361.out) | refine below_set ?_ GE351.out) | exact HB.out)⟩⟩
                    case round =>
                      clear H'
                      try clear c1
                      try clear c2
                      try clear p2
                      try clear c3
                      try clear c5
                      try clear c6
                      try clear p6
                      try clear c9
                      try clear c10
                      try clear c11
                      try clear c12
                      try clear c16
                      try clear c19
                      try clear c19b0
                      try clear c19b1
                      try clear c20
                      try clear c20b0
                      try clear c20b1
                      try clear c21
                      try clear c25
                      try clear c27
                      try clear c27b0
                      try clear c27b1
                      try clear c32
                      try clear c35
                      try clear c35b0
                      try clear c35b1
                      try clear c36
                      try clear hcz13_0
                      try clear hcz13_1
                      try clear hcz13_2
                      try clear hcz17_0
                      try clear hcz17_1
                      try clear hcz17_2
                      try clear hcz37_0
                      try clear hcz37_1
                      try clear hcz37_2
                      try clear hcz40_0
                      try clear hcz40_1
                      try clear hcz40_2
                      try clear hfz13_0
                      try clear hfz13_1
                      try clear hfz13_2
                      try clear hfz17_0
                      try clear hfz17_1
                      try clear hfz17_2
                      try clear hfz37_0
                      try clear hfz37_1
                      try clear hfz37_2
                      try clear hfz40_0
                      try clear hfz40_1
                      try clear hfz40_2
                      try clear p2
                      try clear p6
                      obtain ⟨x11_3, x85_3, x362000_3, x362001_3, x362002_3, x362003_3, x362004_3, rfl, rfl, HA, HK3, BK351, HI361, HB⟩ := hrel
                      cases gk with
                      | zero => exact absurd HA.out (by simp [tricklelaw08_CapacitorGuaranteed.l0])
                      | succ k3 =>
                        have H := HA.out
                        clear HA
                        simp only [tricklelaw08_CapacitorGuaranteed.l0] at H
                        by_cases c41 : x85_3 < (l2.length : Int)
                        · rw [if_pos c41] at H
                          have c41b0 : decide (x85_3 < (l2.length : Int)) = true := decide_eq_true c41
                          clear c41
                          by_cases c42 : 0 ≤ x85_3
                          · rw [if_pos c42] at H
                            have c42b0 : decide (0 ≤ x85_3) = true := decide_eq_true c42
                            clear c42
                            by_cases c43 : x85_3 < (l2.length : Int)
                            · rw [if_pos c43] at H
                              have c43b0 : decide (x85_3 < (l2.length : Int)) = true := decide_eq_true c43
                              clear c43
                              by_cases c44 : (wrap64 (rd l2 x85_3)) > x11_3
                              · rw [if_pos c44] at H
                                have c44b0 : decide (x11_3 < (wrap64 (rd l2 x85_3))) = true := decide_eq_true c44
                                clear c44
                                obtain rfl := Option.some.inj H
                                have p387 : 0 ≤ (x85_3 : Int) := of_decide_eq_true (by first | (with_reducible assumption) | assumption)
                                have q387 : x85_3 < (l2.length : Int) := of_decide_eq_true (by first | (with_reducible assumption) | assumption)
                                obtain ⟨ad387, e387, hx387_0⟩ := Kd.at_int HR2.out x85_3 p387 q387
                                cases e387
                                replace hx387_0 := (HB.out.cell (World.block_lt_of_cell? w _ hx387_0)).trans hx387_0
                                replace p387 := eq_true p387
                                replace q387 := eq_true q387
                                go_wp2
                                go_ret
                                exact ⟨by first | rfl | (simp [errW_none, errW_some] <;> rfl) | (simp [*, errW_none, errW_some] <;> rfl), by repeat (first | (with_reducible first | exact HB.out | apply below_alloc | apply pw_below_drewN | apply below_drew1 | refine below_set ?_ (IsS70.ge HI361.out) | refine below_set ?_ GE351.out) | exact HB.out)⟩
                              · rw [if_neg c44] at H
                                have c44b0 : decide (x11_3 < (wrap64 (rd l2 x85_3))) = false := decide_eq_false c44
                                clear c44
                                replace H := Option.bind_eq_some_iff.mp H
                                obtain ⟨⟨t388, t389, t390, t391, t392, t393⟩, A450, H⟩ := H
                                replace H : (if t388 = true then ((capacitor_Capacitor_Running.f t389 t390 t391 t392 t393).bind fun bt394 => (if bt394.1 = true then (tricklelaw08_CapacitorGuaranteed.l0 k3 (wrap64 (x11_3 - (wrap64 (rd l2 x85_3)))) l2 (l2.length : Int) (wrap64 (x85_3 + 1)) bt394.2.1 bt394.2.2.1 bt394.2.2.2.1 bt394.2.2.2.2.1 bt394.2.2.2.2.2) else (some false))) else (some false)) = some r := H
                                have A45 := Aside0.mk A450
                                clear A450
                                by_cases c46 : t388 = true
                                · subst c46
                                  have H1 : ((capacitor_Capacitor_Running.f t389 t390 t391 t392 t393).bind fun bt394 => (if bt394.1 = true then (tricklelaw08_CapacitorGuaranteed.l0 k3 (wrap64 (x11_3 - (wrap64 (rd l2 x85_3)))) l2 (l2.length : Int) (wrap64 (x85_3 + 1)) bt394.2.1 bt394.2.2.1 bt394.2.2.2.1 bt394.2.2.2.2.1 bt394.2.2.2.2.2) else (some false))) = some r := by rw [if_pos rfl] at H; exact H
                                  clear H
                                  have H := H1
                                  clear H1
                                  replace H := Option.bind_eq_some_iff.mp H
                                  obtain ⟨⟨t394, t395, t396, t397, t398, t399⟩, A470, H⟩ := H
                                  replace H : (if t394 = true then (tricklelaw08_CapacitorGuaranteed.l0 k3 (wrap64 (x11_3 - (wrap64 (rd l2 x85_3)))) l2 (l2.length : Int) (wrap64 (x85_3 + 1)) t395 t396 t397 t398 t399) else (some false)) = some r := H
                                  have A47 := Aside0.mk A470
                                  clear A470
                                  by_cases c48 : t394 = true
                                  · subst c48
                                    have H1 : (tricklelaw08_CapacitorGuaranteed.l0 k3 (wrap64 (x11_3 - (wrap64 (rd l2 x85_3)))) l2 (l2.length : Int) (wrap64 (x85_3 + 1)) t395 t396 t397 t398 t399) = some r := by rw [if_pos rfl] at H; exact H
                                    clear H
                                    have H := H1
                                    clear H1
                                    have H' := Aside0.mk H
                                    clear H
                                    have p387 : 0 ≤ (x85_3 : Int) := of_decide_eq_true (by first | (with_reducible assumption) | assumption)
                                    have q387 : x85_3 < (l2.length : Int) := of_decide_eq_true (by first | (with_reducible assumption) | assumption)
                                    obtain ⟨ad387, e387, hx387_0⟩ := Kd.at_int HR2.out x85_3 p387 q387
                                    cases e387
                                    replace hx387_0 := (HB.out.cell (World.block_lt_of_cell? w _ hx387_0)).trans hx387_0
                                    replace p387 := eq_true p387
                                    replace q387 := eq_true q387
                                    go_wp2_with (first | ((with_reducible refine gate_callee (f := 14) rfl ?_); refine goesL_ (some 100) rfl rfl Try.func14 (by kernel_rfl) rfl #[.pointer (some ⟨g361, 0, none⟩), .int .i64 (wrap64 (rd l2 x85_3))] rfl (by (try simp only [List.map_toArray, List.map_cons, List.map_nil]); first | done | rfl | (simp only [List.length_drop, List.length_take]; rfl)) ?_; (with_reducible refine (capacitor_Capacitor_Draw.calls g361 x362000_3 x362001_3 x362002_3 x362003_3 x362004_3 (wrap64 (rd l2 x85_3)) true t389 t390 t391 t392 t393 w _ ?side1 ?side2 A45.out).mono ?_); (case side1 => repeat (first | (with_reducible first | exact HI361.out | apply IsS70.alloc | apply IsS70.drewN | apply IsS70.drew | apply IsS70.set_0 | apply IsS70.set_1 | apply IsS70.set_2 | apply IsS70.set_3 | apply IsS70.set_4 | refine IsS70.far ?_ NB361_351.out _) | exact HI361.out)); (case side2 => repeat (first | (with_reducible first | exact HB.out | apply below_alloc | apply pw_below_drewN | apply below_drew1 | refine below_set ?_ (IsS70.ge HI361.out) | refine below_set ?_ GE351.out) | exact HB.out)); rintro e w49 ⟨rfl, hi, hb, hk⟩; refine ⟨_, rfl, ?_⟩; have n0_ := Aside0.mk (KeepBut.blk hk (g' := gb351) (o := .cells #[.int .i64 a0_0, .int .i64 a0_1, .int .i64 a0_2] 23 (0, 0)) (by (with_reducible repeat (first | refine blk_drewN ?_ _ | refine blk_drew ?_ | refine blk_alloc ?_ _)); exact BK351.out) NB351_361.out (by simp)); have n1_ := Aside0.mk (hb); have n2_ := Aside0.mk (hi); clear BK351; clear HB; clear HI361; have BK351 := n0_; have HB := n1_; have HI361 := n2_; clear n0_ n1_ n2_; (try clear hb); (try clear hb2); (try clear hk); (try clear hi)) | (go_at_call 16; (with_reducible refine (capacitor_Capacitor_Running.calls g361 t389 t390 t391 t392 t393 true t395 t396 t397 t398 t399 w _ ?side1 ?side2 A47.out).mono ?_); (case side1 => repeat (first | (with_reducible first | exact HI361.out | apply IsS70.alloc | apply IsS70.drewN | apply IsS70.drew | apply IsS70.set_0 | apply IsS70.set_1 | apply IsS70.set_2 | apply IsS70.set_3 | apply IsS70.set_4 | refine IsS70.far ?_ NB361_351.out _) | exact HI361.out)); (case side2 => repeat (first | (with_reducible first | exact HB.out | apply below_alloc | apply pw_below_drewN | apply below_drew1 | refine below_set ?_ (IsS70.ge HI361.out) | refine below_set ?_ GE351.out) | exact HB.out)); rintro e w50 ⟨rfl, hi, hb, hk⟩; have n0_ := Aside0.mk (KeepBut.blk hk (g' := gb351) (o := .cells #[.int .i64 a0_0, .int .i64 a0_1, .int .i64 a0_2] 23 (0, 0)) (by (with_reducible repeat (first | refine blk_drewN ?_ _ | refine blk_drew ?_ | refine blk_alloc ?_ _)); exact BK351.out) NB351_361.out (by simp)); have n1_ := Aside0.mk (hb); have n2_ := Aside0.mk (hi); clear BK351; clear HB; clear HI361; have BK351 := n0_; have HB := n1_; have HI361 := n2_; clear n0_ n1_ n2_; (try clear hb); (try clear hb2); (try clear hk); (try clear hi)))
                                    go_roundg k3
                                    case measure => have := HJ9.out; have := HJ22.out; have := HK3.out; omega
                                    case rel => exact ⟨(wrap64 (x11_3 - (wrap64 (rd l2 x85_3)))), (wrap64 (x85_3 + 1)), (t395), (t396), (t397), (t398), (t399), (by first | rfl | (simp; done) | (simp [*]; done)), (by first | rfl | (simp; done) | (simp [*]; done)), H', ⟨by have := HJ9.out; have := HJ22.out; have := HK3.out; omega⟩, ⟨by (with_reducible repeat (first | refine blk_drewN ?_ _ | refine blk_drew ?_ | refine blk_alloc ?_ _)); exact BK351.out⟩, ⟨by repeat (first | (with_reducible first | exact HI361.out | apply IsS70.alloc | apply IsS70.drewN | apply IsS70.drew | apply IsS70.set_0 | apply IsS70.set_1 | apply IsS70.set_2 | apply IsS70.set_3 | apply IsS70.set_4 | refine IsS70.far ?_ NB361_351.out _) | exact HI361.out)⟩, ⟨by repeat (first | (with_reducible first | exact HB.out | apply below_alloc | apply pw_below_drewN | apply below_drew1 | refine below_set ?_ (IsS70.ge HI361.out) | refine below_set ?_ GE351.out) | exact HB.out)⟩⟩
                                  · replace c48 := Bool.eq_false_iff.mpr c48
                                    subst c48
                                    have H1 : (some false) = some r := by rw [if_neg (show ¬ (false = true) by decide)] at H; exact H
                                    clear H
                                    have H := H1
                                    clear H1
                                    obtain rfl := Option.some.inj H
                                    have p387 : 0 ≤ (x85_3 : Int) := of_decide_eq_true (by first | (with_reducible assumption) | assumption)
                                    have q387 : x85_3 < (l2.length : Int) := of_decide_eq_true (by first | (with_reducible assumption) | assumption)
                                    obtain ⟨ad387, e387, hx387_0⟩ := Kd.at_int HR2.out x85_3 p387 q387
                                    cases e387
                                    replace hx387_0 := (HB.out.cell (World.block_lt_of_cell? w _ hx387_0)).trans hx387_0
                                    replace p387 := eq_true p387
                                    replace q387 := eq_true q387
                                    go_wp2_with (first | ((with_reducible refine gate_callee (f := 14) rfl ?_); refine goesL_ (some 100) rfl rfl Try.func14 (by kernel_rfl) rfl #[.pointer (some ⟨g361, 0, none⟩), .int .i64 (wrap64 (rd l2 x85_3))] rfl (by (try simp only [List.map_toArray, List.map_cons, List.map_nil]); first | done | rfl | (simp only [List.length_drop, List.length_take]; rfl)) ?_; (with_reducible refine (capacitor_Capacitor_Draw.calls g361 x362000_3 x362001_3 x362002_3 x362003_3 x362004_3 (wrap64 (rd l2 x85_3)) true t389 t390 t391 t392 t393 w _ ?side1 ?side2 A45.out).mono ?_); (case side1 => repeat (first | (with_reducible first | exact HI361.out | apply IsS70.alloc | apply IsS70.drewN | apply IsS70.drew | apply IsS70.set_0 | apply IsS70.set_1 | apply IsS70.set_2 | apply IsS70.set_3 | apply IsS70.set_4 | refine IsS70.far ?_ NB361_351.out _) | exact HI361.out)); (case side2 => repeat (first | (with_reducible first | exact HB.out | apply below_alloc | apply pw_below_drewN | apply below_drew1 | refine below_set ?_ (IsS70.ge HI361.out) | refine below_set ?_ GE351.out) | exact HB.out)); rintro e w51 ⟨rfl, hi, hb, hk⟩; refine ⟨_, rfl, ?_⟩; have n0_ := Aside0.mk (KeepBut.blk hk (g' := gb351) (o := .cells #[.int .i64 a0_0, .int .i64 a0_1, .int .i64 a0_2] 23 (0, 0)) (by (with_reducible repeat (first | refine blk_drewN ?_ _ | refine blk_drew ?_ | refine blk_alloc ?_ _)); exact BK351.out) NB351_361.out (by simp)); have n1_ := Aside0.mk (hb); have n2_ := Aside0.mk (hi); clear BK351; clear HB; clear HI361; have BK351 := n0_; have HB := n1_; have HI361 := n2_; clear n0_ n1_ n2_; (try clear hb); (try clear hb2); (try clear hk); (try clear hi)) | (go_at_call 16; (with_reducible refine (capacitor_Capacitor_Running.calls g361 t389 t390 t391 t392 t393 false t395 t396 t397 t398 t399 w _ ?side1 ?side2 A47.out).mono ?_); (case side1 => repeat (first | (with_reducible first | exact HI361.out | apply IsS70.alloc | apply IsS70.drewN | apply IsS70.drew | apply IsS70.set_0 | apply IsS70.set_1 | apply IsS70.set_2 | apply IsS70.set_3 | apply IsS70.set_4 | refine IsS70.far ?_ NB361_351.out _) | exact HI361.out)); (case side2 => repeat (first | (with_reducible first | exact HB.out | apply below_alloc | apply pw_below_drewN | apply below_drew1 | refine below_set ?_ (IsS70.ge HI361.out) | refine below_set ?_ GE351.out) | exact HB.out)); rintro e w52 ⟨rfl, hi, hb, hk⟩; have n0_ := Aside0.mk (KeepBut.blk hk (g' := gb351) (o := .cells #[.int .i64 a0_0, .int .i64 a0_1, .int .i64 a0_2] 23 (0, 0)) (by (with_reducible repeat (first | refine blk_drewN ?_ _ | refine blk_drew ?_ | refine blk_alloc ?_ _)); exact BK351.out) NB351_361.out (by simp)); have n1_ := Aside0.mk (hb); have n2_ := Aside0.mk (hi); clear BK351; clear HB; clear HI361; have BK351 := n0_; have HB := n1_; have HI361 := n2_; clear n0_ n1_ n2_; (try clear hb); (try clear hb2); (try clear hk); (try clear hi)))
                                    go_ret
                                    exact ⟨by first | rfl | (simp [errW_none, errW_some] <;> rfl) | (simp [*, errW_none, errW_some] <;> rfl), by repeat (first | (with_reducible first | exact HB.out | apply below_alloc | apply pw_below_drewN | apply below_drew1 | refine below_set ?_ (IsS70.ge HI361.out) | refine below_set ?_ GE351.out) | exact HB.out)⟩
                                · replace c46 := Bool.eq_false_iff.mpr c46
                                  subst c46
                                  have H1 : (some false) = some r := by rw [if_neg (show ¬ (false = true) by decide)] at H; exact H
                                  clear H
                                  have H := H1
                                  clear H1
                                  obtain rfl := Option.some.inj H
                                  have p387 : 0 ≤ (x85_3 : Int) := of_decide_eq_true (by first | (with_reducible assumption) | assumption)
                                  have q387 : x85_3 < (l2.length : Int) := of_decide_eq_true (by first | (with_reducible assumption) | assumption)
                                  obtain ⟨ad387, e387, hx387_0⟩ := Kd.at_int HR2.out x85_3 p387 q387
                                  cases e387
                                  replace hx387_0 := (HB.out.cell (World.block_lt_of_cell? w _ hx387_0)).trans hx387_0
                                  replace p387 := eq_true p387
                                  replace q387 := eq_true q387
                                  go_wp2_with (first | ((with_reducible refine gate_callee (f := 14) rfl ?_); refine goesL_ (some 100) rfl rfl Try.func14 (by kernel_rfl) rfl #[.pointer (some ⟨g361, 0, none⟩), .int .i64 (wrap64 (rd l2 x85_3))] rfl (by (try simp only [List.map_toArray, List.map_cons, List.map_nil]); first | done | rfl | (simp only [List.length_drop, List.length_take]; rfl)) ?_; (with_reducible refine (capacitor_Capacitor_Draw.calls g361 x362000_3 x362001_3 x362002_3 x362003_3 x362004_3 (wrap64 (rd l2 x85_3)) false t389 t390 t391 t392 t393 w _ ?side1 ?side2 A45.out).mono ?_); (case side1 => repeat (first | (with_reducible first | exact HI361.out | apply IsS70.alloc | apply IsS70.drewN | apply IsS70.drew | apply IsS70.set_0 | apply IsS70.set_1 | apply IsS70.set_2 | apply IsS70.set_3 | apply IsS70.set_4 | refine IsS70.far ?_ NB361_351.out _) | exact HI361.out)); (case side2 => repeat (first | (with_reducible first | exact HB.out | apply below_alloc | apply pw_below_drewN | apply below_drew1 | refine below_set ?_ (IsS70.ge HI361.out) | refine below_set ?_ GE351.out) | exact HB.out)); rintro e w53 ⟨rfl, hi, hb, hk⟩; refine ⟨_, rfl, ?_⟩; have n0_ := Aside0.mk (KeepBut.blk hk (g' := gb351) (o := .cells #[.int .i64 a0_0, .int .i64 a0_1, .int .i64 a0_2] 23 (0, 0)) (by (with_reducible repeat (first | refine blk_drewN ?_ _ | refine blk_drew ?_ | refine blk_alloc ?_ _)); exact BK351.out) NB351_361.out (by simp)); have n1_ := Aside0.mk (hb); have n2_ := Aside0.mk (hi); clear BK351; clear HB; clear HI361; have BK351 := n0_; have HB := n1_; have HI361 := n2_; clear n0_ n1_ n2_; (try clear hb); (try clear hb2); (try clear hk); (try clear hi)))
                                  go_ret
                                  exact ⟨by first | rfl | (simp [errW_none, errW_some] <;> rfl) | (simp [*, errW_none, errW_some] <;> rfl), by repeat (first | (with_reducible first | exact HB.out | apply below_alloc | apply pw_below_drewN | apply below_drew1 | refine below_set ?_ (IsS70.ge HI361.out) | refine below_set ?_ GE351.out) | exact HB.out)⟩
                            · rw [if_neg c43] at H
                              exact absurd H (by simp)
                          · rw [if_neg c42] at H
                            exact absurd H (by simp)
                        · rw [if_neg c41] at H
                          have c41b0 : decide (x85_3 < (l2.length : Int)) = false := decide_eq_false c41
                          clear c41
                          obtain rfl := Option.some.inj H
                          go_wp2
                          go_ret
                          exact ⟨by first | rfl | (simp [errW_none, errW_some] <;> rfl) | (simp [*, errW_none, errW_some] <;> rfl), by repeat (first | (with_reducible first | exact HB.out | apply below_alloc | apply pw_below_drewN | apply below_drew1 | refine below_set ?_ (IsS70.ge HI361.out) | refine below_set ?_ GE351.out) | exact HB.out)⟩
                  · rw [if_neg c35] at H
                    have c35b0 : (t386 == (wrap64 ((wrap64 (a0_1 - a0_2)) - 1))) = false := beq_eq_false_iff_ne.mpr c35
                    have c35b1 : (t386 != (wrap64 ((wrap64 (a0_1 - a0_2)) - 1))) = true := bne_iff_ne.mpr c35
                    obtain rfl := Option.some.inj H
                    have hnb54 := NB351_361.out
                    have hnc54 := NB361_351.out
                    have hcz55_0 : wc.cell? ⟨gb351, 0, none⟩ = some (.int .i64 a0_0) := (blk_cell BK351.out 0).trans rfl
                    have hcz55_1 : wc.cell? ⟨gb351, 1, none⟩ = some (.int .i64 a0_1) := (blk_cell BK351.out 1).trans rfl
                    have hcz55_2 : wc.cell? ⟨gb351, 2, none⟩ = some (.int .i64 a0_2) := (blk_cell BK351.out 2).trans rfl
                    have hfz55_0 := blk_frozen BK351.out 0
                    have hfz55_1 := blk_frozen BK351.out 1
                    have hfz55_2 := blk_frozen BK351.out 2
                    go_wp2_with (first | ((with_reducible refine gate_callee (f := 12) rfl ?_); refine goesL_ (some 73) rfl rfl Try.func12 (by kernel_rfl) rfl #[.agg #[.int .i64 a0_0, .int .i64 a0_1, .int .i64 a0_2]] rfl (by (try simp only [List.map_toArray, List.map_cons, List.map_nil]); first | done | rfl | (simp only [List.length_drop, List.length_take]; rfl)) ?_; (with_reducible refine (tricklelaw08_config.calls a0_0 a0_1 a0_2 t383 t384 t385 _ A33.out).mono ?_); rintro e w56 ⟨rfl, hb⟩; refine ⟨_, rfl, ?_⟩; have n0_ := Aside0.mk (blk_below (g := gb351) (o := .cells #[.int .i64 a0_0, .int .i64 a0_1, .int .i64 a0_2] 23 (0, 0)) (by (with_reducible repeat (first | refine blk_drewN ?_ _ | refine blk_drew ?_ | refine blk_alloc ?_ _)); exact BK351.out) hb); have n1_ := Aside0.mk (IsS70.below (by repeat (first | (with_reducible first | exact HI361.out | apply IsS70.alloc | apply IsS70.drewN | apply IsS70.drew | apply IsS70.set_0 | apply IsS70.set_1 | apply IsS70.set_2 | apply IsS70.set_3 | apply IsS70.set_4 | refine IsS70.far ?_ NB361_351.out _) | exact HI361.out)) hb); have n2_ := Aside0.mk (below_step (by repeat (first | (with_reducible first | exact HB.out | apply below_alloc | apply pw_below_drewN | apply below_drew1 | refine below_set ?_ (IsS70.ge HI361.out) | refine below_set ?_ GE351.out) | exact HB.out)) hb); clear BK351; clear HI361; clear HB; have BK351 := n0_; have HI361 := n1_; have HB := n2_; clear n0_ n1_ n2_; (try clear hb); (try clear hb2); (try clear hk); (try clear hi)) | ((with_reducible refine gate_callee (f := 21) rfl ?_); refine goesL_ (some 74) rfl rfl Try.func21 (by kernel_rfl) rfl #[.agg #[.int .i64 t383, .int .i64 t384, .int .i64 t385]] rfl (by (try simp only [List.map_toArray, List.map_cons, List.map_nil]); first | done | rfl | (simp only [List.length_drop, List.length_take]; rfl)) ?_; (with_reducible refine (capacitor_Guaranteed.calls t383 t384 t385 t386 _ A34.out).mono ?_); rintro e w57 ⟨rfl, hb⟩; refine ⟨_, rfl, ?_⟩; have n0_ := Aside0.mk (blk_below (g := gb351) (o := .cells #[.int .i64 a0_0, .int .i64 a0_1, .int .i64 a0_2] 23 (0, 0)) (by (with_reducible repeat (first | refine blk_drewN ?_ _ | refine blk_drew ?_ | refine blk_alloc ?_ _)); exact BK351.out) hb); have n1_ := Aside0.mk (IsS70.below (by repeat (first | (with_reducible first | exact HI361.out | apply IsS70.alloc | apply IsS70.drewN | apply IsS70.drew | apply IsS70.set_0 | apply IsS70.set_1 | apply IsS70.set_2 | apply IsS70.set_3 | apply IsS70.set_4 | refine IsS70.far ?_ NB361_351.out _) | exact HI361.out)) hb); have n2_ := Aside0.mk (below_step (by repeat (first | (with_reducible first | exact HB.out | apply below_alloc | apply pw_below_drewN | apply below_drew1 | refine below_set ?_ (IsS70.ge HI361.out) | refine below_set ?_ GE351.out) | exact HB.out)) hb); clear BK351; clear HI361; clear HB; have BK351 := n0_; have HI361 := n1_; have HB := n2_; clear n0_ n1_ n2_; (try clear hb); (try clear hb2); (try clear hk); (try clear hi); have hcz58_0 : w57.cell? ⟨gb351, 0, none⟩ = some (.int .i64 a0_0) := (blk_cell BK351.out 0).trans rfl; have hcz58_1 : w57.cell? ⟨gb351, 1, none⟩ = some (.int .i64 a0_1) := (blk_cell BK351.out 1).trans rfl; have hcz58_2 : w57.cell? ⟨gb351, 2, none⟩ = some (.int .i64 a0_2) := (blk_cell BK351.out 2).trans rfl; have hfz58_0 := blk_frozen BK351.out 0; have hfz58_1 := blk_frozen BK351.out 1; have hfz58_2 := blk_frozen BK351.out 2))
                    go_ret
                    exact ⟨by first | rfl | (simp [errW_none, errW_some] <;> rfl) | (simp [*, errW_none, errW_some] <;> rfl), by repeat (first | (with_reducible first | exact HB.out | apply below_alloc | apply pw_below_drewN | apply below_drew1 | refine below_set ?_ (IsS70.ge HI361.out) | refine below_set ?_ GE351.out) | exact HB.out)⟩
    · replace c9 := Bool.eq_false_iff.mpr c9
      subst c9
      have H1 : (some false) = some r := by rw [if_neg (show ¬ (false = true) by decide)] at H; exact H
      clear H
      have H := H1
      clear H1
      obtain rfl := Option.some.inj H
      go_enter Try.func6, Try.ntmps6
      go_wp2_with (first | ((with_reducible refine gate_dst (N := 3) rfl ?_); (try (refine gate_guard (by rfl) ?_; dsimp only)); refine box_event ?hg (N := 3) ?hd (cs := #[.int .i64 a0_0, .int .i64 a0_1, .int .i64 a0_2]) (t := 23) ?hr ?_; (case hd => rfl); (case hg => rfl); (case hr => first | (go_simp; done) | (go_simp; rfl)); intro gb351 hg w59 hbox hb; have n0_ := Aside0.mk (below_step (by repeat (first | (with_reducible first | exact HB.out | apply below_alloc | apply pw_below_drewN | apply below_drew1) | exact HB.out)) hb); have n1_ := Aside0.mk (hbox); have n2_ := Aside0.mk ((by rw [hg]; exact (below_size (by repeat (first | (with_reducible first | exact HB.out | apply below_alloc | apply pw_below_drewN | apply below_drew1) | exact HB.out))) : w.heap.size ≤ gb351)); have n3_ := Aside0.mk ((by rw [hg]; exact (below_size (by repeat (first | (with_reducible first | exact HB.out | apply below_alloc | apply pw_below_drewN | apply below_drew1) | exact HB.out))) : w.heap.size ≤ gb351)); clear HB; have HB := n0_; have BK351 := n1_; have GW351 := n2_; have GE351 := n3_; clear n0_ n1_ n2_ n3_; clear hb hbox hg) | ((with_reducible refine gate_callee (f := 9) rfl ?_); refine goesL_ (some 14) rfl rfl Try.func9 (by kernel_rfl) rfl #[] rfl (by (try simp only [List.map_toArray, List.map_cons, List.map_nil]); first | done | rfl | (simp only [List.length_drop, List.length_take]; rfl)) ?_; (with_reducible refine (tricklelaw08_awake.calls k  true _ A4.out).mono ?_); rintro e w60 ⟨rfl, hb⟩; refine ⟨_, rfl, ?_⟩; have n0_ := Aside0.mk (blk_below (g := gb351) (o := .cells #[.int .i64 a0_0, .int .i64 a0_1, .int .i64 a0_2] 23 (0, 0)) (by (with_reducible repeat (first | refine blk_drewN ?_ _ | refine blk_drew ?_ | refine blk_alloc ?_ _)); exact BK351.out) hb); have n1_ := Aside0.mk (below_step (by repeat (first | (with_reducible first | exact HB.out | apply below_alloc | apply pw_below_drewN | apply below_drew1 | refine below_set ?_ GE351.out) | exact HB.out)) hb); clear BK351; clear HB; have BK351 := n0_; have HB := n1_; clear n0_ n1_; (try clear hb); (try clear hb2); (try clear hk); (try clear hi); have hcz61_0 : w60.cell? ⟨gb351, 0, none⟩ = some (.int .i64 a0_0) := (blk_cell BK351.out 0).trans rfl; have hcz61_1 : w60.cell? ⟨gb351, 1, none⟩ = some (.int .i64 a0_1) := (blk_cell BK351.out 1).trans rfl; have hcz61_2 : w60.cell? ⟨gb351, 2, none⟩ = some (.int .i64 a0_2) := (blk_cell BK351.out 2).trans rfl; have hfz61_0 := blk_frozen BK351.out 0; have hfz61_1 := blk_frozen BK351.out 1; have hfz61_2 := blk_frozen BK351.out 2) | ((with_reducible refine gate_callee (f := 12) rfl ?_); refine goesL_ (some 18) rfl rfl Try.func12 (by kernel_rfl) rfl #[.agg #[.int .i64 a0_0, .int .i64 a0_1, .int .i64 a0_2]] rfl (by (try simp only [List.map_toArray, List.map_cons, List.map_nil]); first | done | rfl | (simp only [List.length_drop, List.length_take]; rfl)) ?_; (with_reducible refine (tricklelaw08_config.calls a0_0 a0_1 a0_2 t353 t354 t355 _ A6.out).mono ?_); rintro e w62 ⟨rfl, hb⟩; refine ⟨_, rfl, ?_⟩; have n0_ := Aside0.mk (blk_below (g := gb351) (o := .cells #[.int .i64 a0_0, .int .i64 a0_1, .int .i64 a0_2] 23 (0, 0)) (by (with_reducible repeat (first | refine blk_drewN ?_ _ | refine blk_drew ?_ | refine blk_alloc ?_ _)); exact BK351.out) hb); have n1_ := Aside0.mk (below_step (by repeat (first | (with_reducible first | exact HB.out | apply below_alloc | apply pw_below_drewN | apply below_drew1 | refine below_set ?_ GE351.out) | exact HB.out)) hb); clear BK351; clear HB; have BK351 := n0_; have HB := n1_; clear n0_ n1_; (try clear hb); (try clear hb2); (try clear hk); (try clear hi)) | ((with_reducible refine gate_callee (f := 11) rfl ?_); refine goesL_ (some 19) rfl rfl Try.func11 (by kernel_rfl) rfl #[.agg #[.int .i64 t353, .int .i64 t354, .int .i64 t355]] rfl (by (try simp only [List.map_toArray, List.map_cons, List.map_nil]); first | done | rfl | (simp only [List.length_drop, List.length_take]; rfl)) ?_; (with_reducible refine (capacitor_New.calls t353 t354 t355 t356 t357 t358 t359 t360 t362 w _ ?side1 A7.out).mono ?_); (case side1 => repeat (first | (with_reducible first | exact HB.out | apply below_alloc | apply pw_below_drewN | apply below_drew1 | refine below_set ?_ GE351.out) | exact HB.out)); rintro e w63 ⟨g361, rfl, hi, hb, hb2⟩; refine ⟨_, rfl, ?_⟩; have n0_ := Aside0.mk (blk_below (g := gb351) (o := .cells #[.int .i64 a0_0, .int .i64 a0_1, .int .i64 a0_2] 23 (0, 0)) (by (with_reducible repeat (first | refine blk_drewN ?_ _ | refine blk_drew ?_ | refine blk_alloc ?_ _)); exact BK351.out) hb2); have n1_ := Aside0.mk (hb); have n2_ := Aside0.mk (hi); have n3_ := Aside0.mk (IsS70.ne_blk hi (blk_below (g := gb351) (o := .cells #[.int .i64 a0_0, .int .i64 a0_1, .int .i64 a0_2] 23 (0, 0)) (by (with_reducible repeat (first | refine blk_drewN ?_ _ | refine blk_drew ?_ | refine blk_alloc ?_ _)); exact BK351.out) hb2) (by decide)); have n4_ := Aside0.mk (Ne.symm (IsS70.ne_blk hi (blk_below (g := gb351) (o := .cells #[.int .i64 a0_0, .int .i64 a0_1, .int .i64 a0_2] 23 (0, 0)) (by (with_reducible repeat (first | refine blk_drewN ?_ _ | refine blk_drew ?_ | refine blk_alloc ?_ _)); exact BK351.out) hb2) (by decide))); clear BK351; clear HB; have BK351 := n0_; have HB := n1_; have HI361 := n2_; have NB361_351 := n3_; have NB351_361 := n4_; clear n0_ n1_ n2_ n3_ n4_; (try clear hb); (try clear hb2); (try clear hk); (try clear hi); have hnb64 := NB351_361.out; have hnc64 := NB361_351.out; have hcz65_0 : w63.cell? ⟨gb351, 0, none⟩ = some (.int .i64 a0_0) := (blk_cell BK351.out 0).trans rfl; have hcz65_1 : w63.cell? ⟨gb351, 1, none⟩ = some (.int .i64 a0_1) := (blk_cell BK351.out 1).trans rfl; have hcz65_2 : w63.cell? ⟨gb351, 2, none⟩ = some (.int .i64 a0_2) := (blk_cell BK351.out 2).trans rfl; have hfz65_0 := blk_frozen BK351.out 0; have hfz65_1 := blk_frozen BK351.out 1; have hfz65_2 := blk_frozen BK351.out 2) | ((with_reducible refine gate_callee (f := 10) rfl ?_); refine goesL_ (some 23) rfl rfl Try.func10 (by kernel_rfl) rfl #[.agg #[.int .i64 a0_0, .int .i64 a0_1, .int .i64 a0_2]] rfl (by (try simp only [List.map_toArray, List.map_cons, List.map_nil]); first | done | rfl | (simp only [List.length_drop, List.length_take]; rfl)) ?_; (with_reducible refine (trickleref08_Valid.calls a0_0 a0_1 a0_2 false _ A8.out).mono ?_); rintro e w66 ⟨rfl, hb⟩; refine ⟨_, rfl, ?_⟩; have n0_ := Aside0.mk (blk_below (g := gb351) (o := .cells #[.int .i64 a0_0, .int .i64 a0_1, .int .i64 a0_2] 23 (0, 0)) (by (with_reducible repeat (first | refine blk_drewN ?_ _ | refine blk_drew ?_ | refine blk_alloc ?_ _)); exact BK351.out) hb); have n1_ := Aside0.mk (IsS70.below (by repeat (first | (with_reducible first | exact HI361.out | apply IsS70.alloc | apply IsS70.drewN | apply IsS70.drew | apply IsS70.set_0 | apply IsS70.set_1 | apply IsS70.set_2 | apply IsS70.set_3 | apply IsS70.set_4 | refine IsS70.far ?_ NB361_351.out _) | exact HI361.out)) hb); have n2_ := Aside0.mk (below_step (by repeat (first | (with_reducible first | exact HB.out | apply below_alloc | apply pw_below_drewN | apply below_drew1 | refine below_set ?_ (IsS70.ge HI361.out) | refine below_set ?_ GE351.out) | exact HB.out)) hb); clear BK351; clear HI361; clear HB; have BK351 := n0_; have HI361 := n1_; have HB := n2_; clear n0_ n1_ n2_; (try clear hb); (try clear hb2); (try clear hk); (try clear hi)))
      go_ret
      exact ⟨by first | rfl | (simp [errW_none, errW_some] <;> rfl) | (simp [*, errW_none, errW_some] <;> rfl), by repeat (first | (with_reducible first | exact HB.out | apply below_alloc | apply pw_below_drewN | apply below_drew1 | refine below_set ?_ (IsS70.ge HI361.out) | refine below_set ?_ GE351.out) | exact HB.out)⟩
  · replace c5 := Bool.eq_false_iff.mpr c5
    subst c5
    have H1 : (some false) = some r := by rw [if_neg (show ¬ (false = true) by decide)] at H; exact H
    clear H
    have H := H1
    clear H1
    obtain rfl := Option.some.inj H
    go_enter Try.func6, Try.ntmps6
    go_wp2_with (first | ((with_reducible refine gate_dst (N := 3) rfl ?_); (try (refine gate_guard (by rfl) ?_; dsimp only)); refine box_event ?hg (N := 3) ?hd (cs := #[.int .i64 a0_0, .int .i64 a0_1, .int .i64 a0_2]) (t := 23) ?hr ?_; (case hd => rfl); (case hg => rfl); (case hr => first | (go_simp; done) | (go_simp; rfl)); intro gb351 hg w67 hbox hb; have n0_ := Aside0.mk (below_step (by repeat (first | (with_reducible first | exact HB.out | apply below_alloc | apply pw_below_drewN | apply below_drew1) | exact HB.out)) hb); have n1_ := Aside0.mk (hbox); have n2_ := Aside0.mk ((by rw [hg]; exact (below_size (by repeat (first | (with_reducible first | exact HB.out | apply below_alloc | apply pw_below_drewN | apply below_drew1) | exact HB.out))) : w.heap.size ≤ gb351)); have n3_ := Aside0.mk ((by rw [hg]; exact (below_size (by repeat (first | (with_reducible first | exact HB.out | apply below_alloc | apply pw_below_drewN | apply below_drew1) | exact HB.out))) : w.heap.size ≤ gb351)); clear HB; have HB := n0_; have BK351 := n1_; have GW351 := n2_; have GE351 := n3_; clear n0_ n1_ n2_ n3_; clear hb hbox hg) | ((with_reducible refine gate_callee (f := 9) rfl ?_); refine goesL_ (some 14) rfl rfl Try.func9 (by kernel_rfl) rfl #[] rfl (by (try simp only [List.map_toArray, List.map_cons, List.map_nil]); first | done | rfl | (simp only [List.length_drop, List.length_take]; rfl)) ?_; (with_reducible refine (tricklelaw08_awake.calls k  false _ A4.out).mono ?_); rintro e w68 ⟨rfl, hb⟩; refine ⟨_, rfl, ?_⟩; have n0_ := Aside0.mk (blk_below (g := gb351) (o := .cells #[.int .i64 a0_0, .int .i64 a0_1, .int .i64 a0_2] 23 (0, 0)) (by (with_reducible repeat (first | refine blk_drewN ?_ _ | refine blk_drew ?_ | refine blk_alloc ?_ _)); exact BK351.out) hb); have n1_ := Aside0.mk (below_step (by repeat (first | (with_reducible first | exact HB.out | apply below_alloc | apply pw_below_drewN | apply below_drew1 | refine below_set ?_ GE351.out) | exact HB.out)) hb); clear BK351; clear HB; have BK351 := n0_; have HB := n1_; clear n0_ n1_; (try clear hb); (try clear hb2); (try clear hk); (try clear hi)))
    go_ret
    exact ⟨by first | rfl | (simp [errW_none, errW_some] <;> rfl) | (simp [*, errW_none, errW_some] <;> rfl), by repeat (first | (with_reducible first | exact HB.out | apply below_alloc | apply pw_below_drewN | apply below_drew1 | refine below_set ?_ GE351.out) | exact HB.out)⟩

end Go.Proofs.Ytifogngffmhmaaa.QAl
