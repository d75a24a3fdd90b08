-- Printed by a program of this session (myprint.py) over the kit's print: functions, contracts; not trusted, Lean checks it.
import Derived.Test.YtifogngffmhmaaaQAlx0
import Derived.Test.YtifogngffmhmaaaQAlx1
import Derived.Test.YtifogngffmhmaaaQAlx2
import Derived.Test.YtifogngffmhmaaaQAlx3
import Derived.Test.YtifogngffmhmaaaQAlx5
namespace Go.Proofs.Ytifogngffmhmaaa.QAl
open Go.RowKit Go.Proofs.YtifogngffmhmaaaW.PrintWords Go.Proofs.YtifogngffmhmaaaW.PrintLast Go.Proofs.YtifogngffmhmaaaW.PrintMore
attribute [local go_sem] max2_int min2_int max_two min_two max_three min_three max_four min_four   -- for this text's walks alone
set_option linter.unusedVariables false
set_option linter.unusedSimpArgs false

/-! ### mm: function 4 -/
mutual
def mm.j0 : Nat → List (S34) → Int → Bool → Int → Int → Int → Int → Int → Int → Int → Bool → Option (Bool)
  | 0, _, _, _, _, _, _, _, _, _, _, _ => none
  | k + 1, x1, x2, x47, x165000, x165001, x165002, x175000, x175001, x175002, x175003, x175004 => if x47 = true then (some false) else (mm.l0 k x2 x1 (x1.length : Int) 0 x175000 x175001 x175002 x175003 x175004 x165000 x165001 x165002 0 false)
def mm.l0 : Nat → Int → List (S34) → Int → Int → Int → Int → Int → Int → Bool → Int → Int → Int → Int → Bool → Option (Bool)
  | 0, _, _, _, _, _, _, _, _, _, _, _, _, _, _ => none
  | k + 1, x2, x50, x51, x52, x175000, x175001, x175002, x175003, x175004, x178000, x178001, x178002, x178003, x178004 => if x52 < x51 then (if 0 ≤ x52 then (if x52 < (x50.length : Int) then (if (rd_T34 x50 x52).f0 = true then ((capacitor_Capacitor_Draw.f x175000 x175001 x175002 x175003 x175004 ((rd_T34 x50 x52).f1)).bind fun bt180 => ((trickleref08_Draw.f x178000 x178001 x178002 x178003 x178004 ((rd_T34 x50 x52).f1)).bind fun bt186 => (if (bt180.1 != bt186.2.2.2.2.2) = true then (some false) else (mm.j2 k x2 x50 x51 x52 bt180.2.1 bt180.2.2.1 bt180.2.2.2.1 bt180.2.2.2.2.1 bt180.2.2.2.2.2 bt186.1 bt186.2.1 bt186.2.2.1 bt186.2.2.2.1 bt186.2.2.2.2.1)))) else ((capacitor_Capacitor_Harvest.f x175000 x175001 x175002 x175003 x175004 ((rd_T34 x50 x52).f1) ((rd_T34 x50 x52).f2)).bind fun bt193 => ((trickleref08_Harvest.f x178000 x178001 x178002 x178003 x178004 ((rd_T34 x50 x52).f1) ((rd_T34 x50 x52).f2)).bind fun bt199 => (if bt193.1 = bt199.2.2.2.2.2 then (mm.j2 k x2 x50 x51 x52 bt193.2.1 bt193.2.2.1 bt193.2.2.2.1 bt193.2.2.2.2.1 bt193.2.2.2.2.2 bt199.1 bt199.2.1 bt199.2.2.1 bt199.2.2.2.1 bt199.2.2.2.2.1) else (some false))))) else (none)) else (none)) else (some true)
def mm.j2 : Nat → Int → List (S34) → Int → Int → Int → Int → Int → Int → Bool → Int → Int → Int → Int → Bool → Option (Bool)
  | 0, _, _, _, _, _, _, _, _, _, _, _, _, _, _ => none
  | k + 1, x2, x50, x51, x52, x175000, x175001, x175002, x175003, x175004, x178000, x178001, x178002, x178003, x178004 => (capacitor_Capacitor_WaitTime.f x175000 x175001 x175002 x175003 x175004 x2).bind fun bt206 => ((trickleref08_WaitTime.f k x178000 x178001 x178002 x178003 x178004 x2).bind fun bt213 => ((capacitor_Capacitor_Charge.f bt206.2.2.1 bt206.2.2.2.1 bt206.2.2.2.2.1 bt206.2.2.2.2.2.1 bt206.2.2.2.2.2.2).bind fun bt215 => (if bt215.1 = x178003 then ((capacitor_Capacitor_Running.f bt215.2.1 bt215.2.2.1 bt215.2.2.2.1 bt215.2.2.2.2.1 bt215.2.2.2.2.2).bind fun bt221 => (if (bt221.1 != x178004) = true then (some false) else (if bt206.1 = bt213.1 then (if (bt206.2.1 != bt213.2) = true then (some false) else (mm.l0 k x2 x50 x51 (wrap64 (x52 + 1)) bt221.2.1 bt221.2.2.1 bt221.2.2.2.1 bt221.2.2.2.2.1 bt221.2.2.2.2.2 x178000 x178001 x178002 x178003 x178004)) else (some false)))) else (some false))))
end
def mm.f (k : Nat) (a0_0 : Int) (a0_1 : Int) (a0_2 : Int) (l1 : List (S34)) (a2 : Int) : Option (Bool) := (tricklelaw08_awake.f k).bind fun t165 => (if t165 = true then (if (l1.length : Int) > 60 then (some true) else ((tricklelaw08_config.f a0_0 a0_1 a0_2).bind fun bt166 => ((capacitor_New.f bt166.1 bt166.2.1 bt166.2.2).bind fun bt169 => ((trickleref08_Valid.f a0_0 a0_1 a0_2).bind fun t176 => (if t176 = true then (if bt169.2.2.2.2.2 = 0 then (mm.j0 k l1 a2 false a0_0 a0_1 a0_2 bt169.1 bt169.2.1 bt169.2.2.1 bt169.2.2.2.1 bt169.2.2.2.2.1) else (mm.j0 k l1 a2 true a0_0 a0_1 a0_2 bt169.1 bt169.2.1 bt169.2.2.1 bt169.2.2.2.1 bt169.2.2.2.2.1)) else (some false)))))) else (some false))
theorem mm.mono_l : ∀ k, (∀ y0 y1 y2 y3 y4 y5 y6 y7 y8 y9 y10, LeO (mm.j0 k y0 y1 y2 y3 y4 y5 y6 y7 y8 y9 y10) (mm.j0 (k + 1) y0 y1 y2 y3 y4 y5 y6 y7 y8 y9 y10)) ∧ (∀ y0 y1 y2 y3 y4 y5 y6 y7 y8 y9 y10 y11 y12 y13, LeO (mm.l0 k y0 y1 y2 y3 y4 y5 y6 y7 y8 y9 y10 y11 y12 y13) (mm.l0 (k + 1) y0 y1 y2 y3 y4 y5 y6 y7 y8 y9 y10 y11 y12 y13)) ∧ (∀ y0 y1 y2 y3 y4 y5 y6 y7 y8 y9 y10 y11 y12 y13, LeO (mm.j2 k y0 y1 y2 y3 y4 y5 y6 y7 y8 y9 y10 y11 y12 y13) (mm.j2 (k + 1) y0 y1 y2 y3 y4 y5 y6 y7 y8 y9 y10 y11 y12 y13))
  | 0 => ⟨fun _ _ _ _ _ _ _ _ _ _ _ r h => by simp [mm.j0] at h, fun _ _ _ _ _ _ _ _ _ _ _ _ _ _ r h => by simp [mm.l0] at h, fun _ _ _ _ _ _ _ _ _ _ _ _ _ _ r h => by simp [mm.j2] at h⟩
  | k + 1 => by
    obtain ⟨ih0, ih1, ih2⟩ := mm.mono_l k
    refine ⟨?_, ?_, ?_⟩
    · intro y0 y1 y2 y3 y4 y5 y6 y7 y8 y9 y10
      unfold mm.j0
      repeat' first
      | (with_reducible exact ih0 _ _ _ _ _ _ _ _ _ _ _)
      | (with_reducible exact ih1 _ _ _ _ _ _ _ _ _ _ _ _ _ _)
      | (with_reducible exact ih2 _ _ _ _ _ _ _ _ _ _ _ _ _ _)
      | (with_reducible exact tricklelaw08_awake.mono _)
      | (with_reducible exact trickleref08_WaitTime.mono _ _ _ _ _ _ _)
      | (with_reducible exact LeO.refl _)
      | (with_reducible exact LeO.none _)
      | (with_reducible refine LeO.ite ?_ ?_)
      | (with_reducible refine LeO.bind ?_ (fun _ => ?_))
      | exact ih0 _ _ _ _ _ _ _ _ _ _ _
      | exact ih1 _ _ _ _ _ _ _ _ _ _ _ _ _ _
      | exact ih2 _ _ _ _ _ _ _ _ _ _ _ _ _ _
      | exact tricklelaw08_awake.mono _
      | exact trickleref08_WaitTime.mono _ _ _ _ _ _ _
      | exact LeO.none _
      | refine LeO.ite ?_ ?_
      | refine LeO.bind ?_ (fun _ => ?_)
    · intro y0 y1 y2 y3 y4 y5 y6 y7 y8 y9 y10 y11 y12 y13
      unfold mm.l0
      repeat' first
      | (with_reducible exact ih0 _ _ _ _ _ _ _ _ _ _ _)
      | (with_reducible exact ih1 _ _ _ _ _ _ _ _ _ _ _ _ _ _)
      | (with_reducible exact ih2 _ _ _ _ _ _ _ _ _ _ _ _ _ _)
      | (with_reducible exact tricklelaw08_awake.mono _)
      | (with_reducible exact trickleref08_WaitTime.mono _ _ _ _ _ _ _)
      | (with_reducible exact LeO.refl _)
      | (with_reducible exact LeO.none _)
      | (with_reducible refine LeO.ite ?_ ?_)
      | (with_reducible refine LeO.bind ?_ (fun _ => ?_))
      | exact ih0 _ _ _ _ _ _ _ _ _ _ _
      | exact ih1 _ _ _ _ _ _ _ _ _ _ _ _ _ _
      | exact ih2 _ _ _ _ _ _ _ _ _ _ _ _ _ _
      | exact tricklelaw08_awake.mono _
      | exact trickleref08_WaitTime.mono _ _ _ _ _ _ _
      | exact LeO.none _
      | refine LeO.ite ?_ ?_
      | refine LeO.bind ?_ (fun _ => ?_)
    · intro y0 y1 y2 y3 y4 y5 y6 y7 y8 y9 y10 y11 y12 y13
      unfold mm.j2
      repeat' first
      | (with_reducible exact ih0 _ _ _ _ _ _ _ _ _ _ _)
      | (with_reducible exact ih1 _ _ _ _ _ _ _ _ _ _ _ _ _ _)
      | (with_reducible exact ih2 _ _ _ _ _ _ _ _ _ _ _ _ _ _)
      | (with_reducible exact tricklelaw08_awake.mono _)
      | (with_reducible exact trickleref08_WaitTime.mono _ _ _ _ _ _ _)
      | (with_reducible exact LeO.refl _)
      | (with_reducible exact LeO.none _)
      | (with_reducible refine LeO.ite ?_ ?_)
      | (with_reducible refine LeO.bind ?_ (fun _ => ?_))
      | exact ih0 _ _ _ _ _ _ _ _ _ _ _
      | exact ih1 _ _ _ _ _ _ _ _ _ _ _ _ _ _
      | exact ih2 _ _ _ _ _ _ _ _ _ _ _ _ _ _
      | exact tricklelaw08_awake.mono _
      | exact trickleref08_WaitTime.mono _ _ _ _ _ _ _
      | exact LeO.none _
      | refine LeO.ite ?_ ?_
      | refine LeO.bind ?_ (fun _ => ?_)
theorem mm.mono : ∀ a0 a1 a2 a3 a4 k, LeO (mm.f k a0 a1 a2 a3 a4) (mm.f (k + 1) a0 a1 a2 a3 a4) := by
  intro a0 a1 a2 a3 a4 k
  obtain ⟨ih0, ih1, ih2⟩ := mm.mono_l k
  unfold mm.f
  repeat' first
      | (with_reducible exact ih0 _ _ _ _ _ _ _ _ _ _ _)
      | (with_reducible exact ih1 _ _ _ _ _ _ _ _ _ _ _ _ _ _)
      | (with_reducible exact ih2 _ _ _ _ _ _ _ _ _ _ _ _ _ _)
      | (with_reducible exact tricklelaw08_awake.mono _)
      | (with_reducible exact trickleref08_WaitTime.mono _ _ _ _ _ _ _)
      | (with_reducible exact LeO.refl _)
      | (with_reducible exact LeO.none _)
      | (with_reducible refine LeO.ite ?_ ?_)
      | (with_reducible refine LeO.bind ?_ (fun _ => ?_))
      | exact ih0 _ _ _ _ _ _ _ _ _ _ _
      | exact ih1 _ _ _ _ _ _ _ _ _ _ _ _ _ _
      | exact ih2 _ _ _ _ _ _ _ _ _ _ _ _ _ _
      | exact tricklelaw08_awake.mono _
      | exact trickleref08_WaitTime.mono _ _ _ _ _ _ _
      | exact LeO.none _
      | refine LeO.ite ?_ ?_
      | refine LeO.bind ?_ (fun _ => ?_)
def mm.T27 : Bool × List (List Nat × List Nat) := (true, [([], []), ([0], [0]), ([], []), ([2], [2]), ([1, 3], [1, 3]), ([4, 1], [4]), ([5], [5]), ([6, 5, 5], [5, 6]), ([5], [5]), ([8, 5], [5, 8]), ([7, 9, 5], [5, 7, 9]), ([5, 10], [5, 10]), ([11, 7], [11]), ([12], [12]), ([12], [12]), ([13, 14, 12], [12, 13, 14]), ([12, 15], [12, 15]), ([16, 12], [16]), ([17], [17]), ([17], [17]), ([18, 19, 17], [17, 18, 19]), ([17, 20], [17, 20])])
def mm.B27 : List Nat := [0, 1, 0, 4, 15, 31, 63, 127, 63, 319, 1023, 2047, 4095, 8191, 8191, 32767, 65535, 131071, 262143, 262143, 1048575, 2097151]
theorem mm.tab27 : rtab .any (opsOf Try.f4 27) = mm.T27 := by kernel_rfl
theorem mm.bits27 : waitsOk mm.T27.2 mm.B27 = true := by kernel_rfl

end Go.Proofs.Ytifogngffmhmaaa.QAl
