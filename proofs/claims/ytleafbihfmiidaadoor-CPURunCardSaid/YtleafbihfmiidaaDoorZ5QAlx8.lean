/- What this claim needs of QAlx8. Parted by prune.py. -/
import Derived.Test.YtleafbihfmiidaaDoorZ5QAlx0
import Derived.Test.YtleafbihfmiidaaDoorZ5QAlx7
-- Printed by a program of this session (myprint.py) over the kit's print: functions, contracts; not trusted, Lean checks it.
namespace Go.Proofs.YtleafbihfmiidaaDoor.QAl
open Go.RowKit Go.Proofs.YtleafbihfmiidaaDoorW.PrintWords Go.Proofs.YtleafbihfmiidaaDoorW.PrintLast Go.Proofs.YtleafbihfmiidaaDoorW.PrintMore
attribute [local go_sem] max2_int min2_int max_two min_two max_three min_three max_four min_four   -- for this text's walks alone
set_option linter.unusedVariables false
set_option linter.unusedSimpArgs false
/-! ### trickleref01_truth: function 67 -/
def trickleref01_truth.f (a0 : Bool) : Option (Int) := if a0 = true then (some 1) else (some 0)
set_option maxHeartbeats 8000000 in
set_option maxRecDepth 100000 in
theorem trickleref01_truth.calls (a0 : Bool) (r : Int) (w : World) (h : trickleref01_truth.f a0 = some r) :
    Calls Tryd.prog 67 #[.bool a0] w fun e w' => e = .returned (.int .i64 r) ∧ Drawn0 w w' := by
  have H : (if a0 = true then (some 1) else (some 0)) = some r := h
  clear h
  by_cases c2 : a0 = true
  · subst c2
    have H1 : (some 1) = some r := by rw [if_pos rfl] at H; exact H
    clear H
    have H := H1
    clear H1
    obtain rfl := Option.some.inj H
    go_enter Tryd.func67, Tryd.ntmps67
    go_wp2
    go_ret
    exact ⟨by first | rfl | (simp; done) | (simp [*]; done), by repeat (first | exact Drawn0.refl _ | apply Drawn0.step)⟩
  · replace c2 := Bool.eq_false_iff.mpr c2
    subst c2
    have H1 : (some 0) = some r := by rw [if_neg (show ¬ (false = true) by decide)] at H; exact H
    clear H
    have H := H1
    clear H1
    obtain rfl := Option.some.inj H
    go_enter Tryd.func67, Tryd.ntmps67
    go_wp2
    go_ret
    exact ⟨by first | rfl | (simp; done) | (simp [*]; done), by repeat (first | exact Drawn0.refl _ | apply Drawn0.step)⟩
/-! ### trickleref01_Unary: function 40 -/
def trickleref01_Unary.f (a0 : Int) (a1 : Int) : Option (Int × Int) := if a0 = 1 then ((trickleref01_Wrap.f (wrap64 (-(wrap64 (a1))))).bind fun t225 => (some (t225, 0))) else (if a0 = 2 then ((trickleref01_truth.f (a1 == 0)).bind fun t226 => ((trickleref01_Wrap.f t226).bind fun t227 => (some (t227, 0)))) else (some (0, 1)))
set_option maxHeartbeats 8000000 in
set_option maxRecDepth 100000 in
theorem trickleref01_Unary.calls (a0 : Int) (a1 : Int) (r1 : Int) (r2 : Int) (w : World) (h : trickleref01_Unary.f a0 a1 = some (r1, r2)) :
    Calls Tryd.prog 40 #[.int .i64 a0, .int .i16 a1] w fun e w' => e = .returned (.tuple #[.int .i16 r1, .int .i64 r2]) ∧ Drawn0 w w' := by
  have H : (if a0 = 1 then ((trickleref01_Wrap.f (wrap64 (-(wrap64 (a1))))).bind fun t225 => (some (t225, 0))) else (if a0 = 2 then ((trickleref01_truth.f (a1 == 0)).bind fun t226 => ((trickleref01_Wrap.f t226).bind fun t227 => (some (t227, 0)))) else (some (0, 1)))) = some (r1, r2) := h
  clear h
  by_cases c3 : a0 = 1
  · rw [if_pos c3] at H
    have c3b0 : (a0 == 1) = true := beq_iff_eq.mpr c3
    have c3b1 : (a0 != 1) = false := bne_eq_false_iff_eq.mpr c3
    clear c3
    replace H := Option.bind_eq_some_iff.mp H
    obtain ⟨t225, A40, H⟩ := H
    replace H : (some (t225, 0)) = some (r1, r2) := H
    have A4 := Aside0.mk A40
    clear A40
    simp only [Option.some.injEq, Prod.mk.injEq] at H
    obtain ⟨rfl, rfl⟩ := H
    go_enter Tryd.func40, Tryd.ntmps40
    go_wp2_with (first | ((with_reducible refine gate_callee (f := 66) rfl ?_); refine goesL_ (some 12) rfl rfl Tryd.func66 (by kernel_rfl) rfl #[.int .i64 (wrap64 (-(wrap64 (a1))))] rfl (by (try simp only [List.map_toArray, List.map_cons, List.map_nil]); first | done | rfl | (simp only [List.length_drop, List.length_take]; rfl)) ?_; (with_reducible refine (trickleref01_Wrap.calls (wrap64 (-(wrap64 (a1)))) t225 _ A4.out).mono ?_); rintro e w' ⟨rfl, ⟨nd, rfl⟩⟩; refine ⟨_, rfl, ?_⟩))
    go_ret2
    exact ⟨by first | rfl | (simp; done) | (simp [*]; done), by repeat (first | exact Drawn0.refl _ | apply Drawn0.step)⟩
  · rw [if_neg c3] at H
    have c3b0 : (a0 == 1) = false := beq_eq_false_iff_ne.mpr c3
    have c3b1 : (a0 != 1) = true := bne_iff_ne.mpr c3
    by_cases c5 : a0 = 2
    · rw [if_pos c5] at H
      have c5b0 : (a0 == 2) = true := beq_iff_eq.mpr c5
      have c5b1 : (a0 != 2) = false := bne_eq_false_iff_eq.mpr c5
      clear c5
      replace H := Option.bind_eq_some_iff.mp H
      obtain ⟨t226, A60, H⟩ := H
      replace H : ((trickleref01_Wrap.f t226).bind fun t227 => (some (t227, 0))) = some (r1, r2) := H
      have A6 := Aside0.mk A60
      clear A60
      replace H := Option.bind_eq_some_iff.mp H
      obtain ⟨t227, A70, H⟩ := H
      replace H : (some (t227, 0)) = some (r1, r2) := H
      have A7 := Aside0.mk A70
      clear A70
      simp only [Option.some.injEq, Prod.mk.injEq] at H
      obtain ⟨rfl, rfl⟩ := H
      go_enter Tryd.func40, Tryd.ntmps40
      go_wp2_with (first | ((with_reducible refine gate_callee (f := 67) rfl ?_); refine goesL_ (some 17) rfl rfl Tryd.func67 (by kernel_rfl) rfl #[.bool (a1 == 0)] rfl (by (try simp only [List.map_toArray, List.map_cons, List.map_nil]); first | done | rfl | (simp only [List.length_drop, List.length_take]; rfl)) ?_; (with_reducible refine (trickleref01_truth.calls (a1 == 0) t226 _ A6.out).mono ?_); rintro e w' ⟨rfl, ⟨nd, rfl⟩⟩; refine ⟨_, rfl, ?_⟩) | ((with_reducible refine gate_callee (f := 66) rfl ?_); refine goesL_ (some 18) rfl rfl Tryd.func66 (by kernel_rfl) rfl #[.int .i64 t226] rfl (by (try simp only [List.map_toArray, List.map_cons, List.map_nil]); first | done | rfl | (simp only [List.length_drop, List.length_take]; rfl)) ?_; (with_reducible refine (trickleref01_Wrap.calls t226 t227 _ A7.out).mono ?_); rintro e w' ⟨rfl, ⟨nd, rfl⟩⟩; refine ⟨_, rfl, ?_⟩))
      go_ret2
      exact ⟨by first | rfl | (simp; done) | (simp [*]; done), by repeat (first | exact Drawn0.refl _ | apply Drawn0.step)⟩
    · rw [if_neg c5] at H
      have c5b0 : (a0 == 2) = false := beq_eq_false_iff_ne.mpr c5
      have c5b1 : (a0 != 2) = true := bne_iff_ne.mpr c5
      simp only [Option.some.injEq, Prod.mk.injEq] at H
      obtain ⟨rfl, rfl⟩ := H
      go_enter Tryd.func40, Tryd.ntmps40
      go_wp2
      go_ret2
      exact ⟨by first | rfl | (simp; done) | (simp [*]; done), by repeat (first | exact Drawn0.refl _ | apply Drawn0.step)⟩
-- NOT PRINTED: function 41 (trickleref12_World_Load)
-- NOT PRINTED: function 42 (trickleref12_World_Store)
/-! ### trickleref01_Index: function 43 -/
def trickleref01_Index.f (a0 : Int) (a1 : Int) : Option (Int × Int) := if a1 < 1 then (some (0, 1)) else (if (wrap64 (a0)) < 0 then (if a1 = 0 then (none) else (some (Int.tmod (wrap64 ((wrap64 (a0)) + 65536)) a1, 0))) else (if a1 = 0 then (none) else (some (Int.tmod (wrap64 (a0)) a1, 0))))
set_option maxHeartbeats 8000000 in
set_option maxRecDepth 100000 in
theorem trickleref01_Index.calls (a0 : Int) (a1 : Int) (r1 : Int) (r2 : Int) (w : World) (h : trickleref01_Index.f a0 a1 = some (r1, r2)) :
    Calls Tryd.prog 43 #[.int .i16 a0, .int .i64 a1] w fun e w' => e = .returned (.tuple #[.int .i64 r1, .int .i64 r2]) ∧ Drawn0 w w' := by
  have H : (if a1 < 1 then (some (0, 1)) else (if (wrap64 (a0)) < 0 then (if a1 = 0 then (none) else (some (Int.tmod (wrap64 ((wrap64 (a0)) + 65536)) a1, 0))) else (if a1 = 0 then (none) else (some (Int.tmod (wrap64 (a0)) a1, 0))))) = some (r1, r2) := h
  clear h
  by_cases c3 : a1 < 1
  · rw [if_pos c3] at H
    have c3b0 : decide (a1 < 1) = true := decide_eq_true c3
    clear c3
    simp only [Option.some.injEq, Prod.mk.injEq] at H
    obtain ⟨rfl, rfl⟩ := H
    go_enter Tryd.func43, Tryd.ntmps43
    go_wp2
    go_ret2
    exact ⟨by first | rfl | (simp; done) | (simp [*]; done), by repeat (first | exact Drawn0.refl _ | apply Drawn0.step)⟩
  · rw [if_neg c3] at H
    have c3b0 : decide (a1 < 1) = false := decide_eq_false c3
    clear c3
    by_cases c4 : (wrap64 (a0)) < 0
    · rw [if_pos c4] at H
      have c4b0 : decide ((wrap64 (a0)) < 0) = true := decide_eq_true c4
      clear c4
      by_cases c5 : a1 = 0
      · rw [if_pos c5] at H
        exact absurd H (by simp)
      · rw [if_neg c5] at H
        have c5b0 : (a1 == 0) = false := beq_eq_false_iff_ne.mpr c5
        have c5b1 : (a1 != 0) = true := bne_iff_ne.mpr c5
        simp only [Option.some.injEq, Prod.mk.injEq] at H
        obtain ⟨rfl, rfl⟩ := H
        go_enter Tryd.func43, Tryd.ntmps43
        go_wp2
        go_ret2
        exact ⟨by first | rfl | (simp; done) | (simp [*]; done), by repeat (first | exact Drawn0.refl _ | apply Drawn0.step)⟩
    · rw [if_neg c4] at H
      have c4b0 : decide ((wrap64 (a0)) < 0) = false := decide_eq_false c4
      clear c4
      by_cases c6 : a1 = 0
      · rw [if_pos c6] at H
        exact absurd H (by simp)
      · rw [if_neg c6] at H
        have c6b0 : (a1 == 0) = false := beq_eq_false_iff_ne.mpr c6
        have c6b1 : (a1 != 0) = true := bne_iff_ne.mpr c6
        simp only [Option.some.injEq, Prod.mk.injEq] at H
        obtain ⟨rfl, rfl⟩ := H
        go_enter Tryd.func43, Tryd.ntmps43
        go_wp2
        go_ret2
        exact ⟨by first | rfl | (simp; done) | (simp [*]; done), by repeat (first | exact Drawn0.refl _ | apply Drawn0.step)⟩
-- NOT PRINTED: function 44 (trickleref12_World_Read)
-- NOT PRINTED: function 45 (trickleref12_World_Send)
-- NOT PRINTED: function 46 (trickleref12_World_Emit)
-- NOT PRINTED: function 47 (trickleref12_World_Output)
-- NOT PRINTED: function 48 (trickleref12_World_Log)
/-! ### trickleref12_binary: function 49 -/
def trickleref12_binary.f (a0 : Int) : Option (Int) := if a0 = 6 then (some 3) else (if a0 = 7 then (some 4) else (if a0 = 8 then (some 5) else (if a0 = 9 then (some 6) else (if a0 = 10 then (some 7) else (if a0 = 11 then (some 8) else (if a0 = 12 then (some 10) else (if a0 = 13 then (some 11) else (some 0))))))))
set_option maxHeartbeats 8000000 in
set_option maxRecDepth 100000 in
theorem trickleref12_binary.calls (a0 : Int) (r : Int) (w : World) (h : trickleref12_binary.f a0 = some r) :
    Calls Tryd.prog 49 #[.int .i64 a0] w fun e w' => e = .returned (.int .i64 r) ∧ Drawn0 w w' := by
  have H : (if a0 = 6 then (some 3) else (if a0 = 7 then (some 4) else (if a0 = 8 then (some 5) else (if a0 = 9 then (some 6) else (if a0 = 10 then (some 7) else (if a0 = 11 then (some 8) else (if a0 = 12 then (some 10) else (if a0 = 13 then (some 11) else (some 0))))))))) = some r := h
  clear h
  by_cases c2 : a0 = 6
  · rw [if_pos c2] at H
    have c2b0 : (a0 == 6) = true := beq_iff_eq.mpr c2
    have c2b1 : (a0 != 6) = false := bne_eq_false_iff_eq.mpr c2
    clear c2
    obtain rfl := Option.some.inj H
    go_enter Tryd.func49, Tryd.ntmps49
    go_wp2
    go_ret
    exact ⟨by first | rfl | (simp; done) | (simp [*]; done), by repeat (first | exact Drawn0.refl _ | apply Drawn0.step)⟩
  · rw [if_neg c2] at H
    have c2b0 : (a0 == 6) = false := beq_eq_false_iff_ne.mpr c2
    have c2b1 : (a0 != 6) = true := bne_iff_ne.mpr c2
    by_cases c3 : a0 = 7
    · rw [if_pos c3] at H
      have c3b0 : (a0 == 7) = true := beq_iff_eq.mpr c3
      have c3b1 : (a0 != 7) = false := bne_eq_false_iff_eq.mpr c3
      clear c3
      obtain rfl := Option.some.inj H
      go_enter Tryd.func49, Tryd.ntmps49
      go_wp2
      go_ret
      exact ⟨by first | rfl | (simp; done) | (simp [*]; done), by repeat (first | exact Drawn0.refl _ | apply Drawn0.step)⟩
    · rw [if_neg c3] at H
      have c3b0 : (a0 == 7) = false := beq_eq_false_iff_ne.mpr c3
      have c3b1 : (a0 != 7) = true := bne_iff_ne.mpr c3
      by_cases c4 : a0 = 8
      · rw [if_pos c4] at H
        have c4b0 : (a0 == 8) = true := beq_iff_eq.mpr c4
        have c4b1 : (a0 != 8) = false := bne_eq_false_iff_eq.mpr c4
        clear c4
        obtain rfl := Option.some.inj H
        go_enter Tryd.func49, Tryd.ntmps49
        go_wp2
        go_ret
        exact ⟨by first | rfl | (simp; done) | (simp [*]; done), by repeat (first | exact Drawn0.refl _ | apply Drawn0.step)⟩
      · rw [if_neg c4] at H
        have c4b0 : (a0 == 8) = false := beq_eq_false_iff_ne.mpr c4
        have c4b1 : (a0 != 8) = true := bne_iff_ne.mpr c4
        by_cases c5 : a0 = 9
        · rw [if_pos c5] at H
          have c5b0 : (a0 == 9) = true := beq_iff_eq.mpr c5
          have c5b1 : (a0 != 9) = false := bne_eq_false_iff_eq.mpr c5
          clear c5
          obtain rfl := Option.some.inj H
          go_enter Tryd.func49, Tryd.ntmps49
          go_wp2
          go_ret
          exact ⟨by first | rfl | (simp; done) | (simp [*]; done), by repeat (first | exact Drawn0.refl _ | apply Drawn0.step)⟩
        · rw [if_neg c5] at H
          have c5b0 : (a0 == 9) = false := beq_eq_false_iff_ne.mpr c5
          have c5b1 : (a0 != 9) = true := bne_iff_ne.mpr c5
          by_cases c6 : a0 = 10
          · rw [if_pos c6] at H
            have c6b0 : (a0 == 10) = true := beq_iff_eq.mpr c6
            have c6b1 : (a0 != 10) = false := bne_eq_false_iff_eq.mpr c6
            clear c6
            obtain rfl := Option.some.inj H
            go_enter Tryd.func49, Tryd.ntmps49
            go_wp2
            go_ret
            exact ⟨by first | rfl | (simp; done) | (simp [*]; done), by repeat (first | exact Drawn0.refl _ | apply Drawn0.step)⟩
          · rw [if_neg c6] at H
            have c6b0 : (a0 == 10) = false := beq_eq_false_iff_ne.mpr c6
            have c6b1 : (a0 != 10) = true := bne_iff_ne.mpr c6
            by_cases c7 : a0 = 11
            · rw [if_pos c7] at H
              have c7b0 : (a0 == 11) = true := beq_iff_eq.mpr c7
              have c7b1 : (a0 != 11) = false := bne_eq_false_iff_eq.mpr c7
              clear c7
              obtain rfl := Option.some.inj H
              go_enter Tryd.func49, Tryd.ntmps49
              go_wp2
              go_ret
              exact ⟨by first | rfl | (simp; done) | (simp [*]; done), by repeat (first | exact Drawn0.refl _ | apply Drawn0.step)⟩
            · rw [if_neg c7] at H
              have c7b0 : (a0 == 11) = false := beq_eq_false_iff_ne.mpr c7
              have c7b1 : (a0 != 11) = true := bne_iff_ne.mpr c7
              by_cases c8 : a0 = 12
              · rw [if_pos c8] at H
                have c8b0 : (a0 == 12) = true := beq_iff_eq.mpr c8
                have c8b1 : (a0 != 12) = false := bne_eq_false_iff_eq.mpr c8
                clear c8
                obtain rfl := Option.some.inj H
                go_enter Tryd.func49, Tryd.ntmps49
                go_wp2
                go_ret
                exact ⟨by first | rfl | (simp; done) | (simp [*]; done), by repeat (first | exact Drawn0.refl _ | apply Drawn0.step)⟩
              · rw [if_neg c8] at H
                have c8b0 : (a0 == 12) = false := beq_eq_false_iff_ne.mpr c8
                have c8b1 : (a0 != 12) = true := bne_iff_ne.mpr c8
                by_cases c9 : a0 = 13
                · rw [if_pos c9] at H
                  have c9b0 : (a0 == 13) = true := beq_iff_eq.mpr c9
                  have c9b1 : (a0 != 13) = false := bne_eq_false_iff_eq.mpr c9
                  clear c9
                  obtain rfl := Option.some.inj H
                  go_enter Tryd.func49, Tryd.ntmps49
                  go_wp2
                  go_ret
                  exact ⟨by first | rfl | (simp; done) | (simp [*]; done), by repeat (first | exact Drawn0.refl _ | apply Drawn0.step)⟩
                · rw [if_neg c9] at H
                  have c9b0 : (a0 == 13) = false := beq_eq_false_iff_ne.mpr c9
                  have c9b1 : (a0 != 13) = true := bne_iff_ne.mpr c9
                  obtain rfl := Option.some.inj H
                  go_enter Tryd.func49, Tryd.ntmps49
                  go_wp2
                  go_ret
                  exact ⟨by first | rfl | (simp; done) | (simp [*]; done), by repeat (first | exact Drawn0.refl _ | apply Drawn0.step)⟩
/-! ### trickleref01_Quotient: function 68 -/
def trickleref01_Quotient.f (a0 : Int) (a1 : Int) : Option (Int) := if a1 = 0 then (some 0) else (some (wrap64 (Int.tdiv a0 a1)))
set_option maxHeartbeats 8000000 in
set_option maxRecDepth 100000 in
theorem trickleref01_Quotient.calls (a0 : Int) (a1 : Int) (r : Int) (w : World) (h : trickleref01_Quotient.f a0 a1 = some r) :
    Calls Tryd.prog 68 #[.int .i64 a0, .int .i64 a1] w fun e w' => e = .returned (.int .i64 r) ∧ Drawn0 w w' := by
  have H : (if a1 = 0 then (some 0) else (some (wrap64 (Int.tdiv a0 a1)))) = some r := h
  clear h
  by_cases c3 : a1 = 0
  · rw [if_pos c3] at H
    have c3b0 : (a1 == 0) = true := beq_iff_eq.mpr c3
    have c3b1 : (a1 != 0) = false := bne_eq_false_iff_eq.mpr c3
    clear c3
    obtain rfl := Option.some.inj H
    go_enter Tryd.func68, Tryd.ntmps68
    go_wp2
    go_ret
    exact ⟨by first | rfl | (simp; done) | (simp [*]; done), by repeat (first | exact Drawn0.refl _ | apply Drawn0.step)⟩
  · rw [if_neg c3] at H
    have c3b0 : (a1 == 0) = false := beq_eq_false_iff_ne.mpr c3
    have c3b1 : (a1 != 0) = true := bne_iff_ne.mpr c3
    obtain rfl := Option.some.inj H
    go_enter Tryd.func68, Tryd.ntmps68
    go_wp2
    go_ret
    exact ⟨by first | rfl | (simp; done) | (simp [*]; done), by repeat (first | exact Drawn0.refl _ | apply Drawn0.step)⟩
/-! ### trickleref01_Remainder: function 69 -/
def trickleref01_Remainder.f (a0 : Int) (a1 : Int) : Option (Int) := if a1 = 0 then (some 0) else ((trickleref01_Quotient.f a0 a1).bind fun t228 => (some (wrap64 (a0 - (wrap64 (a1 * t228))))))
set_option maxHeartbeats 8000000 in
set_option maxRecDepth 100000 in
theorem trickleref01_Remainder.calls (a0 : Int) (a1 : Int) (r : Int) (w : World) (h : trickleref01_Remainder.f a0 a1 = some r) :
    Calls Tryd.prog 69 #[.int .i64 a0, .int .i64 a1] w fun e w' => e = .returned (.int .i64 r) ∧ Drawn0 w w' := by
  have H : (if a1 = 0 then (some 0) else ((trickleref01_Quotient.f a0 a1).bind fun t228 => (some (wrap64 (a0 - (wrap64 (a1 * t228))))))) = some r := h
  clear h
  by_cases c3 : a1 = 0
  · rw [if_pos c3] at H
    have c3b0 : (a1 == 0) = true := beq_iff_eq.mpr c3
    have c3b1 : (a1 != 0) = false := bne_eq_false_iff_eq.mpr c3
    clear c3
    obtain rfl := Option.some.inj H
    go_enter Tryd.func69, Tryd.ntmps69
    go_wp2
    go_ret
    exact ⟨by first | rfl | (simp; done) | (simp [*]; done), by repeat (first | exact Drawn0.refl _ | apply Drawn0.step)⟩
  · rw [if_neg c3] at H
    have c3b0 : (a1 == 0) = false := beq_eq_false_iff_ne.mpr c3
    have c3b1 : (a1 != 0) = true := bne_iff_ne.mpr c3
    replace H := Option.bind_eq_some_iff.mp H
    obtain ⟨t228, A40, H⟩ := H
    replace H : (some (wrap64 (a0 - (wrap64 (a1 * t228))))) = some r := H
    have A4 := Aside0.mk A40
    clear A40
    obtain rfl := Option.some.inj H
    go_enter Tryd.func69, Tryd.ntmps69
    go_wp2_with (first | ((with_reducible refine gate_callee (f := 68) rfl ?_); refine goesL_ (some 11) rfl rfl Tryd.func68 (by kernel_rfl) rfl #[.int .i64 a0, .int .i64 a1] rfl (by (try simp only [List.map_toArray, List.map_cons, List.map_nil]); first | done | rfl | (simp only [List.length_drop, List.length_take]; rfl)) ?_; (with_reducible refine (trickleref01_Quotient.calls a0 a1 t228 _ A4.out).mono ?_); rintro e w' ⟨rfl, ⟨nd, rfl⟩⟩; refine ⟨_, rfl, ?_⟩))
    go_ret
    exact ⟨by first | rfl | (simp; done) | (simp [*]; done), by repeat (first | exact Drawn0.refl _ | apply Drawn0.step)⟩
/-! ### trickleref01_Binary: function 50 -/
def trickleref01_Binary.f (a0 : Int) (a1 : Int) (a2 : Int) : Option (Int × Int) := if a0 = 3 then ((trickleref01_Wrap.f (wrap64 ((wrap64 (a1)) + (wrap64 (a2))))).bind fun t229 => (some (t229, 0))) else (if a0 = 4 then ((trickleref01_Wrap.f (wrap64 ((wrap64 (a1)) - (wrap64 (a2))))).bind fun t230 => (some (t230, 0))) else (if a0 = 5 then ((trickleref01_Wrap.f (wrap64 ((wrap64 (a1)) * (wrap64 (a2))))).bind fun t231 => (some (t231, 0))) else (if a0 = 6 then ((trickleref01_Quotient.f (wrap64 (a1)) (wrap64 (a2))).bind fun t232 => ((trickleref01_Wrap.f t232).bind fun t233 => (some (t233, 0)))) else (if a0 = 7 then ((trickleref01_Remainder.f (wrap64 (a1)) (wrap64 (a2))).bind fun t234 => ((trickleref01_Wrap.f t234).bind fun t235 => (some (t235, 0)))) else (if a0 = 8 then ((trickleref01_truth.f ((wrap64 (a1)) == (wrap64 (a2)))).bind fun t236 => ((trickleref01_Wrap.f t236).bind fun t237 => (some (t237, 0)))) else (if a0 = 9 then ((trickleref01_truth.f ((wrap64 (a1)) != (wrap64 (a2)))).bind fun t238 => ((trickleref01_Wrap.f t238).bind fun t239 => (some (t239, 0)))) else (if a0 = 10 then ((trickleref01_truth.f (decide ((wrap64 (a1)) < (wrap64 (a2))))).bind fun t240 => ((trickleref01_Wrap.f t240).bind fun t241 => (some (t241, 0)))) else (if a0 = 11 then ((trickleref01_truth.f (decide ((wrap64 (a1)) ≤ (wrap64 (a2))))).bind fun t242 => ((trickleref01_Wrap.f t242).bind fun t243 => (some (t243, 0)))) else (if a0 = 12 then ((trickleref01_truth.f (decide ((wrap64 (a1)) > (wrap64 (a2))))).bind fun t244 => ((trickleref01_Wrap.f t244).bind fun t245 => (some (t245, 0)))) else (if a0 = 13 then ((trickleref01_truth.f (decide ((wrap64 (a1)) ≥ (wrap64 (a2))))).bind fun t246 => ((trickleref01_Wrap.f t246).bind fun t247 => (some (t247, 0)))) else (some (0, 1))))))))))))
set_option maxHeartbeats 8000000 in
set_option maxRecDepth 100000 in
theorem trickleref01_Binary.calls (a0 : Int) (a1 : Int) (a2 : Int) (r1 : Int) (r2 : Int) (w : World) (h : trickleref01_Binary.f a0 a1 a2 = some (r1, r2)) :
    Calls Tryd.prog 50 #[.int .i64 a0, .int .i16 a1, .int .i16 a2] w fun e w' => e = .returned (.tuple #[.int .i16 r1, .int .i64 r2]) ∧ Drawn0 w w' := by
  have H : (if a0 = 3 then ((trickleref01_Wrap.f (wrap64 ((wrap64 (a1)) + (wrap64 (a2))))).bind fun t229 => (some (t229, 0))) else (if a0 = 4 then ((trickleref01_Wrap.f (wrap64 ((wrap64 (a1)) - (wrap64 (a2))))).bind fun t230 => (some (t230, 0))) else (if a0 = 5 then ((trickleref01_Wrap.f (wrap64 ((wrap64 (a1)) * (wrap64 (a2))))).bind fun t231 => (some (t231, 0))) else (if a0 = 6 then ((trickleref01_Quotient.f (wrap64 (a1)) (wrap64 (a2))).bind fun t232 => ((trickleref01_Wrap.f t232).bind fun t233 => (some (t233, 0)))) else (if a0 = 7 then ((trickleref01_Remainder.f (wrap64 (a1)) (wrap64 (a2))).bind fun t234 => ((trickleref01_Wrap.f t234).bind fun t235 => (some (t235, 0)))) else (if a0 = 8 then ((trickleref01_truth.f ((wrap64 (a1)) == (wrap64 (a2)))).bind fun t236 => ((trickleref01_Wrap.f t236).bind fun t237 => (some (t237, 0)))) else (if a0 = 9 then ((trickleref01_truth.f ((wrap64 (a1)) != (wrap64 (a2)))).bind fun t238 => ((trickleref01_Wrap.f t238).bind fun t239 => (some (t239, 0)))) else (if a0 = 10 then ((trickleref01_truth.f (decide ((wrap64 (a1)) < (wrap64 (a2))))).bind fun t240 => ((trickleref01_Wrap.f t240).bind fun t241 => (some (t241, 0)))) else (if a0 = 11 then ((trickleref01_truth.f (decide ((wrap64 (a1)) ≤ (wrap64 (a2))))).bind fun t242 => ((trickleref01_Wrap.f t242).bind fun t243 => (some (t243, 0)))) else (if a0 = 12 then ((trickleref01_truth.f (decide ((wrap64 (a1)) > (wrap64 (a2))))).bind fun t244 => ((trickleref01_Wrap.f t244).bind fun t245 => (some (t245, 0)))) else (if a0 = 13 then ((trickleref01_truth.f (decide ((wrap64 (a1)) ≥ (wrap64 (a2))))).bind fun t246 => ((trickleref01_Wrap.f t246).bind fun t247 => (some (t247, 0)))) else (some (0, 1))))))))))))) = some (r1, r2) := h
  clear h
  by_cases c4 : a0 = 3
  · rw [if_pos c4] at H
    have c4b0 : (a0 == 3) = true := beq_iff_eq.mpr c4
    have c4b1 : (a0 != 3) = false := bne_eq_false_iff_eq.mpr c4
    clear c4
    replace H := Option.bind_eq_some_iff.mp H
    obtain ⟨t229, A50, H⟩ := H
    replace H : (some (t229, 0)) = some (r1, r2) := H
    have A5 := Aside0.mk A50
    clear A50
    simp only [Option.some.injEq, Prod.mk.injEq] at H
    obtain ⟨rfl, rfl⟩ := H
    go_enter Tryd.func50, Tryd.ntmps50
    go_wp2_with (first | ((with_reducible refine gate_callee (f := 66) rfl ?_); refine goesL_ (some 78) rfl rfl Tryd.func66 (by kernel_rfl) rfl #[.int .i64 (wrap64 ((wrap64 (a1)) + (wrap64 (a2))))] rfl (by (try simp only [List.map_toArray, List.map_cons, List.map_nil]); first | done | rfl | (simp only [List.length_drop, List.length_take]; rfl)) ?_; (with_reducible refine (trickleref01_Wrap.calls (wrap64 ((wrap64 (a1)) + (wrap64 (a2)))) t229 _ A5.out).mono ?_); rintro e w' ⟨rfl, ⟨nd, rfl⟩⟩; refine ⟨_, rfl, ?_⟩))
    go_ret2
    exact ⟨by first | rfl | (simp; done) | (simp [*]; done), by repeat (first | exact Drawn0.refl _ | apply Drawn0.step)⟩
  · rw [if_neg c4] at H
    have c4b0 : (a0 == 3) = false := beq_eq_false_iff_ne.mpr c4
    have c4b1 : (a0 != 3) = true := bne_iff_ne.mpr c4
    by_cases c6 : a0 = 4
    · rw [if_pos c6] at H
      have c6b0 : (a0 == 4) = true := beq_iff_eq.mpr c6
      have c6b1 : (a0 != 4) = false := bne_eq_false_iff_eq.mpr c6
      clear c6
      replace H := Option.bind_eq_some_iff.mp H
      obtain ⟨t230, A70, H⟩ := H
      replace H : (some (t230, 0)) = some (r1, r2) := H
      have A7 := Aside0.mk A70
      clear A70
      simp only [Option.some.injEq, Prod.mk.injEq] at H
      obtain ⟨rfl, rfl⟩ := H
      go_enter Tryd.func50, Tryd.ntmps50
      go_wp2_with (first | ((with_reducible refine gate_callee (f := 66) rfl ?_); refine goesL_ (some 78) rfl rfl Tryd.func66 (by kernel_rfl) rfl #[.int .i64 (wrap64 ((wrap64 (a1)) - (wrap64 (a2))))] rfl (by (try simp only [List.map_toArray, List.map_cons, List.map_nil]); first | done | rfl | (simp only [List.length_drop, List.length_take]; rfl)) ?_; (with_reducible refine (trickleref01_Wrap.calls (wrap64 ((wrap64 (a1)) - (wrap64 (a2)))) t230 _ A7.out).mono ?_); rintro e w' ⟨rfl, ⟨nd, rfl⟩⟩; refine ⟨_, rfl, ?_⟩))
      go_ret2
      exact ⟨by first | rfl | (simp; done) | (simp [*]; done), by repeat (first | exact Drawn0.refl _ | apply Drawn0.step)⟩
    · rw [if_neg c6] at H
      have c6b0 : (a0 == 4) = false := beq_eq_false_iff_ne.mpr c6
      have c6b1 : (a0 != 4) = true := bne_iff_ne.mpr c6
      by_cases c8 : a0 = 5
      · rw [if_pos c8] at H
        have c8b0 : (a0 == 5) = true := beq_iff_eq.mpr c8
        have c8b1 : (a0 != 5) = false := bne_eq_false_iff_eq.mpr c8
        clear c8
        replace H := Option.bind_eq_some_iff.mp H
        obtain ⟨t231, A90, H⟩ := H
        replace H : (some (t231, 0)) = some (r1, r2) := H
        have A9 := Aside0.mk A90
        clear A90
        simp only [Option.some.injEq, Prod.mk.injEq] at H
        obtain ⟨rfl, rfl⟩ := H
        go_enter Tryd.func50, Tryd.ntmps50
        go_wp2_with (first | ((with_reducible refine gate_callee (f := 66) rfl ?_); refine goesL_ (some 78) rfl rfl Tryd.func66 (by kernel_rfl) rfl #[.int .i64 (wrap64 ((wrap64 (a1)) * (wrap64 (a2))))] rfl (by (try simp only [List.map_toArray, List.map_cons, List.map_nil]); first | done | rfl | (simp only [List.length_drop, List.length_take]; rfl)) ?_; (with_reducible refine (trickleref01_Wrap.calls (wrap64 ((wrap64 (a1)) * (wrap64 (a2)))) t231 _ A9.out).mono ?_); rintro e w' ⟨rfl, ⟨nd, rfl⟩⟩; refine ⟨_, rfl, ?_⟩))
        go_ret2
        exact ⟨by first | rfl | (simp; done) | (simp [*]; done), by repeat (first | exact Drawn0.refl _ | apply Drawn0.step)⟩
      · rw [if_neg c8] at H
        have c8b0 : (a0 == 5) = false := beq_eq_false_iff_ne.mpr c8
        have c8b1 : (a0 != 5) = true := bne_iff_ne.mpr c8
        by_cases c10 : a0 = 6
        · rw [if_pos c10] at H
          have c10b0 : (a0 == 6) = true := beq_iff_eq.mpr c10
          have c10b1 : (a0 != 6) = false := bne_eq_false_iff_eq.mpr c10
          clear c10
          replace H := Option.bind_eq_some_iff.mp H
          obtain ⟨t232, A110, H⟩ := H
          replace H : ((trickleref01_Wrap.f t232).bind fun t233 => (some (t233, 0))) = some (r1, r2) := H
          have A11 := Aside0.mk A110
          clear A110
          replace H := Option.bind_eq_some_iff.mp H
          obtain ⟨t233, A120, H⟩ := H
          replace H : (some (t233, 0)) = some (r1, r2) := H
          have A12 := Aside0.mk A120
          clear A120
          simp only [Option.some.injEq, Prod.mk.injEq] at H
          obtain ⟨rfl, rfl⟩ := H
          go_enter Tryd.func50, Tryd.ntmps50
          go_wp2_with (first | ((with_reducible refine gate_callee (f := 68) rfl ?_); refine goesL_ (some 35) rfl rfl Tryd.func68 (by kernel_rfl) rfl #[.int .i64 (wrap64 (a1)), .int .i64 (wrap64 (a2))] rfl (by (try simp only [List.map_toArray, List.map_cons, List.map_nil]); first | done | rfl | (simp only [List.length_drop, List.length_take]; rfl)) ?_; (with_reducible refine (trickleref01_Quotient.calls (wrap64 (a1)) (wrap64 (a2)) t232 _ A11.out).mono ?_); rintro e w' ⟨rfl, ⟨nd, rfl⟩⟩; refine ⟨_, rfl, ?_⟩) | ((with_reducible refine gate_callee (f := 66) rfl ?_); refine goesL_ (some 78) rfl rfl Tryd.func66 (by kernel_rfl) rfl #[.int .i64 t232] rfl (by (try simp only [List.map_toArray, List.map_cons, List.map_nil]); first | done | rfl | (simp only [List.length_drop, List.length_take]; rfl)) ?_; (with_reducible refine (trickleref01_Wrap.calls t232 t233 _ A12.out).mono ?_); rintro e w' ⟨rfl, ⟨nd, rfl⟩⟩; refine ⟨_, rfl, ?_⟩))
          go_ret2
          exact ⟨by first | rfl | (simp; done) | (simp [*]; done), by repeat (first | exact Drawn0.refl _ | apply Drawn0.step)⟩
        · rw [if_neg c10] at H
          have c10b0 : (a0 == 6) = false := beq_eq_false_iff_ne.mpr c10
          have c10b1 : (a0 != 6) = true := bne_iff_ne.mpr c10
          by_cases c13 : a0 = 7
          · rw [if_pos c13] at H
            have c13b0 : (a0 == 7) = true := beq_iff_eq.mpr c13
            have c13b1 : (a0 != 7) = false := bne_eq_false_iff_eq.mpr c13
            clear c13
            replace H := Option.bind_eq_some_iff.mp H
            obtain ⟨t234, A140, H⟩ := H
            replace H : ((trickleref01_Wrap.f t234).bind fun t235 => (some (t235, 0))) = some (r1, r2) := H
            have A14 := Aside0.mk A140
            clear A140
            replace H := Option.bind_eq_some_iff.mp H
            obtain ⟨t235, A150, H⟩ := H
            replace H : (some (t235, 0)) = some (r1, r2) := H
            have A15 := Aside0.mk A150
            clear A150
            simp only [Option.some.injEq, Prod.mk.injEq] at H
            obtain ⟨rfl, rfl⟩ := H
            go_enter Tryd.func50, Tryd.ntmps50
            go_wp2_with (first | ((with_reducible refine gate_callee (f := 69) rfl ?_); refine goesL_ (some 40) rfl rfl Tryd.func69 (by kernel_rfl) rfl #[.int .i64 (wrap64 (a1)), .int .i64 (wrap64 (a2))] rfl (by (try simp only [List.map_toArray, List.map_cons, List.map_nil]); first | done | rfl | (simp only [List.length_drop, List.length_take]; rfl)) ?_; (with_reducible refine (trickleref01_Remainder.calls (wrap64 (a1)) (wrap64 (a2)) t234 _ A14.out).mono ?_); rintro e w' ⟨rfl, ⟨nd, rfl⟩⟩; refine ⟨_, rfl, ?_⟩) | ((with_reducible refine gate_callee (f := 66) rfl ?_); refine goesL_ (some 78) rfl rfl Tryd.func66 (by kernel_rfl) rfl #[.int .i64 t234] rfl (by (try simp only [List.map_toArray, List.map_cons, List.map_nil]); first | done | rfl | (simp only [List.length_drop, List.length_take]; rfl)) ?_; (with_reducible refine (trickleref01_Wrap.calls t234 t235 _ A15.out).mono ?_); rintro e w' ⟨rfl, ⟨nd, rfl⟩⟩; refine ⟨_, rfl, ?_⟩))
            go_ret2
            exact ⟨by first | rfl | (simp; done) | (simp [*]; done), by repeat (first | exact Drawn0.refl _ | apply Drawn0.step)⟩
          · rw [if_neg c13] at H
            have c13b0 : (a0 == 7) = false := beq_eq_false_iff_ne.mpr c13
            have c13b1 : (a0 != 7) = true := bne_iff_ne.mpr c13
            by_cases c16 : a0 = 8
            · rw [if_pos c16] at H
              have c16b0 : (a0 == 8) = true := beq_iff_eq.mpr c16
              have c16b1 : (a0 != 8) = false := bne_eq_false_iff_eq.mpr c16
              clear c16
              replace H := Option.bind_eq_some_iff.mp H
              obtain ⟨t236, A170, H⟩ := H
              replace H : ((trickleref01_Wrap.f t236).bind fun t237 => (some (t237, 0))) = some (r1, r2) := H
              have A17 := Aside0.mk A170
              clear A170
              replace H := Option.bind_eq_some_iff.mp H
              obtain ⟨t237, A180, H⟩ := H
              replace H : (some (t237, 0)) = some (r1, r2) := H
              have A18 := Aside0.mk A180
              clear A180
              simp only [Option.some.injEq, Prod.mk.injEq] at H
              obtain ⟨rfl, rfl⟩ := H
              go_enter Tryd.func50, Tryd.ntmps50
              go_wp2_with (first | ((with_reducible refine gate_callee (f := 67) rfl ?_); refine goesL_ (some 46) rfl rfl Tryd.func67 (by kernel_rfl) rfl #[.bool ((wrap64 (a1)) == (wrap64 (a2)))] rfl (by (try simp only [List.map_toArray, List.map_cons, List.map_nil]); first | done | rfl | (simp only [List.length_drop, List.length_take]; rfl)) ?_; (with_reducible refine (trickleref01_truth.calls ((wrap64 (a1)) == (wrap64 (a2))) t236 _ A17.out).mono ?_); rintro e w' ⟨rfl, ⟨nd, rfl⟩⟩; refine ⟨_, rfl, ?_⟩) | ((with_reducible refine gate_callee (f := 66) rfl ?_); refine goesL_ (some 78) rfl rfl Tryd.func66 (by kernel_rfl) rfl #[.int .i64 t236] rfl (by (try simp only [List.map_toArray, List.map_cons, List.map_nil]); first | done | rfl | (simp only [List.length_drop, List.length_take]; rfl)) ?_; (with_reducible refine (trickleref01_Wrap.calls t236 t237 _ A18.out).mono ?_); rintro e w' ⟨rfl, ⟨nd, rfl⟩⟩; refine ⟨_, rfl, ?_⟩))
              go_ret2
              exact ⟨by first | rfl | (simp; done) | (simp [*]; done), by repeat (first | exact Drawn0.refl _ | apply Drawn0.step)⟩
            · rw [if_neg c16] at H
              have c16b0 : (a0 == 8) = false := beq_eq_false_iff_ne.mpr c16
              have c16b1 : (a0 != 8) = true := bne_iff_ne.mpr c16
              by_cases c19 : a0 = 9
              · rw [if_pos c19] at H
                have c19b0 : (a0 == 9) = true := beq_iff_eq.mpr c19
                have c19b1 : (a0 != 9) = false := bne_eq_false_iff_eq.mpr c19
                clear c19
                replace H := Option.bind_eq_some_iff.mp H
                obtain ⟨t238, A200, H⟩ := H
                replace H : ((trickleref01_Wrap.f t238).bind fun t239 => (some (t239, 0))) = some (r1, r2) := H
                have A20 := Aside0.mk A200
                clear A200
                replace H := Option.bind_eq_some_iff.mp H
                obtain ⟨t239, A210, H⟩ := H
                replace H : (some (t239, 0)) = some (r1, r2) := H
                have A21 := Aside0.mk A210
                clear A210
                simp only [Option.some.injEq, Prod.mk.injEq] at H
                obtain ⟨rfl, rfl⟩ := H
                go_enter Tryd.func50, Tryd.ntmps50
                go_wp2_with (first | ((with_reducible refine gate_callee (f := 67) rfl ?_); refine goesL_ (some 52) rfl rfl Tryd.func67 (by kernel_rfl) rfl #[.bool ((wrap64 (a1)) != (wrap64 (a2)))] rfl (by (try simp only [List.map_toArray, List.map_cons, List.map_nil]); first | done | rfl | (simp only [List.length_drop, List.length_take]; rfl)) ?_; (with_reducible refine (trickleref01_truth.calls ((wrap64 (a1)) != (wrap64 (a2))) t238 _ A20.out).mono ?_); rintro e w' ⟨rfl, ⟨nd, rfl⟩⟩; refine ⟨_, rfl, ?_⟩) | ((with_reducible refine gate_callee (f := 66) rfl ?_); refine goesL_ (some 78) rfl rfl Tryd.func66 (by kernel_rfl) rfl #[.int .i64 t238] rfl (by (try simp only [List.map_toArray, List.map_cons, List.map_nil]); first | done | rfl | (simp only [List.length_drop, List.length_take]; rfl)) ?_; (with_reducible refine (trickleref01_Wrap.calls t238 t239 _ A21.out).mono ?_); rintro e w' ⟨rfl, ⟨nd, rfl⟩⟩; refine ⟨_, rfl, ?_⟩))
                go_ret2
                exact ⟨by first | rfl | (simp; done) | (simp [*]; done), by repeat (first | exact Drawn0.refl _ | apply Drawn0.step)⟩
              · rw [if_neg c19] at H
                have c19b0 : (a0 == 9) = false := beq_eq_false_iff_ne.mpr c19
                have c19b1 : (a0 != 9) = true := bne_iff_ne.mpr c19
                by_cases c22 : a0 = 10
                · rw [if_pos c22] at H
                  have c22b0 : (a0 == 10) = true := beq_iff_eq.mpr c22
                  have c22b1 : (a0 != 10) = false := bne_eq_false_iff_eq.mpr c22
                  clear c22
                  replace H := Option.bind_eq_some_iff.mp H
                  obtain ⟨t240, A230, H⟩ := H
                  replace H : ((trickleref01_Wrap.f t240).bind fun t241 => (some (t241, 0))) = some (r1, r2) := H
                  have A23 := Aside0.mk A230
                  clear A230
                  replace H := Option.bind_eq_some_iff.mp H
                  obtain ⟨t241, A240, H⟩ := H
                  replace H : (some (t241, 0)) = some (r1, r2) := H
                  have A24 := Aside0.mk A240
                  clear A240
                  simp only [Option.some.injEq, Prod.mk.injEq] at H
                  obtain ⟨rfl, rfl⟩ := H
                  go_enter Tryd.func50, Tryd.ntmps50
                  go_wp2_with (first | ((with_reducible refine gate_callee (f := 67) rfl ?_); refine goesL_ (some 58) rfl rfl Tryd.func67 (by kernel_rfl) rfl #[.bool (decide ((wrap64 (a1)) < (wrap64 (a2))))] rfl (by (try simp only [List.map_toArray, List.map_cons, List.map_nil]); first | done | rfl | (simp only [List.length_drop, List.length_take]; rfl)) ?_; (with_reducible refine (trickleref01_truth.calls (decide ((wrap64 (a1)) < (wrap64 (a2)))) t240 _ A23.out).mono ?_); rintro e w' ⟨rfl, ⟨nd, rfl⟩⟩; refine ⟨_, rfl, ?_⟩) | ((with_reducible refine gate_callee (f := 66) rfl ?_); refine goesL_ (some 78) rfl rfl Tryd.func66 (by kernel_rfl) rfl #[.int .i64 t240] rfl (by (try simp only [List.map_toArray, List.map_cons, List.map_nil]); first | done | rfl | (simp only [List.length_drop, List.length_take]; rfl)) ?_; (with_reducible refine (trickleref01_Wrap.calls t240 t241 _ A24.out).mono ?_); rintro e w' ⟨rfl, ⟨nd, rfl⟩⟩; refine ⟨_, rfl, ?_⟩))
                  go_ret2
                  exact ⟨by first | rfl | (simp; done) | (simp [*]; done), by repeat (first | exact Drawn0.refl _ | apply Drawn0.step)⟩
                · rw [if_neg c22] at H
                  have c22b0 : (a0 == 10) = false := beq_eq_false_iff_ne.mpr c22
                  have c22b1 : (a0 != 10) = true := bne_iff_ne.mpr c22
                  by_cases c25 : a0 = 11
                  · rw [if_pos c25] at H
                    have c25b0 : (a0 == 11) = true := beq_iff_eq.mpr c25
                    have c25b1 : (a0 != 11) = false := bne_eq_false_iff_eq.mpr c25
                    clear c25
                    replace H := Option.bind_eq_some_iff.mp H
                    obtain ⟨t242, A260, H⟩ := H
                    replace H : ((trickleref01_Wrap.f t242).bind fun t243 => (some (t243, 0))) = some (r1, r2) := H
                    have A26 := Aside0.mk A260
                    clear A260
                    replace H := Option.bind_eq_some_iff.mp H
                    obtain ⟨t243, A270, H⟩ := H
                    replace H : (some (t243, 0)) = some (r1, r2) := H
                    have A27 := Aside0.mk A270
                    clear A270
                    simp only [Option.some.injEq, Prod.mk.injEq] at H
                    obtain ⟨rfl, rfl⟩ := H
                    go_enter Tryd.func50, Tryd.ntmps50
                    go_wp2_with (first | ((with_reducible refine gate_callee (f := 67) rfl ?_); refine goesL_ (some 64) rfl rfl Tryd.func67 (by kernel_rfl) rfl #[.bool (decide ((wrap64 (a1)) ≤ (wrap64 (a2))))] rfl (by (try simp only [List.map_toArray, List.map_cons, List.map_nil]); first | done | rfl | (simp only [List.length_drop, List.length_take]; rfl)) ?_; (with_reducible refine (trickleref01_truth.calls (decide ((wrap64 (a1)) ≤ (wrap64 (a2)))) t242 _ A26.out).mono ?_); rintro e w' ⟨rfl, ⟨nd, rfl⟩⟩; refine ⟨_, rfl, ?_⟩) | ((with_reducible refine gate_callee (f := 66) rfl ?_); refine goesL_ (some 78) rfl rfl Tryd.func66 (by kernel_rfl) rfl #[.int .i64 t242] rfl (by (try simp only [List.map_toArray, List.map_cons, List.map_nil]); first | done | rfl | (simp only [List.length_drop, List.length_take]; rfl)) ?_; (with_reducible refine (trickleref01_Wrap.calls t242 t243 _ A27.out).mono ?_); rintro e w' ⟨rfl, ⟨nd, rfl⟩⟩; refine ⟨_, rfl, ?_⟩))
                    go_ret2
                    exact ⟨by first | rfl | (simp; done) | (simp [*]; done), by repeat (first | exact Drawn0.refl _ | apply Drawn0.step)⟩
                  · rw [if_neg c25] at H
                    have c25b0 : (a0 == 11) = false := beq_eq_false_iff_ne.mpr c25
                    have c25b1 : (a0 != 11) = true := bne_iff_ne.mpr c25
                    by_cases c28 : a0 = 12
                    · rw [if_pos c28] at H
                      have c28b0 : (a0 == 12) = true := beq_iff_eq.mpr c28
                      have c28b1 : (a0 != 12) = false := bne_eq_false_iff_eq.mpr c28
                      clear c28
                      replace H := Option.bind_eq_some_iff.mp H
                      obtain ⟨t244, A290, H⟩ := H
                      replace H : ((trickleref01_Wrap.f t244).bind fun t245 => (some (t245, 0))) = some (r1, r2) := H
                      have A29 := Aside0.mk A290
                      clear A290
                      replace H := Option.bind_eq_some_iff.mp H
                      obtain ⟨t245, A300, H⟩ := H
                      replace H : (some (t245, 0)) = some (r1, r2) := H
                      have A30 := Aside0.mk A300
                      clear A300
                      simp only [Option.some.injEq, Prod.mk.injEq] at H
                      obtain ⟨rfl, rfl⟩ := H
                      go_enter Tryd.func50, Tryd.ntmps50
                      go_wp2_with (first | ((with_reducible refine gate_callee (f := 67) rfl ?_); refine goesL_ (some 70) rfl rfl Tryd.func67 (by kernel_rfl) rfl #[.bool (decide ((wrap64 (a1)) > (wrap64 (a2))))] rfl (by (try simp only [List.map_toArray, List.map_cons, List.map_nil]); first | done | rfl | (simp only [List.length_drop, List.length_take]; rfl)) ?_; (with_reducible refine (trickleref01_truth.calls (decide ((wrap64 (a1)) > (wrap64 (a2)))) t244 _ A29.out).mono ?_); rintro e w' ⟨rfl, ⟨nd, rfl⟩⟩; refine ⟨_, rfl, ?_⟩) | ((with_reducible refine gate_callee (f := 66) rfl ?_); refine goesL_ (some 78) rfl rfl Tryd.func66 (by kernel_rfl) rfl #[.int .i64 t244] rfl (by (try simp only [List.map_toArray, List.map_cons, List.map_nil]); first | done | rfl | (simp only [List.length_drop, List.length_take]; rfl)) ?_; (with_reducible refine (trickleref01_Wrap.calls t244 t245 _ A30.out).mono ?_); rintro e w' ⟨rfl, ⟨nd, rfl⟩⟩; refine ⟨_, rfl, ?_⟩))
                      go_ret2
                      exact ⟨by first | rfl | (simp; done) | (simp [*]; done), by repeat (first | exact Drawn0.refl _ | apply Drawn0.step)⟩
                    · rw [if_neg c28] at H
                      have c28b0 : (a0 == 12) = false := beq_eq_false_iff_ne.mpr c28
                      have c28b1 : (a0 != 12) = true := bne_iff_ne.mpr c28
                      by_cases c31 : a0 = 13
                      · rw [if_pos c31] at H
                        have c31b0 : (a0 == 13) = true := beq_iff_eq.mpr c31
                        have c31b1 : (a0 != 13) = false := bne_eq_false_iff_eq.mpr c31
                        clear c31
                        replace H := Option.bind_eq_some_iff.mp H
                        obtain ⟨t246, A320, H⟩ := H
                        replace H : ((trickleref01_Wrap.f t246).bind fun t247 => (some (t247, 0))) = some (r1, r2) := H
                        have A32 := Aside0.mk A320
                        clear A320
                        replace H := Option.bind_eq_some_iff.mp H
                        obtain ⟨t247, A330, H⟩ := H
                        replace H : (some (t247, 0)) = some (r1, r2) := H
                        have A33 := Aside0.mk A330
                        clear A330
                        simp only [Option.some.injEq, Prod.mk.injEq] at H
                        obtain ⟨rfl, rfl⟩ := H
                        go_enter Tryd.func50, Tryd.ntmps50
                        go_wp2_with (first | ((with_reducible refine gate_callee (f := 67) rfl ?_); refine goesL_ (some 76) rfl rfl Tryd.func67 (by kernel_rfl) rfl #[.bool (decide ((wrap64 (a1)) ≥ (wrap64 (a2))))] rfl (by (try simp only [List.map_toArray, List.map_cons, List.map_nil]); first | done | rfl | (simp only [List.length_drop, List.length_take]; rfl)) ?_; (with_reducible refine (trickleref01_truth.calls (decide ((wrap64 (a1)) ≥ (wrap64 (a2)))) t246 _ A32.out).mono ?_); rintro e w' ⟨rfl, ⟨nd, rfl⟩⟩; refine ⟨_, rfl, ?_⟩) | ((with_reducible refine gate_callee (f := 66) rfl ?_); refine goesL_ (some 78) rfl rfl Tryd.func66 (by kernel_rfl) rfl #[.int .i64 t246] rfl (by (try simp only [List.map_toArray, List.map_cons, List.map_nil]); first | done | rfl | (simp only [List.length_drop, List.length_take]; rfl)) ?_; (with_reducible refine (trickleref01_Wrap.calls t246 t247 _ A33.out).mono ?_); rintro e w' ⟨rfl, ⟨nd, rfl⟩⟩; refine ⟨_, rfl, ?_⟩))
                        go_ret2
                        exact ⟨by first | rfl | (simp; done) | (simp [*]; done), by repeat (first | exact Drawn0.refl _ | apply Drawn0.step)⟩
                      · rw [if_neg c31] at H
                        have c31b0 : (a0 == 13) = false := beq_eq_false_iff_ne.mpr c31
                        have c31b1 : (a0 != 13) = true := bne_iff_ne.mpr c31
                        simp only [Option.some.injEq, Prod.mk.injEq] at H
                        obtain ⟨rfl, rfl⟩ := H
                        go_enter Tryd.func50, Tryd.ntmps50
                        go_wp2
                        go_ret2
                        exact ⟨by first | rfl | (simp; done) | (simp [*]; done), by repeat (first | exact Drawn0.refl _ | apply Drawn0.step)⟩
-- NOT PRINTED: function 20 (trickleref12_Step)
/-! ### trickleref12_Same: function 15 -/
def trickleref12_Same.l0 : Nat → List Int → List Int → Int → Int → Option (Bool)
  | 0, _, _, _, _ => none
  | k + 1, x0, x1, x12, x13 => if x13 < x12 then (if 0 ≤ x13 then (if x13 < (x0.length : Int) then (if x13 < (x1.length : Int) then (if (rd x0 x13) = (rd x1 x13) then (trickleref12_Same.l0 k x0 x1 x12 (wrap64 (x13 + 1))) else (some false)) else (none)) else (none)) else (none)) else (some true)
def trickleref12_Same.f (k : Nat) (l0 : List Int) (l1 : List Int) : Option (Bool) := if (l0.length : Int) = (l1.length : Int) then (trickleref12_Same.l0 k l0 l1 (l0.length : Int) 0) else (some false)
set_option maxHeartbeats 8000000 in
set_option maxRecDepth 100000 in
theorem trickleref12_Same.calls (k : Nat) (A0 : Option Addr) (c0 : Nat) (l0 : List Int) (A1 : Option Addr) (c1 : Nat) (l1 : List Int) (r : Bool) (w : World) (hr0 : Kd.C (Kd.int .i16) w A0 l0.length l0) (hc0 : l0.length ≤ c0) (hr1 : Kd.C (Kd.int .i16) w A1 l1.length l1) (hc1 : l1.length ≤ c1) (h : trickleref12_Same.f k l0 l1 = some r) :
    Calls Tryd.prog 15 #[.slice A0 l0.length c0, .slice A1 l1.length c1] w fun e w' => e = .returned (.bool r) ∧ Drawn0 w w' := by
  have HR0 := Aside0.mk hr0
  have HC0 := Aside0.mk hc0
  clear hr0 hc0
  have HR1 := Aside0.mk hr1
  have HC1 := Aside0.mk hc1
  clear hr1 hc1
  have H : (if (l0.length : Int) = (l1.length : Int) then (trickleref12_Same.l0 k l0 l1 (l0.length : Int) 0) else (some false)) = some r := h
  clear h
  by_cases c3 : (l0.length : Int) = (l1.length : Int)
  · rw [if_pos c3] at H
    have c3b0 : ((l0.length : Int) == (l1.length : Int)) = true := beq_iff_eq.mpr c3
    have c3b1 : ((l0.length : Int) != (l1.length : Int)) = false := bne_eq_false_iff_eq.mpr c3
    have c3b2 : (l0.length == l1.length) = true := by first | simpa using c3 | (simp at c3 ⊢; omega)
    clear c3
    have H' := Aside0.mk H
    clear H
    go_enter Tryd.func15, Tryd.ntmps15
    go_wp2
    repeat (go_quiet (fail); try go_wp2)
    go_loopg [13] k (fun kq v13 w' => ∃ (x13_1 : Int), v13 = .int .i64 x13_1 ∧ Aside0 (trickleref12_Same.l0 kq l0 l1 (l0.length : Int) x13_1 = some r) ∧ Aside0 (kq ≤ k) ∧ Drawn0 w w')
    case atStart => exact ⟨(0), (by first | rfl | (simp; done) | (simp [*]; done)), H', ⟨Nat.le_refl _⟩, by repeat (first | exact Drawn0.refl _ | apply Drawn0.step)⟩
    case round =>
      clear H'
      try clear c1
      try clear p2
      try clear c3
      try clear c3b0
      try clear c3b1
      try clear c3b2
      obtain ⟨x13_1, rfl, HA, HK1, ⟨m1, rfl⟩⟩ := hrel
      cases gk with
      | zero => exact absurd HA.out (by simp [trickleref12_Same.l0])
      | succ k1 =>
        have H := HA.out
        clear HA
        simp only [trickleref12_Same.l0] at H
        by_cases c4 : x13_1 < (l0.length : Int)
        · rw [if_pos c4] at H
          have c4b0 : decide (x13_1 < (l0.length : Int)) = true := decide_eq_true c4
          clear c4
          by_cases c5 : 0 ≤ x13_1
          · rw [if_pos c5] at H
            have c5b0 : decide (0 ≤ x13_1) = true := decide_eq_true c5
            clear c5
            by_cases c6 : x13_1 < (l0.length : Int)
            · rw [if_pos c6] at H
              have c6b0 : decide (x13_1 < (l0.length : Int)) = true := decide_eq_true c6
              clear c6
              by_cases c7 : x13_1 < (l1.length : Int)
              · rw [if_pos c7] at H
                have c7b0 : decide (x13_1 < (l1.length : Int)) = true := decide_eq_true c7
                clear c7
                by_cases c8 : (rd l0 x13_1) = (rd l1 x13_1)
                · rw [if_pos c8] at H
                  have c8b0 : ((rd l0 x13_1) == (rd l1 x13_1)) = true := beq_iff_eq.mpr c8
                  have c8b1 : ((rd l0 x13_1) != (rd l1 x13_1)) = false := bne_eq_false_iff_eq.mpr c8
                  clear c8
                  have H' := Aside0.mk H
                  clear H
                  have p248 : 0 ≤ (x13_1 : Int) := of_decide_eq_true (by first | (with_reducible assumption) | assumption)
                  have q248 : x13_1 < (l0.length : Int) := of_decide_eq_true (by first | (with_reducible assumption) | assumption)
                  obtain ⟨ad248, e248, hx248_0⟩ := Kd.at_int HR0.out x13_1 p248 q248
                  cases e248
                  replace p248 := eq_true p248
                  replace q248 := eq_true q248
                  have p249 : 0 ≤ (x13_1 : Int) := of_decide_eq_true (by first | (with_reducible assumption) | assumption)
                  have q249 : x13_1 < (l1.length : Int) := of_decide_eq_true (by first | (with_reducible assumption) | assumption)
                  obtain ⟨ad249, e249, hx249_0⟩ := Kd.at_int HR1.out x13_1 p249 q249
                  cases e249
                  replace p249 := eq_true p249
                  replace q249 := eq_true q249
                  go_wp2
                  repeat (go_quiet (fail); try go_wp2)
                  go_roundg k1
                  case measure => have := HK1.out; omega
                  case rel => exact ⟨(wrap64 (x13_1 + 1)), (by first | rfl | (simp; done) | (simp [*]; done)), H', ⟨by have := HK1.out; omega⟩, by repeat (first | exact Drawn0.refl _ | apply Drawn0.step)⟩
                · rw [if_neg c8] at H
                  have c8b0 : ((rd l0 x13_1) == (rd l1 x13_1)) = false := beq_eq_false_iff_ne.mpr c8
                  have c8b1 : ((rd l0 x13_1) != (rd l1 x13_1)) = true := bne_iff_ne.mpr c8
                  obtain rfl := Option.some.inj H
                  have p248 : 0 ≤ (x13_1 : Int) := of_decide_eq_true (by first | (with_reducible assumption) | assumption)
                  have q248 : x13_1 < (l0.length : Int) := of_decide_eq_true (by first | (with_reducible assumption) | assumption)
                  obtain ⟨ad248, e248, hx248_0⟩ := Kd.at_int HR0.out x13_1 p248 q248
                  cases e248
                  replace p248 := eq_true p248
                  replace q248 := eq_true q248
                  have p249 : 0 ≤ (x13_1 : Int) := of_decide_eq_true (by first | (with_reducible assumption) | assumption)
                  have q249 : x13_1 < (l1.length : Int) := of_decide_eq_true (by first | (with_reducible assumption) | assumption)
                  obtain ⟨ad249, e249, hx249_0⟩ := Kd.at_int HR1.out x13_1 p249 q249
                  cases e249
                  replace p249 := eq_true p249
                  replace q249 := eq_true q249
                  go_wp2
                  repeat (go_quiet (fail); try go_wp2)
                  go_ret
                  exact ⟨by first | rfl | (simp; done) | (simp [*]; done), by repeat (first | exact Drawn0.refl _ | apply Drawn0.step)⟩
              · rw [if_neg c7] at H
                exact absurd H (by simp)
            · rw [if_neg c6] at H
              exact absurd H (by simp)
          · rw [if_neg c5] at H
            exact absurd H (by simp)
        · rw [if_neg c4] at H
          have c4b0 : decide (x13_1 < (l0.length : Int)) = false := decide_eq_false c4
          clear c4
          obtain rfl := Option.some.inj H
          go_wp2
          repeat (go_quiet (fail); try go_wp2)
          go_ret
          exact ⟨by first | rfl | (simp; done) | (simp [*]; done), by repeat (first | exact Drawn0.refl _ | apply Drawn0.step)⟩
  · rw [if_neg c3] at H
    have c3b0 : ((l0.length : Int) == (l1.length : Int)) = false := beq_eq_false_iff_ne.mpr c3
    have c3b1 : ((l0.length : Int) != (l1.length : Int)) = true := bne_iff_ne.mpr c3
    have c3b2 : (l0.length == l1.length) = false := by first | simpa using c3 | (simp at c3 ⊢; omega)
    obtain rfl := Option.some.inj H
    go_enter Tryd.func15, Tryd.ntmps15
    go_wp2
    repeat (go_quiet (fail); try go_wp2)
    go_ret
    exact ⟨by first | rfl | (simp; done) | (simp [*]; done), by repeat (first | exact Drawn0.refl _ | apply Drawn0.step)⟩
end Go.Proofs.YtleafbihfmiidaaDoor.QAl
