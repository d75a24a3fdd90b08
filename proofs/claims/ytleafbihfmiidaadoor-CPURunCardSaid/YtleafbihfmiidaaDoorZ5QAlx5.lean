/- What this claim needs of QAlx5. Parted by prune.py. -/
import Derived.Test.YtleafbihfmiidaaDoorZ5QAlx0
-- Printed by a program of this session (myprint.py) over the kit's print: functions, contracts; not trusted, Lean checks it.
namespace Go.Proofs.YtleafbihfmiidaaDoor.QAl
open Go.RowKit Go.Proofs.YtleafbihfmiidaaDoorW.PrintWords Go.Proofs.YtleafbihfmiidaaDoorW.PrintLast Go.Proofs.YtleafbihfmiidaaDoorW.PrintMore
attribute [local go_sem] max2_int min2_int max_two min_two max_three min_three max_four min_four   -- for this text's walks alone
set_option linter.unusedVariables false
set_option linter.unusedSimpArgs false
/-! ### trickleref11_Shape: function 78 -/
mutual
def trickleref11_Shape.j0 : Nat → Int → Bool → Option (ByteArray)
  | 0, _, _ => none
  | k + 1, x3, x4 => if x4 = true then (some (⟨#[97, 105]⟩ : ByteArray)) else (if x3 = 3 then (trickleref11_Shape.j1 k x3 (x3 == 3)) else (if x3 = 4 then (trickleref11_Shape.j1 k x3 (x3 == 4)) else (if x3 = 5 then (trickleref11_Shape.j1 k x3 (x3 == 5)) else (if x3 = 16 then (trickleref11_Shape.j1 k x3 (x3 == 16)) else (trickleref11_Shape.j1 k x3 (x3 == 17))))))
def trickleref11_Shape.j1 : Nat → Int → Bool → Option (ByteArray)
  | 0, _, _ => none
  | k + 1, x3, x14 => if x14 = true then (some (⟨#[97, 98]⟩ : ByteArray)) else (if x3 = 6 then (trickleref11_Shape.j2 k x3 (x3 == 6)) else (if x3 = 7 then (trickleref11_Shape.j2 k x3 (x3 == 7)) else (if x3 = 8 then (trickleref11_Shape.j2 k x3 (x3 == 8)) else (if x3 = 9 then (trickleref11_Shape.j2 k x3 (x3 == 9)) else (if x3 = 10 then (trickleref11_Shape.j2 k x3 (x3 == 10)) else (if x3 = 11 then (trickleref11_Shape.j2 k x3 (x3 == 11)) else (if x3 = 12 then (trickleref11_Shape.j2 k x3 (x3 == 12)) else (trickleref11_Shape.j2 k x3 (x3 == 13)))))))))
def trickleref11_Shape.j2 : Nat → Int → Bool → Option (ByteArray)
  | 0, _, _ => none
  | k + 1, x3, x20 => if x20 = true then (some (⟨#[97, 98, 99]⟩ : ByteArray)) else (if x3 = 18 then (some (⟨#[97, 98, 105]⟩ : ByteArray)) else (if x3 = 21 then (trickleref11_Shape.j3 k x3 (x3 == 21)) else (if x3 = 27 then (trickleref11_Shape.j3 k x3 (x3 == 27)) else (trickleref11_Shape.j3 k x3 (x3 == 29)))))
def trickleref11_Shape.j3 : Nat → Int → Bool → Option (ByteArray)
  | 0, _, _ => none
  | k + 1, x3, x31 => if x31 = true then (some (⟨#[105]⟩ : ByteArray)) else (if x3 = 25 then (some (⟨#[97]⟩ : ByteArray)) else (if x3 = 28 then (some (⟨#[97]⟩ : ByteArray)) else (some (⟨#[]⟩ : ByteArray))))
end
def trickleref11_Shape.f (k : Nat) (a0 : Int) : Option (ByteArray) := if a0 = 2 then (trickleref11_Shape.j0 k a0 (a0 == 2)) else (if a0 = 14 then (trickleref11_Shape.j0 k a0 (a0 == 14)) else (if a0 = 15 then (trickleref11_Shape.j0 k a0 (a0 == 15)) else (if a0 = 19 then (trickleref11_Shape.j0 k a0 (a0 == 19)) else (if a0 = 20 then (trickleref11_Shape.j0 k a0 (a0 == 20)) else (if a0 = 22 then (trickleref11_Shape.j0 k a0 (a0 == 22)) else (if a0 = 23 then (trickleref11_Shape.j0 k a0 (a0 == 23)) else (if a0 = 24 then (trickleref11_Shape.j0 k a0 (a0 == 24)) else (trickleref11_Shape.j0 k a0 (a0 == 26)))))))))
set_option maxHeartbeats 8000000 in
set_option maxRecDepth 100000 in
theorem trickleref11_Shape.calls (k : Nat) (a0 : Int) (r : ByteArray) (w : World) (h : trickleref11_Shape.f k a0 = some r) :
    Calls Tryd.prog 78 #[.int .i64 a0] w fun e w' => e = .returned (.string r) ∧ Drawn0 w w' := by
  have H : (if a0 = 2 then (trickleref11_Shape.j0 k a0 (a0 == 2)) else (if a0 = 14 then (trickleref11_Shape.j0 k a0 (a0 == 14)) else (if a0 = 15 then (trickleref11_Shape.j0 k a0 (a0 == 15)) else (if a0 = 19 then (trickleref11_Shape.j0 k a0 (a0 == 19)) else (if a0 = 20 then (trickleref11_Shape.j0 k a0 (a0 == 20)) else (if a0 = 22 then (trickleref11_Shape.j0 k a0 (a0 == 22)) else (if a0 = 23 then (trickleref11_Shape.j0 k a0 (a0 == 23)) else (if a0 = 24 then (trickleref11_Shape.j0 k a0 (a0 == 24)) else (trickleref11_Shape.j0 k a0 (a0 == 26)))))))))) = some r := h
  clear h
  have HC2 := Aside0.mk H
  clear H
  go_enter Tryd.func78, Tryd.ntmps78
  go_upto_if 4 with (fail)
  go_cut [4] (fun v4 wc => ∃ (kq : Nat) (x4_1 : Bool), v4 = .bool x4_1 ∧ Aside0 (trickleref11_Shape.j0 kq a0 x4_1 = some r) ∧ Aside0 (kq ≤ k) ∧ Drawn0 w wc)
  case first =>
    have H := HC2.out
    clear HC2
    by_cases c3 : a0 = 2
    · rw [if_pos c3] at H
      have c3b0 : (a0 == 2) = true := beq_iff_eq.mpr c3
      have c3b1 : (a0 != 2) = false := bne_eq_false_iff_eq.mpr c3
      clear c3
      (first | rw [c3b0] | (simp only [i64_w, i32_w]; rw [c3b0]) | skip)
      have H' := Aside0.mk H
      clear H
      go_wp2
      go_meet
      case rel => exact ⟨_, ((a0 == 2)), (by first | rfl | (simp; done) | (simp [*]; done)), H', ⟨by first | omega | exact Nat.le_refl _⟩, by repeat (first | exact Drawn0.refl _ | apply Drawn0.step)⟩
    · rw [if_neg c3] at H
      have c3b0 : (a0 == 2) = false := beq_eq_false_iff_ne.mpr c3
      have c3b1 : (a0 != 2) = true := bne_iff_ne.mpr c3
      (first | rw [c3b0] | (simp only [i64_w, i32_w]; rw [c3b0]) | skip)
      by_cases c4 : a0 = 14
      · rw [if_pos c4] at H
        have c4b0 : (a0 == 14) = true := beq_iff_eq.mpr c4
        have c4b1 : (a0 != 14) = false := bne_eq_false_iff_eq.mpr c4
        clear c4
        have H' := Aside0.mk H
        clear H
        go_wp2
        go_meet
        case rel => exact ⟨_, ((a0 == 14)), (by first | rfl | (simp; done) | (simp [*]; done)), H', ⟨by first | omega | exact Nat.le_refl _⟩, by repeat (first | exact Drawn0.refl _ | apply Drawn0.step)⟩
      · rw [if_neg c4] at H
        have c4b0 : (a0 == 14) = false := beq_eq_false_iff_ne.mpr c4
        have c4b1 : (a0 != 14) = true := bne_iff_ne.mpr c4
        by_cases c5 : a0 = 15
        · rw [if_pos c5] at H
          have c5b0 : (a0 == 15) = true := beq_iff_eq.mpr c5
          have c5b1 : (a0 != 15) = false := bne_eq_false_iff_eq.mpr c5
          clear c5
          have H' := Aside0.mk H
          clear H
          go_wp2
          go_meet
          case rel => exact ⟨_, ((a0 == 15)), (by first | rfl | (simp; done) | (simp [*]; done)), H', ⟨by first | omega | exact Nat.le_refl _⟩, by repeat (first | exact Drawn0.refl _ | apply Drawn0.step)⟩
        · rw [if_neg c5] at H
          have c5b0 : (a0 == 15) = false := beq_eq_false_iff_ne.mpr c5
          have c5b1 : (a0 != 15) = true := bne_iff_ne.mpr c5
          by_cases c6 : a0 = 19
          · rw [if_pos c6] at H
            have c6b0 : (a0 == 19) = true := beq_iff_eq.mpr c6
            have c6b1 : (a0 != 19) = false := bne_eq_false_iff_eq.mpr c6
            clear c6
            have H' := Aside0.mk H
            clear H
            go_wp2
            go_meet
            case rel => exact ⟨_, ((a0 == 19)), (by first | rfl | (simp; done) | (simp [*]; done)), H', ⟨by first | omega | exact Nat.le_refl _⟩, by repeat (first | exact Drawn0.refl _ | apply Drawn0.step)⟩
          · rw [if_neg c6] at H
            have c6b0 : (a0 == 19) = false := beq_eq_false_iff_ne.mpr c6
            have c6b1 : (a0 != 19) = true := bne_iff_ne.mpr c6
            by_cases c7 : a0 = 20
            · rw [if_pos c7] at H
              have c7b0 : (a0 == 20) = true := beq_iff_eq.mpr c7
              have c7b1 : (a0 != 20) = false := bne_eq_false_iff_eq.mpr c7
              clear c7
              have H' := Aside0.mk H
              clear H
              go_wp2
              go_meet
              case rel => exact ⟨_, ((a0 == 20)), (by first | rfl | (simp; done) | (simp [*]; done)), H', ⟨by first | omega | exact Nat.le_refl _⟩, by repeat (first | exact Drawn0.refl _ | apply Drawn0.step)⟩
            · rw [if_neg c7] at H
              have c7b0 : (a0 == 20) = false := beq_eq_false_iff_ne.mpr c7
              have c7b1 : (a0 != 20) = true := bne_iff_ne.mpr c7
              by_cases c8 : a0 = 22
              · rw [if_pos c8] at H
                have c8b0 : (a0 == 22) = true := beq_iff_eq.mpr c8
                have c8b1 : (a0 != 22) = false := bne_eq_false_iff_eq.mpr c8
                clear c8
                have H' := Aside0.mk H
                clear H
                go_wp2
                go_meet
                case rel => exact ⟨_, ((a0 == 22)), (by first | rfl | (simp; done) | (simp [*]; done)), H', ⟨by first | omega | exact Nat.le_refl _⟩, by repeat (first | exact Drawn0.refl _ | apply Drawn0.step)⟩
              · rw [if_neg c8] at H
                have c8b0 : (a0 == 22) = false := beq_eq_false_iff_ne.mpr c8
                have c8b1 : (a0 != 22) = true := bne_iff_ne.mpr c8
                by_cases c9 : a0 = 23
                · rw [if_pos c9] at H
                  have c9b0 : (a0 == 23) = true := beq_iff_eq.mpr c9
                  have c9b1 : (a0 != 23) = false := bne_eq_false_iff_eq.mpr c9
                  clear c9
                  have H' := Aside0.mk H
                  clear H
                  go_wp2
                  go_meet
                  case rel => exact ⟨_, ((a0 == 23)), (by first | rfl | (simp; done) | (simp [*]; done)), H', ⟨by first | omega | exact Nat.le_refl _⟩, by repeat (first | exact Drawn0.refl _ | apply Drawn0.step)⟩
                · rw [if_neg c9] at H
                  have c9b0 : (a0 == 23) = false := beq_eq_false_iff_ne.mpr c9
                  have c9b1 : (a0 != 23) = true := bne_iff_ne.mpr c9
                  by_cases c10 : a0 = 24
                  · rw [if_pos c10] at H
                    have c10b0 : (a0 == 24) = true := beq_iff_eq.mpr c10
                    have c10b1 : (a0 != 24) = false := bne_eq_false_iff_eq.mpr c10
                    clear c10
                    have H' := Aside0.mk H
                    clear H
                    go_wp2
                    go_meet
                    case rel => exact ⟨_, ((a0 == 24)), (by first | rfl | (simp; done) | (simp [*]; done)), H', ⟨by first | omega | exact Nat.le_refl _⟩, by repeat (first | exact Drawn0.refl _ | apply Drawn0.step)⟩
                  · rw [if_neg c10] at H
                    have c10b0 : (a0 == 24) = false := beq_eq_false_iff_ne.mpr c10
                    have c10b1 : (a0 != 24) = true := bne_iff_ne.mpr c10
                    have H' := Aside0.mk H
                    clear H
                    go_wp2
                    go_meet
                    case rel => exact ⟨_, ((a0 == 26)), (by first | rfl | (simp; done) | (simp [*]; done)), H', ⟨by first | omega | exact Nat.le_refl _⟩, by repeat (first | exact Drawn0.refl _ | apply Drawn0.step)⟩
  case rest =>
    clear HC2
    try clear c1
    try clear p2
    try clear c3
    try clear c3b0
    try clear c3b1
    try clear c4
    try clear c4b0
    try clear c4b1
    try clear c5
    try clear c5b0
    try clear c5b1
    try clear c6
    try clear c6b0
    try clear c6b1
    try clear c7
    try clear c7b0
    try clear c7b1
    try clear c8
    try clear c8b0
    try clear c8b1
    try clear c9
    try clear c9b0
    try clear c9b1
    try clear c10
    try clear c10b0
    try clear c10b1
    obtain ⟨kq, x4_1, rfl, HA, HJ1, ⟨mc1, rfl⟩⟩ := hcut
    cases kq with
    | zero => exact absurd HA.out (by simp [trickleref11_Shape.j0])
    | succ kj1 =>
      have H := HA.out
      clear HA
      simp only [trickleref11_Shape.j0] at H
      by_cases c11 : x4_1 = true
      · subst c11
        have H1 : (some (⟨#[97, 105]⟩ : ByteArray)) = some r := by rw [if_pos rfl] at H; exact H
        clear H
        have H := H1
        clear H1
        obtain rfl := Option.some.inj H
        go_wp2
        go_ret
        exact ⟨by first | rfl | (simp; done) | (simp [*]; done), by repeat (first | exact Drawn0.refl _ | apply Drawn0.step)⟩
      · replace c11 := Bool.eq_false_iff.mpr c11
        subst c11
        have H1 : (if a0 = 3 then (trickleref11_Shape.j1 kj1 a0 (a0 == 3)) else (if a0 = 4 then (trickleref11_Shape.j1 kj1 a0 (a0 == 4)) else (if a0 = 5 then (trickleref11_Shape.j1 kj1 a0 (a0 == 5)) else (if a0 = 16 then (trickleref11_Shape.j1 kj1 a0 (a0 == 16)) else (trickleref11_Shape.j1 kj1 a0 (a0 == 17)))))) = some r := by rw [if_neg (show ¬ (false = true) by decide)] at H; exact H
        clear H
        have H := H1
        clear H1
        have HC12 := Aside0.mk H
        clear H
        go_upto_if 14 with (fail)
        go_cut [14] (fun v14 wc => ∃ (kq : Nat) (x14_11 : Bool), v14 = .bool x14_11 ∧ Aside0 (trickleref11_Shape.j1 kq a0 x14_11 = some r) ∧ Aside0 (kq ≤ kj1) ∧ Drawn0 w wc)
        case first =>
          have H := HC12.out
          clear HC12
          by_cases c13 : a0 = 3
          · rw [if_pos c13] at H
            have c13b0 : (a0 == 3) = true := beq_iff_eq.mpr c13
            have c13b1 : (a0 != 3) = false := bne_eq_false_iff_eq.mpr c13
            clear c13
            (first | rw [c13b0] | (simp only [i64_w, i32_w]; rw [c13b0]) | skip)
            have H' := Aside0.mk H
            clear H
            go_wp2
            go_meet
            case rel => exact ⟨_, ((a0 == 3)), (by first | rfl | (simp; done) | (simp [*]; done)), H', ⟨by have := HJ1.out; first | omega | exact Nat.le_refl _⟩, by repeat (first | exact Drawn0.refl _ | apply Drawn0.step)⟩
          · rw [if_neg c13] at H
            have c13b0 : (a0 == 3) = false := beq_eq_false_iff_ne.mpr c13
            have c13b1 : (a0 != 3) = true := bne_iff_ne.mpr c13
            (first | rw [c13b0] | (simp only [i64_w, i32_w]; rw [c13b0]) | skip)
            by_cases c14 : a0 = 4
            · rw [if_pos c14] at H
              have c14b0 : (a0 == 4) = true := beq_iff_eq.mpr c14
              have c14b1 : (a0 != 4) = false := bne_eq_false_iff_eq.mpr c14
              clear c14
              have H' := Aside0.mk H
              clear H
              go_wp2
              go_meet
              case rel => exact ⟨_, ((a0 == 4)), (by first | rfl | (simp; done) | (simp [*]; done)), H', ⟨by have := HJ1.out; first | omega | exact Nat.le_refl _⟩, by repeat (first | exact Drawn0.refl _ | apply Drawn0.step)⟩
            · rw [if_neg c14] at H
              have c14b0 : (a0 == 4) = false := beq_eq_false_iff_ne.mpr c14
              have c14b1 : (a0 != 4) = true := bne_iff_ne.mpr c14
              by_cases c15 : a0 = 5
              · rw [if_pos c15] at H
                have c15b0 : (a0 == 5) = true := beq_iff_eq.mpr c15
                have c15b1 : (a0 != 5) = false := bne_eq_false_iff_eq.mpr c15
                clear c15
                have H' := Aside0.mk H
                clear H
                go_wp2
                go_meet
                case rel => exact ⟨_, ((a0 == 5)), (by first | rfl | (simp; done) | (simp [*]; done)), H', ⟨by have := HJ1.out; first | omega | exact Nat.le_refl _⟩, by repeat (first | exact Drawn0.refl _ | apply Drawn0.step)⟩
              · rw [if_neg c15] at H
                have c15b0 : (a0 == 5) = false := beq_eq_false_iff_ne.mpr c15
                have c15b1 : (a0 != 5) = true := bne_iff_ne.mpr c15
                by_cases c16 : a0 = 16
                · rw [if_pos c16] at H
                  have c16b0 : (a0 == 16) = true := beq_iff_eq.mpr c16
                  have c16b1 : (a0 != 16) = false := bne_eq_false_iff_eq.mpr c16
                  clear c16
                  have H' := Aside0.mk H
                  clear H
                  go_wp2
                  go_meet
                  case rel => exact ⟨_, ((a0 == 16)), (by first | rfl | (simp; done) | (simp [*]; done)), H', ⟨by have := HJ1.out; first | omega | exact Nat.le_refl _⟩, by repeat (first | exact Drawn0.refl _ | apply Drawn0.step)⟩
                · rw [if_neg c16] at H
                  have c16b0 : (a0 == 16) = false := beq_eq_false_iff_ne.mpr c16
                  have c16b1 : (a0 != 16) = true := bne_iff_ne.mpr c16
                  have H' := Aside0.mk H
                  clear H
                  go_wp2
                  go_meet
                  case rel => exact ⟨_, ((a0 == 17)), (by first | rfl | (simp; done) | (simp [*]; done)), H', ⟨by have := HJ1.out; first | omega | exact Nat.le_refl _⟩, by repeat (first | exact Drawn0.refl _ | apply Drawn0.step)⟩
        case rest =>
          clear HC12
          try clear c1
          try clear p2
          try clear c3
          try clear c3b0
          try clear c3b1
          try clear c4
          try clear c4b0
          try clear c4b1
          try clear c5
          try clear c5b0
          try clear c5b1
          try clear c6
          try clear c6b0
          try clear c6b1
          try clear c7
          try clear c7b0
          try clear c7b1
          try clear c8
          try clear c8b0
          try clear c8b1
          try clear c9
          try clear c9b0
          try clear c9b1
          try clear c10
          try clear c10b0
          try clear c10b1
          try clear c11
          try clear c13
          try clear c13b0
          try clear c13b1
          try clear c14
          try clear c14b0
          try clear c14b1
          try clear c15
          try clear c15b0
          try clear c15b1
          try clear c16
          try clear c16b0
          try clear c16b1
          try clear p2
          obtain ⟨kq, x14_11, rfl, HA, HJ11, ⟨mc11, rfl⟩⟩ := hcut
          cases kq with
          | zero => exact absurd HA.out (by simp [trickleref11_Shape.j1])
          | succ kj11 =>
            have H := HA.out
            clear HA
            simp only [trickleref11_Shape.j1] at H
            by_cases c17 : x14_11 = true
            · subst c17
              have H1 : (some (⟨#[97, 98]⟩ : ByteArray)) = some r := by rw [if_pos rfl] at H; exact H
              clear H
              have H := H1
              clear H1
              obtain rfl := Option.some.inj H
              go_wp2
              go_ret
              exact ⟨by first | rfl | (simp; done) | (simp [*]; done), by repeat (first | exact Drawn0.refl _ | apply Drawn0.step)⟩
            · replace c17 := Bool.eq_false_iff.mpr c17
              subst c17
              have H1 : (if a0 = 6 then (trickleref11_Shape.j2 kj11 a0 (a0 == 6)) else (if a0 = 7 then (trickleref11_Shape.j2 kj11 a0 (a0 == 7)) else (if a0 = 8 then (trickleref11_Shape.j2 kj11 a0 (a0 == 8)) else (if a0 = 9 then (trickleref11_Shape.j2 kj11 a0 (a0 == 9)) else (if a0 = 10 then (trickleref11_Shape.j2 kj11 a0 (a0 == 10)) else (if a0 = 11 then (trickleref11_Shape.j2 kj11 a0 (a0 == 11)) else (if a0 = 12 then (trickleref11_Shape.j2 kj11 a0 (a0 == 12)) else (trickleref11_Shape.j2 kj11 a0 (a0 == 13))))))))) = some r := by rw [if_neg (show ¬ (false = true) by decide)] at H; exact H
              clear H
              have H := H1
              clear H1
              have HC18 := Aside0.mk H
              clear H
              go_upto_if 20 with (fail)
              go_cut [20] (fun v20 wc => ∃ (kq : Nat) (x20_17 : Bool), v20 = .bool x20_17 ∧ Aside0 (trickleref11_Shape.j2 kq a0 x20_17 = some r) ∧ Aside0 (kq ≤ kj11) ∧ Drawn0 w wc)
              case first =>
                have H := HC18.out
                clear HC18
                by_cases c19 : a0 = 6
                · rw [if_pos c19] at H
                  have c19b0 : (a0 == 6) = true := beq_iff_eq.mpr c19
                  have c19b1 : (a0 != 6) = false := bne_eq_false_iff_eq.mpr c19
                  clear c19
                  (first | rw [c19b0] | (simp only [i64_w, i32_w]; rw [c19b0]) | skip)
                  have H' := Aside0.mk H
                  clear H
                  go_wp2
                  go_meet
                  case rel => exact ⟨_, ((a0 == 6)), (by first | rfl | (simp; done) | (simp [*]; done)), H', ⟨by have := HJ1.out; have := HJ11.out; first | omega | exact Nat.le_refl _⟩, by repeat (first | exact Drawn0.refl _ | apply Drawn0.step)⟩
                · rw [if_neg c19] at H
                  have c19b0 : (a0 == 6) = false := beq_eq_false_iff_ne.mpr c19
                  have c19b1 : (a0 != 6) = true := bne_iff_ne.mpr c19
                  (first | rw [c19b0] | (simp only [i64_w, i32_w]; rw [c19b0]) | skip)
                  by_cases c20 : a0 = 7
                  · rw [if_pos c20] at H
                    have c20b0 : (a0 == 7) = true := beq_iff_eq.mpr c20
                    have c20b1 : (a0 != 7) = false := bne_eq_false_iff_eq.mpr c20
                    clear c20
                    have H' := Aside0.mk H
                    clear H
                    go_wp2
                    go_meet
                    case rel => exact ⟨_, ((a0 == 7)), (by first | rfl | (simp; done) | (simp [*]; done)), H', ⟨by have := HJ1.out; have := HJ11.out; first | omega | exact Nat.le_refl _⟩, by repeat (first | exact Drawn0.refl _ | apply Drawn0.step)⟩
                  · rw [if_neg c20] at H
                    have c20b0 : (a0 == 7) = false := beq_eq_false_iff_ne.mpr c20
                    have c20b1 : (a0 != 7) = true := bne_iff_ne.mpr c20
                    by_cases c21 : a0 = 8
                    · rw [if_pos c21] at H
                      have c21b0 : (a0 == 8) = true := beq_iff_eq.mpr c21
                      have c21b1 : (a0 != 8) = false := bne_eq_false_iff_eq.mpr c21
                      clear c21
                      have H' := Aside0.mk H
                      clear H
                      go_wp2
                      go_meet
                      case rel => exact ⟨_, ((a0 == 8)), (by first | rfl | (simp; done) | (simp [*]; done)), H', ⟨by have := HJ1.out; have := HJ11.out; first | omega | exact Nat.le_refl _⟩, by repeat (first | exact Drawn0.refl _ | apply Drawn0.step)⟩
                    · rw [if_neg c21] at H
                      have c21b0 : (a0 == 8) = false := beq_eq_false_iff_ne.mpr c21
                      have c21b1 : (a0 != 8) = true := bne_iff_ne.mpr c21
                      by_cases c22 : a0 = 9
                      · rw [if_pos c22] at H
                        have c22b0 : (a0 == 9) = true := beq_iff_eq.mpr c22
                        have c22b1 : (a0 != 9) = false := bne_eq_false_iff_eq.mpr c22
                        clear c22
                        have H' := Aside0.mk H
                        clear H
                        go_wp2
                        go_meet
                        case rel => exact ⟨_, ((a0 == 9)), (by first | rfl | (simp; done) | (simp [*]; done)), H', ⟨by have := HJ1.out; have := HJ11.out; first | omega | exact Nat.le_refl _⟩, by repeat (first | exact Drawn0.refl _ | apply Drawn0.step)⟩
                      · rw [if_neg c22] at H
                        have c22b0 : (a0 == 9) = false := beq_eq_false_iff_ne.mpr c22
                        have c22b1 : (a0 != 9) = true := bne_iff_ne.mpr c22
                        by_cases c23 : a0 = 10
                        · rw [if_pos c23] at H
                          have c23b0 : (a0 == 10) = true := beq_iff_eq.mpr c23
                          have c23b1 : (a0 != 10) = false := bne_eq_false_iff_eq.mpr c23
                          clear c23
                          have H' := Aside0.mk H
                          clear H
                          go_wp2
                          go_meet
                          case rel => exact ⟨_, ((a0 == 10)), (by first | rfl | (simp; done) | (simp [*]; done)), H', ⟨by have := HJ1.out; have := HJ11.out; first | omega | exact Nat.le_refl _⟩, by repeat (first | exact Drawn0.refl _ | apply Drawn0.step)⟩
                        · rw [if_neg c23] at H
                          have c23b0 : (a0 == 10) = false := beq_eq_false_iff_ne.mpr c23
                          have c23b1 : (a0 != 10) = true := bne_iff_ne.mpr c23
                          by_cases c24 : a0 = 11
                          · rw [if_pos c24] at H
                            have c24b0 : (a0 == 11) = true := beq_iff_eq.mpr c24
                            have c24b1 : (a0 != 11) = false := bne_eq_false_iff_eq.mpr c24
                            clear c24
                            have H' := Aside0.mk H
                            clear H
                            go_wp2
                            go_meet
                            case rel => exact ⟨_, ((a0 == 11)), (by first | rfl | (simp; done) | (simp [*]; done)), H', ⟨by have := HJ1.out; have := HJ11.out; first | omega | exact Nat.le_refl _⟩, by repeat (first | exact Drawn0.refl _ | apply Drawn0.step)⟩
                          · rw [if_neg c24] at H
                            have c24b0 : (a0 == 11) = false := beq_eq_false_iff_ne.mpr c24
                            have c24b1 : (a0 != 11) = true := bne_iff_ne.mpr c24
                            by_cases c25 : a0 = 12
                            · rw [if_pos c25] at H
                              have c25b0 : (a0 == 12) = true := beq_iff_eq.mpr c25
                              have c25b1 : (a0 != 12) = false := bne_eq_false_iff_eq.mpr c25
                              clear c25
                              have H' := Aside0.mk H
                              clear H
                              go_wp2
                              go_meet
                              case rel => exact ⟨_, ((a0 == 12)), (by first | rfl | (simp; done) | (simp [*]; done)), H', ⟨by have := HJ1.out; have := HJ11.out; first | omega | exact Nat.le_refl _⟩, by repeat (first | exact Drawn0.refl _ | apply Drawn0.step)⟩
                            · rw [if_neg c25] at H
                              have c25b0 : (a0 == 12) = false := beq_eq_false_iff_ne.mpr c25
                              have c25b1 : (a0 != 12) = true := bne_iff_ne.mpr c25
                              have H' := Aside0.mk H
                              clear H
                              go_wp2
                              go_meet
                              case rel => exact ⟨_, ((a0 == 13)), (by first | rfl | (simp; done) | (simp [*]; done)), H', ⟨by have := HJ1.out; have := HJ11.out; first | omega | exact Nat.le_refl _⟩, by repeat (first | exact Drawn0.refl _ | apply Drawn0.step)⟩
              case rest =>
                clear HC18
                try clear c1
                try clear c2
                try clear p2
                try clear c3
                try clear c3b0
                try clear c3b1
                try clear c4
                try clear c4b0
                try clear c4b1
                try clear c5
                try clear c5b0
                try clear c5b1
                try clear c6
                try clear c6b0
                try clear c6b1
                try clear c7
                try clear c7b0
                try clear c7b1
                try clear c8
                try clear c8b0
                try clear c8b1
                try clear c9
                try clear c9b0
                try clear c9b1
                try clear c10
                try clear c10b0
                try clear c10b1
                try clear c11
                try clear c13
                try clear c13b0
                try clear c13b1
                try clear c14
                try clear c14b0
                try clear c14b1
                try clear c15
                try clear c15b0
                try clear c15b1
                try clear c16
                try clear c16b0
                try clear c16b1
                try clear c17
                try clear c19
                try clear c19b0
                try clear c19b1
                try clear c20
                try clear c20b0
                try clear c20b1
                try clear c21
                try clear c21b0
                try clear c21b1
                try clear c22
                try clear c22b0
                try clear c22b1
                try clear c23
                try clear c23b0
                try clear c23b1
                try clear c24
                try clear c24b0
                try clear c24b1
                try clear c25
                try clear c25b0
                try clear c25b1
                try clear p2
                obtain ⟨kq, x20_17, rfl, HA, HJ17, ⟨mc17, rfl⟩⟩ := hcut
                cases kq with
                | zero => exact absurd HA.out (by simp [trickleref11_Shape.j2])
                | succ kj17 =>
                  have H := HA.out
                  clear HA
                  simp only [trickleref11_Shape.j2] at H
                  by_cases c26 : x20_17 = true
                  · subst c26
                    have H1 : (some (⟨#[97, 98, 99]⟩ : ByteArray)) = some r := by rw [if_pos rfl] at H; exact H
                    clear H
                    have H := H1
                    clear H1
                    obtain rfl := Option.some.inj H
                    go_wp2
                    go_ret
                    exact ⟨by first | rfl | (simp; done) | (simp [*]; done), by repeat (first | exact Drawn0.refl _ | apply Drawn0.step)⟩
                  · replace c26 := Bool.eq_false_iff.mpr c26
                    subst c26
                    have H1 : (if a0 = 18 then (some (⟨#[97, 98, 105]⟩ : ByteArray)) else (if a0 = 21 then (trickleref11_Shape.j3 kj17 a0 (a0 == 21)) else (if a0 = 27 then (trickleref11_Shape.j3 kj17 a0 (a0 == 27)) else (trickleref11_Shape.j3 kj17 a0 (a0 == 29))))) = some r := by rw [if_neg (show ¬ (false = true) by decide)] at H; exact H
                    clear H
                    have H := H1
                    clear H1
                    by_cases c27 : a0 = 18
                    · rw [if_pos c27] at H
                      have c27b0 : (a0 == 18) = true := beq_iff_eq.mpr c27
                      have c27b1 : (a0 != 18) = false := bne_eq_false_iff_eq.mpr c27
                      clear c27
                      obtain rfl := Option.some.inj H
                      go_wp2
                      go_ret
                      exact ⟨by first | rfl | (simp; done) | (simp [*]; done), by repeat (first | exact Drawn0.refl _ | apply Drawn0.step)⟩
                    · rw [if_neg c27] at H
                      have c27b0 : (a0 == 18) = false := beq_eq_false_iff_ne.mpr c27
                      have c27b1 : (a0 != 18) = true := bne_iff_ne.mpr c27
                      have HC28 := Aside0.mk H
                      clear H
                      go_upto_if 31 with (fail)
                      go_cut [31] (fun v31 wc => ∃ (kq : Nat) (x31_27 : Bool), v31 = .bool x31_27 ∧ Aside0 (trickleref11_Shape.j3 kq a0 x31_27 = some r) ∧ Aside0 (kq ≤ kj17) ∧ Drawn0 w wc)
                      case first =>
                        have H := HC28.out
                        clear HC28
                        by_cases c29 : a0 = 21
                        · rw [if_pos c29] at H
                          have c29b0 : (a0 == 21) = true := beq_iff_eq.mpr c29
                          have c29b1 : (a0 != 21) = false := bne_eq_false_iff_eq.mpr c29
                          clear c29
                          (first | rw [c29b0] | (simp only [i64_w, i32_w]; rw [c29b0]) | skip)
                          have H' := Aside0.mk H
                          clear H
                          go_wp2
                          go_meet
                          case rel => exact ⟨_, ((a0 == 21)), (by first | rfl | (simp; done) | (simp [*]; done)), H', ⟨by have := HJ1.out; have := HJ11.out; have := HJ17.out; first | omega | exact Nat.le_refl _⟩, by repeat (first | exact Drawn0.refl _ | apply Drawn0.step)⟩
                        · rw [if_neg c29] at H
                          have c29b0 : (a0 == 21) = false := beq_eq_false_iff_ne.mpr c29
                          have c29b1 : (a0 != 21) = true := bne_iff_ne.mpr c29
                          (first | rw [c29b0] | (simp only [i64_w, i32_w]; rw [c29b0]) | skip)
                          by_cases c30 : a0 = 27
                          · rw [if_pos c30] at H
                            have c30b0 : (a0 == 27) = true := beq_iff_eq.mpr c30
                            have c30b1 : (a0 != 27) = false := bne_eq_false_iff_eq.mpr c30
                            clear c30
                            have H' := Aside0.mk H
                            clear H
                            go_wp2
                            go_meet
                            case rel => exact ⟨_, ((a0 == 27)), (by first | rfl | (simp; done) | (simp [*]; done)), H', ⟨by have := HJ1.out; have := HJ11.out; have := HJ17.out; first | omega | exact Nat.le_refl _⟩, by repeat (first | exact Drawn0.refl _ | apply Drawn0.step)⟩
                          · rw [if_neg c30] at H
                            have c30b0 : (a0 == 27) = false := beq_eq_false_iff_ne.mpr c30
                            have c30b1 : (a0 != 27) = true := bne_iff_ne.mpr c30
                            have H' := Aside0.mk H
                            clear H
                            go_wp2
                            go_meet
                            case rel => exact ⟨_, ((a0 == 29)), (by first | rfl | (simp; done) | (simp [*]; done)), H', ⟨by have := HJ1.out; have := HJ11.out; have := HJ17.out; first | omega | exact Nat.le_refl _⟩, by repeat (first | exact Drawn0.refl _ | apply Drawn0.step)⟩
                      case rest =>
                        clear HC28
                        try clear c1
                        try clear c2
                        try clear p2
                        try clear c3
                        try clear c3b0
                        try clear c3b1
                        try clear c4
                        try clear c4b0
                        try clear c4b1
                        try clear c5
                        try clear c5b0
                        try clear c5b1
                        try clear c6
                        try clear c6b0
                        try clear c6b1
                        try clear c7
                        try clear c7b0
                        try clear c7b1
                        try clear c8
                        try clear c8b0
                        try clear c8b1
                        try clear c9
                        try clear c9b0
                        try clear c9b1
                        try clear c10
                        try clear c10b0
                        try clear c10b1
                        try clear c11
                        try clear c13
                        try clear c13b0
                        try clear c13b1
                        try clear c14
                        try clear c14b0
                        try clear c14b1
                        try clear c15
                        try clear c15b0
                        try clear c15b1
                        try clear c16
                        try clear c16b0
                        try clear c16b1
                        try clear c17
                        try clear c19
                        try clear c19b0
                        try clear c19b1
                        try clear c20
                        try clear c20b0
                        try clear c20b1
                        try clear c21
                        try clear c21b0
                        try clear c21b1
                        try clear c22
                        try clear c22b0
                        try clear c22b1
                        try clear c23
                        try clear c23b0
                        try clear c23b1
                        try clear c24
                        try clear c24b0
                        try clear c24b1
                        try clear c25
                        try clear c25b0
                        try clear c25b1
                        try clear c26
                        try clear c27
                        try clear c27b0
                        try clear c27b1
                        try clear c29
                        try clear c29b0
                        try clear c29b1
                        try clear c30
                        try clear c30b0
                        try clear c30b1
                        try clear p2
                        obtain ⟨kq, x31_27, rfl, HA, HJ27, ⟨mc27, rfl⟩⟩ := hcut
                        cases kq with
                        | zero => exact absurd HA.out (by simp [trickleref11_Shape.j3])
                        | succ kj27 =>
                          have H := HA.out
                          clear HA
                          simp only [trickleref11_Shape.j3] at H
                          by_cases c31 : x31_27 = true
                          · subst c31
                            have H1 : (some (⟨#[105]⟩ : ByteArray)) = some r := by rw [if_pos rfl] at H; exact H
                            clear H
                            have H := H1
                            clear H1
                            obtain rfl := Option.some.inj H
                            go_wp2
                            go_ret
                            exact ⟨by first | rfl | (simp; done) | (simp [*]; done), by repeat (first | exact Drawn0.refl _ | apply Drawn0.step)⟩
                          · replace c31 := Bool.eq_false_iff.mpr c31
                            subst c31
                            have H1 : (if a0 = 25 then (some (⟨#[97]⟩ : ByteArray)) else (if a0 = 28 then (some (⟨#[97]⟩ : ByteArray)) else (some (⟨#[]⟩ : ByteArray)))) = some r := by rw [if_neg (show ¬ (false = true) by decide)] at H; exact H
                            clear H
                            have H := H1
                            clear H1
                            by_cases c32 : a0 = 25
                            · rw [if_pos c32] at H
                              have c32b0 : (a0 == 25) = true := beq_iff_eq.mpr c32
                              have c32b1 : (a0 != 25) = false := bne_eq_false_iff_eq.mpr c32
                              clear c32
                              obtain rfl := Option.some.inj H
                              go_wp2
                              go_ret
                              exact ⟨by first | rfl | (simp; done) | (simp [*]; done), by repeat (first | exact Drawn0.refl _ | apply Drawn0.step)⟩
                            · rw [if_neg c32] at H
                              have c32b0 : (a0 == 25) = false := beq_eq_false_iff_ne.mpr c32
                              have c32b1 : (a0 != 25) = true := bne_iff_ne.mpr c32
                              by_cases c33 : a0 = 28
                              · rw [if_pos c33] at H
                                have c33b0 : (a0 == 28) = true := beq_iff_eq.mpr c33
                                have c33b1 : (a0 != 28) = false := bne_eq_false_iff_eq.mpr c33
                                clear c33
                                obtain rfl := Option.some.inj H
                                go_wp2
                                go_ret
                                exact ⟨by first | rfl | (simp; done) | (simp [*]; done), by repeat (first | exact Drawn0.refl _ | apply Drawn0.step)⟩
                              · rw [if_neg c33] at H
                                have c33b0 : (a0 == 28) = false := beq_eq_false_iff_ne.mpr c33
                                have c33b1 : (a0 != 28) = true := bne_iff_ne.mpr c33
                                obtain rfl := Option.some.inj H
                                go_wp2
                                go_ret
                                exact ⟨by first | rfl | (simp; done) | (simp [*]; done), by repeat (first | exact Drawn0.refl _ | apply Drawn0.step)⟩
/-! ### trickleref11_has: function 80 -/
def trickleref11_has.l0 : Nat → ByteArray → Int → Int → Option (Bool)
  | 0, _, _, _ => none
  | k + 1, x0, x1, x5 => if x5 < (x0.size : Int) then (if 0 ≤ x5 then (if (bt x0 x5) = x1 then (some true) else (trickleref11_has.l0 k x0 x1 (wrap64 (x5 + 1)))) else (none)) else (some false)
def trickleref11_has.f (k : Nat) (a0 : ByteArray) (a1 : Int) : Option (Bool) := trickleref11_has.l0 k a0 a1 0
set_option maxHeartbeats 8000000 in
set_option maxRecDepth 100000 in
theorem trickleref11_has.calls (k : Nat) (a0 : ByteArray) (a1 : Int) (r : Bool) (w : World) (h : trickleref11_has.f k a0 a1 = some r) :
    Calls Tryd.prog 80 #[.string a0, .int .u8 a1] w fun e w' => e = .returned (.bool r) ∧ Drawn0 w w' := by
  have H : (trickleref11_has.l0 k a0 a1 0) = some r := h
  clear h
  have H' := Aside0.mk H
  clear H
  go_enter Tryd.func80, Tryd.ntmps80
  go_wp2
  go_loopg [5] k (fun kq v5 w' => ∃ (x5_1 : Int), v5 = .int .i64 x5_1 ∧ Aside0 (trickleref11_has.l0 kq a0 a1 x5_1 = some r) ∧ Aside0 (kq ≤ k) ∧ Drawn0 w w')
  case atStart => exact ⟨(0), (by first | rfl | (simp; done) | (simp [*]; done)), H', ⟨Nat.le_refl _⟩, by repeat (first | exact Drawn0.refl _ | apply Drawn0.step)⟩
  case round =>
    clear H'
    try clear p2
    obtain ⟨x5_1, rfl, HA, HK1, ⟨m1, rfl⟩⟩ := hrel
    cases gk with
    | zero => exact absurd HA.out (by simp [trickleref11_has.l0])
    | succ k1 =>
      have H := HA.out
      clear HA
      simp only [trickleref11_has.l0] at H
      by_cases c3 : x5_1 < (a0.size : Int)
      · rw [if_pos c3] at H
        have c3b0 : decide (x5_1 < (a0.size : Int)) = true := decide_eq_true c3
        clear c3
        by_cases c4 : 0 ≤ x5_1
        · rw [if_pos c4] at H
          have c4b0 : decide (0 ≤ x5_1) = true := decide_eq_true c4
          clear c4
          by_cases c6 : (bt a0 x5_1) = a1
          · rw [if_pos c6] at H
            have c6b0 : ((bt a0 x5_1) == a1) = true := beq_iff_eq.mpr c6
            have c6b1 : ((bt a0 x5_1) != a1) = false := bne_eq_false_iff_eq.mpr c6
            clear c6
            obtain rfl := Option.some.inj H
            have p5 : 0 ≤ (x5_1 : Int) := of_decide_eq_true (by first | (with_reducible assumption) | assumption)
            have q5 : x5_1 < (a0.size : Int) := of_decide_eq_true (by first | (with_reducible assumption) | assumption)
            have hx5 := bt_at a0 x5_1
            replace p5 := eq_true p5
            replace q5 := eq_true q5
            go_wp2
            go_ret
            exact ⟨by first | rfl | (simp; done) | (simp [*]; done), by repeat (first | exact Drawn0.refl _ | apply Drawn0.step)⟩
          · rw [if_neg c6] at H
            have c6b0 : ((bt a0 x5_1) == a1) = false := beq_eq_false_iff_ne.mpr c6
            have c6b1 : ((bt a0 x5_1) != a1) = true := bne_iff_ne.mpr c6
            have H' := Aside0.mk H
            clear H
            have p5 : 0 ≤ (x5_1 : Int) := of_decide_eq_true (by first | (with_reducible assumption) | assumption)
            have q5 : x5_1 < (a0.size : Int) := of_decide_eq_true (by first | (with_reducible assumption) | assumption)
            have hx5 := bt_at a0 x5_1
            replace p5 := eq_true p5
            replace q5 := eq_true q5
            go_wp2
            go_roundg k1
            case measure => have := HK1.out; omega
            case rel => exact ⟨(wrap64 (x5_1 + 1)), (by first | rfl | (simp; done) | (simp [*]; done)), H', ⟨by have := HK1.out; omega⟩, by repeat (first | exact Drawn0.refl _ | apply Drawn0.step)⟩
        · rw [if_neg c4] at H
          exact absurd H (by simp)
      · rw [if_neg c3] at H
        have c3b0 : decide (x5_1 < (a0.size : Int)) = false := decide_eq_false c3
        clear c3
        obtain rfl := Option.some.inj H
        go_wp2
        go_ret
        exact ⟨by first | rfl | (simp; done) | (simp [*]; done), by repeat (first | exact Drawn0.refl _ | apply Drawn0.step)⟩
end Go.Proofs.YtleafbihfmiidaaDoor.QAl
