/- What this claim needs of QAlx7. Parted by prune.py. -/
import Derived.Test.YtleafbihfmiidaaDoorZ5QAlx0
import Derived.Test.YtleafbihfmiidaaDoorZ5QAlx4
-- Printed by a program of this session (myprint.py) over the kit's print: functions, contracts; not trusted, Lean checks it.
namespace Go.Proofs.YtleafbihfmiidaaDoor.QAl
open Go.RowKit Go.Proofs.YtleafbihfmiidaaDoorW.PrintWords Go.Proofs.YtleafbihfmiidaaDoorW.PrintLast Go.Proofs.YtleafbihfmiidaaDoorW.PrintMore
attribute [local go_sem] max2_int min2_int max_two min_two max_three min_three max_four min_four   -- for this text's walks alone
set_option linter.unusedVariables false
set_option linter.unusedSimpArgs false
/-! ### trickleref12_array: function 63 -/
-- NOT PRINTED: function 35 (trickleref12_trapped)
-- NOT PRINTED: function 64 (trickleref12_World_call)
-- NOT PRINTED: function 36 (trickleref12_World_Spend)
/-! ### trickleref11_Energy: function 37 -/
mutual
def trickleref11_Energy.j0 : Nat → Int → Int → Bool → Option (Int)
  | 0, _, _, _ => none
  | k + 1, x0, x3, x10 => if x10 = true then (some 6) else (if x3 = 15 then (trickleref11_Energy.j1 k x0 x3 (x3 == 15)) else (trickleref11_Energy.j1 k x0 x3 (x3 == 17)))
def trickleref11_Energy.j1 : Nat → Int → Int → Bool → Option (Int)
  | 0, _, _, _ => none
  | k + 1, x0, x3, x14 => if x14 = true then (some 3) else (if x3 = 29 then (some 2) else ((trickleref11_Mnemonic.f x0).bind fun t223 => (if t223.toList = ([] : List UInt8) then (some 0) else (some 1))))
end
def trickleref11_Energy.f (k : Nat) (a0 : Int) : Option (Int) := if a0 = 23 then (some 8) else (if a0 = 24 then (some 10) else (if a0 = 25 then (some 4) else (if a0 = 26 then (trickleref11_Energy.j0 k a0 a0 (a0 == 26)) else (if a0 = 27 then (trickleref11_Energy.j0 k a0 a0 (a0 == 27)) else (trickleref11_Energy.j0 k a0 a0 (a0 == 28))))))
set_option maxHeartbeats 8000000 in
set_option maxRecDepth 100000 in
theorem trickleref11_Energy.calls (k : Nat) (a0 : Int) (r : Int) (w : World) (h : trickleref11_Energy.f k a0 = some r) :
    Calls Tryd.prog 37 #[.int .i64 a0] w fun e w' => e = .returned (.int .i64 r) ∧ Below w.heap.size w w' := by
  have HB := Aside0.mk (Below.refl w.heap.size w)
  have H : (if a0 = 23 then (some 8) else (if a0 = 24 then (some 10) else (if a0 = 25 then (some 4) else (if a0 = 26 then (trickleref11_Energy.j0 k a0 a0 (a0 == 26)) else (if a0 = 27 then (trickleref11_Energy.j0 k a0 a0 (a0 == 27)) else (trickleref11_Energy.j0 k a0 a0 (a0 == 28))))))) = some r := h
  clear h
  by_cases c2 : a0 = 23
  · rw [if_pos c2] at H
    have c2b0 : (a0 == 23) = true := beq_iff_eq.mpr c2
    have c2b1 : (a0 != 23) = false := bne_eq_false_iff_eq.mpr c2
    clear c2
    obtain rfl := Option.some.inj H
    go_enter Tryd.func37, Tryd.ntmps37
    go_wp2
    go_ret
    exact ⟨by first | rfl | (simp [errW_none, errW_some] <;> rfl) | (simp [*, errW_none, errW_some] <;> rfl), by repeat (first | (with_reducible first | exact HB.out | apply below_alloc | apply pw_below_drewN | apply below_drew1) | exact HB.out)⟩
  · rw [if_neg c2] at H
    have c2b0 : (a0 == 23) = false := beq_eq_false_iff_ne.mpr c2
    have c2b1 : (a0 != 23) = true := bne_iff_ne.mpr c2
    by_cases c3 : a0 = 24
    · rw [if_pos c3] at H
      have c3b0 : (a0 == 24) = true := beq_iff_eq.mpr c3
      have c3b1 : (a0 != 24) = false := bne_eq_false_iff_eq.mpr c3
      clear c3
      obtain rfl := Option.some.inj H
      go_enter Tryd.func37, Tryd.ntmps37
      go_wp2
      go_ret
      exact ⟨by first | rfl | (simp [errW_none, errW_some] <;> rfl) | (simp [*, errW_none, errW_some] <;> rfl), by repeat (first | (with_reducible first | exact HB.out | apply below_alloc | apply pw_below_drewN | apply below_drew1) | exact HB.out)⟩
    · rw [if_neg c3] at H
      have c3b0 : (a0 == 24) = false := beq_eq_false_iff_ne.mpr c3
      have c3b1 : (a0 != 24) = true := bne_iff_ne.mpr c3
      by_cases c4 : a0 = 25
      · rw [if_pos c4] at H
        have c4b0 : (a0 == 25) = true := beq_iff_eq.mpr c4
        have c4b1 : (a0 != 25) = false := bne_eq_false_iff_eq.mpr c4
        clear c4
        obtain rfl := Option.some.inj H
        go_enter Tryd.func37, Tryd.ntmps37
        go_wp2
        go_ret
        exact ⟨by first | rfl | (simp [errW_none, errW_some] <;> rfl) | (simp [*, errW_none, errW_some] <;> rfl), by repeat (first | (with_reducible first | exact HB.out | apply below_alloc | apply pw_below_drewN | apply below_drew1) | exact HB.out)⟩
      · rw [if_neg c4] at H
        have c4b0 : (a0 == 25) = false := beq_eq_false_iff_ne.mpr c4
        have c4b1 : (a0 != 25) = true := bne_iff_ne.mpr c4
        have HC5 := Aside0.mk H
        clear H
        go_enter Tryd.func37, Tryd.ntmps37
        go_upto_if 10 with (fail)
        go_cut [10] (fun v10 wc => ∃ (kq : Nat) (x10_4 : Bool), v10 = .bool x10_4 ∧ Aside0 (trickleref11_Energy.j0 kq a0 a0 x10_4 = some r) ∧ Aside0 (kq ≤ k) ∧ Aside0 (Below w.heap.size w wc))
        case first =>
          have H := HC5.out
          clear HC5
          by_cases c6 : a0 = 26
          · rw [if_pos c6] at H
            have c6b0 : (a0 == 26) = true := beq_iff_eq.mpr c6
            have c6b1 : (a0 != 26) = false := bne_eq_false_iff_eq.mpr c6
            clear c6
            (first | rw [c6b0] | (simp only [i64_w, i32_w]; rw [c6b0]) | skip)
            have H' := Aside0.mk H
            clear H
            go_wp2
            go_meet
            case rel => exact ⟨_, ((a0 == 26)), (by first | rfl | (simp; done) | (simp [*]; done)), H', ⟨by first | omega | exact Nat.le_refl _⟩, ⟨by repeat (first | (with_reducible first | exact HB.out | apply below_alloc | apply pw_below_drewN | apply below_drew1) | exact HB.out)⟩⟩
          · rw [if_neg c6] at H
            have c6b0 : (a0 == 26) = false := beq_eq_false_iff_ne.mpr c6
            have c6b1 : (a0 != 26) = true := bne_iff_ne.mpr c6
            (first | rw [c6b0] | (simp only [i64_w, i32_w]; rw [c6b0]) | skip)
            by_cases c7 : a0 = 27
            · rw [if_pos c7] at H
              have c7b0 : (a0 == 27) = true := beq_iff_eq.mpr c7
              have c7b1 : (a0 != 27) = false := bne_eq_false_iff_eq.mpr c7
              clear c7
              have H' := Aside0.mk H
              clear H
              go_wp2
              go_meet
              case rel => exact ⟨_, ((a0 == 27)), (by first | rfl | (simp; done) | (simp [*]; done)), H', ⟨by first | omega | exact Nat.le_refl _⟩, ⟨by repeat (first | (with_reducible first | exact HB.out | apply below_alloc | apply pw_below_drewN | apply below_drew1) | exact HB.out)⟩⟩
            · rw [if_neg c7] at H
              have c7b0 : (a0 == 27) = false := beq_eq_false_iff_ne.mpr c7
              have c7b1 : (a0 != 27) = true := bne_iff_ne.mpr c7
              have H' := Aside0.mk H
              clear H
              go_wp2
              go_meet
              case rel => exact ⟨_, ((a0 == 28)), (by first | rfl | (simp; done) | (simp [*]; done)), H', ⟨by first | omega | exact Nat.le_refl _⟩, ⟨by repeat (first | (with_reducible first | exact HB.out | apply below_alloc | apply pw_below_drewN | apply below_drew1) | exact HB.out)⟩⟩
        case rest =>
          clear HC5
          try clear c2
          try clear c2b0
          try clear c2b1
          try clear p2
          try clear c3
          try clear c3b0
          try clear c3b1
          try clear c4
          try clear c4b0
          try clear c4b1
          try clear c6
          try clear c6b0
          try clear c6b1
          try clear c7
          try clear c7b0
          try clear c7b1
          obtain ⟨kq, x10_4, rfl, HA, HJ4, HB⟩ := hcut
          cases kq with
          | zero => exact absurd HA.out (by simp [trickleref11_Energy.j0])
          | succ kj4 =>
            have H := HA.out
            clear HA
            simp only [trickleref11_Energy.j0] at H
            by_cases c8 : x10_4 = true
            · subst c8
              have H1 : (some 6) = some r := by rw [if_pos rfl] at H; exact H
              clear H
              have H := H1
              clear H1
              obtain rfl := Option.some.inj H
              go_wp2
              go_ret
              exact ⟨by first | rfl | (simp [errW_none, errW_some] <;> rfl) | (simp [*, errW_none, errW_some] <;> rfl), by repeat (first | (with_reducible first | exact HB.out | apply below_alloc | apply pw_below_drewN | apply below_drew1) | exact HB.out)⟩
            · replace c8 := Bool.eq_false_iff.mpr c8
              subst c8
              have H1 : (if a0 = 15 then (trickleref11_Energy.j1 kj4 a0 a0 (a0 == 15)) else (trickleref11_Energy.j1 kj4 a0 a0 (a0 == 17))) = some r := by rw [if_neg (show ¬ (false = true) by decide)] at H; exact H
              clear H
              have H := H1
              clear H1
              have HC9 := Aside0.mk H
              clear H
              go_upto_if 14 with (fail)
              go_cut [14] (fun v14 wc => ∃ (kq : Nat) (x14_8 : Bool), v14 = .bool x14_8 ∧ Aside0 (trickleref11_Energy.j1 kq a0 a0 x14_8 = some r) ∧ Aside0 (kq ≤ kj4) ∧ Aside0 (Below w.heap.size w wc))
              case first =>
                have H := HC9.out
                clear HC9
                by_cases c10 : a0 = 15
                · rw [if_pos c10] at H
                  have c10b0 : (a0 == 15) = true := beq_iff_eq.mpr c10
                  have c10b1 : (a0 != 15) = false := bne_eq_false_iff_eq.mpr c10
                  clear c10
                  (first | rw [c10b0] | (simp only [i64_w, i32_w]; rw [c10b0]) | skip)
                  have H' := Aside0.mk H
                  clear H
                  go_wp2
                  go_meet
                  case rel => exact ⟨_, ((a0 == 15)), (by first | rfl | (simp; done) | (simp [*]; done)), H', ⟨by have := HJ4.out; first | omega | exact Nat.le_refl _⟩, ⟨by repeat (first | (with_reducible first | exact HB.out | apply below_alloc | apply pw_below_drewN | apply below_drew1) | exact HB.out)⟩⟩
                · rw [if_neg c10] at H
                  have c10b0 : (a0 == 15) = false := beq_eq_false_iff_ne.mpr c10
                  have c10b1 : (a0 != 15) = true := bne_iff_ne.mpr c10
                  (first | rw [c10b0] | (simp only [i64_w, i32_w]; rw [c10b0]) | skip)
                  have H' := Aside0.mk H
                  clear H
                  go_wp2
                  go_meet
                  case rel => exact ⟨_, ((a0 == 17)), (by first | rfl | (simp; done) | (simp [*]; done)), H', ⟨by have := HJ4.out; first | omega | exact Nat.le_refl _⟩, ⟨by repeat (first | (with_reducible first | exact HB.out | apply below_alloc | apply pw_below_drewN | apply below_drew1) | exact HB.out)⟩⟩
              case rest =>
                clear HC9
                try clear c1
                try clear c2
                try clear c2b0
                try clear c2b1
                try clear p2
                try clear c3
                try clear c3b0
                try clear c3b1
                try clear c4
                try clear c4b0
                try clear c4b1
                try clear c6
                try clear c6b0
                try clear c6b1
                try clear c7
                try clear c7b0
                try clear c7b1
                try clear c8
                try clear c10
                try clear c10b0
                try clear c10b1
                try clear p2
                obtain ⟨kq, x14_8, rfl, HA, HJ8, HB⟩ := hcut
                cases kq with
                | zero => exact absurd HA.out (by simp [trickleref11_Energy.j1])
                | succ kj8 =>
                  have H := HA.out
                  clear HA
                  simp only [trickleref11_Energy.j1] at H
                  by_cases c11 : x14_8 = true
                  · subst c11
                    have H1 : (some 3) = some r := by rw [if_pos rfl] at H; exact H
                    clear H
                    have H := H1
                    clear H1
                    obtain rfl := Option.some.inj H
                    go_wp2
                    go_ret
                    exact ⟨by first | rfl | (simp [errW_none, errW_some] <;> rfl) | (simp [*, errW_none, errW_some] <;> rfl), by repeat (first | (with_reducible first | exact HB.out | apply below_alloc | apply pw_below_drewN | apply below_drew1) | exact HB.out)⟩
                  · replace c11 := Bool.eq_false_iff.mpr c11
                    subst c11
                    have H1 : (if a0 = 29 then (some 2) else ((trickleref11_Mnemonic.f a0).bind fun t223 => (if t223.toList = ([] : List UInt8) then (some 0) else (some 1)))) = some r := by rw [if_neg (show ¬ (false = true) by decide)] at H; exact H
                    clear H
                    have H := H1
                    clear H1
                    by_cases c12 : a0 = 29
                    · rw [if_pos c12] at H
                      have c12b0 : (a0 == 29) = true := beq_iff_eq.mpr c12
                      have c12b1 : (a0 != 29) = false := bne_eq_false_iff_eq.mpr c12
                      clear c12
                      obtain rfl := Option.some.inj H
                      go_wp2
                      go_ret
                      exact ⟨by first | rfl | (simp [errW_none, errW_some] <;> rfl) | (simp [*, errW_none, errW_some] <;> rfl), by repeat (first | (with_reducible first | exact HB.out | apply below_alloc | apply pw_below_drewN | apply below_drew1) | exact HB.out)⟩
                    · rw [if_neg c12] at H
                      have c12b0 : (a0 == 29) = false := beq_eq_false_iff_ne.mpr c12
                      have c12b1 : (a0 != 29) = true := bne_iff_ne.mpr c12
                      replace H := Option.bind_eq_some_iff.mp H
                      obtain ⟨t223, A130, H⟩ := H
                      replace H : (if t223.toList = ([] : List UInt8) then (some 0) else (some 1)) = some r := H
                      have A13 := Aside0.mk A130
                      clear A130
                      by_cases c14 : t223.toList = ([] : List UInt8)
                      · rw [if_pos c14] at H
                        have c14b0 : (t223.toList == ([] : List UInt8)) = true := beq_iff_eq.mpr c14
                        have c14b1 : (t223.toList != ([] : List UInt8)) = false := bne_eq_false_iff_eq.mpr c14
                        clear c14
                        obtain rfl := Option.some.inj H
                        go_wp2_with (first | ((with_reducible refine gate_callee (f := 65) rfl ?_); refine goesL_ (some 20) rfl rfl Tryd.func65 (by kernel_rfl) rfl #[.int .i64 a0] rfl (by (try simp only [List.map_toArray, List.map_cons, List.map_nil]); first | done | rfl | (simp only [List.length_drop, List.length_take]; rfl)) ?_; (with_reducible refine (trickleref11_Mnemonic.calls a0 t223 _ A13.out).mono ?_); rintro e w15 ⟨rfl, hb⟩; refine ⟨_, rfl, ?_⟩; have n0_ := Aside0.mk (below_step (by repeat (first | (with_reducible first | exact HB.out | apply below_alloc | apply pw_below_drewN | apply below_drew1) | exact HB.out)) hb); clear HB; have HB := n0_; clear n0_; (try clear hb); (try clear hb2); (try clear hk); (try clear hi)))
                        go_ret
                        exact ⟨by first | rfl | (simp [errW_none, errW_some] <;> rfl) | (simp [*, errW_none, errW_some] <;> rfl), by repeat (first | (with_reducible first | exact HB.out | apply below_alloc | apply pw_below_drewN | apply below_drew1) | exact HB.out)⟩
                      · rw [if_neg c14] at H
                        have c14b0 : (t223.toList == ([] : List UInt8)) = false := beq_eq_false_iff_ne.mpr c14
                        have c14b1 : (t223.toList != ([] : List UInt8)) = true := bne_iff_ne.mpr c14
                        obtain rfl := Option.some.inj H
                        go_wp2_with (first | ((with_reducible refine gate_callee (f := 65) rfl ?_); refine goesL_ (some 20) rfl rfl Tryd.func65 (by kernel_rfl) rfl #[.int .i64 a0] rfl (by (try simp only [List.map_toArray, List.map_cons, List.map_nil]); first | done | rfl | (simp only [List.length_drop, List.length_take]; rfl)) ?_; (with_reducible refine (trickleref11_Mnemonic.calls a0 t223 _ A13.out).mono ?_); rintro e w16 ⟨rfl, hb⟩; refine ⟨_, rfl, ?_⟩; have n0_ := Aside0.mk (below_step (by repeat (first | (with_reducible first | exact HB.out | apply below_alloc | apply pw_below_drewN | apply below_drew1) | exact HB.out)) hb); clear HB; have HB := n0_; clear n0_; (try clear hb); (try clear hb2); (try clear hk); (try clear hi)))
                        go_ret
                        exact ⟨by first | rfl | (simp [errW_none, errW_some] <;> rfl) | (simp [*, errW_none, errW_some] <;> rfl), by repeat (first | (with_reducible first | exact HB.out | apply below_alloc | apply pw_below_drewN | apply below_drew1) | exact HB.out)⟩
/-! ### trickleref11_NVMWrites: function 38 -/
def trickleref11_NVMWrites.j0 : Nat → Int → Bool → Option (Int)
  | 0, _, _ => none
  | k + 1, x3, x6 => if x6 = true then (some 2) else (if x3 = 26 then (some 4) else (if x3 = 27 then (some 5) else (if x3 = 28 then (some 5) else (some 0))))
def trickleref11_NVMWrites.f (k : Nat) (a0 : Int) : Option (Int) := if a0 = 24 then (some 8) else (if a0 = 25 then (trickleref11_NVMWrites.j0 k a0 (a0 == 25)) else (if a0 = 15 then (trickleref11_NVMWrites.j0 k a0 (a0 == 15)) else (trickleref11_NVMWrites.j0 k a0 (a0 == 17))))
set_option maxHeartbeats 8000000 in
set_option maxRecDepth 100000 in
theorem trickleref11_NVMWrites.calls (k : Nat) (a0 : Int) (r : Int) (w : World) (h : trickleref11_NVMWrites.f k a0 = some r) :
    Calls Tryd.prog 38 #[.int .i64 a0] w fun e w' => e = .returned (.int .i64 r) ∧ Drawn0 w w' := by
  have H : (if a0 = 24 then (some 8) else (if a0 = 25 then (trickleref11_NVMWrites.j0 k a0 (a0 == 25)) else (if a0 = 15 then (trickleref11_NVMWrites.j0 k a0 (a0 == 15)) else (trickleref11_NVMWrites.j0 k a0 (a0 == 17))))) = some r := h
  clear h
  by_cases c2 : a0 = 24
  · rw [if_pos c2] at H
    have c2b0 : (a0 == 24) = true := beq_iff_eq.mpr c2
    have c2b1 : (a0 != 24) = false := bne_eq_false_iff_eq.mpr c2
    clear c2
    obtain rfl := Option.some.inj H
    go_enter Tryd.func38, Tryd.ntmps38
    go_wp2
    go_ret
    exact ⟨by first | rfl | (simp; done) | (simp [*]; done), by repeat (first | exact Drawn0.refl _ | apply Drawn0.step)⟩
  · rw [if_neg c2] at H
    have c2b0 : (a0 == 24) = false := beq_eq_false_iff_ne.mpr c2
    have c2b1 : (a0 != 24) = true := bne_iff_ne.mpr c2
    have HC3 := Aside0.mk H
    clear H
    go_enter Tryd.func38, Tryd.ntmps38
    go_upto_if 6 with (fail)
    go_cut [6] (fun v6 wc => ∃ (kq : Nat) (x6_2 : Bool), v6 = .bool x6_2 ∧ Aside0 (trickleref11_NVMWrites.j0 kq a0 x6_2 = some r) ∧ Aside0 (kq ≤ k) ∧ Drawn0 w wc)
    case first =>
      have H := HC3.out
      clear HC3
      by_cases c4 : a0 = 25
      · rw [if_pos c4] at H
        have c4b0 : (a0 == 25) = true := beq_iff_eq.mpr c4
        have c4b1 : (a0 != 25) = false := bne_eq_false_iff_eq.mpr c4
        clear c4
        (first | rw [c4b0] | (simp only [i64_w, i32_w]; rw [c4b0]) | skip)
        have H' := Aside0.mk H
        clear H
        go_wp2
        go_meet
        case rel => exact ⟨_, ((a0 == 25)), (by first | rfl | (simp; done) | (simp [*]; done)), H', ⟨by first | omega | exact Nat.le_refl _⟩, by repeat (first | exact Drawn0.refl _ | apply Drawn0.step)⟩
      · rw [if_neg c4] at H
        have c4b0 : (a0 == 25) = false := beq_eq_false_iff_ne.mpr c4
        have c4b1 : (a0 != 25) = true := bne_iff_ne.mpr c4
        (first | rw [c4b0] | (simp only [i64_w, i32_w]; rw [c4b0]) | skip)
        by_cases c5 : a0 = 15
        · rw [if_pos c5] at H
          have c5b0 : (a0 == 15) = true := beq_iff_eq.mpr c5
          have c5b1 : (a0 != 15) = false := bne_eq_false_iff_eq.mpr c5
          clear c5
          have H' := Aside0.mk H
          clear H
          go_wp2
          go_meet
          case rel => exact ⟨_, ((a0 == 15)), (by first | rfl | (simp; done) | (simp [*]; done)), H', ⟨by first | omega | exact Nat.le_refl _⟩, by repeat (first | exact Drawn0.refl _ | apply Drawn0.step)⟩
        · rw [if_neg c5] at H
          have c5b0 : (a0 == 15) = false := beq_eq_false_iff_ne.mpr c5
          have c5b1 : (a0 != 15) = true := bne_iff_ne.mpr c5
          have H' := Aside0.mk H
          clear H
          go_wp2
          go_meet
          case rel => exact ⟨_, ((a0 == 17)), (by first | rfl | (simp; done) | (simp [*]; done)), H', ⟨by first | omega | exact Nat.le_refl _⟩, by repeat (first | exact Drawn0.refl _ | apply Drawn0.step)⟩
    case rest =>
      clear HC3
      try clear c2
      try clear c2b0
      try clear c2b1
      try clear p2
      try clear c3
      try clear c4
      try clear c4b0
      try clear c4b1
      try clear c5
      try clear c5b0
      try clear c5b1
      obtain ⟨kq, x6_2, rfl, HA, HJ2, ⟨mc2, rfl⟩⟩ := hcut
      cases kq with
      | zero => exact absurd HA.out (by simp [trickleref11_NVMWrites.j0])
      | succ kj2 =>
        have H := HA.out
        clear HA
        simp only [trickleref11_NVMWrites.j0] at H
        by_cases c6 : x6_2 = true
        · subst c6
          have H1 : (some 2) = some r := by rw [if_pos rfl] at H; exact H
          clear H
          have H := H1
          clear H1
          obtain rfl := Option.some.inj H
          go_wp2
          go_ret
          exact ⟨by first | rfl | (simp; done) | (simp [*]; done), by repeat (first | exact Drawn0.refl _ | apply Drawn0.step)⟩
        · replace c6 := Bool.eq_false_iff.mpr c6
          subst c6
          have H1 : (if a0 = 26 then (some 4) else (if a0 = 27 then (some 5) else (if a0 = 28 then (some 5) else (some 0)))) = some r := by rw [if_neg (show ¬ (false = true) by decide)] at H; exact H
          clear H
          have H := H1
          clear H1
          by_cases c7 : a0 = 26
          · rw [if_pos c7] at H
            have c7b0 : (a0 == 26) = true := beq_iff_eq.mpr c7
            have c7b1 : (a0 != 26) = false := bne_eq_false_iff_eq.mpr c7
            clear c7
            obtain rfl := Option.some.inj H
            go_wp2
            go_ret
            exact ⟨by first | rfl | (simp; done) | (simp [*]; done), by repeat (first | exact Drawn0.refl _ | apply Drawn0.step)⟩
          · rw [if_neg c7] at H
            have c7b0 : (a0 == 26) = false := beq_eq_false_iff_ne.mpr c7
            have c7b1 : (a0 != 26) = true := bne_iff_ne.mpr c7
            by_cases c8 : a0 = 27
            · rw [if_pos c8] at H
              have c8b0 : (a0 == 27) = true := beq_iff_eq.mpr c8
              have c8b1 : (a0 != 27) = false := bne_eq_false_iff_eq.mpr c8
              clear c8
              obtain rfl := Option.some.inj H
              go_wp2
              go_ret
              exact ⟨by first | rfl | (simp; done) | (simp [*]; done), by repeat (first | exact Drawn0.refl _ | apply Drawn0.step)⟩
            · rw [if_neg c8] at H
              have c8b0 : (a0 == 27) = false := beq_eq_false_iff_ne.mpr c8
              have c8b1 : (a0 != 27) = true := bne_iff_ne.mpr c8
              by_cases c9 : a0 = 28
              · rw [if_pos c9] at H
                have c9b0 : (a0 == 28) = true := beq_iff_eq.mpr c9
                have c9b1 : (a0 != 28) = false := bne_eq_false_iff_eq.mpr c9
                clear c9
                obtain rfl := Option.some.inj H
                go_wp2
                go_ret
                exact ⟨by first | rfl | (simp; done) | (simp [*]; done), by repeat (first | exact Drawn0.refl _ | apply Drawn0.step)⟩
              · rw [if_neg c9] at H
                have c9b0 : (a0 == 28) = false := beq_eq_false_iff_ne.mpr c9
                have c9b1 : (a0 != 28) = true := bne_iff_ne.mpr c9
                obtain rfl := Option.some.inj H
                go_wp2
                go_ret
                exact ⟨by first | rfl | (simp; done) | (simp [*]; done), by repeat (first | exact Drawn0.refl _ | apply Drawn0.step)⟩
/-! ### trickleref11_Ticks: function 39 -/
mutual
def trickleref11_Ticks.j0 : Nat → Int → Int → Bool → Option (Int)
  | 0, _, _, _ => none
  | k + 1, x0, x3, x4 => if x4 = true then (some 4) else (if x3 = 15 then (trickleref11_Ticks.j1 k x0 (x3 == 15)) else (if x3 = 17 then (trickleref11_Ticks.j1 k x0 (x3 == 17)) else (if x3 = 24 then (trickleref11_Ticks.j1 k x0 (x3 == 24)) else (if x3 = 25 then (trickleref11_Ticks.j1 k x0 (x3 == 25)) else (if x3 = 26 then (trickleref11_Ticks.j1 k x0 (x3 == 26)) else (trickleref11_Ticks.j1 k x0 (x3 == 29)))))))
def trickleref11_Ticks.j1 : Nat → Int → Bool → Option (Int)
  | 0, _, _ => none
  | k + 1, x0, x8 => if x8 = true then (some 2) else ((trickleref11_Mnemonic.f x0).bind fun t224 => (if t224.toList = ([] : List UInt8) then (some 0) else (some 1)))
end
def trickleref11_Ticks.f (k : Nat) (a0 : Int) : Option (Int) := if a0 = 23 then (trickleref11_Ticks.j0 k a0 a0 (a0 == 23)) else (if a0 = 27 then (trickleref11_Ticks.j0 k a0 a0 (a0 == 27)) else (trickleref11_Ticks.j0 k a0 a0 (a0 == 28)))
set_option maxHeartbeats 8000000 in
set_option maxRecDepth 100000 in
theorem trickleref11_Ticks.calls (k : Nat) (a0 : Int) (r : Int) (w : World) (h : trickleref11_Ticks.f k a0 = some r) :
    Calls Tryd.prog 39 #[.int .i64 a0] w fun e w' => e = .returned (.int .i64 r) ∧ Below w.heap.size w w' := by
  have HB := Aside0.mk (Below.refl w.heap.size w)
  have H : (if a0 = 23 then (trickleref11_Ticks.j0 k a0 a0 (a0 == 23)) else (if a0 = 27 then (trickleref11_Ticks.j0 k a0 a0 (a0 == 27)) else (trickleref11_Ticks.j0 k a0 a0 (a0 == 28)))) = some r := h
  clear h
  have HC2 := Aside0.mk H
  clear H
  go_enter Tryd.func39, Tryd.ntmps39
  go_upto_if 4 with (fail)
  go_cut [4] (fun v4 wc => ∃ (kq : Nat) (x4_1 : Bool), v4 = .bool x4_1 ∧ Aside0 (trickleref11_Ticks.j0 kq a0 a0 x4_1 = some r) ∧ Aside0 (kq ≤ k) ∧ Aside0 (Below w.heap.size w wc))
  case first =>
    have H := HC2.out
    clear HC2
    by_cases c3 : a0 = 23
    · rw [if_pos c3] at H
      have c3b0 : (a0 == 23) = true := beq_iff_eq.mpr c3
      have c3b1 : (a0 != 23) = false := bne_eq_false_iff_eq.mpr c3
      clear c3
      (first | rw [c3b0] | (simp only [i64_w, i32_w]; rw [c3b0]) | skip)
      have H' := Aside0.mk H
      clear H
      go_wp2
      go_meet
      case rel => exact ⟨_, ((a0 == 23)), (by first | rfl | (simp; done) | (simp [*]; done)), H', ⟨by first | omega | exact Nat.le_refl _⟩, ⟨by repeat (first | (with_reducible first | exact HB.out | apply below_alloc | apply pw_below_drewN | apply below_drew1) | exact HB.out)⟩⟩
    · rw [if_neg c3] at H
      have c3b0 : (a0 == 23) = false := beq_eq_false_iff_ne.mpr c3
      have c3b1 : (a0 != 23) = true := bne_iff_ne.mpr c3
      (first | rw [c3b0] | (simp only [i64_w, i32_w]; rw [c3b0]) | skip)
      by_cases c4 : a0 = 27
      · rw [if_pos c4] at H
        have c4b0 : (a0 == 27) = true := beq_iff_eq.mpr c4
        have c4b1 : (a0 != 27) = false := bne_eq_false_iff_eq.mpr c4
        clear c4
        have H' := Aside0.mk H
        clear H
        go_wp2
        go_meet
        case rel => exact ⟨_, ((a0 == 27)), (by first | rfl | (simp; done) | (simp [*]; done)), H', ⟨by first | omega | exact Nat.le_refl _⟩, ⟨by repeat (first | (with_reducible first | exact HB.out | apply below_alloc | apply pw_below_drewN | apply below_drew1) | exact HB.out)⟩⟩
      · rw [if_neg c4] at H
        have c4b0 : (a0 == 27) = false := beq_eq_false_iff_ne.mpr c4
        have c4b1 : (a0 != 27) = true := bne_iff_ne.mpr c4
        have H' := Aside0.mk H
        clear H
        go_wp2
        go_meet
        case rel => exact ⟨_, ((a0 == 28)), (by first | rfl | (simp; done) | (simp [*]; done)), H', ⟨by first | omega | exact Nat.le_refl _⟩, ⟨by repeat (first | (with_reducible first | exact HB.out | apply below_alloc | apply pw_below_drewN | apply below_drew1) | exact HB.out)⟩⟩
  case rest =>
    clear HC2
    try clear p2
    try clear c3
    try clear c3b0
    try clear c3b1
    try clear c4
    try clear c4b0
    try clear c4b1
    obtain ⟨kq, x4_1, rfl, HA, HJ1, HB⟩ := hcut
    cases kq with
    | zero => exact absurd HA.out (by simp [trickleref11_Ticks.j0])
    | succ kj1 =>
      have H := HA.out
      clear HA
      simp only [trickleref11_Ticks.j0] at H
      by_cases c5 : x4_1 = true
      · subst c5
        have H1 : (some 4) = some r := by rw [if_pos rfl] at H; exact H
        clear H
        have H := H1
        clear H1
        obtain rfl := Option.some.inj H
        go_wp2
        go_ret
        exact ⟨by first | rfl | (simp [errW_none, errW_some] <;> rfl) | (simp [*, errW_none, errW_some] <;> rfl), by repeat (first | (with_reducible first | exact HB.out | apply below_alloc | apply pw_below_drewN | apply below_drew1) | exact HB.out)⟩
      · replace c5 := Bool.eq_false_iff.mpr c5
        subst c5
        have H1 : (if a0 = 15 then (trickleref11_Ticks.j1 kj1 a0 (a0 == 15)) else (if a0 = 17 then (trickleref11_Ticks.j1 kj1 a0 (a0 == 17)) else (if a0 = 24 then (trickleref11_Ticks.j1 kj1 a0 (a0 == 24)) else (if a0 = 25 then (trickleref11_Ticks.j1 kj1 a0 (a0 == 25)) else (if a0 = 26 then (trickleref11_Ticks.j1 kj1 a0 (a0 == 26)) else (trickleref11_Ticks.j1 kj1 a0 (a0 == 29))))))) = some r := by rw [if_neg (show ¬ (false = true) by decide)] at H; exact H
        clear H
        have H := H1
        clear H1
        have HC6 := Aside0.mk H
        clear H
        go_upto_if 8 with (fail)
        go_cut [8] (fun v8 wc => ∃ (kq : Nat) (x8_5 : Bool), v8 = .bool x8_5 ∧ Aside0 (trickleref11_Ticks.j1 kq a0 x8_5 = some r) ∧ Aside0 (kq ≤ kj1) ∧ Aside0 (Below w.heap.size w wc))
        case first =>
          have H := HC6.out
          clear HC6
          by_cases c7 : a0 = 15
          · rw [if_pos c7] at H
            have c7b0 : (a0 == 15) = true := beq_iff_eq.mpr c7
            have c7b1 : (a0 != 15) = false := bne_eq_false_iff_eq.mpr c7
            clear c7
            (first | rw [c7b0] | (simp only [i64_w, i32_w]; rw [c7b0]) | skip)
            have H' := Aside0.mk H
            clear H
            go_wp2
            go_meet
            case rel => exact ⟨_, ((a0 == 15)), (by first | rfl | (simp; done) | (simp [*]; done)), H', ⟨by have := HJ1.out; first | omega | exact Nat.le_refl _⟩, ⟨by repeat (first | (with_reducible first | exact HB.out | apply below_alloc | apply pw_below_drewN | apply below_drew1) | exact HB.out)⟩⟩
          · rw [if_neg c7] at H
            have c7b0 : (a0 == 15) = false := beq_eq_false_iff_ne.mpr c7
            have c7b1 : (a0 != 15) = true := bne_iff_ne.mpr c7
            (first | rw [c7b0] | (simp only [i64_w, i32_w]; rw [c7b0]) | skip)
            by_cases c8 : a0 = 17
            · rw [if_pos c8] at H
              have c8b0 : (a0 == 17) = true := beq_iff_eq.mpr c8
              have c8b1 : (a0 != 17) = false := bne_eq_false_iff_eq.mpr c8
              clear c8
              have H' := Aside0.mk H
              clear H
              go_wp2
              go_meet
              case rel => exact ⟨_, ((a0 == 17)), (by first | rfl | (simp; done) | (simp [*]; done)), H', ⟨by have := HJ1.out; first | omega | exact Nat.le_refl _⟩, ⟨by repeat (first | (with_reducible first | exact HB.out | apply below_alloc | apply pw_below_drewN | apply below_drew1) | exact HB.out)⟩⟩
            · rw [if_neg c8] at H
              have c8b0 : (a0 == 17) = false := beq_eq_false_iff_ne.mpr c8
              have c8b1 : (a0 != 17) = true := bne_iff_ne.mpr c8
              by_cases c9 : a0 = 24
              · rw [if_pos c9] at H
                have c9b0 : (a0 == 24) = true := beq_iff_eq.mpr c9
                have c9b1 : (a0 != 24) = false := bne_eq_false_iff_eq.mpr c9
                clear c9
                have H' := Aside0.mk H
                clear H
                go_wp2
                go_meet
                case rel => exact ⟨_, ((a0 == 24)), (by first | rfl | (simp; done) | (simp [*]; done)), H', ⟨by have := HJ1.out; first | omega | exact Nat.le_refl _⟩, ⟨by repeat (first | (with_reducible first | exact HB.out | apply below_alloc | apply pw_below_drewN | apply below_drew1) | exact HB.out)⟩⟩
              · rw [if_neg c9] at H
                have c9b0 : (a0 == 24) = false := beq_eq_false_iff_ne.mpr c9
                have c9b1 : (a0 != 24) = true := bne_iff_ne.mpr c9
                by_cases c10 : a0 = 25
                · rw [if_pos c10] at H
                  have c10b0 : (a0 == 25) = true := beq_iff_eq.mpr c10
                  have c10b1 : (a0 != 25) = false := bne_eq_false_iff_eq.mpr c10
                  clear c10
                  have H' := Aside0.mk H
                  clear H
                  go_wp2
                  go_meet
                  case rel => exact ⟨_, ((a0 == 25)), (by first | rfl | (simp; done) | (simp [*]; done)), H', ⟨by have := HJ1.out; first | omega | exact Nat.le_refl _⟩, ⟨by repeat (first | (with_reducible first | exact HB.out | apply below_alloc | apply pw_below_drewN | apply below_drew1) | exact HB.out)⟩⟩
                · rw [if_neg c10] at H
                  have c10b0 : (a0 == 25) = false := beq_eq_false_iff_ne.mpr c10
                  have c10b1 : (a0 != 25) = true := bne_iff_ne.mpr c10
                  by_cases c11 : a0 = 26
                  · rw [if_pos c11] at H
                    have c11b0 : (a0 == 26) = true := beq_iff_eq.mpr c11
                    have c11b1 : (a0 != 26) = false := bne_eq_false_iff_eq.mpr c11
                    clear c11
                    have H' := Aside0.mk H
                    clear H
                    go_wp2
                    go_meet
                    case rel => exact ⟨_, ((a0 == 26)), (by first | rfl | (simp; done) | (simp [*]; done)), H', ⟨by have := HJ1.out; first | omega | exact Nat.le_refl _⟩, ⟨by repeat (first | (with_reducible first | exact HB.out | apply below_alloc | apply pw_below_drewN | apply below_drew1) | exact HB.out)⟩⟩
                  · rw [if_neg c11] at H
                    have c11b0 : (a0 == 26) = false := beq_eq_false_iff_ne.mpr c11
                    have c11b1 : (a0 != 26) = true := bne_iff_ne.mpr c11
                    have H' := Aside0.mk H
                    clear H
                    go_wp2
                    go_meet
                    case rel => exact ⟨_, ((a0 == 29)), (by first | rfl | (simp; done) | (simp [*]; done)), H', ⟨by have := HJ1.out; first | omega | exact Nat.le_refl _⟩, ⟨by repeat (first | (with_reducible first | exact HB.out | apply below_alloc | apply pw_below_drewN | apply below_drew1) | exact HB.out)⟩⟩
        case rest =>
          clear HC6
          try clear c1
          try clear p2
          try clear c3
          try clear c3b0
          try clear c3b1
          try clear c4
          try clear c4b0
          try clear c4b1
          try clear c5
          try clear c7
          try clear c7b0
          try clear c7b1
          try clear c8
          try clear c8b0
          try clear c8b1
          try clear c9
          try clear c9b0
          try clear c9b1
          try clear c10
          try clear c10b0
          try clear c10b1
          try clear c11
          try clear c11b0
          try clear c11b1
          try clear p2
          obtain ⟨kq, x8_5, rfl, HA, HJ5, HB⟩ := hcut
          cases kq with
          | zero => exact absurd HA.out (by simp [trickleref11_Ticks.j1])
          | succ kj5 =>
            have H := HA.out
            clear HA
            simp only [trickleref11_Ticks.j1] at H
            by_cases c12 : x8_5 = true
            · subst c12
              have H1 : (some 2) = some r := by rw [if_pos rfl] at H; exact H
              clear H
              have H := H1
              clear H1
              obtain rfl := Option.some.inj H
              go_wp2
              go_ret
              exact ⟨by first | rfl | (simp [errW_none, errW_some] <;> rfl) | (simp [*, errW_none, errW_some] <;> rfl), by repeat (first | (with_reducible first | exact HB.out | apply below_alloc | apply pw_below_drewN | apply below_drew1) | exact HB.out)⟩
            · replace c12 := Bool.eq_false_iff.mpr c12
              subst c12
              have H1 : ((trickleref11_Mnemonic.f a0).bind fun t224 => (if t224.toList = ([] : List UInt8) then (some 0) else (some 1))) = some r := by rw [if_neg (show ¬ (false = true) by decide)] at H; exact H
              clear H
              have H := H1
              clear H1
              replace H := Option.bind_eq_some_iff.mp H
              obtain ⟨t224, A130, H⟩ := H
              replace H : (if t224.toList = ([] : List UInt8) then (some 0) else (some 1)) = some r := H
              have A13 := Aside0.mk A130
              clear A130
              by_cases c14 : t224.toList = ([] : List UInt8)
              · rw [if_pos c14] at H
                have c14b0 : (t224.toList == ([] : List UInt8)) = true := beq_iff_eq.mpr c14
                have c14b1 : (t224.toList != ([] : List UInt8)) = false := bne_eq_false_iff_eq.mpr c14
                clear c14
                obtain rfl := Option.some.inj H
                go_wp2_with (first | ((with_reducible refine gate_callee (f := 65) rfl ?_); refine goesL_ (some 16) rfl rfl Tryd.func65 (by kernel_rfl) rfl #[.int .i64 a0] rfl (by (try simp only [List.map_toArray, List.map_cons, List.map_nil]); first | done | rfl | (simp only [List.length_drop, List.length_take]; rfl)) ?_; (with_reducible refine (trickleref11_Mnemonic.calls a0 t224 _ A13.out).mono ?_); rintro e w15 ⟨rfl, hb⟩; refine ⟨_, rfl, ?_⟩; have n0_ := Aside0.mk (below_step (by repeat (first | (with_reducible first | exact HB.out | apply below_alloc | apply pw_below_drewN | apply below_drew1) | exact HB.out)) hb); clear HB; have HB := n0_; clear n0_; (try clear hb); (try clear hb2); (try clear hk); (try clear hi)))
                go_ret
                exact ⟨by first | rfl | (simp [errW_none, errW_some] <;> rfl) | (simp [*, errW_none, errW_some] <;> rfl), by repeat (first | (with_reducible first | exact HB.out | apply below_alloc | apply pw_below_drewN | apply below_drew1) | exact HB.out)⟩
              · rw [if_neg c14] at H
                have c14b0 : (t224.toList == ([] : List UInt8)) = false := beq_eq_false_iff_ne.mpr c14
                have c14b1 : (t224.toList != ([] : List UInt8)) = true := bne_iff_ne.mpr c14
                obtain rfl := Option.some.inj H
                go_wp2_with (first | ((with_reducible refine gate_callee (f := 65) rfl ?_); refine goesL_ (some 16) rfl rfl Tryd.func65 (by kernel_rfl) rfl #[.int .i64 a0] rfl (by (try simp only [List.map_toArray, List.map_cons, List.map_nil]); first | done | rfl | (simp only [List.length_drop, List.length_take]; rfl)) ?_; (with_reducible refine (trickleref11_Mnemonic.calls a0 t224 _ A13.out).mono ?_); rintro e w16 ⟨rfl, hb⟩; refine ⟨_, rfl, ?_⟩; have n0_ := Aside0.mk (below_step (by repeat (first | (with_reducible first | exact HB.out | apply below_alloc | apply pw_below_drewN | apply below_drew1) | exact HB.out)) hb); clear HB; have HB := n0_; clear n0_; (try clear hb); (try clear hb2); (try clear hk); (try clear hi)))
                go_ret
                exact ⟨by first | rfl | (simp [errW_none, errW_some] <;> rfl) | (simp [*, errW_none, errW_some] <;> rfl), by repeat (first | (with_reducible first | exact HB.out | apply below_alloc | apply pw_below_drewN | apply below_drew1) | exact HB.out)⟩
/-! ### trickleref01_Wrap: function 66 -/
def trickleref01_Wrap.f (a0 : Int) : Option (Int) := if (Int.tmod a0 65536) < 0 then (if (wrap64 ((Int.tmod a0 65536) + 65536)) ≥ 32768 then (some (IntKind.i16.wrap (wrap64 ((wrap64 ((Int.tmod a0 65536) + 65536)) - 65536)))) else (some (IntKind.i16.wrap (wrap64 ((Int.tmod a0 65536) + 65536))))) else (if (Int.tmod a0 65536) ≥ 32768 then (some (IntKind.i16.wrap (wrap64 ((Int.tmod a0 65536) - 65536)))) else (some (IntKind.i16.wrap (Int.tmod a0 65536))))
set_option maxHeartbeats 8000000 in
set_option maxRecDepth 100000 in
theorem trickleref01_Wrap.calls (a0 : Int) (r : Int) (w : World) (h : trickleref01_Wrap.f a0 = some r) :
    Calls Tryd.prog 66 #[.int .i64 a0] w fun e w' => e = .returned (.int .i16 r) ∧ Drawn0 w w' := by
  have H : (if (Int.tmod a0 65536) < 0 then (if (wrap64 ((Int.tmod a0 65536) + 65536)) ≥ 32768 then (some (IntKind.i16.wrap (wrap64 ((wrap64 ((Int.tmod a0 65536) + 65536)) - 65536)))) else (some (IntKind.i16.wrap (wrap64 ((Int.tmod a0 65536) + 65536))))) else (if (Int.tmod a0 65536) ≥ 32768 then (some (IntKind.i16.wrap (wrap64 ((Int.tmod a0 65536) - 65536)))) else (some (IntKind.i16.wrap (Int.tmod a0 65536))))) = some r := h
  clear h
  by_cases c2 : (Int.tmod a0 65536) < 0
  · rw [if_pos c2] at H
    have c2b0 : decide ((Int.tmod a0 65536) < 0) = true := decide_eq_true c2
    clear c2
    by_cases c3 : (wrap64 ((Int.tmod a0 65536) + 65536)) ≥ 32768
    · rw [if_pos c3] at H
      have c3b0 : decide (32768 ≤ (wrap64 ((Int.tmod a0 65536) + 65536))) = true := decide_eq_true c3
      clear c3
      obtain rfl := Option.some.inj H
      go_enter Tryd.func66, Tryd.ntmps66
      go_wp2
      go_ret
      exact ⟨by first | rfl | (simp; done) | (simp [*]; done), by repeat (first | exact Drawn0.refl _ | apply Drawn0.step)⟩
    · rw [if_neg c3] at H
      have c3b0 : decide (32768 ≤ (wrap64 ((Int.tmod a0 65536) + 65536))) = false := decide_eq_false c3
      clear c3
      obtain rfl := Option.some.inj H
      go_enter Tryd.func66, Tryd.ntmps66
      go_wp2
      go_ret
      exact ⟨by first | rfl | (simp; done) | (simp [*]; done), by repeat (first | exact Drawn0.refl _ | apply Drawn0.step)⟩
  · rw [if_neg c2] at H
    have c2b0 : decide ((Int.tmod a0 65536) < 0) = false := decide_eq_false c2
    clear c2
    by_cases c4 : (Int.tmod a0 65536) ≥ 32768
    · rw [if_pos c4] at H
      have c4b0 : decide (32768 ≤ (Int.tmod a0 65536)) = true := decide_eq_true c4
      clear c4
      obtain rfl := Option.some.inj H
      go_enter Tryd.func66, Tryd.ntmps66
      go_wp2
      go_ret
      exact ⟨by first | rfl | (simp; done) | (simp [*]; done), by repeat (first | exact Drawn0.refl _ | apply Drawn0.step)⟩
    · rw [if_neg c4] at H
      have c4b0 : decide (32768 ≤ (Int.tmod a0 65536)) = false := decide_eq_false c4
      clear c4
      obtain rfl := Option.some.inj H
      go_enter Tryd.func66, Tryd.ntmps66
      go_wp2
      go_ret
      exact ⟨by first | rfl | (simp; done) | (simp [*]; done), by repeat (first | exact Drawn0.refl _ | apply Drawn0.step)⟩
end Go.Proofs.YtleafbihfmiidaaDoor.QAl
