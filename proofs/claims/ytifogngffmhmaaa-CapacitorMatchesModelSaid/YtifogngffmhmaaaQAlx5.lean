-- Printed by a program of this session (myprint.py) over the kit's print: functions, contracts; not trusted, Lean checks it.
import Derived.Test.YtifogngffmhmaaaQAlx0
import Derived.Test.YtifogngffmhmaaaQAlx1
namespace Go.Proofs.Ytifogngffmhmaaa.QAl
open Go.RowKit Go.Proofs.YtifogngffmhmaaaW.PrintWords Go.Proofs.YtifogngffmhmaaaW.PrintLast Go.Proofs.YtifogngffmhmaaaW.PrintMore
attribute [local go_sem] max2_int min2_int max_two min_two max_three min_three max_four min_four   -- for this text's walks alone
set_option linter.unusedVariables false
set_option linter.unusedSimpArgs false


/-! ### trickleref08_Draw: function 17 -/
def trickleref08_Draw.f (a0_0 : Int) (a0_1 : Int) (a0_2 : Int) (a0_3 : Int) (a0_4 : Bool) (a1 : Int) : Option (Int × Int × Int × Int × Bool × Bool) := if a0_4 = true then (if a1 < 0 then some (a0_0, a0_1, a0_2, a0_3, a0_4, false) else if a1 > a0_3 then some (a0_0, a0_1, a0_2, 0, decide (0 > a0_2), decide (0 > a0_2)) else some (a0_0, a0_1, a0_2, wrap64 (a0_3 - a1), decide (wrap64 (a0_3 - a1) > a0_2), decide (wrap64 (a0_3 - a1) > a0_2))) else some (a0_0, a0_1, a0_2, a0_3, a0_4, false)
set_option maxHeartbeats 8000000 in
set_option maxRecDepth 100000 in
theorem trickleref08_Draw.calls (a0_0 : Int) (a0_1 : Int) (a0_2 : Int) (a0_3 : Int) (a0_4 : Bool) (a1 : Int) (r1 : Int) (r2 : Int) (r3 : Int) (r4 : Int) (r5 : Bool) (r6 : Bool) (w : World) (h : trickleref08_Draw.f a0_0 a0_1 a0_2 a0_3 a0_4 a1 = some (r1, r2, r3, r4, r5, r6)) :
    Calls Try.prog 17 #[.agg #[.int .i64 a0_0, .int .i64 a0_1, .int .i64 a0_2, .int .i64 a0_3, .bool a0_4], .int .i64 a1] w fun e w' => e = .returned (.tuple #[.agg #[.int .i64 r1, .int .i64 r2, .int .i64 r3, .int .i64 r4, .bool r5], .bool r6]) ∧ Below w.heap.size w w' := by
  have hu40 := Try.underlying40
  have H := h
  clear h
  unfold trickleref08_Draw.f at H
  cases a0_4 with
  | false =>
    rw [if_neg (by decide)] at H
    simp only [Option.some.injEq, Prod.mk.injEq] at H
    obtain ⟨rfl, rfl, rfl, rfl, rfl, rfl⟩ := H
    go_enter Try.func17, Try.ntmps17
    go_wp2
    all_goals try (exfalso; omega)
    all_goals
      (try simp only [Act.put, List.setIfInBounds_toArray, List.set_cons_zero, List.set_cons_succ])
      have hbk : ∀ X Y, ((w.alloc X).alloc Y).heap[w.heap.size + 1]? = some Y := by intro X Y; have := blk_new (w.alloc X) Y; simpa using this
      refine bodyPost_ret (results_ct rfl _ _ (w.heap.size + 1) 40 _ (0, 0) _ rfl (hbk _ _) hu40 rfl rfl) rfl ?_
      exact ⟨rfl, by repeat (first | exact Below.refl _ _ | apply below_alloc | apply below_drew1)⟩
  | true =>
    rw [if_pos rfl] at H
    by_cases c1 : a1 < 0
    · rw [if_pos c1] at H
      have c1b : decide (a1 < 0) = true := decide_eq_true c1
      clear c1
      simp only [Option.some.injEq, Prod.mk.injEq] at H
      obtain ⟨rfl, rfl, rfl, rfl, rfl, rfl⟩ := H
      go_enter Try.func17, Try.ntmps17
      go_wp2
      all_goals try (exfalso; omega)
      all_goals
        (try simp only [Act.put, List.setIfInBounds_toArray, List.set_cons_zero, List.set_cons_succ])
        have hbk : ∀ X Y, ((w.alloc X).alloc Y).heap[w.heap.size + 1]? = some Y := by intro X Y; have := blk_new (w.alloc X) Y; simpa using this
        refine bodyPost_ret (results_ct rfl _ _ (w.heap.size + 1) 40 _ (0, 0) _ rfl (hbk _ _) hu40 rfl rfl) rfl ?_
        exact ⟨rfl, by repeat (first | exact Below.refl _ _ | apply below_alloc | apply below_drew1)⟩
    · rw [if_neg c1] at H
      have c1b : decide (a1 < 0) = false := decide_eq_false c1
      clear c1
      by_cases c2 : a1 > a0_3
      · rw [if_pos c2] at H
        have c2b : decide (a0_3 < a1) = true := decide_eq_true c2
        clear c2
        obtain ⟨b, hb⟩ : ∃ b, decide (0 > a0_2) = b := ⟨_, rfl⟩
        rw [hb] at H
        have hb' : decide (a0_2 < 0) = b := hb
        clear hb
        simp only [Option.some.injEq, Prod.mk.injEq] at H
        obtain ⟨rfl, rfl, rfl, rfl, rfl, rfl⟩ := H
        go_enter Try.func17, Try.ntmps17
        go_wp2
        all_goals try (exfalso; omega)
        all_goals go_region_with fail
        all_goals (try go_wp2)
        all_goals
          (try simp only [Act.put, List.setIfInBounds_toArray, List.set_cons_zero, List.set_cons_succ])
          have hbk : ∀ X Y, ((w.alloc X).alloc Y).heap[w.heap.size + 1]? = some Y := by intro X Y; have := blk_new (w.alloc X) Y; simpa using this
          refine bodyPost_ret (results_ct rfl _ _ (w.heap.size + 1) 40 _ (0, 0) _ rfl (hbk _ _) hu40 rfl rfl) rfl ?_
          exact ⟨rfl, by repeat (first | exact Below.refl _ _ | apply below_alloc | apply below_drew1)⟩
      · rw [if_neg c2] at H
        have c2b : decide (a0_3 < a1) = false := decide_eq_false c2
        clear c2
        obtain ⟨y, hy⟩ : ∃ y, wrap64 (a0_3 - a1) = y := ⟨_, rfl⟩
        obtain ⟨b, hb⟩ : ∃ b, decide (y > a0_2) = b := ⟨_, rfl⟩
        rw [hy, hb] at H
        have hb' : decide (a0_2 < y) = b := hb
        have hv : IntKind.i64.wrap (a0_3 - a1) = y := by simp only [i64_w]; exact hy
        clear hb hy
        simp only [Option.some.injEq, Prod.mk.injEq] at H
        obtain ⟨rfl, rfl, rfl, rfl, rfl, rfl⟩ := H
        go_enter Try.func17, Try.ntmps17
        go_wp2
        all_goals try (exfalso; omega)
        all_goals go_region_with fail
        all_goals (try go_wp2)
        all_goals
          (try simp only [Act.put, List.setIfInBounds_toArray, List.set_cons_zero, List.set_cons_succ])
          have hbk : ∀ X Y, ((w.alloc X).alloc Y).heap[w.heap.size + 1]? = some Y := by intro X Y; have := blk_new (w.alloc X) Y; simpa using this
          refine bodyPost_ret (results_ct rfl _ _ (w.heap.size + 1) 40 _ (0, 0) _ rfl (hbk _ _) hu40 rfl rfl) rfl ?_
          exact ⟨rfl, by repeat (first | exact Below.refl _ _ | apply below_alloc | apply below_drew1)⟩

/-! ### trickleref08_supply: function 27 -/
def trickleref08_supply.f (a0 : Int) (a1 : Int) : Option (Bool) := if a0 ≥ 0 then (if a0 ≤ 1048576 then (if a1 ≥ 0 then (some (decide (a1 ≤ 1099511627776))) else (some false)) else (some false)) else (some false)
set_option maxHeartbeats 8000000 in
set_option maxRecDepth 100000 in
theorem trickleref08_supply.calls (a0 : Int) (a1 : Int) (r : Bool) (w : World) (h : trickleref08_supply.f a0 a1 = some r) :
    Calls Try.prog 27 #[.int .i64 a0, .int .i64 a1] w fun e w' => e = .returned (.bool r) ∧ Drawn0 w w' := by
  have H : (if a0 ≥ 0 then (if a0 ≤ 1048576 then (if a1 ≥ 0 then (some (decide (a1 ≤ 1099511627776))) else (some false)) else (some false)) else (some false)) = some r := h
  clear h
  by_cases c3 : a0 ≥ 0
  · rw [if_pos c3] at H
    have c3b0 : decide (0 ≤ a0) = true := decide_eq_true c3
    clear c3
    by_cases c4 : a0 ≤ 1048576
    · rw [if_pos c4] at H
      have c4b0 : decide (a0 ≤ 1048576) = true := decide_eq_true c4
      clear c4
      by_cases c5 : a1 ≥ 0
      · rw [if_pos c5] at H
        have c5b0 : decide (0 ≤ a1) = true := decide_eq_true c5
        clear c5
        obtain rfl := Option.some.inj H
        go_enter Try.func27, Try.ntmps27
        go_wp2
        go_ret
        exact ⟨by first | rfl | (simp; done) | (simp [*]; done), by repeat (first | exact Drawn0.refl _ | apply Drawn0.step)⟩
      · rw [if_neg c5] at H
        have c5b0 : decide (0 ≤ a1) = false := decide_eq_false c5
        clear c5
        obtain rfl := Option.some.inj H
        go_enter Try.func27, Try.ntmps27
        go_wp2
        go_ret
        exact ⟨by first | rfl | (simp; done) | (simp [*]; done), by repeat (first | exact Drawn0.refl _ | apply Drawn0.step)⟩
    · rw [if_neg c4] at H
      have c4b0 : decide (a0 ≤ 1048576) = false := decide_eq_false c4
      clear c4
      obtain rfl := Option.some.inj H
      go_enter Try.func27, Try.ntmps27
      go_wp2
      go_ret
      exact ⟨by first | rfl | (simp; done) | (simp [*]; done), by repeat (first | exact Drawn0.refl _ | apply Drawn0.step)⟩
  · rw [if_neg c3] at H
    have c3b0 : decide (0 ≤ a0) = false := decide_eq_false c3
    clear c3
    obtain rfl := Option.some.inj H
    go_enter Try.func27, Try.ntmps27
    go_wp2
    go_ret
    exact ⟨by first | rfl | (simp; done) | (simp [*]; done), by repeat (first | exact Drawn0.refl _ | apply Drawn0.step)⟩


/-! ### trickleref08_Harvest: function 18 -/
def trickleref08_Harvest.f (a0_0 : Int) (a0_1 : Int) (a0_2 : Int) (a0_3 : Int) (a0_4 : Bool) (a1 : Int) (a2 : Int) : Option (Int × Int × Int × Int × Bool × Int) := if a1 ≥ 0 then (if a1 ≤ 1048576 then (if a2 ≥ 0 then (if a2 ≤ 1099511627776 then (some (a0_0, a0_1, a0_2, mn a0_0 (wrap64 (a0_3 + wrap64 (a1 * a2))), a0_4 || decide (mn a0_0 (wrap64 (a0_3 + wrap64 (a1 * a2))) ≥ a0_1), 0)) else some (a0_0, a0_1, a0_2, a0_3, a0_4, 1)) else some (a0_0, a0_1, a0_2, a0_3, a0_4, 1)) else some (a0_0, a0_1, a0_2, a0_3, a0_4, 1)) else some (a0_0, a0_1, a0_2, a0_3, a0_4, 1)
set_option maxHeartbeats 8000000 in
set_option maxRecDepth 100000 in
theorem trickleref08_Harvest.calls (a0_0 : Int) (a0_1 : Int) (a0_2 : Int) (a0_3 : Int) (a0_4 : Bool) (a1 : Int) (a2 : Int) (r1 : Int) (r2 : Int) (r3 : Int) (r4 : Int) (r5 : Bool) (r6 : Int) (w : World) (h : trickleref08_Harvest.f a0_0 a0_1 a0_2 a0_3 a0_4 a1 a2 = some (r1, r2, r3, r4, r5, r6)) :
    Calls Try.prog 18 #[.agg #[.int .i64 a0_0, .int .i64 a0_1, .int .i64 a0_2, .int .i64 a0_3, .bool a0_4], .int .i64 a1, .int .i64 a2] w fun e w' => e = .returned (.tuple #[.agg #[.int .i64 r1, .int .i64 r2, .int .i64 r3, .int .i64 r4, .bool r5], .int .i64 r6]) ∧ Below w.heap.size w w' := by
  have hu40 := Try.underlying40
  have H := h
  clear h
  unfold trickleref08_Harvest.f at H
  by_cases c0 : a1 ≥ 0
  · rw [if_pos c0] at H
    have c0b : decide (0 ≤ a1) = true := decide_eq_true c0
    by_cases c1 : a1 ≤ 1048576
    · rw [if_pos c1] at H
      have c1b : decide (a1 ≤ 1048576) = true := decide_eq_true c1
      by_cases c2 : a2 ≥ 0
      · rw [if_pos c2] at H
        have c2b : decide (0 ≤ a2) = true := decide_eq_true c2
        by_cases c3 : a2 ≤ 1099511627776
        · rw [if_pos c3] at H
          have c3b : decide (a2 ≤ 1099511627776) = true := decide_eq_true c3
          by_cases cm : wrap64 (a0_3 + wrap64 (a1 * a2)) < a0_0
          · have hy : mn a0_0 (wrap64 (a0_3 + wrap64 (a1 * a2))) = wrap64 (a0_3 + wrap64 (a1 * a2)) := by unfold mn; rw [if_pos cm]
            obtain ⟨b, hb⟩ : ∃ b, decide (wrap64 (a0_3 + wrap64 (a1 * a2)) ≥ a0_1) = b := ⟨_, rfl⟩
            rw [hy, hb] at H
            have hb' : decide (a0_1 ≤ wrap64 (a0_3 + wrap64 (a1 * a2))) = b := hb
            clear hb hy
            cases a0_4 with
            | true =>
              rw [Bool.true_or] at H
              simp only [Option.some.injEq, Prod.mk.injEq] at H
              obtain ⟨rfl, rfl, rfl, rfl, rfl, rfl⟩ := H
              go_enter Try.func18, Try.ntmps18
              go_wp2
              all_goals try (exfalso; omega)
              all_goals
                (try simp only [Act.put, List.setIfInBounds_toArray, List.set_cons_zero, List.set_cons_succ])
                have hbk : ∀ X Y, ((w.alloc X).alloc Y).heap[w.heap.size + 1]? = some Y := by intro X Y; have := blk_new (w.alloc X) Y; simpa using this
                refine bodyPost_ret (results_ct rfl _ _ (w.heap.size + 1) 40 _ (0, 0) _ rfl (hbk _ _) hu40 rfl rfl) rfl ?_
                exact ⟨rfl, by repeat (first | exact Below.refl _ _ | apply below_alloc | apply below_drew1)⟩
            | false =>
              rw [Bool.false_or] at H
              simp only [Option.some.injEq, Prod.mk.injEq] at H
              obtain ⟨rfl, rfl, rfl, rfl, rfl, rfl⟩ := H
              go_enter Try.func18, Try.ntmps18
              go_wp2
              all_goals try (exfalso; omega)
              all_goals
                (try simp only [Act.put, List.setIfInBounds_toArray, List.set_cons_zero, List.set_cons_succ])
                have hbk : ∀ X Y, ((w.alloc X).alloc Y).heap[w.heap.size + 1]? = some Y := by intro X Y; have := blk_new (w.alloc X) Y; simpa using this
                refine bodyPost_ret (results_ct rfl _ _ (w.heap.size + 1) 40 _ (0, 0) _ rfl (hbk _ _) hu40 rfl rfl) rfl ?_
                exact ⟨rfl, by repeat (first | exact Below.refl _ _ | apply below_alloc | apply below_drew1)⟩
          · have hy : mn a0_0 (wrap64 (a0_3 + wrap64 (a1 * a2))) = a0_0 := by unfold mn; rw [if_neg cm]
            obtain ⟨b, hb⟩ : ∃ b, decide (a0_0 ≥ a0_1) = b := ⟨_, rfl⟩
            rw [hy, hb] at H
            have hb' : decide (a0_1 ≤ a0_0) = b := hb
            clear hb hy
            cases a0_4 with
            | true =>
              rw [Bool.true_or] at H
              simp only [Option.some.injEq, Prod.mk.injEq] at H
              obtain ⟨rfl, rfl, rfl, rfl, rfl, rfl⟩ := H
              go_enter Try.func18, Try.ntmps18
              go_wp2
              all_goals try (exfalso; omega)
              all_goals
                (try simp only [Act.put, List.setIfInBounds_toArray, List.set_cons_zero, List.set_cons_succ])
                have hbk : ∀ X Y, ((w.alloc X).alloc Y).heap[w.heap.size + 1]? = some Y := by intro X Y; have := blk_new (w.alloc X) Y; simpa using this
                refine bodyPost_ret (results_ct rfl _ _ (w.heap.size + 1) 40 _ (0, 0) _ rfl (hbk _ _) hu40 rfl rfl) rfl ?_
                exact ⟨rfl, by repeat (first | exact Below.refl _ _ | apply below_alloc | apply below_drew1)⟩
            | false =>
              rw [Bool.false_or] at H
              simp only [Option.some.injEq, Prod.mk.injEq] at H
              obtain ⟨rfl, rfl, rfl, rfl, rfl, rfl⟩ := H
              go_enter Try.func18, Try.ntmps18
              go_wp2
              all_goals try (exfalso; omega)
              all_goals
                (try simp only [Act.put, List.setIfInBounds_toArray, List.set_cons_zero, List.set_cons_succ])
                have hbk : ∀ X Y, ((w.alloc X).alloc Y).heap[w.heap.size + 1]? = some Y := by intro X Y; have := blk_new (w.alloc X) Y; simpa using this
                refine bodyPost_ret (results_ct rfl _ _ (w.heap.size + 1) 40 _ (0, 0) _ rfl (hbk _ _) hu40 rfl rfl) rfl ?_
                exact ⟨rfl, by repeat (first | exact Below.refl _ _ | apply below_alloc | apply below_drew1)⟩
        · rw [if_neg c3] at H
          have c3b : decide (a2 ≤ 1099511627776) = false := decide_eq_false c3
          simp only [Option.some.injEq, Prod.mk.injEq] at H
          obtain ⟨rfl, rfl, rfl, rfl, rfl, rfl⟩ := H
          go_enter Try.func18, Try.ntmps18
          go_wp2
          all_goals try (exfalso; omega)
          all_goals
            (try simp only [Act.put, List.setIfInBounds_toArray, List.set_cons_zero, List.set_cons_succ])
            have hbk : ∀ X Y, ((w.alloc X).alloc Y).heap[w.heap.size + 1]? = some Y := by intro X Y; have := blk_new (w.alloc X) Y; simpa using this
            refine bodyPost_ret (results_ct rfl _ _ (w.heap.size + 1) 40 _ (0, 0) _ rfl (hbk _ _) hu40 rfl rfl) rfl ?_
            exact ⟨rfl, by repeat (first | exact Below.refl _ _ | apply below_alloc | apply below_drew1)⟩
      · rw [if_neg c2] at H
        have c2b : decide (0 ≤ a2) = false := decide_eq_false c2
        simp only [Option.some.injEq, Prod.mk.injEq] at H
        obtain ⟨rfl, rfl, rfl, rfl, rfl, rfl⟩ := H
        go_enter Try.func18, Try.ntmps18
        go_wp2
        all_goals try (exfalso; omega)
        all_goals
          (try simp only [Act.put, List.setIfInBounds_toArray, List.set_cons_zero, List.set_cons_succ])
          have hbk : ∀ X Y, ((w.alloc X).alloc Y).heap[w.heap.size + 1]? = some Y := by intro X Y; have := blk_new (w.alloc X) Y; simpa using this
          refine bodyPost_ret (results_ct rfl _ _ (w.heap.size + 1) 40 _ (0, 0) _ rfl (hbk _ _) hu40 rfl rfl) rfl ?_
          exact ⟨rfl, by repeat (first | exact Below.refl _ _ | apply below_alloc | apply below_drew1)⟩
    · rw [if_neg c1] at H
      have c1b : decide (a1 ≤ 1048576) = false := decide_eq_false c1
      simp only [Option.some.injEq, Prod.mk.injEq] at H
      obtain ⟨rfl, rfl, rfl, rfl, rfl, rfl⟩ := H
      go_enter Try.func18, Try.ntmps18
      go_wp2
      all_goals try (exfalso; omega)
      all_goals
        (try simp only [Act.put, List.setIfInBounds_toArray, List.set_cons_zero, List.set_cons_succ])
        have hbk : ∀ X Y, ((w.alloc X).alloc Y).heap[w.heap.size + 1]? = some Y := by intro X Y; have := blk_new (w.alloc X) Y; simpa using this
        refine bodyPost_ret (results_ct rfl _ _ (w.heap.size + 1) 40 _ (0, 0) _ rfl (hbk _ _) hu40 rfl rfl) rfl ?_
        exact ⟨rfl, by repeat (first | exact Below.refl _ _ | apply below_alloc | apply below_drew1)⟩
  · rw [if_neg c0] at H
    have c0b : decide (0 ≤ a1) = false := decide_eq_false c0
    simp only [Option.some.injEq, Prod.mk.injEq] at H
    obtain ⟨rfl, rfl, rfl, rfl, rfl, rfl⟩ := H
    go_enter Try.func18, Try.ntmps18
    go_wp2
    all_goals try (exfalso; omega)
    all_goals
      (try simp only [Act.put, List.setIfInBounds_toArray, List.set_cons_zero, List.set_cons_succ])
      have hbk : ∀ X Y, ((w.alloc X).alloc Y).heap[w.heap.size + 1]? = some Y := by intro X Y; have := blk_new (w.alloc X) Y; simpa using this
      refine bodyPost_ret (results_ct rfl _ _ (w.heap.size + 1) 40 _ (0, 0) _ rfl (hbk _ _) hu40 rfl rfl) rfl ?_
      exact ⟨rfl, by repeat (first | exact Below.refl _ _ | apply below_alloc | apply below_drew1)⟩

/-! ### capacitor_Capacitor_WaitTime: function 19 -/
def capacitor_Capacitor_WaitTime.f (s0_0 : Int) (s0_1 : Int) (s0_2 : Int) (s0_3 : Int) (s0_4 : Bool) (a1 : Int) : Option (Int × Bool × Int × Int × Int × Int × Bool) := if s0_4 = true then (some (0, true, s0_0, s0_1, s0_2, s0_3, s0_4)) else (if a1 < 1 then (some (0, false, s0_0, s0_1, s0_2, s0_3, s0_4)) else (if a1 > 1048576 then (some (0, false, s0_0, s0_1, s0_2, s0_3, s0_4)) else (if a1 = 0 then (none) else (some (wrap64 (Int.tdiv (wrap64 ((wrap64 ((wrap64 (s0_1 - s0_3)) + a1)) - 1)) a1), true, s0_0, s0_1, s0_2, s0_3, s0_4)))))
set_option maxHeartbeats 8000000 in
set_option maxRecDepth 100000 in
theorem capacitor_Capacitor_WaitTime.calls (g : Nat) (s0_0 : Int) (s0_1 : Int) (s0_2 : Int) (s0_3 : Int) (s0_4 : Bool) (a1 : Int) (r1 : Int) (r2 : Bool) (r3 : Int) (r4 : Int) (r5 : Int) (r6 : Int) (r7 : Bool) (w0 w : World) (hI : IsS70 w0 w g s0_0 s0_1 s0_2 s0_3 s0_4) (hB : Below w0.heap.size w0 w) (h : capacitor_Capacitor_WaitTime.f s0_0 s0_1 s0_2 s0_3 s0_4 a1 = some (r1, r2, r3, r4, r5, r6, r7)) :
    Calls Try.prog 19 #[.pointer (some ⟨g, 0, none⟩), .int .i64 a1] w fun e w' => e = .returned (.tuple #[.int .i64 r1, .bool r2]) ∧ IsS70 w0 w' g r3 r4 r5 r6 r7 ∧ Below w0.heap.size w0 w' ∧ KeepBut w w' g none := by
  have HI0 := Aside0.mk hI
  have HK := Aside0.mk (KeepBut.refl w g none)
  have HL := Aside0.mk hB.size
  clear hI
  have HW0 := Aside0.mk hB.size
  have HB := Aside0.mk hB
  clear hB
  have H : (if s0_4 = true then (some (0, true, s0_0, s0_1, s0_2, s0_3, s0_4)) else (if a1 < 1 then (some (0, false, s0_0, s0_1, s0_2, s0_3, s0_4)) else (if a1 > 1048576 then (some (0, false, s0_0, s0_1, s0_2, s0_3, s0_4)) else (if a1 = 0 then (none) else (some (wrap64 (Int.tdiv (wrap64 ((wrap64 ((wrap64 (s0_1 - s0_3)) + a1)) - 1)) a1), true, s0_0, s0_1, s0_2, s0_3, s0_4)))))) = some (r1, r2, r3, r4, r5, r6, r7) := h
  clear h
  by_cases c3 : s0_4 = true
  · subst c3
    have H1 : (some (0, true, s0_0, s0_1, s0_2, s0_3, true)) = some (r1, r2, r3, r4, r5, r6, r7) := by rw [if_pos rfl] at H; exact H
    clear H
    have H := H1
    clear H1
    simp only [Option.some.injEq, Prod.mk.injEq] at H
    obtain ⟨rfl, rfl, rfl, rfl, rfl, rfl, rfl⟩ := H
    obtain ⟨HGz4, hgz4⟩ := HI0.out
    have hcz4_0 := cellS70_0 HGz4
    have hcz4_1 := cellS70_1 HGz4
    have hcz4_2 := cellS70_2 HGz4
    have hcz4_3 := cellS70_3 HGz4
    have hcz4_4 := cellS70_4 HGz4
    have hfz4_0 := blk_frozen HGz4 0
    have hfz4_1 := blk_frozen HGz4 1
    have hfz4_2 := blk_frozen HGz4 2
    have hfz4_3 := blk_frozen HGz4 3
    have hfz4_4 := blk_frozen HGz4 4
    clear HGz4 hgz4
    go_enter Try.func19, Try.ntmps19
    go_wp2
    repeat (go_quiet (fail); try go_wp2)
    go_ret2
    exact ⟨by first | rfl | (simp [errW_none, errW_some] <;> rfl) | (simp [*, errW_none, errW_some] <;> rfl), by repeat (first | (with_reducible first | exact HI0.out | apply IsS70.alloc | apply IsS70.drewN | apply IsS70.drew | apply IsS70.set_0 | apply IsS70.set_1 | apply IsS70.set_2 | apply IsS70.set_3 | apply IsS70.set_4) | exact HI0.out), by repeat (first | (with_reducible first | exact HB.out | apply below_alloc | apply pw_below_drewN | apply below_drew1 | refine below_set ?_ (IsS70.ge HI0.out)) | exact HB.out), by repeat (first | (with_reducible first | exact HK.out | apply KeepBut.set_ | apply keep_drewN | apply keep_drew | apply keep_alloc) | exact HK.out)⟩
  · replace c3 := Bool.eq_false_iff.mpr c3
    subst c3
    have H1 : (if a1 < 1 then (some (0, false, s0_0, s0_1, s0_2, s0_3, false)) else (if a1 > 1048576 then (some (0, false, s0_0, s0_1, s0_2, s0_3, false)) else (if a1 = 0 then (none) else (some (wrap64 (Int.tdiv (wrap64 ((wrap64 ((wrap64 (s0_1 - s0_3)) + a1)) - 1)) a1), true, s0_0, s0_1, s0_2, s0_3, false))))) = some (r1, r2, r3, r4, r5, r6, r7) := by rw [if_neg (show ¬ (false = true) by decide)] at H; exact H
    clear H
    have H := H1
    clear H1
    by_cases c5 : a1 < 1
    · rw [if_pos c5] at H
      have c5b0 : decide (a1 < 1) = true := decide_eq_true c5
      clear c5
      simp only [Option.some.injEq, Prod.mk.injEq] at H
      obtain ⟨rfl, rfl, rfl, rfl, rfl, rfl, rfl⟩ := H
      obtain ⟨HGz6, hgz6⟩ := HI0.out
      have hcz6_0 := cellS70_0 HGz6
      have hcz6_1 := cellS70_1 HGz6
      have hcz6_2 := cellS70_2 HGz6
      have hcz6_3 := cellS70_3 HGz6
      have hcz6_4 := cellS70_4 HGz6
      have hfz6_0 := blk_frozen HGz6 0
      have hfz6_1 := blk_frozen HGz6 1
      have hfz6_2 := blk_frozen HGz6 2
      have hfz6_3 := blk_frozen HGz6 3
      have hfz6_4 := blk_frozen HGz6 4
      clear HGz6 hgz6
      go_enter Try.func19, Try.ntmps19
      go_wp2
      repeat (go_quiet (fail); try go_wp2)
      go_ret2
      exact ⟨by first | rfl | (simp [errW_none, errW_some] <;> rfl) | (simp [*, errW_none, errW_some] <;> rfl), by repeat (first | (with_reducible first | exact HI0.out | apply IsS70.alloc | apply IsS70.drewN | apply IsS70.drew | apply IsS70.set_0 | apply IsS70.set_1 | apply IsS70.set_2 | apply IsS70.set_3 | apply IsS70.set_4) | exact HI0.out), by repeat (first | (with_reducible first | exact HB.out | apply below_alloc | apply pw_below_drewN | apply below_drew1 | refine below_set ?_ (IsS70.ge HI0.out)) | exact HB.out), by repeat (first | (with_reducible first | exact HK.out | apply KeepBut.set_ | apply keep_drewN | apply keep_drew | apply keep_alloc) | exact HK.out)⟩
    · rw [if_neg c5] at H
      have c5b0 : decide (a1 < 1) = false := decide_eq_false c5
      clear c5
      by_cases c7 : a1 > 1048576
      · rw [if_pos c7] at H
        have c7b0 : decide (1048576 < a1) = true := decide_eq_true c7
        clear c7
        simp only [Option.some.injEq, Prod.mk.injEq] at H
        obtain ⟨rfl, rfl, rfl, rfl, rfl, rfl, rfl⟩ := H
        obtain ⟨HGz8, hgz8⟩ := HI0.out
        have hcz8_0 := cellS70_0 HGz8
        have hcz8_1 := cellS70_1 HGz8
        have hcz8_2 := cellS70_2 HGz8
        have hcz8_3 := cellS70_3 HGz8
        have hcz8_4 := cellS70_4 HGz8
        have hfz8_0 := blk_frozen HGz8 0
        have hfz8_1 := blk_frozen HGz8 1
        have hfz8_2 := blk_frozen HGz8 2
        have hfz8_3 := blk_frozen HGz8 3
        have hfz8_4 := blk_frozen HGz8 4
        clear HGz8 hgz8
        go_enter Try.func19, Try.ntmps19
        go_wp2
        repeat (go_quiet (fail); try go_wp2)
        go_ret2
        exact ⟨by first | rfl | (simp [errW_none, errW_some] <;> rfl) | (simp [*, errW_none, errW_some] <;> rfl), by repeat (first | (with_reducible first | exact HI0.out | apply IsS70.alloc | apply IsS70.drewN | apply IsS70.drew | apply IsS70.set_0 | apply IsS70.set_1 | apply IsS70.set_2 | apply IsS70.set_3 | apply IsS70.set_4) | exact HI0.out), by repeat (first | (with_reducible first | exact HB.out | apply below_alloc | apply pw_below_drewN | apply below_drew1 | refine below_set ?_ (IsS70.ge HI0.out)) | exact HB.out), by repeat (first | (with_reducible first | exact HK.out | apply KeepBut.set_ | apply keep_drewN | apply keep_drew | apply keep_alloc) | exact HK.out)⟩
      · rw [if_neg c7] at H
        have c7b0 : decide (1048576 < a1) = false := decide_eq_false c7
        clear c7
        by_cases c9 : a1 = 0
        · rw [if_pos c9] at H
          exact absurd H (by simp)
        · rw [if_neg c9] at H
          have c9b0 : (a1 == 0) = false := beq_eq_false_iff_ne.mpr c9
          have c9b1 : (a1 != 0) = true := bne_iff_ne.mpr c9
          simp only [Option.some.injEq, Prod.mk.injEq] at H
          obtain ⟨rfl, rfl, rfl, rfl, rfl, rfl, rfl⟩ := H
          obtain ⟨HGz10, hgz10⟩ := HI0.out
          have hcz10_0 := cellS70_0 HGz10
          have hcz10_1 := cellS70_1 HGz10
          have hcz10_2 := cellS70_2 HGz10
          have hcz10_3 := cellS70_3 HGz10
          have hcz10_4 := cellS70_4 HGz10
          have hfz10_0 := blk_frozen HGz10 0
          have hfz10_1 := blk_frozen HGz10 1
          have hfz10_2 := blk_frozen HGz10 2
          have hfz10_3 := blk_frozen HGz10 3
          have hfz10_4 := blk_frozen HGz10 4
          clear HGz10 hgz10
          go_enter Try.func19, Try.ntmps19
          go_wp2
          repeat (go_quiet (fail); try go_wp2)
          go_ret2
          exact ⟨by first | rfl | (simp [errW_none, errW_some] <;> rfl) | (simp [*, errW_none, errW_some] <;> rfl), by repeat (first | (with_reducible first | exact HI0.out | apply IsS70.alloc | apply IsS70.drewN | apply IsS70.drew | apply IsS70.set_0 | apply IsS70.set_1 | apply IsS70.set_2 | apply IsS70.set_3 | apply IsS70.set_4) | exact HI0.out), by repeat (first | (with_reducible first | exact HB.out | apply below_alloc | apply pw_below_drewN | apply below_drew1 | refine below_set ?_ (IsS70.ge HI0.out)) | exact HB.out), by repeat (first | (with_reducible first | exact HK.out | apply KeepBut.set_ | apply keep_drewN | apply keep_drew | apply keep_alloc) | exact HK.out)⟩

/-! ### trickleref08_WaitTime: function 20 -/
def trickleref08_WaitTime.j0 : Nat → Int → Bool → Int → Int → Int → Int → Bool → Option (Int × Bool)
  | 0, _, _, _, _, _, _, _ => none
  | k + 1, x1, x15, x233000, x233001, x233002, x233003, x233004 => if x15 = true then (some (0, false)) else (if x1 = 0 then (none) else (if (wrap64 ((wrap64 (Int.tdiv (wrap64 (x233001 - x233003)) x1)) * x1)) < (wrap64 (x233001 - x233003)) then (some (wrap64 ((wrap64 (Int.tdiv (wrap64 (x233001 - x233003)) x1)) + 1), true)) else (some (wrap64 (Int.tdiv (wrap64 (x233001 - x233003)) x1), true))))
def trickleref08_WaitTime.f (k : Nat) (a0_0 : Int) (a0_1 : Int) (a0_2 : Int) (a0_3 : Int) (a0_4 : Bool) (a1 : Int) : Option (Int × Bool) := if a0_4 = true then (some (0, true)) else (if a1 < 1 then (trickleref08_WaitTime.j0 k a1 true a0_0 a0_1 a0_2 a0_3 a0_4) else (trickleref08_WaitTime.j0 k a1 (decide (a1 > 1048576)) a0_0 a0_1 a0_2 a0_3 a0_4))
theorem trickleref08_WaitTime.mono_l : ∀ k, (∀ y0 y1 y2 y3 y4 y5 y6, LeO (trickleref08_WaitTime.j0 k y0 y1 y2 y3 y4 y5 y6) (trickleref08_WaitTime.j0 (k + 1) y0 y1 y2 y3 y4 y5 y6))
  | 0 => fun _ _ _ _ _ _ _ r h => by simp [trickleref08_WaitTime.j0] at h
  | k + 1 => by
    have ih0 := trickleref08_WaitTime.mono_l k
    · intro y0 y1 y2 y3 y4 y5 y6
      unfold trickleref08_WaitTime.j0
      repeat' first
      | (with_reducible exact ih0 _ _ _ _ _ _ _)
      | (with_reducible exact LeO.refl _)
      | (with_reducible exact LeO.none _)
      | (with_reducible refine LeO.ite ?_ ?_)
      | (with_reducible refine LeO.bind ?_ (fun _ => ?_))
      | exact ih0 _ _ _ _ _ _ _
      | exact LeO.none _
      | refine LeO.ite ?_ ?_
      | refine LeO.bind ?_ (fun _ => ?_)
theorem trickleref08_WaitTime.mono : ∀ a0 a1 a2 a3 a4 a5 k, LeO (trickleref08_WaitTime.f k a0 a1 a2 a3 a4 a5) (trickleref08_WaitTime.f (k + 1) a0 a1 a2 a3 a4 a5) := by
  intro a0 a1 a2 a3 a4 a5 k
  have ih0 := trickleref08_WaitTime.mono_l k
  unfold trickleref08_WaitTime.f
  repeat' first
      | (with_reducible exact ih0 _ _ _ _ _ _ _)
      | (with_reducible exact LeO.refl _)
      | (with_reducible exact LeO.none _)
      | (with_reducible refine LeO.ite ?_ ?_)
      | (with_reducible refine LeO.bind ?_ (fun _ => ?_))
      | exact ih0 _ _ _ _ _ _ _
      | exact LeO.none _
      | refine LeO.ite ?_ ?_
      | refine LeO.bind ?_ (fun _ => ?_)
set_option maxHeartbeats 8000000 in
set_option maxRecDepth 100000 in
theorem trickleref08_WaitTime.calls (k : Nat) (a0_0 : Int) (a0_1 : Int) (a0_2 : Int) (a0_3 : Int) (a0_4 : Bool) (a1 : Int) (r1 : Int) (r2 : Bool) (w : World) (h : trickleref08_WaitTime.f k a0_0 a0_1 a0_2 a0_3 a0_4 a1 = some (r1, r2)) :
    Calls Try.prog 20 #[.agg #[.int .i64 a0_0, .int .i64 a0_1, .int .i64 a0_2, .int .i64 a0_3, .bool a0_4], .int .i64 a1] w fun e w' => e = .returned (.tuple #[.int .i64 r1, .bool r2]) ∧ Below w.heap.size w w' := by
  have hu40 := Try.underlying40
  have HB := Aside0.mk (Below.refl w.heap.size w)
  have H : (if a0_4 = true then (some (0, true)) else (if a1 < 1 then (trickleref08_WaitTime.j0 k a1 true a0_0 a0_1 a0_2 a0_3 a0_4) else (trickleref08_WaitTime.j0 k a1 (decide (a1 > 1048576)) a0_0 a0_1 a0_2 a0_3 a0_4))) = some (r1, r2) := h
  clear h
  by_cases c3 : a0_4 = true
  · subst c3
    have H1 : (some (0, true)) = some (r1, r2) := by rw [if_pos rfl] at H; exact H
    clear H
    have H := H1
    clear H1
    simp only [Option.some.injEq, Prod.mk.injEq] at H
    obtain ⟨rfl, rfl⟩ := H
    go_enter Try.func20, Try.ntmps20
    go_wp2_with (first | ((with_reducible refine gate_dst (N := 2) rfl ?_); refine box_event ?hg (N := 2) ?hd (cs := #[.int .i64 a0_0, .int .i64 a0_1, .int .i64 a0_2, .int .i64 a0_3, .bool true]) (t := 40) ?hr ?_; (case hd => rfl); (case hg => rfl); (case hr => first | (go_simp; done) | (go_simp; rfl)); intro gb232 hg w4 hbox hb; have n0_ := Aside0.mk (below_step (by repeat (first | (with_reducible first | exact HB.out | apply below_alloc | apply pw_below_drewN | apply below_drew1) | exact HB.out)) hb); have n1_ := Aside0.mk (hbox); have n2_ := Aside0.mk ((by rw [hg]; exact (below_size (by repeat (first | (with_reducible first | exact HB.out | apply below_alloc | apply pw_below_drewN | apply below_drew1) | exact HB.out))) : w.heap.size ≤ gb232)); have n3_ := Aside0.mk ((by rw [hg]; exact (below_size (by repeat (first | (with_reducible first | exact HB.out | apply below_alloc | apply pw_below_drewN | apply below_drew1) | exact HB.out))) : w.heap.size ≤ gb232)); clear HB; have HB := n0_; have BK232 := n1_; have GW232 := n2_; have GE232 := n3_; clear n0_ n1_ n2_ n3_; clear hb hbox hg; have hcz5_0 : w4.cell? ⟨gb232, 0, none⟩ = some (.int .i64 a0_0) := (blk_cell BK232.out 0).trans rfl; have hcz5_1 : w4.cell? ⟨gb232, 1, none⟩ = some (.int .i64 a0_1) := (blk_cell BK232.out 1).trans rfl; have hcz5_2 : w4.cell? ⟨gb232, 2, none⟩ = some (.int .i64 a0_2) := (blk_cell BK232.out 2).trans rfl; have hcz5_3 : w4.cell? ⟨gb232, 3, none⟩ = some (.int .i64 a0_3) := (blk_cell BK232.out 3).trans rfl; have hcz5_4 : w4.cell? ⟨gb232, 4, none⟩ = some (.bool true) := (blk_cell BK232.out 4).trans rfl; have hfz5_0 := blk_frozen BK232.out 0; have hfz5_1 := blk_frozen BK232.out 1; have hfz5_2 := blk_frozen BK232.out 2; have hfz5_3 := blk_frozen BK232.out 3; have hfz5_4 := blk_frozen BK232.out 4))
    go_ret2
    exact ⟨by first | rfl | (simp [errW_none, errW_some] <;> rfl) | (simp [*, errW_none, errW_some] <;> rfl), by repeat (first | (with_reducible first | exact HB.out | apply below_alloc | apply pw_below_drewN | apply below_drew1 | refine below_set ?_ GE232.out) | exact HB.out)⟩
  · replace c3 := Bool.eq_false_iff.mpr c3
    subst c3
    have H1 : (if a1 < 1 then (trickleref08_WaitTime.j0 k a1 true a0_0 a0_1 a0_2 a0_3 false) else (trickleref08_WaitTime.j0 k a1 (decide (a1 > 1048576)) a0_0 a0_1 a0_2 a0_3 false)) = some (r1, r2) := by rw [if_neg (show ¬ (false = true) by decide)] at H; exact H
    clear H
    have H := H1
    clear H1
    have HC6 := Aside0.mk H
    clear H
    go_enter Try.func20, Try.ntmps20
    go_upto_region 3 with (first | ((with_reducible refine gate_dst (N := 2) rfl ?_); refine box_event ?hg (N := 2) ?hd (cs := #[.int .i64 a0_0, .int .i64 a0_1, .int .i64 a0_2, .int .i64 a0_3, .bool false]) (t := 40) ?hr ?_; (case hd => rfl); (case hg => rfl); (case hr => first | (go_simp; done) | (go_simp; rfl)); intro gb232 hg w7 hbox hb; have n0_ := Aside0.mk (below_step (by repeat (first | (with_reducible first | exact HB.out | apply below_alloc | apply pw_below_drewN | apply below_drew1) | exact HB.out)) hb); have n1_ := Aside0.mk (hbox); have n2_ := Aside0.mk ((by rw [hg]; exact (below_size (by repeat (first | (with_reducible first | exact HB.out | apply below_alloc | apply pw_below_drewN | apply below_drew1) | exact HB.out))) : w.heap.size ≤ gb232)); have n3_ := Aside0.mk ((by rw [hg]; exact (below_size (by repeat (first | (with_reducible first | exact HB.out | apply below_alloc | apply pw_below_drewN | apply below_drew1) | exact HB.out))) : w.heap.size ≤ gb232)); clear HB; have HB := n0_; have BK232 := n1_; have GW232 := n2_; have GE232 := n3_; clear n0_ n1_ n2_ n3_; clear hb hbox hg; have hcz8_0 : w7.cell? ⟨gb232, 0, none⟩ = some (.int .i64 a0_0) := (blk_cell BK232.out 0).trans rfl; have hcz8_1 : w7.cell? ⟨gb232, 1, none⟩ = some (.int .i64 a0_1) := (blk_cell BK232.out 1).trans rfl; have hcz8_2 : w7.cell? ⟨gb232, 2, none⟩ = some (.int .i64 a0_2) := (blk_cell BK232.out 2).trans rfl; have hcz8_3 : w7.cell? ⟨gb232, 3, none⟩ = some (.int .i64 a0_3) := (blk_cell BK232.out 3).trans rfl; have hcz8_4 : w7.cell? ⟨gb232, 4, none⟩ = some (.bool false) := (blk_cell BK232.out 4).trans rfl; have hfz8_0 := blk_frozen BK232.out 0; have hfz8_1 := blk_frozen BK232.out 1; have hfz8_2 := blk_frozen BK232.out 2; have hfz8_3 := blk_frozen BK232.out 3; have hfz8_4 := blk_frozen BK232.out 4))
    (try simp only [Act.put, List.setIfInBounds_toArray, List.set_cons_zero, List.set_cons_succ])
    go_cut [15] (fun v15 wc => ∃ (kq : Nat) (x15_5 : Bool), v15 = .bool x15_5 ∧ Aside0 (trickleref08_WaitTime.j0 kq a1 x15_5 a0_0 a0_1 a0_2 a0_3 false = some (r1, r2)) ∧ Aside0 (kq ≤ k) ∧ Aside0 (wc.heap[gb232]? = some (.cells #[.int .i64 a0_0, .int .i64 a0_1, .int .i64 a0_2, .int .i64 a0_3, .bool false] 40 (0, 0))) ∧ Aside0 (Below w.heap.size w wc))
    case first =>
      have H := HC6.out
      clear HC6
      by_cases c9 : a1 < 1
      · rw [if_pos c9] at H
        have c9b0 : decide (a1 < 1) = true := decide_eq_true c9
        clear c9
        (first | rw [c9b0] | (simp only [i64_w, i32_w]; rw [c9b0]) | skip)
        have H' := Aside0.mk H
        clear H
        go_wp2
        go_meet
        case rel => exact ⟨_, (true), (by first | rfl | (simp; done) | (simp [*]; done)), H', ⟨by first | omega | exact Nat.le_refl _⟩, ⟨by (with_reducible repeat (first | refine blk_drewN ?_ _ | refine blk_drew ?_ | refine blk_alloc ?_ _)); exact BK232.out⟩, ⟨by repeat (first | (with_reducible first | exact HB.out | apply below_alloc | apply pw_below_drewN | apply below_drew1 | refine below_set ?_ GE232.out) | exact HB.out)⟩⟩
      · rw [if_neg c9] at H
        have c9b0 : decide (a1 < 1) = false := decide_eq_false c9
        clear c9
        (first | rw [c9b0] | (simp only [i64_w, i32_w]; rw [c9b0]) | skip)
        have H' := Aside0.mk H
        clear H
        go_wp2
        go_meet
        case rel => exact ⟨_, (decide (a1 > 1048576)), (by first | rfl | (simp; done) | (simp [*]; done)), H', ⟨by first | omega | exact Nat.le_refl _⟩, ⟨by (with_reducible repeat (first | refine blk_drewN ?_ _ | refine blk_drew ?_ | refine blk_alloc ?_ _)); exact BK232.out⟩, ⟨by repeat (first | (with_reducible first | exact HB.out | apply below_alloc | apply pw_below_drewN | apply below_drew1 | refine below_set ?_ GE232.out) | exact HB.out)⟩⟩
    case rest =>
      clear HC6
      try clear c2
      try clear p2
      try clear c3
      try clear c9
      try clear c9b0
      try clear hcz5_0
      try clear hcz5_1
      try clear hcz5_2
      try clear hcz5_3
      try clear hcz5_4
      try clear hcz8_0
      try clear hcz8_1
      try clear hcz8_2
      try clear hcz8_3
      try clear hcz8_4
      try clear hfz5_0
      try clear hfz5_1
      try clear hfz5_2
      try clear hfz5_3
      try clear hfz5_4
      try clear hfz8_0
      try clear hfz8_1
      try clear hfz8_2
      try clear hfz8_3
      try clear hfz8_4
      obtain ⟨kq, x15_5, rfl, HA, HJ5, BK232, HB⟩ := hcut
      cases kq with
      | zero => exact absurd HA.out (by simp [trickleref08_WaitTime.j0])
      | succ kj5 =>
        have H := HA.out
        clear HA
        simp only [trickleref08_WaitTime.j0] at H
        by_cases c10 : x15_5 = true
        · subst c10
          have H1 : (some (0, false)) = some (r1, r2) := by rw [if_pos rfl] at H; exact H
          clear H
          have H := H1
          clear H1
          simp only [Option.some.injEq, Prod.mk.injEq] at H
          obtain ⟨rfl, rfl⟩ := H
          go_wp2
          go_ret2
          exact ⟨by first | rfl | (simp [errW_none, errW_some] <;> rfl) | (simp [*, errW_none, errW_some] <;> rfl), by repeat (first | (with_reducible first | exact HB.out | apply below_alloc | apply pw_below_drewN | apply below_drew1 | refine below_set ?_ GE232.out) | exact HB.out)⟩
        · replace c10 := Bool.eq_false_iff.mpr c10
          subst c10
          have H1 : (if a1 = 0 then (none) else (if (wrap64 ((wrap64 (Int.tdiv (wrap64 (a0_1 - a0_3)) a1)) * a1)) < (wrap64 (a0_1 - a0_3)) then (some (wrap64 ((wrap64 (Int.tdiv (wrap64 (a0_1 - a0_3)) a1)) + 1), true)) else (some (wrap64 (Int.tdiv (wrap64 (a0_1 - a0_3)) a1), true)))) = some (r1, r2) := by rw [if_neg (show ¬ (false = true) by decide)] at H; exact H
          clear H
          have H := H1
          clear H1
          by_cases c11 : a1 = 0
          · rw [if_pos c11] at H
            exact absurd H (by simp)
          · rw [if_neg c11] at H
            have c11b0 : (a1 == 0) = false := beq_eq_false_iff_ne.mpr c11
            have c11b1 : (a1 != 0) = true := bne_iff_ne.mpr c11
            by_cases c12 : (wrap64 ((wrap64 (Int.tdiv (wrap64 (a0_1 - a0_3)) a1)) * a1)) < (wrap64 (a0_1 - a0_3))
            · rw [if_pos c12] at H
              have c12b0 : decide ((wrap64 ((wrap64 (Int.tdiv (wrap64 (a0_1 - a0_3)) a1)) * a1)) < (wrap64 (a0_1 - a0_3))) = true := decide_eq_true c12
              clear c12
              simp only [Option.some.injEq, Prod.mk.injEq] at H
              obtain ⟨rfl, rfl⟩ := H
              have hcz13_0 : wc.cell? ⟨gb232, 0, none⟩ = some (.int .i64 a0_0) := (blk_cell BK232.out 0).trans rfl
              have hcz13_1 : wc.cell? ⟨gb232, 1, none⟩ = some (.int .i64 a0_1) := (blk_cell BK232.out 1).trans rfl
              have hcz13_2 : wc.cell? ⟨gb232, 2, none⟩ = some (.int .i64 a0_2) := (blk_cell BK232.out 2).trans rfl
              have hcz13_3 : wc.cell? ⟨gb232, 3, none⟩ = some (.int .i64 a0_3) := (blk_cell BK232.out 3).trans rfl
              have hcz13_4 : wc.cell? ⟨gb232, 4, none⟩ = some (.bool false) := (blk_cell BK232.out 4).trans rfl
              have hfz13_0 := blk_frozen BK232.out 0
              have hfz13_1 := blk_frozen BK232.out 1
              have hfz13_2 := blk_frozen BK232.out 2
              have hfz13_3 := blk_frozen BK232.out 3
              have hfz13_4 := blk_frozen BK232.out 4
              go_wp2
              go_ret2
              exact ⟨by first | rfl | (simp [errW_none, errW_some] <;> rfl) | (simp [*, errW_none, errW_some] <;> rfl), by repeat (first | (with_reducible first | exact HB.out | apply below_alloc | apply pw_below_drewN | apply below_drew1 | refine below_set ?_ GE232.out) | exact HB.out)⟩
            · rw [if_neg c12] at H
              have c12b0 : decide ((wrap64 ((wrap64 (Int.tdiv (wrap64 (a0_1 - a0_3)) a1)) * a1)) < (wrap64 (a0_1 - a0_3))) = false := decide_eq_false c12
              clear c12
              simp only [Option.some.injEq, Prod.mk.injEq] at H
              obtain ⟨rfl, rfl⟩ := H
              have hcz14_0 : wc.cell? ⟨gb232, 0, none⟩ = some (.int .i64 a0_0) := (blk_cell BK232.out 0).trans rfl
              have hcz14_1 : wc.cell? ⟨gb232, 1, none⟩ = some (.int .i64 a0_1) := (blk_cell BK232.out 1).trans rfl
              have hcz14_2 : wc.cell? ⟨gb232, 2, none⟩ = some (.int .i64 a0_2) := (blk_cell BK232.out 2).trans rfl
              have hcz14_3 : wc.cell? ⟨gb232, 3, none⟩ = some (.int .i64 a0_3) := (blk_cell BK232.out 3).trans rfl
              have hcz14_4 : wc.cell? ⟨gb232, 4, none⟩ = some (.bool false) := (blk_cell BK232.out 4).trans rfl
              have hfz14_0 := blk_frozen BK232.out 0
              have hfz14_1 := blk_frozen BK232.out 1
              have hfz14_2 := blk_frozen BK232.out 2
              have hfz14_3 := blk_frozen BK232.out 3
              have hfz14_4 := blk_frozen BK232.out 4
              go_wp2
              go_ret2
              exact ⟨by first | rfl | (simp [errW_none, errW_some] <;> rfl) | (simp [*, errW_none, errW_some] <;> rfl), by repeat (first | (with_reducible first | exact HB.out | apply below_alloc | apply pw_below_drewN | apply below_drew1 | refine below_set ?_ GE232.out) | exact HB.out)⟩

-- NOT PRINTED: function 4 (tricklelaw08_CapacitorMatchesModel)

end Go.Proofs.Ytifogngffmhmaaa.QAl
