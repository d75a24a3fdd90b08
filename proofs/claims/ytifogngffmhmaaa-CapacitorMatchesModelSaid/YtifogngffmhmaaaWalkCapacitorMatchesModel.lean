/- CapacitorMatchesModel: the law's walk, at a configuration that New refuses too. -/
import Derived.Test.YtifogngffmhmaaaPureCapacitorMatchesModel
import Derived.Test.YtifogngffmhmaaaMmB
namespace Go.Proofs.Ytifogngffmhmaaa.QAl
open Go.RowKit Go.Proofs.YtifogngffmhmaaaW.PrintWords Go.Proofs.YtifogngffmhmaaaW.PrintLast Go.Proofs.YtifogngffmhmaaaW.PrintMore
set_option linter.unusedVariables false
set_option linter.unusedSimpArgs false
theorem mm_valid_no {c on off : Int} (h : ¬ CapOk c on off) : trickleref08_Valid.f c on off = some false := by
  rcases valid_some c on off with ⟨_, h1⟩ | ⟨h1, _⟩
  · exact absurd h1 h
  · exact h1
set_option maxHeartbeats 8000000 in
set_option maxRecDepth 100000 in
theorem matches_bad (c on off p : Int) (A0 : Option Addr) (c0 : Nat) (l : List S34) (w : World) (hV : ¬ CapOk c on off) :
    Calls Try.prog 4 #[.agg #[.int .i64 c, .int .i64 on, .int .i64 off], .slice A0 l.length c0, .int .i64 p] w fun e w' => e = .returned (.bool true) ∧ Below w.heap.size w w' := by
  have hu23 := Try.underlying23
  have HV := Aside0.mk hV
  clear hV
  have HB : Aside0 (Below w.heap.size w (w.alloc (.cells #[.int .i64 c, .int .i64 on, .int .i64 off] 23))) := ⟨below_alloc (Below.refl _ _) _⟩
  have BK : Aside0 ((w.alloc (.cells #[.int .i64 c, .int .i64 on, .int .i64 off] 23)).heap[w.heap.size]? = some (.cells #[.int .i64 c, .int .i64 on, .int .i64 off] 23 (0, 0))) := ⟨blk_new _ _⟩
  by_cases cl : (60 : Int) < (l.length : Int)
  · have cb : decide ((60 : Int) < (l.length : Int)) = true := decide_eq_true cl
    have cb' : decide (60 < l.length) = true := decide_eq_true (by omega)
    go_enter Try.func4, Try.ntmps4
    go_wp2_with fail
    all_goals try (exfalso; omega)
    refine (tricklelaw08_awake.calls 1 true _ cap_awake1).mono ?_
    rintro e w1 ⟨rfl, hb⟩
    have HB' := Aside0.mk (below_step HB.out hb)
    have BK' := Aside0.mk (blk_below BK.out hb)
    clear HB BK hb
    have HB := HB'
    have BK := BK'
    clear HB' BK'
    have hz0 : w1.cell? ⟨w.heap.size, 0, none⟩ = some (.int .i64 c) := (blk_cell BK.out 0).trans rfl
    have hz1 : w1.cell? ⟨w.heap.size, 1, none⟩ = some (.int .i64 on) := (blk_cell BK.out 1).trans rfl
    have hz2 : w1.cell? ⟨w.heap.size, 2, none⟩ = some (.int .i64 off) := (blk_cell BK.out 2).trans rfl
    go_wp2
    all_goals try (exfalso; omega)
    go_ret
    exact ⟨rfl, HB.out⟩
  · have cb : decide ((60 : Int) < (l.length : Int)) = false := decide_eq_false cl
    have cb' : decide (60 < l.length) = false := decide_eq_false (by omega)
    go_enter Try.func4, Try.ntmps4
    go_wp2_with fail
    all_goals try (exfalso; omega)
    refine (tricklelaw08_awake.calls 1 true _ cap_awake1).mono ?_
    rintro e w1 ⟨rfl, hb⟩
    have HB' := Aside0.mk (below_step HB.out hb)
    have BK' := Aside0.mk (blk_below BK.out hb)
    clear HB BK hb
    have HB := HB'
    have BK := BK'
    clear HB' BK'
    have hz0 : w1.cell? ⟨w.heap.size, 0, none⟩ = some (.int .i64 c) := (blk_cell BK.out 0).trans rfl
    have hz1 : w1.cell? ⟨w.heap.size, 1, none⟩ = some (.int .i64 on) := (blk_cell BK.out 1).trans rfl
    have hz2 : w1.cell? ⟨w.heap.size, 2, none⟩ = some (.int .i64 off) := (blk_cell BK.out 2).trans rfl
    go_wp2_with fail
    all_goals try (exfalso; omega)
    refine (tricklelaw08_config.calls c on off c on off _ (config_f c on off)).mono ?_
    rintro e w2 ⟨rfl, hb⟩
    have HB' := Aside0.mk (below_step HB.out hb)
    have BK' := Aside0.mk (blk_below BK.out hb)
    clear HB BK hb hz0 hz1 hz2
    have HB := HB'
    have BK := BK'
    clear HB' BK'
    have hz0 : w2.cell? ⟨w.heap.size, 0, none⟩ = some (.int .i64 c) := (blk_cell BK.out 0).trans rfl
    have hz1 : w2.cell? ⟨w.heap.size, 1, none⟩ = some (.int .i64 on) := (blk_cell BK.out 1).trans rfl
    have hz2 : w2.cell? ⟨w.heap.size, 2, none⟩ = some (.int .i64 off) := (blk_cell BK.out 2).trans rfl
    go_wp2_with fail
    all_goals try (exfalso; omega)
    refine (capacitor_New.bad c on off _ HV.out).mono ?_
    rintro e w3 ⟨rfl, hb⟩
    have HB' := Aside0.mk (below_step HB.out hb)
    have BK' := Aside0.mk (blk_below BK.out hb)
    clear HB BK hb hz0 hz1 hz2
    have HB := HB'
    have BK := BK'
    clear HB' BK'
    have hz0 : w3.cell? ⟨w.heap.size, 0, none⟩ = some (.int .i64 c) := (blk_cell BK.out 0).trans rfl
    have hz1 : w3.cell? ⟨w.heap.size, 1, none⟩ = some (.int .i64 on) := (blk_cell BK.out 1).trans rfl
    have hz2 : w3.cell? ⟨w.heap.size, 2, none⟩ = some (.int .i64 off) := (blk_cell BK.out 2).trans rfl
    go_wp2_with fail
    all_goals try (exfalso; omega)
    refine (trickleref08_Valid.calls c on off false _ (mm_valid_no HV.out)).mono ?_
    rintro e w4 ⟨rfl, hb⟩
    have HB' := Aside0.mk (below_step HB.out hb)
    have BK' := Aside0.mk (blk_below BK.out hb)
    clear HB BK hb hz0 hz1 hz2
    have HB := HB'
    have BK := BK'
    clear HB' BK'
    have hz0 : w4.cell? ⟨w.heap.size, 0, none⟩ = some (.int .i64 c) := (blk_cell BK.out 0).trans rfl
    have hz1 : w4.cell? ⟨w.heap.size, 1, none⟩ = some (.int .i64 on) := (blk_cell BK.out 1).trans rfl
    have hz2 : w4.cell? ⟨w.heap.size, 2, none⟩ = some (.int .i64 off) := (blk_cell BK.out 2).trans rfl
    go_wp2
    go_ret
    exact ⟨rfl, HB.out⟩

theorem matches_row {G G2 : Prop} (c on off : Int) (A0 : Option Addr) (c0 : Nat) (l : List S34) (p : Int) (w : World) (hr0 : Kd.C k34 w A0 l.length l) (hc0 : l.length ≤ c0) (g0 : G) (g1 : l.length * Try.prog.bytesOf 34 ≤ reachBytes ∧ l.length ≤ maxLen ∧ ∀ x ∈ l, True ∧ (Lit.int .i64 x.f1).wf = true ∧ (Lit.int .i64 x.f2).wf = true) (g2 : G2) :
    Calls Try.prog 4 #[.agg #[.int .i64 c, .int .i64 on, .int .i64 off], .slice A0 l.length c0, .int .i64 p] w fun e w' => e = .returned (.bool true) ∧ Below w.heap.size w w' := by
  by_cases hV : CapOk c on off
  · obtain ⟨k, hk⟩ := CapacitorMatchesModel c on off p l hV (fun x hx => (lit_i64 (g1.2.2 x hx).2.1).2)
    exact mm.calls k c on off A0 c0 l p true w hr0 hc0 hk
  · exact matches_bad c on off p A0 c0 l w hV
end Go.Proofs.Ytifogngffmhmaaa.QAl
