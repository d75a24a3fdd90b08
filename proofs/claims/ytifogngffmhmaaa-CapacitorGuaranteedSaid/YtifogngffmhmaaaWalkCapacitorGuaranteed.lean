/- CapacitorGuaranteed at a configuration that New refuses: the walk. -/
import Derived.Test.YtifogngffmhmaaaPureCapacitorGuaranteed
namespace Go.Proofs.Ytifogngffmhmaaa.QAl
open Go.RowKit Go.Proofs.YtifogngffmhmaaaW.PrintWords Go.Proofs.YtifogngffmhmaaaW.PrintLast Go.Proofs.YtifogngffmhmaaaW.PrintMore
set_option linter.unusedVariables false
set_option linter.unusedSimpArgs false
theorem valid_no {c on off : Int} (h : ¬ CapOk c on off) : trickleref08_Valid.f c on off = some false := by
  rcases valid_some c on off with ⟨_, h1⟩ | ⟨h1, _⟩
  · exact absurd h1 h
  · exact h1
theorem config_no {c on off : Int} (h : ¬ CapOk c on off) : capacitor_Guaranteed.f c on off = some 0 := by
  unfold capacitor_Guaranteed.f
  have e : capacitor_Config_valid.f c on off = some false := valid_no h
  rw [e, Option.bind_some, if_neg (by decide)]
set_option maxHeartbeats 8000000 in
set_option maxRecDepth 100000 in
theorem guaranteed_bad (c on off p : Int) (A0 : Option Addr) (c0 : Nat) (l : List Int) (w : World) (hV : ¬ CapOk c on off) :
    Calls Try.prog 6 #[.agg #[.int .i64 c, .int .i64 on, .int .i64 off], .int .u16 p, .slice A0 l.length c0] w fun e w' => e = .returned (.bool true) ∧ Below w.heap.size w w' := by
  have hu23 := Try.underlying23
  have HV := Aside0.mk hV
  clear hV
  have HB : Aside0 (Below w.heap.size w (w.alloc (.cells #[.int .i64 c, .int .i64 on, .int .i64 off] 23))) := ⟨below_alloc (Below.refl _ _) _⟩
  have BK : Aside0 ((w.alloc (.cells #[.int .i64 c, .int .i64 on, .int .i64 off] 23)).heap[w.heap.size]? = some (.cells #[.int .i64 c, .int .i64 on, .int .i64 off] 23 (0, 0))) := ⟨blk_new _ _⟩
  go_enter Try.func6, Try.ntmps6
  go_wp2_with fail
  refine (tricklelaw08_awake.calls 1 true _ cap_awake1).mono ?_
  rintro e w1 ⟨rfl, hb⟩
  have HB' := Aside0.mk (below_step HB.out hb)
  have BK' := Aside0.mk (blk_below BK.out hb)
  clear HB BK hb
  have HB := HB'
  have BK := BK'
  clear HB' BK'
  have hz0 : w1.cell? ⟨w.heap.size, 0, none⟩ = some (.int .i64 c) := (blk_cell BK.out 0).trans rfl
  have hz1 : w1.cell? ⟨w.heap.size, 1, none⟩ = some (.int .i64 on) := (blk_cell BK.out 1).trans rfl
  have hz2 : w1.cell? ⟨w.heap.size, 2, none⟩ = some (.int .i64 off) := (blk_cell BK.out 2).trans rfl
  go_wp2_with fail
  refine (tricklelaw08_config.calls c on off c on off _ (config_f c on off)).mono ?_
  rintro e w2 ⟨rfl, hb⟩
  have HB' := Aside0.mk (below_step HB.out hb)
  have BK' := Aside0.mk (blk_below BK.out hb)
  clear HB BK hb hz0 hz1 hz2
  have HB := HB'
  have BK := BK'
  clear HB' BK'
  have hz0 : w2.cell? ⟨w.heap.size, 0, none⟩ = some (.int .i64 c) := (blk_cell BK.out 0).trans rfl
  have hz1 : w2.cell? ⟨w.heap.size, 1, none⟩ = some (.int .i64 on) := (blk_cell BK.out 1).trans rfl
  have hz2 : w2.cell? ⟨w.heap.size, 2, none⟩ = some (.int .i64 off) := (blk_cell BK.out 2).trans rfl
  go_wp2_with fail
  refine (capacitor_New.bad c on off _ HV.out).mono ?_
  rintro e w3 ⟨rfl, hb⟩
  have HB' := Aside0.mk (below_step HB.out hb)
  have BK' := Aside0.mk (blk_below BK.out hb)
  clear HB BK hb hz0 hz1 hz2
  have HB := HB'
  have BK := BK'
  clear HB' BK'
  have hz0 : w3.cell? ⟨w.heap.size, 0, none⟩ = some (.int .i64 c) := (blk_cell BK.out 0).trans rfl
  have hz1 : w3.cell? ⟨w.heap.size, 1, none⟩ = some (.int .i64 on) := (blk_cell BK.out 1).trans rfl
  have hz2 : w3.cell? ⟨w.heap.size, 2, none⟩ = some (.int .i64 off) := (blk_cell BK.out 2).trans rfl
  go_wp2_with fail
  refine (trickleref08_Valid.calls c on off false _ (valid_no HV.out)).mono ?_
  rintro e w4 ⟨rfl, hb⟩
  have HB' := Aside0.mk (below_step HB.out hb)
  have BK' := Aside0.mk (blk_below BK.out hb)
  clear HB BK hb hz0 hz1 hz2
  have HB := HB'
  have BK := BK'
  clear HB' BK'
  have hz0 : w4.cell? ⟨w.heap.size, 0, none⟩ = some (.int .i64 c) := (blk_cell BK.out 0).trans rfl
  have hz1 : w4.cell? ⟨w.heap.size, 1, none⟩ = some (.int .i64 on) := (blk_cell BK.out 1).trans rfl
  have hz2 : w4.cell? ⟨w.heap.size, 2, none⟩ = some (.int .i64 off) := (blk_cell BK.out 2).trans rfl
  go_wp2_with fail
  refine (tricklelaw08_config.calls c on off c on off _ (config_f c on off)).mono ?_
  rintro e w5 ⟨rfl, hb⟩
  have HB' := Aside0.mk (below_step HB.out hb)
  have BK' := Aside0.mk (blk_below BK.out hb)
  clear HB BK hb hz0 hz1 hz2
  have HB := HB'
  have BK := BK'
  clear HB' BK'
  have hz0 : w5.cell? ⟨w.heap.size, 0, none⟩ = some (.int .i64 c) := (blk_cell BK.out 0).trans rfl
  have hz1 : w5.cell? ⟨w.heap.size, 1, none⟩ = some (.int .i64 on) := (blk_cell BK.out 1).trans rfl
  have hz2 : w5.cell? ⟨w.heap.size, 2, none⟩ = some (.int .i64 off) := (blk_cell BK.out 2).trans rfl
  go_wp2_with fail
  refine (capacitor_Guaranteed.calls c on off 0 _ (config_no HV.out)).mono ?_
  rintro e w6 ⟨rfl, hb⟩
  have HB' := Aside0.mk (below_step HB.out hb)
  have BK' := Aside0.mk (blk_below BK.out hb)
  clear HB BK hb hz0 hz1 hz2
  have HB := HB'
  have BK := BK'
  clear HB' BK'
  have hz0 : w6.cell? ⟨w.heap.size, 0, none⟩ = some (.int .i64 c) := (blk_cell BK.out 0).trans rfl
  have hz1 : w6.cell? ⟨w.heap.size, 1, none⟩ = some (.int .i64 on) := (blk_cell BK.out 1).trans rfl
  have hz2 : w6.cell? ⟨w.heap.size, 2, none⟩ = some (.int .i64 off) := (blk_cell BK.out 2).trans rfl
  go_wp2
  go_ret
  exact ⟨rfl, HB.out⟩

theorem guaranteed_law (c on off p : Int) (A0 : Option Addr) (c0 : Nat) (l : List Int) (w : World) (hr0 : Kd.C (Kd.int .u16) w A0 l.length l) (hc0 : l.length ≤ c0) (hp0 : 0 ≤ p) (hp1 : p ≤ 65535) (hb : ∀ x ∈ l, 0 ≤ x ∧ x ≤ 65535) :
    Calls Try.prog 6 #[.agg #[.int .i64 c, .int .i64 on, .int .i64 off], .int .u16 p, .slice A0 l.length c0] w fun e w' => e = .returned (.bool true) ∧ Below w.heap.size w w' := by
  by_cases hV : CapOk c on off
  · obtain ⟨k, hk⟩ := CapacitorGuaranteed c on off p l hV hp0 hp1 hb
    exact tricklelaw08_CapacitorGuaranteed.calls k c on off p A0 c0 l true w hr0 hc0 hk
  · exact guaranteed_bad c on off p A0 c0 l w hV
theorem guaranteed_row {G : Prop} (c on off p : Int) (A0 : Option Addr) (c0 : Nat) (l : List Int) (w : World) (hr0 : Kd.C (Kd.int .u16) w A0 l.length l) (hc0 : l.length ≤ c0) (g0 : G) (g1 : (Lit.int .u16 p).wf = true) (g2 : l.length * Try.prog.bytesOf 49 ≤ reachBytes ∧ l.length ≤ maxLen ∧ ∀ x ∈ l, (Lit.int .u16 x).wf = true) :
    Calls Try.prog 6 #[.agg #[.int .i64 c, .int .i64 on, .int .i64 off], .int .u16 p, .slice A0 l.length c0] w fun e w' => e = .returned (.bool true) ∧ Below w.heap.size w w' :=
  guaranteed_law c on off p A0 c0 l w hr0 hc0 (lit_u16 g1).1 (lit_u16 g1).2 (fun x hx => lit_u16 (g2.2.2 x hx))
end Go.Proofs.Ytifogngffmhmaaa.QAl
