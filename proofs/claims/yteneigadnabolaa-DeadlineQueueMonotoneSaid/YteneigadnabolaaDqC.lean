/- Remove's closure and slices.IndexFunc over items, by hand. -/
import Derived.Test.YteneigadnabolaaDqB
namespace Go.Proofs.Yteneigadnabolaa.QAl
open Go.RowKit Go.Proofs.YteneigadnabolaaW.PrintWords Go.Proofs.YteneigadnabolaaW.PrintLast Go.Proofs.YteneigadnabolaaW.PrintMore Go.Proofs.Yteneigadnabolaa.Sl
set_option linter.unusedVariables false
set_option linter.unusedSimpArgs false
theorem Has_call {W : World} {gi : Nat} {id : Int} (y : S30) (hi : W.cell? ⟨gi, 0, none⟩ = some (.int .i64 id)) :
    Calls Try.prog 36 #[.agg #[.int .i64 y.f0, .int .i64 y.f1], .pointer (some ⟨gi, 0, none⟩)] W fun e w' => e = .returned (.bool (y.f0 == id)) ∧ Below W.heap.size W w' := by
  have hM := (Mem.start W).new (.cells #[.int .i64 y.f0, .int .i64 y.f1] 30)
  have x0 := Kd.cell_heap hM.below.block hi
  have g0 := blk_cell hM.get 0
  have HM := Aside0.mk hM
  clear hM hi
  go_enter Try.func36, Try.ntmps36
  go_wp2_with fail
  go_ret
  exact ⟨rfl, HM.out.below⟩
def IxRel (w : World) (l : List S30) (id : Int) (v8 : Value) (wr : World) : Prop :=
  ∃ k : Nat, k ≤ l.length ∧ v8 = .int .i64 (k : Int) ∧ (∀ j, j < k → (l.getD j z30).f0 ≠ id) ∧ Below w.heap.size w wr
set_option maxRecDepth 100000 in
set_option maxHeartbeats 4000000 in
theorem Index_call {w : World} {A : Option Addr} {c : Nat} {l : List S30} {gi : Nat} {id : Int} (hC : k30.C w A l.length l) (hl : l.length ≤ 1000) (hi : w.cell? ⟨gi, 0, none⟩ = some (.int .i64 id)) :
    Calls Try.prog 35 #[.slice A l.length c, .func (.func 36) #[] #[.pointer (some ⟨gi, 0, none⟩)]] w fun e w' => ∃ r : Int, e = .returned (.int .i64 r) ∧ ((r = -1 ∧ ∀ j, j < l.length → (l.getD j z30).f0 ≠ id) ∨ ∃ k : Nat, r = (k : Int) ∧ k < l.length ∧ (l.getD k z30).f0 = id ∧ ∀ j, j < k → (l.getD j z30).f0 ≠ id) ∧ Below w.heap.size w w' := by
  have HC := Aside0.mk hC
  have HI := Aside0.mk hi
  have HB0 := Aside0.mk (Below.refl w.heap.size w)
  clear hC hi
  go_enter Try.func35, Try.ntmps35
  go_wp2_with fail
  go_loopw [8, 5] (fun v8 v5 wr => IxRel w l id v8 wr) (fun i _ _ => l.length - (intOf i).toNat)
  case atStart => exact ⟨0, Nat.zero_le _, rfl, fun j h => absurd h (by omega), HB0.out⟩
  case round =>
    obtain ⟨k, hk, rfl, hno, hB⟩ := hrel
    have HN := Aside0.mk hno
    have HB := Aside0.mk hB
    clear hno
    by_cases hlt : k < l.length
    · obtain ⟨b, o, rfl, x0, x1⟩ := item_at (Kd.C_below HC.out hB) hlt
      obtain ⟨y, hy⟩ : ∃ y, l.getD k z30 = y := ⟨_, rfl⟩
      rw [hy] at x0 x1
      have HY := Aside0.mk hy
      clear hy hB
      go_wp2_with fail
      refine (Has_call y (Kd.cell_heap HB.out.block HI.out)).mono ?_
      rintro e w2 ⟨rfl, hb⟩
      have HB2 := Aside0.mk (below_step HB.out hb)
      clear hb
      by_cases he : y.f0 = id
      · have d1 : (y.f0 == id) = true := beq_iff_eq.2 he
        rw [d1]
        have HE := Aside0.mk he
        clear he d1
        go_wp2_with fail
        go_ret
        exact ⟨(k : Int), rfl, .inr ⟨k, rfl, by omega, by rw [HY.out]; exact HE.out, HN.out⟩, HB2.out⟩
      · have d1 : (y.f0 == id) = false := beq_eq_false_iff_ne.2 he
        rw [d1]
        have HE := Aside0.mk he
        clear he d1
        go_wp2_with fail
        go_roundw
        case rel => exact ⟨k + 1, by omega, by first | go_num | (congr 1), fun j hj => by
          by_cases e : j = k
          · rw [e, HY.out]; exact HE.out
          · exact HN.out j (by omega), HB2.out⟩
        case measure => simp [intOf]; omega
    · obtain rfl : k = l.length := by omega
      clear hB hlt
      go_wp2_with fail
      go_ret
      exact ⟨-1, rfl, .inl ⟨rfl, HN.out⟩, HB.out⟩
end Go.Proofs.Yteneigadnabolaa.QAl
