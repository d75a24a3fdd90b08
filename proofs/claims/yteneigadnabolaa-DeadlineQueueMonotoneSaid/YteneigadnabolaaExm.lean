/- The examples of the document hold. -/
import Derived.Test.YteneigadnabolaaFeA
namespace Go.Proofs.Yteneigadnabolaa.QAl
open Go.RowKit Go.Proofs.YteneigadnabolaaW.PrintWords Go.Proofs.YteneigadnabolaaW.PrintLast Go.Proofs.YteneigadnabolaaW.PrintMore Go.Proofs.Yteneigadnabolaa.Sl
set_option linter.unusedVariables false
set_option linter.unusedSimpArgs false
variable {L : List Chunk}
def exl : List Dq.It := [(5, 30), (9, 10), (7, 10), (5, 0)]
def exc : Array Value := #[.int .i64 5, .int .i64 30, .int .i64 9, .int .i64 10, .int .i64 7, .int .i64 10, .int .i64 5, .int .i64 0]
theorem exc_at : ∀ j, j < 4 → exc[j * 2]? = some (.int .i64 (exl.getD j (0, 0)).1) ∧ exc[j * 2 + 1]? = some (.int .i64 (exl.getD j (0, 0)).2)
  | 0, _ => ⟨rfl, rfl⟩
  | 1, _ => ⟨rfl, rfl⟩
  | 2, _ => ⟨rfl, rfl⟩
  | 3, _ => ⟨rfl, rfl⟩
  | _ + 4, h => by omega
theorem lit_C {w : World} {g : Nat} {l : List S30} (hb : w.heap[g]? = some (.cells (flat l).toArray 30 (0, 0))) (hl : l.length ≤ 1000) : k30.C w (some ⟨g, 0, none⟩) l.length l := by
  have hq : QRow w 0 30 2 (.slice (some ⟨g, 0 * 2, none⟩) l.length l.length) l.length (flat l) :=
    ⟨flat_length l, .inr ⟨g, 0, l.length, _, rfl, Nat.zero_le _, hb, Nat.le_refl _, by simp only [maxLen]; omega, by rw [List.size_toArray, flat_length, Nat.zero_add], by rw [Nat.zero_mul, List.drop_zero]; exact List.take_of_length_le (by rw [flat_length]; exact Nat.le_refl _)⟩⟩
  exact (Kd.Q_reads' (flat_q (ok := fun _ => True) (fun _ _ => trivial) hq)).2.2
def ExL (W : World) (gq gl : Nat) (v25 : Value) (wr : World) : Prop :=
  ∃ j : Nat, j ≤ 4 ∧ v25 = .int .i64 (j : Int) ∧ ∃ v, Mem W wr (que W gq v ((queue (exl.take j)).map un) [blk gl exc 30])
set_option maxRecDepth 100000 in
set_option maxHeartbeats 4000000 in
theorem examples_call (W : World) : Calls Try.prog 11 #[] W fun e w' => e = .returned (.bool true) ∧ Below W.heap.size W w' := by
  go_enter Try.func11, Try.ntmps11
  go_wp2_with (refine (New_call (Mem.start W)).mono ?_; rintro e w1 ⟨gq, rfl, h1⟩; have HM1 := Aside0.mk h1; clear h1)
  obtain ⟨gl, hgl⟩ : ∃ gl, w1.heap.size = gl := ⟨_, rfl⟩
  have HM2 := Aside0.mk ((HM1.out.new_ (g := gl) (.cells exc 30) hgl).q2)
  rw [hgl]
  clear HM1 hgl
  go_loopw [25] (fun v25 wr => ExL W gq gl v25 wr) (fun v25 _ => 4 - (intOf v25).toNat)
  case atStart => exact ⟨0, Nat.zero_le _, rfl, _, HM2.out⟩
  case round =>
    obtain ⟨j, hj, rfl, v, hM⟩ := hrel
    clear HM2
    by_cases hlt : j < 4
    · obtain ⟨xi, xd, hx⟩ : ∃ xi xd, exl.getD j (0, 0) = (xi, xd) := ⟨_, _, rfl⟩
      obtain ⟨e0, e1⟩ := exc_at j hlt
      rw [hx] at e0 e1
      have x0 : wr.cell? ⟨gl, j * 2, none⟩ = some (.int .i64 xi) := (blk_cell hM.p2.get _).trans e0
      have x1 : wr.cell? ⟨gl, j * 2 + 1, none⟩ = some (.int .i64 xd) := (blk_cell hM.p2.get _).trans e1
      have hgw : gl < wr.heap.size := hM.p2.lt
      have hq : Aside0 (queue (exl.take (j + 1)) = Dq.push (queue (exl.take j)) (xi, xd)) := ⟨by
        have hjl : j < exl.length := hlt
        rw [queue_take exl j hjl, ← hx, List.getD_eq_getElem?_getD, List.getElem?_eq_getElem hjl]
        rfl⟩
      have HMb := Aside0.mk (hM.new (.cells #[.int .i64 xi, .int .i64 xd] 30))
      have HQ := Aside0.mk (queue_ok (exl.take j)).1
      have hql := map_take_un exl j
      have hql4 : (queue (exl.take j)).length ≤ 4 := hql
      clear hM e0 e1 hx hql
      go_wp2_with fail
      refine (Push_call ⟨xi, xd⟩ HMb.out.q2 (by omega) HQ.out).mono ?_
      rintro e w3 ⟨v3, rfl, hM3⟩
      have HM3 := Aside0.mk hM3.p2.drop
      clear hM3
      go_wp2_with fail
      go_roundw
      case rel => exact ⟨j + 1, by omega, by first | go_num | (congr 1), v3, by rw [hq.out]; exact HM3.out⟩
      case measure => simp [intOf]; omega
    · obtain rfl : j = 4 := by omega
      have hq : queue (exl.take 4) = [(5, 0), (7, 10), (9, 10)] := by decide
      rw [hq] at hM
      have HM := Aside0.mk hM
      clear hM hlt hq
      go_wp2_with fail
      refine (Pop_call HM.out).mono ?_
      rintro e w2 ⟨v2, rfl, hM2⟩
      obtain ⟨b4, hb4⟩ : ∃ b4, w2.heap.size = b4 := ⟨_, rfl⟩
      have HM2 := Aside0.mk (hM2.new_ (.cells #[.int .i64 5, .int .i64 0] 30) hb4).q2
      have hp : pk ([(5, 0), (7, 10), (9, 10)].map un) = .tuple #[.agg #[.int .i64 5, .int .i64 0], .bool true] := rfl
      rw [hp]
      have HB4 := Aside0.mk hb4
      clear hM2 hp hb4
      go_wp2_with fail
      rw [HB4.out]
      refine (Pop_call HM2.out).mono ?_
      rintro e w3 ⟨v3, rfl, hM3⟩
      obtain ⟨b6, hb6⟩ : ∃ b6, w3.heap.size = b6 := ⟨_, rfl⟩
      have HM3 := Aside0.mk (hM3.new_ (.cells #[.int .i64 7, .int .i64 10] 30) hb6).q2
      have hp : pk (([(5, 0), (7, 10), (9, 10)].map un).drop 1) = .tuple #[.agg #[.int .i64 7, .int .i64 10], .bool true] := rfl
      rw [hp]
      have HB6 := Aside0.mk hb6
      clear hM3 hp hb6
      go_wp2_with fail
      rw [HB6.out]
      refine (Pop_call HM3.out).mono ?_
      rintro e w4 ⟨v4, rfl, hM4⟩
      obtain ⟨b8, hb8⟩ : ∃ b8, w4.heap.size = b8 := ⟨_, rfl⟩
      have HM4 := Aside0.mk (hM4.new_ (.cells #[.int .i64 9, .int .i64 10] 30) hb8).q2
      have hp : pk ((([(5, 0), (7, 10), (9, 10)].map un).drop 1).drop 1) = .tuple #[.agg #[.int .i64 9, .int .i64 10], .bool true] := rfl
      rw [hp]
      have HB8 := Aside0.mk hb8
      clear hM4 hp hb8
      have hm5 := HM4.out.new_ (g := w4.heap.size + 1) (.cells #[.int .i64 1, .int .i64 10, .int .i64 2, .int .i64 12] 30) (by simp)
      have hmk := fun w => run_makeMap (P := Try.prog) 45 w
      have HM5 := Aside0.mk (hm5.map_new_ (g := w4.heap.size + 1 + 1) 3 (Elt.int (P := Try.prog) (e := 2) (q := .i64) Try.underlying2) 0 (by simp))
      clear hm5
      go_wp2_with (first
        | ((with_reducible refine gate_ (.insert 45 (.tmp 51) (.const (.int .i64 1)) (.const (.int .i64 6))) rfl ?_); refine HM5.out.wp_put rfl _ _ _ _ (.inr rfl) (Go.Maps.int_keyed Try.underlying3) Try.underlying45 Try.underlying3 (by omega) rfl 1 rfl (by decide) (6 : Int) rfl (by kernel_rfl) ?_; intro w6 hm6; have HM6 := Aside0.mk hm6; clear hm6)
        | ((with_reducible refine gate_ (.insert 45 (.tmp 51) (.const (.int .i64 2)) (.const (.int .i64 6))) rfl ?_); refine HM6.out.wp_put rfl _ _ _ _ (.inr rfl) (Go.Maps.int_keyed Try.underlying3) Try.underlying45 Try.underlying3 (by omega) rfl 2 rfl (by decide) (6 : Int) rfl (by kernel_rfl) ?_; intro w7 hm7; have HM7 := Aside0.mk hm7; clear hm7))
      clear hmk HM5 HM6
      rw [HB8.out] at HM7 ⊢
      generalize b8 + 1 + 1 = bm at HM7 ⊢
      generalize b8 + 1 = bl at HM7 ⊢
      have hC := Aside0.mk (lit_C (l := [(1, 10), (2, 12)].map un) HM7.out.p1.get (by decide))
      have hw : Aside0 (∀ x ∈ ([(1, 10), (2, 12)] : List Dq.It), (Lit.int .i64 x.1).wf = true) := ⟨by intro x hx; simp only [List.mem_cons, List.not_mem_nil, or_false] at hx; rcases hx with rfl | rfl <;> decide⟩
      have key := Aside0.mk (Feasible_call (c := 2) (l := [(1, 10), (2, 12)]) 0 HM7.out hC.out (by decide) hw.out)
      rw [show ([(1, 10), (2, 12)] : List Dq.It).length = 2 from rfl, show feas (fun j => if j = 2 then 6 else if j = 1 then 6 else 0) 0 [(1, 10), (2, 12)] = (0, 0) by decide] at key
      refine (key.out).mono ?_
      rintro e w8 ⟨rfl, hb8⟩
      have HM8 := Aside0.mk (HM7.out.step hb8)
      have hC2 := Aside0.mk (Kd.C_below hC.out hb8)
      clear hb8 key
      go_wp2_with fail
      have key := Aside0.mk (Feasible_call (c := 2) (l := [(1, 10), (2, 12)]) 1 HM8.out hC2.out (by decide) hw.out)
      rw [show ([(1, 10), (2, 12)] : List Dq.It).length = 2 from rfl, show feas (fun j => if j = 2 then 6 else if j = 1 then 6 else 0) 1 [(1, 10), (2, 12)] = (2, 14) by decide] at key
      refine (key.out).mono ?_
      rintro e w9 ⟨rfl, hb9⟩
      have HM9 := Aside0.mk (HM8.out.step hb9)
      clear hb9 key
      have HQ9 := Aside0.mk (HM9.out.p3.q3.drop.drop)
      have c8 : w9.cell? ⟨b8, 0, none⟩ = some (.int .i64 9) := blk_cell HM9.out.drop.drop.drop.drop.get 0
      have c6 : w9.cell? ⟨b6, 0, none⟩ = some (.int .i64 7) := blk_cell HM9.out.drop.drop.drop.drop.drop.get 0
      have c4 : w9.cell? ⟨b4, 0, none⟩ = some (.int .i64 5) := blk_cell HM9.out.drop.drop.drop.drop.drop.drop.get 0
      have HB9 := Aside0.mk HM9.out.below
      have keyL := Aside0.mk (Len_call (l := []) HQ9.out)
      clear HM9 HM8 HM7
      go_wp2_with fail
      refine keyL.out.mono ?_
      rintro e w10 ⟨rfl, rfl⟩
      go_wp2_with fail
      go_ret
      exact ⟨rfl, HB9.out⟩
end Go.Proofs.Yteneigadnabolaa.QAl
