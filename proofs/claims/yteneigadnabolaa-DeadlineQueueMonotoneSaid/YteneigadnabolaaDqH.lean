/- slices.Insert of one item, over a queue's row: in the middle, in place; all roads joined. -/
import Derived.Test.YteneigadnabolaaDqG
namespace Go.Proofs.Yteneigadnabolaa.QAl
open Go.RowKit Go.Proofs.YteneigadnabolaaW.PrintWords Go.Proofs.YteneigadnabolaaW.PrintLast Go.Proofs.YteneigadnabolaaW.PrintMore Go.Proofs.Yteneigadnabolaa.Sl
set_option linter.unusedVariables false
set_option linter.unusedSimpArgs false
variable {L : List Chunk}
set_option maxRecDepth 100000 in
set_option maxHeartbeats 4000000 in
theorem Insert_shift {w0 W : World} {A : Option Addr} {n c gv : Nat} {x : S30} {l : List S30} (hM : Mem w0 W (qrow w0 k30 30 (.slice A n c) l :: blk gv #[.int .i64 x.f0, .int .i64 x.f1] 30 :: L)) (hl : l.length ≤ 1000) (k : Nat) (hk : k < l.length) (hc : l.length + 1 ≤ c) :
    Calls Try.prog 30 #[.slice A n c, .int .i64 (k : Int), .slice (some ⟨gv, 0, none⟩) 1 1] W fun e w' => ∃ v', e = .returned v' ∧ Mem w0 w' (qrow w0 k30 30 v' (l.take k ++ x :: l.drop k) :: blk gv #[.int .i64 x.f0, .int .i64 x.f1] 30 :: L) := by
  have hb := hM.below
  have hv := hM.p1.get
  have hne : some gv ≠ (Value.slice A n c).ownBlock := by
    obtain ⟨_, T, hr, _, U, hU, h4, _⟩ := hM
    obtain ⟨h0, _⟩ := q_flat (show k30.Q 30 W w0.heap.size T (.slice A n c) l from hr)
    exact fun e => (h4 gv hU.1).1.2 (h0 gv e.symm)
  obtain ⟨T, hr, h2, h3⟩ := hM.front
  obtain ⟨h0, hq⟩ := q_flat (show k30.Q 30 W w0.heap.size T (.slice A n c) l from hr)
  obtain ⟨g, off, cur, rfl, rfl, hbg, hg, hnc, hcm, hcs, hf⟩ := q_blk hq (by omega)
  have hgv : gv ≠ g := fun e => hne (by simp [Value.ownBlock, e])
  generalize hn : l.length = n at *
  generalize ho : off * 2 = o at *
  obtain ⟨i0, hi0, hzz⟩ := Option.map_eq_some_iff.1 info30
  simp only [Prod.mk.injEq] at hzz
  have hgW := blk_lt hg
  have hvW := blk_lt hv
  have hone : ∀ u ∈ [Value.int .i64 x.f0, Value.int .i64 x.f1], u.oneCell' = true := by
    intro u hu; simp only [List.mem_cons, List.not_mem_nil, or_false] at hu; rcases hu with rfl | rfl <;> rfl
  have hinf : (Try.prog.info? 30).map (·.size) = some 2 := by rw [hi0, Option.map_some, hzz.2.1]
  have hdl : (flat (l.drop k)).length = (n - k) * 2 := by rw [flat_length, List.length_drop, hn]
  have hov : ∀ lb cb, (callFunc 41 #[.slice (some ⟨gv, 0, none⟩) 1 1, .slice (some ⟨g, o + (k + 1) * 2, none⟩) lb cb]).run Try.prog W = .ok (.value (.bool false)) W := fun lb cb => by
    rw [run_callFunc_extern Try.func41 (by kernel_rfl) (by kernel_rfl) (by kernel_rfl) (e := Extern.SlicesOverlaps.overlaps #[38, 38] #[4]) (by kernel_rfl),
      Lib.run_overlaps_apart W 38 4 30 Try.underlying38 2 (fun w => by simp only [sizeOf, typeInfo]; simp [hi0, hzz.2.1]) ⟨gv, 0, none⟩ ⟨g, o + (k + 1) * 2, none⟩ 1 1 lb cb hgv 30 30 2 ((off + c) * 2) (by simp [World.shape?, hv]) (by simp [World.shape?, hg, hcs]) (by omega) (blk_frozen hv _) (blk_frozen hv _)]
    rfl
  have hcp1 : (Builtin.copy_ #[38, 38] 3 #[.slice (some ⟨g, o + (k + 1) * 2, none⟩) (n - k) (c - (k + 1)), .slice (some ⟨g, o + k * 2, none⟩) (n + 1 - k) (c - k)]).run Try.prog W.drew = .ok (goInt (n - k : Nat)) (W.drew.setCells g (o + (k + 1) * 2) (flat (l.drop k))) :=
    run_copy_sz W.drew 38 38 3 30 g (o + (k + 1) * 2) (n - k) _ ⟨g, o + k * 2, none⟩ (n + 1 - k) _ 2 (n - k) (flat (l.drop k)) Try.underlying38 hinf (by simp only [Nat.min_def]; split <;> omega) hdl
      (fun j v hj => by
        rw [add_at]
        rw [← flat_drop l k (by omega), List.getElem?_drop] at hj
        have := cur_cell (w := W.drew) hg hf hj
        rw [Nat.add_assoc]
        exact this)
      (fun j hj => cur_some (w := W.drew) hg (by rw [hdl] at hj; rw [hcs]; omega)) (fun j hj => blk_frozen (w := W.drew) hg _) (flat_one _)
  obtain ⟨cur1, hg1, hs1, ht1⟩ := setCells_row (flat (l.drop k)) (o + (k + 1) * 2) W.drew cur hg (by rw [hdl, hcs]; omega)
  have hv1 : (W.drew.setCells g (o + (k + 1) * 2) (flat (l.drop k))).heap[gv]? = some (.cells #[.int .i64 x.f0, .int .i64 x.f1] 30 (0, 0)) := (setCells_far _ _ _ hgv).trans hv
  have hcp2 : (Builtin.copy_ #[38, 38] 3 #[.slice (some ⟨g, o + k * 2, none⟩) (n + 1 - k) (c - k), .slice (some ⟨gv, 0, none⟩) 1 1]).run Try.prog (W.drew.setCells g (o + (k + 1) * 2) (flat (l.drop k))) = .ok (goInt 1) ((W.drew.setCells g (o + (k + 1) * 2) (flat (l.drop k))).setCells g (o + k * 2) [.int .i64 x.f0, .int .i64 x.f1]) :=
    run_copy_sz _ 38 38 3 30 g (o + k * 2) (n + 1 - k) _ ⟨gv, 0, none⟩ 1 1 2 1 [.int .i64 x.f0, .int .i64 x.f1] Try.underlying38 hinf (by simp only [Nat.min_def]; split <;> omega) rfl
      (fun j v hj => by rw [add_plain, blk_cell hv1 j]; simpa using hj)
      (fun j hj => cur_some hg1 (by rw [hs1, hcs]; have : j < 2 := hj; omega)) (fun j hj => blk_frozen hg1 _) hone
  have b1 : IntKind.i64.wrap ((k : Int) + 1) = (k : Int) + 1 := by rw [IntKind.wrap_i64]; omega
  have b2 : (0 : Int) ≤ (k : Int) + 1 := by omega
  have b3 : (k : Int) ≤ (n : Int) := by omega
  have b4 : ((k : Int) + 1).toNat = k + 1 := by omega
  have b5 : k ≤ n := by omega
  have b6 : ¬ ((k : Int) = (n : Int)) := by omega
  have b7 : ¬ ((c : Int) < (n : Int) + 1) := by omega
  have b9 : ¬ (c = k + 1) := by omega
  have b10 : ¬ (c = k) := by omega
  have b11 : (k : Int) ≤ (n : Int) + 1 := by omega
  have b12 : k ≤ c := by omega
  have b13 : (k : Int) + 1 ≤ (n : Int) + 1 := by omega
  have b14 : (n : Int) + 1 ≤ (c : Int) := by omega
  have mixed : Try.prog.follows Departure.mixedOrders = true := by kernel_rfl
  have X2 := Aside0.mk hn
  have X3 := Aside0.mk ho
  have X5 := Aside0.mk hg1
  have X6 := Aside0.mk hs1
  have X7 := Aside0.mk ht1
  have X8 := Aside0.mk hcs
  have X9 := Aside0.mk hf
  have X10 := Aside0.mk hdl
  have C1 := Aside0.mk hcp1
  have C2 := Aside0.mk hcp2
  clear hn ho hg1 hs1 ht1 hdl hinf hone hcp1 hcp2 hzz hi0 hf hcs hq hr hM hv hv1 hg
  go_enter Try.func30, Try.ntmps30
  go_wp2_with (simp only [hov])
  have hcp1 := C1.out
  have hcp2 := C2.out
  clear hov
  go_region_law_o (fail)
  go_wp2_with fail
  go_ret
  refine ⟨_, rfl, ?_⟩
  have hcs := X8.out
  have ho := X3.out
  have hn := X2.out
  have hdl := X10.out
  have hl1 : cur.toList.length = (off + c) * 2 := by rw [Array.length_toList, hcs]
  obtain ⟨cur2, hg2, hs2, ht2⟩ := setCells_row [.int .i64 x.f0, .int .i64 x.f1] (o + k * 2) (W.drew.setCells g (o + (k + 1) * 2) (flat (l.drop k))) cur1 X5.out (by rw [X6.out, hcs]; simp; omega)
  obtain ⟨q1, q2, q3, q4⟩ := setCells_same g (flat (l.drop k)) (o + (k + 1) * 2) W.drew
  obtain ⟨r1, r2, r3, r4⟩ := setCells_same g [.int .i64 x.f0, .int .i64 x.f1] (o + k * 2) (W.drew.setCells g (o + (k + 1) * 2) (flat (l.drop k)))
  obtain ⟨WF, hWF⟩ : ∃ WF, ((W.drew.setCells g (o + (k + 1) * 2) (flat (l.drop k))).setCells g (o + k * 2) [.int .i64 x.f0, .int .i64 x.f1]) = WF := ⟨_, rfl⟩
  have hfar : ∀ i, i ≠ g → WF.heap[i]? = W.heap[i]? := fun i hi => by
    rw [← hWF, setCells_far _ _ _ hi]
    exact (setCells_far (w := W.drew) _ _ _ hi)
  rw [hWF] at hg2 r1 r2 r3 r4 ⊢
  have hsz : WF.heap.size = W.heap.size := by rw [r4]; exact q4
  have hbN := hb.size
  have hT : T g := h0 g (by simp [Value.ownBlock])
  refine h3 _ (qrow w0 k30 30 (.slice (some ⟨g, o, none⟩) (n + 1) c) (l.take k ++ x :: l.drop k)) ?_ ⟨by omega, fun i hi hT' => hfar i (fun e => hT' (e ▸ hT))⟩ ?_
  · exact ⟨by rw [r1]; exact q1.trans hb.os, by rw [r2]; exact q2.trans hb.tape, by rw [r3]; exact q3.trans hb.output, by omega, fun i hi => by rw [hfar i (by omega)]; exact hb.block i hi⟩
  · refine flat_q (fun j hj => .inl (h0 j (by simpa [Value.ownBlock] using hj))) ?_
    have hl' : (l.take k ++ x :: l.drop k).length = n + 1 := by rw [List.length_append, List.length_take, List.length_cons, List.length_drop, hn]; omega
    rw [hl']
    refine ⟨by rw [flat_length, hl'], .inr ⟨g, off, c, cur2, by rw [ho], by omega, hg2, hc, hcm, by rw [hs2, X6.out, hcs], ?_⟩⟩
    have hfl : (flat (l.take k)).length = k * 2 := by rw [flat_length, List.length_take]; omega
    have hfk : (cur.toList.drop o).take (k * 2) = flat (l.take k) := by
      rw [← flat_take l k (by omega), ← X9.out, List.take_take, Nat.min_eq_left (by omega)]
    have hpl : (cur.toList.take o).length = o := by rw [List.length_take, hl1]; omega
    have e1 : cur1.toList.take (o + k * 2) = cur.toList.take o ++ flat (l.take k) := by
      rw [X7.out, List.append_assoc, List.take_append_of_le_length (by rw [List.length_take, hl1]; omega), List.take_take, Nat.min_eq_left (by omega), List.take_add, hfk]
    have e2 : ∃ Y, cur1.toList.drop (o + k * 2 + [Value.int .i64 x.f0, Value.int .i64 x.f1].length) = flat (l.drop k) ++ Y := by
      refine ⟨cur.toList.drop (o + (k + 1) * 2 + (flat (l.drop k)).length), ?_⟩
      rw [X7.out, List.append_assoc]
      exact List.drop_left' (by rw [List.length_take, hl1]; simp; omega)
    obtain ⟨Y, e2⟩ := e2
    rw [ht2, e1, e2, ho, flat_append, flat_cons]
    rw [List.append_assoc, List.append_assoc, List.drop_left' hpl, ← List.append_assoc, ← List.append_assoc]
    rw [show flat (l.take k) ++ .int .i64 x.f0 :: .int .i64 x.f1 :: flat (l.drop k) = flat (l.take k) ++ [.int .i64 x.f0, .int .i64 x.f1] ++ flat (l.drop k) by rw [List.append_assoc]; rfl]
    exact List.take_left' (by rw [List.length_append, List.length_append, hfl, hdl]; simp; omega)
/-- slices.Insert of one item. -/
theorem Insert_call {w0 W : World} {A : Option Addr} {n c gv : Nat} {x : S30} {l : List S30} (hM : Mem w0 W (qrow w0 k30 30 (.slice A n c) l :: blk gv #[.int .i64 x.f0, .int .i64 x.f1] 30 :: L)) (hl : l.length ≤ 1000) (k : Nat) (hk : k ≤ l.length) :
    Calls Try.prog 30 #[.slice A n c, .int .i64 (k : Int), .slice (some ⟨gv, 0, none⟩) 1 1] W fun e w' => ∃ v', e = .returned v' ∧ Mem w0 w' (qrow w0 k30 30 v' (l.take k ++ x :: l.drop k) :: L) := by
  by_cases h1 : k = l.length
  · have hn : n = l.length := by
      obtain ⟨A', c', e, _, _⟩ := hM.q_reads
      injection e
    rw [h1, ← hn]
    refine (Insert_end hM hl).mono ?_
    rintro e w' ⟨v', rfl, h⟩
    refine ⟨v', rfl, ?_⟩
    rw [hn, List.take_length, List.drop_length]
    exact h.p1.drop
  · by_cases h2 : l.length + 1 ≤ c
    · refine (Insert_shift hM hl k (by omega) h2).mono ?_
      rintro e w' ⟨v', rfl, h⟩
      exact ⟨v', rfl, h.p1.drop⟩
    · refine (Insert_grow hM hl k (by omega) (by omega)).mono ?_
      rintro e w' ⟨v', rfl, h⟩
      exact ⟨v', rfl, h.p1.drop⟩
end Go.Proofs.Yteneigadnabolaa.QAl
