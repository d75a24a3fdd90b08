/- slices.Delete of one item, over a queue's row. -/
import Derived.Test.YteneigadnabolaaDqD
import Derived.Test.YteneigadnabolaaFl
import Derived.Deep.RegionLaw
import Derived.Shelf.RegionOpenPlain
namespace Go.Proofs.Yteneigadnabolaa.QAl
open Go.RowKit Go.Proofs.YteneigadnabolaaW.PrintWords Go.Proofs.YteneigadnabolaaW.PrintLast Go.Proofs.YteneigadnabolaaW.PrintMore Go.Proofs.Yteneigadnabolaa.Sl
set_option linter.unusedVariables false
set_option linter.unusedSimpArgs false
variable {L : List Chunk}
set_option maxRecDepth 100000 in
set_option maxHeartbeats 4000000 in
theorem Delete_call {w0 W : World} {A : Option Addr} {n c : Nat} {l : List S30} (hM : Mem w0 W (qrow w0 k30 30 (.slice A n c) l :: L)) (k : Nat) (hk : k < l.length) (hl : l.length ≤ 1000) :
    Calls Try.prog 37 #[.slice A n c, .int .i64 (k : Int), .int .i64 ((k : Int) + 1)] W fun e w' => ∃ v', e = .returned v' ∧ Mem w0 w' (qrow w0 k30 30 v' (l.take k ++ l.drop (k + 1)) :: L) := by
  have hb := hM.below
  obtain ⟨T, hr, h2, h3⟩ := hM.front
  obtain ⟨h0, hq⟩ := q_flat (show k30.Q 30 W w0.heap.size T (.slice A n c) l from hr)
  obtain ⟨g, off, cur, rfl, rfl, hbg, hg, hnc, hcm, hcs, hf⟩ := q_blk hq (by omega)
  generalize hn : l.length = n at *
  generalize ho : off * 2 = o at *
  obtain ⟨news, hnews⟩ : ∃ news, flat (l.drop (k + 1)) = news := ⟨_, rfl⟩
  have hlen : news.length = (n - (k + 1)) * 2 := by rw [← hnews, flat_length, List.length_drop, hn]
  have hone : ∀ u ∈ news, u.oneCell' = true := by rw [← hnews]; exact flat_one _
  have hcell : ∀ j u, news[j]? = some u → W.drew.cell? ⟨g, o + (k + 1) * 2 + j, none⟩ = some u := by
    intro j u hj
    rw [← hnews, ← flat_drop l (k + 1) (by omega), List.getElem?_drop] at hj
    have := cur_cell hg hf hj
    rw [show o + (k + 1) * 2 + j = o + ((k + 1) * 2 + j) by omega]
    exact this
  obtain ⟨A', hA, hsrc⟩ : ∃ A' : Addr, (if c = k + 1 then some (⟨g, o, none⟩ : Addr) else some ⟨g, o + (k + 1) * 2, none⟩) = some A' ∧ Aside0 (∀ j u, news[j]? = some u → W.drew.cell? (A'.add j) = some u) := by
    by_cases h : c = k + 1
    · refine ⟨⟨g, o, none⟩, by simp [h], ⟨fun j u hj => ?_⟩⟩
      have hz : news.length = 0 := by rw [hlen]; omega
      rw [List.length_eq_zero_iff.1 hz] at hj
      simp at hj
    · refine ⟨⟨g, o + (k + 1) * 2, none⟩, by simp [h], ⟨fun j u hj => ?_⟩⟩
      rw [add_at]
      exact hcell j u hj
  obtain ⟨W1, hW1⟩ : ∃ W1, W1 = W.drew.setCells g (o + k * 2) news := ⟨_, rfl⟩
  obtain ⟨cur1, hg1, hs1, ht1⟩ := setCells_row news (o + k * 2) W.drew cur hg (by rw [hlen, hcs]; omega)
  rw [← hW1] at hg1
  have hcl : ∀ ty, (Builtin.clear_ #[38] ty #[.slice (some ⟨g, o + (n - 1) * 2, none⟩) 1 (c - (n - 1))]).run Try.prog W1 = .ok (.tuple #[]) (W1.setCells g (o + (n - 1) * 2) [.int .i64 0, .int .i64 0]) := fun ty =>
    run_clear_one W1 38 30 ty (.agg #[.int .i64 0, .int .i64 0]) Try.underlying38 (fun w => by simp [zeroValue, typeInfo]; kernel_rfl) (by simp [Value.cells]; decide) g _ _
      (fun j hj => cur_some hg1 (by rw [hs1, hcs]; have : j < 2 := hj; omega)) (fun j hj => blk_frozen hg1 _)
  have HCL := Aside0.mk hcl
  have HW1 := Aside0.mk hW1
  have HLEN := Aside0.mk hlen
  have HONE := Aside0.mk hone
  have s3 : Aside0 (∀ j, j < news.length → (W.drew.cell? ⟨g, o + k * 2 + j, none⟩).isSome = true ∧ W.drew.frozen? ⟨g, o + k * 2 + j, none⟩ = false) :=
    ⟨fun j hj => ⟨cur_some (w := W.drew) hg (by rw [hlen] at hj; rw [hcs]; omega), blk_frozen (w := W.drew) hg _⟩⟩
  have H1 := Aside0.mk hg1
  have H2 := Aside0.mk ht1
  have H3 := Aside0.mk hf
  have H4 := Aside0.mk hs1
  have H5 := Aside0.mk hcs
  have H6 := Aside0.mk hnews
  have H7 := Aside0.mk hg
  have H8 := Aside0.mk hn
  have H9 := Aside0.mk ho
  have e1 : ¬ ((k : Int) = (k : Int) + 1) := by omega
  have e2 : k ≤ c := by omega
  have e3 : (k : Int) + 1 ≤ c := by omega
  have e4 : k + 1 ≤ c := by omega
  clear hcl hW1 hlen hone hg1 ht1 hf hs1 hcs hnews hg hn ho hcell hM hr hq
  have e5 : (k : Int) + 1 ≤ n := by omega
  have e6 : 0 ≤ (k : Int) + 1 := by omega
  have e7 : k + (n - (k + 1)) = n - 1 := by omega
  have e8 : n - (n - 1) = 1 := by omega
  have e9 : ¬ c = n - 1 := by omega
  have e10 : ((n - 1 : Nat) : Int) ≤ n := by omega
  obtain ⟨i0, hi0, hzz⟩ := Option.map_eq_some_iff.1 info30
  simp only [Prod.mk.injEq] at hzz
  have hi2 := Aside0.mk hzz.2.1
  clear hzz
  have mixed : Try.prog.follows Departure.mixedOrders = true := by kernel_rfl
  go_enter Try.func37, Try.ntmps37
  go_wp2_with fail
  go_region_law_o (refine step_append_room rfl (.tmp 22) (.tmp 25) 38 rfl 30 i0 2 Try.underlying38 hi0 hi2.out g o k c (by simp [Act.eval, Act.put]) A' (n - (k + 1)) (c - (k + 1)) news (by simp [Act.eval, Act.put]) HLEN.out hsrc.out HONE.out (by omega) s3.out ?_; rw [← HW1.out])
  have hcl := HCL.out
  go_wp2_with fail
  go_ret
  refine ⟨_, rfl, ?_⟩
  obtain ⟨cur2, hg2, hs2, ht2⟩ := setCells_row [.int .i64 0, .int .i64 0] (o + (n - 1) * 2) W1 cur1 H1.out (by rw [H4.out, H5.out, ← H9.out]; simp; omega)
  obtain ⟨q1, q2, q3, q4⟩ := setCells_same g news (o + k * 2) W.drew
  obtain ⟨r1, r2, r3, r4⟩ := setCells_same g [.int .i64 0, .int .i64 0] (o + (n - 1) * 2) W1
  have hT : T g := h0 g (by simp [Value.ownBlock])
  have hfar : ∀ i, i ≠ g → (W1.setCells g (o + (n - 1) * 2) [.int .i64 0, .int .i64 0]).heap[i]? = W.heap[i]? := fun i hi => by
    rw [setCells_far _ _ _ hi, HW1.out, setCells_far _ _ _ hi]; rfl
  have hsz : (W1.setCells g (o + (n - 1) * 2) [.int .i64 0, .int .i64 0]).heap.size = W.heap.size := by rw [r4, HW1.out, q4]; rfl
  refine h3 _ (qrow w0 k30 30 (.slice (some ⟨g, o, none⟩) (n - 1) c) (l.take k ++ l.drop (k + 1))) ?_ ⟨by omega, fun i _ hi => hfar i (fun e => hi (e ▸ hT))⟩ ?_
  · exact ⟨by rw [r1, HW1.out, q1]; exact hb.os, by rw [r2, HW1.out, q2]; exact hb.tape, by rw [r3, HW1.out, q3]; exact hb.output, by rw [hsz]; exact hb.size, fun i hi => by rw [hfar i (by omega)]; exact hb.block i hi⟩
  · refine flat_q (fun k hk => .inl (h0 k (by simpa [Value.ownBlock] using hk))) ?_
    have hl' : (l.take k ++ l.drop (k + 1)).length = n - 1 := by rw [List.length_append, List.length_take, List.length_drop, H8.out]; omega
    rw [hl']
    refine ⟨by rw [flat_length, hl'], .inr ⟨g, off, c, cur2, by rw [H9.out], hbg, hg2, by omega, hcm, by rw [hs2, H4.out, H5.out], ?_⟩⟩
    rw [ht2, H2.out]
    have hn' := H8.out
    have ho' := H9.out
    have hc1 := H5.out
    have hl1 : cur.toList.length = (off + c) * 2 := by rw [Array.length_toList, hc1]
    have hlen := HLEN.out
    have hfk : (cur.toList.drop o).take (k * 2) = flat (l.take k) := by
      rw [← flat_take l k (by omega), ← H3.out, List.take_take, Nat.min_eq_left (by omega)]
    have hpl : (cur.toList.take o).length = o := by rw [List.length_take, hl1]; omega
    have hfl : (flat (l.take k)).length = k * 2 := by rw [flat_length, List.length_take]; omega
    have e1 : cur.toList.take (o + k * 2) = cur.toList.take o ++ flat (l.take k) := by rw [List.take_add, hfk]
    rw [e1, ho', List.take_left' (by rw [List.length_append, List.length_append, hpl, hfl, hlen]; omega)]
    rw [List.append_assoc, List.append_assoc, List.append_assoc, List.drop_left' hpl, ← List.append_assoc, flat_append, H6.out]
    exact List.take_left' (by rw [List.length_append, hfl, hlen]; omega)
end Go.Proofs.Yteneigadnabolaa.QAl
