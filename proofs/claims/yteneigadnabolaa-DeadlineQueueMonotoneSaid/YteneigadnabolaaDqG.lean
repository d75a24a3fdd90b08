/- slices.Insert of one item, over a queue's row: in the middle, no room. -/
import Derived.Test.YteneigadnabolaaDqF
import Derived.Shelf.Spec.SlicesInsert
namespace Go.Proofs.Yteneigadnabolaa.QAl
open Go.RowKit Go.Proofs.YteneigadnabolaaW.PrintWords Go.Proofs.YteneigadnabolaaW.PrintLast Go.Proofs.YteneigadnabolaaW.PrintMore Go.Proofs.Yteneigadnabolaa.Sl
set_option linter.unusedVariables false
set_option linter.unusedSimpArgs false
variable {L : List Chunk}
set_option maxRecDepth 100000 in
set_option maxHeartbeats 4000000 in
theorem Insert_grow {w0 W : World} {A : Option Addr} {n c gv : Nat} {x : S30} {l : List S30} (hM : Mem w0 W (qrow w0 k30 30 (.slice A n c) l :: blk gv #[.int .i64 x.f0, .int .i64 x.f1] 30 :: L)) (hl : l.length ≤ 1000) (k : Nat) (hk : k < l.length) (hc : c < l.length + 1) :
    Calls Try.prog 30 #[.slice A n c, .int .i64 (k : Int), .slice (some ⟨gv, 0, none⟩) 1 1] W fun e w' => ∃ v', e = .returned v' ∧ Mem w0 w' (qrow w0 k30 30 v' (l.take k ++ x :: l.drop k) :: blk gv #[.int .i64 x.f0, .int .i64 x.f1] 30 :: L) := by
  have hb := hM.below
  have hv := hM.p1.get
  obtain ⟨T, hr, h2, h3⟩ := hM.front
  obtain ⟨h0, hq⟩ := q_flat (show k30.Q 30 W w0.heap.size T (.slice A n c) l from hr)
  obtain ⟨g, off, cur, rfl, rfl, hbg, hg, hnc, hcm, hcs, hf⟩ := q_blk hq (by omega)
  generalize hn : l.length = n at *
  generalize ho : off * 2 = o at *
  obtain ⟨i0, hi0, hzz⟩ := Option.map_eq_some_iff.1 info30
  simp only [Prod.mk.injEq] at hzz
  have hgW := blk_lt hg
  have hvW := blk_lt hv
  have hold : (Builtin.firstCells i0.size k (.slice (some ⟨g, o, none⟩) k c)).run Try.prog W.drew = .ok (flat (l.take k)).toArray W.drew := by
    rw [hzz.2.1]
    refine run_firstCells_some W.drew 2 k ⟨g, o, none⟩ k c (flat (l.take k)) (by rw [flat_length, List.length_take]; omega) (fun j v hj => ?_)
    rw [add_at]
    refine cur_cell (w := W.drew) hg hf ?_
    rw [← flat_take l k (by omega), List.getElem?_take] at hj
    split at hj
    · exact hj
    · cases hj
  have hfit : Builtin.nextslicecap (n + 1) c * i0.bytes ≤ 281474976710656 := by rw [hzz.2.2]; exact growslice_fits hc (by omega)
  have hrz : ∀ ty, (Builtin.append_ #[38, 3] ty #[.slice (some ⟨g, o, none⟩) k c, .int .i64 ((n : Int) + 1 - (k : Int))]).run Try.prog W = .ok (.slice (some ⟨W.heap.size, 0, none⟩) (n + 1) (grownCap W (n + 1) c 30)) (W.drew.alloc (.cells ((flat (l.take k)).toArray ++ Builtin.zeroCells (Value.agg #[.int .i64 0, .int .i64 0]).cells (n + 1 - k) ++ Builtin.zeroCells (Value.agg #[.int .i64 0, .int .i64 0]).cells (grownCap W (n + 1) c 30 - (n + 1))) 30)) := fun ty => by
    have h := Lib.run_append_grow_zeros (P := Try.prog) W 38 3 ty 30 i0 _ .i64 .i64 Try.underlying38 Try.underlying3 hi0 hzz.1 (some ⟨g, o, none⟩) k c (flat (l.take k)) hold (n + 1 - k) (by omega) (by rw [hzz.2.1]; omega) (by omega) (by omega) (by rw [hzz.2.2]; omega) (by rw [show k + (n + 1 - k) = n + 1 by omega]; exact hfit)
    rw [show k + (n + 1 - k) = n + 1 by omega] at h
    rw [show (n : Int) + 1 - (k : Int) = ((n + 1 - k : Nat) : Int) by omega]
    exact h
  obtain ⟨G, hG⟩ : ∃ G, grownCap W (n + 1) c 30 = G := ⟨_, rfl⟩
  have hG1 : n + 1 ≤ G := by rw [← hG]; exact grownCap_ge _ _ _ _
  have hG2 : G ≤ maxLen := by rw [← hG]; exact grownCap_le_maxLen _ _ _ _ (by simp only [maxLen]; omega)
  obtain ⟨ROW, hROW⟩ : ∃ ROW : Array Value, (flat (l.take k)).toArray ++ Builtin.zeroCells (Value.agg #[.int .i64 0, .int .i64 0]).cells (n + 1 - k) ++ Builtin.zeroCells (Value.agg #[.int .i64 0, .int .i64 0]).cells (G - (n + 1)) = ROW := ⟨_, rfl⟩
  rw [hG, hROW] at hrz
  have hzs : (Value.agg #[.int .i64 0, .int .i64 0]).cells.size = 2 := rfl
  have hfk : (flat (l.take k)).length = k * 2 := by rw [flat_length, List.length_take]; omega
  have hRs : ROW.size = G * 2 := by
    rw [← hROW, Array.size_append, Array.size_append, size_zeroCells, size_zeroCells, hzs, List.size_toArray, hfk]
    omega
  have hRt : ROW.toList.take (k * 2) = flat (l.take k) := by
    rw [← hROW, Array.toList_append, Array.toList_append, List.append_assoc]
    exact List.take_left' hfk
  obtain ⟨N, hN⟩ : ∃ N, W.heap.size = N := ⟨_, rfl⟩
  rw [hN] at hrz hgW hvW
  obtain ⟨W1, hW1⟩ : ∃ W1, W1 = W.drew.alloc (.cells ROW 30) := ⟨_, rfl⟩
  have hgN : W1.heap[N]? = some (.cells ROW 30 (0, 0)) := by rw [hW1, ← hN]; exact heap_alloc_new W.drew _
  have hold1 : ∀ i, i < N → W1.heap[i]? = W.heap[i]? := fun i hi => by rw [hW1]; exact Below.heap_alloc W.drew _ i (by rw [← hN] at hi; exact hi)
  have hone : ∀ u ∈ [Value.int .i64 x.f0, Value.int .i64 x.f1], u.oneCell' = true := by
    intro u hu; simp only [List.mem_cons, List.not_mem_nil, or_false] at hu; rcases hu with rfl | rfl <;> rfl
  have hinf : (Try.prog.info? 30).map (·.size) = some 2 := by rw [hi0, Option.map_some, hzz.2.1]
  have hvc : ∀ j u, [Value.int .i64 x.f0, Value.int .i64 x.f1][j]? = some u → W1.cell? ⟨gv, j, none⟩ = some u := fun j u hj => by
    rw [blk_cell ((hold1 gv hvW).trans hv) j]; simpa using hj
  have hcpA : ∀ (W' : World), (∀ x, W'.cell? x = W1.cell? x) → (∀ x, W'.frozen? x = W1.frozen? x) → ∀ ty dc, (Builtin.copy_ #[38, 38] ty #[.slice (some ⟨N, k * 2, none⟩) (n + 1 - k) dc, .slice (some ⟨gv, 0, none⟩) 1 1]).run Try.prog W' = .ok (goInt 1) (W'.setCells N (k * 2) [.int .i64 x.f0, .int .i64 x.f1]) := fun W' hWc hWf ty dc =>
    run_copy_sz W' 38 38 ty 30 N (k * 2) (n + 1 - k) dc ⟨gv, 0, none⟩ 1 1 2 1 [.int .i64 x.f0, .int .i64 x.f1] Try.underlying38 hinf (by simp only [Nat.min_def]; split <;> omega) rfl
      (fun j v hj => by rw [add_plain, hWc]; exact hvc j v hj)
      (fun j hj => by rw [hWc]; exact cur_some hgN (by rw [hRs]; have : j < 2 := hj; omega)) (fun j hj => by rw [hWf]; exact blk_frozen hgN _) hone
  obtain ⟨W2, hW2⟩ : ∃ W2, W2 = W1.setCells N (k * 2) [.int .i64 x.f0, .int .i64 x.f1] := ⟨_, rfl⟩
  obtain ⟨cur2, hg2, hs2, ht2⟩ := setCells_row [.int .i64 x.f0, .int .i64 x.f1] (k * 2) W1 ROW hgN (by rw [hRs]; simp; omega)
  rw [← hW2] at hg2
  have hdl : (flat (l.drop k)).length = (n - k) * 2 := by rw [flat_length, List.length_drop, hn]
  have hcpB : ∀ (W' : World), (∀ x, W'.cell? x = W2.cell? x) → (∀ x, W'.frozen? x = W2.frozen? x) → ∀ ty dc sc, (Builtin.copy_ #[38, 38] ty #[.slice (some ⟨N, (k + 1) * 2, none⟩) (n - k) dc, .slice (some ⟨g, o + k * 2, none⟩) (n - k) sc]).run Try.prog W' = .ok (goInt (n - k : Nat)) (W'.setCells N ((k + 1) * 2) (flat (l.drop k))) := fun W' hWc hWf ty dc sc =>
    run_copy_sz W' 38 38 ty 30 N ((k + 1) * 2) (n - k) dc ⟨g, o + k * 2, none⟩ (n - k) sc 2 (n - k) (flat (l.drop k)) Try.underlying38 hinf (by simp only [Nat.min_def]; split <;> omega) hdl
      (fun j v hj => by
        rw [add_at, hWc, hW2, World.cell?_setCells_out _ _ _ _ _ (fun h _ => absurd h (by show g ≠ N; omega))]
        rw [← flat_drop l k (by omega), List.getElem?_drop] at hj
        have := cur_cell (w := W1) ((hold1 g hgW).trans hg) hf hj
        rw [Nat.add_assoc]
        exact this)
      (fun j hj => by rw [hWc]; exact cur_some hg2 (by rw [hs2, hRs]; rw [hdl] at hj; omega)) (fun j hj => by rw [hWf]; exact blk_frozen hg2 _) (flat_one _)
  have HW1 := Aside0.mk hW1
  have HW2 := Aside0.mk hW2
  have HRZ := Aside0.mk hrz
  have HA := Aside0.mk hcpA
  have HB := Aside0.mk hcpB
  subst hW1
  subst hW2
  have hE1 : Aside0 (∀ x, ((W.alloc (.cells ROW 30)).drew).cell? x = (W.drew.alloc (.cells ROW 30)).cell? x) := ⟨fun x => rfl⟩
  have b1 : IntKind.i64.wrap ((k : Int) + 1) = (k : Int) + 1 := by rw [IntKind.wrap_i64]; omega
  have b2 : (0 : Int) ≤ (k : Int) + 1 := by omega
  have b3 : (k : Int) ≤ (n : Int) := by omega
  have b4 : ((k : Int) + 1).toNat = k + 1 := by omega
  have b5 : k ≤ n := by omega
  have b6 : ¬ ((k : Int) = (n : Int)) := by omega
  have b7 : (c : Int) < (n : Int) + 1 := by omega
  have b8 : ¬ (G = k) := by omega
  have b9 : ¬ (G = k + 1) := by omega
  have b10 : ¬ (c = k) := by omega
  have b11 : (k : Int) ≤ (n : Int) + 1 := by omega
  have b12 : k ≤ c := by omega
  have b13 : (k : Int) + 1 ≤ (n : Int) + 1 := by omega
  have mixed : Try.prog.follows Departure.mixedOrders = true := by kernel_rfl
  have X1 := Aside0.mk hN
  have X2 := Aside0.mk hn
  have X3 := Aside0.mk ho
  have X4 := Aside0.mk hgN
  have X5 := Aside0.mk hg2
  have X6 := Aside0.mk hs2
  have X7 := Aside0.mk ht2
  have X8 := Aside0.mk hRs
  have X9 := Aside0.mk hRt
  have X10 := Aside0.mk hdl
  have X11 := Aside0.mk hold1
  have X12 := Aside0.mk hfk
  clear hN hn ho hgN hg2 hs2 ht2 hRs hRt hdl hold1 hfk hinf hvc hone hcpA hcpB hrz hROW hG hfit hold hzz hi0 hf hcs hq hr hM hv hg hzs
  go_enter Try.func30, Try.ntmps30
  have hA1 := HA.out ((W.alloc (.cells ROW 30)).drew) (fun _ => rfl) (fun _ => rfl) 3 (G - k)
  go_wp2_with (at_builtin; refine Lib.wpList_append_run _ rfl _ _ _ _ rfl _ _ rfl rfl _ _ (HRZ.out _) ?_)
  have hB1 := HB.out (((W.alloc (.cells ROW 30)).drew.setCells N (k * 2) [.int .i64 x.f0, .int .i64 x.f1]).drew) (fun _ => rfl) (fun _ => rfl) 3 (G - (k + 1)) (c - k)
  go_region_law_o (fail)
  go_wp2_with fail
  go_ret
  refine ⟨_, rfl, ?_⟩
  obtain ⟨cur3, hg3, hs3, ht3⟩ := setCells_row (flat (l.drop k)) ((k + 1) * 2) (((W.alloc (.cells ROW 30)).drew.setCells N (k * 2) [.int .i64 x.f0, .int .i64 x.f1]).drew) cur2 X5.out (by rw [X6.out, X8.out, X10.out]; omega)
  obtain ⟨q1, q2, q3, q4⟩ := setCells_same N [.int .i64 x.f0, .int .i64 x.f1] (k * 2) ((W.alloc (.cells ROW 30)).drew)
  obtain ⟨r1, r2, r3, r4⟩ := setCells_same N (flat (l.drop k)) ((k + 1) * 2) (((W.alloc (.cells ROW 30)).drew.setCells N (k * 2) [.int .i64 x.f0, .int .i64 x.f1]).drew)
  obtain ⟨WF, hWF⟩ : ∃ WF, (((W.alloc (.cells ROW 30)).drew.setCells N (k * 2) [.int .i64 x.f0, .int .i64 x.f1]).drew.setCells N ((k + 1) * 2) (flat (l.drop k))) = WF := ⟨_, rfl⟩
  have hfar : ∀ i, i < N → WF.heap[i]? = W.heap[i]? := fun i hi => by
    rw [← hWF, setCells_far _ _ _ (by omega)]
    exact (setCells_far (w := (W.alloc (.cells ROW 30)).drew) _ _ _ (by omega)).trans (X11.out i hi)
  rw [hWF] at hg3 r1 r2 r3 r4 ⊢
  have hN := X1.out
  have hsz : WF.heap.size = N + 1 := by rw [r4]; refine q4.trans ?_; rw [← hN]; exact World.size_alloc W _
  have hbN := hb.size
  refine h3 _ (qrow w0 k30 30 (.slice (some ⟨N, 0, none⟩) (n + 1) G) (l.take k ++ x :: l.drop k)) ?_ ⟨by omega, fun i hi _ => hfar i (by omega)⟩ ?_
  · exact ⟨by rw [r1]; exact q1.trans hb.os, by rw [r2]; exact q2.trans hb.tape, by rw [r3]; exact q3.trans hb.output, by omega, fun i hi => by rw [hfar i (by omega)]; exact hb.block i hi⟩
  · refine flat_q (fun j hj => .inr (by have e : N = j := by simpa [Value.ownBlock] using hj
                                        omega)) ?_
    have hn := X2.out
    have hl' : (l.take k ++ x :: l.drop k).length = n + 1 := by rw [List.length_append, List.length_take, List.length_cons, List.length_drop, hn]; omega
    rw [hl']
    refine ⟨by rw [flat_length, hl'], .inr ⟨N, 0, G, cur3, by rw [Nat.zero_mul], by omega, hg3, hG1, by omega, by rw [hs3, X6.out, X8.out]; omega, ?_⟩⟩
    have hfl := X12.out
    have hdl := X10.out
    have hR := X8.out
    have hRl : ROW.toList.length = G * 2 := by rw [Array.length_toList, hR]
    rw [Nat.zero_mul, List.drop_zero, ht3, X7.out, X9.out, flat_append, flat_cons]
    rw [List.append_assoc (flat (l.take k))]
    have e1 : (flat (l.take k) ++ ([Value.int .i64 x.f0, .int .i64 x.f1] ++ ROW.toList.drop (k * 2 + [Value.int .i64 x.f0, Value.int .i64 x.f1].length))).take ((k + 1) * 2) = flat (l.take k) ++ [Value.int .i64 x.f0, .int .i64 x.f1] := by
      rw [← List.append_assoc]
      exact List.take_left' (by rw [List.length_append, hfl]; simp; omega)
    rw [e1, List.append_assoc, List.append_assoc]
    rw [show flat (l.take k) ++ .int .i64 x.f0 :: .int .i64 x.f1 :: flat (l.drop k) = flat (l.take k) ++ ([.int .i64 x.f0, .int .i64 x.f1] ++ flat (l.drop k)) from rfl]
    rw [← List.append_assoc [Value.int .i64 x.f0, .int .i64 x.f1], ← List.append_assoc (flat (l.take k))]
    exact List.take_left' (by rw [List.length_append, List.length_append, hfl, hdl]; simp; omega)
end Go.Proofs.Yteneigadnabolaa.QAl
