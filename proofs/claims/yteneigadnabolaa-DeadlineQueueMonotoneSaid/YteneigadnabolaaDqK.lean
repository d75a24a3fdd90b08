/- The queue's Push. Printed by mkDqK.py. -/
import Derived.Test.YteneigadnabolaaDqJ
import Derived.Deep.RegionHeld3
namespace Go.Proofs.Yteneigadnabolaa.QAl
open Go.RowKit Go.Proofs.YteneigadnabolaaW.PrintWords Go.Proofs.YteneigadnabolaaW.PrintLast Go.Proofs.YteneigadnabolaaW.PrintMore Go.Proofs.Yteneigadnabolaa.Sl
set_option linter.unusedVariables false
set_option linter.unusedSimpArgs false
variable {L : List Chunk}
theorem rm_len (q : List Dq.It) (id : Int) : (Dq.rm q id).length ≤ q.length := List.length_filter_le _ _
set_option maxRecDepth 100000 in
set_option maxHeartbeats 4000000 in
theorem Push_call {w0 W : World} {g : Nat} {v : Value} {q : List Dq.It} (x : S30) (hM : Mem w0 W (que w0 g v (q.map un) L)) (hl : q.length ≤ 900) (hq : Dq.Ok q) :
    Calls Try.prog 12 #[.pointer (some ⟨g, 0, none⟩), .agg #[.int .i64 x.f0, .int .i64 x.f1]] W fun e w' => ∃ v', e = .returned (.tuple #[]) ∧ Mem w0 w' (que w0 g v' ((Dq.push q (it x)).map un) L) := by
  have hgW := hM.lt
  have hgne : ¬ g = W.heap.size := by omega
  have HM := Aside0.mk hM
  have HQ := Aside0.mk hq
  have HM1 := Aside0.mk (hM.new (.cells #[.int .i64 x.f0, .int .i64 x.f1] 30)).q2
  clear hM hq
  go_enter Try.func12, Try.ntmps12
  go_wp2_with fail
  refine (Remove_call x.f0 HM1.out (by omega) HQ.out).mono ?_
  rintro e w2 ⟨v2, rfl, hM2⟩
  obtain ⟨N, hN⟩ : ∃ N, W.heap.size = N := ⟨_, rfl⟩
  rw [hN] at hM2
  obtain ⟨A2, c2, rfl, _, hC2⟩ := hM2.p1.q_reads
  have hl2 : (Dq.rm q x.f0).length ≤ 900 := Nat.le_trans (rm_len _ _) hl
  have HO2 := Aside0.mk (HQ.out.rm x.f0)
  have hS2 : (((Dq.rm q x.f0).map un).map it).Pairwise Dq.bef := by rw [map_it_un]; exact HO2.out.sorted
  have HNO : Aside0 (∀ y ∈ Dq.rm q x.f0, y.1 ≠ x.f0) := ⟨fun y hy => (Dq.rm_mem.1 hy).2⟩
  have HPU : Aside0 (Dq.push q (it x) = Dq.ins (it x) (Dq.rm q x.f0)) := ⟨rfl⟩
  obtain ⟨r, hr⟩ : ∃ r, Dq.rm q x.f0 = r := ⟨_, rfl⟩
  rw [hr] at hM2 hC2 hl2 HO2 hS2 HNO HPU
  obtain ⟨n, hn⟩ : ∃ n, n = (r.map un).length := ⟨_, rfl⟩
  have HM2 := Aside0.mk hM2
  have HC2 := Aside0.mk hC2
  have HL2 := Aside0.mk hl2
  have HS2 := Aside0.mk hS2
  have HNN := Aside0.mk hN
  have HN := Aside0.mk hn
  rw [HNN.out]
  have keyS := Aside0.mk (Search_call (w := w2.drew) (c := c2) x hC2 (by rw [List.length_map]; omega) hS2)
  rw [← hn] at HM2 keyS
  clear hM2 hC2 hl2 hS2 hN hn hr HM1 HM
  go_wp2_with fail
  refine wp_region_held_drew (S := fun W => W.heap[g]? = some (.cells #[.slice A2 n c2] 62 (0, 0)) ∧ W.heap[N]? = some (.cells #[.int .i64 x.f0, .int .i64 x.f1] 30 (0, 0))) (by kernel_rfl) ⟨HM2.out.get, HM2.out.p2.get⟩ (fun hS => ?_)
  refine wpAnyH_take (i := 0) (oi := { dst := some 11, op := Op.move (Operand.tmp 0), type := 23, pos := "deadlinequeue.go:31", after := #[], guard := none }) (v := ?_) rfl (by kernel_rfl) (by kernel_rfl) (by kernel_rfl) (fun _ _ _ h => h) (Or.inl ⟨by rfl, ?_⟩) hS ?_
  rotate_left
  · intro W_ hSW_
    go_simp
    try with_reducible rfl
  try simp only [Act.put, List.setIfInBounds_toArray, List.set_cons_zero, List.set_cons_succ]
  refine wpAnyH_take (i := 1) (oi := { dst := some 12, op := Op.nilCheck (Operand.tmp 11), type := 0, pos := "deadlinequeue.go:31", after := #[{ on := 0, ground := Ground.data }], guard := none }) (v := ?_) rfl (by kernel_rfl) (by kernel_rfl) (by kernel_rfl) (fun _ _ _ h => h) (Or.inl ⟨by rfl, ?_⟩) hS ?_
  rotate_left
  · intro W_ hSW_
    go_simp
    try with_reducible rfl
  try simp only [Act.put, List.setIfInBounds_toArray, List.set_cons_zero, List.set_cons_succ]
  refine wpAnyH_take (i := 2) (oi := { dst := some 13, op := Op.fieldAddr 62 (Operand.tmp 12) 0, type := 0, pos := "deadlinequeue.go:31", after := #[{ on := 1, ground := Ground.data }], guard := none }) (v := ?_) rfl (by kernel_rfl) (by kernel_rfl) (by kernel_rfl) (fun _ _ _ h => h) (Or.inl ⟨by rfl, ?_⟩) hS ?_
  rotate_left
  · intro W_ hSW_
    go_simp
    try with_reducible rfl
  try simp only [Act.put, List.setIfInBounds_toArray, List.set_cons_zero, List.set_cons_succ]
  refine wpAnyH_take (i := 3) (oi := { dst := some 14, op := Op.load 38 (Operand.tmp 13), type := 38, pos := "deadlinequeue.go:31", after := #[{ on := 2, ground := Ground.data }], guard := none }) (v := ?_) rfl (by kernel_rfl) (by kernel_rfl) (by kernel_rfl) (fun _ _ _ h => h) (Or.inl ⟨by rfl, ?_⟩) hS ?_
  rotate_left
  · intro W_ hSW_
    have e0 := blk_cell hSW_.1 0
    go_simp
    try with_reducible rfl
  try simp only [Act.put, List.setIfInBounds_toArray, List.set_cons_zero, List.set_cons_succ]
  refine wpAnyH_take (i := 4) (oi := { dst := some 15, op := Op.load 30 (Operand.tmp 3), type := 30, pos := "deadlinequeue.go:31", after := #[], guard := none }) (v := ?_) rfl (by kernel_rfl) (by kernel_rfl) (by kernel_rfl) (fun _ _ _ h => h) (Or.inl ⟨by rfl, ?_⟩) hS ?_
  rotate_left
  · intro W_ hSW_
    have e0 := blk_cell hSW_.2 0
    have e1 := blk_cell hSW_.2 1
    go_simp
    try with_reducible rfl
  try simp only [Act.put, List.setIfInBounds_toArray, List.set_cons_zero, List.set_cons_succ]
  refine wpAnyH_ready (rs := [5]) (by kernel_rfl) (by simp) ?_
  refine AllReadyH.cons (o := { dst := some 16, op := Op.call { callee := Callee.value (Operand.func 28), args := #[Operand.tmp 14, Operand.tmp 15, Operand.func 29], argTypes := #[38, 30, 65] }, type := 63, pos := "deadlinequeue.go:31", after := #[{ on := 3, ground := Ground.data }, { on := 4, ground := Ground.data }], guard := none }) rfl (fun K_ hK_ => ?_) AllReadyH.nil
  go_simp
  refine (keyS.out).mono ?_
  rintro e w3 ⟨i, b, rfl, hBs, hb3⟩
  have HB3 := Aside0.mk hb3
  have HBS := Aside0.mk hBs
  clear hb3 hBs
  refine hK_.out _ _ (⟨blk_below hS.1 HB3.out, blk_below hS.2 HB3.out⟩) (fun hS_ => ?_)
  clear hK_ K_ hS
  have hS := hS_
  clear hS_
  try simp only [Act.put, List.setIfInBounds_toArray, List.set_cons_zero, List.set_cons_succ]
  refine wpAnyH_take (i := 6) (oi := { dst := some 10, op := Op.move (Operand.tmp 16), type := 63, pos := "deadlinequeue.go:31", after := #[{ on := 5, ground := Ground.data }], guard := none }) (v := ?_) rfl (by kernel_rfl) (by kernel_rfl) (by kernel_rfl) (fun _ _ _ h => h) (Or.inl ⟨by rfl, ?_⟩) hS ?_
  rotate_left
  · intro W_ hSW_
    go_simp
    try with_reducible rfl
  try simp only [Act.put, List.setIfInBounds_toArray, List.set_cons_zero, List.set_cons_succ]
  refine wpAnyH_take (i := 7) (oi := { dst := some 17, op := Op.extract (Operand.tmp 10) 0, type := 3, pos := "deadlinequeue.go:31", after := #[{ on := 6, ground := Ground.data }], guard := none }) (v := ?_) rfl (by kernel_rfl) (by kernel_rfl) (by kernel_rfl) (fun _ _ _ h => h) (Or.inl ⟨by rfl, ?_⟩) hS ?_
  rotate_left
  · intro W_ hSW_
    go_simp
    try with_reducible rfl
  try simp only [Act.put, List.setIfInBounds_toArray, List.set_cons_zero, List.set_cons_succ]
  refine wpAnyH_take (i := 8) (oi := { dst := some 18, op := Op.extract (Operand.tmp 10) 1, type := 4, pos := "deadlinequeue.go:31", after := #[{ on := 6, ground := Ground.data }, { on := 9, ground := Ground.gcOnly Departure.lateStores }], guard := none }) (v := ?_) rfl (by kernel_rfl) (by kernel_rfl) (by kernel_rfl) (fun _ _ _ h => h) (Or.inl ⟨by rfl, ?_⟩) hS ?_
  rotate_left
  · intro W_ hSW_
    go_simp
    try with_reducible rfl
  try simp only [Act.put, List.setIfInBounds_toArray, List.set_cons_zero, List.set_cons_succ]
  refine wpAnyH_take (i := 9) (oi := { dst := some 4, op := Op.assign (Operand.tmp 17), type := 3, pos := "deadlinequeue.go:31", after := #[{ on := 7, ground := Ground.data }, { on := 5, ground := Ground.chain }, { on := 0, ground := Ground.phase }, { on := 1, ground := Ground.phase }, { on := 2, ground := Ground.phase }, { on := 3, ground := Ground.phase }, { on := 4, ground := Ground.phase }, { on := 5, ground := Ground.phase }, { on := 6, ground := Ground.phase }, { on := 7, ground := Ground.phase }, { on := 8, ground := Ground.textOnly Departure.lateStores }], guard := none }) (v := ?_) rfl (by kernel_rfl) (by kernel_rfl) (by kernel_rfl) (fun _ _ _ h => h) (Or.inl ⟨by rfl, ?_⟩) hS ?_
  rotate_left
  · intro W_ hSW_
    go_simp
    try with_reducible rfl
  try simp only [Act.put, List.setIfInBounds_toArray, List.set_cons_zero, List.set_cons_succ]
  refine wpAnyH_take (i := 10) (oi := { dst := some 5, op := Op.assign (Operand.tmp 18), type := 4, pos := "deadlinequeue.go:31", after := #[{ on := 8, ground := Ground.data }, { on := 9, ground := Ground.chain }, { on := 0, ground := Ground.phase }, { on := 1, ground := Ground.phase }, { on := 2, ground := Ground.phase }, { on := 3, ground := Ground.phase }, { on := 4, ground := Ground.phase }, { on := 5, ground := Ground.phase }, { on := 6, ground := Ground.phase }, { on := 7, ground := Ground.phase }, { on := 8, ground := Ground.phase }, { on := 9, ground := Ground.phase }], guard := none }) (v := ?_) rfl (by kernel_rfl) (by kernel_rfl) (by kernel_rfl) (fun _ _ _ h => h) (Or.inl ⟨by rfl, ?_⟩) hS ?_
  rotate_left
  · intro W_ hSW_
    go_simp
    try with_reducible rfl
  try simp only [Act.put, List.setIfInBounds_toArray, List.set_cons_zero, List.set_cons_succ]
  refine wpAnyH_done (by kernel_rfl) ?_ _
  go_wp2_with fail
  have HM4 := Aside0.mk (HM2.out.drew.step HB3.out).drew
  have keyI : Aside0 (∀ W', Mem w0 W' (blk w3.heap.size #[.int .i64 x.f0, .int .i64 x.f1] 30 :: que w0 g (.slice A2 n c2) (r.map un) (blk N #[.int .i64 x.f0, .int .i64 x.f1] 30 :: L)) →
      Calls Try.prog 30 #[.slice A2 n c2, .int .i64 (i : Int), .slice (some ⟨w3.heap.size, 0, none⟩) 1 1] W' fun e w' => ∃ v', e = .returned v' ∧ Mem w0 w' (qrow w0 k30 30 v' ((r.map un).take i ++ x :: (r.map un).drop i) :: blk g #[.slice A2 n c2] 62 :: blk N #[.int .i64 x.f0, .int .i64 x.f1] 30 :: L)) :=
    ⟨fun W' h => Insert_call (x := x) h.p2 (by rw [List.length_map]; have := HL2.out; omega) i (by have := HBS.out.hi; rwa [List.length_map] at this)⟩
  have HM5 := Aside0.mk (HM4.out.new (.cells #[.int .i64 x.f0, .int .i64 x.f1] 30))
  have hg := HM4.out.get
  have hN := HM4.out.p2.get
  have x0 : w3.cell? ⟨g, 0, none⟩ = _ := blk_cell (w := w3) hg 0
  have y0 : w3.cell? ⟨N, 0, none⟩ = _ := blk_cell (w := w3) hN 0
  have y1 : w3.cell? ⟨N, 1, none⟩ = _ := blk_cell (w := w3) hN 1
  have l0 : g < w3.heap.size := blk_lt (w := w3) hg
  have l1 : N < w3.heap.size := blk_lt (w := w3) hN
  have hne1 : ¬ g = w3.heap.size := by omega
  have hne2 : ¬ N = w3.heap.size := by omega
  have mixed : Try.prog.follows Departure.mixedOrders = true := by kernel_rfl
  clear keyS HM2 HB3 hS hg hN
  go_region_with_o (go_at_call 30; refine (keyI.out _ HM5.out).mono ?_; rintro e w5 ⟨v5, rfl, h5⟩; obtain ⟨A5, c5, rfl, _, _⟩ := h5.q_reads; generalize ((r.map un).take i ++ x :: (r.map un).drop i).length = n5 at h5; have HM6 := Aside0.mk h5.p1; have f0 := blk_frozen h5.p1.get 0; have z0 := blk_cell h5.p1.get 0; clear h5)
  all_goals
    go_end0
    refine ⟨.slice A5 n5 c5, rfl, ?_⟩
    have e1 : (r.map un).take i ++ x :: (r.map un).drop i = (Dq.push q (it x)).map un := by
      have hb := HBS.out
      rw [map_it_un] at hb
      rw [HPU.out, hb.done (HNO.out), List.map_append, List.map_take, List.map_cons, List.map_drop]
      rfl
    rw [← e1]
    exact (HM6.out.put 0 _ rfl).p2.drop
end Go.Proofs.Yteneigadnabolaa.QAl
