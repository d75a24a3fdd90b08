/- DeadlineQueueFeasible: the law answers true. Printed by mkLwF.py. -/
import Derived.Test.YteneigadnabolaaFeC
import Derived.Test.YteneigadnabolaaLwA
namespace Go.Proofs.Yteneigadnabolaa.QAl
open Go.RowKit Go.Proofs.YteneigadnabolaaW.PrintWords Go.Proofs.YteneigadnabolaaW.PrintLast Go.Proofs.YteneigadnabolaaW.PrintMore Go.Proofs.Yteneigadnabolaa.Sl
set_option linter.unusedVariables false
set_option linter.unusedSimpArgs false
set_option maxRecDepth 100000 in
set_option maxHeartbeats 2000000 in
theorem Feas_law {W : World} {A B : Option Addr} {c cd : Nat} {l : List Dq.It} {d : List Int} (now : Int) (hA : k30.C W A l.length (l.map un)) (hcA : l.length ≤ c) (hB : (Kd.int .i64).C W B d.length d)
    (hw : ∀ x ∈ l, (Lit.int .i64 x.1).wf = true) (hd : ∀ x ∈ d, (Lit.int .i64 x).wf = true) :
    Calls Try.prog 4 #[.int .i64 now, .agg #[.slice A l.length c, .slice B d.length cd]] W fun e w' => e = .returned (.bool true) ∧ Below W.heap.size W w' := by
  obtain ⟨b, hb⟩ : ∃ b, W.heap.size = b := ⟨_, rfl⟩
  have HBB := Aside0.mk hb
  have HW := Aside0.mk hw
  have HM0' := (Mem.start W).new_ (.cells #[.slice A l.length c, .slice B d.length cd] 41) hb
  have HB0 := Aside0.mk (below_alloc (Below.refl W.heap.size W) (.cells #[.slice A l.length c, .slice B d.length cd] 41))
  by_cases hbig : 40 < l.length
  · obtain ⟨n, hn⟩ : ∃ n, n = l.length := ⟨_, rfl⟩
    rw [← hn] at hbig HB0 ⊢
    have h1 : decide ((40 : Int) < (n : Int)) = true := decide_eq_true (by omega)
    have h2 : decide (40 < n) = true := decide_eq_true hbig
    clear hA hcA hB hw hd HM0' hb hn hbig
    go_enter Try.func4, Try.ntmps4
    go_wp2_with (go_at_call 11; refine (examples_call _).mono ?_; rintro e w2 ⟨rfl, hb2⟩; have HB2 := Aside0.mk hb2; clear hb2)
    go_ret
    exact ⟨rfl, below_step HB0.out HB2.out⟩
  · have hl40 : l.length ≤ 40 := by omega
    have hl6 : l.length < 1000000 := by omega
    have HDUR : Aside0 (∀ w1, Below W.heap.size W w1 → Calls Try.prog 17 #[.agg #[.slice A l.length c, .slice B d.length cd]] w1 fun e w' => ∃ g n, e = .returned (.map (some g)) ∧ Mem w1 w' [imap g n (durA l d l.length)]) :=
      ⟨fun w1 h => durations_call (Kd.C_below hA h) (Kd.C_below hB h) hl40 hw hd⟩
    have HCA : Aside0 (∀ w1, Below W.heap.size W w1 → k30.C w1 A l.length (l.map un)) := ⟨fun w1 h => Kd.C_below hA h⟩
    generalize durA l d l.length = f at HDUR
    have HM0 := Aside0.mk HM0'.drew
    have hd1 : decide ((40 : Int) < (l.length : Int)) = false := decide_eq_false (by omega)
    have hd2 : decide (40 < l.length) = false := decide_eq_false hbig
    clear hA hB hw hd HM0' hb hbig
    go_enter Try.func4, Try.ntmps4
    go_wp2_with fail
    rw [HBB.out]
    refine wp_region_held_drew (S := fun W_ => W_.heap[b]? = some (.cells #[.slice A l.length c, .slice B d.length cd] 41 (0, 0))) (by kernel_rfl) HM0.out.get (fun hS => ?_)
    refine wpAnyH_take (i := 0) (oi := { dst := some 15, op := Op.move (Operand.tmp 0), type := 2, pos := "law.go:158", after := #[], guard := none }) (v := ?_) rfl (by kernel_rfl) (by kernel_rfl) (by kernel_rfl) (fun _ _ _ h => h) (Or.inl ⟨by rfl, ?_⟩) hS ?_
    rotate_left
    · intro W_ hSW_
      go_simp
      try with_reducible rfl
    try simp only [Act.put, List.setIfInBounds_toArray, List.set_cons_zero, List.set_cons_succ]
    refine wpAnyH_take (i := 1) (oi := { dst := some 16, op := Op.fieldAddr 41 (Operand.tmp 3) 0, type := 0, pos := "law.go:158", after := #[], guard := none }) (v := ?_) rfl (by kernel_rfl) (by kernel_rfl) (by kernel_rfl) (fun _ _ _ h => h) (Or.inl ⟨by rfl, ?_⟩) hS ?_
    rotate_left
    · intro W_ hSW_
      go_simp
      try with_reducible rfl
    try simp only [Act.put, List.setIfInBounds_toArray, List.set_cons_zero, List.set_cons_succ]
    refine wpAnyH_take (i := 2) (oi := { dst := some 17, op := Op.load 38 (Operand.tmp 16), type := 38, pos := "law.go:158", after := #[{ on := 1, ground := Ground.data }], guard := none }) (v := ?_) rfl (by kernel_rfl) (by kernel_rfl) (by kernel_rfl) (fun _ _ _ h => h) (Or.inl ⟨by rfl, ?_⟩) hS ?_
    rotate_left
    · intro W_ hSW_
      have e0 := blk_cell hSW_ 0
      go_simp
      try with_reducible rfl
    try simp only [Act.put, List.setIfInBounds_toArray, List.set_cons_zero, List.set_cons_succ]
    refine wpAnyH_take (i := 3) (oi := { dst := some 18, op := Op.load 41 (Operand.tmp 3), type := 41, pos := "law.go:158", after := #[], guard := none }) (v := ?_) rfl (by kernel_rfl) (by kernel_rfl) (by kernel_rfl) (fun _ _ _ h => h) (Or.inl ⟨by rfl, ?_⟩) hS ?_
    rotate_left
    · intro W_ hSW_
      have e0 := blk_cell hSW_ 0
      have e1 := blk_cell hSW_ 1
      go_simp
      try with_reducible rfl
    try simp only [Act.put, List.setIfInBounds_toArray, List.set_cons_zero, List.set_cons_succ]
    refine wpAnyH_ready (rs := [4]) (by kernel_rfl) (by simp) ?_
    refine AllReadyH.cons (o := { dst := some 19, op := Op.call { callee := Callee.value (Operand.func 17), args := #[Operand.tmp 18], argTypes := #[41] }, type := 45, pos := "law.go:158", after := #[{ on := 3, ground := Ground.data }], guard := none }) rfl (fun K_ hK_ => ?_) AllReadyH.nil
    go_simp
    refine (HDUR.out _ HM0.out.below).mono ?_
    rintro e HM1w ⟨HM1g, HM1n, rfl, HM1h⟩
    have HM1 := Aside0.mk (Mem.join HM0.out HM1h (.cons (Lowers.refl _) .nil))
    have hSHM1 := HM1.out.drop.get
    clear HM1h
    refine hK_.out _ _ (hSHM1) (fun hS_ => ?_)
    clear hK_ K_ hS
    have hS := hS_
    clear hS_
    try simp only [Act.put, List.setIfInBounds_toArray, List.set_cons_zero, List.set_cons_succ]
    refine wpAnyH_ready (rs := [5]) (by kernel_rfl) (by simp) ?_
    refine AllReadyH.cons (o := { dst := some 20, op := Op.call { callee := Callee.value (Operand.func 16), args := #[Operand.tmp 15, Operand.tmp 17, Operand.tmp 19], argTypes := #[2, 38, 45] }, type := 43, pos := "law.go:158", after := #[{ on := 0, ground := Ground.data }, { on := 2, ground := Ground.data }, { on := 4, ground := Ground.data }, { on := 4, ground := Ground.chain }], guard := none }) rfl (fun K_ hK_ => ?_) AllReadyH.nil
    go_simp
    refine (Feasible_call now HM1.out (HCA.out _ HM1.out.below) hl40 HW.out).mono ?_
    rintro e HM2w ⟨rfl, HM2h⟩
    have HM2 := Aside0.mk (HM1.out.step HM2h)
    have hSHM2 := HM2.out.drop.get
    clear HM2h
    refine hK_.out _ _ (hSHM2) (fun hS_ => ?_)
    clear hK_ K_ hS
    have hS := hS_
    clear hS_
    try simp only [Act.put, List.setIfInBounds_toArray, List.set_cons_zero, List.set_cons_succ]
    refine wpAnyH_take (i := 6) (oi := { dst := some 14, op := Op.move (Operand.tmp 20), type := 43, pos := "law.go:158", after := #[{ on := 5, ground := Ground.data }], guard := none }) (v := ?_) rfl (by kernel_rfl) (by kernel_rfl) (by kernel_rfl) (fun _ _ _ h => h) (Or.inl ⟨by rfl, ?_⟩) hS ?_
    rotate_left
    · intro W_ hSW_
      go_simp
      try with_reducible rfl
    try simp only [Act.put, List.setIfInBounds_toArray, List.set_cons_zero, List.set_cons_succ]
    refine wpAnyH_take (i := 7) (oi := { dst := some 21, op := Op.extract (Operand.tmp 14) 0, type := 3, pos := "law.go:158", after := #[{ on := 6, ground := Ground.data }], guard := none }) (v := ?_) rfl (by kernel_rfl) (by kernel_rfl) (by kernel_rfl) (fun _ _ _ h => h) (Or.inl ⟨by rfl, ?_⟩) hS ?_
    rotate_left
    · intro W_ hSW_
      go_simp
      try with_reducible rfl
    try simp only [Act.put, List.setIfInBounds_toArray, List.set_cons_zero, List.set_cons_succ]
    refine wpAnyH_take (i := 8) (oi := { dst := some 22, op := Op.extract (Operand.tmp 14) 1, type := 42, pos := "law.go:158", after := #[{ on := 6, ground := Ground.data }, { on := 9, ground := Ground.gcOnly Departure.lateStores }], guard := none }) (v := ?_) rfl (by kernel_rfl) (by kernel_rfl) (by kernel_rfl) (fun _ _ _ h => h) (Or.inl ⟨by rfl, ?_⟩) hS ?_
    rotate_left
    · intro W_ hSW_
      go_simp
      try with_reducible rfl
    try simp only [Act.put, List.setIfInBounds_toArray, List.set_cons_zero, List.set_cons_succ]
    refine wpAnyH_take (i := 9) (oi := { dst := some 5, op := Op.assign (Operand.tmp 21), type := 3, pos := "law.go:158", after := #[{ on := 7, ground := Ground.data }, { on := 5, ground := Ground.chain }, { on := 0, ground := Ground.phase }, { on := 1, ground := Ground.phase }, { on := 2, ground := Ground.phase }, { on := 3, ground := Ground.phase }, { on := 4, ground := Ground.phase }, { on := 5, ground := Ground.phase }, { on := 6, ground := Ground.phase }, { on := 7, ground := Ground.phase }, { on := 8, ground := Ground.textOnly Departure.lateStores }], guard := none }) (v := ?_) rfl (by kernel_rfl) (by kernel_rfl) (by kernel_rfl) (fun _ _ _ h => h) (Or.inl ⟨by rfl, ?_⟩) hS ?_
    rotate_left
    · intro W_ hSW_
      go_simp
      try with_reducible rfl
    try simp only [Act.put, List.setIfInBounds_toArray, List.set_cons_zero, List.set_cons_succ]
    refine wpAnyH_take (i := 10) (oi := { dst := some 6, op := Op.assign (Operand.tmp 22), type := 42, pos := "law.go:158", after := #[{ on := 8, ground := Ground.data }, { on := 9, ground := Ground.chain }, { on := 0, ground := Ground.phase }, { on := 1, ground := Ground.phase }, { on := 2, ground := Ground.phase }, { on := 3, ground := Ground.phase }, { on := 4, ground := Ground.phase }, { on := 5, ground := Ground.phase }, { on := 6, ground := Ground.phase }, { on := 7, ground := Ground.phase }, { on := 8, ground := Ground.phase }, { on := 9, ground := Ground.phase }], guard := none }) (v := ?_) rfl (by kernel_rfl) (by kernel_rfl) (by kernel_rfl) (fun _ _ _ h => h) (Or.inl ⟨by rfl, ?_⟩) hS ?_
    rotate_left
    · intro W_ hSW_
      go_simp
      try with_reducible rfl
    try simp only [Act.put, List.setIfInBounds_toArray, List.set_cons_zero, List.set_cons_succ]
    refine wpAnyH_done (by kernel_rfl) ?_ _
    go_wp2_with fail
    have HM2 := Aside0.mk HM2.out.drew
    refine wp_region_held_drew (S := fun W_ => W_.heap[b]? = some (.cells #[.slice A l.length c, .slice B d.length cd] 41 (0, 0))) (by kernel_rfl) HM2.out.drop.get (fun hS => ?_)
    refine wpAnyH_take (i := 0) (oi := { dst := some 24, op := Op.move (Operand.tmp 0), type := 2, pos := "law.go:159", after := #[], guard := none }) (v := ?_) rfl (by kernel_rfl) (by kernel_rfl) (by kernel_rfl) (fun _ _ _ h => h) (Or.inl ⟨by rfl, ?_⟩) hS ?_
    rotate_left
    · intro W_ hSW_
      go_simp
      try with_reducible rfl
    try simp only [Act.put, List.setIfInBounds_toArray, List.set_cons_zero, List.set_cons_succ]
    refine wpAnyH_take (i := 1) (oi := { dst := some 25, op := Op.fieldAddr 41 (Operand.tmp 3) 0, type := 0, pos := "law.go:159", after := #[], guard := none }) (v := ?_) rfl (by kernel_rfl) (by kernel_rfl) (by kernel_rfl) (fun _ _ _ h => h) (Or.inl ⟨by rfl, ?_⟩) hS ?_
    rotate_left
    · intro W_ hSW_
      go_simp
      try with_reducible rfl
    try simp only [Act.put, List.setIfInBounds_toArray, List.set_cons_zero, List.set_cons_succ]
    refine wpAnyH_take (i := 2) (oi := { dst := some 26, op := Op.load 38 (Operand.tmp 25), type := 38, pos := "law.go:159", after := #[{ on := 1, ground := Ground.data }], guard := none }) (v := ?_) rfl (by kernel_rfl) (by kernel_rfl) (by kernel_rfl) (fun _ _ _ h => h) (Or.inl ⟨by rfl, ?_⟩) hS ?_
    rotate_left
    · intro W_ hSW_
      have e0 := blk_cell hSW_ 0
      go_simp
      try with_reducible rfl
    try simp only [Act.put, List.setIfInBounds_toArray, List.set_cons_zero, List.set_cons_succ]
    refine wpAnyH_take (i := 4) (oi := { dst := some 28, op := Op.load 41 (Operand.tmp 3), type := 41, pos := "law.go:159", after := #[], guard := none }) (v := ?_) rfl (by kernel_rfl) (by kernel_rfl) (by kernel_rfl) (fun _ _ _ h => h) (Or.inl ⟨by rfl, ?_⟩) hS ?_
    rotate_left
    · intro W_ hSW_
      have e0 := blk_cell hSW_ 0
      have e1 := blk_cell hSW_ 1
      go_simp
      try with_reducible rfl
    try simp only [Act.put, List.setIfInBounds_toArray, List.set_cons_zero, List.set_cons_succ]
    refine wpAnyH_ready (rs := [3]) (by kernel_rfl) (by simp) ?_
    refine AllReadyH.cons (o := { dst := some 27, op := Op.call { callee := Callee.value (Operand.func 19), args := #[Operand.tmp 26], argTypes := #[38] }, type := 48, pos := "law.go:159", after := #[{ on := 2, ground := Ground.data }], guard := none }) rfl (fun K_ hK_ => ?_) AllReadyH.nil
    go_simp
    refine (items_call HM2.out (HCA.out _ HM2.out.below) rfl hcA hl6).mono ?_
    rintro e HM3w ⟨HM3A, HM3c, rfl, HM3h⟩
    have HM3 := Aside0.mk HM3h
    have hSHM3 := HM3.out.drop.drop.get
    clear HM3h
    refine hK_.out _ _ (hSHM3) (fun hS_ => ?_)
    clear hK_ K_ hS
    have hS := hS_
    clear hS_
    try simp only [Act.put, List.setIfInBounds_toArray, List.set_cons_zero, List.set_cons_succ]
    refine wpAnyH_ready (rs := [5]) (by kernel_rfl) (by simp) ?_
    refine AllReadyH.cons (o := { dst := some 29, op := Op.call { callee := Callee.value (Operand.func 17), args := #[Operand.tmp 28], argTypes := #[41] }, type := 45, pos := "law.go:159", after := #[{ on := 4, ground := Ground.data }, { on := 3, ground := Ground.chain }], guard := none }) rfl (fun K_ hK_ => ?_) AllReadyH.nil
    go_simp
    refine (HDUR.out _ HM3.out.below).mono ?_
    rintro e HM4w ⟨HM4g, HM4n, rfl, HM4h⟩
    have HM4 := Aside0.mk (Mem.join HM3.out HM4h (.cons (Lowers.refl _) .nil))
    have hSHM4 := HM4.out.drop.drop.drop.get
    clear HM4h
    refine hK_.out _ _ (hSHM4) (fun hS_ => ?_)
    clear hK_ K_ hS
    have hS := hS_
    clear hS_
    try simp only [Act.put, List.setIfInBounds_toArray, List.set_cons_zero, List.set_cons_succ]
    refine wpAnyH_ready (rs := [6]) (by kernel_rfl) (by simp) ?_
    refine AllReadyH.cons (o := { dst := some 30, op := Op.call { callee := Callee.value (Operand.func 18), args := #[Operand.tmp 24, Operand.tmp 27, Operand.tmp 29], argTypes := #[2, 48, 45] }, type := 43, pos := "law.go:159", after := #[{ on := 0, ground := Ground.data }, { on := 3, ground := Ground.data }, { on := 5, ground := Ground.data }, { on := 5, ground := Ground.chain }], guard := none }) rfl (fun K_ hK_ => ?_) AllReadyH.nil
    go_simp
    obtain ⟨hq5, hC5⟩ := HM4.out.drop.readsE
    refine (RefFeasible_call now HM4.out hC5 rfl hq5 hl40 HW.out).mono ?_
    rintro e HM5w ⟨rfl, HM5h⟩
    have HM5 := Aside0.mk (HM4.out.step HM5h)
    have hSHM5 := HM5.out.drop.drop.drop.get
    clear HM5h hC5 hq5
    refine hK_.out _ _ (hSHM5) (fun hS_ => ?_)
    clear hK_ K_ hS
    have hS := hS_
    clear hS_
    try simp only [Act.put, List.setIfInBounds_toArray, List.set_cons_zero, List.set_cons_succ]
    refine wpAnyH_take (i := 7) (oi := { dst := some 23, op := Op.move (Operand.tmp 30), type := 43, pos := "law.go:159", after := #[{ on := 6, ground := Ground.data }], guard := none }) (v := ?_) rfl (by kernel_rfl) (by kernel_rfl) (by kernel_rfl) (fun _ _ _ h => h) (Or.inl ⟨by rfl, ?_⟩) hS ?_
    rotate_left
    · intro W_ hSW_
      go_simp
      try with_reducible rfl
    try simp only [Act.put, List.setIfInBounds_toArray, List.set_cons_zero, List.set_cons_succ]
    refine wpAnyH_take (i := 8) (oi := { dst := some 31, op := Op.extract (Operand.tmp 23) 0, type := 3, pos := "law.go:159", after := #[{ on := 7, ground := Ground.data }], guard := none }) (v := ?_) rfl (by kernel_rfl) (by kernel_rfl) (by kernel_rfl) (fun _ _ _ h => h) (Or.inl ⟨by rfl, ?_⟩) hS ?_
    rotate_left
    · intro W_ hSW_
      go_simp
      try with_reducible rfl
    try simp only [Act.put, List.setIfInBounds_toArray, List.set_cons_zero, List.set_cons_succ]
    refine wpAnyH_take (i := 9) (oi := { dst := some 32, op := Op.extract (Operand.tmp 23) 1, type := 42, pos := "law.go:159", after := #[{ on := 7, ground := Ground.data }, { on := 10, ground := Ground.gcOnly Departure.lateStores }], guard := none }) (v := ?_) rfl (by kernel_rfl) (by kernel_rfl) (by kernel_rfl) (fun _ _ _ h => h) (Or.inl ⟨by rfl, ?_⟩) hS ?_
    rotate_left
    · intro W_ hSW_
      go_simp
      try with_reducible rfl
    try simp only [Act.put, List.setIfInBounds_toArray, List.set_cons_zero, List.set_cons_succ]
    refine wpAnyH_take (i := 10) (oi := { dst := some 7, op := Op.assign (Operand.tmp 31), type := 3, pos := "law.go:159", after := #[{ on := 8, ground := Ground.data }, { on := 6, ground := Ground.chain }, { on := 0, ground := Ground.phase }, { on := 1, ground := Ground.phase }, { on := 2, ground := Ground.phase }, { on := 3, ground := Ground.phase }, { on := 4, ground := Ground.phase }, { on := 5, ground := Ground.phase }, { on := 6, ground := Ground.phase }, { on := 7, ground := Ground.phase }, { on := 8, ground := Ground.phase }, { on := 9, ground := Ground.textOnly Departure.lateStores }], guard := none }) (v := ?_) rfl (by kernel_rfl) (by kernel_rfl) (by kernel_rfl) (fun _ _ _ h => h) (Or.inl ⟨by rfl, ?_⟩) hS ?_
    rotate_left
    · intro W_ hSW_
      go_simp
      try with_reducible rfl
    try simp only [Act.put, List.setIfInBounds_toArray, List.set_cons_zero, List.set_cons_succ]
    refine wpAnyH_take (i := 11) (oi := { dst := some 8, op := Op.assign (Operand.tmp 32), type := 42, pos := "law.go:159", after := #[{ on := 9, ground := Ground.data }, { on := 10, ground := Ground.chain }, { on := 0, ground := Ground.phase }, { on := 1, ground := Ground.phase }, { on := 2, ground := Ground.phase }, { on := 3, ground := Ground.phase }, { on := 4, ground := Ground.phase }, { on := 5, ground := Ground.phase }, { on := 6, ground := Ground.phase }, { on := 7, ground := Ground.phase }, { on := 8, ground := Ground.phase }, { on := 9, ground := Ground.phase }, { on := 10, ground := Ground.phase }], guard := none }) (v := ?_) rfl (by kernel_rfl) (by kernel_rfl) (by kernel_rfl) (fun _ _ _ h => h) (Or.inl ⟨by rfl, ?_⟩) hS ?_
    rotate_left
    · intro W_ hSW_
      go_simp
      try with_reducible rfl
    try simp only [Act.put, List.setIfInBounds_toArray, List.set_cons_zero, List.set_cons_succ]
    refine wpAnyH_done (by kernel_rfl) ?_ _
    have hbeq : ((feas f now l).1 == (refFeas f now l).1) = true := by rw [feas_ref]; exact beq_self_eq_true _
    have hbeq2 : ((feas f now l).2 == (refFeas f now l).2) = true := by rw [feas_ref]; exact beq_self_eq_true _
    go_wp2_with fail
    refine (examples_call _).mono ?_
    rintro e w9 ⟨rfl, hb9⟩
    have HB9 := Aside0.mk (below_step HM5.out.below hb9)
    clear hb9
    go_wp2_with fail
    go_ret
    exact ⟨rfl, HB9.out⟩

@[reducible] def GoodJ (x : List S30) (d : List Int) : Prop := (x.length * Try.prog.bytesOf 30 ≤ reachBytes ∧ x.length ≤ maxLen ∧ ∀ e ∈ x, ((Lit.int .i64 e.f0).wf = true) ∧ ((Lit.int .i64 e.f1).wf = true)) ∧ (d.length * Try.prog.bytesOf 2 ≤ reachBytes ∧ d.length ≤ maxLen ∧ ∀ e ∈ d, (Lit.int .i64 e).wf = true)
theorem Feas_row {G : Prop} (now : Int) (A : Option Addr) (c : Nat) (x : List S30) (B : Option Addr) (cd : Nat) (d : List Int) (W : World) (hr : k30.C W A x.length x) (hc : x.length ≤ c) (hr2 : (Kd.int .i64).C W B d.length d) (hc2 : d.length ≤ cd) (g : G) (g1 : GoodJ x d) :
    Calls Try.prog 4 #[.int .i64 now, .agg #[.slice A x.length c, .slice B d.length cd]] W fun e w' => e = .returned (.bool true) ∧ Below W.heap.size W w' := by
  have e : x.length = (x.map it).length := (List.length_map _).symm
  rw [e] at hr hc ⊢
  refine Feas_law (l := x.map it) now (by rw [map_un_it]; exact hr) hc hr2 (fun y hy => ?_) g1.2.2.2
  obtain ⟨z, hz, rfl⟩ := List.mem_map.1 hy
  exact (g1.1.2.2 z hz).1
end Go.Proofs.Yteneigadnabolaa.QAl
