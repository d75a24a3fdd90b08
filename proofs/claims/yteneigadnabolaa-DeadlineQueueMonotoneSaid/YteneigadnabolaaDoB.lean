/- The law's 'do', popping and other operations. Printed by mkDoB.py. -/
import Derived.Test.YteneigadnabolaaDoA
namespace Go.Proofs.Yteneigadnabolaa.QAl
open Go.RowKit Go.Proofs.YteneigadnabolaaW.PrintWords Go.Proofs.YteneigadnabolaaW.PrintLast Go.Proofs.YteneigadnabolaaW.PrintMore Go.Proofs.Yteneigadnabolaa.Sl
set_option linter.unusedVariables false
set_option linter.unusedSimpArgs false
variable {L : List Chunk}
set_option maxRecDepth 100000 in
set_option maxHeartbeats 4000000 in
theorem Do_pop_cons {w0 W : World} {g : Nat} {v lv : Value} {yi yd : Int} {r : List Dq.It} (xi xd : Int) (hM : Mem w0 W (both w0 g v lv ((yi, yd) :: r) L)) :
    Calls Try.prog 21 #[.pointer (some ⟨g, 0, none⟩), lv, .agg #[.int .i64 2, .int .i64 xi, .int .i64 xd]] W (DoPost w0 g r L) := by
  obtain ⟨A, c, rfl, hnc, hC⟩ := hM.p2.q_reads
  obtain ⟨N, hN⟩ : ∃ N, W.heap.size = N := ⟨_, rfl⟩
  obtain ⟨m, hm⟩ : ∃ m, m = r.length := ⟨_, rfl⟩
  have hm1 : (((yi, yd) :: r).map u36).length = m + 1 := by rw [hm]; simp
  obtain ⟨b, o, rfl, _, _⟩ := item36_at hC (j := 0) (by rw [hm1]; omega)
  rw [hm1] at hM hnc ⊢
  have HMb := Aside0.mk (hM.new_ (.cells #[.int .i64 2, .int .i64 xi, .int .i64 xd] 27) hN).q3
  have HNW := Aside0.mk hN
  have mixed : Try.prog.follows Departure.mixedOrders = true := by kernel_rfl
  have HM1 := Aside0.mk hm1
  have HMM := Aside0.mk hm
  clear hM hC hN hm1 hm
  go_enter Try.func21, Try.ntmps21
  go_wp2_with fail
  rw [HNW.out]
  refine (Pop_call HMb.out).mono ?_
  rintro e w2 ⟨v2, rfl, hM2⟩
  have hp : pk (((yi, yd) :: r).map un) = .tuple #[.agg #[.int .i64 yi, .int .i64 yd], .bool true] := rfl
  rw [hp]
  obtain ⟨b', o', e', y0, y1⟩ := item36_at hM2.p2.q_C.2.2 (j := 0) (by omega)
  injection e' with e'
  injection e' with e1 e2
  subst e1 e2
  rw [Nat.zero_mul, Nat.add_zero] at y0 y1
  replace y0 : w2.cell? ⟨b, o, none⟩ = some (.int .i64 yi) := y0
  replace y1 : w2.cell? ⟨b, o + 1, none⟩ = some (.int .i64 yd) := y1
  have hbw : b < w2.heap.size := World.block_lt_of_cell? w2 _ y0
  have hbne : ¬ b = w2.heap.size := by omega
  have HM2 := Aside0.mk (hM2.alloc (.cells #[.int .i64 yi, .int .i64 yd] 30)).p3.drop.p2
  have hlen : ¬ ((m : Int) + 1 = 0) := by omega
  have hlen1 : (1 : Int) ≤ (m : Int) + 1 := by omega
  have hlen0 : (0 : Int) < (m : Int) + 1 := by omega
  clear hM2 hp
  by_cases hc1 : c = 1
  · subst hc1
    obtain rfl : m = 0 := by omega
    have HQ := Aside0.mk (HM2.out.q_drop (k := 1) (by simp))
    go_wp2_with fail
    refine wp_region_held_drew (S := fun W => W = (w2.alloc (.cells #[.int .i64 yi, .int .i64 yd] 30)).drew) (by kernel_rfl) rfl (fun hS => ?_)
    refine wpAnyH_take (i := 0) (oi := { dst := some 64, op := Op.move (Operand.tmp 1), type := 48, pos := "law.go:68", after := #[], guard := none }) (v := ?_) rfl (by kernel_rfl) (by kernel_rfl) (by kernel_rfl) (fun _ _ _ h => h) (Or.inl ⟨by rfl, ?_⟩) hS ?_
    rotate_left
    · intro W_ hSW_
      subst hSW_
      go_simp
      try with_reducible rfl
    try simp only [Act.put, List.setIfInBounds_toArray, List.set_cons_zero, List.set_cons_succ]
    refine wpAnyH_take (i := 1) (oi := { dst := some 65, op := Op.slice 48 (Operand.tmp 64) (some (Operand.const (Value.int IntKind.i64 1))) none none, type := 48, pos := "law.go:68", after := #[{ on := 0, ground := Ground.data }], guard := none }) (v := ?_) rfl (by kernel_rfl) (by kernel_rfl) (by kernel_rfl) (fun _ _ _ h => h) (Or.inl ⟨by rfl, ?_⟩) hS ?_
    rotate_left
    · intro W_ hSW_
      subst hSW_
      go_simp
      try with_reducible rfl
    try simp only [Act.put, List.setIfInBounds_toArray, List.set_cons_zero, List.set_cons_succ]
    refine wpAnyH_take (i := 2) (oi := { dst := some 66, op := Op.move (Operand.tmp 11), type := 4, pos := "law.go:68", after := #[], guard := none }) (v := ?_) rfl (by kernel_rfl) (by kernel_rfl) (by kernel_rfl) (fun _ _ _ h => h) (Or.inl ⟨by rfl, ?_⟩) hS ?_
    rotate_left
    · intro W_ hSW_
      subst hSW_
      go_simp
      try with_reducible rfl
    try simp only [Act.put, List.setIfInBounds_toArray, List.set_cons_zero, List.set_cons_succ]
    refine wpAnyH_take (i := 3) (oi := { dst := some 67, op := Op.move (Operand.tmp 66), type := 4, pos := "law.go:68", after := #[{ on := 2, ground := Ground.data }], guard := none }) (v := ?_) rfl (by kernel_rfl) (by kernel_rfl) (by kernel_rfl) (fun _ _ _ h => h) (Or.inl ⟨by rfl, ?_⟩) hS ?_
    rotate_left
    · intro W_ hSW_
      subst hSW_
      go_simp
      try with_reducible rfl
    try simp only [Act.put, List.setIfInBounds_toArray, List.set_cons_zero, List.set_cons_succ]
    refine wpAnyH_take (i := 4) (oi := { dst := some 68, op := Op.fieldAddr 30 (Operand.tmp 10) 0, type := 0, pos := "law.go:68", after := #[{ on := 3, ground := Ground.guard }], guard := some (3, true) }) (v := ?_) rfl (by kernel_rfl) (by kernel_rfl) (by kernel_rfl) (fun _ _ _ h => h) (Or.inl ⟨by rfl, ?_⟩) hS ?_
    rotate_left
    · intro W_ hSW_
      subst hSW_
      go_simp
      try with_reducible rfl
    try simp only [Act.put, List.setIfInBounds_toArray, List.set_cons_zero, List.set_cons_succ]
    refine wpAnyH_take (i := 5) (oi := { dst := some 69, op := Op.load 3 (Operand.tmp 68), type := 3, pos := "law.go:68", after := #[{ on := 4, ground := Ground.data }, { on := 3, ground := Ground.guard }], guard := some (3, true) }) (v := ?_) rfl (by kernel_rfl) (by kernel_rfl) (by kernel_rfl) (fun _ _ _ h => h) (Or.inl ⟨by rfl, ?_⟩) hS ?_
    rotate_left
    · intro W_ hSW_
      subst hSW_
      go_simp
      try with_reducible rfl
    try simp only [Act.put, List.setIfInBounds_toArray, List.set_cons_zero, List.set_cons_succ]
    refine wpAnyH_take (i := 6) (oi := { dst := some 70, op := Op.move (Operand.tmp 1), type := 48, pos := "law.go:68", after := #[{ on := 3, ground := Ground.guard }], guard := some (3, true) }) (v := ?_) rfl (by kernel_rfl) (by kernel_rfl) (by kernel_rfl) (fun _ _ _ h => h) (Or.inl ⟨by rfl, ?_⟩) hS ?_
    rotate_left
    · intro W_ hSW_
      subst hSW_
      go_simp
      try with_reducible rfl
    try simp only [Act.put, List.setIfInBounds_toArray, List.set_cons_zero, List.set_cons_succ]
    refine wpAnyH_take (i := 7) (oi := { dst := some 71, op := Op.indexAddr 48 (Operand.tmp 70) (Operand.const (Value.int IntKind.i64 0)), type := 0, pos := "law.go:68", after := #[{ on := 6, ground := Ground.data }, { on := 3, ground := Ground.guard }], guard := some (3, true) }) (v := ?_) rfl (by kernel_rfl) (by kernel_rfl) (by kernel_rfl) (fun _ _ _ h => h) (Or.inl ⟨by rfl, ?_⟩) hS ?_
    rotate_left
    · intro W_ hSW_
      subst hSW_
      go_simp
      try with_reducible rfl
    try simp only [Act.put, List.setIfInBounds_toArray, List.set_cons_zero, List.set_cons_succ]
    refine wpAnyH_take (i := 8) (oi := { dst := some 72, op := Op.fieldAddr 36 (Operand.tmp 71) 0, type := 0, pos := "law.go:68", after := #[{ on := 7, ground := Ground.data }, { on := 3, ground := Ground.guard }], guard := some (3, true) }) (v := ?_) rfl (by kernel_rfl) (by kernel_rfl) (by kernel_rfl) (fun _ _ _ h => h) (Or.inl ⟨by rfl, ?_⟩) hS ?_
    rotate_left
    · intro W_ hSW_
      subst hSW_
      go_simp
      try with_reducible rfl
    try simp only [Act.put, List.setIfInBounds_toArray, List.set_cons_zero, List.set_cons_succ]
    refine wpAnyH_take (i := 9) (oi := { dst := some 73, op := Op.load 3 (Operand.tmp 72), type := 3, pos := "law.go:68", after := #[{ on := 8, ground := Ground.data }, { on := 3, ground := Ground.guard }], guard := some (3, true) }) (v := ?_) rfl (by kernel_rfl) (by kernel_rfl) (by kernel_rfl) (fun _ _ _ h => h) (Or.inl ⟨by rfl, ?_⟩) hS ?_
    rotate_left
    · intro W_ hSW_
      subst hSW_
      go_simp
      try with_reducible rfl
    try simp only [Act.put, List.setIfInBounds_toArray, List.set_cons_zero, List.set_cons_succ]
    refine wpAnyH_take (i := 10) (oi := { dst := some 74, op := Op.binOp BinOp.eql 3 (Operand.tmp 69) (Operand.tmp 73) 3, type := 4, pos := "law.go:68", after := #[{ on := 5, ground := Ground.data }, { on := 9, ground := Ground.data }, { on := 3, ground := Ground.guard }], guard := some (3, true) }) (v := ?_) rfl (by kernel_rfl) (by kernel_rfl) (by kernel_rfl) (fun _ _ _ h => h) (Or.inl ⟨by rfl, ?_⟩) hS ?_
    rotate_left
    · intro W_ hSW_
      subst hSW_
      go_simp
      try with_reducible rfl
    try simp only [Act.put, List.setIfInBounds_toArray, List.set_cons_zero, List.set_cons_succ]
    refine wpAnyH_take (i := 11) (oi := { dst := some 75, op := Op.pick (Operand.tmp 67) (Operand.tmp 74) (Operand.const (Value.bool false)), type := 4, pos := "law.go:68", after := #[{ on := 3, ground := Ground.data }, { on := 10, ground := Ground.data }], guard := none }) (v := ?_) rfl (by kernel_rfl) (by kernel_rfl) (by kernel_rfl) (fun _ _ _ h => h) (Or.inl ⟨by rfl, ?_⟩) hS ?_
    rotate_left
    · intro W_ hSW_
      subst hSW_
      go_simp
      try with_reducible rfl
    try simp only [Act.put, List.setIfInBounds_toArray, List.set_cons_zero, List.set_cons_succ]
    refine wpAnyH_take (i := 12) (oi := { dst := some 76, op := Op.move (Operand.tmp 75), type := 4, pos := "law.go:68", after := #[{ on := 11, ground := Ground.data }, { on := 3, ground := Ground.chain }], guard := none }) (v := ?_) rfl (by kernel_rfl) (by kernel_rfl) (by kernel_rfl) (fun _ _ _ h => h) (Or.inl ⟨by rfl, ?_⟩) hS ?_
    rotate_left
    · intro W_ hSW_
      subst hSW_
      go_simp
      try with_reducible rfl
    try simp only [Act.put, List.setIfInBounds_toArray, List.set_cons_zero, List.set_cons_succ]
    refine wpAnyH_take (i := 13) (oi := { dst := some 77, op := Op.fieldAddr 30 (Operand.tmp 10) 1, type := 0, pos := "law.go:68", after := #[{ on := 12, ground := Ground.guard }, { on := 21, ground := Ground.gcOnly Departure.lateStores }], guard := some (12, true) }) (v := ?_) rfl (by kernel_rfl) (by kernel_rfl) (by kernel_rfl) (fun _ _ _ h => h) (Or.inl ⟨by rfl, ?_⟩) hS ?_
    rotate_left
    · intro W_ hSW_
      subst hSW_
      go_simp
      try with_reducible rfl
    try simp only [Act.put, List.setIfInBounds_toArray, List.set_cons_zero, List.set_cons_succ]
    refine wpAnyH_take (i := 14) (oi := { dst := some 78, op := Op.load 2 (Operand.tmp 77), type := 2, pos := "law.go:68", after := #[{ on := 13, ground := Ground.data }, { on := 12, ground := Ground.guard }, { on := 21, ground := Ground.gcOnly Departure.lateStores }], guard := some (12, true) }) (v := ?_) rfl (by kernel_rfl) (by kernel_rfl) (by kernel_rfl) (fun _ _ _ h => h) (Or.inl ⟨by rfl, ?_⟩) hS ?_
    rotate_left
    · intro W_ hSW_
      subst hSW_
      go_simp
      try with_reducible rfl
    try simp only [Act.put, List.setIfInBounds_toArray, List.set_cons_zero, List.set_cons_succ]
    refine wpAnyH_take (i := 15) (oi := { dst := some 79, op := Op.move (Operand.tmp 1), type := 48, pos := "law.go:68", after := #[{ on := 12, ground := Ground.guard }, { on := 21, ground := Ground.gcOnly Departure.lateStores }], guard := some (12, true) }) (v := ?_) rfl (by kernel_rfl) (by kernel_rfl) (by kernel_rfl) (fun _ _ _ h => h) (Or.inl ⟨by rfl, ?_⟩) hS ?_
    rotate_left
    · intro W_ hSW_
      subst hSW_
      go_simp
      try with_reducible rfl
    try simp only [Act.put, List.setIfInBounds_toArray, List.set_cons_zero, List.set_cons_succ]
    refine wpAnyH_take (i := 16) (oi := { dst := some 80, op := Op.indexAddr 48 (Operand.tmp 79) (Operand.const (Value.int IntKind.i64 0)), type := 0, pos := "law.go:68", after := #[{ on := 15, ground := Ground.data }, { on := 12, ground := Ground.guard }, { on := 21, ground := Ground.gcOnly Departure.lateStores }], guard := some (12, true) }) (v := ?_) rfl (by kernel_rfl) (by kernel_rfl) (by kernel_rfl) (fun _ _ _ h => h) (Or.inl ⟨by rfl, ?_⟩) hS ?_
    rotate_left
    · intro W_ hSW_
      subst hSW_
      go_simp
      try with_reducible rfl
    try simp only [Act.put, List.setIfInBounds_toArray, List.set_cons_zero, List.set_cons_succ]
    refine wpAnyH_take (i := 17) (oi := { dst := some 81, op := Op.fieldAddr 36 (Operand.tmp 80) 1, type := 0, pos := "law.go:68", after := #[{ on := 16, ground := Ground.data }, { on := 12, ground := Ground.guard }, { on := 21, ground := Ground.gcOnly Departure.lateStores }], guard := some (12, true) }) (v := ?_) rfl (by kernel_rfl) (by kernel_rfl) (by kernel_rfl) (fun _ _ _ h => h) (Or.inl ⟨by rfl, ?_⟩) hS ?_
    rotate_left
    · intro W_ hSW_
      subst hSW_
      go_simp
      try with_reducible rfl
    try simp only [Act.put, List.setIfInBounds_toArray, List.set_cons_zero, List.set_cons_succ]
    refine wpAnyH_take (i := 18) (oi := { dst := some 82, op := Op.load 2 (Operand.tmp 81), type := 2, pos := "law.go:68", after := #[{ on := 17, ground := Ground.data }, { on := 12, ground := Ground.guard }, { on := 21, ground := Ground.gcOnly Departure.lateStores }], guard := some (12, true) }) (v := ?_) rfl (by kernel_rfl) (by kernel_rfl) (by kernel_rfl) (fun _ _ _ h => h) (Or.inl ⟨by rfl, ?_⟩) hS ?_
    rotate_left
    · intro W_ hSW_
      subst hSW_
      go_simp
      try with_reducible rfl
    try simp only [Act.put, List.setIfInBounds_toArray, List.set_cons_zero, List.set_cons_succ]
    refine wpAnyH_take (i := 19) (oi := { dst := some 83, op := Op.binOp BinOp.eql 2 (Operand.tmp 78) (Operand.tmp 82) 2, type := 4, pos := "law.go:68", after := #[{ on := 14, ground := Ground.data }, { on := 18, ground := Ground.data }, { on := 12, ground := Ground.guard }, { on := 21, ground := Ground.gcOnly Departure.lateStores }], guard := some (12, true) }) (v := ?_) rfl (by kernel_rfl) (by kernel_rfl) (by kernel_rfl) (fun _ _ _ h => h) (Or.inl ⟨by rfl, ?_⟩) hS ?_
    rotate_left
    · intro W_ hSW_
      subst hSW_
      go_simp
      try with_reducible rfl
    try simp only [Act.put, List.setIfInBounds_toArray, List.set_cons_zero, List.set_cons_succ]
    refine wpAnyH_take (i := 20) (oi := { dst := some 84, op := Op.pick (Operand.tmp 76) (Operand.tmp 83) (Operand.const (Value.bool false)), type := 4, pos := "law.go:68", after := #[{ on := 12, ground := Ground.data }, { on := 19, ground := Ground.data }, { on := 21, ground := Ground.gcOnly Departure.lateStores }], guard := none }) (v := ?_) rfl (by kernel_rfl) (by kernel_rfl) (by kernel_rfl) (fun _ _ _ h => h) (Or.inl ⟨by rfl, ?_⟩) hS ?_
    rotate_left
    · intro W_ hSW_
      subst hSW_
      go_simp
      try with_reducible rfl
    try simp only [Act.put, List.setIfInBounds_toArray, List.set_cons_zero, List.set_cons_succ]
    refine wpAnyH_take (i := 21) (oi := { dst := some 6, op := Op.assign (Operand.tmp 65), type := 48, pos := "law.go:68", after := #[{ on := 1, ground := Ground.data }, { on := 12, ground := Ground.chain }, { on := 0, ground := Ground.phase }, { on := 1, ground := Ground.phase }, { on := 2, ground := Ground.textOnly Departure.lateStores }, { on := 3, ground := Ground.textOnly Departure.lateStores }, { on := 4, ground := Ground.textOnly Departure.lateStores }, { on := 5, ground := Ground.textOnly Departure.lateStores }, { on := 6, ground := Ground.textOnly Departure.lateStores }, { on := 7, ground := Ground.textOnly Departure.lateStores }, { on := 8, ground := Ground.textOnly Departure.lateStores }, { on := 9, ground := Ground.textOnly Departure.lateStores }, { on := 10, ground := Ground.textOnly Departure.lateStores }, { on := 11, ground := Ground.textOnly Departure.lateStores }, { on := 12, ground := Ground.textOnly Departure.lateStores }, { on := 13, ground := Ground.textOnly Departure.lateStores }, { on := 14, ground := Ground.textOnly Departure.lateStores }, { on := 15, ground := Ground.textOnly Departure.lateStores }, { on := 16, ground := Ground.textOnly Departure.lateStores }, { on := 17, ground := Ground.textOnly Departure.lateStores }, { on := 18, ground := Ground.textOnly Departure.lateStores }, { on := 19, ground := Ground.textOnly Departure.lateStores }, { on := 20, ground := Ground.textOnly Departure.lateStores }], guard := none }) (v := ?_) rfl (by kernel_rfl) (by kernel_rfl) (by kernel_rfl) (fun _ _ _ h => h) (Or.inl ⟨by rfl, ?_⟩) hS ?_
    rotate_left
    · intro W_ hSW_
      subst hSW_
      go_simp
      try with_reducible rfl
    try simp only [Act.put, List.setIfInBounds_toArray, List.set_cons_zero, List.set_cons_succ]
    refine wpAnyH_take (i := 22) (oi := { dst := some 7, op := Op.assign (Operand.tmp 84), type := 4, pos := "law.go:68", after := #[{ on := 20, ground := Ground.data }, { on := 21, ground := Ground.chain }, { on := 0, ground := Ground.phase }, { on := 1, ground := Ground.phase }, { on := 2, ground := Ground.phase }, { on := 3, ground := Ground.phase }, { on := 4, ground := Ground.phase }, { on := 5, ground := Ground.phase }, { on := 6, ground := Ground.phase }, { on := 7, ground := Ground.phase }, { on := 8, ground := Ground.phase }, { on := 9, ground := Ground.phase }, { on := 10, ground := Ground.phase }, { on := 11, ground := Ground.phase }, { on := 12, ground := Ground.phase }, { on := 13, ground := Ground.phase }, { on := 14, ground := Ground.phase }, { on := 15, ground := Ground.phase }, { on := 16, ground := Ground.phase }, { on := 17, ground := Ground.phase }, { on := 18, ground := Ground.phase }, { on := 19, ground := Ground.phase }, { on := 20, ground := Ground.phase }, { on := 21, ground := Ground.phase }], guard := none }) (v := ?_) rfl (by kernel_rfl) (by kernel_rfl) (by kernel_rfl) (fun _ _ _ h => h) (Or.inl ⟨by rfl, ?_⟩) hS ?_
    rotate_left
    · intro W_ hSW_
      subst hSW_
      go_simp
      try with_reducible rfl
    try simp only [Act.put, List.setIfInBounds_toArray, List.set_cons_zero, List.set_cons_succ]
    refine wpAnyH_done (by kernel_rfl) ?_ _
    go_wp2_with fail
    go_ret2
    exact ⟨v2, .slice (some ⟨b, o, none⟩) 0 0, rfl, HQ.out.q2.drew⟩
  · have HQ := Aside0.mk (HM2.out.q_drop (k := 1) (by simp))
    rw [if_neg hc1] at HQ
    go_wp2_with fail
    refine wp_region_held_drew (S := fun W => W = (w2.alloc (.cells #[.int .i64 yi, .int .i64 yd] 30)).drew) (by kernel_rfl) rfl (fun hS => ?_)
    refine wpAnyH_take (i := 0) (oi := { dst := some 64, op := Op.move (Operand.tmp 1), type := 48, pos := "law.go:68", after := #[], guard := none }) (v := ?_) rfl (by kernel_rfl) (by kernel_rfl) (by kernel_rfl) (fun _ _ _ h => h) (Or.inl ⟨by rfl, ?_⟩) hS ?_
    rotate_left
    · intro W_ hSW_
      subst hSW_
      go_simp
      try with_reducible rfl
    try simp only [Act.put, List.setIfInBounds_toArray, List.set_cons_zero, List.set_cons_succ]
    refine wpAnyH_take (i := 1) (oi := { dst := some 65, op := Op.slice 48 (Operand.tmp 64) (some (Operand.const (Value.int IntKind.i64 1))) none none, type := 48, pos := "law.go:68", after := #[{ on := 0, ground := Ground.data }], guard := none }) (v := ?_) rfl (by kernel_rfl) (by kernel_rfl) (by kernel_rfl) (fun _ _ _ h => h) (Or.inl ⟨by rfl, ?_⟩) hS ?_
    rotate_left
    · intro W_ hSW_
      subst hSW_
      go_simp
      try with_reducible rfl
    try simp only [Act.put, List.setIfInBounds_toArray, List.set_cons_zero, List.set_cons_succ]
    refine wpAnyH_take (i := 2) (oi := { dst := some 66, op := Op.move (Operand.tmp 11), type := 4, pos := "law.go:68", after := #[], guard := none }) (v := ?_) rfl (by kernel_rfl) (by kernel_rfl) (by kernel_rfl) (fun _ _ _ h => h) (Or.inl ⟨by rfl, ?_⟩) hS ?_
    rotate_left
    · intro W_ hSW_
      subst hSW_
      go_simp
      try with_reducible rfl
    try simp only [Act.put, List.setIfInBounds_toArray, List.set_cons_zero, List.set_cons_succ]
    refine wpAnyH_take (i := 3) (oi := { dst := some 67, op := Op.move (Operand.tmp 66), type := 4, pos := "law.go:68", after := #[{ on := 2, ground := Ground.data }], guard := none }) (v := ?_) rfl (by kernel_rfl) (by kernel_rfl) (by kernel_rfl) (fun _ _ _ h => h) (Or.inl ⟨by rfl, ?_⟩) hS ?_
    rotate_left
    · intro W_ hSW_
      subst hSW_
      go_simp
      try with_reducible rfl
    try simp only [Act.put, List.setIfInBounds_toArray, List.set_cons_zero, List.set_cons_succ]
    refine wpAnyH_take (i := 4) (oi := { dst := some 68, op := Op.fieldAddr 30 (Operand.tmp 10) 0, type := 0, pos := "law.go:68", after := #[{ on := 3, ground := Ground.guard }], guard := some (3, true) }) (v := ?_) rfl (by kernel_rfl) (by kernel_rfl) (by kernel_rfl) (fun _ _ _ h => h) (Or.inl ⟨by rfl, ?_⟩) hS ?_
    rotate_left
    · intro W_ hSW_
      subst hSW_
      go_simp
      try with_reducible rfl
    try simp only [Act.put, List.setIfInBounds_toArray, List.set_cons_zero, List.set_cons_succ]
    refine wpAnyH_take (i := 5) (oi := { dst := some 69, op := Op.load 3 (Operand.tmp 68), type := 3, pos := "law.go:68", after := #[{ on := 4, ground := Ground.data }, { on := 3, ground := Ground.guard }], guard := some (3, true) }) (v := ?_) rfl (by kernel_rfl) (by kernel_rfl) (by kernel_rfl) (fun _ _ _ h => h) (Or.inl ⟨by rfl, ?_⟩) hS ?_
    rotate_left
    · intro W_ hSW_
      subst hSW_
      go_simp
      try with_reducible rfl
    try simp only [Act.put, List.setIfInBounds_toArray, List.set_cons_zero, List.set_cons_succ]
    refine wpAnyH_take (i := 6) (oi := { dst := some 70, op := Op.move (Operand.tmp 1), type := 48, pos := "law.go:68", after := #[{ on := 3, ground := Ground.guard }], guard := some (3, true) }) (v := ?_) rfl (by kernel_rfl) (by kernel_rfl) (by kernel_rfl) (fun _ _ _ h => h) (Or.inl ⟨by rfl, ?_⟩) hS ?_
    rotate_left
    · intro W_ hSW_
      subst hSW_
      go_simp
      try with_reducible rfl
    try simp only [Act.put, List.setIfInBounds_toArray, List.set_cons_zero, List.set_cons_succ]
    refine wpAnyH_take (i := 7) (oi := { dst := some 71, op := Op.indexAddr 48 (Operand.tmp 70) (Operand.const (Value.int IntKind.i64 0)), type := 0, pos := "law.go:68", after := #[{ on := 6, ground := Ground.data }, { on := 3, ground := Ground.guard }], guard := some (3, true) }) (v := ?_) rfl (by kernel_rfl) (by kernel_rfl) (by kernel_rfl) (fun _ _ _ h => h) (Or.inl ⟨by rfl, ?_⟩) hS ?_
    rotate_left
    · intro W_ hSW_
      subst hSW_
      go_simp
      try with_reducible rfl
    try simp only [Act.put, List.setIfInBounds_toArray, List.set_cons_zero, List.set_cons_succ]
    refine wpAnyH_take (i := 8) (oi := { dst := some 72, op := Op.fieldAddr 36 (Operand.tmp 71) 0, type := 0, pos := "law.go:68", after := #[{ on := 7, ground := Ground.data }, { on := 3, ground := Ground.guard }], guard := some (3, true) }) (v := ?_) rfl (by kernel_rfl) (by kernel_rfl) (by kernel_rfl) (fun _ _ _ h => h) (Or.inl ⟨by rfl, ?_⟩) hS ?_
    rotate_left
    · intro W_ hSW_
      subst hSW_
      go_simp
      try with_reducible rfl
    try simp only [Act.put, List.setIfInBounds_toArray, List.set_cons_zero, List.set_cons_succ]
    refine wpAnyH_take (i := 9) (oi := { dst := some 73, op := Op.load 3 (Operand.tmp 72), type := 3, pos := "law.go:68", after := #[{ on := 8, ground := Ground.data }, { on := 3, ground := Ground.guard }], guard := some (3, true) }) (v := ?_) rfl (by kernel_rfl) (by kernel_rfl) (by kernel_rfl) (fun _ _ _ h => h) (Or.inl ⟨by rfl, ?_⟩) hS ?_
    rotate_left
    · intro W_ hSW_
      subst hSW_
      go_simp
      try with_reducible rfl
    try simp only [Act.put, List.setIfInBounds_toArray, List.set_cons_zero, List.set_cons_succ]
    refine wpAnyH_take (i := 10) (oi := { dst := some 74, op := Op.binOp BinOp.eql 3 (Operand.tmp 69) (Operand.tmp 73) 3, type := 4, pos := "law.go:68", after := #[{ on := 5, ground := Ground.data }, { on := 9, ground := Ground.data }, { on := 3, ground := Ground.guard }], guard := some (3, true) }) (v := ?_) rfl (by kernel_rfl) (by kernel_rfl) (by kernel_rfl) (fun _ _ _ h => h) (Or.inl ⟨by rfl, ?_⟩) hS ?_
    rotate_left
    · intro W_ hSW_
      subst hSW_
      go_simp
      try with_reducible rfl
    try simp only [Act.put, List.setIfInBounds_toArray, List.set_cons_zero, List.set_cons_succ]
    refine wpAnyH_take (i := 11) (oi := { dst := some 75, op := Op.pick (Operand.tmp 67) (Operand.tmp 74) (Operand.const (Value.bool false)), type := 4, pos := "law.go:68", after := #[{ on := 3, ground := Ground.data }, { on := 10, ground := Ground.data }], guard := none }) (v := ?_) rfl (by kernel_rfl) (by kernel_rfl) (by kernel_rfl) (fun _ _ _ h => h) (Or.inl ⟨by rfl, ?_⟩) hS ?_
    rotate_left
    · intro W_ hSW_
      subst hSW_
      go_simp
      try with_reducible rfl
    try simp only [Act.put, List.setIfInBounds_toArray, List.set_cons_zero, List.set_cons_succ]
    refine wpAnyH_take (i := 12) (oi := { dst := some 76, op := Op.move (Operand.tmp 75), type := 4, pos := "law.go:68", after := #[{ on := 11, ground := Ground.data }, { on := 3, ground := Ground.chain }], guard := none }) (v := ?_) rfl (by kernel_rfl) (by kernel_rfl) (by kernel_rfl) (fun _ _ _ h => h) (Or.inl ⟨by rfl, ?_⟩) hS ?_
    rotate_left
    · intro W_ hSW_
      subst hSW_
      go_simp
      try with_reducible rfl
    try simp only [Act.put, List.setIfInBounds_toArray, List.set_cons_zero, List.set_cons_succ]
    refine wpAnyH_take (i := 13) (oi := { dst := some 77, op := Op.fieldAddr 30 (Operand.tmp 10) 1, type := 0, pos := "law.go:68", after := #[{ on := 12, ground := Ground.guard }, { on := 21, ground := Ground.gcOnly Departure.lateStores }], guard := some (12, true) }) (v := ?_) rfl (by kernel_rfl) (by kernel_rfl) (by kernel_rfl) (fun _ _ _ h => h) (Or.inl ⟨by rfl, ?_⟩) hS ?_
    rotate_left
    · intro W_ hSW_
      subst hSW_
      go_simp
      try with_reducible rfl
    try simp only [Act.put, List.setIfInBounds_toArray, List.set_cons_zero, List.set_cons_succ]
    refine wpAnyH_take (i := 14) (oi := { dst := some 78, op := Op.load 2 (Operand.tmp 77), type := 2, pos := "law.go:68", after := #[{ on := 13, ground := Ground.data }, { on := 12, ground := Ground.guard }, { on := 21, ground := Ground.gcOnly Departure.lateStores }], guard := some (12, true) }) (v := ?_) rfl (by kernel_rfl) (by kernel_rfl) (by kernel_rfl) (fun _ _ _ h => h) (Or.inl ⟨by rfl, ?_⟩) hS ?_
    rotate_left
    · intro W_ hSW_
      subst hSW_
      go_simp
      try with_reducible rfl
    try simp only [Act.put, List.setIfInBounds_toArray, List.set_cons_zero, List.set_cons_succ]
    refine wpAnyH_take (i := 15) (oi := { dst := some 79, op := Op.move (Operand.tmp 1), type := 48, pos := "law.go:68", after := #[{ on := 12, ground := Ground.guard }, { on := 21, ground := Ground.gcOnly Departure.lateStores }], guard := some (12, true) }) (v := ?_) rfl (by kernel_rfl) (by kernel_rfl) (by kernel_rfl) (fun _ _ _ h => h) (Or.inl ⟨by rfl, ?_⟩) hS ?_
    rotate_left
    · intro W_ hSW_
      subst hSW_
      go_simp
      try with_reducible rfl
    try simp only [Act.put, List.setIfInBounds_toArray, List.set_cons_zero, List.set_cons_succ]
    refine wpAnyH_take (i := 16) (oi := { dst := some 80, op := Op.indexAddr 48 (Operand.tmp 79) (Operand.const (Value.int IntKind.i64 0)), type := 0, pos := "law.go:68", after := #[{ on := 15, ground := Ground.data }, { on := 12, ground := Ground.guard }, { on := 21, ground := Ground.gcOnly Departure.lateStores }], guard := some (12, true) }) (v := ?_) rfl (by kernel_rfl) (by kernel_rfl) (by kernel_rfl) (fun _ _ _ h => h) (Or.inl ⟨by rfl, ?_⟩) hS ?_
    rotate_left
    · intro W_ hSW_
      subst hSW_
      go_simp
      try with_reducible rfl
    try simp only [Act.put, List.setIfInBounds_toArray, List.set_cons_zero, List.set_cons_succ]
    refine wpAnyH_take (i := 17) (oi := { dst := some 81, op := Op.fieldAddr 36 (Operand.tmp 80) 1, type := 0, pos := "law.go:68", after := #[{ on := 16, ground := Ground.data }, { on := 12, ground := Ground.guard }, { on := 21, ground := Ground.gcOnly Departure.lateStores }], guard := some (12, true) }) (v := ?_) rfl (by kernel_rfl) (by kernel_rfl) (by kernel_rfl) (fun _ _ _ h => h) (Or.inl ⟨by rfl, ?_⟩) hS ?_
    rotate_left
    · intro W_ hSW_
      subst hSW_
      go_simp
      try with_reducible rfl
    try simp only [Act.put, List.setIfInBounds_toArray, List.set_cons_zero, List.set_cons_succ]
    refine wpAnyH_take (i := 18) (oi := { dst := some 82, op := Op.load 2 (Operand.tmp 81), type := 2, pos := "law.go:68", after := #[{ on := 17, ground := Ground.data }, { on := 12, ground := Ground.guard }, { on := 21, ground := Ground.gcOnly Departure.lateStores }], guard := some (12, true) }) (v := ?_) rfl (by kernel_rfl) (by kernel_rfl) (by kernel_rfl) (fun _ _ _ h => h) (Or.inl ⟨by rfl, ?_⟩) hS ?_
    rotate_left
    · intro W_ hSW_
      subst hSW_
      go_simp
      try with_reducible rfl
    try simp only [Act.put, List.setIfInBounds_toArray, List.set_cons_zero, List.set_cons_succ]
    refine wpAnyH_take (i := 19) (oi := { dst := some 83, op := Op.binOp BinOp.eql 2 (Operand.tmp 78) (Operand.tmp 82) 2, type := 4, pos := "law.go:68", after := #[{ on := 14, ground := Ground.data }, { on := 18, ground := Ground.data }, { on := 12, ground := Ground.guard }, { on := 21, ground := Ground.gcOnly Departure.lateStores }], guard := some (12, true) }) (v := ?_) rfl (by kernel_rfl) (by kernel_rfl) (by kernel_rfl) (fun _ _ _ h => h) (Or.inl ⟨by rfl, ?_⟩) hS ?_
    rotate_left
    · intro W_ hSW_
      subst hSW_
      go_simp
      try with_reducible rfl
    try simp only [Act.put, List.setIfInBounds_toArray, List.set_cons_zero, List.set_cons_succ]
    refine wpAnyH_take (i := 20) (oi := { dst := some 84, op := Op.pick (Operand.tmp 76) (Operand.tmp 83) (Operand.const (Value.bool false)), type := 4, pos := "law.go:68", after := #[{ on := 12, ground := Ground.data }, { on := 19, ground := Ground.data }, { on := 21, ground := Ground.gcOnly Departure.lateStores }], guard := none }) (v := ?_) rfl (by kernel_rfl) (by kernel_rfl) (by kernel_rfl) (fun _ _ _ h => h) (Or.inl ⟨by rfl, ?_⟩) hS ?_
    rotate_left
    · intro W_ hSW_
      subst hSW_
      go_simp
      try with_reducible rfl
    try simp only [Act.put, List.setIfInBounds_toArray, List.set_cons_zero, List.set_cons_succ]
    refine wpAnyH_take (i := 21) (oi := { dst := some 6, op := Op.assign (Operand.tmp 65), type := 48, pos := "law.go:68", after := #[{ on := 1, ground := Ground.data }, { on := 12, ground := Ground.chain }, { on := 0, ground := Ground.phase }, { on := 1, ground := Ground.phase }, { on := 2, ground := Ground.textOnly Departure.lateStores }, { on := 3, ground := Ground.textOnly Departure.lateStores }, { on := 4, ground := Ground.textOnly Departure.lateStores }, { on := 5, ground := Ground.textOnly Departure.lateStores }, { on := 6, ground := Ground.textOnly Departure.lateStores }, { on := 7, ground := Ground.textOnly Departure.lateStores }, { on := 8, ground := Ground.textOnly Departure.lateStores }, { on := 9, ground := Ground.textOnly Departure.lateStores }, { on := 10, ground := Ground.textOnly Departure.lateStores }, { on := 11, ground := Ground.textOnly Departure.lateStores }, { on := 12, ground := Ground.textOnly Departure.lateStores }, { on := 13, ground := Ground.textOnly Departure.lateStores }, { on := 14, ground := Ground.textOnly Departure.lateStores }, { on := 15, ground := Ground.textOnly Departure.lateStores }, { on := 16, ground := Ground.textOnly Departure.lateStores }, { on := 17, ground := Ground.textOnly Departure.lateStores }, { on := 18, ground := Ground.textOnly Departure.lateStores }, { on := 19, ground := Ground.textOnly Departure.lateStores }, { on := 20, ground := Ground.textOnly Departure.lateStores }], guard := none }) (v := ?_) rfl (by kernel_rfl) (by kernel_rfl) (by kernel_rfl) (fun _ _ _ h => h) (Or.inl ⟨by rfl, ?_⟩) hS ?_
    rotate_left
    · intro W_ hSW_
      subst hSW_
      go_simp
      try with_reducible rfl
    try simp only [Act.put, List.setIfInBounds_toArray, List.set_cons_zero, List.set_cons_succ]
    refine wpAnyH_take (i := 22) (oi := { dst := some 7, op := Op.assign (Operand.tmp 84), type := 4, pos := "law.go:68", after := #[{ on := 20, ground := Ground.data }, { on := 21, ground := Ground.chain }, { on := 0, ground := Ground.phase }, { on := 1, ground := Ground.phase }, { on := 2, ground := Ground.phase }, { on := 3, ground := Ground.phase }, { on := 4, ground := Ground.phase }, { on := 5, ground := Ground.phase }, { on := 6, ground := Ground.phase }, { on := 7, ground := Ground.phase }, { on := 8, ground := Ground.phase }, { on := 9, ground := Ground.phase }, { on := 10, ground := Ground.phase }, { on := 11, ground := Ground.phase }, { on := 12, ground := Ground.phase }, { on := 13, ground := Ground.phase }, { on := 14, ground := Ground.phase }, { on := 15, ground := Ground.phase }, { on := 16, ground := Ground.phase }, { on := 17, ground := Ground.phase }, { on := 18, ground := Ground.phase }, { on := 19, ground := Ground.phase }, { on := 20, ground := Ground.phase }, { on := 21, ground := Ground.phase }], guard := none }) (v := ?_) rfl (by kernel_rfl) (by kernel_rfl) (by kernel_rfl) (fun _ _ _ h => h) (Or.inl ⟨by rfl, ?_⟩) hS ?_
    rotate_left
    · intro W_ hSW_
      subst hSW_
      go_simp
      try with_reducible rfl
    try simp only [Act.put, List.setIfInBounds_toArray, List.set_cons_zero, List.set_cons_succ]
    refine wpAnyH_done (by kernel_rfl) ?_ _
    go_wp2_with fail
    go_ret2
    exact ⟨v2, .slice (some ⟨b, o + 2, none⟩) m (c - 1), rfl, by have := HQ.out.q2.drew; rw [Option.map_some, add_at] at this; exact this⟩
theorem Do_other {w0 W : World} {g : Nat} {v lv : Value} {q : List Dq.It} (k xi xd : Int) (hk0 : k ≠ 0) (hk1 : k ≠ 1) (hk2 : k ≠ 2) (hM : Mem w0 W (both w0 g v lv q L)) :
    Calls Try.prog 21 #[.pointer (some ⟨g, 0, none⟩), lv, .agg #[.int .i64 k, .int .i64 xi, .int .i64 xd]] W (DoPost w0 g q L) := by
  obtain ⟨A, c, rfl, hnc, hC⟩ := hM.p2.q_reads
  have HM := Aside0.mk (hM.alloc (.cells #[.int .i64 k, .int .i64 xi, .int .i64 xd] 27))
  have h0 : (k == 0) = false := by simpa using hk0
  have h1 : (k == 1) = false := by simpa using hk1
  have h2 : (k == 2) = false := by simpa using hk2
  obtain ⟨n, hn⟩ : ∃ n, n = (q.map u36).length := ⟨_, rfl⟩
  rw [← hn] at HM ⊢
  clear hM hC hnc hn hk0 hk1 hk2
  go_enter Try.func21, Try.ntmps21
  go_wp2_with fail
  go_ret2
  exact ⟨_, _, rfl, HM.out⟩
/-- One operation. -/
theorem Do_call {w0 W : World} {g : Nat} {v lv : Value} {q : List Dq.It} (k xi xd : Int) (hM : Mem w0 W (both w0 g v lv q L)) (hl : q.length ≤ 900) (hq : Dq.Ok q) :
    Calls Try.prog 21 #[.pointer (some ⟨g, 0, none⟩), lv, .agg #[.int .i64 k, .int .i64 xi, .int .i64 xd]] W (DoPost w0 g (stepQ q k (xi, xd)) L) := by
  unfold stepQ
  by_cases h0 : k = 0
  · subst h0; rw [if_pos rfl]; exact Do_push xi xd hM hl hq
  · rw [if_neg h0]
    by_cases h1 : k = 1
    · subst h1; rw [if_pos rfl]; exact Do_remove xi xd hM hl hq
    · rw [if_neg h1]
      by_cases h2 : k = 2
      · subst h2; rw [if_pos rfl]
        cases q with
        | nil => exact Do_pop_nil xi xd hM
        | cons y r => exact Do_pop_cons xi xd hM
      · rw [if_neg h2]; exact Do_other k xi xd h0 h1 h2 hM
end Go.Proofs.Yteneigadnabolaa.QAl
