/- The reference's Active, Version. Printed by mkUpT.py. -/
import Derived.Test.YtfcldacjnegacaaUpS
namespace Go.Proofs.Ytfcldacjnegacaa.Up
open Go.RowKit Go.Proofs.YtfcldacjnegacaaW.PrintWords Go.Proofs.YtfcldacjnegacaaW.PrintLast Go.Proofs.YtfcldacjnegacaaW.PrintMore Go.Proofs.Ytfcldacjnegacaa.Sl
attribute [local go_sem] max2_int min2_int max_two min_two
set_option linter.unusedVariables false
set_option linter.unusedSimpArgs false
variable {L : List Chunk} {w0 w w' : World} {gd gr N c : Nat} {d : Dv} {slot chunk : Int}
def RQ (w : World) (g1 gd : Nat) (slot chunk : Int) (W : World) : Prop :=
  Below w.heap.size w W ∧ W.heap[g1]? = some (.cells #[.pointer (some ⟨gd, 0, none⟩), .int .i64 slot, .int .i64 chunk] 28 (0, 0))
theorem RQ.drew {g1 : Nat} {W : World} (h : RQ w g1 gd slot chunk W) : RQ w g1 gd slot chunk W.drew := ⟨below_drew h.1, h.2⟩
theorem RQ.step {g1 : Nat} {W W' : World} (h : RQ w g1 gd slot chunk W) (hb : Below W.heap.size W W') : RQ w g1 gd slot chunk W' := ⟨below_step h.1 hb, blk_below h.2 hb⟩
theorem RQ.start (w : World) (gd : Nat) (slot chunk : Int) : RQ w w.heap.size gd slot chunk (w.alloc (.cells #[.pointer (some ⟨gd, 0, none⟩), .int .i64 slot, .int .i64 chunk] 28)) := ⟨below_alloc (Below.refl _ _) _, blk_new _ _⟩
set_option maxRecDepth 100000 in
set_option maxHeartbeats 2000000 in
theorem Active_call (hM : DvM w0 w gd gr N d L) (hN : N = 10240) :
    Calls Try.prog 49 #[rup gd slot chunk] w fun e w' => e = .returned (.bool (d.act chunk)) ∧ Below w.heap.size w w' := by
  have K0 := Aside0.mk (fun W (hb : Below w.heap.size w W) => at0 (slot := slot) (chunk := chunk) (hM.step hb) hN)
  have K5 := Aside0.mk (fun W (hb : Below w.heap.size w W) => rnumber5 (slot := slot) (chunk := chunk) (hM.step hb) hN)
  have K9 := Aside0.mk (fun W (hb : Below w.heap.size w W) => at9 (slot := slot) (chunk := chunk) (hM.step hb) hN)
  have HA := Aside0.mk (show d.act chunk = ((decide (d.num 0 1 = 1) && decide (1 ≤ d.num 5 2)) && decide (d.num 5 2 ≤ 6144) && decide (d.num 9 1 = chunk)) from rfl)
  generalize d.act chunk = ac at *
  generalize d.num 0 1 = n0 at *
  generalize d.num 5 2 = n5 at *
  generalize d.num 9 1 = n9 at *
  have HR := Aside0.mk (RQ.start w gd slot chunk)
  obtain ⟨g1, hg1⟩ : ∃ g1, g1 = w.heap.size := ⟨_, rfl⟩
  rw [← hg1] at HR
  unfold rup at *
  clear hM hN
  go_enter Try.func49, Try.ntmps49
  go_wp2_with fail
  rw [← hg1]
  refine (K5.out _ HR.out.1).mono ?_
  rintro e w1 ⟨rfl, hb⟩
  have HR0 := Aside0.mk (HR.out.step hb)
  clear hb HR hg1
  have mixed : Try.prog.follows Departure.mixedOrders = true := by kernel_rfl
  by_cases hA : n0 = 1
  · have hA2 : (n0 == 1) = true := by simpa using hA
    by_cases hB : 1 ≤ n5
    · by_cases hC : n5 ≤ 6144
      · go_wp2_with fail
        refine wp_region_held_drew (S := RQ w g1 gd slot chunk) (by kernel_rfl) HR0.out.drew (fun hS => ?_)
        refine wpAnyH_take (i := 0) (oi := { dst := some 6, op := Op.load 28 (Operand.tmp 1), type := 28, pos := "ref.go:63", after := #[], guard := none }) (v := ?_) rfl (by kernel_rfl) (by kernel_rfl) (by kernel_rfl) (fun _ _ _ h => h) (Or.inl ⟨by rfl, ?_⟩) hS ?_
        rotate_left
        · intro W_ hSW_
          obtain ⟨hB_, hG_⟩ := hSW_
          have t0_ := blk_cell hG_ 0
          have t1_ := blk_cell hG_ 1
          have t2_ := blk_cell hG_ 2
          go_simp
          try with_reducible rfl
        try simp only [Act.put, List.setIfInBounds_toArray, List.set_cons_zero, List.set_cons_succ]
        refine wpAnyH_ready (rs := [1]) (by kernel_rfl) (by simp) ?_
        refine AllReadyH.cons (o := { dst := some 7, op := Op.call { callee := Callee.value (Operand.func 57), args := #[Operand.tmp 6, Operand.const (Value.int IntKind.i64 0)], argTypes := #[28, 3] }, type := 3, pos := "ref.go:63", after := #[{ on := 0, ground := Ground.data }], guard := none }) rfl (fun K_ hK_ => ?_) AllReadyH.nil
        obtain ⟨hB_, hG_⟩ := id hS
        go_simp
        refine (K0.out _ hB_).mono ?_
        rintro e w_ ⟨rfl, hb_⟩
        have HS_ := Aside0.mk (show RQ w g1 gd slot chunk w_ from ⟨below_step hB_ hb_, blk_below hG_ hb_⟩)
        clear hb_ hB_ hG_
        refine hK_.out _ _ (HS_.out) (fun hS_ => ?_)
        clear hK_ K_ hS
        have hS := hS_
        clear hS_
        try simp only [Act.put, List.setIfInBounds_toArray, List.set_cons_zero, List.set_cons_succ]
        refine wpAnyH_take (i := 2) (oi := { dst := some 8, op := Op.binOp BinOp.eql 3 (Operand.tmp 7) (Operand.const (Value.int IntKind.i64 1)) 3, type := 4, pos := "ref.go:63", after := #[{ on := 1, ground := Ground.data }], guard := none }) (v := ?_) rfl (by kernel_rfl) (by kernel_rfl) (by kernel_rfl) (fun _ _ _ h => h) (Or.inl ⟨by rfl, ?_⟩) hS ?_
        rotate_left
        · intro W_ hSW_
          obtain ⟨hB_, hG_⟩ := hSW_
          have t0_ := blk_cell hG_ 0
          have t1_ := blk_cell hG_ 1
          have t2_ := blk_cell hG_ 2
          go_simp
          try with_reducible rfl
        try simp only [Act.put, List.setIfInBounds_toArray, List.set_cons_zero, List.set_cons_succ]
        refine wpAnyH_take (i := 3) (oi := { dst := some 9, op := Op.move (Operand.tmp 8), type := 4, pos := "ref.go:63", after := #[{ on := 2, ground := Ground.data }, { on := 1, ground := Ground.chain }], guard := none }) (v := ?_) rfl (by kernel_rfl) (by kernel_rfl) (by kernel_rfl) (fun _ _ _ h => h) (Or.inl ⟨by rfl, ?_⟩) hS ?_
        rotate_left
        · intro W_ hSW_
          obtain ⟨hB_, hG_⟩ := hSW_
          have t0_ := blk_cell hG_ 0
          have t1_ := blk_cell hG_ 1
          have t2_ := blk_cell hG_ 2
          go_simp
          try with_reducible rfl
        try simp only [Act.put, List.setIfInBounds_toArray, List.set_cons_zero, List.set_cons_succ]
        refine wpAnyH_take (i := 4) (oi := { dst := some 10, op := Op.move (Operand.tmp 3), type := 3, pos := "ref.go:63", after := #[{ on := 3, ground := Ground.guard }], guard := some (3, true) }) (v := ?_) rfl (by kernel_rfl) (by kernel_rfl) (by kernel_rfl) (fun _ _ _ h => h) (Or.inl ⟨by rfl, ?_⟩) hS ?_
        rotate_left
        · intro W_ hSW_
          obtain ⟨hB_, hG_⟩ := hSW_
          have t0_ := blk_cell hG_ 0
          have t1_ := blk_cell hG_ 1
          have t2_ := blk_cell hG_ 2
          go_simp
          try with_reducible rfl
        try simp only [Act.put, List.setIfInBounds_toArray, List.set_cons_zero, List.set_cons_succ]
        refine wpAnyH_take (i := 5) (oi := { dst := some 11, op := Op.binOp BinOp.geq 3 (Operand.tmp 10) (Operand.const (Value.int IntKind.i64 1)) 3, type := 4, pos := "ref.go:63", after := #[{ on := 4, ground := Ground.data }, { on := 3, ground := Ground.guard }], guard := some (3, true) }) (v := ?_) rfl (by kernel_rfl) (by kernel_rfl) (by kernel_rfl) (fun _ _ _ h => h) (Or.inl ⟨by rfl, ?_⟩) hS ?_
        rotate_left
        · intro W_ hSW_
          obtain ⟨hB_, hG_⟩ := hSW_
          have t0_ := blk_cell hG_ 0
          have t1_ := blk_cell hG_ 1
          have t2_ := blk_cell hG_ 2
          go_simp
          try with_reducible rfl
        try simp only [Act.put, List.setIfInBounds_toArray, List.set_cons_zero, List.set_cons_succ]
        refine wpAnyH_take (i := 6) (oi := { dst := some 12, op := Op.pick (Operand.tmp 9) (Operand.tmp 11) (Operand.const (Value.bool false)), type := 4, pos := "ref.go:63", after := #[{ on := 3, ground := Ground.data }, { on := 5, ground := Ground.data }], guard := none }) (v := ?_) rfl (by kernel_rfl) (by kernel_rfl) (by kernel_rfl) (fun _ _ _ h => h) (Or.inl ⟨by rfl, ?_⟩) hS ?_
        rotate_left
        · intro W_ hSW_
          obtain ⟨hB_, hG_⟩ := hSW_
          have t0_ := blk_cell hG_ 0
          have t1_ := blk_cell hG_ 1
          have t2_ := blk_cell hG_ 2
          go_simp
          try with_reducible rfl
        try simp only [Act.put, List.setIfInBounds_toArray, List.set_cons_zero, List.set_cons_succ]
        refine wpAnyH_take (i := 7) (oi := { dst := some 13, op := Op.move (Operand.tmp 12), type := 4, pos := "ref.go:63", after := #[{ on := 6, ground := Ground.data }, { on := 3, ground := Ground.chain }], guard := none }) (v := ?_) rfl (by kernel_rfl) (by kernel_rfl) (by kernel_rfl) (fun _ _ _ h => h) (Or.inl ⟨by rfl, ?_⟩) hS ?_
        rotate_left
        · intro W_ hSW_
          obtain ⟨hB_, hG_⟩ := hSW_
          have t0_ := blk_cell hG_ 0
          have t1_ := blk_cell hG_ 1
          have t2_ := blk_cell hG_ 2
          go_simp
          try with_reducible rfl
        try simp only [Act.put, List.setIfInBounds_toArray, List.set_cons_zero, List.set_cons_succ]
        refine wpAnyH_take (i := 8) (oi := { dst := some 14, op := Op.move (Operand.tmp 3), type := 3, pos := "ref.go:63", after := #[{ on := 7, ground := Ground.guard }], guard := some (7, true) }) (v := ?_) rfl (by kernel_rfl) (by kernel_rfl) (by kernel_rfl) (fun _ _ _ h => h) (Or.inl ⟨by rfl, ?_⟩) hS ?_
        rotate_left
        · intro W_ hSW_
          obtain ⟨hB_, hG_⟩ := hSW_
          have t0_ := blk_cell hG_ 0
          have t1_ := blk_cell hG_ 1
          have t2_ := blk_cell hG_ 2
          go_simp
          try with_reducible rfl
        try simp only [Act.put, List.setIfInBounds_toArray, List.set_cons_zero, List.set_cons_succ]
        refine wpAnyH_take (i := 9) (oi := { dst := some 15, op := Op.binOp BinOp.leq 3 (Operand.tmp 14) (Operand.const (Value.int IntKind.i64 6144)) 3, type := 4, pos := "ref.go:63", after := #[{ on := 8, ground := Ground.data }, { on := 7, ground := Ground.guard }], guard := some (7, true) }) (v := ?_) rfl (by kernel_rfl) (by kernel_rfl) (by kernel_rfl) (fun _ _ _ h => h) (Or.inl ⟨by rfl, ?_⟩) hS ?_
        rotate_left
        · intro W_ hSW_
          obtain ⟨hB_, hG_⟩ := hSW_
          have t0_ := blk_cell hG_ 0
          have t1_ := blk_cell hG_ 1
          have t2_ := blk_cell hG_ 2
          go_simp
          try with_reducible rfl
        try simp only [Act.put, List.setIfInBounds_toArray, List.set_cons_zero, List.set_cons_succ]
        refine wpAnyH_take (i := 10) (oi := { dst := some 16, op := Op.pick (Operand.tmp 13) (Operand.tmp 15) (Operand.const (Value.bool false)), type := 4, pos := "ref.go:63", after := #[{ on := 7, ground := Ground.data }, { on := 9, ground := Ground.data }], guard := none }) (v := ?_) rfl (by kernel_rfl) (by kernel_rfl) (by kernel_rfl) (fun _ _ _ h => h) (Or.inl ⟨by rfl, ?_⟩) hS ?_
        rotate_left
        · intro W_ hSW_
          obtain ⟨hB_, hG_⟩ := hSW_
          have t0_ := blk_cell hG_ 0
          have t1_ := blk_cell hG_ 1
          have t2_ := blk_cell hG_ 2
          go_simp
          try with_reducible rfl
        try simp only [Act.put, List.setIfInBounds_toArray, List.set_cons_zero, List.set_cons_succ]
        refine wpAnyH_take (i := 11) (oi := { dst := some 17, op := Op.move (Operand.tmp 16), type := 4, pos := "ref.go:63", after := #[{ on := 10, ground := Ground.data }, { on := 7, ground := Ground.chain }], guard := none }) (v := ?_) rfl (by kernel_rfl) (by kernel_rfl) (by kernel_rfl) (fun _ _ _ h => h) (Or.inl ⟨by rfl, ?_⟩) hS ?_
        rotate_left
        · intro W_ hSW_
          obtain ⟨hB_, hG_⟩ := hSW_
          have t0_ := blk_cell hG_ 0
          have t1_ := blk_cell hG_ 1
          have t2_ := blk_cell hG_ 2
          go_simp
          try with_reducible rfl
        try simp only [Act.put, List.setIfInBounds_toArray, List.set_cons_zero, List.set_cons_succ]
        refine wpAnyH_take (i := 12) (oi := { dst := some 18, op := Op.load 28 (Operand.tmp 1), type := 28, pos := "ref.go:63", after := #[{ on := 11, ground := Ground.guard }], guard := some (11, true) }) (v := ?_) rfl (by kernel_rfl) (by kernel_rfl) (by kernel_rfl) (fun _ _ _ h => h) (Or.inl ⟨by rfl, ?_⟩) hS ?_
        rotate_left
        · intro W_ hSW_
          obtain ⟨hB_, hG_⟩ := hSW_
          have t0_ := blk_cell hG_ 0
          have t1_ := blk_cell hG_ 1
          have t2_ := blk_cell hG_ 2
          go_simp
          try with_reducible rfl
        try simp only [Act.put, List.setIfInBounds_toArray, List.set_cons_zero, List.set_cons_succ]
        refine wpAnyH_take (i := 14) (oi := { dst := some 20, op := Op.fieldAddr 28 (Operand.tmp 1) 2, type := 0, pos := "ref.go:63", after := #[{ on := 11, ground := Ground.guard }], guard := some (11, true) }) (v := ?_) rfl (by kernel_rfl) (by kernel_rfl) (by kernel_rfl) (fun _ _ _ h => h) (Or.inl ⟨by rfl, ?_⟩) hS ?_
        rotate_left
        · intro W_ hSW_
          obtain ⟨hB_, hG_⟩ := hSW_
          have t0_ := blk_cell hG_ 0
          have t1_ := blk_cell hG_ 1
          have t2_ := blk_cell hG_ 2
          go_simp
          try with_reducible rfl
        try simp only [Act.put, List.setIfInBounds_toArray, List.set_cons_zero, List.set_cons_succ]
        refine wpAnyH_take (i := 15) (oi := { dst := some 21, op := Op.load 3 (Operand.tmp 20), type := 3, pos := "ref.go:63", after := #[{ on := 14, ground := Ground.data }, { on := 11, ground := Ground.guard }], guard := some (11, true) }) (v := ?_) rfl (by kernel_rfl) (by kernel_rfl) (by kernel_rfl) (fun _ _ _ h => h) (Or.inl ⟨by rfl, ?_⟩) hS ?_
        rotate_left
        · intro W_ hSW_
          obtain ⟨hB_, hG_⟩ := hSW_
          have t0_ := blk_cell hG_ 0
          have t1_ := blk_cell hG_ 1
          have t2_ := blk_cell hG_ 2
          go_simp
          try with_reducible rfl
        try simp only [Act.put, List.setIfInBounds_toArray, List.set_cons_zero, List.set_cons_succ]
        refine wpAnyH_ready (rs := [13]) (by kernel_rfl) (by simp) ?_
        refine AllReadyH.cons (o := { dst := some 19, op := Op.call { callee := Callee.value (Operand.func 57), args := #[Operand.tmp 18, Operand.const (Value.int IntKind.i64 9)], argTypes := #[28, 3] }, type := 3, pos := "ref.go:63", after := #[{ on := 12, ground := Ground.data }, { on := 11, ground := Ground.chain }, { on := 11, ground := Ground.guard }], guard := some (11, true) }) rfl (fun K_ hK_ => ?_) AllReadyH.nil
        obtain ⟨hB_, hG_⟩ := id hS
        go_simp
        refine (K9.out _ hB_).mono ?_
        rintro e w_ ⟨rfl, hb_⟩
        have HS_ := Aside0.mk (show RQ w g1 gd slot chunk w_ from ⟨below_step hB_ hb_, blk_below hG_ hb_⟩)
        clear hb_ hB_ hG_
        refine hK_.out _ _ (HS_.out) (fun hS_ => ?_)
        clear hK_ K_ hS
        have hS := hS_
        clear hS_
        try simp only [Act.put, List.setIfInBounds_toArray, List.set_cons_zero, List.set_cons_succ]
        refine wpAnyH_take (i := 16) (oi := { dst := some 22, op := Op.binOp BinOp.eql 3 (Operand.tmp 19) (Operand.tmp 21) 3, type := 4, pos := "ref.go:63", after := #[{ on := 13, ground := Ground.data }, { on := 15, ground := Ground.data }, { on := 11, ground := Ground.guard }], guard := some (11, true) }) (v := ?_) rfl (by kernel_rfl) (by kernel_rfl) (by kernel_rfl) (fun _ _ _ h => h) (Or.inl ⟨by rfl, ?_⟩) hS ?_
        rotate_left
        · intro W_ hSW_
          obtain ⟨hB_, hG_⟩ := hSW_
          have t0_ := blk_cell hG_ 0
          have t1_ := blk_cell hG_ 1
          have t2_ := blk_cell hG_ 2
          go_simp
          try with_reducible rfl
        try simp only [Act.put, List.setIfInBounds_toArray, List.set_cons_zero, List.set_cons_succ]
        refine wpAnyH_take (i := 17) (oi := { dst := some 23, op := Op.pick (Operand.tmp 17) (Operand.tmp 22) (Operand.const (Value.bool false)), type := 4, pos := "ref.go:63", after := #[{ on := 11, ground := Ground.data }, { on := 16, ground := Ground.data }], guard := none }) (v := ?_) rfl (by kernel_rfl) (by kernel_rfl) (by kernel_rfl) (fun _ _ _ h => h) (Or.inl ⟨by rfl, ?_⟩) hS ?_
        rotate_left
        · intro W_ hSW_
          obtain ⟨hB_, hG_⟩ := hSW_
          have t0_ := blk_cell hG_ 0
          have t1_ := blk_cell hG_ 1
          have t2_ := blk_cell hG_ 2
          go_simp
          try with_reducible rfl
        try simp only [Act.put, List.setIfInBounds_toArray, List.set_cons_zero, List.set_cons_succ]
        refine wpAnyH_take (i := 18) (oi := { dst := some 2, op := Op.assign (Operand.tmp 23), type := 4, pos := "ref.go:63", after := #[{ on := 17, ground := Ground.data }, { on := 13, ground := Ground.chain }, { on := 0, ground := Ground.phase }, { on := 1, ground := Ground.phase }, { on := 2, ground := Ground.phase }, { on := 3, ground := Ground.phase }, { on := 4, ground := Ground.phase }, { on := 5, ground := Ground.phase }, { on := 6, ground := Ground.phase }, { on := 7, ground := Ground.phase }, { on := 8, ground := Ground.phase }, { on := 9, ground := Ground.phase }, { on := 10, ground := Ground.phase }, { on := 11, ground := Ground.phase }, { on := 12, ground := Ground.phase }, { on := 13, ground := Ground.phase }, { on := 14, ground := Ground.phase }, { on := 15, ground := Ground.phase }, { on := 16, ground := Ground.phase }, { on := 17, ground := Ground.phase }], guard := none }) (v := ?_) rfl (by kernel_rfl) (by kernel_rfl) (by kernel_rfl) (fun _ _ _ h => h) (Or.inl ⟨by rfl, ?_⟩) hS ?_
        rotate_left
        · intro W_ hSW_
          obtain ⟨hB_, hG_⟩ := hSW_
          have t0_ := blk_cell hG_ 0
          have t1_ := blk_cell hG_ 1
          have t2_ := blk_cell hG_ 2
          go_simp
          try with_reducible rfl
        try simp only [Act.put, List.setIfInBounds_toArray, List.set_cons_zero, List.set_cons_succ]
        refine wpAnyH_done (by kernel_rfl) ?_ _
        go_wp2_with fail
        go_ret
        refine ⟨?_, hS.1⟩
        rw [HA.out]
        clear hA2
        by_cases hz : n9 = chunk <;> simp [hA, hB, hC, hz]
      · have hC2 : decide (n5 ≤ 6144) = false := decide_eq_false hC
        go_wp2_with fail
        refine wp_region_held_drew (S := RQ w g1 gd slot chunk) (by kernel_rfl) HR0.out.drew (fun hS => ?_)
        refine wpAnyH_take (i := 0) (oi := { dst := some 6, op := Op.load 28 (Operand.tmp 1), type := 28, pos := "ref.go:63", after := #[], guard := none }) (v := ?_) rfl (by kernel_rfl) (by kernel_rfl) (by kernel_rfl) (fun _ _ _ h => h) (Or.inl ⟨by rfl, ?_⟩) hS ?_
        rotate_left
        · intro W_ hSW_
          obtain ⟨hB_, hG_⟩ := hSW_
          have t0_ := blk_cell hG_ 0
          have t1_ := blk_cell hG_ 1
          have t2_ := blk_cell hG_ 2
          go_simp
          try with_reducible rfl
        try simp only [Act.put, List.setIfInBounds_toArray, List.set_cons_zero, List.set_cons_succ]
        refine wpAnyH_ready (rs := [1]) (by kernel_rfl) (by simp) ?_
        refine AllReadyH.cons (o := { dst := some 7, op := Op.call { callee := Callee.value (Operand.func 57), args := #[Operand.tmp 6, Operand.const (Value.int IntKind.i64 0)], argTypes := #[28, 3] }, type := 3, pos := "ref.go:63", after := #[{ on := 0, ground := Ground.data }], guard := none }) rfl (fun K_ hK_ => ?_) AllReadyH.nil
        obtain ⟨hB_, hG_⟩ := id hS
        go_simp
        refine (K0.out _ hB_).mono ?_
        rintro e w_ ⟨rfl, hb_⟩
        have HS_ := Aside0.mk (show RQ w g1 gd slot chunk w_ from ⟨below_step hB_ hb_, blk_below hG_ hb_⟩)
        clear hb_ hB_ hG_
        refine hK_.out _ _ (HS_.out) (fun hS_ => ?_)
        clear hK_ K_ hS
        have hS := hS_
        clear hS_
        try simp only [Act.put, List.setIfInBounds_toArray, List.set_cons_zero, List.set_cons_succ]
        refine wpAnyH_take (i := 2) (oi := { dst := some 8, op := Op.binOp BinOp.eql 3 (Operand.tmp 7) (Operand.const (Value.int IntKind.i64 1)) 3, type := 4, pos := "ref.go:63", after := #[{ on := 1, ground := Ground.data }], guard := none }) (v := ?_) rfl (by kernel_rfl) (by kernel_rfl) (by kernel_rfl) (fun _ _ _ h => h) (Or.inl ⟨by rfl, ?_⟩) hS ?_
        rotate_left
        · intro W_ hSW_
          obtain ⟨hB_, hG_⟩ := hSW_
          have t0_ := blk_cell hG_ 0
          have t1_ := blk_cell hG_ 1
          have t2_ := blk_cell hG_ 2
          go_simp
          try with_reducible rfl
        try simp only [Act.put, List.setIfInBounds_toArray, List.set_cons_zero, List.set_cons_succ]
        refine wpAnyH_take (i := 3) (oi := { dst := some 9, op := Op.move (Operand.tmp 8), type := 4, pos := "ref.go:63", after := #[{ on := 2, ground := Ground.data }, { on := 1, ground := Ground.chain }], guard := none }) (v := ?_) rfl (by kernel_rfl) (by kernel_rfl) (by kernel_rfl) (fun _ _ _ h => h) (Or.inl ⟨by rfl, ?_⟩) hS ?_
        rotate_left
        · intro W_ hSW_
          obtain ⟨hB_, hG_⟩ := hSW_
          have t0_ := blk_cell hG_ 0
          have t1_ := blk_cell hG_ 1
          have t2_ := blk_cell hG_ 2
          go_simp
          try with_reducible rfl
        try simp only [Act.put, List.setIfInBounds_toArray, List.set_cons_zero, List.set_cons_succ]
        refine wpAnyH_take (i := 4) (oi := { dst := some 10, op := Op.move (Operand.tmp 3), type := 3, pos := "ref.go:63", after := #[{ on := 3, ground := Ground.guard }], guard := some (3, true) }) (v := ?_) rfl (by kernel_rfl) (by kernel_rfl) (by kernel_rfl) (fun _ _ _ h => h) (Or.inl ⟨by rfl, ?_⟩) hS ?_
        rotate_left
        · intro W_ hSW_
          obtain ⟨hB_, hG_⟩ := hSW_
          have t0_ := blk_cell hG_ 0
          have t1_ := blk_cell hG_ 1
          have t2_ := blk_cell hG_ 2
          go_simp
          try with_reducible rfl
        try simp only [Act.put, List.setIfInBounds_toArray, List.set_cons_zero, List.set_cons_succ]
        refine wpAnyH_take (i := 5) (oi := { dst := some 11, op := Op.binOp BinOp.geq 3 (Operand.tmp 10) (Operand.const (Value.int IntKind.i64 1)) 3, type := 4, pos := "ref.go:63", after := #[{ on := 4, ground := Ground.data }, { on := 3, ground := Ground.guard }], guard := some (3, true) }) (v := ?_) rfl (by kernel_rfl) (by kernel_rfl) (by kernel_rfl) (fun _ _ _ h => h) (Or.inl ⟨by rfl, ?_⟩) hS ?_
        rotate_left
        · intro W_ hSW_
          obtain ⟨hB_, hG_⟩ := hSW_
          have t0_ := blk_cell hG_ 0
          have t1_ := blk_cell hG_ 1
          have t2_ := blk_cell hG_ 2
          go_simp
          try with_reducible rfl
        try simp only [Act.put, List.setIfInBounds_toArray, List.set_cons_zero, List.set_cons_succ]
        refine wpAnyH_take (i := 6) (oi := { dst := some 12, op := Op.pick (Operand.tmp 9) (Operand.tmp 11) (Operand.const (Value.bool false)), type := 4, pos := "ref.go:63", after := #[{ on := 3, ground := Ground.data }, { on := 5, ground := Ground.data }], guard := none }) (v := ?_) rfl (by kernel_rfl) (by kernel_rfl) (by kernel_rfl) (fun _ _ _ h => h) (Or.inl ⟨by rfl, ?_⟩) hS ?_
        rotate_left
        · intro W_ hSW_
          obtain ⟨hB_, hG_⟩ := hSW_
          have t0_ := blk_cell hG_ 0
          have t1_ := blk_cell hG_ 1
          have t2_ := blk_cell hG_ 2
          go_simp
          try with_reducible rfl
        try simp only [Act.put, List.setIfInBounds_toArray, List.set_cons_zero, List.set_cons_succ]
        refine wpAnyH_take (i := 7) (oi := { dst := some 13, op := Op.move (Operand.tmp 12), type := 4, pos := "ref.go:63", after := #[{ on := 6, ground := Ground.data }, { on := 3, ground := Ground.chain }], guard := none }) (v := ?_) rfl (by kernel_rfl) (by kernel_rfl) (by kernel_rfl) (fun _ _ _ h => h) (Or.inl ⟨by rfl, ?_⟩) hS ?_
        rotate_left
        · intro W_ hSW_
          obtain ⟨hB_, hG_⟩ := hSW_
          have t0_ := blk_cell hG_ 0
          have t1_ := blk_cell hG_ 1
          have t2_ := blk_cell hG_ 2
          go_simp
          try with_reducible rfl
        try simp only [Act.put, List.setIfInBounds_toArray, List.set_cons_zero, List.set_cons_succ]
        refine wpAnyH_take (i := 8) (oi := { dst := some 14, op := Op.move (Operand.tmp 3), type := 3, pos := "ref.go:63", after := #[{ on := 7, ground := Ground.guard }], guard := some (7, true) }) (v := ?_) rfl (by kernel_rfl) (by kernel_rfl) (by kernel_rfl) (fun _ _ _ h => h) (Or.inl ⟨by rfl, ?_⟩) hS ?_
        rotate_left
        · intro W_ hSW_
          obtain ⟨hB_, hG_⟩ := hSW_
          have t0_ := blk_cell hG_ 0
          have t1_ := blk_cell hG_ 1
          have t2_ := blk_cell hG_ 2
          go_simp
          try with_reducible rfl
        try simp only [Act.put, List.setIfInBounds_toArray, List.set_cons_zero, List.set_cons_succ]
        refine wpAnyH_take (i := 9) (oi := { dst := some 15, op := Op.binOp BinOp.leq 3 (Operand.tmp 14) (Operand.const (Value.int IntKind.i64 6144)) 3, type := 4, pos := "ref.go:63", after := #[{ on := 8, ground := Ground.data }, { on := 7, ground := Ground.guard }], guard := some (7, true) }) (v := ?_) rfl (by kernel_rfl) (by kernel_rfl) (by kernel_rfl) (fun _ _ _ h => h) (Or.inl ⟨by rfl, ?_⟩) hS ?_
        rotate_left
        · intro W_ hSW_
          obtain ⟨hB_, hG_⟩ := hSW_
          have t0_ := blk_cell hG_ 0
          have t1_ := blk_cell hG_ 1
          have t2_ := blk_cell hG_ 2
          go_simp
          try with_reducible rfl
        try simp only [Act.put, List.setIfInBounds_toArray, List.set_cons_zero, List.set_cons_succ]
        refine wpAnyH_take (i := 10) (oi := { dst := some 16, op := Op.pick (Operand.tmp 13) (Operand.tmp 15) (Operand.const (Value.bool false)), type := 4, pos := "ref.go:63", after := #[{ on := 7, ground := Ground.data }, { on := 9, ground := Ground.data }], guard := none }) (v := ?_) rfl (by kernel_rfl) (by kernel_rfl) (by kernel_rfl) (fun _ _ _ h => h) (Or.inl ⟨by rfl, ?_⟩) hS ?_
        rotate_left
        · intro W_ hSW_
          obtain ⟨hB_, hG_⟩ := hSW_
          have t0_ := blk_cell hG_ 0
          have t1_ := blk_cell hG_ 1
          have t2_ := blk_cell hG_ 2
          go_simp
          try with_reducible rfl
        try simp only [Act.put, List.setIfInBounds_toArray, List.set_cons_zero, List.set_cons_succ]
        refine wpAnyH_take (i := 11) (oi := { dst := some 17, op := Op.move (Operand.tmp 16), type := 4, pos := "ref.go:63", after := #[{ on := 10, ground := Ground.data }, { on := 7, ground := Ground.chain }], guard := none }) (v := ?_) rfl (by kernel_rfl) (by kernel_rfl) (by kernel_rfl) (fun _ _ _ h => h) (Or.inl ⟨by rfl, ?_⟩) hS ?_
        rotate_left
        · intro W_ hSW_
          obtain ⟨hB_, hG_⟩ := hSW_
          have t0_ := blk_cell hG_ 0
          have t1_ := blk_cell hG_ 1
          have t2_ := blk_cell hG_ 2
          go_simp
          try with_reducible rfl
        try simp only [Act.put, List.setIfInBounds_toArray, List.set_cons_zero, List.set_cons_succ]
        refine wpAnyH_take (i := 12) (oi := { dst := some 18, op := Op.load 28 (Operand.tmp 1), type := 28, pos := "ref.go:63", after := #[{ on := 11, ground := Ground.guard }], guard := some (11, true) }) (v := undef) rfl (by kernel_rfl) (by kernel_rfl) (by kernel_rfl) (fun _ _ _ h => h) (Or.inr ⟨by rfl, rfl⟩) hS ?_
        try simp only [Act.put, List.setIfInBounds_toArray, List.set_cons_zero, List.set_cons_succ]
        refine wpAnyH_take (i := 13) (oi := { dst := some 19, op := Op.call { callee := Callee.value (Operand.func 57), args := #[Operand.tmp 18, Operand.const (Value.int IntKind.i64 9)], argTypes := #[28, 3] }, type := 3, pos := "ref.go:63", after := #[{ on := 12, ground := Ground.data }, { on := 11, ground := Ground.chain }, { on := 11, ground := Ground.guard }], guard := some (11, true) }) (v := undef) rfl (by kernel_rfl) (by kernel_rfl) (by kernel_rfl) (fun _ _ _ h => h) (Or.inr ⟨by rfl, rfl⟩) hS ?_
        try simp only [Act.put, List.setIfInBounds_toArray, List.set_cons_zero, List.set_cons_succ]
        refine wpAnyH_take (i := 14) (oi := { dst := some 20, op := Op.fieldAddr 28 (Operand.tmp 1) 2, type := 0, pos := "ref.go:63", after := #[{ on := 11, ground := Ground.guard }], guard := some (11, true) }) (v := undef) rfl (by kernel_rfl) (by kernel_rfl) (by kernel_rfl) (fun _ _ _ h => h) (Or.inr ⟨by rfl, rfl⟩) hS ?_
        try simp only [Act.put, List.setIfInBounds_toArray, List.set_cons_zero, List.set_cons_succ]
        refine wpAnyH_take (i := 15) (oi := { dst := some 21, op := Op.load 3 (Operand.tmp 20), type := 3, pos := "ref.go:63", after := #[{ on := 14, ground := Ground.data }, { on := 11, ground := Ground.guard }], guard := some (11, true) }) (v := undef) rfl (by kernel_rfl) (by kernel_rfl) (by kernel_rfl) (fun _ _ _ h => h) (Or.inr ⟨by rfl, rfl⟩) hS ?_
        try simp only [Act.put, List.setIfInBounds_toArray, List.set_cons_zero, List.set_cons_succ]
        refine wpAnyH_take (i := 16) (oi := { dst := some 22, op := Op.binOp BinOp.eql 3 (Operand.tmp 19) (Operand.tmp 21) 3, type := 4, pos := "ref.go:63", after := #[{ on := 13, ground := Ground.data }, { on := 15, ground := Ground.data }, { on := 11, ground := Ground.guard }], guard := some (11, true) }) (v := undef) rfl (by kernel_rfl) (by kernel_rfl) (by kernel_rfl) (fun _ _ _ h => h) (Or.inr ⟨by rfl, rfl⟩) hS ?_
        try simp only [Act.put, List.setIfInBounds_toArray, List.set_cons_zero, List.set_cons_succ]
        refine wpAnyH_take (i := 17) (oi := { dst := some 23, op := Op.pick (Operand.tmp 17) (Operand.tmp 22) (Operand.const (Value.bool false)), type := 4, pos := "ref.go:63", after := #[{ on := 11, ground := Ground.data }, { on := 16, ground := Ground.data }], guard := none }) (v := ?_) rfl (by kernel_rfl) (by kernel_rfl) (by kernel_rfl) (fun _ _ _ h => h) (Or.inl ⟨by rfl, ?_⟩) hS ?_
        rotate_left
        · intro W_ hSW_
          obtain ⟨hB_, hG_⟩ := hSW_
          have t0_ := blk_cell hG_ 0
          have t1_ := blk_cell hG_ 1
          have t2_ := blk_cell hG_ 2
          go_simp
          try with_reducible rfl
        try simp only [Act.put, List.setIfInBounds_toArray, List.set_cons_zero, List.set_cons_succ]
        refine wpAnyH_take (i := 18) (oi := { dst := some 2, op := Op.assign (Operand.tmp 23), type := 4, pos := "ref.go:63", after := #[{ on := 17, ground := Ground.data }, { on := 13, ground := Ground.chain }, { on := 0, ground := Ground.phase }, { on := 1, ground := Ground.phase }, { on := 2, ground := Ground.phase }, { on := 3, ground := Ground.phase }, { on := 4, ground := Ground.phase }, { on := 5, ground := Ground.phase }, { on := 6, ground := Ground.phase }, { on := 7, ground := Ground.phase }, { on := 8, ground := Ground.phase }, { on := 9, ground := Ground.phase }, { on := 10, ground := Ground.phase }, { on := 11, ground := Ground.phase }, { on := 12, ground := Ground.phase }, { on := 13, ground := Ground.phase }, { on := 14, ground := Ground.phase }, { on := 15, ground := Ground.phase }, { on := 16, ground := Ground.phase }, { on := 17, ground := Ground.phase }], guard := none }) (v := ?_) rfl (by kernel_rfl) (by kernel_rfl) (by kernel_rfl) (fun _ _ _ h => h) (Or.inl ⟨by rfl, ?_⟩) hS ?_
        rotate_left
        · intro W_ hSW_
          obtain ⟨hB_, hG_⟩ := hSW_
          have t0_ := blk_cell hG_ 0
          have t1_ := blk_cell hG_ 1
          have t2_ := blk_cell hG_ 2
          go_simp
          try with_reducible rfl
        try simp only [Act.put, List.setIfInBounds_toArray, List.set_cons_zero, List.set_cons_succ]
        refine wpAnyH_done (by kernel_rfl) ?_ _
        go_wp2_with fail
        go_ret
        refine ⟨?_, hS.1⟩
        rw [HA.out]
        clear hA2
        simp [hA, hB, hC]
        intros; omega
    · have hB2 : decide (1 ≤ n5) = false := decide_eq_false hB
      go_wp2_with fail
      refine wp_region_held_drew (S := RQ w g1 gd slot chunk) (by kernel_rfl) HR0.out.drew (fun hS => ?_)
      refine wpAnyH_take (i := 0) (oi := { dst := some 6, op := Op.load 28 (Operand.tmp 1), type := 28, pos := "ref.go:63", after := #[], guard := none }) (v := ?_) rfl (by kernel_rfl) (by kernel_rfl) (by kernel_rfl) (fun _ _ _ h => h) (Or.inl ⟨by rfl, ?_⟩) hS ?_
      rotate_left
      · intro W_ hSW_
        obtain ⟨hB_, hG_⟩ := hSW_
        have t0_ := blk_cell hG_ 0
        have t1_ := blk_cell hG_ 1
        have t2_ := blk_cell hG_ 2
        go_simp
        try with_reducible rfl
      try simp only [Act.put, List.setIfInBounds_toArray, List.set_cons_zero, List.set_cons_succ]
      refine wpAnyH_ready (rs := [1]) (by kernel_rfl) (by simp) ?_
      refine AllReadyH.cons (o := { dst := some 7, op := Op.call { callee := Callee.value (Operand.func 57), args := #[Operand.tmp 6, Operand.const (Value.int IntKind.i64 0)], argTypes := #[28, 3] }, type := 3, pos := "ref.go:63", after := #[{ on := 0, ground := Ground.data }], guard := none }) rfl (fun K_ hK_ => ?_) AllReadyH.nil
      obtain ⟨hB_, hG_⟩ := id hS
      go_simp
      refine (K0.out _ hB_).mono ?_
      rintro e w_ ⟨rfl, hb_⟩
      have HS_ := Aside0.mk (show RQ w g1 gd slot chunk w_ from ⟨below_step hB_ hb_, blk_below hG_ hb_⟩)
      clear hb_ hB_ hG_
      refine hK_.out _ _ (HS_.out) (fun hS_ => ?_)
      clear hK_ K_ hS
      have hS := hS_
      clear hS_
      try simp only [Act.put, List.setIfInBounds_toArray, List.set_cons_zero, List.set_cons_succ]
      refine wpAnyH_take (i := 2) (oi := { dst := some 8, op := Op.binOp BinOp.eql 3 (Operand.tmp 7) (Operand.const (Value.int IntKind.i64 1)) 3, type := 4, pos := "ref.go:63", after := #[{ on := 1, ground := Ground.data }], guard := none }) (v := ?_) rfl (by kernel_rfl) (by kernel_rfl) (by kernel_rfl) (fun _ _ _ h => h) (Or.inl ⟨by rfl, ?_⟩) hS ?_
      rotate_left
      · intro W_ hSW_
        obtain ⟨hB_, hG_⟩ := hSW_
        have t0_ := blk_cell hG_ 0
        have t1_ := blk_cell hG_ 1
        have t2_ := blk_cell hG_ 2
        go_simp
        try with_reducible rfl
      try simp only [Act.put, List.setIfInBounds_toArray, List.set_cons_zero, List.set_cons_succ]
      refine wpAnyH_take (i := 3) (oi := { dst := some 9, op := Op.move (Operand.tmp 8), type := 4, pos := "ref.go:63", after := #[{ on := 2, ground := Ground.data }, { on := 1, ground := Ground.chain }], guard := none }) (v := ?_) rfl (by kernel_rfl) (by kernel_rfl) (by kernel_rfl) (fun _ _ _ h => h) (Or.inl ⟨by rfl, ?_⟩) hS ?_
      rotate_left
      · intro W_ hSW_
        obtain ⟨hB_, hG_⟩ := hSW_
        have t0_ := blk_cell hG_ 0
        have t1_ := blk_cell hG_ 1
        have t2_ := blk_cell hG_ 2
        go_simp
        try with_reducible rfl
      try simp only [Act.put, List.setIfInBounds_toArray, List.set_cons_zero, List.set_cons_succ]
      refine wpAnyH_take (i := 4) (oi := { dst := some 10, op := Op.move (Operand.tmp 3), type := 3, pos := "ref.go:63", after := #[{ on := 3, ground := Ground.guard }], guard := some (3, true) }) (v := ?_) rfl (by kernel_rfl) (by kernel_rfl) (by kernel_rfl) (fun _ _ _ h => h) (Or.inl ⟨by rfl, ?_⟩) hS ?_
      rotate_left
      · intro W_ hSW_
        obtain ⟨hB_, hG_⟩ := hSW_
        have t0_ := blk_cell hG_ 0
        have t1_ := blk_cell hG_ 1
        have t2_ := blk_cell hG_ 2
        go_simp
        try with_reducible rfl
      try simp only [Act.put, List.setIfInBounds_toArray, List.set_cons_zero, List.set_cons_succ]
      refine wpAnyH_take (i := 5) (oi := { dst := some 11, op := Op.binOp BinOp.geq 3 (Operand.tmp 10) (Operand.const (Value.int IntKind.i64 1)) 3, type := 4, pos := "ref.go:63", after := #[{ on := 4, ground := Ground.data }, { on := 3, ground := Ground.guard }], guard := some (3, true) }) (v := ?_) rfl (by kernel_rfl) (by kernel_rfl) (by kernel_rfl) (fun _ _ _ h => h) (Or.inl ⟨by rfl, ?_⟩) hS ?_
      rotate_left
      · intro W_ hSW_
        obtain ⟨hB_, hG_⟩ := hSW_
        have t0_ := blk_cell hG_ 0
        have t1_ := blk_cell hG_ 1
        have t2_ := blk_cell hG_ 2
        go_simp
        try with_reducible rfl
      try simp only [Act.put, List.setIfInBounds_toArray, List.set_cons_zero, List.set_cons_succ]
      refine wpAnyH_take (i := 6) (oi := { dst := some 12, op := Op.pick (Operand.tmp 9) (Operand.tmp 11) (Operand.const (Value.bool false)), type := 4, pos := "ref.go:63", after := #[{ on := 3, ground := Ground.data }, { on := 5, ground := Ground.data }], guard := none }) (v := ?_) rfl (by kernel_rfl) (by kernel_rfl) (by kernel_rfl) (fun _ _ _ h => h) (Or.inl ⟨by rfl, ?_⟩) hS ?_
      rotate_left
      · intro W_ hSW_
        obtain ⟨hB_, hG_⟩ := hSW_
        have t0_ := blk_cell hG_ 0
        have t1_ := blk_cell hG_ 1
        have t2_ := blk_cell hG_ 2
        go_simp
        try with_reducible rfl
      try simp only [Act.put, List.setIfInBounds_toArray, List.set_cons_zero, List.set_cons_succ]
      refine wpAnyH_take (i := 7) (oi := { dst := some 13, op := Op.move (Operand.tmp 12), type := 4, pos := "ref.go:63", after := #[{ on := 6, ground := Ground.data }, { on := 3, ground := Ground.chain }], guard := none }) (v := ?_) rfl (by kernel_rfl) (by kernel_rfl) (by kernel_rfl) (fun _ _ _ h => h) (Or.inl ⟨by rfl, ?_⟩) hS ?_
      rotate_left
      · intro W_ hSW_
        obtain ⟨hB_, hG_⟩ := hSW_
        have t0_ := blk_cell hG_ 0
        have t1_ := blk_cell hG_ 1
        have t2_ := blk_cell hG_ 2
        go_simp
        try with_reducible rfl
      try simp only [Act.put, List.setIfInBounds_toArray, List.set_cons_zero, List.set_cons_succ]
      refine wpAnyH_take (i := 8) (oi := { dst := some 14, op := Op.move (Operand.tmp 3), type := 3, pos := "ref.go:63", after := #[{ on := 7, ground := Ground.guard }], guard := some (7, true) }) (v := undef) rfl (by kernel_rfl) (by kernel_rfl) (by kernel_rfl) (fun _ _ _ h => h) (Or.inr ⟨by rfl, rfl⟩) hS ?_
      try simp only [Act.put, List.setIfInBounds_toArray, List.set_cons_zero, List.set_cons_succ]
      refine wpAnyH_take (i := 9) (oi := { dst := some 15, op := Op.binOp BinOp.leq 3 (Operand.tmp 14) (Operand.const (Value.int IntKind.i64 6144)) 3, type := 4, pos := "ref.go:63", after := #[{ on := 8, ground := Ground.data }, { on := 7, ground := Ground.guard }], guard := some (7, true) }) (v := undef) rfl (by kernel_rfl) (by kernel_rfl) (by kernel_rfl) (fun _ _ _ h => h) (Or.inr ⟨by rfl, rfl⟩) hS ?_
      try simp only [Act.put, List.setIfInBounds_toArray, List.set_cons_zero, List.set_cons_succ]
      refine wpAnyH_take (i := 10) (oi := { dst := some 16, op := Op.pick (Operand.tmp 13) (Operand.tmp 15) (Operand.const (Value.bool false)), type := 4, pos := "ref.go:63", after := #[{ on := 7, ground := Ground.data }, { on := 9, ground := Ground.data }], guard := none }) (v := ?_) rfl (by kernel_rfl) (by kernel_rfl) (by kernel_rfl) (fun _ _ _ h => h) (Or.inl ⟨by rfl, ?_⟩) hS ?_
      rotate_left
      · intro W_ hSW_
        obtain ⟨hB_, hG_⟩ := hSW_
        have t0_ := blk_cell hG_ 0
        have t1_ := blk_cell hG_ 1
        have t2_ := blk_cell hG_ 2
        go_simp
        try with_reducible rfl
      try simp only [Act.put, List.setIfInBounds_toArray, List.set_cons_zero, List.set_cons_succ]
      refine wpAnyH_take (i := 11) (oi := { dst := some 17, op := Op.move (Operand.tmp 16), type := 4, pos := "ref.go:63", after := #[{ on := 10, ground := Ground.data }, { on := 7, ground := Ground.chain }], guard := none }) (v := ?_) rfl (by kernel_rfl) (by kernel_rfl) (by kernel_rfl) (fun _ _ _ h => h) (Or.inl ⟨by rfl, ?_⟩) hS ?_
      rotate_left
      · intro W_ hSW_
        obtain ⟨hB_, hG_⟩ := hSW_
        have t0_ := blk_cell hG_ 0
        have t1_ := blk_cell hG_ 1
        have t2_ := blk_cell hG_ 2
        go_simp
        try with_reducible rfl
      try simp only [Act.put, List.setIfInBounds_toArray, List.set_cons_zero, List.set_cons_succ]
      refine wpAnyH_take (i := 12) (oi := { dst := some 18, op := Op.load 28 (Operand.tmp 1), type := 28, pos := "ref.go:63", after := #[{ on := 11, ground := Ground.guard }], guard := some (11, true) }) (v := undef) rfl (by kernel_rfl) (by kernel_rfl) (by kernel_rfl) (fun _ _ _ h => h) (Or.inr ⟨by rfl, rfl⟩) hS ?_
      try simp only [Act.put, List.setIfInBounds_toArray, List.set_cons_zero, List.set_cons_succ]
      refine wpAnyH_take (i := 13) (oi := { dst := some 19, op := Op.call { callee := Callee.value (Operand.func 57), args := #[Operand.tmp 18, Operand.const (Value.int IntKind.i64 9)], argTypes := #[28, 3] }, type := 3, pos := "ref.go:63", after := #[{ on := 12, ground := Ground.data }, { on := 11, ground := Ground.chain }, { on := 11, ground := Ground.guard }], guard := some (11, true) }) (v := undef) rfl (by kernel_rfl) (by kernel_rfl) (by kernel_rfl) (fun _ _ _ h => h) (Or.inr ⟨by rfl, rfl⟩) hS ?_
      try simp only [Act.put, List.setIfInBounds_toArray, List.set_cons_zero, List.set_cons_succ]
      refine wpAnyH_take (i := 14) (oi := { dst := some 20, op := Op.fieldAddr 28 (Operand.tmp 1) 2, type := 0, pos := "ref.go:63", after := #[{ on := 11, ground := Ground.guard }], guard := some (11, true) }) (v := undef) rfl (by kernel_rfl) (by kernel_rfl) (by kernel_rfl) (fun _ _ _ h => h) (Or.inr ⟨by rfl, rfl⟩) hS ?_
      try simp only [Act.put, List.setIfInBounds_toArray, List.set_cons_zero, List.set_cons_succ]
      refine wpAnyH_take (i := 15) (oi := { dst := some 21, op := Op.load 3 (Operand.tmp 20), type := 3, pos := "ref.go:63", after := #[{ on := 14, ground := Ground.data }, { on := 11, ground := Ground.guard }], guard := some (11, true) }) (v := undef) rfl (by kernel_rfl) (by kernel_rfl) (by kernel_rfl) (fun _ _ _ h => h) (Or.inr ⟨by rfl, rfl⟩) hS ?_
      try simp only [Act.put, List.setIfInBounds_toArray, List.set_cons_zero, List.set_cons_succ]
      refine wpAnyH_take (i := 16) (oi := { dst := some 22, op := Op.binOp BinOp.eql 3 (Operand.tmp 19) (Operand.tmp 21) 3, type := 4, pos := "ref.go:63", after := #[{ on := 13, ground := Ground.data }, { on := 15, ground := Ground.data }, { on := 11, ground := Ground.guard }], guard := some (11, true) }) (v := undef) rfl (by kernel_rfl) (by kernel_rfl) (by kernel_rfl) (fun _ _ _ h => h) (Or.inr ⟨by rfl, rfl⟩) hS ?_
      try simp only [Act.put, List.setIfInBounds_toArray, List.set_cons_zero, List.set_cons_succ]
      refine wpAnyH_take (i := 17) (oi := { dst := some 23, op := Op.pick (Operand.tmp 17) (Operand.tmp 22) (Operand.const (Value.bool false)), type := 4, pos := "ref.go:63", after := #[{ on := 11, ground := Ground.data }, { on := 16, ground := Ground.data }], guard := none }) (v := ?_) rfl (by kernel_rfl) (by kernel_rfl) (by kernel_rfl) (fun _ _ _ h => h) (Or.inl ⟨by rfl, ?_⟩) hS ?_
      rotate_left
      · intro W_ hSW_
        obtain ⟨hB_, hG_⟩ := hSW_
        have t0_ := blk_cell hG_ 0
        have t1_ := blk_cell hG_ 1
        have t2_ := blk_cell hG_ 2
        go_simp
        try with_reducible rfl
      try simp only [Act.put, List.setIfInBounds_toArray, List.set_cons_zero, List.set_cons_succ]
      refine wpAnyH_take (i := 18) (oi := { dst := some 2, op := Op.assign (Operand.tmp 23), type := 4, pos := "ref.go:63", after := #[{ on := 17, ground := Ground.data }, { on := 13, ground := Ground.chain }, { on := 0, ground := Ground.phase }, { on := 1, ground := Ground.phase }, { on := 2, ground := Ground.phase }, { on := 3, ground := Ground.phase }, { on := 4, ground := Ground.phase }, { on := 5, ground := Ground.phase }, { on := 6, ground := Ground.phase }, { on := 7, ground := Ground.phase }, { on := 8, ground := Ground.phase }, { on := 9, ground := Ground.phase }, { on := 10, ground := Ground.phase }, { on := 11, ground := Ground.phase }, { on := 12, ground := Ground.phase }, { on := 13, ground := Ground.phase }, { on := 14, ground := Ground.phase }, { on := 15, ground := Ground.phase }, { on := 16, ground := Ground.phase }, { on := 17, ground := Ground.phase }], guard := none }) (v := ?_) rfl (by kernel_rfl) (by kernel_rfl) (by kernel_rfl) (fun _ _ _ h => h) (Or.inl ⟨by rfl, ?_⟩) hS ?_
      rotate_left
      · intro W_ hSW_
        obtain ⟨hB_, hG_⟩ := hSW_
        have t0_ := blk_cell hG_ 0
        have t1_ := blk_cell hG_ 1
        have t2_ := blk_cell hG_ 2
        go_simp
        try with_reducible rfl
      try simp only [Act.put, List.setIfInBounds_toArray, List.set_cons_zero, List.set_cons_succ]
      refine wpAnyH_done (by kernel_rfl) ?_ _
      go_wp2_with fail
      go_ret
      refine ⟨?_, hS.1⟩
      rw [HA.out]
      clear hA2
      simp [hA, hB]
      intros; omega
  · have hA2 : (n0 == 1) = false := by simpa using hA
    go_wp2_with fail
    refine wp_region_held_drew (S := RQ w g1 gd slot chunk) (by kernel_rfl) HR0.out.drew (fun hS => ?_)
    refine wpAnyH_take (i := 0) (oi := { dst := some 6, op := Op.load 28 (Operand.tmp 1), type := 28, pos := "ref.go:63", after := #[], guard := none }) (v := ?_) rfl (by kernel_rfl) (by kernel_rfl) (by kernel_rfl) (fun _ _ _ h => h) (Or.inl ⟨by rfl, ?_⟩) hS ?_
    rotate_left
    · intro W_ hSW_
      obtain ⟨hB_, hG_⟩ := hSW_
      have t0_ := blk_cell hG_ 0
      have t1_ := blk_cell hG_ 1
      have t2_ := blk_cell hG_ 2
      go_simp
      try with_reducible rfl
    try simp only [Act.put, List.setIfInBounds_toArray, List.set_cons_zero, List.set_cons_succ]
    refine wpAnyH_ready (rs := [1]) (by kernel_rfl) (by simp) ?_
    refine AllReadyH.cons (o := { dst := some 7, op := Op.call { callee := Callee.value (Operand.func 57), args := #[Operand.tmp 6, Operand.const (Value.int IntKind.i64 0)], argTypes := #[28, 3] }, type := 3, pos := "ref.go:63", after := #[{ on := 0, ground := Ground.data }], guard := none }) rfl (fun K_ hK_ => ?_) AllReadyH.nil
    obtain ⟨hB_, hG_⟩ := id hS
    go_simp
    refine (K0.out _ hB_).mono ?_
    rintro e w_ ⟨rfl, hb_⟩
    have HS_ := Aside0.mk (show RQ w g1 gd slot chunk w_ from ⟨below_step hB_ hb_, blk_below hG_ hb_⟩)
    clear hb_ hB_ hG_
    refine hK_.out _ _ (HS_.out) (fun hS_ => ?_)
    clear hK_ K_ hS
    have hS := hS_
    clear hS_
    try simp only [Act.put, List.setIfInBounds_toArray, List.set_cons_zero, List.set_cons_succ]
    refine wpAnyH_take (i := 2) (oi := { dst := some 8, op := Op.binOp BinOp.eql 3 (Operand.tmp 7) (Operand.const (Value.int IntKind.i64 1)) 3, type := 4, pos := "ref.go:63", after := #[{ on := 1, ground := Ground.data }], guard := none }) (v := ?_) rfl (by kernel_rfl) (by kernel_rfl) (by kernel_rfl) (fun _ _ _ h => h) (Or.inl ⟨by rfl, ?_⟩) hS ?_
    rotate_left
    · intro W_ hSW_
      obtain ⟨hB_, hG_⟩ := hSW_
      have t0_ := blk_cell hG_ 0
      have t1_ := blk_cell hG_ 1
      have t2_ := blk_cell hG_ 2
      go_simp
      try with_reducible rfl
    try simp only [Act.put, List.setIfInBounds_toArray, List.set_cons_zero, List.set_cons_succ]
    refine wpAnyH_take (i := 3) (oi := { dst := some 9, op := Op.move (Operand.tmp 8), type := 4, pos := "ref.go:63", after := #[{ on := 2, ground := Ground.data }, { on := 1, ground := Ground.chain }], guard := none }) (v := ?_) rfl (by kernel_rfl) (by kernel_rfl) (by kernel_rfl) (fun _ _ _ h => h) (Or.inl ⟨by rfl, ?_⟩) hS ?_
    rotate_left
    · intro W_ hSW_
      obtain ⟨hB_, hG_⟩ := hSW_
      have t0_ := blk_cell hG_ 0
      have t1_ := blk_cell hG_ 1
      have t2_ := blk_cell hG_ 2
      go_simp
      try with_reducible rfl
    try simp only [Act.put, List.setIfInBounds_toArray, List.set_cons_zero, List.set_cons_succ]
    refine wpAnyH_take (i := 4) (oi := { dst := some 10, op := Op.move (Operand.tmp 3), type := 3, pos := "ref.go:63", after := #[{ on := 3, ground := Ground.guard }], guard := some (3, true) }) (v := undef) rfl (by kernel_rfl) (by kernel_rfl) (by kernel_rfl) (fun _ _ _ h => h) (Or.inr ⟨by rfl, rfl⟩) hS ?_
    try simp only [Act.put, List.setIfInBounds_toArray, List.set_cons_zero, List.set_cons_succ]
    refine wpAnyH_take (i := 5) (oi := { dst := some 11, op := Op.binOp BinOp.geq 3 (Operand.tmp 10) (Operand.const (Value.int IntKind.i64 1)) 3, type := 4, pos := "ref.go:63", after := #[{ on := 4, ground := Ground.data }, { on := 3, ground := Ground.guard }], guard := some (3, true) }) (v := undef) rfl (by kernel_rfl) (by kernel_rfl) (by kernel_rfl) (fun _ _ _ h => h) (Or.inr ⟨by rfl, rfl⟩) hS ?_
    try simp only [Act.put, List.setIfInBounds_toArray, List.set_cons_zero, List.set_cons_succ]
    refine wpAnyH_take (i := 6) (oi := { dst := some 12, op := Op.pick (Operand.tmp 9) (Operand.tmp 11) (Operand.const (Value.bool false)), type := 4, pos := "ref.go:63", after := #[{ on := 3, ground := Ground.data }, { on := 5, ground := Ground.data }], guard := none }) (v := ?_) rfl (by kernel_rfl) (by kernel_rfl) (by kernel_rfl) (fun _ _ _ h => h) (Or.inl ⟨by rfl, ?_⟩) hS ?_
    rotate_left
    · intro W_ hSW_
      obtain ⟨hB_, hG_⟩ := hSW_
      have t0_ := blk_cell hG_ 0
      have t1_ := blk_cell hG_ 1
      have t2_ := blk_cell hG_ 2
      go_simp
      try with_reducible rfl
    try simp only [Act.put, List.setIfInBounds_toArray, List.set_cons_zero, List.set_cons_succ]
    refine wpAnyH_take (i := 7) (oi := { dst := some 13, op := Op.move (Operand.tmp 12), type := 4, pos := "ref.go:63", after := #[{ on := 6, ground := Ground.data }, { on := 3, ground := Ground.chain }], guard := none }) (v := ?_) rfl (by kernel_rfl) (by kernel_rfl) (by kernel_rfl) (fun _ _ _ h => h) (Or.inl ⟨by rfl, ?_⟩) hS ?_
    rotate_left
    · intro W_ hSW_
      obtain ⟨hB_, hG_⟩ := hSW_
      have t0_ := blk_cell hG_ 0
      have t1_ := blk_cell hG_ 1
      have t2_ := blk_cell hG_ 2
      go_simp
      try with_reducible rfl
    try simp only [Act.put, List.setIfInBounds_toArray, List.set_cons_zero, List.set_cons_succ]
    refine wpAnyH_take (i := 8) (oi := { dst := some 14, op := Op.move (Operand.tmp 3), type := 3, pos := "ref.go:63", after := #[{ on := 7, ground := Ground.guard }], guard := some (7, true) }) (v := undef) rfl (by kernel_rfl) (by kernel_rfl) (by kernel_rfl) (fun _ _ _ h => h) (Or.inr ⟨by rfl, rfl⟩) hS ?_
    try simp only [Act.put, List.setIfInBounds_toArray, List.set_cons_zero, List.set_cons_succ]
    refine wpAnyH_take (i := 9) (oi := { dst := some 15, op := Op.binOp BinOp.leq 3 (Operand.tmp 14) (Operand.const (Value.int IntKind.i64 6144)) 3, type := 4, pos := "ref.go:63", after := #[{ on := 8, ground := Ground.data }, { on := 7, ground := Ground.guard }], guard := some (7, true) }) (v := undef) rfl (by kernel_rfl) (by kernel_rfl) (by kernel_rfl) (fun _ _ _ h => h) (Or.inr ⟨by rfl, rfl⟩) hS ?_
    try simp only [Act.put, List.setIfInBounds_toArray, List.set_cons_zero, List.set_cons_succ]
    refine wpAnyH_take (i := 10) (oi := { dst := some 16, op := Op.pick (Operand.tmp 13) (Operand.tmp 15) (Operand.const (Value.bool false)), type := 4, pos := "ref.go:63", after := #[{ on := 7, ground := Ground.data }, { on := 9, ground := Ground.data }], guard := none }) (v := ?_) rfl (by kernel_rfl) (by kernel_rfl) (by kernel_rfl) (fun _ _ _ h => h) (Or.inl ⟨by rfl, ?_⟩) hS ?_
    rotate_left
    · intro W_ hSW_
      obtain ⟨hB_, hG_⟩ := hSW_
      have t0_ := blk_cell hG_ 0
      have t1_ := blk_cell hG_ 1
      have t2_ := blk_cell hG_ 2
      go_simp
      try with_reducible rfl
    try simp only [Act.put, List.setIfInBounds_toArray, List.set_cons_zero, List.set_cons_succ]
    refine wpAnyH_take (i := 11) (oi := { dst := some 17, op := Op.move (Operand.tmp 16), type := 4, pos := "ref.go:63", after := #[{ on := 10, ground := Ground.data }, { on := 7, ground := Ground.chain }], guard := none }) (v := ?_) rfl (by kernel_rfl) (by kernel_rfl) (by kernel_rfl) (fun _ _ _ h => h) (Or.inl ⟨by rfl, ?_⟩) hS ?_
    rotate_left
    · intro W_ hSW_
      obtain ⟨hB_, hG_⟩ := hSW_
      have t0_ := blk_cell hG_ 0
      have t1_ := blk_cell hG_ 1
      have t2_ := blk_cell hG_ 2
      go_simp
      try with_reducible rfl
    try simp only [Act.put, List.setIfInBounds_toArray, List.set_cons_zero, List.set_cons_succ]
    refine wpAnyH_take (i := 12) (oi := { dst := some 18, op := Op.load 28 (Operand.tmp 1), type := 28, pos := "ref.go:63", after := #[{ on := 11, ground := Ground.guard }], guard := some (11, true) }) (v := undef) rfl (by kernel_rfl) (by kernel_rfl) (by kernel_rfl) (fun _ _ _ h => h) (Or.inr ⟨by rfl, rfl⟩) hS ?_
    try simp only [Act.put, List.setIfInBounds_toArray, List.set_cons_zero, List.set_cons_succ]
    refine wpAnyH_take (i := 13) (oi := { dst := some 19, op := Op.call { callee := Callee.value (Operand.func 57), args := #[Operand.tmp 18, Operand.const (Value.int IntKind.i64 9)], argTypes := #[28, 3] }, type := 3, pos := "ref.go:63", after := #[{ on := 12, ground := Ground.data }, { on := 11, ground := Ground.chain }, { on := 11, ground := Ground.guard }], guard := some (11, true) }) (v := undef) rfl (by kernel_rfl) (by kernel_rfl) (by kernel_rfl) (fun _ _ _ h => h) (Or.inr ⟨by rfl, rfl⟩) hS ?_
    try simp only [Act.put, List.setIfInBounds_toArray, List.set_cons_zero, List.set_cons_succ]
    refine wpAnyH_take (i := 14) (oi := { dst := some 20, op := Op.fieldAddr 28 (Operand.tmp 1) 2, type := 0, pos := "ref.go:63", after := #[{ on := 11, ground := Ground.guard }], guard := some (11, true) }) (v := undef) rfl (by kernel_rfl) (by kernel_rfl) (by kernel_rfl) (fun _ _ _ h => h) (Or.inr ⟨by rfl, rfl⟩) hS ?_
    try simp only [Act.put, List.setIfInBounds_toArray, List.set_cons_zero, List.set_cons_succ]
    refine wpAnyH_take (i := 15) (oi := { dst := some 21, op := Op.load 3 (Operand.tmp 20), type := 3, pos := "ref.go:63", after := #[{ on := 14, ground := Ground.data }, { on := 11, ground := Ground.guard }], guard := some (11, true) }) (v := undef) rfl (by kernel_rfl) (by kernel_rfl) (by kernel_rfl) (fun _ _ _ h => h) (Or.inr ⟨by rfl, rfl⟩) hS ?_
    try simp only [Act.put, List.setIfInBounds_toArray, List.set_cons_zero, List.set_cons_succ]
    refine wpAnyH_take (i := 16) (oi := { dst := some 22, op := Op.binOp BinOp.eql 3 (Operand.tmp 19) (Operand.tmp 21) 3, type := 4, pos := "ref.go:63", after := #[{ on := 13, ground := Ground.data }, { on := 15, ground := Ground.data }, { on := 11, ground := Ground.guard }], guard := some (11, true) }) (v := undef) rfl (by kernel_rfl) (by kernel_rfl) (by kernel_rfl) (fun _ _ _ h => h) (Or.inr ⟨by rfl, rfl⟩) hS ?_
    try simp only [Act.put, List.setIfInBounds_toArray, List.set_cons_zero, List.set_cons_succ]
    refine wpAnyH_take (i := 17) (oi := { dst := some 23, op := Op.pick (Operand.tmp 17) (Operand.tmp 22) (Operand.const (Value.bool false)), type := 4, pos := "ref.go:63", after := #[{ on := 11, ground := Ground.data }, { on := 16, ground := Ground.data }], guard := none }) (v := ?_) rfl (by kernel_rfl) (by kernel_rfl) (by kernel_rfl) (fun _ _ _ h => h) (Or.inl ⟨by rfl, ?_⟩) hS ?_
    rotate_left
    · intro W_ hSW_
      obtain ⟨hB_, hG_⟩ := hSW_
      have t0_ := blk_cell hG_ 0
      have t1_ := blk_cell hG_ 1
      have t2_ := blk_cell hG_ 2
      go_simp
      try with_reducible rfl
    try simp only [Act.put, List.setIfInBounds_toArray, List.set_cons_zero, List.set_cons_succ]
    refine wpAnyH_take (i := 18) (oi := { dst := some 2, op := Op.assign (Operand.tmp 23), type := 4, pos := "ref.go:63", after := #[{ on := 17, ground := Ground.data }, { on := 13, ground := Ground.chain }, { on := 0, ground := Ground.phase }, { on := 1, ground := Ground.phase }, { on := 2, ground := Ground.phase }, { on := 3, ground := Ground.phase }, { on := 4, ground := Ground.phase }, { on := 5, ground := Ground.phase }, { on := 6, ground := Ground.phase }, { on := 7, ground := Ground.phase }, { on := 8, ground := Ground.phase }, { on := 9, ground := Ground.phase }, { on := 10, ground := Ground.phase }, { on := 11, ground := Ground.phase }, { on := 12, ground := Ground.phase }, { on := 13, ground := Ground.phase }, { on := 14, ground := Ground.phase }, { on := 15, ground := Ground.phase }, { on := 16, ground := Ground.phase }, { on := 17, ground := Ground.phase }], guard := none }) (v := ?_) rfl (by kernel_rfl) (by kernel_rfl) (by kernel_rfl) (fun _ _ _ h => h) (Or.inl ⟨by rfl, ?_⟩) hS ?_
    rotate_left
    · intro W_ hSW_
      obtain ⟨hB_, hG_⟩ := hSW_
      have t0_ := blk_cell hG_ 0
      have t1_ := blk_cell hG_ 1
      have t2_ := blk_cell hG_ 2
      go_simp
      try with_reducible rfl
    try simp only [Act.put, List.setIfInBounds_toArray, List.set_cons_zero, List.set_cons_succ]
    refine wpAnyH_done (by kernel_rfl) ?_ _
    go_wp2_with fail
    go_ret
    refine ⟨?_, hS.1⟩
    rw [HA.out]
    clear hA2
    simp [hA]
theorem rVersion_call (hM : DvM w0 w gd gr N d L) (hN : N = 10240) :
    Calls Try.prog 33 #[rup gd slot chunk] w fun e w' => e = .returned (.tuple #[.int .i64 (if d.act chunk = true then d.num 1 4 else 0), .bool (d.act chunk)]) ∧ Below w.heap.size w w' := by
  have HC := Aside0.mk (fun W (hb : Below w.heap.size w W) => Active_call (slot := slot) (chunk := chunk) (hM.step hb) hN)
  have HK := Aside0.mk (fun W (hb : Below w.heap.size w W) => rnumber1 (slot := slot) (chunk := chunk) (hM.step hb) hN)
  have HR := Aside0.mk (RQ.start w gd slot chunk)
  generalize d.act chunk = ac at *
  generalize d.num 1 4 = n1 at *
  unfold rup at *
  clear hM hN
  obtain ⟨g1, hg1⟩ : ∃ g1, g1 = w.heap.size := ⟨_, rfl⟩
  rw [← hg1] at HR
  go_enter Try.func33, Try.ntmps33
  go_wp2_with fail
  rw [← hg1]
  refine (HC.out _ HR.out.1).mono ?_
  rintro e w1 ⟨rfl, hb⟩
  have HR1 := Aside0.mk (HR.out.step hb)
  have y0 := blk_cell HR1.out.2 0
  have y1 := blk_cell HR1.out.2 1
  have y2 := blk_cell HR1.out.2 2
  clear hb hg1
  cases ac with
  | true =>
    go_wp2_with fail
    refine (HK.out _ HR1.out.1).mono ?_
    rintro e w2 ⟨rfl, hb⟩
    have HR2 := Aside0.mk (HR1.out.step hb)
    clear hb
    go_wp2_with fail
    go_ret2
    exact ⟨rfl, HR2.out.1⟩
  | false =>
    go_wp2_with fail
    go_ret2
    exact ⟨rfl, HR1.out.1⟩
end Go.Proofs.Ytfcldacjnegacaa.Up
