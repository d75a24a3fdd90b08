/- updater.current. Printed by mkUpD.py. -/
import Derived.Test.YtfcldacjnegacaaUpC
namespace Go.Proofs.Ytfcldacjnegacaa.Up
open Go.RowKit Go.Proofs.YtfcldacjnegacaaW.PrintWords Go.Proofs.YtfcldacjnegacaaW.PrintLast Go.Proofs.YtfcldacjnegacaaW.PrintMore Go.Proofs.Ytfcldacjnegacaa.Sl
set_option linter.unusedVariables false
set_option linter.unusedSimpArgs false
variable {L : List Chunk} {w0 w w' : World} {gm gb gu N : Nat} {d : Dv} {slot chunk : Int}
def RS (w : World) (g2 g4 : Nat) (n1 n5 n7 : Int) (W : World) : Prop :=
  Below w.heap.size w W ∧ W.heap[g4]? = some (.cells #[.int .i64 n1, .int .i64 n5, .int .u16 n7] 71 (0, 0)) ∧ ∃ a b c, W.heap[g2]? = some (.cells #[a, b, c] 71 (0, 0))
theorem RS.drew {w W : World} {g2 g4 : Nat} {n1 n5 n7 : Int} (h : RS w g2 g4 n1 n5 n7 W) : RS w g2 g4 n1 n5 n7 W.drew := by
  obtain ⟨h1, h2, a, b, c, h3⟩ := h
  exact ⟨below_drew h1, h2, a, b, c, h3⟩
theorem store_G2 {W : World} {g2 : Nat} {a b c x y z : Value} (h : W.heap[g2]? = some (.cells #[a, b, c] 71 (0, 0))) :
    (((W.setCell ⟨g2, 0, none⟩ x).setCell ⟨g2, 1, none⟩ y).setCell ⟨g2, 2, none⟩ z).heap[g2]? = some (.cells #[x, y, z] 71 (0, 0)) :=
  blk_put (cs := #[x, y, c]) (blk_put (cs := #[x, b, c]) (blk_put h 0 x rfl) 1 y rfl) 2 z rfl
theorem store_RS {w W : World} {g2 g4 : Nat} {n1 n5 n7 : Int} {a b c x y z : Value} (hge : w.heap.size ≤ g2) (hne : ¬ g2 = g4) (hB : Below w.heap.size w W) (h4 : W.heap[g4]? = some (.cells #[.int .i64 n1, .int .i64 n5, .int .u16 n7] 71 (0, 0)))
    (h : W.heap[g2]? = some (.cells #[a, b, c] 71 (0, 0))) : RS w g2 g4 n1 n5 n7 (((W.setCell ⟨g2, 0, none⟩ x).setCell ⟨g2, 1, none⟩ y).setCell ⟨g2, 2, none⟩ z) :=
  ⟨below_set (below_set (below_set hB hge) hge) hge, blk_far (blk_far (blk_far h4 (fun e => hne e.symm) _) (fun e => hne e.symm) _) (fun e => hne e.symm) _, x, y, z, store_G2 h⟩
set_option maxRecDepth 100000 in
set_option maxHeartbeats 4000000 in
theorem current_call (hM : NvM w0 w gm gb N d (upd gu gm slot chunk L)) (hN : N = 10240) :
    Calls Try.prog 34 #[.pointer (some ⟨gu, 0, none⟩)] w fun e w' => e = .returned (.tuple #[.agg #[.int .i64 (d.num 1 4), .int .i64 (d.num 5 2), .int .u16 (d.num 7 2)], .bool (d.act chunk)]) ∧ Below w.heap.size w w' := by
  have HM := Aside0.mk hM
  have HN := Aside0.mk hN
  have hgu := hM.ult
  have s1 : 0 ≤ d.num 7 2 := num_nn hM.1 7 2
  have s2 : d.num 7 2 < 65536 := num_lt hM.1 (by omega)
  have HA := Aside0.mk (show d.act chunk = ((decide (d.num 0 1 = 1) && decide (1 ≤ d.num 5 2)) && decide (d.num 5 2 ≤ 6144) && decide (d.num 9 1 = chunk)) from rfl)
  generalize d.act chunk = ac at *
  obtain ⟨h0, hh0⟩ : ∃ h, h = w.heap.size := ⟨_, rfl⟩
  have HH := Aside0.mk hh0
  have K0 := Aside0.mk (fun W (hb : Below w.heap.size w W) => number0 (hM.step hb) hN)
  have K1 := Aside0.mk (fun W (hb : Below w.heap.size w W) => number1 (hM.step hb) hN)
  have K5 := Aside0.mk (fun W (hb : Below w.heap.size w W) => number5 (hM.step hb) hN)
  have K7 := Aside0.mk (fun W (hb : Below w.heap.size w W) => number7 (hM.step hb) hN)
  have K9 := Aside0.mk (fun W (hb : Below w.heap.size w W) => number9 (hM.step hb) hN)
  have HU := Aside0.mk (fun W (hb : Below w.heap.size w W) => (hM.step hb).u)
  generalize d.num 0 1 = n0 at *
  generalize d.num 1 4 = n1 at *
  generalize d.num 5 2 = n5 at *
  generalize d.num 7 2 = n7 at *
  generalize d.num 9 1 = n9 at *
  have e7 : IntKind.u16.wrap n7 = n7 := by
    simp only [IntKind.wrap, IntKind.bits, IntKind.signed]
    simp
    omega
  clear hM hN
  go_enter Try.func34, Try.ntmps34
  go_wp2_with fail
  refine (K1.out _ (below_alloc (Below.refl _ _) _)).mono ?_
  rintro e w1 ⟨rfl, hb⟩
  have hB1 := below_step (below_alloc (Below.refl w.heap.size w) _) hb
  have hG1 := blk_below (blk_new w (.cells #[.int .i64 0, .int .i64 0, .int .u16 0] 71)) hb
  clear hb
  have HB1 := Aside0.mk hB1
  have HG1 := Aside0.mk hG1
  clear hB1 hG1
  go_wp2_with fail
  refine (K5.out _ HB1.out).mono ?_
  rintro e w2 ⟨rfl, hb⟩
  have HB2 := Aside0.mk (below_step HB1.out hb)
  have HG2 := Aside0.mk (blk_below HG1.out hb)
  clear hb HB1 HG1
  go_wp2_with fail
  refine (K7.out _ HB2.out).mono ?_
  rintro e w3 ⟨rfl, hb⟩
  have HB3 := Aside0.mk (below_step HB2.out hb)
  have HG3 := Aside0.mk (blk_below HG2.out hb)
  have hlt : w.heap.size < w3.heap.size := blk_lt HG3.out
  have hne : ¬ w.heap.size = w3.heap.size := by omega
  have hne' : ¬ w3.heap.size = w.heap.size := by omega
  clear hb HB2 HG2
  go_wp2_with fail
  have HR0 := Aside0.mk (show RS w w.heap.size w3.heap.size n1 n5 n7 (w3.alloc (.cells #[.int .i64 n1, .int .i64 n5, .int .u16 n7] 71)) from ⟨below_alloc HB3.out _, blk_new _ _, _, _, _, blk_alloc HG3.out _⟩)
  have HGE := Aside0.mk (Nat.le_refl w.heap.size)
  have HNE := Aside0.mk hne
  have mixed : Try.prog.follows Departure.mixedOrders = true := by kernel_rfl
  clear s1 s2 e7 hh0 hne hne' hlt hgu
  by_cases hA : n0 = 1
  · by_cases hB : 1 ≤ n5
    · by_cases hC : n5 ≤ 6144
      · have hA2 : (n0 == 1) = true := by simpa using hA
        refine wp_region_held_drew (S := RS w w.heap.size w3.heap.size n1 n5 n7) (by kernel_rfl) HR0.out.drew (fun hS => ?_)
        refine wpAnyH_take (i := 0) (oi := { dst := some 13, op := Op.load 71 (Operand.tmp 4), type := 71, pos := "updater.go:67", after := #[], guard := none }) (v := ?_) rfl (by kernel_rfl) (by kernel_rfl) (by kernel_rfl) (fun _ _ _ h => h) (Or.inl ⟨by rfl, ?_⟩) hS ?_
        rotate_left
        · intro W_ hSW_
          obtain ⟨hB_, hG4_, hG2_⟩ := hSW_
          have t0_ := blk_cell hG4_ 0
          have t1_ := blk_cell hG4_ 1
          have t2_ := blk_cell hG4_ 2
          have x2_ := (HU.out W_ hB_).2.2
          go_simp
          try with_reducible rfl
        try simp only [Act.put, List.setIfInBounds_toArray, List.set_cons_zero, List.set_cons_succ]
        refine wpAnyH_take (i := 1) (oi := { dst := some 14, op := Op.move (Operand.tmp 0), type := 25, pos := "updater.go:67", after := #[], guard := none }) (v := ?_) rfl (by kernel_rfl) (by kernel_rfl) (by kernel_rfl) (fun _ _ _ h => h) (Or.inl ⟨by rfl, ?_⟩) hS ?_
        rotate_left
        · intro W_ hSW_
          obtain ⟨hB_, hG4_, hG2_⟩ := hSW_
          have t0_ := blk_cell hG4_ 0
          have t1_ := blk_cell hG4_ 1
          have t2_ := blk_cell hG4_ 2
          have x2_ := (HU.out W_ hB_).2.2
          go_simp
          try with_reducible rfl
        try simp only [Act.put, List.setIfInBounds_toArray, List.set_cons_zero, List.set_cons_succ]
        refine wpAnyH_ready (rs := [2]) (by kernel_rfl) (by simp) ?_
        refine AllReadyH.cons (o := { dst := some 15, op := Op.call { callee := Callee.value (Operand.func 40), args := #[Operand.tmp 14, Operand.const (Value.int IntKind.i64 0), Operand.const (Value.int IntKind.i64 1)], argTypes := #[25, 3, 3] }, type := 3, pos := "updater.go:67", after := #[{ on := 1, ground := Ground.data }], guard := none }) rfl (fun K_ hK_ => ?_) AllReadyH.nil
        obtain ⟨hB_, hG4_, ca_, cb_, cc_, hG2_⟩ := id hS
        go_simp
        refine (K0.out _ hB_).mono ?_
        rintro e w_ ⟨rfl, hb_⟩
        have HS_ := Aside0.mk (show RS w w.heap.size w3.heap.size n1 n5 n7 w_ from ⟨below_step hB_ hb_, blk_below hG4_ hb_, ca_, cb_, cc_, blk_below hG2_ hb_⟩)
        clear hb_ hB_ hG4_ hG2_
        refine hK_.out _ _ (HS_.out) (fun hS_ => ?_)
        clear hK_ K_ hS
        have hS := hS_
        clear hS_
        try simp only [Act.put, List.setIfInBounds_toArray, List.set_cons_zero, List.set_cons_succ]
        refine wpAnyH_take (i := 3) (oi := { dst := some 16, op := Op.binOp BinOp.eql 3 (Operand.tmp 15) (Operand.const (Value.int IntKind.i64 1)) 3, type := 4, pos := "updater.go:67", after := #[{ on := 2, ground := Ground.data }], guard := none }) (v := ?_) rfl (by kernel_rfl) (by kernel_rfl) (by kernel_rfl) (fun _ _ _ h => h) (Or.inl ⟨by rfl, ?_⟩) hS ?_
        rotate_left
        · intro W_ hSW_
          obtain ⟨hB_, hG4_, hG2_⟩ := hSW_
          have t0_ := blk_cell hG4_ 0
          have t1_ := blk_cell hG4_ 1
          have t2_ := blk_cell hG4_ 2
          have x2_ := (HU.out W_ hB_).2.2
          go_simp
          try with_reducible rfl
        try simp only [Act.put, List.setIfInBounds_toArray, List.set_cons_zero, List.set_cons_succ]
        refine wpAnyH_take (i := 4) (oi := { dst := some 17, op := Op.move (Operand.tmp 16), type := 4, pos := "updater.go:67", after := #[{ on := 3, ground := Ground.data }, { on := 2, ground := Ground.chain }], guard := none }) (v := ?_) rfl (by kernel_rfl) (by kernel_rfl) (by kernel_rfl) (fun _ _ _ h => h) (Or.inl ⟨by rfl, ?_⟩) hS ?_
        rotate_left
        · intro W_ hSW_
          obtain ⟨hB_, hG4_, hG2_⟩ := hSW_
          have t0_ := blk_cell hG4_ 0
          have t1_ := blk_cell hG4_ 1
          have t2_ := blk_cell hG4_ 2
          have x2_ := (HU.out W_ hB_).2.2
          go_simp
          try with_reducible rfl
        try simp only [Act.put, List.setIfInBounds_toArray, List.set_cons_zero, List.set_cons_succ]
        refine wpAnyH_take (i := 5) (oi := { dst := some 18, op := Op.fieldAddr 71 (Operand.tmp 4) 1, type := 0, pos := "updater.go:67", after := #[{ on := 4, ground := Ground.guard }], guard := some (4, true) }) (v := ?_) rfl (by kernel_rfl) (by kernel_rfl) (by kernel_rfl) (fun _ _ _ h => h) (Or.inl ⟨by rfl, ?_⟩) hS ?_
        rotate_left
        · intro W_ hSW_
          obtain ⟨hB_, hG4_, hG2_⟩ := hSW_
          have t0_ := blk_cell hG4_ 0
          have t1_ := blk_cell hG4_ 1
          have t2_ := blk_cell hG4_ 2
          have x2_ := (HU.out W_ hB_).2.2
          go_simp
          try with_reducible rfl
        try simp only [Act.put, List.setIfInBounds_toArray, List.set_cons_zero, List.set_cons_succ]
        refine wpAnyH_take (i := 6) (oi := { dst := some 19, op := Op.load 3 (Operand.tmp 18), type := 3, pos := "updater.go:67", after := #[{ on := 5, ground := Ground.data }, { on := 4, ground := Ground.guard }], guard := some (4, true) }) (v := ?_) rfl (by kernel_rfl) (by kernel_rfl) (by kernel_rfl) (fun _ _ _ h => h) (Or.inl ⟨by rfl, ?_⟩) hS ?_
        rotate_left
        · intro W_ hSW_
          obtain ⟨hB_, hG4_, hG2_⟩ := hSW_
          have t0_ := blk_cell hG4_ 0
          have t1_ := blk_cell hG4_ 1
          have t2_ := blk_cell hG4_ 2
          have x2_ := (HU.out W_ hB_).2.2
          go_simp
          try with_reducible rfl
        try simp only [Act.put, List.setIfInBounds_toArray, List.set_cons_zero, List.set_cons_succ]
        refine wpAnyH_take (i := 7) (oi := { dst := some 20, op := Op.binOp BinOp.geq 3 (Operand.tmp 19) (Operand.const (Value.int IntKind.i64 1)) 3, type := 4, pos := "updater.go:67", after := #[{ on := 6, ground := Ground.data }, { on := 4, ground := Ground.guard }], guard := some (4, true) }) (v := ?_) rfl (by kernel_rfl) (by kernel_rfl) (by kernel_rfl) (fun _ _ _ h => h) (Or.inl ⟨by rfl, ?_⟩) hS ?_
        rotate_left
        · intro W_ hSW_
          obtain ⟨hB_, hG4_, hG2_⟩ := hSW_
          have t0_ := blk_cell hG4_ 0
          have t1_ := blk_cell hG4_ 1
          have t2_ := blk_cell hG4_ 2
          have x2_ := (HU.out W_ hB_).2.2
          go_simp
          try with_reducible rfl
        try simp only [Act.put, List.setIfInBounds_toArray, List.set_cons_zero, List.set_cons_succ]
        refine wpAnyH_take (i := 8) (oi := { dst := some 21, op := Op.pick (Operand.tmp 17) (Operand.tmp 20) (Operand.const (Value.bool false)), type := 4, pos := "updater.go:67", after := #[{ on := 4, ground := Ground.data }, { on := 7, ground := Ground.data }], guard := none }) (v := ?_) rfl (by kernel_rfl) (by kernel_rfl) (by kernel_rfl) (fun _ _ _ h => h) (Or.inl ⟨by rfl, ?_⟩) hS ?_
        rotate_left
        · intro W_ hSW_
          obtain ⟨hB_, hG4_, hG2_⟩ := hSW_
          have t0_ := blk_cell hG4_ 0
          have t1_ := blk_cell hG4_ 1
          have t2_ := blk_cell hG4_ 2
          have x2_ := (HU.out W_ hB_).2.2
          go_simp
          try with_reducible rfl
        try simp only [Act.put, List.setIfInBounds_toArray, List.set_cons_zero, List.set_cons_succ]
        refine wpAnyH_take (i := 9) (oi := { dst := some 22, op := Op.move (Operand.tmp 21), type := 4, pos := "updater.go:67", after := #[{ on := 8, ground := Ground.data }, { on := 4, ground := Ground.chain }], guard := none }) (v := ?_) rfl (by kernel_rfl) (by kernel_rfl) (by kernel_rfl) (fun _ _ _ h => h) (Or.inl ⟨by rfl, ?_⟩) hS ?_
        rotate_left
        · intro W_ hSW_
          obtain ⟨hB_, hG4_, hG2_⟩ := hSW_
          have t0_ := blk_cell hG4_ 0
          have t1_ := blk_cell hG4_ 1
          have t2_ := blk_cell hG4_ 2
          have x2_ := (HU.out W_ hB_).2.2
          go_simp
          try with_reducible rfl
        try simp only [Act.put, List.setIfInBounds_toArray, List.set_cons_zero, List.set_cons_succ]
        refine wpAnyH_take (i := 10) (oi := { dst := some 23, op := Op.fieldAddr 71 (Operand.tmp 4) 1, type := 0, pos := "updater.go:67", after := #[{ on := 9, ground := Ground.guard }], guard := some (9, true) }) (v := ?_) rfl (by kernel_rfl) (by kernel_rfl) (by kernel_rfl) (fun _ _ _ h => h) (Or.inl ⟨by rfl, ?_⟩) hS ?_
        rotate_left
        · intro W_ hSW_
          obtain ⟨hB_, hG4_, hG2_⟩ := hSW_
          have t0_ := blk_cell hG4_ 0
          have t1_ := blk_cell hG4_ 1
          have t2_ := blk_cell hG4_ 2
          have x2_ := (HU.out W_ hB_).2.2
          go_simp
          try with_reducible rfl
        try simp only [Act.put, List.setIfInBounds_toArray, List.set_cons_zero, List.set_cons_succ]
        refine wpAnyH_take (i := 11) (oi := { dst := some 24, op := Op.load 3 (Operand.tmp 23), type := 3, pos := "updater.go:67", after := #[{ on := 10, ground := Ground.data }, { on := 9, ground := Ground.guard }], guard := some (9, true) }) (v := ?_) rfl (by kernel_rfl) (by kernel_rfl) (by kernel_rfl) (fun _ _ _ h => h) (Or.inl ⟨by rfl, ?_⟩) hS ?_
        rotate_left
        · intro W_ hSW_
          obtain ⟨hB_, hG4_, hG2_⟩ := hSW_
          have t0_ := blk_cell hG4_ 0
          have t1_ := blk_cell hG4_ 1
          have t2_ := blk_cell hG4_ 2
          have x2_ := (HU.out W_ hB_).2.2
          go_simp
          try with_reducible rfl
        try simp only [Act.put, List.setIfInBounds_toArray, List.set_cons_zero, List.set_cons_succ]
        refine wpAnyH_take (i := 12) (oi := { dst := some 25, op := Op.binOp BinOp.leq 3 (Operand.tmp 24) (Operand.const (Value.int IntKind.i64 6144)) 3, type := 4, pos := "updater.go:67", after := #[{ on := 11, ground := Ground.data }, { on := 9, ground := Ground.guard }], guard := some (9, true) }) (v := ?_) rfl (by kernel_rfl) (by kernel_rfl) (by kernel_rfl) (fun _ _ _ h => h) (Or.inl ⟨by rfl, ?_⟩) hS ?_
        rotate_left
        · intro W_ hSW_
          obtain ⟨hB_, hG4_, hG2_⟩ := hSW_
          have t0_ := blk_cell hG4_ 0
          have t1_ := blk_cell hG4_ 1
          have t2_ := blk_cell hG4_ 2
          have x2_ := (HU.out W_ hB_).2.2
          go_simp
          try with_reducible rfl
        try simp only [Act.put, List.setIfInBounds_toArray, List.set_cons_zero, List.set_cons_succ]
        refine wpAnyH_take (i := 13) (oi := { dst := some 26, op := Op.pick (Operand.tmp 22) (Operand.tmp 25) (Operand.const (Value.bool false)), type := 4, pos := "updater.go:67", after := #[{ on := 9, ground := Ground.data }, { on := 12, ground := Ground.data }], guard := none }) (v := ?_) rfl (by kernel_rfl) (by kernel_rfl) (by kernel_rfl) (fun _ _ _ h => h) (Or.inl ⟨by rfl, ?_⟩) hS ?_
        rotate_left
        · intro W_ hSW_
          obtain ⟨hB_, hG4_, hG2_⟩ := hSW_
          have t0_ := blk_cell hG4_ 0
          have t1_ := blk_cell hG4_ 1
          have t2_ := blk_cell hG4_ 2
          have x2_ := (HU.out W_ hB_).2.2
          go_simp
          try with_reducible rfl
        try simp only [Act.put, List.setIfInBounds_toArray, List.set_cons_zero, List.set_cons_succ]
        refine wpAnyH_take (i := 14) (oi := { dst := some 27, op := Op.move (Operand.tmp 26), type := 4, pos := "updater.go:67", after := #[{ on := 13, ground := Ground.data }, { on := 9, ground := Ground.chain }], guard := none }) (v := ?_) rfl (by kernel_rfl) (by kernel_rfl) (by kernel_rfl) (fun _ _ _ h => h) (Or.inl ⟨by rfl, ?_⟩) hS ?_
        rotate_left
        · intro W_ hSW_
          obtain ⟨hB_, hG4_, hG2_⟩ := hSW_
          have t0_ := blk_cell hG4_ 0
          have t1_ := blk_cell hG4_ 1
          have t2_ := blk_cell hG4_ 2
          have x2_ := (HU.out W_ hB_).2.2
          go_simp
          try with_reducible rfl
        try simp only [Act.put, List.setIfInBounds_toArray, List.set_cons_zero, List.set_cons_succ]
        refine wpAnyH_take (i := 15) (oi := { dst := some 28, op := Op.move (Operand.tmp 0), type := 25, pos := "updater.go:67", after := #[{ on := 14, ground := Ground.guard }], guard := some (14, true) }) (v := ?_) rfl (by kernel_rfl) (by kernel_rfl) (by kernel_rfl) (fun _ _ _ h => h) (Or.inl ⟨by rfl, ?_⟩) hS ?_
        rotate_left
        · intro W_ hSW_
          obtain ⟨hB_, hG4_, hG2_⟩ := hSW_
          have t0_ := blk_cell hG4_ 0
          have t1_ := blk_cell hG4_ 1
          have t2_ := blk_cell hG4_ 2
          have x2_ := (HU.out W_ hB_).2.2
          go_simp
          try with_reducible rfl
        try simp only [Act.put, List.setIfInBounds_toArray, List.set_cons_zero, List.set_cons_succ]
        refine wpAnyH_take (i := 17) (oi := { dst := some 30, op := Op.move (Operand.tmp 0), type := 25, pos := "updater.go:67", after := #[{ on := 14, ground := Ground.guard }, { on := 23, ground := Ground.gcOnly Departure.lateStores }], guard := some (14, true) }) (v := ?_) rfl (by kernel_rfl) (by kernel_rfl) (by kernel_rfl) (fun _ _ _ h => h) (Or.inl ⟨by rfl, ?_⟩) hS ?_
        rotate_left
        · intro W_ hSW_
          obtain ⟨hB_, hG4_, hG2_⟩ := hSW_
          have t0_ := blk_cell hG4_ 0
          have t1_ := blk_cell hG4_ 1
          have t2_ := blk_cell hG4_ 2
          have x2_ := (HU.out W_ hB_).2.2
          go_simp
          try with_reducible rfl
        try simp only [Act.put, List.setIfInBounds_toArray, List.set_cons_zero, List.set_cons_succ]
        refine wpAnyH_take (i := 18) (oi := { dst := some 31, op := Op.nilCheck (Operand.tmp 30), type := 0, pos := "updater.go:67", after := #[{ on := 17, ground := Ground.data }, { on := 14, ground := Ground.guard }, { on := 23, ground := Ground.gcOnly Departure.lateStores }], guard := some (14, true) }) (v := ?_) rfl (by kernel_rfl) (by kernel_rfl) (by kernel_rfl) (fun _ _ _ h => h) (Or.inl ⟨by rfl, ?_⟩) hS ?_
        rotate_left
        · intro W_ hSW_
          obtain ⟨hB_, hG4_, hG2_⟩ := hSW_
          have t0_ := blk_cell hG4_ 0
          have t1_ := blk_cell hG4_ 1
          have t2_ := blk_cell hG4_ 2
          have x2_ := (HU.out W_ hB_).2.2
          go_simp
          try with_reducible rfl
        try simp only [Act.put, List.setIfInBounds_toArray, List.set_cons_zero, List.set_cons_succ]
        refine wpAnyH_take (i := 19) (oi := { dst := some 32, op := Op.fieldAddr 77 (Operand.tmp 31) 2, type := 0, pos := "updater.go:67", after := #[{ on := 18, ground := Ground.data }, { on := 14, ground := Ground.guard }, { on := 23, ground := Ground.gcOnly Departure.lateStores }], guard := some (14, true) }) (v := ?_) rfl (by kernel_rfl) (by kernel_rfl) (by kernel_rfl) (fun _ _ _ h => h) (Or.inl ⟨by rfl, ?_⟩) hS ?_
        rotate_left
        · intro W_ hSW_
          obtain ⟨hB_, hG4_, hG2_⟩ := hSW_
          have t0_ := blk_cell hG4_ 0
          have t1_ := blk_cell hG4_ 1
          have t2_ := blk_cell hG4_ 2
          have x2_ := (HU.out W_ hB_).2.2
          go_simp
          try with_reducible rfl
        try simp only [Act.put, List.setIfInBounds_toArray, List.set_cons_zero, List.set_cons_succ]
        refine wpAnyH_take (i := 20) (oi := { dst := some 33, op := Op.load 3 (Operand.tmp 32), type := 3, pos := "updater.go:67", after := #[{ on := 19, ground := Ground.data }, { on := 14, ground := Ground.guard }, { on := 23, ground := Ground.gcOnly Departure.lateStores }], guard := some (14, true) }) (v := ?_) rfl (by kernel_rfl) (by kernel_rfl) (by kernel_rfl) (fun _ _ _ h => h) (Or.inl ⟨by rfl, ?_⟩) hS ?_
        rotate_left
        · intro W_ hSW_
          obtain ⟨hB_, hG4_, hG2_⟩ := hSW_
          have t0_ := blk_cell hG4_ 0
          have t1_ := blk_cell hG4_ 1
          have t2_ := blk_cell hG4_ 2
          have x2_ := (HU.out W_ hB_).2.2
          go_simp
          try with_reducible rfl
        try simp only [Act.put, List.setIfInBounds_toArray, List.set_cons_zero, List.set_cons_succ]
        refine wpAnyH_ready (rs := [16]) (by kernel_rfl) (by simp) ?_
        refine AllReadyH.cons (o := { dst := some 29, op := Op.call { callee := Callee.value (Operand.func 40), args := #[Operand.tmp 28, Operand.const (Value.int IntKind.i64 9), Operand.const (Value.int IntKind.i64 1)], argTypes := #[25, 3, 3] }, type := 3, pos := "updater.go:67", after := #[{ on := 15, ground := Ground.data }, { on := 14, ground := Ground.chain }, { on := 14, ground := Ground.guard }], guard := some (14, true) }) rfl (fun K_ hK_ => ?_) AllReadyH.nil
        obtain ⟨hB_, hG4_, ca_, cb_, cc_, hG2_⟩ := id hS
        go_simp
        refine (K9.out _ hB_).mono ?_
        rintro e w_ ⟨rfl, hb_⟩
        have HS_ := Aside0.mk (show RS w w.heap.size w3.heap.size n1 n5 n7 w_ from ⟨below_step hB_ hb_, blk_below hG4_ hb_, ca_, cb_, cc_, blk_below hG2_ hb_⟩)
        clear hb_ hB_ hG4_ hG2_
        refine hK_.out _ _ (HS_.out) (fun hS_ => ?_)
        clear hK_ K_ hS
        have hS := hS_
        clear hS_
        try simp only [Act.put, List.setIfInBounds_toArray, List.set_cons_zero, List.set_cons_succ]
        refine wpAnyH_take (i := 21) (oi := { dst := some 34, op := Op.binOp BinOp.eql 3 (Operand.tmp 29) (Operand.tmp 33) 3, type := 4, pos := "updater.go:67", after := #[{ on := 16, ground := Ground.data }, { on := 20, ground := Ground.data }, { on := 14, ground := Ground.guard }, { on := 23, ground := Ground.gcOnly Departure.lateStores }], guard := some (14, true) }) (v := ?_) rfl (by kernel_rfl) (by kernel_rfl) (by kernel_rfl) (fun _ _ _ h => h) (Or.inl ⟨by rfl, ?_⟩) hS ?_
        rotate_left
        · intro W_ hSW_
          obtain ⟨hB_, hG4_, hG2_⟩ := hSW_
          have t0_ := blk_cell hG4_ 0
          have t1_ := blk_cell hG4_ 1
          have t2_ := blk_cell hG4_ 2
          have x2_ := (HU.out W_ hB_).2.2
          go_simp
          try with_reducible rfl
        try simp only [Act.put, List.setIfInBounds_toArray, List.set_cons_zero, List.set_cons_succ]
        refine wpAnyH_take (i := 22) (oi := { dst := some 35, op := Op.pick (Operand.tmp 27) (Operand.tmp 34) (Operand.const (Value.bool false)), type := 4, pos := "updater.go:67", after := #[{ on := 14, ground := Ground.data }, { on := 21, ground := Ground.data }, { on := 23, ground := Ground.gcOnly Departure.lateStores }], guard := none }) (v := ?_) rfl (by kernel_rfl) (by kernel_rfl) (by kernel_rfl) (fun _ _ _ h => h) (Or.inl ⟨by rfl, ?_⟩) hS ?_
        rotate_left
        · intro W_ hSW_
          obtain ⟨hB_, hG4_, hG2_⟩ := hSW_
          have t0_ := blk_cell hG4_ 0
          have t1_ := blk_cell hG4_ 1
          have t2_ := blk_cell hG4_ 2
          have x2_ := (HU.out W_ hB_).2.2
          go_simp
          try with_reducible rfl
        try simp only [Act.put, List.setIfInBounds_toArray, List.set_cons_zero, List.set_cons_succ]
        refine wpAnyH_ready (rs := [23]) (by kernel_rfl) (by simp) ?_
        refine AllReadyH.cons (o := { dst := none, op := Op.store 71 (Operand.tmp 2) (Operand.tmp 13), type := 0, pos := "updater.go:67", after := #[{ on := 0, ground := Ground.data }, { on := 16, ground := Ground.chain }, { on := 0, ground := Ground.phase }, { on := 1, ground := Ground.textOnly Departure.lateStores }, { on := 2, ground := Ground.textOnly Departure.lateStoresUnsure }, { on := 3, ground := Ground.textOnly Departure.lateStores }, { on := 4, ground := Ground.textOnly Departure.lateStores }, { on := 5, ground := Ground.textOnly Departure.lateStores }, { on := 6, ground := Ground.textOnly Departure.lateStores }, { on := 7, ground := Ground.textOnly Departure.lateStores }, { on := 8, ground := Ground.textOnly Departure.lateStores }, { on := 9, ground := Ground.textOnly Departure.lateStores }, { on := 10, ground := Ground.textOnly Departure.lateStores }, { on := 11, ground := Ground.textOnly Departure.lateStores }, { on := 12, ground := Ground.textOnly Departure.lateStores }, { on := 13, ground := Ground.textOnly Departure.lateStores }, { on := 14, ground := Ground.textOnly Departure.lateStores }, { on := 15, ground := Ground.textOnly Departure.lateStores }, { on := 16, ground := Ground.textOnly Departure.lateStoresUnsure }, { on := 17, ground := Ground.textOnly Departure.lateStores }, { on := 18, ground := Ground.textOnly Departure.lateStores }, { on := 19, ground := Ground.textOnly Departure.lateStores }, { on := 20, ground := Ground.textOnly Departure.lateStores }, { on := 21, ground := Ground.textOnly Departure.lateStores }, { on := 22, ground := Ground.textOnly Departure.lateStores }], guard := none }) rfl (fun K_ hK_ => ?_) AllReadyH.nil
        obtain ⟨hB_, hG4_, ca_, cb_, cc_, hG2_⟩ := id hS
        have f0_ := blk_frozen hG2_ 0
        have c0_ := blk_cell hG2_ 0
        have c1_ := blk_cell hG2_ 1
        have c2_ := blk_cell hG2_ 2
        have f1_ := blk_frozen hG2_ 1
        have f2_ := blk_frozen hG2_ 2
        have HG2_ := Aside0.mk hG2_
        have HG4_ := Aside0.mk hG4_
        have HB_ := Aside0.mk hB_
        clear hB_ hG4_ hG2_
        go_simp
        refine hK_.out _ _ (store_RS HGE.out HNE.out HB_.out HG4_.out HG2_.out) (fun hS_ => ?_)
        clear hK_ K_ hS
        have hS := hS_
        clear hS_
        try simp only [Act.put, List.setIfInBounds_toArray, List.set_cons_zero, List.set_cons_succ]
        refine wpAnyH_take (i := 24) (oi := { dst := some 3, op := Op.assign (Operand.tmp 35), type := 4, pos := "updater.go:67", after := #[{ on := 22, ground := Ground.data }, { on := 23, ground := Ground.chain }, { on := 0, ground := Ground.phase }, { on := 1, ground := Ground.phase }, { on := 2, ground := Ground.phase }, { on := 3, ground := Ground.phase }, { on := 4, ground := Ground.phase }, { on := 5, ground := Ground.phase }, { on := 6, ground := Ground.phase }, { on := 7, ground := Ground.phase }, { on := 8, ground := Ground.phase }, { on := 9, ground := Ground.phase }, { on := 10, ground := Ground.phase }, { on := 11, ground := Ground.phase }, { on := 12, ground := Ground.phase }, { on := 13, ground := Ground.phase }, { on := 14, ground := Ground.phase }, { on := 15, ground := Ground.phase }, { on := 16, ground := Ground.phase }, { on := 17, ground := Ground.phase }, { on := 18, ground := Ground.phase }, { on := 19, ground := Ground.phase }, { on := 20, ground := Ground.phase }, { on := 21, ground := Ground.phase }, { on := 22, ground := Ground.phase }, { on := 23, ground := Ground.phase }], guard := none }) (v := ?_) rfl (by kernel_rfl) (by kernel_rfl) (by kernel_rfl) (fun _ _ _ h => h) (Or.inl ⟨by rfl, ?_⟩) hS ?_
        rotate_left
        · intro W_ hSW_
          obtain ⟨hB_, hG4_, hG2_⟩ := hSW_
          have t0_ := blk_cell hG4_ 0
          have t1_ := blk_cell hG4_ 1
          have t2_ := blk_cell hG4_ 2
          have x2_ := (HU.out W_ hB_).2.2
          go_simp
          try with_reducible rfl
        try simp only [Act.put, List.setIfInBounds_toArray, List.set_cons_zero, List.set_cons_succ]
        refine wpAnyH_done (by kernel_rfl) ?_ _
        go_wp2_with fail
        refine bodyPost_ret (results_ct rfl _ _ w.heap.size 71 #[.int .i64 n1, .int .i64 n5, .int .u16 n7] (0, 0) _ rfl (store_G2 HG2_.out) Try.underlying71 rfl info71) rfl ⟨?_, hS.1⟩
        rw [HA.out]
        clear hA2
        by_cases hz : n9 = chunk <;> simp [hA, hB, hC, hz]
      · have hA2 : (n0 == 1) = true := by simpa using hA
        refine wp_region_held_drew (S := RS w w.heap.size w3.heap.size n1 n5 n7) (by kernel_rfl) HR0.out.drew (fun hS => ?_)
        refine wpAnyH_take (i := 0) (oi := { dst := some 13, op := Op.load 71 (Operand.tmp 4), type := 71, pos := "updater.go:67", after := #[], guard := none }) (v := ?_) rfl (by kernel_rfl) (by kernel_rfl) (by kernel_rfl) (fun _ _ _ h => h) (Or.inl ⟨by rfl, ?_⟩) hS ?_
        rotate_left
        · intro W_ hSW_
          obtain ⟨hB_, hG4_, hG2_⟩ := hSW_
          have t0_ := blk_cell hG4_ 0
          have t1_ := blk_cell hG4_ 1
          have t2_ := blk_cell hG4_ 2
          have x2_ := (HU.out W_ hB_).2.2
          go_simp
          try with_reducible rfl
        try simp only [Act.put, List.setIfInBounds_toArray, List.set_cons_zero, List.set_cons_succ]
        refine wpAnyH_take (i := 1) (oi := { dst := some 14, op := Op.move (Operand.tmp 0), type := 25, pos := "updater.go:67", after := #[], guard := none }) (v := ?_) rfl (by kernel_rfl) (by kernel_rfl) (by kernel_rfl) (fun _ _ _ h => h) (Or.inl ⟨by rfl, ?_⟩) hS ?_
        rotate_left
        · intro W_ hSW_
          obtain ⟨hB_, hG4_, hG2_⟩ := hSW_
          have t0_ := blk_cell hG4_ 0
          have t1_ := blk_cell hG4_ 1
          have t2_ := blk_cell hG4_ 2
          have x2_ := (HU.out W_ hB_).2.2
          go_simp
          try with_reducible rfl
        try simp only [Act.put, List.setIfInBounds_toArray, List.set_cons_zero, List.set_cons_succ]
        refine wpAnyH_ready (rs := [2]) (by kernel_rfl) (by simp) ?_
        refine AllReadyH.cons (o := { dst := some 15, op := Op.call { callee := Callee.value (Operand.func 40), args := #[Operand.tmp 14, Operand.const (Value.int IntKind.i64 0), Operand.const (Value.int IntKind.i64 1)], argTypes := #[25, 3, 3] }, type := 3, pos := "updater.go:67", after := #[{ on := 1, ground := Ground.data }], guard := none }) rfl (fun K_ hK_ => ?_) AllReadyH.nil
        obtain ⟨hB_, hG4_, ca_, cb_, cc_, hG2_⟩ := id hS
        go_simp
        refine (K0.out _ hB_).mono ?_
        rintro e w_ ⟨rfl, hb_⟩
        have HS_ := Aside0.mk (show RS w w.heap.size w3.heap.size n1 n5 n7 w_ from ⟨below_step hB_ hb_, blk_below hG4_ hb_, ca_, cb_, cc_, blk_below hG2_ hb_⟩)
        clear hb_ hB_ hG4_ hG2_
        refine hK_.out _ _ (HS_.out) (fun hS_ => ?_)
        clear hK_ K_ hS
        have hS := hS_
        clear hS_
        try simp only [Act.put, List.setIfInBounds_toArray, List.set_cons_zero, List.set_cons_succ]
        refine wpAnyH_take (i := 3) (oi := { dst := some 16, op := Op.binOp BinOp.eql 3 (Operand.tmp 15) (Operand.const (Value.int IntKind.i64 1)) 3, type := 4, pos := "updater.go:67", after := #[{ on := 2, ground := Ground.data }], guard := none }) (v := ?_) rfl (by kernel_rfl) (by kernel_rfl) (by kernel_rfl) (fun _ _ _ h => h) (Or.inl ⟨by rfl, ?_⟩) hS ?_
        rotate_left
        · intro W_ hSW_
          obtain ⟨hB_, hG4_, hG2_⟩ := hSW_
          have t0_ := blk_cell hG4_ 0
          have t1_ := blk_cell hG4_ 1
          have t2_ := blk_cell hG4_ 2
          have x2_ := (HU.out W_ hB_).2.2
          go_simp
          try with_reducible rfl
        try simp only [Act.put, List.setIfInBounds_toArray, List.set_cons_zero, List.set_cons_succ]
        refine wpAnyH_take (i := 4) (oi := { dst := some 17, op := Op.move (Operand.tmp 16), type := 4, pos := "updater.go:67", after := #[{ on := 3, ground := Ground.data }, { on := 2, ground := Ground.chain }], guard := none }) (v := ?_) rfl (by kernel_rfl) (by kernel_rfl) (by kernel_rfl) (fun _ _ _ h => h) (Or.inl ⟨by rfl, ?_⟩) hS ?_
        rotate_left
        · intro W_ hSW_
          obtain ⟨hB_, hG4_, hG2_⟩ := hSW_
          have t0_ := blk_cell hG4_ 0
          have t1_ := blk_cell hG4_ 1
          have t2_ := blk_cell hG4_ 2
          have x2_ := (HU.out W_ hB_).2.2
          go_simp
          try with_reducible rfl
        try simp only [Act.put, List.setIfInBounds_toArray, List.set_cons_zero, List.set_cons_succ]
        refine wpAnyH_take (i := 5) (oi := { dst := some 18, op := Op.fieldAddr 71 (Operand.tmp 4) 1, type := 0, pos := "updater.go:67", after := #[{ on := 4, ground := Ground.guard }], guard := some (4, true) }) (v := ?_) rfl (by kernel_rfl) (by kernel_rfl) (by kernel_rfl) (fun _ _ _ h => h) (Or.inl ⟨by rfl, ?_⟩) hS ?_
        rotate_left
        · intro W_ hSW_
          obtain ⟨hB_, hG4_, hG2_⟩ := hSW_
          have t0_ := blk_cell hG4_ 0
          have t1_ := blk_cell hG4_ 1
          have t2_ := blk_cell hG4_ 2
          have x2_ := (HU.out W_ hB_).2.2
          go_simp
          try with_reducible rfl
        try simp only [Act.put, List.setIfInBounds_toArray, List.set_cons_zero, List.set_cons_succ]
        refine wpAnyH_take (i := 6) (oi := { dst := some 19, op := Op.load 3 (Operand.tmp 18), type := 3, pos := "updater.go:67", after := #[{ on := 5, ground := Ground.data }, { on := 4, ground := Ground.guard }], guard := some (4, true) }) (v := ?_) rfl (by kernel_rfl) (by kernel_rfl) (by kernel_rfl) (fun _ _ _ h => h) (Or.inl ⟨by rfl, ?_⟩) hS ?_
        rotate_left
        · intro W_ hSW_
          obtain ⟨hB_, hG4_, hG2_⟩ := hSW_
          have t0_ := blk_cell hG4_ 0
          have t1_ := blk_cell hG4_ 1
          have t2_ := blk_cell hG4_ 2
          have x2_ := (HU.out W_ hB_).2.2
          go_simp
          try with_reducible rfl
        try simp only [Act.put, List.setIfInBounds_toArray, List.set_cons_zero, List.set_cons_succ]
        refine wpAnyH_take (i := 7) (oi := { dst := some 20, op := Op.binOp BinOp.geq 3 (Operand.tmp 19) (Operand.const (Value.int IntKind.i64 1)) 3, type := 4, pos := "updater.go:67", after := #[{ on := 6, ground := Ground.data }, { on := 4, ground := Ground.guard }], guard := some (4, true) }) (v := ?_) rfl (by kernel_rfl) (by kernel_rfl) (by kernel_rfl) (fun _ _ _ h => h) (Or.inl ⟨by rfl, ?_⟩) hS ?_
        rotate_left
        · intro W_ hSW_
          obtain ⟨hB_, hG4_, hG2_⟩ := hSW_
          have t0_ := blk_cell hG4_ 0
          have t1_ := blk_cell hG4_ 1
          have t2_ := blk_cell hG4_ 2
          have x2_ := (HU.out W_ hB_).2.2
          go_simp
          try with_reducible rfl
        try simp only [Act.put, List.setIfInBounds_toArray, List.set_cons_zero, List.set_cons_succ]
        refine wpAnyH_take (i := 8) (oi := { dst := some 21, op := Op.pick (Operand.tmp 17) (Operand.tmp 20) (Operand.const (Value.bool false)), type := 4, pos := "updater.go:67", after := #[{ on := 4, ground := Ground.data }, { on := 7, ground := Ground.data }], guard := none }) (v := ?_) rfl (by kernel_rfl) (by kernel_rfl) (by kernel_rfl) (fun _ _ _ h => h) (Or.inl ⟨by rfl, ?_⟩) hS ?_
        rotate_left
        · intro W_ hSW_
          obtain ⟨hB_, hG4_, hG2_⟩ := hSW_
          have t0_ := blk_cell hG4_ 0
          have t1_ := blk_cell hG4_ 1
          have t2_ := blk_cell hG4_ 2
          have x2_ := (HU.out W_ hB_).2.2
          go_simp
          try with_reducible rfl
        try simp only [Act.put, List.setIfInBounds_toArray, List.set_cons_zero, List.set_cons_succ]
        refine wpAnyH_take (i := 9) (oi := { dst := some 22, op := Op.move (Operand.tmp 21), type := 4, pos := "updater.go:67", after := #[{ on := 8, ground := Ground.data }, { on := 4, ground := Ground.chain }], guard := none }) (v := ?_) rfl (by kernel_rfl) (by kernel_rfl) (by kernel_rfl) (fun _ _ _ h => h) (Or.inl ⟨by rfl, ?_⟩) hS ?_
        rotate_left
        · intro W_ hSW_
          obtain ⟨hB_, hG4_, hG2_⟩ := hSW_
          have t0_ := blk_cell hG4_ 0
          have t1_ := blk_cell hG4_ 1
          have t2_ := blk_cell hG4_ 2
          have x2_ := (HU.out W_ hB_).2.2
          go_simp
          try with_reducible rfl
        try simp only [Act.put, List.setIfInBounds_toArray, List.set_cons_zero, List.set_cons_succ]
        refine wpAnyH_take (i := 10) (oi := { dst := some 23, op := Op.fieldAddr 71 (Operand.tmp 4) 1, type := 0, pos := "updater.go:67", after := #[{ on := 9, ground := Ground.guard }], guard := some (9, true) }) (v := ?_) rfl (by kernel_rfl) (by kernel_rfl) (by kernel_rfl) (fun _ _ _ h => h) (Or.inl ⟨by rfl, ?_⟩) hS ?_
        rotate_left
        · intro W_ hSW_
          obtain ⟨hB_, hG4_, hG2_⟩ := hSW_
          have t0_ := blk_cell hG4_ 0
          have t1_ := blk_cell hG4_ 1
          have t2_ := blk_cell hG4_ 2
          have x2_ := (HU.out W_ hB_).2.2
          go_simp
          try with_reducible rfl
        try simp only [Act.put, List.setIfInBounds_toArray, List.set_cons_zero, List.set_cons_succ]
        refine wpAnyH_take (i := 11) (oi := { dst := some 24, op := Op.load 3 (Operand.tmp 23), type := 3, pos := "updater.go:67", after := #[{ on := 10, ground := Ground.data }, { on := 9, ground := Ground.guard }], guard := some (9, true) }) (v := ?_) rfl (by kernel_rfl) (by kernel_rfl) (by kernel_rfl) (fun _ _ _ h => h) (Or.inl ⟨by rfl, ?_⟩) hS ?_
        rotate_left
        · intro W_ hSW_
          obtain ⟨hB_, hG4_, hG2_⟩ := hSW_
          have t0_ := blk_cell hG4_ 0
          have t1_ := blk_cell hG4_ 1
          have t2_ := blk_cell hG4_ 2
          have x2_ := (HU.out W_ hB_).2.2
          go_simp
          try with_reducible rfl
        try simp only [Act.put, List.setIfInBounds_toArray, List.set_cons_zero, List.set_cons_succ]
        refine wpAnyH_take (i := 12) (oi := { dst := some 25, op := Op.binOp BinOp.leq 3 (Operand.tmp 24) (Operand.const (Value.int IntKind.i64 6144)) 3, type := 4, pos := "updater.go:67", after := #[{ on := 11, ground := Ground.data }, { on := 9, ground := Ground.guard }], guard := some (9, true) }) (v := ?_) rfl (by kernel_rfl) (by kernel_rfl) (by kernel_rfl) (fun _ _ _ h => h) (Or.inl ⟨by rfl, ?_⟩) hS ?_
        rotate_left
        · intro W_ hSW_
          obtain ⟨hB_, hG4_, hG2_⟩ := hSW_
          have t0_ := blk_cell hG4_ 0
          have t1_ := blk_cell hG4_ 1
          have t2_ := blk_cell hG4_ 2
          have x2_ := (HU.out W_ hB_).2.2
          go_simp
          try with_reducible rfl
        try simp only [Act.put, List.setIfInBounds_toArray, List.set_cons_zero, List.set_cons_succ]
        refine wpAnyH_take (i := 13) (oi := { dst := some 26, op := Op.pick (Operand.tmp 22) (Operand.tmp 25) (Operand.const (Value.bool false)), type := 4, pos := "updater.go:67", after := #[{ on := 9, ground := Ground.data }, { on := 12, ground := Ground.data }], guard := none }) (v := ?_) rfl (by kernel_rfl) (by kernel_rfl) (by kernel_rfl) (fun _ _ _ h => h) (Or.inl ⟨by rfl, ?_⟩) hS ?_
        rotate_left
        · intro W_ hSW_
          obtain ⟨hB_, hG4_, hG2_⟩ := hSW_
          have t0_ := blk_cell hG4_ 0
          have t1_ := blk_cell hG4_ 1
          have t2_ := blk_cell hG4_ 2
          have x2_ := (HU.out W_ hB_).2.2
          go_simp
          try with_reducible rfl
        try simp only [Act.put, List.setIfInBounds_toArray, List.set_cons_zero, List.set_cons_succ]
        refine wpAnyH_take (i := 14) (oi := { dst := some 27, op := Op.move (Operand.tmp 26), type := 4, pos := "updater.go:67", after := #[{ on := 13, ground := Ground.data }, { on := 9, ground := Ground.chain }], guard := none }) (v := ?_) rfl (by kernel_rfl) (by kernel_rfl) (by kernel_rfl) (fun _ _ _ h => h) (Or.inl ⟨by rfl, ?_⟩) hS ?_
        rotate_left
        · intro W_ hSW_
          obtain ⟨hB_, hG4_, hG2_⟩ := hSW_
          have t0_ := blk_cell hG4_ 0
          have t1_ := blk_cell hG4_ 1
          have t2_ := blk_cell hG4_ 2
          have x2_ := (HU.out W_ hB_).2.2
          go_simp
          try with_reducible rfl
        try simp only [Act.put, List.setIfInBounds_toArray, List.set_cons_zero, List.set_cons_succ]
        refine wpAnyH_take (i := 15) (oi := { dst := some 28, op := Op.move (Operand.tmp 0), type := 25, pos := "updater.go:67", after := #[{ on := 14, ground := Ground.guard }], guard := some (14, true) }) (v := undef) rfl (by kernel_rfl) (by kernel_rfl) (by kernel_rfl) (fun _ _ _ h => h) (Or.inr ⟨by rfl, rfl⟩) hS ?_
        try simp only [Act.put, List.setIfInBounds_toArray, List.set_cons_zero, List.set_cons_succ]
        refine wpAnyH_take (i := 16) (oi := { dst := some 29, op := Op.call { callee := Callee.value (Operand.func 40), args := #[Operand.tmp 28, Operand.const (Value.int IntKind.i64 9), Operand.const (Value.int IntKind.i64 1)], argTypes := #[25, 3, 3] }, type := 3, pos := "updater.go:67", after := #[{ on := 15, ground := Ground.data }, { on := 14, ground := Ground.chain }, { on := 14, ground := Ground.guard }], guard := some (14, true) }) (v := undef) rfl (by kernel_rfl) (by kernel_rfl) (by kernel_rfl) (fun _ _ _ h => h) (Or.inr ⟨by rfl, rfl⟩) hS ?_
        try simp only [Act.put, List.setIfInBounds_toArray, List.set_cons_zero, List.set_cons_succ]
        refine wpAnyH_take (i := 17) (oi := { dst := some 30, op := Op.move (Operand.tmp 0), type := 25, pos := "updater.go:67", after := #[{ on := 14, ground := Ground.guard }, { on := 23, ground := Ground.gcOnly Departure.lateStores }], guard := some (14, true) }) (v := undef) rfl (by kernel_rfl) (by kernel_rfl) (by kernel_rfl) (fun _ _ _ h => h) (Or.inr ⟨by rfl, rfl⟩) hS ?_
        try simp only [Act.put, List.setIfInBounds_toArray, List.set_cons_zero, List.set_cons_succ]
        refine wpAnyH_take (i := 18) (oi := { dst := some 31, op := Op.nilCheck (Operand.tmp 30), type := 0, pos := "updater.go:67", after := #[{ on := 17, ground := Ground.data }, { on := 14, ground := Ground.guard }, { on := 23, ground := Ground.gcOnly Departure.lateStores }], guard := some (14, true) }) (v := undef) rfl (by kernel_rfl) (by kernel_rfl) (by kernel_rfl) (fun _ _ _ h => h) (Or.inr ⟨by rfl, rfl⟩) hS ?_
        try simp only [Act.put, List.setIfInBounds_toArray, List.set_cons_zero, List.set_cons_succ]
        refine wpAnyH_take (i := 19) (oi := { dst := some 32, op := Op.fieldAddr 77 (Operand.tmp 31) 2, type := 0, pos := "updater.go:67", after := #[{ on := 18, ground := Ground.data }, { on := 14, ground := Ground.guard }, { on := 23, ground := Ground.gcOnly Departure.lateStores }], guard := some (14, true) }) (v := undef) rfl (by kernel_rfl) (by kernel_rfl) (by kernel_rfl) (fun _ _ _ h => h) (Or.inr ⟨by rfl, rfl⟩) hS ?_
        try simp only [Act.put, List.setIfInBounds_toArray, List.set_cons_zero, List.set_cons_succ]
        refine wpAnyH_take (i := 20) (oi := { dst := some 33, op := Op.load 3 (Operand.tmp 32), type := 3, pos := "updater.go:67", after := #[{ on := 19, ground := Ground.data }, { on := 14, ground := Ground.guard }, { on := 23, ground := Ground.gcOnly Departure.lateStores }], guard := some (14, true) }) (v := undef) rfl (by kernel_rfl) (by kernel_rfl) (by kernel_rfl) (fun _ _ _ h => h) (Or.inr ⟨by rfl, rfl⟩) hS ?_
        try simp only [Act.put, List.setIfInBounds_toArray, List.set_cons_zero, List.set_cons_succ]
        refine wpAnyH_take (i := 21) (oi := { dst := some 34, op := Op.binOp BinOp.eql 3 (Operand.tmp 29) (Operand.tmp 33) 3, type := 4, pos := "updater.go:67", after := #[{ on := 16, ground := Ground.data }, { on := 20, ground := Ground.data }, { on := 14, ground := Ground.guard }, { on := 23, ground := Ground.gcOnly Departure.lateStores }], guard := some (14, true) }) (v := undef) rfl (by kernel_rfl) (by kernel_rfl) (by kernel_rfl) (fun _ _ _ h => h) (Or.inr ⟨by rfl, rfl⟩) hS ?_
        try simp only [Act.put, List.setIfInBounds_toArray, List.set_cons_zero, List.set_cons_succ]
        refine wpAnyH_take (i := 22) (oi := { dst := some 35, op := Op.pick (Operand.tmp 27) (Operand.tmp 34) (Operand.const (Value.bool false)), type := 4, pos := "updater.go:67", after := #[{ on := 14, ground := Ground.data }, { on := 21, ground := Ground.data }, { on := 23, ground := Ground.gcOnly Departure.lateStores }], guard := none }) (v := ?_) rfl (by kernel_rfl) (by kernel_rfl) (by kernel_rfl) (fun _ _ _ h => h) (Or.inl ⟨by rfl, ?_⟩) hS ?_
        rotate_left
        · intro W_ hSW_
          obtain ⟨hB_, hG4_, hG2_⟩ := hSW_
          have t0_ := blk_cell hG4_ 0
          have t1_ := blk_cell hG4_ 1
          have t2_ := blk_cell hG4_ 2
          have x2_ := (HU.out W_ hB_).2.2
          go_simp
          try with_reducible rfl
        try simp only [Act.put, List.setIfInBounds_toArray, List.set_cons_zero, List.set_cons_succ]
        refine wpAnyH_ready (rs := [23]) (by kernel_rfl) (by simp) ?_
        refine AllReadyH.cons (o := { dst := none, op := Op.store 71 (Operand.tmp 2) (Operand.tmp 13), type := 0, pos := "updater.go:67", after := #[{ on := 0, ground := Ground.data }, { on := 16, ground := Ground.chain }, { on := 0, ground := Ground.phase }, { on := 1, ground := Ground.textOnly Departure.lateStores }, { on := 2, ground := Ground.textOnly Departure.lateStoresUnsure }, { on := 3, ground := Ground.textOnly Departure.lateStores }, { on := 4, ground := Ground.textOnly Departure.lateStores }, { on := 5, ground := Ground.textOnly Departure.lateStores }, { on := 6, ground := Ground.textOnly Departure.lateStores }, { on := 7, ground := Ground.textOnly Departure.lateStores }, { on := 8, ground := Ground.textOnly Departure.lateStores }, { on := 9, ground := Ground.textOnly Departure.lateStores }, { on := 10, ground := Ground.textOnly Departure.lateStores }, { on := 11, ground := Ground.textOnly Departure.lateStores }, { on := 12, ground := Ground.textOnly Departure.lateStores }, { on := 13, ground := Ground.textOnly Departure.lateStores }, { on := 14, ground := Ground.textOnly Departure.lateStores }, { on := 15, ground := Ground.textOnly Departure.lateStores }, { on := 16, ground := Ground.textOnly Departure.lateStoresUnsure }, { on := 17, ground := Ground.textOnly Departure.lateStores }, { on := 18, ground := Ground.textOnly Departure.lateStores }, { on := 19, ground := Ground.textOnly Departure.lateStores }, { on := 20, ground := Ground.textOnly Departure.lateStores }, { on := 21, ground := Ground.textOnly Departure.lateStores }, { on := 22, ground := Ground.textOnly Departure.lateStores }], guard := none }) rfl (fun K_ hK_ => ?_) AllReadyH.nil
        obtain ⟨hB_, hG4_, ca_, cb_, cc_, hG2_⟩ := id hS
        have f0_ := blk_frozen hG2_ 0
        have c0_ := blk_cell hG2_ 0
        have c1_ := blk_cell hG2_ 1
        have c2_ := blk_cell hG2_ 2
        have f1_ := blk_frozen hG2_ 1
        have f2_ := blk_frozen hG2_ 2
        have HG2_ := Aside0.mk hG2_
        have HG4_ := Aside0.mk hG4_
        have HB_ := Aside0.mk hB_
        clear hB_ hG4_ hG2_
        go_simp
        refine hK_.out _ _ (store_RS HGE.out HNE.out HB_.out HG4_.out HG2_.out) (fun hS_ => ?_)
        clear hK_ K_ hS
        have hS := hS_
        clear hS_
        try simp only [Act.put, List.setIfInBounds_toArray, List.set_cons_zero, List.set_cons_succ]
        refine wpAnyH_take (i := 24) (oi := { dst := some 3, op := Op.assign (Operand.tmp 35), type := 4, pos := "updater.go:67", after := #[{ on := 22, ground := Ground.data }, { on := 23, ground := Ground.chain }, { on := 0, ground := Ground.phase }, { on := 1, ground := Ground.phase }, { on := 2, ground := Ground.phase }, { on := 3, ground := Ground.phase }, { on := 4, ground := Ground.phase }, { on := 5, ground := Ground.phase }, { on := 6, ground := Ground.phase }, { on := 7, ground := Ground.phase }, { on := 8, ground := Ground.phase }, { on := 9, ground := Ground.phase }, { on := 10, ground := Ground.phase }, { on := 11, ground := Ground.phase }, { on := 12, ground := Ground.phase }, { on := 13, ground := Ground.phase }, { on := 14, ground := Ground.phase }, { on := 15, ground := Ground.phase }, { on := 16, ground := Ground.phase }, { on := 17, ground := Ground.phase }, { on := 18, ground := Ground.phase }, { on := 19, ground := Ground.phase }, { on := 20, ground := Ground.phase }, { on := 21, ground := Ground.phase }, { on := 22, ground := Ground.phase }, { on := 23, ground := Ground.phase }], guard := none }) (v := ?_) rfl (by kernel_rfl) (by kernel_rfl) (by kernel_rfl) (fun _ _ _ h => h) (Or.inl ⟨by rfl, ?_⟩) hS ?_
        rotate_left
        · intro W_ hSW_
          obtain ⟨hB_, hG4_, hG2_⟩ := hSW_
          have t0_ := blk_cell hG4_ 0
          have t1_ := blk_cell hG4_ 1
          have t2_ := blk_cell hG4_ 2
          have x2_ := (HU.out W_ hB_).2.2
          go_simp
          try with_reducible rfl
        try simp only [Act.put, List.setIfInBounds_toArray, List.set_cons_zero, List.set_cons_succ]
        refine wpAnyH_done (by kernel_rfl) ?_ _
        go_wp2_with fail
        refine bodyPost_ret (results_ct rfl _ _ w.heap.size 71 #[.int .i64 n1, .int .i64 n5, .int .u16 n7] (0, 0) _ rfl (store_G2 HG2_.out) Try.underlying71 rfl info71) rfl ⟨?_, hS.1⟩
        rw [HA.out]
        clear hA2
        simp [hA, hB, hC]
        intros; omega
    · have hA2 : (n0 == 1) = true := by simpa using hA
      refine wp_region_held_drew (S := RS w w.heap.size w3.heap.size n1 n5 n7) (by kernel_rfl) HR0.out.drew (fun hS => ?_)
      refine wpAnyH_take (i := 0) (oi := { dst := some 13, op := Op.load 71 (Operand.tmp 4), type := 71, pos := "updater.go:67", after := #[], guard := none }) (v := ?_) rfl (by kernel_rfl) (by kernel_rfl) (by kernel_rfl) (fun _ _ _ h => h) (Or.inl ⟨by rfl, ?_⟩) hS ?_
      rotate_left
      · intro W_ hSW_
        obtain ⟨hB_, hG4_, hG2_⟩ := hSW_
        have t0_ := blk_cell hG4_ 0
        have t1_ := blk_cell hG4_ 1
        have t2_ := blk_cell hG4_ 2
        have x2_ := (HU.out W_ hB_).2.2
        go_simp
        try with_reducible rfl
      try simp only [Act.put, List.setIfInBounds_toArray, List.set_cons_zero, List.set_cons_succ]
      refine wpAnyH_take (i := 1) (oi := { dst := some 14, op := Op.move (Operand.tmp 0), type := 25, pos := "updater.go:67", after := #[], guard := none }) (v := ?_) rfl (by kernel_rfl) (by kernel_rfl) (by kernel_rfl) (fun _ _ _ h => h) (Or.inl ⟨by rfl, ?_⟩) hS ?_
      rotate_left
      · intro W_ hSW_
        obtain ⟨hB_, hG4_, hG2_⟩ := hSW_
        have t0_ := blk_cell hG4_ 0
        have t1_ := blk_cell hG4_ 1
        have t2_ := blk_cell hG4_ 2
        have x2_ := (HU.out W_ hB_).2.2
        go_simp
        try with_reducible rfl
      try simp only [Act.put, List.setIfInBounds_toArray, List.set_cons_zero, List.set_cons_succ]
      refine wpAnyH_ready (rs := [2]) (by kernel_rfl) (by simp) ?_
      refine AllReadyH.cons (o := { dst := some 15, op := Op.call { callee := Callee.value (Operand.func 40), args := #[Operand.tmp 14, Operand.const (Value.int IntKind.i64 0), Operand.const (Value.int IntKind.i64 1)], argTypes := #[25, 3, 3] }, type := 3, pos := "updater.go:67", after := #[{ on := 1, ground := Ground.data }], guard := none }) rfl (fun K_ hK_ => ?_) AllReadyH.nil
      obtain ⟨hB_, hG4_, ca_, cb_, cc_, hG2_⟩ := id hS
      go_simp
      refine (K0.out _ hB_).mono ?_
      rintro e w_ ⟨rfl, hb_⟩
      have HS_ := Aside0.mk (show RS w w.heap.size w3.heap.size n1 n5 n7 w_ from ⟨below_step hB_ hb_, blk_below hG4_ hb_, ca_, cb_, cc_, blk_below hG2_ hb_⟩)
      clear hb_ hB_ hG4_ hG2_
      refine hK_.out _ _ (HS_.out) (fun hS_ => ?_)
      clear hK_ K_ hS
      have hS := hS_
      clear hS_
      try simp only [Act.put, List.setIfInBounds_toArray, List.set_cons_zero, List.set_cons_succ]
      refine wpAnyH_take (i := 3) (oi := { dst := some 16, op := Op.binOp BinOp.eql 3 (Operand.tmp 15) (Operand.const (Value.int IntKind.i64 1)) 3, type := 4, pos := "updater.go:67", after := #[{ on := 2, ground := Ground.data }], guard := none }) (v := ?_) rfl (by kernel_rfl) (by kernel_rfl) (by kernel_rfl) (fun _ _ _ h => h) (Or.inl ⟨by rfl, ?_⟩) hS ?_
      rotate_left
      · intro W_ hSW_
        obtain ⟨hB_, hG4_, hG2_⟩ := hSW_
        have t0_ := blk_cell hG4_ 0
        have t1_ := blk_cell hG4_ 1
        have t2_ := blk_cell hG4_ 2
        have x2_ := (HU.out W_ hB_).2.2
        go_simp
        try with_reducible rfl
      try simp only [Act.put, List.setIfInBounds_toArray, List.set_cons_zero, List.set_cons_succ]
      refine wpAnyH_take (i := 4) (oi := { dst := some 17, op := Op.move (Operand.tmp 16), type := 4, pos := "updater.go:67", after := #[{ on := 3, ground := Ground.data }, { on := 2, ground := Ground.chain }], guard := none }) (v := ?_) rfl (by kernel_rfl) (by kernel_rfl) (by kernel_rfl) (fun _ _ _ h => h) (Or.inl ⟨by rfl, ?_⟩) hS ?_
      rotate_left
      · intro W_ hSW_
        obtain ⟨hB_, hG4_, hG2_⟩ := hSW_
        have t0_ := blk_cell hG4_ 0
        have t1_ := blk_cell hG4_ 1
        have t2_ := blk_cell hG4_ 2
        have x2_ := (HU.out W_ hB_).2.2
        go_simp
        try with_reducible rfl
      try simp only [Act.put, List.setIfInBounds_toArray, List.set_cons_zero, List.set_cons_succ]
      refine wpAnyH_take (i := 5) (oi := { dst := some 18, op := Op.fieldAddr 71 (Operand.tmp 4) 1, type := 0, pos := "updater.go:67", after := #[{ on := 4, ground := Ground.guard }], guard := some (4, true) }) (v := ?_) rfl (by kernel_rfl) (by kernel_rfl) (by kernel_rfl) (fun _ _ _ h => h) (Or.inl ⟨by rfl, ?_⟩) hS ?_
      rotate_left
      · intro W_ hSW_
        obtain ⟨hB_, hG4_, hG2_⟩ := hSW_
        have t0_ := blk_cell hG4_ 0
        have t1_ := blk_cell hG4_ 1
        have t2_ := blk_cell hG4_ 2
        have x2_ := (HU.out W_ hB_).2.2
        go_simp
        try with_reducible rfl
      try simp only [Act.put, List.setIfInBounds_toArray, List.set_cons_zero, List.set_cons_succ]
      refine wpAnyH_take (i := 6) (oi := { dst := some 19, op := Op.load 3 (Operand.tmp 18), type := 3, pos := "updater.go:67", after := #[{ on := 5, ground := Ground.data }, { on := 4, ground := Ground.guard }], guard := some (4, true) }) (v := ?_) rfl (by kernel_rfl) (by kernel_rfl) (by kernel_rfl) (fun _ _ _ h => h) (Or.inl ⟨by rfl, ?_⟩) hS ?_
      rotate_left
      · intro W_ hSW_
        obtain ⟨hB_, hG4_, hG2_⟩ := hSW_
        have t0_ := blk_cell hG4_ 0
        have t1_ := blk_cell hG4_ 1
        have t2_ := blk_cell hG4_ 2
        have x2_ := (HU.out W_ hB_).2.2
        go_simp
        try with_reducible rfl
      try simp only [Act.put, List.setIfInBounds_toArray, List.set_cons_zero, List.set_cons_succ]
      refine wpAnyH_take (i := 7) (oi := { dst := some 20, op := Op.binOp BinOp.geq 3 (Operand.tmp 19) (Operand.const (Value.int IntKind.i64 1)) 3, type := 4, pos := "updater.go:67", after := #[{ on := 6, ground := Ground.data }, { on := 4, ground := Ground.guard }], guard := some (4, true) }) (v := ?_) rfl (by kernel_rfl) (by kernel_rfl) (by kernel_rfl) (fun _ _ _ h => h) (Or.inl ⟨by rfl, ?_⟩) hS ?_
      rotate_left
      · intro W_ hSW_
        obtain ⟨hB_, hG4_, hG2_⟩ := hSW_
        have t0_ := blk_cell hG4_ 0
        have t1_ := blk_cell hG4_ 1
        have t2_ := blk_cell hG4_ 2
        have x2_ := (HU.out W_ hB_).2.2
        go_simp
        try with_reducible rfl
      try simp only [Act.put, List.setIfInBounds_toArray, List.set_cons_zero, List.set_cons_succ]
      refine wpAnyH_take (i := 8) (oi := { dst := some 21, op := Op.pick (Operand.tmp 17) (Operand.tmp 20) (Operand.const (Value.bool false)), type := 4, pos := "updater.go:67", after := #[{ on := 4, ground := Ground.data }, { on := 7, ground := Ground.data }], guard := none }) (v := ?_) rfl (by kernel_rfl) (by kernel_rfl) (by kernel_rfl) (fun _ _ _ h => h) (Or.inl ⟨by rfl, ?_⟩) hS ?_
      rotate_left
      · intro W_ hSW_
        obtain ⟨hB_, hG4_, hG2_⟩ := hSW_
        have t0_ := blk_cell hG4_ 0
        have t1_ := blk_cell hG4_ 1
        have t2_ := blk_cell hG4_ 2
        have x2_ := (HU.out W_ hB_).2.2
        go_simp
        try with_reducible rfl
      try simp only [Act.put, List.setIfInBounds_toArray, List.set_cons_zero, List.set_cons_succ]
      refine wpAnyH_take (i := 9) (oi := { dst := some 22, op := Op.move (Operand.tmp 21), type := 4, pos := "updater.go:67", after := #[{ on := 8, ground := Ground.data }, { on := 4, ground := Ground.chain }], guard := none }) (v := ?_) rfl (by kernel_rfl) (by kernel_rfl) (by kernel_rfl) (fun _ _ _ h => h) (Or.inl ⟨by rfl, ?_⟩) hS ?_
      rotate_left
      · intro W_ hSW_
        obtain ⟨hB_, hG4_, hG2_⟩ := hSW_
        have t0_ := blk_cell hG4_ 0
        have t1_ := blk_cell hG4_ 1
        have t2_ := blk_cell hG4_ 2
        have x2_ := (HU.out W_ hB_).2.2
        go_simp
        try with_reducible rfl
      try simp only [Act.put, List.setIfInBounds_toArray, List.set_cons_zero, List.set_cons_succ]
      refine wpAnyH_take (i := 10) (oi := { dst := some 23, op := Op.fieldAddr 71 (Operand.tmp 4) 1, type := 0, pos := "updater.go:67", after := #[{ on := 9, ground := Ground.guard }], guard := some (9, true) }) (v := undef) rfl (by kernel_rfl) (by kernel_rfl) (by kernel_rfl) (fun _ _ _ h => h) (Or.inr ⟨by rfl, rfl⟩) hS ?_
      try simp only [Act.put, List.setIfInBounds_toArray, List.set_cons_zero, List.set_cons_succ]
      refine wpAnyH_take (i := 11) (oi := { dst := some 24, op := Op.load 3 (Operand.tmp 23), type := 3, pos := "updater.go:67", after := #[{ on := 10, ground := Ground.data }, { on := 9, ground := Ground.guard }], guard := some (9, true) }) (v := undef) rfl (by kernel_rfl) (by kernel_rfl) (by kernel_rfl) (fun _ _ _ h => h) (Or.inr ⟨by rfl, rfl⟩) hS ?_
      try simp only [Act.put, List.setIfInBounds_toArray, List.set_cons_zero, List.set_cons_succ]
      refine wpAnyH_take (i := 12) (oi := { dst := some 25, op := Op.binOp BinOp.leq 3 (Operand.tmp 24) (Operand.const (Value.int IntKind.i64 6144)) 3, type := 4, pos := "updater.go:67", after := #[{ on := 11, ground := Ground.data }, { on := 9, ground := Ground.guard }], guard := some (9, true) }) (v := undef) rfl (by kernel_rfl) (by kernel_rfl) (by kernel_rfl) (fun _ _ _ h => h) (Or.inr ⟨by rfl, rfl⟩) hS ?_
      try simp only [Act.put, List.setIfInBounds_toArray, List.set_cons_zero, List.set_cons_succ]
      refine wpAnyH_take (i := 13) (oi := { dst := some 26, op := Op.pick (Operand.tmp 22) (Operand.tmp 25) (Operand.const (Value.bool false)), type := 4, pos := "updater.go:67", after := #[{ on := 9, ground := Ground.data }, { on := 12, ground := Ground.data }], guard := none }) (v := ?_) rfl (by kernel_rfl) (by kernel_rfl) (by kernel_rfl) (fun _ _ _ h => h) (Or.inl ⟨by rfl, ?_⟩) hS ?_
      rotate_left
      · intro W_ hSW_
        obtain ⟨hB_, hG4_, hG2_⟩ := hSW_
        have t0_ := blk_cell hG4_ 0
        have t1_ := blk_cell hG4_ 1
        have t2_ := blk_cell hG4_ 2
        have x2_ := (HU.out W_ hB_).2.2
        go_simp
        try with_reducible rfl
      try simp only [Act.put, List.setIfInBounds_toArray, List.set_cons_zero, List.set_cons_succ]
      refine wpAnyH_take (i := 14) (oi := { dst := some 27, op := Op.move (Operand.tmp 26), type := 4, pos := "updater.go:67", after := #[{ on := 13, ground := Ground.data }, { on := 9, ground := Ground.chain }], guard := none }) (v := ?_) rfl (by kernel_rfl) (by kernel_rfl) (by kernel_rfl) (fun _ _ _ h => h) (Or.inl ⟨by rfl, ?_⟩) hS ?_
      rotate_left
      · intro W_ hSW_
        obtain ⟨hB_, hG4_, hG2_⟩ := hSW_
        have t0_ := blk_cell hG4_ 0
        have t1_ := blk_cell hG4_ 1
        have t2_ := blk_cell hG4_ 2
        have x2_ := (HU.out W_ hB_).2.2
        go_simp
        try with_reducible rfl
      try simp only [Act.put, List.setIfInBounds_toArray, List.set_cons_zero, List.set_cons_succ]
      refine wpAnyH_take (i := 15) (oi := { dst := some 28, op := Op.move (Operand.tmp 0), type := 25, pos := "updater.go:67", after := #[{ on := 14, ground := Ground.guard }], guard := some (14, true) }) (v := undef) rfl (by kernel_rfl) (by kernel_rfl) (by kernel_rfl) (fun _ _ _ h => h) (Or.inr ⟨by rfl, rfl⟩) hS ?_
      try simp only [Act.put, List.setIfInBounds_toArray, List.set_cons_zero, List.set_cons_succ]
      refine wpAnyH_take (i := 16) (oi := { dst := some 29, op := Op.call { callee := Callee.value (Operand.func 40), args := #[Operand.tmp 28, Operand.const (Value.int IntKind.i64 9), Operand.const (Value.int IntKind.i64 1)], argTypes := #[25, 3, 3] }, type := 3, pos := "updater.go:67", after := #[{ on := 15, ground := Ground.data }, { on := 14, ground := Ground.chain }, { on := 14, ground := Ground.guard }], guard := some (14, true) }) (v := undef) rfl (by kernel_rfl) (by kernel_rfl) (by kernel_rfl) (fun _ _ _ h => h) (Or.inr ⟨by rfl, rfl⟩) hS ?_
      try simp only [Act.put, List.setIfInBounds_toArray, List.set_cons_zero, List.set_cons_succ]
      refine wpAnyH_take (i := 17) (oi := { dst := some 30, op := Op.move (Operand.tmp 0), type := 25, pos := "updater.go:67", after := #[{ on := 14, ground := Ground.guard }, { on := 23, ground := Ground.gcOnly Departure.lateStores }], guard := some (14, true) }) (v := undef) rfl (by kernel_rfl) (by kernel_rfl) (by kernel_rfl) (fun _ _ _ h => h) (Or.inr ⟨by rfl, rfl⟩) hS ?_
      try simp only [Act.put, List.setIfInBounds_toArray, List.set_cons_zero, List.set_cons_succ]
      refine wpAnyH_take (i := 18) (oi := { dst := some 31, op := Op.nilCheck (Operand.tmp 30), type := 0, pos := "updater.go:67", after := #[{ on := 17, ground := Ground.data }, { on := 14, ground := Ground.guard }, { on := 23, ground := Ground.gcOnly Departure.lateStores }], guard := some (14, true) }) (v := undef) rfl (by kernel_rfl) (by kernel_rfl) (by kernel_rfl) (fun _ _ _ h => h) (Or.inr ⟨by rfl, rfl⟩) hS ?_
      try simp only [Act.put, List.setIfInBounds_toArray, List.set_cons_zero, List.set_cons_succ]
      refine wpAnyH_take (i := 19) (oi := { dst := some 32, op := Op.fieldAddr 77 (Operand.tmp 31) 2, type := 0, pos := "updater.go:67", after := #[{ on := 18, ground := Ground.data }, { on := 14, ground := Ground.guard }, { on := 23, ground := Ground.gcOnly Departure.lateStores }], guard := some (14, true) }) (v := undef) rfl (by kernel_rfl) (by kernel_rfl) (by kernel_rfl) (fun _ _ _ h => h) (Or.inr ⟨by rfl, rfl⟩) hS ?_
      try simp only [Act.put, List.setIfInBounds_toArray, List.set_cons_zero, List.set_cons_succ]
      refine wpAnyH_take (i := 20) (oi := { dst := some 33, op := Op.load 3 (Operand.tmp 32), type := 3, pos := "updater.go:67", after := #[{ on := 19, ground := Ground.data }, { on := 14, ground := Ground.guard }, { on := 23, ground := Ground.gcOnly Departure.lateStores }], guard := some (14, true) }) (v := undef) rfl (by kernel_rfl) (by kernel_rfl) (by kernel_rfl) (fun _ _ _ h => h) (Or.inr ⟨by rfl, rfl⟩) hS ?_
      try simp only [Act.put, List.setIfInBounds_toArray, List.set_cons_zero, List.set_cons_succ]
      refine wpAnyH_take (i := 21) (oi := { dst := some 34, op := Op.binOp BinOp.eql 3 (Operand.tmp 29) (Operand.tmp 33) 3, type := 4, pos := "updater.go:67", after := #[{ on := 16, ground := Ground.data }, { on := 20, ground := Ground.data }, { on := 14, ground := Ground.guard }, { on := 23, ground := Ground.gcOnly Departure.lateStores }], guard := some (14, true) }) (v := undef) rfl (by kernel_rfl) (by kernel_rfl) (by kernel_rfl) (fun _ _ _ h => h) (Or.inr ⟨by rfl, rfl⟩) hS ?_
      try simp only [Act.put, List.setIfInBounds_toArray, List.set_cons_zero, List.set_cons_succ]
      refine wpAnyH_take (i := 22) (oi := { dst := some 35, op := Op.pick (Operand.tmp 27) (Operand.tmp 34) (Operand.const (Value.bool false)), type := 4, pos := "updater.go:67", after := #[{ on := 14, ground := Ground.data }, { on := 21, ground := Ground.data }, { on := 23, ground := Ground.gcOnly Departure.lateStores }], guard := none }) (v := ?_) rfl (by kernel_rfl) (by kernel_rfl) (by kernel_rfl) (fun _ _ _ h => h) (Or.inl ⟨by rfl, ?_⟩) hS ?_
      rotate_left
      · intro W_ hSW_
        obtain ⟨hB_, hG4_, hG2_⟩ := hSW_
        have t0_ := blk_cell hG4_ 0
        have t1_ := blk_cell hG4_ 1
        have t2_ := blk_cell hG4_ 2
        have x2_ := (HU.out W_ hB_).2.2
        go_simp
        try with_reducible rfl
      try simp only [Act.put, List.setIfInBounds_toArray, List.set_cons_zero, List.set_cons_succ]
      refine wpAnyH_ready (rs := [23]) (by kernel_rfl) (by simp) ?_
      refine AllReadyH.cons (o := { dst := none, op := Op.store 71 (Operand.tmp 2) (Operand.tmp 13), type := 0, pos := "updater.go:67", after := #[{ on := 0, ground := Ground.data }, { on := 16, ground := Ground.chain }, { on := 0, ground := Ground.phase }, { on := 1, ground := Ground.textOnly Departure.lateStores }, { on := 2, ground := Ground.textOnly Departure.lateStoresUnsure }, { on := 3, ground := Ground.textOnly Departure.lateStores }, { on := 4, ground := Ground.textOnly Departure.lateStores }, { on := 5, ground := Ground.textOnly Departure.lateStores }, { on := 6, ground := Ground.textOnly Departure.lateStores }, { on := 7, ground := Ground.textOnly Departure.lateStores }, { on := 8, ground := Ground.textOnly Departure.lateStores }, { on := 9, ground := Ground.textOnly Departure.lateStores }, { on := 10, ground := Ground.textOnly Departure.lateStores }, { on := 11, ground := Ground.textOnly Departure.lateStores }, { on := 12, ground := Ground.textOnly Departure.lateStores }, { on := 13, ground := Ground.textOnly Departure.lateStores }, { on := 14, ground := Ground.textOnly Departure.lateStores }, { on := 15, ground := Ground.textOnly Departure.lateStores }, { on := 16, ground := Ground.textOnly Departure.lateStoresUnsure }, { on := 17, ground := Ground.textOnly Departure.lateStores }, { on := 18, ground := Ground.textOnly Departure.lateStores }, { on := 19, ground := Ground.textOnly Departure.lateStores }, { on := 20, ground := Ground.textOnly Departure.lateStores }, { on := 21, ground := Ground.textOnly Departure.lateStores }, { on := 22, ground := Ground.textOnly Departure.lateStores }], guard := none }) rfl (fun K_ hK_ => ?_) AllReadyH.nil
      obtain ⟨hB_, hG4_, ca_, cb_, cc_, hG2_⟩ := id hS
      have f0_ := blk_frozen hG2_ 0
      have c0_ := blk_cell hG2_ 0
      have c1_ := blk_cell hG2_ 1
      have c2_ := blk_cell hG2_ 2
      have f1_ := blk_frozen hG2_ 1
      have f2_ := blk_frozen hG2_ 2
      have HG2_ := Aside0.mk hG2_
      have HG4_ := Aside0.mk hG4_
      have HB_ := Aside0.mk hB_
      clear hB_ hG4_ hG2_
      go_simp
      refine hK_.out _ _ (store_RS HGE.out HNE.out HB_.out HG4_.out HG2_.out) (fun hS_ => ?_)
      clear hK_ K_ hS
      have hS := hS_
      clear hS_
      try simp only [Act.put, List.setIfInBounds_toArray, List.set_cons_zero, List.set_cons_succ]
      refine wpAnyH_take (i := 24) (oi := { dst := some 3, op := Op.assign (Operand.tmp 35), type := 4, pos := "updater.go:67", after := #[{ on := 22, ground := Ground.data }, { on := 23, ground := Ground.chain }, { on := 0, ground := Ground.phase }, { on := 1, ground := Ground.phase }, { on := 2, ground := Ground.phase }, { on := 3, ground := Ground.phase }, { on := 4, ground := Ground.phase }, { on := 5, ground := Ground.phase }, { on := 6, ground := Ground.phase }, { on := 7, ground := Ground.phase }, { on := 8, ground := Ground.phase }, { on := 9, ground := Ground.phase }, { on := 10, ground := Ground.phase }, { on := 11, ground := Ground.phase }, { on := 12, ground := Ground.phase }, { on := 13, ground := Ground.phase }, { on := 14, ground := Ground.phase }, { on := 15, ground := Ground.phase }, { on := 16, ground := Ground.phase }, { on := 17, ground := Ground.phase }, { on := 18, ground := Ground.phase }, { on := 19, ground := Ground.phase }, { on := 20, ground := Ground.phase }, { on := 21, ground := Ground.phase }, { on := 22, ground := Ground.phase }, { on := 23, ground := Ground.phase }], guard := none }) (v := ?_) rfl (by kernel_rfl) (by kernel_rfl) (by kernel_rfl) (fun _ _ _ h => h) (Or.inl ⟨by rfl, ?_⟩) hS ?_
      rotate_left
      · intro W_ hSW_
        obtain ⟨hB_, hG4_, hG2_⟩ := hSW_
        have t0_ := blk_cell hG4_ 0
        have t1_ := blk_cell hG4_ 1
        have t2_ := blk_cell hG4_ 2
        have x2_ := (HU.out W_ hB_).2.2
        go_simp
        try with_reducible rfl
      try simp only [Act.put, List.setIfInBounds_toArray, List.set_cons_zero, List.set_cons_succ]
      refine wpAnyH_done (by kernel_rfl) ?_ _
      go_wp2_with fail
      refine bodyPost_ret (results_ct rfl _ _ w.heap.size 71 #[.int .i64 n1, .int .i64 n5, .int .u16 n7] (0, 0) _ rfl (store_G2 HG2_.out) Try.underlying71 rfl info71) rfl ⟨?_, hS.1⟩
      rw [HA.out]
      clear hA2
      simp [hA, hB]
      intros; omega
  · have hA2 : (n0 == 1) = false := by simpa using hA
    refine wp_region_held_drew (S := RS w w.heap.size w3.heap.size n1 n5 n7) (by kernel_rfl) HR0.out.drew (fun hS => ?_)
    refine wpAnyH_take (i := 0) (oi := { dst := some 13, op := Op.load 71 (Operand.tmp 4), type := 71, pos := "updater.go:67", after := #[], guard := none }) (v := ?_) rfl (by kernel_rfl) (by kernel_rfl) (by kernel_rfl) (fun _ _ _ h => h) (Or.inl ⟨by rfl, ?_⟩) hS ?_
    rotate_left
    · intro W_ hSW_
      obtain ⟨hB_, hG4_, hG2_⟩ := hSW_
      have t0_ := blk_cell hG4_ 0
      have t1_ := blk_cell hG4_ 1
      have t2_ := blk_cell hG4_ 2
      have x2_ := (HU.out W_ hB_).2.2
      go_simp
      try with_reducible rfl
    try simp only [Act.put, List.setIfInBounds_toArray, List.set_cons_zero, List.set_cons_succ]
    refine wpAnyH_take (i := 1) (oi := { dst := some 14, op := Op.move (Operand.tmp 0), type := 25, pos := "updater.go:67", after := #[], guard := none }) (v := ?_) rfl (by kernel_rfl) (by kernel_rfl) (by kernel_rfl) (fun _ _ _ h => h) (Or.inl ⟨by rfl, ?_⟩) hS ?_
    rotate_left
    · intro W_ hSW_
      obtain ⟨hB_, hG4_, hG2_⟩ := hSW_
      have t0_ := blk_cell hG4_ 0
      have t1_ := blk_cell hG4_ 1
      have t2_ := blk_cell hG4_ 2
      have x2_ := (HU.out W_ hB_).2.2
      go_simp
      try with_reducible rfl
    try simp only [Act.put, List.setIfInBounds_toArray, List.set_cons_zero, List.set_cons_succ]
    refine wpAnyH_ready (rs := [2]) (by kernel_rfl) (by simp) ?_
    refine AllReadyH.cons (o := { dst := some 15, op := Op.call { callee := Callee.value (Operand.func 40), args := #[Operand.tmp 14, Operand.const (Value.int IntKind.i64 0), Operand.const (Value.int IntKind.i64 1)], argTypes := #[25, 3, 3] }, type := 3, pos := "updater.go:67", after := #[{ on := 1, ground := Ground.data }], guard := none }) rfl (fun K_ hK_ => ?_) AllReadyH.nil
    obtain ⟨hB_, hG4_, ca_, cb_, cc_, hG2_⟩ := id hS
    go_simp
    refine (K0.out _ hB_).mono ?_
    rintro e w_ ⟨rfl, hb_⟩
    have HS_ := Aside0.mk (show RS w w.heap.size w3.heap.size n1 n5 n7 w_ from ⟨below_step hB_ hb_, blk_below hG4_ hb_, ca_, cb_, cc_, blk_below hG2_ hb_⟩)
    clear hb_ hB_ hG4_ hG2_
    refine hK_.out _ _ (HS_.out) (fun hS_ => ?_)
    clear hK_ K_ hS
    have hS := hS_
    clear hS_
    try simp only [Act.put, List.setIfInBounds_toArray, List.set_cons_zero, List.set_cons_succ]
    refine wpAnyH_take (i := 3) (oi := { dst := some 16, op := Op.binOp BinOp.eql 3 (Operand.tmp 15) (Operand.const (Value.int IntKind.i64 1)) 3, type := 4, pos := "updater.go:67", after := #[{ on := 2, ground := Ground.data }], guard := none }) (v := ?_) rfl (by kernel_rfl) (by kernel_rfl) (by kernel_rfl) (fun _ _ _ h => h) (Or.inl ⟨by rfl, ?_⟩) hS ?_
    rotate_left
    · intro W_ hSW_
      obtain ⟨hB_, hG4_, hG2_⟩ := hSW_
      have t0_ := blk_cell hG4_ 0
      have t1_ := blk_cell hG4_ 1
      have t2_ := blk_cell hG4_ 2
      have x2_ := (HU.out W_ hB_).2.2
      go_simp
      try with_reducible rfl
    try simp only [Act.put, List.setIfInBounds_toArray, List.set_cons_zero, List.set_cons_succ]
    refine wpAnyH_take (i := 4) (oi := { dst := some 17, op := Op.move (Operand.tmp 16), type := 4, pos := "updater.go:67", after := #[{ on := 3, ground := Ground.data }, { on := 2, ground := Ground.chain }], guard := none }) (v := ?_) rfl (by kernel_rfl) (by kernel_rfl) (by kernel_rfl) (fun _ _ _ h => h) (Or.inl ⟨by rfl, ?_⟩) hS ?_
    rotate_left
    · intro W_ hSW_
      obtain ⟨hB_, hG4_, hG2_⟩ := hSW_
      have t0_ := blk_cell hG4_ 0
      have t1_ := blk_cell hG4_ 1
      have t2_ := blk_cell hG4_ 2
      have x2_ := (HU.out W_ hB_).2.2
      go_simp
      try with_reducible rfl
    try simp only [Act.put, List.setIfInBounds_toArray, List.set_cons_zero, List.set_cons_succ]
    refine wpAnyH_take (i := 5) (oi := { dst := some 18, op := Op.fieldAddr 71 (Operand.tmp 4) 1, type := 0, pos := "updater.go:67", after := #[{ on := 4, ground := Ground.guard }], guard := some (4, true) }) (v := undef) rfl (by kernel_rfl) (by kernel_rfl) (by kernel_rfl) (fun _ _ _ h => h) (Or.inr ⟨by rfl, rfl⟩) hS ?_
    try simp only [Act.put, List.setIfInBounds_toArray, List.set_cons_zero, List.set_cons_succ]
    refine wpAnyH_take (i := 6) (oi := { dst := some 19, op := Op.load 3 (Operand.tmp 18), type := 3, pos := "updater.go:67", after := #[{ on := 5, ground := Ground.data }, { on := 4, ground := Ground.guard }], guard := some (4, true) }) (v := undef) rfl (by kernel_rfl) (by kernel_rfl) (by kernel_rfl) (fun _ _ _ h => h) (Or.inr ⟨by rfl, rfl⟩) hS ?_
    try simp only [Act.put, List.setIfInBounds_toArray, List.set_cons_zero, List.set_cons_succ]
    refine wpAnyH_take (i := 7) (oi := { dst := some 20, op := Op.binOp BinOp.geq 3 (Operand.tmp 19) (Operand.const (Value.int IntKind.i64 1)) 3, type := 4, pos := "updater.go:67", after := #[{ on := 6, ground := Ground.data }, { on := 4, ground := Ground.guard }], guard := some (4, true) }) (v := undef) rfl (by kernel_rfl) (by kernel_rfl) (by kernel_rfl) (fun _ _ _ h => h) (Or.inr ⟨by rfl, rfl⟩) hS ?_
    try simp only [Act.put, List.setIfInBounds_toArray, List.set_cons_zero, List.set_cons_succ]
    refine wpAnyH_take (i := 8) (oi := { dst := some 21, op := Op.pick (Operand.tmp 17) (Operand.tmp 20) (Operand.const (Value.bool false)), type := 4, pos := "updater.go:67", after := #[{ on := 4, ground := Ground.data }, { on := 7, ground := Ground.data }], guard := none }) (v := ?_) rfl (by kernel_rfl) (by kernel_rfl) (by kernel_rfl) (fun _ _ _ h => h) (Or.inl ⟨by rfl, ?_⟩) hS ?_
    rotate_left
    · intro W_ hSW_
      obtain ⟨hB_, hG4_, hG2_⟩ := hSW_
      have t0_ := blk_cell hG4_ 0
      have t1_ := blk_cell hG4_ 1
      have t2_ := blk_cell hG4_ 2
      have x2_ := (HU.out W_ hB_).2.2
      go_simp
      try with_reducible rfl
    try simp only [Act.put, List.setIfInBounds_toArray, List.set_cons_zero, List.set_cons_succ]
    refine wpAnyH_take (i := 9) (oi := { dst := some 22, op := Op.move (Operand.tmp 21), type := 4, pos := "updater.go:67", after := #[{ on := 8, ground := Ground.data }, { on := 4, ground := Ground.chain }], guard := none }) (v := ?_) rfl (by kernel_rfl) (by kernel_rfl) (by kernel_rfl) (fun _ _ _ h => h) (Or.inl ⟨by rfl, ?_⟩) hS ?_
    rotate_left
    · intro W_ hSW_
      obtain ⟨hB_, hG4_, hG2_⟩ := hSW_
      have t0_ := blk_cell hG4_ 0
      have t1_ := blk_cell hG4_ 1
      have t2_ := blk_cell hG4_ 2
      have x2_ := (HU.out W_ hB_).2.2
      go_simp
      try with_reducible rfl
    try simp only [Act.put, List.setIfInBounds_toArray, List.set_cons_zero, List.set_cons_succ]
    refine wpAnyH_take (i := 10) (oi := { dst := some 23, op := Op.fieldAddr 71 (Operand.tmp 4) 1, type := 0, pos := "updater.go:67", after := #[{ on := 9, ground := Ground.guard }], guard := some (9, true) }) (v := undef) rfl (by kernel_rfl) (by kernel_rfl) (by kernel_rfl) (fun _ _ _ h => h) (Or.inr ⟨by rfl, rfl⟩) hS ?_
    try simp only [Act.put, List.setIfInBounds_toArray, List.set_cons_zero, List.set_cons_succ]
    refine wpAnyH_take (i := 11) (oi := { dst := some 24, op := Op.load 3 (Operand.tmp 23), type := 3, pos := "updater.go:67", after := #[{ on := 10, ground := Ground.data }, { on := 9, ground := Ground.guard }], guard := some (9, true) }) (v := undef) rfl (by kernel_rfl) (by kernel_rfl) (by kernel_rfl) (fun _ _ _ h => h) (Or.inr ⟨by rfl, rfl⟩) hS ?_
    try simp only [Act.put, List.setIfInBounds_toArray, List.set_cons_zero, List.set_cons_succ]
    refine wpAnyH_take (i := 12) (oi := { dst := some 25, op := Op.binOp BinOp.leq 3 (Operand.tmp 24) (Operand.const (Value.int IntKind.i64 6144)) 3, type := 4, pos := "updater.go:67", after := #[{ on := 11, ground := Ground.data }, { on := 9, ground := Ground.guard }], guard := some (9, true) }) (v := undef) rfl (by kernel_rfl) (by kernel_rfl) (by kernel_rfl) (fun _ _ _ h => h) (Or.inr ⟨by rfl, rfl⟩) hS ?_
    try simp only [Act.put, List.setIfInBounds_toArray, List.set_cons_zero, List.set_cons_succ]
    refine wpAnyH_take (i := 13) (oi := { dst := some 26, op := Op.pick (Operand.tmp 22) (Operand.tmp 25) (Operand.const (Value.bool false)), type := 4, pos := "updater.go:67", after := #[{ on := 9, ground := Ground.data }, { on := 12, ground := Ground.data }], guard := none }) (v := ?_) rfl (by kernel_rfl) (by kernel_rfl) (by kernel_rfl) (fun _ _ _ h => h) (Or.inl ⟨by rfl, ?_⟩) hS ?_
    rotate_left
    · intro W_ hSW_
      obtain ⟨hB_, hG4_, hG2_⟩ := hSW_
      have t0_ := blk_cell hG4_ 0
      have t1_ := blk_cell hG4_ 1
      have t2_ := blk_cell hG4_ 2
      have x2_ := (HU.out W_ hB_).2.2
      go_simp
      try with_reducible rfl
    try simp only [Act.put, List.setIfInBounds_toArray, List.set_cons_zero, List.set_cons_succ]
    refine wpAnyH_take (i := 14) (oi := { dst := some 27, op := Op.move (Operand.tmp 26), type := 4, pos := "updater.go:67", after := #[{ on := 13, ground := Ground.data }, { on := 9, ground := Ground.chain }], guard := none }) (v := ?_) rfl (by kernel_rfl) (by kernel_rfl) (by kernel_rfl) (fun _ _ _ h => h) (Or.inl ⟨by rfl, ?_⟩) hS ?_
    rotate_left
    · intro W_ hSW_
      obtain ⟨hB_, hG4_, hG2_⟩ := hSW_
      have t0_ := blk_cell hG4_ 0
      have t1_ := blk_cell hG4_ 1
      have t2_ := blk_cell hG4_ 2
      have x2_ := (HU.out W_ hB_).2.2
      go_simp
      try with_reducible rfl
    try simp only [Act.put, List.setIfInBounds_toArray, List.set_cons_zero, List.set_cons_succ]
    refine wpAnyH_take (i := 15) (oi := { dst := some 28, op := Op.move (Operand.tmp 0), type := 25, pos := "updater.go:67", after := #[{ on := 14, ground := Ground.guard }], guard := some (14, true) }) (v := undef) rfl (by kernel_rfl) (by kernel_rfl) (by kernel_rfl) (fun _ _ _ h => h) (Or.inr ⟨by rfl, rfl⟩) hS ?_
    try simp only [Act.put, List.setIfInBounds_toArray, List.set_cons_zero, List.set_cons_succ]
    refine wpAnyH_take (i := 16) (oi := { dst := some 29, op := Op.call { callee := Callee.value (Operand.func 40), args := #[Operand.tmp 28, Operand.const (Value.int IntKind.i64 9), Operand.const (Value.int IntKind.i64 1)], argTypes := #[25, 3, 3] }, type := 3, pos := "updater.go:67", after := #[{ on := 15, ground := Ground.data }, { on := 14, ground := Ground.chain }, { on := 14, ground := Ground.guard }], guard := some (14, true) }) (v := undef) rfl (by kernel_rfl) (by kernel_rfl) (by kernel_rfl) (fun _ _ _ h => h) (Or.inr ⟨by rfl, rfl⟩) hS ?_
    try simp only [Act.put, List.setIfInBounds_toArray, List.set_cons_zero, List.set_cons_succ]
    refine wpAnyH_take (i := 17) (oi := { dst := some 30, op := Op.move (Operand.tmp 0), type := 25, pos := "updater.go:67", after := #[{ on := 14, ground := Ground.guard }, { on := 23, ground := Ground.gcOnly Departure.lateStores }], guard := some (14, true) }) (v := undef) rfl (by kernel_rfl) (by kernel_rfl) (by kernel_rfl) (fun _ _ _ h => h) (Or.inr ⟨by rfl, rfl⟩) hS ?_
    try simp only [Act.put, List.setIfInBounds_toArray, List.set_cons_zero, List.set_cons_succ]
    refine wpAnyH_take (i := 18) (oi := { dst := some 31, op := Op.nilCheck (Operand.tmp 30), type := 0, pos := "updater.go:67", after := #[{ on := 17, ground := Ground.data }, { on := 14, ground := Ground.guard }, { on := 23, ground := Ground.gcOnly Departure.lateStores }], guard := some (14, true) }) (v := undef) rfl (by kernel_rfl) (by kernel_rfl) (by kernel_rfl) (fun _ _ _ h => h) (Or.inr ⟨by rfl, rfl⟩) hS ?_
    try simp only [Act.put, List.setIfInBounds_toArray, List.set_cons_zero, List.set_cons_succ]
    refine wpAnyH_take (i := 19) (oi := { dst := some 32, op := Op.fieldAddr 77 (Operand.tmp 31) 2, type := 0, pos := "updater.go:67", after := #[{ on := 18, ground := Ground.data }, { on := 14, ground := Ground.guard }, { on := 23, ground := Ground.gcOnly Departure.lateStores }], guard := some (14, true) }) (v := undef) rfl (by kernel_rfl) (by kernel_rfl) (by kernel_rfl) (fun _ _ _ h => h) (Or.inr ⟨by rfl, rfl⟩) hS ?_
    try simp only [Act.put, List.setIfInBounds_toArray, List.set_cons_zero, List.set_cons_succ]
    refine wpAnyH_take (i := 20) (oi := { dst := some 33, op := Op.load 3 (Operand.tmp 32), type := 3, pos := "updater.go:67", after := #[{ on := 19, ground := Ground.data }, { on := 14, ground := Ground.guard }, { on := 23, ground := Ground.gcOnly Departure.lateStores }], guard := some (14, true) }) (v := undef) rfl (by kernel_rfl) (by kernel_rfl) (by kernel_rfl) (fun _ _ _ h => h) (Or.inr ⟨by rfl, rfl⟩) hS ?_
    try simp only [Act.put, List.setIfInBounds_toArray, List.set_cons_zero, List.set_cons_succ]
    refine wpAnyH_take (i := 21) (oi := { dst := some 34, op := Op.binOp BinOp.eql 3 (Operand.tmp 29) (Operand.tmp 33) 3, type := 4, pos := "updater.go:67", after := #[{ on := 16, ground := Ground.data }, { on := 20, ground := Ground.data }, { on := 14, ground := Ground.guard }, { on := 23, ground := Ground.gcOnly Departure.lateStores }], guard := some (14, true) }) (v := undef) rfl (by kernel_rfl) (by kernel_rfl) (by kernel_rfl) (fun _ _ _ h => h) (Or.inr ⟨by rfl, rfl⟩) hS ?_
    try simp only [Act.put, List.setIfInBounds_toArray, List.set_cons_zero, List.set_cons_succ]
    refine wpAnyH_take (i := 22) (oi := { dst := some 35, op := Op.pick (Operand.tmp 27) (Operand.tmp 34) (Operand.const (Value.bool false)), type := 4, pos := "updater.go:67", after := #[{ on := 14, ground := Ground.data }, { on := 21, ground := Ground.data }, { on := 23, ground := Ground.gcOnly Departure.lateStores }], guard := none }) (v := ?_) rfl (by kernel_rfl) (by kernel_rfl) (by kernel_rfl) (fun _ _ _ h => h) (Or.inl ⟨by rfl, ?_⟩) hS ?_
    rotate_left
    · intro W_ hSW_
      obtain ⟨hB_, hG4_, hG2_⟩ := hSW_
      have t0_ := blk_cell hG4_ 0
      have t1_ := blk_cell hG4_ 1
      have t2_ := blk_cell hG4_ 2
      have x2_ := (HU.out W_ hB_).2.2
      go_simp
      try with_reducible rfl
    try simp only [Act.put, List.setIfInBounds_toArray, List.set_cons_zero, List.set_cons_succ]
    refine wpAnyH_ready (rs := [23]) (by kernel_rfl) (by simp) ?_
    refine AllReadyH.cons (o := { dst := none, op := Op.store 71 (Operand.tmp 2) (Operand.tmp 13), type := 0, pos := "updater.go:67", after := #[{ on := 0, ground := Ground.data }, { on := 16, ground := Ground.chain }, { on := 0, ground := Ground.phase }, { on := 1, ground := Ground.textOnly Departure.lateStores }, { on := 2, ground := Ground.textOnly Departure.lateStoresUnsure }, { on := 3, ground := Ground.textOnly Departure.lateStores }, { on := 4, ground := Ground.textOnly Departure.lateStores }, { on := 5, ground := Ground.textOnly Departure.lateStores }, { on := 6, ground := Ground.textOnly Departure.lateStores }, { on := 7, ground := Ground.textOnly Departure.lateStores }, { on := 8, ground := Ground.textOnly Departure.lateStores }, { on := 9, ground := Ground.textOnly Departure.lateStores }, { on := 10, ground := Ground.textOnly Departure.lateStores }, { on := 11, ground := Ground.textOnly Departure.lateStores }, { on := 12, ground := Ground.textOnly Departure.lateStores }, { on := 13, ground := Ground.textOnly Departure.lateStores }, { on := 14, ground := Ground.textOnly Departure.lateStores }, { on := 15, ground := Ground.textOnly Departure.lateStores }, { on := 16, ground := Ground.textOnly Departure.lateStoresUnsure }, { on := 17, ground := Ground.textOnly Departure.lateStores }, { on := 18, ground := Ground.textOnly Departure.lateStores }, { on := 19, ground := Ground.textOnly Departure.lateStores }, { on := 20, ground := Ground.textOnly Departure.lateStores }, { on := 21, ground := Ground.textOnly Departure.lateStores }, { on := 22, ground := Ground.textOnly Departure.lateStores }], guard := none }) rfl (fun K_ hK_ => ?_) AllReadyH.nil
    obtain ⟨hB_, hG4_, ca_, cb_, cc_, hG2_⟩ := id hS
    have f0_ := blk_frozen hG2_ 0
    have c0_ := blk_cell hG2_ 0
    have c1_ := blk_cell hG2_ 1
    have c2_ := blk_cell hG2_ 2
    have f1_ := blk_frozen hG2_ 1
    have f2_ := blk_frozen hG2_ 2
    have HG2_ := Aside0.mk hG2_
    have HG4_ := Aside0.mk hG4_
    have HB_ := Aside0.mk hB_
    clear hB_ hG4_ hG2_
    go_simp
    refine hK_.out _ _ (store_RS HGE.out HNE.out HB_.out HG4_.out HG2_.out) (fun hS_ => ?_)
    clear hK_ K_ hS
    have hS := hS_
    clear hS_
    try simp only [Act.put, List.setIfInBounds_toArray, List.set_cons_zero, List.set_cons_succ]
    refine wpAnyH_take (i := 24) (oi := { dst := some 3, op := Op.assign (Operand.tmp 35), type := 4, pos := "updater.go:67", after := #[{ on := 22, ground := Ground.data }, { on := 23, ground := Ground.chain }, { on := 0, ground := Ground.phase }, { on := 1, ground := Ground.phase }, { on := 2, ground := Ground.phase }, { on := 3, ground := Ground.phase }, { on := 4, ground := Ground.phase }, { on := 5, ground := Ground.phase }, { on := 6, ground := Ground.phase }, { on := 7, ground := Ground.phase }, { on := 8, ground := Ground.phase }, { on := 9, ground := Ground.phase }, { on := 10, ground := Ground.phase }, { on := 11, ground := Ground.phase }, { on := 12, ground := Ground.phase }, { on := 13, ground := Ground.phase }, { on := 14, ground := Ground.phase }, { on := 15, ground := Ground.phase }, { on := 16, ground := Ground.phase }, { on := 17, ground := Ground.phase }, { on := 18, ground := Ground.phase }, { on := 19, ground := Ground.phase }, { on := 20, ground := Ground.phase }, { on := 21, ground := Ground.phase }, { on := 22, ground := Ground.phase }, { on := 23, ground := Ground.phase }], guard := none }) (v := ?_) rfl (by kernel_rfl) (by kernel_rfl) (by kernel_rfl) (fun _ _ _ h => h) (Or.inl ⟨by rfl, ?_⟩) hS ?_
    rotate_left
    · intro W_ hSW_
      obtain ⟨hB_, hG4_, hG2_⟩ := hSW_
      have t0_ := blk_cell hG4_ 0
      have t1_ := blk_cell hG4_ 1
      have t2_ := blk_cell hG4_ 2
      have x2_ := (HU.out W_ hB_).2.2
      go_simp
      try with_reducible rfl
    try simp only [Act.put, List.setIfInBounds_toArray, List.set_cons_zero, List.set_cons_succ]
    refine wpAnyH_done (by kernel_rfl) ?_ _
    go_wp2_with fail
    refine bodyPost_ret (results_ct rfl _ _ w.heap.size 71 #[.int .i64 n1, .int .i64 n5, .int .u16 n7] (0, 0) _ rfl (store_G2 HG2_.out) Try.underlying71 rfl info71) rfl ⟨?_, hS.1⟩
    rw [HA.out]
    clear hA2
    simp [hA]
end Go.Proofs.Ytfcldacjnegacaa.Up
