/- The law's same: an updater and the reference over the same device agree. -/
import Derived.Test.YtfcldacjnegacaaUpW
import Derived.Test.YtfcldacjnegacaaUpU
namespace Go.Proofs.Ytfcldacjnegacaa.Up
open Go.RowKit Go.Proofs.YtfcldacjnegacaaW.PrintWords Go.Proofs.YtfcldacjnegacaaW.PrintLast Go.Proofs.YtfcldacjnegacaaW.PrintMore Go.Proofs.Ytfcldacjnegacaa.Sl
set_option linter.unusedVariables false
set_option linter.unusedSimpArgs false
variable {L : List Chunk} {w0 w w' : World} {gm gb gu gd gr N c : Nat} {d e : Dv}
theorem St.gdev (h : St w0 w gm gb gu gd gr N d e c L) : w.heap[gd]? = some (.cells #[.slice (some ⟨gr, 0, none⟩) N N, .bool e.off, .int .i64 e.left] 62 (0, 0)) := by
  obtain ⟨M, hD, _⟩ := h.ref
  exact hD.2.get
theorem St.off_call (h : St w0 w gm gb gu gd gr N d e c L) : Calls Try.prog 26 #[.pointer (some ⟨gm, 0, none⟩)] w fun x w' => x = .returned (.bool d.off) ∧ w = w' := Off_call h.1
set_option maxRecDepth 100000 in
set_option maxHeartbeats 2000000 in
theorem same_any (hS : St w0 w gm gb gu gd gr N d d c L) (hN : N = 10240) (hc : 4 ≤ c) (hc2 : c ≤ 36) {i v : Int} {b a : Bool} (hmr : misR (d.misA c) = .tuple #[.int .i64 i, .bool b]) (hv : (if d.act (c : Int) = true then d.num 1 4 else 0) = v) (ha : d.act (c : Int) = a) :
    Calls Try.prog 12 #[.agg #[.pointer (some ⟨gm, 0, none⟩), .pointer (some ⟨gu, 0, none⟩), .pointer (some ⟨gd, 0, none⟩), .int .i64 4096, .int .i64 (c : Int)]] w fun e w' => e = .returned (.bool true) ∧ Below w.heap.size w w' := by
  have K1 := Aside0.mk (fun W (hb : Below w.heap.size w W) => Missing_call (hS.step hb).1 hN hc hc2)
  have K2 := Aside0.mk (fun W (hb : Below w.heap.size w W) => by obtain ⟨M, hD, _⟩ := (hS.step hb).ref; exact rMissing_call (slot := 4096) hD hN hc hc2)
  have K3 := Aside0.mk (fun W (hb : Below w.heap.size w W) => Version_call (hS.step hb).1 hN)
  have K4 := Aside0.mk (fun W (hb : Below w.heap.size w W) => by obtain ⟨M, hD, _⟩ := (hS.step hb).ref; exact rVersion_call (slot := 4096) (chunk := (c : Int)) hD hN)
  have K5 := Aside0.mk (fun W (hb : Below w.heap.size w W) => (hS.step hb).off_call)
  rw [hmr] at K1 K2
  rw [hv, ha] at K3 K4
  unfold rup at K2 K4
  have HG := Aside0.mk hS.gdev
  have HB0 := Aside0.mk (below_alloc (Below.refl w.heap.size w) (.cells #[.pointer (some ⟨gm, 0, none⟩), .pointer (some ⟨gu, 0, none⟩), .pointer (some ⟨gd, 0, none⟩), .int .i64 4096, .int .i64 (c : Int)] 30))
  have HX0 := Aside0.mk (blk_new w (.cells #[.pointer (some ⟨gm, 0, none⟩), .pointer (some ⟨gu, 0, none⟩), .pointer (some ⟨gd, 0, none⟩), .int .i64 4096, .int .i64 (c : Int)] 30))
  generalize d.off = o at *
  generalize d.left = lf at *
  clear hS hN hc hc2 hmr hv ha
  go_enter Try.func12, Try.ntmps12
  go_wp2_with fail
  refine (K1.out _ HB0.out).mono ?_
  rintro e w1 ⟨rfl, hb⟩
  have HB1 := Aside0.mk (below_step HB0.out hb)
  have hx := blk_below HX0.out hb
  have z0 := blk_cell hx 0
  have z1 := blk_cell hx 1
  have z2 := blk_cell hx 2
  have z3 := blk_cell hx 3
  have z4 := blk_cell hx 4
  have HX1 := Aside0.mk hx
  clear hb hx HB0 HX0
  go_wp2_with fail
  refine (K2.out _ HB1.out).mono ?_
  rintro e w2 ⟨rfl, hb⟩
  have HB2 := Aside0.mk (below_step HB1.out hb)
  have hx := blk_below HX1.out hb
  clear z0 z1 z2 z3 z4
  have z1 := blk_cell hx 1
  have HX2 := Aside0.mk hx
  clear hb hx HB1 HX1
  go_wp2_with fail
  refine (K3.out _ HB2.out).mono ?_
  rintro e w3 ⟨rfl, hb⟩
  have HB3 := Aside0.mk (below_step HB2.out hb)
  have hx := blk_below HX2.out hb
  clear z1
  have z2 := blk_cell hx 2
  have z3 := blk_cell hx 3
  have z4 := blk_cell hx 4
  have HX3 := Aside0.mk hx
  clear hb hx HB2 HX2
  go_wp2_with fail
  refine (K4.out _ HB3.out).mono ?_
  rintro e w4 ⟨rfl, hb⟩
  have HB4 := Aside0.mk (below_step HB3.out hb)
  have hx := blk_below HX3.out hb
  clear z2 z3 z4
  have z0 := blk_cell hx 0
  have z2 := blk_cell hx 2
  have hgd := blk_below HG.out HB4.out
  have y1 := blk_cell hgd 1
  have HX4 := Aside0.mk hx
  clear hb hx HB3 HX3 hgd
  go_wp2_with fail
  obtain ⟨g1, hg1⟩ : ∃ g1, w.heap.size = g1 := ⟨_, rfl⟩
  rw [hg1] at z0 z2 HX4
  rw [hg1]
  clear hg1
  refine wp_region_held_drew (S := fun W => W.cell? ⟨g1, 0, none⟩ = some (.pointer (some ⟨gm, 0, none⟩)) ∧ W.cell? ⟨g1, 2, none⟩ = some (.pointer (some ⟨gd, 0, none⟩)) ∧ W.cell? ⟨gd, 1, none⟩ = some (.bool o)) (by kernel_rfl) ⟨z0, z2, y1⟩ (fun hS => ?_)
  refine wpAnyH_take (i := 0) (oi := { dst := some 35, op := Op.move (Operand.tmp 3), type := 3, pos := "law.go:106", after := #[], guard := none }) (v := ?_) rfl (by kernel_rfl) (by kernel_rfl) (by kernel_rfl) (fun _ _ _ h => h) (Or.inl ⟨by rfl, ?_⟩) hS ?_
  rotate_left
  · intro W_ hSW_
    obtain ⟨z0_, z2_, y1_⟩ := hSW_
    go_simp
    try with_reducible rfl
  try simp only [Act.put, List.setIfInBounds_toArray, List.set_cons_zero, List.set_cons_succ]
  refine wpAnyH_take (i := 1) (oi := { dst := some 36, op := Op.move (Operand.tmp 5), type := 3, pos := "law.go:106", after := #[], guard := none }) (v := ?_) rfl (by kernel_rfl) (by kernel_rfl) (by kernel_rfl) (fun _ _ _ h => h) (Or.inl ⟨by rfl, ?_⟩) hS ?_
  rotate_left
  · intro W_ hSW_
    obtain ⟨z0_, z2_, y1_⟩ := hSW_
    go_simp
    try with_reducible rfl
  try simp only [Act.put, List.setIfInBounds_toArray, List.set_cons_zero, List.set_cons_succ]
  refine wpAnyH_take (i := 2) (oi := { dst := some 37, op := Op.binOp BinOp.eql 3 (Operand.tmp 35) (Operand.tmp 36) 3, type := 4, pos := "law.go:106", after := #[{ on := 0, ground := Ground.data }, { on := 1, ground := Ground.data }], guard := none }) (v := ?_) rfl (by kernel_rfl) (by kernel_rfl) (by kernel_rfl) (fun _ _ _ h => h) (Or.inl ⟨by rfl, ?_⟩) hS ?_
  rotate_left
  · intro W_ hSW_
    obtain ⟨z0_, z2_, y1_⟩ := hSW_
    go_simp
    try with_reducible rfl
  try simp only [Act.put, List.setIfInBounds_toArray, List.set_cons_zero, List.set_cons_succ]
  refine wpAnyH_take (i := 3) (oi := { dst := some 38, op := Op.move (Operand.tmp 37), type := 4, pos := "law.go:106", after := #[{ on := 2, ground := Ground.data }], guard := none }) (v := ?_) rfl (by kernel_rfl) (by kernel_rfl) (by kernel_rfl) (fun _ _ _ h => h) (Or.inl ⟨by rfl, ?_⟩) hS ?_
  rotate_left
  · intro W_ hSW_
    obtain ⟨z0_, z2_, y1_⟩ := hSW_
    go_simp
    try with_reducible rfl
  try simp only [Act.put, List.setIfInBounds_toArray, List.set_cons_zero, List.set_cons_succ]
  refine wpAnyH_take (i := 4) (oi := { dst := some 39, op := Op.move (Operand.tmp 4), type := 4, pos := "law.go:106", after := #[{ on := 3, ground := Ground.guard }], guard := some (3, true) }) (v := ?_) rfl (by kernel_rfl) (by kernel_rfl) (by kernel_rfl) (fun _ _ _ h => h) (Or.inl ⟨by rfl, ?_⟩) hS ?_
  rotate_left
  · intro W_ hSW_
    obtain ⟨z0_, z2_, y1_⟩ := hSW_
    go_simp
    try with_reducible rfl
  try simp only [Act.put, List.setIfInBounds_toArray, List.set_cons_zero, List.set_cons_succ]
  refine wpAnyH_take (i := 5) (oi := { dst := some 40, op := Op.move (Operand.tmp 6), type := 4, pos := "law.go:106", after := #[{ on := 3, ground := Ground.guard }], guard := some (3, true) }) (v := ?_) rfl (by kernel_rfl) (by kernel_rfl) (by kernel_rfl) (fun _ _ _ h => h) (Or.inl ⟨by rfl, ?_⟩) hS ?_
  rotate_left
  · intro W_ hSW_
    obtain ⟨z0_, z2_, y1_⟩ := hSW_
    go_simp
    try with_reducible rfl
  try simp only [Act.put, List.setIfInBounds_toArray, List.set_cons_zero, List.set_cons_succ]
  refine wpAnyH_take (i := 6) (oi := { dst := some 41, op := Op.binOp BinOp.eql 4 (Operand.tmp 39) (Operand.tmp 40) 4, type := 4, pos := "law.go:106", after := #[{ on := 4, ground := Ground.data }, { on := 5, ground := Ground.data }, { on := 3, ground := Ground.guard }], guard := some (3, true) }) (v := ?_) rfl (by kernel_rfl) (by kernel_rfl) (by kernel_rfl) (fun _ _ _ h => h) (Or.inl ⟨by rfl, ?_⟩) hS ?_
  rotate_left
  · intro W_ hSW_
    obtain ⟨z0_, z2_, y1_⟩ := hSW_
    go_simp
    try with_reducible rfl
  try simp only [Act.put, List.setIfInBounds_toArray, List.set_cons_zero, List.set_cons_succ]
  refine wpAnyH_take (i := 7) (oi := { dst := some 42, op := Op.pick (Operand.tmp 38) (Operand.tmp 41) (Operand.const (Value.bool false)), type := 4, pos := "law.go:106", after := #[{ on := 3, ground := Ground.data }, { on := 6, ground := Ground.data }], guard := none }) (v := ?_) rfl (by kernel_rfl) (by kernel_rfl) (by kernel_rfl) (fun _ _ _ h => h) (Or.inl ⟨by rfl, ?_⟩) hS ?_
  rotate_left
  · intro W_ hSW_
    obtain ⟨z0_, z2_, y1_⟩ := hSW_
    go_simp
    try with_reducible rfl
  try simp only [Act.put, List.setIfInBounds_toArray, List.set_cons_zero, List.set_cons_succ]
  refine wpAnyH_take (i := 8) (oi := { dst := some 43, op := Op.move (Operand.tmp 42), type := 4, pos := "law.go:106", after := #[{ on := 7, ground := Ground.data }, { on := 3, ground := Ground.chain }], guard := none }) (v := ?_) rfl (by kernel_rfl) (by kernel_rfl) (by kernel_rfl) (fun _ _ _ h => h) (Or.inl ⟨by rfl, ?_⟩) hS ?_
  rotate_left
  · intro W_ hSW_
    obtain ⟨z0_, z2_, y1_⟩ := hSW_
    go_simp
    try with_reducible rfl
  try simp only [Act.put, List.setIfInBounds_toArray, List.set_cons_zero, List.set_cons_succ]
  refine wpAnyH_take (i := 9) (oi := { dst := some 44, op := Op.move (Operand.tmp 7), type := 3, pos := "law.go:106", after := #[{ on := 8, ground := Ground.guard }], guard := some (8, true) }) (v := ?_) rfl (by kernel_rfl) (by kernel_rfl) (by kernel_rfl) (fun _ _ _ h => h) (Or.inl ⟨by rfl, ?_⟩) hS ?_
  rotate_left
  · intro W_ hSW_
    obtain ⟨z0_, z2_, y1_⟩ := hSW_
    go_simp
    try with_reducible rfl
  try simp only [Act.put, List.setIfInBounds_toArray, List.set_cons_zero, List.set_cons_succ]
  refine wpAnyH_take (i := 10) (oi := { dst := some 45, op := Op.move (Operand.tmp 9), type := 3, pos := "law.go:106", after := #[{ on := 8, ground := Ground.guard }], guard := some (8, true) }) (v := ?_) rfl (by kernel_rfl) (by kernel_rfl) (by kernel_rfl) (fun _ _ _ h => h) (Or.inl ⟨by rfl, ?_⟩) hS ?_
  rotate_left
  · intro W_ hSW_
    obtain ⟨z0_, z2_, y1_⟩ := hSW_
    go_simp
    try with_reducible rfl
  try simp only [Act.put, List.setIfInBounds_toArray, List.set_cons_zero, List.set_cons_succ]
  refine wpAnyH_take (i := 11) (oi := { dst := some 46, op := Op.binOp BinOp.eql 3 (Operand.tmp 44) (Operand.tmp 45) 3, type := 4, pos := "law.go:106", after := #[{ on := 9, ground := Ground.data }, { on := 10, ground := Ground.data }, { on := 8, ground := Ground.guard }], guard := some (8, true) }) (v := ?_) rfl (by kernel_rfl) (by kernel_rfl) (by kernel_rfl) (fun _ _ _ h => h) (Or.inl ⟨by rfl, ?_⟩) hS ?_
  rotate_left
  · intro W_ hSW_
    obtain ⟨z0_, z2_, y1_⟩ := hSW_
    go_simp
    try with_reducible rfl
  try simp only [Act.put, List.setIfInBounds_toArray, List.set_cons_zero, List.set_cons_succ]
  refine wpAnyH_take (i := 12) (oi := { dst := some 47, op := Op.pick (Operand.tmp 43) (Operand.tmp 46) (Operand.const (Value.bool false)), type := 4, pos := "law.go:106", after := #[{ on := 8, ground := Ground.data }, { on := 11, ground := Ground.data }], guard := none }) (v := ?_) rfl (by kernel_rfl) (by kernel_rfl) (by kernel_rfl) (fun _ _ _ h => h) (Or.inl ⟨by rfl, ?_⟩) hS ?_
  rotate_left
  · intro W_ hSW_
    obtain ⟨z0_, z2_, y1_⟩ := hSW_
    go_simp
    try with_reducible rfl
  try simp only [Act.put, List.setIfInBounds_toArray, List.set_cons_zero, List.set_cons_succ]
  refine wpAnyH_take (i := 13) (oi := { dst := some 48, op := Op.move (Operand.tmp 47), type := 4, pos := "law.go:106", after := #[{ on := 12, ground := Ground.data }, { on := 8, ground := Ground.chain }], guard := none }) (v := ?_) rfl (by kernel_rfl) (by kernel_rfl) (by kernel_rfl) (fun _ _ _ h => h) (Or.inl ⟨by rfl, ?_⟩) hS ?_
  rotate_left
  · intro W_ hSW_
    obtain ⟨z0_, z2_, y1_⟩ := hSW_
    go_simp
    try with_reducible rfl
  try simp only [Act.put, List.setIfInBounds_toArray, List.set_cons_zero, List.set_cons_succ]
  refine wpAnyH_take (i := 14) (oi := { dst := some 49, op := Op.move (Operand.tmp 8), type := 4, pos := "law.go:106", after := #[{ on := 13, ground := Ground.guard }], guard := some (13, true) }) (v := ?_) rfl (by kernel_rfl) (by kernel_rfl) (by kernel_rfl) (fun _ _ _ h => h) (Or.inl ⟨by rfl, ?_⟩) hS ?_
  rotate_left
  · intro W_ hSW_
    obtain ⟨z0_, z2_, y1_⟩ := hSW_
    go_simp
    try with_reducible rfl
  try simp only [Act.put, List.setIfInBounds_toArray, List.set_cons_zero, List.set_cons_succ]
  refine wpAnyH_take (i := 15) (oi := { dst := some 50, op := Op.move (Operand.tmp 10), type := 4, pos := "law.go:106", after := #[{ on := 13, ground := Ground.guard }], guard := some (13, true) }) (v := ?_) rfl (by kernel_rfl) (by kernel_rfl) (by kernel_rfl) (fun _ _ _ h => h) (Or.inl ⟨by rfl, ?_⟩) hS ?_
  rotate_left
  · intro W_ hSW_
    obtain ⟨z0_, z2_, y1_⟩ := hSW_
    go_simp
    try with_reducible rfl
  try simp only [Act.put, List.setIfInBounds_toArray, List.set_cons_zero, List.set_cons_succ]
  refine wpAnyH_take (i := 16) (oi := { dst := some 51, op := Op.binOp BinOp.eql 4 (Operand.tmp 49) (Operand.tmp 50) 4, type := 4, pos := "law.go:106", after := #[{ on := 14, ground := Ground.data }, { on := 15, ground := Ground.data }, { on := 13, ground := Ground.guard }], guard := some (13, true) }) (v := ?_) rfl (by kernel_rfl) (by kernel_rfl) (by kernel_rfl) (fun _ _ _ h => h) (Or.inl ⟨by rfl, ?_⟩) hS ?_
  rotate_left
  · intro W_ hSW_
    obtain ⟨z0_, z2_, y1_⟩ := hSW_
    go_simp
    try with_reducible rfl
  try simp only [Act.put, List.setIfInBounds_toArray, List.set_cons_zero, List.set_cons_succ]
  refine wpAnyH_take (i := 17) (oi := { dst := some 52, op := Op.pick (Operand.tmp 48) (Operand.tmp 51) (Operand.const (Value.bool false)), type := 4, pos := "law.go:106", after := #[{ on := 13, ground := Ground.data }, { on := 16, ground := Ground.data }], guard := none }) (v := ?_) rfl (by kernel_rfl) (by kernel_rfl) (by kernel_rfl) (fun _ _ _ h => h) (Or.inl ⟨by rfl, ?_⟩) hS ?_
  rotate_left
  · intro W_ hSW_
    obtain ⟨z0_, z2_, y1_⟩ := hSW_
    go_simp
    try with_reducible rfl
  try simp only [Act.put, List.setIfInBounds_toArray, List.set_cons_zero, List.set_cons_succ]
  refine wpAnyH_take (i := 18) (oi := { dst := some 53, op := Op.move (Operand.tmp 52), type := 4, pos := "law.go:106", after := #[{ on := 17, ground := Ground.data }, { on := 13, ground := Ground.chain }], guard := none }) (v := ?_) rfl (by kernel_rfl) (by kernel_rfl) (by kernel_rfl) (fun _ _ _ h => h) (Or.inl ⟨by rfl, ?_⟩) hS ?_
  rotate_left
  · intro W_ hSW_
    obtain ⟨z0_, z2_, y1_⟩ := hSW_
    go_simp
    try with_reducible rfl
  try simp only [Act.put, List.setIfInBounds_toArray, List.set_cons_zero, List.set_cons_succ]
  refine wpAnyH_take (i := 19) (oi := { dst := some 54, op := Op.fieldAddr 30 (Operand.tmp 1) 0, type := 0, pos := "law.go:106", after := #[{ on := 18, ground := Ground.guard }], guard := some (18, true) }) (v := ?_) rfl (by kernel_rfl) (by kernel_rfl) (by kernel_rfl) (fun _ _ _ h => h) (Or.inl ⟨by rfl, ?_⟩) hS ?_
  rotate_left
  · intro W_ hSW_
    obtain ⟨z0_, z2_, y1_⟩ := hSW_
    go_simp
    try with_reducible rfl
  try simp only [Act.put, List.setIfInBounds_toArray, List.set_cons_zero, List.set_cons_succ]
  refine wpAnyH_take (i := 20) (oi := { dst := some 55, op := Op.load 24 (Operand.tmp 54), type := 24, pos := "law.go:106", after := #[{ on := 19, ground := Ground.data }, { on := 18, ground := Ground.guard }], guard := some (18, true) }) (v := ?_) rfl (by kernel_rfl) (by kernel_rfl) (by kernel_rfl) (fun _ _ _ h => h) (Or.inl ⟨by rfl, ?_⟩) hS ?_
  rotate_left
  · intro W_ hSW_
    obtain ⟨z0_, z2_, y1_⟩ := hSW_
    go_simp
    try with_reducible rfl
  try simp only [Act.put, List.setIfInBounds_toArray, List.set_cons_zero, List.set_cons_succ]
  refine wpAnyH_take (i := 22) (oi := { dst := some 57, op := Op.fieldAddr 30 (Operand.tmp 1) 2, type := 0, pos := "law.go:106", after := #[{ on := 18, ground := Ground.guard }], guard := some (18, true) }) (v := ?_) rfl (by kernel_rfl) (by kernel_rfl) (by kernel_rfl) (fun _ _ _ h => h) (Or.inl ⟨by rfl, ?_⟩) hS ?_
  rotate_left
  · intro W_ hSW_
    obtain ⟨z0_, z2_, y1_⟩ := hSW_
    go_simp
    try with_reducible rfl
  try simp only [Act.put, List.setIfInBounds_toArray, List.set_cons_zero, List.set_cons_succ]
  refine wpAnyH_take (i := 23) (oi := { dst := some 58, op := Op.fieldAddr 28 (Operand.tmp 57) 0, type := 0, pos := "law.go:106", after := #[{ on := 22, ground := Ground.data }, { on := 18, ground := Ground.guard }], guard := some (18, true) }) (v := ?_) rfl (by kernel_rfl) (by kernel_rfl) (by kernel_rfl) (fun _ _ _ h => h) (Or.inl ⟨by rfl, ?_⟩) hS ?_
  rotate_left
  · intro W_ hSW_
    obtain ⟨z0_, z2_, y1_⟩ := hSW_
    go_simp
    try with_reducible rfl
  try simp only [Act.put, List.setIfInBounds_toArray, List.set_cons_zero, List.set_cons_succ]
  refine wpAnyH_take (i := 24) (oi := { dst := some 59, op := Op.load 26 (Operand.tmp 58), type := 26, pos := "law.go:106", after := #[{ on := 23, ground := Ground.data }, { on := 18, ground := Ground.guard }], guard := some (18, true) }) (v := ?_) rfl (by kernel_rfl) (by kernel_rfl) (by kernel_rfl) (fun _ _ _ h => h) (Or.inl ⟨by rfl, ?_⟩) hS ?_
  rotate_left
  · intro W_ hSW_
    obtain ⟨z0_, z2_, y1_⟩ := hSW_
    go_simp
    try with_reducible rfl
  try simp only [Act.put, List.setIfInBounds_toArray, List.set_cons_zero, List.set_cons_succ]
  refine wpAnyH_take (i := 25) (oi := { dst := some 60, op := Op.nilCheck (Operand.tmp 59), type := 0, pos := "law.go:106", after := #[{ on := 24, ground := Ground.data }, { on := 18, ground := Ground.guard }], guard := some (18, true) }) (v := ?_) rfl (by kernel_rfl) (by kernel_rfl) (by kernel_rfl) (fun _ _ _ h => h) (Or.inl ⟨by rfl, ?_⟩) hS ?_
  rotate_left
  · intro W_ hSW_
    obtain ⟨z0_, z2_, y1_⟩ := hSW_
    go_simp
    try with_reducible rfl
  try simp only [Act.put, List.setIfInBounds_toArray, List.set_cons_zero, List.set_cons_succ]
  refine wpAnyH_take (i := 26) (oi := { dst := some 61, op := Op.fieldAddr 62 (Operand.tmp 60) 1, type := 0, pos := "law.go:106", after := #[{ on := 25, ground := Ground.data }, { on := 18, ground := Ground.guard }], guard := some (18, true) }) (v := ?_) rfl (by kernel_rfl) (by kernel_rfl) (by kernel_rfl) (fun _ _ _ h => h) (Or.inl ⟨by rfl, ?_⟩) hS ?_
  rotate_left
  · intro W_ hSW_
    obtain ⟨z0_, z2_, y1_⟩ := hSW_
    go_simp
    try with_reducible rfl
  try simp only [Act.put, List.setIfInBounds_toArray, List.set_cons_zero, List.set_cons_succ]
  refine wpAnyH_take (i := 27) (oi := { dst := some 62, op := Op.load 4 (Operand.tmp 61), type := 4, pos := "law.go:106", after := #[{ on := 26, ground := Ground.data }, { on := 18, ground := Ground.guard }], guard := some (18, true) }) (v := ?_) rfl (by kernel_rfl) (by kernel_rfl) (by kernel_rfl) (fun _ _ _ h => h) (Or.inl ⟨by rfl, ?_⟩) hS ?_
  rotate_left
  · intro W_ hSW_
    obtain ⟨z0_, z2_, y1_⟩ := hSW_
    go_simp
    try with_reducible rfl
  try simp only [Act.put, List.setIfInBounds_toArray, List.set_cons_zero, List.set_cons_succ]
  refine wpAnyH_ready (rs := [21]) (by kernel_rfl) (by simp) ?_
  refine AllReadyH.cons (o := { dst := some 56, op := Op.call { callee := Callee.value (Operand.func 26), args := #[Operand.tmp 55], argTypes := #[24] }, type := 4, pos := "law.go:106", after := #[{ on := 20, ground := Ground.data }, { on := 18, ground := Ground.chain }, { on := 18, ground := Ground.guard }], guard := some (18, true) }) rfl (fun K_ hK_ => ?_) AllReadyH.nil
  go_simp
  refine (K5.out _ (below_drew HB4.out)).mono ?_
  rintro e w_ ⟨rfl, rfl⟩
  refine hK_.out _ _ (⟨z0, z2, y1⟩) (fun hS_ => ?_)
  clear hK_ K_ hS
  have hS := hS_
  clear hS_
  try simp only [Act.put, List.setIfInBounds_toArray, List.set_cons_zero, List.set_cons_succ]
  refine wpAnyH_take (i := 28) (oi := { dst := some 63, op := Op.binOp BinOp.eql 4 (Operand.tmp 56) (Operand.tmp 62) 4, type := 4, pos := "law.go:106", after := #[{ on := 21, ground := Ground.data }, { on := 27, ground := Ground.data }, { on := 18, ground := Ground.guard }], guard := some (18, true) }) (v := ?_) rfl (by kernel_rfl) (by kernel_rfl) (by kernel_rfl) (fun _ _ _ h => h) (Or.inl ⟨by rfl, ?_⟩) hS ?_
  rotate_left
  · intro W_ hSW_
    obtain ⟨z0_, z2_, y1_⟩ := hSW_
    go_simp
    try with_reducible rfl
  try simp only [Act.put, List.setIfInBounds_toArray, List.set_cons_zero, List.set_cons_succ]
  refine wpAnyH_take (i := 29) (oi := { dst := some 64, op := Op.pick (Operand.tmp 53) (Operand.tmp 63) (Operand.const (Value.bool false)), type := 4, pos := "law.go:106", after := #[{ on := 18, ground := Ground.data }, { on := 28, ground := Ground.data }], guard := none }) (v := ?_) rfl (by kernel_rfl) (by kernel_rfl) (by kernel_rfl) (fun _ _ _ h => h) (Or.inl ⟨by rfl, ?_⟩) hS ?_
  rotate_left
  · intro W_ hSW_
    obtain ⟨z0_, z2_, y1_⟩ := hSW_
    go_simp
    try with_reducible rfl
  try simp only [Act.put, List.setIfInBounds_toArray, List.set_cons_zero, List.set_cons_succ]
  refine wpAnyH_take (i := 30) (oi := { dst := some 2, op := Op.assign (Operand.tmp 64), type := 4, pos := "law.go:106", after := #[{ on := 29, ground := Ground.data }, { on := 21, ground := Ground.chain }, { on := 0, ground := Ground.phase }, { on := 1, ground := Ground.phase }, { on := 2, ground := Ground.phase }, { on := 3, ground := Ground.phase }, { on := 4, ground := Ground.phase }, { on := 5, ground := Ground.phase }, { on := 6, ground := Ground.phase }, { on := 7, ground := Ground.phase }, { on := 8, ground := Ground.phase }, { on := 9, ground := Ground.phase }, { on := 10, ground := Ground.phase }, { on := 11, ground := Ground.phase }, { on := 12, ground := Ground.phase }, { on := 13, ground := Ground.phase }, { on := 14, ground := Ground.phase }, { on := 15, ground := Ground.phase }, { on := 16, ground := Ground.phase }, { on := 17, ground := Ground.phase }, { on := 18, ground := Ground.phase }, { on := 19, ground := Ground.phase }, { on := 20, ground := Ground.phase }, { on := 21, ground := Ground.phase }, { on := 22, ground := Ground.phase }, { on := 23, ground := Ground.phase }, { on := 24, ground := Ground.phase }, { on := 25, ground := Ground.phase }, { on := 26, ground := Ground.phase }, { on := 27, ground := Ground.phase }, { on := 28, ground := Ground.phase }, { on := 29, ground := Ground.phase }], guard := none }) (v := ?_) rfl (by kernel_rfl) (by kernel_rfl) (by kernel_rfl) (fun _ _ _ h => h) (Or.inl ⟨by rfl, ?_⟩) hS ?_
  rotate_left
  · intro W_ hSW_
    obtain ⟨z0_, z2_, y1_⟩ := hSW_
    go_simp
    try with_reducible rfl
  try simp only [Act.put, List.setIfInBounds_toArray, List.set_cons_zero, List.set_cons_succ]
  refine wpAnyH_done (by kernel_rfl) ?_ _
  clear hS z0 z2 y1
  go_wp2_with fail
  go_ret
  exact ⟨rfl, below_drew HB4.out⟩
end Go.Proofs.Ytfcldacjnegacaa.Up
