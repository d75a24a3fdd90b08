/- What this claim needs of Cm. Parted by prune.py. -/
import Derived.Test.YtleafbihfmiidaaDoorZ7Ac
namespace Go.Proofs.YtleafbihfmiidaaDoor.QAl
open Go.RowKit Go.Proofs.YtleafbihfmiidaaDoorW.PrintWords Go.Proofs.YtleafbihfmiidaaDoorW.PrintLast Go.Proofs.YtleafbihfmiidaaDoorW.PrintMore Go.Proofs.YtleafbihfmiidaaDoor.Sl
set_option linter.unusedVariables false
set_option linter.unusedSimpArgs false
/-- The program's table of operators. -/
def binT : List Int := [0, 0, 0, 0, 0, 0, 3, 4, 5, 6, 7, 8, 10, 11]
def GT (w : World) : Prop := ∀ i : Nat, i < 14 → w.cell? ⟨0, i, none⟩ = some (.int .i64 (binT.getD i 0))
theorem GT.below {w w' : World} (h : GT w) (hb : Below w.heap.size w w') : GT w' := fun i hi => Kd.cell_heap hb.block (h i hi)
def v18 (x : Img) (s : Cs) (b : Nat) (im : Int) : Int := IntKind.i16.wrap (wrap64 (x.addr.getD im.toNat 0 + 2 * idxV (s.r b) (x.globals.getD im.toNat z96).f1))
/-- What compute answers. -/
def cmpC (x : Img) (s : Cs) (op : Int) (a b cc : Nat) (im : Int) : Int × Bool :=
  if op = 2 then (im, true) else if op = 3 then (s.r b, true) else if op = 4 then (negV (s.r b), true) else if op = 5 then (notV (s.r b), true)
  else if op = 6 then (binV 3 (s.r b) (s.r cc), true) else if op = 7 then (binV 4 (s.r b) (s.r cc), true) else if op = 8 then (binV 5 (s.r b) (s.r cc), true) else if op = 9 then (binV 6 (s.r b) (s.r cc), true)
  else if op = 10 then (binV 7 (s.r b) (s.r cc), true) else if op = 11 then (binV 8 (s.r b) (s.r cc), true) else if op = 12 then (binV 10 (s.r b) (s.r cc), true) else if op = 13 then (binV 11 (s.r b) (s.r cc), true)
  else if op = 18 then (v18 x s b im, true) else if op = 20 then (s.r (8 + im.toNat), true) else (0, false)
theorem w64_two {k : Int} (h : 0 ≤ k ∧ k < 65536) : wrap64 (2 * k) = 2 * k ∧ IntKind.i64.wrap (2 * k) = 2 * k := by
  rw [i64_w]
  unfold wrap64
  omega
set_option maxRecDepth 100000 in
set_option maxHeartbeats 16000000 in
theorem compute_call {w : World} {gc gx : Nat} {s : Cs} {p : XP} {x : Img} (hc : w.heap[gc]? = some (.cells s.cells 32 (0, 0))) (hs : s.Ok) (hx : w.heap[gx]? = some (.cells (p.arr x) 47 (0, 0))) (hr : XR p x w) (hG : GT w) (op : Int) {a b cc : Nat} {im : Int} (ha : a < 8) (hb : b < 8) (hcc : cc < 8) (hi : S16 im)
    (h20 : op = 20 → 0 ≤ im ∧ im < 64) (h18 : op = 18 → 0 ≤ im ∧ im < (x.globals.length : Int) ∧ im < (x.addr.length : Int) ∧ 1 ≤ (x.globals.getD im.toNat z96).f1) :
    Calls Tryd.prog 33 #[.pointer (some ⟨gc, 0, none⟩), .pointer (some ⟨gx, 0, none⟩), iV op a b cc im] w fun e w' => e = .returned (.tuple #[.int .i16 (cmpC x s op a b cc im).1, .bool (cmpC x s op a b cc im).2]) ∧ Below w.heap.size w w' := by
  obtain ⟨g1, hg1⟩ : ∃ g1, w.heap.size = g1 := ⟨_, rfl⟩
  have hM := (Mem.start w).new_ (iO op a b cc im) hg1
  have HG := Aside0.mk hg1
  have hgc : gc < w.heap.size := blk_lt hc
  have hgx : gx < w.heap.size := blk_lt hx
  have hg0 : 0 < w.heap.size := World.block_lt_of_cell? w ⟨0, 0, none⟩ (hG 0 (by decide))
  obtain ⟨W1, hW1⟩ : ∃ W1, W1 = w.alloc (iO op a b cc im) := ⟨_, rfl⟩
  rw [← hW1] at hM
  have HM := Aside0.mk hM
  have HC := Aside0.mk (show W1.heap[gc]? = some (.cells s.cells 32 (0, 0)) by rw [hM.below.block gc hgc]; exact hc)
  have HX := Aside0.mk (show W1.heap[gx]? = some (.cells (p.arr x) 47 (0, 0)) by rw [hM.below.block gx hgx]; exact hx)
  have HR := Aside0.mk (hr.below hM.below)
  have HGT := Aside0.mk (hG.below hM.below)
  have HW1 := Aside0.mk hW1
  have HSO := Aside0.mk hs
  have HI := Aside0.mk hi
  have ha' : (a : Int) < 8 := by omega
  have hb' : (b : Int) < 8 := by omega
  have hcc' : (cc : Int) < 8 := by omega
  have HAB := Aside0.mk (And.intro ha (And.intro hb hcc))
  have x0 := blk_cell hM.get 0
  have x1 := blk_cell hM.get 1
  have x2 := blk_cell hM.get 2
  have x3 := blk_cell hM.get 3
  have x4 := blk_cell hM.get 4
  have HX5 := Aside0.mk (And.intro x0 (And.intro x2 (And.intro x3 x4)))
  have xb := cpu_r HC.out hs (i := b) (by omega)
  have xc := cpu_r HC.out hs (i := cc) (by omega)
  obtain ⟨vb, hvb⟩ : ∃ v, s.r b = v := ⟨_, rfl⟩
  obtain ⟨vc, hvc⟩ : ∃ v, s.r cc = v := ⟨_, rfl⟩
  have HVB := Aside0.mk (show S16 vb by rw [← hvb]; exact hs.r b)
  have HVC := Aside0.mk (show S16 vc by rw [← hvc]; exact hs.r cc)
  have HXB := Aside0.mk (show W1.cell? ⟨gc, 1 + b, none⟩ = some (.int .i16 vb) by rw [← hvb]; exact xb)
  have HXC := Aside0.mk (show W1.cell? ⟨gc, 1 + cc, none⟩ = some (.int .i16 vc) by rw [← hvc]; exact xc)
  have HV := Aside0.mk (And.intro hvb hvc)
  clear hc hs hx hr hG hM hi ha hb hcc xb xc hvb hvc hgc hgx hg0
  have hW1' : w.alloc (.cells #[.int .i64 op, .int .i64 (a : Int), .int .i64 (b : Int), .int .i64 (cc : Int), .int .i16 im] 72) = W1 := HW1.out.symm
  clear hW1
  have HBW := Aside0.mk HM.out.below
  by_cases e2 : op = 2
  · subst e2
    go_enter Tryd.func33, Tryd.ntmps33
    go_wp2_with fail
    go_ret2
    exact ⟨by simp [cmpC], HBW.out⟩
  by_cases e3 : op = 3
  · subst e3
    go_enter Tryd.func33, Tryd.ntmps33
    go_wp2_with fail
    have HSS := Aside0.mk (fun W (hB : Below W1.heap.size W1 W) => show W.cell? ⟨g1, 2, none⟩ = some (.int .i64 (b : Int)) ∧ W.cell? ⟨gc, 1 + b, none⟩ = some (.int .i16 vb) from ⟨Kd.cell_heap hB.block HX5.out.2.1, Kd.cell_heap hB.block HXB.out⟩)
    refine wp_region_held_drew (S := fun W => W.cell? ⟨g1, 2, none⟩ = some (.int .i64 (b : Int)) ∧ W.cell? ⟨gc, 1 + b, none⟩ = some (.int .i16 vb)) (by kernel_rfl) (HSS.out _ (below_drew (Below.refl _ _))) (fun hS => ?_)
    refine wpAnyH_take (i := 0) (oi := { dst := some 24, op := Op.move (Operand.tmp 0), type := 73, pos := "cpu.go:112", after := #[], guard := none }) (v := ?_) rfl (by kernel_rfl) (by kernel_rfl) (by kernel_rfl) (fun _ _ _ h => h) (Or.inl ⟨by rfl, ?_⟩) hS ?_
    rotate_left
    · intro W_ hSW_
      obtain ⟨z2_, zb_⟩ := hSW_
      go_simp
      try with_reducible rfl
    try simp only [Act.put, List.setIfInBounds_toArray, List.set_cons_zero, List.set_cons_succ]
    refine wpAnyH_take (i := 1) (oi := { dst := some 25, op := Op.fieldAddr 72 (Operand.tmp 5) 2, type := 0, pos := "cpu.go:112", after := #[], guard := none }) (v := ?_) rfl (by kernel_rfl) (by kernel_rfl) (by kernel_rfl) (fun _ _ _ h => h) (Or.inl ⟨by rfl, ?_⟩) hS ?_
    rotate_left
    · intro W_ hSW_
      obtain ⟨z2_, zb_⟩ := hSW_
      go_simp
      try with_reducible rfl
    try simp only [Act.put, List.setIfInBounds_toArray, List.set_cons_zero, List.set_cons_succ]
    refine wpAnyH_take (i := 2) (oi := { dst := some 26, op := Op.load 3 (Operand.tmp 25), type := 3, pos := "cpu.go:112", after := #[{ on := 1, ground := Ground.data }], guard := none }) (v := ?_) rfl (by kernel_rfl) (by kernel_rfl) (by kernel_rfl) (fun _ _ _ h => h) (Or.inl ⟨by rfl, ?_⟩) hS ?_
    rotate_left
    · intro W_ hSW_
      obtain ⟨z2_, zb_⟩ := hSW_
      go_simp
      try with_reducible rfl
    try simp only [Act.put, List.setIfInBounds_toArray, List.set_cons_zero, List.set_cons_succ]
    refine wpAnyH_take (i := 3) (oi := { dst := some 27, op := Op.nilCheck (Operand.tmp 24), type := 0, pos := "cpu.go:112", after := #[{ on := 0, ground := Ground.data }], guard := none }) (v := ?_) rfl (by kernel_rfl) (by kernel_rfl) (by kernel_rfl) (fun _ _ _ h => h) (Or.inl ⟨by rfl, ?_⟩) hS ?_
    rotate_left
    · intro W_ hSW_
      obtain ⟨z2_, zb_⟩ := hSW_
      go_simp
      try with_reducible rfl
    try simp only [Act.put, List.setIfInBounds_toArray, List.set_cons_zero, List.set_cons_succ]
    refine wpAnyH_take (i := 4) (oi := { dst := some 28, op := Op.fieldAddr 32 (Operand.tmp 27) 1, type := 0, pos := "cpu.go:112", after := #[{ on := 3, ground := Ground.data }], guard := none }) (v := ?_) rfl (by kernel_rfl) (by kernel_rfl) (by kernel_rfl) (fun _ _ _ h => h) (Or.inl ⟨by rfl, ?_⟩) hS ?_
    rotate_left
    · intro W_ hSW_
      obtain ⟨z2_, zb_⟩ := hSW_
      go_simp
      try with_reducible rfl
    try simp only [Act.put, List.setIfInBounds_toArray, List.set_cons_zero, List.set_cons_succ]
    refine wpAnyH_take (i := 5) (oi := { dst := some 29, op := Op.indexAddr 23 (Operand.tmp 28) (Operand.tmp 26), type := 0, pos := "cpu.go:112", after := #[{ on := 4, ground := Ground.data }, { on := 2, ground := Ground.data }], guard := none }) (v := ?_) rfl (by kernel_rfl) (by kernel_rfl) (by kernel_rfl) (fun _ _ _ h => h) (Or.inl ⟨by rfl, ?_⟩) hS ?_
    rotate_left
    · intro W_ hSW_
      obtain ⟨z2_, zb_⟩ := hSW_
      go_simp
      try with_reducible rfl
    try simp only [Act.put, List.setIfInBounds_toArray, List.set_cons_zero, List.set_cons_succ]
    refine wpAnyH_take (i := 6) (oi := { dst := some 30, op := Op.load 22 (Operand.tmp 29), type := 22, pos := "cpu.go:112", after := #[{ on := 5, ground := Ground.data }], guard := none }) (v := ?_) rfl (by kernel_rfl) (by kernel_rfl) (by kernel_rfl) (fun _ _ _ h => h) (Or.inl ⟨by rfl, ?_⟩) hS ?_
    rotate_left
    · intro W_ hSW_
      obtain ⟨z2_, zb_⟩ := hSW_
      go_simp
      try with_reducible rfl
    try simp only [Act.put, List.setIfInBounds_toArray, List.set_cons_zero, List.set_cons_succ]
    refine wpAnyH_take (i := 7) (oi := { dst := some 6, op := Op.assign (Operand.tmp 30), type := 22, pos := "cpu.go:112", after := #[{ on := 6, ground := Ground.data }, { on := 0, ground := Ground.phase }, { on := 1, ground := Ground.phase }, { on := 2, ground := Ground.phase }, { on := 3, ground := Ground.phase }, { on := 4, ground := Ground.phase }, { on := 5, ground := Ground.phase }, { on := 6, ground := Ground.phase }], guard := none }) (v := ?_) rfl (by kernel_rfl) (by kernel_rfl) (by kernel_rfl) (fun _ _ _ h => h) (Or.inl ⟨by rfl, ?_⟩) hS ?_
    rotate_left
    · intro W_ hSW_
      obtain ⟨z2_, zb_⟩ := hSW_
      go_simp
      try with_reducible rfl
    try simp only [Act.put, List.setIfInBounds_toArray, List.set_cons_zero, List.set_cons_succ]
    refine wpAnyH_take (i := 8) (oi := { dst := some 7, op := Op.assign (Operand.const (Value.bool true)), type := 4, pos := "cpu.go:112", after := #[{ on := 7, ground := Ground.chain }, { on := 0, ground := Ground.phase }, { on := 1, ground := Ground.phase }, { on := 2, ground := Ground.phase }, { on := 3, ground := Ground.phase }, { on := 4, ground := Ground.phase }, { on := 5, ground := Ground.phase }, { on := 6, ground := Ground.phase }, { on := 7, ground := Ground.phase }], guard := none }) (v := ?_) rfl (by kernel_rfl) (by kernel_rfl) (by kernel_rfl) (fun _ _ _ h => h) (Or.inl ⟨by rfl, ?_⟩) hS ?_
    rotate_left
    · intro W_ hSW_
      obtain ⟨z2_, zb_⟩ := hSW_
      go_simp
      try with_reducible rfl
    try simp only [Act.put, List.setIfInBounds_toArray, List.set_cons_zero, List.set_cons_succ]
    refine wpAnyH_done (by kernel_rfl) ?_ _
    clear hS
    go_wp2_with fail
    go_ret2
    exact ⟨by simp [cmpC, HV.out.1], below_step HBW.out (below_drew (Below.refl _ _))⟩
  by_cases e4 : op = 4
  · subst e4
    go_enter Tryd.func33, Tryd.ntmps33
    go_wp2_with fail
    have HSS := Aside0.mk (fun W (hB : Below W1.heap.size W1 W) => show W.cell? ⟨g1, 2, none⟩ = some (.int .i64 (b : Int)) ∧ W.cell? ⟨gc, 1 + b, none⟩ = some (.int .i16 vb) from ⟨Kd.cell_heap hB.block HX5.out.2.1, Kd.cell_heap hB.block HXB.out⟩)
    refine wp_region_held_drew (S := fun W => W.cell? ⟨g1, 2, none⟩ = some (.int .i64 (b : Int)) ∧ W.cell? ⟨gc, 1 + b, none⟩ = some (.int .i16 vb)) (by kernel_rfl) (HSS.out _ (below_drew (Below.refl _ _))) (fun hS => ?_)
    refine wpAnyH_take (i := 0) (oi := { dst := some 34, op := Op.move (Operand.tmp 0), type := 73, pos := "cpu.go:114", after := #[], guard := none }) (v := ?_) rfl (by kernel_rfl) (by kernel_rfl) (by kernel_rfl) (fun _ _ _ h => h) (Or.inl ⟨by rfl, ?_⟩) hS ?_
    rotate_left
    · intro W_ hSW_
      obtain ⟨z2_, zb_⟩ := hSW_
      go_simp
      try with_reducible rfl
    try simp only [Act.put, List.setIfInBounds_toArray, List.set_cons_zero, List.set_cons_succ]
    refine wpAnyH_take (i := 1) (oi := { dst := some 35, op := Op.fieldAddr 72 (Operand.tmp 5) 2, type := 0, pos := "cpu.go:114", after := #[], guard := none }) (v := ?_) rfl (by kernel_rfl) (by kernel_rfl) (by kernel_rfl) (fun _ _ _ h => h) (Or.inl ⟨by rfl, ?_⟩) hS ?_
    rotate_left
    · intro W_ hSW_
      obtain ⟨z2_, zb_⟩ := hSW_
      go_simp
      try with_reducible rfl
    try simp only [Act.put, List.setIfInBounds_toArray, List.set_cons_zero, List.set_cons_succ]
    refine wpAnyH_take (i := 2) (oi := { dst := some 36, op := Op.load 3 (Operand.tmp 35), type := 3, pos := "cpu.go:114", after := #[{ on := 1, ground := Ground.data }], guard := none }) (v := ?_) rfl (by kernel_rfl) (by kernel_rfl) (by kernel_rfl) (fun _ _ _ h => h) (Or.inl ⟨by rfl, ?_⟩) hS ?_
    rotate_left
    · intro W_ hSW_
      obtain ⟨z2_, zb_⟩ := hSW_
      go_simp
      try with_reducible rfl
    try simp only [Act.put, List.setIfInBounds_toArray, List.set_cons_zero, List.set_cons_succ]
    refine wpAnyH_take (i := 3) (oi := { dst := some 37, op := Op.nilCheck (Operand.tmp 34), type := 0, pos := "cpu.go:114", after := #[{ on := 0, ground := Ground.data }], guard := none }) (v := ?_) rfl (by kernel_rfl) (by kernel_rfl) (by kernel_rfl) (fun _ _ _ h => h) (Or.inl ⟨by rfl, ?_⟩) hS ?_
    rotate_left
    · intro W_ hSW_
      obtain ⟨z2_, zb_⟩ := hSW_
      go_simp
      try with_reducible rfl
    try simp only [Act.put, List.setIfInBounds_toArray, List.set_cons_zero, List.set_cons_succ]
    refine wpAnyH_take (i := 4) (oi := { dst := some 38, op := Op.fieldAddr 32 (Operand.tmp 37) 1, type := 0, pos := "cpu.go:114", after := #[{ on := 3, ground := Ground.data }], guard := none }) (v := ?_) rfl (by kernel_rfl) (by kernel_rfl) (by kernel_rfl) (fun _ _ _ h => h) (Or.inl ⟨by rfl, ?_⟩) hS ?_
    rotate_left
    · intro W_ hSW_
      obtain ⟨z2_, zb_⟩ := hSW_
      go_simp
      try with_reducible rfl
    try simp only [Act.put, List.setIfInBounds_toArray, List.set_cons_zero, List.set_cons_succ]
    refine wpAnyH_take (i := 5) (oi := { dst := some 39, op := Op.indexAddr 23 (Operand.tmp 38) (Operand.tmp 36), type := 0, pos := "cpu.go:114", after := #[{ on := 4, ground := Ground.data }, { on := 2, ground := Ground.data }], guard := none }) (v := ?_) rfl (by kernel_rfl) (by kernel_rfl) (by kernel_rfl) (fun _ _ _ h => h) (Or.inl ⟨by rfl, ?_⟩) hS ?_
    rotate_left
    · intro W_ hSW_
      obtain ⟨z2_, zb_⟩ := hSW_
      go_simp
      try with_reducible rfl
    try simp only [Act.put, List.setIfInBounds_toArray, List.set_cons_zero, List.set_cons_succ]
    refine wpAnyH_take (i := 6) (oi := { dst := some 40, op := Op.load 22 (Operand.tmp 39), type := 22, pos := "cpu.go:114", after := #[{ on := 5, ground := Ground.data }], guard := none }) (v := ?_) rfl (by kernel_rfl) (by kernel_rfl) (by kernel_rfl) (fun _ _ _ h => h) (Or.inl ⟨by rfl, ?_⟩) hS ?_
    rotate_left
    · intro W_ hSW_
      obtain ⟨z2_, zb_⟩ := hSW_
      go_simp
      try with_reducible rfl
    try simp only [Act.put, List.setIfInBounds_toArray, List.set_cons_zero, List.set_cons_succ]
    refine wpAnyH_ready (rs := [7]) (by kernel_rfl) (by simp) ?_
    refine AllReadyH.cons (o := { dst := some 41, op := Op.call { callee := Callee.value (Operand.func 58), args := #[Operand.const (Value.int IntKind.i64 1), Operand.tmp 40], argTypes := #[3, 22] }, type := 89, pos := "cpu.go:114", after := #[{ on := 6, ground := Ground.data }], guard := none }) rfl (fun K_ hK_ => ?_) AllReadyH.nil
    go_simp
    refine (word_Unary.calls 1 vb _ 0 _ (wneg_f vb)).mono ?_
    rintro e w4 ⟨rfl, hd4⟩
    have HB4 := Aside0.mk (below_step (below_drew (Below.refl W1.heap.size W1)) hd4.below)
    clear hd4
    refine hK_.out _ _ (HSS.out _ HB4.out) (fun hS_ => ?_)
    clear hK_ K_ hS
    have hS := hS_
    clear hS_
    try simp only [Act.put, List.setIfInBounds_toArray, List.set_cons_zero, List.set_cons_succ]
    refine wpAnyH_take (i := 8) (oi := { dst := some 33, op := Op.move (Operand.tmp 41), type := 89, pos := "cpu.go:114", after := #[{ on := 7, ground := Ground.data }], guard := none }) (v := ?_) rfl (by kernel_rfl) (by kernel_rfl) (by kernel_rfl) (fun _ _ _ h => h) (Or.inl ⟨by rfl, ?_⟩) hS ?_
    rotate_left
    · intro W_ hSW_
      obtain ⟨z2_, zb_⟩ := hSW_
      go_simp
      try with_reducible rfl
    try simp only [Act.put, List.setIfInBounds_toArray, List.set_cons_zero, List.set_cons_succ]
    refine wpAnyH_take (i := 9) (oi := { dst := some 42, op := Op.extract (Operand.tmp 33) 0, type := 22, pos := "cpu.go:114", after := #[{ on := 8, ground := Ground.data }], guard := none }) (v := ?_) rfl (by kernel_rfl) (by kernel_rfl) (by kernel_rfl) (fun _ _ _ h => h) (Or.inl ⟨by rfl, ?_⟩) hS ?_
    rotate_left
    · intro W_ hSW_
      obtain ⟨z2_, zb_⟩ := hSW_
      go_simp
      try with_reducible rfl
    try simp only [Act.put, List.setIfInBounds_toArray, List.set_cons_zero, List.set_cons_succ]
    refine wpAnyH_take (i := 10) (oi := { dst := some 43, op := Op.extract (Operand.tmp 33) 1, type := 34, pos := "cpu.go:114", after := #[{ on := 8, ground := Ground.data }, { on := 11, ground := Ground.gcOnly Departure.lateStores }], guard := none }) (v := ?_) rfl (by kernel_rfl) (by kernel_rfl) (by kernel_rfl) (fun _ _ _ h => h) (Or.inl ⟨by rfl, ?_⟩) hS ?_
    rotate_left
    · intro W_ hSW_
      obtain ⟨z2_, zb_⟩ := hSW_
      go_simp
      try with_reducible rfl
    try simp only [Act.put, List.setIfInBounds_toArray, List.set_cons_zero, List.set_cons_succ]
    refine wpAnyH_take (i := 11) (oi := { dst := some 8, op := Op.assign (Operand.tmp 42), type := 22, pos := "cpu.go:114", after := #[{ on := 9, ground := Ground.data }, { on := 7, ground := Ground.chain }, { on := 0, ground := Ground.phase }, { on := 1, ground := Ground.phase }, { on := 2, ground := Ground.phase }, { on := 3, ground := Ground.phase }, { on := 4, ground := Ground.phase }, { on := 5, ground := Ground.phase }, { on := 6, ground := Ground.phase }, { on := 7, ground := Ground.phase }, { on := 8, ground := Ground.phase }, { on := 9, ground := Ground.phase }, { on := 10, ground := Ground.textOnly Departure.lateStores }], guard := none }) (v := ?_) rfl (by kernel_rfl) (by kernel_rfl) (by kernel_rfl) (fun _ _ _ h => h) (Or.inl ⟨by rfl, ?_⟩) hS ?_
    rotate_left
    · intro W_ hSW_
      obtain ⟨z2_, zb_⟩ := hSW_
      go_simp
      try with_reducible rfl
    try simp only [Act.put, List.setIfInBounds_toArray, List.set_cons_zero, List.set_cons_succ]
    refine wpAnyH_take (i := 12) (oi := { dst := some 9, op := Op.assign (Operand.tmp 43), type := 34, pos := "cpu.go:114", after := #[{ on := 10, ground := Ground.data }, { on := 11, ground := Ground.chain }, { on := 0, ground := Ground.phase }, { on := 1, ground := Ground.phase }, { on := 2, ground := Ground.phase }, { on := 3, ground := Ground.phase }, { on := 4, ground := Ground.phase }, { on := 5, ground := Ground.phase }, { on := 6, ground := Ground.phase }, { on := 7, ground := Ground.phase }, { on := 8, ground := Ground.phase }, { on := 9, ground := Ground.phase }, { on := 10, ground := Ground.phase }, { on := 11, ground := Ground.phase }], guard := none }) (v := ?_) rfl (by kernel_rfl) (by kernel_rfl) (by kernel_rfl) (fun _ _ _ h => h) (Or.inl ⟨by rfl, ?_⟩) hS ?_
    rotate_left
    · intro W_ hSW_
      obtain ⟨z2_, zb_⟩ := hSW_
      go_simp
      try with_reducible rfl
    try simp only [Act.put, List.setIfInBounds_toArray, List.set_cons_zero, List.set_cons_succ]
    refine wpAnyH_done (by kernel_rfl) ?_ _
    clear hS
    go_wp2_with fail
    go_ret2
    exact ⟨by simp [cmpC, HV.out.1], below_step HBW.out HB4.out⟩
  by_cases e5 : op = 5
  · subst e5
    go_enter Tryd.func33, Tryd.ntmps33
    go_wp2_with fail
    have HSS := Aside0.mk (fun W (hB : Below W1.heap.size W1 W) => show W.cell? ⟨g1, 2, none⟩ = some (.int .i64 (b : Int)) ∧ W.cell? ⟨gc, 1 + b, none⟩ = some (.int .i16 vb) from ⟨Kd.cell_heap hB.block HX5.out.2.1, Kd.cell_heap hB.block HXB.out⟩)
    refine wp_region_held_drew (S := fun W => W.cell? ⟨g1, 2, none⟩ = some (.int .i64 (b : Int)) ∧ W.cell? ⟨gc, 1 + b, none⟩ = some (.int .i16 vb)) (by kernel_rfl) (HSS.out _ (below_drew (Below.refl _ _))) (fun hS => ?_)
    refine wpAnyH_take (i := 0) (oi := { dst := some 48, op := Op.move (Operand.tmp 0), type := 73, pos := "cpu.go:117", after := #[], guard := none }) (v := ?_) rfl (by kernel_rfl) (by kernel_rfl) (by kernel_rfl) (fun _ _ _ h => h) (Or.inl ⟨by rfl, ?_⟩) hS ?_
    rotate_left
    · intro W_ hSW_
      obtain ⟨z2_, zb_⟩ := hSW_
      go_simp
      try with_reducible rfl
    try simp only [Act.put, List.setIfInBounds_toArray, List.set_cons_zero, List.set_cons_succ]
    refine wpAnyH_take (i := 1) (oi := { dst := some 49, op := Op.fieldAddr 72 (Operand.tmp 5) 2, type := 0, pos := "cpu.go:117", after := #[], guard := none }) (v := ?_) rfl (by kernel_rfl) (by kernel_rfl) (by kernel_rfl) (fun _ _ _ h => h) (Or.inl ⟨by rfl, ?_⟩) hS ?_
    rotate_left
    · intro W_ hSW_
      obtain ⟨z2_, zb_⟩ := hSW_
      go_simp
      try with_reducible rfl
    try simp only [Act.put, List.setIfInBounds_toArray, List.set_cons_zero, List.set_cons_succ]
    refine wpAnyH_take (i := 2) (oi := { dst := some 50, op := Op.load 3 (Operand.tmp 49), type := 3, pos := "cpu.go:117", after := #[{ on := 1, ground := Ground.data }], guard := none }) (v := ?_) rfl (by kernel_rfl) (by kernel_rfl) (by kernel_rfl) (fun _ _ _ h => h) (Or.inl ⟨by rfl, ?_⟩) hS ?_
    rotate_left
    · intro W_ hSW_
      obtain ⟨z2_, zb_⟩ := hSW_
      go_simp
      try with_reducible rfl
    try simp only [Act.put, List.setIfInBounds_toArray, List.set_cons_zero, List.set_cons_succ]
    refine wpAnyH_take (i := 3) (oi := { dst := some 51, op := Op.nilCheck (Operand.tmp 48), type := 0, pos := "cpu.go:117", after := #[{ on := 0, ground := Ground.data }], guard := none }) (v := ?_) rfl (by kernel_rfl) (by kernel_rfl) (by kernel_rfl) (fun _ _ _ h => h) (Or.inl ⟨by rfl, ?_⟩) hS ?_
    rotate_left
    · intro W_ hSW_
      obtain ⟨z2_, zb_⟩ := hSW_
      go_simp
      try with_reducible rfl
    try simp only [Act.put, List.setIfInBounds_toArray, List.set_cons_zero, List.set_cons_succ]
    refine wpAnyH_take (i := 4) (oi := { dst := some 52, op := Op.fieldAddr 32 (Operand.tmp 51) 1, type := 0, pos := "cpu.go:117", after := #[{ on := 3, ground := Ground.data }], guard := none }) (v := ?_) rfl (by kernel_rfl) (by kernel_rfl) (by kernel_rfl) (fun _ _ _ h => h) (Or.inl ⟨by rfl, ?_⟩) hS ?_
    rotate_left
    · intro W_ hSW_
      obtain ⟨z2_, zb_⟩ := hSW_
      go_simp
      try with_reducible rfl
    try simp only [Act.put, List.setIfInBounds_toArray, List.set_cons_zero, List.set_cons_succ]
    refine wpAnyH_take (i := 5) (oi := { dst := some 53, op := Op.indexAddr 23 (Operand.tmp 52) (Operand.tmp 50), type := 0, pos := "cpu.go:117", after := #[{ on := 4, ground := Ground.data }, { on := 2, ground := Ground.data }], guard := none }) (v := ?_) rfl (by kernel_rfl) (by kernel_rfl) (by kernel_rfl) (fun _ _ _ h => h) (Or.inl ⟨by rfl, ?_⟩) hS ?_
    rotate_left
    · intro W_ hSW_
      obtain ⟨z2_, zb_⟩ := hSW_
      go_simp
      try with_reducible rfl
    try simp only [Act.put, List.setIfInBounds_toArray, List.set_cons_zero, List.set_cons_succ]
    refine wpAnyH_take (i := 6) (oi := { dst := some 54, op := Op.load 22 (Operand.tmp 53), type := 22, pos := "cpu.go:117", after := #[{ on := 5, ground := Ground.data }], guard := none }) (v := ?_) rfl (by kernel_rfl) (by kernel_rfl) (by kernel_rfl) (fun _ _ _ h => h) (Or.inl ⟨by rfl, ?_⟩) hS ?_
    rotate_left
    · intro W_ hSW_
      obtain ⟨z2_, zb_⟩ := hSW_
      go_simp
      try with_reducible rfl
    try simp only [Act.put, List.setIfInBounds_toArray, List.set_cons_zero, List.set_cons_succ]
    refine wpAnyH_ready (rs := [7]) (by kernel_rfl) (by simp) ?_
    refine AllReadyH.cons (o := { dst := some 55, op := Op.call { callee := Callee.value (Operand.func 58), args := #[Operand.const (Value.int IntKind.i64 2), Operand.tmp 54], argTypes := #[3, 22] }, type := 89, pos := "cpu.go:117", after := #[{ on := 6, ground := Ground.data }], guard := none }) rfl (fun K_ hK_ => ?_) AllReadyH.nil
    go_simp
    refine (word_Unary.calls 2 vb _ 0 _ (wnot_f vb)).mono ?_
    rintro e w4 ⟨rfl, hd4⟩
    have HB4 := Aside0.mk (below_step (below_drew (Below.refl W1.heap.size W1)) hd4.below)
    clear hd4
    refine hK_.out _ _ (HSS.out _ HB4.out) (fun hS_ => ?_)
    clear hK_ K_ hS
    have hS := hS_
    clear hS_
    try simp only [Act.put, List.setIfInBounds_toArray, List.set_cons_zero, List.set_cons_succ]
    refine wpAnyH_take (i := 8) (oi := { dst := some 47, op := Op.move (Operand.tmp 55), type := 89, pos := "cpu.go:117", after := #[{ on := 7, ground := Ground.data }], guard := none }) (v := ?_) rfl (by kernel_rfl) (by kernel_rfl) (by kernel_rfl) (fun _ _ _ h => h) (Or.inl ⟨by rfl, ?_⟩) hS ?_
    rotate_left
    · intro W_ hSW_
      obtain ⟨z2_, zb_⟩ := hSW_
      go_simp
      try with_reducible rfl
    try simp only [Act.put, List.setIfInBounds_toArray, List.set_cons_zero, List.set_cons_succ]
    refine wpAnyH_take (i := 9) (oi := { dst := some 56, op := Op.extract (Operand.tmp 47) 0, type := 22, pos := "cpu.go:117", after := #[{ on := 8, ground := Ground.data }], guard := none }) (v := ?_) rfl (by kernel_rfl) (by kernel_rfl) (by kernel_rfl) (fun _ _ _ h => h) (Or.inl ⟨by rfl, ?_⟩) hS ?_
    rotate_left
    · intro W_ hSW_
      obtain ⟨z2_, zb_⟩ := hSW_
      go_simp
      try with_reducible rfl
    try simp only [Act.put, List.setIfInBounds_toArray, List.set_cons_zero, List.set_cons_succ]
    refine wpAnyH_take (i := 10) (oi := { dst := some 57, op := Op.extract (Operand.tmp 47) 1, type := 34, pos := "cpu.go:117", after := #[{ on := 8, ground := Ground.data }, { on := 11, ground := Ground.gcOnly Departure.lateStores }], guard := none }) (v := ?_) rfl (by kernel_rfl) (by kernel_rfl) (by kernel_rfl) (fun _ _ _ h => h) (Or.inl ⟨by rfl, ?_⟩) hS ?_
    rotate_left
    · intro W_ hSW_
      obtain ⟨z2_, zb_⟩ := hSW_
      go_simp
      try with_reducible rfl
    try simp only [Act.put, List.setIfInBounds_toArray, List.set_cons_zero, List.set_cons_succ]
    refine wpAnyH_take (i := 11) (oi := { dst := some 10, op := Op.assign (Operand.tmp 56), type := 22, pos := "cpu.go:117", after := #[{ on := 9, ground := Ground.data }, { on := 7, ground := Ground.chain }, { on := 0, ground := Ground.phase }, { on := 1, ground := Ground.phase }, { on := 2, ground := Ground.phase }, { on := 3, ground := Ground.phase }, { on := 4, ground := Ground.phase }, { on := 5, ground := Ground.phase }, { on := 6, ground := Ground.phase }, { on := 7, ground := Ground.phase }, { on := 8, ground := Ground.phase }, { on := 9, ground := Ground.phase }, { on := 10, ground := Ground.textOnly Departure.lateStores }], guard := none }) (v := ?_) rfl (by kernel_rfl) (by kernel_rfl) (by kernel_rfl) (fun _ _ _ h => h) (Or.inl ⟨by rfl, ?_⟩) hS ?_
    rotate_left
    · intro W_ hSW_
      obtain ⟨z2_, zb_⟩ := hSW_
      go_simp
      try with_reducible rfl
    try simp only [Act.put, List.setIfInBounds_toArray, List.set_cons_zero, List.set_cons_succ]
    refine wpAnyH_take (i := 12) (oi := { dst := some 11, op := Op.assign (Operand.tmp 57), type := 34, pos := "cpu.go:117", after := #[{ on := 10, ground := Ground.data }, { on := 11, ground := Ground.chain }, { on := 0, ground := Ground.phase }, { on := 1, ground := Ground.phase }, { on := 2, ground := Ground.phase }, { on := 3, ground := Ground.phase }, { on := 4, ground := Ground.phase }, { on := 5, ground := Ground.phase }, { on := 6, ground := Ground.phase }, { on := 7, ground := Ground.phase }, { on := 8, ground := Ground.phase }, { on := 9, ground := Ground.phase }, { on := 10, ground := Ground.phase }, { on := 11, ground := Ground.phase }], guard := none }) (v := ?_) rfl (by kernel_rfl) (by kernel_rfl) (by kernel_rfl) (fun _ _ _ h => h) (Or.inl ⟨by rfl, ?_⟩) hS ?_
    rotate_left
    · intro W_ hSW_
      obtain ⟨z2_, zb_⟩ := hSW_
      go_simp
      try with_reducible rfl
    try simp only [Act.put, List.setIfInBounds_toArray, List.set_cons_zero, List.set_cons_succ]
    refine wpAnyH_done (by kernel_rfl) ?_ _
    clear hS
    go_wp2_with fail
    go_ret2
    exact ⟨by simp [cmpC, HV.out.1], below_step HBW.out HB4.out⟩
  by_cases e6 : op = 6
  · subst e6
    go_enter Tryd.func33, Tryd.ntmps33
    go_wp2_with fail
    have HSS := Aside0.mk (fun W (hB : Below W1.heap.size W1 W) => show W.cell? ⟨g1, 0, none⟩ = some (.int .i64 6) ∧ W.cell? ⟨0, 6, none⟩ = some (.int .i64 3) ∧ W.cell? ⟨g1, 2, none⟩ = some (.int .i64 (b : Int)) ∧ W.cell? ⟨gc, 1 + b, none⟩ = some (.int .i16 vb) ∧ W.cell? ⟨g1, 3, none⟩ = some (.int .i64 (cc : Int)) ∧ W.cell? ⟨gc, 1 + cc, none⟩ = some (.int .i16 vc) from ⟨Kd.cell_heap hB.block HX5.out.1, Kd.cell_heap hB.block (HGT.out 6 (by decide)), Kd.cell_heap hB.block HX5.out.2.1, Kd.cell_heap hB.block HXB.out, Kd.cell_heap hB.block HX5.out.2.2.1, Kd.cell_heap hB.block HXC.out⟩)
    refine wp_region_held_drew (S := fun W => W.cell? ⟨g1, 0, none⟩ = some (.int .i64 6) ∧ W.cell? ⟨0, 6, none⟩ = some (.int .i64 3) ∧ W.cell? ⟨g1, 2, none⟩ = some (.int .i64 (b : Int)) ∧ W.cell? ⟨gc, 1 + b, none⟩ = some (.int .i16 vb) ∧ W.cell? ⟨g1, 3, none⟩ = some (.int .i64 (cc : Int)) ∧ W.cell? ⟨gc, 1 + cc, none⟩ = some (.int .i16 vc)) (by kernel_rfl) (HSS.out _ (below_drew (Below.refl _ _))) (fun hS => ?_)
    refine wpAnyH_take (i := 0) (oi := { dst := some 69, op := Op.fieldAddr 72 (Operand.tmp 5) 0, type := 0, pos := "cpu.go:120", after := #[], guard := none }) (v := ?_) rfl (by kernel_rfl) (by kernel_rfl) (by kernel_rfl) (fun _ _ _ h => h) (Or.inl ⟨by rfl, ?_⟩) hS ?_
    rotate_left
    · intro W_ hSW_
      obtain ⟨z0_, zg_, z2_, zb_, z3_, zc_⟩ := hSW_
      go_simp
      try with_reducible rfl
    try simp only [Act.put, List.setIfInBounds_toArray, List.set_cons_zero, List.set_cons_succ]
    refine wpAnyH_take (i := 1) (oi := { dst := some 70, op := Op.load 3 (Operand.tmp 69), type := 3, pos := "cpu.go:120", after := #[{ on := 0, ground := Ground.data }], guard := none }) (v := ?_) rfl (by kernel_rfl) (by kernel_rfl) (by kernel_rfl) (fun _ _ _ h => h) (Or.inl ⟨by rfl, ?_⟩) hS ?_
    rotate_left
    · intro W_ hSW_
      obtain ⟨z0_, zg_, z2_, zb_, z3_, zc_⟩ := hSW_
      go_simp
      try with_reducible rfl
    try simp only [Act.put, List.setIfInBounds_toArray, List.set_cons_zero, List.set_cons_succ]
    refine wpAnyH_take (i := 2) (oi := { dst := some 71, op := Op.indexAddr 114 (Operand.global 0) (Operand.tmp 70), type := 0, pos := "cpu.go:120", after := #[{ on := 1, ground := Ground.data }], guard := none }) (v := ?_) rfl (by kernel_rfl) (by kernel_rfl) (by kernel_rfl) (fun _ _ _ h => h) (Or.inl ⟨by rfl, ?_⟩) hS ?_
    rotate_left
    · intro W_ hSW_
      obtain ⟨z0_, zg_, z2_, zb_, z3_, zc_⟩ := hSW_
      go_simp
      try with_reducible rfl
    try simp only [Act.put, List.setIfInBounds_toArray, List.set_cons_zero, List.set_cons_succ]
    refine wpAnyH_take (i := 3) (oi := { dst := some 72, op := Op.load 3 (Operand.tmp 71), type := 3, pos := "cpu.go:120", after := #[{ on := 2, ground := Ground.data }], guard := none }) (v := ?_) rfl (by kernel_rfl) (by kernel_rfl) (by kernel_rfl) (fun _ _ _ h => h) (Or.inl ⟨by rfl, ?_⟩) hS ?_
    rotate_left
    · intro W_ hSW_
      obtain ⟨z0_, zg_, z2_, zb_, z3_, zc_⟩ := hSW_
      go_simp
      try with_reducible rfl
    try simp only [Act.put, List.setIfInBounds_toArray, List.set_cons_zero, List.set_cons_succ]
    refine wpAnyH_take (i := 4) (oi := { dst := some 73, op := Op.move (Operand.tmp 0), type := 73, pos := "cpu.go:120", after := #[], guard := none }) (v := ?_) rfl (by kernel_rfl) (by kernel_rfl) (by kernel_rfl) (fun _ _ _ h => h) (Or.inl ⟨by rfl, ?_⟩) hS ?_
    rotate_left
    · intro W_ hSW_
      obtain ⟨z0_, zg_, z2_, zb_, z3_, zc_⟩ := hSW_
      go_simp
      try with_reducible rfl
    try simp only [Act.put, List.setIfInBounds_toArray, List.set_cons_zero, List.set_cons_succ]
    refine wpAnyH_take (i := 5) (oi := { dst := some 74, op := Op.fieldAddr 72 (Operand.tmp 5) 2, type := 0, pos := "cpu.go:120", after := #[], guard := none }) (v := ?_) rfl (by kernel_rfl) (by kernel_rfl) (by kernel_rfl) (fun _ _ _ h => h) (Or.inl ⟨by rfl, ?_⟩) hS ?_
    rotate_left
    · intro W_ hSW_
      obtain ⟨z0_, zg_, z2_, zb_, z3_, zc_⟩ := hSW_
      go_simp
      try with_reducible rfl
    try simp only [Act.put, List.setIfInBounds_toArray, List.set_cons_zero, List.set_cons_succ]
    refine wpAnyH_take (i := 6) (oi := { dst := some 75, op := Op.load 3 (Operand.tmp 74), type := 3, pos := "cpu.go:120", after := #[{ on := 5, ground := Ground.data }], guard := none }) (v := ?_) rfl (by kernel_rfl) (by kernel_rfl) (by kernel_rfl) (fun _ _ _ h => h) (Or.inl ⟨by rfl, ?_⟩) hS ?_
    rotate_left
    · intro W_ hSW_
      obtain ⟨z0_, zg_, z2_, zb_, z3_, zc_⟩ := hSW_
      go_simp
      try with_reducible rfl
    try simp only [Act.put, List.setIfInBounds_toArray, List.set_cons_zero, List.set_cons_succ]
    refine wpAnyH_take (i := 7) (oi := { dst := some 76, op := Op.nilCheck (Operand.tmp 73), type := 0, pos := "cpu.go:120", after := #[{ on := 4, ground := Ground.data }], guard := none }) (v := ?_) rfl (by kernel_rfl) (by kernel_rfl) (by kernel_rfl) (fun _ _ _ h => h) (Or.inl ⟨by rfl, ?_⟩) hS ?_
    rotate_left
    · intro W_ hSW_
      obtain ⟨z0_, zg_, z2_, zb_, z3_, zc_⟩ := hSW_
      go_simp
      try with_reducible rfl
    try simp only [Act.put, List.setIfInBounds_toArray, List.set_cons_zero, List.set_cons_succ]
    refine wpAnyH_take (i := 8) (oi := { dst := some 77, op := Op.fieldAddr 32 (Operand.tmp 76) 1, type := 0, pos := "cpu.go:120", after := #[{ on := 7, ground := Ground.data }], guard := none }) (v := ?_) rfl (by kernel_rfl) (by kernel_rfl) (by kernel_rfl) (fun _ _ _ h => h) (Or.inl ⟨by rfl, ?_⟩) hS ?_
    rotate_left
    · intro W_ hSW_
      obtain ⟨z0_, zg_, z2_, zb_, z3_, zc_⟩ := hSW_
      go_simp
      try with_reducible rfl
    try simp only [Act.put, List.setIfInBounds_toArray, List.set_cons_zero, List.set_cons_succ]
    refine wpAnyH_take (i := 9) (oi := { dst := some 78, op := Op.indexAddr 23 (Operand.tmp 77) (Operand.tmp 75), type := 0, pos := "cpu.go:120", after := #[{ on := 8, ground := Ground.data }, { on := 6, ground := Ground.data }], guard := none }) (v := ?_) rfl (by kernel_rfl) (by kernel_rfl) (by kernel_rfl) (fun _ _ _ h => h) (Or.inl ⟨by rfl, ?_⟩) hS ?_
    rotate_left
    · intro W_ hSW_
      obtain ⟨z0_, zg_, z2_, zb_, z3_, zc_⟩ := hSW_
      go_simp
      try with_reducible rfl
    try simp only [Act.put, List.setIfInBounds_toArray, List.set_cons_zero, List.set_cons_succ]
    refine wpAnyH_take (i := 10) (oi := { dst := some 79, op := Op.load 22 (Operand.tmp 78), type := 22, pos := "cpu.go:120", after := #[{ on := 9, ground := Ground.data }], guard := none }) (v := ?_) rfl (by kernel_rfl) (by kernel_rfl) (by kernel_rfl) (fun _ _ _ h => h) (Or.inl ⟨by rfl, ?_⟩) hS ?_
    rotate_left
    · intro W_ hSW_
      obtain ⟨z0_, zg_, z2_, zb_, z3_, zc_⟩ := hSW_
      go_simp
      try with_reducible rfl
    try simp only [Act.put, List.setIfInBounds_toArray, List.set_cons_zero, List.set_cons_succ]
    refine wpAnyH_take (i := 11) (oi := { dst := some 80, op := Op.move (Operand.tmp 0), type := 73, pos := "cpu.go:120", after := #[], guard := none }) (v := ?_) rfl (by kernel_rfl) (by kernel_rfl) (by kernel_rfl) (fun _ _ _ h => h) (Or.inl ⟨by rfl, ?_⟩) hS ?_
    rotate_left
    · intro W_ hSW_
      obtain ⟨z0_, zg_, z2_, zb_, z3_, zc_⟩ := hSW_
      go_simp
      try with_reducible rfl
    try simp only [Act.put, List.setIfInBounds_toArray, List.set_cons_zero, List.set_cons_succ]
    refine wpAnyH_take (i := 12) (oi := { dst := some 81, op := Op.fieldAddr 72 (Operand.tmp 5) 3, type := 0, pos := "cpu.go:120", after := #[], guard := none }) (v := ?_) rfl (by kernel_rfl) (by kernel_rfl) (by kernel_rfl) (fun _ _ _ h => h) (Or.inl ⟨by rfl, ?_⟩) hS ?_
    rotate_left
    · intro W_ hSW_
      obtain ⟨z0_, zg_, z2_, zb_, z3_, zc_⟩ := hSW_
      go_simp
      try with_reducible rfl
    try simp only [Act.put, List.setIfInBounds_toArray, List.set_cons_zero, List.set_cons_succ]
    refine wpAnyH_take (i := 13) (oi := { dst := some 82, op := Op.load 3 (Operand.tmp 81), type := 3, pos := "cpu.go:120", after := #[{ on := 12, ground := Ground.data }], guard := none }) (v := ?_) rfl (by kernel_rfl) (by kernel_rfl) (by kernel_rfl) (fun _ _ _ h => h) (Or.inl ⟨by rfl, ?_⟩) hS ?_
    rotate_left
    · intro W_ hSW_
      obtain ⟨z0_, zg_, z2_, zb_, z3_, zc_⟩ := hSW_
      go_simp
      try with_reducible rfl
    try simp only [Act.put, List.setIfInBounds_toArray, List.set_cons_zero, List.set_cons_succ]
    refine wpAnyH_take (i := 14) (oi := { dst := some 83, op := Op.nilCheck (Operand.tmp 80), type := 0, pos := "cpu.go:120", after := #[{ on := 11, ground := Ground.data }], guard := none }) (v := ?_) rfl (by kernel_rfl) (by kernel_rfl) (by kernel_rfl) (fun _ _ _ h => h) (Or.inl ⟨by rfl, ?_⟩) hS ?_
    rotate_left
    · intro W_ hSW_
      obtain ⟨z0_, zg_, z2_, zb_, z3_, zc_⟩ := hSW_
      go_simp
      try with_reducible rfl
    try simp only [Act.put, List.setIfInBounds_toArray, List.set_cons_zero, List.set_cons_succ]
    refine wpAnyH_take (i := 15) (oi := { dst := some 84, op := Op.fieldAddr 32 (Operand.tmp 83) 1, type := 0, pos := "cpu.go:120", after := #[{ on := 14, ground := Ground.data }], guard := none }) (v := ?_) rfl (by kernel_rfl) (by kernel_rfl) (by kernel_rfl) (fun _ _ _ h => h) (Or.inl ⟨by rfl, ?_⟩) hS ?_
    rotate_left
    · intro W_ hSW_
      obtain ⟨z0_, zg_, z2_, zb_, z3_, zc_⟩ := hSW_
      go_simp
      try with_reducible rfl
    try simp only [Act.put, List.setIfInBounds_toArray, List.set_cons_zero, List.set_cons_succ]
    refine wpAnyH_take (i := 16) (oi := { dst := some 85, op := Op.indexAddr 23 (Operand.tmp 84) (Operand.tmp 82), type := 0, pos := "cpu.go:120", after := #[{ on := 15, ground := Ground.data }, { on := 13, ground := Ground.data }], guard := none }) (v := ?_) rfl (by kernel_rfl) (by kernel_rfl) (by kernel_rfl) (fun _ _ _ h => h) (Or.inl ⟨by rfl, ?_⟩) hS ?_
    rotate_left
    · intro W_ hSW_
      obtain ⟨z0_, zg_, z2_, zb_, z3_, zc_⟩ := hSW_
      go_simp
      try with_reducible rfl
    try simp only [Act.put, List.setIfInBounds_toArray, List.set_cons_zero, List.set_cons_succ]
    refine wpAnyH_take (i := 17) (oi := { dst := some 86, op := Op.load 22 (Operand.tmp 85), type := 22, pos := "cpu.go:120", after := #[{ on := 16, ground := Ground.data }], guard := none }) (v := ?_) rfl (by kernel_rfl) (by kernel_rfl) (by kernel_rfl) (fun _ _ _ h => h) (Or.inl ⟨by rfl, ?_⟩) hS ?_
    rotate_left
    · intro W_ hSW_
      obtain ⟨z0_, zg_, z2_, zb_, z3_, zc_⟩ := hSW_
      go_simp
      try with_reducible rfl
    try simp only [Act.put, List.setIfInBounds_toArray, List.set_cons_zero, List.set_cons_succ]
    refine wpAnyH_ready (rs := [18]) (by kernel_rfl) (by simp) ?_
    refine AllReadyH.cons (o := { dst := some 87, op := Op.call { callee := Callee.value (Operand.func 59), args := #[Operand.tmp 72, Operand.tmp 79, Operand.tmp 86], argTypes := #[3, 22, 22] }, type := 89, pos := "cpu.go:120", after := #[{ on := 3, ground := Ground.data }, { on := 10, ground := Ground.data }, { on := 17, ground := Ground.data }], guard := none }) rfl (fun K_ hK_ => ?_) AllReadyH.nil
    go_simp
    refine (word_Binary.calls 3 vb vc _ 0 _ (wbin_f (by unfold Bop; omega) vb vc)).mono ?_
    rintro e w4 ⟨rfl, hd4⟩
    have HB4 := Aside0.mk (below_step (below_drew (Below.refl W1.heap.size W1)) hd4.below)
    clear hd4
    refine hK_.out _ _ (HSS.out _ HB4.out) (fun hS_ => ?_)
    clear hK_ K_ hS
    have hS := hS_
    clear hS_
    try simp only [Act.put, List.setIfInBounds_toArray, List.set_cons_zero, List.set_cons_succ]
    refine wpAnyH_take (i := 19) (oi := { dst := some 68, op := Op.move (Operand.tmp 87), type := 89, pos := "cpu.go:120", after := #[{ on := 18, ground := Ground.data }], guard := none }) (v := ?_) rfl (by kernel_rfl) (by kernel_rfl) (by kernel_rfl) (fun _ _ _ h => h) (Or.inl ⟨by rfl, ?_⟩) hS ?_
    rotate_left
    · intro W_ hSW_
      obtain ⟨z0_, zg_, z2_, zb_, z3_, zc_⟩ := hSW_
      go_simp
      try with_reducible rfl
    try simp only [Act.put, List.setIfInBounds_toArray, List.set_cons_zero, List.set_cons_succ]
    refine wpAnyH_take (i := 20) (oi := { dst := some 88, op := Op.extract (Operand.tmp 68) 0, type := 22, pos := "cpu.go:120", after := #[{ on := 19, ground := Ground.data }], guard := none }) (v := ?_) rfl (by kernel_rfl) (by kernel_rfl) (by kernel_rfl) (fun _ _ _ h => h) (Or.inl ⟨by rfl, ?_⟩) hS ?_
    rotate_left
    · intro W_ hSW_
      obtain ⟨z0_, zg_, z2_, zb_, z3_, zc_⟩ := hSW_
      go_simp
      try with_reducible rfl
    try simp only [Act.put, List.setIfInBounds_toArray, List.set_cons_zero, List.set_cons_succ]
    refine wpAnyH_take (i := 21) (oi := { dst := some 89, op := Op.extract (Operand.tmp 68) 1, type := 34, pos := "cpu.go:120", after := #[{ on := 19, ground := Ground.data }, { on := 22, ground := Ground.gcOnly Departure.lateStores }], guard := none }) (v := ?_) rfl (by kernel_rfl) (by kernel_rfl) (by kernel_rfl) (fun _ _ _ h => h) (Or.inl ⟨by rfl, ?_⟩) hS ?_
    rotate_left
    · intro W_ hSW_
      obtain ⟨z0_, zg_, z2_, zb_, z3_, zc_⟩ := hSW_
      go_simp
      try with_reducible rfl
    try simp only [Act.put, List.setIfInBounds_toArray, List.set_cons_zero, List.set_cons_succ]
    refine wpAnyH_take (i := 22) (oi := { dst := some 12, op := Op.assign (Operand.tmp 88), type := 22, pos := "cpu.go:120", after := #[{ on := 20, ground := Ground.data }, { on := 18, ground := Ground.chain }, { on := 0, ground := Ground.phase }, { on := 1, ground := Ground.phase }, { on := 2, ground := Ground.phase }, { on := 3, ground := Ground.phase }, { on := 4, ground := Ground.phase }, { on := 5, ground := Ground.phase }, { on := 6, ground := Ground.phase }, { on := 7, ground := Ground.phase }, { on := 8, ground := Ground.phase }, { on := 9, ground := Ground.phase }, { on := 10, ground := Ground.phase }, { on := 11, ground := Ground.phase }, { on := 12, ground := Ground.phase }, { on := 13, ground := Ground.phase }, { on := 14, ground := Ground.phase }, { on := 15, ground := Ground.phase }, { on := 16, ground := Ground.phase }, { on := 17, ground := Ground.phase }, { on := 18, ground := Ground.phase }, { on := 19, ground := Ground.phase }, { on := 20, ground := Ground.phase }, { on := 21, ground := Ground.textOnly Departure.lateStores }], guard := none }) (v := ?_) rfl (by kernel_rfl) (by kernel_rfl) (by kernel_rfl) (fun _ _ _ h => h) (Or.inl ⟨by rfl, ?_⟩) hS ?_
    rotate_left
    · intro W_ hSW_
      obtain ⟨z0_, zg_, z2_, zb_, z3_, zc_⟩ := hSW_
      go_simp
      try with_reducible rfl
    try simp only [Act.put, List.setIfInBounds_toArray, List.set_cons_zero, List.set_cons_succ]
    refine wpAnyH_take (i := 23) (oi := { dst := some 13, op := Op.assign (Operand.tmp 89), type := 34, pos := "cpu.go:120", after := #[{ on := 21, ground := Ground.data }, { on := 22, ground := Ground.chain }, { on := 0, ground := Ground.phase }, { on := 1, ground := Ground.phase }, { on := 2, ground := Ground.phase }, { on := 3, ground := Ground.phase }, { on := 4, ground := Ground.phase }, { on := 5, ground := Ground.phase }, { on := 6, ground := Ground.phase }, { on := 7, ground := Ground.phase }, { on := 8, ground := Ground.phase }, { on := 9, ground := Ground.phase }, { on := 10, ground := Ground.phase }, { on := 11, ground := Ground.phase }, { on := 12, ground := Ground.phase }, { on := 13, ground := Ground.phase }, { on := 14, ground := Ground.phase }, { on := 15, ground := Ground.phase }, { on := 16, ground := Ground.phase }, { on := 17, ground := Ground.phase }, { on := 18, ground := Ground.phase }, { on := 19, ground := Ground.phase }, { on := 20, ground := Ground.phase }, { on := 21, ground := Ground.phase }, { on := 22, ground := Ground.phase }], guard := none }) (v := ?_) rfl (by kernel_rfl) (by kernel_rfl) (by kernel_rfl) (fun _ _ _ h => h) (Or.inl ⟨by rfl, ?_⟩) hS ?_
    rotate_left
    · intro W_ hSW_
      obtain ⟨z0_, zg_, z2_, zb_, z3_, zc_⟩ := hSW_
      go_simp
      try with_reducible rfl
    try simp only [Act.put, List.setIfInBounds_toArray, List.set_cons_zero, List.set_cons_succ]
    refine wpAnyH_done (by kernel_rfl) ?_ _
    clear hS
    go_wp2_with fail
    go_ret2
    exact ⟨by simp [cmpC, HV.out.1, HV.out.2], below_step HBW.out HB4.out⟩
  by_cases e7 : op = 7
  · subst e7
    go_enter Tryd.func33, Tryd.ntmps33
    go_wp2_with fail
    have HSS := Aside0.mk (fun W (hB : Below W1.heap.size W1 W) => show W.cell? ⟨g1, 0, none⟩ = some (.int .i64 7) ∧ W.cell? ⟨0, 7, none⟩ = some (.int .i64 4) ∧ W.cell? ⟨g1, 2, none⟩ = some (.int .i64 (b : Int)) ∧ W.cell? ⟨gc, 1 + b, none⟩ = some (.int .i16 vb) ∧ W.cell? ⟨g1, 3, none⟩ = some (.int .i64 (cc : Int)) ∧ W.cell? ⟨gc, 1 + cc, none⟩ = some (.int .i16 vc) from ⟨Kd.cell_heap hB.block HX5.out.1, Kd.cell_heap hB.block (HGT.out 7 (by decide)), Kd.cell_heap hB.block HX5.out.2.1, Kd.cell_heap hB.block HXB.out, Kd.cell_heap hB.block HX5.out.2.2.1, Kd.cell_heap hB.block HXC.out⟩)
    refine wp_region_held_drew (S := fun W => W.cell? ⟨g1, 0, none⟩ = some (.int .i64 7) ∧ W.cell? ⟨0, 7, none⟩ = some (.int .i64 4) ∧ W.cell? ⟨g1, 2, none⟩ = some (.int .i64 (b : Int)) ∧ W.cell? ⟨gc, 1 + b, none⟩ = some (.int .i16 vb) ∧ W.cell? ⟨g1, 3, none⟩ = some (.int .i64 (cc : Int)) ∧ W.cell? ⟨gc, 1 + cc, none⟩ = some (.int .i16 vc)) (by kernel_rfl) (HSS.out _ (below_drew (Below.refl _ _))) (fun hS => ?_)
    refine wpAnyH_take (i := 0) (oi := { dst := some 69, op := Op.fieldAddr 72 (Operand.tmp 5) 0, type := 0, pos := "cpu.go:120", after := #[], guard := none }) (v := ?_) rfl (by kernel_rfl) (by kernel_rfl) (by kernel_rfl) (fun _ _ _ h => h) (Or.inl ⟨by rfl, ?_⟩) hS ?_
    rotate_left
    · intro W_ hSW_
      obtain ⟨z0_, zg_, z2_, zb_, z3_, zc_⟩ := hSW_
      go_simp
      try with_reducible rfl
    try simp only [Act.put, List.setIfInBounds_toArray, List.set_cons_zero, List.set_cons_succ]
    refine wpAnyH_take (i := 1) (oi := { dst := some 70, op := Op.load 3 (Operand.tmp 69), type := 3, pos := "cpu.go:120", after := #[{ on := 0, ground := Ground.data }], guard := none }) (v := ?_) rfl (by kernel_rfl) (by kernel_rfl) (by kernel_rfl) (fun _ _ _ h => h) (Or.inl ⟨by rfl, ?_⟩) hS ?_
    rotate_left
    · intro W_ hSW_
      obtain ⟨z0_, zg_, z2_, zb_, z3_, zc_⟩ := hSW_
      go_simp
      try with_reducible rfl
    try simp only [Act.put, List.setIfInBounds_toArray, List.set_cons_zero, List.set_cons_succ]
    refine wpAnyH_take (i := 2) (oi := { dst := some 71, op := Op.indexAddr 114 (Operand.global 0) (Operand.tmp 70), type := 0, pos := "cpu.go:120", after := #[{ on := 1, ground := Ground.data }], guard := none }) (v := ?_) rfl (by kernel_rfl) (by kernel_rfl) (by kernel_rfl) (fun _ _ _ h => h) (Or.inl ⟨by rfl, ?_⟩) hS ?_
    rotate_left
    · intro W_ hSW_
      obtain ⟨z0_, zg_, z2_, zb_, z3_, zc_⟩ := hSW_
      go_simp
      try with_reducible rfl
    try simp only [Act.put, List.setIfInBounds_toArray, List.set_cons_zero, List.set_cons_succ]
    refine wpAnyH_take (i := 3) (oi := { dst := some 72, op := Op.load 3 (Operand.tmp 71), type := 3, pos := "cpu.go:120", after := #[{ on := 2, ground := Ground.data }], guard := none }) (v := ?_) rfl (by kernel_rfl) (by kernel_rfl) (by kernel_rfl) (fun _ _ _ h => h) (Or.inl ⟨by rfl, ?_⟩) hS ?_
    rotate_left
    · intro W_ hSW_
      obtain ⟨z0_, zg_, z2_, zb_, z3_, zc_⟩ := hSW_
      go_simp
      try with_reducible rfl
    try simp only [Act.put, List.setIfInBounds_toArray, List.set_cons_zero, List.set_cons_succ]
    refine wpAnyH_take (i := 4) (oi := { dst := some 73, op := Op.move (Operand.tmp 0), type := 73, pos := "cpu.go:120", after := #[], guard := none }) (v := ?_) rfl (by kernel_rfl) (by kernel_rfl) (by kernel_rfl) (fun _ _ _ h => h) (Or.inl ⟨by rfl, ?_⟩) hS ?_
    rotate_left
    · intro W_ hSW_
      obtain ⟨z0_, zg_, z2_, zb_, z3_, zc_⟩ := hSW_
      go_simp
      try with_reducible rfl
    try simp only [Act.put, List.setIfInBounds_toArray, List.set_cons_zero, List.set_cons_succ]
    refine wpAnyH_take (i := 5) (oi := { dst := some 74, op := Op.fieldAddr 72 (Operand.tmp 5) 2, type := 0, pos := "cpu.go:120", after := #[], guard := none }) (v := ?_) rfl (by kernel_rfl) (by kernel_rfl) (by kernel_rfl) (fun _ _ _ h => h) (Or.inl ⟨by rfl, ?_⟩) hS ?_
    rotate_left
    · intro W_ hSW_
      obtain ⟨z0_, zg_, z2_, zb_, z3_, zc_⟩ := hSW_
      go_simp
      try with_reducible rfl
    try simp only [Act.put, List.setIfInBounds_toArray, List.set_cons_zero, List.set_cons_succ]
    refine wpAnyH_take (i := 6) (oi := { dst := some 75, op := Op.load 3 (Operand.tmp 74), type := 3, pos := "cpu.go:120", after := #[{ on := 5, ground := Ground.data }], guard := none }) (v := ?_) rfl (by kernel_rfl) (by kernel_rfl) (by kernel_rfl) (fun _ _ _ h => h) (Or.inl ⟨by rfl, ?_⟩) hS ?_
    rotate_left
    · intro W_ hSW_
      obtain ⟨z0_, zg_, z2_, zb_, z3_, zc_⟩ := hSW_
      go_simp
      try with_reducible rfl
    try simp only [Act.put, List.setIfInBounds_toArray, List.set_cons_zero, List.set_cons_succ]
    refine wpAnyH_take (i := 7) (oi := { dst := some 76, op := Op.nilCheck (Operand.tmp 73), type := 0, pos := "cpu.go:120", after := #[{ on := 4, ground := Ground.data }], guard := none }) (v := ?_) rfl (by kernel_rfl) (by kernel_rfl) (by kernel_rfl) (fun _ _ _ h => h) (Or.inl ⟨by rfl, ?_⟩) hS ?_
    rotate_left
    · intro W_ hSW_
      obtain ⟨z0_, zg_, z2_, zb_, z3_, zc_⟩ := hSW_
      go_simp
      try with_reducible rfl
    try simp only [Act.put, List.setIfInBounds_toArray, List.set_cons_zero, List.set_cons_succ]
    refine wpAnyH_take (i := 8) (oi := { dst := some 77, op := Op.fieldAddr 32 (Operand.tmp 76) 1, type := 0, pos := "cpu.go:120", after := #[{ on := 7, ground := Ground.data }], guard := none }) (v := ?_) rfl (by kernel_rfl) (by kernel_rfl) (by kernel_rfl) (fun _ _ _ h => h) (Or.inl ⟨by rfl, ?_⟩) hS ?_
    rotate_left
    · intro W_ hSW_
      obtain ⟨z0_, zg_, z2_, zb_, z3_, zc_⟩ := hSW_
      go_simp
      try with_reducible rfl
    try simp only [Act.put, List.setIfInBounds_toArray, List.set_cons_zero, List.set_cons_succ]
    refine wpAnyH_take (i := 9) (oi := { dst := some 78, op := Op.indexAddr 23 (Operand.tmp 77) (Operand.tmp 75), type := 0, pos := "cpu.go:120", after := #[{ on := 8, ground := Ground.data }, { on := 6, ground := Ground.data }], guard := none }) (v := ?_) rfl (by kernel_rfl) (by kernel_rfl) (by kernel_rfl) (fun _ _ _ h => h) (Or.inl ⟨by rfl, ?_⟩) hS ?_
    rotate_left
    · intro W_ hSW_
      obtain ⟨z0_, zg_, z2_, zb_, z3_, zc_⟩ := hSW_
      go_simp
      try with_reducible rfl
    try simp only [Act.put, List.setIfInBounds_toArray, List.set_cons_zero, List.set_cons_succ]
    refine wpAnyH_take (i := 10) (oi := { dst := some 79, op := Op.load 22 (Operand.tmp 78), type := 22, pos := "cpu.go:120", after := #[{ on := 9, ground := Ground.data }], guard := none }) (v := ?_) rfl (by kernel_rfl) (by kernel_rfl) (by kernel_rfl) (fun _ _ _ h => h) (Or.inl ⟨by rfl, ?_⟩) hS ?_
    rotate_left
    · intro W_ hSW_
      obtain ⟨z0_, zg_, z2_, zb_, z3_, zc_⟩ := hSW_
      go_simp
      try with_reducible rfl
    try simp only [Act.put, List.setIfInBounds_toArray, List.set_cons_zero, List.set_cons_succ]
    refine wpAnyH_take (i := 11) (oi := { dst := some 80, op := Op.move (Operand.tmp 0), type := 73, pos := "cpu.go:120", after := #[], guard := none }) (v := ?_) rfl (by kernel_rfl) (by kernel_rfl) (by kernel_rfl) (fun _ _ _ h => h) (Or.inl ⟨by rfl, ?_⟩) hS ?_
    rotate_left
    · intro W_ hSW_
      obtain ⟨z0_, zg_, z2_, zb_, z3_, zc_⟩ := hSW_
      go_simp
      try with_reducible rfl
    try simp only [Act.put, List.setIfInBounds_toArray, List.set_cons_zero, List.set_cons_succ]
    refine wpAnyH_take (i := 12) (oi := { dst := some 81, op := Op.fieldAddr 72 (Operand.tmp 5) 3, type := 0, pos := "cpu.go:120", after := #[], guard := none }) (v := ?_) rfl (by kernel_rfl) (by kernel_rfl) (by kernel_rfl) (fun _ _ _ h => h) (Or.inl ⟨by rfl, ?_⟩) hS ?_
    rotate_left
    · intro W_ hSW_
      obtain ⟨z0_, zg_, z2_, zb_, z3_, zc_⟩ := hSW_
      go_simp
      try with_reducible rfl
    try simp only [Act.put, List.setIfInBounds_toArray, List.set_cons_zero, List.set_cons_succ]
    refine wpAnyH_take (i := 13) (oi := { dst := some 82, op := Op.load 3 (Operand.tmp 81), type := 3, pos := "cpu.go:120", after := #[{ on := 12, ground := Ground.data }], guard := none }) (v := ?_) rfl (by kernel_rfl) (by kernel_rfl) (by kernel_rfl) (fun _ _ _ h => h) (Or.inl ⟨by rfl, ?_⟩) hS ?_
    rotate_left
    · intro W_ hSW_
      obtain ⟨z0_, zg_, z2_, zb_, z3_, zc_⟩ := hSW_
      go_simp
      try with_reducible rfl
    try simp only [Act.put, List.setIfInBounds_toArray, List.set_cons_zero, List.set_cons_succ]
    refine wpAnyH_take (i := 14) (oi := { dst := some 83, op := Op.nilCheck (Operand.tmp 80), type := 0, pos := "cpu.go:120", after := #[{ on := 11, ground := Ground.data }], guard := none }) (v := ?_) rfl (by kernel_rfl) (by kernel_rfl) (by kernel_rfl) (fun _ _ _ h => h) (Or.inl ⟨by rfl, ?_⟩) hS ?_
    rotate_left
    · intro W_ hSW_
      obtain ⟨z0_, zg_, z2_, zb_, z3_, zc_⟩ := hSW_
      go_simp
      try with_reducible rfl
    try simp only [Act.put, List.setIfInBounds_toArray, List.set_cons_zero, List.set_cons_succ]
    refine wpAnyH_take (i := 15) (oi := { dst := some 84, op := Op.fieldAddr 32 (Operand.tmp 83) 1, type := 0, pos := "cpu.go:120", after := #[{ on := 14, ground := Ground.data }], guard := none }) (v := ?_) rfl (by kernel_rfl) (by kernel_rfl) (by kernel_rfl) (fun _ _ _ h => h) (Or.inl ⟨by rfl, ?_⟩) hS ?_
    rotate_left
    · intro W_ hSW_
      obtain ⟨z0_, zg_, z2_, zb_, z3_, zc_⟩ := hSW_
      go_simp
      try with_reducible rfl
    try simp only [Act.put, List.setIfInBounds_toArray, List.set_cons_zero, List.set_cons_succ]
    refine wpAnyH_take (i := 16) (oi := { dst := some 85, op := Op.indexAddr 23 (Operand.tmp 84) (Operand.tmp 82), type := 0, pos := "cpu.go:120", after := #[{ on := 15, ground := Ground.data }, { on := 13, ground := Ground.data }], guard := none }) (v := ?_) rfl (by kernel_rfl) (by kernel_rfl) (by kernel_rfl) (fun _ _ _ h => h) (Or.inl ⟨by rfl, ?_⟩) hS ?_
    rotate_left
    · intro W_ hSW_
      obtain ⟨z0_, zg_, z2_, zb_, z3_, zc_⟩ := hSW_
      go_simp
      try with_reducible rfl
    try simp only [Act.put, List.setIfInBounds_toArray, List.set_cons_zero, List.set_cons_succ]
    refine wpAnyH_take (i := 17) (oi := { dst := some 86, op := Op.load 22 (Operand.tmp 85), type := 22, pos := "cpu.go:120", after := #[{ on := 16, ground := Ground.data }], guard := none }) (v := ?_) rfl (by kernel_rfl) (by kernel_rfl) (by kernel_rfl) (fun _ _ _ h => h) (Or.inl ⟨by rfl, ?_⟩) hS ?_
    rotate_left
    · intro W_ hSW_
      obtain ⟨z0_, zg_, z2_, zb_, z3_, zc_⟩ := hSW_
      go_simp
      try with_reducible rfl
    try simp only [Act.put, List.setIfInBounds_toArray, List.set_cons_zero, List.set_cons_succ]
    refine wpAnyH_ready (rs := [18]) (by kernel_rfl) (by simp) ?_
    refine AllReadyH.cons (o := { dst := some 87, op := Op.call { callee := Callee.value (Operand.func 59), args := #[Operand.tmp 72, Operand.tmp 79, Operand.tmp 86], argTypes := #[3, 22, 22] }, type := 89, pos := "cpu.go:120", after := #[{ on := 3, ground := Ground.data }, { on := 10, ground := Ground.data }, { on := 17, ground := Ground.data }], guard := none }) rfl (fun K_ hK_ => ?_) AllReadyH.nil
    go_simp
    refine (word_Binary.calls 4 vb vc _ 0 _ (wbin_f (by unfold Bop; omega) vb vc)).mono ?_
    rintro e w4 ⟨rfl, hd4⟩
    have HB4 := Aside0.mk (below_step (below_drew (Below.refl W1.heap.size W1)) hd4.below)
    clear hd4
    refine hK_.out _ _ (HSS.out _ HB4.out) (fun hS_ => ?_)
    clear hK_ K_ hS
    have hS := hS_
    clear hS_
    try simp only [Act.put, List.setIfInBounds_toArray, List.set_cons_zero, List.set_cons_succ]
    refine wpAnyH_take (i := 19) (oi := { dst := some 68, op := Op.move (Operand.tmp 87), type := 89, pos := "cpu.go:120", after := #[{ on := 18, ground := Ground.data }], guard := none }) (v := ?_) rfl (by kernel_rfl) (by kernel_rfl) (by kernel_rfl) (fun _ _ _ h => h) (Or.inl ⟨by rfl, ?_⟩) hS ?_
    rotate_left
    · intro W_ hSW_
      obtain ⟨z0_, zg_, z2_, zb_, z3_, zc_⟩ := hSW_
      go_simp
      try with_reducible rfl
    try simp only [Act.put, List.setIfInBounds_toArray, List.set_cons_zero, List.set_cons_succ]
    refine wpAnyH_take (i := 20) (oi := { dst := some 88, op := Op.extract (Operand.tmp 68) 0, type := 22, pos := "cpu.go:120", after := #[{ on := 19, ground := Ground.data }], guard := none }) (v := ?_) rfl (by kernel_rfl) (by kernel_rfl) (by kernel_rfl) (fun _ _ _ h => h) (Or.inl ⟨by rfl, ?_⟩) hS ?_
    rotate_left
    · intro W_ hSW_
      obtain ⟨z0_, zg_, z2_, zb_, z3_, zc_⟩ := hSW_
      go_simp
      try with_reducible rfl
    try simp only [Act.put, List.setIfInBounds_toArray, List.set_cons_zero, List.set_cons_succ]
    refine wpAnyH_take (i := 21) (oi := { dst := some 89, op := Op.extract (Operand.tmp 68) 1, type := 34, pos := "cpu.go:120", after := #[{ on := 19, ground := Ground.data }, { on := 22, ground := Ground.gcOnly Departure.lateStores }], guard := none }) (v := ?_) rfl (by kernel_rfl) (by kernel_rfl) (by kernel_rfl) (fun _ _ _ h => h) (Or.inl ⟨by rfl, ?_⟩) hS ?_
    rotate_left
    · intro W_ hSW_
      obtain ⟨z0_, zg_, z2_, zb_, z3_, zc_⟩ := hSW_
      go_simp
      try with_reducible rfl
    try simp only [Act.put, List.setIfInBounds_toArray, List.set_cons_zero, List.set_cons_succ]
    refine wpAnyH_take (i := 22) (oi := { dst := some 12, op := Op.assign (Operand.tmp 88), type := 22, pos := "cpu.go:120", after := #[{ on := 20, ground := Ground.data }, { on := 18, ground := Ground.chain }, { on := 0, ground := Ground.phase }, { on := 1, ground := Ground.phase }, { on := 2, ground := Ground.phase }, { on := 3, ground := Ground.phase }, { on := 4, ground := Ground.phase }, { on := 5, ground := Ground.phase }, { on := 6, ground := Ground.phase }, { on := 7, ground := Ground.phase }, { on := 8, ground := Ground.phase }, { on := 9, ground := Ground.phase }, { on := 10, ground := Ground.phase }, { on := 11, ground := Ground.phase }, { on := 12, ground := Ground.phase }, { on := 13, ground := Ground.phase }, { on := 14, ground := Ground.phase }, { on := 15, ground := Ground.phase }, { on := 16, ground := Ground.phase }, { on := 17, ground := Ground.phase }, { on := 18, ground := Ground.phase }, { on := 19, ground := Ground.phase }, { on := 20, ground := Ground.phase }, { on := 21, ground := Ground.textOnly Departure.lateStores }], guard := none }) (v := ?_) rfl (by kernel_rfl) (by kernel_rfl) (by kernel_rfl) (fun _ _ _ h => h) (Or.inl ⟨by rfl, ?_⟩) hS ?_
    rotate_left
    · intro W_ hSW_
      obtain ⟨z0_, zg_, z2_, zb_, z3_, zc_⟩ := hSW_
      go_simp
      try with_reducible rfl
    try simp only [Act.put, List.setIfInBounds_toArray, List.set_cons_zero, List.set_cons_succ]
    refine wpAnyH_take (i := 23) (oi := { dst := some 13, op := Op.assign (Operand.tmp 89), type := 34, pos := "cpu.go:120", after := #[{ on := 21, ground := Ground.data }, { on := 22, ground := Ground.chain }, { on := 0, ground := Ground.phase }, { on := 1, ground := Ground.phase }, { on := 2, ground := Ground.phase }, { on := 3, ground := Ground.phase }, { on := 4, ground := Ground.phase }, { on := 5, ground := Ground.phase }, { on := 6, ground := Ground.phase }, { on := 7, ground := Ground.phase }, { on := 8, ground := Ground.phase }, { on := 9, ground := Ground.phase }, { on := 10, ground := Ground.phase }, { on := 11, ground := Ground.phase }, { on := 12, ground := Ground.phase }, { on := 13, ground := Ground.phase }, { on := 14, ground := Ground.phase }, { on := 15, ground := Ground.phase }, { on := 16, ground := Ground.phase }, { on := 17, ground := Ground.phase }, { on := 18, ground := Ground.phase }, { on := 19, ground := Ground.phase }, { on := 20, ground := Ground.phase }, { on := 21, ground := Ground.phase }, { on := 22, ground := Ground.phase }], guard := none }) (v := ?_) rfl (by kernel_rfl) (by kernel_rfl) (by kernel_rfl) (fun _ _ _ h => h) (Or.inl ⟨by rfl, ?_⟩) hS ?_
    rotate_left
    · intro W_ hSW_
      obtain ⟨z0_, zg_, z2_, zb_, z3_, zc_⟩ := hSW_
      go_simp
      try with_reducible rfl
    try simp only [Act.put, List.setIfInBounds_toArray, List.set_cons_zero, List.set_cons_succ]
    refine wpAnyH_done (by kernel_rfl) ?_ _
    clear hS
    go_wp2_with fail
    go_ret2
    exact ⟨by simp [cmpC, HV.out.1, HV.out.2], below_step HBW.out HB4.out⟩
  by_cases e8 : op = 8
  · subst e8
    go_enter Tryd.func33, Tryd.ntmps33
    go_wp2_with fail
    have HSS := Aside0.mk (fun W (hB : Below W1.heap.size W1 W) => show W.cell? ⟨g1, 0, none⟩ = some (.int .i64 8) ∧ W.cell? ⟨0, 8, none⟩ = some (.int .i64 5) ∧ W.cell? ⟨g1, 2, none⟩ = some (.int .i64 (b : Int)) ∧ W.cell? ⟨gc, 1 + b, none⟩ = some (.int .i16 vb) ∧ W.cell? ⟨g1, 3, none⟩ = some (.int .i64 (cc : Int)) ∧ W.cell? ⟨gc, 1 + cc, none⟩ = some (.int .i16 vc) from ⟨Kd.cell_heap hB.block HX5.out.1, Kd.cell_heap hB.block (HGT.out 8 (by decide)), Kd.cell_heap hB.block HX5.out.2.1, Kd.cell_heap hB.block HXB.out, Kd.cell_heap hB.block HX5.out.2.2.1, Kd.cell_heap hB.block HXC.out⟩)
    refine wp_region_held_drew (S := fun W => W.cell? ⟨g1, 0, none⟩ = some (.int .i64 8) ∧ W.cell? ⟨0, 8, none⟩ = some (.int .i64 5) ∧ W.cell? ⟨g1, 2, none⟩ = some (.int .i64 (b : Int)) ∧ W.cell? ⟨gc, 1 + b, none⟩ = some (.int .i16 vb) ∧ W.cell? ⟨g1, 3, none⟩ = some (.int .i64 (cc : Int)) ∧ W.cell? ⟨gc, 1 + cc, none⟩ = some (.int .i16 vc)) (by kernel_rfl) (HSS.out _ (below_drew (Below.refl _ _))) (fun hS => ?_)
    refine wpAnyH_take (i := 0) (oi := { dst := some 69, op := Op.fieldAddr 72 (Operand.tmp 5) 0, type := 0, pos := "cpu.go:120", after := #[], guard := none }) (v := ?_) rfl (by kernel_rfl) (by kernel_rfl) (by kernel_rfl) (fun _ _ _ h => h) (Or.inl ⟨by rfl, ?_⟩) hS ?_
    rotate_left
    · intro W_ hSW_
      obtain ⟨z0_, zg_, z2_, zb_, z3_, zc_⟩ := hSW_
      go_simp
      try with_reducible rfl
    try simp only [Act.put, List.setIfInBounds_toArray, List.set_cons_zero, List.set_cons_succ]
    refine wpAnyH_take (i := 1) (oi := { dst := some 70, op := Op.load 3 (Operand.tmp 69), type := 3, pos := "cpu.go:120", after := #[{ on := 0, ground := Ground.data }], guard := none }) (v := ?_) rfl (by kernel_rfl) (by kernel_rfl) (by kernel_rfl) (fun _ _ _ h => h) (Or.inl ⟨by rfl, ?_⟩) hS ?_
    rotate_left
    · intro W_ hSW_
      obtain ⟨z0_, zg_, z2_, zb_, z3_, zc_⟩ := hSW_
      go_simp
      try with_reducible rfl
    try simp only [Act.put, List.setIfInBounds_toArray, List.set_cons_zero, List.set_cons_succ]
    refine wpAnyH_take (i := 2) (oi := { dst := some 71, op := Op.indexAddr 114 (Operand.global 0) (Operand.tmp 70), type := 0, pos := "cpu.go:120", after := #[{ on := 1, ground := Ground.data }], guard := none }) (v := ?_) rfl (by kernel_rfl) (by kernel_rfl) (by kernel_rfl) (fun _ _ _ h => h) (Or.inl ⟨by rfl, ?_⟩) hS ?_
    rotate_left
    · intro W_ hSW_
      obtain ⟨z0_, zg_, z2_, zb_, z3_, zc_⟩ := hSW_
      go_simp
      try with_reducible rfl
    try simp only [Act.put, List.setIfInBounds_toArray, List.set_cons_zero, List.set_cons_succ]
    refine wpAnyH_take (i := 3) (oi := { dst := some 72, op := Op.load 3 (Operand.tmp 71), type := 3, pos := "cpu.go:120", after := #[{ on := 2, ground := Ground.data }], guard := none }) (v := ?_) rfl (by kernel_rfl) (by kernel_rfl) (by kernel_rfl) (fun _ _ _ h => h) (Or.inl ⟨by rfl, ?_⟩) hS ?_
    rotate_left
    · intro W_ hSW_
      obtain ⟨z0_, zg_, z2_, zb_, z3_, zc_⟩ := hSW_
      go_simp
      try with_reducible rfl
    try simp only [Act.put, List.setIfInBounds_toArray, List.set_cons_zero, List.set_cons_succ]
    refine wpAnyH_take (i := 4) (oi := { dst := some 73, op := Op.move (Operand.tmp 0), type := 73, pos := "cpu.go:120", after := #[], guard := none }) (v := ?_) rfl (by kernel_rfl) (by kernel_rfl) (by kernel_rfl) (fun _ _ _ h => h) (Or.inl ⟨by rfl, ?_⟩) hS ?_
    rotate_left
    · intro W_ hSW_
      obtain ⟨z0_, zg_, z2_, zb_, z3_, zc_⟩ := hSW_
      go_simp
      try with_reducible rfl
    try simp only [Act.put, List.setIfInBounds_toArray, List.set_cons_zero, List.set_cons_succ]
    refine wpAnyH_take (i := 5) (oi := { dst := some 74, op := Op.fieldAddr 72 (Operand.tmp 5) 2, type := 0, pos := "cpu.go:120", after := #[], guard := none }) (v := ?_) rfl (by kernel_rfl) (by kernel_rfl) (by kernel_rfl) (fun _ _ _ h => h) (Or.inl ⟨by rfl, ?_⟩) hS ?_
    rotate_left
    · intro W_ hSW_
      obtain ⟨z0_, zg_, z2_, zb_, z3_, zc_⟩ := hSW_
      go_simp
      try with_reducible rfl
    try simp only [Act.put, List.setIfInBounds_toArray, List.set_cons_zero, List.set_cons_succ]
    refine wpAnyH_take (i := 6) (oi := { dst := some 75, op := Op.load 3 (Operand.tmp 74), type := 3, pos := "cpu.go:120", after := #[{ on := 5, ground := Ground.data }], guard := none }) (v := ?_) rfl (by kernel_rfl) (by kernel_rfl) (by kernel_rfl) (fun _ _ _ h => h) (Or.inl ⟨by rfl, ?_⟩) hS ?_
    rotate_left
    · intro W_ hSW_
      obtain ⟨z0_, zg_, z2_, zb_, z3_, zc_⟩ := hSW_
      go_simp
      try with_reducible rfl
    try simp only [Act.put, List.setIfInBounds_toArray, List.set_cons_zero, List.set_cons_succ]
    refine wpAnyH_take (i := 7) (oi := { dst := some 76, op := Op.nilCheck (Operand.tmp 73), type := 0, pos := "cpu.go:120", after := #[{ on := 4, ground := Ground.data }], guard := none }) (v := ?_) rfl (by kernel_rfl) (by kernel_rfl) (by kernel_rfl) (fun _ _ _ h => h) (Or.inl ⟨by rfl, ?_⟩) hS ?_
    rotate_left
    · intro W_ hSW_
      obtain ⟨z0_, zg_, z2_, zb_, z3_, zc_⟩ := hSW_
      go_simp
      try with_reducible rfl
    try simp only [Act.put, List.setIfInBounds_toArray, List.set_cons_zero, List.set_cons_succ]
    refine wpAnyH_take (i := 8) (oi := { dst := some 77, op := Op.fieldAddr 32 (Operand.tmp 76) 1, type := 0, pos := "cpu.go:120", after := #[{ on := 7, ground := Ground.data }], guard := none }) (v := ?_) rfl (by kernel_rfl) (by kernel_rfl) (by kernel_rfl) (fun _ _ _ h => h) (Or.inl ⟨by rfl, ?_⟩) hS ?_
    rotate_left
    · intro W_ hSW_
      obtain ⟨z0_, zg_, z2_, zb_, z3_, zc_⟩ := hSW_
      go_simp
      try with_reducible rfl
    try simp only [Act.put, List.setIfInBounds_toArray, List.set_cons_zero, List.set_cons_succ]
    refine wpAnyH_take (i := 9) (oi := { dst := some 78, op := Op.indexAddr 23 (Operand.tmp 77) (Operand.tmp 75), type := 0, pos := "cpu.go:120", after := #[{ on := 8, ground := Ground.data }, { on := 6, ground := Ground.data }], guard := none }) (v := ?_) rfl (by kernel_rfl) (by kernel_rfl) (by kernel_rfl) (fun _ _ _ h => h) (Or.inl ⟨by rfl, ?_⟩) hS ?_
    rotate_left
    · intro W_ hSW_
      obtain ⟨z0_, zg_, z2_, zb_, z3_, zc_⟩ := hSW_
      go_simp
      try with_reducible rfl
    try simp only [Act.put, List.setIfInBounds_toArray, List.set_cons_zero, List.set_cons_succ]
    refine wpAnyH_take (i := 10) (oi := { dst := some 79, op := Op.load 22 (Operand.tmp 78), type := 22, pos := "cpu.go:120", after := #[{ on := 9, ground := Ground.data }], guard := none }) (v := ?_) rfl (by kernel_rfl) (by kernel_rfl) (by kernel_rfl) (fun _ _ _ h => h) (Or.inl ⟨by rfl, ?_⟩) hS ?_
    rotate_left
    · intro W_ hSW_
      obtain ⟨z0_, zg_, z2_, zb_, z3_, zc_⟩ := hSW_
      go_simp
      try with_reducible rfl
    try simp only [Act.put, List.setIfInBounds_toArray, List.set_cons_zero, List.set_cons_succ]
    refine wpAnyH_take (i := 11) (oi := { dst := some 80, op := Op.move (Operand.tmp 0), type := 73, pos := "cpu.go:120", after := #[], guard := none }) (v := ?_) rfl (by kernel_rfl) (by kernel_rfl) (by kernel_rfl) (fun _ _ _ h => h) (Or.inl ⟨by rfl, ?_⟩) hS ?_
    rotate_left
    · intro W_ hSW_
      obtain ⟨z0_, zg_, z2_, zb_, z3_, zc_⟩ := hSW_
      go_simp
      try with_reducible rfl
    try simp only [Act.put, List.setIfInBounds_toArray, List.set_cons_zero, List.set_cons_succ]
    refine wpAnyH_take (i := 12) (oi := { dst := some 81, op := Op.fieldAddr 72 (Operand.tmp 5) 3, type := 0, pos := "cpu.go:120", after := #[], guard := none }) (v := ?_) rfl (by kernel_rfl) (by kernel_rfl) (by kernel_rfl) (fun _ _ _ h => h) (Or.inl ⟨by rfl, ?_⟩) hS ?_
    rotate_left
    · intro W_ hSW_
      obtain ⟨z0_, zg_, z2_, zb_, z3_, zc_⟩ := hSW_
      go_simp
      try with_reducible rfl
    try simp only [Act.put, List.setIfInBounds_toArray, List.set_cons_zero, List.set_cons_succ]
    refine wpAnyH_take (i := 13) (oi := { dst := some 82, op := Op.load 3 (Operand.tmp 81), type := 3, pos := "cpu.go:120", after := #[{ on := 12, ground := Ground.data }], guard := none }) (v := ?_) rfl (by kernel_rfl) (by kernel_rfl) (by kernel_rfl) (fun _ _ _ h => h) (Or.inl ⟨by rfl, ?_⟩) hS ?_
    rotate_left
    · intro W_ hSW_
      obtain ⟨z0_, zg_, z2_, zb_, z3_, zc_⟩ := hSW_
      go_simp
      try with_reducible rfl
    try simp only [Act.put, List.setIfInBounds_toArray, List.set_cons_zero, List.set_cons_succ]
    refine wpAnyH_take (i := 14) (oi := { dst := some 83, op := Op.nilCheck (Operand.tmp 80), type := 0, pos := "cpu.go:120", after := #[{ on := 11, ground := Ground.data }], guard := none }) (v := ?_) rfl (by kernel_rfl) (by kernel_rfl) (by kernel_rfl) (fun _ _ _ h => h) (Or.inl ⟨by rfl, ?_⟩) hS ?_
    rotate_left
    · intro W_ hSW_
      obtain ⟨z0_, zg_, z2_, zb_, z3_, zc_⟩ := hSW_
      go_simp
      try with_reducible rfl
    try simp only [Act.put, List.setIfInBounds_toArray, List.set_cons_zero, List.set_cons_succ]
    refine wpAnyH_take (i := 15) (oi := { dst := some 84, op := Op.fieldAddr 32 (Operand.tmp 83) 1, type := 0, pos := "cpu.go:120", after := #[{ on := 14, ground := Ground.data }], guard := none }) (v := ?_) rfl (by kernel_rfl) (by kernel_rfl) (by kernel_rfl) (fun _ _ _ h => h) (Or.inl ⟨by rfl, ?_⟩) hS ?_
    rotate_left
    · intro W_ hSW_
      obtain ⟨z0_, zg_, z2_, zb_, z3_, zc_⟩ := hSW_
      go_simp
      try with_reducible rfl
    try simp only [Act.put, List.setIfInBounds_toArray, List.set_cons_zero, List.set_cons_succ]
    refine wpAnyH_take (i := 16) (oi := { dst := some 85, op := Op.indexAddr 23 (Operand.tmp 84) (Operand.tmp 82), type := 0, pos := "cpu.go:120", after := #[{ on := 15, ground := Ground.data }, { on := 13, ground := Ground.data }], guard := none }) (v := ?_) rfl (by kernel_rfl) (by kernel_rfl) (by kernel_rfl) (fun _ _ _ h => h) (Or.inl ⟨by rfl, ?_⟩) hS ?_
    rotate_left
    · intro W_ hSW_
      obtain ⟨z0_, zg_, z2_, zb_, z3_, zc_⟩ := hSW_
      go_simp
      try with_reducible rfl
    try simp only [Act.put, List.setIfInBounds_toArray, List.set_cons_zero, List.set_cons_succ]
    refine wpAnyH_take (i := 17) (oi := { dst := some 86, op := Op.load 22 (Operand.tmp 85), type := 22, pos := "cpu.go:120", after := #[{ on := 16, ground := Ground.data }], guard := none }) (v := ?_) rfl (by kernel_rfl) (by kernel_rfl) (by kernel_rfl) (fun _ _ _ h => h) (Or.inl ⟨by rfl, ?_⟩) hS ?_
    rotate_left
    · intro W_ hSW_
      obtain ⟨z0_, zg_, z2_, zb_, z3_, zc_⟩ := hSW_
      go_simp
      try with_reducible rfl
    try simp only [Act.put, List.setIfInBounds_toArray, List.set_cons_zero, List.set_cons_succ]
    refine wpAnyH_ready (rs := [18]) (by kernel_rfl) (by simp) ?_
    refine AllReadyH.cons (o := { dst := some 87, op := Op.call { callee := Callee.value (Operand.func 59), args := #[Operand.tmp 72, Operand.tmp 79, Operand.tmp 86], argTypes := #[3, 22, 22] }, type := 89, pos := "cpu.go:120", after := #[{ on := 3, ground := Ground.data }, { on := 10, ground := Ground.data }, { on := 17, ground := Ground.data }], guard := none }) rfl (fun K_ hK_ => ?_) AllReadyH.nil
    go_simp
    refine (word_Binary.calls 5 vb vc _ 0 _ (wbin_f (by unfold Bop; omega) vb vc)).mono ?_
    rintro e w4 ⟨rfl, hd4⟩
    have HB4 := Aside0.mk (below_step (below_drew (Below.refl W1.heap.size W1)) hd4.below)
    clear hd4
    refine hK_.out _ _ (HSS.out _ HB4.out) (fun hS_ => ?_)
    clear hK_ K_ hS
    have hS := hS_
    clear hS_
    try simp only [Act.put, List.setIfInBounds_toArray, List.set_cons_zero, List.set_cons_succ]
    refine wpAnyH_take (i := 19) (oi := { dst := some 68, op := Op.move (Operand.tmp 87), type := 89, pos := "cpu.go:120", after := #[{ on := 18, ground := Ground.data }], guard := none }) (v := ?_) rfl (by kernel_rfl) (by kernel_rfl) (by kernel_rfl) (fun _ _ _ h => h) (Or.inl ⟨by rfl, ?_⟩) hS ?_
    rotate_left
    · intro W_ hSW_
      obtain ⟨z0_, zg_, z2_, zb_, z3_, zc_⟩ := hSW_
      go_simp
      try with_reducible rfl
    try simp only [Act.put, List.setIfInBounds_toArray, List.set_cons_zero, List.set_cons_succ]
    refine wpAnyH_take (i := 20) (oi := { dst := some 88, op := Op.extract (Operand.tmp 68) 0, type := 22, pos := "cpu.go:120", after := #[{ on := 19, ground := Ground.data }], guard := none }) (v := ?_) rfl (by kernel_rfl) (by kernel_rfl) (by kernel_rfl) (fun _ _ _ h => h) (Or.inl ⟨by rfl, ?_⟩) hS ?_
    rotate_left
    · intro W_ hSW_
      obtain ⟨z0_, zg_, z2_, zb_, z3_, zc_⟩ := hSW_
      go_simp
      try with_reducible rfl
    try simp only [Act.put, List.setIfInBounds_toArray, List.set_cons_zero, List.set_cons_succ]
    refine wpAnyH_take (i := 21) (oi := { dst := some 89, op := Op.extract (Operand.tmp 68) 1, type := 34, pos := "cpu.go:120", after := #[{ on := 19, ground := Ground.data }, { on := 22, ground := Ground.gcOnly Departure.lateStores }], guard := none }) (v := ?_) rfl (by kernel_rfl) (by kernel_rfl) (by kernel_rfl) (fun _ _ _ h => h) (Or.inl ⟨by rfl, ?_⟩) hS ?_
    rotate_left
    · intro W_ hSW_
      obtain ⟨z0_, zg_, z2_, zb_, z3_, zc_⟩ := hSW_
      go_simp
      try with_reducible rfl
    try simp only [Act.put, List.setIfInBounds_toArray, List.set_cons_zero, List.set_cons_succ]
    refine wpAnyH_take (i := 22) (oi := { dst := some 12, op := Op.assign (Operand.tmp 88), type := 22, pos := "cpu.go:120", after := #[{ on := 20, ground := Ground.data }, { on := 18, ground := Ground.chain }, { on := 0, ground := Ground.phase }, { on := 1, ground := Ground.phase }, { on := 2, ground := Ground.phase }, { on := 3, ground := Ground.phase }, { on := 4, ground := Ground.phase }, { on := 5, ground := Ground.phase }, { on := 6, ground := Ground.phase }, { on := 7, ground := Ground.phase }, { on := 8, ground := Ground.phase }, { on := 9, ground := Ground.phase }, { on := 10, ground := Ground.phase }, { on := 11, ground := Ground.phase }, { on := 12, ground := Ground.phase }, { on := 13, ground := Ground.phase }, { on := 14, ground := Ground.phase }, { on := 15, ground := Ground.phase }, { on := 16, ground := Ground.phase }, { on := 17, ground := Ground.phase }, { on := 18, ground := Ground.phase }, { on := 19, ground := Ground.phase }, { on := 20, ground := Ground.phase }, { on := 21, ground := Ground.textOnly Departure.lateStores }], guard := none }) (v := ?_) rfl (by kernel_rfl) (by kernel_rfl) (by kernel_rfl) (fun _ _ _ h => h) (Or.inl ⟨by rfl, ?_⟩) hS ?_
    rotate_left
    · intro W_ hSW_
      obtain ⟨z0_, zg_, z2_, zb_, z3_, zc_⟩ := hSW_
      go_simp
      try with_reducible rfl
    try simp only [Act.put, List.setIfInBounds_toArray, List.set_cons_zero, List.set_cons_succ]
    refine wpAnyH_take (i := 23) (oi := { dst := some 13, op := Op.assign (Operand.tmp 89), type := 34, pos := "cpu.go:120", after := #[{ on := 21, ground := Ground.data }, { on := 22, ground := Ground.chain }, { on := 0, ground := Ground.phase }, { on := 1, ground := Ground.phase }, { on := 2, ground := Ground.phase }, { on := 3, ground := Ground.phase }, { on := 4, ground := Ground.phase }, { on := 5, ground := Ground.phase }, { on := 6, ground := Ground.phase }, { on := 7, ground := Ground.phase }, { on := 8, ground := Ground.phase }, { on := 9, ground := Ground.phase }, { on := 10, ground := Ground.phase }, { on := 11, ground := Ground.phase }, { on := 12, ground := Ground.phase }, { on := 13, ground := Ground.phase }, { on := 14, ground := Ground.phase }, { on := 15, ground := Ground.phase }, { on := 16, ground := Ground.phase }, { on := 17, ground := Ground.phase }, { on := 18, ground := Ground.phase }, { on := 19, ground := Ground.phase }, { on := 20, ground := Ground.phase }, { on := 21, ground := Ground.phase }, { on := 22, ground := Ground.phase }], guard := none }) (v := ?_) rfl (by kernel_rfl) (by kernel_rfl) (by kernel_rfl) (fun _ _ _ h => h) (Or.inl ⟨by rfl, ?_⟩) hS ?_
    rotate_left
    · intro W_ hSW_
      obtain ⟨z0_, zg_, z2_, zb_, z3_, zc_⟩ := hSW_
      go_simp
      try with_reducible rfl
    try simp only [Act.put, List.setIfInBounds_toArray, List.set_cons_zero, List.set_cons_succ]
    refine wpAnyH_done (by kernel_rfl) ?_ _
    clear hS
    go_wp2_with fail
    go_ret2
    exact ⟨by simp [cmpC, HV.out.1, HV.out.2], below_step HBW.out HB4.out⟩
  by_cases e9 : op = 9
  · subst e9
    go_enter Tryd.func33, Tryd.ntmps33
    go_wp2_with fail
    have HSS := Aside0.mk (fun W (hB : Below W1.heap.size W1 W) => show W.cell? ⟨g1, 0, none⟩ = some (.int .i64 9) ∧ W.cell? ⟨0, 9, none⟩ = some (.int .i64 6) ∧ W.cell? ⟨g1, 2, none⟩ = some (.int .i64 (b : Int)) ∧ W.cell? ⟨gc, 1 + b, none⟩ = some (.int .i16 vb) ∧ W.cell? ⟨g1, 3, none⟩ = some (.int .i64 (cc : Int)) ∧ W.cell? ⟨gc, 1 + cc, none⟩ = some (.int .i16 vc) from ⟨Kd.cell_heap hB.block HX5.out.1, Kd.cell_heap hB.block (HGT.out 9 (by decide)), Kd.cell_heap hB.block HX5.out.2.1, Kd.cell_heap hB.block HXB.out, Kd.cell_heap hB.block HX5.out.2.2.1, Kd.cell_heap hB.block HXC.out⟩)
    refine wp_region_held_drew (S := fun W => W.cell? ⟨g1, 0, none⟩ = some (.int .i64 9) ∧ W.cell? ⟨0, 9, none⟩ = some (.int .i64 6) ∧ W.cell? ⟨g1, 2, none⟩ = some (.int .i64 (b : Int)) ∧ W.cell? ⟨gc, 1 + b, none⟩ = some (.int .i16 vb) ∧ W.cell? ⟨g1, 3, none⟩ = some (.int .i64 (cc : Int)) ∧ W.cell? ⟨gc, 1 + cc, none⟩ = some (.int .i16 vc)) (by kernel_rfl) (HSS.out _ (below_drew (Below.refl _ _))) (fun hS => ?_)
    refine wpAnyH_take (i := 0) (oi := { dst := some 69, op := Op.fieldAddr 72 (Operand.tmp 5) 0, type := 0, pos := "cpu.go:120", after := #[], guard := none }) (v := ?_) rfl (by kernel_rfl) (by kernel_rfl) (by kernel_rfl) (fun _ _ _ h => h) (Or.inl ⟨by rfl, ?_⟩) hS ?_
    rotate_left
    · intro W_ hSW_
      obtain ⟨z0_, zg_, z2_, zb_, z3_, zc_⟩ := hSW_
      go_simp
      try with_reducible rfl
    try simp only [Act.put, List.setIfInBounds_toArray, List.set_cons_zero, List.set_cons_succ]
    refine wpAnyH_take (i := 1) (oi := { dst := some 70, op := Op.load 3 (Operand.tmp 69), type := 3, pos := "cpu.go:120", after := #[{ on := 0, ground := Ground.data }], guard := none }) (v := ?_) rfl (by kernel_rfl) (by kernel_rfl) (by kernel_rfl) (fun _ _ _ h => h) (Or.inl ⟨by rfl, ?_⟩) hS ?_
    rotate_left
    · intro W_ hSW_
      obtain ⟨z0_, zg_, z2_, zb_, z3_, zc_⟩ := hSW_
      go_simp
      try with_reducible rfl
    try simp only [Act.put, List.setIfInBounds_toArray, List.set_cons_zero, List.set_cons_succ]
    refine wpAnyH_take (i := 2) (oi := { dst := some 71, op := Op.indexAddr 114 (Operand.global 0) (Operand.tmp 70), type := 0, pos := "cpu.go:120", after := #[{ on := 1, ground := Ground.data }], guard := none }) (v := ?_) rfl (by kernel_rfl) (by kernel_rfl) (by kernel_rfl) (fun _ _ _ h => h) (Or.inl ⟨by rfl, ?_⟩) hS ?_
    rotate_left
    · intro W_ hSW_
      obtain ⟨z0_, zg_, z2_, zb_, z3_, zc_⟩ := hSW_
      go_simp
      try with_reducible rfl
    try simp only [Act.put, List.setIfInBounds_toArray, List.set_cons_zero, List.set_cons_succ]
    refine wpAnyH_take (i := 3) (oi := { dst := some 72, op := Op.load 3 (Operand.tmp 71), type := 3, pos := "cpu.go:120", after := #[{ on := 2, ground := Ground.data }], guard := none }) (v := ?_) rfl (by kernel_rfl) (by kernel_rfl) (by kernel_rfl) (fun _ _ _ h => h) (Or.inl ⟨by rfl, ?_⟩) hS ?_
    rotate_left
    · intro W_ hSW_
      obtain ⟨z0_, zg_, z2_, zb_, z3_, zc_⟩ := hSW_
      go_simp
      try with_reducible rfl
    try simp only [Act.put, List.setIfInBounds_toArray, List.set_cons_zero, List.set_cons_succ]
    refine wpAnyH_take (i := 4) (oi := { dst := some 73, op := Op.move (Operand.tmp 0), type := 73, pos := "cpu.go:120", after := #[], guard := none }) (v := ?_) rfl (by kernel_rfl) (by kernel_rfl) (by kernel_rfl) (fun _ _ _ h => h) (Or.inl ⟨by rfl, ?_⟩) hS ?_
    rotate_left
    · intro W_ hSW_
      obtain ⟨z0_, zg_, z2_, zb_, z3_, zc_⟩ := hSW_
      go_simp
      try with_reducible rfl
    try simp only [Act.put, List.setIfInBounds_toArray, List.set_cons_zero, List.set_cons_succ]
    refine wpAnyH_take (i := 5) (oi := { dst := some 74, op := Op.fieldAddr 72 (Operand.tmp 5) 2, type := 0, pos := "cpu.go:120", after := #[], guard := none }) (v := ?_) rfl (by kernel_rfl) (by kernel_rfl) (by kernel_rfl) (fun _ _ _ h => h) (Or.inl ⟨by rfl, ?_⟩) hS ?_
    rotate_left
    · intro W_ hSW_
      obtain ⟨z0_, zg_, z2_, zb_, z3_, zc_⟩ := hSW_
      go_simp
      try with_reducible rfl
    try simp only [Act.put, List.setIfInBounds_toArray, List.set_cons_zero, List.set_cons_succ]
    refine wpAnyH_take (i := 6) (oi := { dst := some 75, op := Op.load 3 (Operand.tmp 74), type := 3, pos := "cpu.go:120", after := #[{ on := 5, ground := Ground.data }], guard := none }) (v := ?_) rfl (by kernel_rfl) (by kernel_rfl) (by kernel_rfl) (fun _ _ _ h => h) (Or.inl ⟨by rfl, ?_⟩) hS ?_
    rotate_left
    · intro W_ hSW_
      obtain ⟨z0_, zg_, z2_, zb_, z3_, zc_⟩ := hSW_
      go_simp
      try with_reducible rfl
    try simp only [Act.put, List.setIfInBounds_toArray, List.set_cons_zero, List.set_cons_succ]
    refine wpAnyH_take (i := 7) (oi := { dst := some 76, op := Op.nilCheck (Operand.tmp 73), type := 0, pos := "cpu.go:120", after := #[{ on := 4, ground := Ground.data }], guard := none }) (v := ?_) rfl (by kernel_rfl) (by kernel_rfl) (by kernel_rfl) (fun _ _ _ h => h) (Or.inl ⟨by rfl, ?_⟩) hS ?_
    rotate_left
    · intro W_ hSW_
      obtain ⟨z0_, zg_, z2_, zb_, z3_, zc_⟩ := hSW_
      go_simp
      try with_reducible rfl
    try simp only [Act.put, List.setIfInBounds_toArray, List.set_cons_zero, List.set_cons_succ]
    refine wpAnyH_take (i := 8) (oi := { dst := some 77, op := Op.fieldAddr 32 (Operand.tmp 76) 1, type := 0, pos := "cpu.go:120", after := #[{ on := 7, ground := Ground.data }], guard := none }) (v := ?_) rfl (by kernel_rfl) (by kernel_rfl) (by kernel_rfl) (fun _ _ _ h => h) (Or.inl ⟨by rfl, ?_⟩) hS ?_
    rotate_left
    · intro W_ hSW_
      obtain ⟨z0_, zg_, z2_, zb_, z3_, zc_⟩ := hSW_
      go_simp
      try with_reducible rfl
    try simp only [Act.put, List.setIfInBounds_toArray, List.set_cons_zero, List.set_cons_succ]
    refine wpAnyH_take (i := 9) (oi := { dst := some 78, op := Op.indexAddr 23 (Operand.tmp 77) (Operand.tmp 75), type := 0, pos := "cpu.go:120", after := #[{ on := 8, ground := Ground.data }, { on := 6, ground := Ground.data }], guard := none }) (v := ?_) rfl (by kernel_rfl) (by kernel_rfl) (by kernel_rfl) (fun _ _ _ h => h) (Or.inl ⟨by rfl, ?_⟩) hS ?_
    rotate_left
    · intro W_ hSW_
      obtain ⟨z0_, zg_, z2_, zb_, z3_, zc_⟩ := hSW_
      go_simp
      try with_reducible rfl
    try simp only [Act.put, List.setIfInBounds_toArray, List.set_cons_zero, List.set_cons_succ]
    refine wpAnyH_take (i := 10) (oi := { dst := some 79, op := Op.load 22 (Operand.tmp 78), type := 22, pos := "cpu.go:120", after := #[{ on := 9, ground := Ground.data }], guard := none }) (v := ?_) rfl (by kernel_rfl) (by kernel_rfl) (by kernel_rfl) (fun _ _ _ h => h) (Or.inl ⟨by rfl, ?_⟩) hS ?_
    rotate_left
    · intro W_ hSW_
      obtain ⟨z0_, zg_, z2_, zb_, z3_, zc_⟩ := hSW_
      go_simp
      try with_reducible rfl
    try simp only [Act.put, List.setIfInBounds_toArray, List.set_cons_zero, List.set_cons_succ]
    refine wpAnyH_take (i := 11) (oi := { dst := some 80, op := Op.move (Operand.tmp 0), type := 73, pos := "cpu.go:120", after := #[], guard := none }) (v := ?_) rfl (by kernel_rfl) (by kernel_rfl) (by kernel_rfl) (fun _ _ _ h => h) (Or.inl ⟨by rfl, ?_⟩) hS ?_
    rotate_left
    · intro W_ hSW_
      obtain ⟨z0_, zg_, z2_, zb_, z3_, zc_⟩ := hSW_
      go_simp
      try with_reducible rfl
    try simp only [Act.put, List.setIfInBounds_toArray, List.set_cons_zero, List.set_cons_succ]
    refine wpAnyH_take (i := 12) (oi := { dst := some 81, op := Op.fieldAddr 72 (Operand.tmp 5) 3, type := 0, pos := "cpu.go:120", after := #[], guard := none }) (v := ?_) rfl (by kernel_rfl) (by kernel_rfl) (by kernel_rfl) (fun _ _ _ h => h) (Or.inl ⟨by rfl, ?_⟩) hS ?_
    rotate_left
    · intro W_ hSW_
      obtain ⟨z0_, zg_, z2_, zb_, z3_, zc_⟩ := hSW_
      go_simp
      try with_reducible rfl
    try simp only [Act.put, List.setIfInBounds_toArray, List.set_cons_zero, List.set_cons_succ]
    refine wpAnyH_take (i := 13) (oi := { dst := some 82, op := Op.load 3 (Operand.tmp 81), type := 3, pos := "cpu.go:120", after := #[{ on := 12, ground := Ground.data }], guard := none }) (v := ?_) rfl (by kernel_rfl) (by kernel_rfl) (by kernel_rfl) (fun _ _ _ h => h) (Or.inl ⟨by rfl, ?_⟩) hS ?_
    rotate_left
    · intro W_ hSW_
      obtain ⟨z0_, zg_, z2_, zb_, z3_, zc_⟩ := hSW_
      go_simp
      try with_reducible rfl
    try simp only [Act.put, List.setIfInBounds_toArray, List.set_cons_zero, List.set_cons_succ]
    refine wpAnyH_take (i := 14) (oi := { dst := some 83, op := Op.nilCheck (Operand.tmp 80), type := 0, pos := "cpu.go:120", after := #[{ on := 11, ground := Ground.data }], guard := none }) (v := ?_) rfl (by kernel_rfl) (by kernel_rfl) (by kernel_rfl) (fun _ _ _ h => h) (Or.inl ⟨by rfl, ?_⟩) hS ?_
    rotate_left
    · intro W_ hSW_
      obtain ⟨z0_, zg_, z2_, zb_, z3_, zc_⟩ := hSW_
      go_simp
      try with_reducible rfl
    try simp only [Act.put, List.setIfInBounds_toArray, List.set_cons_zero, List.set_cons_succ]
    refine wpAnyH_take (i := 15) (oi := { dst := some 84, op := Op.fieldAddr 32 (Operand.tmp 83) 1, type := 0, pos := "cpu.go:120", after := #[{ on := 14, ground := Ground.data }], guard := none }) (v := ?_) rfl (by kernel_rfl) (by kernel_rfl) (by kernel_rfl) (fun _ _ _ h => h) (Or.inl ⟨by rfl, ?_⟩) hS ?_
    rotate_left
    · intro W_ hSW_
      obtain ⟨z0_, zg_, z2_, zb_, z3_, zc_⟩ := hSW_
      go_simp
      try with_reducible rfl
    try simp only [Act.put, List.setIfInBounds_toArray, List.set_cons_zero, List.set_cons_succ]
    refine wpAnyH_take (i := 16) (oi := { dst := some 85, op := Op.indexAddr 23 (Operand.tmp 84) (Operand.tmp 82), type := 0, pos := "cpu.go:120", after := #[{ on := 15, ground := Ground.data }, { on := 13, ground := Ground.data }], guard := none }) (v := ?_) rfl (by kernel_rfl) (by kernel_rfl) (by kernel_rfl) (fun _ _ _ h => h) (Or.inl ⟨by rfl, ?_⟩) hS ?_
    rotate_left
    · intro W_ hSW_
      obtain ⟨z0_, zg_, z2_, zb_, z3_, zc_⟩ := hSW_
      go_simp
      try with_reducible rfl
    try simp only [Act.put, List.setIfInBounds_toArray, List.set_cons_zero, List.set_cons_succ]
    refine wpAnyH_take (i := 17) (oi := { dst := some 86, op := Op.load 22 (Operand.tmp 85), type := 22, pos := "cpu.go:120", after := #[{ on := 16, ground := Ground.data }], guard := none }) (v := ?_) rfl (by kernel_rfl) (by kernel_rfl) (by kernel_rfl) (fun _ _ _ h => h) (Or.inl ⟨by rfl, ?_⟩) hS ?_
    rotate_left
    · intro W_ hSW_
      obtain ⟨z0_, zg_, z2_, zb_, z3_, zc_⟩ := hSW_
      go_simp
      try with_reducible rfl
    try simp only [Act.put, List.setIfInBounds_toArray, List.set_cons_zero, List.set_cons_succ]
    refine wpAnyH_ready (rs := [18]) (by kernel_rfl) (by simp) ?_
    refine AllReadyH.cons (o := { dst := some 87, op := Op.call { callee := Callee.value (Operand.func 59), args := #[Operand.tmp 72, Operand.tmp 79, Operand.tmp 86], argTypes := #[3, 22, 22] }, type := 89, pos := "cpu.go:120", after := #[{ on := 3, ground := Ground.data }, { on := 10, ground := Ground.data }, { on := 17, ground := Ground.data }], guard := none }) rfl (fun K_ hK_ => ?_) AllReadyH.nil
    go_simp
    refine (word_Binary.calls 6 vb vc _ 0 _ (wbin_f (by unfold Bop; omega) vb vc)).mono ?_
    rintro e w4 ⟨rfl, hd4⟩
    have HB4 := Aside0.mk (below_step (below_drew (Below.refl W1.heap.size W1)) hd4.below)
    clear hd4
    refine hK_.out _ _ (HSS.out _ HB4.out) (fun hS_ => ?_)
    clear hK_ K_ hS
    have hS := hS_
    clear hS_
    try simp only [Act.put, List.setIfInBounds_toArray, List.set_cons_zero, List.set_cons_succ]
    refine wpAnyH_take (i := 19) (oi := { dst := some 68, op := Op.move (Operand.tmp 87), type := 89, pos := "cpu.go:120", after := #[{ on := 18, ground := Ground.data }], guard := none }) (v := ?_) rfl (by kernel_rfl) (by kernel_rfl) (by kernel_rfl) (fun _ _ _ h => h) (Or.inl ⟨by rfl, ?_⟩) hS ?_
    rotate_left
    · intro W_ hSW_
      obtain ⟨z0_, zg_, z2_, zb_, z3_, zc_⟩ := hSW_
      go_simp
      try with_reducible rfl
    try simp only [Act.put, List.setIfInBounds_toArray, List.set_cons_zero, List.set_cons_succ]
    refine wpAnyH_take (i := 20) (oi := { dst := some 88, op := Op.extract (Operand.tmp 68) 0, type := 22, pos := "cpu.go:120", after := #[{ on := 19, ground := Ground.data }], guard := none }) (v := ?_) rfl (by kernel_rfl) (by kernel_rfl) (by kernel_rfl) (fun _ _ _ h => h) (Or.inl ⟨by rfl, ?_⟩) hS ?_
    rotate_left
    · intro W_ hSW_
      obtain ⟨z0_, zg_, z2_, zb_, z3_, zc_⟩ := hSW_
      go_simp
      try with_reducible rfl
    try simp only [Act.put, List.setIfInBounds_toArray, List.set_cons_zero, List.set_cons_succ]
    refine wpAnyH_take (i := 21) (oi := { dst := some 89, op := Op.extract (Operand.tmp 68) 1, type := 34, pos := "cpu.go:120", after := #[{ on := 19, ground := Ground.data }, { on := 22, ground := Ground.gcOnly Departure.lateStores }], guard := none }) (v := ?_) rfl (by kernel_rfl) (by kernel_rfl) (by kernel_rfl) (fun _ _ _ h => h) (Or.inl ⟨by rfl, ?_⟩) hS ?_
    rotate_left
    · intro W_ hSW_
      obtain ⟨z0_, zg_, z2_, zb_, z3_, zc_⟩ := hSW_
      go_simp
      try with_reducible rfl
    try simp only [Act.put, List.setIfInBounds_toArray, List.set_cons_zero, List.set_cons_succ]
    refine wpAnyH_take (i := 22) (oi := { dst := some 12, op := Op.assign (Operand.tmp 88), type := 22, pos := "cpu.go:120", after := #[{ on := 20, ground := Ground.data }, { on := 18, ground := Ground.chain }, { on := 0, ground := Ground.phase }, { on := 1, ground := Ground.phase }, { on := 2, ground := Ground.phase }, { on := 3, ground := Ground.phase }, { on := 4, ground := Ground.phase }, { on := 5, ground := Ground.phase }, { on := 6, ground := Ground.phase }, { on := 7, ground := Ground.phase }, { on := 8, ground := Ground.phase }, { on := 9, ground := Ground.phase }, { on := 10, ground := Ground.phase }, { on := 11, ground := Ground.phase }, { on := 12, ground := Ground.phase }, { on := 13, ground := Ground.phase }, { on := 14, ground := Ground.phase }, { on := 15, ground := Ground.phase }, { on := 16, ground := Ground.phase }, { on := 17, ground := Ground.phase }, { on := 18, ground := Ground.phase }, { on := 19, ground := Ground.phase }, { on := 20, ground := Ground.phase }, { on := 21, ground := Ground.textOnly Departure.lateStores }], guard := none }) (v := ?_) rfl (by kernel_rfl) (by kernel_rfl) (by kernel_rfl) (fun _ _ _ h => h) (Or.inl ⟨by rfl, ?_⟩) hS ?_
    rotate_left
    · intro W_ hSW_
      obtain ⟨z0_, zg_, z2_, zb_, z3_, zc_⟩ := hSW_
      go_simp
      try with_reducible rfl
    try simp only [Act.put, List.setIfInBounds_toArray, List.set_cons_zero, List.set_cons_succ]
    refine wpAnyH_take (i := 23) (oi := { dst := some 13, op := Op.assign (Operand.tmp 89), type := 34, pos := "cpu.go:120", after := #[{ on := 21, ground := Ground.data }, { on := 22, ground := Ground.chain }, { on := 0, ground := Ground.phase }, { on := 1, ground := Ground.phase }, { on := 2, ground := Ground.phase }, { on := 3, ground := Ground.phase }, { on := 4, ground := Ground.phase }, { on := 5, ground := Ground.phase }, { on := 6, ground := Ground.phase }, { on := 7, ground := Ground.phase }, { on := 8, ground := Ground.phase }, { on := 9, ground := Ground.phase }, { on := 10, ground := Ground.phase }, { on := 11, ground := Ground.phase }, { on := 12, ground := Ground.phase }, { on := 13, ground := Ground.phase }, { on := 14, ground := Ground.phase }, { on := 15, ground := Ground.phase }, { on := 16, ground := Ground.phase }, { on := 17, ground := Ground.phase }, { on := 18, ground := Ground.phase }, { on := 19, ground := Ground.phase }, { on := 20, ground := Ground.phase }, { on := 21, ground := Ground.phase }, { on := 22, ground := Ground.phase }], guard := none }) (v := ?_) rfl (by kernel_rfl) (by kernel_rfl) (by kernel_rfl) (fun _ _ _ h => h) (Or.inl ⟨by rfl, ?_⟩) hS ?_
    rotate_left
    · intro W_ hSW_
      obtain ⟨z0_, zg_, z2_, zb_, z3_, zc_⟩ := hSW_
      go_simp
      try with_reducible rfl
    try simp only [Act.put, List.setIfInBounds_toArray, List.set_cons_zero, List.set_cons_succ]
    refine wpAnyH_done (by kernel_rfl) ?_ _
    clear hS
    go_wp2_with fail
    go_ret2
    exact ⟨by simp [cmpC, HV.out.1, HV.out.2], below_step HBW.out HB4.out⟩
  by_cases e10 : op = 10
  · subst e10
    go_enter Tryd.func33, Tryd.ntmps33
    go_wp2_with fail
    have HSS := Aside0.mk (fun W (hB : Below W1.heap.size W1 W) => show W.cell? ⟨g1, 0, none⟩ = some (.int .i64 10) ∧ W.cell? ⟨0, 10, none⟩ = some (.int .i64 7) ∧ W.cell? ⟨g1, 2, none⟩ = some (.int .i64 (b : Int)) ∧ W.cell? ⟨gc, 1 + b, none⟩ = some (.int .i16 vb) ∧ W.cell? ⟨g1, 3, none⟩ = some (.int .i64 (cc : Int)) ∧ W.cell? ⟨gc, 1 + cc, none⟩ = some (.int .i16 vc) from ⟨Kd.cell_heap hB.block HX5.out.1, Kd.cell_heap hB.block (HGT.out 10 (by decide)), Kd.cell_heap hB.block HX5.out.2.1, Kd.cell_heap hB.block HXB.out, Kd.cell_heap hB.block HX5.out.2.2.1, Kd.cell_heap hB.block HXC.out⟩)
    refine wp_region_held_drew (S := fun W => W.cell? ⟨g1, 0, none⟩ = some (.int .i64 10) ∧ W.cell? ⟨0, 10, none⟩ = some (.int .i64 7) ∧ W.cell? ⟨g1, 2, none⟩ = some (.int .i64 (b : Int)) ∧ W.cell? ⟨gc, 1 + b, none⟩ = some (.int .i16 vb) ∧ W.cell? ⟨g1, 3, none⟩ = some (.int .i64 (cc : Int)) ∧ W.cell? ⟨gc, 1 + cc, none⟩ = some (.int .i16 vc)) (by kernel_rfl) (HSS.out _ (below_drew (Below.refl _ _))) (fun hS => ?_)
    refine wpAnyH_take (i := 0) (oi := { dst := some 69, op := Op.fieldAddr 72 (Operand.tmp 5) 0, type := 0, pos := "cpu.go:120", after := #[], guard := none }) (v := ?_) rfl (by kernel_rfl) (by kernel_rfl) (by kernel_rfl) (fun _ _ _ h => h) (Or.inl ⟨by rfl, ?_⟩) hS ?_
    rotate_left
    · intro W_ hSW_
      obtain ⟨z0_, zg_, z2_, zb_, z3_, zc_⟩ := hSW_
      go_simp
      try with_reducible rfl
    try simp only [Act.put, List.setIfInBounds_toArray, List.set_cons_zero, List.set_cons_succ]
    refine wpAnyH_take (i := 1) (oi := { dst := some 70, op := Op.load 3 (Operand.tmp 69), type := 3, pos := "cpu.go:120", after := #[{ on := 0, ground := Ground.data }], guard := none }) (v := ?_) rfl (by kernel_rfl) (by kernel_rfl) (by kernel_rfl) (fun _ _ _ h => h) (Or.inl ⟨by rfl, ?_⟩) hS ?_
    rotate_left
    · intro W_ hSW_
      obtain ⟨z0_, zg_, z2_, zb_, z3_, zc_⟩ := hSW_
      go_simp
      try with_reducible rfl
    try simp only [Act.put, List.setIfInBounds_toArray, List.set_cons_zero, List.set_cons_succ]
    refine wpAnyH_take (i := 2) (oi := { dst := some 71, op := Op.indexAddr 114 (Operand.global 0) (Operand.tmp 70), type := 0, pos := "cpu.go:120", after := #[{ on := 1, ground := Ground.data }], guard := none }) (v := ?_) rfl (by kernel_rfl) (by kernel_rfl) (by kernel_rfl) (fun _ _ _ h => h) (Or.inl ⟨by rfl, ?_⟩) hS ?_
    rotate_left
    · intro W_ hSW_
      obtain ⟨z0_, zg_, z2_, zb_, z3_, zc_⟩ := hSW_
      go_simp
      try with_reducible rfl
    try simp only [Act.put, List.setIfInBounds_toArray, List.set_cons_zero, List.set_cons_succ]
    refine wpAnyH_take (i := 3) (oi := { dst := some 72, op := Op.load 3 (Operand.tmp 71), type := 3, pos := "cpu.go:120", after := #[{ on := 2, ground := Ground.data }], guard := none }) (v := ?_) rfl (by kernel_rfl) (by kernel_rfl) (by kernel_rfl) (fun _ _ _ h => h) (Or.inl ⟨by rfl, ?_⟩) hS ?_
    rotate_left
    · intro W_ hSW_
      obtain ⟨z0_, zg_, z2_, zb_, z3_, zc_⟩ := hSW_
      go_simp
      try with_reducible rfl
    try simp only [Act.put, List.setIfInBounds_toArray, List.set_cons_zero, List.set_cons_succ]
    refine wpAnyH_take (i := 4) (oi := { dst := some 73, op := Op.move (Operand.tmp 0), type := 73, pos := "cpu.go:120", after := #[], guard := none }) (v := ?_) rfl (by kernel_rfl) (by kernel_rfl) (by kernel_rfl) (fun _ _ _ h => h) (Or.inl ⟨by rfl, ?_⟩) hS ?_
    rotate_left
    · intro W_ hSW_
      obtain ⟨z0_, zg_, z2_, zb_, z3_, zc_⟩ := hSW_
      go_simp
      try with_reducible rfl
    try simp only [Act.put, List.setIfInBounds_toArray, List.set_cons_zero, List.set_cons_succ]
    refine wpAnyH_take (i := 5) (oi := { dst := some 74, op := Op.fieldAddr 72 (Operand.tmp 5) 2, type := 0, pos := "cpu.go:120", after := #[], guard := none }) (v := ?_) rfl (by kernel_rfl) (by kernel_rfl) (by kernel_rfl) (fun _ _ _ h => h) (Or.inl ⟨by rfl, ?_⟩) hS ?_
    rotate_left
    · intro W_ hSW_
      obtain ⟨z0_, zg_, z2_, zb_, z3_, zc_⟩ := hSW_
      go_simp
      try with_reducible rfl
    try simp only [Act.put, List.setIfInBounds_toArray, List.set_cons_zero, List.set_cons_succ]
    refine wpAnyH_take (i := 6) (oi := { dst := some 75, op := Op.load 3 (Operand.tmp 74), type := 3, pos := "cpu.go:120", after := #[{ on := 5, ground := Ground.data }], guard := none }) (v := ?_) rfl (by kernel_rfl) (by kernel_rfl) (by kernel_rfl) (fun _ _ _ h => h) (Or.inl ⟨by rfl, ?_⟩) hS ?_
    rotate_left
    · intro W_ hSW_
      obtain ⟨z0_, zg_, z2_, zb_, z3_, zc_⟩ := hSW_
      go_simp
      try with_reducible rfl
    try simp only [Act.put, List.setIfInBounds_toArray, List.set_cons_zero, List.set_cons_succ]
    refine wpAnyH_take (i := 7) (oi := { dst := some 76, op := Op.nilCheck (Operand.tmp 73), type := 0, pos := "cpu.go:120", after := #[{ on := 4, ground := Ground.data }], guard := none }) (v := ?_) rfl (by kernel_rfl) (by kernel_rfl) (by kernel_rfl) (fun _ _ _ h => h) (Or.inl ⟨by rfl, ?_⟩) hS ?_
    rotate_left
    · intro W_ hSW_
      obtain ⟨z0_, zg_, z2_, zb_, z3_, zc_⟩ := hSW_
      go_simp
      try with_reducible rfl
    try simp only [Act.put, List.setIfInBounds_toArray, List.set_cons_zero, List.set_cons_succ]
    refine wpAnyH_take (i := 8) (oi := { dst := some 77, op := Op.fieldAddr 32 (Operand.tmp 76) 1, type := 0, pos := "cpu.go:120", after := #[{ on := 7, ground := Ground.data }], guard := none }) (v := ?_) rfl (by kernel_rfl) (by kernel_rfl) (by kernel_rfl) (fun _ _ _ h => h) (Or.inl ⟨by rfl, ?_⟩) hS ?_
    rotate_left
    · intro W_ hSW_
      obtain ⟨z0_, zg_, z2_, zb_, z3_, zc_⟩ := hSW_
      go_simp
      try with_reducible rfl
    try simp only [Act.put, List.setIfInBounds_toArray, List.set_cons_zero, List.set_cons_succ]
    refine wpAnyH_take (i := 9) (oi := { dst := some 78, op := Op.indexAddr 23 (Operand.tmp 77) (Operand.tmp 75), type := 0, pos := "cpu.go:120", after := #[{ on := 8, ground := Ground.data }, { on := 6, ground := Ground.data }], guard := none }) (v := ?_) rfl (by kernel_rfl) (by kernel_rfl) (by kernel_rfl) (fun _ _ _ h => h) (Or.inl ⟨by rfl, ?_⟩) hS ?_
    rotate_left
    · intro W_ hSW_
      obtain ⟨z0_, zg_, z2_, zb_, z3_, zc_⟩ := hSW_
      go_simp
      try with_reducible rfl
    try simp only [Act.put, List.setIfInBounds_toArray, List.set_cons_zero, List.set_cons_succ]
    refine wpAnyH_take (i := 10) (oi := { dst := some 79, op := Op.load 22 (Operand.tmp 78), type := 22, pos := "cpu.go:120", after := #[{ on := 9, ground := Ground.data }], guard := none }) (v := ?_) rfl (by kernel_rfl) (by kernel_rfl) (by kernel_rfl) (fun _ _ _ h => h) (Or.inl ⟨by rfl, ?_⟩) hS ?_
    rotate_left
    · intro W_ hSW_
      obtain ⟨z0_, zg_, z2_, zb_, z3_, zc_⟩ := hSW_
      go_simp
      try with_reducible rfl
    try simp only [Act.put, List.setIfInBounds_toArray, List.set_cons_zero, List.set_cons_succ]
    refine wpAnyH_take (i := 11) (oi := { dst := some 80, op := Op.move (Operand.tmp 0), type := 73, pos := "cpu.go:120", after := #[], guard := none }) (v := ?_) rfl (by kernel_rfl) (by kernel_rfl) (by kernel_rfl) (fun _ _ _ h => h) (Or.inl ⟨by rfl, ?_⟩) hS ?_
    rotate_left
    · intro W_ hSW_
      obtain ⟨z0_, zg_, z2_, zb_, z3_, zc_⟩ := hSW_
      go_simp
      try with_reducible rfl
    try simp only [Act.put, List.setIfInBounds_toArray, List.set_cons_zero, List.set_cons_succ]
    refine wpAnyH_take (i := 12) (oi := { dst := some 81, op := Op.fieldAddr 72 (Operand.tmp 5) 3, type := 0, pos := "cpu.go:120", after := #[], guard := none }) (v := ?_) rfl (by kernel_rfl) (by kernel_rfl) (by kernel_rfl) (fun _ _ _ h => h) (Or.inl ⟨by rfl, ?_⟩) hS ?_
    rotate_left
    · intro W_ hSW_
      obtain ⟨z0_, zg_, z2_, zb_, z3_, zc_⟩ := hSW_
      go_simp
      try with_reducible rfl
    try simp only [Act.put, List.setIfInBounds_toArray, List.set_cons_zero, List.set_cons_succ]
    refine wpAnyH_take (i := 13) (oi := { dst := some 82, op := Op.load 3 (Operand.tmp 81), type := 3, pos := "cpu.go:120", after := #[{ on := 12, ground := Ground.data }], guard := none }) (v := ?_) rfl (by kernel_rfl) (by kernel_rfl) (by kernel_rfl) (fun _ _ _ h => h) (Or.inl ⟨by rfl, ?_⟩) hS ?_
    rotate_left
    · intro W_ hSW_
      obtain ⟨z0_, zg_, z2_, zb_, z3_, zc_⟩ := hSW_
      go_simp
      try with_reducible rfl
    try simp only [Act.put, List.setIfInBounds_toArray, List.set_cons_zero, List.set_cons_succ]
    refine wpAnyH_take (i := 14) (oi := { dst := some 83, op := Op.nilCheck (Operand.tmp 80), type := 0, pos := "cpu.go:120", after := #[{ on := 11, ground := Ground.data }], guard := none }) (v := ?_) rfl (by kernel_rfl) (by kernel_rfl) (by kernel_rfl) (fun _ _ _ h => h) (Or.inl ⟨by rfl, ?_⟩) hS ?_
    rotate_left
    · intro W_ hSW_
      obtain ⟨z0_, zg_, z2_, zb_, z3_, zc_⟩ := hSW_
      go_simp
      try with_reducible rfl
    try simp only [Act.put, List.setIfInBounds_toArray, List.set_cons_zero, List.set_cons_succ]
    refine wpAnyH_take (i := 15) (oi := { dst := some 84, op := Op.fieldAddr 32 (Operand.tmp 83) 1, type := 0, pos := "cpu.go:120", after := #[{ on := 14, ground := Ground.data }], guard := none }) (v := ?_) rfl (by kernel_rfl) (by kernel_rfl) (by kernel_rfl) (fun _ _ _ h => h) (Or.inl ⟨by rfl, ?_⟩) hS ?_
    rotate_left
    · intro W_ hSW_
      obtain ⟨z0_, zg_, z2_, zb_, z3_, zc_⟩ := hSW_
      go_simp
      try with_reducible rfl
    try simp only [Act.put, List.setIfInBounds_toArray, List.set_cons_zero, List.set_cons_succ]
    refine wpAnyH_take (i := 16) (oi := { dst := some 85, op := Op.indexAddr 23 (Operand.tmp 84) (Operand.tmp 82), type := 0, pos := "cpu.go:120", after := #[{ on := 15, ground := Ground.data }, { on := 13, ground := Ground.data }], guard := none }) (v := ?_) rfl (by kernel_rfl) (by kernel_rfl) (by kernel_rfl) (fun _ _ _ h => h) (Or.inl ⟨by rfl, ?_⟩) hS ?_
    rotate_left
    · intro W_ hSW_
      obtain ⟨z0_, zg_, z2_, zb_, z3_, zc_⟩ := hSW_
      go_simp
      try with_reducible rfl
    try simp only [Act.put, List.setIfInBounds_toArray, List.set_cons_zero, List.set_cons_succ]
    refine wpAnyH_take (i := 17) (oi := { dst := some 86, op := Op.load 22 (Operand.tmp 85), type := 22, pos := "cpu.go:120", after := #[{ on := 16, ground := Ground.data }], guard := none }) (v := ?_) rfl (by kernel_rfl) (by kernel_rfl) (by kernel_rfl) (fun _ _ _ h => h) (Or.inl ⟨by rfl, ?_⟩) hS ?_
    rotate_left
    · intro W_ hSW_
      obtain ⟨z0_, zg_, z2_, zb_, z3_, zc_⟩ := hSW_
      go_simp
      try with_reducible rfl
    try simp only [Act.put, List.setIfInBounds_toArray, List.set_cons_zero, List.set_cons_succ]
    refine wpAnyH_ready (rs := [18]) (by kernel_rfl) (by simp) ?_
    refine AllReadyH.cons (o := { dst := some 87, op := Op.call { callee := Callee.value (Operand.func 59), args := #[Operand.tmp 72, Operand.tmp 79, Operand.tmp 86], argTypes := #[3, 22, 22] }, type := 89, pos := "cpu.go:120", after := #[{ on := 3, ground := Ground.data }, { on := 10, ground := Ground.data }, { on := 17, ground := Ground.data }], guard := none }) rfl (fun K_ hK_ => ?_) AllReadyH.nil
    go_simp
    refine (word_Binary.calls 7 vb vc _ 0 _ (wbin_f (by unfold Bop; omega) vb vc)).mono ?_
    rintro e w4 ⟨rfl, hd4⟩
    have HB4 := Aside0.mk (below_step (below_drew (Below.refl W1.heap.size W1)) hd4.below)
    clear hd4
    refine hK_.out _ _ (HSS.out _ HB4.out) (fun hS_ => ?_)
    clear hK_ K_ hS
    have hS := hS_
    clear hS_
    try simp only [Act.put, List.setIfInBounds_toArray, List.set_cons_zero, List.set_cons_succ]
    refine wpAnyH_take (i := 19) (oi := { dst := some 68, op := Op.move (Operand.tmp 87), type := 89, pos := "cpu.go:120", after := #[{ on := 18, ground := Ground.data }], guard := none }) (v := ?_) rfl (by kernel_rfl) (by kernel_rfl) (by kernel_rfl) (fun _ _ _ h => h) (Or.inl ⟨by rfl, ?_⟩) hS ?_
    rotate_left
    · intro W_ hSW_
      obtain ⟨z0_, zg_, z2_, zb_, z3_, zc_⟩ := hSW_
      go_simp
      try with_reducible rfl
    try simp only [Act.put, List.setIfInBounds_toArray, List.set_cons_zero, List.set_cons_succ]
    refine wpAnyH_take (i := 20) (oi := { dst := some 88, op := Op.extract (Operand.tmp 68) 0, type := 22, pos := "cpu.go:120", after := #[{ on := 19, ground := Ground.data }], guard := none }) (v := ?_) rfl (by kernel_rfl) (by kernel_rfl) (by kernel_rfl) (fun _ _ _ h => h) (Or.inl ⟨by rfl, ?_⟩) hS ?_
    rotate_left
    · intro W_ hSW_
      obtain ⟨z0_, zg_, z2_, zb_, z3_, zc_⟩ := hSW_
      go_simp
      try with_reducible rfl
    try simp only [Act.put, List.setIfInBounds_toArray, List.set_cons_zero, List.set_cons_succ]
    refine wpAnyH_take (i := 21) (oi := { dst := some 89, op := Op.extract (Operand.tmp 68) 1, type := 34, pos := "cpu.go:120", after := #[{ on := 19, ground := Ground.data }, { on := 22, ground := Ground.gcOnly Departure.lateStores }], guard := none }) (v := ?_) rfl (by kernel_rfl) (by kernel_rfl) (by kernel_rfl) (fun _ _ _ h => h) (Or.inl ⟨by rfl, ?_⟩) hS ?_
    rotate_left
    · intro W_ hSW_
      obtain ⟨z0_, zg_, z2_, zb_, z3_, zc_⟩ := hSW_
      go_simp
      try with_reducible rfl
    try simp only [Act.put, List.setIfInBounds_toArray, List.set_cons_zero, List.set_cons_succ]
    refine wpAnyH_take (i := 22) (oi := { dst := some 12, op := Op.assign (Operand.tmp 88), type := 22, pos := "cpu.go:120", after := #[{ on := 20, ground := Ground.data }, { on := 18, ground := Ground.chain }, { on := 0, ground := Ground.phase }, { on := 1, ground := Ground.phase }, { on := 2, ground := Ground.phase }, { on := 3, ground := Ground.phase }, { on := 4, ground := Ground.phase }, { on := 5, ground := Ground.phase }, { on := 6, ground := Ground.phase }, { on := 7, ground := Ground.phase }, { on := 8, ground := Ground.phase }, { on := 9, ground := Ground.phase }, { on := 10, ground := Ground.phase }, { on := 11, ground := Ground.phase }, { on := 12, ground := Ground.phase }, { on := 13, ground := Ground.phase }, { on := 14, ground := Ground.phase }, { on := 15, ground := Ground.phase }, { on := 16, ground := Ground.phase }, { on := 17, ground := Ground.phase }, { on := 18, ground := Ground.phase }, { on := 19, ground := Ground.phase }, { on := 20, ground := Ground.phase }, { on := 21, ground := Ground.textOnly Departure.lateStores }], guard := none }) (v := ?_) rfl (by kernel_rfl) (by kernel_rfl) (by kernel_rfl) (fun _ _ _ h => h) (Or.inl ⟨by rfl, ?_⟩) hS ?_
    rotate_left
    · intro W_ hSW_
      obtain ⟨z0_, zg_, z2_, zb_, z3_, zc_⟩ := hSW_
      go_simp
      try with_reducible rfl
    try simp only [Act.put, List.setIfInBounds_toArray, List.set_cons_zero, List.set_cons_succ]
    refine wpAnyH_take (i := 23) (oi := { dst := some 13, op := Op.assign (Operand.tmp 89), type := 34, pos := "cpu.go:120", after := #[{ on := 21, ground := Ground.data }, { on := 22, ground := Ground.chain }, { on := 0, ground := Ground.phase }, { on := 1, ground := Ground.phase }, { on := 2, ground := Ground.phase }, { on := 3, ground := Ground.phase }, { on := 4, ground := Ground.phase }, { on := 5, ground := Ground.phase }, { on := 6, ground := Ground.phase }, { on := 7, ground := Ground.phase }, { on := 8, ground := Ground.phase }, { on := 9, ground := Ground.phase }, { on := 10, ground := Ground.phase }, { on := 11, ground := Ground.phase }, { on := 12, ground := Ground.phase }, { on := 13, ground := Ground.phase }, { on := 14, ground := Ground.phase }, { on := 15, ground := Ground.phase }, { on := 16, ground := Ground.phase }, { on := 17, ground := Ground.phase }, { on := 18, ground := Ground.phase }, { on := 19, ground := Ground.phase }, { on := 20, ground := Ground.phase }, { on := 21, ground := Ground.phase }, { on := 22, ground := Ground.phase }], guard := none }) (v := ?_) rfl (by kernel_rfl) (by kernel_rfl) (by kernel_rfl) (fun _ _ _ h => h) (Or.inl ⟨by rfl, ?_⟩) hS ?_
    rotate_left
    · intro W_ hSW_
      obtain ⟨z0_, zg_, z2_, zb_, z3_, zc_⟩ := hSW_
      go_simp
      try with_reducible rfl
    try simp only [Act.put, List.setIfInBounds_toArray, List.set_cons_zero, List.set_cons_succ]
    refine wpAnyH_done (by kernel_rfl) ?_ _
    clear hS
    go_wp2_with fail
    go_ret2
    exact ⟨by simp [cmpC, HV.out.1, HV.out.2], below_step HBW.out HB4.out⟩
  by_cases e11 : op = 11
  · subst e11
    go_enter Tryd.func33, Tryd.ntmps33
    go_wp2_with fail
    have HSS := Aside0.mk (fun W (hB : Below W1.heap.size W1 W) => show W.cell? ⟨g1, 0, none⟩ = some (.int .i64 11) ∧ W.cell? ⟨0, 11, none⟩ = some (.int .i64 8) ∧ W.cell? ⟨g1, 2, none⟩ = some (.int .i64 (b : Int)) ∧ W.cell? ⟨gc, 1 + b, none⟩ = some (.int .i16 vb) ∧ W.cell? ⟨g1, 3, none⟩ = some (.int .i64 (cc : Int)) ∧ W.cell? ⟨gc, 1 + cc, none⟩ = some (.int .i16 vc) from ⟨Kd.cell_heap hB.block HX5.out.1, Kd.cell_heap hB.block (HGT.out 11 (by decide)), Kd.cell_heap hB.block HX5.out.2.1, Kd.cell_heap hB.block HXB.out, Kd.cell_heap hB.block HX5.out.2.2.1, Kd.cell_heap hB.block HXC.out⟩)
    refine wp_region_held_drew (S := fun W => W.cell? ⟨g1, 0, none⟩ = some (.int .i64 11) ∧ W.cell? ⟨0, 11, none⟩ = some (.int .i64 8) ∧ W.cell? ⟨g1, 2, none⟩ = some (.int .i64 (b : Int)) ∧ W.cell? ⟨gc, 1 + b, none⟩ = some (.int .i16 vb) ∧ W.cell? ⟨g1, 3, none⟩ = some (.int .i64 (cc : Int)) ∧ W.cell? ⟨gc, 1 + cc, none⟩ = some (.int .i16 vc)) (by kernel_rfl) (HSS.out _ (below_drew (Below.refl _ _))) (fun hS => ?_)
    refine wpAnyH_take (i := 0) (oi := { dst := some 69, op := Op.fieldAddr 72 (Operand.tmp 5) 0, type := 0, pos := "cpu.go:120", after := #[], guard := none }) (v := ?_) rfl (by kernel_rfl) (by kernel_rfl) (by kernel_rfl) (fun _ _ _ h => h) (Or.inl ⟨by rfl, ?_⟩) hS ?_
    rotate_left
    · intro W_ hSW_
      obtain ⟨z0_, zg_, z2_, zb_, z3_, zc_⟩ := hSW_
      go_simp
      try with_reducible rfl
    try simp only [Act.put, List.setIfInBounds_toArray, List.set_cons_zero, List.set_cons_succ]
    refine wpAnyH_take (i := 1) (oi := { dst := some 70, op := Op.load 3 (Operand.tmp 69), type := 3, pos := "cpu.go:120", after := #[{ on := 0, ground := Ground.data }], guard := none }) (v := ?_) rfl (by kernel_rfl) (by kernel_rfl) (by kernel_rfl) (fun _ _ _ h => h) (Or.inl ⟨by rfl, ?_⟩) hS ?_
    rotate_left
    · intro W_ hSW_
      obtain ⟨z0_, zg_, z2_, zb_, z3_, zc_⟩ := hSW_
      go_simp
      try with_reducible rfl
    try simp only [Act.put, List.setIfInBounds_toArray, List.set_cons_zero, List.set_cons_succ]
    refine wpAnyH_take (i := 2) (oi := { dst := some 71, op := Op.indexAddr 114 (Operand.global 0) (Operand.tmp 70), type := 0, pos := "cpu.go:120", after := #[{ on := 1, ground := Ground.data }], guard := none }) (v := ?_) rfl (by kernel_rfl) (by kernel_rfl) (by kernel_rfl) (fun _ _ _ h => h) (Or.inl ⟨by rfl, ?_⟩) hS ?_
    rotate_left
    · intro W_ hSW_
      obtain ⟨z0_, zg_, z2_, zb_, z3_, zc_⟩ := hSW_
      go_simp
      try with_reducible rfl
    try simp only [Act.put, List.setIfInBounds_toArray, List.set_cons_zero, List.set_cons_succ]
    refine wpAnyH_take (i := 3) (oi := { dst := some 72, op := Op.load 3 (Operand.tmp 71), type := 3, pos := "cpu.go:120", after := #[{ on := 2, ground := Ground.data }], guard := none }) (v := ?_) rfl (by kernel_rfl) (by kernel_rfl) (by kernel_rfl) (fun _ _ _ h => h) (Or.inl ⟨by rfl, ?_⟩) hS ?_
    rotate_left
    · intro W_ hSW_
      obtain ⟨z0_, zg_, z2_, zb_, z3_, zc_⟩ := hSW_
      go_simp
      try with_reducible rfl
    try simp only [Act.put, List.setIfInBounds_toArray, List.set_cons_zero, List.set_cons_succ]
    refine wpAnyH_take (i := 4) (oi := { dst := some 73, op := Op.move (Operand.tmp 0), type := 73, pos := "cpu.go:120", after := #[], guard := none }) (v := ?_) rfl (by kernel_rfl) (by kernel_rfl) (by kernel_rfl) (fun _ _ _ h => h) (Or.inl ⟨by rfl, ?_⟩) hS ?_
    rotate_left
    · intro W_ hSW_
      obtain ⟨z0_, zg_, z2_, zb_, z3_, zc_⟩ := hSW_
      go_simp
      try with_reducible rfl
    try simp only [Act.put, List.setIfInBounds_toArray, List.set_cons_zero, List.set_cons_succ]
    refine wpAnyH_take (i := 5) (oi := { dst := some 74, op := Op.fieldAddr 72 (Operand.tmp 5) 2, type := 0, pos := "cpu.go:120", after := #[], guard := none }) (v := ?_) rfl (by kernel_rfl) (by kernel_rfl) (by kernel_rfl) (fun _ _ _ h => h) (Or.inl ⟨by rfl, ?_⟩) hS ?_
    rotate_left
    · intro W_ hSW_
      obtain ⟨z0_, zg_, z2_, zb_, z3_, zc_⟩ := hSW_
      go_simp
      try with_reducible rfl
    try simp only [Act.put, List.setIfInBounds_toArray, List.set_cons_zero, List.set_cons_succ]
    refine wpAnyH_take (i := 6) (oi := { dst := some 75, op := Op.load 3 (Operand.tmp 74), type := 3, pos := "cpu.go:120", after := #[{ on := 5, ground := Ground.data }], guard := none }) (v := ?_) rfl (by kernel_rfl) (by kernel_rfl) (by kernel_rfl) (fun _ _ _ h => h) (Or.inl ⟨by rfl, ?_⟩) hS ?_
    rotate_left
    · intro W_ hSW_
      obtain ⟨z0_, zg_, z2_, zb_, z3_, zc_⟩ := hSW_
      go_simp
      try with_reducible rfl
    try simp only [Act.put, List.setIfInBounds_toArray, List.set_cons_zero, List.set_cons_succ]
    refine wpAnyH_take (i := 7) (oi := { dst := some 76, op := Op.nilCheck (Operand.tmp 73), type := 0, pos := "cpu.go:120", after := #[{ on := 4, ground := Ground.data }], guard := none }) (v := ?_) rfl (by kernel_rfl) (by kernel_rfl) (by kernel_rfl) (fun _ _ _ h => h) (Or.inl ⟨by rfl, ?_⟩) hS ?_
    rotate_left
    · intro W_ hSW_
      obtain ⟨z0_, zg_, z2_, zb_, z3_, zc_⟩ := hSW_
      go_simp
      try with_reducible rfl
    try simp only [Act.put, List.setIfInBounds_toArray, List.set_cons_zero, List.set_cons_succ]
    refine wpAnyH_take (i := 8) (oi := { dst := some 77, op := Op.fieldAddr 32 (Operand.tmp 76) 1, type := 0, pos := "cpu.go:120", after := #[{ on := 7, ground := Ground.data }], guard := none }) (v := ?_) rfl (by kernel_rfl) (by kernel_rfl) (by kernel_rfl) (fun _ _ _ h => h) (Or.inl ⟨by rfl, ?_⟩) hS ?_
    rotate_left
    · intro W_ hSW_
      obtain ⟨z0_, zg_, z2_, zb_, z3_, zc_⟩ := hSW_
      go_simp
      try with_reducible rfl
    try simp only [Act.put, List.setIfInBounds_toArray, List.set_cons_zero, List.set_cons_succ]
    refine wpAnyH_take (i := 9) (oi := { dst := some 78, op := Op.indexAddr 23 (Operand.tmp 77) (Operand.tmp 75), type := 0, pos := "cpu.go:120", after := #[{ on := 8, ground := Ground.data }, { on := 6, ground := Ground.data }], guard := none }) (v := ?_) rfl (by kernel_rfl) (by kernel_rfl) (by kernel_rfl) (fun _ _ _ h => h) (Or.inl ⟨by rfl, ?_⟩) hS ?_
    rotate_left
    · intro W_ hSW_
      obtain ⟨z0_, zg_, z2_, zb_, z3_, zc_⟩ := hSW_
      go_simp
      try with_reducible rfl
    try simp only [Act.put, List.setIfInBounds_toArray, List.set_cons_zero, List.set_cons_succ]
    refine wpAnyH_take (i := 10) (oi := { dst := some 79, op := Op.load 22 (Operand.tmp 78), type := 22, pos := "cpu.go:120", after := #[{ on := 9, ground := Ground.data }], guard := none }) (v := ?_) rfl (by kernel_rfl) (by kernel_rfl) (by kernel_rfl) (fun _ _ _ h => h) (Or.inl ⟨by rfl, ?_⟩) hS ?_
    rotate_left
    · intro W_ hSW_
      obtain ⟨z0_, zg_, z2_, zb_, z3_, zc_⟩ := hSW_
      go_simp
      try with_reducible rfl
    try simp only [Act.put, List.setIfInBounds_toArray, List.set_cons_zero, List.set_cons_succ]
    refine wpAnyH_take (i := 11) (oi := { dst := some 80, op := Op.move (Operand.tmp 0), type := 73, pos := "cpu.go:120", after := #[], guard := none }) (v := ?_) rfl (by kernel_rfl) (by kernel_rfl) (by kernel_rfl) (fun _ _ _ h => h) (Or.inl ⟨by rfl, ?_⟩) hS ?_
    rotate_left
    · intro W_ hSW_
      obtain ⟨z0_, zg_, z2_, zb_, z3_, zc_⟩ := hSW_
      go_simp
      try with_reducible rfl
    try simp only [Act.put, List.setIfInBounds_toArray, List.set_cons_zero, List.set_cons_succ]
    refine wpAnyH_take (i := 12) (oi := { dst := some 81, op := Op.fieldAddr 72 (Operand.tmp 5) 3, type := 0, pos := "cpu.go:120", after := #[], guard := none }) (v := ?_) rfl (by kernel_rfl) (by kernel_rfl) (by kernel_rfl) (fun _ _ _ h => h) (Or.inl ⟨by rfl, ?_⟩) hS ?_
    rotate_left
    · intro W_ hSW_
      obtain ⟨z0_, zg_, z2_, zb_, z3_, zc_⟩ := hSW_
      go_simp
      try with_reducible rfl
    try simp only [Act.put, List.setIfInBounds_toArray, List.set_cons_zero, List.set_cons_succ]
    refine wpAnyH_take (i := 13) (oi := { dst := some 82, op := Op.load 3 (Operand.tmp 81), type := 3, pos := "cpu.go:120", after := #[{ on := 12, ground := Ground.data }], guard := none }) (v := ?_) rfl (by kernel_rfl) (by kernel_rfl) (by kernel_rfl) (fun _ _ _ h => h) (Or.inl ⟨by rfl, ?_⟩) hS ?_
    rotate_left
    · intro W_ hSW_
      obtain ⟨z0_, zg_, z2_, zb_, z3_, zc_⟩ := hSW_
      go_simp
      try with_reducible rfl
    try simp only [Act.put, List.setIfInBounds_toArray, List.set_cons_zero, List.set_cons_succ]
    refine wpAnyH_take (i := 14) (oi := { dst := some 83, op := Op.nilCheck (Operand.tmp 80), type := 0, pos := "cpu.go:120", after := #[{ on := 11, ground := Ground.data }], guard := none }) (v := ?_) rfl (by kernel_rfl) (by kernel_rfl) (by kernel_rfl) (fun _ _ _ h => h) (Or.inl ⟨by rfl, ?_⟩) hS ?_
    rotate_left
    · intro W_ hSW_
      obtain ⟨z0_, zg_, z2_, zb_, z3_, zc_⟩ := hSW_
      go_simp
      try with_reducible rfl
    try simp only [Act.put, List.setIfInBounds_toArray, List.set_cons_zero, List.set_cons_succ]
    refine wpAnyH_take (i := 15) (oi := { dst := some 84, op := Op.fieldAddr 32 (Operand.tmp 83) 1, type := 0, pos := "cpu.go:120", after := #[{ on := 14, ground := Ground.data }], guard := none }) (v := ?_) rfl (by kernel_rfl) (by kernel_rfl) (by kernel_rfl) (fun _ _ _ h => h) (Or.inl ⟨by rfl, ?_⟩) hS ?_
    rotate_left
    · intro W_ hSW_
      obtain ⟨z0_, zg_, z2_, zb_, z3_, zc_⟩ := hSW_
      go_simp
      try with_reducible rfl
    try simp only [Act.put, List.setIfInBounds_toArray, List.set_cons_zero, List.set_cons_succ]
    refine wpAnyH_take (i := 16) (oi := { dst := some 85, op := Op.indexAddr 23 (Operand.tmp 84) (Operand.tmp 82), type := 0, pos := "cpu.go:120", after := #[{ on := 15, ground := Ground.data }, { on := 13, ground := Ground.data }], guard := none }) (v := ?_) rfl (by kernel_rfl) (by kernel_rfl) (by kernel_rfl) (fun _ _ _ h => h) (Or.inl ⟨by rfl, ?_⟩) hS ?_
    rotate_left
    · intro W_ hSW_
      obtain ⟨z0_, zg_, z2_, zb_, z3_, zc_⟩ := hSW_
      go_simp
      try with_reducible rfl
    try simp only [Act.put, List.setIfInBounds_toArray, List.set_cons_zero, List.set_cons_succ]
    refine wpAnyH_take (i := 17) (oi := { dst := some 86, op := Op.load 22 (Operand.tmp 85), type := 22, pos := "cpu.go:120", after := #[{ on := 16, ground := Ground.data }], guard := none }) (v := ?_) rfl (by kernel_rfl) (by kernel_rfl) (by kernel_rfl) (fun _ _ _ h => h) (Or.inl ⟨by rfl, ?_⟩) hS ?_
    rotate_left
    · intro W_ hSW_
      obtain ⟨z0_, zg_, z2_, zb_, z3_, zc_⟩ := hSW_
      go_simp
      try with_reducible rfl
    try simp only [Act.put, List.setIfInBounds_toArray, List.set_cons_zero, List.set_cons_succ]
    refine wpAnyH_ready (rs := [18]) (by kernel_rfl) (by simp) ?_
    refine AllReadyH.cons (o := { dst := some 87, op := Op.call { callee := Callee.value (Operand.func 59), args := #[Operand.tmp 72, Operand.tmp 79, Operand.tmp 86], argTypes := #[3, 22, 22] }, type := 89, pos := "cpu.go:120", after := #[{ on := 3, ground := Ground.data }, { on := 10, ground := Ground.data }, { on := 17, ground := Ground.data }], guard := none }) rfl (fun K_ hK_ => ?_) AllReadyH.nil
    go_simp
    refine (word_Binary.calls 8 vb vc _ 0 _ (wbin_f (by unfold Bop; omega) vb vc)).mono ?_
    rintro e w4 ⟨rfl, hd4⟩
    have HB4 := Aside0.mk (below_step (below_drew (Below.refl W1.heap.size W1)) hd4.below)
    clear hd4
    refine hK_.out _ _ (HSS.out _ HB4.out) (fun hS_ => ?_)
    clear hK_ K_ hS
    have hS := hS_
    clear hS_
    try simp only [Act.put, List.setIfInBounds_toArray, List.set_cons_zero, List.set_cons_succ]
    refine wpAnyH_take (i := 19) (oi := { dst := some 68, op := Op.move (Operand.tmp 87), type := 89, pos := "cpu.go:120", after := #[{ on := 18, ground := Ground.data }], guard := none }) (v := ?_) rfl (by kernel_rfl) (by kernel_rfl) (by kernel_rfl) (fun _ _ _ h => h) (Or.inl ⟨by rfl, ?_⟩) hS ?_
    rotate_left
    · intro W_ hSW_
      obtain ⟨z0_, zg_, z2_, zb_, z3_, zc_⟩ := hSW_
      go_simp
      try with_reducible rfl
    try simp only [Act.put, List.setIfInBounds_toArray, List.set_cons_zero, List.set_cons_succ]
    refine wpAnyH_take (i := 20) (oi := { dst := some 88, op := Op.extract (Operand.tmp 68) 0, type := 22, pos := "cpu.go:120", after := #[{ on := 19, ground := Ground.data }], guard := none }) (v := ?_) rfl (by kernel_rfl) (by kernel_rfl) (by kernel_rfl) (fun _ _ _ h => h) (Or.inl ⟨by rfl, ?_⟩) hS ?_
    rotate_left
    · intro W_ hSW_
      obtain ⟨z0_, zg_, z2_, zb_, z3_, zc_⟩ := hSW_
      go_simp
      try with_reducible rfl
    try simp only [Act.put, List.setIfInBounds_toArray, List.set_cons_zero, List.set_cons_succ]
    refine wpAnyH_take (i := 21) (oi := { dst := some 89, op := Op.extract (Operand.tmp 68) 1, type := 34, pos := "cpu.go:120", after := #[{ on := 19, ground := Ground.data }, { on := 22, ground := Ground.gcOnly Departure.lateStores }], guard := none }) (v := ?_) rfl (by kernel_rfl) (by kernel_rfl) (by kernel_rfl) (fun _ _ _ h => h) (Or.inl ⟨by rfl, ?_⟩) hS ?_
    rotate_left
    · intro W_ hSW_
      obtain ⟨z0_, zg_, z2_, zb_, z3_, zc_⟩ := hSW_
      go_simp
      try with_reducible rfl
    try simp only [Act.put, List.setIfInBounds_toArray, List.set_cons_zero, List.set_cons_succ]
    refine wpAnyH_take (i := 22) (oi := { dst := some 12, op := Op.assign (Operand.tmp 88), type := 22, pos := "cpu.go:120", after := #[{ on := 20, ground := Ground.data }, { on := 18, ground := Ground.chain }, { on := 0, ground := Ground.phase }, { on := 1, ground := Ground.phase }, { on := 2, ground := Ground.phase }, { on := 3, ground := Ground.phase }, { on := 4, ground := Ground.phase }, { on := 5, ground := Ground.phase }, { on := 6, ground := Ground.phase }, { on := 7, ground := Ground.phase }, { on := 8, ground := Ground.phase }, { on := 9, ground := Ground.phase }, { on := 10, ground := Ground.phase }, { on := 11, ground := Ground.phase }, { on := 12, ground := Ground.phase }, { on := 13, ground := Ground.phase }, { on := 14, ground := Ground.phase }, { on := 15, ground := Ground.phase }, { on := 16, ground := Ground.phase }, { on := 17, ground := Ground.phase }, { on := 18, ground := Ground.phase }, { on := 19, ground := Ground.phase }, { on := 20, ground := Ground.phase }, { on := 21, ground := Ground.textOnly Departure.lateStores }], guard := none }) (v := ?_) rfl (by kernel_rfl) (by kernel_rfl) (by kernel_rfl) (fun _ _ _ h => h) (Or.inl ⟨by rfl, ?_⟩) hS ?_
    rotate_left
    · intro W_ hSW_
      obtain ⟨z0_, zg_, z2_, zb_, z3_, zc_⟩ := hSW_
      go_simp
      try with_reducible rfl
    try simp only [Act.put, List.setIfInBounds_toArray, List.set_cons_zero, List.set_cons_succ]
    refine wpAnyH_take (i := 23) (oi := { dst := some 13, op := Op.assign (Operand.tmp 89), type := 34, pos := "cpu.go:120", after := #[{ on := 21, ground := Ground.data }, { on := 22, ground := Ground.chain }, { on := 0, ground := Ground.phase }, { on := 1, ground := Ground.phase }, { on := 2, ground := Ground.phase }, { on := 3, ground := Ground.phase }, { on := 4, ground := Ground.phase }, { on := 5, ground := Ground.phase }, { on := 6, ground := Ground.phase }, { on := 7, ground := Ground.phase }, { on := 8, ground := Ground.phase }, { on := 9, ground := Ground.phase }, { on := 10, ground := Ground.phase }, { on := 11, ground := Ground.phase }, { on := 12, ground := Ground.phase }, { on := 13, ground := Ground.phase }, { on := 14, ground := Ground.phase }, { on := 15, ground := Ground.phase }, { on := 16, ground := Ground.phase }, { on := 17, ground := Ground.phase }, { on := 18, ground := Ground.phase }, { on := 19, ground := Ground.phase }, { on := 20, ground := Ground.phase }, { on := 21, ground := Ground.phase }, { on := 22, ground := Ground.phase }], guard := none }) (v := ?_) rfl (by kernel_rfl) (by kernel_rfl) (by kernel_rfl) (fun _ _ _ h => h) (Or.inl ⟨by rfl, ?_⟩) hS ?_
    rotate_left
    · intro W_ hSW_
      obtain ⟨z0_, zg_, z2_, zb_, z3_, zc_⟩ := hSW_
      go_simp
      try with_reducible rfl
    try simp only [Act.put, List.setIfInBounds_toArray, List.set_cons_zero, List.set_cons_succ]
    refine wpAnyH_done (by kernel_rfl) ?_ _
    clear hS
    go_wp2_with fail
    go_ret2
    exact ⟨by simp [cmpC, HV.out.1, HV.out.2], below_step HBW.out HB4.out⟩
  by_cases e12 : op = 12
  · subst e12
    go_enter Tryd.func33, Tryd.ntmps33
    go_wp2_with fail
    have HSS := Aside0.mk (fun W (hB : Below W1.heap.size W1 W) => show W.cell? ⟨g1, 0, none⟩ = some (.int .i64 12) ∧ W.cell? ⟨0, 12, none⟩ = some (.int .i64 10) ∧ W.cell? ⟨g1, 2, none⟩ = some (.int .i64 (b : Int)) ∧ W.cell? ⟨gc, 1 + b, none⟩ = some (.int .i16 vb) ∧ W.cell? ⟨g1, 3, none⟩ = some (.int .i64 (cc : Int)) ∧ W.cell? ⟨gc, 1 + cc, none⟩ = some (.int .i16 vc) from ⟨Kd.cell_heap hB.block HX5.out.1, Kd.cell_heap hB.block (HGT.out 12 (by decide)), Kd.cell_heap hB.block HX5.out.2.1, Kd.cell_heap hB.block HXB.out, Kd.cell_heap hB.block HX5.out.2.2.1, Kd.cell_heap hB.block HXC.out⟩)
    refine wp_region_held_drew (S := fun W => W.cell? ⟨g1, 0, none⟩ = some (.int .i64 12) ∧ W.cell? ⟨0, 12, none⟩ = some (.int .i64 10) ∧ W.cell? ⟨g1, 2, none⟩ = some (.int .i64 (b : Int)) ∧ W.cell? ⟨gc, 1 + b, none⟩ = some (.int .i16 vb) ∧ W.cell? ⟨g1, 3, none⟩ = some (.int .i64 (cc : Int)) ∧ W.cell? ⟨gc, 1 + cc, none⟩ = some (.int .i16 vc)) (by kernel_rfl) (HSS.out _ (below_drew (Below.refl _ _))) (fun hS => ?_)
    refine wpAnyH_take (i := 0) (oi := { dst := some 69, op := Op.fieldAddr 72 (Operand.tmp 5) 0, type := 0, pos := "cpu.go:120", after := #[], guard := none }) (v := ?_) rfl (by kernel_rfl) (by kernel_rfl) (by kernel_rfl) (fun _ _ _ h => h) (Or.inl ⟨by rfl, ?_⟩) hS ?_
    rotate_left
    · intro W_ hSW_
      obtain ⟨z0_, zg_, z2_, zb_, z3_, zc_⟩ := hSW_
      go_simp
      try with_reducible rfl
    try simp only [Act.put, List.setIfInBounds_toArray, List.set_cons_zero, List.set_cons_succ]
    refine wpAnyH_take (i := 1) (oi := { dst := some 70, op := Op.load 3 (Operand.tmp 69), type := 3, pos := "cpu.go:120", after := #[{ on := 0, ground := Ground.data }], guard := none }) (v := ?_) rfl (by kernel_rfl) (by kernel_rfl) (by kernel_rfl) (fun _ _ _ h => h) (Or.inl ⟨by rfl, ?_⟩) hS ?_
    rotate_left
    · intro W_ hSW_
      obtain ⟨z0_, zg_, z2_, zb_, z3_, zc_⟩ := hSW_
      go_simp
      try with_reducible rfl
    try simp only [Act.put, List.setIfInBounds_toArray, List.set_cons_zero, List.set_cons_succ]
    refine wpAnyH_take (i := 2) (oi := { dst := some 71, op := Op.indexAddr 114 (Operand.global 0) (Operand.tmp 70), type := 0, pos := "cpu.go:120", after := #[{ on := 1, ground := Ground.data }], guard := none }) (v := ?_) rfl (by kernel_rfl) (by kernel_rfl) (by kernel_rfl) (fun _ _ _ h => h) (Or.inl ⟨by rfl, ?_⟩) hS ?_
    rotate_left
    · intro W_ hSW_
      obtain ⟨z0_, zg_, z2_, zb_, z3_, zc_⟩ := hSW_
      go_simp
      try with_reducible rfl
    try simp only [Act.put, List.setIfInBounds_toArray, List.set_cons_zero, List.set_cons_succ]
    refine wpAnyH_take (i := 3) (oi := { dst := some 72, op := Op.load 3 (Operand.tmp 71), type := 3, pos := "cpu.go:120", after := #[{ on := 2, ground := Ground.data }], guard := none }) (v := ?_) rfl (by kernel_rfl) (by kernel_rfl) (by kernel_rfl) (fun _ _ _ h => h) (Or.inl ⟨by rfl, ?_⟩) hS ?_
    rotate_left
    · intro W_ hSW_
      obtain ⟨z0_, zg_, z2_, zb_, z3_, zc_⟩ := hSW_
      go_simp
      try with_reducible rfl
    try simp only [Act.put, List.setIfInBounds_toArray, List.set_cons_zero, List.set_cons_succ]
    refine wpAnyH_take (i := 4) (oi := { dst := some 73, op := Op.move (Operand.tmp 0), type := 73, pos := "cpu.go:120", after := #[], guard := none }) (v := ?_) rfl (by kernel_rfl) (by kernel_rfl) (by kernel_rfl) (fun _ _ _ h => h) (Or.inl ⟨by rfl, ?_⟩) hS ?_
    rotate_left
    · intro W_ hSW_
      obtain ⟨z0_, zg_, z2_, zb_, z3_, zc_⟩ := hSW_
      go_simp
      try with_reducible rfl
    try simp only [Act.put, List.setIfInBounds_toArray, List.set_cons_zero, List.set_cons_succ]
    refine wpAnyH_take (i := 5) (oi := { dst := some 74, op := Op.fieldAddr 72 (Operand.tmp 5) 2, type := 0, pos := "cpu.go:120", after := #[], guard := none }) (v := ?_) rfl (by kernel_rfl) (by kernel_rfl) (by kernel_rfl) (fun _ _ _ h => h) (Or.inl ⟨by rfl, ?_⟩) hS ?_
    rotate_left
    · intro W_ hSW_
      obtain ⟨z0_, zg_, z2_, zb_, z3_, zc_⟩ := hSW_
      go_simp
      try with_reducible rfl
    try simp only [Act.put, List.setIfInBounds_toArray, List.set_cons_zero, List.set_cons_succ]
    refine wpAnyH_take (i := 6) (oi := { dst := some 75, op := Op.load 3 (Operand.tmp 74), type := 3, pos := "cpu.go:120", after := #[{ on := 5, ground := Ground.data }], guard := none }) (v := ?_) rfl (by kernel_rfl) (by kernel_rfl) (by kernel_rfl) (fun _ _ _ h => h) (Or.inl ⟨by rfl, ?_⟩) hS ?_
    rotate_left
    · intro W_ hSW_
      obtain ⟨z0_, zg_, z2_, zb_, z3_, zc_⟩ := hSW_
      go_simp
      try with_reducible rfl
    try simp only [Act.put, List.setIfInBounds_toArray, List.set_cons_zero, List.set_cons_succ]
    refine wpAnyH_take (i := 7) (oi := { dst := some 76, op := Op.nilCheck (Operand.tmp 73), type := 0, pos := "cpu.go:120", after := #[{ on := 4, ground := Ground.data }], guard := none }) (v := ?_) rfl (by kernel_rfl) (by kernel_rfl) (by kernel_rfl) (fun _ _ _ h => h) (Or.inl ⟨by rfl, ?_⟩) hS ?_
    rotate_left
    · intro W_ hSW_
      obtain ⟨z0_, zg_, z2_, zb_, z3_, zc_⟩ := hSW_
      go_simp
      try with_reducible rfl
    try simp only [Act.put, List.setIfInBounds_toArray, List.set_cons_zero, List.set_cons_succ]
    refine wpAnyH_take (i := 8) (oi := { dst := some 77, op := Op.fieldAddr 32 (Operand.tmp 76) 1, type := 0, pos := "cpu.go:120", after := #[{ on := 7, ground := Ground.data }], guard := none }) (v := ?_) rfl (by kernel_rfl) (by kernel_rfl) (by kernel_rfl) (fun _ _ _ h => h) (Or.inl ⟨by rfl, ?_⟩) hS ?_
    rotate_left
    · intro W_ hSW_
      obtain ⟨z0_, zg_, z2_, zb_, z3_, zc_⟩ := hSW_
      go_simp
      try with_reducible rfl
    try simp only [Act.put, List.setIfInBounds_toArray, List.set_cons_zero, List.set_cons_succ]
    refine wpAnyH_take (i := 9) (oi := { dst := some 78, op := Op.indexAddr 23 (Operand.tmp 77) (Operand.tmp 75), type := 0, pos := "cpu.go:120", after := #[{ on := 8, ground := Ground.data }, { on := 6, ground := Ground.data }], guard := none }) (v := ?_) rfl (by kernel_rfl) (by kernel_rfl) (by kernel_rfl) (fun _ _ _ h => h) (Or.inl ⟨by rfl, ?_⟩) hS ?_
    rotate_left
    · intro W_ hSW_
      obtain ⟨z0_, zg_, z2_, zb_, z3_, zc_⟩ := hSW_
      go_simp
      try with_reducible rfl
    try simp only [Act.put, List.setIfInBounds_toArray, List.set_cons_zero, List.set_cons_succ]
    refine wpAnyH_take (i := 10) (oi := { dst := some 79, op := Op.load 22 (Operand.tmp 78), type := 22, pos := "cpu.go:120", after := #[{ on := 9, ground := Ground.data }], guard := none }) (v := ?_) rfl (by kernel_rfl) (by kernel_rfl) (by kernel_rfl) (fun _ _ _ h => h) (Or.inl ⟨by rfl, ?_⟩) hS ?_
    rotate_left
    · intro W_ hSW_
      obtain ⟨z0_, zg_, z2_, zb_, z3_, zc_⟩ := hSW_
      go_simp
      try with_reducible rfl
    try simp only [Act.put, List.setIfInBounds_toArray, List.set_cons_zero, List.set_cons_succ]
    refine wpAnyH_take (i := 11) (oi := { dst := some 80, op := Op.move (Operand.tmp 0), type := 73, pos := "cpu.go:120", after := #[], guard := none }) (v := ?_) rfl (by kernel_rfl) (by kernel_rfl) (by kernel_rfl) (fun _ _ _ h => h) (Or.inl ⟨by rfl, ?_⟩) hS ?_
    rotate_left
    · intro W_ hSW_
      obtain ⟨z0_, zg_, z2_, zb_, z3_, zc_⟩ := hSW_
      go_simp
      try with_reducible rfl
    try simp only [Act.put, List.setIfInBounds_toArray, List.set_cons_zero, List.set_cons_succ]
    refine wpAnyH_take (i := 12) (oi := { dst := some 81, op := Op.fieldAddr 72 (Operand.tmp 5) 3, type := 0, pos := "cpu.go:120", after := #[], guard := none }) (v := ?_) rfl (by kernel_rfl) (by kernel_rfl) (by kernel_rfl) (fun _ _ _ h => h) (Or.inl ⟨by rfl, ?_⟩) hS ?_
    rotate_left
    · intro W_ hSW_
      obtain ⟨z0_, zg_, z2_, zb_, z3_, zc_⟩ := hSW_
      go_simp
      try with_reducible rfl
    try simp only [Act.put, List.setIfInBounds_toArray, List.set_cons_zero, List.set_cons_succ]
    refine wpAnyH_take (i := 13) (oi := { dst := some 82, op := Op.load 3 (Operand.tmp 81), type := 3, pos := "cpu.go:120", after := #[{ on := 12, ground := Ground.data }], guard := none }) (v := ?_) rfl (by kernel_rfl) (by kernel_rfl) (by kernel_rfl) (fun _ _ _ h => h) (Or.inl ⟨by rfl, ?_⟩) hS ?_
    rotate_left
    · intro W_ hSW_
      obtain ⟨z0_, zg_, z2_, zb_, z3_, zc_⟩ := hSW_
      go_simp
      try with_reducible rfl
    try simp only [Act.put, List.setIfInBounds_toArray, List.set_cons_zero, List.set_cons_succ]
    refine wpAnyH_take (i := 14) (oi := { dst := some 83, op := Op.nilCheck (Operand.tmp 80), type := 0, pos := "cpu.go:120", after := #[{ on := 11, ground := Ground.data }], guard := none }) (v := ?_) rfl (by kernel_rfl) (by kernel_rfl) (by kernel_rfl) (fun _ _ _ h => h) (Or.inl ⟨by rfl, ?_⟩) hS ?_
    rotate_left
    · intro W_ hSW_
      obtain ⟨z0_, zg_, z2_, zb_, z3_, zc_⟩ := hSW_
      go_simp
      try with_reducible rfl
    try simp only [Act.put, List.setIfInBounds_toArray, List.set_cons_zero, List.set_cons_succ]
    refine wpAnyH_take (i := 15) (oi := { dst := some 84, op := Op.fieldAddr 32 (Operand.tmp 83) 1, type := 0, pos := "cpu.go:120", after := #[{ on := 14, ground := Ground.data }], guard := none }) (v := ?_) rfl (by kernel_rfl) (by kernel_rfl) (by kernel_rfl) (fun _ _ _ h => h) (Or.inl ⟨by rfl, ?_⟩) hS ?_
    rotate_left
    · intro W_ hSW_
      obtain ⟨z0_, zg_, z2_, zb_, z3_, zc_⟩ := hSW_
      go_simp
      try with_reducible rfl
    try simp only [Act.put, List.setIfInBounds_toArray, List.set_cons_zero, List.set_cons_succ]
    refine wpAnyH_take (i := 16) (oi := { dst := some 85, op := Op.indexAddr 23 (Operand.tmp 84) (Operand.tmp 82), type := 0, pos := "cpu.go:120", after := #[{ on := 15, ground := Ground.data }, { on := 13, ground := Ground.data }], guard := none }) (v := ?_) rfl (by kernel_rfl) (by kernel_rfl) (by kernel_rfl) (fun _ _ _ h => h) (Or.inl ⟨by rfl, ?_⟩) hS ?_
    rotate_left
    · intro W_ hSW_
      obtain ⟨z0_, zg_, z2_, zb_, z3_, zc_⟩ := hSW_
      go_simp
      try with_reducible rfl
    try simp only [Act.put, List.setIfInBounds_toArray, List.set_cons_zero, List.set_cons_succ]
    refine wpAnyH_take (i := 17) (oi := { dst := some 86, op := Op.load 22 (Operand.tmp 85), type := 22, pos := "cpu.go:120", after := #[{ on := 16, ground := Ground.data }], guard := none }) (v := ?_) rfl (by kernel_rfl) (by kernel_rfl) (by kernel_rfl) (fun _ _ _ h => h) (Or.inl ⟨by rfl, ?_⟩) hS ?_
    rotate_left
    · intro W_ hSW_
      obtain ⟨z0_, zg_, z2_, zb_, z3_, zc_⟩ := hSW_
      go_simp
      try with_reducible rfl
    try simp only [Act.put, List.setIfInBounds_toArray, List.set_cons_zero, List.set_cons_succ]
    refine wpAnyH_ready (rs := [18]) (by kernel_rfl) (by simp) ?_
    refine AllReadyH.cons (o := { dst := some 87, op := Op.call { callee := Callee.value (Operand.func 59), args := #[Operand.tmp 72, Operand.tmp 79, Operand.tmp 86], argTypes := #[3, 22, 22] }, type := 89, pos := "cpu.go:120", after := #[{ on := 3, ground := Ground.data }, { on := 10, ground := Ground.data }, { on := 17, ground := Ground.data }], guard := none }) rfl (fun K_ hK_ => ?_) AllReadyH.nil
    go_simp
    refine (word_Binary.calls 10 vb vc _ 0 _ (wbin_f (by unfold Bop; omega) vb vc)).mono ?_
    rintro e w4 ⟨rfl, hd4⟩
    have HB4 := Aside0.mk (below_step (below_drew (Below.refl W1.heap.size W1)) hd4.below)
    clear hd4
    refine hK_.out _ _ (HSS.out _ HB4.out) (fun hS_ => ?_)
    clear hK_ K_ hS
    have hS := hS_
    clear hS_
    try simp only [Act.put, List.setIfInBounds_toArray, List.set_cons_zero, List.set_cons_succ]
    refine wpAnyH_take (i := 19) (oi := { dst := some 68, op := Op.move (Operand.tmp 87), type := 89, pos := "cpu.go:120", after := #[{ on := 18, ground := Ground.data }], guard := none }) (v := ?_) rfl (by kernel_rfl) (by kernel_rfl) (by kernel_rfl) (fun _ _ _ h => h) (Or.inl ⟨by rfl, ?_⟩) hS ?_
    rotate_left
    · intro W_ hSW_
      obtain ⟨z0_, zg_, z2_, zb_, z3_, zc_⟩ := hSW_
      go_simp
      try with_reducible rfl
    try simp only [Act.put, List.setIfInBounds_toArray, List.set_cons_zero, List.set_cons_succ]
    refine wpAnyH_take (i := 20) (oi := { dst := some 88, op := Op.extract (Operand.tmp 68) 0, type := 22, pos := "cpu.go:120", after := #[{ on := 19, ground := Ground.data }], guard := none }) (v := ?_) rfl (by kernel_rfl) (by kernel_rfl) (by kernel_rfl) (fun _ _ _ h => h) (Or.inl ⟨by rfl, ?_⟩) hS ?_
    rotate_left
    · intro W_ hSW_
      obtain ⟨z0_, zg_, z2_, zb_, z3_, zc_⟩ := hSW_
      go_simp
      try with_reducible rfl
    try simp only [Act.put, List.setIfInBounds_toArray, List.set_cons_zero, List.set_cons_succ]
    refine wpAnyH_take (i := 21) (oi := { dst := some 89, op := Op.extract (Operand.tmp 68) 1, type := 34, pos := "cpu.go:120", after := #[{ on := 19, ground := Ground.data }, { on := 22, ground := Ground.gcOnly Departure.lateStores }], guard := none }) (v := ?_) rfl (by kernel_rfl) (by kernel_rfl) (by kernel_rfl) (fun _ _ _ h => h) (Or.inl ⟨by rfl, ?_⟩) hS ?_
    rotate_left
    · intro W_ hSW_
      obtain ⟨z0_, zg_, z2_, zb_, z3_, zc_⟩ := hSW_
      go_simp
      try with_reducible rfl
    try simp only [Act.put, List.setIfInBounds_toArray, List.set_cons_zero, List.set_cons_succ]
    refine wpAnyH_take (i := 22) (oi := { dst := some 12, op := Op.assign (Operand.tmp 88), type := 22, pos := "cpu.go:120", after := #[{ on := 20, ground := Ground.data }, { on := 18, ground := Ground.chain }, { on := 0, ground := Ground.phase }, { on := 1, ground := Ground.phase }, { on := 2, ground := Ground.phase }, { on := 3, ground := Ground.phase }, { on := 4, ground := Ground.phase }, { on := 5, ground := Ground.phase }, { on := 6, ground := Ground.phase }, { on := 7, ground := Ground.phase }, { on := 8, ground := Ground.phase }, { on := 9, ground := Ground.phase }, { on := 10, ground := Ground.phase }, { on := 11, ground := Ground.phase }, { on := 12, ground := Ground.phase }, { on := 13, ground := Ground.phase }, { on := 14, ground := Ground.phase }, { on := 15, ground := Ground.phase }, { on := 16, ground := Ground.phase }, { on := 17, ground := Ground.phase }, { on := 18, ground := Ground.phase }, { on := 19, ground := Ground.phase }, { on := 20, ground := Ground.phase }, { on := 21, ground := Ground.textOnly Departure.lateStores }], guard := none }) (v := ?_) rfl (by kernel_rfl) (by kernel_rfl) (by kernel_rfl) (fun _ _ _ h => h) (Or.inl ⟨by rfl, ?_⟩) hS ?_
    rotate_left
    · intro W_ hSW_
      obtain ⟨z0_, zg_, z2_, zb_, z3_, zc_⟩ := hSW_
      go_simp
      try with_reducible rfl
    try simp only [Act.put, List.setIfInBounds_toArray, List.set_cons_zero, List.set_cons_succ]
    refine wpAnyH_take (i := 23) (oi := { dst := some 13, op := Op.assign (Operand.tmp 89), type := 34, pos := "cpu.go:120", after := #[{ on := 21, ground := Ground.data }, { on := 22, ground := Ground.chain }, { on := 0, ground := Ground.phase }, { on := 1, ground := Ground.phase }, { on := 2, ground := Ground.phase }, { on := 3, ground := Ground.phase }, { on := 4, ground := Ground.phase }, { on := 5, ground := Ground.phase }, { on := 6, ground := Ground.phase }, { on := 7, ground := Ground.phase }, { on := 8, ground := Ground.phase }, { on := 9, ground := Ground.phase }, { on := 10, ground := Ground.phase }, { on := 11, ground := Ground.phase }, { on := 12, ground := Ground.phase }, { on := 13, ground := Ground.phase }, { on := 14, ground := Ground.phase }, { on := 15, ground := Ground.phase }, { on := 16, ground := Ground.phase }, { on := 17, ground := Ground.phase }, { on := 18, ground := Ground.phase }, { on := 19, ground := Ground.phase }, { on := 20, ground := Ground.phase }, { on := 21, ground := Ground.phase }, { on := 22, ground := Ground.phase }], guard := none }) (v := ?_) rfl (by kernel_rfl) (by kernel_rfl) (by kernel_rfl) (fun _ _ _ h => h) (Or.inl ⟨by rfl, ?_⟩) hS ?_
    rotate_left
    · intro W_ hSW_
      obtain ⟨z0_, zg_, z2_, zb_, z3_, zc_⟩ := hSW_
      go_simp
      try with_reducible rfl
    try simp only [Act.put, List.setIfInBounds_toArray, List.set_cons_zero, List.set_cons_succ]
    refine wpAnyH_done (by kernel_rfl) ?_ _
    clear hS
    go_wp2_with fail
    go_ret2
    exact ⟨by simp [cmpC, HV.out.1, HV.out.2], below_step HBW.out HB4.out⟩
  by_cases e13 : op = 13
  · subst e13
    go_enter Tryd.func33, Tryd.ntmps33
    go_wp2_with fail
    have HSS := Aside0.mk (fun W (hB : Below W1.heap.size W1 W) => show W.cell? ⟨g1, 0, none⟩ = some (.int .i64 13) ∧ W.cell? ⟨0, 13, none⟩ = some (.int .i64 11) ∧ W.cell? ⟨g1, 2, none⟩ = some (.int .i64 (b : Int)) ∧ W.cell? ⟨gc, 1 + b, none⟩ = some (.int .i16 vb) ∧ W.cell? ⟨g1, 3, none⟩ = some (.int .i64 (cc : Int)) ∧ W.cell? ⟨gc, 1 + cc, none⟩ = some (.int .i16 vc) from ⟨Kd.cell_heap hB.block HX5.out.1, Kd.cell_heap hB.block (HGT.out 13 (by decide)), Kd.cell_heap hB.block HX5.out.2.1, Kd.cell_heap hB.block HXB.out, Kd.cell_heap hB.block HX5.out.2.2.1, Kd.cell_heap hB.block HXC.out⟩)
    refine wp_region_held_drew (S := fun W => W.cell? ⟨g1, 0, none⟩ = some (.int .i64 13) ∧ W.cell? ⟨0, 13, none⟩ = some (.int .i64 11) ∧ W.cell? ⟨g1, 2, none⟩ = some (.int .i64 (b : Int)) ∧ W.cell? ⟨gc, 1 + b, none⟩ = some (.int .i16 vb) ∧ W.cell? ⟨g1, 3, none⟩ = some (.int .i64 (cc : Int)) ∧ W.cell? ⟨gc, 1 + cc, none⟩ = some (.int .i16 vc)) (by kernel_rfl) (HSS.out _ (below_drew (Below.refl _ _))) (fun hS => ?_)
    refine wpAnyH_take (i := 0) (oi := { dst := some 69, op := Op.fieldAddr 72 (Operand.tmp 5) 0, type := 0, pos := "cpu.go:120", after := #[], guard := none }) (v := ?_) rfl (by kernel_rfl) (by kernel_rfl) (by kernel_rfl) (fun _ _ _ h => h) (Or.inl ⟨by rfl, ?_⟩) hS ?_
    rotate_left
    · intro W_ hSW_
      obtain ⟨z0_, zg_, z2_, zb_, z3_, zc_⟩ := hSW_
      go_simp
      try with_reducible rfl
    try simp only [Act.put, List.setIfInBounds_toArray, List.set_cons_zero, List.set_cons_succ]
    refine wpAnyH_take (i := 1) (oi := { dst := some 70, op := Op.load 3 (Operand.tmp 69), type := 3, pos := "cpu.go:120", after := #[{ on := 0, ground := Ground.data }], guard := none }) (v := ?_) rfl (by kernel_rfl) (by kernel_rfl) (by kernel_rfl) (fun _ _ _ h => h) (Or.inl ⟨by rfl, ?_⟩) hS ?_
    rotate_left
    · intro W_ hSW_
      obtain ⟨z0_, zg_, z2_, zb_, z3_, zc_⟩ := hSW_
      go_simp
      try with_reducible rfl
    try simp only [Act.put, List.setIfInBounds_toArray, List.set_cons_zero, List.set_cons_succ]
    refine wpAnyH_take (i := 2) (oi := { dst := some 71, op := Op.indexAddr 114 (Operand.global 0) (Operand.tmp 70), type := 0, pos := "cpu.go:120", after := #[{ on := 1, ground := Ground.data }], guard := none }) (v := ?_) rfl (by kernel_rfl) (by kernel_rfl) (by kernel_rfl) (fun _ _ _ h => h) (Or.inl ⟨by rfl, ?_⟩) hS ?_
    rotate_left
    · intro W_ hSW_
      obtain ⟨z0_, zg_, z2_, zb_, z3_, zc_⟩ := hSW_
      go_simp
      try with_reducible rfl
    try simp only [Act.put, List.setIfInBounds_toArray, List.set_cons_zero, List.set_cons_succ]
    refine wpAnyH_take (i := 3) (oi := { dst := some 72, op := Op.load 3 (Operand.tmp 71), type := 3, pos := "cpu.go:120", after := #[{ on := 2, ground := Ground.data }], guard := none }) (v := ?_) rfl (by kernel_rfl) (by kernel_rfl) (by kernel_rfl) (fun _ _ _ h => h) (Or.inl ⟨by rfl, ?_⟩) hS ?_
    rotate_left
    · intro W_ hSW_
      obtain ⟨z0_, zg_, z2_, zb_, z3_, zc_⟩ := hSW_
      go_simp
      try with_reducible rfl
    try simp only [Act.put, List.setIfInBounds_toArray, List.set_cons_zero, List.set_cons_succ]
    refine wpAnyH_take (i := 4) (oi := { dst := some 73, op := Op.move (Operand.tmp 0), type := 73, pos := "cpu.go:120", after := #[], guard := none }) (v := ?_) rfl (by kernel_rfl) (by kernel_rfl) (by kernel_rfl) (fun _ _ _ h => h) (Or.inl ⟨by rfl, ?_⟩) hS ?_
    rotate_left
    · intro W_ hSW_
      obtain ⟨z0_, zg_, z2_, zb_, z3_, zc_⟩ := hSW_
      go_simp
      try with_reducible rfl
    try simp only [Act.put, List.setIfInBounds_toArray, List.set_cons_zero, List.set_cons_succ]
    refine wpAnyH_take (i := 5) (oi := { dst := some 74, op := Op.fieldAddr 72 (Operand.tmp 5) 2, type := 0, pos := "cpu.go:120", after := #[], guard := none }) (v := ?_) rfl (by kernel_rfl) (by kernel_rfl) (by kernel_rfl) (fun _ _ _ h => h) (Or.inl ⟨by rfl, ?_⟩) hS ?_
    rotate_left
    · intro W_ hSW_
      obtain ⟨z0_, zg_, z2_, zb_, z3_, zc_⟩ := hSW_
      go_simp
      try with_reducible rfl
    try simp only [Act.put, List.setIfInBounds_toArray, List.set_cons_zero, List.set_cons_succ]
    refine wpAnyH_take (i := 6) (oi := { dst := some 75, op := Op.load 3 (Operand.tmp 74), type := 3, pos := "cpu.go:120", after := #[{ on := 5, ground := Ground.data }], guard := none }) (v := ?_) rfl (by kernel_rfl) (by kernel_rfl) (by kernel_rfl) (fun _ _ _ h => h) (Or.inl ⟨by rfl, ?_⟩) hS ?_
    rotate_left
    · intro W_ hSW_
      obtain ⟨z0_, zg_, z2_, zb_, z3_, zc_⟩ := hSW_
      go_simp
      try with_reducible rfl
    try simp only [Act.put, List.setIfInBounds_toArray, List.set_cons_zero, List.set_cons_succ]
    refine wpAnyH_take (i := 7) (oi := { dst := some 76, op := Op.nilCheck (Operand.tmp 73), type := 0, pos := "cpu.go:120", after := #[{ on := 4, ground := Ground.data }], guard := none }) (v := ?_) rfl (by kernel_rfl) (by kernel_rfl) (by kernel_rfl) (fun _ _ _ h => h) (Or.inl ⟨by rfl, ?_⟩) hS ?_
    rotate_left
    · intro W_ hSW_
      obtain ⟨z0_, zg_, z2_, zb_, z3_, zc_⟩ := hSW_
      go_simp
      try with_reducible rfl
    try simp only [Act.put, List.setIfInBounds_toArray, List.set_cons_zero, List.set_cons_succ]
    refine wpAnyH_take (i := 8) (oi := { dst := some 77, op := Op.fieldAddr 32 (Operand.tmp 76) 1, type := 0, pos := "cpu.go:120", after := #[{ on := 7, ground := Ground.data }], guard := none }) (v := ?_) rfl (by kernel_rfl) (by kernel_rfl) (by kernel_rfl) (fun _ _ _ h => h) (Or.inl ⟨by rfl, ?_⟩) hS ?_
    rotate_left
    · intro W_ hSW_
      obtain ⟨z0_, zg_, z2_, zb_, z3_, zc_⟩ := hSW_
      go_simp
      try with_reducible rfl
    try simp only [Act.put, List.setIfInBounds_toArray, List.set_cons_zero, List.set_cons_succ]
    refine wpAnyH_take (i := 9) (oi := { dst := some 78, op := Op.indexAddr 23 (Operand.tmp 77) (Operand.tmp 75), type := 0, pos := "cpu.go:120", after := #[{ on := 8, ground := Ground.data }, { on := 6, ground := Ground.data }], guard := none }) (v := ?_) rfl (by kernel_rfl) (by kernel_rfl) (by kernel_rfl) (fun _ _ _ h => h) (Or.inl ⟨by rfl, ?_⟩) hS ?_
    rotate_left
    · intro W_ hSW_
      obtain ⟨z0_, zg_, z2_, zb_, z3_, zc_⟩ := hSW_
      go_simp
      try with_reducible rfl
    try simp only [Act.put, List.setIfInBounds_toArray, List.set_cons_zero, List.set_cons_succ]
    refine wpAnyH_take (i := 10) (oi := { dst := some 79, op := Op.load 22 (Operand.tmp 78), type := 22, pos := "cpu.go:120", after := #[{ on := 9, ground := Ground.data }], guard := none }) (v := ?_) rfl (by kernel_rfl) (by kernel_rfl) (by kernel_rfl) (fun _ _ _ h => h) (Or.inl ⟨by rfl, ?_⟩) hS ?_
    rotate_left
    · intro W_ hSW_
      obtain ⟨z0_, zg_, z2_, zb_, z3_, zc_⟩ := hSW_
      go_simp
      try with_reducible rfl
    try simp only [Act.put, List.setIfInBounds_toArray, List.set_cons_zero, List.set_cons_succ]
    refine wpAnyH_take (i := 11) (oi := { dst := some 80, op := Op.move (Operand.tmp 0), type := 73, pos := "cpu.go:120", after := #[], guard := none }) (v := ?_) rfl (by kernel_rfl) (by kernel_rfl) (by kernel_rfl) (fun _ _ _ h => h) (Or.inl ⟨by rfl, ?_⟩) hS ?_
    rotate_left
    · intro W_ hSW_
      obtain ⟨z0_, zg_, z2_, zb_, z3_, zc_⟩ := hSW_
      go_simp
      try with_reducible rfl
    try simp only [Act.put, List.setIfInBounds_toArray, List.set_cons_zero, List.set_cons_succ]
    refine wpAnyH_take (i := 12) (oi := { dst := some 81, op := Op.fieldAddr 72 (Operand.tmp 5) 3, type := 0, pos := "cpu.go:120", after := #[], guard := none }) (v := ?_) rfl (by kernel_rfl) (by kernel_rfl) (by kernel_rfl) (fun _ _ _ h => h) (Or.inl ⟨by rfl, ?_⟩) hS ?_
    rotate_left
    · intro W_ hSW_
      obtain ⟨z0_, zg_, z2_, zb_, z3_, zc_⟩ := hSW_
      go_simp
      try with_reducible rfl
    try simp only [Act.put, List.setIfInBounds_toArray, List.set_cons_zero, List.set_cons_succ]
    refine wpAnyH_take (i := 13) (oi := { dst := some 82, op := Op.load 3 (Operand.tmp 81), type := 3, pos := "cpu.go:120", after := #[{ on := 12, ground := Ground.data }], guard := none }) (v := ?_) rfl (by kernel_rfl) (by kernel_rfl) (by kernel_rfl) (fun _ _ _ h => h) (Or.inl ⟨by rfl, ?_⟩) hS ?_
    rotate_left
    · intro W_ hSW_
      obtain ⟨z0_, zg_, z2_, zb_, z3_, zc_⟩ := hSW_
      go_simp
      try with_reducible rfl
    try simp only [Act.put, List.setIfInBounds_toArray, List.set_cons_zero, List.set_cons_succ]
    refine wpAnyH_take (i := 14) (oi := { dst := some 83, op := Op.nilCheck (Operand.tmp 80), type := 0, pos := "cpu.go:120", after := #[{ on := 11, ground := Ground.data }], guard := none }) (v := ?_) rfl (by kernel_rfl) (by kernel_rfl) (by kernel_rfl) (fun _ _ _ h => h) (Or.inl ⟨by rfl, ?_⟩) hS ?_
    rotate_left
    · intro W_ hSW_
      obtain ⟨z0_, zg_, z2_, zb_, z3_, zc_⟩ := hSW_
      go_simp
      try with_reducible rfl
    try simp only [Act.put, List.setIfInBounds_toArray, List.set_cons_zero, List.set_cons_succ]
    refine wpAnyH_take (i := 15) (oi := { dst := some 84, op := Op.fieldAddr 32 (Operand.tmp 83) 1, type := 0, pos := "cpu.go:120", after := #[{ on := 14, ground := Ground.data }], guard := none }) (v := ?_) rfl (by kernel_rfl) (by kernel_rfl) (by kernel_rfl) (fun _ _ _ h => h) (Or.inl ⟨by rfl, ?_⟩) hS ?_
    rotate_left
    · intro W_ hSW_
      obtain ⟨z0_, zg_, z2_, zb_, z3_, zc_⟩ := hSW_
      go_simp
      try with_reducible rfl
    try simp only [Act.put, List.setIfInBounds_toArray, List.set_cons_zero, List.set_cons_succ]
    refine wpAnyH_take (i := 16) (oi := { dst := some 85, op := Op.indexAddr 23 (Operand.tmp 84) (Operand.tmp 82), type := 0, pos := "cpu.go:120", after := #[{ on := 15, ground := Ground.data }, { on := 13, ground := Ground.data }], guard := none }) (v := ?_) rfl (by kernel_rfl) (by kernel_rfl) (by kernel_rfl) (fun _ _ _ h => h) (Or.inl ⟨by rfl, ?_⟩) hS ?_
    rotate_left
    · intro W_ hSW_
      obtain ⟨z0_, zg_, z2_, zb_, z3_, zc_⟩ := hSW_
      go_simp
      try with_reducible rfl
    try simp only [Act.put, List.setIfInBounds_toArray, List.set_cons_zero, List.set_cons_succ]
    refine wpAnyH_take (i := 17) (oi := { dst := some 86, op := Op.load 22 (Operand.tmp 85), type := 22, pos := "cpu.go:120", after := #[{ on := 16, ground := Ground.data }], guard := none }) (v := ?_) rfl (by kernel_rfl) (by kernel_rfl) (by kernel_rfl) (fun _ _ _ h => h) (Or.inl ⟨by rfl, ?_⟩) hS ?_
    rotate_left
    · intro W_ hSW_
      obtain ⟨z0_, zg_, z2_, zb_, z3_, zc_⟩ := hSW_
      go_simp
      try with_reducible rfl
    try simp only [Act.put, List.setIfInBounds_toArray, List.set_cons_zero, List.set_cons_succ]
    refine wpAnyH_ready (rs := [18]) (by kernel_rfl) (by simp) ?_
    refine AllReadyH.cons (o := { dst := some 87, op := Op.call { callee := Callee.value (Operand.func 59), args := #[Operand.tmp 72, Operand.tmp 79, Operand.tmp 86], argTypes := #[3, 22, 22] }, type := 89, pos := "cpu.go:120", after := #[{ on := 3, ground := Ground.data }, { on := 10, ground := Ground.data }, { on := 17, ground := Ground.data }], guard := none }) rfl (fun K_ hK_ => ?_) AllReadyH.nil
    go_simp
    refine (word_Binary.calls 11 vb vc _ 0 _ (wbin_f (by unfold Bop; omega) vb vc)).mono ?_
    rintro e w4 ⟨rfl, hd4⟩
    have HB4 := Aside0.mk (below_step (below_drew (Below.refl W1.heap.size W1)) hd4.below)
    clear hd4
    refine hK_.out _ _ (HSS.out _ HB4.out) (fun hS_ => ?_)
    clear hK_ K_ hS
    have hS := hS_
    clear hS_
    try simp only [Act.put, List.setIfInBounds_toArray, List.set_cons_zero, List.set_cons_succ]
    refine wpAnyH_take (i := 19) (oi := { dst := some 68, op := Op.move (Operand.tmp 87), type := 89, pos := "cpu.go:120", after := #[{ on := 18, ground := Ground.data }], guard := none }) (v := ?_) rfl (by kernel_rfl) (by kernel_rfl) (by kernel_rfl) (fun _ _ _ h => h) (Or.inl ⟨by rfl, ?_⟩) hS ?_
    rotate_left
    · intro W_ hSW_
      obtain ⟨z0_, zg_, z2_, zb_, z3_, zc_⟩ := hSW_
      go_simp
      try with_reducible rfl
    try simp only [Act.put, List.setIfInBounds_toArray, List.set_cons_zero, List.set_cons_succ]
    refine wpAnyH_take (i := 20) (oi := { dst := some 88, op := Op.extract (Operand.tmp 68) 0, type := 22, pos := "cpu.go:120", after := #[{ on := 19, ground := Ground.data }], guard := none }) (v := ?_) rfl (by kernel_rfl) (by kernel_rfl) (by kernel_rfl) (fun _ _ _ h => h) (Or.inl ⟨by rfl, ?_⟩) hS ?_
    rotate_left
    · intro W_ hSW_
      obtain ⟨z0_, zg_, z2_, zb_, z3_, zc_⟩ := hSW_
      go_simp
      try with_reducible rfl
    try simp only [Act.put, List.setIfInBounds_toArray, List.set_cons_zero, List.set_cons_succ]
    refine wpAnyH_take (i := 21) (oi := { dst := some 89, op := Op.extract (Operand.tmp 68) 1, type := 34, pos := "cpu.go:120", after := #[{ on := 19, ground := Ground.data }, { on := 22, ground := Ground.gcOnly Departure.lateStores }], guard := none }) (v := ?_) rfl (by kernel_rfl) (by kernel_rfl) (by kernel_rfl) (fun _ _ _ h => h) (Or.inl ⟨by rfl, ?_⟩) hS ?_
    rotate_left
    · intro W_ hSW_
      obtain ⟨z0_, zg_, z2_, zb_, z3_, zc_⟩ := hSW_
      go_simp
      try with_reducible rfl
    try simp only [Act.put, List.setIfInBounds_toArray, List.set_cons_zero, List.set_cons_succ]
    refine wpAnyH_take (i := 22) (oi := { dst := some 12, op := Op.assign (Operand.tmp 88), type := 22, pos := "cpu.go:120", after := #[{ on := 20, ground := Ground.data }, { on := 18, ground := Ground.chain }, { on := 0, ground := Ground.phase }, { on := 1, ground := Ground.phase }, { on := 2, ground := Ground.phase }, { on := 3, ground := Ground.phase }, { on := 4, ground := Ground.phase }, { on := 5, ground := Ground.phase }, { on := 6, ground := Ground.phase }, { on := 7, ground := Ground.phase }, { on := 8, ground := Ground.phase }, { on := 9, ground := Ground.phase }, { on := 10, ground := Ground.phase }, { on := 11, ground := Ground.phase }, { on := 12, ground := Ground.phase }, { on := 13, ground := Ground.phase }, { on := 14, ground := Ground.phase }, { on := 15, ground := Ground.phase }, { on := 16, ground := Ground.phase }, { on := 17, ground := Ground.phase }, { on := 18, ground := Ground.phase }, { on := 19, ground := Ground.phase }, { on := 20, ground := Ground.phase }, { on := 21, ground := Ground.textOnly Departure.lateStores }], guard := none }) (v := ?_) rfl (by kernel_rfl) (by kernel_rfl) (by kernel_rfl) (fun _ _ _ h => h) (Or.inl ⟨by rfl, ?_⟩) hS ?_
    rotate_left
    · intro W_ hSW_
      obtain ⟨z0_, zg_, z2_, zb_, z3_, zc_⟩ := hSW_
      go_simp
      try with_reducible rfl
    try simp only [Act.put, List.setIfInBounds_toArray, List.set_cons_zero, List.set_cons_succ]
    refine wpAnyH_take (i := 23) (oi := { dst := some 13, op := Op.assign (Operand.tmp 89), type := 34, pos := "cpu.go:120", after := #[{ on := 21, ground := Ground.data }, { on := 22, ground := Ground.chain }, { on := 0, ground := Ground.phase }, { on := 1, ground := Ground.phase }, { on := 2, ground := Ground.phase }, { on := 3, ground := Ground.phase }, { on := 4, ground := Ground.phase }, { on := 5, ground := Ground.phase }, { on := 6, ground := Ground.phase }, { on := 7, ground := Ground.phase }, { on := 8, ground := Ground.phase }, { on := 9, ground := Ground.phase }, { on := 10, ground := Ground.phase }, { on := 11, ground := Ground.phase }, { on := 12, ground := Ground.phase }, { on := 13, ground := Ground.phase }, { on := 14, ground := Ground.phase }, { on := 15, ground := Ground.phase }, { on := 16, ground := Ground.phase }, { on := 17, ground := Ground.phase }, { on := 18, ground := Ground.phase }, { on := 19, ground := Ground.phase }, { on := 20, ground := Ground.phase }, { on := 21, ground := Ground.phase }, { on := 22, ground := Ground.phase }], guard := none }) (v := ?_) rfl (by kernel_rfl) (by kernel_rfl) (by kernel_rfl) (fun _ _ _ h => h) (Or.inl ⟨by rfl, ?_⟩) hS ?_
    rotate_left
    · intro W_ hSW_
      obtain ⟨z0_, zg_, z2_, zb_, z3_, zc_⟩ := hSW_
      go_simp
      try with_reducible rfl
    try simp only [Act.put, List.setIfInBounds_toArray, List.set_cons_zero, List.set_cons_succ]
    refine wpAnyH_done (by kernel_rfl) ?_ _
    clear hS
    go_wp2_with fail
    go_ret2
    exact ⟨by simp [cmpC, HV.out.1, HV.out.2], below_step HBW.out HB4.out⟩
  by_cases e20 : op = 20
  · subst e20
    obtain ⟨k, rfl⟩ := Int.eq_ofNat_of_zero_le (h20 (by first | rfl | trivial)).1
    have hk : (k : Int) < 64 := (h20 (by first | rfl | trivial)).2
    have xk := cpu_r HC.out HSO.out (i := 8 + k) (by omega)
    rw [show 1 + (8 + k) = 9 + k by omega] at xk
    obtain ⟨vk, hvk⟩ : ∃ v, s.r (8 + k) = v := ⟨_, rfl⟩
    rw [hvk] at xk
    have HXK := Aside0.mk xk
    have HVK := Aside0.mk hvk
    clear xk hvk h20 h18
    go_enter Tryd.func33, Tryd.ntmps33
    go_wp2_with fail
    have HSS := Aside0.mk (fun W (hB : Below W1.heap.size W1 W) => show W.cell? ⟨g1, 4, none⟩ = some (.int .i16 (k : Int)) ∧ W.cell? ⟨gc, 9 + k, none⟩ = some (.int .i16 vk) from ⟨Kd.cell_heap hB.block HX5.out.2.2.2, Kd.cell_heap hB.block HXK.out⟩)
    refine wp_region_held_drew (S := fun W => W.cell? ⟨g1, 4, none⟩ = some (.int .i16 (k : Int)) ∧ W.cell? ⟨gc, 9 + k, none⟩ = some (.int .i16 vk)) (by kernel_rfl) (HSS.out _ (below_drew (Below.refl _ _))) (fun hS => ?_)
    refine wpAnyH_take (i := 0) (oi := { dst := some 127, op := Op.move (Operand.tmp 0), type := 73, pos := "cpu.go:126", after := #[], guard := none }) (v := ?_) rfl (by kernel_rfl) (by kernel_rfl) (by kernel_rfl) (fun _ _ _ h => h) (Or.inl ⟨by rfl, ?_⟩) hS ?_
    rotate_left
    · intro W_ hSW_
      obtain ⟨z4_, zk_⟩ := hSW_
      go_simp
      try with_reducible rfl
    try simp only [Act.put, List.setIfInBounds_toArray, List.set_cons_zero, List.set_cons_succ]
    refine wpAnyH_take (i := 1) (oi := { dst := some 128, op := Op.fieldAddr 72 (Operand.tmp 5) 4, type := 0, pos := "cpu.go:126", after := #[], guard := none }) (v := ?_) rfl (by kernel_rfl) (by kernel_rfl) (by kernel_rfl) (fun _ _ _ h => h) (Or.inl ⟨by rfl, ?_⟩) hS ?_
    rotate_left
    · intro W_ hSW_
      obtain ⟨z4_, zk_⟩ := hSW_
      go_simp
      try with_reducible rfl
    try simp only [Act.put, List.setIfInBounds_toArray, List.set_cons_zero, List.set_cons_succ]
    refine wpAnyH_take (i := 2) (oi := { dst := some 129, op := Op.load 22 (Operand.tmp 128), type := 22, pos := "cpu.go:126", after := #[{ on := 1, ground := Ground.data }], guard := none }) (v := ?_) rfl (by kernel_rfl) (by kernel_rfl) (by kernel_rfl) (fun _ _ _ h => h) (Or.inl ⟨by rfl, ?_⟩) hS ?_
    rotate_left
    · intro W_ hSW_
      obtain ⟨z4_, zk_⟩ := hSW_
      go_simp
      try with_reducible rfl
    try simp only [Act.put, List.setIfInBounds_toArray, List.set_cons_zero, List.set_cons_succ]
    refine wpAnyH_take (i := 3) (oi := { dst := some 130, op := Op.nilCheck (Operand.tmp 127), type := 0, pos := "cpu.go:126", after := #[{ on := 0, ground := Ground.data }], guard := none }) (v := ?_) rfl (by kernel_rfl) (by kernel_rfl) (by kernel_rfl) (fun _ _ _ h => h) (Or.inl ⟨by rfl, ?_⟩) hS ?_
    rotate_left
    · intro W_ hSW_
      obtain ⟨z4_, zk_⟩ := hSW_
      go_simp
      try with_reducible rfl
    try simp only [Act.put, List.setIfInBounds_toArray, List.set_cons_zero, List.set_cons_succ]
    refine wpAnyH_take (i := 4) (oi := { dst := some 131, op := Op.fieldAddr 32 (Operand.tmp 130) 2, type := 0, pos := "cpu.go:126", after := #[{ on := 3, ground := Ground.data }], guard := none }) (v := ?_) rfl (by kernel_rfl) (by kernel_rfl) (by kernel_rfl) (fun _ _ _ h => h) (Or.inl ⟨by rfl, ?_⟩) hS ?_
    rotate_left
    · intro W_ hSW_
      obtain ⟨z4_, zk_⟩ := hSW_
      go_simp
      try with_reducible rfl
    try simp only [Act.put, List.setIfInBounds_toArray, List.set_cons_zero, List.set_cons_succ]
    refine wpAnyH_take (i := 5) (oi := { dst := some 132, op := Op.indexAddr 24 (Operand.tmp 131) (Operand.tmp 129), type := 0, pos := "cpu.go:126", after := #[{ on := 4, ground := Ground.data }, { on := 2, ground := Ground.data }], guard := none }) (v := ?_) rfl (by kernel_rfl) (by kernel_rfl) (by kernel_rfl) (fun _ _ _ h => h) (Or.inl ⟨by rfl, ?_⟩) hS ?_
    rotate_left
    · intro W_ hSW_
      obtain ⟨z4_, zk_⟩ := hSW_
      go_simp
      try with_reducible rfl
    try simp only [Act.put, List.setIfInBounds_toArray, List.set_cons_zero, List.set_cons_succ]
    refine wpAnyH_take (i := 6) (oi := { dst := some 133, op := Op.load 22 (Operand.tmp 132), type := 22, pos := "cpu.go:126", after := #[{ on := 5, ground := Ground.data }], guard := none }) (v := ?_) rfl (by kernel_rfl) (by kernel_rfl) (by kernel_rfl) (fun _ _ _ h => h) (Or.inl ⟨by rfl, ?_⟩) hS ?_
    rotate_left
    · intro W_ hSW_
      obtain ⟨z4_, zk_⟩ := hSW_
      go_simp
      try with_reducible rfl
    try simp only [Act.put, List.setIfInBounds_toArray, List.set_cons_zero, List.set_cons_succ]
    refine wpAnyH_take (i := 7) (oi := { dst := some 6, op := Op.assign (Operand.tmp 133), type := 22, pos := "cpu.go:126", after := #[{ on := 6, ground := Ground.data }, { on := 0, ground := Ground.phase }, { on := 1, ground := Ground.phase }, { on := 2, ground := Ground.phase }, { on := 3, ground := Ground.phase }, { on := 4, ground := Ground.phase }, { on := 5, ground := Ground.phase }, { on := 6, ground := Ground.phase }], guard := none }) (v := ?_) rfl (by kernel_rfl) (by kernel_rfl) (by kernel_rfl) (fun _ _ _ h => h) (Or.inl ⟨by rfl, ?_⟩) hS ?_
    rotate_left
    · intro W_ hSW_
      obtain ⟨z4_, zk_⟩ := hSW_
      go_simp
      try with_reducible rfl
    try simp only [Act.put, List.setIfInBounds_toArray, List.set_cons_zero, List.set_cons_succ]
    refine wpAnyH_take (i := 8) (oi := { dst := some 7, op := Op.assign (Operand.const (Value.bool true)), type := 4, pos := "cpu.go:126", after := #[{ on := 7, ground := Ground.chain }, { on := 0, ground := Ground.phase }, { on := 1, ground := Ground.phase }, { on := 2, ground := Ground.phase }, { on := 3, ground := Ground.phase }, { on := 4, ground := Ground.phase }, { on := 5, ground := Ground.phase }, { on := 6, ground := Ground.phase }, { on := 7, ground := Ground.phase }], guard := none }) (v := ?_) rfl (by kernel_rfl) (by kernel_rfl) (by kernel_rfl) (fun _ _ _ h => h) (Or.inl ⟨by rfl, ?_⟩) hS ?_
    rotate_left
    · intro W_ hSW_
      obtain ⟨z4_, zk_⟩ := hSW_
      go_simp
      try with_reducible rfl
    try simp only [Act.put, List.setIfInBounds_toArray, List.set_cons_zero, List.set_cons_succ]
    refine wpAnyH_done (by kernel_rfl) ?_ _
    clear hS
    go_wp2_with fail
    go_ret2
    exact ⟨by simp [cmpC, HVK.out], below_step HBW.out (below_drew (Below.refl _ _))⟩
  by_cases e18 : op = 18
  · subst e18
    obtain ⟨k, rfl⟩ := Int.eq_ofNat_of_zero_le (h18 (by first | rfl | trivial)).1
    have h18' := h18 (by first | rfl | trivial)
    obtain ⟨a0, A1, A4, A6, A11, c1, c4, c6, c11, v5, v7, v8, v9, v10⟩ := p
    obtain ⟨codes, globals, sensors, outputs, chans, addr⟩ := x
    dsimp only at h18'
    obtain ⟨nG, hnG⟩ : ∃ n, globals.length = n := ⟨_, rfl⟩
    obtain ⟨nA, hnA⟩ : ∃ n, addr.length = n := ⟨_, rfl⟩
    rw [hnG, hnA, Int.toNat_natCast] at h18'
    have hg := HR.out.g
    have had := HR.out.ad
    dsimp only at hg had
    rw [hnG] at hg
    rw [hnA] at had
    have hX := HX.out
    dsimp only [XP.arr] at hX
    rw [hnG, hnA] at hX
    have tg : k < nG := by omega
    have ta : k < nA := by omega
    have hkG : (k : Int) < (nG : Int) := by omega
    have hkA : (k : Int) < (nA : Int) := by omega
    obtain ⟨bg, og, rfl, yg⟩ := glob_cell hg tg
    obtain ⟨ba, oa, rfl, ya⟩ := i64_cell had ta
    obtain ⟨ln, hln⟩ : ∃ v, (globals.getD k z96).f1 = v := ⟨_, rfl⟩
    obtain ⟨av, hav⟩ : ∃ v, addr.getD k 0 = v := ⟨_, rfl⟩
    rw [hln] at yg h18'
    rw [hav] at ya
    have HLN := Aside0.mk h18'.2.2.2
    have HYG := Aside0.mk yg
    have HYA := Aside0.mk ya
    have q1 := blk_cell hX 1
    have q6 := blk_cell hX 6
    have HQ1 := Aside0.mk (show W1.cell? ⟨gx, 1, none⟩ = some (.slice (some ⟨bg, og, none⟩) nG c1) from q1)
    have HQ6 := Aside0.mk (show W1.cell? ⟨gx, 6, none⟩ = some (.slice (some ⟨ba, oa, none⟩) nA c6) from q6)
    have HFIN := Aside0.mk (show v18 ⟨codes, globals, sensors, outputs, chans, addr⟩ s b (k : Int) = IntKind.i16.wrap (wrap64 (av + 2 * idxV vb ln)) by unfold v18; dsimp only; rw [Int.toNat_natCast, hav, hln, HV.out.1])
    have hid := idx_small (v := vb) HLN.out
    obtain ⟨w1, w2⟩ := w64_two hid
    clear h18 h18' h20 hg had hX yg ya hln hav q1 q6 hnG hnA hid
    have HID := Aside0.mk (And.intro w1 w2)
    clear w1 w2
    go_enter Tryd.func33, Tryd.ntmps33
    go_wp2_with fail
    have HSS := Aside0.mk (fun W (hB : Below W1.heap.size W1 W) => show W.cell? ⟨g1, 2, none⟩ = some (.int .i64 (b : Int)) ∧ W.cell? ⟨gc, 1 + b, none⟩ = some (.int .i16 vb) ∧ W.cell? ⟨gx, 1, none⟩ = some (.slice (some ⟨bg, og, none⟩) nG c1) ∧ W.cell? ⟨g1, 4, none⟩ = some (.int .i16 (k : Int)) ∧ W.cell? ⟨bg, og + k * 4 + 1, none⟩ = some (.int .i64 ln) from ⟨Kd.cell_heap hB.block HX5.out.2.1, Kd.cell_heap hB.block HXB.out, Kd.cell_heap hB.block HQ1.out, Kd.cell_heap hB.block HX5.out.2.2.2, Kd.cell_heap hB.block HYG.out⟩)
    refine wp_region_held_drew (S := fun W => W.cell? ⟨g1, 2, none⟩ = some (.int .i64 (b : Int)) ∧ W.cell? ⟨gc, 1 + b, none⟩ = some (.int .i16 vb) ∧ W.cell? ⟨gx, 1, none⟩ = some (.slice (some ⟨bg, og, none⟩) nG c1) ∧ W.cell? ⟨g1, 4, none⟩ = some (.int .i16 (k : Int)) ∧ W.cell? ⟨bg, og + k * 4 + 1, none⟩ = some (.int .i64 ln)) (by kernel_rfl) (HSS.out _ (below_drew (Below.refl _ _))) (fun hS => ?_)
    refine wpAnyH_take (i := 0) (oi := { dst := some 94, op := Op.move (Operand.tmp 0), type := 73, pos := "cpu.go:123", after := #[], guard := none }) (v := ?_) rfl (by kernel_rfl) (by kernel_rfl) (by kernel_rfl) (fun _ _ _ h => h) (Or.inl ⟨by rfl, ?_⟩) hS ?_
    rotate_left
    · intro W_ hSW_
      obtain ⟨z2_, zb_, zx_, z4_, zl_⟩ := hSW_
      go_simp
      try with_reducible rfl
    try simp only [Act.put, List.setIfInBounds_toArray, List.set_cons_zero, List.set_cons_succ]
    refine wpAnyH_take (i := 1) (oi := { dst := some 95, op := Op.fieldAddr 72 (Operand.tmp 5) 2, type := 0, pos := "cpu.go:123", after := #[], guard := none }) (v := ?_) rfl (by kernel_rfl) (by kernel_rfl) (by kernel_rfl) (fun _ _ _ h => h) (Or.inl ⟨by rfl, ?_⟩) hS ?_
    rotate_left
    · intro W_ hSW_
      obtain ⟨z2_, zb_, zx_, z4_, zl_⟩ := hSW_
      go_simp
      try with_reducible rfl
    try simp only [Act.put, List.setIfInBounds_toArray, List.set_cons_zero, List.set_cons_succ]
    refine wpAnyH_take (i := 2) (oi := { dst := some 96, op := Op.load 3 (Operand.tmp 95), type := 3, pos := "cpu.go:123", after := #[{ on := 1, ground := Ground.data }], guard := none }) (v := ?_) rfl (by kernel_rfl) (by kernel_rfl) (by kernel_rfl) (fun _ _ _ h => h) (Or.inl ⟨by rfl, ?_⟩) hS ?_
    rotate_left
    · intro W_ hSW_
      obtain ⟨z2_, zb_, zx_, z4_, zl_⟩ := hSW_
      go_simp
      try with_reducible rfl
    try simp only [Act.put, List.setIfInBounds_toArray, List.set_cons_zero, List.set_cons_succ]
    refine wpAnyH_take (i := 3) (oi := { dst := some 97, op := Op.nilCheck (Operand.tmp 94), type := 0, pos := "cpu.go:123", after := #[{ on := 0, ground := Ground.data }], guard := none }) (v := ?_) rfl (by kernel_rfl) (by kernel_rfl) (by kernel_rfl) (fun _ _ _ h => h) (Or.inl ⟨by rfl, ?_⟩) hS ?_
    rotate_left
    · intro W_ hSW_
      obtain ⟨z2_, zb_, zx_, z4_, zl_⟩ := hSW_
      go_simp
      try with_reducible rfl
    try simp only [Act.put, List.setIfInBounds_toArray, List.set_cons_zero, List.set_cons_succ]
    refine wpAnyH_take (i := 4) (oi := { dst := some 98, op := Op.fieldAddr 32 (Operand.tmp 97) 1, type := 0, pos := "cpu.go:123", after := #[{ on := 3, ground := Ground.data }], guard := none }) (v := ?_) rfl (by kernel_rfl) (by kernel_rfl) (by kernel_rfl) (fun _ _ _ h => h) (Or.inl ⟨by rfl, ?_⟩) hS ?_
    rotate_left
    · intro W_ hSW_
      obtain ⟨z2_, zb_, zx_, z4_, zl_⟩ := hSW_
      go_simp
      try with_reducible rfl
    try simp only [Act.put, List.setIfInBounds_toArray, List.set_cons_zero, List.set_cons_succ]
    refine wpAnyH_take (i := 5) (oi := { dst := some 99, op := Op.indexAddr 23 (Operand.tmp 98) (Operand.tmp 96), type := 0, pos := "cpu.go:123", after := #[{ on := 4, ground := Ground.data }, { on := 2, ground := Ground.data }], guard := none }) (v := ?_) rfl (by kernel_rfl) (by kernel_rfl) (by kernel_rfl) (fun _ _ _ h => h) (Or.inl ⟨by rfl, ?_⟩) hS ?_
    rotate_left
    · intro W_ hSW_
      obtain ⟨z2_, zb_, zx_, z4_, zl_⟩ := hSW_
      go_simp
      try with_reducible rfl
    try simp only [Act.put, List.setIfInBounds_toArray, List.set_cons_zero, List.set_cons_succ]
    refine wpAnyH_take (i := 6) (oi := { dst := some 100, op := Op.load 22 (Operand.tmp 99), type := 22, pos := "cpu.go:123", after := #[{ on := 5, ground := Ground.data }], guard := none }) (v := ?_) rfl (by kernel_rfl) (by kernel_rfl) (by kernel_rfl) (fun _ _ _ h => h) (Or.inl ⟨by rfl, ?_⟩) hS ?_
    rotate_left
    · intro W_ hSW_
      obtain ⟨z2_, zb_, zx_, z4_, zl_⟩ := hSW_
      go_simp
      try with_reducible rfl
    try simp only [Act.put, List.setIfInBounds_toArray, List.set_cons_zero, List.set_cons_succ]
    refine wpAnyH_take (i := 7) (oi := { dst := some 101, op := Op.move (Operand.tmp 1), type := 56, pos := "cpu.go:123", after := #[], guard := none }) (v := ?_) rfl (by kernel_rfl) (by kernel_rfl) (by kernel_rfl) (fun _ _ _ h => h) (Or.inl ⟨by rfl, ?_⟩) hS ?_
    rotate_left
    · intro W_ hSW_
      obtain ⟨z2_, zb_, zx_, z4_, zl_⟩ := hSW_
      go_simp
      try with_reducible rfl
    try simp only [Act.put, List.setIfInBounds_toArray, List.set_cons_zero, List.set_cons_succ]
    refine wpAnyH_take (i := 8) (oi := { dst := some 102, op := Op.nilCheck (Operand.tmp 101), type := 0, pos := "cpu.go:123", after := #[{ on := 7, ground := Ground.data }], guard := none }) (v := ?_) rfl (by kernel_rfl) (by kernel_rfl) (by kernel_rfl) (fun _ _ _ h => h) (Or.inl ⟨by rfl, ?_⟩) hS ?_
    rotate_left
    · intro W_ hSW_
      obtain ⟨z2_, zb_, zx_, z4_, zl_⟩ := hSW_
      go_simp
      try with_reducible rfl
    try simp only [Act.put, List.setIfInBounds_toArray, List.set_cons_zero, List.set_cons_succ]
    refine wpAnyH_take (i := 9) (oi := { dst := some 103, op := Op.fieldAddr 47 (Operand.tmp 102) 1, type := 0, pos := "cpu.go:123", after := #[{ on := 8, ground := Ground.data }], guard := none }) (v := ?_) rfl (by kernel_rfl) (by kernel_rfl) (by kernel_rfl) (fun _ _ _ h => h) (Or.inl ⟨by rfl, ?_⟩) hS ?_
    rotate_left
    · intro W_ hSW_
      obtain ⟨z2_, zb_, zx_, z4_, zl_⟩ := hSW_
      go_simp
      try with_reducible rfl
    try simp only [Act.put, List.setIfInBounds_toArray, List.set_cons_zero, List.set_cons_succ]
    refine wpAnyH_take (i := 10) (oi := { dst := some 104, op := Op.load 42 (Operand.tmp 103), type := 42, pos := "cpu.go:123", after := #[{ on := 9, ground := Ground.data }], guard := none }) (v := ?_) rfl (by kernel_rfl) (by kernel_rfl) (by kernel_rfl) (fun _ _ _ h => h) (Or.inl ⟨by rfl, ?_⟩) hS ?_
    rotate_left
    · intro W_ hSW_
      obtain ⟨z2_, zb_, zx_, z4_, zl_⟩ := hSW_
      go_simp
      try with_reducible rfl
    try simp only [Act.put, List.setIfInBounds_toArray, List.set_cons_zero, List.set_cons_succ]
    refine wpAnyH_take (i := 11) (oi := { dst := some 105, op := Op.fieldAddr 72 (Operand.tmp 5) 4, type := 0, pos := "cpu.go:123", after := #[], guard := none }) (v := ?_) rfl (by kernel_rfl) (by kernel_rfl) (by kernel_rfl) (fun _ _ _ h => h) (Or.inl ⟨by rfl, ?_⟩) hS ?_
    rotate_left
    · intro W_ hSW_
      obtain ⟨z2_, zb_, zx_, z4_, zl_⟩ := hSW_
      go_simp
      try with_reducible rfl
    try simp only [Act.put, List.setIfInBounds_toArray, List.set_cons_zero, List.set_cons_succ]
    refine wpAnyH_take (i := 12) (oi := { dst := some 106, op := Op.load 22 (Operand.tmp 105), type := 22, pos := "cpu.go:123", after := #[{ on := 11, ground := Ground.data }], guard := none }) (v := ?_) rfl (by kernel_rfl) (by kernel_rfl) (by kernel_rfl) (fun _ _ _ h => h) (Or.inl ⟨by rfl, ?_⟩) hS ?_
    rotate_left
    · intro W_ hSW_
      obtain ⟨z2_, zb_, zx_, z4_, zl_⟩ := hSW_
      go_simp
      try with_reducible rfl
    try simp only [Act.put, List.setIfInBounds_toArray, List.set_cons_zero, List.set_cons_succ]
    refine wpAnyH_take (i := 13) (oi := { dst := some 107, op := Op.indexAddr 42 (Operand.tmp 104) (Operand.tmp 106), type := 0, pos := "cpu.go:123", after := #[{ on := 10, ground := Ground.data }, { on := 12, ground := Ground.data }], guard := none }) (v := ?_) rfl (by kernel_rfl) (by kernel_rfl) (by kernel_rfl) (fun _ _ _ h => h) (Or.inl ⟨by rfl, ?_⟩) hS ?_
    rotate_left
    · intro W_ hSW_
      obtain ⟨z2_, zb_, zx_, z4_, zl_⟩ := hSW_
      go_simp
      try with_reducible rfl
    try simp only [Act.put, List.setIfInBounds_toArray, List.set_cons_zero, List.set_cons_succ]
    refine wpAnyH_take (i := 14) (oi := { dst := some 108, op := Op.fieldAddr 96 (Operand.tmp 107) 1, type := 0, pos := "cpu.go:123", after := #[{ on := 13, ground := Ground.data }], guard := none }) (v := ?_) rfl (by kernel_rfl) (by kernel_rfl) (by kernel_rfl) (fun _ _ _ h => h) (Or.inl ⟨by rfl, ?_⟩) hS ?_
    rotate_left
    · intro W_ hSW_
      obtain ⟨z2_, zb_, zx_, z4_, zl_⟩ := hSW_
      go_simp
      try with_reducible rfl
    try simp only [Act.put, List.setIfInBounds_toArray, List.set_cons_zero, List.set_cons_succ]
    refine wpAnyH_take (i := 15) (oi := { dst := some 109, op := Op.load 3 (Operand.tmp 108), type := 3, pos := "cpu.go:123", after := #[{ on := 14, ground := Ground.data }], guard := none }) (v := ?_) rfl (by kernel_rfl) (by kernel_rfl) (by kernel_rfl) (fun _ _ _ h => h) (Or.inl ⟨by rfl, ?_⟩) hS ?_
    rotate_left
    · intro W_ hSW_
      obtain ⟨z2_, zb_, zx_, z4_, zl_⟩ := hSW_
      go_simp
      try with_reducible rfl
    try simp only [Act.put, List.setIfInBounds_toArray, List.set_cons_zero, List.set_cons_succ]
    refine wpAnyH_ready (rs := [16]) (by kernel_rfl) (by simp) ?_
    refine AllReadyH.cons (o := { dst := some 110, op := Op.call { callee := Callee.value (Operand.func 60), args := #[Operand.tmp 100, Operand.tmp 109], argTypes := #[22, 3] }, type := 93, pos := "cpu.go:123", after := #[{ on := 6, ground := Ground.data }, { on := 15, ground := Ground.data }], guard := none }) rfl (fun K_ hK_ => ?_) AllReadyH.nil
    go_simp
    refine (word_Index.calls vb ln _ 0 _ (widx_f HLN.out)).mono ?_
    rintro e w4 ⟨rfl, hd4⟩
    have HB4 := Aside0.mk (below_step (below_drew (Below.refl W1.heap.size W1)) hd4.below)
    clear hd4
    refine hK_.out _ _ (HSS.out _ HB4.out) (fun hS_ => ?_)
    clear hK_ K_ hS
    have hS := hS_
    clear hS_
    try simp only [Act.put, List.setIfInBounds_toArray, List.set_cons_zero, List.set_cons_succ]
    refine wpAnyH_take (i := 17) (oi := { dst := some 93, op := Op.move (Operand.tmp 110), type := 93, pos := "cpu.go:123", after := #[{ on := 16, ground := Ground.data }], guard := none }) (v := ?_) rfl (by kernel_rfl) (by kernel_rfl) (by kernel_rfl) (fun _ _ _ h => h) (Or.inl ⟨by rfl, ?_⟩) hS ?_
    rotate_left
    · intro W_ hSW_
      obtain ⟨z2_, zb_, zx_, z4_, zl_⟩ := hSW_
      go_simp
      try with_reducible rfl
    try simp only [Act.put, List.setIfInBounds_toArray, List.set_cons_zero, List.set_cons_succ]
    refine wpAnyH_take (i := 18) (oi := { dst := some 111, op := Op.extract (Operand.tmp 93) 0, type := 3, pos := "cpu.go:123", after := #[{ on := 17, ground := Ground.data }], guard := none }) (v := ?_) rfl (by kernel_rfl) (by kernel_rfl) (by kernel_rfl) (fun _ _ _ h => h) (Or.inl ⟨by rfl, ?_⟩) hS ?_
    rotate_left
    · intro W_ hSW_
      obtain ⟨z2_, zb_, zx_, z4_, zl_⟩ := hSW_
      go_simp
      try with_reducible rfl
    try simp only [Act.put, List.setIfInBounds_toArray, List.set_cons_zero, List.set_cons_succ]
    refine wpAnyH_take (i := 19) (oi := { dst := some 112, op := Op.extract (Operand.tmp 93) 1, type := 34, pos := "cpu.go:123", after := #[{ on := 17, ground := Ground.data }, { on := 20, ground := Ground.gcOnly Departure.lateStores }], guard := none }) (v := ?_) rfl (by kernel_rfl) (by kernel_rfl) (by kernel_rfl) (fun _ _ _ h => h) (Or.inl ⟨by rfl, ?_⟩) hS ?_
    rotate_left
    · intro W_ hSW_
      obtain ⟨z2_, zb_, zx_, z4_, zl_⟩ := hSW_
      go_simp
      try with_reducible rfl
    try simp only [Act.put, List.setIfInBounds_toArray, List.set_cons_zero, List.set_cons_succ]
    refine wpAnyH_take (i := 20) (oi := { dst := some 14, op := Op.assign (Operand.tmp 111), type := 3, pos := "cpu.go:123", after := #[{ on := 18, ground := Ground.data }, { on := 16, ground := Ground.chain }, { on := 0, ground := Ground.phase }, { on := 1, ground := Ground.phase }, { on := 2, ground := Ground.phase }, { on := 3, ground := Ground.phase }, { on := 4, ground := Ground.phase }, { on := 5, ground := Ground.phase }, { on := 6, ground := Ground.phase }, { on := 7, ground := Ground.phase }, { on := 8, ground := Ground.phase }, { on := 9, ground := Ground.phase }, { on := 10, ground := Ground.phase }, { on := 11, ground := Ground.phase }, { on := 12, ground := Ground.phase }, { on := 13, ground := Ground.phase }, { on := 14, ground := Ground.phase }, { on := 15, ground := Ground.phase }, { on := 16, ground := Ground.phase }, { on := 17, ground := Ground.phase }, { on := 18, ground := Ground.phase }, { on := 19, ground := Ground.textOnly Departure.lateStores }], guard := none }) (v := ?_) rfl (by kernel_rfl) (by kernel_rfl) (by kernel_rfl) (fun _ _ _ h => h) (Or.inl ⟨by rfl, ?_⟩) hS ?_
    rotate_left
    · intro W_ hSW_
      obtain ⟨z2_, zb_, zx_, z4_, zl_⟩ := hSW_
      go_simp
      try with_reducible rfl
    try simp only [Act.put, List.setIfInBounds_toArray, List.set_cons_zero, List.set_cons_succ]
    refine wpAnyH_take (i := 21) (oi := { dst := some 15, op := Op.assign (Operand.tmp 112), type := 34, pos := "cpu.go:123", after := #[{ on := 19, ground := Ground.data }, { on := 20, ground := Ground.chain }, { on := 0, ground := Ground.phase }, { on := 1, ground := Ground.phase }, { on := 2, ground := Ground.phase }, { on := 3, ground := Ground.phase }, { on := 4, ground := Ground.phase }, { on := 5, ground := Ground.phase }, { on := 6, ground := Ground.phase }, { on := 7, ground := Ground.phase }, { on := 8, ground := Ground.phase }, { on := 9, ground := Ground.phase }, { on := 10, ground := Ground.phase }, { on := 11, ground := Ground.phase }, { on := 12, ground := Ground.phase }, { on := 13, ground := Ground.phase }, { on := 14, ground := Ground.phase }, { on := 15, ground := Ground.phase }, { on := 16, ground := Ground.phase }, { on := 17, ground := Ground.phase }, { on := 18, ground := Ground.phase }, { on := 19, ground := Ground.phase }, { on := 20, ground := Ground.phase }], guard := none }) (v := ?_) rfl (by kernel_rfl) (by kernel_rfl) (by kernel_rfl) (fun _ _ _ h => h) (Or.inl ⟨by rfl, ?_⟩) hS ?_
    rotate_left
    · intro W_ hSW_
      obtain ⟨z2_, zb_, zx_, z4_, zl_⟩ := hSW_
      go_simp
      try with_reducible rfl
    try simp only [Act.put, List.setIfInBounds_toArray, List.set_cons_zero, List.set_cons_succ]
    refine wpAnyH_done (by kernel_rfl) ?_ _
    clear hS
    obtain ⟨iv, hiv⟩ : ∃ v, idxV vb ln = v := ⟨_, rfl⟩
    rw [hiv]
    have hid := HID.out
    have hfin := HFIN.out
    rw [hiv] at hid hfin
    have HFIN2 := Aside0.mk hfin
    obtain ⟨w1, w2⟩ := hid
    clear hiv hfin HFIN HID
    go_wp2_with fail
    have HSS2 := Aside0.mk (fun W (hB : Below W1.heap.size W1 W) => show W.cell? ⟨gx, 6, none⟩ = some (.slice (some ⟨ba, oa, none⟩) nA c6) ∧ W.cell? ⟨g1, 4, none⟩ = some (.int .i16 (k : Int)) ∧ W.cell? ⟨ba, oa + k, none⟩ = some (.int .i64 av) from ⟨Kd.cell_heap hB.block HQ6.out, Kd.cell_heap hB.block HX5.out.2.2.2, Kd.cell_heap hB.block HYA.out⟩)
    refine wp_region_held_drew (S := fun W => W.cell? ⟨gx, 6, none⟩ = some (.slice (some ⟨ba, oa, none⟩) nA c6) ∧ W.cell? ⟨g1, 4, none⟩ = some (.int .i16 (k : Int)) ∧ W.cell? ⟨ba, oa + k, none⟩ = some (.int .i64 av)) (by kernel_rfl) (HSS2.out _ (below_drew HB4.out)) (fun hS => ?_)
    refine wpAnyH_take (i := 0) (oi := { dst := some 113, op := Op.move (Operand.tmp 1), type := 56, pos := "cpu.go:124", after := #[], guard := none }) (v := ?_) rfl (by kernel_rfl) (by kernel_rfl) (by kernel_rfl) (fun _ _ _ h => h) (Or.inl ⟨by rfl, ?_⟩) hS ?_
    rotate_left
    · intro W_ hSW_
      obtain ⟨zx_, z4_, za_⟩ := hSW_
      go_simp
      try with_reducible rfl
    try simp only [Act.put, List.setIfInBounds_toArray, List.set_cons_zero, List.set_cons_succ]
    refine wpAnyH_take (i := 1) (oi := { dst := some 114, op := Op.nilCheck (Operand.tmp 113), type := 0, pos := "cpu.go:124", after := #[{ on := 0, ground := Ground.data }], guard := none }) (v := ?_) rfl (by kernel_rfl) (by kernel_rfl) (by kernel_rfl) (fun _ _ _ h => h) (Or.inl ⟨by rfl, ?_⟩) hS ?_
    rotate_left
    · intro W_ hSW_
      obtain ⟨zx_, z4_, za_⟩ := hSW_
      go_simp
      try with_reducible rfl
    try simp only [Act.put, List.setIfInBounds_toArray, List.set_cons_zero, List.set_cons_succ]
    refine wpAnyH_take (i := 2) (oi := { dst := some 115, op := Op.fieldAddr 47 (Operand.tmp 114) 6, type := 0, pos := "cpu.go:124", after := #[{ on := 1, ground := Ground.data }], guard := none }) (v := ?_) rfl (by kernel_rfl) (by kernel_rfl) (by kernel_rfl) (fun _ _ _ h => h) (Or.inl ⟨by rfl, ?_⟩) hS ?_
    rotate_left
    · intro W_ hSW_
      obtain ⟨zx_, z4_, za_⟩ := hSW_
      go_simp
      try with_reducible rfl
    try simp only [Act.put, List.setIfInBounds_toArray, List.set_cons_zero, List.set_cons_succ]
    refine wpAnyH_take (i := 3) (oi := { dst := some 116, op := Op.load 27 (Operand.tmp 115), type := 27, pos := "cpu.go:124", after := #[{ on := 2, ground := Ground.data }], guard := none }) (v := ?_) rfl (by kernel_rfl) (by kernel_rfl) (by kernel_rfl) (fun _ _ _ h => h) (Or.inl ⟨by rfl, ?_⟩) hS ?_
    rotate_left
    · intro W_ hSW_
      obtain ⟨zx_, z4_, za_⟩ := hSW_
      go_simp
      try with_reducible rfl
    try simp only [Act.put, List.setIfInBounds_toArray, List.set_cons_zero, List.set_cons_succ]
    refine wpAnyH_take (i := 4) (oi := { dst := some 117, op := Op.fieldAddr 72 (Operand.tmp 5) 4, type := 0, pos := "cpu.go:124", after := #[], guard := none }) (v := ?_) rfl (by kernel_rfl) (by kernel_rfl) (by kernel_rfl) (fun _ _ _ h => h) (Or.inl ⟨by rfl, ?_⟩) hS ?_
    rotate_left
    · intro W_ hSW_
      obtain ⟨zx_, z4_, za_⟩ := hSW_
      go_simp
      try with_reducible rfl
    try simp only [Act.put, List.setIfInBounds_toArray, List.set_cons_zero, List.set_cons_succ]
    refine wpAnyH_take (i := 5) (oi := { dst := some 118, op := Op.load 22 (Operand.tmp 117), type := 22, pos := "cpu.go:124", after := #[{ on := 4, ground := Ground.data }], guard := none }) (v := ?_) rfl (by kernel_rfl) (by kernel_rfl) (by kernel_rfl) (fun _ _ _ h => h) (Or.inl ⟨by rfl, ?_⟩) hS ?_
    rotate_left
    · intro W_ hSW_
      obtain ⟨zx_, z4_, za_⟩ := hSW_
      go_simp
      try with_reducible rfl
    try simp only [Act.put, List.setIfInBounds_toArray, List.set_cons_zero, List.set_cons_succ]
    refine wpAnyH_take (i := 6) (oi := { dst := some 119, op := Op.indexAddr 27 (Operand.tmp 116) (Operand.tmp 118), type := 0, pos := "cpu.go:124", after := #[{ on := 3, ground := Ground.data }, { on := 5, ground := Ground.data }], guard := none }) (v := ?_) rfl (by kernel_rfl) (by kernel_rfl) (by kernel_rfl) (fun _ _ _ h => h) (Or.inl ⟨by rfl, ?_⟩) hS ?_
    rotate_left
    · intro W_ hSW_
      obtain ⟨zx_, z4_, za_⟩ := hSW_
      go_simp
      try with_reducible rfl
    try simp only [Act.put, List.setIfInBounds_toArray, List.set_cons_zero, List.set_cons_succ]
    refine wpAnyH_take (i := 7) (oi := { dst := some 120, op := Op.load 3 (Operand.tmp 119), type := 3, pos := "cpu.go:124", after := #[{ on := 6, ground := Ground.data }], guard := none }) (v := ?_) rfl (by kernel_rfl) (by kernel_rfl) (by kernel_rfl) (fun _ _ _ h => h) (Or.inl ⟨by rfl, ?_⟩) hS ?_
    rotate_left
    · intro W_ hSW_
      obtain ⟨zx_, z4_, za_⟩ := hSW_
      go_simp
      try with_reducible rfl
    try simp only [Act.put, List.setIfInBounds_toArray, List.set_cons_zero, List.set_cons_succ]
    refine wpAnyH_take (i := 8) (oi := { dst := some 121, op := Op.move (Operand.tmp 14), type := 3, pos := "cpu.go:124", after := #[], guard := none }) (v := ?_) rfl (by kernel_rfl) (by kernel_rfl) (by kernel_rfl) (fun _ _ _ h => h) (Or.inl ⟨by rfl, ?_⟩) hS ?_
    rotate_left
    · intro W_ hSW_
      obtain ⟨zx_, z4_, za_⟩ := hSW_
      go_simp
      try with_reducible rfl
    try simp only [Act.put, List.setIfInBounds_toArray, List.set_cons_zero, List.set_cons_succ]
    refine wpAnyH_take (i := 9) (oi := { dst := some 122, op := Op.binOp BinOp.mul 3 (Operand.const (Value.int IntKind.i64 2)) (Operand.tmp 121) 3, type := 3, pos := "cpu.go:124", after := #[{ on := 8, ground := Ground.data }], guard := none }) (v := ?_) rfl (by kernel_rfl) (by kernel_rfl) (by kernel_rfl) (fun _ _ _ h => h) (Or.inl ⟨by rfl, ?_⟩) hS ?_
    rotate_left
    · intro W_ hSW_
      obtain ⟨zx_, z4_, za_⟩ := hSW_
      go_simp
      try with_reducible rfl
    try simp only [Act.put, List.setIfInBounds_toArray, List.set_cons_zero, List.set_cons_succ]
    refine wpAnyH_take (i := 10) (oi := { dst := some 123, op := Op.binOp BinOp.add 3 (Operand.tmp 120) (Operand.tmp 122) 3, type := 3, pos := "cpu.go:124", after := #[{ on := 7, ground := Ground.data }, { on := 9, ground := Ground.data }], guard := none }) (v := ?_) rfl (by kernel_rfl) (by kernel_rfl) (by kernel_rfl) (fun _ _ _ h => h) (Or.inl ⟨by rfl, ?_⟩) hS ?_
    rotate_left
    · intro W_ hSW_
      obtain ⟨zx_, z4_, za_⟩ := hSW_
      go_simp
      try with_reducible rfl
    try simp only [Act.put, List.setIfInBounds_toArray, List.set_cons_zero, List.set_cons_succ]
    refine wpAnyH_take (i := 11) (oi := { dst := some 124, op := Op.convert 3 22 (Operand.tmp 123), type := 22, pos := "cpu.go:124", after := #[{ on := 10, ground := Ground.data }], guard := none }) (v := ?_) rfl (by kernel_rfl) (by kernel_rfl) (by kernel_rfl) (fun _ _ _ h => h) (Or.inl ⟨by rfl, ?_⟩) hS ?_
    rotate_left
    · intro W_ hSW_
      obtain ⟨zx_, z4_, za_⟩ := hSW_
      go_simp
      try with_reducible rfl
    try simp only [Act.put, List.setIfInBounds_toArray, List.set_cons_zero, List.set_cons_succ]
    refine wpAnyH_take (i := 12) (oi := { dst := some 6, op := Op.assign (Operand.tmp 124), type := 22, pos := "cpu.go:124", after := #[{ on := 11, ground := Ground.data }, { on := 0, ground := Ground.phase }, { on := 1, ground := Ground.phase }, { on := 2, ground := Ground.phase }, { on := 3, ground := Ground.phase }, { on := 4, ground := Ground.phase }, { on := 5, ground := Ground.phase }, { on := 6, ground := Ground.phase }, { on := 7, ground := Ground.phase }, { on := 8, ground := Ground.phase }, { on := 9, ground := Ground.phase }, { on := 10, ground := Ground.phase }, { on := 11, ground := Ground.phase }], guard := none }) (v := ?_) rfl (by kernel_rfl) (by kernel_rfl) (by kernel_rfl) (fun _ _ _ h => h) (Or.inl ⟨by rfl, ?_⟩) hS ?_
    rotate_left
    · intro W_ hSW_
      obtain ⟨zx_, z4_, za_⟩ := hSW_
      go_simp
      try with_reducible rfl
    try simp only [Act.put, List.setIfInBounds_toArray, List.set_cons_zero, List.set_cons_succ]
    refine wpAnyH_take (i := 13) (oi := { dst := some 7, op := Op.assign (Operand.const (Value.bool true)), type := 4, pos := "cpu.go:124", after := #[{ on := 12, ground := Ground.chain }, { on := 0, ground := Ground.phase }, { on := 1, ground := Ground.phase }, { on := 2, ground := Ground.phase }, { on := 3, ground := Ground.phase }, { on := 4, ground := Ground.phase }, { on := 5, ground := Ground.phase }, { on := 6, ground := Ground.phase }, { on := 7, ground := Ground.phase }, { on := 8, ground := Ground.phase }, { on := 9, ground := Ground.phase }, { on := 10, ground := Ground.phase }, { on := 11, ground := Ground.phase }, { on := 12, ground := Ground.phase }], guard := none }) (v := ?_) rfl (by kernel_rfl) (by kernel_rfl) (by kernel_rfl) (fun _ _ _ h => h) (Or.inl ⟨by rfl, ?_⟩) hS ?_
    rotate_left
    · intro W_ hSW_
      obtain ⟨zx_, z4_, za_⟩ := hSW_
      go_simp
      try with_reducible rfl
    try simp only [Act.put, List.setIfInBounds_toArray, List.set_cons_zero, List.set_cons_succ]
    refine wpAnyH_done (by kernel_rfl) ?_ _
    clear hS
    go_wp2_with fail
    go_ret2
    exact ⟨by simp [cmpC, HFIN2.out, i64_w], below_step HBW.out (below_drew HB4.out)⟩
  have b2 : (op == 2) = false := beq_eq_false_iff_ne.2 e2
  have b3 : (op == 3) = false := beq_eq_false_iff_ne.2 e3
  have b4 : (op == 4) = false := beq_eq_false_iff_ne.2 e4
  have b5 : (op == 5) = false := beq_eq_false_iff_ne.2 e5
  have b6 : (op == 6) = false := beq_eq_false_iff_ne.2 e6
  have b7 : (op == 7) = false := beq_eq_false_iff_ne.2 e7
  have b8 : (op == 8) = false := beq_eq_false_iff_ne.2 e8
  have b9 : (op == 9) = false := beq_eq_false_iff_ne.2 e9
  have b10 : (op == 10) = false := beq_eq_false_iff_ne.2 e10
  have b11 : (op == 11) = false := beq_eq_false_iff_ne.2 e11
  have b12 : (op == 12) = false := beq_eq_false_iff_ne.2 e12
  have b13 : (op == 13) = false := beq_eq_false_iff_ne.2 e13
  have b20 : (op == 20) = false := beq_eq_false_iff_ne.2 e20
  have b18 : (op == 18) = false := beq_eq_false_iff_ne.2 e18
  clear h18 h20
  go_enter Tryd.func33, Tryd.ntmps33
  go_wp2_with fail
  go_ret2
  exact ⟨by simp [cmpC, e2, e3, e4, e5, e6, e7, e8, e9, e10, e11, e12, e13, e20, e18], HBW.out⟩
end Go.Proofs.YtleafbihfmiidaaDoor.QAl
