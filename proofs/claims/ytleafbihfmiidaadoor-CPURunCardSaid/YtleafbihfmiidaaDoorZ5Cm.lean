/- What this claim needs of Cm. Parted by prune.py. -/
import Derived.Test.YtleafbihfmiidaaDoorZ5Ac
namespace Go.Proofs.YtleafbihfmiidaaDoor.QAl
open Go.RowKit Go.Proofs.YtleafbihfmiidaaDoorW.PrintWords Go.Proofs.YtleafbihfmiidaaDoorW.PrintLast Go.Proofs.YtleafbihfmiidaaDoorW.PrintMore Go.Proofs.YtleafbihfmiidaaDoor.Sl
set_option linter.unusedVariables false
set_option linter.unusedSimpArgs false
/-- The program's table of operators. -/
def binT : List Int := [0, 0, 0, 0, 0, 0, 3, 4, 5, 6, 7, 8, 10, 11]
def GT (w : World) : Prop := ∀ i : Nat, i < 14 → w.cell? ⟨0, i, none⟩ = some (.int .i64 (binT.getD i 0))
theorem GT.below {w w' : World} (h : GT w) (hb : Below w.heap.size w w') : GT w' := fun i hi => Kd.cell_heap hb.block (h i hi)
def v18 (x : Img) (s : Cs) (b : Nat) (im : Int) : Int := IntKind.i16.wrap (wrap64 (x.addr.getD im.toNat 0 + 2 * idxV (s.r b) (x.globals.getD im.toNat z96).f1))
/-- What compute answers. -/
def cmpC (x : Img) (s : Cs) (op : Int) (a b cc : Nat) (im : Int) : Int × Bool :=
  if op = 2 then (im, true) else if op = 3 then (s.r b, true) else if op = 4 then (negV (s.r b), true) else if op = 5 then (notV (s.r b), true)
  else if op = 6 then (binV 3 (s.r b) (s.r cc), true) else if op = 7 then (binV 4 (s.r b) (s.r cc), true) else if op = 8 then (binV 5 (s.r b) (s.r cc), true) else if op = 9 then (binV 6 (s.r b) (s.r cc), true)
  else if op = 10 then (binV 7 (s.r b) (s.r cc), true) else if op = 11 then (binV 8 (s.r b) (s.r cc), true) else if op = 12 then (binV 10 (s.r b) (s.r cc), true) else if op = 13 then (binV 11 (s.r b) (s.r cc), true)
  else if op = 18 then (v18 x s b im, true) else if op = 20 then (s.r (8 + im.toNat), true) else (0, false)
theorem w64_two {k : Int} (h : 0 ≤ k ∧ k < 65536) : wrap64 (2 * k) = 2 * k ∧ IntKind.i64.wrap (2 * k) = 2 * k := by
  rw [i64_w]
  unfold wrap64
  omega
set_option maxRecDepth 100000 in
set_option maxHeartbeats 16000000 in
theorem compute_call {w : World} {gc gx : Nat} {s : Cs} {p : XP} {x : Img} (hc : w.heap[gc]? = some (.cells s.cells 32 (0, 0))) (hs : s.Ok) (hx : w.heap[gx]? = some (.cells (p.arr x) 47 (0, 0))) (hr : XR p x w) (hG : GT w) (op : Int) {a b cc : Nat} {im : Int} (ha : a < 8) (hb : b < 8) (hcc : cc < 8) (hi : S16 im)
    (h20 : op = 20 → 0 ≤ im ∧ im < 64) (h18 : op = 18 → 0 ≤ im ∧ im < (x.globals.length : Int) ∧ im < (x.addr.length : Int) ∧ 1 ≤ (x.globals.getD im.toNat z96).f1) :
    Calls Tryd.prog 33 #[.pointer (some ⟨gc, 0, none⟩), .pointer (some ⟨gx, 0, none⟩), iV op a b cc im] w fun e w' => e = .returned (.tuple #[.int .i16 (cmpC x s op a b cc im).1, .bool (cmpC x s op a b cc im).2]) ∧ Below w.heap.size w w' := by
  obtain ⟨g1, hg1⟩ : ∃ g1, w.heap.size = g1 := ⟨_, rfl⟩
  have hM := (Mem.start w).new_ (iO op a b cc im) hg1
  have HG := Aside0.mk hg1
  have hgc : gc < w.heap.size := blk_lt hc
  have hgx : gx < w.heap.size := blk_lt hx
  have hg0 : 0 < w.heap.size := World.block_lt_of_cell? w ⟨0, 0, none⟩ (hG 0 (by decide))
  obtain ⟨W1, hW1⟩ : ∃ W1, W1 = w.alloc (iO op a b cc im) := ⟨_, rfl⟩
  rw [← hW1] at hM
  have HM := Aside0.mk hM
  have HC := Aside0.mk (show W1.heap[gc]? = some (.cells s.cells 32 (0, 0)) by rw [hM.below.block gc hgc]; exact hc)
  have HX := Aside0.mk (show W1.heap[gx]? = some (.cells (p.arr x) 47 (0, 0)) by rw [hM.below.block gx hgx]; exact hx)
  have HR := Aside0.mk (hr.below hM.below)
  have HGT := Aside0.mk (hG.below hM.below)
  have HW1 := Aside0.mk hW1
  have HSO := Aside0.mk hs
  have HI := Aside0.mk hi
  have ha' : (a : Int) < 8 := by omega
  have hb' : (b : Int) < 8 := by omega
  have hcc' : (cc : Int) < 8 := by omega
  have HAB := Aside0.mk (And.intro ha (And.intro hb hcc))
  have x0 := blk_cell hM.get 0
  have x1 := blk_cell hM.get 1
  have x2 := blk_cell hM.get 2
  have x3 := blk_cell hM.get 3
  have x4 := blk_cell hM.get 4
  have HX5 := Aside0.mk (And.intro x0 (And.intro x2 (And.intro x3 x4)))
  have xb := cpu_r HC.out hs (i := b) (by omega)
  have xc := cpu_r HC.out hs (i := cc) (by omega)
  obtain ⟨vb, hvb⟩ : ∃ v, s.r b = v := ⟨_, rfl⟩
  obtain ⟨vc, hvc⟩ : ∃ v, s.r cc = v := ⟨_, rfl⟩
  have HVB := Aside0.mk (show S16 vb by rw [← hvb]; exact hs.r b)
  have HVC := Aside0.mk (show S16 vc by rw [← hvc]; exact hs.r cc)
  have HXB := Aside0.mk (show W1.cell? ⟨gc, 1 + b, none⟩ = some (.int .i16 vb) by rw [← hvb]; exact xb)
  have HXC := Aside0.mk (show W1.cell? ⟨gc, 1 + cc, none⟩ = some (.int .i16 vc) by rw [← hvc]; exact xc)
  have HV := Aside0.mk (And.intro hvb hvc)
  clear hc hs hx hr hG hM hi ha hb hcc xb xc hvb hvc hgc hgx hg0
  have hW1' : w.alloc (.cells #[.int .i64 op, .int .i64 (a : Int), .int .i64 (b : Int), .int .i64 (cc : Int), .int .i16 im] 72) = W1 := HW1.out.symm
  clear hW1
  have HBW := Aside0.mk HM.out.below
  by_cases e2 : op = 2
  · subst e2
    go_enter Tryd.func33, Tryd.ntmps33
    go_wp2_with fail
    go_ret2
    exact ⟨by simp [cmpC], HBW.out⟩
  by_cases e3 : op = 3
  · subst e3
    go_enter Tryd.func33, Tryd.ntmps33
    go_wp2_with fail
    have HSS := Aside0.mk (fun W (hB : Below W1.heap.size W1 W) => show W.cell? ⟨g1, 2, none⟩ = some (.int .i64 (b : Int)) ∧ W.cell? ⟨gc, 1 + b, none⟩ = some (.int .i16 vb) from ⟨Kd.cell_heap hB.block HX5.out.2.1, Kd.cell_heap hB.block HXB.out⟩)
    refine wp_region_held_drew (S := fun W => W.cell? ⟨g1, 2, none⟩ = some (.int .i64 (b : Int)) ∧ W.cell? ⟨gc, 1 + b, none⟩ = some (.int .i16 vb)) (by kernel_rfl) (HSS.out _ (below_drew (Below.refl _ _))) (fun hS => ?_)
    refine tkH (i := 0) (N := some 24) (v := ?_) rfl rfl (by kernel_rfl) (by kernel_rfl) (by kernel_rfl) (fun _ _ _ h => h) (Or.inl ⟨by rfl, ?_⟩) hS ?_
    rotate_left
    · intro W_ hSW_
      obtain ⟨z2_, zb_⟩ := hSW_
      go_simp
      try with_reducible rfl
    try simp only [Act.put, List.setIfInBounds_toArray, List.set_cons_zero, List.set_cons_succ]
    refine tkH (i := 1) (N := some 25) (v := ?_) rfl rfl (by kernel_rfl) (by kernel_rfl) (by kernel_rfl) (fun _ _ _ h => h) (Or.inl ⟨by rfl, ?_⟩) hS ?_
    rotate_left
    · intro W_ hSW_
      obtain ⟨z2_, zb_⟩ := hSW_
      go_simp
      try with_reducible rfl
    try simp only [Act.put, List.setIfInBounds_toArray, List.set_cons_zero, List.set_cons_succ]
    refine tkH (i := 2) (N := some 26) (v := ?_) rfl rfl (by kernel_rfl) (by kernel_rfl) (by kernel_rfl) (fun _ _ _ h => h) (Or.inl ⟨by rfl, ?_⟩) hS ?_
    rotate_left
    · intro W_ hSW_
      obtain ⟨z2_, zb_⟩ := hSW_
      go_simp
      try with_reducible rfl
    try simp only [Act.put, List.setIfInBounds_toArray, List.set_cons_zero, List.set_cons_succ]
    refine tkH (i := 3) (N := some 27) (v := ?_) rfl rfl (by kernel_rfl) (by kernel_rfl) (by kernel_rfl) (fun _ _ _ h => h) (Or.inl ⟨by rfl, ?_⟩) hS ?_
    rotate_left
    · intro W_ hSW_
      obtain ⟨z2_, zb_⟩ := hSW_
      go_simp
      try with_reducible rfl
    try simp only [Act.put, List.setIfInBounds_toArray, List.set_cons_zero, List.set_cons_succ]
    refine tkH (i := 4) (N := some 28) (v := ?_) rfl rfl (by kernel_rfl) (by kernel_rfl) (by kernel_rfl) (fun _ _ _ h => h) (Or.inl ⟨by rfl, ?_⟩) hS ?_
    rotate_left
    · intro W_ hSW_
      obtain ⟨z2_, zb_⟩ := hSW_
      go_simp
      try with_reducible rfl
    try simp only [Act.put, List.setIfInBounds_toArray, List.set_cons_zero, List.set_cons_succ]
    refine tkH (i := 5) (N := some 29) (v := ?_) rfl rfl (by kernel_rfl) (by kernel_rfl) (by kernel_rfl) (fun _ _ _ h => h) (Or.inl ⟨by rfl, ?_⟩) hS ?_
    rotate_left
    · intro W_ hSW_
      obtain ⟨z2_, zb_⟩ := hSW_
      go_simp
      try with_reducible rfl
    try simp only [Act.put, List.setIfInBounds_toArray, List.set_cons_zero, List.set_cons_succ]
    refine tkH (i := 6) (N := some 30) (v := ?_) rfl rfl (by kernel_rfl) (by kernel_rfl) (by kernel_rfl) (fun _ _ _ h => h) (Or.inl ⟨by rfl, ?_⟩) hS ?_
    rotate_left
    · intro W_ hSW_
      obtain ⟨z2_, zb_⟩ := hSW_
      go_simp
      try with_reducible rfl
    try simp only [Act.put, List.setIfInBounds_toArray, List.set_cons_zero, List.set_cons_succ]
    refine tkH (i := 7) (N := some 6) (v := ?_) rfl rfl (by kernel_rfl) (by kernel_rfl) (by kernel_rfl) (fun _ _ _ h => h) (Or.inl ⟨by rfl, ?_⟩) hS ?_
    rotate_left
    · intro W_ hSW_
      obtain ⟨z2_, zb_⟩ := hSW_
      go_simp
      try with_reducible rfl
    try simp only [Act.put, List.setIfInBounds_toArray, List.set_cons_zero, List.set_cons_succ]
    refine tkH (i := 8) (N := some 7) (v := ?_) rfl rfl (by kernel_rfl) (by kernel_rfl) (by kernel_rfl) (fun _ _ _ h => h) (Or.inl ⟨by rfl, ?_⟩) hS ?_
    rotate_left
    · intro W_ hSW_
      obtain ⟨z2_, zb_⟩ := hSW_
      go_simp
      try with_reducible rfl
    try simp only [Act.put, List.setIfInBounds_toArray, List.set_cons_zero, List.set_cons_succ]
    refine wpAnyH_done (by kernel_rfl) ?_ _
    clear hS
    go_wp2_with fail
    go_ret2
    exact ⟨by simp [cmpC, HV.out.1], below_step HBW.out (below_drew (Below.refl _ _))⟩
  by_cases e4 : op = 4
  · subst e4
    go_enter Tryd.func33, Tryd.ntmps33
    go_wp2_with fail
    have HSS := Aside0.mk (fun W (hB : Below W1.heap.size W1 W) => show W.cell? ⟨g1, 2, none⟩ = some (.int .i64 (b : Int)) ∧ W.cell? ⟨gc, 1 + b, none⟩ = some (.int .i16 vb) from ⟨Kd.cell_heap hB.block HX5.out.2.1, Kd.cell_heap hB.block HXB.out⟩)
    refine wp_region_held_drew (S := fun W => W.cell? ⟨g1, 2, none⟩ = some (.int .i64 (b : Int)) ∧ W.cell? ⟨gc, 1 + b, none⟩ = some (.int .i16 vb)) (by kernel_rfl) (HSS.out _ (below_drew (Below.refl _ _))) (fun hS => ?_)
    refine tkH (i := 0) (N := some 34) (v := ?_) rfl rfl (by kernel_rfl) (by kernel_rfl) (by kernel_rfl) (fun _ _ _ h => h) (Or.inl ⟨by rfl, ?_⟩) hS ?_
    rotate_left
    · intro W_ hSW_
      obtain ⟨z2_, zb_⟩ := hSW_
      go_simp
      try with_reducible rfl
    try simp only [Act.put, List.setIfInBounds_toArray, List.set_cons_zero, List.set_cons_succ]
    refine tkH (i := 1) (N := some 35) (v := ?_) rfl rfl (by kernel_rfl) (by kernel_rfl) (by kernel_rfl) (fun _ _ _ h => h) (Or.inl ⟨by rfl, ?_⟩) hS ?_
    rotate_left
    · intro W_ hSW_
      obtain ⟨z2_, zb_⟩ := hSW_
      go_simp
      try with_reducible rfl
    try simp only [Act.put, List.setIfInBounds_toArray, List.set_cons_zero, List.set_cons_succ]
    refine tkH (i := 2) (N := some 36) (v := ?_) rfl rfl (by kernel_rfl) (by kernel_rfl) (by kernel_rfl) (fun _ _ _ h => h) (Or.inl ⟨by rfl, ?_⟩) hS ?_
    rotate_left
    · intro W_ hSW_
      obtain ⟨z2_, zb_⟩ := hSW_
      go_simp
      try with_reducible rfl
    try simp only [Act.put, List.setIfInBounds_toArray, List.set_cons_zero, List.set_cons_succ]
    refine tkH (i := 3) (N := some 37) (v := ?_) rfl rfl (by kernel_rfl) (by kernel_rfl) (by kernel_rfl) (fun _ _ _ h => h) (Or.inl ⟨by rfl, ?_⟩) hS ?_
    rotate_left
    · intro W_ hSW_
      obtain ⟨z2_, zb_⟩ := hSW_
      go_simp
      try with_reducible rfl
    try simp only [Act.put, List.setIfInBounds_toArray, List.set_cons_zero, List.set_cons_succ]
    refine tkH (i := 4) (N := some 38) (v := ?_) rfl rfl (by kernel_rfl) (by kernel_rfl) (by kernel_rfl) (fun _ _ _ h => h) (Or.inl ⟨by rfl, ?_⟩) hS ?_
    rotate_left
    · intro W_ hSW_
      obtain ⟨z2_, zb_⟩ := hSW_
      go_simp
      try with_reducible rfl
    try simp only [Act.put, List.setIfInBounds_toArray, List.set_cons_zero, List.set_cons_succ]
    refine tkH (i := 5) (N := some 39) (v := ?_) rfl rfl (by kernel_rfl) (by kernel_rfl) (by kernel_rfl) (fun _ _ _ h => h) (Or.inl ⟨by rfl, ?_⟩) hS ?_
    rotate_left
    · intro W_ hSW_
      obtain ⟨z2_, zb_⟩ := hSW_
      go_simp
      try with_reducible rfl
    try simp only [Act.put, List.setIfInBounds_toArray, List.set_cons_zero, List.set_cons_succ]
    refine tkH (i := 6) (N := some 40) (v := ?_) rfl rfl (by kernel_rfl) (by kernel_rfl) (by kernel_rfl) (fun _ _ _ h => h) (Or.inl ⟨by rfl, ?_⟩) hS ?_
    rotate_left
    · intro W_ hSW_
      obtain ⟨z2_, zb_⟩ := hSW_
      go_simp
      try with_reducible rfl
    try simp only [Act.put, List.setIfInBounds_toArray, List.set_cons_zero, List.set_cons_succ]
    refine wpAnyH_ready (rs := [7]) (by kernel_rfl) (by simp) ?_
    refine AllReadyH.cons (o := { dst := some 41, op := Op.call { callee := Callee.value (Operand.func 58), args := #[Operand.const (Value.int IntKind.i64 1), Operand.tmp 40], argTypes := #[3, 22] }, type := 89, pos := "cpu.go:114", after := #[{ on := 6, ground := Ground.data }], guard := none }) rfl (fun K_ hK_ => ?_) AllReadyH.nil
    go_simp
    refine (word_Unary.calls 1 vb _ 0 _ (wneg_f vb)).mono ?_
    rintro e w4 ⟨rfl, hd4⟩
    have HB4 := Aside0.mk (below_step (below_drew (Below.refl W1.heap.size W1)) hd4.below)
    clear hd4
    refine hK_.out _ _ (HSS.out _ HB4.out) (fun hS_ => ?_)
    clear hK_ K_ hS
    have hS := hS_
    clear hS_
    try simp only [Act.put, List.setIfInBounds_toArray, List.set_cons_zero, List.set_cons_succ]
    refine tkH (i := 8) (N := some 33) (v := ?_) rfl rfl (by kernel_rfl) (by kernel_rfl) (by kernel_rfl) (fun _ _ _ h => h) (Or.inl ⟨by rfl, ?_⟩) hS ?_
    rotate_left
    · intro W_ hSW_
      obtain ⟨z2_, zb_⟩ := hSW_
      go_simp
      try with_reducible rfl
    try simp only [Act.put, List.setIfInBounds_toArray, List.set_cons_zero, List.set_cons_succ]
    refine tkH (i := 9) (N := some 42) (v := ?_) rfl rfl (by kernel_rfl) (by kernel_rfl) (by kernel_rfl) (fun _ _ _ h => h) (Or.inl ⟨by rfl, ?_⟩) hS ?_
    rotate_left
    · intro W_ hSW_
      obtain ⟨z2_, zb_⟩ := hSW_
      go_simp
      try with_reducible rfl
    try simp only [Act.put, List.setIfInBounds_toArray, List.set_cons_zero, List.set_cons_succ]
    refine tkH (i := 10) (N := some 43) (v := ?_) rfl rfl (by kernel_rfl) (by kernel_rfl) (by kernel_rfl) (fun _ _ _ h => h) (Or.inl ⟨by rfl, ?_⟩) hS ?_
    rotate_left
    · intro W_ hSW_
      obtain ⟨z2_, zb_⟩ := hSW_
      go_simp
      try with_reducible rfl
    try simp only [Act.put, List.setIfInBounds_toArray, List.set_cons_zero, List.set_cons_succ]
    refine tkH (i := 11) (N := some 8) (v := ?_) rfl rfl (by kernel_rfl) (by kernel_rfl) (by kernel_rfl) (fun _ _ _ h => h) (Or.inl ⟨by rfl, ?_⟩) hS ?_
    rotate_left
    · intro W_ hSW_
      obtain ⟨z2_, zb_⟩ := hSW_
      go_simp
      try with_reducible rfl
    try simp only [Act.put, List.setIfInBounds_toArray, List.set_cons_zero, List.set_cons_succ]
    refine tkH (i := 12) (N := some 9) (v := ?_) rfl rfl (by kernel_rfl) (by kernel_rfl) (by kernel_rfl) (fun _ _ _ h => h) (Or.inl ⟨by rfl, ?_⟩) hS ?_
    rotate_left
    · intro W_ hSW_
      obtain ⟨z2_, zb_⟩ := hSW_
      go_simp
      try with_reducible rfl
    try simp only [Act.put, List.setIfInBounds_toArray, List.set_cons_zero, List.set_cons_succ]
    refine wpAnyH_done (by kernel_rfl) ?_ _
    clear hS
    go_wp2_with fail
    go_ret2
    exact ⟨by simp [cmpC, HV.out.1], below_step HBW.out HB4.out⟩
  by_cases e5 : op = 5
  · subst e5
    go_enter Tryd.func33, Tryd.ntmps33
    go_wp2_with fail
    have HSS := Aside0.mk (fun W (hB : Below W1.heap.size W1 W) => show W.cell? ⟨g1, 2, none⟩ = some (.int .i64 (b : Int)) ∧ W.cell? ⟨gc, 1 + b, none⟩ = some (.int .i16 vb) from ⟨Kd.cell_heap hB.block HX5.out.2.1, Kd.cell_heap hB.block HXB.out⟩)
    refine wp_region_held_drew (S := fun W => W.cell? ⟨g1, 2, none⟩ = some (.int .i64 (b : Int)) ∧ W.cell? ⟨gc, 1 + b, none⟩ = some (.int .i16 vb)) (by kernel_rfl) (HSS.out _ (below_drew (Below.refl _ _))) (fun hS => ?_)
    refine tkH (i := 0) (N := some 48) (v := ?_) rfl rfl (by kernel_rfl) (by kernel_rfl) (by kernel_rfl) (fun _ _ _ h => h) (Or.inl ⟨by rfl, ?_⟩) hS ?_
    rotate_left
    · intro W_ hSW_
      obtain ⟨z2_, zb_⟩ := hSW_
      go_simp
      try with_reducible rfl
    try simp only [Act.put, List.setIfInBounds_toArray, List.set_cons_zero, List.set_cons_succ]
    refine tkH (i := 1) (N := some 49) (v := ?_) rfl rfl (by kernel_rfl) (by kernel_rfl) (by kernel_rfl) (fun _ _ _ h => h) (Or.inl ⟨by rfl, ?_⟩) hS ?_
    rotate_left
    · intro W_ hSW_
      obtain ⟨z2_, zb_⟩ := hSW_
      go_simp
      try with_reducible rfl
    try simp only [Act.put, List.setIfInBounds_toArray, List.set_cons_zero, List.set_cons_succ]
    refine tkH (i := 2) (N := some 50) (v := ?_) rfl rfl (by kernel_rfl) (by kernel_rfl) (by kernel_rfl) (fun _ _ _ h => h) (Or.inl ⟨by rfl, ?_⟩) hS ?_
    rotate_left
    · intro W_ hSW_
      obtain ⟨z2_, zb_⟩ := hSW_
      go_simp
      try with_reducible rfl
    try simp only [Act.put, List.setIfInBounds_toArray, List.set_cons_zero, List.set_cons_succ]
    refine tkH (i := 3) (N := some 51) (v := ?_) rfl rfl (by kernel_rfl) (by kernel_rfl) (by kernel_rfl) (fun _ _ _ h => h) (Or.inl ⟨by rfl, ?_⟩) hS ?_
    rotate_left
    · intro W_ hSW_
      obtain ⟨z2_, zb_⟩ := hSW_
      go_simp
      try with_reducible rfl
    try simp only [Act.put, List.setIfInBounds_toArray, List.set_cons_zero, List.set_cons_succ]
    refine tkH (i := 4) (N := some 52) (v := ?_) rfl rfl (by kernel_rfl) (by kernel_rfl) (by kernel_rfl) (fun _ _ _ h => h) (Or.inl ⟨by rfl, ?_⟩) hS ?_
    rotate_left
    · intro W_ hSW_
      obtain ⟨z2_, zb_⟩ := hSW_
      go_simp
      try with_reducible rfl
    try simp only [Act.put, List.setIfInBounds_toArray, List.set_cons_zero, List.set_cons_succ]
    refine tkH (i := 5) (N := some 53) (v := ?_) rfl rfl (by kernel_rfl) (by kernel_rfl) (by kernel_rfl) (fun _ _ _ h => h) (Or.inl ⟨by rfl, ?_⟩) hS ?_
    rotate_left
    · intro W_ hSW_
      obtain ⟨z2_, zb_⟩ := hSW_
      go_simp
      try with_reducible rfl
    try simp only [Act.put, List.setIfInBounds_toArray, List.set_cons_zero, List.set_cons_succ]
    refine tkH (i := 6) (N := some 54) (v := ?_) rfl rfl (by kernel_rfl) (by kernel_rfl) (by kernel_rfl) (fun _ _ _ h => h) (Or.inl ⟨by rfl, ?_⟩) hS ?_
    rotate_left
    · intro W_ hSW_
      obtain ⟨z2_, zb_⟩ := hSW_
      go_simp
      try with_reducible rfl
    try simp only [Act.put, List.setIfInBounds_toArray, List.set_cons_zero, List.set_cons_succ]
    refine wpAnyH_ready (rs := [7]) (by kernel_rfl) (by simp) ?_
    refine AllReadyH.cons (o := { dst := some 55, op := Op.call { callee := Callee.value (Operand.func 58), args := #[Operand.const (Value.int IntKind.i64 2), Operand.tmp 54], argTypes := #[3, 22] }, type := 89, pos := "cpu.go:117", after := #[{ on := 6, ground := Ground.data }], guard := none }) rfl (fun K_ hK_ => ?_) AllReadyH.nil
    go_simp
    refine (word_Unary.calls 2 vb _ 0 _ (wnot_f vb)).mono ?_
    rintro e w4 ⟨rfl, hd4⟩
    have HB4 := Aside0.mk (below_step (below_drew (Below.refl W1.heap.size W1)) hd4.below)
    clear hd4
    refine hK_.out _ _ (HSS.out _ HB4.out) (fun hS_ => ?_)
    clear hK_ K_ hS
    have hS := hS_
    clear hS_
    try simp only [Act.put, List.setIfInBounds_toArray, List.set_cons_zero, List.set_cons_succ]
    refine tkH (i := 8) (N := some 47) (v := ?_) rfl rfl (by kernel_rfl) (by kernel_rfl) (by kernel_rfl) (fun _ _ _ h => h) (Or.inl ⟨by rfl, ?_⟩) hS ?_
    rotate_left
    · intro W_ hSW_
      obtain ⟨z2_, zb_⟩ := hSW_
      go_simp
      try with_reducible rfl
    try simp only [Act.put, List.setIfInBounds_toArray, List.set_cons_zero, List.set_cons_succ]
    refine tkH (i := 9) (N := some 56) (v := ?_) rfl rfl (by kernel_rfl) (by kernel_rfl) (by kernel_rfl) (fun _ _ _ h => h) (Or.inl ⟨by rfl, ?_⟩) hS ?_
    rotate_left
    · intro W_ hSW_
      obtain ⟨z2_, zb_⟩ := hSW_
      go_simp
      try with_reducible rfl
    try simp only [Act.put, List.setIfInBounds_toArray, List.set_cons_zero, List.set_cons_succ]
    refine tkH (i := 10) (N := some 57) (v := ?_) rfl rfl (by kernel_rfl) (by kernel_rfl) (by kernel_rfl) (fun _ _ _ h => h) (Or.inl ⟨by rfl, ?_⟩) hS ?_
    rotate_left
    · intro W_ hSW_
      obtain ⟨z2_, zb_⟩ := hSW_
      go_simp
      try with_reducible rfl
    try simp only [Act.put, List.setIfInBounds_toArray, List.set_cons_zero, List.set_cons_succ]
    refine tkH (i := 11) (N := some 10) (v := ?_) rfl rfl (by kernel_rfl) (by kernel_rfl) (by kernel_rfl) (fun _ _ _ h => h) (Or.inl ⟨by rfl, ?_⟩) hS ?_
    rotate_left
    · intro W_ hSW_
      obtain ⟨z2_, zb_⟩ := hSW_
      go_simp
      try with_reducible rfl
    try simp only [Act.put, List.setIfInBounds_toArray, List.set_cons_zero, List.set_cons_succ]
    refine tkH (i := 12) (N := some 11) (v := ?_) rfl rfl (by kernel_rfl) (by kernel_rfl) (by kernel_rfl) (fun _ _ _ h => h) (Or.inl ⟨by rfl, ?_⟩) hS ?_
    rotate_left
    · intro W_ hSW_
      obtain ⟨z2_, zb_⟩ := hSW_
      go_simp
      try with_reducible rfl
    try simp only [Act.put, List.setIfInBounds_toArray, List.set_cons_zero, List.set_cons_succ]
    refine wpAnyH_done (by kernel_rfl) ?_ _
    clear hS
    go_wp2_with fail
    go_ret2
    exact ⟨by simp [cmpC, HV.out.1], below_step HBW.out HB4.out⟩
  by_cases e6 : op = 6
  · subst e6
    go_enter Tryd.func33, Tryd.ntmps33
    go_wp2_with fail
    have HSS := Aside0.mk (fun W (hB : Below W1.heap.size W1 W) => show W.cell? ⟨g1, 0, none⟩ = some (.int .i64 6) ∧ W.cell? ⟨0, 6, none⟩ = some (.int .i64 3) ∧ W.cell? ⟨g1, 2, none⟩ = some (.int .i64 (b : Int)) ∧ W.cell? ⟨gc, 1 + b, none⟩ = some (.int .i16 vb) ∧ W.cell? ⟨g1, 3, none⟩ = some (.int .i64 (cc : Int)) ∧ W.cell? ⟨gc, 1 + cc, none⟩ = some (.int .i16 vc) from ⟨Kd.cell_heap hB.block HX5.out.1, Kd.cell_heap hB.block (HGT.out 6 (by decide)), Kd.cell_heap hB.block HX5.out.2.1, Kd.cell_heap hB.block HXB.out, Kd.cell_heap hB.block HX5.out.2.2.1, Kd.cell_heap hB.block HXC.out⟩)
    refine wp_region_held_drew (S := fun W => W.cell? ⟨g1, 0, none⟩ = some (.int .i64 6) ∧ W.cell? ⟨0, 6, none⟩ = some (.int .i64 3) ∧ W.cell? ⟨g1, 2, none⟩ = some (.int .i64 (b : Int)) ∧ W.cell? ⟨gc, 1 + b, none⟩ = some (.int .i16 vb) ∧ W.cell? ⟨g1, 3, none⟩ = some (.int .i64 (cc : Int)) ∧ W.cell? ⟨gc, 1 + cc, none⟩ = some (.int .i16 vc)) (by kernel_rfl) (HSS.out _ (below_drew (Below.refl _ _))) (fun hS => ?_)
    refine tkH (i := 0) (N := some 69) (v := ?_) rfl rfl (by kernel_rfl) (by kernel_rfl) (by kernel_rfl) (fun _ _ _ h => h) (Or.inl ⟨by rfl, ?_⟩) hS ?_
    rotate_left
    · intro W_ hSW_
      obtain ⟨z0_, zg_, z2_, zb_, z3_, zc_⟩ := hSW_
      go_simp
      try with_reducible rfl
    try simp only [Act.put, List.setIfInBounds_toArray, List.set_cons_zero, List.set_cons_succ]
    refine tkH (i := 1) (N := some 70) (v := ?_) rfl rfl (by kernel_rfl) (by kernel_rfl) (by kernel_rfl) (fun _ _ _ h => h) (Or.inl ⟨by rfl, ?_⟩) hS ?_
    rotate_left
    · intro W_ hSW_
      obtain ⟨z0_, zg_, z2_, zb_, z3_, zc_⟩ := hSW_
      go_simp
      try with_reducible rfl
    try simp only [Act.put, List.setIfInBounds_toArray, List.set_cons_zero, List.set_cons_succ]
    refine tkH (i := 2) (N := some 71) (v := ?_) rfl rfl (by kernel_rfl) (by kernel_rfl) (by kernel_rfl) (fun _ _ _ h => h) (Or.inl ⟨by rfl, ?_⟩) hS ?_
    rotate_left
    · intro W_ hSW_
      obtain ⟨z0_, zg_, z2_, zb_, z3_, zc_⟩ := hSW_
      go_simp
      try with_reducible rfl
    try simp only [Act.put, List.setIfInBounds_toArray, List.set_cons_zero, List.set_cons_succ]
    refine tkH (i := 3) (N := some 72) (v := ?_) rfl rfl (by kernel_rfl) (by kernel_rfl) (by kernel_rfl) (fun _ _ _ h => h) (Or.inl ⟨by rfl, ?_⟩) hS ?_
    rotate_left
    · intro W_ hSW_
      obtain ⟨z0_, zg_, z2_, zb_, z3_, zc_⟩ := hSW_
      go_simp
      try with_reducible rfl
    try simp only [Act.put, List.setIfInBounds_toArray, List.set_cons_zero, List.set_cons_succ]
    refine tkH (i := 4) (N := some 73) (v := ?_) rfl rfl (by kernel_rfl) (by kernel_rfl) (by kernel_rfl) (fun _ _ _ h => h) (Or.inl ⟨by rfl, ?_⟩) hS ?_
    rotate_left
    · intro W_ hSW_
      obtain ⟨z0_, zg_, z2_, zb_, z3_, zc_⟩ := hSW_
      go_simp
      try with_reducible rfl
    try simp only [Act.put, List.setIfInBounds_toArray, List.set_cons_zero, List.set_cons_succ]
    refine tkH (i := 5) (N := some 74) (v := ?_) rfl rfl (by kernel_rfl) (by kernel_rfl) (by kernel_rfl) (fun _ _ _ h => h) (Or.inl ⟨by rfl, ?_⟩) hS ?_
    rotate_left
    · intro W_ hSW_
      obtain ⟨z0_, zg_, z2_, zb_, z3_, zc_⟩ := hSW_
      go_simp
      try with_reducible rfl
    try simp only [Act.put, List.setIfInBounds_toArray, List.set_cons_zero, List.set_cons_succ]
    refine tkH (i := 6) (N := some 75) (v := ?_) rfl rfl (by kernel_rfl) (by kernel_rfl) (by kernel_rfl) (fun _ _ _ h => h) (Or.inl ⟨by rfl, ?_⟩) hS ?_
    rotate_left
    · intro W_ hSW_
      obtain ⟨z0_, zg_, z2_, zb_, z3_, zc_⟩ := hSW_
      go_simp
      try with_reducible rfl
    try simp only [Act.put, List.setIfInBounds_toArray, List.set_cons_zero, List.set_cons_succ]
    refine tkH (i := 7) (N := some 76) (v := ?_) rfl rfl (by kernel_rfl) (by kernel_rfl) (by kernel_rfl) (fun _ _ _ h => h) (Or.inl ⟨by rfl, ?_⟩) hS ?_
    rotate_left
    · intro W_ hSW_
      obtain ⟨z0_, zg_, z2_, zb_, z3_, zc_⟩ := hSW_
      go_simp
      try with_reducible rfl
    try simp only [Act.put, List.setIfInBounds_toArray, List.set_cons_zero, List.set_cons_succ]
    refine tkH (i := 8) (N := some 77) (v := ?_) rfl rfl (by kernel_rfl) (by kernel_rfl) (by kernel_rfl) (fun _ _ _ h => h) (Or.inl ⟨by rfl, ?_⟩) hS ?_
    rotate_left
    · intro W_ hSW_
      obtain ⟨z0_, zg_, z2_, zb_, z3_, zc_⟩ := hSW_
      go_simp
      try with_reducible rfl
    try simp only [Act.put, List.setIfInBounds_toArray, List.set_cons_zero, List.set_cons_succ]
    refine tkH (i := 9) (N := some 78) (v := ?_) rfl rfl (by kernel_rfl) (by kernel_rfl) (by kernel_rfl) (fun _ _ _ h => h) (Or.inl ⟨by rfl, ?_⟩) hS ?_
    rotate_left
    · intro W_ hSW_
      obtain ⟨z0_, zg_, z2_, zb_, z3_, zc_⟩ := hSW_
      go_simp
      try with_reducible rfl
    try simp only [Act.put, List.setIfInBounds_toArray, List.set_cons_zero, List.set_cons_succ]
    refine tkH (i := 10) (N := some 79) (v := ?_) rfl rfl (by kernel_rfl) (by kernel_rfl) (by kernel_rfl) (fun _ _ _ h => h) (Or.inl ⟨by rfl, ?_⟩) hS ?_
    rotate_left
    · intro W_ hSW_
      obtain ⟨z0_, zg_, z2_, zb_, z3_, zc_⟩ := hSW_
      go_simp
      try with_reducible rfl
    try simp only [Act.put, List.setIfInBounds_toArray, List.set_cons_zero, List.set_cons_succ]
    refine tkH (i := 11) (N := some 80) (v := ?_) rfl rfl (by kernel_rfl) (by kernel_rfl) (by kernel_rfl) (fun _ _ _ h => h) (Or.inl ⟨by rfl, ?_⟩) hS ?_
    rotate_left
    · intro W_ hSW_
      obtain ⟨z0_, zg_, z2_, zb_, z3_, zc_⟩ := hSW_
      go_simp
      try with_reducible rfl
    try simp only [Act.put, List.setIfInBounds_toArray, List.set_cons_zero, List.set_cons_succ]
    refine tkH (i := 12) (N := some 81) (v := ?_) rfl rfl (by kernel_rfl) (by kernel_rfl) (by kernel_rfl) (fun _ _ _ h => h) (Or.inl ⟨by rfl, ?_⟩) hS ?_
    rotate_left
    · intro W_ hSW_
      obtain ⟨z0_, zg_, z2_, zb_, z3_, zc_⟩ := hSW_
      go_simp
      try with_reducible rfl
    try simp only [Act.put, List.setIfInBounds_toArray, List.set_cons_zero, List.set_cons_succ]
    refine tkH (i := 13) (N := some 82) (v := ?_) rfl rfl (by kernel_rfl) (by kernel_rfl) (by kernel_rfl) (fun _ _ _ h => h) (Or.inl ⟨by rfl, ?_⟩) hS ?_
    rotate_left
    · intro W_ hSW_
      obtain ⟨z0_, zg_, z2_, zb_, z3_, zc_⟩ := hSW_
      go_simp
      try with_reducible rfl
    try simp only [Act.put, List.setIfInBounds_toArray, List.set_cons_zero, List.set_cons_succ]
    refine tkH (i := 14) (N := some 83) (v := ?_) rfl rfl (by kernel_rfl) (by kernel_rfl) (by kernel_rfl) (fun _ _ _ h => h) (Or.inl ⟨by rfl, ?_⟩) hS ?_
    rotate_left
    · intro W_ hSW_
      obtain ⟨z0_, zg_, z2_, zb_, z3_, zc_⟩ := hSW_
      go_simp
      try with_reducible rfl
    try simp only [Act.put, List.setIfInBounds_toArray, List.set_cons_zero, List.set_cons_succ]
    refine tkH (i := 15) (N := some 84) (v := ?_) rfl rfl (by kernel_rfl) (by kernel_rfl) (by kernel_rfl) (fun _ _ _ h => h) (Or.inl ⟨by rfl, ?_⟩) hS ?_
    rotate_left
    · intro W_ hSW_
      obtain ⟨z0_, zg_, z2_, zb_, z3_, zc_⟩ := hSW_
      go_simp
      try with_reducible rfl
    try simp only [Act.put, List.setIfInBounds_toArray, List.set_cons_zero, List.set_cons_succ]
    refine tkH (i := 16) (N := some 85) (v := ?_) rfl rfl (by kernel_rfl) (by kernel_rfl) (by kernel_rfl) (fun _ _ _ h => h) (Or.inl ⟨by rfl, ?_⟩) hS ?_
    rotate_left
    · intro W_ hSW_
      obtain ⟨z0_, zg_, z2_, zb_, z3_, zc_⟩ := hSW_
      go_simp
      try with_reducible rfl
    try simp only [Act.put, List.setIfInBounds_toArray, List.set_cons_zero, List.set_cons_succ]
    refine tkH (i := 17) (N := some 86) (v := ?_) rfl rfl (by kernel_rfl) (by kernel_rfl) (by kernel_rfl) (fun _ _ _ h => h) (Or.inl ⟨by rfl, ?_⟩) hS ?_
    rotate_left
    · intro W_ hSW_
      obtain ⟨z0_, zg_, z2_, zb_, z3_, zc_⟩ := hSW_
      go_simp
      try with_reducible rfl
    try simp only [Act.put, List.setIfInBounds_toArray, List.set_cons_zero, List.set_cons_succ]
    refine wpAnyH_ready (rs := [18]) (by kernel_rfl) (by simp) ?_
    refine AllReadyH.cons (o := { dst := some 87, op := Op.call { callee := Callee.value (Operand.func 59), args := #[Operand.tmp 72, Operand.tmp 79, Operand.tmp 86], argTypes := #[3, 22, 22] }, type := 89, pos := "cpu.go:120", after := #[{ on := 3, ground := Ground.data }, { on := 10, ground := Ground.data }, { on := 17, ground := Ground.data }], guard := none }) rfl (fun K_ hK_ => ?_) AllReadyH.nil
    go_simp
    refine (word_Binary.calls 3 vb vc _ 0 _ (wbin_f (by unfold Bop; omega) vb vc)).mono ?_
    rintro e w4 ⟨rfl, hd4⟩
    have HB4 := Aside0.mk (below_step (below_drew (Below.refl W1.heap.size W1)) hd4.below)
    clear hd4
    refine hK_.out _ _ (HSS.out _ HB4.out) (fun hS_ => ?_)
    clear hK_ K_ hS
    have hS := hS_
    clear hS_
    try simp only [Act.put, List.setIfInBounds_toArray, List.set_cons_zero, List.set_cons_succ]
    refine tkH (i := 19) (N := some 68) (v := ?_) rfl rfl (by kernel_rfl) (by kernel_rfl) (by kernel_rfl) (fun _ _ _ h => h) (Or.inl ⟨by rfl, ?_⟩) hS ?_
    rotate_left
    · intro W_ hSW_
      obtain ⟨z0_, zg_, z2_, zb_, z3_, zc_⟩ := hSW_
      go_simp
      try with_reducible rfl
    try simp only [Act.put, List.setIfInBounds_toArray, List.set_cons_zero, List.set_cons_succ]
    refine tkH (i := 20) (N := some 88) (v := ?_) rfl rfl (by kernel_rfl) (by kernel_rfl) (by kernel_rfl) (fun _ _ _ h => h) (Or.inl ⟨by rfl, ?_⟩) hS ?_
    rotate_left
    · intro W_ hSW_
      obtain ⟨z0_, zg_, z2_, zb_, z3_, zc_⟩ := hSW_
      go_simp
      try with_reducible rfl
    try simp only [Act.put, List.setIfInBounds_toArray, List.set_cons_zero, List.set_cons_succ]
    refine tkH (i := 21) (N := some 89) (v := ?_) rfl rfl (by kernel_rfl) (by kernel_rfl) (by kernel_rfl) (fun _ _ _ h => h) (Or.inl ⟨by rfl, ?_⟩) hS ?_
    rotate_left
    · intro W_ hSW_
      obtain ⟨z0_, zg_, z2_, zb_, z3_, zc_⟩ := hSW_
      go_simp
      try with_reducible rfl
    try simp only [Act.put, List.setIfInBounds_toArray, List.set_cons_zero, List.set_cons_succ]
    refine tkH (i := 22) (N := some 12) (v := ?_) rfl rfl (by kernel_rfl) (by kernel_rfl) (by kernel_rfl) (fun _ _ _ h => h) (Or.inl ⟨by rfl, ?_⟩) hS ?_
    rotate_left
    · intro W_ hSW_
      obtain ⟨z0_, zg_, z2_, zb_, z3_, zc_⟩ := hSW_
      go_simp
      try with_reducible rfl
    try simp only [Act.put, List.setIfInBounds_toArray, List.set_cons_zero, List.set_cons_succ]
    refine tkH (i := 23) (N := some 13) (v := ?_) rfl rfl (by kernel_rfl) (by kernel_rfl) (by kernel_rfl) (fun _ _ _ h => h) (Or.inl ⟨by rfl, ?_⟩) hS ?_
    rotate_left
    · intro W_ hSW_
      obtain ⟨z0_, zg_, z2_, zb_, z3_, zc_⟩ := hSW_
      go_simp
      try with_reducible rfl
    try simp only [Act.put, List.setIfInBounds_toArray, List.set_cons_zero, List.set_cons_succ]
    refine wpAnyH_done (by kernel_rfl) ?_ _
    clear hS
    go_wp2_with fail
    go_ret2
    exact ⟨by simp [cmpC, HV.out.1, HV.out.2], below_step HBW.out HB4.out⟩
  by_cases e7 : op = 7
  · subst e7
    go_enter Tryd.func33, Tryd.ntmps33
    go_wp2_with fail
    have HSS := Aside0.mk (fun W (hB : Below W1.heap.size W1 W) => show W.cell? ⟨g1, 0, none⟩ = some (.int .i64 7) ∧ W.cell? ⟨0, 7, none⟩ = some (.int .i64 4) ∧ W.cell? ⟨g1, 2, none⟩ = some (.int .i64 (b : Int)) ∧ W.cell? ⟨gc, 1 + b, none⟩ = some (.int .i16 vb) ∧ W.cell? ⟨g1, 3, none⟩ = some (.int .i64 (cc : Int)) ∧ W.cell? ⟨gc, 1 + cc, none⟩ = some (.int .i16 vc) from ⟨Kd.cell_heap hB.block HX5.out.1, Kd.cell_heap hB.block (HGT.out 7 (by decide)), Kd.cell_heap hB.block HX5.out.2.1, Kd.cell_heap hB.block HXB.out, Kd.cell_heap hB.block HX5.out.2.2.1, Kd.cell_heap hB.block HXC.out⟩)
    refine wp_region_held_drew (S := fun W => W.cell? ⟨g1, 0, none⟩ = some (.int .i64 7) ∧ W.cell? ⟨0, 7, none⟩ = some (.int .i64 4) ∧ W.cell? ⟨g1, 2, none⟩ = some (.int .i64 (b : Int)) ∧ W.cell? ⟨gc, 1 + b, none⟩ = some (.int .i16 vb) ∧ W.cell? ⟨g1, 3, none⟩ = some (.int .i64 (cc : Int)) ∧ W.cell? ⟨gc, 1 + cc, none⟩ = some (.int .i16 vc)) (by kernel_rfl) (HSS.out _ (below_drew (Below.refl _ _))) (fun hS => ?_)
    refine tkH (i := 0) (N := some 69) (v := ?_) rfl rfl (by kernel_rfl) (by kernel_rfl) (by kernel_rfl) (fun _ _ _ h => h) (Or.inl ⟨by rfl, ?_⟩) hS ?_
    rotate_left
    · intro W_ hSW_
      obtain ⟨z0_, zg_, z2_, zb_, z3_, zc_⟩ := hSW_
      go_simp
      try with_reducible rfl
    try simp only [Act.put, List.setIfInBounds_toArray, List.set_cons_zero, List.set_cons_succ]
    refine tkH (i := 1) (N := some 70) (v := ?_) rfl rfl (by kernel_rfl) (by kernel_rfl) (by kernel_rfl) (fun _ _ _ h => h) (Or.inl ⟨by rfl, ?_⟩) hS ?_
    rotate_left
    · intro W_ hSW_
      obtain ⟨z0_, zg_, z2_, zb_, z3_, zc_⟩ := hSW_
      go_simp
      try with_reducible rfl
    try simp only [Act.put, List.setIfInBounds_toArray, List.set_cons_zero, List.set_cons_succ]
    refine tkH (i := 2) (N := some 71) (v := ?_) rfl rfl (by kernel_rfl) (by kernel_rfl) (by kernel_rfl) (fun _ _ _ h => h) (Or.inl ⟨by rfl, ?_⟩) hS ?_
    rotate_left
    · intro W_ hSW_
      obtain ⟨z0_, zg_, z2_, zb_, z3_, zc_⟩ := hSW_
      go_simp
      try with_reducible rfl
    try simp only [Act.put, List.setIfInBounds_toArray, List.set_cons_zero, List.set_cons_succ]
    refine tkH (i := 3) (N := some 72) (v := ?_) rfl rfl (by kernel_rfl) (by kernel_rfl) (by kernel_rfl) (fun _ _ _ h => h) (Or.inl ⟨by rfl, ?_⟩) hS ?_
    rotate_left
    · intro W_ hSW_
      obtain ⟨z0_, zg_, z2_, zb_, z3_, zc_⟩ := hSW_
      go_simp
      try with_reducible rfl
    try simp only [Act.put, List.setIfInBounds_toArray, List.set_cons_zero, List.set_cons_succ]
    refine tkH (i := 4) (N := some 73) (v := ?_) rfl rfl (by kernel_rfl) (by kernel_rfl) (by kernel_rfl) (fun _ _ _ h => h) (Or.inl ⟨by rfl, ?_⟩) hS ?_
    rotate_left
    · intro W_ hSW_
      obtain ⟨z0_, zg_, z2_, zb_, z3_, zc_⟩ := hSW_
      go_simp
      try with_reducible rfl
    try simp only [Act.put, List.setIfInBounds_toArray, List.set_cons_zero, List.set_cons_succ]
    refine tkH (i := 5) (N := some 74) (v := ?_) rfl rfl (by kernel_rfl) (by kernel_rfl) (by kernel_rfl) (fun _ _ _ h => h) (Or.inl ⟨by rfl, ?_⟩) hS ?_
    rotate_left
    · intro W_ hSW_
      obtain ⟨z0_, zg_, z2_, zb_, z3_, zc_⟩ := hSW_
      go_simp
      try with_reducible rfl
    try simp only [Act.put, List.setIfInBounds_toArray, List.set_cons_zero, List.set_cons_succ]
    refine tkH (i := 6) (N := some 75) (v := ?_) rfl rfl (by kernel_rfl) (by kernel_rfl) (by kernel_rfl) (fun _ _ _ h => h) (Or.inl ⟨by rfl, ?_⟩) hS ?_
    rotate_left
    · intro W_ hSW_
      obtain ⟨z0_, zg_, z2_, zb_, z3_, zc_⟩ := hSW_
      go_simp
      try with_reducible rfl
    try simp only [Act.put, List.setIfInBounds_toArray, List.set_cons_zero, List.set_cons_succ]
    refine tkH (i := 7) (N := some 76) (v := ?_) rfl rfl (by kernel_rfl) (by kernel_rfl) (by kernel_rfl) (fun _ _ _ h => h) (Or.inl ⟨by rfl, ?_⟩) hS ?_
    rotate_left
    · intro W_ hSW_
      obtain ⟨z0_, zg_, z2_, zb_, z3_, zc_⟩ := hSW_
      go_simp
      try with_reducible rfl
    try simp only [Act.put, List.setIfInBounds_toArray, List.set_cons_zero, List.set_cons_succ]
    refine tkH (i := 8) (N := some 77) (v := ?_) rfl rfl (by kernel_rfl) (by kernel_rfl) (by kernel_rfl) (fun _ _ _ h => h) (Or.inl ⟨by rfl, ?_⟩) hS ?_
    rotate_left
    · intro W_ hSW_
      obtain ⟨z0_, zg_, z2_, zb_, z3_, zc_⟩ := hSW_
      go_simp
      try with_reducible rfl
    try simp only [Act.put, List.setIfInBounds_toArray, List.set_cons_zero, List.set_cons_succ]
    refine tkH (i := 9) (N := some 78) (v := ?_) rfl rfl (by kernel_rfl) (by kernel_rfl) (by kernel_rfl) (fun _ _ _ h => h) (Or.inl ⟨by rfl, ?_⟩) hS ?_
    rotate_left
    · intro W_ hSW_
      obtain ⟨z0_, zg_, z2_, zb_, z3_, zc_⟩ := hSW_
      go_simp
      try with_reducible rfl
    try simp only [Act.put, List.setIfInBounds_toArray, List.set_cons_zero, List.set_cons_succ]
    refine tkH (i := 10) (N := some 79) (v := ?_) rfl rfl (by kernel_rfl) (by kernel_rfl) (by kernel_rfl) (fun _ _ _ h => h) (Or.inl ⟨by rfl, ?_⟩) hS ?_
    rotate_left
    · intro W_ hSW_
      obtain ⟨z0_, zg_, z2_, zb_, z3_, zc_⟩ := hSW_
      go_simp
      try with_reducible rfl
    try simp only [Act.put, List.setIfInBounds_toArray, List.set_cons_zero, List.set_cons_succ]
    refine tkH (i := 11) (N := some 80) (v := ?_) rfl rfl (by kernel_rfl) (by kernel_rfl) (by kernel_rfl) (fun _ _ _ h => h) (Or.inl ⟨by rfl, ?_⟩) hS ?_
    rotate_left
    · intro W_ hSW_
      obtain ⟨z0_, zg_, z2_, zb_, z3_, zc_⟩ := hSW_
      go_simp
      try with_reducible rfl
    try simp only [Act.put, List.setIfInBounds_toArray, List.set_cons_zero, List.set_cons_succ]
    refine tkH (i := 12) (N := some 81) (v := ?_) rfl rfl (by kernel_rfl) (by kernel_rfl) (by kernel_rfl) (fun _ _ _ h => h) (Or.inl ⟨by rfl, ?_⟩) hS ?_
    rotate_left
    · intro W_ hSW_
      obtain ⟨z0_, zg_, z2_, zb_, z3_, zc_⟩ := hSW_
      go_simp
      try with_reducible rfl
    try simp only [Act.put, List.setIfInBounds_toArray, List.set_cons_zero, List.set_cons_succ]
    refine tkH (i := 13) (N := some 82) (v := ?_) rfl rfl (by kernel_rfl) (by kernel_rfl) (by kernel_rfl) (fun _ _ _ h => h) (Or.inl ⟨by rfl, ?_⟩) hS ?_
    rotate_left
    · intro W_ hSW_
      obtain ⟨z0_, zg_, z2_, zb_, z3_, zc_⟩ := hSW_
      go_simp
      try with_reducible rfl
    try simp only [Act.put, List.setIfInBounds_toArray, List.set_cons_zero, List.set_cons_succ]
    refine tkH (i := 14) (N := some 83) (v := ?_) rfl rfl (by kernel_rfl) (by kernel_rfl) (by kernel_rfl) (fun _ _ _ h => h) (Or.inl ⟨by rfl, ?_⟩) hS ?_
    rotate_left
    · intro W_ hSW_
      obtain ⟨z0_, zg_, z2_, zb_, z3_, zc_⟩ := hSW_
      go_simp
      try with_reducible rfl
    try simp only [Act.put, List.setIfInBounds_toArray, List.set_cons_zero, List.set_cons_succ]
    refine tkH (i := 15) (N := some 84) (v := ?_) rfl rfl (by kernel_rfl) (by kernel_rfl) (by kernel_rfl) (fun _ _ _ h => h) (Or.inl ⟨by rfl, ?_⟩) hS ?_
    rotate_left
    · intro W_ hSW_
      obtain ⟨z0_, zg_, z2_, zb_, z3_, zc_⟩ := hSW_
      go_simp
      try with_reducible rfl
    try simp only [Act.put, List.setIfInBounds_toArray, List.set_cons_zero, List.set_cons_succ]
    refine tkH (i := 16) (N := some 85) (v := ?_) rfl rfl (by kernel_rfl) (by kernel_rfl) (by kernel_rfl) (fun _ _ _ h => h) (Or.inl ⟨by rfl, ?_⟩) hS ?_
    rotate_left
    · intro W_ hSW_
      obtain ⟨z0_, zg_, z2_, zb_, z3_, zc_⟩ := hSW_
      go_simp
      try with_reducible rfl
    try simp only [Act.put, List.setIfInBounds_toArray, List.set_cons_zero, List.set_cons_succ]
    refine tkH (i := 17) (N := some 86) (v := ?_) rfl rfl (by kernel_rfl) (by kernel_rfl) (by kernel_rfl) (fun _ _ _ h => h) (Or.inl ⟨by rfl, ?_⟩) hS ?_
    rotate_left
    · intro W_ hSW_
      obtain ⟨z0_, zg_, z2_, zb_, z3_, zc_⟩ := hSW_
      go_simp
      try with_reducible rfl
    try simp only [Act.put, List.setIfInBounds_toArray, List.set_cons_zero, List.set_cons_succ]
    refine wpAnyH_ready (rs := [18]) (by kernel_rfl) (by simp) ?_
    refine AllReadyH.cons (o := { dst := some 87, op := Op.call { callee := Callee.value (Operand.func 59), args := #[Operand.tmp 72, Operand.tmp 79, Operand.tmp 86], argTypes := #[3, 22, 22] }, type := 89, pos := "cpu.go:120", after := #[{ on := 3, ground := Ground.data }, { on := 10, ground := Ground.data }, { on := 17, ground := Ground.data }], guard := none }) rfl (fun K_ hK_ => ?_) AllReadyH.nil
    go_simp
    refine (word_Binary.calls 4 vb vc _ 0 _ (wbin_f (by unfold Bop; omega) vb vc)).mono ?_
    rintro e w4 ⟨rfl, hd4⟩
    have HB4 := Aside0.mk (below_step (below_drew (Below.refl W1.heap.size W1)) hd4.below)
    clear hd4
    refine hK_.out _ _ (HSS.out _ HB4.out) (fun hS_ => ?_)
    clear hK_ K_ hS
    have hS := hS_
    clear hS_
    try simp only [Act.put, List.setIfInBounds_toArray, List.set_cons_zero, List.set_cons_succ]
    refine tkH (i := 19) (N := some 68) (v := ?_) rfl rfl (by kernel_rfl) (by kernel_rfl) (by kernel_rfl) (fun _ _ _ h => h) (Or.inl ⟨by rfl, ?_⟩) hS ?_
    rotate_left
    · intro W_ hSW_
      obtain ⟨z0_, zg_, z2_, zb_, z3_, zc_⟩ := hSW_
      go_simp
      try with_reducible rfl
    try simp only [Act.put, List.setIfInBounds_toArray, List.set_cons_zero, List.set_cons_succ]
    refine tkH (i := 20) (N := some 88) (v := ?_) rfl rfl (by kernel_rfl) (by kernel_rfl) (by kernel_rfl) (fun _ _ _ h => h) (Or.inl ⟨by rfl, ?_⟩) hS ?_
    rotate_left
    · intro W_ hSW_
      obtain ⟨z0_, zg_, z2_, zb_, z3_, zc_⟩ := hSW_
      go_simp
      try with_reducible rfl
    try simp only [Act.put, List.setIfInBounds_toArray, List.set_cons_zero, List.set_cons_succ]
    refine tkH (i := 21) (N := some 89) (v := ?_) rfl rfl (by kernel_rfl) (by kernel_rfl) (by kernel_rfl) (fun _ _ _ h => h) (Or.inl ⟨by rfl, ?_⟩) hS ?_
    rotate_left
    · intro W_ hSW_
      obtain ⟨z0_, zg_, z2_, zb_, z3_, zc_⟩ := hSW_
      go_simp
      try with_reducible rfl
    try simp only [Act.put, List.setIfInBounds_toArray, List.set_cons_zero, List.set_cons_succ]
    refine tkH (i := 22) (N := some 12) (v := ?_) rfl rfl (by kernel_rfl) (by kernel_rfl) (by kernel_rfl) (fun _ _ _ h => h) (Or.inl ⟨by rfl, ?_⟩) hS ?_
    rotate_left
    · intro W_ hSW_
      obtain ⟨z0_, zg_, z2_, zb_, z3_, zc_⟩ := hSW_
      go_simp
      try with_reducible rfl
    try simp only [Act.put, List.setIfInBounds_toArray, List.set_cons_zero, List.set_cons_succ]
    refine tkH (i := 23) (N := some 13) (v := ?_) rfl rfl (by kernel_rfl) (by kernel_rfl) (by kernel_rfl) (fun _ _ _ h => h) (Or.inl ⟨by rfl, ?_⟩) hS ?_
    rotate_left
    · intro W_ hSW_
      obtain ⟨z0_, zg_, z2_, zb_, z3_, zc_⟩ := hSW_
      go_simp
      try with_reducible rfl
    try simp only [Act.put, List.setIfInBounds_toArray, List.set_cons_zero, List.set_cons_succ]
    refine wpAnyH_done (by kernel_rfl) ?_ _
    clear hS
    go_wp2_with fail
    go_ret2
    exact ⟨by simp [cmpC, HV.out.1, HV.out.2], below_step HBW.out HB4.out⟩
  by_cases e8 : op = 8
  · subst e8
    go_enter Tryd.func33, Tryd.ntmps33
    go_wp2_with fail
    have HSS := Aside0.mk (fun W (hB : Below W1.heap.size W1 W) => show W.cell? ⟨g1, 0, none⟩ = some (.int .i64 8) ∧ W.cell? ⟨0, 8, none⟩ = some (.int .i64 5) ∧ W.cell? ⟨g1, 2, none⟩ = some (.int .i64 (b : Int)) ∧ W.cell? ⟨gc, 1 + b, none⟩ = some (.int .i16 vb) ∧ W.cell? ⟨g1, 3, none⟩ = some (.int .i64 (cc : Int)) ∧ W.cell? ⟨gc, 1 + cc, none⟩ = some (.int .i16 vc) from ⟨Kd.cell_heap hB.block HX5.out.1, Kd.cell_heap hB.block (HGT.out 8 (by decide)), Kd.cell_heap hB.block HX5.out.2.1, Kd.cell_heap hB.block HXB.out, Kd.cell_heap hB.block HX5.out.2.2.1, Kd.cell_heap hB.block HXC.out⟩)
    refine wp_region_held_drew (S := fun W => W.cell? ⟨g1, 0, none⟩ = some (.int .i64 8) ∧ W.cell? ⟨0, 8, none⟩ = some (.int .i64 5) ∧ W.cell? ⟨g1, 2, none⟩ = some (.int .i64 (b : Int)) ∧ W.cell? ⟨gc, 1 + b, none⟩ = some (.int .i16 vb) ∧ W.cell? ⟨g1, 3, none⟩ = some (.int .i64 (cc : Int)) ∧ W.cell? ⟨gc, 1 + cc, none⟩ = some (.int .i16 vc)) (by kernel_rfl) (HSS.out _ (below_drew (Below.refl _ _))) (fun hS => ?_)
    refine tkH (i := 0) (N := some 69) (v := ?_) rfl rfl (by kernel_rfl) (by kernel_rfl) (by kernel_rfl) (fun _ _ _ h => h) (Or.inl ⟨by rfl, ?_⟩) hS ?_
    rotate_left
    · intro W_ hSW_
      obtain ⟨z0_, zg_, z2_, zb_, z3_, zc_⟩ := hSW_
      go_simp
      try with_reducible rfl
    try simp only [Act.put, List.setIfInBounds_toArray, List.set_cons_zero, List.set_cons_succ]
    refine tkH (i := 1) (N := some 70) (v := ?_) rfl rfl (by kernel_rfl) (by kernel_rfl) (by kernel_rfl) (fun _ _ _ h => h) (Or.inl ⟨by rfl, ?_⟩) hS ?_
    rotate_left
    · intro W_ hSW_
      obtain ⟨z0_, zg_, z2_, zb_, z3_, zc_⟩ := hSW_
      go_simp
      try with_reducible rfl
    try simp only [Act.put, List.setIfInBounds_toArray, List.set_cons_zero, List.set_cons_succ]
    refine tkH (i := 2) (N := some 71) (v := ?_) rfl rfl (by kernel_rfl) (by kernel_rfl) (by kernel_rfl) (fun _ _ _ h => h) (Or.inl ⟨by rfl, ?_⟩) hS ?_
    rotate_left
    · intro W_ hSW_
      obtain ⟨z0_, zg_, z2_, zb_, z3_, zc_⟩ := hSW_
      go_simp
      try with_reducible rfl
    try simp only [Act.put, List.setIfInBounds_toArray, List.set_cons_zero, List.set_cons_succ]
    refine tkH (i := 3) (N := some 72) (v := ?_) rfl rfl (by kernel_rfl) (by kernel_rfl) (by kernel_rfl) (fun _ _ _ h => h) (Or.inl ⟨by rfl, ?_⟩) hS ?_
    rotate_left
    · intro W_ hSW_
      obtain ⟨z0_, zg_, z2_, zb_, z3_, zc_⟩ := hSW_
      go_simp
      try with_reducible rfl
    try simp only [Act.put, List.setIfInBounds_toArray, List.set_cons_zero, List.set_cons_succ]
    refine tkH (i := 4) (N := some 73) (v := ?_) rfl rfl (by kernel_rfl) (by kernel_rfl) (by kernel_rfl) (fun _ _ _ h => h) (Or.inl ⟨by rfl, ?_⟩) hS ?_
    rotate_left
    · intro W_ hSW_
      obtain ⟨z0_, zg_, z2_, zb_, z3_, zc_⟩ := hSW_
      go_simp
      try with_reducible rfl
    try simp only [Act.put, List.setIfInBounds_toArray, List.set_cons_zero, List.set_cons_succ]
    refine tkH (i := 5) (N := some 74) (v := ?_) rfl rfl (by kernel_rfl) (by kernel_rfl) (by kernel_rfl) (fun _ _ _ h => h) (Or.inl ⟨by rfl, ?_⟩) hS ?_
    rotate_left
    · intro W_ hSW_
      obtain ⟨z0_, zg_, z2_, zb_, z3_, zc_⟩ := hSW_
      go_simp
      try with_reducible rfl
    try simp only [Act.put, List.setIfInBounds_toArray, List.set_cons_zero, List.set_cons_succ]
    refine tkH (i := 6) (N := some 75) (v := ?_) rfl rfl (by kernel_rfl) (by kernel_rfl) (by kernel_rfl) (fun _ _ _ h => h) (Or.inl ⟨by rfl, ?_⟩) hS ?_
    rotate_left
    · intro W_ hSW_
      obtain ⟨z0_, zg_, z2_, zb_, z3_, zc_⟩ := hSW_
      go_simp
      try with_reducible rfl
    try simp only [Act.put, List.setIfInBounds_toArray, List.set_cons_zero, List.set_cons_succ]
    refine tkH (i := 7) (N := some 76) (v := ?_) rfl rfl (by kernel_rfl) (by kernel_rfl) (by kernel_rfl) (fun _ _ _ h => h) (Or.inl ⟨by rfl, ?_⟩) hS ?_
    rotate_left
    · intro W_ hSW_
      obtain ⟨z0_, zg_, z2_, zb_, z3_, zc_⟩ := hSW_
      go_simp
      try with_reducible rfl
    try simp only [Act.put, List.setIfInBounds_toArray, List.set_cons_zero, List.set_cons_succ]
    refine tkH (i := 8) (N := some 77) (v := ?_) rfl rfl (by kernel_rfl) (by kernel_rfl) (by kernel_rfl) (fun _ _ _ h => h) (Or.inl ⟨by rfl, ?_⟩) hS ?_
    rotate_left
    · intro W_ hSW_
      obtain ⟨z0_, zg_, z2_, zb_, z3_, zc_⟩ := hSW_
      go_simp
      try with_reducible rfl
    try simp only [Act.put, List.setIfInBounds_toArray, List.set_cons_zero, List.set_cons_succ]
    refine tkH (i := 9) (N := some 78) (v := ?_) rfl rfl (by kernel_rfl) (by kernel_rfl) (by kernel_rfl) (fun _ _ _ h => h) (Or.inl ⟨by rfl, ?_⟩) hS ?_
    rotate_left
    · intro W_ hSW_
      obtain ⟨z0_, zg_, z2_, zb_, z3_, zc_⟩ := hSW_
      go_simp
      try with_reducible rfl
    try simp only [Act.put, List.setIfInBounds_toArray, List.set_cons_zero, List.set_cons_succ]
    refine tkH (i := 10) (N := some 79) (v := ?_) rfl rfl (by kernel_rfl) (by kernel_rfl) (by kernel_rfl) (fun _ _ _ h => h) (Or.inl ⟨by rfl, ?_⟩) hS ?_
    rotate_left
    · intro W_ hSW_
      obtain ⟨z0_, zg_, z2_, zb_, z3_, zc_⟩ := hSW_
      go_simp
      try with_reducible rfl
    try simp only [Act.put, List.setIfInBounds_toArray, List.set_cons_zero, List.set_cons_succ]
    refine tkH (i := 11) (N := some 80) (v := ?_) rfl rfl (by kernel_rfl) (by kernel_rfl) (by kernel_rfl) (fun _ _ _ h => h) (Or.inl ⟨by rfl, ?_⟩) hS ?_
    rotate_left
    · intro W_ hSW_
      obtain ⟨z0_, zg_, z2_, zb_, z3_, zc_⟩ := hSW_
      go_simp
      try with_reducible rfl
    try simp only [Act.put, List.setIfInBounds_toArray, List.set_cons_zero, List.set_cons_succ]
    refine tkH (i := 12) (N := some 81) (v := ?_) rfl rfl (by kernel_rfl) (by kernel_rfl) (by kernel_rfl) (fun _ _ _ h => h) (Or.inl ⟨by rfl, ?_⟩) hS ?_
    rotate_left
    · intro W_ hSW_
      obtain ⟨z0_, zg_, z2_, zb_, z3_, zc_⟩ := hSW_
      go_simp
      try with_reducible rfl
    try simp only [Act.put, List.setIfInBounds_toArray, List.set_cons_zero, List.set_cons_succ]
    refine tkH (i := 13) (N := some 82) (v := ?_) rfl rfl (by kernel_rfl) (by kernel_rfl) (by kernel_rfl) (fun _ _ _ h => h) (Or.inl ⟨by rfl, ?_⟩) hS ?_
    rotate_left
    · intro W_ hSW_
      obtain ⟨z0_, zg_, z2_, zb_, z3_, zc_⟩ := hSW_
      go_simp
      try with_reducible rfl
    try simp only [Act.put, List.setIfInBounds_toArray, List.set_cons_zero, List.set_cons_succ]
    refine tkH (i := 14) (N := some 83) (v := ?_) rfl rfl (by kernel_rfl) (by kernel_rfl) (by kernel_rfl) (fun _ _ _ h => h) (Or.inl ⟨by rfl, ?_⟩) hS ?_
    rotate_left
    · intro W_ hSW_
      obtain ⟨z0_, zg_, z2_, zb_, z3_, zc_⟩ := hSW_
      go_simp
      try with_reducible rfl
    try simp only [Act.put, List.setIfInBounds_toArray, List.set_cons_zero, List.set_cons_succ]
    refine tkH (i := 15) (N := some 84) (v := ?_) rfl rfl (by kernel_rfl) (by kernel_rfl) (by kernel_rfl) (fun _ _ _ h => h) (Or.inl ⟨by rfl, ?_⟩) hS ?_
    rotate_left
    · intro W_ hSW_
      obtain ⟨z0_, zg_, z2_, zb_, z3_, zc_⟩ := hSW_
      go_simp
      try with_reducible rfl
    try simp only [Act.put, List.setIfInBounds_toArray, List.set_cons_zero, List.set_cons_succ]
    refine tkH (i := 16) (N := some 85) (v := ?_) rfl rfl (by kernel_rfl) (by kernel_rfl) (by kernel_rfl) (fun _ _ _ h => h) (Or.inl ⟨by rfl, ?_⟩) hS ?_
    rotate_left
    · intro W_ hSW_
      obtain ⟨z0_, zg_, z2_, zb_, z3_, zc_⟩ := hSW_
      go_simp
      try with_reducible rfl
    try simp only [Act.put, List.setIfInBounds_toArray, List.set_cons_zero, List.set_cons_succ]
    refine tkH (i := 17) (N := some 86) (v := ?_) rfl rfl (by kernel_rfl) (by kernel_rfl) (by kernel_rfl) (fun _ _ _ h => h) (Or.inl ⟨by rfl, ?_⟩) hS ?_
    rotate_left
    · intro W_ hSW_
      obtain ⟨z0_, zg_, z2_, zb_, z3_, zc_⟩ := hSW_
      go_simp
      try with_reducible rfl
    try simp only [Act.put, List.setIfInBounds_toArray, List.set_cons_zero, List.set_cons_succ]
    refine wpAnyH_ready (rs := [18]) (by kernel_rfl) (by simp) ?_
    refine AllReadyH.cons (o := { dst := some 87, op := Op.call { callee := Callee.value (Operand.func 59), args := #[Operand.tmp 72, Operand.tmp 79, Operand.tmp 86], argTypes := #[3, 22, 22] }, type := 89, pos := "cpu.go:120", after := #[{ on := 3, ground := Ground.data }, { on := 10, ground := Ground.data }, { on := 17, ground := Ground.data }], guard := none }) rfl (fun K_ hK_ => ?_) AllReadyH.nil
    go_simp
    refine (word_Binary.calls 5 vb vc _ 0 _ (wbin_f (by unfold Bop; omega) vb vc)).mono ?_
    rintro e w4 ⟨rfl, hd4⟩
    have HB4 := Aside0.mk (below_step (below_drew (Below.refl W1.heap.size W1)) hd4.below)
    clear hd4
    refine hK_.out _ _ (HSS.out _ HB4.out) (fun hS_ => ?_)
    clear hK_ K_ hS
    have hS := hS_
    clear hS_
    try simp only [Act.put, List.setIfInBounds_toArray, List.set_cons_zero, List.set_cons_succ]
    refine tkH (i := 19) (N := some 68) (v := ?_) rfl rfl (by kernel_rfl) (by kernel_rfl) (by kernel_rfl) (fun _ _ _ h => h) (Or.inl ⟨by rfl, ?_⟩) hS ?_
    rotate_left
    · intro W_ hSW_
      obtain ⟨z0_, zg_, z2_, zb_, z3_, zc_⟩ := hSW_
      go_simp
      try with_reducible rfl
    try simp only [Act.put, List.setIfInBounds_toArray, List.set_cons_zero, List.set_cons_succ]
    refine tkH (i := 20) (N := some 88) (v := ?_) rfl rfl (by kernel_rfl) (by kernel_rfl) (by kernel_rfl) (fun _ _ _ h => h) (Or.inl ⟨by rfl, ?_⟩) hS ?_
    rotate_left
    · intro W_ hSW_
      obtain ⟨z0_, zg_, z2_, zb_, z3_, zc_⟩ := hSW_
      go_simp
      try with_reducible rfl
    try simp only [Act.put, List.setIfInBounds_toArray, List.set_cons_zero, List.set_cons_succ]
    refine tkH (i := 21) (N := some 89) (v := ?_) rfl rfl (by kernel_rfl) (by kernel_rfl) (by kernel_rfl) (fun _ _ _ h => h) (Or.inl ⟨by rfl, ?_⟩) hS ?_
    rotate_left
    · intro W_ hSW_
      obtain ⟨z0_, zg_, z2_, zb_, z3_, zc_⟩ := hSW_
      go_simp
      try with_reducible rfl
    try simp only [Act.put, List.setIfInBounds_toArray, List.set_cons_zero, List.set_cons_succ]
    refine tkH (i := 22) (N := some 12) (v := ?_) rfl rfl (by kernel_rfl) (by kernel_rfl) (by kernel_rfl) (fun _ _ _ h => h) (Or.inl ⟨by rfl, ?_⟩) hS ?_
    rotate_left
    · intro W_ hSW_
      obtain ⟨z0_, zg_, z2_, zb_, z3_, zc_⟩ := hSW_
      go_simp
      try with_reducible rfl
    try simp only [Act.put, List.setIfInBounds_toArray, List.set_cons_zero, List.set_cons_succ]
    refine tkH (i := 23) (N := some 13) (v := ?_) rfl rfl (by kernel_rfl) (by kernel_rfl) (by kernel_rfl) (fun _ _ _ h => h) (Or.inl ⟨by rfl, ?_⟩) hS ?_
    rotate_left
    · intro W_ hSW_
      obtain ⟨z0_, zg_, z2_, zb_, z3_, zc_⟩ := hSW_
      go_simp
      try with_reducible rfl
    try simp only [Act.put, List.setIfInBounds_toArray, List.set_cons_zero, List.set_cons_succ]
    refine wpAnyH_done (by kernel_rfl) ?_ _
    clear hS
    go_wp2_with fail
    go_ret2
    exact ⟨by simp [cmpC, HV.out.1, HV.out.2], below_step HBW.out HB4.out⟩
  by_cases e9 : op = 9
  · subst e9
    go_enter Tryd.func33, Tryd.ntmps33
    go_wp2_with fail
    have HSS := Aside0.mk (fun W (hB : Below W1.heap.size W1 W) => show W.cell? ⟨g1, 0, none⟩ = some (.int .i64 9) ∧ W.cell? ⟨0, 9, none⟩ = some (.int .i64 6) ∧ W.cell? ⟨g1, 2, none⟩ = some (.int .i64 (b : Int)) ∧ W.cell? ⟨gc, 1 + b, none⟩ = some (.int .i16 vb) ∧ W.cell? ⟨g1, 3, none⟩ = some (.int .i64 (cc : Int)) ∧ W.cell? ⟨gc, 1 + cc, none⟩ = some (.int .i16 vc) from ⟨Kd.cell_heap hB.block HX5.out.1, Kd.cell_heap hB.block (HGT.out 9 (by decide)), Kd.cell_heap hB.block HX5.out.2.1, Kd.cell_heap hB.block HXB.out, Kd.cell_heap hB.block HX5.out.2.2.1, Kd.cell_heap hB.block HXC.out⟩)
    refine wp_region_held_drew (S := fun W => W.cell? ⟨g1, 0, none⟩ = some (.int .i64 9) ∧ W.cell? ⟨0, 9, none⟩ = some (.int .i64 6) ∧ W.cell? ⟨g1, 2, none⟩ = some (.int .i64 (b : Int)) ∧ W.cell? ⟨gc, 1 + b, none⟩ = some (.int .i16 vb) ∧ W.cell? ⟨g1, 3, none⟩ = some (.int .i64 (cc : Int)) ∧ W.cell? ⟨gc, 1 + cc, none⟩ = some (.int .i16 vc)) (by kernel_rfl) (HSS.out _ (below_drew (Below.refl _ _))) (fun hS => ?_)
    refine tkH (i := 0) (N := some 69) (v := ?_) rfl rfl (by kernel_rfl) (by kernel_rfl) (by kernel_rfl) (fun _ _ _ h => h) (Or.inl ⟨by rfl, ?_⟩) hS ?_
    rotate_left
    · intro W_ hSW_
      obtain ⟨z0_, zg_, z2_, zb_, z3_, zc_⟩ := hSW_
      go_simp
      try with_reducible rfl
    try simp only [Act.put, List.setIfInBounds_toArray, List.set_cons_zero, List.set_cons_succ]
    refine tkH (i := 1) (N := some 70) (v := ?_) rfl rfl (by kernel_rfl) (by kernel_rfl) (by kernel_rfl) (fun _ _ _ h => h) (Or.inl ⟨by rfl, ?_⟩) hS ?_
    rotate_left
    · intro W_ hSW_
      obtain ⟨z0_, zg_, z2_, zb_, z3_, zc_⟩ := hSW_
      go_simp
      try with_reducible rfl
    try simp only [Act.put, List.setIfInBounds_toArray, List.set_cons_zero, List.set_cons_succ]
    refine tkH (i := 2) (N := some 71) (v := ?_) rfl rfl (by kernel_rfl) (by kernel_rfl) (by kernel_rfl) (fun _ _ _ h => h) (Or.inl ⟨by rfl, ?_⟩) hS ?_
    rotate_left
    · intro W_ hSW_
      obtain ⟨z0_, zg_, z2_, zb_, z3_, zc_⟩ := hSW_
      go_simp
      try with_reducible rfl
    try simp only [Act.put, List.setIfInBounds_toArray, List.set_cons_zero, List.set_cons_succ]
    refine tkH (i := 3) (N := some 72) (v := ?_) rfl rfl (by kernel_rfl) (by kernel_rfl) (by kernel_rfl) (fun _ _ _ h => h) (Or.inl ⟨by rfl, ?_⟩) hS ?_
    rotate_left
    · intro W_ hSW_
      obtain ⟨z0_, zg_, z2_, zb_, z3_, zc_⟩ := hSW_
      go_simp
      try with_reducible rfl
    try simp only [Act.put, List.setIfInBounds_toArray, List.set_cons_zero, List.set_cons_succ]
    refine tkH (i := 4) (N := some 73) (v := ?_) rfl rfl (by kernel_rfl) (by kernel_rfl) (by kernel_rfl) (fun _ _ _ h => h) (Or.inl ⟨by rfl, ?_⟩) hS ?_
    rotate_left
    · intro W_ hSW_
      obtain ⟨z0_, zg_, z2_, zb_, z3_, zc_⟩ := hSW_
      go_simp
      try with_reducible rfl
    try simp only [Act.put, List.setIfInBounds_toArray, List.set_cons_zero, List.set_cons_succ]
    refine tkH (i := 5) (N := some 74) (v := ?_) rfl rfl (by kernel_rfl) (by kernel_rfl) (by kernel_rfl) (fun _ _ _ h => h) (Or.inl ⟨by rfl, ?_⟩) hS ?_
    rotate_left
    · intro W_ hSW_
      obtain ⟨z0_, zg_, z2_, zb_, z3_, zc_⟩ := hSW_
      go_simp
      try with_reducible rfl
    try simp only [Act.put, List.setIfInBounds_toArray, List.set_cons_zero, List.set_cons_succ]
    refine tkH (i := 6) (N := some 75) (v := ?_) rfl rfl (by kernel_rfl) (by kernel_rfl) (by kernel_rfl) (fun _ _ _ h => h) (Or.inl ⟨by rfl, ?_⟩) hS ?_
    rotate_left
    · intro W_ hSW_
      obtain ⟨z0_, zg_, z2_, zb_, z3_, zc_⟩ := hSW_
      go_simp
      try with_reducible rfl
    try simp only [Act.put, List.setIfInBounds_toArray, List.set_cons_zero, List.set_cons_succ]
    refine tkH (i := 7) (N := some 76) (v := ?_) rfl rfl (by kernel_rfl) (by kernel_rfl) (by kernel_rfl) (fun _ _ _ h => h) (Or.inl ⟨by rfl, ?_⟩) hS ?_
    rotate_left
    · intro W_ hSW_
      obtain ⟨z0_, zg_, z2_, zb_, z3_, zc_⟩ := hSW_
      go_simp
      try with_reducible rfl
    try simp only [Act.put, List.setIfInBounds_toArray, List.set_cons_zero, List.set_cons_succ]
    refine tkH (i := 8) (N := some 77) (v := ?_) rfl rfl (by kernel_rfl) (by kernel_rfl) (by kernel_rfl) (fun _ _ _ h => h) (Or.inl ⟨by rfl, ?_⟩) hS ?_
    rotate_left
    · intro W_ hSW_
      obtain ⟨z0_, zg_, z2_, zb_, z3_, zc_⟩ := hSW_
      go_simp
      try with_reducible rfl
    try simp only [Act.put, List.setIfInBounds_toArray, List.set_cons_zero, List.set_cons_succ]
    refine tkH (i := 9) (N := some 78) (v := ?_) rfl rfl (by kernel_rfl) (by kernel_rfl) (by kernel_rfl) (fun _ _ _ h => h) (Or.inl ⟨by rfl, ?_⟩) hS ?_
    rotate_left
    · intro W_ hSW_
      obtain ⟨z0_, zg_, z2_, zb_, z3_, zc_⟩ := hSW_
      go_simp
      try with_reducible rfl
    try simp only [Act.put, List.setIfInBounds_toArray, List.set_cons_zero, List.set_cons_succ]
    refine tkH (i := 10) (N := some 79) (v := ?_) rfl rfl (by kernel_rfl) (by kernel_rfl) (by kernel_rfl) (fun _ _ _ h => h) (Or.inl ⟨by rfl, ?_⟩) hS ?_
    rotate_left
    · intro W_ hSW_
      obtain ⟨z0_, zg_, z2_, zb_, z3_, zc_⟩ := hSW_
      go_simp
      try with_reducible rfl
    try simp only [Act.put, List.setIfInBounds_toArray, List.set_cons_zero, List.set_cons_succ]
    refine tkH (i := 11) (N := some 80) (v := ?_) rfl rfl (by kernel_rfl) (by kernel_rfl) (by kernel_rfl) (fun _ _ _ h => h) (Or.inl ⟨by rfl, ?_⟩) hS ?_
    rotate_left
    · intro W_ hSW_
      obtain ⟨z0_, zg_, z2_, zb_, z3_, zc_⟩ := hSW_
      go_simp
      try with_reducible rfl
    try simp only [Act.put, List.setIfInBounds_toArray, List.set_cons_zero, List.set_cons_succ]
    refine tkH (i := 12) (N := some 81) (v := ?_) rfl rfl (by kernel_rfl) (by kernel_rfl) (by kernel_rfl) (fun _ _ _ h => h) (Or.inl ⟨by rfl, ?_⟩) hS ?_
    rotate_left
    · intro W_ hSW_
      obtain ⟨z0_, zg_, z2_, zb_, z3_, zc_⟩ := hSW_
      go_simp
      try with_reducible rfl
    try simp only [Act.put, List.setIfInBounds_toArray, List.set_cons_zero, List.set_cons_succ]
    refine tkH (i := 13) (N := some 82) (v := ?_) rfl rfl (by kernel_rfl) (by kernel_rfl) (by kernel_rfl) (fun _ _ _ h => h) (Or.inl ⟨by rfl, ?_⟩) hS ?_
    rotate_left
    · intro W_ hSW_
      obtain ⟨z0_, zg_, z2_, zb_, z3_, zc_⟩ := hSW_
      go_simp
      try with_reducible rfl
    try simp only [Act.put, List.setIfInBounds_toArray, List.set_cons_zero, List.set_cons_succ]
    refine tkH (i := 14) (N := some 83) (v := ?_) rfl rfl (by kernel_rfl) (by kernel_rfl) (by kernel_rfl) (fun _ _ _ h => h) (Or.inl ⟨by rfl, ?_⟩) hS ?_
    rotate_left
    · intro W_ hSW_
      obtain ⟨z0_, zg_, z2_, zb_, z3_, zc_⟩ := hSW_
      go_simp
      try with_reducible rfl
    try simp only [Act.put, List.setIfInBounds_toArray, List.set_cons_zero, List.set_cons_succ]
    refine tkH (i := 15) (N := some 84) (v := ?_) rfl rfl (by kernel_rfl) (by kernel_rfl) (by kernel_rfl) (fun _ _ _ h => h) (Or.inl ⟨by rfl, ?_⟩) hS ?_
    rotate_left
    · intro W_ hSW_
      obtain ⟨z0_, zg_, z2_, zb_, z3_, zc_⟩ := hSW_
      go_simp
      try with_reducible rfl
    try simp only [Act.put, List.setIfInBounds_toArray, List.set_cons_zero, List.set_cons_succ]
    refine tkH (i := 16) (N := some 85) (v := ?_) rfl rfl (by kernel_rfl) (by kernel_rfl) (by kernel_rfl) (fun _ _ _ h => h) (Or.inl ⟨by rfl, ?_⟩) hS ?_
    rotate_left
    · intro W_ hSW_
      obtain ⟨z0_, zg_, z2_, zb_, z3_, zc_⟩ := hSW_
      go_simp
      try with_reducible rfl
    try simp only [Act.put, List.setIfInBounds_toArray, List.set_cons_zero, List.set_cons_succ]
    refine tkH (i := 17) (N := some 86) (v := ?_) rfl rfl (by kernel_rfl) (by kernel_rfl) (by kernel_rfl) (fun _ _ _ h => h) (Or.inl ⟨by rfl, ?_⟩) hS ?_
    rotate_left
    · intro W_ hSW_
      obtain ⟨z0_, zg_, z2_, zb_, z3_, zc_⟩ := hSW_
      go_simp
      try with_reducible rfl
    try simp only [Act.put, List.setIfInBounds_toArray, List.set_cons_zero, List.set_cons_succ]
    refine wpAnyH_ready (rs := [18]) (by kernel_rfl) (by simp) ?_
    refine AllReadyH.cons (o := { dst := some 87, op := Op.call { callee := Callee.value (Operand.func 59), args := #[Operand.tmp 72, Operand.tmp 79, Operand.tmp 86], argTypes := #[3, 22, 22] }, type := 89, pos := "cpu.go:120", after := #[{ on := 3, ground := Ground.data }, { on := 10, ground := Ground.data }, { on := 17, ground := Ground.data }], guard := none }) rfl (fun K_ hK_ => ?_) AllReadyH.nil
    go_simp
    refine (word_Binary.calls 6 vb vc _ 0 _ (wbin_f (by unfold Bop; omega) vb vc)).mono ?_
    rintro e w4 ⟨rfl, hd4⟩
    have HB4 := Aside0.mk (below_step (below_drew (Below.refl W1.heap.size W1)) hd4.below)
    clear hd4
    refine hK_.out _ _ (HSS.out _ HB4.out) (fun hS_ => ?_)
    clear hK_ K_ hS
    have hS := hS_
    clear hS_
    try simp only [Act.put, List.setIfInBounds_toArray, List.set_cons_zero, List.set_cons_succ]
    refine tkH (i := 19) (N := some 68) (v := ?_) rfl rfl (by kernel_rfl) (by kernel_rfl) (by kernel_rfl) (fun _ _ _ h => h) (Or.inl ⟨by rfl, ?_⟩) hS ?_
    rotate_left
    · intro W_ hSW_
      obtain ⟨z0_, zg_, z2_, zb_, z3_, zc_⟩ := hSW_
      go_simp
      try with_reducible rfl
    try simp only [Act.put, List.setIfInBounds_toArray, List.set_cons_zero, List.set_cons_succ]
    refine tkH (i := 20) (N := some 88) (v := ?_) rfl rfl (by kernel_rfl) (by kernel_rfl) (by kernel_rfl) (fun _ _ _ h => h) (Or.inl ⟨by rfl, ?_⟩) hS ?_
    rotate_left
    · intro W_ hSW_
      obtain ⟨z0_, zg_, z2_, zb_, z3_, zc_⟩ := hSW_
      go_simp
      try with_reducible rfl
    try simp only [Act.put, List.setIfInBounds_toArray, List.set_cons_zero, List.set_cons_succ]
    refine tkH (i := 21) (N := some 89) (v := ?_) rfl rfl (by kernel_rfl) (by kernel_rfl) (by kernel_rfl) (fun _ _ _ h => h) (Or.inl ⟨by rfl, ?_⟩) hS ?_
    rotate_left
    · intro W_ hSW_
      obtain ⟨z0_, zg_, z2_, zb_, z3_, zc_⟩ := hSW_
      go_simp
      try with_reducible rfl
    try simp only [Act.put, List.setIfInBounds_toArray, List.set_cons_zero, List.set_cons_succ]
    refine tkH (i := 22) (N := some 12) (v := ?_) rfl rfl (by kernel_rfl) (by kernel_rfl) (by kernel_rfl) (fun _ _ _ h => h) (Or.inl ⟨by rfl, ?_⟩) hS ?_
    rotate_left
    · intro W_ hSW_
      obtain ⟨z0_, zg_, z2_, zb_, z3_, zc_⟩ := hSW_
      go_simp
      try with_reducible rfl
    try simp only [Act.put, List.setIfInBounds_toArray, List.set_cons_zero, List.set_cons_succ]
    refine tkH (i := 23) (N := some 13) (v := ?_) rfl rfl (by kernel_rfl) (by kernel_rfl) (by kernel_rfl) (fun _ _ _ h => h) (Or.inl ⟨by rfl, ?_⟩) hS ?_
    rotate_left
    · intro W_ hSW_
      obtain ⟨z0_, zg_, z2_, zb_, z3_, zc_⟩ := hSW_
      go_simp
      try with_reducible rfl
    try simp only [Act.put, List.setIfInBounds_toArray, List.set_cons_zero, List.set_cons_succ]
    refine wpAnyH_done (by kernel_rfl) ?_ _
    clear hS
    go_wp2_with fail
    go_ret2
    exact ⟨by simp [cmpC, HV.out.1, HV.out.2], below_step HBW.out HB4.out⟩
  by_cases e10 : op = 10
  · subst e10
    go_enter Tryd.func33, Tryd.ntmps33
    go_wp2_with fail
    have HSS := Aside0.mk (fun W (hB : Below W1.heap.size W1 W) => show W.cell? ⟨g1, 0, none⟩ = some (.int .i64 10) ∧ W.cell? ⟨0, 10, none⟩ = some (.int .i64 7) ∧ W.cell? ⟨g1, 2, none⟩ = some (.int .i64 (b : Int)) ∧ W.cell? ⟨gc, 1 + b, none⟩ = some (.int .i16 vb) ∧ W.cell? ⟨g1, 3, none⟩ = some (.int .i64 (cc : Int)) ∧ W.cell? ⟨gc, 1 + cc, none⟩ = some (.int .i16 vc) from ⟨Kd.cell_heap hB.block HX5.out.1, Kd.cell_heap hB.block (HGT.out 10 (by decide)), Kd.cell_heap hB.block HX5.out.2.1, Kd.cell_heap hB.block HXB.out, Kd.cell_heap hB.block HX5.out.2.2.1, Kd.cell_heap hB.block HXC.out⟩)
    refine wp_region_held_drew (S := fun W => W.cell? ⟨g1, 0, none⟩ = some (.int .i64 10) ∧ W.cell? ⟨0, 10, none⟩ = some (.int .i64 7) ∧ W.cell? ⟨g1, 2, none⟩ = some (.int .i64 (b : Int)) ∧ W.cell? ⟨gc, 1 + b, none⟩ = some (.int .i16 vb) ∧ W.cell? ⟨g1, 3, none⟩ = some (.int .i64 (cc : Int)) ∧ W.cell? ⟨gc, 1 + cc, none⟩ = some (.int .i16 vc)) (by kernel_rfl) (HSS.out _ (below_drew (Below.refl _ _))) (fun hS => ?_)
    refine tkH (i := 0) (N := some 69) (v := ?_) rfl rfl (by kernel_rfl) (by kernel_rfl) (by kernel_rfl) (fun _ _ _ h => h) (Or.inl ⟨by rfl, ?_⟩) hS ?_
    rotate_left
    · intro W_ hSW_
      obtain ⟨z0_, zg_, z2_, zb_, z3_, zc_⟩ := hSW_
      go_simp
      try with_reducible rfl
    try simp only [Act.put, List.setIfInBounds_toArray, List.set_cons_zero, List.set_cons_succ]
    refine tkH (i := 1) (N := some 70) (v := ?_) rfl rfl (by kernel_rfl) (by kernel_rfl) (by kernel_rfl) (fun _ _ _ h => h) (Or.inl ⟨by rfl, ?_⟩) hS ?_
    rotate_left
    · intro W_ hSW_
      obtain ⟨z0_, zg_, z2_, zb_, z3_, zc_⟩ := hSW_
      go_simp
      try with_reducible rfl
    try simp only [Act.put, List.setIfInBounds_toArray, List.set_cons_zero, List.set_cons_succ]
    refine tkH (i := 2) (N := some 71) (v := ?_) rfl rfl (by kernel_rfl) (by kernel_rfl) (by kernel_rfl) (fun _ _ _ h => h) (Or.inl ⟨by rfl, ?_⟩) hS ?_
    rotate_left
    · intro W_ hSW_
      obtain ⟨z0_, zg_, z2_, zb_, z3_, zc_⟩ := hSW_
      go_simp
      try with_reducible rfl
    try simp only [Act.put, List.setIfInBounds_toArray, List.set_cons_zero, List.set_cons_succ]
    refine tkH (i := 3) (N := some 72) (v := ?_) rfl rfl (by kernel_rfl) (by kernel_rfl) (by kernel_rfl) (fun _ _ _ h => h) (Or.inl ⟨by rfl, ?_⟩) hS ?_
    rotate_left
    · intro W_ hSW_
      obtain ⟨z0_, zg_, z2_, zb_, z3_, zc_⟩ := hSW_
      go_simp
      try with_reducible rfl
    try simp only [Act.put, List.setIfInBounds_toArray, List.set_cons_zero, List.set_cons_succ]
    refine tkH (i := 4) (N := some 73) (v := ?_) rfl rfl (by kernel_rfl) (by kernel_rfl) (by kernel_rfl) (fun _ _ _ h => h) (Or.inl ⟨by rfl, ?_⟩) hS ?_
    rotate_left
    · intro W_ hSW_
      obtain ⟨z0_, zg_, z2_, zb_, z3_, zc_⟩ := hSW_
      go_simp
      try with_reducible rfl
    try simp only [Act.put, List.setIfInBounds_toArray, List.set_cons_zero, List.set_cons_succ]
    refine tkH (i := 5) (N := some 74) (v := ?_) rfl rfl (by kernel_rfl) (by kernel_rfl) (by kernel_rfl) (fun _ _ _ h => h) (Or.inl ⟨by rfl, ?_⟩) hS ?_
    rotate_left
    · intro W_ hSW_
      obtain ⟨z0_, zg_, z2_, zb_, z3_, zc_⟩ := hSW_
      go_simp
      try with_reducible rfl
    try simp only [Act.put, List.setIfInBounds_toArray, List.set_cons_zero, List.set_cons_succ]
    refine tkH (i := 6) (N := some 75) (v := ?_) rfl rfl (by kernel_rfl) (by kernel_rfl) (by kernel_rfl) (fun _ _ _ h => h) (Or.inl ⟨by rfl, ?_⟩) hS ?_
    rotate_left
    · intro W_ hSW_
      obtain ⟨z0_, zg_, z2_, zb_, z3_, zc_⟩ := hSW_
      go_simp
      try with_reducible rfl
    try simp only [Act.put, List.setIfInBounds_toArray, List.set_cons_zero, List.set_cons_succ]
    refine tkH (i := 7) (N := some 76) (v := ?_) rfl rfl (by kernel_rfl) (by kernel_rfl) (by kernel_rfl) (fun _ _ _ h => h) (Or.inl ⟨by rfl, ?_⟩) hS ?_
    rotate_left
    · intro W_ hSW_
      obtain ⟨z0_, zg_, z2_, zb_, z3_, zc_⟩ := hSW_
      go_simp
      try with_reducible rfl
    try simp only [Act.put, List.setIfInBounds_toArray, List.set_cons_zero, List.set_cons_succ]
    refine tkH (i := 8) (N := some 77) (v := ?_) rfl rfl (by kernel_rfl) (by kernel_rfl) (by kernel_rfl) (fun _ _ _ h => h) (Or.inl ⟨by rfl, ?_⟩) hS ?_
    rotate_left
    · intro W_ hSW_
      obtain ⟨z0_, zg_, z2_, zb_, z3_, zc_⟩ := hSW_
      go_simp
      try with_reducible rfl
    try simp only [Act.put, List.setIfInBounds_toArray, List.set_cons_zero, List.set_cons_succ]
    refine tkH (i := 9) (N := some 78) (v := ?_) rfl rfl (by kernel_rfl) (by kernel_rfl) (by kernel_rfl) (fun _ _ _ h => h) (Or.inl ⟨by rfl, ?_⟩) hS ?_
    rotate_left
    · intro W_ hSW_
      obtain ⟨z0_, zg_, z2_, zb_, z3_, zc_⟩ := hSW_
      go_simp
      try with_reducible rfl
    try simp only [Act.put, List.setIfInBounds_toArray, List.set_cons_zero, List.set_cons_succ]
    refine tkH (i := 10) (N := some 79) (v := ?_) rfl rfl (by kernel_rfl) (by kernel_rfl) (by kernel_rfl) (fun _ _ _ h => h) (Or.inl ⟨by rfl, ?_⟩) hS ?_
    rotate_left
    · intro W_ hSW_
      obtain ⟨z0_, zg_, z2_, zb_, z3_, zc_⟩ := hSW_
      go_simp
      try with_reducible rfl
    try simp only [Act.put, List.setIfInBounds_toArray, List.set_cons_zero, List.set_cons_succ]
    refine tkH (i := 11) (N := some 80) (v := ?_) rfl rfl (by kernel_rfl) (by kernel_rfl) (by kernel_rfl) (fun _ _ _ h => h) (Or.inl ⟨by rfl, ?_⟩) hS ?_
    rotate_left
    · intro W_ hSW_
      obtain ⟨z0_, zg_, z2_, zb_, z3_, zc_⟩ := hSW_
      go_simp
      try with_reducible rfl
    try simp only [Act.put, List.setIfInBounds_toArray, List.set_cons_zero, List.set_cons_succ]
    refine tkH (i := 12) (N := some 81) (v := ?_) rfl rfl (by kernel_rfl) (by kernel_rfl) (by kernel_rfl) (fun _ _ _ h => h) (Or.inl ⟨by rfl, ?_⟩) hS ?_
    rotate_left
    · intro W_ hSW_
      obtain ⟨z0_, zg_, z2_, zb_, z3_, zc_⟩ := hSW_
      go_simp
      try with_reducible rfl
    try simp only [Act.put, List.setIfInBounds_toArray, List.set_cons_zero, List.set_cons_succ]
    refine tkH (i := 13) (N := some 82) (v := ?_) rfl rfl (by kernel_rfl) (by kernel_rfl) (by kernel_rfl) (fun _ _ _ h => h) (Or.inl ⟨by rfl, ?_⟩) hS ?_
    rotate_left
    · intro W_ hSW_
      obtain ⟨z0_, zg_, z2_, zb_, z3_, zc_⟩ := hSW_
      go_simp
      try with_reducible rfl
    try simp only [Act.put, List.setIfInBounds_toArray, List.set_cons_zero, List.set_cons_succ]
    refine tkH (i := 14) (N := some 83) (v := ?_) rfl rfl (by kernel_rfl) (by kernel_rfl) (by kernel_rfl) (fun _ _ _ h => h) (Or.inl ⟨by rfl, ?_⟩) hS ?_
    rotate_left
    · intro W_ hSW_
      obtain ⟨z0_, zg_, z2_, zb_, z3_, zc_⟩ := hSW_
      go_simp
      try with_reducible rfl
    try simp only [Act.put, List.setIfInBounds_toArray, List.set_cons_zero, List.set_cons_succ]
    refine tkH (i := 15) (N := some 84) (v := ?_) rfl rfl (by kernel_rfl) (by kernel_rfl) (by kernel_rfl) (fun _ _ _ h => h) (Or.inl ⟨by rfl, ?_⟩) hS ?_
    rotate_left
    · intro W_ hSW_
      obtain ⟨z0_, zg_, z2_, zb_, z3_, zc_⟩ := hSW_
      go_simp
      try with_reducible rfl
    try simp only [Act.put, List.setIfInBounds_toArray, List.set_cons_zero, List.set_cons_succ]
    refine tkH (i := 16) (N := some 85) (v := ?_) rfl rfl (by kernel_rfl) (by kernel_rfl) (by kernel_rfl) (fun _ _ _ h => h) (Or.inl ⟨by rfl, ?_⟩) hS ?_
    rotate_left
    · intro W_ hSW_
      obtain ⟨z0_, zg_, z2_, zb_, z3_, zc_⟩ := hSW_
      go_simp
      try with_reducible rfl
    try simp only [Act.put, List.setIfInBounds_toArray, List.set_cons_zero, List.set_cons_succ]
    refine tkH (i := 17) (N := some 86) (v := ?_) rfl rfl (by kernel_rfl) (by kernel_rfl) (by kernel_rfl) (fun _ _ _ h => h) (Or.inl ⟨by rfl, ?_⟩) hS ?_
    rotate_left
    · intro W_ hSW_
      obtain ⟨z0_, zg_, z2_, zb_, z3_, zc_⟩ := hSW_
      go_simp
      try with_reducible rfl
    try simp only [Act.put, List.setIfInBounds_toArray, List.set_cons_zero, List.set_cons_succ]
    refine wpAnyH_ready (rs := [18]) (by kernel_rfl) (by simp) ?_
    refine AllReadyH.cons (o := { dst := some 87, op := Op.call { callee := Callee.value (Operand.func 59), args := #[Operand.tmp 72, Operand.tmp 79, Operand.tmp 86], argTypes := #[3, 22, 22] }, type := 89, pos := "cpu.go:120", after := #[{ on := 3, ground := Ground.data }, { on := 10, ground := Ground.data }, { on := 17, ground := Ground.data }], guard := none }) rfl (fun K_ hK_ => ?_) AllReadyH.nil
    go_simp
    refine (word_Binary.calls 7 vb vc _ 0 _ (wbin_f (by unfold Bop; omega) vb vc)).mono ?_
    rintro e w4 ⟨rfl, hd4⟩
    have HB4 := Aside0.mk (below_step (below_drew (Below.refl W1.heap.size W1)) hd4.below)
    clear hd4
    refine hK_.out _ _ (HSS.out _ HB4.out) (fun hS_ => ?_)
    clear hK_ K_ hS
    have hS := hS_
    clear hS_
    try simp only [Act.put, List.setIfInBounds_toArray, List.set_cons_zero, List.set_cons_succ]
    refine tkH (i := 19) (N := some 68) (v := ?_) rfl rfl (by kernel_rfl) (by kernel_rfl) (by kernel_rfl) (fun _ _ _ h => h) (Or.inl ⟨by rfl, ?_⟩) hS ?_
    rotate_left
    · intro W_ hSW_
      obtain ⟨z0_, zg_, z2_, zb_, z3_, zc_⟩ := hSW_
      go_simp
      try with_reducible rfl
    try simp only [Act.put, List.setIfInBounds_toArray, List.set_cons_zero, List.set_cons_succ]
    refine tkH (i := 20) (N := some 88) (v := ?_) rfl rfl (by kernel_rfl) (by kernel_rfl) (by kernel_rfl) (fun _ _ _ h => h) (Or.inl ⟨by rfl, ?_⟩) hS ?_
    rotate_left
    · intro W_ hSW_
      obtain ⟨z0_, zg_, z2_, zb_, z3_, zc_⟩ := hSW_
      go_simp
      try with_reducible rfl
    try simp only [Act.put, List.setIfInBounds_toArray, List.set_cons_zero, List.set_cons_succ]
    refine tkH (i := 21) (N := some 89) (v := ?_) rfl rfl (by kernel_rfl) (by kernel_rfl) (by kernel_rfl) (fun _ _ _ h => h) (Or.inl ⟨by rfl, ?_⟩) hS ?_
    rotate_left
    · intro W_ hSW_
      obtain ⟨z0_, zg_, z2_, zb_, z3_, zc_⟩ := hSW_
      go_simp
      try with_reducible rfl
    try simp only [Act.put, List.setIfInBounds_toArray, List.set_cons_zero, List.set_cons_succ]
    refine tkH (i := 22) (N := some 12) (v := ?_) rfl rfl (by kernel_rfl) (by kernel_rfl) (by kernel_rfl) (fun _ _ _ h => h) (Or.inl ⟨by rfl, ?_⟩) hS ?_
    rotate_left
    · intro W_ hSW_
      obtain ⟨z0_, zg_, z2_, zb_, z3_, zc_⟩ := hSW_
      go_simp
      try with_reducible rfl
    try simp only [Act.put, List.setIfInBounds_toArray, List.set_cons_zero, List.set_cons_succ]
    refine tkH (i := 23) (N := some 13) (v := ?_) rfl rfl (by kernel_rfl) (by kernel_rfl) (by kernel_rfl) (fun _ _ _ h => h) (Or.inl ⟨by rfl, ?_⟩) hS ?_
    rotate_left
    · intro W_ hSW_
      obtain ⟨z0_, zg_, z2_, zb_, z3_, zc_⟩ := hSW_
      go_simp
      try with_reducible rfl
    try simp only [Act.put, List.setIfInBounds_toArray, List.set_cons_zero, List.set_cons_succ]
    refine wpAnyH_done (by kernel_rfl) ?_ _
    clear hS
    go_wp2_with fail
    go_ret2
    exact ⟨by simp [cmpC, HV.out.1, HV.out.2], below_step HBW.out HB4.out⟩
  by_cases e11 : op = 11
  · subst e11
    go_enter Tryd.func33, Tryd.ntmps33
    go_wp2_with fail
    have HSS := Aside0.mk (fun W (hB : Below W1.heap.size W1 W) => show W.cell? ⟨g1, 0, none⟩ = some (.int .i64 11) ∧ W.cell? ⟨0, 11, none⟩ = some (.int .i64 8) ∧ W.cell? ⟨g1, 2, none⟩ = some (.int .i64 (b : Int)) ∧ W.cell? ⟨gc, 1 + b, none⟩ = some (.int .i16 vb) ∧ W.cell? ⟨g1, 3, none⟩ = some (.int .i64 (cc : Int)) ∧ W.cell? ⟨gc, 1 + cc, none⟩ = some (.int .i16 vc) from ⟨Kd.cell_heap hB.block HX5.out.1, Kd.cell_heap hB.block (HGT.out 11 (by decide)), Kd.cell_heap hB.block HX5.out.2.1, Kd.cell_heap hB.block HXB.out, Kd.cell_heap hB.block HX5.out.2.2.1, Kd.cell_heap hB.block HXC.out⟩)
    refine wp_region_held_drew (S := fun W => W.cell? ⟨g1, 0, none⟩ = some (.int .i64 11) ∧ W.cell? ⟨0, 11, none⟩ = some (.int .i64 8) ∧ W.cell? ⟨g1, 2, none⟩ = some (.int .i64 (b : Int)) ∧ W.cell? ⟨gc, 1 + b, none⟩ = some (.int .i16 vb) ∧ W.cell? ⟨g1, 3, none⟩ = some (.int .i64 (cc : Int)) ∧ W.cell? ⟨gc, 1 + cc, none⟩ = some (.int .i16 vc)) (by kernel_rfl) (HSS.out _ (below_drew (Below.refl _ _))) (fun hS => ?_)
    refine tkH (i := 0) (N := some 69) (v := ?_) rfl rfl (by kernel_rfl) (by kernel_rfl) (by kernel_rfl) (fun _ _ _ h => h) (Or.inl ⟨by rfl, ?_⟩) hS ?_
    rotate_left
    · intro W_ hSW_
      obtain ⟨z0_, zg_, z2_, zb_, z3_, zc_⟩ := hSW_
      go_simp
      try with_reducible rfl
    try simp only [Act.put, List.setIfInBounds_toArray, List.set_cons_zero, List.set_cons_succ]
    refine tkH (i := 1) (N := some 70) (v := ?_) rfl rfl (by kernel_rfl) (by kernel_rfl) (by kernel_rfl) (fun _ _ _ h => h) (Or.inl ⟨by rfl, ?_⟩) hS ?_
    rotate_left
    · intro W_ hSW_
      obtain ⟨z0_, zg_, z2_, zb_, z3_, zc_⟩ := hSW_
      go_simp
      try with_reducible rfl
    try simp only [Act.put, List.setIfInBounds_toArray, List.set_cons_zero, List.set_cons_succ]
    refine tkH (i := 2) (N := some 71) (v := ?_) rfl rfl (by kernel_rfl) (by kernel_rfl) (by kernel_rfl) (fun _ _ _ h => h) (Or.inl ⟨by rfl, ?_⟩) hS ?_
    rotate_left
    · intro W_ hSW_
      obtain ⟨z0_, zg_, z2_, zb_, z3_, zc_⟩ := hSW_
      go_simp
      try with_reducible rfl
    try simp only [Act.put, List.setIfInBounds_toArray, List.set_cons_zero, List.set_cons_succ]
    refine tkH (i := 3) (N := some 72) (v := ?_) rfl rfl (by kernel_rfl) (by kernel_rfl) (by kernel_rfl) (fun _ _ _ h => h) (Or.inl ⟨by rfl, ?_⟩) hS ?_
    rotate_left
    · intro W_ hSW_
      obtain ⟨z0_, zg_, z2_, zb_, z3_, zc_⟩ := hSW_
      go_simp
      try with_reducible rfl
    try simp only [Act.put, List.setIfInBounds_toArray, List.set_cons_zero, List.set_cons_succ]
    refine tkH (i := 4) (N := some 73) (v := ?_) rfl rfl (by kernel_rfl) (by kernel_rfl) (by kernel_rfl) (fun _ _ _ h => h) (Or.inl ⟨by rfl, ?_⟩) hS ?_
    rotate_left
    · intro W_ hSW_
      obtain ⟨z0_, zg_, z2_, zb_, z3_, zc_⟩ := hSW_
      go_simp
      try with_reducible rfl
    try simp only [Act.put, List.setIfInBounds_toArray, List.set_cons_zero, List.set_cons_succ]
    refine tkH (i := 5) (N := some 74) (v := ?_) rfl rfl (by kernel_rfl) (by kernel_rfl) (by kernel_rfl) (fun _ _ _ h => h) (Or.inl ⟨by rfl, ?_⟩) hS ?_
    rotate_left
    · intro W_ hSW_
      obtain ⟨z0_, zg_, z2_, zb_, z3_, zc_⟩ := hSW_
      go_simp
      try with_reducible rfl
    try simp only [Act.put, List.setIfInBounds_toArray, List.set_cons_zero, List.set_cons_succ]
    refine tkH (i := 6) (N := some 75) (v := ?_) rfl rfl (by kernel_rfl) (by kernel_rfl) (by kernel_rfl) (fun _ _ _ h => h) (Or.inl ⟨by rfl, ?_⟩) hS ?_
    rotate_left
    · intro W_ hSW_
      obtain ⟨z0_, zg_, z2_, zb_, z3_, zc_⟩ := hSW_
      go_simp
      try with_reducible rfl
    try simp only [Act.put, List.setIfInBounds_toArray, List.set_cons_zero, List.set_cons_succ]
    refine tkH (i := 7) (N := some 76) (v := ?_) rfl rfl (by kernel_rfl) (by kernel_rfl) (by kernel_rfl) (fun _ _ _ h => h) (Or.inl ⟨by rfl, ?_⟩) hS ?_
    rotate_left
    · intro W_ hSW_
      obtain ⟨z0_, zg_, z2_, zb_, z3_, zc_⟩ := hSW_
      go_simp
      try with_reducible rfl
    try simp only [Act.put, List.setIfInBounds_toArray, List.set_cons_zero, List.set_cons_succ]
    refine tkH (i := 8) (N := some 77) (v := ?_) rfl rfl (by kernel_rfl) (by kernel_rfl) (by kernel_rfl) (fun _ _ _ h => h) (Or.inl ⟨by rfl, ?_⟩) hS ?_
    rotate_left
    · intro W_ hSW_
      obtain ⟨z0_, zg_, z2_, zb_, z3_, zc_⟩ := hSW_
      go_simp
      try with_reducible rfl
    try simp only [Act.put, List.setIfInBounds_toArray, List.set_cons_zero, List.set_cons_succ]
    refine tkH (i := 9) (N := some 78) (v := ?_) rfl rfl (by kernel_rfl) (by kernel_rfl) (by kernel_rfl) (fun _ _ _ h => h) (Or.inl ⟨by rfl, ?_⟩) hS ?_
    rotate_left
    · intro W_ hSW_
      obtain ⟨z0_, zg_, z2_, zb_, z3_, zc_⟩ := hSW_
      go_simp
      try with_reducible rfl
    try simp only [Act.put, List.setIfInBounds_toArray, List.set_cons_zero, List.set_cons_succ]
    refine tkH (i := 10) (N := some 79) (v := ?_) rfl rfl (by kernel_rfl) (by kernel_rfl) (by kernel_rfl) (fun _ _ _ h => h) (Or.inl ⟨by rfl, ?_⟩) hS ?_
    rotate_left
    · intro W_ hSW_
      obtain ⟨z0_, zg_, z2_, zb_, z3_, zc_⟩ := hSW_
      go_simp
      try with_reducible rfl
    try simp only [Act.put, List.setIfInBounds_toArray, List.set_cons_zero, List.set_cons_succ]
    refine tkH (i := 11) (N := some 80) (v := ?_) rfl rfl (by kernel_rfl) (by kernel_rfl) (by kernel_rfl) (fun _ _ _ h => h) (Or.inl ⟨by rfl, ?_⟩) hS ?_
    rotate_left
    · intro W_ hSW_
      obtain ⟨z0_, zg_, z2_, zb_, z3_, zc_⟩ := hSW_
      go_simp
      try with_reducible rfl
    try simp only [Act.put, List.setIfInBounds_toArray, List.set_cons_zero, List.set_cons_succ]
    refine tkH (i := 12) (N := some 81) (v := ?_) rfl rfl (by kernel_rfl) (by kernel_rfl) (by kernel_rfl) (fun _ _ _ h => h) (Or.inl ⟨by rfl, ?_⟩) hS ?_
    rotate_left
    · intro W_ hSW_
      obtain ⟨z0_, zg_, z2_, zb_, z3_, zc_⟩ := hSW_
      go_simp
      try with_reducible rfl
    try simp only [Act.put, List.setIfInBounds_toArray, List.set_cons_zero, List.set_cons_succ]
    refine tkH (i := 13) (N := some 82) (v := ?_) rfl rfl (by kernel_rfl) (by kernel_rfl) (by kernel_rfl) (fun _ _ _ h => h) (Or.inl ⟨by rfl, ?_⟩) hS ?_
    rotate_left
    · intro W_ hSW_
      obtain ⟨z0_, zg_, z2_, zb_, z3_, zc_⟩ := hSW_
      go_simp
      try with_reducible rfl
    try simp only [Act.put, List.setIfInBounds_toArray, List.set_cons_zero, List.set_cons_succ]
    refine tkH (i := 14) (N := some 83) (v := ?_) rfl rfl (by kernel_rfl) (by kernel_rfl) (by kernel_rfl) (fun _ _ _ h => h) (Or.inl ⟨by rfl, ?_⟩) hS ?_
    rotate_left
    · intro W_ hSW_
      obtain ⟨z0_, zg_, z2_, zb_, z3_, zc_⟩ := hSW_
      go_simp
      try with_reducible rfl
    try simp only [Act.put, List.setIfInBounds_toArray, List.set_cons_zero, List.set_cons_succ]
    refine tkH (i := 15) (N := some 84) (v := ?_) rfl rfl (by kernel_rfl) (by kernel_rfl) (by kernel_rfl) (fun _ _ _ h => h) (Or.inl ⟨by rfl, ?_⟩) hS ?_
    rotate_left
    · intro W_ hSW_
      obtain ⟨z0_, zg_, z2_, zb_, z3_, zc_⟩ := hSW_
      go_simp
      try with_reducible rfl
    try simp only [Act.put, List.setIfInBounds_toArray, List.set_cons_zero, List.set_cons_succ]
    refine tkH (i := 16) (N := some 85) (v := ?_) rfl rfl (by kernel_rfl) (by kernel_rfl) (by kernel_rfl) (fun _ _ _ h => h) (Or.inl ⟨by rfl, ?_⟩) hS ?_
    rotate_left
    · intro W_ hSW_
      obtain ⟨z0_, zg_, z2_, zb_, z3_, zc_⟩ := hSW_
      go_simp
      try with_reducible rfl
    try simp only [Act.put, List.setIfInBounds_toArray, List.set_cons_zero, List.set_cons_succ]
    refine tkH (i := 17) (N := some 86) (v := ?_) rfl rfl (by kernel_rfl) (by kernel_rfl) (by kernel_rfl) (fun _ _ _ h => h) (Or.inl ⟨by rfl, ?_⟩) hS ?_
    rotate_left
    · intro W_ hSW_
      obtain ⟨z0_, zg_, z2_, zb_, z3_, zc_⟩ := hSW_
      go_simp
      try with_reducible rfl
    try simp only [Act.put, List.setIfInBounds_toArray, List.set_cons_zero, List.set_cons_succ]
    refine wpAnyH_ready (rs := [18]) (by kernel_rfl) (by simp) ?_
    refine AllReadyH.cons (o := { dst := some 87, op := Op.call { callee := Callee.value (Operand.func 59), args := #[Operand.tmp 72, Operand.tmp 79, Operand.tmp 86], argTypes := #[3, 22, 22] }, type := 89, pos := "cpu.go:120", after := #[{ on := 3, ground := Ground.data }, { on := 10, ground := Ground.data }, { on := 17, ground := Ground.data }], guard := none }) rfl (fun K_ hK_ => ?_) AllReadyH.nil
    go_simp
    refine (word_Binary.calls 8 vb vc _ 0 _ (wbin_f (by unfold Bop; omega) vb vc)).mono ?_
    rintro e w4 ⟨rfl, hd4⟩
    have HB4 := Aside0.mk (below_step (below_drew (Below.refl W1.heap.size W1)) hd4.below)
    clear hd4
    refine hK_.out _ _ (HSS.out _ HB4.out) (fun hS_ => ?_)
    clear hK_ K_ hS
    have hS := hS_
    clear hS_
    try simp only [Act.put, List.setIfInBounds_toArray, List.set_cons_zero, List.set_cons_succ]
    refine tkH (i := 19) (N := some 68) (v := ?_) rfl rfl (by kernel_rfl) (by kernel_rfl) (by kernel_rfl) (fun _ _ _ h => h) (Or.inl ⟨by rfl, ?_⟩) hS ?_
    rotate_left
    · intro W_ hSW_
      obtain ⟨z0_, zg_, z2_, zb_, z3_, zc_⟩ := hSW_
      go_simp
      try with_reducible rfl
    try simp only [Act.put, List.setIfInBounds_toArray, List.set_cons_zero, List.set_cons_succ]
    refine tkH (i := 20) (N := some 88) (v := ?_) rfl rfl (by kernel_rfl) (by kernel_rfl) (by kernel_rfl) (fun _ _ _ h => h) (Or.inl ⟨by rfl, ?_⟩) hS ?_
    rotate_left
    · intro W_ hSW_
      obtain ⟨z0_, zg_, z2_, zb_, z3_, zc_⟩ := hSW_
      go_simp
      try with_reducible rfl
    try simp only [Act.put, List.setIfInBounds_toArray, List.set_cons_zero, List.set_cons_succ]
    refine tkH (i := 21) (N := some 89) (v := ?_) rfl rfl (by kernel_rfl) (by kernel_rfl) (by kernel_rfl) (fun _ _ _ h => h) (Or.inl ⟨by rfl, ?_⟩) hS ?_
    rotate_left
    · intro W_ hSW_
      obtain ⟨z0_, zg_, z2_, zb_, z3_, zc_⟩ := hSW_
      go_simp
      try with_reducible rfl
    try simp only [Act.put, List.setIfInBounds_toArray, List.set_cons_zero, List.set_cons_succ]
    refine tkH (i := 22) (N := some 12) (v := ?_) rfl rfl (by kernel_rfl) (by kernel_rfl) (by kernel_rfl) (fun _ _ _ h => h) (Or.inl ⟨by rfl, ?_⟩) hS ?_
    rotate_left
    · intro W_ hSW_
      obtain ⟨z0_, zg_, z2_, zb_, z3_, zc_⟩ := hSW_
      go_simp
      try with_reducible rfl
    try simp only [Act.put, List.setIfInBounds_toArray, List.set_cons_zero, List.set_cons_succ]
    refine tkH (i := 23) (N := some 13) (v := ?_) rfl rfl (by kernel_rfl) (by kernel_rfl) (by kernel_rfl) (fun _ _ _ h => h) (Or.inl ⟨by rfl, ?_⟩) hS ?_
    rotate_left
    · intro W_ hSW_
      obtain ⟨z0_, zg_, z2_, zb_, z3_, zc_⟩ := hSW_
      go_simp
      try with_reducible rfl
    try simp only [Act.put, List.setIfInBounds_toArray, List.set_cons_zero, List.set_cons_succ]
    refine wpAnyH_done (by kernel_rfl) ?_ _
    clear hS
    go_wp2_with fail
    go_ret2
    exact ⟨by simp [cmpC, HV.out.1, HV.out.2], below_step HBW.out HB4.out⟩
  by_cases e12 : op = 12
  · subst e12
    go_enter Tryd.func33, Tryd.ntmps33
    go_wp2_with fail
    have HSS := Aside0.mk (fun W (hB : Below W1.heap.size W1 W) => show W.cell? ⟨g1, 0, none⟩ = some (.int .i64 12) ∧ W.cell? ⟨0, 12, none⟩ = some (.int .i64 10) ∧ W.cell? ⟨g1, 2, none⟩ = some (.int .i64 (b : Int)) ∧ W.cell? ⟨gc, 1 + b, none⟩ = some (.int .i16 vb) ∧ W.cell? ⟨g1, 3, none⟩ = some (.int .i64 (cc : Int)) ∧ W.cell? ⟨gc, 1 + cc, none⟩ = some (.int .i16 vc) from ⟨Kd.cell_heap hB.block HX5.out.1, Kd.cell_heap hB.block (HGT.out 12 (by decide)), Kd.cell_heap hB.block HX5.out.2.1, Kd.cell_heap hB.block HXB.out, Kd.cell_heap hB.block HX5.out.2.2.1, Kd.cell_heap hB.block HXC.out⟩)
    refine wp_region_held_drew (S := fun W => W.cell? ⟨g1, 0, none⟩ = some (.int .i64 12) ∧ W.cell? ⟨0, 12, none⟩ = some (.int .i64 10) ∧ W.cell? ⟨g1, 2, none⟩ = some (.int .i64 (b : Int)) ∧ W.cell? ⟨gc, 1 + b, none⟩ = some (.int .i16 vb) ∧ W.cell? ⟨g1, 3, none⟩ = some (.int .i64 (cc : Int)) ∧ W.cell? ⟨gc, 1 + cc, none⟩ = some (.int .i16 vc)) (by kernel_rfl) (HSS.out _ (below_drew (Below.refl _ _))) (fun hS => ?_)
    refine tkH (i := 0) (N := some 69) (v := ?_) rfl rfl (by kernel_rfl) (by kernel_rfl) (by kernel_rfl) (fun _ _ _ h => h) (Or.inl ⟨by rfl, ?_⟩) hS ?_
    rotate_left
    · intro W_ hSW_
      obtain ⟨z0_, zg_, z2_, zb_, z3_, zc_⟩ := hSW_
      go_simp
      try with_reducible rfl
    try simp only [Act.put, List.setIfInBounds_toArray, List.set_cons_zero, List.set_cons_succ]
    refine tkH (i := 1) (N := some 70) (v := ?_) rfl rfl (by kernel_rfl) (by kernel_rfl) (by kernel_rfl) (fun _ _ _ h => h) (Or.inl ⟨by rfl, ?_⟩) hS ?_
    rotate_left
    · intro W_ hSW_
      obtain ⟨z0_, zg_, z2_, zb_, z3_, zc_⟩ := hSW_
      go_simp
      try with_reducible rfl
    try simp only [Act.put, List.setIfInBounds_toArray, List.set_cons_zero, List.set_cons_succ]
    refine tkH (i := 2) (N := some 71) (v := ?_) rfl rfl (by kernel_rfl) (by kernel_rfl) (by kernel_rfl) (fun _ _ _ h => h) (Or.inl ⟨by rfl, ?_⟩) hS ?_
    rotate_left
    · intro W_ hSW_
      obtain ⟨z0_, zg_, z2_, zb_, z3_, zc_⟩ := hSW_
      go_simp
      try with_reducible rfl
    try simp only [Act.put, List.setIfInBounds_toArray, List.set_cons_zero, List.set_cons_succ]
    refine tkH (i := 3) (N := some 72) (v := ?_) rfl rfl (by kernel_rfl) (by kernel_rfl) (by kernel_rfl) (fun _ _ _ h => h) (Or.inl ⟨by rfl, ?_⟩) hS ?_
    rotate_left
    · intro W_ hSW_
      obtain ⟨z0_, zg_, z2_, zb_, z3_, zc_⟩ := hSW_
      go_simp
      try with_reducible rfl
    try simp only [Act.put, List.setIfInBounds_toArray, List.set_cons_zero, List.set_cons_succ]
    refine tkH (i := 4) (N := some 73) (v := ?_) rfl rfl (by kernel_rfl) (by kernel_rfl) (by kernel_rfl) (fun _ _ _ h => h) (Or.inl ⟨by rfl, ?_⟩) hS ?_
    rotate_left
    · intro W_ hSW_
      obtain ⟨z0_, zg_, z2_, zb_, z3_, zc_⟩ := hSW_
      go_simp
      try with_reducible rfl
    try simp only [Act.put, List.setIfInBounds_toArray, List.set_cons_zero, List.set_cons_succ]
    refine tkH (i := 5) (N := some 74) (v := ?_) rfl rfl (by kernel_rfl) (by kernel_rfl) (by kernel_rfl) (fun _ _ _ h => h) (Or.inl ⟨by rfl, ?_⟩) hS ?_
    rotate_left
    · intro W_ hSW_
      obtain ⟨z0_, zg_, z2_, zb_, z3_, zc_⟩ := hSW_
      go_simp
      try with_reducible rfl
    try simp only [Act.put, List.setIfInBounds_toArray, List.set_cons_zero, List.set_cons_succ]
    refine tkH (i := 6) (N := some 75) (v := ?_) rfl rfl (by kernel_rfl) (by kernel_rfl) (by kernel_rfl) (fun _ _ _ h => h) (Or.inl ⟨by rfl, ?_⟩) hS ?_
    rotate_left
    · intro W_ hSW_
      obtain ⟨z0_, zg_, z2_, zb_, z3_, zc_⟩ := hSW_
      go_simp
      try with_reducible rfl
    try simp only [Act.put, List.setIfInBounds_toArray, List.set_cons_zero, List.set_cons_succ]
    refine tkH (i := 7) (N := some 76) (v := ?_) rfl rfl (by kernel_rfl) (by kernel_rfl) (by kernel_rfl) (fun _ _ _ h => h) (Or.inl ⟨by rfl, ?_⟩) hS ?_
    rotate_left
    · intro W_ hSW_
      obtain ⟨z0_, zg_, z2_, zb_, z3_, zc_⟩ := hSW_
      go_simp
      try with_reducible rfl
    try simp only [Act.put, List.setIfInBounds_toArray, List.set_cons_zero, List.set_cons_succ]
    refine tkH (i := 8) (N := some 77) (v := ?_) rfl rfl (by kernel_rfl) (by kernel_rfl) (by kernel_rfl) (fun _ _ _ h => h) (Or.inl ⟨by rfl, ?_⟩) hS ?_
    rotate_left
    · intro W_ hSW_
      obtain ⟨z0_, zg_, z2_, zb_, z3_, zc_⟩ := hSW_
      go_simp
      try with_reducible rfl
    try simp only [Act.put, List.setIfInBounds_toArray, List.set_cons_zero, List.set_cons_succ]
    refine tkH (i := 9) (N := some 78) (v := ?_) rfl rfl (by kernel_rfl) (by kernel_rfl) (by kernel_rfl) (fun _ _ _ h => h) (Or.inl ⟨by rfl, ?_⟩) hS ?_
    rotate_left
    · intro W_ hSW_
      obtain ⟨z0_, zg_, z2_, zb_, z3_, zc_⟩ := hSW_
      go_simp
      try with_reducible rfl
    try simp only [Act.put, List.setIfInBounds_toArray, List.set_cons_zero, List.set_cons_succ]
    refine tkH (i := 10) (N := some 79) (v := ?_) rfl rfl (by kernel_rfl) (by kernel_rfl) (by kernel_rfl) (fun _ _ _ h => h) (Or.inl ⟨by rfl, ?_⟩) hS ?_
    rotate_left
    · intro W_ hSW_
      obtain ⟨z0_, zg_, z2_, zb_, z3_, zc_⟩ := hSW_
      go_simp
      try with_reducible rfl
    try simp only [Act.put, List.setIfInBounds_toArray, List.set_cons_zero, List.set_cons_succ]
    refine tkH (i := 11) (N := some 80) (v := ?_) rfl rfl (by kernel_rfl) (by kernel_rfl) (by kernel_rfl) (fun _ _ _ h => h) (Or.inl ⟨by rfl, ?_⟩) hS ?_
    rotate_left
    · intro W_ hSW_
      obtain ⟨z0_, zg_, z2_, zb_, z3_, zc_⟩ := hSW_
      go_simp
      try with_reducible rfl
    try simp only [Act.put, List.setIfInBounds_toArray, List.set_cons_zero, List.set_cons_succ]
    refine tkH (i := 12) (N := some 81) (v := ?_) rfl rfl (by kernel_rfl) (by kernel_rfl) (by kernel_rfl) (fun _ _ _ h => h) (Or.inl ⟨by rfl, ?_⟩) hS ?_
    rotate_left
    · intro W_ hSW_
      obtain ⟨z0_, zg_, z2_, zb_, z3_, zc_⟩ := hSW_
      go_simp
      try with_reducible rfl
    try simp only [Act.put, List.setIfInBounds_toArray, List.set_cons_zero, List.set_cons_succ]
    refine tkH (i := 13) (N := some 82) (v := ?_) rfl rfl (by kernel_rfl) (by kernel_rfl) (by kernel_rfl) (fun _ _ _ h => h) (Or.inl ⟨by rfl, ?_⟩) hS ?_
    rotate_left
    · intro W_ hSW_
      obtain ⟨z0_, zg_, z2_, zb_, z3_, zc_⟩ := hSW_
      go_simp
      try with_reducible rfl
    try simp only [Act.put, List.setIfInBounds_toArray, List.set_cons_zero, List.set_cons_succ]
    refine tkH (i := 14) (N := some 83) (v := ?_) rfl rfl (by kernel_rfl) (by kernel_rfl) (by kernel_rfl) (fun _ _ _ h => h) (Or.inl ⟨by rfl, ?_⟩) hS ?_
    rotate_left
    · intro W_ hSW_
      obtain ⟨z0_, zg_, z2_, zb_, z3_, zc_⟩ := hSW_
      go_simp
      try with_reducible rfl
    try simp only [Act.put, List.setIfInBounds_toArray, List.set_cons_zero, List.set_cons_succ]
    refine tkH (i := 15) (N := some 84) (v := ?_) rfl rfl (by kernel_rfl) (by kernel_rfl) (by kernel_rfl) (fun _ _ _ h => h) (Or.inl ⟨by rfl, ?_⟩) hS ?_
    rotate_left
    · intro W_ hSW_
      obtain ⟨z0_, zg_, z2_, zb_, z3_, zc_⟩ := hSW_
      go_simp
      try with_reducible rfl
    try simp only [Act.put, List.setIfInBounds_toArray, List.set_cons_zero, List.set_cons_succ]
    refine tkH (i := 16) (N := some 85) (v := ?_) rfl rfl (by kernel_rfl) (by kernel_rfl) (by kernel_rfl) (fun _ _ _ h => h) (Or.inl ⟨by rfl, ?_⟩) hS ?_
    rotate_left
    · intro W_ hSW_
      obtain ⟨z0_, zg_, z2_, zb_, z3_, zc_⟩ := hSW_
      go_simp
      try with_reducible rfl
    try simp only [Act.put, List.setIfInBounds_toArray, List.set_cons_zero, List.set_cons_succ]
    refine tkH (i := 17) (N := some 86) (v := ?_) rfl rfl (by kernel_rfl) (by kernel_rfl) (by kernel_rfl) (fun _ _ _ h => h) (Or.inl ⟨by rfl, ?_⟩) hS ?_
    rotate_left
    · intro W_ hSW_
      obtain ⟨z0_, zg_, z2_, zb_, z3_, zc_⟩ := hSW_
      go_simp
      try with_reducible rfl
    try simp only [Act.put, List.setIfInBounds_toArray, List.set_cons_zero, List.set_cons_succ]
    refine wpAnyH_ready (rs := [18]) (by kernel_rfl) (by simp) ?_
    refine AllReadyH.cons (o := { dst := some 87, op := Op.call { callee := Callee.value (Operand.func 59), args := #[Operand.tmp 72, Operand.tmp 79, Operand.tmp 86], argTypes := #[3, 22, 22] }, type := 89, pos := "cpu.go:120", after := #[{ on := 3, ground := Ground.data }, { on := 10, ground := Ground.data }, { on := 17, ground := Ground.data }], guard := none }) rfl (fun K_ hK_ => ?_) AllReadyH.nil
    go_simp
    refine (word_Binary.calls 10 vb vc _ 0 _ (wbin_f (by unfold Bop; omega) vb vc)).mono ?_
    rintro e w4 ⟨rfl, hd4⟩
    have HB4 := Aside0.mk (below_step (below_drew (Below.refl W1.heap.size W1)) hd4.below)
    clear hd4
    refine hK_.out _ _ (HSS.out _ HB4.out) (fun hS_ => ?_)
    clear hK_ K_ hS
    have hS := hS_
    clear hS_
    try simp only [Act.put, List.setIfInBounds_toArray, List.set_cons_zero, List.set_cons_succ]
    refine tkH (i := 19) (N := some 68) (v := ?_) rfl rfl (by kernel_rfl) (by kernel_rfl) (by kernel_rfl) (fun _ _ _ h => h) (Or.inl ⟨by rfl, ?_⟩) hS ?_
    rotate_left
    · intro W_ hSW_
      obtain ⟨z0_, zg_, z2_, zb_, z3_, zc_⟩ := hSW_
      go_simp
      try with_reducible rfl
    try simp only [Act.put, List.setIfInBounds_toArray, List.set_cons_zero, List.set_cons_succ]
    refine tkH (i := 20) (N := some 88) (v := ?_) rfl rfl (by kernel_rfl) (by kernel_rfl) (by kernel_rfl) (fun _ _ _ h => h) (Or.inl ⟨by rfl, ?_⟩) hS ?_
    rotate_left
    · intro W_ hSW_
      obtain ⟨z0_, zg_, z2_, zb_, z3_, zc_⟩ := hSW_
      go_simp
      try with_reducible rfl
    try simp only [Act.put, List.setIfInBounds_toArray, List.set_cons_zero, List.set_cons_succ]
    refine tkH (i := 21) (N := some 89) (v := ?_) rfl rfl (by kernel_rfl) (by kernel_rfl) (by kernel_rfl) (fun _ _ _ h => h) (Or.inl ⟨by rfl, ?_⟩) hS ?_
    rotate_left
    · intro W_ hSW_
      obtain ⟨z0_, zg_, z2_, zb_, z3_, zc_⟩ := hSW_
      go_simp
      try with_reducible rfl
    try simp only [Act.put, List.setIfInBounds_toArray, List.set_cons_zero, List.set_cons_succ]
    refine tkH (i := 22) (N := some 12) (v := ?_) rfl rfl (by kernel_rfl) (by kernel_rfl) (by kernel_rfl) (fun _ _ _ h => h) (Or.inl ⟨by rfl, ?_⟩) hS ?_
    rotate_left
    · intro W_ hSW_
      obtain ⟨z0_, zg_, z2_, zb_, z3_, zc_⟩ := hSW_
      go_simp
      try with_reducible rfl
    try simp only [Act.put, List.setIfInBounds_toArray, List.set_cons_zero, List.set_cons_succ]
    refine tkH (i := 23) (N := some 13) (v := ?_) rfl rfl (by kernel_rfl) (by kernel_rfl) (by kernel_rfl) (fun _ _ _ h => h) (Or.inl ⟨by rfl, ?_⟩) hS ?_
    rotate_left
    · intro W_ hSW_
      obtain ⟨z0_, zg_, z2_, zb_, z3_, zc_⟩ := hSW_
      go_simp
      try with_reducible rfl
    try simp only [Act.put, List.setIfInBounds_toArray, List.set_cons_zero, List.set_cons_succ]
    refine wpAnyH_done (by kernel_rfl) ?_ _
    clear hS
    go_wp2_with fail
    go_ret2
    exact ⟨by simp [cmpC, HV.out.1, HV.out.2], below_step HBW.out HB4.out⟩
  by_cases e13 : op = 13
  · subst e13
    go_enter Tryd.func33, Tryd.ntmps33
    go_wp2_with fail
    have HSS := Aside0.mk (fun W (hB : Below W1.heap.size W1 W) => show W.cell? ⟨g1, 0, none⟩ = some (.int .i64 13) ∧ W.cell? ⟨0, 13, none⟩ = some (.int .i64 11) ∧ W.cell? ⟨g1, 2, none⟩ = some (.int .i64 (b : Int)) ∧ W.cell? ⟨gc, 1 + b, none⟩ = some (.int .i16 vb) ∧ W.cell? ⟨g1, 3, none⟩ = some (.int .i64 (cc : Int)) ∧ W.cell? ⟨gc, 1 + cc, none⟩ = some (.int .i16 vc) from ⟨Kd.cell_heap hB.block HX5.out.1, Kd.cell_heap hB.block (HGT.out 13 (by decide)), Kd.cell_heap hB.block HX5.out.2.1, Kd.cell_heap hB.block HXB.out, Kd.cell_heap hB.block HX5.out.2.2.1, Kd.cell_heap hB.block HXC.out⟩)
    refine wp_region_held_drew (S := fun W => W.cell? ⟨g1, 0, none⟩ = some (.int .i64 13) ∧ W.cell? ⟨0, 13, none⟩ = some (.int .i64 11) ∧ W.cell? ⟨g1, 2, none⟩ = some (.int .i64 (b : Int)) ∧ W.cell? ⟨gc, 1 + b, none⟩ = some (.int .i16 vb) ∧ W.cell? ⟨g1, 3, none⟩ = some (.int .i64 (cc : Int)) ∧ W.cell? ⟨gc, 1 + cc, none⟩ = some (.int .i16 vc)) (by kernel_rfl) (HSS.out _ (below_drew (Below.refl _ _))) (fun hS => ?_)
    refine tkH (i := 0) (N := some 69) (v := ?_) rfl rfl (by kernel_rfl) (by kernel_rfl) (by kernel_rfl) (fun _ _ _ h => h) (Or.inl ⟨by rfl, ?_⟩) hS ?_
    rotate_left
    · intro W_ hSW_
      obtain ⟨z0_, zg_, z2_, zb_, z3_, zc_⟩ := hSW_
      go_simp
      try with_reducible rfl
    try simp only [Act.put, List.setIfInBounds_toArray, List.set_cons_zero, List.set_cons_succ]
    refine tkH (i := 1) (N := some 70) (v := ?_) rfl rfl (by kernel_rfl) (by kernel_rfl) (by kernel_rfl) (fun _ _ _ h => h) (Or.inl ⟨by rfl, ?_⟩) hS ?_
    rotate_left
    · intro W_ hSW_
      obtain ⟨z0_, zg_, z2_, zb_, z3_, zc_⟩ := hSW_
      go_simp
      try with_reducible rfl
    try simp only [Act.put, List.setIfInBounds_toArray, List.set_cons_zero, List.set_cons_succ]
    refine tkH (i := 2) (N := some 71) (v := ?_) rfl rfl (by kernel_rfl) (by kernel_rfl) (by kernel_rfl) (fun _ _ _ h => h) (Or.inl ⟨by rfl, ?_⟩) hS ?_
    rotate_left
    · intro W_ hSW_
      obtain ⟨z0_, zg_, z2_, zb_, z3_, zc_⟩ := hSW_
      go_simp
      try with_reducible rfl
    try simp only [Act.put, List.setIfInBounds_toArray, List.set_cons_zero, List.set_cons_succ]
    refine tkH (i := 3) (N := some 72) (v := ?_) rfl rfl (by kernel_rfl) (by kernel_rfl) (by kernel_rfl) (fun _ _ _ h => h) (Or.inl ⟨by rfl, ?_⟩) hS ?_
    rotate_left
    · intro W_ hSW_
      obtain ⟨z0_, zg_, z2_, zb_, z3_, zc_⟩ := hSW_
      go_simp
      try with_reducible rfl
    try simp only [Act.put, List.setIfInBounds_toArray, List.set_cons_zero, List.set_cons_succ]
    refine tkH (i := 4) (N := some 73) (v := ?_) rfl rfl (by kernel_rfl) (by kernel_rfl) (by kernel_rfl) (fun _ _ _ h => h) (Or.inl ⟨by rfl, ?_⟩) hS ?_
    rotate_left
    · intro W_ hSW_
      obtain ⟨z0_, zg_, z2_, zb_, z3_, zc_⟩ := hSW_
      go_simp
      try with_reducible rfl
    try simp only [Act.put, List.setIfInBounds_toArray, List.set_cons_zero, List.set_cons_succ]
    refine tkH (i := 5) (N := some 74) (v := ?_) rfl rfl (by kernel_rfl) (by kernel_rfl) (by kernel_rfl) (fun _ _ _ h => h) (Or.inl ⟨by rfl, ?_⟩) hS ?_
    rotate_left
    · intro W_ hSW_
      obtain ⟨z0_, zg_, z2_, zb_, z3_, zc_⟩ := hSW_
      go_simp
      try with_reducible rfl
    try simp only [Act.put, List.setIfInBounds_toArray, List.set_cons_zero, List.set_cons_succ]
    refine tkH (i := 6) (N := some 75) (v := ?_) rfl rfl (by kernel_rfl) (by kernel_rfl) (by kernel_rfl) (fun _ _ _ h => h) (Or.inl ⟨by rfl, ?_⟩) hS ?_
    rotate_left
    · intro W_ hSW_
      obtain ⟨z0_, zg_, z2_, zb_, z3_, zc_⟩ := hSW_
      go_simp
      try with_reducible rfl
    try simp only [Act.put, List.setIfInBounds_toArray, List.set_cons_zero, List.set_cons_succ]
    refine tkH (i := 7) (N := some 76) (v := ?_) rfl rfl (by kernel_rfl) (by kernel_rfl) (by kernel_rfl) (fun _ _ _ h => h) (Or.inl ⟨by rfl, ?_⟩) hS ?_
    rotate_left
    · intro W_ hSW_
      obtain ⟨z0_, zg_, z2_, zb_, z3_, zc_⟩ := hSW_
      go_simp
      try with_reducible rfl
    try simp only [Act.put, List.setIfInBounds_toArray, List.set_cons_zero, List.set_cons_succ]
    refine tkH (i := 8) (N := some 77) (v := ?_) rfl rfl (by kernel_rfl) (by kernel_rfl) (by kernel_rfl) (fun _ _ _ h => h) (Or.inl ⟨by rfl, ?_⟩) hS ?_
    rotate_left
    · intro W_ hSW_
      obtain ⟨z0_, zg_, z2_, zb_, z3_, zc_⟩ := hSW_
      go_simp
      try with_reducible rfl
    try simp only [Act.put, List.setIfInBounds_toArray, List.set_cons_zero, List.set_cons_succ]
    refine tkH (i := 9) (N := some 78) (v := ?_) rfl rfl (by kernel_rfl) (by kernel_rfl) (by kernel_rfl) (fun _ _ _ h => h) (Or.inl ⟨by rfl, ?_⟩) hS ?_
    rotate_left
    · intro W_ hSW_
      obtain ⟨z0_, zg_, z2_, zb_, z3_, zc_⟩ := hSW_
      go_simp
      try with_reducible rfl
    try simp only [Act.put, List.setIfInBounds_toArray, List.set_cons_zero, List.set_cons_succ]
    refine tkH (i := 10) (N := some 79) (v := ?_) rfl rfl (by kernel_rfl) (by kernel_rfl) (by kernel_rfl) (fun _ _ _ h => h) (Or.inl ⟨by rfl, ?_⟩) hS ?_
    rotate_left
    · intro W_ hSW_
      obtain ⟨z0_, zg_, z2_, zb_, z3_, zc_⟩ := hSW_
      go_simp
      try with_reducible rfl
    try simp only [Act.put, List.setIfInBounds_toArray, List.set_cons_zero, List.set_cons_succ]
    refine tkH (i := 11) (N := some 80) (v := ?_) rfl rfl (by kernel_rfl) (by kernel_rfl) (by kernel_rfl) (fun _ _ _ h => h) (Or.inl ⟨by rfl, ?_⟩) hS ?_
    rotate_left
    · intro W_ hSW_
      obtain ⟨z0_, zg_, z2_, zb_, z3_, zc_⟩ := hSW_
      go_simp
      try with_reducible rfl
    try simp only [Act.put, List.setIfInBounds_toArray, List.set_cons_zero, List.set_cons_succ]
    refine tkH (i := 12) (N := some 81) (v := ?_) rfl rfl (by kernel_rfl) (by kernel_rfl) (by kernel_rfl) (fun _ _ _ h => h) (Or.inl ⟨by rfl, ?_⟩) hS ?_
    rotate_left
    · intro W_ hSW_
      obtain ⟨z0_, zg_, z2_, zb_, z3_, zc_⟩ := hSW_
      go_simp
      try with_reducible rfl
    try simp only [Act.put, List.setIfInBounds_toArray, List.set_cons_zero, List.set_cons_succ]
    refine tkH (i := 13) (N := some 82) (v := ?_) rfl rfl (by kernel_rfl) (by kernel_rfl) (by kernel_rfl) (fun _ _ _ h => h) (Or.inl ⟨by rfl, ?_⟩) hS ?_
    rotate_left
    · intro W_ hSW_
      obtain ⟨z0_, zg_, z2_, zb_, z3_, zc_⟩ := hSW_
      go_simp
      try with_reducible rfl
    try simp only [Act.put, List.setIfInBounds_toArray, List.set_cons_zero, List.set_cons_succ]
    refine tkH (i := 14) (N := some 83) (v := ?_) rfl rfl (by kernel_rfl) (by kernel_rfl) (by kernel_rfl) (fun _ _ _ h => h) (Or.inl ⟨by rfl, ?_⟩) hS ?_
    rotate_left
    · intro W_ hSW_
      obtain ⟨z0_, zg_, z2_, zb_, z3_, zc_⟩ := hSW_
      go_simp
      try with_reducible rfl
    try simp only [Act.put, List.setIfInBounds_toArray, List.set_cons_zero, List.set_cons_succ]
    refine tkH (i := 15) (N := some 84) (v := ?_) rfl rfl (by kernel_rfl) (by kernel_rfl) (by kernel_rfl) (fun _ _ _ h => h) (Or.inl ⟨by rfl, ?_⟩) hS ?_
    rotate_left
    · intro W_ hSW_
      obtain ⟨z0_, zg_, z2_, zb_, z3_, zc_⟩ := hSW_
      go_simp
      try with_reducible rfl
    try simp only [Act.put, List.setIfInBounds_toArray, List.set_cons_zero, List.set_cons_succ]
    refine tkH (i := 16) (N := some 85) (v := ?_) rfl rfl (by kernel_rfl) (by kernel_rfl) (by kernel_rfl) (fun _ _ _ h => h) (Or.inl ⟨by rfl, ?_⟩) hS ?_
    rotate_left
    · intro W_ hSW_
      obtain ⟨z0_, zg_, z2_, zb_, z3_, zc_⟩ := hSW_
      go_simp
      try with_reducible rfl
    try simp only [Act.put, List.setIfInBounds_toArray, List.set_cons_zero, List.set_cons_succ]
    refine tkH (i := 17) (N := some 86) (v := ?_) rfl rfl (by kernel_rfl) (by kernel_rfl) (by kernel_rfl) (fun _ _ _ h => h) (Or.inl ⟨by rfl, ?_⟩) hS ?_
    rotate_left
    · intro W_ hSW_
      obtain ⟨z0_, zg_, z2_, zb_, z3_, zc_⟩ := hSW_
      go_simp
      try with_reducible rfl
    try simp only [Act.put, List.setIfInBounds_toArray, List.set_cons_zero, List.set_cons_succ]
    refine wpAnyH_ready (rs := [18]) (by kernel_rfl) (by simp) ?_
    refine AllReadyH.cons (o := { dst := some 87, op := Op.call { callee := Callee.value (Operand.func 59), args := #[Operand.tmp 72, Operand.tmp 79, Operand.tmp 86], argTypes := #[3, 22, 22] }, type := 89, pos := "cpu.go:120", after := #[{ on := 3, ground := Ground.data }, { on := 10, ground := Ground.data }, { on := 17, ground := Ground.data }], guard := none }) rfl (fun K_ hK_ => ?_) AllReadyH.nil
    go_simp
    refine (word_Binary.calls 11 vb vc _ 0 _ (wbin_f (by unfold Bop; omega) vb vc)).mono ?_
    rintro e w4 ⟨rfl, hd4⟩
    have HB4 := Aside0.mk (below_step (below_drew (Below.refl W1.heap.size W1)) hd4.below)
    clear hd4
    refine hK_.out _ _ (HSS.out _ HB4.out) (fun hS_ => ?_)
    clear hK_ K_ hS
    have hS := hS_
    clear hS_
    try simp only [Act.put, List.setIfInBounds_toArray, List.set_cons_zero, List.set_cons_succ]
    refine tkH (i := 19) (N := some 68) (v := ?_) rfl rfl (by kernel_rfl) (by kernel_rfl) (by kernel_rfl) (fun _ _ _ h => h) (Or.inl ⟨by rfl, ?_⟩) hS ?_
    rotate_left
    · intro W_ hSW_
      obtain ⟨z0_, zg_, z2_, zb_, z3_, zc_⟩ := hSW_
      go_simp
      try with_reducible rfl
    try simp only [Act.put, List.setIfInBounds_toArray, List.set_cons_zero, List.set_cons_succ]
    refine tkH (i := 20) (N := some 88) (v := ?_) rfl rfl (by kernel_rfl) (by kernel_rfl) (by kernel_rfl) (fun _ _ _ h => h) (Or.inl ⟨by rfl, ?_⟩) hS ?_
    rotate_left
    · intro W_ hSW_
      obtain ⟨z0_, zg_, z2_, zb_, z3_, zc_⟩ := hSW_
      go_simp
      try with_reducible rfl
    try simp only [Act.put, List.setIfInBounds_toArray, List.set_cons_zero, List.set_cons_succ]
    refine tkH (i := 21) (N := some 89) (v := ?_) rfl rfl (by kernel_rfl) (by kernel_rfl) (by kernel_rfl) (fun _ _ _ h => h) (Or.inl ⟨by rfl, ?_⟩) hS ?_
    rotate_left
    · intro W_ hSW_
      obtain ⟨z0_, zg_, z2_, zb_, z3_, zc_⟩ := hSW_
      go_simp
      try with_reducible rfl
    try simp only [Act.put, List.setIfInBounds_toArray, List.set_cons_zero, List.set_cons_succ]
    refine tkH (i := 22) (N := some 12) (v := ?_) rfl rfl (by kernel_rfl) (by kernel_rfl) (by kernel_rfl) (fun _ _ _ h => h) (Or.inl ⟨by rfl, ?_⟩) hS ?_
    rotate_left
    · intro W_ hSW_
      obtain ⟨z0_, zg_, z2_, zb_, z3_, zc_⟩ := hSW_
      go_simp
      try with_reducible rfl
    try simp only [Act.put, List.setIfInBounds_toArray, List.set_cons_zero, List.set_cons_succ]
    refine tkH (i := 23) (N := some 13) (v := ?_) rfl rfl (by kernel_rfl) (by kernel_rfl) (by kernel_rfl) (fun _ _ _ h => h) (Or.inl ⟨by rfl, ?_⟩) hS ?_
    rotate_left
    · intro W_ hSW_
      obtain ⟨z0_, zg_, z2_, zb_, z3_, zc_⟩ := hSW_
      go_simp
      try with_reducible rfl
    try simp only [Act.put, List.setIfInBounds_toArray, List.set_cons_zero, List.set_cons_succ]
    refine wpAnyH_done (by kernel_rfl) ?_ _
    clear hS
    go_wp2_with fail
    go_ret2
    exact ⟨by simp [cmpC, HV.out.1, HV.out.2], below_step HBW.out HB4.out⟩
  by_cases e20 : op = 20
  · subst e20
    obtain ⟨k, rfl⟩ := Int.eq_ofNat_of_zero_le (h20 (by first | rfl | trivial)).1
    have hk : (k : Int) < 64 := (h20 (by first | rfl | trivial)).2
    have xk := cpu_r HC.out HSO.out (i := 8 + k) (by omega)
    rw [show 1 + (8 + k) = 9 + k by omega] at xk
    obtain ⟨vk, hvk⟩ : ∃ v, s.r (8 + k) = v := ⟨_, rfl⟩
    rw [hvk] at xk
    have HXK := Aside0.mk xk
    have HVK := Aside0.mk hvk
    clear xk hvk h20 h18
    go_enter Tryd.func33, Tryd.ntmps33
    go_wp2_with fail
    have HSS := Aside0.mk (fun W (hB : Below W1.heap.size W1 W) => show W.cell? ⟨g1, 4, none⟩ = some (.int .i16 (k : Int)) ∧ W.cell? ⟨gc, 9 + k, none⟩ = some (.int .i16 vk) from ⟨Kd.cell_heap hB.block HX5.out.2.2.2, Kd.cell_heap hB.block HXK.out⟩)
    refine wp_region_held_drew (S := fun W => W.cell? ⟨g1, 4, none⟩ = some (.int .i16 (k : Int)) ∧ W.cell? ⟨gc, 9 + k, none⟩ = some (.int .i16 vk)) (by kernel_rfl) (HSS.out _ (below_drew (Below.refl _ _))) (fun hS => ?_)
    refine tkH (i := 0) (N := some 127) (v := ?_) rfl rfl (by kernel_rfl) (by kernel_rfl) (by kernel_rfl) (fun _ _ _ h => h) (Or.inl ⟨by rfl, ?_⟩) hS ?_
    rotate_left
    · intro W_ hSW_
      obtain ⟨z4_, zk_⟩ := hSW_
      go_simp
      try with_reducible rfl
    try simp only [Act.put, List.setIfInBounds_toArray, List.set_cons_zero, List.set_cons_succ]
    refine tkH (i := 1) (N := some 128) (v := ?_) rfl rfl (by kernel_rfl) (by kernel_rfl) (by kernel_rfl) (fun _ _ _ h => h) (Or.inl ⟨by rfl, ?_⟩) hS ?_
    rotate_left
    · intro W_ hSW_
      obtain ⟨z4_, zk_⟩ := hSW_
      go_simp
      try with_reducible rfl
    try simp only [Act.put, List.setIfInBounds_toArray, List.set_cons_zero, List.set_cons_succ]
    refine tkH (i := 2) (N := some 129) (v := ?_) rfl rfl (by kernel_rfl) (by kernel_rfl) (by kernel_rfl) (fun _ _ _ h => h) (Or.inl ⟨by rfl, ?_⟩) hS ?_
    rotate_left
    · intro W_ hSW_
      obtain ⟨z4_, zk_⟩ := hSW_
      go_simp
      try with_reducible rfl
    try simp only [Act.put, List.setIfInBounds_toArray, List.set_cons_zero, List.set_cons_succ]
    refine tkH (i := 3) (N := some 130) (v := ?_) rfl rfl (by kernel_rfl) (by kernel_rfl) (by kernel_rfl) (fun _ _ _ h => h) (Or.inl ⟨by rfl, ?_⟩) hS ?_
    rotate_left
    · intro W_ hSW_
      obtain ⟨z4_, zk_⟩ := hSW_
      go_simp
      try with_reducible rfl
    try simp only [Act.put, List.setIfInBounds_toArray, List.set_cons_zero, List.set_cons_succ]
    refine tkH (i := 4) (N := some 131) (v := ?_) rfl rfl (by kernel_rfl) (by kernel_rfl) (by kernel_rfl) (fun _ _ _ h => h) (Or.inl ⟨by rfl, ?_⟩) hS ?_
    rotate_left
    · intro W_ hSW_
      obtain ⟨z4_, zk_⟩ := hSW_
      go_simp
      try with_reducible rfl
    try simp only [Act.put, List.setIfInBounds_toArray, List.set_cons_zero, List.set_cons_succ]
    refine tkH (i := 5) (N := some 132) (v := ?_) rfl rfl (by kernel_rfl) (by kernel_rfl) (by kernel_rfl) (fun _ _ _ h => h) (Or.inl ⟨by rfl, ?_⟩) hS ?_
    rotate_left
    · intro W_ hSW_
      obtain ⟨z4_, zk_⟩ := hSW_
      go_simp
      try with_reducible rfl
    try simp only [Act.put, List.setIfInBounds_toArray, List.set_cons_zero, List.set_cons_succ]
    refine tkH (i := 6) (N := some 133) (v := ?_) rfl rfl (by kernel_rfl) (by kernel_rfl) (by kernel_rfl) (fun _ _ _ h => h) (Or.inl ⟨by rfl, ?_⟩) hS ?_
    rotate_left
    · intro W_ hSW_
      obtain ⟨z4_, zk_⟩ := hSW_
      go_simp
      try with_reducible rfl
    try simp only [Act.put, List.setIfInBounds_toArray, List.set_cons_zero, List.set_cons_succ]
    refine tkH (i := 7) (N := some 6) (v := ?_) rfl rfl (by kernel_rfl) (by kernel_rfl) (by kernel_rfl) (fun _ _ _ h => h) (Or.inl ⟨by rfl, ?_⟩) hS ?_
    rotate_left
    · intro W_ hSW_
      obtain ⟨z4_, zk_⟩ := hSW_
      go_simp
      try with_reducible rfl
    try simp only [Act.put, List.setIfInBounds_toArray, List.set_cons_zero, List.set_cons_succ]
    refine tkH (i := 8) (N := some 7) (v := ?_) rfl rfl (by kernel_rfl) (by kernel_rfl) (by kernel_rfl) (fun _ _ _ h => h) (Or.inl ⟨by rfl, ?_⟩) hS ?_
    rotate_left
    · intro W_ hSW_
      obtain ⟨z4_, zk_⟩ := hSW_
      go_simp
      try with_reducible rfl
    try simp only [Act.put, List.setIfInBounds_toArray, List.set_cons_zero, List.set_cons_succ]
    refine wpAnyH_done (by kernel_rfl) ?_ _
    clear hS
    go_wp2_with fail
    go_ret2
    exact ⟨by simp [cmpC, HVK.out], below_step HBW.out (below_drew (Below.refl _ _))⟩
  by_cases e18 : op = 18
  · subst e18
    obtain ⟨k, rfl⟩ := Int.eq_ofNat_of_zero_le (h18 (by first | rfl | trivial)).1
    have h18' := h18 (by first | rfl | trivial)
    obtain ⟨a0, A1, A4, A6, A11, c1, c4, c6, c11, v5, v7, v8, v9, v10⟩ := p
    obtain ⟨codes, globals, sensors, outputs, chans, addr⟩ := x
    dsimp only at h18'
    obtain ⟨nG, hnG⟩ : ∃ n, globals.length = n := ⟨_, rfl⟩
    obtain ⟨nA, hnA⟩ : ∃ n, addr.length = n := ⟨_, rfl⟩
    rw [hnG, hnA, Int.toNat_natCast] at h18'
    have hg := HR.out.g
    have had := HR.out.ad
    dsimp only at hg had
    rw [hnG] at hg
    rw [hnA] at had
    have hX := HX.out
    dsimp only [XP.arr] at hX
    rw [hnG, hnA] at hX
    have tg : k < nG := by omega
    have ta : k < nA := by omega
    have hkG : (k : Int) < (nG : Int) := by omega
    have hkA : (k : Int) < (nA : Int) := by omega
    obtain ⟨bg, og, rfl, yg⟩ := glob_cell hg tg
    obtain ⟨ba, oa, rfl, ya⟩ := i64_cell had ta
    obtain ⟨ln, hln⟩ : ∃ v, (globals.getD k z96).f1 = v := ⟨_, rfl⟩
    obtain ⟨av, hav⟩ : ∃ v, addr.getD k 0 = v := ⟨_, rfl⟩
    rw [hln] at yg h18'
    rw [hav] at ya
    have HLN := Aside0.mk h18'.2.2.2
    have HYG := Aside0.mk yg
    have HYA := Aside0.mk ya
    have q1 := blk_cell hX 1
    have q6 := blk_cell hX 6
    have HQ1 := Aside0.mk (show W1.cell? ⟨gx, 1, none⟩ = some (.slice (some ⟨bg, og, none⟩) nG c1) from q1)
    have HQ6 := Aside0.mk (show W1.cell? ⟨gx, 6, none⟩ = some (.slice (some ⟨ba, oa, none⟩) nA c6) from q6)
    have HFIN := Aside0.mk (show v18 ⟨codes, globals, sensors, outputs, chans, addr⟩ s b (k : Int) = IntKind.i16.wrap (wrap64 (av + 2 * idxV vb ln)) by unfold v18; dsimp only; rw [Int.toNat_natCast, hav, hln, HV.out.1])
    have hid := idx_small (v := vb) HLN.out
    obtain ⟨w1, w2⟩ := w64_two hid
    clear h18 h18' h20 hg had hX yg ya hln hav q1 q6 hnG hnA hid
    have HID := Aside0.mk (And.intro w1 w2)
    clear w1 w2
    go_enter Tryd.func33, Tryd.ntmps33
    go_wp2_with fail
    have HSS := Aside0.mk (fun W (hB : Below W1.heap.size W1 W) => show W.cell? ⟨g1, 2, none⟩ = some (.int .i64 (b : Int)) ∧ W.cell? ⟨gc, 1 + b, none⟩ = some (.int .i16 vb) ∧ W.cell? ⟨gx, 1, none⟩ = some (.slice (some ⟨bg, og, none⟩) nG c1) ∧ W.cell? ⟨g1, 4, none⟩ = some (.int .i16 (k : Int)) ∧ W.cell? ⟨bg, og + k * 4 + 1, none⟩ = some (.int .i64 ln) from ⟨Kd.cell_heap hB.block HX5.out.2.1, Kd.cell_heap hB.block HXB.out, Kd.cell_heap hB.block HQ1.out, Kd.cell_heap hB.block HX5.out.2.2.2, Kd.cell_heap hB.block HYG.out⟩)
    refine wp_region_held_drew (S := fun W => W.cell? ⟨g1, 2, none⟩ = some (.int .i64 (b : Int)) ∧ W.cell? ⟨gc, 1 + b, none⟩ = some (.int .i16 vb) ∧ W.cell? ⟨gx, 1, none⟩ = some (.slice (some ⟨bg, og, none⟩) nG c1) ∧ W.cell? ⟨g1, 4, none⟩ = some (.int .i16 (k : Int)) ∧ W.cell? ⟨bg, og + k * 4 + 1, none⟩ = some (.int .i64 ln)) (by kernel_rfl) (HSS.out _ (below_drew (Below.refl _ _))) (fun hS => ?_)
    refine tkH (i := 0) (N := some 94) (v := ?_) rfl rfl (by kernel_rfl) (by kernel_rfl) (by kernel_rfl) (fun _ _ _ h => h) (Or.inl ⟨by rfl, ?_⟩) hS ?_
    rotate_left
    · intro W_ hSW_
      obtain ⟨z2_, zb_, zx_, z4_, zl_⟩ := hSW_
      go_simp
      try with_reducible rfl
    try simp only [Act.put, List.setIfInBounds_toArray, List.set_cons_zero, List.set_cons_succ]
    refine tkH (i := 1) (N := some 95) (v := ?_) rfl rfl (by kernel_rfl) (by kernel_rfl) (by kernel_rfl) (fun _ _ _ h => h) (Or.inl ⟨by rfl, ?_⟩) hS ?_
    rotate_left
    · intro W_ hSW_
      obtain ⟨z2_, zb_, zx_, z4_, zl_⟩ := hSW_
      go_simp
      try with_reducible rfl
    try simp only [Act.put, List.setIfInBounds_toArray, List.set_cons_zero, List.set_cons_succ]
    refine tkH (i := 2) (N := some 96) (v := ?_) rfl rfl (by kernel_rfl) (by kernel_rfl) (by kernel_rfl) (fun _ _ _ h => h) (Or.inl ⟨by rfl, ?_⟩) hS ?_
    rotate_left
    · intro W_ hSW_
      obtain ⟨z2_, zb_, zx_, z4_, zl_⟩ := hSW_
      go_simp
      try with_reducible rfl
    try simp only [Act.put, List.setIfInBounds_toArray, List.set_cons_zero, List.set_cons_succ]
    refine tkH (i := 3) (N := some 97) (v := ?_) rfl rfl (by kernel_rfl) (by kernel_rfl) (by kernel_rfl) (fun _ _ _ h => h) (Or.inl ⟨by rfl, ?_⟩) hS ?_
    rotate_left
    · intro W_ hSW_
      obtain ⟨z2_, zb_, zx_, z4_, zl_⟩ := hSW_
      go_simp
      try with_reducible rfl
    try simp only [Act.put, List.setIfInBounds_toArray, List.set_cons_zero, List.set_cons_succ]
    refine tkH (i := 4) (N := some 98) (v := ?_) rfl rfl (by kernel_rfl) (by kernel_rfl) (by kernel_rfl) (fun _ _ _ h => h) (Or.inl ⟨by rfl, ?_⟩) hS ?_
    rotate_left
    · intro W_ hSW_
      obtain ⟨z2_, zb_, zx_, z4_, zl_⟩ := hSW_
      go_simp
      try with_reducible rfl
    try simp only [Act.put, List.setIfInBounds_toArray, List.set_cons_zero, List.set_cons_succ]
    refine tkH (i := 5) (N := some 99) (v := ?_) rfl rfl (by kernel_rfl) (by kernel_rfl) (by kernel_rfl) (fun _ _ _ h => h) (Or.inl ⟨by rfl, ?_⟩) hS ?_
    rotate_left
    · intro W_ hSW_
      obtain ⟨z2_, zb_, zx_, z4_, zl_⟩ := hSW_
      go_simp
      try with_reducible rfl
    try simp only [Act.put, List.setIfInBounds_toArray, List.set_cons_zero, List.set_cons_succ]
    refine tkH (i := 6) (N := some 100) (v := ?_) rfl rfl (by kernel_rfl) (by kernel_rfl) (by kernel_rfl) (fun _ _ _ h => h) (Or.inl ⟨by rfl, ?_⟩) hS ?_
    rotate_left
    · intro W_ hSW_
      obtain ⟨z2_, zb_, zx_, z4_, zl_⟩ := hSW_
      go_simp
      try with_reducible rfl
    try simp only [Act.put, List.setIfInBounds_toArray, List.set_cons_zero, List.set_cons_succ]
    refine tkH (i := 7) (N := some 101) (v := ?_) rfl rfl (by kernel_rfl) (by kernel_rfl) (by kernel_rfl) (fun _ _ _ h => h) (Or.inl ⟨by rfl, ?_⟩) hS ?_
    rotate_left
    · intro W_ hSW_
      obtain ⟨z2_, zb_, zx_, z4_, zl_⟩ := hSW_
      go_simp
      try with_reducible rfl
    try simp only [Act.put, List.setIfInBounds_toArray, List.set_cons_zero, List.set_cons_succ]
    refine tkH (i := 8) (N := some 102) (v := ?_) rfl rfl (by kernel_rfl) (by kernel_rfl) (by kernel_rfl) (fun _ _ _ h => h) (Or.inl ⟨by rfl, ?_⟩) hS ?_
    rotate_left
    · intro W_ hSW_
      obtain ⟨z2_, zb_, zx_, z4_, zl_⟩ := hSW_
      go_simp
      try with_reducible rfl
    try simp only [Act.put, List.setIfInBounds_toArray, List.set_cons_zero, List.set_cons_succ]
    refine tkH (i := 9) (N := some 103) (v := ?_) rfl rfl (by kernel_rfl) (by kernel_rfl) (by kernel_rfl) (fun _ _ _ h => h) (Or.inl ⟨by rfl, ?_⟩) hS ?_
    rotate_left
    · intro W_ hSW_
      obtain ⟨z2_, zb_, zx_, z4_, zl_⟩ := hSW_
      go_simp
      try with_reducible rfl
    try simp only [Act.put, List.setIfInBounds_toArray, List.set_cons_zero, List.set_cons_succ]
    refine tkH (i := 10) (N := some 104) (v := ?_) rfl rfl (by kernel_rfl) (by kernel_rfl) (by kernel_rfl) (fun _ _ _ h => h) (Or.inl ⟨by rfl, ?_⟩) hS ?_
    rotate_left
    · intro W_ hSW_
      obtain ⟨z2_, zb_, zx_, z4_, zl_⟩ := hSW_
      go_simp
      try with_reducible rfl
    try simp only [Act.put, List.setIfInBounds_toArray, List.set_cons_zero, List.set_cons_succ]
    refine tkH (i := 11) (N := some 105) (v := ?_) rfl rfl (by kernel_rfl) (by kernel_rfl) (by kernel_rfl) (fun _ _ _ h => h) (Or.inl ⟨by rfl, ?_⟩) hS ?_
    rotate_left
    · intro W_ hSW_
      obtain ⟨z2_, zb_, zx_, z4_, zl_⟩ := hSW_
      go_simp
      try with_reducible rfl
    try simp only [Act.put, List.setIfInBounds_toArray, List.set_cons_zero, List.set_cons_succ]
    refine tkH (i := 12) (N := some 106) (v := ?_) rfl rfl (by kernel_rfl) (by kernel_rfl) (by kernel_rfl) (fun _ _ _ h => h) (Or.inl ⟨by rfl, ?_⟩) hS ?_
    rotate_left
    · intro W_ hSW_
      obtain ⟨z2_, zb_, zx_, z4_, zl_⟩ := hSW_
      go_simp
      try with_reducible rfl
    try simp only [Act.put, List.setIfInBounds_toArray, List.set_cons_zero, List.set_cons_succ]
    refine tkH (i := 13) (N := some 107) (v := ?_) rfl rfl (by kernel_rfl) (by kernel_rfl) (by kernel_rfl) (fun _ _ _ h => h) (Or.inl ⟨by rfl, ?_⟩) hS ?_
    rotate_left
    · intro W_ hSW_
      obtain ⟨z2_, zb_, zx_, z4_, zl_⟩ := hSW_
      go_simp
      try with_reducible rfl
    try simp only [Act.put, List.setIfInBounds_toArray, List.set_cons_zero, List.set_cons_succ]
    refine tkH (i := 14) (N := some 108) (v := ?_) rfl rfl (by kernel_rfl) (by kernel_rfl) (by kernel_rfl) (fun _ _ _ h => h) (Or.inl ⟨by rfl, ?_⟩) hS ?_
    rotate_left
    · intro W_ hSW_
      obtain ⟨z2_, zb_, zx_, z4_, zl_⟩ := hSW_
      go_simp
      try with_reducible rfl
    try simp only [Act.put, List.setIfInBounds_toArray, List.set_cons_zero, List.set_cons_succ]
    refine tkH (i := 15) (N := some 109) (v := ?_) rfl rfl (by kernel_rfl) (by kernel_rfl) (by kernel_rfl) (fun _ _ _ h => h) (Or.inl ⟨by rfl, ?_⟩) hS ?_
    rotate_left
    · intro W_ hSW_
      obtain ⟨z2_, zb_, zx_, z4_, zl_⟩ := hSW_
      go_simp
      try with_reducible rfl
    try simp only [Act.put, List.setIfInBounds_toArray, List.set_cons_zero, List.set_cons_succ]
    refine wpAnyH_ready (rs := [16]) (by kernel_rfl) (by simp) ?_
    refine AllReadyH.cons (o := { dst := some 110, op := Op.call { callee := Callee.value (Operand.func 60), args := #[Operand.tmp 100, Operand.tmp 109], argTypes := #[22, 3] }, type := 93, pos := "cpu.go:123", after := #[{ on := 6, ground := Ground.data }, { on := 15, ground := Ground.data }], guard := none }) rfl (fun K_ hK_ => ?_) AllReadyH.nil
    go_simp
    refine (word_Index.calls vb ln _ 0 _ (widx_f HLN.out)).mono ?_
    rintro e w4 ⟨rfl, hd4⟩
    have HB4 := Aside0.mk (below_step (below_drew (Below.refl W1.heap.size W1)) hd4.below)
    clear hd4
    refine hK_.out _ _ (HSS.out _ HB4.out) (fun hS_ => ?_)
    clear hK_ K_ hS
    have hS := hS_
    clear hS_
    try simp only [Act.put, List.setIfInBounds_toArray, List.set_cons_zero, List.set_cons_succ]
    refine tkH (i := 17) (N := some 93) (v := ?_) rfl rfl (by kernel_rfl) (by kernel_rfl) (by kernel_rfl) (fun _ _ _ h => h) (Or.inl ⟨by rfl, ?_⟩) hS ?_
    rotate_left
    · intro W_ hSW_
      obtain ⟨z2_, zb_, zx_, z4_, zl_⟩ := hSW_
      go_simp
      try with_reducible rfl
    try simp only [Act.put, List.setIfInBounds_toArray, List.set_cons_zero, List.set_cons_succ]
    refine tkH (i := 18) (N := some 111) (v := ?_) rfl rfl (by kernel_rfl) (by kernel_rfl) (by kernel_rfl) (fun _ _ _ h => h) (Or.inl ⟨by rfl, ?_⟩) hS ?_
    rotate_left
    · intro W_ hSW_
      obtain ⟨z2_, zb_, zx_, z4_, zl_⟩ := hSW_
      go_simp
      try with_reducible rfl
    try simp only [Act.put, List.setIfInBounds_toArray, List.set_cons_zero, List.set_cons_succ]
    refine tkH (i := 19) (N := some 112) (v := ?_) rfl rfl (by kernel_rfl) (by kernel_rfl) (by kernel_rfl) (fun _ _ _ h => h) (Or.inl ⟨by rfl, ?_⟩) hS ?_
    rotate_left
    · intro W_ hSW_
      obtain ⟨z2_, zb_, zx_, z4_, zl_⟩ := hSW_
      go_simp
      try with_reducible rfl
    try simp only [Act.put, List.setIfInBounds_toArray, List.set_cons_zero, List.set_cons_succ]
    refine tkH (i := 20) (N := some 14) (v := ?_) rfl rfl (by kernel_rfl) (by kernel_rfl) (by kernel_rfl) (fun _ _ _ h => h) (Or.inl ⟨by rfl, ?_⟩) hS ?_
    rotate_left
    · intro W_ hSW_
      obtain ⟨z2_, zb_, zx_, z4_, zl_⟩ := hSW_
      go_simp
      try with_reducible rfl
    try simp only [Act.put, List.setIfInBounds_toArray, List.set_cons_zero, List.set_cons_succ]
    refine tkH (i := 21) (N := some 15) (v := ?_) rfl rfl (by kernel_rfl) (by kernel_rfl) (by kernel_rfl) (fun _ _ _ h => h) (Or.inl ⟨by rfl, ?_⟩) hS ?_
    rotate_left
    · intro W_ hSW_
      obtain ⟨z2_, zb_, zx_, z4_, zl_⟩ := hSW_
      go_simp
      try with_reducible rfl
    try simp only [Act.put, List.setIfInBounds_toArray, List.set_cons_zero, List.set_cons_succ]
    refine wpAnyH_done (by kernel_rfl) ?_ _
    clear hS
    obtain ⟨iv, hiv⟩ : ∃ v, idxV vb ln = v := ⟨_, rfl⟩
    rw [hiv]
    have hid := HID.out
    have hfin := HFIN.out
    rw [hiv] at hid hfin
    have HFIN2 := Aside0.mk hfin
    obtain ⟨w1, w2⟩ := hid
    clear hiv hfin HFIN HID
    go_wp2_with fail
    have HSS2 := Aside0.mk (fun W (hB : Below W1.heap.size W1 W) => show W.cell? ⟨gx, 6, none⟩ = some (.slice (some ⟨ba, oa, none⟩) nA c6) ∧ W.cell? ⟨g1, 4, none⟩ = some (.int .i16 (k : Int)) ∧ W.cell? ⟨ba, oa + k, none⟩ = some (.int .i64 av) from ⟨Kd.cell_heap hB.block HQ6.out, Kd.cell_heap hB.block HX5.out.2.2.2, Kd.cell_heap hB.block HYA.out⟩)
    refine wp_region_held_drew (S := fun W => W.cell? ⟨gx, 6, none⟩ = some (.slice (some ⟨ba, oa, none⟩) nA c6) ∧ W.cell? ⟨g1, 4, none⟩ = some (.int .i16 (k : Int)) ∧ W.cell? ⟨ba, oa + k, none⟩ = some (.int .i64 av)) (by kernel_rfl) (HSS2.out _ (below_drew HB4.out)) (fun hS => ?_)
    refine tkH (i := 0) (N := some 113) (v := ?_) rfl rfl (by kernel_rfl) (by kernel_rfl) (by kernel_rfl) (fun _ _ _ h => h) (Or.inl ⟨by rfl, ?_⟩) hS ?_
    rotate_left
    · intro W_ hSW_
      obtain ⟨zx_, z4_, za_⟩ := hSW_
      go_simp
      try with_reducible rfl
    try simp only [Act.put, List.setIfInBounds_toArray, List.set_cons_zero, List.set_cons_succ]
    refine tkH (i := 1) (N := some 114) (v := ?_) rfl rfl (by kernel_rfl) (by kernel_rfl) (by kernel_rfl) (fun _ _ _ h => h) (Or.inl ⟨by rfl, ?_⟩) hS ?_
    rotate_left
    · intro W_ hSW_
      obtain ⟨zx_, z4_, za_⟩ := hSW_
      go_simp
      try with_reducible rfl
    try simp only [Act.put, List.setIfInBounds_toArray, List.set_cons_zero, List.set_cons_succ]
    refine tkH (i := 2) (N := some 115) (v := ?_) rfl rfl (by kernel_rfl) (by kernel_rfl) (by kernel_rfl) (fun _ _ _ h => h) (Or.inl ⟨by rfl, ?_⟩) hS ?_
    rotate_left
    · intro W_ hSW_
      obtain ⟨zx_, z4_, za_⟩ := hSW_
      go_simp
      try with_reducible rfl
    try simp only [Act.put, List.setIfInBounds_toArray, List.set_cons_zero, List.set_cons_succ]
    refine tkH (i := 3) (N := some 116) (v := ?_) rfl rfl (by kernel_rfl) (by kernel_rfl) (by kernel_rfl) (fun _ _ _ h => h) (Or.inl ⟨by rfl, ?_⟩) hS ?_
    rotate_left
    · intro W_ hSW_
      obtain ⟨zx_, z4_, za_⟩ := hSW_
      go_simp
      try with_reducible rfl
    try simp only [Act.put, List.setIfInBounds_toArray, List.set_cons_zero, List.set_cons_succ]
    refine tkH (i := 4) (N := some 117) (v := ?_) rfl rfl (by kernel_rfl) (by kernel_rfl) (by kernel_rfl) (fun _ _ _ h => h) (Or.inl ⟨by rfl, ?_⟩) hS ?_
    rotate_left
    · intro W_ hSW_
      obtain ⟨zx_, z4_, za_⟩ := hSW_
      go_simp
      try with_reducible rfl
    try simp only [Act.put, List.setIfInBounds_toArray, List.set_cons_zero, List.set_cons_succ]
    refine tkH (i := 5) (N := some 118) (v := ?_) rfl rfl (by kernel_rfl) (by kernel_rfl) (by kernel_rfl) (fun _ _ _ h => h) (Or.inl ⟨by rfl, ?_⟩) hS ?_
    rotate_left
    · intro W_ hSW_
      obtain ⟨zx_, z4_, za_⟩ := hSW_
      go_simp
      try with_reducible rfl
    try simp only [Act.put, List.setIfInBounds_toArray, List.set_cons_zero, List.set_cons_succ]
    refine tkH (i := 6) (N := some 119) (v := ?_) rfl rfl (by kernel_rfl) (by kernel_rfl) (by kernel_rfl) (fun _ _ _ h => h) (Or.inl ⟨by rfl, ?_⟩) hS ?_
    rotate_left
    · intro W_ hSW_
      obtain ⟨zx_, z4_, za_⟩ := hSW_
      go_simp
      try with_reducible rfl
    try simp only [Act.put, List.setIfInBounds_toArray, List.set_cons_zero, List.set_cons_succ]
    refine tkH (i := 7) (N := some 120) (v := ?_) rfl rfl (by kernel_rfl) (by kernel_rfl) (by kernel_rfl) (fun _ _ _ h => h) (Or.inl ⟨by rfl, ?_⟩) hS ?_
    rotate_left
    · intro W_ hSW_
      obtain ⟨zx_, z4_, za_⟩ := hSW_
      go_simp
      try with_reducible rfl
    try simp only [Act.put, List.setIfInBounds_toArray, List.set_cons_zero, List.set_cons_succ]
    refine tkH (i := 8) (N := some 121) (v := ?_) rfl rfl (by kernel_rfl) (by kernel_rfl) (by kernel_rfl) (fun _ _ _ h => h) (Or.inl ⟨by rfl, ?_⟩) hS ?_
    rotate_left
    · intro W_ hSW_
      obtain ⟨zx_, z4_, za_⟩ := hSW_
      go_simp
      try with_reducible rfl
    try simp only [Act.put, List.setIfInBounds_toArray, List.set_cons_zero, List.set_cons_succ]
    refine tkH (i := 9) (N := some 122) (v := ?_) rfl rfl (by kernel_rfl) (by kernel_rfl) (by kernel_rfl) (fun _ _ _ h => h) (Or.inl ⟨by rfl, ?_⟩) hS ?_
    rotate_left
    · intro W_ hSW_
      obtain ⟨zx_, z4_, za_⟩ := hSW_
      go_simp
      try with_reducible rfl
    try simp only [Act.put, List.setIfInBounds_toArray, List.set_cons_zero, List.set_cons_succ]
    refine tkH (i := 10) (N := some 123) (v := ?_) rfl rfl (by kernel_rfl) (by kernel_rfl) (by kernel_rfl) (fun _ _ _ h => h) (Or.inl ⟨by rfl, ?_⟩) hS ?_
    rotate_left
    · intro W_ hSW_
      obtain ⟨zx_, z4_, za_⟩ := hSW_
      go_simp
      try with_reducible rfl
    try simp only [Act.put, List.setIfInBounds_toArray, List.set_cons_zero, List.set_cons_succ]
    refine tkH (i := 11) (N := some 124) (v := ?_) rfl rfl (by kernel_rfl) (by kernel_rfl) (by kernel_rfl) (fun _ _ _ h => h) (Or.inl ⟨by rfl, ?_⟩) hS ?_
    rotate_left
    · intro W_ hSW_
      obtain ⟨zx_, z4_, za_⟩ := hSW_
      go_simp
      try with_reducible rfl
    try simp only [Act.put, List.setIfInBounds_toArray, List.set_cons_zero, List.set_cons_succ]
    refine tkH (i := 12) (N := some 6) (v := ?_) rfl rfl (by kernel_rfl) (by kernel_rfl) (by kernel_rfl) (fun _ _ _ h => h) (Or.inl ⟨by rfl, ?_⟩) hS ?_
    rotate_left
    · intro W_ hSW_
      obtain ⟨zx_, z4_, za_⟩ := hSW_
      go_simp
      try with_reducible rfl
    try simp only [Act.put, List.setIfInBounds_toArray, List.set_cons_zero, List.set_cons_succ]
    refine tkH (i := 13) (N := some 7) (v := ?_) rfl rfl (by kernel_rfl) (by kernel_rfl) (by kernel_rfl) (fun _ _ _ h => h) (Or.inl ⟨by rfl, ?_⟩) hS ?_
    rotate_left
    · intro W_ hSW_
      obtain ⟨zx_, z4_, za_⟩ := hSW_
      go_simp
      try with_reducible rfl
    try simp only [Act.put, List.setIfInBounds_toArray, List.set_cons_zero, List.set_cons_succ]
    refine wpAnyH_done (by kernel_rfl) ?_ _
    clear hS
    go_wp2_with fail
    go_ret2
    exact ⟨by simp [cmpC, HFIN2.out, i64_w], below_step HBW.out (below_drew HB4.out)⟩
  have b2 : (op == 2) = false := beq_eq_false_iff_ne.2 e2
  have b3 : (op == 3) = false := beq_eq_false_iff_ne.2 e3
  have b4 : (op == 4) = false := beq_eq_false_iff_ne.2 e4
  have b5 : (op == 5) = false := beq_eq_false_iff_ne.2 e5
  have b6 : (op == 6) = false := beq_eq_false_iff_ne.2 e6
  have b7 : (op == 7) = false := beq_eq_false_iff_ne.2 e7
  have b8 : (op == 8) = false := beq_eq_false_iff_ne.2 e8
  have b9 : (op == 9) = false := beq_eq_false_iff_ne.2 e9
  have b10 : (op == 10) = false := beq_eq_false_iff_ne.2 e10
  have b11 : (op == 11) = false := beq_eq_false_iff_ne.2 e11
  have b12 : (op == 12) = false := beq_eq_false_iff_ne.2 e12
  have b13 : (op == 13) = false := beq_eq_false_iff_ne.2 e13
  have b20 : (op == 20) = false := beq_eq_false_iff_ne.2 e20
  have b18 : (op == 18) = false := beq_eq_false_iff_ne.2 e18
  clear h18 h20
  go_enter Tryd.func33, Tryd.ntmps33
  go_wp2_with fail
  go_ret2
  exact ⟨by simp [cmpC, e2, e3, e4, e5, e6, e7, e8, e9, e10, e11, e12, e13, e20, e18], HBW.out⟩
end Go.Proofs.YtleafbihfmiidaaDoor.QAl
