/- What this claim needs of Av. Parted by prune.py. -/
import Derived.Test.YtleafbihfmiidaaDoorZ5Ac
namespace Go.Proofs.YtleafbihfmiidaaDoor.QAl
open Go.RowKit Go.Proofs.YtleafbihfmiidaaDoorW.PrintWords Go.Proofs.YtleafbihfmiidaaDoorW.PrintLast Go.Proofs.YtleafbihfmiidaaDoorW.PrintMore Go.Proofs.YtleafbihfmiidaaDoor.Sl
set_option linter.unusedVariables false
set_option linter.unusedSimpArgs false
def advC (s : Cs) (op : Int) (a : Nat) (im : Int) : Cs × Int :=
  if op = 19 then ((s.set (8 + im.toNat) (s.r a)).to (s.pc + 1), 1) else if op = 21 then (s.to im, 1) else if op = 22 then (if s.r a = 0 then s.to im else s.to (s.pc + 1), 1)
  else if op = 1 then (s.to s.pc, 2) else if op = 29 then (s.to (s.pc + 1), 3) else (s.to (s.pc + 1), 1)
theorem set_r_ne {s : Cs} {i j : Nat} (h : i ≠ j) (v : Int) : (s.set i v).r j = s.r j := by
  unfold Cs.set Cs.r
  simp only [List.getD_eq_getElem?_getD]
  rw [List.getElem?_set_ne h]
set_option maxRecDepth 100000 in
set_option maxHeartbeats 16000000 in
theorem advance_call {L : List Chunk} {w0 w : World} {gc : Nat} {s : Cs} (h : Mem w0 w (ob gc (.cells s.cells 32) :: L)) (hs : s.Ok) (hp : 0 ≤ s.pc ∧ s.pc < 1000000) (op : Int) {a b cc : Nat} {im : Int} (ha : a < 8) (hi : S16 im) (h19 : op = 19 → 0 ≤ im ∧ im < 64) :
    Calls Tryd.prog 34 #[.pointer (some ⟨gc, 0, none⟩), iV op a b cc im] w fun e w' => e = .returned (.int .i64 (advC s op a im).2) ∧ Mem w0 w' (ob gc (.cells (advC s op a im).1.cells 32) :: L) := by
  obtain ⟨g1, hg1⟩ : ∃ g1, w.heap.size = g1 := ⟨_, rfl⟩
  obtain ⟨W1, hW1⟩ : ∃ W1, w.alloc (.cells #[.int .i64 op, .int .i64 (a : Int), .int .i64 (b : Int), .int .i64 (cc : Int), .int .i16 im] 72) = W1 := ⟨_, rfl⟩
  have h1 := h.new_ (iO op a b cc im) hg1
  rw [hW1] at h1
  have H1 := Aside0.mk h1
  have HS := Aside0.mk hs
  have HA := Aside0.mk ha
  have HI := Aside0.mk hi
  have hw := w64_s16 hi
  have ha' : (a : Int) < 8 := by omega
  have x0 := blk_cell h1.get 0
  have x1 := blk_cell h1.get 1
  have x4 := blk_cell h1.get 4
  have xp := cpu_pc h1.p1.get
  have fp := blk_frozen h1.p1.get 0
  have xa := cpu_r h1.p1.get hs (i := a) (by omega)
  have HX := Aside0.mk (And.intro x1 (And.intro x4 xa))
  obtain ⟨pc, hpc⟩ : ∃ p, s.pc = p := ⟨_, rfl⟩
  obtain ⟨va, hva⟩ : ∃ v, s.r a = v := ⟨_, rfl⟩
  have HV := Aside0.mk (And.intro hpc hva)
  rw [hpc] at xp hp
  rw [hva] at xa
  have hwp : wrap64 (pc + 1) = pc + 1 := w64_small (by omega) (by omega)
  have HP := Aside0.mk hp
  clear h h1 hs ha hi hpc hva hp
  by_cases e21 : op = 21
  · subst e21
    clear h19
    go_enter Tryd.func34, Tryd.ntmps34
    go_wp2_with fail
    go_ret
    exact ⟨by simp [advC], by have h9 := (H1.out.p1.put 0 (.int .i64 im) (cells_to _)).p1.drop; simpa [advC, HV.out.1, HV.out.2] using h9⟩
  by_cases e1 : op = 1
  · subst e1
    clear h19
    go_enter Tryd.func34, Tryd.ntmps34
    go_wp2_with fail
    go_ret
    exact ⟨by simp [advC], by have h9 := (H1.out.p1.put 0 (.int .i64 pc) (cells_to _)).p1.drop; simpa [advC, HV.out.1, HV.out.2] using h9⟩
  by_cases e29 : op = 29
  · subst e29
    clear h19
    go_enter Tryd.func34, Tryd.ntmps34
    go_wp2_with fail
    go_ret
    exact ⟨by simp [advC], by have h9 := (H1.out.p1.put 0 (.int .i64 (pc + 1)) (cells_to _)).p1.drop; simpa [advC, HV.out.1, HV.out.2] using h9⟩
  by_cases e22 : op = 22
  · subst e22
    clear h19
    by_cases hz : va = 0
    · have c1 : (va == 0) = true := beq_iff_eq.2 hz
      go_enter Tryd.func34, Tryd.ntmps34
      go_wp2_with fail
      go_region
      go_wp2_with fail
      go_ret
      exact ⟨by simp [advC, hz], by have h9 := (H1.out.p1.put 0 (.int .i64 im) (cells_to _)).p1.drop.drew; simpa [advC, HV.out.1, HV.out.2, hz] using h9⟩
    · have c1 : (va == 0) = false := beq_eq_false_iff_ne.2 hz
      go_enter Tryd.func34, Tryd.ntmps34
      go_wp2_with fail
      go_region
      go_wp2_with fail
      go_ret
      exact ⟨by simp [advC, hz], by have h9 := (H1.out.p1.put 0 (.int .i64 (pc + 1)) (cells_to _)).p1.drop.drew; simpa [advC, HV.out.1, HV.out.2, hz] using h9⟩
  by_cases e19 : op = 19
  · subst e19
    obtain ⟨k, rfl⟩ := Int.eq_ofNat_of_zero_le (h19 (by first | rfl | trivial)).1
    have hk : (k : Int) < 64 := (h19 (by first | rfl | trivial)).2
    have hk' : k < 64 := by omega
    have xk := cpu_r H1.out.p1.get HS.out (i := 8 + k) (by omega)
    have fk := blk_frozen H1.out.p1.get (9 + k)
    rw [show 1 + (8 + k) = 9 + k by omega] at xk
    have hm2 := (H1.out.p1.put (cs' := (s.set (8 + k) va).cells) (9 + k) (.int .i16 va) (by have := cells_set (s := s) (8 + k) va; rw [show 1 + (8 + k) = 9 + k by omega] at this; exact this)).p1
    have y1 := blk_cell hm2.get 1
    have y4 := blk_cell hm2.get 4
    have ya := cpu_r hm2.p1.get (HS.out.set (8 + k) (by rw [← HV.out.2]; exact HS.out.r a)) (i := a) (by have := HA.out; omega)
    rw [set_r_ne (by have := HA.out; omega), HV.out.2] at ya
    have yp := cpu_pc hm2.p1.get
    rw [show (s.set (8 + k) va).pc = pc from HV.out.1] at yp
    have yf := blk_frozen hm2.p1.get 0
    have HM2 := Aside0.mk hm2
    clear hm2 h19
    go_enter Tryd.func34, Tryd.ntmps34
    go_wp2_with fail
    refine wp_region_held_drew (S := fun W => W.cell? ⟨g1, 1, none⟩ = some (.int .i64 (a : Int)) ∧ W.cell? ⟨g1, 4, none⟩ = some (.int .i16 (k : Int)) ∧ W.cell? ⟨gc, 1 + a, none⟩ = some (.int .i16 va)) (by kernel_rfl) ⟨x1, x4, xa⟩ (fun hS => ?_)
    refine tkH (i := 0) (N := some 16) (v := ?_) rfl rfl (by kernel_rfl) (by kernel_rfl) (by kernel_rfl) (fun _ _ _ h => h) (Or.inl ⟨by rfl, ?_⟩) hS ?_
    rotate_left
    · intro W_ hSW_
      obtain ⟨z1_, z4_, za_⟩ := hSW_
      go_simp
      try with_reducible rfl
    try simp only [Act.put, List.setIfInBounds_toArray, List.set_cons_zero, List.set_cons_succ]
    refine tkH (i := 1) (N := some 17) (v := ?_) rfl rfl (by kernel_rfl) (by kernel_rfl) (by kernel_rfl) (fun _ _ _ h => h) (Or.inl ⟨by rfl, ?_⟩) hS ?_
    rotate_left
    · intro W_ hSW_
      obtain ⟨z1_, z4_, za_⟩ := hSW_
      go_simp
      try with_reducible rfl
    try simp only [Act.put, List.setIfInBounds_toArray, List.set_cons_zero, List.set_cons_succ]
    refine tkH (i := 2) (N := some 18) (v := ?_) rfl rfl (by kernel_rfl) (by kernel_rfl) (by kernel_rfl) (fun _ _ _ h => h) (Or.inl ⟨by rfl, ?_⟩) hS ?_
    rotate_left
    · intro W_ hSW_
      obtain ⟨z1_, z4_, za_⟩ := hSW_
      go_simp
      try with_reducible rfl
    try simp only [Act.put, List.setIfInBounds_toArray, List.set_cons_zero, List.set_cons_succ]
    refine tkH (i := 3) (N := some 19) (v := ?_) rfl rfl (by kernel_rfl) (by kernel_rfl) (by kernel_rfl) (fun _ _ _ h => h) (Or.inl ⟨by rfl, ?_⟩) hS ?_
    rotate_left
    · intro W_ hSW_
      obtain ⟨z1_, z4_, za_⟩ := hSW_
      go_simp
      try with_reducible rfl
    try simp only [Act.put, List.setIfInBounds_toArray, List.set_cons_zero, List.set_cons_succ]
    refine tkH (i := 4) (N := some 20) (v := ?_) rfl rfl (by kernel_rfl) (by kernel_rfl) (by kernel_rfl) (fun _ _ _ h => h) (Or.inl ⟨by rfl, ?_⟩) hS ?_
    rotate_left
    · intro W_ hSW_
      obtain ⟨z1_, z4_, za_⟩ := hSW_
      go_simp
      try with_reducible rfl
    try simp only [Act.put, List.setIfInBounds_toArray, List.set_cons_zero, List.set_cons_succ]
    refine tkH (i := 5) (N := some 21) (v := ?_) rfl rfl (by kernel_rfl) (by kernel_rfl) (by kernel_rfl) (fun _ _ _ h => h) (Or.inl ⟨by rfl, ?_⟩) hS ?_
    rotate_left
    · intro W_ hSW_
      obtain ⟨z1_, z4_, za_⟩ := hSW_
      go_simp
      try with_reducible rfl
    try simp only [Act.put, List.setIfInBounds_toArray, List.set_cons_zero, List.set_cons_succ]
    refine tkH (i := 6) (N := some 22) (v := ?_) rfl rfl (by kernel_rfl) (by kernel_rfl) (by kernel_rfl) (fun _ _ _ h => h) (Or.inl ⟨by rfl, ?_⟩) hS ?_
    rotate_left
    · intro W_ hSW_
      obtain ⟨z1_, z4_, za_⟩ := hSW_
      go_simp
      try with_reducible rfl
    try simp only [Act.put, List.setIfInBounds_toArray, List.set_cons_zero, List.set_cons_succ]
    refine tkH (i := 7) (N := some 23) (v := ?_) rfl rfl (by kernel_rfl) (by kernel_rfl) (by kernel_rfl) (fun _ _ _ h => h) (Or.inl ⟨by rfl, ?_⟩) hS ?_
    rotate_left
    · intro W_ hSW_
      obtain ⟨z1_, z4_, za_⟩ := hSW_
      go_simp
      try with_reducible rfl
    try simp only [Act.put, List.setIfInBounds_toArray, List.set_cons_zero, List.set_cons_succ]
    refine tkH (i := 8) (N := some 24) (v := ?_) rfl rfl (by kernel_rfl) (by kernel_rfl) (by kernel_rfl) (fun _ _ _ h => h) (Or.inl ⟨by rfl, ?_⟩) hS ?_
    rotate_left
    · intro W_ hSW_
      obtain ⟨z1_, z4_, za_⟩ := hSW_
      go_simp
      try with_reducible rfl
    try simp only [Act.put, List.setIfInBounds_toArray, List.set_cons_zero, List.set_cons_succ]
    refine tkH (i := 9) (N := some 25) (v := ?_) rfl rfl (by kernel_rfl) (by kernel_rfl) (by kernel_rfl) (fun _ _ _ h => h) (Or.inl ⟨by rfl, ?_⟩) hS ?_
    rotate_left
    · intro W_ hSW_
      obtain ⟨z1_, z4_, za_⟩ := hSW_
      go_simp
      try with_reducible rfl
    try simp only [Act.put, List.setIfInBounds_toArray, List.set_cons_zero, List.set_cons_succ]
    refine tkH (i := 10) (N := some 26) (v := ?_) rfl rfl (by kernel_rfl) (by kernel_rfl) (by kernel_rfl) (fun _ _ _ h => h) (Or.inl ⟨by rfl, ?_⟩) hS ?_
    rotate_left
    · intro W_ hSW_
      obtain ⟨z1_, z4_, za_⟩ := hSW_
      go_simp
      try with_reducible rfl
    try simp only [Act.put, List.setIfInBounds_toArray, List.set_cons_zero, List.set_cons_succ]
    refine tkH (i := 11) (N := some 27) (v := ?_) rfl rfl (by kernel_rfl) (by kernel_rfl) (by kernel_rfl) (fun _ _ _ h => h) (Or.inl ⟨by rfl, ?_⟩) hS ?_
    rotate_left
    · intro W_ hSW_
      obtain ⟨z1_, z4_, za_⟩ := hSW_
      go_simp
      try with_reducible rfl
    try simp only [Act.put, List.setIfInBounds_toArray, List.set_cons_zero, List.set_cons_succ]
    refine tkH (i := 12) (N := some 28) (v := ?_) rfl rfl (by kernel_rfl) (by kernel_rfl) (by kernel_rfl) (fun _ _ _ h => h) (Or.inl ⟨by rfl, ?_⟩) hS ?_
    rotate_left
    · intro W_ hSW_
      obtain ⟨z1_, z4_, za_⟩ := hSW_
      go_simp
      try with_reducible rfl
    try simp only [Act.put, List.setIfInBounds_toArray, List.set_cons_zero, List.set_cons_succ]
    refine wpAnyH_ready (rs := [13]) (by kernel_rfl) (by simp) ?_
    refine AllReadyH.cons (o := { dst := none, op := Op.store 22 (Operand.tmp 28) (Operand.tmp 25), type := 0, pos := "cpu.go:161", after := #[{ on := 12, ground := Ground.data }, { on := 9, ground := Ground.data }, { on := 0, ground := Ground.phase }, { on := 1, ground := Ground.phase }, { on := 2, ground := Ground.phase }, { on := 3, ground := Ground.phase }, { on := 4, ground := Ground.phase }, { on := 5, ground := Ground.phase }, { on := 6, ground := Ground.phase }, { on := 7, ground := Ground.phase }, { on := 8, ground := Ground.phase }, { on := 9, ground := Ground.phase }], guard := none }) rfl (fun K_ hK_ => ?_) AllReadyH.nil
    go_simp
    refine hK_.out _ _ (⟨y1, y4, ya⟩) (fun hS_ => ?_)
    clear hK_ K_ hS
    have hS := hS_
    clear hS_
    try simp only [Act.put, List.setIfInBounds_toArray, List.set_cons_zero, List.set_cons_succ]
    refine wpAnyH_done (by kernel_rfl) ?_ _
    clear hS
    go_wp2_with fail
    go_ret
    exact ⟨by simp [advC], by have h9 := (HM2.out.p1.put 0 (.int .i64 (pc + 1)) (cells_to _)).p1.drop.drew; simpa [advC, HV.out.1, HV.out.2] using h9⟩
  have b21 : (op == 21) = false := beq_eq_false_iff_ne.2 e21
  have b1 : (op == 1) = false := beq_eq_false_iff_ne.2 e1
  have b29 : (op == 29) = false := beq_eq_false_iff_ne.2 e29
  have b22 : (op == 22) = false := beq_eq_false_iff_ne.2 e22
  have b19 : (op == 19) = false := beq_eq_false_iff_ne.2 e19
  clear h19
  go_enter Tryd.func34, Tryd.ntmps34
  go_wp2_with fail
  go_ret
  exact ⟨by simp [advC, e21, e1, e29, e22, e19], by have h9 := (H1.out.p1.put 0 (.int .i64 (pc + 1)) (cells_to _)).p1.drop; simpa [advC, HV.out.1, HV.out.2, e21, e1, e29, e22, e19] using h9⟩
end Go.Proofs.YtleafbihfmiidaaDoor.QAl
