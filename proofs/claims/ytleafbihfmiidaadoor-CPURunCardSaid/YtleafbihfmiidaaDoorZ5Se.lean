/- What this claim needs of Se. Parted by prune.py. -/
import Derived.Test.YtleafbihfmiidaaDoorZ5Sq
namespace Go.Proofs.YtleafbihfmiidaaDoor.QAl
open Go.RowKit Go.Proofs.YtleafbihfmiidaaDoorW.PrintWords Go.Proofs.YtleafbihfmiidaaDoorW.PrintLast Go.Proofs.YtleafbihfmiidaaDoorW.PrintMore Go.Proofs.YtleafbihfmiidaaDoor.Sl
set_option linter.unusedVariables false
set_option linter.unusedSimpArgs false
def codeAt (x : Img) (pc : Int) : S72 := x.codes.getD pc.toNat z72
/-- Whether the instruction traps. -/
def trapB (x : Img) (s : Cs) : Bool :=
  if 0 ≤ s.pc ∧ s.pc < (x.codes.length : Int) then !(validC (codeAt x s.pc)) || !(opsB x s (codeAt x s.pc).f0 (codeAt x s.pc).f1.toNat (codeAt x s.pc).f2.toNat (codeAt x s.pc).f4) else true
/-- An instruction whose energy is there. -/
def exeC (x : Img) (s : Cs) (B : Bs) (op : Int) (a b cc : Nat) (im : Int) : Cs × Bs × Int :=
  if (accC B s op a b im).2.2.1 = true then
    (if (accC B s op a b im).2.1 = true then ((advC (s.set a (accC B s op a b im).1) op a im).1, (accC B s op a b im).2.2.2, (advC (s.set a (accC B s op a b im).1) op a im).2)
     else if (cmpC x s op a b cc im).2 = true then ((advC (s.set a (cmpC x s op a b cc im).1) op a im).1, (accC B s op a b im).2.2.2, (advC (s.set a (cmpC x s op a b cc im).1) op a im).2)
     else ((advC s op a im).1, (accC B s op a b im).2.2.2, (advC s op a im).2))
  else (s, (accC B s op a b im).2.2.2, 4)
def spend (B : Bs) (op : Int) : Bs := B.log 8 (enC op - wrC op) (tiC op)
def stepC (x : Img) (s : Cs) (B : Bs) : Cs × Bs × Int :=
  if trapB x s = true then (s, B, 5)
  else if B.ok = true then exeC x s (spend B (codeAt x s.pc).f0) (codeAt x s.pc).f0 (codeAt x s.pc).f1.toNat (codeAt x s.pc).f2.toNat (codeAt x s.pc).f3.toNat (codeAt x s.pc).f4
  else (s, spend B (codeAt x s.pc).f0, 4)
/-- What is asked of an image. -/
structure Img.Ok (x : Img) : Prop where
  imm : ∀ c ∈ x.codes, S16 c.f4
  len : x.codes.length ≤ 1000
theorem code_ok {x : Img} (h : x.Ok) (pc : Int) : S16 (codeAt x pc).f4 := by
  unfold codeAt
  rw [List.getD_eq_getElem?_getD]
  cases hj : x.codes[pc.toNat]? with
  | none => exact ⟨by decide, by decide⟩
  | some c => exact h.imm c (List.mem_of_getElem? hj)
theorem advance_bus {L : List Chunk} {w0 w : World} {gc gw : Nat} {s : Cs} {B : Bs} (h : BusM w0 w gw B (ob gc (.cells s.cells 32) :: L)) (hs : s.Ok) (hp : 0 ≤ s.pc ∧ s.pc < 1000000) (op : Int) {a b cc : Nat} {im : Int} (ha : a < 8) (hi : S16 im) (h19 : op = 19 → 0 ≤ im ∧ im < 64) :
    Calls Tryd.prog 34 #[.pointer (some ⟨gc, 0, none⟩), iV op a b cc im] w fun e w' => e = .returned (.int .i64 (advC s op a im).2) ∧ BusM w0 w' gw B (ob gc (.cells (advC s op a im).1.cells 32) :: L) := by
  obtain ⟨M, hm, hb⟩ := h.lift
  have hm : Mem w0 w (ob gc (.cells s.cells 32) :: (L ++ M)) := hm
  refine (advance_call hm hs hp op ha hi h19).mono ?_
  rintro e w' ⟨rfl, h1⟩
  exact ⟨rfl, hb w' (ob gc (.cells (advC s op a im).1.cells 32) :: L) h1⟩
theorem ops_data {x : Img} {s : Cs} {op : Int} {a b : Nat} {im : Int} (h : opsB x s op a b im = true) : (adrC s op a b im).2 = true → dataOk (adrC s op a b im).1 = true := by
  intro h2
  unfold opsB at h
  rw [if_pos h2] at h
  exact h
theorem ops_18 {x : Img} {s : Cs} {a b : Nat} {im : Int} (h : opsB x s 18 a b im = true) : im < (x.globals.length : Int) ∧ im < (x.addr.length : Int) ∧ 1 ≤ (x.globals.getD im.toNat z96).f1 := by
  unfold opsB at h
  rw [if_neg (show ¬ (adrC s 18 a b im).2 = true by simp [adrC]), if_pos rfl] at h
  simpa [Bool.and_eq_true, decide_eq_true_iff] using h
theorem BusM.put_ {w0 w : World} {L : List Chunk} {gw g : Nat} {B : Bs} {s : Cs} (h : BusM w0 w gw B (ob g (.cells s.cells 32) :: L)) (i : Nat) (v : Int) : BusM w0 (w.setCell ⟨g, 1 + i, none⟩ (.int .i16 v)) gw B (ob g (.cells (s.set i v).cells 32) :: L) :=
  BusM.put (cs' := (s.set i v).cells) h (cells_set i v)
set_option maxRecDepth 100000 in
set_option maxHeartbeats 32000000 in
theorem Step_call {L : List Chunk} {w0 w : World} {gc gx gw : Nat} {s : Cs} {B : Bs} {p : XP} {x : Img} (h : BusM w0 w gw B (ob gc (.cells s.cells 32) :: ob gx (.cells (p.arr x) 47) :: L)) (hl : B.calls.length ≤ 50000) (hs : s.Ok) (hB : B.Ok) (hxo : x.Ok) (hG0 : GT w0)
    (hX : ∀ (W : World) (s' : Cs) (B' : Bs), BusM w0 W gw B' (ob gc (.cells s'.cells 32) :: ob gx (.cells (p.arr x) 47) :: L) → XR p x W) :
    Calls Tryd.prog 19 #[.pointer (some ⟨gc, 0, none⟩), .pointer (some ⟨gx, 0, none⟩), busV gw] w fun e w' => e = .returned (.int .i64 (stepC x s B).2.2) ∧ BusM w0 w' gw (stepC x s B).2.1 (ob gc (.cells (stepC x s B).1.cells 32) :: ob gx (.cells (p.arr x) 47) :: L) := by
  have H := Aside0.mk h
  have HXX := Aside0.mk hX
  have HG0 := Aside0.mk hG0
  have HSO := Aside0.mk hs
  have HBO := Aside0.mk hB
  have HL := Aside0.mk hl
  have HXO := Aside0.mk hxo
  have xp := cpu_pc h.top
  have hx := h.swap.top
  have hr := hX w s B h
  obtain ⟨nC, hnC⟩ : ∃ n, x.codes.length = n := ⟨_, rfl⟩
  obtain ⟨A11, hA11⟩ : ∃ A, p.A11 = A := ⟨_, rfl⟩
  obtain ⟨c11, hc11⟩ : ∃ c, p.c11 = c := ⟨_, rfl⟩
  have q11 : w.cell? ⟨gx, 11, none⟩ = some (.slice A11 nC c11) := by rw [← hnC, ← hA11, ← hc11]; exact blk_cell hx 11
  have hco := hr.co
  rw [hnC, hA11] at hco
  have HCO := Aside0.mk hco
  have HNC := Aside0.mk hnC
  have hlen := hxo.len
  rw [hnC] at hlen
  have HLEN := Aside0.mk hlen
  obtain ⟨pc, hpc⟩ : ∃ q, s.pc = q := ⟨_, rfl⟩
  rw [hpc] at xp
  have HPC := Aside0.mk hpc
  clear h hX hG0 hs hB hl hxo hx hr hnC hA11 hc11 hco hlen hpc
  by_cases h0 : pc < 0
  · have d0 : decide (pc < 0) = true := decide_eq_true h0
    have HT := Aside0.mk (show stepC x s B = (s, B, 5) by unfold stepC; rw [if_pos (by unfold trapB; rw [if_neg (by rw [HPC.out]; omega)])])
    rw [HT.out]
    go_enter Tryd.func19, Tryd.ntmps19
    go_wp2_with fail
    go_region
    go_wp2_with fail
    go_ret
    exact ⟨rfl, H.out.drewN _⟩
  have d0 : decide (pc < 0) = false := decide_eq_false h0
  obtain ⟨q, rfl⟩ := Int.eq_ofNat_of_zero_le (show 0 ≤ pc by omega)
  by_cases h1 : nC ≤ q
  · have d1 : decide (nC ≤ q) = true := decide_eq_true h1
    have d1' : decide ((nC : Int) ≤ (q : Int)) = true := decide_eq_true (by omega)
    have HT := Aside0.mk (show stepC x s B = (s, B, 5) by unfold stepC; rw [if_pos (by unfold trapB; rw [if_neg (by rw [HPC.out, HNC.out]; omega)])])
    rw [HT.out]
    go_enter Tryd.func19, Tryd.ntmps19
    go_wp2_with fail
    go_region
    go_wp2_with fail
    go_ret
    exact ⟨rfl, H.out.drewN _⟩
  have d1 : decide (nC ≤ q) = false := decide_eq_false h1
  have d1' : decide ((nC : Int) ≤ (q : Int)) = false := decide_eq_false (by omega)
  have hq : q < nC := by omega
  have hqi : (q : Int) < (nC : Int) := by omega
  have HPB := Aside0.mk (show 0 ≤ s.pc ∧ s.pc < 1000000 by rw [HPC.out]; have := HLEN.out; omega)
  obtain ⟨bc, oc, rfl, r0, r1, r2, r3, r4⟩ := code_cells HCO.out hq
  have HCA := Aside0.mk (show codeAt x s.pc = x.codes.getD q z72 by unfold codeAt; rw [HPC.out, Int.toNat_natCast])
  obtain ⟨c, hc⟩ : ∃ c, x.codes.getD q z72 = c := ⟨_, rfl⟩
  rw [hc] at r0 r1 r2 r3 r4 HCA
  have him : S16 c.f4 := by have := code_ok HXO.out s.pc; rw [HCA.out] at this; exact this
  have HTR := Aside0.mk (show trapB x s = (!(validC c) || !(opsB x s c.f0 c.f1.toNat c.f2.toNat c.f4)) by unfold trapB; rw [if_pos (by rw [HPC.out, HNC.out]; omega), HCA.out])
  have HIM := Aside0.mk him
  clear hc him
  have hgc : gc < w.heap.size := blk_lt H.out.top
  have hgx : gx < w.heap.size := blk_lt H.out.swap.top
  have hbc : bc < w.heap.size := World.block_lt_of_cell? w _ r0
  obtain ⟨g7, hg7⟩ : ∃ g7, w.heap.size = g7 := ⟨_, rfl⟩
  rw [hg7] at hgc hgx hbc
  cases hv : validC c with
  | false =>
    have H7 := Aside0.mk ((H.out.new_ (o72 c) hg7).drew.drew)
    have HT := Aside0.mk (show stepC x s B = (s, B, 5) by unfold stepC; rw [if_pos (by rw [HTR.out, hv]; rfl)])
    rw [HT.out]
    have HVC := Aside0.mk (fun W => Valid_call c W HIM.out.1 HIM.out.2)
    rw [hv] at HVC
    clear hv
    go_enter Tryd.func19, Tryd.ntmps19
    go_wp2_with fail
    go_region
    go_wp2_with fail
    go_region
    go_wp2_with fail
    refine (HVC.out _).mono ?_
    rintro e w1 ⟨rfl, hb1⟩
    have H8 := Aside0.mk (H7.out.step hb1)
    clear hb1
    go_wp2_with fail
    go_ret
    exact ⟨rfl, H8.out.drop⟩
  | true =>
    obtain ⟨a, b, cc, ha, hb, hcc, hce, hop, himn⟩ := valid_ins hv
    obtain ⟨op, f1, f2, f3, im⟩ := c
    injection hce with _ e1 e2 e3 _
    subst e1 e2 e3
    have HOP := Aside0.mk hop
    have HIMN := Aside0.mk himn
    have HAB := Aside0.mk (And.intro ha (And.intro hb hcc))
    have HVC := Aside0.mk (fun W => Valid_call ⟨op, (a : Int), (b : Int), (cc : Int), im⟩ W HIM.out.1 HIM.out.2)
    rw [hv] at HVC
    have H7 := Aside0.mk (show BusM w0 _ gw B (ob g7 (iO op a b cc im) :: ob gc (.cells s.cells 32) :: ob gx (.cells (p.arr x) 47) :: L) from (H.out.new_ (iO op a b cc im) hg7).drew.drew)
    have HT0 := Aside0.mk (show trapB x s = !(opsB x s op a b im) by rw [HTR.out, hv]; simp)
    have HI16 := Aside0.mk (show S16 im from HIM.out)
    have HST := Aside0.mk (show stepC x s B = if trapB x s = true then (s, B, 5) else if B.ok = true then exeC x s (spend B op) op a b cc im else (s, spend B op, 4) by
      unfold stepC
      rw [HCA.out]
      rfl)
    obtain ⟨vo, hvo⟩ : ∃ vo, opsB x s op a b im = vo := ⟨_, rfl⟩
    have HVO := Aside0.mk hvo
    rw [hvo] at HT0
    have ha' : (a : Int) < 8 := by omega
    clear hv hop himn ha hb hcc hvo HTR HCA HIM
    go_enter Tryd.func19, Tryd.ntmps19
    go_wp2_with fail
    go_region
    go_wp2_with fail
    go_region
    go_wp2_with fail
    refine (HVC.out _).mono ?_
    rintro e w1 ⟨rfl, hb1⟩
    have H8 := Aside0.mk (H7.out.step hb1)
    clear hb1 xp q11 r0 r1 r2 r3 r4 d0 d1 d1' hq hqi h0 h1 hgc hgx hbc hg7
    have y0 := blk_cell H8.out.top 0
    have y1 := blk_cell H8.out.top 1
    have y2 := blk_cell H8.out.top 2
    have y3 := blk_cell H8.out.top 3
    have y4 := blk_cell H8.out.top 4
    have HOC := Aside0.mk (operands_call H8.out.swap.top HSO.out H8.out.drop.swap.top (HXX.out w1 s B H8.out.drop) op cc HAB.out.1 HAB.out.2.1 HI16.out (fun e => (HIMN.out (by subst e; decide)).1))
    rw [HVO.out] at HOC
    go_wp2_with fail
    refine HOC.out.mono ?_
    rintro e w2 ⟨rfl, hb2⟩
    have H9 := Aside0.mk (H8.out.step hb2)
    clear hb2 y0 y1 y2 y3 y4
    have y0 := blk_cell H9.out.top 0
    cases vo with
    | false =>
      have HF := Aside0.mk (show stepC x s B = (s, B, 5) by rw [HST.out, HT0.out]; rfl)
      go_wp2_with fail
      go_ret
      exact ⟨by rw [HF.out]; rfl, by rw [HF.out]; exact H9.out.drop⟩
    | true =>
      have HST1 := Aside0.mk (show stepC x s B = if B.ok = true then exeC x s (spend B op) op a b cc im else (s, spend B op, 4) by rw [HST.out, HT0.out]; rfl)
      obtain ⟨c1, c2, c3, _, _, _, c4⟩ := costs HOP.out
      have HEN := Aside0.mk (fun W => isa_Energy.calls 5 op (enC op) W c1)
      have HWR := Aside0.mk (fun W => isa_NVMWrites.calls 5 op (wrC op) W c2)
      have HTI := Aside0.mk (fun W => isa_Ticks.calls 5 op (tiC op) W c3)
      have HSP := Aside0.mk (fun W L' (h : BusM w0 W gw B L') => Spend_call h (by have := HL.out; omega) (enC op - wrC op) (tiC op))
      have HSPE := Aside0.mk (show spend B op = B.log 8 (enC op - wrC op) (tiC op) from rfl)
      have hsub := w64_small (n := enC op - wrC op) (by omega) (by omega)
      have hsub' : IntKind.i64.wrap (enC op - wrC op) = enC op - wrC op := by rw [i64_w]; exact hsub
      generalize enC op = en at *
      generalize wrC op = wr at *
      generalize tiC op = ti at *
      obtain ⟨bok, hbok⟩ : ∃ k, B.ok = k := ⟨_, rfl⟩
      rw [hbok] at HSP HST1
      have n1 := ahead_Spend ⟨gw, 0, none⟩
      have n2 := meth_Spend ⟨gw, 0, none⟩
      have n3 := aheadB_Spend ⟨gw, 0, none⟩
      have n4 := methB_Spend ⟨gw, 0, none⟩
      clear c1 c2 c3 c4 hbok
      go_wp2_with fail
      refine wp_region_held_drew (S := fun W => W.cell? ⟨g7, 0, none⟩ = some (.int .i64 op)) (by kernel_rfl) y0 (fun hS => ?_)
      refine tkH (i := 0) (N := some 48) (v := ?_) rfl rfl (by kernel_rfl) (by kernel_rfl) (by kernel_rfl) (fun _ _ _ h => h) (Or.inl ⟨by rfl, ?_⟩) hS ?_
      rotate_left
      · intro W_ hSW_
        have y0_ := hSW_
        go_simp
        try with_reducible rfl
      try simp only [Act.put, List.setIfInBounds_toArray, List.set_cons_zero, List.set_cons_succ]
      refine tkH (i := 1) (N := some 49) (v := ?_) rfl rfl (by kernel_rfl) (by kernel_rfl) (by kernel_rfl) (fun _ _ _ h => h) (Or.inl ⟨by rfl, ?_⟩) hS ?_
      rotate_left
      · intro W_ hSW_
        have y0_ := hSW_
        go_simp
        try with_reducible rfl
      try simp only [Act.put, List.setIfInBounds_toArray, List.set_cons_zero, List.set_cons_succ]
      refine tkH (i := 2) (N := some 50) (v := ?_) rfl rfl (by kernel_rfl) (by kernel_rfl) (by kernel_rfl) (fun _ _ _ h => h) (Or.inl ⟨by rfl, ?_⟩) hS ?_
      rotate_left
      · intro W_ hSW_
        have y0_ := hSW_
        go_simp
        try with_reducible rfl
      try simp only [Act.put, List.setIfInBounds_toArray, List.set_cons_zero, List.set_cons_succ]
      refine tkH (i := 4) (N := some 52) (v := ?_) rfl rfl (by kernel_rfl) (by kernel_rfl) (by kernel_rfl) (fun _ _ _ h => h) (Or.inl ⟨by rfl, ?_⟩) hS ?_
      rotate_left
      · intro W_ hSW_
        have y0_ := hSW_
        go_simp
        try with_reducible rfl
      try simp only [Act.put, List.setIfInBounds_toArray, List.set_cons_zero, List.set_cons_succ]
      refine tkH (i := 5) (N := some 53) (v := ?_) rfl rfl (by kernel_rfl) (by kernel_rfl) (by kernel_rfl) (fun _ _ _ h => h) (Or.inl ⟨by rfl, ?_⟩) hS ?_
      rotate_left
      · intro W_ hSW_
        have y0_ := hSW_
        go_simp
        try with_reducible rfl
      try simp only [Act.put, List.setIfInBounds_toArray, List.set_cons_zero, List.set_cons_succ]
      refine tkH (i := 8) (N := some 56) (v := ?_) rfl rfl (by kernel_rfl) (by kernel_rfl) (by kernel_rfl) (fun _ _ _ h => h) (Or.inl ⟨by rfl, ?_⟩) hS ?_
      rotate_left
      · intro W_ hSW_
        have y0_ := hSW_
        go_simp
        try with_reducible rfl
      try simp only [Act.put, List.setIfInBounds_toArray, List.set_cons_zero, List.set_cons_succ]
      refine tkH (i := 9) (N := some 57) (v := ?_) rfl rfl (by kernel_rfl) (by kernel_rfl) (by kernel_rfl) (fun _ _ _ h => h) (Or.inl ⟨by rfl, ?_⟩) hS ?_
      rotate_left
      · intro W_ hSW_
        have y0_ := hSW_
        go_simp
        try with_reducible rfl
      try simp only [Act.put, List.setIfInBounds_toArray, List.set_cons_zero, List.set_cons_succ]
      refine tkH (i := 11) (N := some 59) (v := ?_) rfl rfl (by kernel_rfl) (by kernel_rfl) (by kernel_rfl) (fun _ _ _ h => h) (Or.inl ⟨by rfl, ?_⟩) hS ?_
      rotate_left
      · intro W_ hSW_
        have y0_ := hSW_
        go_simp
        try with_reducible rfl
      try simp only [Act.put, List.setIfInBounds_toArray, List.set_cons_zero, List.set_cons_succ]
      refine tkH (i := 12) (N := some 60) (v := ?_) rfl rfl (by kernel_rfl) (by kernel_rfl) (by kernel_rfl) (fun _ _ _ h => h) (Or.inl ⟨by rfl, ?_⟩) hS ?_
      rotate_left
      · intro W_ hSW_
        have y0_ := hSW_
        go_simp
        try with_reducible rfl
      try simp only [Act.put, List.setIfInBounds_toArray, List.set_cons_zero, List.set_cons_succ]
      refine tkH (i := 13) (N := some 61) (v := ?_) rfl rfl (by kernel_rfl) (by kernel_rfl) (by kernel_rfl) (fun _ _ _ h => h) (Or.inl ⟨by rfl, ?_⟩) hS ?_
      rotate_left
      · intro W_ hSW_
        have y0_ := hSW_
        go_simp
        try with_reducible rfl
      try simp only [Act.put, List.setIfInBounds_toArray, List.set_cons_zero, List.set_cons_succ]
      refine wpAnyH_ready (rs := [3]) (by kernel_rfl) (by simp) ?_
      refine AllReadyH.cons (o := { dst := some 51, op := Op.call { callee := Callee.value (Operand.func 29), args := #[Operand.tmp 50], argTypes := #[3] }, type := 3, pos := "cpu.go:140", after := #[{ on := 2, ground := Ground.data }], guard := none }) rfl (fun K_ hK_ => ?_) AllReadyH.nil
      go_simp
      refine (HEN.out _).mono ?_
      rintro e w_HEN ⟨rfl, hb_⟩
      have HE1 := Aside0.mk (H9.out.drew.step hb_)
      clear hb_
      refine hK_.out _ _ (blk_cell HE1.out.top 0) (fun hS_ => ?_)
      clear hK_ K_ hS
      have hS := hS_
      clear hS_
      try simp only [Act.put, List.setIfInBounds_toArray, List.set_cons_zero, List.set_cons_succ]
      refine wpAnyH_ready (rs := [6]) (by kernel_rfl) (by simp) ?_
      refine AllReadyH.cons (o := { dst := some 54, op := Op.call { callee := Callee.value (Operand.func 30), args := #[Operand.tmp 53], argTypes := #[3] }, type := 3, pos := "cpu.go:140", after := #[{ on := 5, ground := Ground.data }, { on := 3, ground := Ground.chain }], guard := none }) rfl (fun K_ hK_ => ?_) AllReadyH.nil
      go_simp
      refine (HWR.out _).mono ?_
      rintro e w_HWR ⟨rfl, hb_⟩
      have HE2 := Aside0.mk (HE1.out.step hb_)
      clear hb_
      refine hK_.out _ _ (blk_cell HE2.out.top 0) (fun hS_ => ?_)
      clear hK_ K_ hS
      have hS := hS_
      clear hS_
      try simp only [Act.put, List.setIfInBounds_toArray, List.set_cons_zero, List.set_cons_succ]
      refine tkH (i := 7) (N := some 55) (v := ?_) rfl rfl (by kernel_rfl) (by kernel_rfl) (by kernel_rfl) (fun _ _ _ h => h) (Or.inl ⟨by rfl, ?_⟩) hS ?_
      rotate_left
      · intro W_ hSW_
        have y0_ := hSW_
        go_simp
        try with_reducible rfl
      try simp only [Act.put, List.setIfInBounds_toArray, List.set_cons_zero, List.set_cons_succ]
      refine wpAnyH_ready (rs := [10]) (by kernel_rfl) (by simp) ?_
      refine AllReadyH.cons (o := { dst := some 58, op := Op.call { callee := Callee.value (Operand.func 31), args := #[Operand.tmp 57], argTypes := #[3] }, type := 3, pos := "cpu.go:140", after := #[{ on := 9, ground := Ground.data }, { on := 6, ground := Ground.chain }], guard := none }) rfl (fun K_ hK_ => ?_) AllReadyH.nil
      go_simp
      refine (HTI.out _).mono ?_
      rintro e w_HTI ⟨rfl, hb_⟩
      have HE3 := Aside0.mk (HE2.out.step hb_)
      clear hb_
      refine hK_.out _ _ (blk_cell HE3.out.top 0) (fun hS_ => ?_)
      clear hK_ K_ hS
      have hS := hS_
      clear hS_
      try simp only [Act.put, List.setIfInBounds_toArray, List.set_cons_zero, List.set_cons_succ]
      refine wpAnyH_ready (rs := [14]) (by kernel_rfl) (by simp) ?_
      refine AllReadyH.cons (o := { dst := some 62, op := Op.call { callee := Callee.invoke (Operand.tmp 61) "Spend", args := #[Operand.tmp 55, Operand.tmp 58], argTypes := #[3, 3] }, type := 4, pos := "cpu.go:140", after := #[{ on := 13, ground := Ground.data }, { on := 7, ground := Ground.data }, { on := 10, ground := Ground.data }, { on := 10, ground := Ground.chain }], guard := none }) rfl (fun K_ hK_ => ?_) AllReadyH.nil
      go_simp
      refine (HSP.out _ _ HE3.out).mono ?_
      rintro e w3 ⟨rfl, h3⟩
      have H10 := Aside0.mk h3
      clear h3
      refine hK_.out _ _ (blk_cell H10.out.top 0) (fun hS_ => ?_)
      clear hK_ K_ hS
      have hS := hS_
      clear hS_
      try simp only [Act.put, List.setIfInBounds_toArray, List.set_cons_zero, List.set_cons_succ]
      refine tkH (i := 15) (N := some 63) (v := ?_) rfl rfl (by kernel_rfl) (by kernel_rfl) (by kernel_rfl) (fun _ _ _ h => h) (Or.inl ⟨by rfl, ?_⟩) hS ?_
      rotate_left
      · intro W_ hSW_
        have y0_ := hSW_
        go_simp
        try with_reducible rfl
      try simp only [Act.put, List.setIfInBounds_toArray, List.set_cons_zero, List.set_cons_succ]
      refine wpAnyH_done (by kernel_rfl) ?_ _
      clear hS n1 n2 n3 n4
      cases bok with
      | false =>
        have HF := Aside0.mk (show stepC x s B = (s, spend B op, 4) by rw [HST1.out]; rfl)
        go_wp2_with fail
        go_ret
        exact ⟨by rw [HF.out]; rfl, by rw [HF.out, HSPE.out]; exact H10.out.drop⟩
      | true =>
        have HST2 := Aside0.mk (show stepC x s B = exeC x s (spend B op) op a b cc im by rw [HST1.out]; rfl)
        have H11 := Aside0.mk (show BusM w0 w3 gw (spend B op) (ob gc (.cells s.cells 32) :: ob g7 (iO op a b cc im) :: ob gx (.cells (p.arr x) 47) :: L) from by rw [HSPE.out]; exact H10.out.swap)
        clear y0
        have y0 := blk_cell H10.out.top 0
        have y1 := blk_cell H10.out.top 1
        have y2 := blk_cell H10.out.top 2
        have y3 := blk_cell H10.out.top 3
        have y4 := blk_cell H10.out.top 4
        have HAC := Aside0.mk (access_call H11.out (by rw [HSPE.out]; have := HL.out; show (B.calls ++ [_]).length ≤ 100000; rw [List.length_append]; simp; omega) HSO.out op cc HAB.out.1 HAB.out.2.1 HI16.out (ops_data HVO.out))
        have HEX := Aside0.mk (show exeC x s (spend B op) op a b cc im = (if (accC (spend B op) s op a b im).2.2.1 = true then
    (if (accC (spend B op) s op a b im).2.1 = true then ((advC (s.set a (accC (spend B op) s op a b im).1) op a im).1, (accC (spend B op) s op a b im).2.2.2, (advC (s.set a (accC (spend B op) s op a b im).1) op a im).2)
     else if (cmpC x s op a b cc im).2 = true then ((advC (s.set a (cmpC x s op a b cc im).1) op a im).1, (accC (spend B op) s op a b im).2.2.2, (advC (s.set a (cmpC x s op a b cc im).1) op a im).2)
     else ((advC s op a im).1, (accC (spend B op) s op a b im).2.2.2, (advC s op a im).2))
  else (s, (accC (spend B op) s op a b im).2.2.2, 4)) from rfl)
        obtain ⟨AC, hAC⟩ : ∃ AC, accC (spend B op) s op a b im = AC := ⟨_, rfl⟩
        rw [hAC] at HAC HEX
        have HACE := Aside0.mk hAC
        clear hAC
        obtain ⟨av, aset, aok, aB⟩ := AC
        dsimp only at HAC HEX
        go_wp2_with fail
        refine HAC.out.mono ?_
        rintro e w4 ⟨rfl, h4⟩
        have H12 := Aside0.mk h4
        clear h4 y0 y1 y2 y3 y4
        cases aok with
        | false =>
          have HF := Aside0.mk (show stepC x s B = (s, aB, 4) by rw [HST2.out, HEX.out]; rfl)
          go_wp2_with fail
          go_ret
          exact ⟨by rw [HF.out]; rfl, by rw [HF.out]; exact H12.out.swap.drop⟩
        | true =>
          have y0 := blk_cell H12.out.swap.top 0
          have y1 := blk_cell H12.out.swap.top 1
          have y2 := blk_cell H12.out.swap.top 2
          have y3 := blk_cell H12.out.swap.top 3
          have y4 := blk_cell H12.out.swap.top 4
          cases aset with
          | true =>
            have HF := Aside0.mk (show stepC x s B = ((advC (s.set a av) op a im).1, aB, (advC (s.set a av) op a im).2) by rw [HST2.out, HEX.out]; rfl)
            have HAV := Aside0.mk (show S16 av from by have := (acc_ok (show (spend B op).Ok from HBO.out.log _ _ _) HSO.out op a b im).1; rw [HACE.out] at this; exact this)
            clear HEX
            have H13 := Aside0.mk H12.out
            go_wp2_with fail
            have hne1 : g7 ≠ gc := by obtain ⟨M, hm, _⟩ := H13.out.lift; exact (Mem.ne (L := ob gx (.cells (p.arr x) 47) :: (L ++ M)) hm).symm
            have hne2 : gc ≠ g7 := fun h => hne1 h.symm
            have xa := cpu_r H13.out.top HSO.out (i := a) (by have := HAB.out; omega)
            have fa := blk_frozen H13.out.top (1 + a)
            have H14 := Aside0.mk ((H13.out.put_ a av).drew)
            have HS14 := Aside0.mk (blk_cell H14.out.swap.top 1)
            have HAVC := Aside0.mk (advance_bus (b := b) (cc := cc) H14.out (HSO.out.set a HAV.out) HPB.out op HAB.out.1 HI16.out (fun e => by subst e; exact HIMN.out (by decide)))
            refine wp_region_held_drew (S := fun W => W.cell? ⟨g7, 1, none⟩ = some (.int .i64 (a : Int))) (by kernel_rfl) y1 (fun hS => ?_)
            refine tkH (i := 0) (N := some 84) (v := ?_) rfl rfl (by kernel_rfl) (by kernel_rfl) (by kernel_rfl) (fun _ _ _ h => h) (Or.inl ⟨by rfl, ?_⟩) hS ?_
            rotate_left
            · intro W_ hSW_
              have y1_ := hSW_
              go_simp
              try with_reducible rfl
            try simp only [Act.put, List.setIfInBounds_toArray, List.set_cons_zero, List.set_cons_succ]
            refine tkH (i := 1) (N := some 85) (v := ?_) rfl rfl (by kernel_rfl) (by kernel_rfl) (by kernel_rfl) (fun _ _ _ h => h) (Or.inl ⟨by rfl, ?_⟩) hS ?_
            rotate_left
            · intro W_ hSW_
              have y1_ := hSW_
              go_simp
              try with_reducible rfl
            try simp only [Act.put, List.setIfInBounds_toArray, List.set_cons_zero, List.set_cons_succ]
            refine tkH (i := 2) (N := some 86) (v := ?_) rfl rfl (by kernel_rfl) (by kernel_rfl) (by kernel_rfl) (fun _ _ _ h => h) (Or.inl ⟨by rfl, ?_⟩) hS ?_
            rotate_left
            · intro W_ hSW_
              have y1_ := hSW_
              go_simp
              try with_reducible rfl
            try simp only [Act.put, List.setIfInBounds_toArray, List.set_cons_zero, List.set_cons_succ]
            refine tkH (i := 3) (N := some 87) (v := ?_) rfl rfl (by kernel_rfl) (by kernel_rfl) (by kernel_rfl) (fun _ _ _ h => h) (Or.inl ⟨by rfl, ?_⟩) hS ?_
            rotate_left
            · intro W_ hSW_
              have y1_ := hSW_
              go_simp
              try with_reducible rfl
            try simp only [Act.put, List.setIfInBounds_toArray, List.set_cons_zero, List.set_cons_succ]
            refine tkH (i := 4) (N := some 88) (v := ?_) rfl rfl (by kernel_rfl) (by kernel_rfl) (by kernel_rfl) (fun _ _ _ h => h) (Or.inl ⟨by rfl, ?_⟩) hS ?_
            rotate_left
            · intro W_ hSW_
              have y1_ := hSW_
              go_simp
              try with_reducible rfl
            try simp only [Act.put, List.setIfInBounds_toArray, List.set_cons_zero, List.set_cons_succ]
            refine tkH (i := 5) (N := some 89) (v := ?_) rfl rfl (by kernel_rfl) (by kernel_rfl) (by kernel_rfl) (fun _ _ _ h => h) (Or.inl ⟨by rfl, ?_⟩) hS ?_
            rotate_left
            · intro W_ hSW_
              have y1_ := hSW_
              go_simp
              try with_reducible rfl
            try simp only [Act.put, List.setIfInBounds_toArray, List.set_cons_zero, List.set_cons_succ]
            refine tkH (i := 6) (N := some 90) (v := ?_) rfl rfl (by kernel_rfl) (by kernel_rfl) (by kernel_rfl) (fun _ _ _ h => h) (Or.inl ⟨by rfl, ?_⟩) hS ?_
            rotate_left
            · intro W_ hSW_
              have y1_ := hSW_
              go_simp
              try with_reducible rfl
            try simp only [Act.put, List.setIfInBounds_toArray, List.set_cons_zero, List.set_cons_succ]
            refine wpAnyH_ready (rs := [7]) (by kernel_rfl) (by simp) ?_
            refine AllReadyH.cons (o := { dst := none, op := Op.store 22 (Operand.tmp 90) (Operand.tmp 87), type := 0, pos := "cpu.go:151", after := #[{ on := 6, ground := Ground.data }, { on := 3, ground := Ground.data }, { on := 0, ground := Ground.phase }, { on := 1, ground := Ground.phase }, { on := 2, ground := Ground.phase }, { on := 3, ground := Ground.phase }], guard := none }) rfl (fun K_ hK_ => ?_) AllReadyH.nil
            go_simp
            refine hK_.out _ _ (HS14.out) (fun hS_ => ?_)
            clear hK_ K_ hS
            have hS := hS_
            clear hS_
            try simp only [Act.put, List.setIfInBounds_toArray, List.set_cons_zero, List.set_cons_succ]
            refine wpAnyH_done (by kernel_rfl) ?_ _
            clear hS
            go_wp2_with fail
            refine HAVC.out.mono ?_
            rintro e w9 ⟨rfl, h9⟩
            have H15 := Aside0.mk h9
            clear h9
            go_wp2_with fail
            go_ret
            exact ⟨by rw [HF.out]; rfl, by rw [HF.out]; exact H15.out.swap.drop⟩
          | false =>
            have HEX2 := Aside0.mk (show stepC x s B = (if (cmpC x s op a b cc im).2 = true then ((advC (s.set a (cmpC x s op a b cc im).1) op a im).1, aB, (advC (s.set a (cmpC x s op a b cc im).1) op a im).2) else ((advC s op a im).1, aB, (advC s op a im).2)) by rw [HST2.out, HEX.out]; rfl)
            have HCM := Aside0.mk (compute_call (x := x) (p := p) H12.out.top HSO.out H12.out.swap.drop.swap.top (HXX.out w4 s aB H12.out.swap.drop) (HG0.out.below H12.out.below) op HAB.out.1 HAB.out.2.1 HAB.out.2.2 HI16.out (fun e => by subst e; exact HIMN.out (by decide)) (fun e => ⟨(HIMN.out (by subst e; decide)).1, ops_18 (by subst e; exact HVO.out)⟩))
            obtain ⟨CM, hCM⟩ : ∃ CM, cmpC x s op a b cc im = CM := ⟨_, rfl⟩
            rw [hCM] at HCM HEX2
            have HCV := Aside0.mk (show S16 CM.1 from by rw [← hCM]; exact cmp_ok HSO.out op a b cc HI16.out)
            clear hCM HEX
            obtain ⟨cv, cset⟩ := CM
            dsimp only at HCM HEX2 HCV
            go_wp2_with fail
            refine HCM.out.mono ?_
            rintro e w5 ⟨rfl, hb5⟩
            have H13 := Aside0.mk (H12.out.step hb5)
            clear hb5 y0 y1 y2 y3 y4
            have y0 := blk_cell H13.out.swap.top 0
            have y1 := blk_cell H13.out.swap.top 1
            have y2 := blk_cell H13.out.swap.top 2
            have y3 := blk_cell H13.out.swap.top 3
            have y4 := blk_cell H13.out.swap.top 4
            cases cset with
            | true =>
              have HF := Aside0.mk (show stepC x s B = ((advC (s.set a cv) op a im).1, aB, (advC (s.set a cv) op a im).2) by rw [HEX2.out]; rfl)
              go_wp2_with fail
              have hne1 : g7 ≠ gc := by obtain ⟨M, hm, _⟩ := H13.out.lift; exact (Mem.ne (L := ob gx (.cells (p.arr x) 47) :: (L ++ M)) hm).symm
              have hne2 : gc ≠ g7 := fun h => hne1 h.symm
              have xa := cpu_r H13.out.top HSO.out (i := a) (by have := HAB.out; omega)
              have fa := blk_frozen H13.out.top (1 + a)
              have H14 := Aside0.mk ((H13.out.put_ a cv).drew)
              have HS14 := Aside0.mk (blk_cell H14.out.swap.top 1)
              have HAVC := Aside0.mk (advance_bus (b := b) (cc := cc) H14.out (HSO.out.set a HCV.out) HPB.out op HAB.out.1 HI16.out (fun e => by subst e; exact HIMN.out (by decide)))
              refine wp_region_held_drew (S := fun W => W.cell? ⟨g7, 1, none⟩ = some (.int .i64 (a : Int))) (by kernel_rfl) y1 (fun hS => ?_)
              refine tkH (i := 0) (N := some 84) (v := ?_) rfl rfl (by kernel_rfl) (by kernel_rfl) (by kernel_rfl) (fun _ _ _ h => h) (Or.inl ⟨by rfl, ?_⟩) hS ?_
              rotate_left
              · intro W_ hSW_
                have y1_ := hSW_
                go_simp
                try with_reducible rfl
              try simp only [Act.put, List.setIfInBounds_toArray, List.set_cons_zero, List.set_cons_succ]
              refine tkH (i := 1) (N := some 85) (v := ?_) rfl rfl (by kernel_rfl) (by kernel_rfl) (by kernel_rfl) (fun _ _ _ h => h) (Or.inl ⟨by rfl, ?_⟩) hS ?_
              rotate_left
              · intro W_ hSW_
                have y1_ := hSW_
                go_simp
                try with_reducible rfl
              try simp only [Act.put, List.setIfInBounds_toArray, List.set_cons_zero, List.set_cons_succ]
              refine tkH (i := 2) (N := some 86) (v := ?_) rfl rfl (by kernel_rfl) (by kernel_rfl) (by kernel_rfl) (fun _ _ _ h => h) (Or.inl ⟨by rfl, ?_⟩) hS ?_
              rotate_left
              · intro W_ hSW_
                have y1_ := hSW_
                go_simp
                try with_reducible rfl
              try simp only [Act.put, List.setIfInBounds_toArray, List.set_cons_zero, List.set_cons_succ]
              refine tkH (i := 3) (N := some 87) (v := ?_) rfl rfl (by kernel_rfl) (by kernel_rfl) (by kernel_rfl) (fun _ _ _ h => h) (Or.inl ⟨by rfl, ?_⟩) hS ?_
              rotate_left
              · intro W_ hSW_
                have y1_ := hSW_
                go_simp
                try with_reducible rfl
              try simp only [Act.put, List.setIfInBounds_toArray, List.set_cons_zero, List.set_cons_succ]
              refine tkH (i := 4) (N := some 88) (v := ?_) rfl rfl (by kernel_rfl) (by kernel_rfl) (by kernel_rfl) (fun _ _ _ h => h) (Or.inl ⟨by rfl, ?_⟩) hS ?_
              rotate_left
              · intro W_ hSW_
                have y1_ := hSW_
                go_simp
                try with_reducible rfl
              try simp only [Act.put, List.setIfInBounds_toArray, List.set_cons_zero, List.set_cons_succ]
              refine tkH (i := 5) (N := some 89) (v := ?_) rfl rfl (by kernel_rfl) (by kernel_rfl) (by kernel_rfl) (fun _ _ _ h => h) (Or.inl ⟨by rfl, ?_⟩) hS ?_
              rotate_left
              · intro W_ hSW_
                have y1_ := hSW_
                go_simp
                try with_reducible rfl
              try simp only [Act.put, List.setIfInBounds_toArray, List.set_cons_zero, List.set_cons_succ]
              refine tkH (i := 6) (N := some 90) (v := ?_) rfl rfl (by kernel_rfl) (by kernel_rfl) (by kernel_rfl) (fun _ _ _ h => h) (Or.inl ⟨by rfl, ?_⟩) hS ?_
              rotate_left
              · intro W_ hSW_
                have y1_ := hSW_
                go_simp
                try with_reducible rfl
              try simp only [Act.put, List.setIfInBounds_toArray, List.set_cons_zero, List.set_cons_succ]
              refine wpAnyH_ready (rs := [7]) (by kernel_rfl) (by simp) ?_
              refine AllReadyH.cons (o := { dst := none, op := Op.store 22 (Operand.tmp 90) (Operand.tmp 87), type := 0, pos := "cpu.go:151", after := #[{ on := 6, ground := Ground.data }, { on := 3, ground := Ground.data }, { on := 0, ground := Ground.phase }, { on := 1, ground := Ground.phase }, { on := 2, ground := Ground.phase }, { on := 3, ground := Ground.phase }], guard := none }) rfl (fun K_ hK_ => ?_) AllReadyH.nil
              go_simp
              refine hK_.out _ _ (HS14.out) (fun hS_ => ?_)
              clear hK_ K_ hS
              have hS := hS_
              clear hS_
              try simp only [Act.put, List.setIfInBounds_toArray, List.set_cons_zero, List.set_cons_succ]
              refine wpAnyH_done (by kernel_rfl) ?_ _
              clear hS
              go_wp2_with fail
              refine HAVC.out.mono ?_
              rintro e w9 ⟨rfl, h9⟩
              have H15 := Aside0.mk h9
              clear h9
              go_wp2_with fail
              go_ret
              exact ⟨by rw [HF.out]; rfl, by rw [HF.out]; exact H15.out.swap.drop⟩
            | false =>
              have HF := Aside0.mk (show stepC x s B = ((advC s op a im).1, aB, (advC s op a im).2) by rw [HEX2.out]; rfl)
              have HAVC := Aside0.mk (advance_bus (b := b) (cc := cc) H13.out HSO.out HPB.out op HAB.out.1 HI16.out (fun e => by subst e; exact HIMN.out (by decide)))
              go_wp2_with fail
              refine HAVC.out.mono ?_
              rintro e w9 ⟨rfl, h9⟩
              have H15 := Aside0.mk h9
              clear h9
              go_wp2_with fail
              go_ret
              exact ⟨by rw [HF.out]; rfl, by rw [HF.out]; exact H15.out.swap.drop⟩
end Go.Proofs.YtleafbihfmiidaaDoor.QAl
