/- What this claim needs of Rq. Parted by prune.py. -/
import Derived.Test.YtleafbihfmiidaaDoorZ5Cx
import Derived.Test.YtleafbihfmiidaaDoorZ5QAlx6
import Derived.Test.YtleafbihfmiidaaDoorZ5Ca
namespace Go.Proofs.YtleafbihfmiidaaDoor.QAl
open Go.RowKit Go.Proofs.YtleafbihfmiidaaDoorW.PrintWords Go.Proofs.YtleafbihfmiidaaDoorW.PrintLast Go.Proofs.YtleafbihfmiidaaDoorW.PrintMore Go.Proofs.YtleafbihfmiidaaDoor.Sl
set_option linter.unusedVariables false
set_option linter.unusedSimpArgs false
def arrB (x : Img) (k : Nat) : Bool := decide ((k : Int) < (x.globals.length : Int)) && (decide ((k : Int) < (x.addr.length : Int)) && decide (1 ≤ (x.globals.getD k z96).f1))
set_option maxRecDepth 100000 in
set_option maxHeartbeats 4000000 in
theorem array_call {w : World} {p : XP} {x : Img} (hr : XR p x w) (k : Nat) :
    Calls Tryd.prog 63 #[.agg (p.arr x), .int .i64 (k : Int)] w fun e w' => e = .returned (.bool (arrB x k)) ∧ Below w.heap.size w w' := by
  obtain ⟨g, hg⟩ : ∃ g, w.heap.size = g := ⟨_, rfl⟩
  have hM := (Mem.start w).new_ (.cells (p.arr x) 47) hg
  have hr1 := (hr.below hM.below).g
  obtain ⟨a0, A1, A4, A6, A11, c1, c4, c6, c11, v5, v7, v8, v9, v10⟩ := p
  obtain ⟨codes, globals, sensors, outputs, chans, addr⟩ := x
  have hr1 : k96.C (w.alloc (.cells (XP.arr ⟨a0, A1, A4, A6, A11, c1, c4, c6, c11, v5, v7, v8, v9, v10⟩ ⟨codes, globals, sensors, outputs, chans, addr⟩) 47)) A1 globals.length globals := hr1
  dsimp only [XP.arr] at hM hr1 ⊢
  have HV := Aside0.mk (show arrB ⟨codes, globals, sensors, outputs, chans, addr⟩ k = (decide ((k : Int) < (globals.length : Int)) && (decide ((k : Int) < (addr.length : Int)) && decide (1 ≤ (globals.getD k z96).f1))) from rfl)
  rw [HV.out]
  clear HV
  generalize hnG : globals.length = nG at *
  generalize hnA : addr.length = nA at *
  have q1 := blk_cell hM.get 1
  have q6 := blk_cell hM.get 6
  have HM := Aside0.mk hM
  have HR := Aside0.mk hr1
  have n0 : ¬ (k : Int) < 0 := by omega
  clear hM hr hr1 hnG hnA
  by_cases t1 : k < nG
  · have d1 : decide (k < nG) = true := decide_eq_true t1
    have d1' : decide ((k : Int) < (nG : Int)) = true := decide_eq_true (by omega)
    obtain ⟨bg, og, rfl, r1⟩ := glob_cell HR.out t1
    have hbg : bg < g + 1 := by have := World.block_lt_of_cell? _ _ r1; simpa [hg] using this
    by_cases t2 : k < nA
    · have d2 : decide (k < nA) = true := decide_eq_true t2
      have d2' : decide ((k : Int) < (nA : Int)) = true := decide_eq_true (by omega)
      obtain ⟨gl, hgl⟩ : ∃ v, (globals.getD k z96).f1 = v := ⟨_, rfl⟩
      rw [hgl] at r1
      have HGV := Aside0.mk hgl
      clear hgl
      go_enter Tryd.func63, Tryd.ntmps63
      go_wp2_with fail
      go_ret
      exact ⟨by simp [t1, t2, ← HGV.out], by first | exact HM.out.below | (rw [← hg]; exact HM.out.below)⟩
    · have d2 : decide (k < nA) = false := decide_eq_false t2
      have d2' : decide ((k : Int) < (nA : Int)) = false := decide_eq_false (by omega)
      go_enter Tryd.func63, Tryd.ntmps63
      go_wp2_with fail
      go_ret
      exact ⟨by simp [d1', d2', t1, t2], by first | exact HM.out.below | (rw [← hg]; exact HM.out.below)⟩
  · have d1 : decide (k < nG) = false := decide_eq_false t1
    have d1' : decide ((k : Int) < (nG : Int)) = false := decide_eq_false (by omega)
    go_enter Tryd.func63, Tryd.ntmps63
    go_wp2_with fail
    go_ret
    exact ⟨by simp [d1', t1], by first | exact HM.out.below | (rw [← hg]; exact HM.out.below)⟩
theorem i72 : (Tryd.prog.info? 72).map (·.size) = some 5 := by kernel_rfl
abbrev Z72 : Array Value := #[.int .i64 0, .int .i64 0, .int .i64 0, .int .i64 0, .int .i16 0]
set_option maxRecDepth 100000 in
set_option maxHeartbeats 8000000 in
theorem trapped_call {w : World} {s : Cs} (hs : s.Ok) {p : XP} {x : Img} (hr : XR p x w) (hxo : x.Ok) :
    Calls Tryd.prog 35 #[.agg s.cells, .agg (p.arr x)] w fun e w' => e = .returned (.bool (trapB x s)) ∧ Below w.heap.size w w' := by
  obtain ⟨g, hg⟩ : ∃ g, w.heap.size = g := ⟨_, rfl⟩
  have h1 := (Mem.start w).new_ (.cells s.cells 26) hg
  have h2 := h1.new_ (g := g + 1) (.cells (p.arr x) 47) (by simp [hg])
  have HM := Aside0.mk h2
  have HSO := Aside0.mk hs
  have HXO := Aside0.mk hxo
  have HR := Aside0.mk (fun (W : World) (hB : Below w.heap.size w W) => hr.below hB)
  have xp := cpu_pc h2.drop.get
  have hx := h2.get
  obtain ⟨nC, hnC⟩ : ∃ n, x.codes.length = n := ⟨_, rfl⟩
  obtain ⟨A11, hA11⟩ : ∃ A, p.A11 = A := ⟨_, rfl⟩
  obtain ⟨c11, hc11⟩ : ∃ c, p.c11 = c := ⟨_, rfl⟩
  have q11 := blk_cell hx 11
  have hco := (hr.below h2.below).co
  rw [hnC, hA11] at hco
  replace q11 := q11.trans (show _ = some (Value.slice A11 nC c11) by rw [← hnC, ← hA11, ← hc11]; rfl)
  have HCO := Aside0.mk hco
  have HNC := Aside0.mk hnC
  have hlen := hxo.len
  rw [hnC] at hlen
  have HLEN := Aside0.mk hlen
  obtain ⟨pc, hpc⟩ : ∃ q, s.pc = q := ⟨_, rfl⟩
  rw [hpc] at xp
  have HPC := Aside0.mk hpc
  clear h1 h2 hs hr hxo hx hnC hA11 hc11 hco hlen hpc
  by_cases h0 : pc < 0
  · have d0 : decide (pc < 0) = true := decide_eq_true h0
    have HT := Aside0.mk (show trapB x s = true by unfold trapB; rw [if_neg (by rw [HPC.out]; omega)])
    rw [HT.out]
    go_enter Tryd.func35, Tryd.ntmps35
    go_wp2_with fail
    go_ret
    exact ⟨rfl, by first | exact HM.out.below | (rw [← hg]; exact HM.out.below)⟩
  have d0 : decide (pc < 0) = false := decide_eq_false h0
  obtain ⟨q, rfl⟩ := Int.eq_ofNat_of_zero_le (show 0 ≤ pc by omega)
  by_cases h1 : nC ≤ q
  · have d1 : decide (nC ≤ q) = true := decide_eq_true h1
    have d1' : decide ((nC : Int) ≤ (q : Int)) = true := decide_eq_true (by omega)
    have HT := Aside0.mk (show trapB x s = true by unfold trapB; rw [if_neg (by rw [HPC.out, HNC.out]; omega)])
    rw [HT.out]
    go_enter Tryd.func35, Tryd.ntmps35
    go_wp2_with fail
    go_ret
    exact ⟨rfl, by first | exact HM.out.below | (rw [← hg]; exact HM.out.below)⟩
  have d1 : decide (nC ≤ q) = false := decide_eq_false h1
  have d1' : decide ((nC : Int) ≤ (q : Int)) = false := decide_eq_false (by omega)
  have hq : q < nC := by omega
  have hqi : (q : Int) < (nC : Int) := by omega
  obtain ⟨bc, oc, rfl, r0, r1, r2, r3, r4⟩ := code_cells HCO.out hq
  have HCA := Aside0.mk (show codeAt x s.pc = x.codes.getD q z72 by unfold codeAt; rw [HPC.out, Int.toNat_natCast])
  obtain ⟨c, hc⟩ : ∃ c, x.codes.getD q z72 = c := ⟨_, rfl⟩
  rw [hc] at r0 r1 r2 r3 r4 HCA
  have him : S16 c.f4 := by have := code_ok HXO.out s.pc; rw [HCA.out] at this; exact this
  have HTR := Aside0.mk (show trapB x s = (!(validC c) || !(opsB x s c.f0 c.f1.toNat c.f2.toNat c.f4)) by unfold trapB; rw [if_pos (by rw [HPC.out, HNC.out]; omega), HCA.out])
  have HVC := Aside0.mk (fun W => trickleref11_Valid.calls 12 c.f0 c.f1 c.f2 c.f3 c.f4 (validC c) W (refV_any c him.1 him.2))
  have HIM := Aside0.mk him
  have hbc : bc < g + 1 + 1 := by have := World.block_lt_of_cell? _ _ r0; simpa [hg] using this
  have HRS := Aside0.mk (And.intro r0 (And.intro r1 (And.intro r2 (And.intro r3 r4))))
  have HXP := Aside0.mk (And.intro xp q11)
  clear hc him
  go_enter Tryd.func35, Tryd.ntmps35
  go_wp2_with fail
  refine (HVC.out _).mono ?_
  rintro e w3 ⟨rfl, hb3⟩
  have H3 := Aside0.mk (HM.out.step hb3)
  replace hb3 := hb3
  have HB3 := Aside0.mk hb3
  clear hb3 xp q11 r0 r1 r2 r3 r4
  cases hv : validC c with
  | false =>
    have HT := Aside0.mk (show trapB x s = true by rw [HTR.out, hv]; rfl)
    go_wp2_with fail
    go_ret
    exact ⟨by rw [HT.out]; rfl, by first | exact H3.out.below | (rw [← hg]; exact H3.out.below)⟩
  | true =>
  obtain ⟨a, b, cc, ha, hb, hcc, hce, hop, himn⟩ := valid_ins hv
  obtain ⟨op, f1, f2, f3, im⟩ := c
  injection hce with _ e1 e2 e3 _
  subst e1 e2 e3
  have HT0 := Aside0.mk (show trapB x s = !opsB x s op a b im by rw [HTR.out, hv]; simp)
  have HIMN := Aside0.mk himn
  have HAB := Aside0.mk (And.intro ha (And.intro hb hcc))
  have hi : S16 im := HIM.out
  have r0 := Kd.cell_heap HB3.out.block HRS.out.1
  have r1 := Kd.cell_heap HB3.out.block HRS.out.2.1
  have r2 := Kd.cell_heap HB3.out.block HRS.out.2.2.1
  have r3 := Kd.cell_heap HB3.out.block HRS.out.2.2.2.1
  have r4 := Kd.cell_heap HB3.out.block HRS.out.2.2.2.2
  have xp := Kd.cell_heap HB3.out.block HXP.out.1
  have q11 := Kd.cell_heap HB3.out.block HXP.out.2
  dsimp only at r0 r1 r2 r3 r4
  have hwi := w64_s16 hi
  have ha' : (a : Int) < 8 := by omega
  have hb' : (b : Int) < 8 := by omega
  obtain ⟨gi, hgi⟩ : ∃ gi, w3.heap.size = gi := ⟨_, rfl⟩
  have X3 := Aside0.mk (H3.out.new_ (.cells Z72 72) hgi).get
  have HSR := Aside0.mk (show (w3.alloc (.cells Z72 72)).setRow gi #[.int .i64 op, .int .i64 (a : Int), .int .i64 (b : Int), .int .i64 (cc : Int), .int .i16 im] = w3.alloc (iO op a b cc im) by rw [← hgi]; exact World.setRow_alloc_new w3 _ _ 72)
  have H4 := Aside0.mk (H3.out.new_ (iO op a b cc im) hgi)
  clear hv hop himn ha hb hcc hi HTR HCA
  go_upto_region 4 with (refine wpList_store_row rfl 72 (.tmp 5) (.tmp 33) rfl gi #[.int .i64 op, .int .i64 (a : Int), .int .i64 (b : Int), .int .i64 (cc : Int), .int .i16 im] rfl rfl 72 Z72 X3.out i72 rfl (by simp [Value.oneCell']) ?_)
  rw [HSR.out]
  clear HSR X3 hgi r0 r1 r2 r3 r4 xp q11
  generalize w3.alloc (iO op a b cc im) = w4 at *
  have y0 := blk_cell H4.out.get 0
  have y1 := blk_cell H4.out.get 1
  have y2 := blk_cell H4.out.get 2
  have y4 := blk_cell H4.out.get 4
  try simp only [Act.put, List.setIfInBounds_toArray, List.set_cons_zero, List.set_cons_succ]
  by_cases e14 : op = 14
  · subst e14
    have HF := Aside0.mk (show trapB x s = !dataOk im by rw [HT0.out]; unfold opsB adrC; simp)
    have HD := Aside0.mk (fun W => trickleref12_data.calls im (dataOk im) W (rdata_f _))
    go_wp2_with fail
    refine (HD.out _).mono ?_
    rintro e w5 ⟨rfl, hd5⟩
    have HB := Aside0.mk (below_step H4.out.below hd5.below)
    clear hd5
    go_wp2_with fail
    go_ret
    exact ⟨by rw [HF.out]; rfl, by first | exact HB.out | (rw [← hg]; exact HB.out)⟩
  by_cases e15 : op = 15
  · subst e15
    have HF := Aside0.mk (show trapB x s = !dataOk im by rw [HT0.out]; unfold opsB adrC; simp)
    have HD := Aside0.mk (fun W => trickleref12_data.calls im (dataOk im) W (rdata_f _))
    go_wp2_with fail
    refine (HD.out _).mono ?_
    rintro e w5 ⟨rfl, hd5⟩
    have HB := Aside0.mk (below_step H4.out.below hd5.below)
    clear hd5
    go_wp2_with fail
    go_ret
    exact ⟨by rw [HF.out]; rfl, by first | exact HB.out | (rw [← hg]; exact HB.out)⟩
  by_cases e27 : op = 27
  · subst e27
    have HF := Aside0.mk (show trapB x s = !dataOk im by rw [HT0.out]; unfold opsB adrC; simp)
    have HD := Aside0.mk (fun W => trickleref12_data.calls im (dataOk im) W (rdata_f _))
    go_wp2_with fail
    refine (HD.out _).mono ?_
    rintro e w5 ⟨rfl, hd5⟩
    have HB := Aside0.mk (below_step H4.out.below hd5.below)
    clear hd5
    go_wp2_with fail
    go_ret
    exact ⟨by rw [HF.out]; rfl, by first | exact HB.out | (rw [← hg]; exact HB.out)⟩
  by_cases e16 : op = 16
  · subst e16
    have hsr := HSO.out.r b
    have xr := cpu_r H4.out.drop.drop.get HSO.out (i := b) (by have := HAB.out; omega)
    have HF := Aside0.mk (show trapB x s = !dataOk (s.r b) by rw [HT0.out]; unfold opsB adrC; simp)
    have hwr := w64_s16 hsr
    generalize s.r b = vr at *
    have HD := Aside0.mk (fun W => trickleref12_data.calls vr (dataOk vr) W (rdata_f _))
    clear hsr
    go_wp2_with fail
    refine (HD.out _).mono ?_
    rintro e w5 ⟨rfl, hd5⟩
    have HB := Aside0.mk (below_step H4.out.below hd5.below)
    clear hd5
    go_wp2_with fail
    go_ret
    exact ⟨by rw [HF.out]; rfl, by first | exact HB.out | (rw [← hg]; exact HB.out)⟩
  by_cases e17 : op = 17
  · subst e17
    have hsr := HSO.out.r b
    have xr := cpu_r H4.out.drop.drop.get HSO.out (i := b) (by have := HAB.out; omega)
    have HF := Aside0.mk (show trapB x s = !dataOk (s.r b) by rw [HT0.out]; unfold opsB adrC; simp)
    have hwr := w64_s16 hsr
    generalize s.r b = vr at *
    have HD := Aside0.mk (fun W => trickleref12_data.calls vr (dataOk vr) W (rdata_f _))
    clear hsr
    go_wp2_with fail
    refine (HD.out _).mono ?_
    rintro e w5 ⟨rfl, hd5⟩
    have HB := Aside0.mk (below_step H4.out.below hd5.below)
    clear hd5
    go_wp2_with fail
    go_ret
    exact ⟨by rw [HF.out]; rfl, by first | exact HB.out | (rw [← hg]; exact HB.out)⟩
  by_cases e28 : op = 28
  · subst e28
    have hsr := HSO.out.r a
    have xr := cpu_r H4.out.drop.drop.get HSO.out (i := a) (by have := HAB.out; omega)
    have HF := Aside0.mk (show trapB x s = !dataOk (s.r a) by rw [HT0.out]; unfold opsB adrC; simp)
    have hwr := w64_s16 hsr
    generalize s.r a = vr at *
    have HD := Aside0.mk (fun W => trickleref12_data.calls vr (dataOk vr) W (rdata_f _))
    clear hsr
    go_wp2_with fail
    refine (HD.out _).mono ?_
    rintro e w5 ⟨rfl, hd5⟩
    have HB := Aside0.mk (below_step H4.out.below hd5.below)
    clear hd5
    go_wp2_with fail
    go_ret
    exact ⟨by rw [HF.out]; rfl, by first | exact HB.out | (rw [← hg]; exact HB.out)⟩
  by_cases e18 : op = 18
  · subst e18
    obtain ⟨k, rfl⟩ := Int.eq_ofNat_of_zero_le (HIMN.out (by decide)).1
    have hx4 := H4.out.drop.get
    have z0 := blk_cell hx4 0
    have z1 := blk_cell hx4 1
    have z2 := blk_cell hx4 2
    have z3 := blk_cell hx4 3
    have z4 := blk_cell hx4 4
    have z5 := blk_cell hx4 5
    have z6 := blk_cell hx4 6
    have z7 := blk_cell hx4 7
    have z8 := blk_cell hx4 8
    have z9 := blk_cell hx4 9
    have z10 := blk_cell hx4 10
    have z11 := blk_cell hx4 11
    have HA := Aside0.mk (fun W (h : Below w.heap.size w W) => array_call (p := p) (x := x) (HR.out W h) k)
    have HF := Aside0.mk (show trapB x s = !arrB x k by rw [HT0.out]; unfold opsB adrC arrB; simp)
    clear hx4
    go_wp2_with fail
    refine (HA.out _ H4.out.below).mono ?_
    rintro e w5 ⟨rfl, hd5⟩
    have HB := Aside0.mk (below_step H4.out.below hd5)
    clear hd5
    go_wp2_with fail
    go_ret
    exact ⟨by rw [HF.out]; rfl, by first | exact HB.out | (rw [← hg]; exact HB.out)⟩
  by_cases e23 : op = 23
  · subst e23
    have h0 : 0 ≤ im := (HIMN.out (by decide)).1
    have z := blk_cell H4.out.drop.get 2
    have HF := Aside0.mk (show trapB x s = !decide (im < x.sensors) by rw [HT0.out]; unfold opsB adrC; simp)
    have n0 : ¬ im < 0 := by omega
    by_cases hlt : im < x.sensors
    · have n1 : ¬ x.sensors ≤ im := by omega
      go_wp2_with fail
      go_ret
      exact ⟨by rw [HF.out]; simp [hlt], by first | exact H4.out.below | (rw [← hg]; exact H4.out.below)⟩
    · have n1 : x.sensors ≤ im := by omega
      go_wp2_with fail
      go_ret
      exact ⟨by rw [HF.out]; simp [hlt], by first | exact H4.out.below | (rw [← hg]; exact H4.out.below)⟩
  by_cases e26 : op = 26
  · subst e26
    have h0 : 0 ≤ im := (HIMN.out (by decide)).1
    have z := blk_cell H4.out.drop.get 3
    have HF := Aside0.mk (show trapB x s = !decide (im < x.outputs) by rw [HT0.out]; unfold opsB adrC; simp)
    have n0 : ¬ im < 0 := by omega
    by_cases hlt : im < x.outputs
    · have n1 : ¬ x.outputs ≤ im := by omega
      go_wp2_with fail
      go_ret
      exact ⟨by rw [HF.out]; simp [hlt], by first | exact H4.out.below | (rw [← hg]; exact H4.out.below)⟩
    · have n1 : x.outputs ≤ im := by omega
      go_wp2_with fail
      go_ret
      exact ⟨by rw [HF.out]; simp [hlt], by first | exact H4.out.below | (rw [← hg]; exact H4.out.below)⟩
  by_cases e24 : op = 24
  · subst e24
    have h0 : 0 ≤ im := (HIMN.out (by decide)).1
    have z := blk_cell H4.out.drop.get 4
    have HF := Aside0.mk (show trapB x s = !decide (im < (x.chans : Int)) by rw [HT0.out]; unfold opsB adrC; simp)
    have n0 : ¬ im < 0 := by omega
    by_cases hlt : im < (x.chans : Int)
    · have n1 : ¬ (x.chans : Int) ≤ im := by omega
      go_wp2_with fail
      go_ret
      exact ⟨by rw [HF.out]; simp [hlt], by first | exact H4.out.below | (rw [← hg]; exact H4.out.below)⟩
    · have n1 : (x.chans : Int) ≤ im := by omega
      go_wp2_with fail
      go_ret
      exact ⟨by rw [HF.out]; simp [hlt], by first | exact H4.out.below | (rw [← hg]; exact H4.out.below)⟩
  have b14 : (op == 14) = false := beq_eq_false_iff_ne.2 e14
  have b15 : (op == 15) = false := beq_eq_false_iff_ne.2 e15
  have b27 : (op == 27) = false := beq_eq_false_iff_ne.2 e27
  have b16 : (op == 16) = false := beq_eq_false_iff_ne.2 e16
  have b17 : (op == 17) = false := beq_eq_false_iff_ne.2 e17
  have b28 : (op == 28) = false := beq_eq_false_iff_ne.2 e28
  have b18 : (op == 18) = false := beq_eq_false_iff_ne.2 e18
  have b23 : (op == 23) = false := beq_eq_false_iff_ne.2 e23
  have b26 : (op == 26) = false := beq_eq_false_iff_ne.2 e26
  have b24 : (op == 24) = false := beq_eq_false_iff_ne.2 e24
  have HF := Aside0.mk (show trapB x s = false by rw [HT0.out]; unfold opsB adrC; simp [e14, e15, e27, e16, e17, e28, e18, e23, e26, e24])
  go_wp2_with fail
  go_ret
  exact ⟨by rw [HF.out]; rfl, by first | exact H4.out.below | (rw [← hg]; exact H4.out.below)⟩
end Go.Proofs.YtleafbihfmiidaaDoor.QAl
