/- What this claim needs of RsA. Parted by prune.py. -/
import Derived.Test.YtleafbihfmiidaaDoorZ5Rsz
namespace Go.Proofs.YtleafbihfmiidaaDoor.QAl
open Go.RowKit Go.Proofs.YtleafbihfmiidaaDoorW.PrintWords Go.Proofs.YtleafbihfmiidaaDoorW.PrintLast Go.Proofs.YtleafbihfmiidaaDoorW.PrintMore Go.Proofs.YtleafbihfmiidaaDoor.Sl
set_option linter.unusedVariables false
set_option linter.unusedSimpArgs false
set_option maxRecDepth 100000 in
set_option maxHeartbeats 32000000 in
theorem rStep_A {L : List Chunk} {w0 w : World} {gw : Nat} {s : Cs} {B : Bs} {p : XP} {x : Img} (h : BusM w0 w gw B L) (hl : B.calls.length ≤ 50000) (hs : s.Ok) (hB : B.Ok) (hxo : x.Ok) (hXR : XR p x w0) (hpart : trapB x s = false → 1 ≤ (codeAt x s.pc).f0 ∧ (codeAt x s.pc).f0 ≤ 8) :
    Calls Tryd.prog 20 #[.agg s.cells, .agg (p.arr x), .pointer (some ⟨gw, 0, none⟩)] w fun e w' => e = .returned (.tuple #[.agg (stepC x s B).1.cells, .int .i64 (stepC x s B).2.2]) ∧ BusM w0 w' gw (stepC x s B).2.1 L := by
  obtain ⟨g, hg⟩ : ∃ g, w.heap.size = g := ⟨_, rfl⟩
  have h1 := h.new_ (.cells s.cells 26) hg
  have h2 := h1.new_ (g := g + 1) (.cells (p.arr x) 47) (by simp [hg])
  have h3 := h2.new_ (g := g + 1 + 1) (.cells Tryd.zeroCells26 26) (by simp [hg])
  have H := Aside0.mk h3
  have HSO := Aside0.mk hs
  have HBO := Aside0.mk hB
  have HXO := Aside0.mk hxo
  have HXR := Aside0.mk hXR
  have HL := Aside0.mk hl
  have hx := h3.drop.top
  have y0 := blk_cell hx 0
  have y1 := blk_cell hx 1
  have y2 := blk_cell hx 2
  have y3 := blk_cell hx 3
  have y4 := blk_cell hx 4
  have y5 := blk_cell hx 5
  have y6 := blk_cell hx 6
  have y7 := blk_cell hx 7
  have y8 := blk_cell hx 8
  have y9 := blk_cell hx 9
  have y10 := blk_cell hx 10
  have y11 := blk_cell hx 11
  have HTC := Aside0.mk (trapped_call hs (hXR.below h3.below) hxo)
  have hwp : ∀ q : Nat, q ≤ 1000 → wrap64 ((q : Int) + 1) = (q : Int) + 1 := fun q hq => by unfold wrap64; omega
  have HWP := Aside0.mk hwp
  clear h h1 h2 h3 hl hs hB hxo hXR hx hwp
  have HPART := Aside0.mk hpart
  clear hpart
  go_enter Tryd.func20, Tryd.ntmps20
  go_wp2_with (refine wpList_load26 rfl (.tmp 3) rfl g rfl HSO.out H.out.drop.drop.top ?_)
  refine HTC.out.mono ?_
  rintro e w4 ⟨rfl, hb4⟩
  have H4 := Aside0.mk (H.out.step hb4)
  clear hb4 HTC y0 y1 y2 y3 y4 y5 y6 y7 y8 y9 y10 y11
  cases ht : trapB x s with
  | true =>
    have HF := Aside0.mk (show stepC x s B = (s, B, 5) by unfold stepC; rw [if_pos ht])
    clear ht HPART
    go_wp2_with (first
      | refine wpList_load26 rfl (.tmp 3) rfl g rfl HSO.out H4.out.drop.drop.top ?_
      | refine wpList_store26 rfl (.tmp 6) (.tmp 19) rfl (g + 1 + 1) rfl rfl HSO.out Tryd.zeroCells26 zero26 H4.out.top ?_)
    have h9 := BusM.putRow H4.out s.cells
    refine bodyPost_ret (results_ct rfl _ _ (g + 1 + 1) 26 s.cells (0, 0) _ rfl h9.top Tryd.underlying26 rfl (by rw [HSO.out.size]; exact i26)) rfl ?_
    exact ⟨by rw [HF.out]; rfl, by rw [HF.out]; exact h9.drop.drop.drop⟩
  | false =>
  obtain ⟨hpc, hv, hopb⟩ := trap_no ht
  have hpt := HPART.out ht
  clear HPART
  obtain ⟨q, hq⟩ := Int.eq_ofNat_of_zero_le hpc.1
  have hqn : q < x.codes.length := by omega
  have hq1000 : q ≤ 1000 := by have := HXO.out.len; omega
  have xp := cpu_pc H4.out.drop.drop.top
  rw [hq] at xp
  obtain ⟨bc, oc, hA11, r0, r1, r2, r3, r4⟩ := code_cells (HXR.out.below H4.out.below).co hqn
  have hce0 : x.codes.getD q z72 = codeAt x s.pc := by unfold codeAt; rw [hq, Int.toNat_natCast]
  rw [hce0] at r0 r1 r2 r3 r4
  have him : S16 (codeAt x s.pc).f4 := code_ok HXO.out s.pc
  have HEX := Aside0.mk (show stepC x s B = if B.ok = true then exeC x s (spend B (codeAt x s.pc).f0) (codeAt x s.pc).f0 (codeAt x s.pc).f1.toNat (codeAt x s.pc).f2.toNat (codeAt x s.pc).f3.toNat (codeAt x s.pc).f4 else (s, spend B (codeAt x s.pc).f0, 4) by
    unfold stepC
    rw [if_neg (by rw [ht]; simp)])
  obtain ⟨nC, hnC⟩ : ∃ n, x.codes.length = n := ⟨_, rfl⟩
  obtain ⟨c11, hc11⟩ : ∃ c, p.c11 = c := ⟨_, rfl⟩
  have q11 := blk_cell H4.out.drop.top 11
  replace q11 := q11.trans (show _ = some (Value.slice (some ⟨bc, oc, none⟩) nC c11) by rw [← hnC, ← hA11, ← hc11]; rfl)
  rw [hnC] at hqn
  have hqi : (q : Int) < (nC : Int) := by omega
  generalize hca : codeAt x s.pc = c at *
  obtain ⟨a, b, cc, ha, hb, hcc, hce, hop, himn⟩ := valid_ins hv
  obtain ⟨op, f1, f2, f3, im⟩ := c
  injection hce with _ e1 e2 e3 _
  subst e1 e2 e3
  dsimp only at r0 r1 r2 r3 r4 him hopb hop himn HEX hpt
  simp only [Int.toNat_natCast] at hopb HEX
  have HOP := Aside0.mk hop
  have HPT := Aside0.mk hpt
  clear hpt
  have HIMN := Aside0.mk himn
  have HOPB := Aside0.mk hopb
  have HAB := Aside0.mk (And.intro ha (And.intro hb hcc))
  have HIM := Aside0.mk him
  have HQ := Aside0.mk (And.intro hq hq1000)
  obtain ⟨gi, hgi⟩ : ∃ gi, w4.heap.size = gi := ⟨_, rfl⟩
  have X4 := Aside0.mk (H4.out.new_ (.cells Z72 72) hgi).top
  have HSR := Aside0.mk (show (w4.alloc (.cells Z72 72)).setRow gi #[.int .i64 op, .int .i64 (a : Int), .int .i64 (b : Int), .int .i64 (cc : Int), .int .i16 im] = w4.alloc (iO op a b cc im) by rw [← hgi]; exact World.setRow_alloc_new w4 _ _ 72)
  have H5 := Aside0.mk (H4.out.new_ (iO op a b cc im) hgi)
  clear ht hpc hv hopb hq hq1000 hce0 hnC hc11 hA11 hca ha hb hcc hop himn him HXO
  go_upto_region 4 with (refine wpList_store_row rfl 72 (.tmp 8) (.tmp 25) rfl gi #[.int .i64 op, .int .i64 (a : Int), .int .i64 (b : Int), .int .i64 (cc : Int), .int .i16 im] rfl rfl 72 Z72 X4.out i72 rfl (by simp [Value.oneCell']) ?_)
  rw [HSR.out]
  clear HSR X4 hgi r0 r1 r2 r3 r4 xp q11 hqn hqi H4
  generalize w4.alloc (iO op a b cc im) = w5 at *
  obtain ⟨_, _, _, c4, c5, c6, c7⟩ := rcosts HOP.out
  have HEN := Aside0.mk (fun W => trickleref11_Energy.calls 5 op (enC op) W c4)
  have HWR := Aside0.mk (fun W => trickleref11_NVMWrites.calls 5 op (wrC op) W c5)
  have HTI := Aside0.mk (fun W => trickleref11_Ticks.calls 5 op (tiC op) W c6)
  have HSP := Aside0.mk (fun W L' (h : BusM w0 W gw B L') => Spend_call h (by have := HL.out; omega) (enC op - wrC op) (tiC op))
  have hsub := w64_small (n := enC op - wrC op) (by omega) (by omega)
  have hsub' : IntKind.i64.wrap (enC op - wrC op) = enC op - wrC op := by rw [i64_w]; exact hsub
  have HB1 := Aside0.mk (show spend B op = B.log 8 (enC op - wrC op) (tiC op) from rfl)
  have HB1O := Aside0.mk (show (spend B op).Ok from HBO.out.log _ _ _)
  have HB1L := Aside0.mk (show (spend B op).calls.length ≤ 50001 by have := HL.out; show (B.calls ++ [_]).length ≤ _; rw [List.length_append]; show B.calls.length + 1 ≤ _; omega)
  rw [← HB1.out] at HSP
  generalize spend B op = B1 at *
  generalize enC op = en at *
  generalize wrC op = wr at *
  generalize tiC op = ti at *
  have y0 := blk_cell H5.out.top 0
  obtain ⟨bok, hbok⟩ : ∃ k, B.ok = k := ⟨_, rfl⟩
  rw [hbok] at HSP HEX
  clear c4 c5 c6 c7 hbok HB1
  try simp only [Act.put, List.setIfInBounds_toArray, List.set_cons_zero, List.set_cons_succ]
  refine wp_region_held_drew (S := fun W => W.cell? ⟨gi, 0, none⟩ = some (.int .i64 op)) (by kernel_rfl) y0 (fun hS => ?_)
  refine wpAnyH_take (i := 0) (v := ?_) rfl (by kernel_rfl) (by kernel_rfl) (by kernel_rfl) (fun _ _ _ h => h) (Or.inl ⟨by rfl, ?_⟩) hS ?_
  rotate_left
  · intro W_ hSW_
    have y0_ := hSW_
    go_simp
    try with_reducible rfl
  try simp only [Act.put, List.setIfInBounds_toArray, List.set_cons_zero, List.set_cons_succ]
  refine wpAnyH_take (i := 1) (v := ?_) rfl (by kernel_rfl) (by kernel_rfl) (by kernel_rfl) (fun _ _ _ h => h) (Or.inl ⟨by rfl, ?_⟩) hS ?_
  rotate_left
  · intro W_ hSW_
    have y0_ := hSW_
    go_simp
    try with_reducible rfl
  try simp only [Act.put, List.setIfInBounds_toArray, List.set_cons_zero, List.set_cons_succ]
  refine wpAnyH_take (i := 2) (v := ?_) rfl (by kernel_rfl) (by kernel_rfl) (by kernel_rfl) (fun _ _ _ h => h) (Or.inl ⟨by rfl, ?_⟩) hS ?_
  rotate_left
  · intro W_ hSW_
    have y0_ := hSW_
    go_simp
    try with_reducible rfl
  try simp only [Act.put, List.setIfInBounds_toArray, List.set_cons_zero, List.set_cons_succ]
  refine wpAnyH_take (i := 4) (v := ?_) rfl (by kernel_rfl) (by kernel_rfl) (by kernel_rfl) (fun _ _ _ h => h) (Or.inl ⟨by rfl, ?_⟩) hS ?_
  rotate_left
  · intro W_ hSW_
    have y0_ := hSW_
    go_simp
    try with_reducible rfl
  try simp only [Act.put, List.setIfInBounds_toArray, List.set_cons_zero, List.set_cons_succ]
  refine wpAnyH_take (i := 5) (v := ?_) rfl (by kernel_rfl) (by kernel_rfl) (by kernel_rfl) (fun _ _ _ h => h) (Or.inl ⟨by rfl, ?_⟩) hS ?_
  rotate_left
  · intro W_ hSW_
    have y0_ := hSW_
    go_simp
    try with_reducible rfl
  try simp only [Act.put, List.setIfInBounds_toArray, List.set_cons_zero, List.set_cons_succ]
  refine wpAnyH_take (i := 8) (v := ?_) rfl (by kernel_rfl) (by kernel_rfl) (by kernel_rfl) (fun _ _ _ h => h) (Or.inl ⟨by rfl, ?_⟩) hS ?_
  rotate_left
  · intro W_ hSW_
    have y0_ := hSW_
    go_simp
    try with_reducible rfl
  try simp only [Act.put, List.setIfInBounds_toArray, List.set_cons_zero, List.set_cons_succ]
  refine wpAnyH_take (i := 9) (v := ?_) rfl (by kernel_rfl) (by kernel_rfl) (by kernel_rfl) (fun _ _ _ h => h) (Or.inl ⟨by rfl, ?_⟩) hS ?_
  rotate_left
  · intro W_ hSW_
    have y0_ := hSW_
    go_simp
    try with_reducible rfl
  try simp only [Act.put, List.setIfInBounds_toArray, List.set_cons_zero, List.set_cons_succ]
  refine wpAnyH_ready (rs := [3]) (by kernel_rfl) (by simp) ?_
  refine AllReadyH.cons rfl (fun K_ hK_ => ?_) AllReadyH.nil
  go_simp
  refine (HEN.out _).mono ?_
  rintro e w_e1 ⟨rfl, hb_⟩
  have HE1 := Aside0.mk (H5.out.drew.step (by first | exact hb_ | exact hb_.below))
  clear hb_
  refine hK_.out _ _ (blk_cell HE1.out.top 0) (fun hS_ => ?_)
  clear hK_ K_ hS
  have hS := hS_
  clear hS_
  try simp only [Act.put, List.setIfInBounds_toArray, List.set_cons_zero, List.set_cons_succ]
  refine wpAnyH_ready (rs := [6]) (by kernel_rfl) (by simp) ?_
  refine AllReadyH.cons rfl (fun K_ hK_ => ?_) AllReadyH.nil
  go_simp
  refine (HWR.out _).mono ?_
  rintro e w_e2 ⟨rfl, hb_⟩
  have HE2 := Aside0.mk (HE1.out.step (by first | exact hb_ | exact hb_.below))
  clear hb_
  refine hK_.out _ _ (blk_cell HE2.out.top 0) (fun hS_ => ?_)
  clear hK_ K_ hS
  have hS := hS_
  clear hS_
  try simp only [Act.put, List.setIfInBounds_toArray, List.set_cons_zero, List.set_cons_succ]
  refine wpAnyH_take (i := 7) (v := ?_) rfl (by kernel_rfl) (by kernel_rfl) (by kernel_rfl) (fun _ _ _ h => h) (Or.inl ⟨by rfl, ?_⟩) hS ?_
  rotate_left
  · intro W_ hSW_
    have y0_ := hSW_
    go_simp
    try with_reducible rfl
  try simp only [Act.put, List.setIfInBounds_toArray, List.set_cons_zero, List.set_cons_succ]
  refine wpAnyH_ready (rs := [10]) (by kernel_rfl) (by simp) ?_
  refine AllReadyH.cons rfl (fun K_ hK_ => ?_) AllReadyH.nil
  go_simp
  refine (HTI.out _).mono ?_
  rintro e w_e3 ⟨rfl, hb_⟩
  have HE3 := Aside0.mk (HE2.out.step (by first | exact hb_ | exact hb_.below))
  clear hb_
  refine hK_.out _ _ (blk_cell HE3.out.top 0) (fun hS_ => ?_)
  clear hK_ K_ hS
  have hS := hS_
  clear hS_
  try simp only [Act.put, List.setIfInBounds_toArray, List.set_cons_zero, List.set_cons_succ]
  refine wpAnyH_ready (rs := [11]) (by kernel_rfl) (by simp) ?_
  refine AllReadyH.cons rfl (fun K_ hK_ => ?_) AllReadyH.nil
  go_simp
  refine (HSP.out _ _ HE3.out).mono ?_
  rintro e w_e4 ⟨rfl, hb_⟩
  have HE4 := Aside0.mk hb_
  clear hb_
  refine hK_.out _ _ (blk_cell HE4.out.top 0) (fun hS_ => ?_)
  clear hK_ K_ hS
  have hS := hS_
  clear hS_
  try simp only [Act.put, List.setIfInBounds_toArray, List.set_cons_zero, List.set_cons_succ]
  refine wpAnyH_take (i := 12) (v := ?_) rfl (by kernel_rfl) (by kernel_rfl) (by kernel_rfl) (fun _ _ _ h => h) (Or.inl ⟨by rfl, ?_⟩) hS ?_
  rotate_left
  · intro W_ hSW_
    have y0_ := hSW_
    go_simp
    try with_reducible rfl
  try simp only [Act.put, List.setIfInBounds_toArray, List.set_cons_zero, List.set_cons_succ]
  refine wpAnyH_done (by kernel_rfl) ?_ _
  clear hS
  clear y0
  cases bok with
  | false =>
    have HF := Aside0.mk (show stepC x s B = (s, B1, 4) by rw [HEX.out]; rfl)
    go_wp2_with (first
      | refine wpList_load26 rfl (.tmp 3) rfl g rfl HSO.out (HE4.out.up 3).top ?_
      | refine wpList_store26 rfl (.tmp 6) (.tmp 39) rfl (g + 1 + 1) rfl rfl HSO.out Tryd.zeroCells26 zero26 (HE4.out.up 1).top ?_)
    have h9 := BusM.putRow (HE4.out.up 1) s.cells
    refine bodyPost_ret (results_ct rfl _ _ (g + 1 + 1) 26 s.cells (0, 0) _ rfl h9.top Tryd.underlying26 rfl (by rw [HSO.out.size]; exact i26)) rfl ?_
    exact ⟨by rw [HF.out]; rfl, by rw [HF.out]; exact h9.drop.drop.drop.drop⟩
  | true =>
  replace HEX := Aside0.mk (show stepC x s B = exeC x s B1 op a b cc im by rw [HEX.out]; rfl)
  -- the state as it was, the next pc
  obtain ⟨gq, hgq⟩ : ∃ gq, w_e4.heap.size = gq := ⟨_, rfl⟩
  have X6 := Aside0.mk (HE4.out.new_ (.cells Tryd.zeroCells26 26) hgq).top
  have HSR := Aside0.mk (show (w_e4.alloc (.cells Tryd.zeroCells26 26)).setRow gq s.cells = w_e4.alloc (.cells s.cells 26) by rw [← hgq]; exact World.setRow_alloc_new w_e4 _ _ 26)
  have H6 := Aside0.mk (HE4.out.new_ (.cells s.cells 26) hgq)
  have XL := Aside0.mk (HE4.out.up 3).top
  go_upto_region 7 with (first
    | refine wpList_load26 rfl (.tmp 3) rfl g rfl HSO.out XL.out ?_
    | refine wpList_store26 rfl (.tmp 9) (.tmp 40) rfl gq rfl rfl HSO.out Tryd.zeroCells26 zero26 X6.out ?_)
  rw [HSR.out]
  clear HSR X6 hgq XL
  generalize w_e4.alloc (.cells s.cells 26) = w6 at *
  have yi4 := blk_cell (H6.out.up 1).top 4
  have yi0 := blk_cell (H6.out.up 1).top 0
  have xp := cpu_pc (H6.out.up 4).top
  have fp := blk_frozen (H6.out.up 4).top 0
  rw [HQ.out.1] at xp
  have hwq := HWP.out q HQ.out.2
  have hwi := w64_s16 HIM.out
  have hq1 : IntKind.i64.wrap ((q : Int) + 1) = (q : Int) + 1 := by rw [i64_w]; exact hwq
  have H7 := Aside0.mk (show StW w0 (w6.setCell ⟨g, 0, none⟩ (.int .i64 ((q : Int) + 1))) gw g gi gq B1 (s.to (s.pc + 1)) s op a b cc im p x L from by
    have h := BusM.put (u := .int .i64 ((q : Int) + 1)) (i := 0) (H6.out.up 4) (cells_to ((q : Int) + 1))
    rw [← HQ.out.1] at h ⊢
    exact (h.up 0).perm (by exact List.Perm.refl _))
  clear HE4 H6 H5
  have HT1 : Aside0 ((s.to (s.pc + 1)).Ok) := ⟨HSO.out.to _⟩
  go_upto_region 11 with fail
  clear xp fp yi4 yi0 hwq hq1
  generalize w6.setCell _ _ = w7 at *
  have y0 := blk_cell (show BusM _ _ _ _ _ from (BusM.up (show BusM w0 w7 gw B1 _ from H7.out) 2)).top 0
  have y1 := blk_cell (show BusM _ _ _ _ _ from (BusM.up (show BusM w0 w7 gw B1 _ from H7.out) 2)).top 1
  have y2 := blk_cell (show BusM _ _ _ _ _ from (BusM.up (show BusM w0 w7 gw B1 _ from H7.out) 2)).top 2
  have y3 := blk_cell (show BusM _ _ _ _ _ from (BusM.up (show BusM w0 w7 gw B1 _ from H7.out) 2)).top 3
  have y4 := blk_cell (show BusM _ _ _ _ _ from (BusM.up (show BusM w0 w7 gw B1 _ from H7.out) 2)).top 4
  have ha' : (a : Int) < 8 := by have := HAB.out.1; omega
  have hb' : (b : Int) < 8 := by have := HAB.out.2.1; omega
  have hc' : (cc : Int) < 8 := by have := HAB.out.2.2; omega
  have xa : w7.cell? ⟨g, 1 + a, none⟩ = some (.int .i16 (s.r a)) := cpu_r (BusM.top (show BusM w0 w7 gw B1 _ from H7.out)) HT1.out (by have := HAB.out.1; omega)
  have xb : w7.cell? ⟨g, 1 + b, none⟩ = some (.int .i16 (s.r b)) := cpu_r (BusM.top (show BusM w0 w7 gw B1 _ from H7.out)) HT1.out (by have := HAB.out.2.1; omega)
  have xc : w7.cell? ⟨g, 1 + cc, none⟩ = some (.int .i16 (s.r cc)) := cpu_r (BusM.top (show BusM w0 w7 gw B1 _ from H7.out)) HT1.out (by have := HAB.out.2.2; omega)
  have f0 := blk_frozen (BusM.top (show BusM w0 w7 gw B1 _ from H7.out)) 0
  have fa := blk_frozen (BusM.top (show BusM w0 w7 gw B1 _ from H7.out)) (1 + a)
  have x0 := cpu_pc (BusM.top (show BusM w0 w7 gw B1 _ from H7.out))
  have HXAB := Aside0.mk (And.intro xa (And.intro xb xc))
  have hsa := HSO.out.r a
  have hsb := HSO.out.r b
  have hsc := HSO.out.r cc
  have HS3 := Aside0.mk (And.intro hsa (And.intro hsb hsc))
  have hwa := w64_s16 hsa
  have hwb := w64_s16 hsb
  have HYI := Aside0.mk (And.intro y0 (And.intro y1 (And.intro y2 (And.intro y3 y4))))
  clear hsa hsb hsc
  try simp only [Act.put, List.setIfInBounds_toArray, List.set_cons_zero, List.set_cons_succ]
  try simp only [hwi]
  by_cases e1 : op = 1
  · subst e1
    have HF := Aside0.mk (show stepC x s B = (s, B1, 2) by rw [HEX.out]; unfold exeC; simp [accC, cmpC, advC, adrC, bstore, Cs.to, Cs.set])
    go_wp2_with (first
      | refine wpList_load26 rfl (.tmp 9) rfl gq rfl HSO.out (BusM.up (show BusM w0 w7 gw B1 _ from H7.out) 1).top ?_
      | refine wpList_store26 rfl (.tmp 6) (.tmp 76) rfl (g + 1 + 1) rfl rfl HSO.out Tryd.zeroCells26 zero26 (BusM.up (show BusM w0 w7 gw B1 _ from H7.out) 3).top ?_)
    have h9 := BusM.putRow (BusM.up (show BusM w0 w7 gw B1 _ from H7.out) 3) s.cells
    refine bodyPost_ret (results_ct rfl _ _ (g + 1 + 1) 26 s.cells (0, 0) _ rfl h9.top Tryd.underlying26 rfl (by rw [HSO.out.size]; exact i26)) rfl ?_
    exact ⟨by rw [HF.out]; rfl, by rw [HF.out]; exact h9.drop.drop.drop.drop.drop⟩
  by_cases e2 : op = 2
  · subst e2
    have HF := Aside0.mk (show stepC x s B = ((s.to (s.pc + 1)).set a im, B1, 1) by rw [HEX.out]; unfold exeC; simp [accC, cmpC, advC, adrC, bstore, Cs.to, Cs.set])
    have HN := Aside0.mk (BusM.put (u := .int .i16 im) (i := 1 + a) (show BusM w0 w7 gw B1 _ from H7.out) (cells_set (s := (s.to (s.pc + 1))) a im))
    have HOK := Aside0.mk (HT1.out.set a (show S16 im from HIM.out))
    go_wp2_with (first
      | refine wpList_load26 rfl (.tmp 3) rfl g rfl HOK.out (BusM.top HN.out) ?_
      | refine wpList_store26 rfl (.tmp 6) (.tmp 305) rfl (g + 1 + 1) rfl rfl HOK.out Tryd.zeroCells26 zero26 (BusM.up HN.out 3).top ?_)
    have h9 := BusM.putRow (BusM.up HN.out 3) ((s.to (s.pc + 1)).set a im).cells
    refine bodyPost_ret (results_ct rfl _ _ (g + 1 + 1) 26 ((s.to (s.pc + 1)).set a im).cells (0, 0) _ rfl h9.top Tryd.underlying26 rfl (by rw [Cs.Ok.size HOK.out]; exact i26)) rfl ?_
    exact ⟨by rw [HF.out]; rfl, by rw [HF.out]; exact h9.drop.drop.drop.drop.drop⟩
  by_cases e3 : op = 3
  · subst e3
    have HF := Aside0.mk (show stepC x s B = ((s.to (s.pc + 1)).set a (s.r b), B1, 1) by rw [HEX.out]; unfold exeC; simp [accC, cmpC, advC, adrC, bstore, Cs.to, Cs.set])
    have HN := Aside0.mk (BusM.put (u := .int .i16 (s.r b)) (i := 1 + a) (BusM.drew (show BusM w0 w7 gw B1 _ from H7.out)) (cells_set (s := (s.to (s.pc + 1))) a (s.r b)))
    have HOK := Aside0.mk (HT1.out.set a (show S16 (s.r b) from HS3.out.2.1))
    go_wp2_with fail
    refine wp_region_held_drew (S := fun W => W.cell? ⟨gi, 1, none⟩ = some (.int .i64 (a : Int)) ∧ W.cell? ⟨gi, 2, none⟩ = some (.int .i64 (b : Int))) (by kernel_rfl) ⟨y1, y2⟩ (fun hS => ?_)
    refine wpAnyH_take (i := 0) (v := ?_) rfl (by kernel_rfl) (by kernel_rfl) (by kernel_rfl) (fun _ _ _ h => h) (Or.inl ⟨by rfl, ?_⟩) hS ?_
    rotate_left
    · intro W_ hSW_
      obtain ⟨z1_, z2_⟩ := hSW_
      go_simp
      try with_reducible rfl
    try simp only [Act.put, List.setIfInBounds_toArray, List.set_cons_zero, List.set_cons_succ]
    refine wpAnyH_take (i := 1) (v := ?_) rfl (by kernel_rfl) (by kernel_rfl) (by kernel_rfl) (fun _ _ _ h => h) (Or.inl ⟨by rfl, ?_⟩) hS ?_
    rotate_left
    · intro W_ hSW_
      obtain ⟨z1_, z2_⟩ := hSW_
      go_simp
      try with_reducible rfl
    try simp only [Act.put, List.setIfInBounds_toArray, List.set_cons_zero, List.set_cons_succ]
    refine wpAnyH_take (i := 2) (v := ?_) rfl (by kernel_rfl) (by kernel_rfl) (by kernel_rfl) (fun _ _ _ h => h) (Or.inl ⟨by rfl, ?_⟩) hS ?_
    rotate_left
    · intro W_ hSW_
      obtain ⟨z1_, z2_⟩ := hSW_
      go_simp
      try with_reducible rfl
    try simp only [Act.put, List.setIfInBounds_toArray, List.set_cons_zero, List.set_cons_succ]
    refine wpAnyH_take (i := 3) (v := ?_) rfl (by kernel_rfl) (by kernel_rfl) (by kernel_rfl) (fun _ _ _ h => h) (Or.inl ⟨by rfl, ?_⟩) hS ?_
    rotate_left
    · intro W_ hSW_
      obtain ⟨z1_, z2_⟩ := hSW_
      go_simp
      try with_reducible rfl
    try simp only [Act.put, List.setIfInBounds_toArray, List.set_cons_zero, List.set_cons_succ]
    refine wpAnyH_take (i := 4) (v := ?_) rfl (by kernel_rfl) (by kernel_rfl) (by kernel_rfl) (fun _ _ _ h => h) (Or.inl ⟨by rfl, ?_⟩) hS ?_
    rotate_left
    · intro W_ hSW_
      obtain ⟨z1_, z2_⟩ := hSW_
      go_simp
      try with_reducible rfl
    try simp only [Act.put, List.setIfInBounds_toArray, List.set_cons_zero, List.set_cons_succ]
    refine wpAnyH_take (i := 5) (v := ?_) rfl (by kernel_rfl) (by kernel_rfl) (by kernel_rfl) (fun _ _ _ h => h) (Or.inl ⟨by rfl, ?_⟩) hS ?_
    rotate_left
    · intro W_ hSW_
      obtain ⟨z1_, z2_⟩ := hSW_
      go_simp
      try with_reducible rfl
    try simp only [Act.put, List.setIfInBounds_toArray, List.set_cons_zero, List.set_cons_succ]
    refine wpAnyH_take (i := 7) (v := ?_) rfl (by kernel_rfl) (by kernel_rfl) (by kernel_rfl) (fun _ _ _ h => h) (Or.inl ⟨by rfl, ?_⟩) hS ?_
    rotate_left
    · intro W_ hSW_
      obtain ⟨z1_, z2_⟩ := hSW_
      go_simp
      try with_reducible rfl
    try simp only [Act.put, List.setIfInBounds_toArray, List.set_cons_zero, List.set_cons_succ]
    refine wpAnyH_ready (rs := [6]) (by kernel_rfl) (by simp) ?_
    refine AllReadyH.cons rfl (fun K_ hK_ => ?_) AllReadyH.nil
    go_simp
    refine hK_.out _ _ (hS) (fun hS_ => ?_)
    clear hK_ K_ hS
    have hS := hS_
    clear hS_
    try simp only [Act.put, List.setIfInBounds_toArray, List.set_cons_zero, List.set_cons_succ]
    refine wpAnyH_take (i := 8) (v := ?_) rfl (by kernel_rfl) (by kernel_rfl) (by kernel_rfl) (fun _ _ _ h => h) (Or.inl ⟨by rfl, ?_⟩) hS ?_
    rotate_left
    · intro W_ hSW_
      obtain ⟨z1_, z2_⟩ := hSW_
      go_simp
      try with_reducible rfl
    try simp only [Act.put, List.setIfInBounds_toArray, List.set_cons_zero, List.set_cons_succ]
    refine wpAnyH_ready (rs := [9]) (by kernel_rfl) (by simp) ?_
    refine AllReadyH.cons rfl (fun K_ hK_ => ?_) AllReadyH.nil
    go_simp
    refine hK_.out _ _ (⟨blk_cell (BusM.up HN.out 2).top 1, blk_cell (BusM.up HN.out 2).top 2⟩) (fun hS_ => ?_)
    clear hK_ K_ hS
    have hS := hS_
    clear hS_
    try simp only [Act.put, List.setIfInBounds_toArray, List.set_cons_zero, List.set_cons_succ]
    refine wpAnyH_done (by kernel_rfl) ?_ _
    clear hS
    go_wp2_with (first
      | refine wpList_load26 rfl (.tmp 3) rfl g rfl HOK.out (BusM.top HN.out) ?_
      | refine wpList_store26 rfl (.tmp 6) (.tmp 305) rfl (g + 1 + 1) rfl rfl HOK.out Tryd.zeroCells26 zero26 (BusM.up HN.out 3).top ?_)
    have h9 := BusM.putRow (BusM.up HN.out 3) ((s.to (s.pc + 1)).set a (s.r b)).cells
    refine bodyPost_ret (results_ct rfl _ _ (g + 1 + 1) 26 ((s.to (s.pc + 1)).set a (s.r b)).cells (0, 0) _ rfl h9.top Tryd.underlying26 rfl (by rw [Cs.Ok.size HOK.out]; exact i26)) rfl ?_
    exact ⟨by rw [HF.out]; rfl, by rw [HF.out]; exact h9.drop.drop.drop.drop.drop⟩
  by_cases e4 : op = 4
  · subst e4
    have HF := Aside0.mk (show stepC x s B = ((s.to (s.pc + 1)).set a (negV (s.r b)), B1, 1) by rw [HEX.out]; unfold exeC; simp [accC, cmpC, advC, adrC, bstore, Cs.to, Cs.set])
    go_wp2_with fail
    refine wp_region_held_drew (S := fun W => W.cell? ⟨gi, 1, none⟩ = some (.int .i64 (a : Int)) ∧ W.cell? ⟨gi, 2, none⟩ = some (.int .i64 (b : Int))) (by kernel_rfl) ⟨y1, y2⟩ (fun hS => ?_)
    refine wpAnyH_take (i := 0) (v := ?_) rfl (by kernel_rfl) (by kernel_rfl) (by kernel_rfl) (fun _ _ _ h => h) (Or.inl ⟨by rfl, ?_⟩) hS ?_
    rotate_left
    · intro W_ hSW_
      obtain ⟨z1_, z2_⟩ := hSW_
      go_simp
      try with_reducible rfl
    try simp only [Act.put, List.setIfInBounds_toArray, List.set_cons_zero, List.set_cons_succ]
    refine wpAnyH_take (i := 1) (v := ?_) rfl (by kernel_rfl) (by kernel_rfl) (by kernel_rfl) (fun _ _ _ h => h) (Or.inl ⟨by rfl, ?_⟩) hS ?_
    rotate_left
    · intro W_ hSW_
      obtain ⟨z1_, z2_⟩ := hSW_
      go_simp
      try with_reducible rfl
    try simp only [Act.put, List.setIfInBounds_toArray, List.set_cons_zero, List.set_cons_succ]
    refine wpAnyH_take (i := 2) (v := ?_) rfl (by kernel_rfl) (by kernel_rfl) (by kernel_rfl) (fun _ _ _ h => h) (Or.inl ⟨by rfl, ?_⟩) hS ?_
    rotate_left
    · intro W_ hSW_
      obtain ⟨z1_, z2_⟩ := hSW_
      go_simp
      try with_reducible rfl
    try simp only [Act.put, List.setIfInBounds_toArray, List.set_cons_zero, List.set_cons_succ]
    refine wpAnyH_take (i := 3) (v := ?_) rfl (by kernel_rfl) (by kernel_rfl) (by kernel_rfl) (fun _ _ _ h => h) (Or.inl ⟨by rfl, ?_⟩) hS ?_
    rotate_left
    · intro W_ hSW_
      obtain ⟨z1_, z2_⟩ := hSW_
      go_simp
      try with_reducible rfl
    try simp only [Act.put, List.setIfInBounds_toArray, List.set_cons_zero, List.set_cons_succ]
    refine wpAnyH_take (i := 4) (v := ?_) rfl (by kernel_rfl) (by kernel_rfl) (by kernel_rfl) (fun _ _ _ h => h) (Or.inl ⟨by rfl, ?_⟩) hS ?_
    rotate_left
    · intro W_ hSW_
      obtain ⟨z1_, z2_⟩ := hSW_
      go_simp
      try with_reducible rfl
    try simp only [Act.put, List.setIfInBounds_toArray, List.set_cons_zero, List.set_cons_succ]
    refine wpAnyH_take (i := 5) (v := ?_) rfl (by kernel_rfl) (by kernel_rfl) (by kernel_rfl) (fun _ _ _ h => h) (Or.inl ⟨by rfl, ?_⟩) hS ?_
    rotate_left
    · intro W_ hSW_
      obtain ⟨z1_, z2_⟩ := hSW_
      go_simp
      try with_reducible rfl
    try simp only [Act.put, List.setIfInBounds_toArray, List.set_cons_zero, List.set_cons_succ]
    refine wpAnyH_take (i := 11) (v := ?_) rfl (by kernel_rfl) (by kernel_rfl) (by kernel_rfl) (fun _ _ _ h => h) (Or.inl ⟨by rfl, ?_⟩) hS ?_
    rotate_left
    · intro W_ hSW_
      obtain ⟨z1_, z2_⟩ := hSW_
      go_simp
      try with_reducible rfl
    try simp only [Act.put, List.setIfInBounds_toArray, List.set_cons_zero, List.set_cons_succ]
    refine wpAnyH_ready (rs := [6]) (by kernel_rfl) (by simp) ?_
    refine AllReadyH.cons rfl (fun K_ hK_ => ?_) AllReadyH.nil
    go_simp
    refine hK_.out _ _ (hS) (fun hS_ => ?_)
    clear hK_ K_ hS
    have hS := hS_
    clear hS_
    try simp only [Act.put, List.setIfInBounds_toArray, List.set_cons_zero, List.set_cons_succ]
    refine wpAnyH_ready (rs := [7]) (by kernel_rfl) (by simp) ?_
    refine AllReadyH.cons rfl (fun K_ hK_ => ?_) AllReadyH.nil
    go_simp
    refine (trickleref01_Unary.calls 1 (s.r b) (negV (s.r b)) 0 _ (rneg_f HS3.out.2.1)).mono ?_
    rintro e w8 ⟨rfl, hd8⟩
    have H8 := Aside0.mk ((BusM.drew (show BusM w0 w7 gw B1 _ from H7.out)).step hd8.below)
    clear hd8
    have fa8 := blk_frozen H8.out.top (1 + a)
    have xa8 := cpu_r H8.out.top HT1.out (i := a) (by have := HAB.out.1; omega)
    have HN := Aside0.mk (BusM.put (u := .int .i16 (negV (s.r b))) (i := 1 + a) H8.out (cells_set (s := (s.to (s.pc + 1))) a (negV (s.r b))))
    have HOK := Aside0.mk (HT1.out.set a (show S16 (negV (s.r b)) from (s16_wrap _)))
    refine hK_.out _ _ (⟨blk_cell (BusM.up H8.out 2).top 1, blk_cell (BusM.up H8.out 2).top 2⟩) (fun hS_ => ?_)
    clear hK_ K_ hS
    have hS := hS_
    clear hS_
    try simp only [Act.put, List.setIfInBounds_toArray, List.set_cons_zero, List.set_cons_succ]
    refine wpAnyH_take (i := 8) (v := ?_) rfl (by kernel_rfl) (by kernel_rfl) (by kernel_rfl) (fun _ _ _ h => h) (Or.inl ⟨by rfl, ?_⟩) hS ?_
    rotate_left
    · intro W_ hSW_
      obtain ⟨z1_, z2_⟩ := hSW_
      go_simp
      try with_reducible rfl
    try simp only [Act.put, List.setIfInBounds_toArray, List.set_cons_zero, List.set_cons_succ]
    refine wpAnyH_take (i := 9) (v := ?_) rfl (by kernel_rfl) (by kernel_rfl) (by kernel_rfl) (fun _ _ _ h => h) (Or.inl ⟨by rfl, ?_⟩) hS ?_
    rotate_left
    · intro W_ hSW_
      obtain ⟨z1_, z2_⟩ := hSW_
      go_simp
      try with_reducible rfl
    try simp only [Act.put, List.setIfInBounds_toArray, List.set_cons_zero, List.set_cons_succ]
    refine wpAnyH_take (i := 10) (v := ?_) rfl (by kernel_rfl) (by kernel_rfl) (by kernel_rfl) (fun _ _ _ h => h) (Or.inl ⟨by rfl, ?_⟩) hS ?_
    rotate_left
    · intro W_ hSW_
      obtain ⟨z1_, z2_⟩ := hSW_
      go_simp
      try with_reducible rfl
    try simp only [Act.put, List.setIfInBounds_toArray, List.set_cons_zero, List.set_cons_succ]
    refine wpAnyH_take (i := 12) (v := ?_) rfl (by kernel_rfl) (by kernel_rfl) (by kernel_rfl) (fun _ _ _ h => h) (Or.inl ⟨by rfl, ?_⟩) hS ?_
    rotate_left
    · intro W_ hSW_
      obtain ⟨z1_, z2_⟩ := hSW_
      go_simp
      try with_reducible rfl
    try simp only [Act.put, List.setIfInBounds_toArray, List.set_cons_zero, List.set_cons_succ]
    refine wpAnyH_ready (rs := [13]) (by kernel_rfl) (by simp) ?_
    refine AllReadyH.cons rfl (fun K_ hK_ => ?_) AllReadyH.nil
    go_simp
    refine hK_.out _ _ (⟨blk_cell (BusM.up HN.out 2).top 1, blk_cell (BusM.up HN.out 2).top 2⟩) (fun hS_ => ?_)
    clear hK_ K_ hS
    have hS := hS_
    clear hS_
    try simp only [Act.put, List.setIfInBounds_toArray, List.set_cons_zero, List.set_cons_succ]
    refine wpAnyH_done (by kernel_rfl) ?_ _
    clear hS
    go_wp2_with (first
      | refine wpList_load26 rfl (.tmp 3) rfl g rfl HOK.out (BusM.top HN.out) ?_
      | refine wpList_store26 rfl (.tmp 6) (.tmp 305) rfl (g + 1 + 1) rfl rfl HOK.out Tryd.zeroCells26 zero26 (BusM.up HN.out 3).top ?_)
    have h9 := BusM.putRow (BusM.up HN.out 3) ((s.to (s.pc + 1)).set a (negV (s.r b))).cells
    refine bodyPost_ret (results_ct rfl _ _ (g + 1 + 1) 26 ((s.to (s.pc + 1)).set a (negV (s.r b))).cells (0, 0) _ rfl h9.top Tryd.underlying26 rfl (by rw [Cs.Ok.size HOK.out]; exact i26)) rfl ?_
    exact ⟨by rw [HF.out]; rfl, by rw [HF.out]; exact h9.drop.drop.drop.drop.drop⟩
  by_cases e5 : op = 5
  · subst e5
    have HF := Aside0.mk (show stepC x s B = ((s.to (s.pc + 1)).set a (notV (s.r b)), B1, 1) by rw [HEX.out]; unfold exeC; simp [accC, cmpC, advC, adrC, bstore, Cs.to, Cs.set])
    go_wp2_with fail
    refine wp_region_held_drew (S := fun W => W.cell? ⟨gi, 1, none⟩ = some (.int .i64 (a : Int)) ∧ W.cell? ⟨gi, 2, none⟩ = some (.int .i64 (b : Int))) (by kernel_rfl) ⟨y1, y2⟩ (fun hS => ?_)
    refine wpAnyH_take (i := 0) (v := ?_) rfl (by kernel_rfl) (by kernel_rfl) (by kernel_rfl) (fun _ _ _ h => h) (Or.inl ⟨by rfl, ?_⟩) hS ?_
    rotate_left
    · intro W_ hSW_
      obtain ⟨z1_, z2_⟩ := hSW_
      go_simp
      try with_reducible rfl
    try simp only [Act.put, List.setIfInBounds_toArray, List.set_cons_zero, List.set_cons_succ]
    refine wpAnyH_take (i := 1) (v := ?_) rfl (by kernel_rfl) (by kernel_rfl) (by kernel_rfl) (fun _ _ _ h => h) (Or.inl ⟨by rfl, ?_⟩) hS ?_
    rotate_left
    · intro W_ hSW_
      obtain ⟨z1_, z2_⟩ := hSW_
      go_simp
      try with_reducible rfl
    try simp only [Act.put, List.setIfInBounds_toArray, List.set_cons_zero, List.set_cons_succ]
    refine wpAnyH_take (i := 2) (v := ?_) rfl (by kernel_rfl) (by kernel_rfl) (by kernel_rfl) (fun _ _ _ h => h) (Or.inl ⟨by rfl, ?_⟩) hS ?_
    rotate_left
    · intro W_ hSW_
      obtain ⟨z1_, z2_⟩ := hSW_
      go_simp
      try with_reducible rfl
    try simp only [Act.put, List.setIfInBounds_toArray, List.set_cons_zero, List.set_cons_succ]
    refine wpAnyH_take (i := 3) (v := ?_) rfl (by kernel_rfl) (by kernel_rfl) (by kernel_rfl) (fun _ _ _ h => h) (Or.inl ⟨by rfl, ?_⟩) hS ?_
    rotate_left
    · intro W_ hSW_
      obtain ⟨z1_, z2_⟩ := hSW_
      go_simp
      try with_reducible rfl
    try simp only [Act.put, List.setIfInBounds_toArray, List.set_cons_zero, List.set_cons_succ]
    refine wpAnyH_take (i := 4) (v := ?_) rfl (by kernel_rfl) (by kernel_rfl) (by kernel_rfl) (fun _ _ _ h => h) (Or.inl ⟨by rfl, ?_⟩) hS ?_
    rotate_left
    · intro W_ hSW_
      obtain ⟨z1_, z2_⟩ := hSW_
      go_simp
      try with_reducible rfl
    try simp only [Act.put, List.setIfInBounds_toArray, List.set_cons_zero, List.set_cons_succ]
    refine wpAnyH_take (i := 5) (v := ?_) rfl (by kernel_rfl) (by kernel_rfl) (by kernel_rfl) (fun _ _ _ h => h) (Or.inl ⟨by rfl, ?_⟩) hS ?_
    rotate_left
    · intro W_ hSW_
      obtain ⟨z1_, z2_⟩ := hSW_
      go_simp
      try with_reducible rfl
    try simp only [Act.put, List.setIfInBounds_toArray, List.set_cons_zero, List.set_cons_succ]
    refine wpAnyH_take (i := 11) (v := ?_) rfl (by kernel_rfl) (by kernel_rfl) (by kernel_rfl) (fun _ _ _ h => h) (Or.inl ⟨by rfl, ?_⟩) hS ?_
    rotate_left
    · intro W_ hSW_
      obtain ⟨z1_, z2_⟩ := hSW_
      go_simp
      try with_reducible rfl
    try simp only [Act.put, List.setIfInBounds_toArray, List.set_cons_zero, List.set_cons_succ]
    refine wpAnyH_ready (rs := [6]) (by kernel_rfl) (by simp) ?_
    refine AllReadyH.cons rfl (fun K_ hK_ => ?_) AllReadyH.nil
    go_simp
    refine hK_.out _ _ (hS) (fun hS_ => ?_)
    clear hK_ K_ hS
    have hS := hS_
    clear hS_
    try simp only [Act.put, List.setIfInBounds_toArray, List.set_cons_zero, List.set_cons_succ]
    refine wpAnyH_ready (rs := [7]) (by kernel_rfl) (by simp) ?_
    refine AllReadyH.cons rfl (fun K_ hK_ => ?_) AllReadyH.nil
    go_simp
    refine (trickleref01_Unary.calls 2 (s.r b) (notV (s.r b)) 0 _ (rnot_f _)).mono ?_
    rintro e w8 ⟨rfl, hd8⟩
    have H8 := Aside0.mk ((BusM.drew (show BusM w0 w7 gw B1 _ from H7.out)).step hd8.below)
    clear hd8
    have fa8 := blk_frozen H8.out.top (1 + a)
    have xa8 := cpu_r H8.out.top HT1.out (i := a) (by have := HAB.out.1; omega)
    have HN := Aside0.mk (BusM.put (u := .int .i16 (notV (s.r b))) (i := 1 + a) H8.out (cells_set (s := (s.to (s.pc + 1))) a (notV (s.r b))))
    have HOK := Aside0.mk (HT1.out.set a (show S16 (notV (s.r b)) from (s16_not _)))
    refine hK_.out _ _ (⟨blk_cell (BusM.up H8.out 2).top 1, blk_cell (BusM.up H8.out 2).top 2⟩) (fun hS_ => ?_)
    clear hK_ K_ hS
    have hS := hS_
    clear hS_
    try simp only [Act.put, List.setIfInBounds_toArray, List.set_cons_zero, List.set_cons_succ]
    refine wpAnyH_take (i := 8) (v := ?_) rfl (by kernel_rfl) (by kernel_rfl) (by kernel_rfl) (fun _ _ _ h => h) (Or.inl ⟨by rfl, ?_⟩) hS ?_
    rotate_left
    · intro W_ hSW_
      obtain ⟨z1_, z2_⟩ := hSW_
      go_simp
      try with_reducible rfl
    try simp only [Act.put, List.setIfInBounds_toArray, List.set_cons_zero, List.set_cons_succ]
    refine wpAnyH_take (i := 9) (v := ?_) rfl (by kernel_rfl) (by kernel_rfl) (by kernel_rfl) (fun _ _ _ h => h) (Or.inl ⟨by rfl, ?_⟩) hS ?_
    rotate_left
    · intro W_ hSW_
      obtain ⟨z1_, z2_⟩ := hSW_
      go_simp
      try with_reducible rfl
    try simp only [Act.put, List.setIfInBounds_toArray, List.set_cons_zero, List.set_cons_succ]
    refine wpAnyH_take (i := 10) (v := ?_) rfl (by kernel_rfl) (by kernel_rfl) (by kernel_rfl) (fun _ _ _ h => h) (Or.inl ⟨by rfl, ?_⟩) hS ?_
    rotate_left
    · intro W_ hSW_
      obtain ⟨z1_, z2_⟩ := hSW_
      go_simp
      try with_reducible rfl
    try simp only [Act.put, List.setIfInBounds_toArray, List.set_cons_zero, List.set_cons_succ]
    refine wpAnyH_take (i := 12) (v := ?_) rfl (by kernel_rfl) (by kernel_rfl) (by kernel_rfl) (fun _ _ _ h => h) (Or.inl ⟨by rfl, ?_⟩) hS ?_
    rotate_left
    · intro W_ hSW_
      obtain ⟨z1_, z2_⟩ := hSW_
      go_simp
      try with_reducible rfl
    try simp only [Act.put, List.setIfInBounds_toArray, List.set_cons_zero, List.set_cons_succ]
    refine wpAnyH_ready (rs := [13]) (by kernel_rfl) (by simp) ?_
    refine AllReadyH.cons rfl (fun K_ hK_ => ?_) AllReadyH.nil
    go_simp
    refine hK_.out _ _ (⟨blk_cell (BusM.up HN.out 2).top 1, blk_cell (BusM.up HN.out 2).top 2⟩) (fun hS_ => ?_)
    clear hK_ K_ hS
    have hS := hS_
    clear hS_
    try simp only [Act.put, List.setIfInBounds_toArray, List.set_cons_zero, List.set_cons_succ]
    refine wpAnyH_done (by kernel_rfl) ?_ _
    clear hS
    go_wp2_with (first
      | refine wpList_load26 rfl (.tmp 3) rfl g rfl HOK.out (BusM.top HN.out) ?_
      | refine wpList_store26 rfl (.tmp 6) (.tmp 305) rfl (g + 1 + 1) rfl rfl HOK.out Tryd.zeroCells26 zero26 (BusM.up HN.out 3).top ?_)
    have h9 := BusM.putRow (BusM.up HN.out 3) ((s.to (s.pc + 1)).set a (notV (s.r b))).cells
    refine bodyPost_ret (results_ct rfl _ _ (g + 1 + 1) 26 ((s.to (s.pc + 1)).set a (notV (s.r b))).cells (0, 0) _ rfl h9.top Tryd.underlying26 rfl (by rw [Cs.Ok.size HOK.out]; exact i26)) rfl ?_
    exact ⟨by rw [HF.out]; rfl, by rw [HF.out]; exact h9.drop.drop.drop.drop.drop⟩
  by_cases e6 : op = 6
  · subst e6
    have HF := Aside0.mk (show stepC x s B = ((s.to (s.pc + 1)).set a (binV 3 (s.r b) (s.r cc)), B1, 1) by rw [HEX.out]; unfold exeC; simp [accC, cmpC, advC, adrC, bstore, Cs.to, Cs.set])
    go_wp2_with fail
    refine (trickleref12_binary.calls 6 3 _ rfl).mono ?_
    rintro e w8 ⟨rfl, hd8⟩
    have H8 := Aside0.mk (BusM.step (show BusM w0 w7 gw B1 _ from H7.out) hd8.below)
    have z1 := blk_cell (BusM.up H8.out 2).top 1
    have z2 := blk_cell (BusM.up H8.out 2).top 2
    have z3 := blk_cell (BusM.up H8.out 2).top 3
    have xb8 : w8.cell? ⟨g, 1 + b, none⟩ = some (.int .i16 (s.r b)) := cpu_r (BusM.top H8.out) HT1.out (by have := HAB.out.2.1; omega)
    have xc8 : w8.cell? ⟨g, 1 + cc, none⟩ = some (.int .i16 (s.r cc)) := cpu_r (BusM.top H8.out) HT1.out (by have := HAB.out.2.2; omega)
    clear hd8 y0 y1 y2 y3 y4 xa xb xc f0 fa x0
    go_wp2_with fail
    refine wp_region_held_drew (S := fun W => W.cell? ⟨gi, 1, none⟩ = some (.int .i64 (a : Int)) ∧ W.cell? ⟨gi, 2, none⟩ = some (.int .i64 (b : Int)) ∧ W.cell? ⟨gi, 3, none⟩ = some (.int .i64 (cc : Int))) (by kernel_rfl) ⟨z1, z2, z3⟩ (fun hS => ?_)
    refine wpAnyH_take (i := 0) (v := ?_) rfl (by kernel_rfl) (by kernel_rfl) (by kernel_rfl) (fun _ _ _ h => h) (Or.inl ⟨by rfl, ?_⟩) hS ?_
    rotate_left
    · intro W_ hSW_
      obtain ⟨z1_, z2_, z3_⟩ := hSW_
      go_simp
      try with_reducible rfl
    try simp only [Act.put, List.setIfInBounds_toArray, List.set_cons_zero, List.set_cons_succ]
    refine wpAnyH_take (i := 1) (v := ?_) rfl (by kernel_rfl) (by kernel_rfl) (by kernel_rfl) (fun _ _ _ h => h) (Or.inl ⟨by rfl, ?_⟩) hS ?_
    rotate_left
    · intro W_ hSW_
      obtain ⟨z1_, z2_, z3_⟩ := hSW_
      go_simp
      try with_reducible rfl
    try simp only [Act.put, List.setIfInBounds_toArray, List.set_cons_zero, List.set_cons_succ]
    refine wpAnyH_take (i := 2) (v := ?_) rfl (by kernel_rfl) (by kernel_rfl) (by kernel_rfl) (fun _ _ _ h => h) (Or.inl ⟨by rfl, ?_⟩) hS ?_
    rotate_left
    · intro W_ hSW_
      obtain ⟨z1_, z2_, z3_⟩ := hSW_
      go_simp
      try with_reducible rfl
    try simp only [Act.put, List.setIfInBounds_toArray, List.set_cons_zero, List.set_cons_succ]
    refine wpAnyH_take (i := 3) (v := ?_) rfl (by kernel_rfl) (by kernel_rfl) (by kernel_rfl) (fun _ _ _ h => h) (Or.inl ⟨by rfl, ?_⟩) hS ?_
    rotate_left
    · intro W_ hSW_
      obtain ⟨z1_, z2_, z3_⟩ := hSW_
      go_simp
      try with_reducible rfl
    try simp only [Act.put, List.setIfInBounds_toArray, List.set_cons_zero, List.set_cons_succ]
    refine wpAnyH_take (i := 4) (v := ?_) rfl (by kernel_rfl) (by kernel_rfl) (by kernel_rfl) (fun _ _ _ h => h) (Or.inl ⟨by rfl, ?_⟩) hS ?_
    rotate_left
    · intro W_ hSW_
      obtain ⟨z1_, z2_, z3_⟩ := hSW_
      go_simp
      try with_reducible rfl
    try simp only [Act.put, List.setIfInBounds_toArray, List.set_cons_zero, List.set_cons_succ]
    refine wpAnyH_take (i := 5) (v := ?_) rfl (by kernel_rfl) (by kernel_rfl) (by kernel_rfl) (fun _ _ _ h => h) (Or.inl ⟨by rfl, ?_⟩) hS ?_
    rotate_left
    · intro W_ hSW_
      obtain ⟨z1_, z2_, z3_⟩ := hSW_
      go_simp
      try with_reducible rfl
    try simp only [Act.put, List.setIfInBounds_toArray, List.set_cons_zero, List.set_cons_succ]
    refine wpAnyH_take (i := 6) (v := ?_) rfl (by kernel_rfl) (by kernel_rfl) (by kernel_rfl) (fun _ _ _ h => h) (Or.inl ⟨by rfl, ?_⟩) hS ?_
    rotate_left
    · intro W_ hSW_
      obtain ⟨z1_, z2_, z3_⟩ := hSW_
      go_simp
      try with_reducible rfl
    try simp only [Act.put, List.setIfInBounds_toArray, List.set_cons_zero, List.set_cons_succ]
    refine wpAnyH_take (i := 8) (v := ?_) rfl (by kernel_rfl) (by kernel_rfl) (by kernel_rfl) (fun _ _ _ h => h) (Or.inl ⟨by rfl, ?_⟩) hS ?_
    rotate_left
    · intro W_ hSW_
      obtain ⟨z1_, z2_, z3_⟩ := hSW_
      go_simp
      try with_reducible rfl
    try simp only [Act.put, List.setIfInBounds_toArray, List.set_cons_zero, List.set_cons_succ]
    refine wpAnyH_take (i := 9) (v := ?_) rfl (by kernel_rfl) (by kernel_rfl) (by kernel_rfl) (fun _ _ _ h => h) (Or.inl ⟨by rfl, ?_⟩) hS ?_
    rotate_left
    · intro W_ hSW_
      obtain ⟨z1_, z2_, z3_⟩ := hSW_
      go_simp
      try with_reducible rfl
    try simp only [Act.put, List.setIfInBounds_toArray, List.set_cons_zero, List.set_cons_succ]
    refine wpAnyH_take (i := 10) (v := ?_) rfl (by kernel_rfl) (by kernel_rfl) (by kernel_rfl) (fun _ _ _ h => h) (Or.inl ⟨by rfl, ?_⟩) hS ?_
    rotate_left
    · intro W_ hSW_
      obtain ⟨z1_, z2_, z3_⟩ := hSW_
      go_simp
      try with_reducible rfl
    try simp only [Act.put, List.setIfInBounds_toArray, List.set_cons_zero, List.set_cons_succ]
    refine wpAnyH_take (i := 11) (v := ?_) rfl (by kernel_rfl) (by kernel_rfl) (by kernel_rfl) (fun _ _ _ h => h) (Or.inl ⟨by rfl, ?_⟩) hS ?_
    rotate_left
    · intro W_ hSW_
      obtain ⟨z1_, z2_, z3_⟩ := hSW_
      go_simp
      try with_reducible rfl
    try simp only [Act.put, List.setIfInBounds_toArray, List.set_cons_zero, List.set_cons_succ]
    refine wpAnyH_take (i := 17) (v := ?_) rfl (by kernel_rfl) (by kernel_rfl) (by kernel_rfl) (fun _ _ _ h => h) (Or.inl ⟨by rfl, ?_⟩) hS ?_
    rotate_left
    · intro W_ hSW_
      obtain ⟨z1_, z2_, z3_⟩ := hSW_
      go_simp
      try with_reducible rfl
    try simp only [Act.put, List.setIfInBounds_toArray, List.set_cons_zero, List.set_cons_succ]
    refine wpAnyH_ready (rs := [7, 12]) (by kernel_rfl) (by simp) ?_
    refine AllReadyH.cons rfl (fun K_ hK_ => ?_) (AllReadyH.cons rfl (fun K_ hK_ => ?_) AllReadyH.nil)
    · go_simp
      refine hK_.out _ _ (hS) (fun hS_ => ?_)
      clear hK_ K_ hS
      have hS := hS_
      clear hS_
      try simp only [Act.put, List.setIfInBounds_toArray, List.set_cons_zero, List.set_cons_succ]
      refine wpAnyH_ready (rs := [12]) (by kernel_rfl) (by simp) ?_
      refine AllReadyH.cons rfl (fun K_ hK_ => ?_) AllReadyH.nil
      go_simp
      refine hK_.out _ _ (hS) (fun hS_ => ?_)
      clear hK_ K_ hS
      have hS := hS_
      clear hS_
      try simp only [Act.put, List.setIfInBounds_toArray, List.set_cons_zero, List.set_cons_succ]
      refine wpAnyH_ready (rs := [13]) (by kernel_rfl) (by simp) ?_
      refine AllReadyH.cons rfl (fun K_ hK_ => ?_) AllReadyH.nil
      go_simp
      refine (trickleref01_Binary.calls 3 (s.r b) (s.r cc) (binV 3 (s.r b) (s.r cc)) 0 _ (rbin_f (by unfold Bop; omega) HS3.out.2.1 HS3.out.2.2)).mono ?_
      rintro e w9 ⟨rfl, hd9⟩
      have H9 := Aside0.mk ((BusM.drew H8.out).step hd9.below)
      clear hd9
      have fa9 := blk_frozen H9.out.top (1 + a)
      have xa9 := cpu_r H9.out.top HT1.out (i := a) (by have := HAB.out.1; omega)
      have HN := Aside0.mk (BusM.put (u := .int .i16 (binV 3 (s.r b) (s.r cc))) (i := 1 + a) H9.out (cells_set (s := (s.to (s.pc + 1))) a (binV 3 (s.r b) (s.r cc))))
      have HOK := Aside0.mk (HT1.out.set a (show S16 (binV 3 (s.r b) (s.r cc)) from (s16_bin 3 HS3.out.2.1 HS3.out.2.2)))
      refine hK_.out _ _ (⟨blk_cell (BusM.up H9.out 2).top 1, blk_cell (BusM.up H9.out 2).top 2, blk_cell (BusM.up H9.out 2).top 3⟩) (fun hS_ => ?_)
      clear hK_ K_ hS
      have hS := hS_
      clear hS_
      try simp only [Act.put, List.setIfInBounds_toArray, List.set_cons_zero, List.set_cons_succ]
      refine wpAnyH_take (i := 14) (v := ?_) rfl (by kernel_rfl) (by kernel_rfl) (by kernel_rfl) (fun _ _ _ h => h) (Or.inl ⟨by rfl, ?_⟩) hS ?_
      rotate_left
      · intro W_ hSW_
        obtain ⟨z1_, z2_, z3_⟩ := hSW_
        go_simp
        try with_reducible rfl
      try simp only [Act.put, List.setIfInBounds_toArray, List.set_cons_zero, List.set_cons_succ]
      refine wpAnyH_take (i := 15) (v := ?_) rfl (by kernel_rfl) (by kernel_rfl) (by kernel_rfl) (fun _ _ _ h => h) (Or.inl ⟨by rfl, ?_⟩) hS ?_
      rotate_left
      · intro W_ hSW_
        obtain ⟨z1_, z2_, z3_⟩ := hSW_
        go_simp
        try with_reducible rfl
      try simp only [Act.put, List.setIfInBounds_toArray, List.set_cons_zero, List.set_cons_succ]
      refine wpAnyH_take (i := 16) (v := ?_) rfl (by kernel_rfl) (by kernel_rfl) (by kernel_rfl) (fun _ _ _ h => h) (Or.inl ⟨by rfl, ?_⟩) hS ?_
      rotate_left
      · intro W_ hSW_
        obtain ⟨z1_, z2_, z3_⟩ := hSW_
        go_simp
        try with_reducible rfl
      try simp only [Act.put, List.setIfInBounds_toArray, List.set_cons_zero, List.set_cons_succ]
      refine wpAnyH_take (i := 18) (v := ?_) rfl (by kernel_rfl) (by kernel_rfl) (by kernel_rfl) (fun _ _ _ h => h) (Or.inl ⟨by rfl, ?_⟩) hS ?_
      rotate_left
      · intro W_ hSW_
        obtain ⟨z1_, z2_, z3_⟩ := hSW_
        go_simp
        try with_reducible rfl
      try simp only [Act.put, List.setIfInBounds_toArray, List.set_cons_zero, List.set_cons_succ]
      refine wpAnyH_ready (rs := [19]) (by kernel_rfl) (by simp) ?_
      refine AllReadyH.cons rfl (fun K_ hK_ => ?_) AllReadyH.nil
      go_simp
      refine hK_.out _ _ (⟨blk_cell (BusM.up HN.out 2).top 1, blk_cell (BusM.up HN.out 2).top 2, blk_cell (BusM.up HN.out 2).top 3⟩) (fun hS_ => ?_)
      clear hK_ K_ hS
      have hS := hS_
      clear hS_
      try simp only [Act.put, List.setIfInBounds_toArray, List.set_cons_zero, List.set_cons_succ]
      refine wpAnyH_done (by kernel_rfl) ?_ _
      clear hS
      go_wp2_with (first
        | refine wpList_load26 rfl (.tmp 3) rfl g rfl HOK.out (BusM.top HN.out) ?_
        | refine wpList_store26 rfl (.tmp 6) (.tmp 305) rfl (g + 1 + 1) rfl rfl HOK.out Tryd.zeroCells26 zero26 (BusM.up HN.out 3).top ?_)
      have h9 := BusM.putRow (BusM.up HN.out 3) ((s.to (s.pc + 1)).set a (binV 3 (s.r b) (s.r cc))).cells
      refine bodyPost_ret (results_ct rfl _ _ (g + 1 + 1) 26 ((s.to (s.pc + 1)).set a (binV 3 (s.r b) (s.r cc))).cells (0, 0) _ rfl h9.top Tryd.underlying26 rfl (by rw [Cs.Ok.size HOK.out]; exact i26)) rfl ?_
      exact ⟨by rw [HF.out]; rfl, by rw [HF.out]; exact h9.drop.drop.drop.drop.drop⟩
    · go_simp
      refine hK_.out _ _ (hS) (fun hS_ => ?_)
      clear hK_ K_ hS
      have hS := hS_
      clear hS_
      try simp only [Act.put, List.setIfInBounds_toArray, List.set_cons_zero, List.set_cons_succ]
      refine wpAnyH_ready (rs := [7]) (by kernel_rfl) (by simp) ?_
      refine AllReadyH.cons rfl (fun K_ hK_ => ?_) AllReadyH.nil
      go_simp
      refine hK_.out _ _ (hS) (fun hS_ => ?_)
      clear hK_ K_ hS
      have hS := hS_
      clear hS_
      try simp only [Act.put, List.setIfInBounds_toArray, List.set_cons_zero, List.set_cons_succ]
      refine wpAnyH_ready (rs := [13]) (by kernel_rfl) (by simp) ?_
      refine AllReadyH.cons rfl (fun K_ hK_ => ?_) AllReadyH.nil
      go_simp
      refine (trickleref01_Binary.calls 3 (s.r b) (s.r cc) (binV 3 (s.r b) (s.r cc)) 0 _ (rbin_f (by unfold Bop; omega) HS3.out.2.1 HS3.out.2.2)).mono ?_
      rintro e w9 ⟨rfl, hd9⟩
      have H9 := Aside0.mk ((BusM.drew H8.out).step hd9.below)
      clear hd9
      have fa9 := blk_frozen H9.out.top (1 + a)
      have xa9 := cpu_r H9.out.top HT1.out (i := a) (by have := HAB.out.1; omega)
      have HN := Aside0.mk (BusM.put (u := .int .i16 (binV 3 (s.r b) (s.r cc))) (i := 1 + a) H9.out (cells_set (s := (s.to (s.pc + 1))) a (binV 3 (s.r b) (s.r cc))))
      have HOK := Aside0.mk (HT1.out.set a (show S16 (binV 3 (s.r b) (s.r cc)) from (s16_bin 3 HS3.out.2.1 HS3.out.2.2)))
      refine hK_.out _ _ (⟨blk_cell (BusM.up H9.out 2).top 1, blk_cell (BusM.up H9.out 2).top 2, blk_cell (BusM.up H9.out 2).top 3⟩) (fun hS_ => ?_)
      clear hK_ K_ hS
      have hS := hS_
      clear hS_
      try simp only [Act.put, List.setIfInBounds_toArray, List.set_cons_zero, List.set_cons_succ]
      refine wpAnyH_take (i := 14) (v := ?_) rfl (by kernel_rfl) (by kernel_rfl) (by kernel_rfl) (fun _ _ _ h => h) (Or.inl ⟨by rfl, ?_⟩) hS ?_
      rotate_left
      · intro W_ hSW_
        obtain ⟨z1_, z2_, z3_⟩ := hSW_
        go_simp
        try with_reducible rfl
      try simp only [Act.put, List.setIfInBounds_toArray, List.set_cons_zero, List.set_cons_succ]
      refine wpAnyH_take (i := 15) (v := ?_) rfl (by kernel_rfl) (by kernel_rfl) (by kernel_rfl) (fun _ _ _ h => h) (Or.inl ⟨by rfl, ?_⟩) hS ?_
      rotate_left
      · intro W_ hSW_
        obtain ⟨z1_, z2_, z3_⟩ := hSW_
        go_simp
        try with_reducible rfl
      try simp only [Act.put, List.setIfInBounds_toArray, List.set_cons_zero, List.set_cons_succ]
      refine wpAnyH_take (i := 16) (v := ?_) rfl (by kernel_rfl) (by kernel_rfl) (by kernel_rfl) (fun _ _ _ h => h) (Or.inl ⟨by rfl, ?_⟩) hS ?_
      rotate_left
      · intro W_ hSW_
        obtain ⟨z1_, z2_, z3_⟩ := hSW_
        go_simp
        try with_reducible rfl
      try simp only [Act.put, List.setIfInBounds_toArray, List.set_cons_zero, List.set_cons_succ]
      refine wpAnyH_take (i := 18) (v := ?_) rfl (by kernel_rfl) (by kernel_rfl) (by kernel_rfl) (fun _ _ _ h => h) (Or.inl ⟨by rfl, ?_⟩) hS ?_
      rotate_left
      · intro W_ hSW_
        obtain ⟨z1_, z2_, z3_⟩ := hSW_
        go_simp
        try with_reducible rfl
      try simp only [Act.put, List.setIfInBounds_toArray, List.set_cons_zero, List.set_cons_succ]
      refine wpAnyH_ready (rs := [19]) (by kernel_rfl) (by simp) ?_
      refine AllReadyH.cons rfl (fun K_ hK_ => ?_) AllReadyH.nil
      go_simp
      refine hK_.out _ _ (⟨blk_cell (BusM.up HN.out 2).top 1, blk_cell (BusM.up HN.out 2).top 2, blk_cell (BusM.up HN.out 2).top 3⟩) (fun hS_ => ?_)
      clear hK_ K_ hS
      have hS := hS_
      clear hS_
      try simp only [Act.put, List.setIfInBounds_toArray, List.set_cons_zero, List.set_cons_succ]
      refine wpAnyH_done (by kernel_rfl) ?_ _
      clear hS
      go_wp2_with (first
        | refine wpList_load26 rfl (.tmp 3) rfl g rfl HOK.out (BusM.top HN.out) ?_
        | refine wpList_store26 rfl (.tmp 6) (.tmp 305) rfl (g + 1 + 1) rfl rfl HOK.out Tryd.zeroCells26 zero26 (BusM.up HN.out 3).top ?_)
      have h9 := BusM.putRow (BusM.up HN.out 3) ((s.to (s.pc + 1)).set a (binV 3 (s.r b) (s.r cc))).cells
      refine bodyPost_ret (results_ct rfl _ _ (g + 1 + 1) 26 ((s.to (s.pc + 1)).set a (binV 3 (s.r b) (s.r cc))).cells (0, 0) _ rfl h9.top Tryd.underlying26 rfl (by rw [Cs.Ok.size HOK.out]; exact i26)) rfl ?_
      exact ⟨by rw [HF.out]; rfl, by rw [HF.out]; exact h9.drop.drop.drop.drop.drop⟩
  by_cases e7 : op = 7
  · subst e7
    have HF := Aside0.mk (show stepC x s B = ((s.to (s.pc + 1)).set a (binV 4 (s.r b) (s.r cc)), B1, 1) by rw [HEX.out]; unfold exeC; simp [accC, cmpC, advC, adrC, bstore, Cs.to, Cs.set])
    go_wp2_with fail
    refine (trickleref12_binary.calls 7 4 _ rfl).mono ?_
    rintro e w8 ⟨rfl, hd8⟩
    have H8 := Aside0.mk (BusM.step (show BusM w0 w7 gw B1 _ from H7.out) hd8.below)
    have z1 := blk_cell (BusM.up H8.out 2).top 1
    have z2 := blk_cell (BusM.up H8.out 2).top 2
    have z3 := blk_cell (BusM.up H8.out 2).top 3
    have xb8 : w8.cell? ⟨g, 1 + b, none⟩ = some (.int .i16 (s.r b)) := cpu_r (BusM.top H8.out) HT1.out (by have := HAB.out.2.1; omega)
    have xc8 : w8.cell? ⟨g, 1 + cc, none⟩ = some (.int .i16 (s.r cc)) := cpu_r (BusM.top H8.out) HT1.out (by have := HAB.out.2.2; omega)
    clear hd8 y0 y1 y2 y3 y4 xa xb xc f0 fa x0
    go_wp2_with fail
    refine wp_region_held_drew (S := fun W => W.cell? ⟨gi, 1, none⟩ = some (.int .i64 (a : Int)) ∧ W.cell? ⟨gi, 2, none⟩ = some (.int .i64 (b : Int)) ∧ W.cell? ⟨gi, 3, none⟩ = some (.int .i64 (cc : Int))) (by kernel_rfl) ⟨z1, z2, z3⟩ (fun hS => ?_)
    refine wpAnyH_take (i := 0) (v := ?_) rfl (by kernel_rfl) (by kernel_rfl) (by kernel_rfl) (fun _ _ _ h => h) (Or.inl ⟨by rfl, ?_⟩) hS ?_
    rotate_left
    · intro W_ hSW_
      obtain ⟨z1_, z2_, z3_⟩ := hSW_
      go_simp
      try with_reducible rfl
    try simp only [Act.put, List.setIfInBounds_toArray, List.set_cons_zero, List.set_cons_succ]
    refine wpAnyH_take (i := 1) (v := ?_) rfl (by kernel_rfl) (by kernel_rfl) (by kernel_rfl) (fun _ _ _ h => h) (Or.inl ⟨by rfl, ?_⟩) hS ?_
    rotate_left
    · intro W_ hSW_
      obtain ⟨z1_, z2_, z3_⟩ := hSW_
      go_simp
      try with_reducible rfl
    try simp only [Act.put, List.setIfInBounds_toArray, List.set_cons_zero, List.set_cons_succ]
    refine wpAnyH_take (i := 2) (v := ?_) rfl (by kernel_rfl) (by kernel_rfl) (by kernel_rfl) (fun _ _ _ h => h) (Or.inl ⟨by rfl, ?_⟩) hS ?_
    rotate_left
    · intro W_ hSW_
      obtain ⟨z1_, z2_, z3_⟩ := hSW_
      go_simp
      try with_reducible rfl
    try simp only [Act.put, List.setIfInBounds_toArray, List.set_cons_zero, List.set_cons_succ]
    refine wpAnyH_take (i := 3) (v := ?_) rfl (by kernel_rfl) (by kernel_rfl) (by kernel_rfl) (fun _ _ _ h => h) (Or.inl ⟨by rfl, ?_⟩) hS ?_
    rotate_left
    · intro W_ hSW_
      obtain ⟨z1_, z2_, z3_⟩ := hSW_
      go_simp
      try with_reducible rfl
    try simp only [Act.put, List.setIfInBounds_toArray, List.set_cons_zero, List.set_cons_succ]
    refine wpAnyH_take (i := 4) (v := ?_) rfl (by kernel_rfl) (by kernel_rfl) (by kernel_rfl) (fun _ _ _ h => h) (Or.inl ⟨by rfl, ?_⟩) hS ?_
    rotate_left
    · intro W_ hSW_
      obtain ⟨z1_, z2_, z3_⟩ := hSW_
      go_simp
      try with_reducible rfl
    try simp only [Act.put, List.setIfInBounds_toArray, List.set_cons_zero, List.set_cons_succ]
    refine wpAnyH_take (i := 5) (v := ?_) rfl (by kernel_rfl) (by kernel_rfl) (by kernel_rfl) (fun _ _ _ h => h) (Or.inl ⟨by rfl, ?_⟩) hS ?_
    rotate_left
    · intro W_ hSW_
      obtain ⟨z1_, z2_, z3_⟩ := hSW_
      go_simp
      try with_reducible rfl
    try simp only [Act.put, List.setIfInBounds_toArray, List.set_cons_zero, List.set_cons_succ]
    refine wpAnyH_take (i := 6) (v := ?_) rfl (by kernel_rfl) (by kernel_rfl) (by kernel_rfl) (fun _ _ _ h => h) (Or.inl ⟨by rfl, ?_⟩) hS ?_
    rotate_left
    · intro W_ hSW_
      obtain ⟨z1_, z2_, z3_⟩ := hSW_
      go_simp
      try with_reducible rfl
    try simp only [Act.put, List.setIfInBounds_toArray, List.set_cons_zero, List.set_cons_succ]
    refine wpAnyH_take (i := 8) (v := ?_) rfl (by kernel_rfl) (by kernel_rfl) (by kernel_rfl) (fun _ _ _ h => h) (Or.inl ⟨by rfl, ?_⟩) hS ?_
    rotate_left
    · intro W_ hSW_
      obtain ⟨z1_, z2_, z3_⟩ := hSW_
      go_simp
      try with_reducible rfl
    try simp only [Act.put, List.setIfInBounds_toArray, List.set_cons_zero, List.set_cons_succ]
    refine wpAnyH_take (i := 9) (v := ?_) rfl (by kernel_rfl) (by kernel_rfl) (by kernel_rfl) (fun _ _ _ h => h) (Or.inl ⟨by rfl, ?_⟩) hS ?_
    rotate_left
    · intro W_ hSW_
      obtain ⟨z1_, z2_, z3_⟩ := hSW_
      go_simp
      try with_reducible rfl
    try simp only [Act.put, List.setIfInBounds_toArray, List.set_cons_zero, List.set_cons_succ]
    refine wpAnyH_take (i := 10) (v := ?_) rfl (by kernel_rfl) (by kernel_rfl) (by kernel_rfl) (fun _ _ _ h => h) (Or.inl ⟨by rfl, ?_⟩) hS ?_
    rotate_left
    · intro W_ hSW_
      obtain ⟨z1_, z2_, z3_⟩ := hSW_
      go_simp
      try with_reducible rfl
    try simp only [Act.put, List.setIfInBounds_toArray, List.set_cons_zero, List.set_cons_succ]
    refine wpAnyH_take (i := 11) (v := ?_) rfl (by kernel_rfl) (by kernel_rfl) (by kernel_rfl) (fun _ _ _ h => h) (Or.inl ⟨by rfl, ?_⟩) hS ?_
    rotate_left
    · intro W_ hSW_
      obtain ⟨z1_, z2_, z3_⟩ := hSW_
      go_simp
      try with_reducible rfl
    try simp only [Act.put, List.setIfInBounds_toArray, List.set_cons_zero, List.set_cons_succ]
    refine wpAnyH_take (i := 17) (v := ?_) rfl (by kernel_rfl) (by kernel_rfl) (by kernel_rfl) (fun _ _ _ h => h) (Or.inl ⟨by rfl, ?_⟩) hS ?_
    rotate_left
    · intro W_ hSW_
      obtain ⟨z1_, z2_, z3_⟩ := hSW_
      go_simp
      try with_reducible rfl
    try simp only [Act.put, List.setIfInBounds_toArray, List.set_cons_zero, List.set_cons_succ]
    refine wpAnyH_ready (rs := [7, 12]) (by kernel_rfl) (by simp) ?_
    refine AllReadyH.cons rfl (fun K_ hK_ => ?_) (AllReadyH.cons rfl (fun K_ hK_ => ?_) AllReadyH.nil)
    · go_simp
      refine hK_.out _ _ (hS) (fun hS_ => ?_)
      clear hK_ K_ hS
      have hS := hS_
      clear hS_
      try simp only [Act.put, List.setIfInBounds_toArray, List.set_cons_zero, List.set_cons_succ]
      refine wpAnyH_ready (rs := [12]) (by kernel_rfl) (by simp) ?_
      refine AllReadyH.cons rfl (fun K_ hK_ => ?_) AllReadyH.nil
      go_simp
      refine hK_.out _ _ (hS) (fun hS_ => ?_)
      clear hK_ K_ hS
      have hS := hS_
      clear hS_
      try simp only [Act.put, List.setIfInBounds_toArray, List.set_cons_zero, List.set_cons_succ]
      refine wpAnyH_ready (rs := [13]) (by kernel_rfl) (by simp) ?_
      refine AllReadyH.cons rfl (fun K_ hK_ => ?_) AllReadyH.nil
      go_simp
      refine (trickleref01_Binary.calls 4 (s.r b) (s.r cc) (binV 4 (s.r b) (s.r cc)) 0 _ (rbin_f (by unfold Bop; omega) HS3.out.2.1 HS3.out.2.2)).mono ?_
      rintro e w9 ⟨rfl, hd9⟩
      have H9 := Aside0.mk ((BusM.drew H8.out).step hd9.below)
      clear hd9
      have fa9 := blk_frozen H9.out.top (1 + a)
      have xa9 := cpu_r H9.out.top HT1.out (i := a) (by have := HAB.out.1; omega)
      have HN := Aside0.mk (BusM.put (u := .int .i16 (binV 4 (s.r b) (s.r cc))) (i := 1 + a) H9.out (cells_set (s := (s.to (s.pc + 1))) a (binV 4 (s.r b) (s.r cc))))
      have HOK := Aside0.mk (HT1.out.set a (show S16 (binV 4 (s.r b) (s.r cc)) from (s16_bin 4 HS3.out.2.1 HS3.out.2.2)))
      refine hK_.out _ _ (⟨blk_cell (BusM.up H9.out 2).top 1, blk_cell (BusM.up H9.out 2).top 2, blk_cell (BusM.up H9.out 2).top 3⟩) (fun hS_ => ?_)
      clear hK_ K_ hS
      have hS := hS_
      clear hS_
      try simp only [Act.put, List.setIfInBounds_toArray, List.set_cons_zero, List.set_cons_succ]
      refine wpAnyH_take (i := 14) (v := ?_) rfl (by kernel_rfl) (by kernel_rfl) (by kernel_rfl) (fun _ _ _ h => h) (Or.inl ⟨by rfl, ?_⟩) hS ?_
      rotate_left
      · intro W_ hSW_
        obtain ⟨z1_, z2_, z3_⟩ := hSW_
        go_simp
        try with_reducible rfl
      try simp only [Act.put, List.setIfInBounds_toArray, List.set_cons_zero, List.set_cons_succ]
      refine wpAnyH_take (i := 15) (v := ?_) rfl (by kernel_rfl) (by kernel_rfl) (by kernel_rfl) (fun _ _ _ h => h) (Or.inl ⟨by rfl, ?_⟩) hS ?_
      rotate_left
      · intro W_ hSW_
        obtain ⟨z1_, z2_, z3_⟩ := hSW_
        go_simp
        try with_reducible rfl
      try simp only [Act.put, List.setIfInBounds_toArray, List.set_cons_zero, List.set_cons_succ]
      refine wpAnyH_take (i := 16) (v := ?_) rfl (by kernel_rfl) (by kernel_rfl) (by kernel_rfl) (fun _ _ _ h => h) (Or.inl ⟨by rfl, ?_⟩) hS ?_
      rotate_left
      · intro W_ hSW_
        obtain ⟨z1_, z2_, z3_⟩ := hSW_
        go_simp
        try with_reducible rfl
      try simp only [Act.put, List.setIfInBounds_toArray, List.set_cons_zero, List.set_cons_succ]
      refine wpAnyH_take (i := 18) (v := ?_) rfl (by kernel_rfl) (by kernel_rfl) (by kernel_rfl) (fun _ _ _ h => h) (Or.inl ⟨by rfl, ?_⟩) hS ?_
      rotate_left
      · intro W_ hSW_
        obtain ⟨z1_, z2_, z3_⟩ := hSW_
        go_simp
        try with_reducible rfl
      try simp only [Act.put, List.setIfInBounds_toArray, List.set_cons_zero, List.set_cons_succ]
      refine wpAnyH_ready (rs := [19]) (by kernel_rfl) (by simp) ?_
      refine AllReadyH.cons rfl (fun K_ hK_ => ?_) AllReadyH.nil
      go_simp
      refine hK_.out _ _ (⟨blk_cell (BusM.up HN.out 2).top 1, blk_cell (BusM.up HN.out 2).top 2, blk_cell (BusM.up HN.out 2).top 3⟩) (fun hS_ => ?_)
      clear hK_ K_ hS
      have hS := hS_
      clear hS_
      try simp only [Act.put, List.setIfInBounds_toArray, List.set_cons_zero, List.set_cons_succ]
      refine wpAnyH_done (by kernel_rfl) ?_ _
      clear hS
      go_wp2_with (first
        | refine wpList_load26 rfl (.tmp 3) rfl g rfl HOK.out (BusM.top HN.out) ?_
        | refine wpList_store26 rfl (.tmp 6) (.tmp 305) rfl (g + 1 + 1) rfl rfl HOK.out Tryd.zeroCells26 zero26 (BusM.up HN.out 3).top ?_)
      have h9 := BusM.putRow (BusM.up HN.out 3) ((s.to (s.pc + 1)).set a (binV 4 (s.r b) (s.r cc))).cells
      refine bodyPost_ret (results_ct rfl _ _ (g + 1 + 1) 26 ((s.to (s.pc + 1)).set a (binV 4 (s.r b) (s.r cc))).cells (0, 0) _ rfl h9.top Tryd.underlying26 rfl (by rw [Cs.Ok.size HOK.out]; exact i26)) rfl ?_
      exact ⟨by rw [HF.out]; rfl, by rw [HF.out]; exact h9.drop.drop.drop.drop.drop⟩
    · go_simp
      refine hK_.out _ _ (hS) (fun hS_ => ?_)
      clear hK_ K_ hS
      have hS := hS_
      clear hS_
      try simp only [Act.put, List.setIfInBounds_toArray, List.set_cons_zero, List.set_cons_succ]
      refine wpAnyH_ready (rs := [7]) (by kernel_rfl) (by simp) ?_
      refine AllReadyH.cons rfl (fun K_ hK_ => ?_) AllReadyH.nil
      go_simp
      refine hK_.out _ _ (hS) (fun hS_ => ?_)
      clear hK_ K_ hS
      have hS := hS_
      clear hS_
      try simp only [Act.put, List.setIfInBounds_toArray, List.set_cons_zero, List.set_cons_succ]
      refine wpAnyH_ready (rs := [13]) (by kernel_rfl) (by simp) ?_
      refine AllReadyH.cons rfl (fun K_ hK_ => ?_) AllReadyH.nil
      go_simp
      refine (trickleref01_Binary.calls 4 (s.r b) (s.r cc) (binV 4 (s.r b) (s.r cc)) 0 _ (rbin_f (by unfold Bop; omega) HS3.out.2.1 HS3.out.2.2)).mono ?_
      rintro e w9 ⟨rfl, hd9⟩
      have H9 := Aside0.mk ((BusM.drew H8.out).step hd9.below)
      clear hd9
      have fa9 := blk_frozen H9.out.top (1 + a)
      have xa9 := cpu_r H9.out.top HT1.out (i := a) (by have := HAB.out.1; omega)
      have HN := Aside0.mk (BusM.put (u := .int .i16 (binV 4 (s.r b) (s.r cc))) (i := 1 + a) H9.out (cells_set (s := (s.to (s.pc + 1))) a (binV 4 (s.r b) (s.r cc))))
      have HOK := Aside0.mk (HT1.out.set a (show S16 (binV 4 (s.r b) (s.r cc)) from (s16_bin 4 HS3.out.2.1 HS3.out.2.2)))
      refine hK_.out _ _ (⟨blk_cell (BusM.up H9.out 2).top 1, blk_cell (BusM.up H9.out 2).top 2, blk_cell (BusM.up H9.out 2).top 3⟩) (fun hS_ => ?_)
      clear hK_ K_ hS
      have hS := hS_
      clear hS_
      try simp only [Act.put, List.setIfInBounds_toArray, List.set_cons_zero, List.set_cons_succ]
      refine wpAnyH_take (i := 14) (v := ?_) rfl (by kernel_rfl) (by kernel_rfl) (by kernel_rfl) (fun _ _ _ h => h) (Or.inl ⟨by rfl, ?_⟩) hS ?_
      rotate_left
      · intro W_ hSW_
        obtain ⟨z1_, z2_, z3_⟩ := hSW_
        go_simp
        try with_reducible rfl
      try simp only [Act.put, List.setIfInBounds_toArray, List.set_cons_zero, List.set_cons_succ]
      refine wpAnyH_take (i := 15) (v := ?_) rfl (by kernel_rfl) (by kernel_rfl) (by kernel_rfl) (fun _ _ _ h => h) (Or.inl ⟨by rfl, ?_⟩) hS ?_
      rotate_left
      · intro W_ hSW_
        obtain ⟨z1_, z2_, z3_⟩ := hSW_
        go_simp
        try with_reducible rfl
      try simp only [Act.put, List.setIfInBounds_toArray, List.set_cons_zero, List.set_cons_succ]
      refine wpAnyH_take (i := 16) (v := ?_) rfl (by kernel_rfl) (by kernel_rfl) (by kernel_rfl) (fun _ _ _ h => h) (Or.inl ⟨by rfl, ?_⟩) hS ?_
      rotate_left
      · intro W_ hSW_
        obtain ⟨z1_, z2_, z3_⟩ := hSW_
        go_simp
        try with_reducible rfl
      try simp only [Act.put, List.setIfInBounds_toArray, List.set_cons_zero, List.set_cons_succ]
      refine wpAnyH_take (i := 18) (v := ?_) rfl (by kernel_rfl) (by kernel_rfl) (by kernel_rfl) (fun _ _ _ h => h) (Or.inl ⟨by rfl, ?_⟩) hS ?_
      rotate_left
      · intro W_ hSW_
        obtain ⟨z1_, z2_, z3_⟩ := hSW_
        go_simp
        try with_reducible rfl
      try simp only [Act.put, List.setIfInBounds_toArray, List.set_cons_zero, List.set_cons_succ]
      refine wpAnyH_ready (rs := [19]) (by kernel_rfl) (by simp) ?_
      refine AllReadyH.cons rfl (fun K_ hK_ => ?_) AllReadyH.nil
      go_simp
      refine hK_.out _ _ (⟨blk_cell (BusM.up HN.out 2).top 1, blk_cell (BusM.up HN.out 2).top 2, blk_cell (BusM.up HN.out 2).top 3⟩) (fun hS_ => ?_)
      clear hK_ K_ hS
      have hS := hS_
      clear hS_
      try simp only [Act.put, List.setIfInBounds_toArray, List.set_cons_zero, List.set_cons_succ]
      refine wpAnyH_done (by kernel_rfl) ?_ _
      clear hS
      go_wp2_with (first
        | refine wpList_load26 rfl (.tmp 3) rfl g rfl HOK.out (BusM.top HN.out) ?_
        | refine wpList_store26 rfl (.tmp 6) (.tmp 305) rfl (g + 1 + 1) rfl rfl HOK.out Tryd.zeroCells26 zero26 (BusM.up HN.out 3).top ?_)
      have h9 := BusM.putRow (BusM.up HN.out 3) ((s.to (s.pc + 1)).set a (binV 4 (s.r b) (s.r cc))).cells
      refine bodyPost_ret (results_ct rfl _ _ (g + 1 + 1) 26 ((s.to (s.pc + 1)).set a (binV 4 (s.r b) (s.r cc))).cells (0, 0) _ rfl h9.top Tryd.underlying26 rfl (by rw [Cs.Ok.size HOK.out]; exact i26)) rfl ?_
      exact ⟨by rw [HF.out]; rfl, by rw [HF.out]; exact h9.drop.drop.drop.drop.drop⟩
  by_cases e8 : op = 8
  · subst e8
    have HF := Aside0.mk (show stepC x s B = ((s.to (s.pc + 1)).set a (binV 5 (s.r b) (s.r cc)), B1, 1) by rw [HEX.out]; unfold exeC; simp [accC, cmpC, advC, adrC, bstore, Cs.to, Cs.set])
    go_wp2_with fail
    refine (trickleref12_binary.calls 8 5 _ rfl).mono ?_
    rintro e w8 ⟨rfl, hd8⟩
    have H8 := Aside0.mk (BusM.step (show BusM w0 w7 gw B1 _ from H7.out) hd8.below)
    have z1 := blk_cell (BusM.up H8.out 2).top 1
    have z2 := blk_cell (BusM.up H8.out 2).top 2
    have z3 := blk_cell (BusM.up H8.out 2).top 3
    have xb8 : w8.cell? ⟨g, 1 + b, none⟩ = some (.int .i16 (s.r b)) := cpu_r (BusM.top H8.out) HT1.out (by have := HAB.out.2.1; omega)
    have xc8 : w8.cell? ⟨g, 1 + cc, none⟩ = some (.int .i16 (s.r cc)) := cpu_r (BusM.top H8.out) HT1.out (by have := HAB.out.2.2; omega)
    clear hd8 y0 y1 y2 y3 y4 xa xb xc f0 fa x0
    go_wp2_with fail
    refine wp_region_held_drew (S := fun W => W.cell? ⟨gi, 1, none⟩ = some (.int .i64 (a : Int)) ∧ W.cell? ⟨gi, 2, none⟩ = some (.int .i64 (b : Int)) ∧ W.cell? ⟨gi, 3, none⟩ = some (.int .i64 (cc : Int))) (by kernel_rfl) ⟨z1, z2, z3⟩ (fun hS => ?_)
    refine wpAnyH_take (i := 0) (v := ?_) rfl (by kernel_rfl) (by kernel_rfl) (by kernel_rfl) (fun _ _ _ h => h) (Or.inl ⟨by rfl, ?_⟩) hS ?_
    rotate_left
    · intro W_ hSW_
      obtain ⟨z1_, z2_, z3_⟩ := hSW_
      go_simp
      try with_reducible rfl
    try simp only [Act.put, List.setIfInBounds_toArray, List.set_cons_zero, List.set_cons_succ]
    refine wpAnyH_take (i := 1) (v := ?_) rfl (by kernel_rfl) (by kernel_rfl) (by kernel_rfl) (fun _ _ _ h => h) (Or.inl ⟨by rfl, ?_⟩) hS ?_
    rotate_left
    · intro W_ hSW_
      obtain ⟨z1_, z2_, z3_⟩ := hSW_
      go_simp
      try with_reducible rfl
    try simp only [Act.put, List.setIfInBounds_toArray, List.set_cons_zero, List.set_cons_succ]
    refine wpAnyH_take (i := 2) (v := ?_) rfl (by kernel_rfl) (by kernel_rfl) (by kernel_rfl) (fun _ _ _ h => h) (Or.inl ⟨by rfl, ?_⟩) hS ?_
    rotate_left
    · intro W_ hSW_
      obtain ⟨z1_, z2_, z3_⟩ := hSW_
      go_simp
      try with_reducible rfl
    try simp only [Act.put, List.setIfInBounds_toArray, List.set_cons_zero, List.set_cons_succ]
    refine wpAnyH_take (i := 3) (v := ?_) rfl (by kernel_rfl) (by kernel_rfl) (by kernel_rfl) (fun _ _ _ h => h) (Or.inl ⟨by rfl, ?_⟩) hS ?_
    rotate_left
    · intro W_ hSW_
      obtain ⟨z1_, z2_, z3_⟩ := hSW_
      go_simp
      try with_reducible rfl
    try simp only [Act.put, List.setIfInBounds_toArray, List.set_cons_zero, List.set_cons_succ]
    refine wpAnyH_take (i := 4) (v := ?_) rfl (by kernel_rfl) (by kernel_rfl) (by kernel_rfl) (fun _ _ _ h => h) (Or.inl ⟨by rfl, ?_⟩) hS ?_
    rotate_left
    · intro W_ hSW_
      obtain ⟨z1_, z2_, z3_⟩ := hSW_
      go_simp
      try with_reducible rfl
    try simp only [Act.put, List.setIfInBounds_toArray, List.set_cons_zero, List.set_cons_succ]
    refine wpAnyH_take (i := 5) (v := ?_) rfl (by kernel_rfl) (by kernel_rfl) (by kernel_rfl) (fun _ _ _ h => h) (Or.inl ⟨by rfl, ?_⟩) hS ?_
    rotate_left
    · intro W_ hSW_
      obtain ⟨z1_, z2_, z3_⟩ := hSW_
      go_simp
      try with_reducible rfl
    try simp only [Act.put, List.setIfInBounds_toArray, List.set_cons_zero, List.set_cons_succ]
    refine wpAnyH_take (i := 6) (v := ?_) rfl (by kernel_rfl) (by kernel_rfl) (by kernel_rfl) (fun _ _ _ h => h) (Or.inl ⟨by rfl, ?_⟩) hS ?_
    rotate_left
    · intro W_ hSW_
      obtain ⟨z1_, z2_, z3_⟩ := hSW_
      go_simp
      try with_reducible rfl
    try simp only [Act.put, List.setIfInBounds_toArray, List.set_cons_zero, List.set_cons_succ]
    refine wpAnyH_take (i := 8) (v := ?_) rfl (by kernel_rfl) (by kernel_rfl) (by kernel_rfl) (fun _ _ _ h => h) (Or.inl ⟨by rfl, ?_⟩) hS ?_
    rotate_left
    · intro W_ hSW_
      obtain ⟨z1_, z2_, z3_⟩ := hSW_
      go_simp
      try with_reducible rfl
    try simp only [Act.put, List.setIfInBounds_toArray, List.set_cons_zero, List.set_cons_succ]
    refine wpAnyH_take (i := 9) (v := ?_) rfl (by kernel_rfl) (by kernel_rfl) (by kernel_rfl) (fun _ _ _ h => h) (Or.inl ⟨by rfl, ?_⟩) hS ?_
    rotate_left
    · intro W_ hSW_
      obtain ⟨z1_, z2_, z3_⟩ := hSW_
      go_simp
      try with_reducible rfl
    try simp only [Act.put, List.setIfInBounds_toArray, List.set_cons_zero, List.set_cons_succ]
    refine wpAnyH_take (i := 10) (v := ?_) rfl (by kernel_rfl) (by kernel_rfl) (by kernel_rfl) (fun _ _ _ h => h) (Or.inl ⟨by rfl, ?_⟩) hS ?_
    rotate_left
    · intro W_ hSW_
      obtain ⟨z1_, z2_, z3_⟩ := hSW_
      go_simp
      try with_reducible rfl
    try simp only [Act.put, List.setIfInBounds_toArray, List.set_cons_zero, List.set_cons_succ]
    refine wpAnyH_take (i := 11) (v := ?_) rfl (by kernel_rfl) (by kernel_rfl) (by kernel_rfl) (fun _ _ _ h => h) (Or.inl ⟨by rfl, ?_⟩) hS ?_
    rotate_left
    · intro W_ hSW_
      obtain ⟨z1_, z2_, z3_⟩ := hSW_
      go_simp
      try with_reducible rfl
    try simp only [Act.put, List.setIfInBounds_toArray, List.set_cons_zero, List.set_cons_succ]
    refine wpAnyH_take (i := 17) (v := ?_) rfl (by kernel_rfl) (by kernel_rfl) (by kernel_rfl) (fun _ _ _ h => h) (Or.inl ⟨by rfl, ?_⟩) hS ?_
    rotate_left
    · intro W_ hSW_
      obtain ⟨z1_, z2_, z3_⟩ := hSW_
      go_simp
      try with_reducible rfl
    try simp only [Act.put, List.setIfInBounds_toArray, List.set_cons_zero, List.set_cons_succ]
    refine wpAnyH_ready (rs := [7, 12]) (by kernel_rfl) (by simp) ?_
    refine AllReadyH.cons rfl (fun K_ hK_ => ?_) (AllReadyH.cons rfl (fun K_ hK_ => ?_) AllReadyH.nil)
    · go_simp
      refine hK_.out _ _ (hS) (fun hS_ => ?_)
      clear hK_ K_ hS
      have hS := hS_
      clear hS_
      try simp only [Act.put, List.setIfInBounds_toArray, List.set_cons_zero, List.set_cons_succ]
      refine wpAnyH_ready (rs := [12]) (by kernel_rfl) (by simp) ?_
      refine AllReadyH.cons rfl (fun K_ hK_ => ?_) AllReadyH.nil
      go_simp
      refine hK_.out _ _ (hS) (fun hS_ => ?_)
      clear hK_ K_ hS
      have hS := hS_
      clear hS_
      try simp only [Act.put, List.setIfInBounds_toArray, List.set_cons_zero, List.set_cons_succ]
      refine wpAnyH_ready (rs := [13]) (by kernel_rfl) (by simp) ?_
      refine AllReadyH.cons rfl (fun K_ hK_ => ?_) AllReadyH.nil
      go_simp
      refine (trickleref01_Binary.calls 5 (s.r b) (s.r cc) (binV 5 (s.r b) (s.r cc)) 0 _ (rbin_f (by unfold Bop; omega) HS3.out.2.1 HS3.out.2.2)).mono ?_
      rintro e w9 ⟨rfl, hd9⟩
      have H9 := Aside0.mk ((BusM.drew H8.out).step hd9.below)
      clear hd9
      have fa9 := blk_frozen H9.out.top (1 + a)
      have xa9 := cpu_r H9.out.top HT1.out (i := a) (by have := HAB.out.1; omega)
      have HN := Aside0.mk (BusM.put (u := .int .i16 (binV 5 (s.r b) (s.r cc))) (i := 1 + a) H9.out (cells_set (s := (s.to (s.pc + 1))) a (binV 5 (s.r b) (s.r cc))))
      have HOK := Aside0.mk (HT1.out.set a (show S16 (binV 5 (s.r b) (s.r cc)) from (s16_bin 5 HS3.out.2.1 HS3.out.2.2)))
      refine hK_.out _ _ (⟨blk_cell (BusM.up H9.out 2).top 1, blk_cell (BusM.up H9.out 2).top 2, blk_cell (BusM.up H9.out 2).top 3⟩) (fun hS_ => ?_)
      clear hK_ K_ hS
      have hS := hS_
      clear hS_
      try simp only [Act.put, List.setIfInBounds_toArray, List.set_cons_zero, List.set_cons_succ]
      refine wpAnyH_take (i := 14) (v := ?_) rfl (by kernel_rfl) (by kernel_rfl) (by kernel_rfl) (fun _ _ _ h => h) (Or.inl ⟨by rfl, ?_⟩) hS ?_
      rotate_left
      · intro W_ hSW_
        obtain ⟨z1_, z2_, z3_⟩ := hSW_
        go_simp
        try with_reducible rfl
      try simp only [Act.put, List.setIfInBounds_toArray, List.set_cons_zero, List.set_cons_succ]
      refine wpAnyH_take (i := 15) (v := ?_) rfl (by kernel_rfl) (by kernel_rfl) (by kernel_rfl) (fun _ _ _ h => h) (Or.inl ⟨by rfl, ?_⟩) hS ?_
      rotate_left
      · intro W_ hSW_
        obtain ⟨z1_, z2_, z3_⟩ := hSW_
        go_simp
        try with_reducible rfl
      try simp only [Act.put, List.setIfInBounds_toArray, List.set_cons_zero, List.set_cons_succ]
      refine wpAnyH_take (i := 16) (v := ?_) rfl (by kernel_rfl) (by kernel_rfl) (by kernel_rfl) (fun _ _ _ h => h) (Or.inl ⟨by rfl, ?_⟩) hS ?_
      rotate_left
      · intro W_ hSW_
        obtain ⟨z1_, z2_, z3_⟩ := hSW_
        go_simp
        try with_reducible rfl
      try simp only [Act.put, List.setIfInBounds_toArray, List.set_cons_zero, List.set_cons_succ]
      refine wpAnyH_take (i := 18) (v := ?_) rfl (by kernel_rfl) (by kernel_rfl) (by kernel_rfl) (fun _ _ _ h => h) (Or.inl ⟨by rfl, ?_⟩) hS ?_
      rotate_left
      · intro W_ hSW_
        obtain ⟨z1_, z2_, z3_⟩ := hSW_
        go_simp
        try with_reducible rfl
      try simp only [Act.put, List.setIfInBounds_toArray, List.set_cons_zero, List.set_cons_succ]
      refine wpAnyH_ready (rs := [19]) (by kernel_rfl) (by simp) ?_
      refine AllReadyH.cons rfl (fun K_ hK_ => ?_) AllReadyH.nil
      go_simp
      refine hK_.out _ _ (⟨blk_cell (BusM.up HN.out 2).top 1, blk_cell (BusM.up HN.out 2).top 2, blk_cell (BusM.up HN.out 2).top 3⟩) (fun hS_ => ?_)
      clear hK_ K_ hS
      have hS := hS_
      clear hS_
      try simp only [Act.put, List.setIfInBounds_toArray, List.set_cons_zero, List.set_cons_succ]
      refine wpAnyH_done (by kernel_rfl) ?_ _
      clear hS
      go_wp2_with (first
        | refine wpList_load26 rfl (.tmp 3) rfl g rfl HOK.out (BusM.top HN.out) ?_
        | refine wpList_store26 rfl (.tmp 6) (.tmp 305) rfl (g + 1 + 1) rfl rfl HOK.out Tryd.zeroCells26 zero26 (BusM.up HN.out 3).top ?_)
      have h9 := BusM.putRow (BusM.up HN.out 3) ((s.to (s.pc + 1)).set a (binV 5 (s.r b) (s.r cc))).cells
      refine bodyPost_ret (results_ct rfl _ _ (g + 1 + 1) 26 ((s.to (s.pc + 1)).set a (binV 5 (s.r b) (s.r cc))).cells (0, 0) _ rfl h9.top Tryd.underlying26 rfl (by rw [Cs.Ok.size HOK.out]; exact i26)) rfl ?_
      exact ⟨by rw [HF.out]; rfl, by rw [HF.out]; exact h9.drop.drop.drop.drop.drop⟩
    · go_simp
      refine hK_.out _ _ (hS) (fun hS_ => ?_)
      clear hK_ K_ hS
      have hS := hS_
      clear hS_
      try simp only [Act.put, List.setIfInBounds_toArray, List.set_cons_zero, List.set_cons_succ]
      refine wpAnyH_ready (rs := [7]) (by kernel_rfl) (by simp) ?_
      refine AllReadyH.cons rfl (fun K_ hK_ => ?_) AllReadyH.nil
      go_simp
      refine hK_.out _ _ (hS) (fun hS_ => ?_)
      clear hK_ K_ hS
      have hS := hS_
      clear hS_
      try simp only [Act.put, List.setIfInBounds_toArray, List.set_cons_zero, List.set_cons_succ]
      refine wpAnyH_ready (rs := [13]) (by kernel_rfl) (by simp) ?_
      refine AllReadyH.cons rfl (fun K_ hK_ => ?_) AllReadyH.nil
      go_simp
      refine (trickleref01_Binary.calls 5 (s.r b) (s.r cc) (binV 5 (s.r b) (s.r cc)) 0 _ (rbin_f (by unfold Bop; omega) HS3.out.2.1 HS3.out.2.2)).mono ?_
      rintro e w9 ⟨rfl, hd9⟩
      have H9 := Aside0.mk ((BusM.drew H8.out).step hd9.below)
      clear hd9
      have fa9 := blk_frozen H9.out.top (1 + a)
      have xa9 := cpu_r H9.out.top HT1.out (i := a) (by have := HAB.out.1; omega)
      have HN := Aside0.mk (BusM.put (u := .int .i16 (binV 5 (s.r b) (s.r cc))) (i := 1 + a) H9.out (cells_set (s := (s.to (s.pc + 1))) a (binV 5 (s.r b) (s.r cc))))
      have HOK := Aside0.mk (HT1.out.set a (show S16 (binV 5 (s.r b) (s.r cc)) from (s16_bin 5 HS3.out.2.1 HS3.out.2.2)))
      refine hK_.out _ _ (⟨blk_cell (BusM.up H9.out 2).top 1, blk_cell (BusM.up H9.out 2).top 2, blk_cell (BusM.up H9.out 2).top 3⟩) (fun hS_ => ?_)
      clear hK_ K_ hS
      have hS := hS_
      clear hS_
      try simp only [Act.put, List.setIfInBounds_toArray, List.set_cons_zero, List.set_cons_succ]
      refine wpAnyH_take (i := 14) (v := ?_) rfl (by kernel_rfl) (by kernel_rfl) (by kernel_rfl) (fun _ _ _ h => h) (Or.inl ⟨by rfl, ?_⟩) hS ?_
      rotate_left
      · intro W_ hSW_
        obtain ⟨z1_, z2_, z3_⟩ := hSW_
        go_simp
        try with_reducible rfl
      try simp only [Act.put, List.setIfInBounds_toArray, List.set_cons_zero, List.set_cons_succ]
      refine wpAnyH_take (i := 15) (v := ?_) rfl (by kernel_rfl) (by kernel_rfl) (by kernel_rfl) (fun _ _ _ h => h) (Or.inl ⟨by rfl, ?_⟩) hS ?_
      rotate_left
      · intro W_ hSW_
        obtain ⟨z1_, z2_, z3_⟩ := hSW_
        go_simp
        try with_reducible rfl
      try simp only [Act.put, List.setIfInBounds_toArray, List.set_cons_zero, List.set_cons_succ]
      refine wpAnyH_take (i := 16) (v := ?_) rfl (by kernel_rfl) (by kernel_rfl) (by kernel_rfl) (fun _ _ _ h => h) (Or.inl ⟨by rfl, ?_⟩) hS ?_
      rotate_left
      · intro W_ hSW_
        obtain ⟨z1_, z2_, z3_⟩ := hSW_
        go_simp
        try with_reducible rfl
      try simp only [Act.put, List.setIfInBounds_toArray, List.set_cons_zero, List.set_cons_succ]
      refine wpAnyH_take (i := 18) (v := ?_) rfl (by kernel_rfl) (by kernel_rfl) (by kernel_rfl) (fun _ _ _ h => h) (Or.inl ⟨by rfl, ?_⟩) hS ?_
      rotate_left
      · intro W_ hSW_
        obtain ⟨z1_, z2_, z3_⟩ := hSW_
        go_simp
        try with_reducible rfl
      try simp only [Act.put, List.setIfInBounds_toArray, List.set_cons_zero, List.set_cons_succ]
      refine wpAnyH_ready (rs := [19]) (by kernel_rfl) (by simp) ?_
      refine AllReadyH.cons rfl (fun K_ hK_ => ?_) AllReadyH.nil
      go_simp
      refine hK_.out _ _ (⟨blk_cell (BusM.up HN.out 2).top 1, blk_cell (BusM.up HN.out 2).top 2, blk_cell (BusM.up HN.out 2).top 3⟩) (fun hS_ => ?_)
      clear hK_ K_ hS
      have hS := hS_
      clear hS_
      try simp only [Act.put, List.setIfInBounds_toArray, List.set_cons_zero, List.set_cons_succ]
      refine wpAnyH_done (by kernel_rfl) ?_ _
      clear hS
      go_wp2_with (first
        | refine wpList_load26 rfl (.tmp 3) rfl g rfl HOK.out (BusM.top HN.out) ?_
        | refine wpList_store26 rfl (.tmp 6) (.tmp 305) rfl (g + 1 + 1) rfl rfl HOK.out Tryd.zeroCells26 zero26 (BusM.up HN.out 3).top ?_)
      have h9 := BusM.putRow (BusM.up HN.out 3) ((s.to (s.pc + 1)).set a (binV 5 (s.r b) (s.r cc))).cells
      refine bodyPost_ret (results_ct rfl _ _ (g + 1 + 1) 26 ((s.to (s.pc + 1)).set a (binV 5 (s.r b) (s.r cc))).cells (0, 0) _ rfl h9.top Tryd.underlying26 rfl (by rw [Cs.Ok.size HOK.out]; exact i26)) rfl ?_
      exact ⟨by rw [HF.out]; rfl, by rw [HF.out]; exact h9.drop.drop.drop.drop.drop⟩
  exfalso
  have := HPT.out
  omega
end Go.Proofs.YtleafbihfmiidaaDoor.QAl
