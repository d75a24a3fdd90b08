/- What this claim needs of Spl. Parted by prune.py. -/
import Derived.Test.YtleafbihfmiidaaDoorZ7Tw
import Derived.Test.YtleafbihfmiidaaDoorZ7Spp
namespace Go.Proofs.YtleafbihfmiidaaDoor.QAl
open Go.RowKit Go.Proofs.YtleafbihfmiidaaDoorW.PrintWords Go.Proofs.YtleafbihfmiidaaDoorW.PrintLast Go.Proofs.YtleafbihfmiidaaDoorW.PrintMore Go.Proofs.YtleafbihfmiidaaDoor.Sl
set_option linter.unusedVariables false
set_option linter.unusedSimpArgs false
section
variable {ops : Array Oper} {op : Oper} {a : Act} {s : Cs} {t : Nat}
theorem wp_load32 {w : World} {K : Act → World → Prop} {Q : Exit → Act → World → Prop} (x : Operand) (ho : op.op = .load 32 x) (g : Nat) (hx : a.eval x = .pointer (some ⟨g, 0, none⟩)) (ok : s.Ok) (hg : w.heap[g]? = some (.cells s.cells t (0, 0)))
    (h : K (a.put op.dst (.agg s.cells)) w) : op.wp Tryd.prog a w K Q :=
  wp_load_mid 32 x ho g 0 hx (.int .i64 s.pc :: s.m.map (Value.int .i16)) _ (range_all hg) Tryd.underlying32 rfl (by rw [List.length_cons, List.length_map, ok.len]; exact i32) h
end
set_option maxRecDepth 100000 in
set_option maxHeartbeats 16000000 in
theorem Splits_row (s : Cs) (ok : s.Ok) (p : XP) (x : Img) (hxi : ∀ c ∈ x.codes, S16 c.f4) (n m : Nat) (hn : n ≤ 255) (hm : m ≤ 255) (B0 B1 B3 : Option Addr) (n0 n1 n3 d0 d1 d3 : Nat) (fl : Int) (ws rs : List Int) (cs : List S100) (W : World)
    (hr0 : Kd.C (Kd.int .i16) W B0 n0 ws) (hr1 : Kd.C (Kd.int .i16) W B1 n1 rs) (hr3 : Kd.C k100 W B3 n3 cs) (hw : ws.length = n0) (hrl : rs.length = n1) (hcl : cs.length = n3) (hws : ∀ v ∈ ws, S16 v) (hrs : ∀ v ∈ rs, S16 v) (hXR : XR p x W) (hG : GT W) :
    Calls Tryd.prog 7 #[.agg (p.arr x), .agg (caseA s [.slice B0 n0 d0, .slice B1 n1 d1, .int .i64 fl, .slice B3 n3 d3]), .agg #[.int .u8 (n : Int), .int .u8 (m : Int)]] W fun e W' => e = .returned (.bool true) ∧ Below W.heap.size W W' := by
  obtain ⟨g, hg⟩ : ∃ g, W.heap.size = g := ⟨_, rfl⟩
  obtain ⟨CA, hCA⟩ : ∃ CA, caseA s [.slice B0 n0 d0, .slice B1 n1 d1, .int .i64 fl, .slice B3 n3 d3] = CA := ⟨_, rfl⟩
  have HCA := Aside0.mk hCA
  rw [hCA]
  have h0 := (Mem.start W).new_ (.cells (p.arr x) 47) hg
  have h1 := h0.new_ (g := g + 1) (.cells CA 52) (by simp [hg])
  have h2 := h1.new_ (g := g + 1 + 1) (.cells #[.int .u8 (n : Int), .int .u8 (m : Int)] 67) (by simp [hg])
  have HAW := Aside0.mk (awake_call h2 hG)
  have HO := Aside0.mk ok
  have HXR := Aside0.mk hXR
  have HG := Aside0.mk hG
  have HXI := Aside0.mk hxi
  have R0 := Aside0.mk (And.intro hr0 hw)
  have R1 := Aside0.mk (And.intro hr1 hrl)
  have R3 := Aside0.mk (And.intro hr3 hcl)
  have HWS := Aside0.mk hws
  have HRS := Aside0.mk hrs
  have HNM := Aside0.mk (And.intro hn hm)
  clear h0 h1 h2 hr0 hr1 hr3 hw hrl hcl hws hrs hXR hG hxi ok hCA hn hm
  go_enter Tryd.func7, Tryd.ntmps7
  go_wp2_with fail
  refine HAW.out.mono ?_
  rintro e w2 ⟨rfl, h2⟩
  have H2 := Aside0.mk h2
  have hx2 := (h2.up 2).get
  have y0 := blk_cell hx2 0
  have y1 := blk_cell hx2 1
  have y2 := blk_cell hx2 2
  have y3 := blk_cell hx2 3
  have y4 := blk_cell hx2 4
  have y5 := blk_cell hx2 5
  have y6 := blk_cell hx2 6
  have y7 := blk_cell hx2 7
  have y8 := blk_cell hx2 8
  have y9 := blk_cell hx2 9
  have y10 := blk_cell hx2 10
  have y11 := blk_cell hx2 11
  clear h2 hx2
  have HC2 := Aside0.mk (show w2.heap[g + 1]? = some (.cells (caseA s [.slice B0 n0 d0, .slice B1 n1 d1, .int .i64 fl, .slice B3 n3 d3]) 52 (0, 0)) by rw [HCA.out]; exact (H2.out.up 1).get)
  go_wp2_with (refine wpList_case1 rfl (.tmp 20) rfl (g + 1) rfl HO.out rfl HC2.out ?_)
  refine (Small_call H2.out p x B0 B1 B3 n0 n1 n3 d0 d1 d3 fl).mono ?_
  rintro e w3 ⟨rfl, h3⟩
  clear y0 y1 y2 y3 y4 y5 y6 y7 y8 y9 y10 y11
  have H3 := Aside0.mk h3
  clear h3
  cases hsm : smallB x.codes.length x.globals.length x.addr.length x.chans n0 n1 n3 with
  | false =>
    go_wp2_with fail
    go_ret
    exact ⟨rfl, by first | exact H3.out.below | (rw [← hg]; exact H3.out.below)⟩
  | true =>
  have HSM : Aside0 (x.codes.length ≤ 60 ∧ n0 ≤ 600 ∧ n1 ≤ 60 ∧ n3 = 0) := ⟨by
    unfold smallB at hsm
    simp only [Bool.and_eq_true, decide_eq_true_eq] at hsm
    omega⟩
  have HXO := Aside0.mk (Img.Ok.mk HXI.out (by have := HSM.out.1; omega))
  have HBO := Aside0.mk (show Bs.Ok ⟨ws, rs, fl, cs⟩ from ⟨HWS.out, HRS.out⟩)
  have HB0 : Aside0 (∀ B : Bs, B = Bs.mk ws rs fl cs → B.calls.length = 0 ∧ B.words.length ≤ 600 ∧ B.reads.length ≤ 60) := ⟨by
    rintro B rfl
    refine ⟨?_, ?_, ?_⟩
    · show cs.length = 0; rw [R3.out.2]; exact HSM.out.2.2.2
    · show ws.length ≤ 600; rw [R0.out.2]; exact HSM.out.2.1
    · show rs.length ≤ 60; rw [R1.out.2]; exact HSM.out.2.2.1⟩
  have HFIN := Aside0.mk (fun (W' : World) (h : Below W.heap.size W W') => h)
  clear hsm
  go_wp2_with fail
  have H3D := Aside0.mk H3.out.drew
  obtain ⟨gz0, hz0⟩ : ∃ q, w3.heap.size = q := ⟨_, rfl⟩
  refine' share15 (R := fun ga gb w _ _ _ _ _ _ _ _ _ _ _ _ => Two W w ga ⟨ws, rs, fl, cs⟩ gb ⟨ws, rs, fl, cs⟩ (ob (g + 1 + 1) (.cells #[.int .u8 (n : Int), .int .u8 (m : Int)] 67) :: ob (g + 1) (.cells CA 52) :: ob g (.cells (p.arr x) 47) :: [])) (fun KEY => ?_) ?_
  rotate_left
  · refine wp_region_held_drew (S := fun w => w.heap[g + 1]? = some (.cells (caseA s [.slice B0 n0 d0, .slice B1 n1 d1, .int .i64 fl, .slice B3 n3 d3]) 52 (0, 0))) (by kernel_rfl) (by rw [HCA.out]; exact (H3D.out.up 1).get) (fun hS => ?_)
    refine wpAnyH_take (i := 0) (oi := { dst := some 24, op := Op.fieldAddr 52 (Operand.tmp 4) 1, type := 0, pos := "law.go:70", after := #[], guard := none }) (v := ?_) rfl (by kernel_rfl) (by kernel_rfl) (by kernel_rfl) (fun _ _ _ h => h) (Or.inl ⟨by rfl, ?_⟩) hS ?_
    rotate_left
    · intro W_ hSW_
      go_simp
      try with_reducible rfl
    try simp only [Act.put, List.setIfInBounds_toArray, List.set_cons_zero, List.set_cons_succ]
    refine wpAnyH_take (i := 1) (oi := { dst := some 25, op := Op.load 50 (Operand.tmp 24), type := 50, pos := "law.go:70", after := #[{ on := 0, ground := Ground.data }], guard := none }) (v := .agg #[.slice B0 n0 d0, .slice B1 n1 d1, .int .i64 fl, .slice B3 n3 d3]) rfl (by kernel_rfl) (by kernel_rfl) (by kernel_rfl) (fun _ _ _ h => h) (yields_case1 (l := [.slice B0 n0 d0, .slice B1 n1 d1, .int .i64 fl, .slice B3 n3 d3]) (by rfl) _ rfl _ rfl HO.out rfl (fun W_ hSW_ => hSW_)) hS ?_
    try simp only [Act.put, List.setIfInBounds_toArray, List.set_cons_zero, List.set_cons_succ]
    refine wpAnyH_take (i := 3) (oi := { dst := some 27, op := Op.fieldAddr 52 (Operand.tmp 4) 1, type := 0, pos := "law.go:70", after := #[], guard := none }) (v := ?_) rfl (by kernel_rfl) (by kernel_rfl) (by kernel_rfl) (fun _ _ _ h => h) (Or.inl ⟨by rfl, ?_⟩) hS ?_
    rotate_left
    · intro W_ hSW_
      go_simp
      try with_reducible rfl
    try simp only [Act.put, List.setIfInBounds_toArray, List.set_cons_zero, List.set_cons_succ]
    refine wpAnyH_take (i := 4) (oi := { dst := some 28, op := Op.load 50 (Operand.tmp 27), type := 50, pos := "law.go:70", after := #[{ on := 3, ground := Ground.data }], guard := none }) (v := .agg #[.slice B0 n0 d0, .slice B1 n1 d1, .int .i64 fl, .slice B3 n3 d3]) rfl (by kernel_rfl) (by kernel_rfl) (by kernel_rfl) (fun _ _ _ h => h) (yields_case1 (l := [.slice B0 n0 d0, .slice B1 n1 d1, .int .i64 fl, .slice B3 n3 d3]) (by rfl) _ rfl _ rfl HO.out rfl (fun W_ hSW_ => hSW_)) hS ?_
    try simp only [Act.put, List.setIfInBounds_toArray, List.set_cons_zero, List.set_cons_succ]
    refine wpAnyH_ready (rs := [2, 6, 7]) (by kernel_rfl) (by simp) ?_
    refine AllReadyH.cons rfl (fun K_ hK_ => ?_) (AllReadyH.cons rfl (fun K_ hK_ => ?_) (AllReadyH.cons rfl (fun K_ hK_ => ?_) AllReadyH.nil))
    · go_simp
      refine (Copy_call H3D.out B0 B1 B3 n0 n1 n3 d0 d1 d3 fl ws rs cs R0.out.1 R1.out.1 R3.out.1 HSM.out.2.1 HSM.out.2.2.1 HSM.out.2.2.2 R0.out.2 R1.out.2 R3.out.2).mono ?_
      rintro e w_1 ⟨v0, v1, v3, rfl, h4⟩
      obtain ⟨a3, ac3, rfl, _, _⟩ := h4.readsN R3.out.2
      obtain ⟨a1, ac1, rfl, _, _⟩ := h4.drop.readsN R1.out.2
      obtain ⟨a0, ac0, rfl, _, _⟩ := h4.drop.drop.readsN R0.out.2
      have HM_2 := Aside0.mk h4
      clear h4
      obtain ⟨gz_3, hz_4⟩ : ∃ q, w_1.heap.size = q := ⟨_, rfl⟩
      refine hK_.out _ _ ((by rw [HCA.out]; exact (HM_2.out.up 4).get)) (fun hS_ => ?_)
      clear hK_ K_ hS
      have hS := hS_
      clear hS_
      try simp only [Act.put, List.setIfInBounds_toArray, List.set_cons_zero, List.set_cons_succ]
      refine wpAnyH_ready (rs := [5, 6, 7]) (by kernel_rfl) (by simp) ?_
      refine AllReadyH.cons rfl (fun K_ hK_ => ?_) (AllReadyH.cons rfl (fun K_ hK_ => ?_) (AllReadyH.cons rfl (fun K_ hK_ => ?_) AllReadyH.nil))
      · go_simp
        refine (Copy_call HM_2.out B0 B1 B3 n0 n1 n3 d0 d1 d3 fl ws rs cs R0.out.1 R1.out.1 R3.out.1 HSM.out.2.1 HSM.out.2.2.1 HSM.out.2.2.2 R0.out.2 R1.out.2 R3.out.2).mono ?_
        rintro e w_5 ⟨v0, v1, v3, rfl, h4⟩
        obtain ⟨b3, bc3, rfl, _, _⟩ := h4.readsN R3.out.2
        obtain ⟨b1, bc1, rfl, _, _⟩ := h4.drop.readsN R1.out.2
        obtain ⟨b0, bc0, rfl, _, _⟩ := h4.drop.drop.readsN R0.out.2
        have HM_6 := Aside0.mk h4
        clear h4
        obtain ⟨gz_7, hz_8⟩ : ∃ q, w_5.heap.size = q := ⟨_, rfl⟩
        refine hK_.out _ _ ((by rw [HCA.out]; exact (HM_6.out.up 7).get)) (fun hS_ => ?_)
        clear hK_ K_ hS
        have hS := hS_
        clear hS_
        try simp only [Act.put, List.setIfInBounds_toArray, List.set_cons_zero, List.set_cons_succ]
        refine wpAnyH_ready (rs := [6, 7]) (by kernel_rfl) (by simp) ?_
        refine AllReadyH.cons rfl (fun K_ hK_ => ?_) (AllReadyH.cons rfl (fun K_ hK_ => ?_) AllReadyH.nil)
        · go_simp
          have HM_9 := Aside0.mk (HM_6.out.new_ (g := gz_7) (.cells #[.slice none 0 0, .slice none 0 0, .int .i64 0, .slice none 0 0] 50) (by simp [hz_8]))
          refine hK_.out _ _ ((by rw [HCA.out]; exact (HM_9.out.up 8).get)) (fun hS_ => ?_)
          clear hK_ K_ hS
          have hS := hS_
          clear hS_
          try simp only [Act.put, List.setIfInBounds_toArray, List.set_cons_zero, List.set_cons_succ]
          refine wpAnyH_ready (rs := [7]) (by kernel_rfl) (by simp) ?_
          refine AllReadyH.cons rfl (fun K_ hK_ => ?_) AllReadyH.nil
          · go_simp
            have HM_10 := Aside0.mk (HM_9.out.new_ (g := (gz_7 + 1)) (.cells #[.slice none 0 0, .slice none 0 0, .int .i64 0, .slice none 0 0] 50) (by simp [hz_8]))
            refine hK_.out _ _ ((by rw [HCA.out]; exact (HM_10.out.up 9).get)) (fun hS_ => ?_)
            clear hK_ K_ hS
            have hS := hS_
            clear hS_
            try simp only [Act.put, List.setIfInBounds_toArray, List.set_cons_zero, List.set_cons_succ]
            refine wpAnyH_ready (rs := [8]) (by kernel_rfl) (by simp) ?_
            refine AllReadyH.cons rfl (fun K_ hK_ => ?_) AllReadyH.nil
            have hu_ := (HM_10.out.up 1)
            rw [if_pos (by rfl)]
            refine wp_store_row 50 (.tmp 7) (.tmp 26) rfl gz_7 #[.slice a0 n0 ac0, .slice a1 n1 ac1, .int .i64 fl, .slice a3 n3 ac3] rfl rfl 50 #[.slice none 0 0, .slice none 0 0, .int .i64 0, .slice none 0 0] hu_.get i50 rfl (by simp [Value.oneCell']) ?_
            have HM_11 := Aside0.mk (putRow hu_ #[.slice a0 n0 ac0, .slice a1 n1 ac1, .int .i64 fl, .slice a3 n3 ac3])
            clear hu_
            refine hK_.out _ _ ((by rw [HCA.out]; exact (HM_11.out.up 9).get)) (fun hS_ => ?_)
            clear hK_ K_ hS
            have hS := hS_
            clear hS_
            try simp only [Act.put, List.setIfInBounds_toArray, List.set_cons_zero, List.set_cons_succ]
            refine wpAnyH_ready (rs := [9]) (by kernel_rfl) (by simp) ?_
            refine AllReadyH.cons rfl (fun K_ hK_ => ?_) AllReadyH.nil
            have hu_ := (HM_11.out.up 1)
            rw [if_pos (by rfl)]
            refine wp_store_row 50 (.tmp 8) (.tmp 29) rfl (gz_7 + 1) #[.slice b0 n0 bc0, .slice b1 n1 bc1, .int .i64 fl, .slice b3 n3 bc3] rfl rfl 50 #[.slice none 0 0, .slice none 0 0, .int .i64 0, .slice none 0 0] hu_.get i50 rfl (by simp [Value.oneCell']) ?_
            have HM_12 := Aside0.mk (putRow hu_ #[.slice b0 n0 bc0, .slice b1 n1 bc1, .int .i64 fl, .slice b3 n3 bc3])
            clear hu_
            refine hK_.out _ _ ((by rw [HCA.out]; exact (HM_12.out.up 9).get)) (fun hS_ => ?_)
            clear hK_ K_ hS
            have hS := hS_
            clear hS_
            try simp only [Act.put, List.setIfInBounds_toArray, List.set_cons_zero, List.set_cons_succ]
            refine wpAnyH_done (by kernel_rfl) ?_ _
            have hbl_ := busL_of (gw := (gz_7 + 1)) (B := ⟨ws, rs, fl, cs⟩) (wv := .slice b0 n0 bc0) (rv := .slice b1 n1 bc1) (cv := .slice b3 n3 bc3) (L := [ob (gz_7 + 1) (.cells #[.slice b0 n0 bc0, .slice b1 n1 bc1, .int .i64 fl, .slice b3 n3 bc3] 50), ob gz_7 (.cells #[.slice a0 n0 ac0, .slice a1 n1 ac1, .int .i64 fl, .slice a3 n3 ac3] 50), row W k100 100 (.slice b3 n3 bc3) cs, row W (Kd.int .i16) 22 (.slice b0 n0 bc0) ws, row W k100 100 (.slice a3 n3 ac3) cs, row W (Kd.int .i16) 22 (.slice a1 n1 ac1) rs, row W (Kd.int .i16) 22 (.slice a0 n0 ac0) ws, ob (g + 1 + 1) (.cells #[.int .u8 (n : Int), .int .u8 (m : Int)] 67), ob (g + 1) (.cells CA 52), ob g (.cells (p.arr x) 47)]) (((((((((((HM_12.out.up 10).up 10).up 10).up 10).up 10).up 10).up 10).up 9).up 9).up 9).up 10)
            have hfin := Two.make (ga := gz_7) (gb := (gz_7 + 1)) (A := ⟨ws, rs, fl, cs⟩) (B := ⟨ws, rs, fl, cs⟩) (wv := .slice a0 n0 ac0) (rv := .slice a1 n1 ac1) (cv := .slice a3 n3 ac3) (L := (ob (g + 1 + 1) (.cells #[.int .u8 (n : Int), .int .u8 (m : Int)] 67) :: ob (g + 1) (.cells CA 52) :: ob g (.cells (p.arr x) 47) :: [])) (C := [ob (gz_7 + 1) (.cells #[.slice b0 n0 bc0, .slice b1 n1 bc1, .int .i64 fl, .slice b3 n3 bc3] 50), row W (Kd.int .i16) 22 (.slice b0 n0 bc0) ws, row W (Kd.int .i16) 22 (.slice b1 n1 bc1) rs, row W k100 100 (.slice b3 n3 bc3) cs]) (((((((((((HM_12.out.up 2).up 3).up 4).up 3).up 10).up 10).up 10).up 8).up 9).up 10).up 10) hbl_
            clear hbl_
            replace hfin := show Two W _ gz_7 ⟨ws, rs, fl, cs⟩ (gz_7 + 1) ⟨ws, rs, fl, cs⟩ (ob (g + 1 + 1) (.cells #[.int .u8 (n : Int), .int .u8 (m : Int)] 67) :: ob (g + 1) (.cells CA 52) :: ob g (.cells (p.arr x) 47) :: []) from hfin
            generalize gz_7 + 1 = gq_13 at hfin ⊢
            generalize World.setRow _ _ _ = wf at hfin ⊢
            exact KEY gz_7 gq_13 wf a0 ac0 a1 ac1 a3 ac3 b0 bc0 b1 bc1 b3 bc3 hfin
        · go_simp
          have HM_14 := Aside0.mk (HM_6.out.new_ (g := gz_7) (.cells #[.slice none 0 0, .slice none 0 0, .int .i64 0, .slice none 0 0] 50) (by simp [hz_8]))
          refine hK_.out _ _ ((by rw [HCA.out]; exact (HM_14.out.up 8).get)) (fun hS_ => ?_)
          clear hK_ K_ hS
          have hS := hS_
          clear hS_
          try simp only [Act.put, List.setIfInBounds_toArray, List.set_cons_zero, List.set_cons_succ]
          refine wpAnyH_ready (rs := [6]) (by kernel_rfl) (by simp) ?_
          refine AllReadyH.cons rfl (fun K_ hK_ => ?_) AllReadyH.nil
          · go_simp
            have HM_15 := Aside0.mk (HM_14.out.new_ (g := (gz_7 + 1)) (.cells #[.slice none 0 0, .slice none 0 0, .int .i64 0, .slice none 0 0] 50) (by simp [hz_8]))
            refine hK_.out _ _ ((by rw [HCA.out]; exact (HM_15.out.up 9).get)) (fun hS_ => ?_)
            clear hK_ K_ hS
            have hS := hS_
            clear hS_
            try simp only [Act.put, List.setIfInBounds_toArray, List.set_cons_zero, List.set_cons_succ]
            refine wpAnyH_ready (rs := [8]) (by kernel_rfl) (by simp) ?_
            refine AllReadyH.cons rfl (fun K_ hK_ => ?_) AllReadyH.nil
            have hu_ := (HM_15.out.up 0)
            rw [if_pos (by rfl)]
            refine wp_store_row 50 (.tmp 7) (.tmp 26) rfl (gz_7 + 1) #[.slice a0 n0 ac0, .slice a1 n1 ac1, .int .i64 fl, .slice a3 n3 ac3] rfl rfl 50 #[.slice none 0 0, .slice none 0 0, .int .i64 0, .slice none 0 0] hu_.get i50 rfl (by simp [Value.oneCell']) ?_
            have HM_16 := Aside0.mk (putRow hu_ #[.slice a0 n0 ac0, .slice a1 n1 ac1, .int .i64 fl, .slice a3 n3 ac3])
            clear hu_
            refine hK_.out _ _ ((by rw [HCA.out]; exact (HM_16.out.up 9).get)) (fun hS_ => ?_)
            clear hK_ K_ hS
            have hS := hS_
            clear hS_
            try simp only [Act.put, List.setIfInBounds_toArray, List.set_cons_zero, List.set_cons_succ]
            refine wpAnyH_ready (rs := [9]) (by kernel_rfl) (by simp) ?_
            refine AllReadyH.cons rfl (fun K_ hK_ => ?_) AllReadyH.nil
            have hu_ := (HM_16.out.up 1)
            rw [if_pos (by rfl)]
            refine wp_store_row 50 (.tmp 8) (.tmp 29) rfl gz_7 #[.slice b0 n0 bc0, .slice b1 n1 bc1, .int .i64 fl, .slice b3 n3 bc3] rfl rfl 50 #[.slice none 0 0, .slice none 0 0, .int .i64 0, .slice none 0 0] hu_.get i50 rfl (by simp [Value.oneCell']) ?_
            have HM_17 := Aside0.mk (putRow hu_ #[.slice b0 n0 bc0, .slice b1 n1 bc1, .int .i64 fl, .slice b3 n3 bc3])
            clear hu_
            refine hK_.out _ _ ((by rw [HCA.out]; exact (HM_17.out.up 9).get)) (fun hS_ => ?_)
            clear hK_ K_ hS
            have hS := hS_
            clear hS_
            try simp only [Act.put, List.setIfInBounds_toArray, List.set_cons_zero, List.set_cons_succ]
            refine wpAnyH_done (by kernel_rfl) ?_ _
            have hbl_ := busL_of (gw := gz_7) (B := ⟨ws, rs, fl, cs⟩) (wv := .slice b0 n0 bc0) (rv := .slice b1 n1 bc1) (cv := .slice b3 n3 bc3) (L := [ob gz_7 (.cells #[.slice b0 n0 bc0, .slice b1 n1 bc1, .int .i64 fl, .slice b3 n3 bc3] 50), ob (gz_7 + 1) (.cells #[.slice a0 n0 ac0, .slice a1 n1 ac1, .int .i64 fl, .slice a3 n3 ac3] 50), row W k100 100 (.slice b3 n3 bc3) cs, row W (Kd.int .i16) 22 (.slice b0 n0 bc0) ws, row W k100 100 (.slice a3 n3 ac3) cs, row W (Kd.int .i16) 22 (.slice a1 n1 ac1) rs, row W (Kd.int .i16) 22 (.slice a0 n0 ac0) ws, ob (g + 1 + 1) (.cells #[.int .u8 (n : Int), .int .u8 (m : Int)] 67), ob (g + 1) (.cells CA 52), ob g (.cells (p.arr x) 47)]) (((((((((((HM_17.out.up 10).up 10).up 10).up 10).up 10).up 10).up 10).up 9).up 9).up 9).up 10)
            have hfin := Two.make (ga := (gz_7 + 1)) (gb := gz_7) (A := ⟨ws, rs, fl, cs⟩) (B := ⟨ws, rs, fl, cs⟩) (wv := .slice a0 n0 ac0) (rv := .slice a1 n1 ac1) (cv := .slice a3 n3 ac3) (L := (ob (g + 1 + 1) (.cells #[.int .u8 (n : Int), .int .u8 (m : Int)] 67) :: ob (g + 1) (.cells CA 52) :: ob g (.cells (p.arr x) 47) :: [])) (C := [ob gz_7 (.cells #[.slice b0 n0 bc0, .slice b1 n1 bc1, .int .i64 fl, .slice b3 n3 bc3] 50), row W (Kd.int .i16) 22 (.slice b0 n0 bc0) ws, row W (Kd.int .i16) 22 (.slice b1 n1 bc1) rs, row W k100 100 (.slice b3 n3 bc3) cs]) (((((((((((HM_17.out.up 2).up 3).up 4).up 3).up 10).up 10).up 10).up 8).up 9).up 10).up 10) hbl_
            clear hbl_
            replace hfin := show Two W _ (gz_7 + 1) ⟨ws, rs, fl, cs⟩ gz_7 ⟨ws, rs, fl, cs⟩ (ob (g + 1 + 1) (.cells #[.int .u8 (n : Int), .int .u8 (m : Int)] 67) :: ob (g + 1) (.cells CA 52) :: ob g (.cells (p.arr x) 47) :: []) from hfin
            generalize gz_7 + 1 = gq_18 at hfin ⊢
            generalize World.setRow _ _ _ = wf at hfin ⊢
            exact KEY gq_18 gz_7 wf a0 ac0 a1 ac1 a3 ac3 b0 bc0 b1 bc1 b3 bc3 hfin
      · go_simp
        have HM_19 := Aside0.mk (HM_2.out.new_ (g := gz_3) (.cells #[.slice none 0 0, .slice none 0 0, .int .i64 0, .slice none 0 0] 50) (by simp [hz_4]))
        refine hK_.out _ _ ((by rw [HCA.out]; exact (HM_19.out.up 5).get)) (fun hS_ => ?_)
        clear hK_ K_ hS
        have hS := hS_
        clear hS_
        try simp only [Act.put, List.setIfInBounds_toArray, List.set_cons_zero, List.set_cons_succ]
        refine wpAnyH_ready (rs := [5, 7]) (by kernel_rfl) (by simp) ?_
        refine AllReadyH.cons rfl (fun K_ hK_ => ?_) (AllReadyH.cons rfl (fun K_ hK_ => ?_) AllReadyH.nil)
        · go_simp
          refine (Copy_call HM_19.out B0 B1 B3 n0 n1 n3 d0 d1 d3 fl ws rs cs R0.out.1 R1.out.1 R3.out.1 HSM.out.2.1 HSM.out.2.2.1 HSM.out.2.2.2 R0.out.2 R1.out.2 R3.out.2).mono ?_
          rintro e w_20 ⟨v0, v1, v3, rfl, h4⟩
          obtain ⟨b3, bc3, rfl, _, _⟩ := h4.readsN R3.out.2
          obtain ⟨b1, bc1, rfl, _, _⟩ := h4.drop.readsN R1.out.2
          obtain ⟨b0, bc0, rfl, _, _⟩ := h4.drop.drop.readsN R0.out.2
          have HM_21 := Aside0.mk h4
          clear h4
          obtain ⟨gz_22, hz_23⟩ : ∃ q, w_20.heap.size = q := ⟨_, rfl⟩
          refine hK_.out _ _ ((by rw [HCA.out]; exact (HM_21.out.up 8).get)) (fun hS_ => ?_)
          clear hK_ K_ hS
          have hS := hS_
          clear hS_
          try simp only [Act.put, List.setIfInBounds_toArray, List.set_cons_zero, List.set_cons_succ]
          refine wpAnyH_ready (rs := [7]) (by kernel_rfl) (by simp) ?_
          refine AllReadyH.cons rfl (fun K_ hK_ => ?_) AllReadyH.nil
          · go_simp
            have HM_24 := Aside0.mk (HM_21.out.new_ (g := gz_22) (.cells #[.slice none 0 0, .slice none 0 0, .int .i64 0, .slice none 0 0] 50) (by simp [hz_23]))
            refine hK_.out _ _ ((by rw [HCA.out]; exact (HM_24.out.up 9).get)) (fun hS_ => ?_)
            clear hK_ K_ hS
            have hS := hS_
            clear hS_
            try simp only [Act.put, List.setIfInBounds_toArray, List.set_cons_zero, List.set_cons_succ]
            refine wpAnyH_ready (rs := [8]) (by kernel_rfl) (by simp) ?_
            refine AllReadyH.cons rfl (fun K_ hK_ => ?_) AllReadyH.nil
            have hu_ := (HM_24.out.up 4)
            rw [if_pos (by rfl)]
            refine wp_store_row 50 (.tmp 7) (.tmp 26) rfl gz_3 #[.slice a0 n0 ac0, .slice a1 n1 ac1, .int .i64 fl, .slice a3 n3 ac3] rfl rfl 50 #[.slice none 0 0, .slice none 0 0, .int .i64 0, .slice none 0 0] hu_.get i50 rfl (by simp [Value.oneCell']) ?_
            have HM_25 := Aside0.mk (putRow hu_ #[.slice a0 n0 ac0, .slice a1 n1 ac1, .int .i64 fl, .slice a3 n3 ac3])
            clear hu_
            refine hK_.out _ _ ((by rw [HCA.out]; exact (HM_25.out.up 9).get)) (fun hS_ => ?_)
            clear hK_ K_ hS
            have hS := hS_
            clear hS_
            try simp only [Act.put, List.setIfInBounds_toArray, List.set_cons_zero, List.set_cons_succ]
            refine wpAnyH_ready (rs := [9]) (by kernel_rfl) (by simp) ?_
            refine AllReadyH.cons rfl (fun K_ hK_ => ?_) AllReadyH.nil
            have hu_ := (HM_25.out.up 1)
            rw [if_pos (by rfl)]
            refine wp_store_row 50 (.tmp 8) (.tmp 29) rfl gz_22 #[.slice b0 n0 bc0, .slice b1 n1 bc1, .int .i64 fl, .slice b3 n3 bc3] rfl rfl 50 #[.slice none 0 0, .slice none 0 0, .int .i64 0, .slice none 0 0] hu_.get i50 rfl (by simp [Value.oneCell']) ?_
            have HM_26 := Aside0.mk (putRow hu_ #[.slice b0 n0 bc0, .slice b1 n1 bc1, .int .i64 fl, .slice b3 n3 bc3])
            clear hu_
            refine hK_.out _ _ ((by rw [HCA.out]; exact (HM_26.out.up 9).get)) (fun hS_ => ?_)
            clear hK_ K_ hS
            have hS := hS_
            clear hS_
            try simp only [Act.put, List.setIfInBounds_toArray, List.set_cons_zero, List.set_cons_succ]
            refine wpAnyH_done (by kernel_rfl) ?_ _
            have hbl_ := busL_of (gw := gz_22) (B := ⟨ws, rs, fl, cs⟩) (wv := .slice b0 n0 bc0) (rv := .slice b1 n1 bc1) (cv := .slice b3 n3 bc3) (L := [ob gz_22 (.cells #[.slice b0 n0 bc0, .slice b1 n1 bc1, .int .i64 fl, .slice b3 n3 bc3] 50), ob gz_3 (.cells #[.slice a0 n0 ac0, .slice a1 n1 ac1, .int .i64 fl, .slice a3 n3 ac3] 50), row W k100 100 (.slice b3 n3 bc3) cs, row W (Kd.int .i16) 22 (.slice b0 n0 bc0) ws, row W k100 100 (.slice a3 n3 ac3) cs, row W (Kd.int .i16) 22 (.slice a1 n1 ac1) rs, row W (Kd.int .i16) 22 (.slice a0 n0 ac0) ws, ob (g + 1 + 1) (.cells #[.int .u8 (n : Int), .int .u8 (m : Int)] 67), ob (g + 1) (.cells CA 52), ob g (.cells (p.arr x) 47)]) (((((((((((HM_26.out.up 10).up 10).up 10).up 10).up 10).up 10).up 10).up 9).up 9).up 9).up 10)
            have hfin := Two.make (ga := gz_3) (gb := gz_22) (A := ⟨ws, rs, fl, cs⟩) (B := ⟨ws, rs, fl, cs⟩) (wv := .slice a0 n0 ac0) (rv := .slice a1 n1 ac1) (cv := .slice a3 n3 ac3) (L := (ob (g + 1 + 1) (.cells #[.int .u8 (n : Int), .int .u8 (m : Int)] 67) :: ob (g + 1) (.cells CA 52) :: ob g (.cells (p.arr x) 47) :: [])) (C := [ob gz_22 (.cells #[.slice b0 n0 bc0, .slice b1 n1 bc1, .int .i64 fl, .slice b3 n3 bc3] 50), row W (Kd.int .i16) 22 (.slice b0 n0 bc0) ws, row W (Kd.int .i16) 22 (.slice b1 n1 bc1) rs, row W k100 100 (.slice b3 n3 bc3) cs]) (((((((((((HM_26.out.up 2).up 3).up 4).up 3).up 10).up 10).up 10).up 8).up 9).up 10).up 10) hbl_
            clear hbl_
            replace hfin := show Two W _ gz_3 ⟨ws, rs, fl, cs⟩ gz_22 ⟨ws, rs, fl, cs⟩ (ob (g + 1 + 1) (.cells #[.int .u8 (n : Int), .int .u8 (m : Int)] 67) :: ob (g + 1) (.cells CA 52) :: ob g (.cells (p.arr x) 47) :: []) from hfin
            generalize World.setRow _ _ _ = wf at hfin ⊢
            exact KEY gz_3 gz_22 wf a0 ac0 a1 ac1 a3 ac3 b0 bc0 b1 bc1 b3 bc3 hfin
        · go_simp
          have HM_27 := Aside0.mk (HM_19.out.new_ (g := (gz_3 + 1)) (.cells #[.slice none 0 0, .slice none 0 0, .int .i64 0, .slice none 0 0] 50) (by simp [hz_4]))
          refine hK_.out _ _ ((by rw [HCA.out]; exact (HM_27.out.up 6).get)) (fun hS_ => ?_)
          clear hK_ K_ hS
          have hS := hS_
          clear hS_
          try simp only [Act.put, List.setIfInBounds_toArray, List.set_cons_zero, List.set_cons_succ]
          refine wpAnyH_ready (rs := [5]) (by kernel_rfl) (by simp) ?_
          refine AllReadyH.cons rfl (fun K_ hK_ => ?_) AllReadyH.nil
          · go_simp
            refine (Copy_call HM_27.out B0 B1 B3 n0 n1 n3 d0 d1 d3 fl ws rs cs R0.out.1 R1.out.1 R3.out.1 HSM.out.2.1 HSM.out.2.2.1 HSM.out.2.2.2 R0.out.2 R1.out.2 R3.out.2).mono ?_
            rintro e w_28 ⟨v0, v1, v3, rfl, h4⟩
            obtain ⟨b3, bc3, rfl, _, _⟩ := h4.readsN R3.out.2
            obtain ⟨b1, bc1, rfl, _, _⟩ := h4.drop.readsN R1.out.2
            obtain ⟨b0, bc0, rfl, _, _⟩ := h4.drop.drop.readsN R0.out.2
            have HM_29 := Aside0.mk h4
            clear h4
            obtain ⟨gz_30, hz_31⟩ : ∃ q, w_28.heap.size = q := ⟨_, rfl⟩
            refine hK_.out _ _ ((by rw [HCA.out]; exact (HM_29.out.up 9).get)) (fun hS_ => ?_)
            clear hK_ K_ hS
            have hS := hS_
            clear hS_
            try simp only [Act.put, List.setIfInBounds_toArray, List.set_cons_zero, List.set_cons_succ]
            refine wpAnyH_ready (rs := [8]) (by kernel_rfl) (by simp) ?_
            refine AllReadyH.cons rfl (fun K_ hK_ => ?_) AllReadyH.nil
            have hu_ := (HM_29.out.up 4)
            rw [if_pos (by rfl)]
            refine wp_store_row 50 (.tmp 7) (.tmp 26) rfl gz_3 #[.slice a0 n0 ac0, .slice a1 n1 ac1, .int .i64 fl, .slice a3 n3 ac3] rfl rfl 50 #[.slice none 0 0, .slice none 0 0, .int .i64 0, .slice none 0 0] hu_.get i50 rfl (by simp [Value.oneCell']) ?_
            have HM_32 := Aside0.mk (putRow hu_ #[.slice a0 n0 ac0, .slice a1 n1 ac1, .int .i64 fl, .slice a3 n3 ac3])
            clear hu_
            refine hK_.out _ _ ((by rw [HCA.out]; exact (HM_32.out.up 9).get)) (fun hS_ => ?_)
            clear hK_ K_ hS
            have hS := hS_
            clear hS_
            try simp only [Act.put, List.setIfInBounds_toArray, List.set_cons_zero, List.set_cons_succ]
            refine wpAnyH_ready (rs := [9]) (by kernel_rfl) (by simp) ?_
            refine AllReadyH.cons rfl (fun K_ hK_ => ?_) AllReadyH.nil
            have hu_ := (HM_32.out.up 4)
            rw [if_pos (by rfl)]
            refine wp_store_row 50 (.tmp 8) (.tmp 29) rfl (gz_3 + 1) #[.slice b0 n0 bc0, .slice b1 n1 bc1, .int .i64 fl, .slice b3 n3 bc3] rfl rfl 50 #[.slice none 0 0, .slice none 0 0, .int .i64 0, .slice none 0 0] hu_.get i50 rfl (by simp [Value.oneCell']) ?_
            have HM_33 := Aside0.mk (putRow hu_ #[.slice b0 n0 bc0, .slice b1 n1 bc1, .int .i64 fl, .slice b3 n3 bc3])
            clear hu_
            refine hK_.out _ _ ((by rw [HCA.out]; exact (HM_33.out.up 9).get)) (fun hS_ => ?_)
            clear hK_ K_ hS
            have hS := hS_
            clear hS_
            try simp only [Act.put, List.setIfInBounds_toArray, List.set_cons_zero, List.set_cons_succ]
            refine wpAnyH_done (by kernel_rfl) ?_ _
            have hbl_ := busL_of (gw := (gz_3 + 1)) (B := ⟨ws, rs, fl, cs⟩) (wv := .slice b0 n0 bc0) (rv := .slice b1 n1 bc1) (cv := .slice b3 n3 bc3) (L := [ob (gz_3 + 1) (.cells #[.slice b0 n0 bc0, .slice b1 n1 bc1, .int .i64 fl, .slice b3 n3 bc3] 50), ob gz_3 (.cells #[.slice a0 n0 ac0, .slice a1 n1 ac1, .int .i64 fl, .slice a3 n3 ac3] 50), row W k100 100 (.slice b3 n3 bc3) cs, row W (Kd.int .i16) 22 (.slice b0 n0 bc0) ws, row W k100 100 (.slice a3 n3 ac3) cs, row W (Kd.int .i16) 22 (.slice a1 n1 ac1) rs, row W (Kd.int .i16) 22 (.slice a0 n0 ac0) ws, ob (g + 1 + 1) (.cells #[.int .u8 (n : Int), .int .u8 (m : Int)] 67), ob (g + 1) (.cells CA 52), ob g (.cells (p.arr x) 47)]) (((((((((((HM_33.out.up 10).up 10).up 10).up 10).up 10).up 10).up 10).up 9).up 9).up 9).up 10)
            have hfin := Two.make (ga := gz_3) (gb := (gz_3 + 1)) (A := ⟨ws, rs, fl, cs⟩) (B := ⟨ws, rs, fl, cs⟩) (wv := .slice a0 n0 ac0) (rv := .slice a1 n1 ac1) (cv := .slice a3 n3 ac3) (L := (ob (g + 1 + 1) (.cells #[.int .u8 (n : Int), .int .u8 (m : Int)] 67) :: ob (g + 1) (.cells CA 52) :: ob g (.cells (p.arr x) 47) :: [])) (C := [ob (gz_3 + 1) (.cells #[.slice b0 n0 bc0, .slice b1 n1 bc1, .int .i64 fl, .slice b3 n3 bc3] 50), row W (Kd.int .i16) 22 (.slice b0 n0 bc0) ws, row W (Kd.int .i16) 22 (.slice b1 n1 bc1) rs, row W k100 100 (.slice b3 n3 bc3) cs]) (((((((((((HM_33.out.up 2).up 3).up 4).up 3).up 10).up 10).up 10).up 8).up 9).up 10).up 10) hbl_
            clear hbl_
            replace hfin := show Two W _ gz_3 ⟨ws, rs, fl, cs⟩ (gz_3 + 1) ⟨ws, rs, fl, cs⟩ (ob (g + 1 + 1) (.cells #[.int .u8 (n : Int), .int .u8 (m : Int)] 67) :: ob (g + 1) (.cells CA 52) :: ob g (.cells (p.arr x) 47) :: []) from hfin
            generalize gz_3 + 1 = gq_34 at hfin ⊢
            generalize World.setRow _ _ _ = wf at hfin ⊢
            exact KEY gz_3 gq_34 wf a0 ac0 a1 ac1 a3 ac3 b0 bc0 b1 bc1 b3 bc3 hfin
      · go_simp
        have HM_35 := Aside0.mk (HM_2.out.new_ (g := gz_3) (.cells #[.slice none 0 0, .slice none 0 0, .int .i64 0, .slice none 0 0] 50) (by simp [hz_4]))
        refine hK_.out _ _ ((by rw [HCA.out]; exact (HM_35.out.up 5).get)) (fun hS_ => ?_)
        clear hK_ K_ hS
        have hS := hS_
        clear hS_
        try simp only [Act.put, List.setIfInBounds_toArray, List.set_cons_zero, List.set_cons_succ]
        refine wpAnyH_ready (rs := [5, 6]) (by kernel_rfl) (by simp) ?_
        refine AllReadyH.cons rfl (fun K_ hK_ => ?_) (AllReadyH.cons rfl (fun K_ hK_ => ?_) AllReadyH.nil)
        · go_simp
          refine (Copy_call HM_35.out B0 B1 B3 n0 n1 n3 d0 d1 d3 fl ws rs cs R0.out.1 R1.out.1 R3.out.1 HSM.out.2.1 HSM.out.2.2.1 HSM.out.2.2.2 R0.out.2 R1.out.2 R3.out.2).mono ?_
          rintro e w_36 ⟨v0, v1, v3, rfl, h4⟩
          obtain ⟨b3, bc3, rfl, _, _⟩ := h4.readsN R3.out.2
          obtain ⟨b1, bc1, rfl, _, _⟩ := h4.drop.readsN R1.out.2
          obtain ⟨b0, bc0, rfl, _, _⟩ := h4.drop.drop.readsN R0.out.2
          have HM_37 := Aside0.mk h4
          clear h4
          obtain ⟨gz_38, hz_39⟩ : ∃ q, w_36.heap.size = q := ⟨_, rfl⟩
          refine hK_.out _ _ ((by rw [HCA.out]; exact (HM_37.out.up 8).get)) (fun hS_ => ?_)
          clear hK_ K_ hS
          have hS := hS_
          clear hS_
          try simp only [Act.put, List.setIfInBounds_toArray, List.set_cons_zero, List.set_cons_succ]
          refine wpAnyH_ready (rs := [6]) (by kernel_rfl) (by simp) ?_
          refine AllReadyH.cons rfl (fun K_ hK_ => ?_) AllReadyH.nil
          · go_simp
            have HM_40 := Aside0.mk (HM_37.out.new_ (g := gz_38) (.cells #[.slice none 0 0, .slice none 0 0, .int .i64 0, .slice none 0 0] 50) (by simp [hz_39]))
            refine hK_.out _ _ ((by rw [HCA.out]; exact (HM_40.out.up 9).get)) (fun hS_ => ?_)
            clear hK_ K_ hS
            have hS := hS_
            clear hS_
            try simp only [Act.put, List.setIfInBounds_toArray, List.set_cons_zero, List.set_cons_succ]
            refine wpAnyH_ready (rs := [8]) (by kernel_rfl) (by simp) ?_
            refine AllReadyH.cons rfl (fun K_ hK_ => ?_) AllReadyH.nil
            have hu_ := (HM_40.out.up 0)
            rw [if_pos (by rfl)]
            refine wp_store_row 50 (.tmp 7) (.tmp 26) rfl gz_38 #[.slice a0 n0 ac0, .slice a1 n1 ac1, .int .i64 fl, .slice a3 n3 ac3] rfl rfl 50 #[.slice none 0 0, .slice none 0 0, .int .i64 0, .slice none 0 0] hu_.get i50 rfl (by simp [Value.oneCell']) ?_
            have HM_41 := Aside0.mk (putRow hu_ #[.slice a0 n0 ac0, .slice a1 n1 ac1, .int .i64 fl, .slice a3 n3 ac3])
            clear hu_
            refine hK_.out _ _ ((by rw [HCA.out]; exact (HM_41.out.up 9).get)) (fun hS_ => ?_)
            clear hK_ K_ hS
            have hS := hS_
            clear hS_
            try simp only [Act.put, List.setIfInBounds_toArray, List.set_cons_zero, List.set_cons_succ]
            refine wpAnyH_ready (rs := [9]) (by kernel_rfl) (by simp) ?_
            refine AllReadyH.cons rfl (fun K_ hK_ => ?_) AllReadyH.nil
            have hu_ := (HM_41.out.up 4)
            rw [if_pos (by rfl)]
            refine wp_store_row 50 (.tmp 8) (.tmp 29) rfl gz_3 #[.slice b0 n0 bc0, .slice b1 n1 bc1, .int .i64 fl, .slice b3 n3 bc3] rfl rfl 50 #[.slice none 0 0, .slice none 0 0, .int .i64 0, .slice none 0 0] hu_.get i50 rfl (by simp [Value.oneCell']) ?_
            have HM_42 := Aside0.mk (putRow hu_ #[.slice b0 n0 bc0, .slice b1 n1 bc1, .int .i64 fl, .slice b3 n3 bc3])
            clear hu_
            refine hK_.out _ _ ((by rw [HCA.out]; exact (HM_42.out.up 9).get)) (fun hS_ => ?_)
            clear hK_ K_ hS
            have hS := hS_
            clear hS_
            try simp only [Act.put, List.setIfInBounds_toArray, List.set_cons_zero, List.set_cons_succ]
            refine wpAnyH_done (by kernel_rfl) ?_ _
            have hbl_ := busL_of (gw := gz_3) (B := ⟨ws, rs, fl, cs⟩) (wv := .slice b0 n0 bc0) (rv := .slice b1 n1 bc1) (cv := .slice b3 n3 bc3) (L := [ob gz_3 (.cells #[.slice b0 n0 bc0, .slice b1 n1 bc1, .int .i64 fl, .slice b3 n3 bc3] 50), ob gz_38 (.cells #[.slice a0 n0 ac0, .slice a1 n1 ac1, .int .i64 fl, .slice a3 n3 ac3] 50), row W k100 100 (.slice b3 n3 bc3) cs, row W (Kd.int .i16) 22 (.slice b0 n0 bc0) ws, row W k100 100 (.slice a3 n3 ac3) cs, row W (Kd.int .i16) 22 (.slice a1 n1 ac1) rs, row W (Kd.int .i16) 22 (.slice a0 n0 ac0) ws, ob (g + 1 + 1) (.cells #[.int .u8 (n : Int), .int .u8 (m : Int)] 67), ob (g + 1) (.cells CA 52), ob g (.cells (p.arr x) 47)]) (((((((((((HM_42.out.up 10).up 10).up 10).up 10).up 10).up 10).up 10).up 9).up 9).up 9).up 10)
            have hfin := Two.make (ga := gz_38) (gb := gz_3) (A := ⟨ws, rs, fl, cs⟩) (B := ⟨ws, rs, fl, cs⟩) (wv := .slice a0 n0 ac0) (rv := .slice a1 n1 ac1) (cv := .slice a3 n3 ac3) (L := (ob (g + 1 + 1) (.cells #[.int .u8 (n : Int), .int .u8 (m : Int)] 67) :: ob (g + 1) (.cells CA 52) :: ob g (.cells (p.arr x) 47) :: [])) (C := [ob gz_3 (.cells #[.slice b0 n0 bc0, .slice b1 n1 bc1, .int .i64 fl, .slice b3 n3 bc3] 50), row W (Kd.int .i16) 22 (.slice b0 n0 bc0) ws, row W (Kd.int .i16) 22 (.slice b1 n1 bc1) rs, row W k100 100 (.slice b3 n3 bc3) cs]) (((((((((((HM_42.out.up 2).up 3).up 4).up 3).up 10).up 10).up 10).up 8).up 9).up 10).up 10) hbl_
            clear hbl_
            replace hfin := show Two W _ gz_38 ⟨ws, rs, fl, cs⟩ gz_3 ⟨ws, rs, fl, cs⟩ (ob (g + 1 + 1) (.cells #[.int .u8 (n : Int), .int .u8 (m : Int)] 67) :: ob (g + 1) (.cells CA 52) :: ob g (.cells (p.arr x) 47) :: []) from hfin
            generalize World.setRow _ _ _ = wf at hfin ⊢
            exact KEY gz_38 gz_3 wf a0 ac0 a1 ac1 a3 ac3 b0 bc0 b1 bc1 b3 bc3 hfin
        · go_simp
          have HM_43 := Aside0.mk (HM_35.out.new_ (g := (gz_3 + 1)) (.cells #[.slice none 0 0, .slice none 0 0, .int .i64 0, .slice none 0 0] 50) (by simp [hz_4]))
          refine hK_.out _ _ ((by rw [HCA.out]; exact (HM_43.out.up 6).get)) (fun hS_ => ?_)
          clear hK_ K_ hS
          have hS := hS_
          clear hS_
          try simp only [Act.put, List.setIfInBounds_toArray, List.set_cons_zero, List.set_cons_succ]
          refine wpAnyH_ready (rs := [5]) (by kernel_rfl) (by simp) ?_
          refine AllReadyH.cons rfl (fun K_ hK_ => ?_) AllReadyH.nil
          · go_simp
            refine (Copy_call HM_43.out B0 B1 B3 n0 n1 n3 d0 d1 d3 fl ws rs cs R0.out.1 R1.out.1 R3.out.1 HSM.out.2.1 HSM.out.2.2.1 HSM.out.2.2.2 R0.out.2 R1.out.2 R3.out.2).mono ?_
            rintro e w_44 ⟨v0, v1, v3, rfl, h4⟩
            obtain ⟨b3, bc3, rfl, _, _⟩ := h4.readsN R3.out.2
            obtain ⟨b1, bc1, rfl, _, _⟩ := h4.drop.readsN R1.out.2
            obtain ⟨b0, bc0, rfl, _, _⟩ := h4.drop.drop.readsN R0.out.2
            have HM_45 := Aside0.mk h4
            clear h4
            obtain ⟨gz_46, hz_47⟩ : ∃ q, w_44.heap.size = q := ⟨_, rfl⟩
            refine hK_.out _ _ ((by rw [HCA.out]; exact (HM_45.out.up 9).get)) (fun hS_ => ?_)
            clear hK_ K_ hS
            have hS := hS_
            clear hS_
            try simp only [Act.put, List.setIfInBounds_toArray, List.set_cons_zero, List.set_cons_succ]
            refine wpAnyH_ready (rs := [8]) (by kernel_rfl) (by simp) ?_
            refine AllReadyH.cons rfl (fun K_ hK_ => ?_) AllReadyH.nil
            have hu_ := (HM_45.out.up 3)
            rw [if_pos (by rfl)]
            refine wp_store_row 50 (.tmp 7) (.tmp 26) rfl (gz_3 + 1) #[.slice a0 n0 ac0, .slice a1 n1 ac1, .int .i64 fl, .slice a3 n3 ac3] rfl rfl 50 #[.slice none 0 0, .slice none 0 0, .int .i64 0, .slice none 0 0] hu_.get i50 rfl (by simp [Value.oneCell']) ?_
            have HM_48 := Aside0.mk (putRow hu_ #[.slice a0 n0 ac0, .slice a1 n1 ac1, .int .i64 fl, .slice a3 n3 ac3])
            clear hu_
            refine hK_.out _ _ ((by rw [HCA.out]; exact (HM_48.out.up 9).get)) (fun hS_ => ?_)
            clear hK_ K_ hS
            have hS := hS_
            clear hS_
            try simp only [Act.put, List.setIfInBounds_toArray, List.set_cons_zero, List.set_cons_succ]
            refine wpAnyH_ready (rs := [9]) (by kernel_rfl) (by simp) ?_
            refine AllReadyH.cons rfl (fun K_ hK_ => ?_) AllReadyH.nil
            have hu_ := (HM_48.out.up 4)
            rw [if_pos (by rfl)]
            refine wp_store_row 50 (.tmp 8) (.tmp 29) rfl gz_3 #[.slice b0 n0 bc0, .slice b1 n1 bc1, .int .i64 fl, .slice b3 n3 bc3] rfl rfl 50 #[.slice none 0 0, .slice none 0 0, .int .i64 0, .slice none 0 0] hu_.get i50 rfl (by simp [Value.oneCell']) ?_
            have HM_49 := Aside0.mk (putRow hu_ #[.slice b0 n0 bc0, .slice b1 n1 bc1, .int .i64 fl, .slice b3 n3 bc3])
            clear hu_
            refine hK_.out _ _ ((by rw [HCA.out]; exact (HM_49.out.up 9).get)) (fun hS_ => ?_)
            clear hK_ K_ hS
            have hS := hS_
            clear hS_
            try simp only [Act.put, List.setIfInBounds_toArray, List.set_cons_zero, List.set_cons_succ]
            refine wpAnyH_done (by kernel_rfl) ?_ _
            have hbl_ := busL_of (gw := gz_3) (B := ⟨ws, rs, fl, cs⟩) (wv := .slice b0 n0 bc0) (rv := .slice b1 n1 bc1) (cv := .slice b3 n3 bc3) (L := [ob gz_3 (.cells #[.slice b0 n0 bc0, .slice b1 n1 bc1, .int .i64 fl, .slice b3 n3 bc3] 50), ob (gz_3 + 1) (.cells #[.slice a0 n0 ac0, .slice a1 n1 ac1, .int .i64 fl, .slice a3 n3 ac3] 50), row W k100 100 (.slice b3 n3 bc3) cs, row W (Kd.int .i16) 22 (.slice b0 n0 bc0) ws, row W k100 100 (.slice a3 n3 ac3) cs, row W (Kd.int .i16) 22 (.slice a1 n1 ac1) rs, row W (Kd.int .i16) 22 (.slice a0 n0 ac0) ws, ob (g + 1 + 1) (.cells #[.int .u8 (n : Int), .int .u8 (m : Int)] 67), ob (g + 1) (.cells CA 52), ob g (.cells (p.arr x) 47)]) (((((((((((HM_49.out.up 10).up 10).up 10).up 10).up 10).up 10).up 10).up 9).up 9).up 9).up 10)
            have hfin := Two.make (ga := (gz_3 + 1)) (gb := gz_3) (A := ⟨ws, rs, fl, cs⟩) (B := ⟨ws, rs, fl, cs⟩) (wv := .slice a0 n0 ac0) (rv := .slice a1 n1 ac1) (cv := .slice a3 n3 ac3) (L := (ob (g + 1 + 1) (.cells #[.int .u8 (n : Int), .int .u8 (m : Int)] 67) :: ob (g + 1) (.cells CA 52) :: ob g (.cells (p.arr x) 47) :: [])) (C := [ob gz_3 (.cells #[.slice b0 n0 bc0, .slice b1 n1 bc1, .int .i64 fl, .slice b3 n3 bc3] 50), row W (Kd.int .i16) 22 (.slice b0 n0 bc0) ws, row W (Kd.int .i16) 22 (.slice b1 n1 bc1) rs, row W k100 100 (.slice b3 n3 bc3) cs]) (((((((((((HM_49.out.up 2).up 3).up 4).up 3).up 10).up 10).up 10).up 8).up 9).up 10).up 10) hbl_
            clear hbl_
            replace hfin := show Two W _ (gz_3 + 1) ⟨ws, rs, fl, cs⟩ gz_3 ⟨ws, rs, fl, cs⟩ (ob (g + 1 + 1) (.cells #[.int .u8 (n : Int), .int .u8 (m : Int)] 67) :: ob (g + 1) (.cells CA 52) :: ob g (.cells (p.arr x) 47) :: []) from hfin
            generalize gz_3 + 1 = gq_50 at hfin ⊢
            generalize World.setRow _ _ _ = wf at hfin ⊢
            exact KEY gq_50 gz_3 wf a0 ac0 a1 ac1 a3 ac3 b0 bc0 b1 bc1 b3 bc3 hfin
    · go_simp
      have HM_51 := Aside0.mk (H3D.out.new_ (g := gz0) (.cells #[.slice none 0 0, .slice none 0 0, .int .i64 0, .slice none 0 0] 50) (by simp [hz0]))
      refine hK_.out _ _ ((by rw [HCA.out]; exact (HM_51.out.up 2).get)) (fun hS_ => ?_)
      clear hK_ K_ hS
      have hS := hS_
      clear hS_
      try simp only [Act.put, List.setIfInBounds_toArray, List.set_cons_zero, List.set_cons_succ]
      refine wpAnyH_ready (rs := [2, 7]) (by kernel_rfl) (by simp) ?_
      refine AllReadyH.cons rfl (fun K_ hK_ => ?_) (AllReadyH.cons rfl (fun K_ hK_ => ?_) AllReadyH.nil)
      · go_simp
        refine (Copy_call HM_51.out B0 B1 B3 n0 n1 n3 d0 d1 d3 fl ws rs cs R0.out.1 R1.out.1 R3.out.1 HSM.out.2.1 HSM.out.2.2.1 HSM.out.2.2.2 R0.out.2 R1.out.2 R3.out.2).mono ?_
        rintro e w_52 ⟨v0, v1, v3, rfl, h4⟩
        obtain ⟨a3, ac3, rfl, _, _⟩ := h4.readsN R3.out.2
        obtain ⟨a1, ac1, rfl, _, _⟩ := h4.drop.readsN R1.out.2
        obtain ⟨a0, ac0, rfl, _, _⟩ := h4.drop.drop.readsN R0.out.2
        have HM_53 := Aside0.mk h4
        clear h4
        obtain ⟨gz_54, hz_55⟩ : ∃ q, w_52.heap.size = q := ⟨_, rfl⟩
        refine hK_.out _ _ ((by rw [HCA.out]; exact (HM_53.out.up 5).get)) (fun hS_ => ?_)
        clear hK_ K_ hS
        have hS := hS_
        clear hS_
        try simp only [Act.put, List.setIfInBounds_toArray, List.set_cons_zero, List.set_cons_succ]
        refine wpAnyH_ready (rs := [5, 7]) (by kernel_rfl) (by simp) ?_
        refine AllReadyH.cons rfl (fun K_ hK_ => ?_) (AllReadyH.cons rfl (fun K_ hK_ => ?_) AllReadyH.nil)
        · go_simp
          refine (Copy_call HM_53.out B0 B1 B3 n0 n1 n3 d0 d1 d3 fl ws rs cs R0.out.1 R1.out.1 R3.out.1 HSM.out.2.1 HSM.out.2.2.1 HSM.out.2.2.2 R0.out.2 R1.out.2 R3.out.2).mono ?_
          rintro e w_56 ⟨v0, v1, v3, rfl, h4⟩
          obtain ⟨b3, bc3, rfl, _, _⟩ := h4.readsN R3.out.2
          obtain ⟨b1, bc1, rfl, _, _⟩ := h4.drop.readsN R1.out.2
          obtain ⟨b0, bc0, rfl, _, _⟩ := h4.drop.drop.readsN R0.out.2
          have HM_57 := Aside0.mk h4
          clear h4
          obtain ⟨gz_58, hz_59⟩ : ∃ q, w_56.heap.size = q := ⟨_, rfl⟩
          refine hK_.out _ _ ((by rw [HCA.out]; exact (HM_57.out.up 8).get)) (fun hS_ => ?_)
          clear hK_ K_ hS
          have hS := hS_
          clear hS_
          try simp only [Act.put, List.setIfInBounds_toArray, List.set_cons_zero, List.set_cons_succ]
          refine wpAnyH_ready (rs := [7]) (by kernel_rfl) (by simp) ?_
          refine AllReadyH.cons rfl (fun K_ hK_ => ?_) AllReadyH.nil
          · go_simp
            have HM_60 := Aside0.mk (HM_57.out.new_ (g := gz_58) (.cells #[.slice none 0 0, .slice none 0 0, .int .i64 0, .slice none 0 0] 50) (by simp [hz_59]))
            refine hK_.out _ _ ((by rw [HCA.out]; exact (HM_60.out.up 9).get)) (fun hS_ => ?_)
            clear hK_ K_ hS
            have hS := hS_
            clear hS_
            try simp only [Act.put, List.setIfInBounds_toArray, List.set_cons_zero, List.set_cons_succ]
            refine wpAnyH_ready (rs := [8]) (by kernel_rfl) (by simp) ?_
            refine AllReadyH.cons rfl (fun K_ hK_ => ?_) AllReadyH.nil
            have hu_ := (HM_60.out.up 7)
            rw [if_pos (by rfl)]
            refine wp_store_row 50 (.tmp 7) (.tmp 26) rfl gz0 #[.slice a0 n0 ac0, .slice a1 n1 ac1, .int .i64 fl, .slice a3 n3 ac3] rfl rfl 50 #[.slice none 0 0, .slice none 0 0, .int .i64 0, .slice none 0 0] hu_.get i50 rfl (by simp [Value.oneCell']) ?_
            have HM_61 := Aside0.mk (putRow hu_ #[.slice a0 n0 ac0, .slice a1 n1 ac1, .int .i64 fl, .slice a3 n3 ac3])
            clear hu_
            refine hK_.out _ _ ((by rw [HCA.out]; exact (HM_61.out.up 9).get)) (fun hS_ => ?_)
            clear hK_ K_ hS
            have hS := hS_
            clear hS_
            try simp only [Act.put, List.setIfInBounds_toArray, List.set_cons_zero, List.set_cons_succ]
            refine wpAnyH_ready (rs := [9]) (by kernel_rfl) (by simp) ?_
            refine AllReadyH.cons rfl (fun K_ hK_ => ?_) AllReadyH.nil
            have hu_ := (HM_61.out.up 1)
            rw [if_pos (by rfl)]
            refine wp_store_row 50 (.tmp 8) (.tmp 29) rfl gz_58 #[.slice b0 n0 bc0, .slice b1 n1 bc1, .int .i64 fl, .slice b3 n3 bc3] rfl rfl 50 #[.slice none 0 0, .slice none 0 0, .int .i64 0, .slice none 0 0] hu_.get i50 rfl (by simp [Value.oneCell']) ?_
            have HM_62 := Aside0.mk (putRow hu_ #[.slice b0 n0 bc0, .slice b1 n1 bc1, .int .i64 fl, .slice b3 n3 bc3])
            clear hu_
            refine hK_.out _ _ ((by rw [HCA.out]; exact (HM_62.out.up 9).get)) (fun hS_ => ?_)
            clear hK_ K_ hS
            have hS := hS_
            clear hS_
            try simp only [Act.put, List.setIfInBounds_toArray, List.set_cons_zero, List.set_cons_succ]
            refine wpAnyH_done (by kernel_rfl) ?_ _
            have hbl_ := busL_of (gw := gz_58) (B := ⟨ws, rs, fl, cs⟩) (wv := .slice b0 n0 bc0) (rv := .slice b1 n1 bc1) (cv := .slice b3 n3 bc3) (L := [ob gz_58 (.cells #[.slice b0 n0 bc0, .slice b1 n1 bc1, .int .i64 fl, .slice b3 n3 bc3] 50), ob gz0 (.cells #[.slice a0 n0 ac0, .slice a1 n1 ac1, .int .i64 fl, .slice a3 n3 ac3] 50), row W k100 100 (.slice b3 n3 bc3) cs, row W (Kd.int .i16) 22 (.slice b0 n0 bc0) ws, row W k100 100 (.slice a3 n3 ac3) cs, row W (Kd.int .i16) 22 (.slice a1 n1 ac1) rs, row W (Kd.int .i16) 22 (.slice a0 n0 ac0) ws, ob (g + 1 + 1) (.cells #[.int .u8 (n : Int), .int .u8 (m : Int)] 67), ob (g + 1) (.cells CA 52), ob g (.cells (p.arr x) 47)]) (((((((((((HM_62.out.up 10).up 10).up 10).up 10).up 10).up 10).up 10).up 9).up 9).up 9).up 10)
            have hfin := Two.make (ga := gz0) (gb := gz_58) (A := ⟨ws, rs, fl, cs⟩) (B := ⟨ws, rs, fl, cs⟩) (wv := .slice a0 n0 ac0) (rv := .slice a1 n1 ac1) (cv := .slice a3 n3 ac3) (L := (ob (g + 1 + 1) (.cells #[.int .u8 (n : Int), .int .u8 (m : Int)] 67) :: ob (g + 1) (.cells CA 52) :: ob g (.cells (p.arr x) 47) :: [])) (C := [ob gz_58 (.cells #[.slice b0 n0 bc0, .slice b1 n1 bc1, .int .i64 fl, .slice b3 n3 bc3] 50), row W (Kd.int .i16) 22 (.slice b0 n0 bc0) ws, row W (Kd.int .i16) 22 (.slice b1 n1 bc1) rs, row W k100 100 (.slice b3 n3 bc3) cs]) (((((((((((HM_62.out.up 2).up 3).up 4).up 3).up 10).up 10).up 10).up 8).up 9).up 10).up 10) hbl_
            clear hbl_
            replace hfin := show Two W _ gz0 ⟨ws, rs, fl, cs⟩ gz_58 ⟨ws, rs, fl, cs⟩ (ob (g + 1 + 1) (.cells #[.int .u8 (n : Int), .int .u8 (m : Int)] 67) :: ob (g + 1) (.cells CA 52) :: ob g (.cells (p.arr x) 47) :: []) from hfin
            generalize World.setRow _ _ _ = wf at hfin ⊢
            exact KEY gz0 gz_58 wf a0 ac0 a1 ac1 a3 ac3 b0 bc0 b1 bc1 b3 bc3 hfin
        · go_simp
          have HM_63 := Aside0.mk (HM_53.out.new_ (g := gz_54) (.cells #[.slice none 0 0, .slice none 0 0, .int .i64 0, .slice none 0 0] 50) (by simp [hz_55]))
          refine hK_.out _ _ ((by rw [HCA.out]; exact (HM_63.out.up 6).get)) (fun hS_ => ?_)
          clear hK_ K_ hS
          have hS := hS_
          clear hS_
          try simp only [Act.put, List.setIfInBounds_toArray, List.set_cons_zero, List.set_cons_succ]
          refine wpAnyH_ready (rs := [5]) (by kernel_rfl) (by simp) ?_
          refine AllReadyH.cons rfl (fun K_ hK_ => ?_) AllReadyH.nil
          · go_simp
            refine (Copy_call HM_63.out B0 B1 B3 n0 n1 n3 d0 d1 d3 fl ws rs cs R0.out.1 R1.out.1 R3.out.1 HSM.out.2.1 HSM.out.2.2.1 HSM.out.2.2.2 R0.out.2 R1.out.2 R3.out.2).mono ?_
            rintro e w_64 ⟨v0, v1, v3, rfl, h4⟩
            obtain ⟨b3, bc3, rfl, _, _⟩ := h4.readsN R3.out.2
            obtain ⟨b1, bc1, rfl, _, _⟩ := h4.drop.readsN R1.out.2
            obtain ⟨b0, bc0, rfl, _, _⟩ := h4.drop.drop.readsN R0.out.2
            have HM_65 := Aside0.mk h4
            clear h4
            obtain ⟨gz_66, hz_67⟩ : ∃ q, w_64.heap.size = q := ⟨_, rfl⟩
            refine hK_.out _ _ ((by rw [HCA.out]; exact (HM_65.out.up 9).get)) (fun hS_ => ?_)
            clear hK_ K_ hS
            have hS := hS_
            clear hS_
            try simp only [Act.put, List.setIfInBounds_toArray, List.set_cons_zero, List.set_cons_succ]
            refine wpAnyH_ready (rs := [8]) (by kernel_rfl) (by simp) ?_
            refine AllReadyH.cons rfl (fun K_ hK_ => ?_) AllReadyH.nil
            have hu_ := (HM_65.out.up 7)
            rw [if_pos (by rfl)]
            refine wp_store_row 50 (.tmp 7) (.tmp 26) rfl gz0 #[.slice a0 n0 ac0, .slice a1 n1 ac1, .int .i64 fl, .slice a3 n3 ac3] rfl rfl 50 #[.slice none 0 0, .slice none 0 0, .int .i64 0, .slice none 0 0] hu_.get i50 rfl (by simp [Value.oneCell']) ?_
            have HM_68 := Aside0.mk (putRow hu_ #[.slice a0 n0 ac0, .slice a1 n1 ac1, .int .i64 fl, .slice a3 n3 ac3])
            clear hu_
            refine hK_.out _ _ ((by rw [HCA.out]; exact (HM_68.out.up 9).get)) (fun hS_ => ?_)
            clear hK_ K_ hS
            have hS := hS_
            clear hS_
            try simp only [Act.put, List.setIfInBounds_toArray, List.set_cons_zero, List.set_cons_succ]
            refine wpAnyH_ready (rs := [9]) (by kernel_rfl) (by simp) ?_
            refine AllReadyH.cons rfl (fun K_ hK_ => ?_) AllReadyH.nil
            have hu_ := (HM_68.out.up 4)
            rw [if_pos (by rfl)]
            refine wp_store_row 50 (.tmp 8) (.tmp 29) rfl gz_54 #[.slice b0 n0 bc0, .slice b1 n1 bc1, .int .i64 fl, .slice b3 n3 bc3] rfl rfl 50 #[.slice none 0 0, .slice none 0 0, .int .i64 0, .slice none 0 0] hu_.get i50 rfl (by simp [Value.oneCell']) ?_
            have HM_69 := Aside0.mk (putRow hu_ #[.slice b0 n0 bc0, .slice b1 n1 bc1, .int .i64 fl, .slice b3 n3 bc3])
            clear hu_
            refine hK_.out _ _ ((by rw [HCA.out]; exact (HM_69.out.up 9).get)) (fun hS_ => ?_)
            clear hK_ K_ hS
            have hS := hS_
            clear hS_
            try simp only [Act.put, List.setIfInBounds_toArray, List.set_cons_zero, List.set_cons_succ]
            refine wpAnyH_done (by kernel_rfl) ?_ _
            have hbl_ := busL_of (gw := gz_54) (B := ⟨ws, rs, fl, cs⟩) (wv := .slice b0 n0 bc0) (rv := .slice b1 n1 bc1) (cv := .slice b3 n3 bc3) (L := [ob gz_54 (.cells #[.slice b0 n0 bc0, .slice b1 n1 bc1, .int .i64 fl, .slice b3 n3 bc3] 50), ob gz0 (.cells #[.slice a0 n0 ac0, .slice a1 n1 ac1, .int .i64 fl, .slice a3 n3 ac3] 50), row W k100 100 (.slice b3 n3 bc3) cs, row W (Kd.int .i16) 22 (.slice b0 n0 bc0) ws, row W k100 100 (.slice a3 n3 ac3) cs, row W (Kd.int .i16) 22 (.slice a1 n1 ac1) rs, row W (Kd.int .i16) 22 (.slice a0 n0 ac0) ws, ob (g + 1 + 1) (.cells #[.int .u8 (n : Int), .int .u8 (m : Int)] 67), ob (g + 1) (.cells CA 52), ob g (.cells (p.arr x) 47)]) (((((((((((HM_69.out.up 10).up 10).up 10).up 10).up 10).up 10).up 10).up 9).up 9).up 9).up 10)
            have hfin := Two.make (ga := gz0) (gb := gz_54) (A := ⟨ws, rs, fl, cs⟩) (B := ⟨ws, rs, fl, cs⟩) (wv := .slice a0 n0 ac0) (rv := .slice a1 n1 ac1) (cv := .slice a3 n3 ac3) (L := (ob (g + 1 + 1) (.cells #[.int .u8 (n : Int), .int .u8 (m : Int)] 67) :: ob (g + 1) (.cells CA 52) :: ob g (.cells (p.arr x) 47) :: [])) (C := [ob gz_54 (.cells #[.slice b0 n0 bc0, .slice b1 n1 bc1, .int .i64 fl, .slice b3 n3 bc3] 50), row W (Kd.int .i16) 22 (.slice b0 n0 bc0) ws, row W (Kd.int .i16) 22 (.slice b1 n1 bc1) rs, row W k100 100 (.slice b3 n3 bc3) cs]) (((((((((((HM_69.out.up 2).up 3).up 4).up 3).up 10).up 10).up 10).up 8).up 9).up 10).up 10) hbl_
            clear hbl_
            replace hfin := show Two W _ gz0 ⟨ws, rs, fl, cs⟩ gz_54 ⟨ws, rs, fl, cs⟩ (ob (g + 1 + 1) (.cells #[.int .u8 (n : Int), .int .u8 (m : Int)] 67) :: ob (g + 1) (.cells CA 52) :: ob g (.cells (p.arr x) 47) :: []) from hfin
            generalize World.setRow _ _ _ = wf at hfin ⊢
            exact KEY gz0 gz_54 wf a0 ac0 a1 ac1 a3 ac3 b0 bc0 b1 bc1 b3 bc3 hfin
      · go_simp
        have HM_70 := Aside0.mk (HM_51.out.new_ (g := (gz0 + 1)) (.cells #[.slice none 0 0, .slice none 0 0, .int .i64 0, .slice none 0 0] 50) (by simp [hz0]))
        refine hK_.out _ _ ((by rw [HCA.out]; exact (HM_70.out.up 3).get)) (fun hS_ => ?_)
        clear hK_ K_ hS
        have hS := hS_
        clear hS_
        try simp only [Act.put, List.setIfInBounds_toArray, List.set_cons_zero, List.set_cons_succ]
        refine wpAnyH_ready (rs := [2]) (by kernel_rfl) (by simp) ?_
        refine AllReadyH.cons rfl (fun K_ hK_ => ?_) AllReadyH.nil
        · go_simp
          refine (Copy_call HM_70.out B0 B1 B3 n0 n1 n3 d0 d1 d3 fl ws rs cs R0.out.1 R1.out.1 R3.out.1 HSM.out.2.1 HSM.out.2.2.1 HSM.out.2.2.2 R0.out.2 R1.out.2 R3.out.2).mono ?_
          rintro e w_71 ⟨v0, v1, v3, rfl, h4⟩
          obtain ⟨a3, ac3, rfl, _, _⟩ := h4.readsN R3.out.2
          obtain ⟨a1, ac1, rfl, _, _⟩ := h4.drop.readsN R1.out.2
          obtain ⟨a0, ac0, rfl, _, _⟩ := h4.drop.drop.readsN R0.out.2
          have HM_72 := Aside0.mk h4
          clear h4
          obtain ⟨gz_73, hz_74⟩ : ∃ q, w_71.heap.size = q := ⟨_, rfl⟩
          refine hK_.out _ _ ((by rw [HCA.out]; exact (HM_72.out.up 6).get)) (fun hS_ => ?_)
          clear hK_ K_ hS
          have hS := hS_
          clear hS_
          try simp only [Act.put, List.setIfInBounds_toArray, List.set_cons_zero, List.set_cons_succ]
          refine wpAnyH_ready (rs := [5]) (by kernel_rfl) (by simp) ?_
          refine AllReadyH.cons rfl (fun K_ hK_ => ?_) AllReadyH.nil
          · go_simp
            refine (Copy_call HM_72.out B0 B1 B3 n0 n1 n3 d0 d1 d3 fl ws rs cs R0.out.1 R1.out.1 R3.out.1 HSM.out.2.1 HSM.out.2.2.1 HSM.out.2.2.2 R0.out.2 R1.out.2 R3.out.2).mono ?_
            rintro e w_75 ⟨v0, v1, v3, rfl, h4⟩
            obtain ⟨b3, bc3, rfl, _, _⟩ := h4.readsN R3.out.2
            obtain ⟨b1, bc1, rfl, _, _⟩ := h4.drop.readsN R1.out.2
            obtain ⟨b0, bc0, rfl, _, _⟩ := h4.drop.drop.readsN R0.out.2
            have HM_76 := Aside0.mk h4
            clear h4
            obtain ⟨gz_77, hz_78⟩ : ∃ q, w_75.heap.size = q := ⟨_, rfl⟩
            refine hK_.out _ _ ((by rw [HCA.out]; exact (HM_76.out.up 9).get)) (fun hS_ => ?_)
            clear hK_ K_ hS
            have hS := hS_
            clear hS_
            try simp only [Act.put, List.setIfInBounds_toArray, List.set_cons_zero, List.set_cons_succ]
            refine wpAnyH_ready (rs := [8]) (by kernel_rfl) (by simp) ?_
            refine AllReadyH.cons rfl (fun K_ hK_ => ?_) AllReadyH.nil
            have hu_ := (HM_76.out.up 7)
            rw [if_pos (by rfl)]
            refine wp_store_row 50 (.tmp 7) (.tmp 26) rfl gz0 #[.slice a0 n0 ac0, .slice a1 n1 ac1, .int .i64 fl, .slice a3 n3 ac3] rfl rfl 50 #[.slice none 0 0, .slice none 0 0, .int .i64 0, .slice none 0 0] hu_.get i50 rfl (by simp [Value.oneCell']) ?_
            have HM_79 := Aside0.mk (putRow hu_ #[.slice a0 n0 ac0, .slice a1 n1 ac1, .int .i64 fl, .slice a3 n3 ac3])
            clear hu_
            refine hK_.out _ _ ((by rw [HCA.out]; exact (HM_79.out.up 9).get)) (fun hS_ => ?_)
            clear hK_ K_ hS
            have hS := hS_
            clear hS_
            try simp only [Act.put, List.setIfInBounds_toArray, List.set_cons_zero, List.set_cons_succ]
            refine wpAnyH_ready (rs := [9]) (by kernel_rfl) (by simp) ?_
            refine AllReadyH.cons rfl (fun K_ hK_ => ?_) AllReadyH.nil
            have hu_ := (HM_79.out.up 7)
            rw [if_pos (by rfl)]
            refine wp_store_row 50 (.tmp 8) (.tmp 29) rfl (gz0 + 1) #[.slice b0 n0 bc0, .slice b1 n1 bc1, .int .i64 fl, .slice b3 n3 bc3] rfl rfl 50 #[.slice none 0 0, .slice none 0 0, .int .i64 0, .slice none 0 0] hu_.get i50 rfl (by simp [Value.oneCell']) ?_
            have HM_80 := Aside0.mk (putRow hu_ #[.slice b0 n0 bc0, .slice b1 n1 bc1, .int .i64 fl, .slice b3 n3 bc3])
            clear hu_
            refine hK_.out _ _ ((by rw [HCA.out]; exact (HM_80.out.up 9).get)) (fun hS_ => ?_)
            clear hK_ K_ hS
            have hS := hS_
            clear hS_
            try simp only [Act.put, List.setIfInBounds_toArray, List.set_cons_zero, List.set_cons_succ]
            refine wpAnyH_done (by kernel_rfl) ?_ _
            have hbl_ := busL_of (gw := (gz0 + 1)) (B := ⟨ws, rs, fl, cs⟩) (wv := .slice b0 n0 bc0) (rv := .slice b1 n1 bc1) (cv := .slice b3 n3 bc3) (L := [ob (gz0 + 1) (.cells #[.slice b0 n0 bc0, .slice b1 n1 bc1, .int .i64 fl, .slice b3 n3 bc3] 50), ob gz0 (.cells #[.slice a0 n0 ac0, .slice a1 n1 ac1, .int .i64 fl, .slice a3 n3 ac3] 50), row W k100 100 (.slice b3 n3 bc3) cs, row W (Kd.int .i16) 22 (.slice b0 n0 bc0) ws, row W k100 100 (.slice a3 n3 ac3) cs, row W (Kd.int .i16) 22 (.slice a1 n1 ac1) rs, row W (Kd.int .i16) 22 (.slice a0 n0 ac0) ws, ob (g + 1 + 1) (.cells #[.int .u8 (n : Int), .int .u8 (m : Int)] 67), ob (g + 1) (.cells CA 52), ob g (.cells (p.arr x) 47)]) (((((((((((HM_80.out.up 10).up 10).up 10).up 10).up 10).up 10).up 10).up 9).up 9).up 9).up 10)
            have hfin := Two.make (ga := gz0) (gb := (gz0 + 1)) (A := ⟨ws, rs, fl, cs⟩) (B := ⟨ws, rs, fl, cs⟩) (wv := .slice a0 n0 ac0) (rv := .slice a1 n1 ac1) (cv := .slice a3 n3 ac3) (L := (ob (g + 1 + 1) (.cells #[.int .u8 (n : Int), .int .u8 (m : Int)] 67) :: ob (g + 1) (.cells CA 52) :: ob g (.cells (p.arr x) 47) :: [])) (C := [ob (gz0 + 1) (.cells #[.slice b0 n0 bc0, .slice b1 n1 bc1, .int .i64 fl, .slice b3 n3 bc3] 50), row W (Kd.int .i16) 22 (.slice b0 n0 bc0) ws, row W (Kd.int .i16) 22 (.slice b1 n1 bc1) rs, row W k100 100 (.slice b3 n3 bc3) cs]) (((((((((((HM_80.out.up 2).up 3).up 4).up 3).up 10).up 10).up 10).up 8).up 9).up 10).up 10) hbl_
            clear hbl_
            replace hfin := show Two W _ gz0 ⟨ws, rs, fl, cs⟩ (gz0 + 1) ⟨ws, rs, fl, cs⟩ (ob (g + 1 + 1) (.cells #[.int .u8 (n : Int), .int .u8 (m : Int)] 67) :: ob (g + 1) (.cells CA 52) :: ob g (.cells (p.arr x) 47) :: []) from hfin
            generalize gz0 + 1 = gq_81 at hfin ⊢
            generalize World.setRow _ _ _ = wf at hfin ⊢
            exact KEY gz0 gq_81 wf a0 ac0 a1 ac1 a3 ac3 b0 bc0 b1 bc1 b3 bc3 hfin
    · go_simp
      have HM_82 := Aside0.mk (H3D.out.new_ (g := gz0) (.cells #[.slice none 0 0, .slice none 0 0, .int .i64 0, .slice none 0 0] 50) (by simp [hz0]))
      refine hK_.out _ _ ((by rw [HCA.out]; exact (HM_82.out.up 2).get)) (fun hS_ => ?_)
      clear hK_ K_ hS
      have hS := hS_
      clear hS_
      try simp only [Act.put, List.setIfInBounds_toArray, List.set_cons_zero, List.set_cons_succ]
      refine wpAnyH_ready (rs := [2, 6]) (by kernel_rfl) (by simp) ?_
      refine AllReadyH.cons rfl (fun K_ hK_ => ?_) (AllReadyH.cons rfl (fun K_ hK_ => ?_) AllReadyH.nil)
      · go_simp
        refine (Copy_call HM_82.out B0 B1 B3 n0 n1 n3 d0 d1 d3 fl ws rs cs R0.out.1 R1.out.1 R3.out.1 HSM.out.2.1 HSM.out.2.2.1 HSM.out.2.2.2 R0.out.2 R1.out.2 R3.out.2).mono ?_
        rintro e w_83 ⟨v0, v1, v3, rfl, h4⟩
        obtain ⟨a3, ac3, rfl, _, _⟩ := h4.readsN R3.out.2
        obtain ⟨a1, ac1, rfl, _, _⟩ := h4.drop.readsN R1.out.2
        obtain ⟨a0, ac0, rfl, _, _⟩ := h4.drop.drop.readsN R0.out.2
        have HM_84 := Aside0.mk h4
        clear h4
        obtain ⟨gz_85, hz_86⟩ : ∃ q, w_83.heap.size = q := ⟨_, rfl⟩
        refine hK_.out _ _ ((by rw [HCA.out]; exact (HM_84.out.up 5).get)) (fun hS_ => ?_)
        clear hK_ K_ hS
        have hS := hS_
        clear hS_
        try simp only [Act.put, List.setIfInBounds_toArray, List.set_cons_zero, List.set_cons_succ]
        refine wpAnyH_ready (rs := [5, 6]) (by kernel_rfl) (by simp) ?_
        refine AllReadyH.cons rfl (fun K_ hK_ => ?_) (AllReadyH.cons rfl (fun K_ hK_ => ?_) AllReadyH.nil)
        · go_simp
          refine (Copy_call HM_84.out B0 B1 B3 n0 n1 n3 d0 d1 d3 fl ws rs cs R0.out.1 R1.out.1 R3.out.1 HSM.out.2.1 HSM.out.2.2.1 HSM.out.2.2.2 R0.out.2 R1.out.2 R3.out.2).mono ?_
          rintro e w_87 ⟨v0, v1, v3, rfl, h4⟩
          obtain ⟨b3, bc3, rfl, _, _⟩ := h4.readsN R3.out.2
          obtain ⟨b1, bc1, rfl, _, _⟩ := h4.drop.readsN R1.out.2
          obtain ⟨b0, bc0, rfl, _, _⟩ := h4.drop.drop.readsN R0.out.2
          have HM_88 := Aside0.mk h4
          clear h4
          obtain ⟨gz_89, hz_90⟩ : ∃ q, w_87.heap.size = q := ⟨_, rfl⟩
          refine hK_.out _ _ ((by rw [HCA.out]; exact (HM_88.out.up 8).get)) (fun hS_ => ?_)
          clear hK_ K_ hS
          have hS := hS_
          clear hS_
          try simp only [Act.put, List.setIfInBounds_toArray, List.set_cons_zero, List.set_cons_succ]
          refine wpAnyH_ready (rs := [6]) (by kernel_rfl) (by simp) ?_
          refine AllReadyH.cons rfl (fun K_ hK_ => ?_) AllReadyH.nil
          · go_simp
            have HM_91 := Aside0.mk (HM_88.out.new_ (g := gz_89) (.cells #[.slice none 0 0, .slice none 0 0, .int .i64 0, .slice none 0 0] 50) (by simp [hz_90]))
            refine hK_.out _ _ ((by rw [HCA.out]; exact (HM_91.out.up 9).get)) (fun hS_ => ?_)
            clear hK_ K_ hS
            have hS := hS_
            clear hS_
            try simp only [Act.put, List.setIfInBounds_toArray, List.set_cons_zero, List.set_cons_succ]
            refine wpAnyH_ready (rs := [8]) (by kernel_rfl) (by simp) ?_
            refine AllReadyH.cons rfl (fun K_ hK_ => ?_) AllReadyH.nil
            have hu_ := (HM_91.out.up 0)
            rw [if_pos (by rfl)]
            refine wp_store_row 50 (.tmp 7) (.tmp 26) rfl gz_89 #[.slice a0 n0 ac0, .slice a1 n1 ac1, .int .i64 fl, .slice a3 n3 ac3] rfl rfl 50 #[.slice none 0 0, .slice none 0 0, .int .i64 0, .slice none 0 0] hu_.get i50 rfl (by simp [Value.oneCell']) ?_
            have HM_92 := Aside0.mk (putRow hu_ #[.slice a0 n0 ac0, .slice a1 n1 ac1, .int .i64 fl, .slice a3 n3 ac3])
            clear hu_
            refine hK_.out _ _ ((by rw [HCA.out]; exact (HM_92.out.up 9).get)) (fun hS_ => ?_)
            clear hK_ K_ hS
            have hS := hS_
            clear hS_
            try simp only [Act.put, List.setIfInBounds_toArray, List.set_cons_zero, List.set_cons_succ]
            refine wpAnyH_ready (rs := [9]) (by kernel_rfl) (by simp) ?_
            refine AllReadyH.cons rfl (fun K_ hK_ => ?_) AllReadyH.nil
            have hu_ := (HM_92.out.up 7)
            rw [if_pos (by rfl)]
            refine wp_store_row 50 (.tmp 8) (.tmp 29) rfl gz0 #[.slice b0 n0 bc0, .slice b1 n1 bc1, .int .i64 fl, .slice b3 n3 bc3] rfl rfl 50 #[.slice none 0 0, .slice none 0 0, .int .i64 0, .slice none 0 0] hu_.get i50 rfl (by simp [Value.oneCell']) ?_
            have HM_93 := Aside0.mk (putRow hu_ #[.slice b0 n0 bc0, .slice b1 n1 bc1, .int .i64 fl, .slice b3 n3 bc3])
            clear hu_
            refine hK_.out _ _ ((by rw [HCA.out]; exact (HM_93.out.up 9).get)) (fun hS_ => ?_)
            clear hK_ K_ hS
            have hS := hS_
            clear hS_
            try simp only [Act.put, List.setIfInBounds_toArray, List.set_cons_zero, List.set_cons_succ]
            refine wpAnyH_done (by kernel_rfl) ?_ _
            have hbl_ := busL_of (gw := gz0) (B := ⟨ws, rs, fl, cs⟩) (wv := .slice b0 n0 bc0) (rv := .slice b1 n1 bc1) (cv := .slice b3 n3 bc3) (L := [ob gz0 (.cells #[.slice b0 n0 bc0, .slice b1 n1 bc1, .int .i64 fl, .slice b3 n3 bc3] 50), ob gz_89 (.cells #[.slice a0 n0 ac0, .slice a1 n1 ac1, .int .i64 fl, .slice a3 n3 ac3] 50), row W k100 100 (.slice b3 n3 bc3) cs, row W (Kd.int .i16) 22 (.slice b0 n0 bc0) ws, row W k100 100 (.slice a3 n3 ac3) cs, row W (Kd.int .i16) 22 (.slice a1 n1 ac1) rs, row W (Kd.int .i16) 22 (.slice a0 n0 ac0) ws, ob (g + 1 + 1) (.cells #[.int .u8 (n : Int), .int .u8 (m : Int)] 67), ob (g + 1) (.cells CA 52), ob g (.cells (p.arr x) 47)]) (((((((((((HM_93.out.up 10).up 10).up 10).up 10).up 10).up 10).up 10).up 9).up 9).up 9).up 10)
            have hfin := Two.make (ga := gz_89) (gb := gz0) (A := ⟨ws, rs, fl, cs⟩) (B := ⟨ws, rs, fl, cs⟩) (wv := .slice a0 n0 ac0) (rv := .slice a1 n1 ac1) (cv := .slice a3 n3 ac3) (L := (ob (g + 1 + 1) (.cells #[.int .u8 (n : Int), .int .u8 (m : Int)] 67) :: ob (g + 1) (.cells CA 52) :: ob g (.cells (p.arr x) 47) :: [])) (C := [ob gz0 (.cells #[.slice b0 n0 bc0, .slice b1 n1 bc1, .int .i64 fl, .slice b3 n3 bc3] 50), row W (Kd.int .i16) 22 (.slice b0 n0 bc0) ws, row W (Kd.int .i16) 22 (.slice b1 n1 bc1) rs, row W k100 100 (.slice b3 n3 bc3) cs]) (((((((((((HM_93.out.up 2).up 3).up 4).up 3).up 10).up 10).up 10).up 8).up 9).up 10).up 10) hbl_
            clear hbl_
            replace hfin := show Two W _ gz_89 ⟨ws, rs, fl, cs⟩ gz0 ⟨ws, rs, fl, cs⟩ (ob (g + 1 + 1) (.cells #[.int .u8 (n : Int), .int .u8 (m : Int)] 67) :: ob (g + 1) (.cells CA 52) :: ob g (.cells (p.arr x) 47) :: []) from hfin
            generalize World.setRow _ _ _ = wf at hfin ⊢
            exact KEY gz_89 gz0 wf a0 ac0 a1 ac1 a3 ac3 b0 bc0 b1 bc1 b3 bc3 hfin
        · go_simp
          have HM_94 := Aside0.mk (HM_84.out.new_ (g := gz_85) (.cells #[.slice none 0 0, .slice none 0 0, .int .i64 0, .slice none 0 0] 50) (by simp [hz_86]))
          refine hK_.out _ _ ((by rw [HCA.out]; exact (HM_94.out.up 6).get)) (fun hS_ => ?_)
          clear hK_ K_ hS
          have hS := hS_
          clear hS_
          try simp only [Act.put, List.setIfInBounds_toArray, List.set_cons_zero, List.set_cons_succ]
          refine wpAnyH_ready (rs := [5]) (by kernel_rfl) (by simp) ?_
          refine AllReadyH.cons rfl (fun K_ hK_ => ?_) AllReadyH.nil
          · go_simp
            refine (Copy_call HM_94.out B0 B1 B3 n0 n1 n3 d0 d1 d3 fl ws rs cs R0.out.1 R1.out.1 R3.out.1 HSM.out.2.1 HSM.out.2.2.1 HSM.out.2.2.2 R0.out.2 R1.out.2 R3.out.2).mono ?_
            rintro e w_95 ⟨v0, v1, v3, rfl, h4⟩
            obtain ⟨b3, bc3, rfl, _, _⟩ := h4.readsN R3.out.2
            obtain ⟨b1, bc1, rfl, _, _⟩ := h4.drop.readsN R1.out.2
            obtain ⟨b0, bc0, rfl, _, _⟩ := h4.drop.drop.readsN R0.out.2
            have HM_96 := Aside0.mk h4
            clear h4
            obtain ⟨gz_97, hz_98⟩ : ∃ q, w_95.heap.size = q := ⟨_, rfl⟩
            refine hK_.out _ _ ((by rw [HCA.out]; exact (HM_96.out.up 9).get)) (fun hS_ => ?_)
            clear hK_ K_ hS
            have hS := hS_
            clear hS_
            try simp only [Act.put, List.setIfInBounds_toArray, List.set_cons_zero, List.set_cons_succ]
            refine wpAnyH_ready (rs := [8]) (by kernel_rfl) (by simp) ?_
            refine AllReadyH.cons rfl (fun K_ hK_ => ?_) AllReadyH.nil
            have hu_ := (HM_96.out.up 3)
            rw [if_pos (by rfl)]
            refine wp_store_row 50 (.tmp 7) (.tmp 26) rfl gz_85 #[.slice a0 n0 ac0, .slice a1 n1 ac1, .int .i64 fl, .slice a3 n3 ac3] rfl rfl 50 #[.slice none 0 0, .slice none 0 0, .int .i64 0, .slice none 0 0] hu_.get i50 rfl (by simp [Value.oneCell']) ?_
            have HM_99 := Aside0.mk (putRow hu_ #[.slice a0 n0 ac0, .slice a1 n1 ac1, .int .i64 fl, .slice a3 n3 ac3])
            clear hu_
            refine hK_.out _ _ ((by rw [HCA.out]; exact (HM_99.out.up 9).get)) (fun hS_ => ?_)
            clear hK_ K_ hS
            have hS := hS_
            clear hS_
            try simp only [Act.put, List.setIfInBounds_toArray, List.set_cons_zero, List.set_cons_succ]
            refine wpAnyH_ready (rs := [9]) (by kernel_rfl) (by simp) ?_
            refine AllReadyH.cons rfl (fun K_ hK_ => ?_) AllReadyH.nil
            have hu_ := (HM_99.out.up 7)
            rw [if_pos (by rfl)]
            refine wp_store_row 50 (.tmp 8) (.tmp 29) rfl gz0 #[.slice b0 n0 bc0, .slice b1 n1 bc1, .int .i64 fl, .slice b3 n3 bc3] rfl rfl 50 #[.slice none 0 0, .slice none 0 0, .int .i64 0, .slice none 0 0] hu_.get i50 rfl (by simp [Value.oneCell']) ?_
            have HM_100 := Aside0.mk (putRow hu_ #[.slice b0 n0 bc0, .slice b1 n1 bc1, .int .i64 fl, .slice b3 n3 bc3])
            clear hu_
            refine hK_.out _ _ ((by rw [HCA.out]; exact (HM_100.out.up 9).get)) (fun hS_ => ?_)
            clear hK_ K_ hS
            have hS := hS_
            clear hS_
            try simp only [Act.put, List.setIfInBounds_toArray, List.set_cons_zero, List.set_cons_succ]
            refine wpAnyH_done (by kernel_rfl) ?_ _
            have hbl_ := busL_of (gw := gz0) (B := ⟨ws, rs, fl, cs⟩) (wv := .slice b0 n0 bc0) (rv := .slice b1 n1 bc1) (cv := .slice b3 n3 bc3) (L := [ob gz0 (.cells #[.slice b0 n0 bc0, .slice b1 n1 bc1, .int .i64 fl, .slice b3 n3 bc3] 50), ob gz_85 (.cells #[.slice a0 n0 ac0, .slice a1 n1 ac1, .int .i64 fl, .slice a3 n3 ac3] 50), row W k100 100 (.slice b3 n3 bc3) cs, row W (Kd.int .i16) 22 (.slice b0 n0 bc0) ws, row W k100 100 (.slice a3 n3 ac3) cs, row W (Kd.int .i16) 22 (.slice a1 n1 ac1) rs, row W (Kd.int .i16) 22 (.slice a0 n0 ac0) ws, ob (g + 1 + 1) (.cells #[.int .u8 (n : Int), .int .u8 (m : Int)] 67), ob (g + 1) (.cells CA 52), ob g (.cells (p.arr x) 47)]) (((((((((((HM_100.out.up 10).up 10).up 10).up 10).up 10).up 10).up 10).up 9).up 9).up 9).up 10)
            have hfin := Two.make (ga := gz_85) (gb := gz0) (A := ⟨ws, rs, fl, cs⟩) (B := ⟨ws, rs, fl, cs⟩) (wv := .slice a0 n0 ac0) (rv := .slice a1 n1 ac1) (cv := .slice a3 n3 ac3) (L := (ob (g + 1 + 1) (.cells #[.int .u8 (n : Int), .int .u8 (m : Int)] 67) :: ob (g + 1) (.cells CA 52) :: ob g (.cells (p.arr x) 47) :: [])) (C := [ob gz0 (.cells #[.slice b0 n0 bc0, .slice b1 n1 bc1, .int .i64 fl, .slice b3 n3 bc3] 50), row W (Kd.int .i16) 22 (.slice b0 n0 bc0) ws, row W (Kd.int .i16) 22 (.slice b1 n1 bc1) rs, row W k100 100 (.slice b3 n3 bc3) cs]) (((((((((((HM_100.out.up 2).up 3).up 4).up 3).up 10).up 10).up 10).up 8).up 9).up 10).up 10) hbl_
            clear hbl_
            replace hfin := show Two W _ gz_85 ⟨ws, rs, fl, cs⟩ gz0 ⟨ws, rs, fl, cs⟩ (ob (g + 1 + 1) (.cells #[.int .u8 (n : Int), .int .u8 (m : Int)] 67) :: ob (g + 1) (.cells CA 52) :: ob g (.cells (p.arr x) 47) :: []) from hfin
            generalize World.setRow _ _ _ = wf at hfin ⊢
            exact KEY gz_85 gz0 wf a0 ac0 a1 ac1 a3 ac3 b0 bc0 b1 bc1 b3 bc3 hfin
      · go_simp
        have HM_101 := Aside0.mk (HM_82.out.new_ (g := (gz0 + 1)) (.cells #[.slice none 0 0, .slice none 0 0, .int .i64 0, .slice none 0 0] 50) (by simp [hz0]))
        refine hK_.out _ _ ((by rw [HCA.out]; exact (HM_101.out.up 3).get)) (fun hS_ => ?_)
        clear hK_ K_ hS
        have hS := hS_
        clear hS_
        try simp only [Act.put, List.setIfInBounds_toArray, List.set_cons_zero, List.set_cons_succ]
        refine wpAnyH_ready (rs := [2]) (by kernel_rfl) (by simp) ?_
        refine AllReadyH.cons rfl (fun K_ hK_ => ?_) AllReadyH.nil
        · go_simp
          refine (Copy_call HM_101.out B0 B1 B3 n0 n1 n3 d0 d1 d3 fl ws rs cs R0.out.1 R1.out.1 R3.out.1 HSM.out.2.1 HSM.out.2.2.1 HSM.out.2.2.2 R0.out.2 R1.out.2 R3.out.2).mono ?_
          rintro e w_102 ⟨v0, v1, v3, rfl, h4⟩
          obtain ⟨a3, ac3, rfl, _, _⟩ := h4.readsN R3.out.2
          obtain ⟨a1, ac1, rfl, _, _⟩ := h4.drop.readsN R1.out.2
          obtain ⟨a0, ac0, rfl, _, _⟩ := h4.drop.drop.readsN R0.out.2
          have HM_103 := Aside0.mk h4
          clear h4
          obtain ⟨gz_104, hz_105⟩ : ∃ q, w_102.heap.size = q := ⟨_, rfl⟩
          refine hK_.out _ _ ((by rw [HCA.out]; exact (HM_103.out.up 6).get)) (fun hS_ => ?_)
          clear hK_ K_ hS
          have hS := hS_
          clear hS_
          try simp only [Act.put, List.setIfInBounds_toArray, List.set_cons_zero, List.set_cons_succ]
          refine wpAnyH_ready (rs := [5]) (by kernel_rfl) (by simp) ?_
          refine AllReadyH.cons rfl (fun K_ hK_ => ?_) AllReadyH.nil
          · go_simp
            refine (Copy_call HM_103.out B0 B1 B3 n0 n1 n3 d0 d1 d3 fl ws rs cs R0.out.1 R1.out.1 R3.out.1 HSM.out.2.1 HSM.out.2.2.1 HSM.out.2.2.2 R0.out.2 R1.out.2 R3.out.2).mono ?_
            rintro e w_106 ⟨v0, v1, v3, rfl, h4⟩
            obtain ⟨b3, bc3, rfl, _, _⟩ := h4.readsN R3.out.2
            obtain ⟨b1, bc1, rfl, _, _⟩ := h4.drop.readsN R1.out.2
            obtain ⟨b0, bc0, rfl, _, _⟩ := h4.drop.drop.readsN R0.out.2
            have HM_107 := Aside0.mk h4
            clear h4
            obtain ⟨gz_108, hz_109⟩ : ∃ q, w_106.heap.size = q := ⟨_, rfl⟩
            refine hK_.out _ _ ((by rw [HCA.out]; exact (HM_107.out.up 9).get)) (fun hS_ => ?_)
            clear hK_ K_ hS
            have hS := hS_
            clear hS_
            try simp only [Act.put, List.setIfInBounds_toArray, List.set_cons_zero, List.set_cons_succ]
            refine wpAnyH_ready (rs := [8]) (by kernel_rfl) (by simp) ?_
            refine AllReadyH.cons rfl (fun K_ hK_ => ?_) AllReadyH.nil
            have hu_ := (HM_107.out.up 6)
            rw [if_pos (by rfl)]
            refine wp_store_row 50 (.tmp 7) (.tmp 26) rfl (gz0 + 1) #[.slice a0 n0 ac0, .slice a1 n1 ac1, .int .i64 fl, .slice a3 n3 ac3] rfl rfl 50 #[.slice none 0 0, .slice none 0 0, .int .i64 0, .slice none 0 0] hu_.get i50 rfl (by simp [Value.oneCell']) ?_
            have HM_110 := Aside0.mk (putRow hu_ #[.slice a0 n0 ac0, .slice a1 n1 ac1, .int .i64 fl, .slice a3 n3 ac3])
            clear hu_
            refine hK_.out _ _ ((by rw [HCA.out]; exact (HM_110.out.up 9).get)) (fun hS_ => ?_)
            clear hK_ K_ hS
            have hS := hS_
            clear hS_
            try simp only [Act.put, List.setIfInBounds_toArray, List.set_cons_zero, List.set_cons_succ]
            refine wpAnyH_ready (rs := [9]) (by kernel_rfl) (by simp) ?_
            refine AllReadyH.cons rfl (fun K_ hK_ => ?_) AllReadyH.nil
            have hu_ := (HM_110.out.up 7)
            rw [if_pos (by rfl)]
            refine wp_store_row 50 (.tmp 8) (.tmp 29) rfl gz0 #[.slice b0 n0 bc0, .slice b1 n1 bc1, .int .i64 fl, .slice b3 n3 bc3] rfl rfl 50 #[.slice none 0 0, .slice none 0 0, .int .i64 0, .slice none 0 0] hu_.get i50 rfl (by simp [Value.oneCell']) ?_
            have HM_111 := Aside0.mk (putRow hu_ #[.slice b0 n0 bc0, .slice b1 n1 bc1, .int .i64 fl, .slice b3 n3 bc3])
            clear hu_
            refine hK_.out _ _ ((by rw [HCA.out]; exact (HM_111.out.up 9).get)) (fun hS_ => ?_)
            clear hK_ K_ hS
            have hS := hS_
            clear hS_
            try simp only [Act.put, List.setIfInBounds_toArray, List.set_cons_zero, List.set_cons_succ]
            refine wpAnyH_done (by kernel_rfl) ?_ _
            have hbl_ := busL_of (gw := gz0) (B := ⟨ws, rs, fl, cs⟩) (wv := .slice b0 n0 bc0) (rv := .slice b1 n1 bc1) (cv := .slice b3 n3 bc3) (L := [ob gz0 (.cells #[.slice b0 n0 bc0, .slice b1 n1 bc1, .int .i64 fl, .slice b3 n3 bc3] 50), ob (gz0 + 1) (.cells #[.slice a0 n0 ac0, .slice a1 n1 ac1, .int .i64 fl, .slice a3 n3 ac3] 50), row W k100 100 (.slice b3 n3 bc3) cs, row W (Kd.int .i16) 22 (.slice b0 n0 bc0) ws, row W k100 100 (.slice a3 n3 ac3) cs, row W (Kd.int .i16) 22 (.slice a1 n1 ac1) rs, row W (Kd.int .i16) 22 (.slice a0 n0 ac0) ws, ob (g + 1 + 1) (.cells #[.int .u8 (n : Int), .int .u8 (m : Int)] 67), ob (g + 1) (.cells CA 52), ob g (.cells (p.arr x) 47)]) (((((((((((HM_111.out.up 10).up 10).up 10).up 10).up 10).up 10).up 10).up 9).up 9).up 9).up 10)
            have hfin := Two.make (ga := (gz0 + 1)) (gb := gz0) (A := ⟨ws, rs, fl, cs⟩) (B := ⟨ws, rs, fl, cs⟩) (wv := .slice a0 n0 ac0) (rv := .slice a1 n1 ac1) (cv := .slice a3 n3 ac3) (L := (ob (g + 1 + 1) (.cells #[.int .u8 (n : Int), .int .u8 (m : Int)] 67) :: ob (g + 1) (.cells CA 52) :: ob g (.cells (p.arr x) 47) :: [])) (C := [ob gz0 (.cells #[.slice b0 n0 bc0, .slice b1 n1 bc1, .int .i64 fl, .slice b3 n3 bc3] 50), row W (Kd.int .i16) 22 (.slice b0 n0 bc0) ws, row W (Kd.int .i16) 22 (.slice b1 n1 bc1) rs, row W k100 100 (.slice b3 n3 bc3) cs]) (((((((((((HM_111.out.up 2).up 3).up 4).up 3).up 10).up 10).up 10).up 8).up 9).up 10).up 10) hbl_
            clear hbl_
            replace hfin := show Two W _ (gz0 + 1) ⟨ws, rs, fl, cs⟩ gz0 ⟨ws, rs, fl, cs⟩ (ob (g + 1 + 1) (.cells #[.int .u8 (n : Int), .int .u8 (m : Int)] 67) :: ob (g + 1) (.cells CA 52) :: ob g (.cells (p.arr x) 47) :: []) from hfin
            generalize gz0 + 1 = gq_112 at hfin ⊢
            generalize World.setRow _ _ _ = wf at hfin ⊢
            exact KEY gq_112 gz0 wf a0 ac0 a1 ac1 a3 ac3 b0 bc0 b1 bc1 b3 bc3 hfin
  intro ga gb w4 a0 ac0 a1 ac1 a3 ac3 b0 bc0 b1 bc1 b3 bc3 h4
  have H4 := Aside0.mk h4
  clear h4 H2 H3 HC2 HAW
  generalize Bs.mk ws rs fl cs = B at *
  replace HB0 := Aside0.mk (HB0.out B rfl)
  try clear H3D hz0 gz0
  go_wp2_with fail
  obtain ⟨gz0, hz0⟩ : ∃ q, w4.heap.size = q := ⟨_, rfl⟩
  refine' share3 (R := fun gc gd w => Two W w ga B gb B (ob gc (.cells s.cells 32) :: ob gd (.cells s.cells 32) :: ob (g + 1 + 1) (.cells #[.int .u8 (n : Int), .int .u8 (m : Int)] 67) :: ob (g + 1) (.cells CA 52) :: ob g (.cells (p.arr x) 47) :: [])) (fun KEY => ?_) ?_
  rotate_left
  · obtain ⟨M, hml, hbk⟩ := H4.out.lift
    have HML := Aside0.mk hml
    have HBK := Aside0.mk hbk
    clear hml hbk
    refine wp_region_held_drew (S := fun w => w.heap[g + 1]? = some (.cells (caseA s [.slice B0 n0 d0, .slice B1 n1 d1, .int .i64 fl, .slice B3 n3 d3]) 52 (0, 0))) (by kernel_rfl) (by rw [HCA.out]; exact (HML.out.up 1).drew.get) (fun hS => ?_)
    refine wpAnyH_take (i := 0) (oi := { dst := some 30, op := Op.fieldAddr 52 (Operand.tmp 4) 0, type := 0, pos := "law.go:71", after := #[], guard := none }) (v := ?_) rfl (by kernel_rfl) (by kernel_rfl) (by kernel_rfl) (fun _ _ _ h => h) (Or.inl ⟨by rfl, ?_⟩) hS ?_
    rotate_left
    · intro W_ hSW_
      go_simp
      try with_reducible rfl
    try simp only [Act.put, List.setIfInBounds_toArray, List.set_cons_zero, List.set_cons_succ]
    refine wpAnyH_take (i := 1) (oi := { dst := some 31, op := Op.load 26 (Operand.tmp 30), type := 26, pos := "law.go:71", after := #[{ on := 0, ground := Ground.data }], guard := none }) (v := .agg s.cells) rfl (by kernel_rfl) (by kernel_rfl) (by kernel_rfl) (fun _ _ _ h => h) (yields_case0 (l := [.slice B0 n0 d0, .slice B1 n1 d1, .int .i64 fl, .slice B3 n3 d3]) (by rfl) _ rfl _ rfl HO.out (fun W_ hSW_ => hSW_)) hS ?_
    try simp only [Act.put, List.setIfInBounds_toArray, List.set_cons_zero, List.set_cons_succ]
    refine wpAnyH_take (i := 3) (oi := { dst := some 33, op := Op.fieldAddr 52 (Operand.tmp 4) 0, type := 0, pos := "law.go:71", after := #[], guard := none }) (v := ?_) rfl (by kernel_rfl) (by kernel_rfl) (by kernel_rfl) (fun _ _ _ h => h) (Or.inl ⟨by rfl, ?_⟩) hS ?_
    rotate_left
    · intro W_ hSW_
      go_simp
      try with_reducible rfl
    try simp only [Act.put, List.setIfInBounds_toArray, List.set_cons_zero, List.set_cons_succ]
    refine wpAnyH_take (i := 4) (oi := { dst := some 34, op := Op.load 26 (Operand.tmp 33), type := 26, pos := "law.go:71", after := #[{ on := 3, ground := Ground.data }], guard := none }) (v := .agg s.cells) rfl (by kernel_rfl) (by kernel_rfl) (by kernel_rfl) (fun _ _ _ h => h) (yields_case0 (l := [.slice B0 n0 d0, .slice B1 n1 d1, .int .i64 fl, .slice B3 n3 d3]) (by rfl) _ rfl _ rfl HO.out (fun W_ hSW_ => hSW_)) hS ?_
    try simp only [Act.put, List.setIfInBounds_toArray, List.set_cons_zero, List.set_cons_succ]
    have HM0_ := Aside0.mk HML.out.drew
    refine wpAnyH_ready (rs := [2, 6, 7]) (by kernel_rfl) (by simp) ?_
    refine AllReadyH.cons rfl (fun K_ hK_ => ?_) (AllReadyH.cons rfl (fun K_ hK_ => ?_) (AllReadyH.cons rfl (fun K_ hK_ => ?_) AllReadyH.nil))
    · go_simp
      refine (own_call HM0_.out HO.out).mono ?_
      rintro e w_114 ⟨rfl, h4⟩
      have HM_113 := Aside0.mk h4
      clear h4
      obtain ⟨gz_115, hz_116⟩ : ∃ q, w_114.heap.size = q := ⟨_, rfl⟩
      refine hK_.out _ _ ((by rw [HCA.out]; exact (HM_113.out.up 1).get)) (fun hS_ => ?_)
      clear hK_ K_ hS
      have hS := hS_
      clear hS_
      try simp only [Act.put, List.setIfInBounds_toArray, List.set_cons_zero, List.set_cons_succ]
      refine wpAnyH_ready (rs := [5, 6, 7]) (by kernel_rfl) (by simp) ?_
      refine AllReadyH.cons rfl (fun K_ hK_ => ?_) (AllReadyH.cons rfl (fun K_ hK_ => ?_) (AllReadyH.cons rfl (fun K_ hK_ => ?_) AllReadyH.nil))
      · go_simp
        refine (own_call HM_113.out HO.out).mono ?_
        rintro e w_118 ⟨rfl, h4⟩
        have HM_117 := Aside0.mk h4
        clear h4
        obtain ⟨gz_119, hz_120⟩ : ∃ q, w_118.heap.size = q := ⟨_, rfl⟩
        refine hK_.out _ _ ((by rw [HCA.out]; exact (HM_117.out.up 1).get)) (fun hS_ => ?_)
        clear hK_ K_ hS
        have hS := hS_
        clear hS_
        try simp only [Act.put, List.setIfInBounds_toArray, List.set_cons_zero, List.set_cons_succ]
        refine wpAnyH_ready (rs := [6, 7]) (by kernel_rfl) (by simp) ?_
        refine AllReadyH.cons rfl (fun K_ hK_ => ?_) (AllReadyH.cons rfl (fun K_ hK_ => ?_) AllReadyH.nil)
        · go_simp
          have HM_121 := Aside0.mk (HM_117.out.new_ (g := gz_119) (.cells Tryd.zeroCells32 32) (by simp [hz_120]))
          refine hK_.out _ _ ((by rw [HCA.out]; exact (HM_121.out.up 2).get)) (fun hS_ => ?_)
          clear hK_ K_ hS
          have hS := hS_
          clear hS_
          try simp only [Act.put, List.setIfInBounds_toArray, List.set_cons_zero, List.set_cons_succ]
          refine wpAnyH_ready (rs := [7]) (by kernel_rfl) (by simp) ?_
          refine AllReadyH.cons rfl (fun K_ hK_ => ?_) AllReadyH.nil
          · go_simp
            have HM_122 := Aside0.mk (HM_121.out.new_ (g := (gz_119 + 1)) (.cells Tryd.zeroCells32 32) (by simp [hz_120]))
            refine hK_.out _ _ ((by rw [HCA.out]; exact (HM_122.out.up 3).get)) (fun hS_ => ?_)
            clear hK_ K_ hS
            have hS := hS_
            clear hS_
            try simp only [Act.put, List.setIfInBounds_toArray, List.set_cons_zero, List.set_cons_succ]
            refine wpAnyH_ready (rs := [8]) (by kernel_rfl) (by simp) ?_
            refine AllReadyH.cons rfl (fun K_ hK_ => ?_) AllReadyH.nil
            have hu_ := (HM_122.out.up 1)
            rw [if_pos (by rfl)]
            refine wp_store32 (.tmp 9) (.tmp 32) rfl gz_119 rfl rfl HO.out Tryd.zeroCells32 zero32 hu_.get ?_
            have HM_123 := Aside0.mk (putRow hu_ s.cells)
            clear hu_
            refine hK_.out _ _ ((by rw [HCA.out]; exact (HM_123.out.up 3).get)) (fun hS_ => ?_)
            clear hK_ K_ hS
            have hS := hS_
            clear hS_
            try simp only [Act.put, List.setIfInBounds_toArray, List.set_cons_zero, List.set_cons_succ]
            refine wpAnyH_ready (rs := [9]) (by kernel_rfl) (by simp) ?_
            refine AllReadyH.cons rfl (fun K_ hK_ => ?_) AllReadyH.nil
            have hu_ := (HM_123.out.up 1)
            rw [if_pos (by rfl)]
            refine wp_store32 (.tmp 10) (.tmp 35) rfl (gz_119 + 1) rfl rfl HO.out Tryd.zeroCells32 zero32 hu_.get ?_
            have HM_124 := Aside0.mk (putRow hu_ s.cells)
            clear hu_
            refine hK_.out _ _ ((by rw [HCA.out]; exact (HM_124.out.up 3).get)) (fun hS_ => ?_)
            clear hK_ K_ hS
            have hS := hS_
            clear hS_
            try simp only [Act.put, List.setIfInBounds_toArray, List.set_cons_zero, List.set_cons_succ]
            refine wpAnyH_done (by kernel_rfl) ?_ _
            have hfin := HBK.out _ (ob gz_119 (.cells s.cells 32) :: ob (gz_119 + 1) (.cells s.cells 32) :: (ob (g + 1 + 1) (.cells #[.int .u8 (n : Int), .int .u8 (m : Int)] 67) :: ob (g + 1) (.cells CA 52) :: ob g (.cells (p.arr x) 47) :: [])) (((((HM_124.out.up 4).up 4).up 4).up 3).up 4)
            generalize gz_119 + 1 = gq_125 at hfin ⊢
            generalize World.setRow _ _ _ = wf at hfin ⊢
            exact KEY gz_119 gq_125 wf hfin
        · go_simp
          have HM_126 := Aside0.mk (HM_117.out.new_ (g := gz_119) (.cells Tryd.zeroCells32 32) (by simp [hz_120]))
          refine hK_.out _ _ ((by rw [HCA.out]; exact (HM_126.out.up 2).get)) (fun hS_ => ?_)
          clear hK_ K_ hS
          have hS := hS_
          clear hS_
          try simp only [Act.put, List.setIfInBounds_toArray, List.set_cons_zero, List.set_cons_succ]
          refine wpAnyH_ready (rs := [6]) (by kernel_rfl) (by simp) ?_
          refine AllReadyH.cons rfl (fun K_ hK_ => ?_) AllReadyH.nil
          · go_simp
            have HM_127 := Aside0.mk (HM_126.out.new_ (g := (gz_119 + 1)) (.cells Tryd.zeroCells32 32) (by simp [hz_120]))
            refine hK_.out _ _ ((by rw [HCA.out]; exact (HM_127.out.up 3).get)) (fun hS_ => ?_)
            clear hK_ K_ hS
            have hS := hS_
            clear hS_
            try simp only [Act.put, List.setIfInBounds_toArray, List.set_cons_zero, List.set_cons_succ]
            refine wpAnyH_ready (rs := [8]) (by kernel_rfl) (by simp) ?_
            refine AllReadyH.cons rfl (fun K_ hK_ => ?_) AllReadyH.nil
            have hu_ := (HM_127.out.up 0)
            rw [if_pos (by rfl)]
            refine wp_store32 (.tmp 9) (.tmp 32) rfl (gz_119 + 1) rfl rfl HO.out Tryd.zeroCells32 zero32 hu_.get ?_
            have HM_128 := Aside0.mk (putRow hu_ s.cells)
            clear hu_
            refine hK_.out _ _ ((by rw [HCA.out]; exact (HM_128.out.up 3).get)) (fun hS_ => ?_)
            clear hK_ K_ hS
            have hS := hS_
            clear hS_
            try simp only [Act.put, List.setIfInBounds_toArray, List.set_cons_zero, List.set_cons_succ]
            refine wpAnyH_ready (rs := [9]) (by kernel_rfl) (by simp) ?_
            refine AllReadyH.cons rfl (fun K_ hK_ => ?_) AllReadyH.nil
            have hu_ := (HM_128.out.up 1)
            rw [if_pos (by rfl)]
            refine wp_store32 (.tmp 10) (.tmp 35) rfl gz_119 rfl rfl HO.out Tryd.zeroCells32 zero32 hu_.get ?_
            have HM_129 := Aside0.mk (putRow hu_ s.cells)
            clear hu_
            refine hK_.out _ _ ((by rw [HCA.out]; exact (HM_129.out.up 3).get)) (fun hS_ => ?_)
            clear hK_ K_ hS
            have hS := hS_
            clear hS_
            try simp only [Act.put, List.setIfInBounds_toArray, List.set_cons_zero, List.set_cons_succ]
            refine wpAnyH_done (by kernel_rfl) ?_ _
            have hfin := HBK.out _ (ob (gz_119 + 1) (.cells s.cells 32) :: ob gz_119 (.cells s.cells 32) :: (ob (g + 1 + 1) (.cells #[.int .u8 (n : Int), .int .u8 (m : Int)] 67) :: ob (g + 1) (.cells CA 52) :: ob g (.cells (p.arr x) 47) :: [])) (((((HM_129.out.up 4).up 4).up 4).up 3).up 4)
            generalize gz_119 + 1 = gq_130 at hfin ⊢
            generalize World.setRow _ _ _ = wf at hfin ⊢
            exact KEY gq_130 gz_119 wf hfin
      · go_simp
        have HM_131 := Aside0.mk (HM_113.out.new_ (g := gz_115) (.cells Tryd.zeroCells32 32) (by simp [hz_116]))
        refine hK_.out _ _ ((by rw [HCA.out]; exact (HM_131.out.up 2).get)) (fun hS_ => ?_)
        clear hK_ K_ hS
        have hS := hS_
        clear hS_
        try simp only [Act.put, List.setIfInBounds_toArray, List.set_cons_zero, List.set_cons_succ]
        refine wpAnyH_ready (rs := [5, 7]) (by kernel_rfl) (by simp) ?_
        refine AllReadyH.cons rfl (fun K_ hK_ => ?_) (AllReadyH.cons rfl (fun K_ hK_ => ?_) AllReadyH.nil)
        · go_simp
          refine (own_call HM_131.out HO.out).mono ?_
          rintro e w_133 ⟨rfl, h4⟩
          have HM_132 := Aside0.mk h4
          clear h4
          obtain ⟨gz_134, hz_135⟩ : ∃ q, w_133.heap.size = q := ⟨_, rfl⟩
          refine hK_.out _ _ ((by rw [HCA.out]; exact (HM_132.out.up 2).get)) (fun hS_ => ?_)
          clear hK_ K_ hS
          have hS := hS_
          clear hS_
          try simp only [Act.put, List.setIfInBounds_toArray, List.set_cons_zero, List.set_cons_succ]
          refine wpAnyH_ready (rs := [7]) (by kernel_rfl) (by simp) ?_
          refine AllReadyH.cons rfl (fun K_ hK_ => ?_) AllReadyH.nil
          · go_simp
            have HM_136 := Aside0.mk (HM_132.out.new_ (g := gz_134) (.cells Tryd.zeroCells32 32) (by simp [hz_135]))
            refine hK_.out _ _ ((by rw [HCA.out]; exact (HM_136.out.up 3).get)) (fun hS_ => ?_)
            clear hK_ K_ hS
            have hS := hS_
            clear hS_
            try simp only [Act.put, List.setIfInBounds_toArray, List.set_cons_zero, List.set_cons_succ]
            refine wpAnyH_ready (rs := [8]) (by kernel_rfl) (by simp) ?_
            refine AllReadyH.cons rfl (fun K_ hK_ => ?_) AllReadyH.nil
            have hu_ := (HM_136.out.up 1)
            rw [if_pos (by rfl)]
            refine wp_store32 (.tmp 9) (.tmp 32) rfl gz_115 rfl rfl HO.out Tryd.zeroCells32 zero32 hu_.get ?_
            have HM_137 := Aside0.mk (putRow hu_ s.cells)
            clear hu_
            refine hK_.out _ _ ((by rw [HCA.out]; exact (HM_137.out.up 3).get)) (fun hS_ => ?_)
            clear hK_ K_ hS
            have hS := hS_
            clear hS_
            try simp only [Act.put, List.setIfInBounds_toArray, List.set_cons_zero, List.set_cons_succ]
            refine wpAnyH_ready (rs := [9]) (by kernel_rfl) (by simp) ?_
            refine AllReadyH.cons rfl (fun K_ hK_ => ?_) AllReadyH.nil
            have hu_ := (HM_137.out.up 1)
            rw [if_pos (by rfl)]
            refine wp_store32 (.tmp 10) (.tmp 35) rfl gz_134 rfl rfl HO.out Tryd.zeroCells32 zero32 hu_.get ?_
            have HM_138 := Aside0.mk (putRow hu_ s.cells)
            clear hu_
            refine hK_.out _ _ ((by rw [HCA.out]; exact (HM_138.out.up 3).get)) (fun hS_ => ?_)
            clear hK_ K_ hS
            have hS := hS_
            clear hS_
            try simp only [Act.put, List.setIfInBounds_toArray, List.set_cons_zero, List.set_cons_succ]
            refine wpAnyH_done (by kernel_rfl) ?_ _
            have hfin := HBK.out _ (ob gz_115 (.cells s.cells 32) :: ob gz_134 (.cells s.cells 32) :: (ob (g + 1 + 1) (.cells #[.int .u8 (n : Int), .int .u8 (m : Int)] 67) :: ob (g + 1) (.cells CA 52) :: ob g (.cells (p.arr x) 47) :: [])) (((((HM_138.out.up 4).up 4).up 4).up 3).up 4)
            generalize World.setRow _ _ _ = wf at hfin ⊢
            exact KEY gz_115 gz_134 wf hfin
        · go_simp
          have HM_139 := Aside0.mk (HM_131.out.new_ (g := (gz_115 + 1)) (.cells Tryd.zeroCells32 32) (by simp [hz_116]))
          refine hK_.out _ _ ((by rw [HCA.out]; exact (HM_139.out.up 3).get)) (fun hS_ => ?_)
          clear hK_ K_ hS
          have hS := hS_
          clear hS_
          try simp only [Act.put, List.setIfInBounds_toArray, List.set_cons_zero, List.set_cons_succ]
          refine wpAnyH_ready (rs := [5]) (by kernel_rfl) (by simp) ?_
          refine AllReadyH.cons rfl (fun K_ hK_ => ?_) AllReadyH.nil
          · go_simp
            refine (own_call HM_139.out HO.out).mono ?_
            rintro e w_141 ⟨rfl, h4⟩
            have HM_140 := Aside0.mk h4
            clear h4
            obtain ⟨gz_142, hz_143⟩ : ∃ q, w_141.heap.size = q := ⟨_, rfl⟩
            refine hK_.out _ _ ((by rw [HCA.out]; exact (HM_140.out.up 3).get)) (fun hS_ => ?_)
            clear hK_ K_ hS
            have hS := hS_
            clear hS_
            try simp only [Act.put, List.setIfInBounds_toArray, List.set_cons_zero, List.set_cons_succ]
            refine wpAnyH_ready (rs := [8]) (by kernel_rfl) (by simp) ?_
            refine AllReadyH.cons rfl (fun K_ hK_ => ?_) AllReadyH.nil
            have hu_ := (HM_140.out.up 1)
            rw [if_pos (by rfl)]
            refine wp_store32 (.tmp 9) (.tmp 32) rfl gz_115 rfl rfl HO.out Tryd.zeroCells32 zero32 hu_.get ?_
            have HM_144 := Aside0.mk (putRow hu_ s.cells)
            clear hu_
            refine hK_.out _ _ ((by rw [HCA.out]; exact (HM_144.out.up 3).get)) (fun hS_ => ?_)
            clear hK_ K_ hS
            have hS := hS_
            clear hS_
            try simp only [Act.put, List.setIfInBounds_toArray, List.set_cons_zero, List.set_cons_succ]
            refine wpAnyH_ready (rs := [9]) (by kernel_rfl) (by simp) ?_
            refine AllReadyH.cons rfl (fun K_ hK_ => ?_) AllReadyH.nil
            have hu_ := (HM_144.out.up 1)
            rw [if_pos (by rfl)]
            refine wp_store32 (.tmp 10) (.tmp 35) rfl (gz_115 + 1) rfl rfl HO.out Tryd.zeroCells32 zero32 hu_.get ?_
            have HM_145 := Aside0.mk (putRow hu_ s.cells)
            clear hu_
            refine hK_.out _ _ ((by rw [HCA.out]; exact (HM_145.out.up 3).get)) (fun hS_ => ?_)
            clear hK_ K_ hS
            have hS := hS_
            clear hS_
            try simp only [Act.put, List.setIfInBounds_toArray, List.set_cons_zero, List.set_cons_succ]
            refine wpAnyH_done (by kernel_rfl) ?_ _
            have hfin := HBK.out _ (ob gz_115 (.cells s.cells 32) :: ob (gz_115 + 1) (.cells s.cells 32) :: (ob (g + 1 + 1) (.cells #[.int .u8 (n : Int), .int .u8 (m : Int)] 67) :: ob (g + 1) (.cells CA 52) :: ob g (.cells (p.arr x) 47) :: [])) (((((HM_145.out.up 4).up 4).up 4).up 3).up 4)
            generalize gz_115 + 1 = gq_146 at hfin ⊢
            generalize World.setRow _ _ _ = wf at hfin ⊢
            exact KEY gz_115 gq_146 wf hfin
      · go_simp
        have HM_147 := Aside0.mk (HM_113.out.new_ (g := gz_115) (.cells Tryd.zeroCells32 32) (by simp [hz_116]))
        refine hK_.out _ _ ((by rw [HCA.out]; exact (HM_147.out.up 2).get)) (fun hS_ => ?_)
        clear hK_ K_ hS
        have hS := hS_
        clear hS_
        try simp only [Act.put, List.setIfInBounds_toArray, List.set_cons_zero, List.set_cons_succ]
        refine wpAnyH_ready (rs := [5, 6]) (by kernel_rfl) (by simp) ?_
        refine AllReadyH.cons rfl (fun K_ hK_ => ?_) (AllReadyH.cons rfl (fun K_ hK_ => ?_) AllReadyH.nil)
        · go_simp
          refine (own_call HM_147.out HO.out).mono ?_
          rintro e w_149 ⟨rfl, h4⟩
          have HM_148 := Aside0.mk h4
          clear h4
          obtain ⟨gz_150, hz_151⟩ : ∃ q, w_149.heap.size = q := ⟨_, rfl⟩
          refine hK_.out _ _ ((by rw [HCA.out]; exact (HM_148.out.up 2).get)) (fun hS_ => ?_)
          clear hK_ K_ hS
          have hS := hS_
          clear hS_
          try simp only [Act.put, List.setIfInBounds_toArray, List.set_cons_zero, List.set_cons_succ]
          refine wpAnyH_ready (rs := [6]) (by kernel_rfl) (by simp) ?_
          refine AllReadyH.cons rfl (fun K_ hK_ => ?_) AllReadyH.nil
          · go_simp
            have HM_152 := Aside0.mk (HM_148.out.new_ (g := gz_150) (.cells Tryd.zeroCells32 32) (by simp [hz_151]))
            refine hK_.out _ _ ((by rw [HCA.out]; exact (HM_152.out.up 3).get)) (fun hS_ => ?_)
            clear hK_ K_ hS
            have hS := hS_
            clear hS_
            try simp only [Act.put, List.setIfInBounds_toArray, List.set_cons_zero, List.set_cons_succ]
            refine wpAnyH_ready (rs := [8]) (by kernel_rfl) (by simp) ?_
            refine AllReadyH.cons rfl (fun K_ hK_ => ?_) AllReadyH.nil
            have hu_ := (HM_152.out.up 0)
            rw [if_pos (by rfl)]
            refine wp_store32 (.tmp 9) (.tmp 32) rfl gz_150 rfl rfl HO.out Tryd.zeroCells32 zero32 hu_.get ?_
            have HM_153 := Aside0.mk (putRow hu_ s.cells)
            clear hu_
            refine hK_.out _ _ ((by rw [HCA.out]; exact (HM_153.out.up 3).get)) (fun hS_ => ?_)
            clear hK_ K_ hS
            have hS := hS_
            clear hS_
            try simp only [Act.put, List.setIfInBounds_toArray, List.set_cons_zero, List.set_cons_succ]
            refine wpAnyH_ready (rs := [9]) (by kernel_rfl) (by simp) ?_
            refine AllReadyH.cons rfl (fun K_ hK_ => ?_) AllReadyH.nil
            have hu_ := (HM_153.out.up 1)
            rw [if_pos (by rfl)]
            refine wp_store32 (.tmp 10) (.tmp 35) rfl gz_115 rfl rfl HO.out Tryd.zeroCells32 zero32 hu_.get ?_
            have HM_154 := Aside0.mk (putRow hu_ s.cells)
            clear hu_
            refine hK_.out _ _ ((by rw [HCA.out]; exact (HM_154.out.up 3).get)) (fun hS_ => ?_)
            clear hK_ K_ hS
            have hS := hS_
            clear hS_
            try simp only [Act.put, List.setIfInBounds_toArray, List.set_cons_zero, List.set_cons_succ]
            refine wpAnyH_done (by kernel_rfl) ?_ _
            have hfin := HBK.out _ (ob gz_150 (.cells s.cells 32) :: ob gz_115 (.cells s.cells 32) :: (ob (g + 1 + 1) (.cells #[.int .u8 (n : Int), .int .u8 (m : Int)] 67) :: ob (g + 1) (.cells CA 52) :: ob g (.cells (p.arr x) 47) :: [])) (((((HM_154.out.up 4).up 4).up 4).up 3).up 4)
            generalize World.setRow _ _ _ = wf at hfin ⊢
            exact KEY gz_150 gz_115 wf hfin
        · go_simp
          have HM_155 := Aside0.mk (HM_147.out.new_ (g := (gz_115 + 1)) (.cells Tryd.zeroCells32 32) (by simp [hz_116]))
          refine hK_.out _ _ ((by rw [HCA.out]; exact (HM_155.out.up 3).get)) (fun hS_ => ?_)
          clear hK_ K_ hS
          have hS := hS_
          clear hS_
          try simp only [Act.put, List.setIfInBounds_toArray, List.set_cons_zero, List.set_cons_succ]
          refine wpAnyH_ready (rs := [5]) (by kernel_rfl) (by simp) ?_
          refine AllReadyH.cons rfl (fun K_ hK_ => ?_) AllReadyH.nil
          · go_simp
            refine (own_call HM_155.out HO.out).mono ?_
            rintro e w_157 ⟨rfl, h4⟩
            have HM_156 := Aside0.mk h4
            clear h4
            obtain ⟨gz_158, hz_159⟩ : ∃ q, w_157.heap.size = q := ⟨_, rfl⟩
            refine hK_.out _ _ ((by rw [HCA.out]; exact (HM_156.out.up 3).get)) (fun hS_ => ?_)
            clear hK_ K_ hS
            have hS := hS_
            clear hS_
            try simp only [Act.put, List.setIfInBounds_toArray, List.set_cons_zero, List.set_cons_succ]
            refine wpAnyH_ready (rs := [8]) (by kernel_rfl) (by simp) ?_
            refine AllReadyH.cons rfl (fun K_ hK_ => ?_) AllReadyH.nil
            have hu_ := (HM_156.out.up 0)
            rw [if_pos (by rfl)]
            refine wp_store32 (.tmp 9) (.tmp 32) rfl (gz_115 + 1) rfl rfl HO.out Tryd.zeroCells32 zero32 hu_.get ?_
            have HM_160 := Aside0.mk (putRow hu_ s.cells)
            clear hu_
            refine hK_.out _ _ ((by rw [HCA.out]; exact (HM_160.out.up 3).get)) (fun hS_ => ?_)
            clear hK_ K_ hS
            have hS := hS_
            clear hS_
            try simp only [Act.put, List.setIfInBounds_toArray, List.set_cons_zero, List.set_cons_succ]
            refine wpAnyH_ready (rs := [9]) (by kernel_rfl) (by simp) ?_
            refine AllReadyH.cons rfl (fun K_ hK_ => ?_) AllReadyH.nil
            have hu_ := (HM_160.out.up 1)
            rw [if_pos (by rfl)]
            refine wp_store32 (.tmp 10) (.tmp 35) rfl gz_115 rfl rfl HO.out Tryd.zeroCells32 zero32 hu_.get ?_
            have HM_161 := Aside0.mk (putRow hu_ s.cells)
            clear hu_
            refine hK_.out _ _ ((by rw [HCA.out]; exact (HM_161.out.up 3).get)) (fun hS_ => ?_)
            clear hK_ K_ hS
            have hS := hS_
            clear hS_
            try simp only [Act.put, List.setIfInBounds_toArray, List.set_cons_zero, List.set_cons_succ]
            refine wpAnyH_done (by kernel_rfl) ?_ _
            have hfin := HBK.out _ (ob (gz_115 + 1) (.cells s.cells 32) :: ob gz_115 (.cells s.cells 32) :: (ob (g + 1 + 1) (.cells #[.int .u8 (n : Int), .int .u8 (m : Int)] 67) :: ob (g + 1) (.cells CA 52) :: ob g (.cells (p.arr x) 47) :: [])) (((((HM_161.out.up 4).up 4).up 4).up 3).up 4)
            generalize gz_115 + 1 = gq_162 at hfin ⊢
            generalize World.setRow _ _ _ = wf at hfin ⊢
            exact KEY gq_162 gz_115 wf hfin
    · go_simp
      have HM_163 := Aside0.mk (HM0_.out.new_ (g := gz0) (.cells Tryd.zeroCells32 32) (by simp [hz0]))
      refine hK_.out _ _ ((by rw [HCA.out]; exact (HM_163.out.up 2).get)) (fun hS_ => ?_)
      clear hK_ K_ hS
      have hS := hS_
      clear hS_
      try simp only [Act.put, List.setIfInBounds_toArray, List.set_cons_zero, List.set_cons_succ]
      refine wpAnyH_ready (rs := [2, 7]) (by kernel_rfl) (by simp) ?_
      refine AllReadyH.cons rfl (fun K_ hK_ => ?_) (AllReadyH.cons rfl (fun K_ hK_ => ?_) AllReadyH.nil)
      · go_simp
        refine (own_call HM_163.out HO.out).mono ?_
        rintro e w_165 ⟨rfl, h4⟩
        have HM_164 := Aside0.mk h4
        clear h4
        obtain ⟨gz_166, hz_167⟩ : ∃ q, w_165.heap.size = q := ⟨_, rfl⟩
        refine hK_.out _ _ ((by rw [HCA.out]; exact (HM_164.out.up 2).get)) (fun hS_ => ?_)
        clear hK_ K_ hS
        have hS := hS_
        clear hS_
        try simp only [Act.put, List.setIfInBounds_toArray, List.set_cons_zero, List.set_cons_succ]
        refine wpAnyH_ready (rs := [5, 7]) (by kernel_rfl) (by simp) ?_
        refine AllReadyH.cons rfl (fun K_ hK_ => ?_) (AllReadyH.cons rfl (fun K_ hK_ => ?_) AllReadyH.nil)
        · go_simp
          refine (own_call HM_164.out HO.out).mono ?_
          rintro e w_169 ⟨rfl, h4⟩
          have HM_168 := Aside0.mk h4
          clear h4
          obtain ⟨gz_170, hz_171⟩ : ∃ q, w_169.heap.size = q := ⟨_, rfl⟩
          refine hK_.out _ _ ((by rw [HCA.out]; exact (HM_168.out.up 2).get)) (fun hS_ => ?_)
          clear hK_ K_ hS
          have hS := hS_
          clear hS_
          try simp only [Act.put, List.setIfInBounds_toArray, List.set_cons_zero, List.set_cons_succ]
          refine wpAnyH_ready (rs := [7]) (by kernel_rfl) (by simp) ?_
          refine AllReadyH.cons rfl (fun K_ hK_ => ?_) AllReadyH.nil
          · go_simp
            have HM_172 := Aside0.mk (HM_168.out.new_ (g := gz_170) (.cells Tryd.zeroCells32 32) (by simp [hz_171]))
            refine hK_.out _ _ ((by rw [HCA.out]; exact (HM_172.out.up 3).get)) (fun hS_ => ?_)
            clear hK_ K_ hS
            have hS := hS_
            clear hS_
            try simp only [Act.put, List.setIfInBounds_toArray, List.set_cons_zero, List.set_cons_succ]
            refine wpAnyH_ready (rs := [8]) (by kernel_rfl) (by simp) ?_
            refine AllReadyH.cons rfl (fun K_ hK_ => ?_) AllReadyH.nil
            have hu_ := (HM_172.out.up 1)
            rw [if_pos (by rfl)]
            refine wp_store32 (.tmp 9) (.tmp 32) rfl gz0 rfl rfl HO.out Tryd.zeroCells32 zero32 hu_.get ?_
            have HM_173 := Aside0.mk (putRow hu_ s.cells)
            clear hu_
            refine hK_.out _ _ ((by rw [HCA.out]; exact (HM_173.out.up 3).get)) (fun hS_ => ?_)
            clear hK_ K_ hS
            have hS := hS_
            clear hS_
            try simp only [Act.put, List.setIfInBounds_toArray, List.set_cons_zero, List.set_cons_succ]
            refine wpAnyH_ready (rs := [9]) (by kernel_rfl) (by simp) ?_
            refine AllReadyH.cons rfl (fun K_ hK_ => ?_) AllReadyH.nil
            have hu_ := (HM_173.out.up 1)
            rw [if_pos (by rfl)]
            refine wp_store32 (.tmp 10) (.tmp 35) rfl gz_170 rfl rfl HO.out Tryd.zeroCells32 zero32 hu_.get ?_
            have HM_174 := Aside0.mk (putRow hu_ s.cells)
            clear hu_
            refine hK_.out _ _ ((by rw [HCA.out]; exact (HM_174.out.up 3).get)) (fun hS_ => ?_)
            clear hK_ K_ hS
            have hS := hS_
            clear hS_
            try simp only [Act.put, List.setIfInBounds_toArray, List.set_cons_zero, List.set_cons_succ]
            refine wpAnyH_done (by kernel_rfl) ?_ _
            have hfin := HBK.out _ (ob gz0 (.cells s.cells 32) :: ob gz_170 (.cells s.cells 32) :: (ob (g + 1 + 1) (.cells #[.int .u8 (n : Int), .int .u8 (m : Int)] 67) :: ob (g + 1) (.cells CA 52) :: ob g (.cells (p.arr x) 47) :: [])) (((((HM_174.out.up 4).up 4).up 4).up 3).up 4)
            generalize World.setRow _ _ _ = wf at hfin ⊢
            exact KEY gz0 gz_170 wf hfin
        · go_simp
          have HM_175 := Aside0.mk (HM_164.out.new_ (g := gz_166) (.cells Tryd.zeroCells32 32) (by simp [hz_167]))
          refine hK_.out _ _ ((by rw [HCA.out]; exact (HM_175.out.up 3).get)) (fun hS_ => ?_)
          clear hK_ K_ hS
          have hS := hS_
          clear hS_
          try simp only [Act.put, List.setIfInBounds_toArray, List.set_cons_zero, List.set_cons_succ]
          refine wpAnyH_ready (rs := [5]) (by kernel_rfl) (by simp) ?_
          refine AllReadyH.cons rfl (fun K_ hK_ => ?_) AllReadyH.nil
          · go_simp
            refine (own_call HM_175.out HO.out).mono ?_
            rintro e w_177 ⟨rfl, h4⟩
            have HM_176 := Aside0.mk h4
            clear h4
            obtain ⟨gz_178, hz_179⟩ : ∃ q, w_177.heap.size = q := ⟨_, rfl⟩
            refine hK_.out _ _ ((by rw [HCA.out]; exact (HM_176.out.up 3).get)) (fun hS_ => ?_)
            clear hK_ K_ hS
            have hS := hS_
            clear hS_
            try simp only [Act.put, List.setIfInBounds_toArray, List.set_cons_zero, List.set_cons_succ]
            refine wpAnyH_ready (rs := [8]) (by kernel_rfl) (by simp) ?_
            refine AllReadyH.cons rfl (fun K_ hK_ => ?_) AllReadyH.nil
            have hu_ := (HM_176.out.up 1)
            rw [if_pos (by rfl)]
            refine wp_store32 (.tmp 9) (.tmp 32) rfl gz0 rfl rfl HO.out Tryd.zeroCells32 zero32 hu_.get ?_
            have HM_180 := Aside0.mk (putRow hu_ s.cells)
            clear hu_
            refine hK_.out _ _ ((by rw [HCA.out]; exact (HM_180.out.up 3).get)) (fun hS_ => ?_)
            clear hK_ K_ hS
            have hS := hS_
            clear hS_
            try simp only [Act.put, List.setIfInBounds_toArray, List.set_cons_zero, List.set_cons_succ]
            refine wpAnyH_ready (rs := [9]) (by kernel_rfl) (by simp) ?_
            refine AllReadyH.cons rfl (fun K_ hK_ => ?_) AllReadyH.nil
            have hu_ := (HM_180.out.up 1)
            rw [if_pos (by rfl)]
            refine wp_store32 (.tmp 10) (.tmp 35) rfl gz_166 rfl rfl HO.out Tryd.zeroCells32 zero32 hu_.get ?_
            have HM_181 := Aside0.mk (putRow hu_ s.cells)
            clear hu_
            refine hK_.out _ _ ((by rw [HCA.out]; exact (HM_181.out.up 3).get)) (fun hS_ => ?_)
            clear hK_ K_ hS
            have hS := hS_
            clear hS_
            try simp only [Act.put, List.setIfInBounds_toArray, List.set_cons_zero, List.set_cons_succ]
            refine wpAnyH_done (by kernel_rfl) ?_ _
            have hfin := HBK.out _ (ob gz0 (.cells s.cells 32) :: ob gz_166 (.cells s.cells 32) :: (ob (g + 1 + 1) (.cells #[.int .u8 (n : Int), .int .u8 (m : Int)] 67) :: ob (g + 1) (.cells CA 52) :: ob g (.cells (p.arr x) 47) :: [])) (((((HM_181.out.up 4).up 4).up 4).up 3).up 4)
            generalize World.setRow _ _ _ = wf at hfin ⊢
            exact KEY gz0 gz_166 wf hfin
      · go_simp
        have HM_182 := Aside0.mk (HM_163.out.new_ (g := (gz0 + 1)) (.cells Tryd.zeroCells32 32) (by simp [hz0]))
        refine hK_.out _ _ ((by rw [HCA.out]; exact (HM_182.out.up 3).get)) (fun hS_ => ?_)
        clear hK_ K_ hS
        have hS := hS_
        clear hS_
        try simp only [Act.put, List.setIfInBounds_toArray, List.set_cons_zero, List.set_cons_succ]
        refine wpAnyH_ready (rs := [2]) (by kernel_rfl) (by simp) ?_
        refine AllReadyH.cons rfl (fun K_ hK_ => ?_) AllReadyH.nil
        · go_simp
          refine (own_call HM_182.out HO.out).mono ?_
          rintro e w_184 ⟨rfl, h4⟩
          have HM_183 := Aside0.mk h4
          clear h4
          obtain ⟨gz_185, hz_186⟩ : ∃ q, w_184.heap.size = q := ⟨_, rfl⟩
          refine hK_.out _ _ ((by rw [HCA.out]; exact (HM_183.out.up 3).get)) (fun hS_ => ?_)
          clear hK_ K_ hS
          have hS := hS_
          clear hS_
          try simp only [Act.put, List.setIfInBounds_toArray, List.set_cons_zero, List.set_cons_succ]
          refine wpAnyH_ready (rs := [5]) (by kernel_rfl) (by simp) ?_
          refine AllReadyH.cons rfl (fun K_ hK_ => ?_) AllReadyH.nil
          · go_simp
            refine (own_call HM_183.out HO.out).mono ?_
            rintro e w_188 ⟨rfl, h4⟩
            have HM_187 := Aside0.mk h4
            clear h4
            obtain ⟨gz_189, hz_190⟩ : ∃ q, w_188.heap.size = q := ⟨_, rfl⟩
            refine hK_.out _ _ ((by rw [HCA.out]; exact (HM_187.out.up 3).get)) (fun hS_ => ?_)
            clear hK_ K_ hS
            have hS := hS_
            clear hS_
            try simp only [Act.put, List.setIfInBounds_toArray, List.set_cons_zero, List.set_cons_succ]
            refine wpAnyH_ready (rs := [8]) (by kernel_rfl) (by simp) ?_
            refine AllReadyH.cons rfl (fun K_ hK_ => ?_) AllReadyH.nil
            have hu_ := (HM_187.out.up 1)
            rw [if_pos (by rfl)]
            refine wp_store32 (.tmp 9) (.tmp 32) rfl gz0 rfl rfl HO.out Tryd.zeroCells32 zero32 hu_.get ?_
            have HM_191 := Aside0.mk (putRow hu_ s.cells)
            clear hu_
            refine hK_.out _ _ ((by rw [HCA.out]; exact (HM_191.out.up 3).get)) (fun hS_ => ?_)
            clear hK_ K_ hS
            have hS := hS_
            clear hS_
            try simp only [Act.put, List.setIfInBounds_toArray, List.set_cons_zero, List.set_cons_succ]
            refine wpAnyH_ready (rs := [9]) (by kernel_rfl) (by simp) ?_
            refine AllReadyH.cons rfl (fun K_ hK_ => ?_) AllReadyH.nil
            have hu_ := (HM_191.out.up 1)
            rw [if_pos (by rfl)]
            refine wp_store32 (.tmp 10) (.tmp 35) rfl (gz0 + 1) rfl rfl HO.out Tryd.zeroCells32 zero32 hu_.get ?_
            have HM_192 := Aside0.mk (putRow hu_ s.cells)
            clear hu_
            refine hK_.out _ _ ((by rw [HCA.out]; exact (HM_192.out.up 3).get)) (fun hS_ => ?_)
            clear hK_ K_ hS
            have hS := hS_
            clear hS_
            try simp only [Act.put, List.setIfInBounds_toArray, List.set_cons_zero, List.set_cons_succ]
            refine wpAnyH_done (by kernel_rfl) ?_ _
            have hfin := HBK.out _ (ob gz0 (.cells s.cells 32) :: ob (gz0 + 1) (.cells s.cells 32) :: (ob (g + 1 + 1) (.cells #[.int .u8 (n : Int), .int .u8 (m : Int)] 67) :: ob (g + 1) (.cells CA 52) :: ob g (.cells (p.arr x) 47) :: [])) (((((HM_192.out.up 4).up 4).up 4).up 3).up 4)
            generalize gz0 + 1 = gq_193 at hfin ⊢
            generalize World.setRow _ _ _ = wf at hfin ⊢
            exact KEY gz0 gq_193 wf hfin
    · go_simp
      have HM_194 := Aside0.mk (HM0_.out.new_ (g := gz0) (.cells Tryd.zeroCells32 32) (by simp [hz0]))
      refine hK_.out _ _ ((by rw [HCA.out]; exact (HM_194.out.up 2).get)) (fun hS_ => ?_)
      clear hK_ K_ hS
      have hS := hS_
      clear hS_
      try simp only [Act.put, List.setIfInBounds_toArray, List.set_cons_zero, List.set_cons_succ]
      refine wpAnyH_ready (rs := [2, 6]) (by kernel_rfl) (by simp) ?_
      refine AllReadyH.cons rfl (fun K_ hK_ => ?_) (AllReadyH.cons rfl (fun K_ hK_ => ?_) AllReadyH.nil)
      · go_simp
        refine (own_call HM_194.out HO.out).mono ?_
        rintro e w_196 ⟨rfl, h4⟩
        have HM_195 := Aside0.mk h4
        clear h4
        obtain ⟨gz_197, hz_198⟩ : ∃ q, w_196.heap.size = q := ⟨_, rfl⟩
        refine hK_.out _ _ ((by rw [HCA.out]; exact (HM_195.out.up 2).get)) (fun hS_ => ?_)
        clear hK_ K_ hS
        have hS := hS_
        clear hS_
        try simp only [Act.put, List.setIfInBounds_toArray, List.set_cons_zero, List.set_cons_succ]
        refine wpAnyH_ready (rs := [5, 6]) (by kernel_rfl) (by simp) ?_
        refine AllReadyH.cons rfl (fun K_ hK_ => ?_) (AllReadyH.cons rfl (fun K_ hK_ => ?_) AllReadyH.nil)
        · go_simp
          refine (own_call HM_195.out HO.out).mono ?_
          rintro e w_200 ⟨rfl, h4⟩
          have HM_199 := Aside0.mk h4
          clear h4
          obtain ⟨gz_201, hz_202⟩ : ∃ q, w_200.heap.size = q := ⟨_, rfl⟩
          refine hK_.out _ _ ((by rw [HCA.out]; exact (HM_199.out.up 2).get)) (fun hS_ => ?_)
          clear hK_ K_ hS
          have hS := hS_
          clear hS_
          try simp only [Act.put, List.setIfInBounds_toArray, List.set_cons_zero, List.set_cons_succ]
          refine wpAnyH_ready (rs := [6]) (by kernel_rfl) (by simp) ?_
          refine AllReadyH.cons rfl (fun K_ hK_ => ?_) AllReadyH.nil
          · go_simp
            have HM_203 := Aside0.mk (HM_199.out.new_ (g := gz_201) (.cells Tryd.zeroCells32 32) (by simp [hz_202]))
            refine hK_.out _ _ ((by rw [HCA.out]; exact (HM_203.out.up 3).get)) (fun hS_ => ?_)
            clear hK_ K_ hS
            have hS := hS_
            clear hS_
            try simp only [Act.put, List.setIfInBounds_toArray, List.set_cons_zero, List.set_cons_succ]
            refine wpAnyH_ready (rs := [8]) (by kernel_rfl) (by simp) ?_
            refine AllReadyH.cons rfl (fun K_ hK_ => ?_) AllReadyH.nil
            have hu_ := (HM_203.out.up 0)
            rw [if_pos (by rfl)]
            refine wp_store32 (.tmp 9) (.tmp 32) rfl gz_201 rfl rfl HO.out Tryd.zeroCells32 zero32 hu_.get ?_
            have HM_204 := Aside0.mk (putRow hu_ s.cells)
            clear hu_
            refine hK_.out _ _ ((by rw [HCA.out]; exact (HM_204.out.up 3).get)) (fun hS_ => ?_)
            clear hK_ K_ hS
            have hS := hS_
            clear hS_
            try simp only [Act.put, List.setIfInBounds_toArray, List.set_cons_zero, List.set_cons_succ]
            refine wpAnyH_ready (rs := [9]) (by kernel_rfl) (by simp) ?_
            refine AllReadyH.cons rfl (fun K_ hK_ => ?_) AllReadyH.nil
            have hu_ := (HM_204.out.up 1)
            rw [if_pos (by rfl)]
            refine wp_store32 (.tmp 10) (.tmp 35) rfl gz0 rfl rfl HO.out Tryd.zeroCells32 zero32 hu_.get ?_
            have HM_205 := Aside0.mk (putRow hu_ s.cells)
            clear hu_
            refine hK_.out _ _ ((by rw [HCA.out]; exact (HM_205.out.up 3).get)) (fun hS_ => ?_)
            clear hK_ K_ hS
            have hS := hS_
            clear hS_
            try simp only [Act.put, List.setIfInBounds_toArray, List.set_cons_zero, List.set_cons_succ]
            refine wpAnyH_done (by kernel_rfl) ?_ _
            have hfin := HBK.out _ (ob gz_201 (.cells s.cells 32) :: ob gz0 (.cells s.cells 32) :: (ob (g + 1 + 1) (.cells #[.int .u8 (n : Int), .int .u8 (m : Int)] 67) :: ob (g + 1) (.cells CA 52) :: ob g (.cells (p.arr x) 47) :: [])) (((((HM_205.out.up 4).up 4).up 4).up 3).up 4)
            generalize World.setRow _ _ _ = wf at hfin ⊢
            exact KEY gz_201 gz0 wf hfin
        · go_simp
          have HM_206 := Aside0.mk (HM_195.out.new_ (g := gz_197) (.cells Tryd.zeroCells32 32) (by simp [hz_198]))
          refine hK_.out _ _ ((by rw [HCA.out]; exact (HM_206.out.up 3).get)) (fun hS_ => ?_)
          clear hK_ K_ hS
          have hS := hS_
          clear hS_
          try simp only [Act.put, List.setIfInBounds_toArray, List.set_cons_zero, List.set_cons_succ]
          refine wpAnyH_ready (rs := [5]) (by kernel_rfl) (by simp) ?_
          refine AllReadyH.cons rfl (fun K_ hK_ => ?_) AllReadyH.nil
          · go_simp
            refine (own_call HM_206.out HO.out).mono ?_
            rintro e w_208 ⟨rfl, h4⟩
            have HM_207 := Aside0.mk h4
            clear h4
            obtain ⟨gz_209, hz_210⟩ : ∃ q, w_208.heap.size = q := ⟨_, rfl⟩
            refine hK_.out _ _ ((by rw [HCA.out]; exact (HM_207.out.up 3).get)) (fun hS_ => ?_)
            clear hK_ K_ hS
            have hS := hS_
            clear hS_
            try simp only [Act.put, List.setIfInBounds_toArray, List.set_cons_zero, List.set_cons_succ]
            refine wpAnyH_ready (rs := [8]) (by kernel_rfl) (by simp) ?_
            refine AllReadyH.cons rfl (fun K_ hK_ => ?_) AllReadyH.nil
            have hu_ := (HM_207.out.up 0)
            rw [if_pos (by rfl)]
            refine wp_store32 (.tmp 9) (.tmp 32) rfl gz_197 rfl rfl HO.out Tryd.zeroCells32 zero32 hu_.get ?_
            have HM_211 := Aside0.mk (putRow hu_ s.cells)
            clear hu_
            refine hK_.out _ _ ((by rw [HCA.out]; exact (HM_211.out.up 3).get)) (fun hS_ => ?_)
            clear hK_ K_ hS
            have hS := hS_
            clear hS_
            try simp only [Act.put, List.setIfInBounds_toArray, List.set_cons_zero, List.set_cons_succ]
            refine wpAnyH_ready (rs := [9]) (by kernel_rfl) (by simp) ?_
            refine AllReadyH.cons rfl (fun K_ hK_ => ?_) AllReadyH.nil
            have hu_ := (HM_211.out.up 1)
            rw [if_pos (by rfl)]
            refine wp_store32 (.tmp 10) (.tmp 35) rfl gz0 rfl rfl HO.out Tryd.zeroCells32 zero32 hu_.get ?_
            have HM_212 := Aside0.mk (putRow hu_ s.cells)
            clear hu_
            refine hK_.out _ _ ((by rw [HCA.out]; exact (HM_212.out.up 3).get)) (fun hS_ => ?_)
            clear hK_ K_ hS
            have hS := hS_
            clear hS_
            try simp only [Act.put, List.setIfInBounds_toArray, List.set_cons_zero, List.set_cons_succ]
            refine wpAnyH_done (by kernel_rfl) ?_ _
            have hfin := HBK.out _ (ob gz_197 (.cells s.cells 32) :: ob gz0 (.cells s.cells 32) :: (ob (g + 1 + 1) (.cells #[.int .u8 (n : Int), .int .u8 (m : Int)] 67) :: ob (g + 1) (.cells CA 52) :: ob g (.cells (p.arr x) 47) :: [])) (((((HM_212.out.up 4).up 4).up 4).up 3).up 4)
            generalize World.setRow _ _ _ = wf at hfin ⊢
            exact KEY gz_197 gz0 wf hfin
      · go_simp
        have HM_213 := Aside0.mk (HM_194.out.new_ (g := (gz0 + 1)) (.cells Tryd.zeroCells32 32) (by simp [hz0]))
        refine hK_.out _ _ ((by rw [HCA.out]; exact (HM_213.out.up 3).get)) (fun hS_ => ?_)
        clear hK_ K_ hS
        have hS := hS_
        clear hS_
        try simp only [Act.put, List.setIfInBounds_toArray, List.set_cons_zero, List.set_cons_succ]
        refine wpAnyH_ready (rs := [2]) (by kernel_rfl) (by simp) ?_
        refine AllReadyH.cons rfl (fun K_ hK_ => ?_) AllReadyH.nil
        · go_simp
          refine (own_call HM_213.out HO.out).mono ?_
          rintro e w_215 ⟨rfl, h4⟩
          have HM_214 := Aside0.mk h4
          clear h4
          obtain ⟨gz_216, hz_217⟩ : ∃ q, w_215.heap.size = q := ⟨_, rfl⟩
          refine hK_.out _ _ ((by rw [HCA.out]; exact (HM_214.out.up 3).get)) (fun hS_ => ?_)
          clear hK_ K_ hS
          have hS := hS_
          clear hS_
          try simp only [Act.put, List.setIfInBounds_toArray, List.set_cons_zero, List.set_cons_succ]
          refine wpAnyH_ready (rs := [5]) (by kernel_rfl) (by simp) ?_
          refine AllReadyH.cons rfl (fun K_ hK_ => ?_) AllReadyH.nil
          · go_simp
            refine (own_call HM_214.out HO.out).mono ?_
            rintro e w_219 ⟨rfl, h4⟩
            have HM_218 := Aside0.mk h4
            clear h4
            obtain ⟨gz_220, hz_221⟩ : ∃ q, w_219.heap.size = q := ⟨_, rfl⟩
            refine hK_.out _ _ ((by rw [HCA.out]; exact (HM_218.out.up 3).get)) (fun hS_ => ?_)
            clear hK_ K_ hS
            have hS := hS_
            clear hS_
            try simp only [Act.put, List.setIfInBounds_toArray, List.set_cons_zero, List.set_cons_succ]
            refine wpAnyH_ready (rs := [8]) (by kernel_rfl) (by simp) ?_
            refine AllReadyH.cons rfl (fun K_ hK_ => ?_) AllReadyH.nil
            have hu_ := (HM_218.out.up 0)
            rw [if_pos (by rfl)]
            refine wp_store32 (.tmp 9) (.tmp 32) rfl (gz0 + 1) rfl rfl HO.out Tryd.zeroCells32 zero32 hu_.get ?_
            have HM_222 := Aside0.mk (putRow hu_ s.cells)
            clear hu_
            refine hK_.out _ _ ((by rw [HCA.out]; exact (HM_222.out.up 3).get)) (fun hS_ => ?_)
            clear hK_ K_ hS
            have hS := hS_
            clear hS_
            try simp only [Act.put, List.setIfInBounds_toArray, List.set_cons_zero, List.set_cons_succ]
            refine wpAnyH_ready (rs := [9]) (by kernel_rfl) (by simp) ?_
            refine AllReadyH.cons rfl (fun K_ hK_ => ?_) AllReadyH.nil
            have hu_ := (HM_222.out.up 1)
            rw [if_pos (by rfl)]
            refine wp_store32 (.tmp 10) (.tmp 35) rfl gz0 rfl rfl HO.out Tryd.zeroCells32 zero32 hu_.get ?_
            have HM_223 := Aside0.mk (putRow hu_ s.cells)
            clear hu_
            refine hK_.out _ _ ((by rw [HCA.out]; exact (HM_223.out.up 3).get)) (fun hS_ => ?_)
            clear hK_ K_ hS
            have hS := hS_
            clear hS_
            try simp only [Act.put, List.setIfInBounds_toArray, List.set_cons_zero, List.set_cons_succ]
            refine wpAnyH_done (by kernel_rfl) ?_ _
            have hfin := HBK.out _ (ob (gz0 + 1) (.cells s.cells 32) :: ob gz0 (.cells s.cells 32) :: (ob (g + 1 + 1) (.cells #[.int .u8 (n : Int), .int .u8 (m : Int)] 67) :: ob (g + 1) (.cells CA 52) :: ob g (.cells (p.arr x) 47) :: [])) (((((HM_223.out.up 4).up 4).up 4).up 3).up 4)
            generalize gz0 + 1 = gq_224 at hfin ⊢
            generalize World.setRow _ _ _ = wf at hfin ⊢
            exact KEY gq_224 gz0 wf hfin
  intro gc gd w5 h5
  have H5 := Aside0.mk h5
  clear h5 H4
  have hz5 := (H5.out.up 2).mem.get
  have z0 := blk_cell hz5 0
  have z1 := blk_cell hz5 1
  clear hz5
  have hwn : wrap64 (n : Int) = (n : Int) := by have := HNM.out.1; unfold wrap64; omega
  have hwm : wrap64 (m : Int) = (m : Int) := by have := HNM.out.2; unfold wrap64; omega
  have hwnm : wrap64 ((n : Int) + (m : Int)) = (n : Int) + (m : Int) := by have := HNM.out; unfold wrap64; omega
  obtain ⟨C1, hC1, hb5⟩ := ((H5.out.up 4).up 1)
  have HC1 := Aside0.mk hC1
  have HR1 := Aside0.mk (Run_call (n := n) (show BusM W w5 ga B (ob gc (.cells s.cells 32) :: ob g (.cells (p.arr x) 47) :: (ob gd (.cells s.cells 32) :: ob (g + 1 + 1) (.cells #[.int .u8 (n : Int), .int .u8 (m : Int)] 67) :: ob (g + 1) (.cells CA 52) :: C1)) from hb5) (by have := HB0.out.1; have := HNM.out; omega) HO.out HBO.out HXO.out HG.out (fun Wx s' B' hW => HXR.out.below hW.below))
  clear hb5 hC1 H5
  have HOK1 := Aside0.mk (run_all HXO.out n s B HO.out HBO.out)
  have HSP := Aside0.mk (splits x s B n m)
  generalize hR1 : runC x n s B = R1 at HR1 HOK1
  have HR1E := Aside0.mk hR1
  clear hR1
  obtain ⟨s1, B1, o1, k1⟩ := R1
  dsimp only at HR1 HOK1
  have HSP1 := Aside0.mk (HSP.out s1 B1 o1 k1 HR1E.out)
  clear HSP HR1E
  go_wp2_with fail
  refine HR1.out.mono ?_
  rintro e w6 ⟨rfl, h6⟩
  have H6 := Aside0.mk (show Two W w6 ga B1 gb B (ob gc (.cells s1.cells 32) :: ob g (.cells (p.arr x) 47) :: ob gd (.cells s.cells 32) :: ob (g + 1 + 1) (.cells #[.int .u8 (n : Int), .int .u8 (m : Int)] 67) :: ob (g + 1) (.cells CA 52) :: []) from ⟨C1, HC1.out, h6⟩)
  clear h6 HC1 HR1 z0 z1
  by_cases ho : o1 = 1
  · subst ho
    have hz6 := (H6.out.up 3).mem.get
    have z0 := blk_cell hz6 0
    have z1 := blk_cell hz6 1
    clear hz6
    obtain ⟨C2, hC2, hb6⟩ := H6.out
    have HC2' := Aside0.mk hC2
    have HR2 := Aside0.mk (Run_call (n := m) (show BusM W w6 ga B1 (ob gc (.cells s1.cells 32) :: ob g (.cells (p.arr x) 47) :: (ob gd (.cells s.cells 32) :: ob (g + 1 + 1) (.cells #[.int .u8 (n : Int), .int .u8 (m : Int)] 67) :: ob (g + 1) (.cells CA 52) :: C2)) from hb6) (by have := HB0.out.1; have := HNM.out; have := HOK1.out.2.2.1; omega) HOK1.out.1 HOK1.out.2.1 HXO.out HG.out (fun Wx s' B' hW => HXR.out.below hW.below))
    clear hb6 hC2
    have HOK2 := Aside0.mk (run_all HXO.out m s1 B1 HOK1.out.1 HOK1.out.2.1)
    generalize hR2 : runC x m s1 B1 = R2 at HR2 HOK2
    have HR2E := Aside0.mk hR2
    clear hR2
    obtain ⟨s2, B2, o2, k2⟩ := R2
    dsimp only at HR2 HOK2
    have HWH := Aside0.mk (HSP1.out.1 rfl s2 B2 o2 k2 HR2E.out)
    clear HSP1 HR2E
    go_wp2_with fail
    refine HR2.out.mono ?_
    rintro e w7 ⟨rfl, h7⟩
    have H7 := Aside0.mk (show Two W w7 ga B2 gb B (ob gc (.cells s2.cells 32) :: ob g (.cells (p.arr x) 47) :: ob gd (.cells s.cells 32) :: ob (g + 1 + 1) (.cells #[.int .u8 (n : Int), .int .u8 (m : Int)] 67) :: ob (g + 1) (.cells CA 52) :: []) from ⟨C2, HC2'.out, h7⟩)
    clear h7 HC2' HR2 H6
    have hz7 := (H7.out.up 3).mem.get
    replace z0 := blk_cell hz7 0
    replace z1 := blk_cell hz7 1
    clear hz7
    obtain ⟨C3, hC3, hb7⟩ := (((H7.out.swap).up 1).up 2)
    have HC3 := Aside0.mk hC3
    have HR3 := Aside0.mk (Run_call (n := n + m) (show BusM W w7 gb B (ob gd (.cells s.cells 32) :: ob g (.cells (p.arr x) 47) :: (ob gc (.cells s2.cells 32) :: ob (g + 1 + 1) (.cells #[.int .u8 (n : Int), .int .u8 (m : Int)] 67) :: ob (g + 1) (.cells CA 52) :: C3)) from hb7) (by have := HB0.out.1; have := HNM.out; omega) HO.out HBO.out HXO.out HG.out (fun Wx s' B' hW => HXR.out.below hW.below))
    clear hb7 hC3
    rw [HWH.out] at HR3
    replace HR3 := Aside0.mk (show Calls Tryd.prog 22 #[.pointer (some ⟨gd, 0, none⟩), .pointer (some ⟨g, 0, none⟩), busV gb, .int .i64 ((n : Int) + (m : Int))] w7 _ from HR3.out)
    dsimp only at HR3
    clear HWH
    go_wp2_with fail
    refine HR3.out.mono ?_
    rintro e w8 ⟨rfl, h8⟩
    have H8 := Aside0.mk (show Two W w8 gb B2 ga B2 (ob gd (.cells s2.cells 32) :: ob g (.cells (p.arr x) 47) :: ob gc (.cells s2.cells 32) :: ob (g + 1 + 1) (.cells #[.int .u8 (n : Int), .int .u8 (m : Int)] 67) :: ob (g + 1) (.cells CA 52) :: []) from ⟨C3, HC3.out, h8⟩)
    clear h8 HC3 HR3 H7 z0 z1
    obtain ⟨Cb, hCb, hbb⟩ := H8.out
    obtain ⟨A0, c0, A1, c1, A3, c3, hga, ra0, ra1, ra3⟩ := BusM.open_ hbb
    obtain ⟨Ca, hCa, hba⟩ := H8.out.swap
    obtain ⟨E0, e0, E1, e1, E3, e3, hgb, rb0, rb1, rb3⟩ := BusM.open_ hba
    have HLEN := Aside0.mk (show B2.words.length ≤ 600 ∧ B2.reads.length ≤ 60 ∧ B2.calls.length ≤ 2000 from ⟨by have h1 := HOK1.out.2.2.2.1.1; have h2 := HOK2.out.2.2.2.1.1; have h0 := HB0.out; omega, by have h1 := HOK1.out.2.2.2.1.2; have h2 := HOK2.out.2.2.2.1.2; have h0 := HB0.out; omega, by have h1 := HOK1.out.2.2.1; have h2 := HOK2.out.2.2.1; have h0 := HB0.out; have := HNM.out; omega⟩)
    have HSW := Aside0.mk (fun (a0 : Int) => SameW_call (A := B2) (B := B2) (w := w8) rfl rfl rfl (by have := HLEN.out; omega) (by have := HLEN.out; omega) (by have := HLEN.out; omega) rb0 rb1 rb3 ra0 ra1 ra3)
    have xa0 := blk_cell hga 0
    have xa1 := blk_cell hga 1
    have xa2 := blk_cell hga 2
    have xa3 := blk_cell hga 3
    have xb0 := blk_cell hgb 0
    have xb1 := blk_cell hgb 1
    have xb2 := blk_cell hgb 2
    have xb3 := blk_cell hgb 3
    have HLD := Aside0.mk (H8.out.mem.get)
    have HLC := Aside0.mk ((H8.out.up 2).mem.get)
    have e32 := fun d W => eq32 d W s2 HOK2.out.1
    have HOS := Aside0.mk HOK2.out.1
    clear hCb hbb hCa hba hga hgb ra0 ra1 ra3 rb0 rb1 rb3
    have hwk : wrap64 ((k1 : Int) + (k2 : Int)) = (k1 : Int) + (k2 : Int) := by have := HNM.out; have := HOK1.out.2.2.2.2; have := HOK2.out.2.2.2.2; unfold wrap64; omega
    go_wp2_with (first
      | (refine wpList_step fun K hK => ?_; first
        | refine wp_load32 (.tmp 9) rfl gc rfl HOS.out HLC.out ?_
        | refine wp_load32 (.tmp 10) rfl gd rfl HOS.out HLD.out ?_))
    refine (HSW.out 0).mono ?_
    rintro e w9 ⟨rfl, h9⟩
    have H9 := Aside0.mk (H8.out.step h9).mem.below
    clear h9
    go_wp2_with fail
    go_ret
    exact ⟨rfl, H9.out⟩
  · have ho1 : (o1 != 1) = true := by simpa using ho
    have ho2 : (o1 == 1) = false := beq_eq_false_iff_ne.2 ho
    have HWH := Aside0.mk (HSP1.out.2 ho)
    have HOK2 := HOK1
    have hz7 := (H6.out.up 3).mem.get
    have z0 := blk_cell hz7 0
    have z1 := blk_cell hz7 1
    clear hz7 ho
    have H7 := H6
    obtain ⟨C3, hC3, hb7⟩ := (((H7.out.swap).up 1).up 2)
    have HC3 := Aside0.mk hC3
    have HR3 := Aside0.mk (Run_call (n := n + m) (show BusM W w6 gb B (ob gd (.cells s.cells 32) :: ob g (.cells (p.arr x) 47) :: (ob gc (.cells s1.cells 32) :: ob (g + 1 + 1) (.cells #[.int .u8 (n : Int), .int .u8 (m : Int)] 67) :: ob (g + 1) (.cells CA 52) :: C3)) from hb7) (by have := HB0.out.1; have := HNM.out; omega) HO.out HBO.out HXO.out HG.out (fun Wx s' B' hW => HXR.out.below hW.below))
    clear hb7 hC3
    rw [HWH.out] at HR3
    replace HR3 := Aside0.mk (show Calls Tryd.prog 22 #[.pointer (some ⟨gd, 0, none⟩), .pointer (some ⟨g, 0, none⟩), busV gb, .int .i64 ((n : Int) + (m : Int))] w6 _ from HR3.out)
    dsimp only at HR3
    clear HWH
    go_wp2_with fail
    refine HR3.out.mono ?_
    rintro e w8 ⟨rfl, h8⟩
    have H8 := Aside0.mk (show Two W w8 gb B1 ga B1 (ob gd (.cells s1.cells 32) :: ob g (.cells (p.arr x) 47) :: ob gc (.cells s1.cells 32) :: ob (g + 1 + 1) (.cells #[.int .u8 (n : Int), .int .u8 (m : Int)] 67) :: ob (g + 1) (.cells CA 52) :: []) from ⟨C3, HC3.out, h8⟩)
    clear h8 HC3 HR3 H7 z0 z1
    obtain ⟨Cb, hCb, hbb⟩ := H8.out
    obtain ⟨A0, c0, A1, c1, A3, c3, hga, ra0, ra1, ra3⟩ := BusM.open_ hbb
    obtain ⟨Ca, hCa, hba⟩ := H8.out.swap
    obtain ⟨E0, e0, E1, e1, E3, e3, hgb, rb0, rb1, rb3⟩ := BusM.open_ hba
    have HLEN := Aside0.mk (show B1.words.length ≤ 600 ∧ B1.reads.length ≤ 60 ∧ B1.calls.length ≤ 2000 from ⟨by have h1 := HOK1.out.2.2.2.1.1; have h0 := HB0.out; omega, by have h1 := HOK1.out.2.2.2.1.2; have h0 := HB0.out; omega, by have h1 := HOK1.out.2.2.1; have h0 := HB0.out; have := HNM.out; omega⟩)
    have HSW := Aside0.mk (fun (a0 : Int) => SameW_call (A := B1) (B := B1) (w := w8) rfl rfl rfl (by have := HLEN.out; omega) (by have := HLEN.out; omega) (by have := HLEN.out; omega) rb0 rb1 rb3 ra0 ra1 ra3)
    have xa0 := blk_cell hga 0
    have xa1 := blk_cell hga 1
    have xa2 := blk_cell hga 2
    have xa3 := blk_cell hga 3
    have xb0 := blk_cell hgb 0
    have xb1 := blk_cell hgb 1
    have xb2 := blk_cell hgb 2
    have xb3 := blk_cell hgb 3
    have HLD := Aside0.mk (H8.out.mem.get)
    have HLC := Aside0.mk ((H8.out.up 2).mem.get)
    have e32 := fun d W => eq32 d W s1 HOK1.out.1
    have HOS := Aside0.mk HOK1.out.1
    clear hCb hbb hCa hba hga hgb ra0 ra1 ra3 rb0 rb1 rb3
    go_wp2_with (first
      | (refine wpList_step fun K hK => ?_; first
        | refine wp_load32 (.tmp 9) rfl gc rfl HOS.out HLC.out ?_
        | refine wp_load32 (.tmp 10) rfl gd rfl HOS.out HLD.out ?_))
    refine (HSW.out 0).mono ?_
    rintro e w9 ⟨rfl, h9⟩
    have H9 := Aside0.mk (H8.out.step h9).mem.below
    clear h9
    go_wp2_with fail
    go_ret
    exact ⟨rfl, H9.out⟩
end Go.Proofs.YtleafbihfmiidaaDoor.QAl
