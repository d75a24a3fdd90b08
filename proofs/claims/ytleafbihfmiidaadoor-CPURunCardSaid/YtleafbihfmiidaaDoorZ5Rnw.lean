/- c12: CPURun, walked. Printed by mkF56.py. -/
import Derived.Test.YtleafbihfmiidaaDoorZ5Tw
import Derived.Test.YtleafbihfmiidaaDoorZ5Rrn
import Derived.Test.YtleafbihfmiidaaDoorZ5Spq
namespace Go.Proofs.YtleafbihfmiidaaDoor.QAl
open Go.RowKit Go.Proofs.YtleafbihfmiidaaDoorW.PrintWords Go.Proofs.YtleafbihfmiidaaDoorW.PrintLast Go.Proofs.YtleafbihfmiidaaDoorW.PrintMore Go.Proofs.YtleafbihfmiidaaDoor.Sl
set_option linter.unusedVariables false
set_option linter.unusedSimpArgs false
section
variable {ops : Array Oper} {op : Oper} {a : Act} {s : Cs} {t : Nat}
theorem wp_load32 {w : World} {K : Act → World → Prop} {Q : Exit → Act → World → Prop} (x : Operand) (ho : op.op = .load 32 x) (g : Nat) (hx : a.eval x = .pointer (some ⟨g, 0, none⟩)) (ok : s.Ok) (hg : w.heap[g]? = some (.cells s.cells t (0, 0)))
    (h : K (a.put op.dst (.agg s.cells)) w) : op.wp Tryd.prog a w K Q :=
  wp_load_mid 32 x ho g 0 hx (.int .i64 s.pc :: s.m.map (Value.int .i16)) _ (range_all hg) Tryd.underlying32 rfl (by rw [List.length_cons, List.length_map, ok.len]; exact i32) h
theorem wp_load26 {w : World} {K : Act → World → Prop} {Q : Exit → Act → World → Prop} (x : Operand) (ho : op.op = .load 26 x) (g : Nat) (hx : a.eval x = .pointer (some ⟨g, 0, none⟩)) (ok : s.Ok) (hg : w.heap[g]? = some (.cells s.cells t (0, 0)))
    (h : K (a.put op.dst (.agg s.cells)) w) : op.wp Tryd.prog a w K Q :=
  wp_load_mid 26 x ho g 0 hx (.int .i64 s.pc :: s.m.map (Value.int .i16)) _ (range_all hg) Tryd.underlying26 rfl (by rw [List.length_cons, List.length_map, ok.len]; exact i26) h
end
set_option maxRecDepth 100000 in
set_option maxHeartbeats 16000000 in
theorem Run_row (s : Cs) (ok : s.Ok) (p : XP) (x : Img) (hxi : ∀ c ∈ x.codes, S16 c.f4) (n : Nat) (hn : n ≤ 255) (B0 B1 B3 : Option Addr) (n0 n1 n3 d0 d1 d3 : Nat) (fl : Int) (ws rs : List Int) (cs : List S100) (W : World)
    (hr0 : Kd.C (Kd.int .i16) W B0 n0 ws) (hr1 : Kd.C (Kd.int .i16) W B1 n1 rs) (hr3 : Kd.C k100 W B3 n3 cs) (hw : ws.length = n0) (hrl : rs.length = n1) (hcl : cs.length = n3) (hws : ∀ v ∈ ws, S16 v) (hrs : ∀ v ∈ rs, S16 v) (hXR : XR p x W) (hG : GT W) :
    Calls Tryd.prog 6 #[.agg (p.arr x), .agg (caseA s [.slice B0 n0 d0, .slice B1 n1 d1, .int .i64 fl, .slice B3 n3 d3]), .int .u8 (n : Int)] W fun e W' => e = .returned (.bool true) ∧ Below W.heap.size W W' := by
  obtain ⟨g, hg⟩ : ∃ g, W.heap.size = g := ⟨_, rfl⟩
  obtain ⟨CA, hCA⟩ : ∃ CA, caseA s [.slice B0 n0 d0, .slice B1 n1 d1, .int .i64 fl, .slice B3 n3 d3] = CA := ⟨_, rfl⟩
  have HCA := Aside0.mk hCA
  rw [hCA]
  have h0 := (Mem.start W).new_ (.cells (p.arr x) 47) hg
  have h1 := h0.new_ (g := g + 1) (.cells CA 52) (by simp [hg])
  have HAW := Aside0.mk (awake_call h1 hG)
  have HO := Aside0.mk ok
  have HXR := Aside0.mk hXR
  have HG := Aside0.mk hG
  have HXI := Aside0.mk hxi
  have R0 := Aside0.mk (And.intro hr0 hw)
  have R1 := Aside0.mk (And.intro hr1 hrl)
  have R3 := Aside0.mk (And.intro hr3 hcl)
  have HWS := Aside0.mk hws
  have HRS := Aside0.mk hrs
  have HN := Aside0.mk hn
  clear h0 h1 hr0 hr1 hr3 hw hrl hcl hws hrs hXR hG hxi ok hCA hn
  go_enter Tryd.func6, Tryd.ntmps6
  go_wp2_with fail
  refine HAW.out.mono ?_
  rintro e w2 ⟨rfl, h2⟩
  have H2 := Aside0.mk h2
  have hx2 := (h2.up 1).get
  have y0 := blk_cell hx2 0
  have y1 := blk_cell hx2 1
  have y2 := blk_cell hx2 2
  have y3 := blk_cell hx2 3
  have y4 := blk_cell hx2 4
  have y5 := blk_cell hx2 5
  have y6 := blk_cell hx2 6
  have y7 := blk_cell hx2 7
  have y8 := blk_cell hx2 8
  have y9 := blk_cell hx2 9
  have y10 := blk_cell hx2 10
  have y11 := blk_cell hx2 11
  clear h2 hx2
  have HC2 := Aside0.mk (show w2.heap[g + 1]? = some (.cells (caseA s [.slice B0 n0 d0, .slice B1 n1 d1, .int .i64 fl, .slice B3 n3 d3]) 52 (0, 0)) by rw [HCA.out]; exact H2.out.get)
  go_wp2_with (refine wpList_case1 rfl (.tmp 18) rfl (g + 1) rfl HO.out rfl HC2.out ?_)
  refine (Small_call H2.out p x B0 B1 B3 n0 n1 n3 d0 d1 d3 fl).mono ?_
  rintro e w3 ⟨rfl, h3⟩
  clear y0 y1 y2 y3 y4 y5 y6 y7 y8 y9 y10 y11
  have H3 := Aside0.mk h3
  clear h3
  cases hsm : smallB x.codes.length x.globals.length x.addr.length x.chans n0 n1 n3 with
  | false =>
    go_wp2_with fail
    go_ret
    exact ⟨rfl, by first | exact H3.out.below | (rw [← hg]; exact H3.out.below)⟩
  | true =>
  have HSM : Aside0 (x.codes.length ≤ 60 ∧ n0 ≤ 600 ∧ n1 ≤ 60 ∧ n3 = 0) := ⟨by
    unfold smallB at hsm
    simp only [Bool.and_eq_true, decide_eq_true_eq] at hsm
    omega⟩
  have HXO := Aside0.mk (Img.Ok.mk HXI.out (by have := HSM.out.1; omega))
  have HBO := Aside0.mk (show Bs.Ok ⟨ws, rs, fl, cs⟩ from ⟨HWS.out, HRS.out⟩)
  have HB0 : Aside0 (∀ B : Bs, B = Bs.mk ws rs fl cs → B.calls.length = 0 ∧ B.words.length ≤ 600 ∧ B.reads.length ≤ 60) := ⟨by
    rintro B rfl
    refine ⟨?_, ?_, ?_⟩
    · show cs.length = 0; rw [R3.out.2]; exact HSM.out.2.2.2
    · show ws.length ≤ 600; rw [R0.out.2]; exact HSM.out.2.1
    · show rs.length ≤ 60; rw [R1.out.2]; exact HSM.out.2.2.1⟩
  clear hsm
  go_wp2_with fail
  have H3D := Aside0.mk H3.out.drew
  obtain ⟨gz0, hz0⟩ : ∃ q, w3.heap.size = q := ⟨_, rfl⟩
  refine' share15 (R := fun ga gb w _ _ _ _ _ _ _ _ _ _ _ _ => Two W w ga ⟨ws, rs, fl, cs⟩ gb ⟨ws, rs, fl, cs⟩ (ob (g + 1) (.cells CA 52) :: ob g (.cells (p.arr x) 47) :: [])) (fun KEY => ?_) ?_
  rotate_left
  · refine wp_region_held_drew (S := fun w => w.heap[g + 1]? = some (.cells (caseA s [.slice B0 n0 d0, .slice B1 n1 d1, .int .i64 fl, .slice B3 n3 d3]) 52 (0, 0))) (by kernel_rfl) (by rw [HCA.out]; exact (H3D.out.up 0).get) (fun hS => ?_)
    refine wpAnyH_take (i := 0) (v := ?_) rfl (by kernel_rfl) (by kernel_rfl) (by kernel_rfl) (fun _ _ _ h => h) (Or.inl ⟨by rfl, ?_⟩) hS ?_
    rotate_left
    · intro W_ hSW_
      go_simp
      try with_reducible rfl
    try simp only [Act.put, List.setIfInBounds_toArray, List.set_cons_zero, List.set_cons_succ]
    refine wpAnyH_take (i := 1) (v := .agg #[.slice B0 n0 d0, .slice B1 n1 d1, .int .i64 fl, .slice B3 n3 d3]) rfl (by kernel_rfl) (by kernel_rfl) (by kernel_rfl) (fun _ _ _ h => h) (yields_case1 (l := [.slice B0 n0 d0, .slice B1 n1 d1, .int .i64 fl, .slice B3 n3 d3]) (by rfl) _ rfl _ rfl HO.out rfl (fun W_ hSW_ => hSW_)) hS ?_
    try simp only [Act.put, List.setIfInBounds_toArray, List.set_cons_zero, List.set_cons_succ]
    refine wpAnyH_take (i := 3) (v := ?_) rfl (by kernel_rfl) (by kernel_rfl) (by kernel_rfl) (fun _ _ _ h => h) (Or.inl ⟨by rfl, ?_⟩) hS ?_
    rotate_left
    · intro W_ hSW_
      go_simp
      try with_reducible rfl
    try simp only [Act.put, List.setIfInBounds_toArray, List.set_cons_zero, List.set_cons_succ]
    refine wpAnyH_take (i := 4) (v := .agg #[.slice B0 n0 d0, .slice B1 n1 d1, .int .i64 fl, .slice B3 n3 d3]) rfl (by kernel_rfl) (by kernel_rfl) (by kernel_rfl) (fun _ _ _ h => h) (yields_case1 (l := [.slice B0 n0 d0, .slice B1 n1 d1, .int .i64 fl, .slice B3 n3 d3]) (by rfl) _ rfl _ rfl HO.out rfl (fun W_ hSW_ => hSW_)) hS ?_
    try simp only [Act.put, List.setIfInBounds_toArray, List.set_cons_zero, List.set_cons_succ]
    refine wpAnyH_ready (rs := [2, 6, 7]) (by kernel_rfl) (by simp) ?_
    refine AllReadyH.cons rfl (fun K_ hK_ => ?_) (AllReadyH.cons rfl (fun K_ hK_ => ?_) (AllReadyH.cons rfl (fun K_ hK_ => ?_) AllReadyH.nil))
    · go_simp
      refine (Copy_call H3D.out B0 B1 B3 n0 n1 n3 d0 d1 d3 fl ws rs cs R0.out.1 R1.out.1 R3.out.1 HSM.out.2.1 HSM.out.2.2.1 HSM.out.2.2.2 R0.out.2 R1.out.2 R3.out.2).mono ?_
      rintro e w_1 ⟨v0, v1, v3, rfl, h4⟩
      obtain ⟨a3, ac3, rfl, _, _⟩ := h4.readsN R3.out.2
      obtain ⟨a1, ac1, rfl, _, _⟩ := h4.drop.readsN R1.out.2
      obtain ⟨a0, ac0, rfl, _, _⟩ := h4.drop.drop.readsN R0.out.2
      have HM_2 := Aside0.mk h4
      clear h4
      obtain ⟨gz_3, hz_4⟩ : ∃ q, w_1.heap.size = q := ⟨_, rfl⟩
      refine hK_.out _ _ ((by rw [HCA.out]; exact (HM_2.out.up 3).get)) (fun hS_ => ?_)
      clear hK_ K_ hS
      have hS := hS_
      clear hS_
      try simp only [Act.put, List.setIfInBounds_toArray, List.set_cons_zero, List.set_cons_succ]
      refine wpAnyH_ready (rs := [5, 6, 7]) (by kernel_rfl) (by simp) ?_
      refine AllReadyH.cons rfl (fun K_ hK_ => ?_) (AllReadyH.cons rfl (fun K_ hK_ => ?_) (AllReadyH.cons rfl (fun K_ hK_ => ?_) AllReadyH.nil))
      · go_simp
        refine (Copy_call HM_2.out B0 B1 B3 n0 n1 n3 d0 d1 d3 fl ws rs cs R0.out.1 R1.out.1 R3.out.1 HSM.out.2.1 HSM.out.2.2.1 HSM.out.2.2.2 R0.out.2 R1.out.2 R3.out.2).mono ?_
        rintro e w_5 ⟨v0, v1, v3, rfl, h4⟩
        obtain ⟨b3, bc3, rfl, _, _⟩ := h4.readsN R3.out.2
        obtain ⟨b1, bc1, rfl, _, _⟩ := h4.drop.readsN R1.out.2
        obtain ⟨b0, bc0, rfl, _, _⟩ := h4.drop.drop.readsN R0.out.2
        have HM_6 := Aside0.mk h4
        clear h4
        obtain ⟨gz_7, hz_8⟩ : ∃ q, w_5.heap.size = q := ⟨_, rfl⟩
        refine hK_.out _ _ ((by rw [HCA.out]; exact (HM_6.out.up 6).get)) (fun hS_ => ?_)
        clear hK_ K_ hS
        have hS := hS_
        clear hS_
        try simp only [Act.put, List.setIfInBounds_toArray, List.set_cons_zero, List.set_cons_succ]
        refine wpAnyH_ready (rs := [6, 7]) (by kernel_rfl) (by simp) ?_
        refine AllReadyH.cons rfl (fun K_ hK_ => ?_) (AllReadyH.cons rfl (fun K_ hK_ => ?_) AllReadyH.nil)
        · go_simp
          have HM_9 := Aside0.mk (HM_6.out.new_ (g := gz_7) (.cells #[.slice none 0 0, .slice none 0 0, .int .i64 0, .slice none 0 0] 50) (by simp [hz_8]))
          refine hK_.out _ _ ((by rw [HCA.out]; exact (HM_9.out.up 7).get)) (fun hS_ => ?_)
          clear hK_ K_ hS
          have hS := hS_
          clear hS_
          try simp only [Act.put, List.setIfInBounds_toArray, List.set_cons_zero, List.set_cons_succ]
          refine wpAnyH_ready (rs := [7]) (by kernel_rfl) (by simp) ?_
          refine AllReadyH.cons rfl (fun K_ hK_ => ?_) AllReadyH.nil
          · go_simp
            have HM_10 := Aside0.mk (HM_9.out.new_ (g := (gz_7 + 1)) (.cells #[.slice none 0 0, .slice none 0 0, .int .i64 0, .slice none 0 0] 50) (by simp [hz_8]))
            refine hK_.out _ _ ((by rw [HCA.out]; exact (HM_10.out.up 8).get)) (fun hS_ => ?_)
            clear hK_ K_ hS
            have hS := hS_
            clear hS_
            try simp only [Act.put, List.setIfInBounds_toArray, List.set_cons_zero, List.set_cons_succ]
            refine wpAnyH_ready (rs := [8]) (by kernel_rfl) (by simp) ?_
            refine AllReadyH.cons rfl (fun K_ hK_ => ?_) AllReadyH.nil
            have hu_ := (HM_10.out.up 1)
            rw [if_pos (by rfl)]
            refine wp_store_row 50 (.tmp 7) (.tmp 24) rfl gz_7 #[.slice a0 n0 ac0, .slice a1 n1 ac1, .int .i64 fl, .slice a3 n3 ac3] rfl rfl 50 #[.slice none 0 0, .slice none 0 0, .int .i64 0, .slice none 0 0] hu_.get i50 rfl (by simp [Value.oneCell']) ?_
            have HM_11 := Aside0.mk (putRow hu_ #[.slice a0 n0 ac0, .slice a1 n1 ac1, .int .i64 fl, .slice a3 n3 ac3])
            clear hu_
            refine hK_.out _ _ ((by rw [HCA.out]; exact (HM_11.out.up 8).get)) (fun hS_ => ?_)
            clear hK_ K_ hS
            have hS := hS_
            clear hS_
            try simp only [Act.put, List.setIfInBounds_toArray, List.set_cons_zero, List.set_cons_succ]
            refine wpAnyH_ready (rs := [9]) (by kernel_rfl) (by simp) ?_
            refine AllReadyH.cons rfl (fun K_ hK_ => ?_) AllReadyH.nil
            have hu_ := (HM_11.out.up 1)
            rw [if_pos (by rfl)]
            refine wp_store_row 50 (.tmp 8) (.tmp 27) rfl (gz_7 + 1) #[.slice b0 n0 bc0, .slice b1 n1 bc1, .int .i64 fl, .slice b3 n3 bc3] rfl rfl 50 #[.slice none 0 0, .slice none 0 0, .int .i64 0, .slice none 0 0] hu_.get i50 rfl (by simp [Value.oneCell']) ?_
            have HM_12 := Aside0.mk (putRow hu_ #[.slice b0 n0 bc0, .slice b1 n1 bc1, .int .i64 fl, .slice b3 n3 bc3])
            clear hu_
            refine hK_.out _ _ ((by rw [HCA.out]; exact (HM_12.out.up 8).get)) (fun hS_ => ?_)
            clear hK_ K_ hS
            have hS := hS_
            clear hS_
            try simp only [Act.put, List.setIfInBounds_toArray, List.set_cons_zero, List.set_cons_succ]
            refine wpAnyH_done (by kernel_rfl) ?_ _
            have hbl_ := busL_of (gw := (gz_7 + 1)) (B := ⟨ws, rs, fl, cs⟩) (wv := .slice b0 n0 bc0) (rv := .slice b1 n1 bc1) (cv := .slice b3 n3 bc3) (L := [ob (gz_7 + 1) (.cells #[.slice b0 n0 bc0, .slice b1 n1 bc1, .int .i64 fl, .slice b3 n3 bc3] 50), ob gz_7 (.cells #[.slice a0 n0 ac0, .slice a1 n1 ac1, .int .i64 fl, .slice a3 n3 ac3] 50), row W k100 100 (.slice b3 n3 bc3) cs, row W (Kd.int .i16) 22 (.slice b0 n0 bc0) ws, row W k100 100 (.slice a3 n3 ac3) cs, row W (Kd.int .i16) 22 (.slice a1 n1 ac1) rs, row W (Kd.int .i16) 22 (.slice a0 n0 ac0) ws, ob (g + 1) (.cells CA 52), ob g (.cells (p.arr x) 47)]) ((((((((((HM_12.out.up 9).up 9).up 9).up 9).up 9).up 9).up 8).up 8).up 8).up 9)
            have hfin := Two.make (ga := gz_7) (gb := (gz_7 + 1)) (A := ⟨ws, rs, fl, cs⟩) (B := ⟨ws, rs, fl, cs⟩) (wv := .slice a0 n0 ac0) (rv := .slice a1 n1 ac1) (cv := .slice a3 n3 ac3) (L := (ob (g + 1) (.cells CA 52) :: ob g (.cells (p.arr x) 47) :: [])) (C := [ob (gz_7 + 1) (.cells #[.slice b0 n0 bc0, .slice b1 n1 bc1, .int .i64 fl, .slice b3 n3 bc3] 50), row W (Kd.int .i16) 22 (.slice b0 n0 bc0) ws, row W (Kd.int .i16) 22 (.slice b1 n1 bc1) rs, row W k100 100 (.slice b3 n3 bc3) cs]) ((((((((((HM_12.out.up 2).up 3).up 4).up 3).up 9).up 9).up 7).up 8).up 9).up 9) hbl_
            clear hbl_
            replace hfin := show Two W _ gz_7 ⟨ws, rs, fl, cs⟩ (gz_7 + 1) ⟨ws, rs, fl, cs⟩ (ob (g + 1) (.cells CA 52) :: ob g (.cells (p.arr x) 47) :: []) from hfin
            generalize gz_7 + 1 = gq_13 at hfin ⊢
            generalize World.setRow _ _ _ = wf at hfin ⊢
            exact KEY gz_7 gq_13 wf a0 ac0 a1 ac1 a3 ac3 b0 bc0 b1 bc1 b3 bc3 hfin
        · go_simp
          have HM_14 := Aside0.mk (HM_6.out.new_ (g := gz_7) (.cells #[.slice none 0 0, .slice none 0 0, .int .i64 0, .slice none 0 0] 50) (by simp [hz_8]))
          refine hK_.out _ _ ((by rw [HCA.out]; exact (HM_14.out.up 7).get)) (fun hS_ => ?_)
          clear hK_ K_ hS
          have hS := hS_
          clear hS_
          try simp only [Act.put, List.setIfInBounds_toArray, List.set_cons_zero, List.set_cons_succ]
          refine wpAnyH_ready (rs := [6]) (by kernel_rfl) (by simp) ?_
          refine AllReadyH.cons rfl (fun K_ hK_ => ?_) AllReadyH.nil
          · go_simp
            have HM_15 := Aside0.mk (HM_14.out.new_ (g := (gz_7 + 1)) (.cells #[.slice none 0 0, .slice none 0 0, .int .i64 0, .slice none 0 0] 50) (by simp [hz_8]))
            refine hK_.out _ _ ((by rw [HCA.out]; exact (HM_15.out.up 8).get)) (fun hS_ => ?_)
            clear hK_ K_ hS
            have hS := hS_
            clear hS_
            try simp only [Act.put, List.setIfInBounds_toArray, List.set_cons_zero, List.set_cons_succ]
            refine wpAnyH_ready (rs := [8]) (by kernel_rfl) (by simp) ?_
            refine AllReadyH.cons rfl (fun K_ hK_ => ?_) AllReadyH.nil
            have hu_ := (HM_15.out.up 0)
            rw [if_pos (by rfl)]
            refine wp_store_row 50 (.tmp 7) (.tmp 24) rfl (gz_7 + 1) #[.slice a0 n0 ac0, .slice a1 n1 ac1, .int .i64 fl, .slice a3 n3 ac3] rfl rfl 50 #[.slice none 0 0, .slice none 0 0, .int .i64 0, .slice none 0 0] hu_.get i50 rfl (by simp [Value.oneCell']) ?_
            have HM_16 := Aside0.mk (putRow hu_ #[.slice a0 n0 ac0, .slice a1 n1 ac1, .int .i64 fl, .slice a3 n3 ac3])
            clear hu_
            refine hK_.out _ _ ((by rw [HCA.out]; exact (HM_16.out.up 8).get)) (fun hS_ => ?_)
            clear hK_ K_ hS
            have hS := hS_
            clear hS_
            try simp only [Act.put, List.setIfInBounds_toArray, List.set_cons_zero, List.set_cons_succ]
            refine wpAnyH_ready (rs := [9]) (by kernel_rfl) (by simp) ?_
            refine AllReadyH.cons rfl (fun K_ hK_ => ?_) AllReadyH.nil
            have hu_ := (HM_16.out.up 1)
            rw [if_pos (by rfl)]
            refine wp_store_row 50 (.tmp 8) (.tmp 27) rfl gz_7 #[.slice b0 n0 bc0, .slice b1 n1 bc1, .int .i64 fl, .slice b3 n3 bc3] rfl rfl 50 #[.slice none 0 0, .slice none 0 0, .int .i64 0, .slice none 0 0] hu_.get i50 rfl (by simp [Value.oneCell']) ?_
            have HM_17 := Aside0.mk (putRow hu_ #[.slice b0 n0 bc0, .slice b1 n1 bc1, .int .i64 fl, .slice b3 n3 bc3])
            clear hu_
            refine hK_.out _ _ ((by rw [HCA.out]; exact (HM_17.out.up 8).get)) (fun hS_ => ?_)
            clear hK_ K_ hS
            have hS := hS_
            clear hS_
            try simp only [Act.put, List.setIfInBounds_toArray, List.set_cons_zero, List.set_cons_succ]
            refine wpAnyH_done (by kernel_rfl) ?_ _
            have hbl_ := busL_of (gw := gz_7) (B := ⟨ws, rs, fl, cs⟩) (wv := .slice b0 n0 bc0) (rv := .slice b1 n1 bc1) (cv := .slice b3 n3 bc3) (L := [ob gz_7 (.cells #[.slice b0 n0 bc0, .slice b1 n1 bc1, .int .i64 fl, .slice b3 n3 bc3] 50), ob (gz_7 + 1) (.cells #[.slice a0 n0 ac0, .slice a1 n1 ac1, .int .i64 fl, .slice a3 n3 ac3] 50), row W k100 100 (.slice b3 n3 bc3) cs, row W (Kd.int .i16) 22 (.slice b0 n0 bc0) ws, row W k100 100 (.slice a3 n3 ac3) cs, row W (Kd.int .i16) 22 (.slice a1 n1 ac1) rs, row W (Kd.int .i16) 22 (.slice a0 n0 ac0) ws, ob (g + 1) (.cells CA 52), ob g (.cells (p.arr x) 47)]) ((((((((((HM_17.out.up 9).up 9).up 9).up 9).up 9).up 9).up 8).up 8).up 8).up 9)
            have hfin := Two.make (ga := (gz_7 + 1)) (gb := gz_7) (A := ⟨ws, rs, fl, cs⟩) (B := ⟨ws, rs, fl, cs⟩) (wv := .slice a0 n0 ac0) (rv := .slice a1 n1 ac1) (cv := .slice a3 n3 ac3) (L := (ob (g + 1) (.cells CA 52) :: ob g (.cells (p.arr x) 47) :: [])) (C := [ob gz_7 (.cells #[.slice b0 n0 bc0, .slice b1 n1 bc1, .int .i64 fl, .slice b3 n3 bc3] 50), row W (Kd.int .i16) 22 (.slice b0 n0 bc0) ws, row W (Kd.int .i16) 22 (.slice b1 n1 bc1) rs, row W k100 100 (.slice b3 n3 bc3) cs]) ((((((((((HM_17.out.up 2).up 3).up 4).up 3).up 9).up 9).up 7).up 8).up 9).up 9) hbl_
            clear hbl_
            replace hfin := show Two W _ (gz_7 + 1) ⟨ws, rs, fl, cs⟩ gz_7 ⟨ws, rs, fl, cs⟩ (ob (g + 1) (.cells CA 52) :: ob g (.cells (p.arr x) 47) :: []) from hfin
            generalize gz_7 + 1 = gq_18 at hfin ⊢
            generalize World.setRow _ _ _ = wf at hfin ⊢
            exact KEY gq_18 gz_7 wf a0 ac0 a1 ac1 a3 ac3 b0 bc0 b1 bc1 b3 bc3 hfin
      · go_simp
        have HM_19 := Aside0.mk (HM_2.out.new_ (g := gz_3) (.cells #[.slice none 0 0, .slice none 0 0, .int .i64 0, .slice none 0 0] 50) (by simp [hz_4]))
        refine hK_.out _ _ ((by rw [HCA.out]; exact (HM_19.out.up 4).get)) (fun hS_ => ?_)
        clear hK_ K_ hS
        have hS := hS_
        clear hS_
        try simp only [Act.put, List.setIfInBounds_toArray, List.set_cons_zero, List.set_cons_succ]
        refine wpAnyH_ready (rs := [5, 7]) (by kernel_rfl) (by simp) ?_
        refine AllReadyH.cons rfl (fun K_ hK_ => ?_) (AllReadyH.cons rfl (fun K_ hK_ => ?_) AllReadyH.nil)
        · go_simp
          refine (Copy_call HM_19.out B0 B1 B3 n0 n1 n3 d0 d1 d3 fl ws rs cs R0.out.1 R1.out.1 R3.out.1 HSM.out.2.1 HSM.out.2.2.1 HSM.out.2.2.2 R0.out.2 R1.out.2 R3.out.2).mono ?_
          rintro e w_20 ⟨v0, v1, v3, rfl, h4⟩
          obtain ⟨b3, bc3, rfl, _, _⟩ := h4.readsN R3.out.2
          obtain ⟨b1, bc1, rfl, _, _⟩ := h4.drop.readsN R1.out.2
          obtain ⟨b0, bc0, rfl, _, _⟩ := h4.drop.drop.readsN R0.out.2
          have HM_21 := Aside0.mk h4
          clear h4
          obtain ⟨gz_22, hz_23⟩ : ∃ q, w_20.heap.size = q := ⟨_, rfl⟩
          refine hK_.out _ _ ((by rw [HCA.out]; exact (HM_21.out.up 7).get)) (fun hS_ => ?_)
          clear hK_ K_ hS
          have hS := hS_
          clear hS_
          try simp only [Act.put, List.setIfInBounds_toArray, List.set_cons_zero, List.set_cons_succ]
          refine wpAnyH_ready (rs := [7]) (by kernel_rfl) (by simp) ?_
          refine AllReadyH.cons rfl (fun K_ hK_ => ?_) AllReadyH.nil
          · go_simp
            have HM_24 := Aside0.mk (HM_21.out.new_ (g := gz_22) (.cells #[.slice none 0 0, .slice none 0 0, .int .i64 0, .slice none 0 0] 50) (by simp [hz_23]))
            refine hK_.out _ _ ((by rw [HCA.out]; exact (HM_24.out.up 8).get)) (fun hS_ => ?_)
            clear hK_ K_ hS
            have hS := hS_
            clear hS_
            try simp only [Act.put, List.setIfInBounds_toArray, List.set_cons_zero, List.set_cons_succ]
            refine wpAnyH_ready (rs := [8]) (by kernel_rfl) (by simp) ?_
            refine AllReadyH.cons rfl (fun K_ hK_ => ?_) AllReadyH.nil
            have hu_ := (HM_24.out.up 4)
            rw [if_pos (by rfl)]
            refine wp_store_row 50 (.tmp 7) (.tmp 24) rfl gz_3 #[.slice a0 n0 ac0, .slice a1 n1 ac1, .int .i64 fl, .slice a3 n3 ac3] rfl rfl 50 #[.slice none 0 0, .slice none 0 0, .int .i64 0, .slice none 0 0] hu_.get i50 rfl (by simp [Value.oneCell']) ?_
            have HM_25 := Aside0.mk (putRow hu_ #[.slice a0 n0 ac0, .slice a1 n1 ac1, .int .i64 fl, .slice a3 n3 ac3])
            clear hu_
            refine hK_.out _ _ ((by rw [HCA.out]; exact (HM_25.out.up 8).get)) (fun hS_ => ?_)
            clear hK_ K_ hS
            have hS := hS_
            clear hS_
            try simp only [Act.put, List.setIfInBounds_toArray, List.set_cons_zero, List.set_cons_succ]
            refine wpAnyH_ready (rs := [9]) (by kernel_rfl) (by simp) ?_
            refine AllReadyH.cons rfl (fun K_ hK_ => ?_) AllReadyH.nil
            have hu_ := (HM_25.out.up 1)
            rw [if_pos (by rfl)]
            refine wp_store_row 50 (.tmp 8) (.tmp 27) rfl gz_22 #[.slice b0 n0 bc0, .slice b1 n1 bc1, .int .i64 fl, .slice b3 n3 bc3] rfl rfl 50 #[.slice none 0 0, .slice none 0 0, .int .i64 0, .slice none 0 0] hu_.get i50 rfl (by simp [Value.oneCell']) ?_
            have HM_26 := Aside0.mk (putRow hu_ #[.slice b0 n0 bc0, .slice b1 n1 bc1, .int .i64 fl, .slice b3 n3 bc3])
            clear hu_
            refine hK_.out _ _ ((by rw [HCA.out]; exact (HM_26.out.up 8).get)) (fun hS_ => ?_)
            clear hK_ K_ hS
            have hS := hS_
            clear hS_
            try simp only [Act.put, List.setIfInBounds_toArray, List.set_cons_zero, List.set_cons_succ]
            refine wpAnyH_done (by kernel_rfl) ?_ _
            have hbl_ := busL_of (gw := gz_22) (B := ⟨ws, rs, fl, cs⟩) (wv := .slice b0 n0 bc0) (rv := .slice b1 n1 bc1) (cv := .slice b3 n3 bc3) (L := [ob gz_22 (.cells #[.slice b0 n0 bc0, .slice b1 n1 bc1, .int .i64 fl, .slice b3 n3 bc3] 50), ob gz_3 (.cells #[.slice a0 n0 ac0, .slice a1 n1 ac1, .int .i64 fl, .slice a3 n3 ac3] 50), row W k100 100 (.slice b3 n3 bc3) cs, row W (Kd.int .i16) 22 (.slice b0 n0 bc0) ws, row W k100 100 (.slice a3 n3 ac3) cs, row W (Kd.int .i16) 22 (.slice a1 n1 ac1) rs, row W (Kd.int .i16) 22 (.slice a0 n0 ac0) ws, ob (g + 1) (.cells CA 52), ob g (.cells (p.arr x) 47)]) ((((((((((HM_26.out.up 9).up 9).up 9).up 9).up 9).up 9).up 8).up 8).up 8).up 9)
            have hfin := Two.make (ga := gz_3) (gb := gz_22) (A := ⟨ws, rs, fl, cs⟩) (B := ⟨ws, rs, fl, cs⟩) (wv := .slice a0 n0 ac0) (rv := .slice a1 n1 ac1) (cv := .slice a3 n3 ac3) (L := (ob (g + 1) (.cells CA 52) :: ob g (.cells (p.arr x) 47) :: [])) (C := [ob gz_22 (.cells #[.slice b0 n0 bc0, .slice b1 n1 bc1, .int .i64 fl, .slice b3 n3 bc3] 50), row W (Kd.int .i16) 22 (.slice b0 n0 bc0) ws, row W (Kd.int .i16) 22 (.slice b1 n1 bc1) rs, row W k100 100 (.slice b3 n3 bc3) cs]) ((((((((((HM_26.out.up 2).up 3).up 4).up 3).up 9).up 9).up 7).up 8).up 9).up 9) hbl_
            clear hbl_
            replace hfin := show Two W _ gz_3 ⟨ws, rs, fl, cs⟩ gz_22 ⟨ws, rs, fl, cs⟩ (ob (g + 1) (.cells CA 52) :: ob g (.cells (p.arr x) 47) :: []) from hfin
            generalize World.setRow _ _ _ = wf at hfin ⊢
            exact KEY gz_3 gz_22 wf a0 ac0 a1 ac1 a3 ac3 b0 bc0 b1 bc1 b3 bc3 hfin
        · go_simp
          have HM_27 := Aside0.mk (HM_19.out.new_ (g := (gz_3 + 1)) (.cells #[.slice none 0 0, .slice none 0 0, .int .i64 0, .slice none 0 0] 50) (by simp [hz_4]))
          refine hK_.out _ _ ((by rw [HCA.out]; exact (HM_27.out.up 5).get)) (fun hS_ => ?_)
          clear hK_ K_ hS
          have hS := hS_
          clear hS_
          try simp only [Act.put, List.setIfInBounds_toArray, List.set_cons_zero, List.set_cons_succ]
          refine wpAnyH_ready (rs := [5]) (by kernel_rfl) (by simp) ?_
          refine AllReadyH.cons rfl (fun K_ hK_ => ?_) AllReadyH.nil
          · go_simp
            refine (Copy_call HM_27.out B0 B1 B3 n0 n1 n3 d0 d1 d3 fl ws rs cs R0.out.1 R1.out.1 R3.out.1 HSM.out.2.1 HSM.out.2.2.1 HSM.out.2.2.2 R0.out.2 R1.out.2 R3.out.2).mono ?_
            rintro e w_28 ⟨v0, v1, v3, rfl, h4⟩
            obtain ⟨b3, bc3, rfl, _, _⟩ := h4.readsN R3.out.2
            obtain ⟨b1, bc1, rfl, _, _⟩ := h4.drop.readsN R1.out.2
            obtain ⟨b0, bc0, rfl, _, _⟩ := h4.drop.drop.readsN R0.out.2
            have HM_29 := Aside0.mk h4
            clear h4
            obtain ⟨gz_30, hz_31⟩ : ∃ q, w_28.heap.size = q := ⟨_, rfl⟩
            refine hK_.out _ _ ((by rw [HCA.out]; exact (HM_29.out.up 8).get)) (fun hS_ => ?_)
            clear hK_ K_ hS
            have hS := hS_
            clear hS_
            try simp only [Act.put, List.setIfInBounds_toArray, List.set_cons_zero, List.set_cons_succ]
            refine wpAnyH_ready (rs := [8]) (by kernel_rfl) (by simp) ?_
            refine AllReadyH.cons rfl (fun K_ hK_ => ?_) AllReadyH.nil
            have hu_ := (HM_29.out.up 4)
            rw [if_pos (by rfl)]
            refine wp_store_row 50 (.tmp 7) (.tmp 24) rfl gz_3 #[.slice a0 n0 ac0, .slice a1 n1 ac1, .int .i64 fl, .slice a3 n3 ac3] rfl rfl 50 #[.slice none 0 0, .slice none 0 0, .int .i64 0, .slice none 0 0] hu_.get i50 rfl (by simp [Value.oneCell']) ?_
            have HM_32 := Aside0.mk (putRow hu_ #[.slice a0 n0 ac0, .slice a1 n1 ac1, .int .i64 fl, .slice a3 n3 ac3])
            clear hu_
            refine hK_.out _ _ ((by rw [HCA.out]; exact (HM_32.out.up 8).get)) (fun hS_ => ?_)
            clear hK_ K_ hS
            have hS := hS_
            clear hS_
            try simp only [Act.put, List.setIfInBounds_toArray, List.set_cons_zero, List.set_cons_succ]
            refine wpAnyH_ready (rs := [9]) (by kernel_rfl) (by simp) ?_
            refine AllReadyH.cons rfl (fun K_ hK_ => ?_) AllReadyH.nil
            have hu_ := (HM_32.out.up 4)
            rw [if_pos (by rfl)]
            refine wp_store_row 50 (.tmp 8) (.tmp 27) rfl (gz_3 + 1) #[.slice b0 n0 bc0, .slice b1 n1 bc1, .int .i64 fl, .slice b3 n3 bc3] rfl rfl 50 #[.slice none 0 0, .slice none 0 0, .int .i64 0, .slice none 0 0] hu_.get i50 rfl (by simp [Value.oneCell']) ?_
            have HM_33 := Aside0.mk (putRow hu_ #[.slice b0 n0 bc0, .slice b1 n1 bc1, .int .i64 fl, .slice b3 n3 bc3])
            clear hu_
            refine hK_.out _ _ ((by rw [HCA.out]; exact (HM_33.out.up 8).get)) (fun hS_ => ?_)
            clear hK_ K_ hS
            have hS := hS_
            clear hS_
            try simp only [Act.put, List.setIfInBounds_toArray, List.set_cons_zero, List.set_cons_succ]
            refine wpAnyH_done (by kernel_rfl) ?_ _
            have hbl_ := busL_of (gw := (gz_3 + 1)) (B := ⟨ws, rs, fl, cs⟩) (wv := .slice b0 n0 bc0) (rv := .slice b1 n1 bc1) (cv := .slice b3 n3 bc3) (L := [ob (gz_3 + 1) (.cells #[.slice b0 n0 bc0, .slice b1 n1 bc1, .int .i64 fl, .slice b3 n3 bc3] 50), ob gz_3 (.cells #[.slice a0 n0 ac0, .slice a1 n1 ac1, .int .i64 fl, .slice a3 n3 ac3] 50), row W k100 100 (.slice b3 n3 bc3) cs, row W (Kd.int .i16) 22 (.slice b0 n0 bc0) ws, row W k100 100 (.slice a3 n3 ac3) cs, row W (Kd.int .i16) 22 (.slice a1 n1 ac1) rs, row W (Kd.int .i16) 22 (.slice a0 n0 ac0) ws, ob (g + 1) (.cells CA 52), ob g (.cells (p.arr x) 47)]) ((((((((((HM_33.out.up 9).up 9).up 9).up 9).up 9).up 9).up 8).up 8).up 8).up 9)
            have hfin := Two.make (ga := gz_3) (gb := (gz_3 + 1)) (A := ⟨ws, rs, fl, cs⟩) (B := ⟨ws, rs, fl, cs⟩) (wv := .slice a0 n0 ac0) (rv := .slice a1 n1 ac1) (cv := .slice a3 n3 ac3) (L := (ob (g + 1) (.cells CA 52) :: ob g (.cells (p.arr x) 47) :: [])) (C := [ob (gz_3 + 1) (.cells #[.slice b0 n0 bc0, .slice b1 n1 bc1, .int .i64 fl, .slice b3 n3 bc3] 50), row W (Kd.int .i16) 22 (.slice b0 n0 bc0) ws, row W (Kd.int .i16) 22 (.slice b1 n1 bc1) rs, row W k100 100 (.slice b3 n3 bc3) cs]) ((((((((((HM_33.out.up 2).up 3).up 4).up 3).up 9).up 9).up 7).up 8).up 9).up 9) hbl_
            clear hbl_
            replace hfin := show Two W _ gz_3 ⟨ws, rs, fl, cs⟩ (gz_3 + 1) ⟨ws, rs, fl, cs⟩ (ob (g + 1) (.cells CA 52) :: ob g (.cells (p.arr x) 47) :: []) from hfin
            generalize gz_3 + 1 = gq_34 at hfin ⊢
            generalize World.setRow _ _ _ = wf at hfin ⊢
            exact KEY gz_3 gq_34 wf a0 ac0 a1 ac1 a3 ac3 b0 bc0 b1 bc1 b3 bc3 hfin
      · go_simp
        have HM_35 := Aside0.mk (HM_2.out.new_ (g := gz_3) (.cells #[.slice none 0 0, .slice none 0 0, .int .i64 0, .slice none 0 0] 50) (by simp [hz_4]))
        refine hK_.out _ _ ((by rw [HCA.out]; exact (HM_35.out.up 4).get)) (fun hS_ => ?_)
        clear hK_ K_ hS
        have hS := hS_
        clear hS_
        try simp only [Act.put, List.setIfInBounds_toArray, List.set_cons_zero, List.set_cons_succ]
        refine wpAnyH_ready (rs := [5, 6]) (by kernel_rfl) (by simp) ?_
        refine AllReadyH.cons rfl (fun K_ hK_ => ?_) (AllReadyH.cons rfl (fun K_ hK_ => ?_) AllReadyH.nil)
        · go_simp
          refine (Copy_call HM_35.out B0 B1 B3 n0 n1 n3 d0 d1 d3 fl ws rs cs R0.out.1 R1.out.1 R3.out.1 HSM.out.2.1 HSM.out.2.2.1 HSM.out.2.2.2 R0.out.2 R1.out.2 R3.out.2).mono ?_
          rintro e w_36 ⟨v0, v1, v3, rfl, h4⟩
          obtain ⟨b3, bc3, rfl, _, _⟩ := h4.readsN R3.out.2
          obtain ⟨b1, bc1, rfl, _, _⟩ := h4.drop.readsN R1.out.2
          obtain ⟨b0, bc0, rfl, _, _⟩ := h4.drop.drop.readsN R0.out.2
          have HM_37 := Aside0.mk h4
          clear h4
          obtain ⟨gz_38, hz_39⟩ : ∃ q, w_36.heap.size = q := ⟨_, rfl⟩
          refine hK_.out _ _ ((by rw [HCA.out]; exact (HM_37.out.up 7).get)) (fun hS_ => ?_)
          clear hK_ K_ hS
          have hS := hS_
          clear hS_
          try simp only [Act.put, List.setIfInBounds_toArray, List.set_cons_zero, List.set_cons_succ]
          refine wpAnyH_ready (rs := [6]) (by kernel_rfl) (by simp) ?_
          refine AllReadyH.cons rfl (fun K_ hK_ => ?_) AllReadyH.nil
          · go_simp
            have HM_40 := Aside0.mk (HM_37.out.new_ (g := gz_38) (.cells #[.slice none 0 0, .slice none 0 0, .int .i64 0, .slice none 0 0] 50) (by simp [hz_39]))
            refine hK_.out _ _ ((by rw [HCA.out]; exact (HM_40.out.up 8).get)) (fun hS_ => ?_)
            clear hK_ K_ hS
            have hS := hS_
            clear hS_
            try simp only [Act.put, List.setIfInBounds_toArray, List.set_cons_zero, List.set_cons_succ]
            refine wpAnyH_ready (rs := [8]) (by kernel_rfl) (by simp) ?_
            refine AllReadyH.cons rfl (fun K_ hK_ => ?_) AllReadyH.nil
            have hu_ := (HM_40.out.up 0)
            rw [if_pos (by rfl)]
            refine wp_store_row 50 (.tmp 7) (.tmp 24) rfl gz_38 #[.slice a0 n0 ac0, .slice a1 n1 ac1, .int .i64 fl, .slice a3 n3 ac3] rfl rfl 50 #[.slice none 0 0, .slice none 0 0, .int .i64 0, .slice none 0 0] hu_.get i50 rfl (by simp [Value.oneCell']) ?_
            have HM_41 := Aside0.mk (putRow hu_ #[.slice a0 n0 ac0, .slice a1 n1 ac1, .int .i64 fl, .slice a3 n3 ac3])
            clear hu_
            refine hK_.out _ _ ((by rw [HCA.out]; exact (HM_41.out.up 8).get)) (fun hS_ => ?_)
            clear hK_ K_ hS
            have hS := hS_
            clear hS_
            try simp only [Act.put, List.setIfInBounds_toArray, List.set_cons_zero, List.set_cons_succ]
            refine wpAnyH_ready (rs := [9]) (by kernel_rfl) (by simp) ?_
            refine AllReadyH.cons rfl (fun K_ hK_ => ?_) AllReadyH.nil
            have hu_ := (HM_41.out.up 4)
            rw [if_pos (by rfl)]
            refine wp_store_row 50 (.tmp 8) (.tmp 27) rfl gz_3 #[.slice b0 n0 bc0, .slice b1 n1 bc1, .int .i64 fl, .slice b3 n3 bc3] rfl rfl 50 #[.slice none 0 0, .slice none 0 0, .int .i64 0, .slice none 0 0] hu_.get i50 rfl (by simp [Value.oneCell']) ?_
            have HM_42 := Aside0.mk (putRow hu_ #[.slice b0 n0 bc0, .slice b1 n1 bc1, .int .i64 fl, .slice b3 n3 bc3])
            clear hu_
            refine hK_.out _ _ ((by rw [HCA.out]; exact (HM_42.out.up 8).get)) (fun hS_ => ?_)
            clear hK_ K_ hS
            have hS := hS_
            clear hS_
            try simp only [Act.put, List.setIfInBounds_toArray, List.set_cons_zero, List.set_cons_succ]
            refine wpAnyH_done (by kernel_rfl) ?_ _
            have hbl_ := busL_of (gw := gz_3) (B := ⟨ws, rs, fl, cs⟩) (wv := .slice b0 n0 bc0) (rv := .slice b1 n1 bc1) (cv := .slice b3 n3 bc3) (L := [ob gz_3 (.cells #[.slice b0 n0 bc0, .slice b1 n1 bc1, .int .i64 fl, .slice b3 n3 bc3] 50), ob gz_38 (.cells #[.slice a0 n0 ac0, .slice a1 n1 ac1, .int .i64 fl, .slice a3 n3 ac3] 50), row W k100 100 (.slice b3 n3 bc3) cs, row W (Kd.int .i16) 22 (.slice b0 n0 bc0) ws, row W k100 100 (.slice a3 n3 ac3) cs, row W (Kd.int .i16) 22 (.slice a1 n1 ac1) rs, row W (Kd.int .i16) 22 (.slice a0 n0 ac0) ws, ob (g + 1) (.cells CA 52), ob g (.cells (p.arr x) 47)]) ((((((((((HM_42.out.up 9).up 9).up 9).up 9).up 9).up 9).up 8).up 8).up 8).up 9)
            have hfin := Two.make (ga := gz_38) (gb := gz_3) (A := ⟨ws, rs, fl, cs⟩) (B := ⟨ws, rs, fl, cs⟩) (wv := .slice a0 n0 ac0) (rv := .slice a1 n1 ac1) (cv := .slice a3 n3 ac3) (L := (ob (g + 1) (.cells CA 52) :: ob g (.cells (p.arr x) 47) :: [])) (C := [ob gz_3 (.cells #[.slice b0 n0 bc0, .slice b1 n1 bc1, .int .i64 fl, .slice b3 n3 bc3] 50), row W (Kd.int .i16) 22 (.slice b0 n0 bc0) ws, row W (Kd.int .i16) 22 (.slice b1 n1 bc1) rs, row W k100 100 (.slice b3 n3 bc3) cs]) ((((((((((HM_42.out.up 2).up 3).up 4).up 3).up 9).up 9).up 7).up 8).up 9).up 9) hbl_
            clear hbl_
            replace hfin := show Two W _ gz_38 ⟨ws, rs, fl, cs⟩ gz_3 ⟨ws, rs, fl, cs⟩ (ob (g + 1) (.cells CA 52) :: ob g (.cells (p.arr x) 47) :: []) from hfin
            generalize World.setRow _ _ _ = wf at hfin ⊢
            exact KEY gz_38 gz_3 wf a0 ac0 a1 ac1 a3 ac3 b0 bc0 b1 bc1 b3 bc3 hfin
        · go_simp
          have HM_43 := Aside0.mk (HM_35.out.new_ (g := (gz_3 + 1)) (.cells #[.slice none 0 0, .slice none 0 0, .int .i64 0, .slice none 0 0] 50) (by simp [hz_4]))
          refine hK_.out _ _ ((by rw [HCA.out]; exact (HM_43.out.up 5).get)) (fun hS_ => ?_)
          clear hK_ K_ hS
          have hS := hS_
          clear hS_
          try simp only [Act.put, List.setIfInBounds_toArray, List.set_cons_zero, List.set_cons_succ]
          refine wpAnyH_ready (rs := [5]) (by kernel_rfl) (by simp) ?_
          refine AllReadyH.cons rfl (fun K_ hK_ => ?_) AllReadyH.nil
          · go_simp
            refine (Copy_call HM_43.out B0 B1 B3 n0 n1 n3 d0 d1 d3 fl ws rs cs R0.out.1 R1.out.1 R3.out.1 HSM.out.2.1 HSM.out.2.2.1 HSM.out.2.2.2 R0.out.2 R1.out.2 R3.out.2).mono ?_
            rintro e w_44 ⟨v0, v1, v3, rfl, h4⟩
            obtain ⟨b3, bc3, rfl, _, _⟩ := h4.readsN R3.out.2
            obtain ⟨b1, bc1, rfl, _, _⟩ := h4.drop.readsN R1.out.2
            obtain ⟨b0, bc0, rfl, _, _⟩ := h4.drop.drop.readsN R0.out.2
            have HM_45 := Aside0.mk h4
            clear h4
            obtain ⟨gz_46, hz_47⟩ : ∃ q, w_44.heap.size = q := ⟨_, rfl⟩
            refine hK_.out _ _ ((by rw [HCA.out]; exact (HM_45.out.up 8).get)) (fun hS_ => ?_)
            clear hK_ K_ hS
            have hS := hS_
            clear hS_
            try simp only [Act.put, List.setIfInBounds_toArray, List.set_cons_zero, List.set_cons_succ]
            refine wpAnyH_ready (rs := [8]) (by kernel_rfl) (by simp) ?_
            refine AllReadyH.cons rfl (fun K_ hK_ => ?_) AllReadyH.nil
            have hu_ := (HM_45.out.up 3)
            rw [if_pos (by rfl)]
            refine wp_store_row 50 (.tmp 7) (.tmp 24) rfl (gz_3 + 1) #[.slice a0 n0 ac0, .slice a1 n1 ac1, .int .i64 fl, .slice a3 n3 ac3] rfl rfl 50 #[.slice none 0 0, .slice none 0 0, .int .i64 0, .slice none 0 0] hu_.get i50 rfl (by simp [Value.oneCell']) ?_
            have HM_48 := Aside0.mk (putRow hu_ #[.slice a0 n0 ac0, .slice a1 n1 ac1, .int .i64 fl, .slice a3 n3 ac3])
            clear hu_
            refine hK_.out _ _ ((by rw [HCA.out]; exact (HM_48.out.up 8).get)) (fun hS_ => ?_)
            clear hK_ K_ hS
            have hS := hS_
            clear hS_
            try simp only [Act.put, List.setIfInBounds_toArray, List.set_cons_zero, List.set_cons_succ]
            refine wpAnyH_ready (rs := [9]) (by kernel_rfl) (by simp) ?_
            refine AllReadyH.cons rfl (fun K_ hK_ => ?_) AllReadyH.nil
            have hu_ := (HM_48.out.up 4)
            rw [if_pos (by rfl)]
            refine wp_store_row 50 (.tmp 8) (.tmp 27) rfl gz_3 #[.slice b0 n0 bc0, .slice b1 n1 bc1, .int .i64 fl, .slice b3 n3 bc3] rfl rfl 50 #[.slice none 0 0, .slice none 0 0, .int .i64 0, .slice none 0 0] hu_.get i50 rfl (by simp [Value.oneCell']) ?_
            have HM_49 := Aside0.mk (putRow hu_ #[.slice b0 n0 bc0, .slice b1 n1 bc1, .int .i64 fl, .slice b3 n3 bc3])
            clear hu_
            refine hK_.out _ _ ((by rw [HCA.out]; exact (HM_49.out.up 8).get)) (fun hS_ => ?_)
            clear hK_ K_ hS
            have hS := hS_
            clear hS_
            try simp only [Act.put, List.setIfInBounds_toArray, List.set_cons_zero, List.set_cons_succ]
            refine wpAnyH_done (by kernel_rfl) ?_ _
            have hbl_ := busL_of (gw := gz_3) (B := ⟨ws, rs, fl, cs⟩) (wv := .slice b0 n0 bc0) (rv := .slice b1 n1 bc1) (cv := .slice b3 n3 bc3) (L := [ob gz_3 (.cells #[.slice b0 n0 bc0, .slice b1 n1 bc1, .int .i64 fl, .slice b3 n3 bc3] 50), ob (gz_3 + 1) (.cells #[.slice a0 n0 ac0, .slice a1 n1 ac1, .int .i64 fl, .slice a3 n3 ac3] 50), row W k100 100 (.slice b3 n3 bc3) cs, row W (Kd.int .i16) 22 (.slice b0 n0 bc0) ws, row W k100 100 (.slice a3 n3 ac3) cs, row W (Kd.int .i16) 22 (.slice a1 n1 ac1) rs, row W (Kd.int .i16) 22 (.slice a0 n0 ac0) ws, ob (g + 1) (.cells CA 52), ob g (.cells (p.arr x) 47)]) ((((((((((HM_49.out.up 9).up 9).up 9).up 9).up 9).up 9).up 8).up 8).up 8).up 9)
            have hfin := Two.make (ga := (gz_3 + 1)) (gb := gz_3) (A := ⟨ws, rs, fl, cs⟩) (B := ⟨ws, rs, fl, cs⟩) (wv := .slice a0 n0 ac0) (rv := .slice a1 n1 ac1) (cv := .slice a3 n3 ac3) (L := (ob (g + 1) (.cells CA 52) :: ob g (.cells (p.arr x) 47) :: [])) (C := [ob gz_3 (.cells #[.slice b0 n0 bc0, .slice b1 n1 bc1, .int .i64 fl, .slice b3 n3 bc3] 50), row W (Kd.int .i16) 22 (.slice b0 n0 bc0) ws, row W (Kd.int .i16) 22 (.slice b1 n1 bc1) rs, row W k100 100 (.slice b3 n3 bc3) cs]) ((((((((((HM_49.out.up 2).up 3).up 4).up 3).up 9).up 9).up 7).up 8).up 9).up 9) hbl_
            clear hbl_
            replace hfin := show Two W _ (gz_3 + 1) ⟨ws, rs, fl, cs⟩ gz_3 ⟨ws, rs, fl, cs⟩ (ob (g + 1) (.cells CA 52) :: ob g (.cells (p.arr x) 47) :: []) from hfin
            generalize gz_3 + 1 = gq_50 at hfin ⊢
            generalize World.setRow _ _ _ = wf at hfin ⊢
            exact KEY gq_50 gz_3 wf a0 ac0 a1 ac1 a3 ac3 b0 bc0 b1 bc1 b3 bc3 hfin
    · go_simp
      have HM_51 := Aside0.mk (H3D.out.new_ (g := gz0) (.cells #[.slice none 0 0, .slice none 0 0, .int .i64 0, .slice none 0 0] 50) (by simp [hz0]))
      refine hK_.out _ _ ((by rw [HCA.out]; exact (HM_51.out.up 1).get)) (fun hS_ => ?_)
      clear hK_ K_ hS
      have hS := hS_
      clear hS_
      try simp only [Act.put, List.setIfInBounds_toArray, List.set_cons_zero, List.set_cons_succ]
      refine wpAnyH_ready (rs := [2, 7]) (by kernel_rfl) (by simp) ?_
      refine AllReadyH.cons rfl (fun K_ hK_ => ?_) (AllReadyH.cons rfl (fun K_ hK_ => ?_) AllReadyH.nil)
      · go_simp
        refine (Copy_call HM_51.out B0 B1 B3 n0 n1 n3 d0 d1 d3 fl ws rs cs R0.out.1 R1.out.1 R3.out.1 HSM.out.2.1 HSM.out.2.2.1 HSM.out.2.2.2 R0.out.2 R1.out.2 R3.out.2).mono ?_
        rintro e w_52 ⟨v0, v1, v3, rfl, h4⟩
        obtain ⟨a3, ac3, rfl, _, _⟩ := h4.readsN R3.out.2
        obtain ⟨a1, ac1, rfl, _, _⟩ := h4.drop.readsN R1.out.2
        obtain ⟨a0, ac0, rfl, _, _⟩ := h4.drop.drop.readsN R0.out.2
        have HM_53 := Aside0.mk h4
        clear h4
        obtain ⟨gz_54, hz_55⟩ : ∃ q, w_52.heap.size = q := ⟨_, rfl⟩
        refine hK_.out _ _ ((by rw [HCA.out]; exact (HM_53.out.up 4).get)) (fun hS_ => ?_)
        clear hK_ K_ hS
        have hS := hS_
        clear hS_
        try simp only [Act.put, List.setIfInBounds_toArray, List.set_cons_zero, List.set_cons_succ]
        refine wpAnyH_ready (rs := [5, 7]) (by kernel_rfl) (by simp) ?_
        refine AllReadyH.cons rfl (fun K_ hK_ => ?_) (AllReadyH.cons rfl (fun K_ hK_ => ?_) AllReadyH.nil)
        · go_simp
          refine (Copy_call HM_53.out B0 B1 B3 n0 n1 n3 d0 d1 d3 fl ws rs cs R0.out.1 R1.out.1 R3.out.1 HSM.out.2.1 HSM.out.2.2.1 HSM.out.2.2.2 R0.out.2 R1.out.2 R3.out.2).mono ?_
          rintro e w_56 ⟨v0, v1, v3, rfl, h4⟩
          obtain ⟨b3, bc3, rfl, _, _⟩ := h4.readsN R3.out.2
          obtain ⟨b1, bc1, rfl, _, _⟩ := h4.drop.readsN R1.out.2
          obtain ⟨b0, bc0, rfl, _, _⟩ := h4.drop.drop.readsN R0.out.2
          have HM_57 := Aside0.mk h4
          clear h4
          obtain ⟨gz_58, hz_59⟩ : ∃ q, w_56.heap.size = q := ⟨_, rfl⟩
          refine hK_.out _ _ ((by rw [HCA.out]; exact (HM_57.out.up 7).get)) (fun hS_ => ?_)
          clear hK_ K_ hS
          have hS := hS_
          clear hS_
          try simp only [Act.put, List.setIfInBounds_toArray, List.set_cons_zero, List.set_cons_succ]
          refine wpAnyH_ready (rs := [7]) (by kernel_rfl) (by simp) ?_
          refine AllReadyH.cons rfl (fun K_ hK_ => ?_) AllReadyH.nil
          · go_simp
            have HM_60 := Aside0.mk (HM_57.out.new_ (g := gz_58) (.cells #[.slice none 0 0, .slice none 0 0, .int .i64 0, .slice none 0 0] 50) (by simp [hz_59]))
            refine hK_.out _ _ ((by rw [HCA.out]; exact (HM_60.out.up 8).get)) (fun hS_ => ?_)
            clear hK_ K_ hS
            have hS := hS_
            clear hS_
            try simp only [Act.put, List.setIfInBounds_toArray, List.set_cons_zero, List.set_cons_succ]
            refine wpAnyH_ready (rs := [8]) (by kernel_rfl) (by simp) ?_
            refine AllReadyH.cons rfl (fun K_ hK_ => ?_) AllReadyH.nil
            have hu_ := (HM_60.out.up 7)
            rw [if_pos (by rfl)]
            refine wp_store_row 50 (.tmp 7) (.tmp 24) rfl gz0 #[.slice a0 n0 ac0, .slice a1 n1 ac1, .int .i64 fl, .slice a3 n3 ac3] rfl rfl 50 #[.slice none 0 0, .slice none 0 0, .int .i64 0, .slice none 0 0] hu_.get i50 rfl (by simp [Value.oneCell']) ?_
            have HM_61 := Aside0.mk (putRow hu_ #[.slice a0 n0 ac0, .slice a1 n1 ac1, .int .i64 fl, .slice a3 n3 ac3])
            clear hu_
            refine hK_.out _ _ ((by rw [HCA.out]; exact (HM_61.out.up 8).get)) (fun hS_ => ?_)
            clear hK_ K_ hS
            have hS := hS_
            clear hS_
            try simp only [Act.put, List.setIfInBounds_toArray, List.set_cons_zero, List.set_cons_succ]
            refine wpAnyH_ready (rs := [9]) (by kernel_rfl) (by simp) ?_
            refine AllReadyH.cons rfl (fun K_ hK_ => ?_) AllReadyH.nil
            have hu_ := (HM_61.out.up 1)
            rw [if_pos (by rfl)]
            refine wp_store_row 50 (.tmp 8) (.tmp 27) rfl gz_58 #[.slice b0 n0 bc0, .slice b1 n1 bc1, .int .i64 fl, .slice b3 n3 bc3] rfl rfl 50 #[.slice none 0 0, .slice none 0 0, .int .i64 0, .slice none 0 0] hu_.get i50 rfl (by simp [Value.oneCell']) ?_
            have HM_62 := Aside0.mk (putRow hu_ #[.slice b0 n0 bc0, .slice b1 n1 bc1, .int .i64 fl, .slice b3 n3 bc3])
            clear hu_
            refine hK_.out _ _ ((by rw [HCA.out]; exact (HM_62.out.up 8).get)) (fun hS_ => ?_)
            clear hK_ K_ hS
            have hS := hS_
            clear hS_
            try simp only [Act.put, List.setIfInBounds_toArray, List.set_cons_zero, List.set_cons_succ]
            refine wpAnyH_done (by kernel_rfl) ?_ _
            have hbl_ := busL_of (gw := gz_58) (B := ⟨ws, rs, fl, cs⟩) (wv := .slice b0 n0 bc0) (rv := .slice b1 n1 bc1) (cv := .slice b3 n3 bc3) (L := [ob gz_58 (.cells #[.slice b0 n0 bc0, .slice b1 n1 bc1, .int .i64 fl, .slice b3 n3 bc3] 50), ob gz0 (.cells #[.slice a0 n0 ac0, .slice a1 n1 ac1, .int .i64 fl, .slice a3 n3 ac3] 50), row W k100 100 (.slice b3 n3 bc3) cs, row W (Kd.int .i16) 22 (.slice b0 n0 bc0) ws, row W k100 100 (.slice a3 n3 ac3) cs, row W (Kd.int .i16) 22 (.slice a1 n1 ac1) rs, row W (Kd.int .i16) 22 (.slice a0 n0 ac0) ws, ob (g + 1) (.cells CA 52), ob g (.cells (p.arr x) 47)]) ((((((((((HM_62.out.up 9).up 9).up 9).up 9).up 9).up 9).up 8).up 8).up 8).up 9)
            have hfin := Two.make (ga := gz0) (gb := gz_58) (A := ⟨ws, rs, fl, cs⟩) (B := ⟨ws, rs, fl, cs⟩) (wv := .slice a0 n0 ac0) (rv := .slice a1 n1 ac1) (cv := .slice a3 n3 ac3) (L := (ob (g + 1) (.cells CA 52) :: ob g (.cells (p.arr x) 47) :: [])) (C := [ob gz_58 (.cells #[.slice b0 n0 bc0, .slice b1 n1 bc1, .int .i64 fl, .slice b3 n3 bc3] 50), row W (Kd.int .i16) 22 (.slice b0 n0 bc0) ws, row W (Kd.int .i16) 22 (.slice b1 n1 bc1) rs, row W k100 100 (.slice b3 n3 bc3) cs]) ((((((((((HM_62.out.up 2).up 3).up 4).up 3).up 9).up 9).up 7).up 8).up 9).up 9) hbl_
            clear hbl_
            replace hfin := show Two W _ gz0 ⟨ws, rs, fl, cs⟩ gz_58 ⟨ws, rs, fl, cs⟩ (ob (g + 1) (.cells CA 52) :: ob g (.cells (p.arr x) 47) :: []) from hfin
            generalize World.setRow _ _ _ = wf at hfin ⊢
            exact KEY gz0 gz_58 wf a0 ac0 a1 ac1 a3 ac3 b0 bc0 b1 bc1 b3 bc3 hfin
        · go_simp
          have HM_63 := Aside0.mk (HM_53.out.new_ (g := gz_54) (.cells #[.slice none 0 0, .slice none 0 0, .int .i64 0, .slice none 0 0] 50) (by simp [hz_55]))
          refine hK_.out _ _ ((by rw [HCA.out]; exact (HM_63.out.up 5).get)) (fun hS_ => ?_)
          clear hK_ K_ hS
          have hS := hS_
          clear hS_
          try simp only [Act.put, List.setIfInBounds_toArray, List.set_cons_zero, List.set_cons_succ]
          refine wpAnyH_ready (rs := [5]) (by kernel_rfl) (by simp) ?_
          refine AllReadyH.cons rfl (fun K_ hK_ => ?_) AllReadyH.nil
          · go_simp
            refine (Copy_call HM_63.out B0 B1 B3 n0 n1 n3 d0 d1 d3 fl ws rs cs R0.out.1 R1.out.1 R3.out.1 HSM.out.2.1 HSM.out.2.2.1 HSM.out.2.2.2 R0.out.2 R1.out.2 R3.out.2).mono ?_
            rintro e w_64 ⟨v0, v1, v3, rfl, h4⟩
            obtain ⟨b3, bc3, rfl, _, _⟩ := h4.readsN R3.out.2
            obtain ⟨b1, bc1, rfl, _, _⟩ := h4.drop.readsN R1.out.2
            obtain ⟨b0, bc0, rfl, _, _⟩ := h4.drop.drop.readsN R0.out.2
            have HM_65 := Aside0.mk h4
            clear h4
            obtain ⟨gz_66, hz_67⟩ : ∃ q, w_64.heap.size = q := ⟨_, rfl⟩
            refine hK_.out _ _ ((by rw [HCA.out]; exact (HM_65.out.up 8).get)) (fun hS_ => ?_)
            clear hK_ K_ hS
            have hS := hS_
            clear hS_
            try simp only [Act.put, List.setIfInBounds_toArray, List.set_cons_zero, List.set_cons_succ]
            refine wpAnyH_ready (rs := [8]) (by kernel_rfl) (by simp) ?_
            refine AllReadyH.cons rfl (fun K_ hK_ => ?_) AllReadyH.nil
            have hu_ := (HM_65.out.up 7)
            rw [if_pos (by rfl)]
            refine wp_store_row 50 (.tmp 7) (.tmp 24) rfl gz0 #[.slice a0 n0 ac0, .slice a1 n1 ac1, .int .i64 fl, .slice a3 n3 ac3] rfl rfl 50 #[.slice none 0 0, .slice none 0 0, .int .i64 0, .slice none 0 0] hu_.get i50 rfl (by simp [Value.oneCell']) ?_
            have HM_68 := Aside0.mk (putRow hu_ #[.slice a0 n0 ac0, .slice a1 n1 ac1, .int .i64 fl, .slice a3 n3 ac3])
            clear hu_
            refine hK_.out _ _ ((by rw [HCA.out]; exact (HM_68.out.up 8).get)) (fun hS_ => ?_)
            clear hK_ K_ hS
            have hS := hS_
            clear hS_
            try simp only [Act.put, List.setIfInBounds_toArray, List.set_cons_zero, List.set_cons_succ]
            refine wpAnyH_ready (rs := [9]) (by kernel_rfl) (by simp) ?_
            refine AllReadyH.cons rfl (fun K_ hK_ => ?_) AllReadyH.nil
            have hu_ := (HM_68.out.up 4)
            rw [if_pos (by rfl)]
            refine wp_store_row 50 (.tmp 8) (.tmp 27) rfl gz_54 #[.slice b0 n0 bc0, .slice b1 n1 bc1, .int .i64 fl, .slice b3 n3 bc3] rfl rfl 50 #[.slice none 0 0, .slice none 0 0, .int .i64 0, .slice none 0 0] hu_.get i50 rfl (by simp [Value.oneCell']) ?_
            have HM_69 := Aside0.mk (putRow hu_ #[.slice b0 n0 bc0, .slice b1 n1 bc1, .int .i64 fl, .slice b3 n3 bc3])
            clear hu_
            refine hK_.out _ _ ((by rw [HCA.out]; exact (HM_69.out.up 8).get)) (fun hS_ => ?_)
            clear hK_ K_ hS
            have hS := hS_
            clear hS_
            try simp only [Act.put, List.setIfInBounds_toArray, List.set_cons_zero, List.set_cons_succ]
            refine wpAnyH_done (by kernel_rfl) ?_ _
            have hbl_ := busL_of (gw := gz_54) (B := ⟨ws, rs, fl, cs⟩) (wv := .slice b0 n0 bc0) (rv := .slice b1 n1 bc1) (cv := .slice b3 n3 bc3) (L := [ob gz_54 (.cells #[.slice b0 n0 bc0, .slice b1 n1 bc1, .int .i64 fl, .slice b3 n3 bc3] 50), ob gz0 (.cells #[.slice a0 n0 ac0, .slice a1 n1 ac1, .int .i64 fl, .slice a3 n3 ac3] 50), row W k100 100 (.slice b3 n3 bc3) cs, row W (Kd.int .i16) 22 (.slice b0 n0 bc0) ws, row W k100 100 (.slice a3 n3 ac3) cs, row W (Kd.int .i16) 22 (.slice a1 n1 ac1) rs, row W (Kd.int .i16) 22 (.slice a0 n0 ac0) ws, ob (g + 1) (.cells CA 52), ob g (.cells (p.arr x) 47)]) ((((((((((HM_69.out.up 9).up 9).up 9).up 9).up 9).up 9).up 8).up 8).up 8).up 9)
            have hfin := Two.make (ga := gz0) (gb := gz_54) (A := ⟨ws, rs, fl, cs⟩) (B := ⟨ws, rs, fl, cs⟩) (wv := .slice a0 n0 ac0) (rv := .slice a1 n1 ac1) (cv := .slice a3 n3 ac3) (L := (ob (g + 1) (.cells CA 52) :: ob g (.cells (p.arr x) 47) :: [])) (C := [ob gz_54 (.cells #[.slice b0 n0 bc0, .slice b1 n1 bc1, .int .i64 fl, .slice b3 n3 bc3] 50), row W (Kd.int .i16) 22 (.slice b0 n0 bc0) ws, row W (Kd.int .i16) 22 (.slice b1 n1 bc1) rs, row W k100 100 (.slice b3 n3 bc3) cs]) ((((((((((HM_69.out.up 2).up 3).up 4).up 3).up 9).up 9).up 7).up 8).up 9).up 9) hbl_
            clear hbl_
            replace hfin := show Two W _ gz0 ⟨ws, rs, fl, cs⟩ gz_54 ⟨ws, rs, fl, cs⟩ (ob (g + 1) (.cells CA 52) :: ob g (.cells (p.arr x) 47) :: []) from hfin
            generalize World.setRow _ _ _ = wf at hfin ⊢
            exact KEY gz0 gz_54 wf a0 ac0 a1 ac1 a3 ac3 b0 bc0 b1 bc1 b3 bc3 hfin
      · go_simp
        have HM_70 := Aside0.mk (HM_51.out.new_ (g := (gz0 + 1)) (.cells #[.slice none 0 0, .slice none 0 0, .int .i64 0, .slice none 0 0] 50) (by simp [hz0]))
        refine hK_.out _ _ ((by rw [HCA.out]; exact (HM_70.out.up 2).get)) (fun hS_ => ?_)
        clear hK_ K_ hS
        have hS := hS_
        clear hS_
        try simp only [Act.put, List.setIfInBounds_toArray, List.set_cons_zero, List.set_cons_succ]
        refine wpAnyH_ready (rs := [2]) (by kernel_rfl) (by simp) ?_
        refine AllReadyH.cons rfl (fun K_ hK_ => ?_) AllReadyH.nil
        · go_simp
          refine (Copy_call HM_70.out B0 B1 B3 n0 n1 n3 d0 d1 d3 fl ws rs cs R0.out.1 R1.out.1 R3.out.1 HSM.out.2.1 HSM.out.2.2.1 HSM.out.2.2.2 R0.out.2 R1.out.2 R3.out.2).mono ?_
          rintro e w_71 ⟨v0, v1, v3, rfl, h4⟩
          obtain ⟨a3, ac3, rfl, _, _⟩ := h4.readsN R3.out.2
          obtain ⟨a1, ac1, rfl, _, _⟩ := h4.drop.readsN R1.out.2
          obtain ⟨a0, ac0, rfl, _, _⟩ := h4.drop.drop.readsN R0.out.2
          have HM_72 := Aside0.mk h4
          clear h4
          obtain ⟨gz_73, hz_74⟩ : ∃ q, w_71.heap.size = q := ⟨_, rfl⟩
          refine hK_.out _ _ ((by rw [HCA.out]; exact (HM_72.out.up 5).get)) (fun hS_ => ?_)
          clear hK_ K_ hS
          have hS := hS_
          clear hS_
          try simp only [Act.put, List.setIfInBounds_toArray, List.set_cons_zero, List.set_cons_succ]
          refine wpAnyH_ready (rs := [5]) (by kernel_rfl) (by simp) ?_
          refine AllReadyH.cons rfl (fun K_ hK_ => ?_) AllReadyH.nil
          · go_simp
            refine (Copy_call HM_72.out B0 B1 B3 n0 n1 n3 d0 d1 d3 fl ws rs cs R0.out.1 R1.out.1 R3.out.1 HSM.out.2.1 HSM.out.2.2.1 HSM.out.2.2.2 R0.out.2 R1.out.2 R3.out.2).mono ?_
            rintro e w_75 ⟨v0, v1, v3, rfl, h4⟩
            obtain ⟨b3, bc3, rfl, _, _⟩ := h4.readsN R3.out.2
            obtain ⟨b1, bc1, rfl, _, _⟩ := h4.drop.readsN R1.out.2
            obtain ⟨b0, bc0, rfl, _, _⟩ := h4.drop.drop.readsN R0.out.2
            have HM_76 := Aside0.mk h4
            clear h4
            obtain ⟨gz_77, hz_78⟩ : ∃ q, w_75.heap.size = q := ⟨_, rfl⟩
            refine hK_.out _ _ ((by rw [HCA.out]; exact (HM_76.out.up 8).get)) (fun hS_ => ?_)
            clear hK_ K_ hS
            have hS := hS_
            clear hS_
            try simp only [Act.put, List.setIfInBounds_toArray, List.set_cons_zero, List.set_cons_succ]
            refine wpAnyH_ready (rs := [8]) (by kernel_rfl) (by simp) ?_
            refine AllReadyH.cons rfl (fun K_ hK_ => ?_) AllReadyH.nil
            have hu_ := (HM_76.out.up 7)
            rw [if_pos (by rfl)]
            refine wp_store_row 50 (.tmp 7) (.tmp 24) rfl gz0 #[.slice a0 n0 ac0, .slice a1 n1 ac1, .int .i64 fl, .slice a3 n3 ac3] rfl rfl 50 #[.slice none 0 0, .slice none 0 0, .int .i64 0, .slice none 0 0] hu_.get i50 rfl (by simp [Value.oneCell']) ?_
            have HM_79 := Aside0.mk (putRow hu_ #[.slice a0 n0 ac0, .slice a1 n1 ac1, .int .i64 fl, .slice a3 n3 ac3])
            clear hu_
            refine hK_.out _ _ ((by rw [HCA.out]; exact (HM_79.out.up 8).get)) (fun hS_ => ?_)
            clear hK_ K_ hS
            have hS := hS_
            clear hS_
            try simp only [Act.put, List.setIfInBounds_toArray, List.set_cons_zero, List.set_cons_succ]
            refine wpAnyH_ready (rs := [9]) (by kernel_rfl) (by simp) ?_
            refine AllReadyH.cons rfl (fun K_ hK_ => ?_) AllReadyH.nil
            have hu_ := (HM_79.out.up 7)
            rw [if_pos (by rfl)]
            refine wp_store_row 50 (.tmp 8) (.tmp 27) rfl (gz0 + 1) #[.slice b0 n0 bc0, .slice b1 n1 bc1, .int .i64 fl, .slice b3 n3 bc3] rfl rfl 50 #[.slice none 0 0, .slice none 0 0, .int .i64 0, .slice none 0 0] hu_.get i50 rfl (by simp [Value.oneCell']) ?_
            have HM_80 := Aside0.mk (putRow hu_ #[.slice b0 n0 bc0, .slice b1 n1 bc1, .int .i64 fl, .slice b3 n3 bc3])
            clear hu_
            refine hK_.out _ _ ((by rw [HCA.out]; exact (HM_80.out.up 8).get)) (fun hS_ => ?_)
            clear hK_ K_ hS
            have hS := hS_
            clear hS_
            try simp only [Act.put, List.setIfInBounds_toArray, List.set_cons_zero, List.set_cons_succ]
            refine wpAnyH_done (by kernel_rfl) ?_ _
            have hbl_ := busL_of (gw := (gz0 + 1)) (B := ⟨ws, rs, fl, cs⟩) (wv := .slice b0 n0 bc0) (rv := .slice b1 n1 bc1) (cv := .slice b3 n3 bc3) (L := [ob (gz0 + 1) (.cells #[.slice b0 n0 bc0, .slice b1 n1 bc1, .int .i64 fl, .slice b3 n3 bc3] 50), ob gz0 (.cells #[.slice a0 n0 ac0, .slice a1 n1 ac1, .int .i64 fl, .slice a3 n3 ac3] 50), row W k100 100 (.slice b3 n3 bc3) cs, row W (Kd.int .i16) 22 (.slice b0 n0 bc0) ws, row W k100 100 (.slice a3 n3 ac3) cs, row W (Kd.int .i16) 22 (.slice a1 n1 ac1) rs, row W (Kd.int .i16) 22 (.slice a0 n0 ac0) ws, ob (g + 1) (.cells CA 52), ob g (.cells (p.arr x) 47)]) ((((((((((HM_80.out.up 9).up 9).up 9).up 9).up 9).up 9).up 8).up 8).up 8).up 9)
            have hfin := Two.make (ga := gz0) (gb := (gz0 + 1)) (A := ⟨ws, rs, fl, cs⟩) (B := ⟨ws, rs, fl, cs⟩) (wv := .slice a0 n0 ac0) (rv := .slice a1 n1 ac1) (cv := .slice a3 n3 ac3) (L := (ob (g + 1) (.cells CA 52) :: ob g (.cells (p.arr x) 47) :: [])) (C := [ob (gz0 + 1) (.cells #[.slice b0 n0 bc0, .slice b1 n1 bc1, .int .i64 fl, .slice b3 n3 bc3] 50), row W (Kd.int .i16) 22 (.slice b0 n0 bc0) ws, row W (Kd.int .i16) 22 (.slice b1 n1 bc1) rs, row W k100 100 (.slice b3 n3 bc3) cs]) ((((((((((HM_80.out.up 2).up 3).up 4).up 3).up 9).up 9).up 7).up 8).up 9).up 9) hbl_
            clear hbl_
            replace hfin := show Two W _ gz0 ⟨ws, rs, fl, cs⟩ (gz0 + 1) ⟨ws, rs, fl, cs⟩ (ob (g + 1) (.cells CA 52) :: ob g (.cells (p.arr x) 47) :: []) from hfin
            generalize gz0 + 1 = gq_81 at hfin ⊢
            generalize World.setRow _ _ _ = wf at hfin ⊢
            exact KEY gz0 gq_81 wf a0 ac0 a1 ac1 a3 ac3 b0 bc0 b1 bc1 b3 bc3 hfin
    · go_simp
      have HM_82 := Aside0.mk (H3D.out.new_ (g := gz0) (.cells #[.slice none 0 0, .slice none 0 0, .int .i64 0, .slice none 0 0] 50) (by simp [hz0]))
      refine hK_.out _ _ ((by rw [HCA.out]; exact (HM_82.out.up 1).get)) (fun hS_ => ?_)
      clear hK_ K_ hS
      have hS := hS_
      clear hS_
      try simp only [Act.put, List.setIfInBounds_toArray, List.set_cons_zero, List.set_cons_succ]
      refine wpAnyH_ready (rs := [2, 6]) (by kernel_rfl) (by simp) ?_
      refine AllReadyH.cons rfl (fun K_ hK_ => ?_) (AllReadyH.cons rfl (fun K_ hK_ => ?_) AllReadyH.nil)
      · go_simp
        refine (Copy_call HM_82.out B0 B1 B3 n0 n1 n3 d0 d1 d3 fl ws rs cs R0.out.1 R1.out.1 R3.out.1 HSM.out.2.1 HSM.out.2.2.1 HSM.out.2.2.2 R0.out.2 R1.out.2 R3.out.2).mono ?_
        rintro e w_83 ⟨v0, v1, v3, rfl, h4⟩
        obtain ⟨a3, ac3, rfl, _, _⟩ := h4.readsN R3.out.2
        obtain ⟨a1, ac1, rfl, _, _⟩ := h4.drop.readsN R1.out.2
        obtain ⟨a0, ac0, rfl, _, _⟩ := h4.drop.drop.readsN R0.out.2
        have HM_84 := Aside0.mk h4
        clear h4
        obtain ⟨gz_85, hz_86⟩ : ∃ q, w_83.heap.size = q := ⟨_, rfl⟩
        refine hK_.out _ _ ((by rw [HCA.out]; exact (HM_84.out.up 4).get)) (fun hS_ => ?_)
        clear hK_ K_ hS
        have hS := hS_
        clear hS_
        try simp only [Act.put, List.setIfInBounds_toArray, List.set_cons_zero, List.set_cons_succ]
        refine wpAnyH_ready (rs := [5, 6]) (by kernel_rfl) (by simp) ?_
        refine AllReadyH.cons rfl (fun K_ hK_ => ?_) (AllReadyH.cons rfl (fun K_ hK_ => ?_) AllReadyH.nil)
        · go_simp
          refine (Copy_call HM_84.out B0 B1 B3 n0 n1 n3 d0 d1 d3 fl ws rs cs R0.out.1 R1.out.1 R3.out.1 HSM.out.2.1 HSM.out.2.2.1 HSM.out.2.2.2 R0.out.2 R1.out.2 R3.out.2).mono ?_
          rintro e w_87 ⟨v0, v1, v3, rfl, h4⟩
          obtain ⟨b3, bc3, rfl, _, _⟩ := h4.readsN R3.out.2
          obtain ⟨b1, bc1, rfl, _, _⟩ := h4.drop.readsN R1.out.2
          obtain ⟨b0, bc0, rfl, _, _⟩ := h4.drop.drop.readsN R0.out.2
          have HM_88 := Aside0.mk h4
          clear h4
          obtain ⟨gz_89, hz_90⟩ : ∃ q, w_87.heap.size = q := ⟨_, rfl⟩
          refine hK_.out _ _ ((by rw [HCA.out]; exact (HM_88.out.up 7).get)) (fun hS_ => ?_)
          clear hK_ K_ hS
          have hS := hS_
          clear hS_
          try simp only [Act.put, List.setIfInBounds_toArray, List.set_cons_zero, List.set_cons_succ]
          refine wpAnyH_ready (rs := [6]) (by kernel_rfl) (by simp) ?_
          refine AllReadyH.cons rfl (fun K_ hK_ => ?_) AllReadyH.nil
          · go_simp
            have HM_91 := Aside0.mk (HM_88.out.new_ (g := gz_89) (.cells #[.slice none 0 0, .slice none 0 0, .int .i64 0, .slice none 0 0] 50) (by simp [hz_90]))
            refine hK_.out _ _ ((by rw [HCA.out]; exact (HM_91.out.up 8).get)) (fun hS_ => ?_)
            clear hK_ K_ hS
            have hS := hS_
            clear hS_
            try simp only [Act.put, List.setIfInBounds_toArray, List.set_cons_zero, List.set_cons_succ]
            refine wpAnyH_ready (rs := [8]) (by kernel_rfl) (by simp) ?_
            refine AllReadyH.cons rfl (fun K_ hK_ => ?_) AllReadyH.nil
            have hu_ := (HM_91.out.up 0)
            rw [if_pos (by rfl)]
            refine wp_store_row 50 (.tmp 7) (.tmp 24) rfl gz_89 #[.slice a0 n0 ac0, .slice a1 n1 ac1, .int .i64 fl, .slice a3 n3 ac3] rfl rfl 50 #[.slice none 0 0, .slice none 0 0, .int .i64 0, .slice none 0 0] hu_.get i50 rfl (by simp [Value.oneCell']) ?_
            have HM_92 := Aside0.mk (putRow hu_ #[.slice a0 n0 ac0, .slice a1 n1 ac1, .int .i64 fl, .slice a3 n3 ac3])
            clear hu_
            refine hK_.out _ _ ((by rw [HCA.out]; exact (HM_92.out.up 8).get)) (fun hS_ => ?_)
            clear hK_ K_ hS
            have hS := hS_
            clear hS_
            try simp only [Act.put, List.setIfInBounds_toArray, List.set_cons_zero, List.set_cons_succ]
            refine wpAnyH_ready (rs := [9]) (by kernel_rfl) (by simp) ?_
            refine AllReadyH.cons rfl (fun K_ hK_ => ?_) AllReadyH.nil
            have hu_ := (HM_92.out.up 7)
            rw [if_pos (by rfl)]
            refine wp_store_row 50 (.tmp 8) (.tmp 27) rfl gz0 #[.slice b0 n0 bc0, .slice b1 n1 bc1, .int .i64 fl, .slice b3 n3 bc3] rfl rfl 50 #[.slice none 0 0, .slice none 0 0, .int .i64 0, .slice none 0 0] hu_.get i50 rfl (by simp [Value.oneCell']) ?_
            have HM_93 := Aside0.mk (putRow hu_ #[.slice b0 n0 bc0, .slice b1 n1 bc1, .int .i64 fl, .slice b3 n3 bc3])
            clear hu_
            refine hK_.out _ _ ((by rw [HCA.out]; exact (HM_93.out.up 8).get)) (fun hS_ => ?_)
            clear hK_ K_ hS
            have hS := hS_
            clear hS_
            try simp only [Act.put, List.setIfInBounds_toArray, List.set_cons_zero, List.set_cons_succ]
            refine wpAnyH_done (by kernel_rfl) ?_ _
            have hbl_ := busL_of (gw := gz0) (B := ⟨ws, rs, fl, cs⟩) (wv := .slice b0 n0 bc0) (rv := .slice b1 n1 bc1) (cv := .slice b3 n3 bc3) (L := [ob gz0 (.cells #[.slice b0 n0 bc0, .slice b1 n1 bc1, .int .i64 fl, .slice b3 n3 bc3] 50), ob gz_89 (.cells #[.slice a0 n0 ac0, .slice a1 n1 ac1, .int .i64 fl, .slice a3 n3 ac3] 50), row W k100 100 (.slice b3 n3 bc3) cs, row W (Kd.int .i16) 22 (.slice b0 n0 bc0) ws, row W k100 100 (.slice a3 n3 ac3) cs, row W (Kd.int .i16) 22 (.slice a1 n1 ac1) rs, row W (Kd.int .i16) 22 (.slice a0 n0 ac0) ws, ob (g + 1) (.cells CA 52), ob g (.cells (p.arr x) 47)]) ((((((((((HM_93.out.up 9).up 9).up 9).up 9).up 9).up 9).up 8).up 8).up 8).up 9)
            have hfin := Two.make (ga := gz_89) (gb := gz0) (A := ⟨ws, rs, fl, cs⟩) (B := ⟨ws, rs, fl, cs⟩) (wv := .slice a0 n0 ac0) (rv := .slice a1 n1 ac1) (cv := .slice a3 n3 ac3) (L := (ob (g + 1) (.cells CA 52) :: ob g (.cells (p.arr x) 47) :: [])) (C := [ob gz0 (.cells #[.slice b0 n0 bc0, .slice b1 n1 bc1, .int .i64 fl, .slice b3 n3 bc3] 50), row W (Kd.int .i16) 22 (.slice b0 n0 bc0) ws, row W (Kd.int .i16) 22 (.slice b1 n1 bc1) rs, row W k100 100 (.slice b3 n3 bc3) cs]) ((((((((((HM_93.out.up 2).up 3).up 4).up 3).up 9).up 9).up 7).up 8).up 9).up 9) hbl_
            clear hbl_
            replace hfin := show Two W _ gz_89 ⟨ws, rs, fl, cs⟩ gz0 ⟨ws, rs, fl, cs⟩ (ob (g + 1) (.cells CA 52) :: ob g (.cells (p.arr x) 47) :: []) from hfin
            generalize World.setRow _ _ _ = wf at hfin ⊢
            exact KEY gz_89 gz0 wf a0 ac0 a1 ac1 a3 ac3 b0 bc0 b1 bc1 b3 bc3 hfin
        · go_simp
          have HM_94 := Aside0.mk (HM_84.out.new_ (g := gz_85) (.cells #[.slice none 0 0, .slice none 0 0, .int .i64 0, .slice none 0 0] 50) (by simp [hz_86]))
          refine hK_.out _ _ ((by rw [HCA.out]; exact (HM_94.out.up 5).get)) (fun hS_ => ?_)
          clear hK_ K_ hS
          have hS := hS_
          clear hS_
          try simp only [Act.put, List.setIfInBounds_toArray, List.set_cons_zero, List.set_cons_succ]
          refine wpAnyH_ready (rs := [5]) (by kernel_rfl) (by simp) ?_
          refine AllReadyH.cons rfl (fun K_ hK_ => ?_) AllReadyH.nil
          · go_simp
            refine (Copy_call HM_94.out B0 B1 B3 n0 n1 n3 d0 d1 d3 fl ws rs cs R0.out.1 R1.out.1 R3.out.1 HSM.out.2.1 HSM.out.2.2.1 HSM.out.2.2.2 R0.out.2 R1.out.2 R3.out.2).mono ?_
            rintro e w_95 ⟨v0, v1, v3, rfl, h4⟩
            obtain ⟨b3, bc3, rfl, _, _⟩ := h4.readsN R3.out.2
            obtain ⟨b1, bc1, rfl, _, _⟩ := h4.drop.readsN R1.out.2
            obtain ⟨b0, bc0, rfl, _, _⟩ := h4.drop.drop.readsN R0.out.2
            have HM_96 := Aside0.mk h4
            clear h4
            obtain ⟨gz_97, hz_98⟩ : ∃ q, w_95.heap.size = q := ⟨_, rfl⟩
            refine hK_.out _ _ ((by rw [HCA.out]; exact (HM_96.out.up 8).get)) (fun hS_ => ?_)
            clear hK_ K_ hS
            have hS := hS_
            clear hS_
            try simp only [Act.put, List.setIfInBounds_toArray, List.set_cons_zero, List.set_cons_succ]
            refine wpAnyH_ready (rs := [8]) (by kernel_rfl) (by simp) ?_
            refine AllReadyH.cons rfl (fun K_ hK_ => ?_) AllReadyH.nil
            have hu_ := (HM_96.out.up 3)
            rw [if_pos (by rfl)]
            refine wp_store_row 50 (.tmp 7) (.tmp 24) rfl gz_85 #[.slice a0 n0 ac0, .slice a1 n1 ac1, .int .i64 fl, .slice a3 n3 ac3] rfl rfl 50 #[.slice none 0 0, .slice none 0 0, .int .i64 0, .slice none 0 0] hu_.get i50 rfl (by simp [Value.oneCell']) ?_
            have HM_99 := Aside0.mk (putRow hu_ #[.slice a0 n0 ac0, .slice a1 n1 ac1, .int .i64 fl, .slice a3 n3 ac3])
            clear hu_
            refine hK_.out _ _ ((by rw [HCA.out]; exact (HM_99.out.up 8).get)) (fun hS_ => ?_)
            clear hK_ K_ hS
            have hS := hS_
            clear hS_
            try simp only [Act.put, List.setIfInBounds_toArray, List.set_cons_zero, List.set_cons_succ]
            refine wpAnyH_ready (rs := [9]) (by kernel_rfl) (by simp) ?_
            refine AllReadyH.cons rfl (fun K_ hK_ => ?_) AllReadyH.nil
            have hu_ := (HM_99.out.up 7)
            rw [if_pos (by rfl)]
            refine wp_store_row 50 (.tmp 8) (.tmp 27) rfl gz0 #[.slice b0 n0 bc0, .slice b1 n1 bc1, .int .i64 fl, .slice b3 n3 bc3] rfl rfl 50 #[.slice none 0 0, .slice none 0 0, .int .i64 0, .slice none 0 0] hu_.get i50 rfl (by simp [Value.oneCell']) ?_
            have HM_100 := Aside0.mk (putRow hu_ #[.slice b0 n0 bc0, .slice b1 n1 bc1, .int .i64 fl, .slice b3 n3 bc3])
            clear hu_
            refine hK_.out _ _ ((by rw [HCA.out]; exact (HM_100.out.up 8).get)) (fun hS_ => ?_)
            clear hK_ K_ hS
            have hS := hS_
            clear hS_
            try simp only [Act.put, List.setIfInBounds_toArray, List.set_cons_zero, List.set_cons_succ]
            refine wpAnyH_done (by kernel_rfl) ?_ _
            have hbl_ := busL_of (gw := gz0) (B := ⟨ws, rs, fl, cs⟩) (wv := .slice b0 n0 bc0) (rv := .slice b1 n1 bc1) (cv := .slice b3 n3 bc3) (L := [ob gz0 (.cells #[.slice b0 n0 bc0, .slice b1 n1 bc1, .int .i64 fl, .slice b3 n3 bc3] 50), ob gz_85 (.cells #[.slice a0 n0 ac0, .slice a1 n1 ac1, .int .i64 fl, .slice a3 n3 ac3] 50), row W k100 100 (.slice b3 n3 bc3) cs, row W (Kd.int .i16) 22 (.slice b0 n0 bc0) ws, row W k100 100 (.slice a3 n3 ac3) cs, row W (Kd.int .i16) 22 (.slice a1 n1 ac1) rs, row W (Kd.int .i16) 22 (.slice a0 n0 ac0) ws, ob (g + 1) (.cells CA 52), ob g (.cells (p.arr x) 47)]) ((((((((((HM_100.out.up 9).up 9).up 9).up 9).up 9).up 9).up 8).up 8).up 8).up 9)
            have hfin := Two.make (ga := gz_85) (gb := gz0) (A := ⟨ws, rs, fl, cs⟩) (B := ⟨ws, rs, fl, cs⟩) (wv := .slice a0 n0 ac0) (rv := .slice a1 n1 ac1) (cv := .slice a3 n3 ac3) (L := (ob (g + 1) (.cells CA 52) :: ob g (.cells (p.arr x) 47) :: [])) (C := [ob gz0 (.cells #[.slice b0 n0 bc0, .slice b1 n1 bc1, .int .i64 fl, .slice b3 n3 bc3] 50), row W (Kd.int .i16) 22 (.slice b0 n0 bc0) ws, row W (Kd.int .i16) 22 (.slice b1 n1 bc1) rs, row W k100 100 (.slice b3 n3 bc3) cs]) ((((((((((HM_100.out.up 2).up 3).up 4).up 3).up 9).up 9).up 7).up 8).up 9).up 9) hbl_
            clear hbl_
            replace hfin := show Two W _ gz_85 ⟨ws, rs, fl, cs⟩ gz0 ⟨ws, rs, fl, cs⟩ (ob (g + 1) (.cells CA 52) :: ob g (.cells (p.arr x) 47) :: []) from hfin
            generalize World.setRow _ _ _ = wf at hfin ⊢
            exact KEY gz_85 gz0 wf a0 ac0 a1 ac1 a3 ac3 b0 bc0 b1 bc1 b3 bc3 hfin
      · go_simp
        have HM_101 := Aside0.mk (HM_82.out.new_ (g := (gz0 + 1)) (.cells #[.slice none 0 0, .slice none 0 0, .int .i64 0, .slice none 0 0] 50) (by simp [hz0]))
        refine hK_.out _ _ ((by rw [HCA.out]; exact (HM_101.out.up 2).get)) (fun hS_ => ?_)
        clear hK_ K_ hS
        have hS := hS_
        clear hS_
        try simp only [Act.put, List.setIfInBounds_toArray, List.set_cons_zero, List.set_cons_succ]
        refine wpAnyH_ready (rs := [2]) (by kernel_rfl) (by simp) ?_
        refine AllReadyH.cons rfl (fun K_ hK_ => ?_) AllReadyH.nil
        · go_simp
          refine (Copy_call HM_101.out B0 B1 B3 n0 n1 n3 d0 d1 d3 fl ws rs cs R0.out.1 R1.out.1 R3.out.1 HSM.out.2.1 HSM.out.2.2.1 HSM.out.2.2.2 R0.out.2 R1.out.2 R3.out.2).mono ?_
          rintro e w_102 ⟨v0, v1, v3, rfl, h4⟩
          obtain ⟨a3, ac3, rfl, _, _⟩ := h4.readsN R3.out.2
          obtain ⟨a1, ac1, rfl, _, _⟩ := h4.drop.readsN R1.out.2
          obtain ⟨a0, ac0, rfl, _, _⟩ := h4.drop.drop.readsN R0.out.2
          have HM_103 := Aside0.mk h4
          clear h4
          obtain ⟨gz_104, hz_105⟩ : ∃ q, w_102.heap.size = q := ⟨_, rfl⟩
          refine hK_.out _ _ ((by rw [HCA.out]; exact (HM_103.out.up 5).get)) (fun hS_ => ?_)
          clear hK_ K_ hS
          have hS := hS_
          clear hS_
          try simp only [Act.put, List.setIfInBounds_toArray, List.set_cons_zero, List.set_cons_succ]
          refine wpAnyH_ready (rs := [5]) (by kernel_rfl) (by simp) ?_
          refine AllReadyH.cons rfl (fun K_ hK_ => ?_) AllReadyH.nil
          · go_simp
            refine (Copy_call HM_103.out B0 B1 B3 n0 n1 n3 d0 d1 d3 fl ws rs cs R0.out.1 R1.out.1 R3.out.1 HSM.out.2.1 HSM.out.2.2.1 HSM.out.2.2.2 R0.out.2 R1.out.2 R3.out.2).mono ?_
            rintro e w_106 ⟨v0, v1, v3, rfl, h4⟩
            obtain ⟨b3, bc3, rfl, _, _⟩ := h4.readsN R3.out.2
            obtain ⟨b1, bc1, rfl, _, _⟩ := h4.drop.readsN R1.out.2
            obtain ⟨b0, bc0, rfl, _, _⟩ := h4.drop.drop.readsN R0.out.2
            have HM_107 := Aside0.mk h4
            clear h4
            obtain ⟨gz_108, hz_109⟩ : ∃ q, w_106.heap.size = q := ⟨_, rfl⟩
            refine hK_.out _ _ ((by rw [HCA.out]; exact (HM_107.out.up 8).get)) (fun hS_ => ?_)
            clear hK_ K_ hS
            have hS := hS_
            clear hS_
            try simp only [Act.put, List.setIfInBounds_toArray, List.set_cons_zero, List.set_cons_succ]
            refine wpAnyH_ready (rs := [8]) (by kernel_rfl) (by simp) ?_
            refine AllReadyH.cons rfl (fun K_ hK_ => ?_) AllReadyH.nil
            have hu_ := (HM_107.out.up 6)
            rw [if_pos (by rfl)]
            refine wp_store_row 50 (.tmp 7) (.tmp 24) rfl (gz0 + 1) #[.slice a0 n0 ac0, .slice a1 n1 ac1, .int .i64 fl, .slice a3 n3 ac3] rfl rfl 50 #[.slice none 0 0, .slice none 0 0, .int .i64 0, .slice none 0 0] hu_.get i50 rfl (by simp [Value.oneCell']) ?_
            have HM_110 := Aside0.mk (putRow hu_ #[.slice a0 n0 ac0, .slice a1 n1 ac1, .int .i64 fl, .slice a3 n3 ac3])
            clear hu_
            refine hK_.out _ _ ((by rw [HCA.out]; exact (HM_110.out.up 8).get)) (fun hS_ => ?_)
            clear hK_ K_ hS
            have hS := hS_
            clear hS_
            try simp only [Act.put, List.setIfInBounds_toArray, List.set_cons_zero, List.set_cons_succ]
            refine wpAnyH_ready (rs := [9]) (by kernel_rfl) (by simp) ?_
            refine AllReadyH.cons rfl (fun K_ hK_ => ?_) AllReadyH.nil
            have hu_ := (HM_110.out.up 7)
            rw [if_pos (by rfl)]
            refine wp_store_row 50 (.tmp 8) (.tmp 27) rfl gz0 #[.slice b0 n0 bc0, .slice b1 n1 bc1, .int .i64 fl, .slice b3 n3 bc3] rfl rfl 50 #[.slice none 0 0, .slice none 0 0, .int .i64 0, .slice none 0 0] hu_.get i50 rfl (by simp [Value.oneCell']) ?_
            have HM_111 := Aside0.mk (putRow hu_ #[.slice b0 n0 bc0, .slice b1 n1 bc1, .int .i64 fl, .slice b3 n3 bc3])
            clear hu_
            refine hK_.out _ _ ((by rw [HCA.out]; exact (HM_111.out.up 8).get)) (fun hS_ => ?_)
            clear hK_ K_ hS
            have hS := hS_
            clear hS_
            try simp only [Act.put, List.setIfInBounds_toArray, List.set_cons_zero, List.set_cons_succ]
            refine wpAnyH_done (by kernel_rfl) ?_ _
            have hbl_ := busL_of (gw := gz0) (B := ⟨ws, rs, fl, cs⟩) (wv := .slice b0 n0 bc0) (rv := .slice b1 n1 bc1) (cv := .slice b3 n3 bc3) (L := [ob gz0 (.cells #[.slice b0 n0 bc0, .slice b1 n1 bc1, .int .i64 fl, .slice b3 n3 bc3] 50), ob (gz0 + 1) (.cells #[.slice a0 n0 ac0, .slice a1 n1 ac1, .int .i64 fl, .slice a3 n3 ac3] 50), row W k100 100 (.slice b3 n3 bc3) cs, row W (Kd.int .i16) 22 (.slice b0 n0 bc0) ws, row W k100 100 (.slice a3 n3 ac3) cs, row W (Kd.int .i16) 22 (.slice a1 n1 ac1) rs, row W (Kd.int .i16) 22 (.slice a0 n0 ac0) ws, ob (g + 1) (.cells CA 52), ob g (.cells (p.arr x) 47)]) ((((((((((HM_111.out.up 9).up 9).up 9).up 9).up 9).up 9).up 8).up 8).up 8).up 9)
            have hfin := Two.make (ga := (gz0 + 1)) (gb := gz0) (A := ⟨ws, rs, fl, cs⟩) (B := ⟨ws, rs, fl, cs⟩) (wv := .slice a0 n0 ac0) (rv := .slice a1 n1 ac1) (cv := .slice a3 n3 ac3) (L := (ob (g + 1) (.cells CA 52) :: ob g (.cells (p.arr x) 47) :: [])) (C := [ob gz0 (.cells #[.slice b0 n0 bc0, .slice b1 n1 bc1, .int .i64 fl, .slice b3 n3 bc3] 50), row W (Kd.int .i16) 22 (.slice b0 n0 bc0) ws, row W (Kd.int .i16) 22 (.slice b1 n1 bc1) rs, row W k100 100 (.slice b3 n3 bc3) cs]) ((((((((((HM_111.out.up 2).up 3).up 4).up 3).up 9).up 9).up 7).up 8).up 9).up 9) hbl_
            clear hbl_
            replace hfin := show Two W _ (gz0 + 1) ⟨ws, rs, fl, cs⟩ gz0 ⟨ws, rs, fl, cs⟩ (ob (g + 1) (.cells CA 52) :: ob g (.cells (p.arr x) 47) :: []) from hfin
            generalize gz0 + 1 = gq_112 at hfin ⊢
            generalize World.setRow _ _ _ = wf at hfin ⊢
            exact KEY gq_112 gz0 wf a0 ac0 a1 ac1 a3 ac3 b0 bc0 b1 bc1 b3 bc3 hfin
  intro ga gb w4 a0 ac0 a1 ac1 a3 ac3 b0 bc0 b1 bc1 b3 bc3 h4
  have H4 := Aside0.mk h4
  clear h4 H2 H3 HC2 HAW
  generalize Bs.mk ws rs fl cs = B at *
  replace HB0 := Aside0.mk (HB0.out B rfl)
  try clear H3D hz0 gz0
  have HC4 := Aside0.mk (show w4.heap[g + 1]? = some (.cells (caseA s [.slice B0 n0 d0, .slice B1 n1 d1, .int .i64 fl, .slice B3 n3 d3]) 52 (0, 0)) by rw [HCA.out]; exact H4.out.mem.get)
  obtain ⟨M, hml, hbk⟩ := H4.out.lift
  have HML := Aside0.mk hml
  have HBK := Aside0.mk hbk
  clear hml hbk
  go_wp2_with (refine wpList_case0 rfl (.tmp 28) rfl (g + 1) rfl HO.out HC4.out ?_)
  refine (own_call HML.out HO.out).mono ?_
  rintro e w5 ⟨rfl, h5⟩
  obtain ⟨gc, hgc⟩ : ∃ gc, w5.heap.size = gc := ⟨_, rfl⟩
  have H5 := Aside0.mk (h5.new_ (.cells Tryd.zeroCells32 32) hgc)
  have X5 := Aside0.mk H5.out.get
  have H6 := Aside0.mk (HBK.out _ (ob gc (.cells s.cells 32) :: ob (g + 1) (.cells CA 52) :: ob g (.cells (p.arr x) 47) :: []) (putRow H5.out s.cells))
  clear h5
  go_upto_region 7 with (refine wpList_store32 rfl (.tmp 9) (.tmp 30) rfl gc rfl rfl HO.out Tryd.zeroCells32 zero32 X5.out ?_)
  clear X5 H5 HML HBK hgc HC4 H4
  generalize World.setRow _ _ _ = w6 at *
  obtain ⟨C1, hC1, hb5⟩ := (H6.out.up 2).up 1
  have HC1 := Aside0.mk hC1
  have HR1 := Aside0.mk (Run_call (n := n) (show BusM W w6 ga B (ob gc (.cells s.cells 32) :: ob g (.cells (p.arr x) 47) :: (ob (g + 1) (.cells CA 52) :: C1)) from hb5) (by have := HB0.out.1; have := HN.out; omega) HO.out HBO.out HXO.out HG.out (fun Wx s' B' hW => HXR.out.below hW.below))
  clear hb5 hC1 H6
  have HRV := Aside0.mk (show (runC x n s B).1.Ok ∧ (runC x n s B).2.1.calls.length ≤ B.calls.length + 510 ∧ Rows B (runC x n s B).2.1 from ⟨(run_all HXO.out n s B HO.out HBO.out).1, by have := (run_all HXO.out n s B HO.out HBO.out).2.2.1; have := HN.out; omega, (run_all HXO.out n s B HO.out HBO.out).2.2.2.1⟩)
  have hwn : wrap64 (n : Int) = (n : Int) := by have := HN.out; unfold wrap64; omega
  obtain ⟨R, hR⟩ : ∃ R, runC x n s B = R := ⟨_, rfl⟩
  have HRE := Aside0.mk hR
  rw [hR] at HR1 HRV
  clear hR
  obtain ⟨s2, B2, o2, k2⟩ := R
  dsimp only at HR1 HRV
  try simp only [Act.put, List.setIfInBounds_toArray, List.set_cons_zero, List.set_cons_succ]
  go_wp2_with fail
  refine HR1.out.mono ?_
  rintro e w7 ⟨rfl, h7⟩
  have H7 := Aside0.mk ((show Two W w7 ga B2 gb B (ob gc (.cells s2.cells 32) :: ob g (.cells (p.arr x) 47) :: ob (g + 1) (.cells CA 52) :: []) from ⟨C1, HC1.out, h7⟩).swap.up 2 |>.up 1)
  clear h7 HC1 HR1
  have HC7 := Aside0.mk (show w7.heap[g + 1]? = some (.cells (caseA s [.slice B0 n0 d0, .slice B1 n1 d1, .int .i64 fl, .slice B3 n3 d3]) 52 (0, 0)) by rw [HCA.out]; exact ((H7.out.mem.up 1)).get)
  have hx7 := (H7.out.mem.up 2).get
  have y0 := blk_cell hx7 0
  have y1 := blk_cell hx7 1
  have y2 := blk_cell hx7 2
  have y3 := blk_cell hx7 3
  have y4 := blk_cell hx7 4
  have y5 := blk_cell hx7 5
  have y6 := blk_cell hx7 6
  have y7 := blk_cell hx7 7
  have y8 := blk_cell hx7 8
  have y9 := blk_cell hx7 9
  have y10 := blk_cell hx7 10
  have y11 := blk_cell hx7 11
  clear hx7
  obtain ⟨C2, hC2, hb7⟩ := H7.out
  have HC2 := Aside0.mk hC2
  have HR2 := Aside0.mk (rRun_call (n := n) (show BusM W w7 gb B (ob gc (.cells s2.cells 32) :: ob (g + 1) (.cells CA 52) :: ob g (.cells (p.arr x) 47) :: C2) from hb7) (by have := HB0.out.1; have := HN.out; omega) HO.out HBO.out HXO.out HXR.out)
  rw [HRE.out] at HR2
  clear hb7 hC2
  go_wp2_with (refine wpList_case0 rfl (.tmp 39) rfl (g + 1) rfl HO.out HC7.out ?_)
  refine HR2.out.mono ?_
  rintro e w8 ⟨rfl, h8⟩
  clear y0 y1 y2 y3 y4 y5 y6 y7 y8 y9 y10 y11
  have H8 := Aside0.mk (show Two W w8 gb B2 ga B2 (ob gc (.cells s2.cells 32) :: ob (g + 1) (.cells CA 52) :: ob g (.cells (p.arr x) 47) :: []) from ⟨C2, HC2.out, h8⟩)
  clear h8 HC2 HR2 H7 HC7
  obtain ⟨M, hml, hbk⟩ := H8.out.lift
  obtain ⟨gs, hgs⟩ : ∃ gs, w8.heap.size = gs := ⟨_, rfl⟩
  have H9 := Aside0.mk (hml.new_ (.cells Tryd.zeroCells26 26) hgs)
  have X9 := Aside0.mk H9.out.get
  have H10 := Aside0.mk (hbk _ (ob gs (.cells s2.cells 26) :: ob gc (.cells s2.cells 32) :: ob (g + 1) (.cells CA 52) :: ob g (.cells (p.arr x) 47) :: []) (putRow H9.out s2.cells))
  clear hml hbk
  go_upto_region 9 with (refine wpList_store26 rfl (.tmp 12) (.tmp 45) rfl gs rfl rfl HRV.out.1 Tryd.zeroCells26 zero26 X9.out ?_)
  clear X9 H9 hgs H8
  generalize World.setRow _ _ _ = w10 at *
  obtain ⟨M, hml, hbk⟩ := H10.out.lift
  have HSC := Aside0.mk (same_call hml HRV.out.1)
  have HBK := Aside0.mk hbk
  clear hml hbk
  have HLC := Aside0.mk ((H10.out.up 1).mem.get)
  have HLS := Aside0.mk (H10.out.mem.get)
  try simp only [Act.put, List.setIfInBounds_toArray, List.set_cons_zero, List.set_cons_succ]
  go_wp2_with (first
    | (refine wpList_step fun K hK => ?_; first
      | refine wp_load32 (.tmp 9) rfl gc rfl HRV.out.1 HLC.out ?_
      | refine wp_load26 (.tmp 12) rfl gs rfl HRV.out.1 HLS.out ?_))
  refine HSC.out.mono ?_
  rintro e w11 ⟨rfl, h11⟩
  have H11 := Aside0.mk (HBK.out _ (ob gs (.cells s2.cells 26) :: ob gc (.cells s2.cells 32) :: ob (g + 1) (.cells CA 52) :: ob g (.cells (p.arr x) 47) :: []) h11)
  clear h11 HSC HBK HLC HLS H10
  obtain ⟨Cb, hCb, hbb⟩ := H11.out
  obtain ⟨A0, c0, A1, c1, A3, c3, hgb, ra0, ra1, ra3⟩ := BusM.open_ hbb
  obtain ⟨Ca, hCa, hba⟩ := H11.out.swap
  obtain ⟨E0, e0, E1, e1, E3, e3, hga, rb0, rb1, rb3⟩ := BusM.open_ hba
  have HLEN := Aside0.mk (show B2.words.length ≤ 600 ∧ B2.reads.length ≤ 60 ∧ B2.calls.length ≤ 2000 from ⟨by have h1 := HRV.out.2.2.1; have h0 := HB0.out; omega, by have h1 := HRV.out.2.2.2; have h0 := HB0.out; omega, by have h1 := HRV.out.2.1; have h0 := HB0.out; omega⟩)
  have HSW := Aside0.mk (SameW_call (A := B2) (B := B2) (w := w11) rfl rfl rfl (by have := HLEN.out; omega) (by have := HLEN.out; omega) (by have := HLEN.out; omega) rb0 rb1 rb3 ra0 ra1 ra3)
  have xa0 := blk_cell hga 0
  have xa1 := blk_cell hga 1
  have xa2 := blk_cell hga 2
  have xa3 := blk_cell hga 3
  have xb0 := blk_cell hgb 0
  have xb1 := blk_cell hgb 1
  have xb2 := blk_cell hgb 2
  have xb3 := blk_cell hgb 3
  clear hCb hbb hCa hba hga hgb ra0 ra1 ra3 rb0 rb1 rb3
  go_wp2_with fail
  refine HSW.out.mono ?_
  rintro e w12 ⟨rfl, h12⟩
  have H12 := Aside0.mk (H11.out.step h12).mem.below
  clear h12
  go_wp2_with fail
  go_ret
  exact ⟨rfl, by first | exact H12.out | (rw [← hg]; exact H12.out)⟩
end Go.Proofs.YtleafbihfmiidaaDoor.QAl
