/- UpdaterReceives: the law's walk. Printed by mkRc.py. -/
import Derived.Test.YtfcldacjnegacaaRcB
namespace Go.Proofs.Ytfcldacjnegacaa.Up
open Go.RowKit Go.Proofs.YtfcldacjnegacaaW.PrintWords Go.Proofs.YtfcldacjnegacaaW.PrintLast Go.Proofs.YtfcldacjnegacaaW.PrintMore Go.Proofs.Ytfcldacjnegacaa.Sl
set_option linter.unusedVariables false
set_option linter.unusedSimpArgs false
attribute [local go_sem] max_two min_two
set_option maxRecDepth 100000 in
set_option maxHeartbeats 16000000 in
theorem Receives_law (A A1 A2 : Option Addr) (c0 c1 c2 : Nat) (b o f : List Int) (w : World) (hr0 : (Kd.int .u8).C w A b.length b) (hc0 : b.length ≤ c0) (hr1 : (Kd.int .u8).C w A1 o.length o) (hc1 : o.length ≤ c1) (hr2 : (Kd.int .u8).C w A2 f.length f)
    (hb : ∀ x ∈ b, 0 ≤ x ∧ x < 256) (ho : ∀ x ∈ o, 0 ≤ x ∧ x < 256) (hf : ∀ x ∈ f, 0 ≤ x ∧ x < 256) :
    Calls Try.prog 6 #[.slice A b.length c0, .slice A1 o.length c1, .slice A2 f.length c2] w fun e w' => e = .returned (.bool true) ∧ Below w.heap.size w w' := by
  have HR0 := Aside0.mk hr0
  have HR1 := Aside0.mk hr1
  have HR2 := Aside0.mk hr2
  have HB := Aside0.mk hb
  have HO := Aside0.mk ho
  have HF := Aside0.mk hf
  have HC0 := Aside0.mk hc0
  have HC1 := Aside0.mk hc1
  clear hr0 hr1 hr2 hb ho hf hc0 hc1
  obtain ⟨n, hn⟩ : ∃ n, b.length = n := ⟨_, rfl⟩
  rw [hn] at HR0 HC0 ⊢
  have HN := Aside0.mk hn
  clear hn
  obtain ⟨no, hn⟩ : ∃ n, o.length = n := ⟨_, rfl⟩
  rw [hn] at HR1 HC1 ⊢
  have HNO := Aside0.mk hn
  clear hn
  obtain ⟨nf, hn⟩ : ∃ n, f.length = n := ⟨_, rfl⟩
  rw [hn] at HR2 ⊢
  have HNF := Aside0.mk hn
  clear hn
  obtain ⟨g3, hg3⟩ : ∃ g3, w.heap.size = g3 := ⟨_, rfl⟩
  have HM0 := Aside0.mk ((Mem.start w).new_ (o22 A n c0) hg3)
  have HG3 := Aside0.mk hg3
  clear hg3
  by_cases h0 : n = 0
  · subst h0
    have HWK := Aside0.mk (wakes_call HM0.out)
    go_enter Try.func6, Try.ntmps6
    go_wp2_with fail
    try rw [HG3.out]
    refine HWK.out.mono ?_
    rintro e w1 ⟨rfl, h1⟩
    have HB1 := Aside0.mk h1.below
    have x3 := blk_cell h1.get 0
    clear h1 HWK
    go_wp2_with fail
    go_ret
    exact ⟨rfl, HB1.out⟩
  have c0f : (n == 0) = false := beq_eq_false_iff_ne.2 h0
  have c0f' : ((n : Int) == 0) = false := beq_eq_false_iff_ne.2 (by omega)
  by_cases h300 : 300 < n
  · have c3 : decide (300 < n) = true := decide_eq_true (by omega)
    have c3' : decide ((300 : Int) < (n : Int)) = true := decide_eq_true (by omega)
    clear h300 h0
    have HWK := Aside0.mk (wakes_call HM0.out)
    go_enter Try.func6, Try.ntmps6
    go_wp2_with fail
    try rw [HG3.out]
    refine HWK.out.mono ?_
    rintro e w1 ⟨rfl, h1⟩
    have HB1 := Aside0.mk h1.below
    have x3 := blk_cell h1.get 0
    clear h1 HWK
    go_wp2_with fail
    go_ret
    exact ⟨rfl, HB1.out⟩
  have c3 : decide (300 < n) = false := decide_eq_false (by omega)
  have c3' : decide ((300 : Int) < (n : Int)) = false := decide_eq_false (by omega)
  by_cases h100 : 100 < no
  · have c4 : decide (100 < no) = true := decide_eq_true (by omega)
    have c4' : decide ((100 : Int) < (no : Int)) = true := decide_eq_true (by omega)
    clear h100 h300 h0
    have HWK := Aside0.mk (wakes_call HM0.out)
    go_enter Try.func6, Try.ntmps6
    go_wp2_with fail
    try rw [HG3.out]
    refine HWK.out.mono ?_
    rintro e w1 ⟨rfl, h1⟩
    have HB1 := Aside0.mk h1.below
    have x3 := blk_cell h1.get 0
    clear h1 HWK
    go_wp2_with fail
    go_ret
    exact ⟨rfl, HB1.out⟩
  have c4 : decide (100 < no) = false := decide_eq_false (by omega)
  have c4' : decide ((100 : Int) < (no : Int)) = false := decide_eq_false (by omega)
  by_cases h20 : 20 < nf
  · have c5 : decide (20 < nf) = true := decide_eq_true (by omega)
    have c5' : decide ((20 : Int) < (nf : Int)) = true := decide_eq_true (by omega)
    clear h20 h100 h300 h0
    have HWK := Aside0.mk (wakes_call HM0.out)
    go_enter Try.func6, Try.ntmps6
    go_wp2_with fail
    try rw [HG3.out]
    refine HWK.out.mono ?_
    rintro e w1 ⟨rfl, h1⟩
    have HB1 := Aside0.mk h1.below
    have x3 := blk_cell h1.get 0
    clear h1 HWK
    go_wp2_with fail
    go_ret
    exact ⟨rfl, HB1.out⟩
  have c5 : decide (20 < nf) = false := decide_eq_false (by omega)
  have c5' : decide ((20 : Int) < (nf : Int)) = false := decide_eq_false (by omega)
  obtain ⟨q, hq⟩ : ∃ q, q = nch n 8 := ⟨_, rfl⟩
  have hq2 : q = (n + 7) / 8 := hq
  have hq0 : 1 ≤ q ∧ q ≤ 40 := by omega
  have HQ := Aside0.mk hq
  have HQL := Aside0.mk hq0
  have HLE := Aside0.mk (show 1 ≤ n ∧ n ≤ 300 by omega)
  have HLO := Aside0.mk (show no ≤ 100 ∧ nf ≤ 20 by omega)
  have HS1 := Aside0.mk (sb1 HLE.out hq2 hq0)
  clear hq hq2 hq0 h20 h100 h300 h0
  have HWK := Aside0.mk (wakes_call HM0.out)
  go_enter Try.func6, Try.ntmps6
  go_wp2_with fail
  rw [HG3.out]
  refine HWK.out.mono ?_
  rintro e w1 ⟨rfl, h1⟩
  have HM1 := Aside0.mk h1
  have x3 := blk_cell h1.get 0
  clear h1 HWK HM0
  go_wp2_with fail
  refine (start_nil (c := 8) HM1.out (by omega) (by omega)).mono ?_
  rintro e w2 ⟨gm, gb, gu0, gd, N, hN, rfl, h2⟩
  have HNN := Aside0.mk hN
  have h2' := h2.add (o30n gm gu0 gd 8)
  obtain ⟨g7, hg7⟩ : ∃ g7, g7 = w2.heap.size := ⟨_, rfl⟩
  rw [← hg7] at h2'
  have z1 := blk_cell h2'.top 1
  have z3 := blk_cell h2'.swap.top 0
  have HI0 := Aside0.mk (show RInv (List.replicate N 0) b from fun ha => by rw [zero_act (by rw [List.length_replicate]; omega) (zero_G _ 3840) 8] at ha; cases ha)
  have H2 := Aside0.mk (show NvM w _ gm gb N (on (List.replicate N 0)) (upd gu0 gm 4096 8 [ob g7 (o30n gm gu0 gd 8), ob g3 (o22 A n c0)]) from h2')
  clear h2 h2' x3 HM1 hN
  obtain ⟨s1, s2, s3, s4, s5, q0, q0n, q1⟩ := HS1.out
  go_wp2_with fail
  rw [← hg7]
  rw [s5]
  clear hg7 s1 s2 s3 s4 z1 z3 q0 q0n q1 c0f c0f' c3 c3' c4 c4' c5 c5'
  go_loopw [61] (fun v61 wr => RcRel1 w b gm gb gd N g7 g3 nf n c0 A v61 wr) (fun i _ => nf - (intOf i).toNat)
  case atStart => exact ⟨0, gu0, _, Nat.zero_le _, rfl, HI0.out, H2.out⟩
  case round =>
    obtain ⟨j, gu, B, hj, rfl, hI, hS⟩ := hrel
    have HI := Aside0.mk hI
    have HS := Aside0.mk hS
    have z0 := blk_cell hS.top 0
    clear H2 hI hS HI0 s5
    have HOK := Aside0.mk (fun (B : List Int) (o : Bool) (k : Int) W L (h : NvM w W gm gb N ⟨B, o, k⟩ L) => show Dv.Ok 10240 ⟨B, o, k⟩ by have := h.1; rw [HNN.out] at this; exact this)
    by_cases hlt : j < nf
    · have HLT := Aside0.mk hlt
      obtain ⟨bf, of_, rfl, y0⟩ := byte_cell (HS.out.came HR2.out) hlt
      have hfj : 0 ≤ f.getD j 0 ∧ f.getD j 0 < 256 := by
        rw [List.getD_eq_getElem?_getD, List.getElem?_eq_getElem (show j < f.length by rw [HNF.out]; exact hlt)]
        exact HF.out _ (List.getElem_mem _)
      obtain ⟨fn, hfn⟩ := Int.eq_ofNat_of_zero_le hfj.1
      rw [hfn] at y0 hfj
      have HFN := Aside0.mk (show fn < 256 by omega)
      obtain ⟨k1, k1'⟩ := rc_wrap0 (j := fn) (by omega)
      have HW := Aside0.mk (rc_wrap (j := j) (by have := HLO.out; omega))
      clear hfj hfn
      go_wp2_with fail
      refine (Arm_call HS.out (fn : Int) (by omega) (by have := HFN.out; omega)).mono ?_
      rintro e w3 ⟨rfl, h3⟩
      have H3 := Aside0.mk (show NvM w w3 gm gb N ⟨B, false, (fn : Int)⟩ (upd gu gm 4096 8 [ob g7 (o30n gm gu gd 8), ob g3 (o22 A n c0)]) from h3)
      clear h3 z0 y0 k1 k1' hlt
      have K := offer_cl H3.out HNN.out HR0.out HC0.out HB.out HLE.out.2
      have HRC := Aside0.mk (rc_offer (k := (fn : Int)) (HOK.out _ _ _ _ _ H3.out) (by rw [HN.out]; exact HLE.out.1) (by rw [HN.out]; exact HLE.out.2) HI.out)
      have HK := Aside0.mk K
      clear K
      go_wp2_with fail
      have hrc := HRC.out
      rw [HN.out] at hrc
      rcases hrc with ⟨B', k', hof, hr, _⟩ | ⟨B', k', r', hof, rfl, hI', _⟩
      · have K := HK.out
        rw [hof] at K
        refine K.mono ?_
        clear K hof HK HRC
        rintro e w4 ⟨rfl, h4⟩
        have HR := Aside0.mk hr
        have H4 := Aside0.mk (show NvM w w4 gm gb N ⟨B', false, k'⟩ (upd gu gm 4096 8 [ob g7 (o30n gm gu gd 8), ob g3 (o22 A n c0)]) from h4)
        clear h4 hr
        obtain ⟨lo, hlo⟩ : ∃ lo, min j no = lo := ⟨_, rfl⟩
        have hmin : ∀ k k', Builtin.min2 (.int k (j : Int)) (.int k' (no : Int)) = pure (.int k (lo : Int)) := fun k k' => by
          rw [min2_int, ← hlo]
          congr 2
          split <;> omega
        obtain ⟨A1', c1', hC1', hc1', hsl⟩ := rc_slice (lo := lo) HR1.out HC1.out (by omega)
        obtain ⟨nl, hnl⟩ : ∃ nl, no - lo = nl := ⟨_, rfl⟩
        rw [hnl] at hC1' hc1' hsl
        have HC1' := Aside0.mk hC1'
        have HNL := Aside0.mk (show nl ≤ 100 by have := HLO.out; omega)
        have HOB := Aside0.mk (show ∀ x ∈ o.drop lo, 0 ≤ x ∧ x < 256 from fun x hx => HO.out x (List.mem_of_mem_drop hx))
        have HOL := Aside0.mk (show (o.drop lo).length = nl by rw [List.length_drop, HNO.out]; exact hnl)
        generalize o.drop lo = ol at *
        clear hC1' hc1' hlo hnl
        go_wp2_with fail
        clear hmin hsl
        go_loopw [81] (fun v81 wr => RcRel2 w b gm gb gu gd N g7 g3 nl n c0 A v81 wr) (fun i _ => nl - (intOf i).toNat)
        case atStart => exact ⟨0, ⟨B', false, k'⟩, Nat.zero_le _, rfl, HR.out, H4.out⟩
        case round =>
          obtain ⟨i, d, hi, rfl, hr, hS2⟩ := hrel
          have HR2 := Aside0.mk hr
          have HS2 := Aside0.mk hS2
          clear hr hS2
          by_cases hlt2 : i < nl
          · have HLT2 := Aside0.mk hlt2
            obtain ⟨bo, oo, rfl, y0⟩ := byte_cell (HS2.out.came HC1'.out) hlt2
            have hfj : 0 ≤ ol.getD i 0 ∧ ol.getD i 0 < 256 := by
              rw [List.getD_eq_getElem?_getD, List.getElem?_eq_getElem (show i < ol.length by rw [HOL.out]; exact hlt2)]
              exact HOB.out _ (List.getElem_mem _)
            obtain ⟨xn, hxn⟩ := Int.eq_ofNat_of_zero_le hfj.1
            rw [hxn] at y0 hfj
            have HXN := Aside0.mk (show xn < 256 by omega)
            obtain ⟨at_, hat⟩ : ∃ at_, at_ = xn % q := ⟨_, rfl⟩
            have hat2 : at_ < q := by rw [hat]; exact Nat.mod_lt _ (by have := HQL.out; omega)
            have HIX := Aside0.mk (rc_idx hat hat2 HQL.out.2 HXN.out)
            have HAT := Aside0.mk hat2
            clear hfj hxn hat hat2
            have HW2 := Aside0.mk (rc_wrap (j := i) (by have := HNL.out; omega))
            have HMUL := Aside0.mk (show at_ * 8 < n from nch_mul (c := 8) (by rw [← HQ.out]; exact HAT.out))
            obtain ⟨A', c', hC', hcut⟩ := cut_call' (i := at_) (c := 8) HN.out HR0.out HMUL.out HC0.out (by have := HLE.out; omega) (by omega) (by omega)
            have HCUT := Aside0.mk hcut
            have HC' := Aside0.mk hC'
            have HBY := Aside0.mk (cutL_byte HB.out 8 at_)
            have HST := Aside0.mk (rc_store (b := b) (i := at_) (HOK.out d.B d.off d.left _ _ HS2.out) (by rw [HN.out]; exact HLE.out.1) (by rw [HN.out]; exact HLE.out.2) HB.out HR2.out (by rw [HN.out, ← HQ.out]; exact HAT.out))
            have HCH := Aside0.mk (fun W (h : NvM w W gm gb N d (upd gu gm 4096 8 [ob g7 (o30n gm gu gd 8), ob g3 (o22 A n c0)])) => NvM.chunk (c := 8) (cp := c') h HNN.out (by omega) (by omega) (at_ : Int) (wf_i at_ (by have := HAT.out; have := HQL.out; omega)) HC'.out HBY.out)
            generalize clen n 8 at_ = cl at *
            have z1 := blk_cell HS2.out.top 1
            have z3 := blk_cell HS2.out.swap.top 0
            have HZ := Aside0.mk (And.intro z1 z3)
            clear hC' hcut z1 z3
            have hq0 : ¬ (q : Int) = 0 := by have := HQL.out; omega
            have hq0n : ¬ q = 0 := by have := HQL.out; omega
            have hq1 : ¬ (q : Int) = -1 := by have := HQL.out; omega
            obtain ⟨i1, i2, i3, i4, i5, i6⟩ := HIX.out
            go_wp2_with fail
            refine wp_region_held_drew (S := fun W => W.cell? ⟨g7, 1, none⟩ = some (.pointer (some ⟨gu, 0, none⟩)) ∧ W.cell? ⟨g3, 0, none⟩ = some (.slice A n c0)) (by kernel_rfl) HZ.out (fun hS => ?_)
            refine wpAnyH_take (i := 0) (oi := { dst := some 85, op := Op.fieldAddr 30 (Operand.tmp 7) 1, type := 0, pos := "law.go:172", after := #[], guard := none }) (v := ?_) rfl (by kernel_rfl) (by kernel_rfl) (by kernel_rfl) (fun _ _ _ h => h) (Or.inl ⟨by rfl, ?_⟩) hS ?_
            rotate_left
            · intro W_ hSW_
              obtain ⟨z1_, z2_⟩ := hSW_
              go_simp
              try with_reducible rfl
            try simp only [Act.put, List.setIfInBounds_toArray, List.set_cons_zero, List.set_cons_succ]
            refine wpAnyH_take (i := 1) (oi := { dst := some 86, op := Op.load 25 (Operand.tmp 85), type := 25, pos := "law.go:172", after := #[{ on := 0, ground := Ground.data }], guard := none }) (v := ?_) rfl (by kernel_rfl) (by kernel_rfl) (by kernel_rfl) (fun _ _ _ h => h) (Or.inl ⟨by rfl, ?_⟩) hS ?_
            rotate_left
            · intro W_ hSW_
              obtain ⟨z1_, z2_⟩ := hSW_
              go_simp
              try with_reducible rfl
            try simp only [Act.put, List.setIfInBounds_toArray, List.set_cons_zero, List.set_cons_succ]
            refine wpAnyH_take (i := 2) (oi := { dst := some 87, op := Op.move (Operand.tmp 14), type := 5, pos := "law.go:172", after := #[], guard := none }) (v := ?_) rfl (by kernel_rfl) (by kernel_rfl) (by kernel_rfl) (fun _ _ _ h => h) (Or.inl ⟨by rfl, ?_⟩) hS ?_
            rotate_left
            · intro W_ hSW_
              obtain ⟨z1_, z2_⟩ := hSW_
              go_simp
              try with_reducible rfl
            try simp only [Act.put, List.setIfInBounds_toArray, List.set_cons_zero, List.set_cons_succ]
            refine wpAnyH_take (i := 3) (oi := { dst := some 88, op := Op.convert 5 3 (Operand.tmp 87), type := 3, pos := "law.go:172", after := #[{ on := 2, ground := Ground.data }], guard := none }) (v := ?_) rfl (by kernel_rfl) (by kernel_rfl) (by kernel_rfl) (fun _ _ _ h => h) (Or.inl ⟨by rfl, ?_⟩) hS ?_
            rotate_left
            · intro W_ hSW_
              obtain ⟨z1_, z2_⟩ := hSW_
              go_simp
              try with_reducible rfl
            try simp only [Act.put, List.setIfInBounds_toArray, List.set_cons_zero, List.set_cons_succ]
            refine wpAnyH_take (i := 4) (oi := { dst := some 89, op := Op.move (Operand.tmp 9), type := 3, pos := "law.go:172", after := #[], guard := none }) (v := ?_) rfl (by kernel_rfl) (by kernel_rfl) (by kernel_rfl) (fun _ _ _ h => h) (Or.inl ⟨by rfl, ?_⟩) hS ?_
            rotate_left
            · intro W_ hSW_
              obtain ⟨z1_, z2_⟩ := hSW_
              go_simp
              try with_reducible rfl
            try simp only [Act.put, List.setIfInBounds_toArray, List.set_cons_zero, List.set_cons_succ]
            refine wpAnyH_take (i := 5) (oi := { dst := some 90, op := Op.binOp BinOp.rem 3 (Operand.tmp 88) (Operand.tmp 89) 3, type := 3, pos := "law.go:172", after := #[{ on := 3, ground := Ground.data }, { on := 4, ground := Ground.data }], guard := none }) (v := ?_) rfl (by kernel_rfl) (by kernel_rfl) (by kernel_rfl) (fun _ _ _ h => h) (Or.inl ⟨by rfl, ?_⟩) hS ?_
            rotate_left
            · intro W_ hSW_
              obtain ⟨z1_, z2_⟩ := hSW_
              go_simp
              try with_reducible rfl
            try simp only [Act.put, List.setIfInBounds_toArray, List.set_cons_zero, List.set_cons_succ]
            refine wpAnyH_take (i := 6) (oi := { dst := some 91, op := Op.load 22 (Operand.tmp 3), type := 22, pos := "law.go:172", after := #[], guard := none }) (v := ?_) rfl (by kernel_rfl) (by kernel_rfl) (by kernel_rfl) (fun _ _ _ h => h) (Or.inl ⟨by rfl, ?_⟩) hS ?_
            rotate_left
            · intro W_ hSW_
              obtain ⟨z1_, z2_⟩ := hSW_
              go_simp
              try with_reducible rfl
            try simp only [Act.put, List.setIfInBounds_toArray, List.set_cons_zero, List.set_cons_succ]
            refine wpAnyH_take (i := 7) (oi := { dst := some 92, op := Op.move (Operand.tmp 14), type := 5, pos := "law.go:172", after := #[], guard := none }) (v := ?_) rfl (by kernel_rfl) (by kernel_rfl) (by kernel_rfl) (fun _ _ _ h => h) (Or.inl ⟨by rfl, ?_⟩) hS ?_
            rotate_left
            · intro W_ hSW_
              obtain ⟨z1_, z2_⟩ := hSW_
              go_simp
              try with_reducible rfl
            try simp only [Act.put, List.setIfInBounds_toArray, List.set_cons_zero, List.set_cons_succ]
            refine wpAnyH_take (i := 8) (oi := { dst := some 93, op := Op.convert 5 3 (Operand.tmp 92), type := 3, pos := "law.go:172", after := #[{ on := 7, ground := Ground.data }], guard := none }) (v := ?_) rfl (by kernel_rfl) (by kernel_rfl) (by kernel_rfl) (fun _ _ _ h => h) (Or.inl ⟨by rfl, ?_⟩) hS ?_
            rotate_left
            · intro W_ hSW_
              obtain ⟨z1_, z2_⟩ := hSW_
              go_simp
              try with_reducible rfl
            try simp only [Act.put, List.setIfInBounds_toArray, List.set_cons_zero, List.set_cons_succ]
            refine wpAnyH_take (i := 9) (oi := { dst := some 94, op := Op.move (Operand.tmp 9), type := 3, pos := "law.go:172", after := #[], guard := none }) (v := ?_) rfl (by kernel_rfl) (by kernel_rfl) (by kernel_rfl) (fun _ _ _ h => h) (Or.inl ⟨by rfl, ?_⟩) hS ?_
            rotate_left
            · intro W_ hSW_
              obtain ⟨z1_, z2_⟩ := hSW_
              go_simp
              try with_reducible rfl
            try simp only [Act.put, List.setIfInBounds_toArray, List.set_cons_zero, List.set_cons_succ]
            refine wpAnyH_take (i := 10) (oi := { dst := some 95, op := Op.binOp BinOp.rem 3 (Operand.tmp 93) (Operand.tmp 94) 3, type := 3, pos := "law.go:172", after := #[{ on := 8, ground := Ground.data }, { on := 9, ground := Ground.data }], guard := none }) (v := ?_) rfl (by kernel_rfl) (by kernel_rfl) (by kernel_rfl) (fun _ _ _ h => h) (Or.inl ⟨by rfl, ?_⟩) hS ?_
            rotate_left
            · intro W_ hSW_
              obtain ⟨z1_, z2_⟩ := hSW_
              go_simp
              try with_reducible rfl
            try simp only [Act.put, List.setIfInBounds_toArray, List.set_cons_zero, List.set_cons_succ]
            refine wpAnyH_ready (rs := [11]) (by kernel_rfl) (by simp) ?_
            refine AllReadyH.cons (o := { dst := some 96, op := Op.call { callee := Callee.value (Operand.func 15), args := #[Operand.tmp 91, Operand.const (Value.int IntKind.i64 8), Operand.tmp 95], argTypes := #[22, 3, 3] }, type := 22, pos := "law.go:172", after := #[{ on := 6, ground := Ground.data }, { on := 10, ground := Ground.data }], guard := none }) rfl (fun K_ hK_ => ?_) AllReadyH.nil
            go_simp
            refine (HCUT.out _).mono ?_
            rintro e w5 ⟨rfl, rfl⟩
            refine hK_.out _ _ (⟨blk_cell HS2.out.drew''.top 1, blk_cell HS2.out.drew''.swap.top 0⟩) (fun hS_ => ?_)
            clear hK_ K_ hS
            have hS := hS_
            clear hS_
            try simp only [Act.put, List.setIfInBounds_toArray, List.set_cons_zero, List.set_cons_succ]
            refine wpAnyH_ready (rs := [12]) (by kernel_rfl) (by simp) ?_
            refine AllReadyH.cons (o := { dst := some 97, op := Op.call { callee := Callee.value (Operand.func 14), args := #[Operand.tmp 86, Operand.tmp 90, Operand.tmp 96], argTypes := #[25, 3, 22] }, type := 31, pos := "law.go:172", after := #[{ on := 1, ground := Ground.data }, { on := 5, ground := Ground.data }, { on := 11, ground := Ground.data }, { on := 11, ground := Ground.chain }], guard := none }) rfl (fun K_ hK_ => ?_) AllReadyH.nil
            go_simp
            refine (HCH.out _ HS2.out.drew'').mono ?_
            rintro e w5 ⟨rfl, h5⟩
            have HCD := Aside0.mk h5
            clear h5
            refine hK_.out _ _ (⟨blk_cell HCD.out.top 1, blk_cell HCD.out.swap.top 0⟩) (fun hS_ => ?_)
            clear hK_ K_ hS
            have hS := hS_
            clear hS_
            try simp only [Act.put, List.setIfInBounds_toArray, List.set_cons_zero, List.set_cons_succ]
            refine wpAnyH_done (by kernel_rfl) ?_ _
            clear hS hq0 hq0n hq1 i1 i2 i3 i4 i5 i6
            go_wp2_with fail
            go_roundw
            case rel => exact ⟨i + 1, _, by have := HLT2.out; omega, by first | rw [HW2.out] | (push_cast; rfl), HST.out, HCD.out⟩
            case measure => first | exact smeas HW2.out HLT2.out | (simp [intOf]; omega)
          · obtain rfl : i = nl := by omega
            have HI2 := Aside0.mk HR2.out.inv
            have z0 := blk_cell HS2.out.top 0
            try clear hlt2
            go_wp2_with fail
            refine (PowerOn_call HS2.out).mono ?_
            rintro e w6 ⟨rfl, h6⟩
            have H6 := Aside0.mk (show NvM w w6 gm gb N (on d.B) (upd gu gm 4096 8 [ob g7 (o30n gm gu gd 8), ob g3 (o22 A n c0)]) from h6)
            clear h6 z0
            have z0 := blk_cell H6.out.top 0
            go_wp2_with fail
            refine (H6.out.open_ (c := 8) HNN.out (by omega) (by omega)).mono ?_
            rintro e w7 ⟨gu', rfl, h7⟩
            clear z0
            have z1 := blk_cell h7.top 1
            have f1 := blk_frozen h7.top 1
            have H7 := Aside0.mk (show NvM w _ gm gb N (on d.B) (upd gu' gm 4096 8 [ob g7 (o30n gm gu' gd 8), ob g3 (o22 A n c0)]) from NvM.put h7 1 (.pointer (some ⟨gu', 0, none⟩)) rfl)
            clear h7
            go_wp2_with fail
            go_roundw
            case rel => exact ⟨j + 1, gu', d.B, by have := HLT.out; omega, by first | rw [HW.out] | (push_cast; rfl), HI2.out, H7.out⟩
            case measure => first | exact smeas HW.out HLT.out | (simp [intOf]; omega)
      · have K := HK.out
        rw [hof] at K
        refine K.mono ?_
        clear K hof HK HRC
        rintro e w4 ⟨rfl, h4⟩
        have HI2 := Aside0.mk hI'
        obtain ⟨d, hd⟩ : ∃ d : Dv, d = ⟨B', true, k'⟩ := ⟨_, rfl⟩
        have HS2 := Aside0.mk (show NvM w w4 gm gb N d (upd gu gm 4096 8 [ob g7 (o30n gm gu gd 8), ob g3 (o22 A n c0)]) from by rw [hd]; exact h4)
        replace HI2 := Aside0.mk (show RInv d.B b from by rw [hd]; exact HI2.out)
        clear h4 hI' hd
        have z0 := blk_cell HS2.out.top 0
        try clear hlt2
        go_wp2_with fail
        refine (PowerOn_call HS2.out).mono ?_
        rintro e w6 ⟨rfl, h6⟩
        have H6 := Aside0.mk (show NvM w w6 gm gb N (on d.B) (upd gu gm 4096 8 [ob g7 (o30n gm gu gd 8), ob g3 (o22 A n c0)]) from h6)
        clear h6 z0
        have z0 := blk_cell H6.out.top 0
        go_wp2_with fail
        refine (H6.out.open_ (c := 8) HNN.out (by omega) (by omega)).mono ?_
        rintro e w7 ⟨gu', rfl, h7⟩
        clear z0
        have z1 := blk_cell h7.top 1
        have f1 := blk_frozen h7.top 1
        have H7 := Aside0.mk (show NvM w _ gm gb N (on d.B) (upd gu' gm 4096 8 [ob g7 (o30n gm gu' gd 8), ob g3 (o22 A n c0)]) from NvM.put h7 1 (.pointer (some ⟨gu', 0, none⟩)) rfl)
        clear h7
        go_wp2_with fail
        go_roundw
        case rel => exact ⟨j + 1, gu', d.B, by have := HLT.out; omega, by first | rw [HW.out] | (push_cast; rfl), HI2.out, H7.out⟩
        case measure => first | exact smeas HW.out HLT.out | (simp [intOf]; omega)
    · obtain rfl : j = nf := by omega
      clear hlt z0
      have K := offer_cl HS.out HNN.out HR0.out HC0.out HB.out HLE.out.2
      have hrc := rc_offer (k := -1) (HOK.out _ _ _ _ _ HS.out) (by rw [HN.out]; exact HLE.out.1) (by rw [HN.out]; exact HLE.out.2) HI.out
      rw [HN.out] at hrc
      obtain ⟨B', k', hof, hr, hk'⟩ : ∃ B' k', Dv.offer ⟨B, false, -1⟩ 8 3 (n : Int) (crcI b) = (⟨B', false, k'⟩, 0) ∧ Rcv B' b ∧ ((-1 : Int) < 0 → k' = -1) := by
        rcases hrc with h | ⟨_, _, _, _, _, _, h⟩
        · exact h
        · omega
      obtain rfl := hk' (by omega)
      rw [hof] at K
      have HK := Aside0.mk K
      have HR := Aside0.mk hr
      clear K hrc hof hr hk'
      have hw5 := rc_wrap (j := q) (by have := HQL.out; omega)
      have HW5 := Aside0.mk hw5
      clear hw5
      go_wp2_with fail
      refine HK.out.mono ?_
      rintro e w4 ⟨rfl, h4⟩
      have H4 := Aside0.mk (show NvM w w4 gm gb N (on B') (upd gu gm 4096 8 [ob g7 (o30n gm gu gd 8), ob g3 (o22 A n c0)]) from h4)
      clear h4 HK
      have hw5 : wrap64 ((q : Int) + 1) = (q : Int) + 1 := by rw [HW5.out]; push_cast; rfl
      go_wp2_with fail
      rw [hw5]
      clear hw5
      go_loopw [122] (fun v122 wr => RcRel3 w b gm gb gu gd N g7 g3 q n c0 A v122 wr) (fun i _ => q + 1 - (intOf i).toNat)
      case atStart => exact ⟨0, B', Nat.zero_le _, rfl, HR.out, fun i hi => absurd hi (by omega), H4.out⟩
      case round =>
        obtain ⟨j3, B3, hj3, rfl, hr3, hall, hS3⟩ := hrel
        have HS3 := Aside0.mk hS3
        have HSTEP := Aside0.mk (rc_step (HOK.out _ _ _ _ _ hS3) (by rw [HN.out]; exact HLE.out.1) (by rw [HN.out]; exact HLE.out.2) HB.out hr3 hall)
        have z1 := blk_cell hS3.top 1
        have z3 := blk_cell hS3.swap.top 0
        have HZ := Aside0.mk (And.intro z1 z3)
        have HJ3 := Aside0.mk hj3
        clear hr3 hall hS3 H4 z3
        have t1 : decide ((j3 : Int) < (q : Int) + 1) = true := decide_eq_true (by omega)
        have t2 : (j3 : Int) < (q : Int) + 1 := by omega
        clear hj3
        have HMS := Aside0.mk (Missing_call (c := 8) HS3.out HNN.out (by omega) (by omega))
        rcases HSTEP.out with ⟨i, hji, hiq, hmis, B4, hst, hr4, hall4⟩ | ⟨hmis, hco⟩
        · have K := HMS.out
          rw [hmis, misR_some] at K
          have HK := Aside0.mk K
          have HR4 := Aside0.mk (And.intro hr4 hall4)
          have hiq2 : i < q := by rw [HN.out] at hiq; rw [HQ.out]; exact hiq
          have HIQ := Aside0.mk (And.intro hji hiq2)
          have HW3 := Aside0.mk (rc_wrap (j := j3) (by have := HQL.out; have := HJ3.out; omega))
          have HMUL := Aside0.mk (show i * 8 < n from nch_mul (c := 8) (by rw [← HQ.out]; exact hiq2))
          obtain ⟨A', c', hC', hcut⟩ := cut_call' (i := i) (c := 8) HN.out HR0.out HMUL.out HC0.out (by have := HLE.out; omega) (by omega) (by omega)
          have HCUT := Aside0.mk hcut
          have HC' := Aside0.mk hC'
          have HBY := Aside0.mk (cutL_byte HB.out 8 i)
          have HCH := Aside0.mk (fun W (h : NvM w W gm gb N (on B3) (upd gu gm 4096 8 [ob g7 (o30n gm gu gd 8), ob g3 (o22 A n c0)])) => by have K := NvM.chunk (c := 8) (cp := c') h HNN.out (by omega) (by omega) (i : Int) (wf_i i (by have := HIQ.out; have := HQL.out; omega)) HC'.out HBY.out; rw [hst] at K; exact K)
          generalize clen n 8 i = cl at *
          clear hmis hst hr4 hall4 hji hiq hiq2 K hC' hcut HMS HSTEP
          go_wp2_with fail
          refine HK.out.mono ?_
          rintro e w5 ⟨rfl, h5⟩
          have HS5 := Aside0.mk (HS3.out.step h5)
          clear h5 z1
          have z1 := blk_cell HS5.out.top 1
          have z3 := blk_cell HS5.out.swap.top 0
          go_wp2_with fail
          refine wp_region_held_drew (S := fun W => W.cell? ⟨g7, 1, none⟩ = some (.pointer (some ⟨gu, 0, none⟩)) ∧ W.cell? ⟨g3, 0, none⟩ = some (.slice A n c0)) (by kernel_rfl) ⟨z1, z3⟩ (fun hS => ?_)
          refine wpAnyH_take (i := 0) (oi := { dst := some 132, op := Op.fieldAddr 30 (Operand.tmp 7) 1, type := 0, pos := "law.go:190", after := #[], guard := none }) (v := ?_) rfl (by kernel_rfl) (by kernel_rfl) (by kernel_rfl) (fun _ _ _ h => h) (Or.inl ⟨by rfl, ?_⟩) hS ?_
          rotate_left
          · intro W_ hSW_
            obtain ⟨z1_, z2_⟩ := hSW_
            go_simp
            try with_reducible rfl
          try simp only [Act.put, List.setIfInBounds_toArray, List.set_cons_zero, List.set_cons_succ]
          refine wpAnyH_take (i := 1) (oi := { dst := some 133, op := Op.load 25 (Operand.tmp 132), type := 25, pos := "law.go:190", after := #[{ on := 0, ground := Ground.data }], guard := none }) (v := ?_) rfl (by kernel_rfl) (by kernel_rfl) (by kernel_rfl) (fun _ _ _ h => h) (Or.inl ⟨by rfl, ?_⟩) hS ?_
          rotate_left
          · intro W_ hSW_
            obtain ⟨z1_, z2_⟩ := hSW_
            go_simp
            try with_reducible rfl
          try simp only [Act.put, List.setIfInBounds_toArray, List.set_cons_zero, List.set_cons_succ]
          refine wpAnyH_take (i := 2) (oi := { dst := some 134, op := Op.move (Operand.tmp 17), type := 3, pos := "law.go:190", after := #[], guard := none }) (v := ?_) rfl (by kernel_rfl) (by kernel_rfl) (by kernel_rfl) (fun _ _ _ h => h) (Or.inl ⟨by rfl, ?_⟩) hS ?_
          rotate_left
          · intro W_ hSW_
            obtain ⟨z1_, z2_⟩ := hSW_
            go_simp
            try with_reducible rfl
          try simp only [Act.put, List.setIfInBounds_toArray, List.set_cons_zero, List.set_cons_succ]
          refine wpAnyH_take (i := 3) (oi := { dst := some 135, op := Op.load 22 (Operand.tmp 3), type := 22, pos := "law.go:190", after := #[], guard := none }) (v := ?_) rfl (by kernel_rfl) (by kernel_rfl) (by kernel_rfl) (fun _ _ _ h => h) (Or.inl ⟨by rfl, ?_⟩) hS ?_
          rotate_left
          · intro W_ hSW_
            obtain ⟨z1_, z2_⟩ := hSW_
            go_simp
            try with_reducible rfl
          try simp only [Act.put, List.setIfInBounds_toArray, List.set_cons_zero, List.set_cons_succ]
          refine wpAnyH_take (i := 4) (oi := { dst := some 136, op := Op.move (Operand.tmp 17), type := 3, pos := "law.go:190", after := #[], guard := none }) (v := ?_) rfl (by kernel_rfl) (by kernel_rfl) (by kernel_rfl) (fun _ _ _ h => h) (Or.inl ⟨by rfl, ?_⟩) hS ?_
          rotate_left
          · intro W_ hSW_
            obtain ⟨z1_, z2_⟩ := hSW_
            go_simp
            try with_reducible rfl
          try simp only [Act.put, List.setIfInBounds_toArray, List.set_cons_zero, List.set_cons_succ]
          refine wpAnyH_ready (rs := [5]) (by kernel_rfl) (by simp) ?_
          refine AllReadyH.cons (o := { dst := some 137, op := Op.call { callee := Callee.value (Operand.func 15), args := #[Operand.tmp 135, Operand.const (Value.int IntKind.i64 8), Operand.tmp 136], argTypes := #[22, 3, 3] }, type := 22, pos := "law.go:190", after := #[{ on := 3, ground := Ground.data }, { on := 4, ground := Ground.data }], guard := none }) rfl (fun K_ hK_ => ?_) AllReadyH.nil
          go_simp
          refine (HCUT.out _).mono ?_
          rintro e w6 ⟨rfl, rfl⟩
          refine hK_.out _ _ (⟨blk_cell HS5.out.drew''.top 1, blk_cell HS5.out.drew''.swap.top 0⟩) (fun hS_ => ?_)
          clear hK_ K_ hS
          have hS := hS_
          clear hS_
          try simp only [Act.put, List.setIfInBounds_toArray, List.set_cons_zero, List.set_cons_succ]
          refine wpAnyH_ready (rs := [6]) (by kernel_rfl) (by simp) ?_
          refine AllReadyH.cons (o := { dst := some 138, op := Op.call { callee := Callee.value (Operand.func 14), args := #[Operand.tmp 133, Operand.tmp 134, Operand.tmp 137], argTypes := #[25, 3, 22] }, type := 31, pos := "law.go:190", after := #[{ on := 1, ground := Ground.data }, { on := 2, ground := Ground.data }, { on := 5, ground := Ground.data }, { on := 5, ground := Ground.chain }], guard := none }) rfl (fun K_ hK_ => ?_) AllReadyH.nil
          go_simp
          refine (HCH.out _ HS5.out.drew'').mono ?_
          rintro e w7 ⟨rfl, h7⟩
          have HCD := Aside0.mk h7
          clear h7
          refine hK_.out _ _ (⟨blk_cell HCD.out.top 1, blk_cell HCD.out.swap.top 0⟩) (fun hS_ => ?_)
          clear hK_ K_ hS
          have hS := hS_
          clear hS_
          try simp only [Act.put, List.setIfInBounds_toArray, List.set_cons_zero, List.set_cons_succ]
          refine wpAnyH_take (i := 7) (oi := { dst := some 139, op := Op.binOp BinOp.neq 31 (Operand.tmp 138) (Operand.const (Value.int IntKind.i64 0)) 31, type := 4, pos := "law.go:190", after := #[{ on := 6, ground := Ground.data }], guard := none }) (v := ?_) rfl (by kernel_rfl) (by kernel_rfl) (by kernel_rfl) (fun _ _ _ h => h) (Or.inl ⟨by rfl, ?_⟩) hS ?_
          rotate_left
          · intro W_ hSW_
            obtain ⟨z1_, z2_⟩ := hSW_
            go_simp
            try with_reducible rfl
          try simp only [Act.put, List.setIfInBounds_toArray, List.set_cons_zero, List.set_cons_succ]
          refine wpAnyH_done (by kernel_rfl) ?_ _
          clear hS
          go_wp2_with fail
          go_roundw
          case rel => exact ⟨j3 + 1, B4, by have := HIQ.out; omega, by first | rw [HW3.out] | (push_cast; rfl), HR4.out.1, HR4.out.2, HCD.out⟩
          case measure => have := HJ3.out; first | exact smeas HW3.out (show j3 < q + 1 by omega) | (simp [intOf]; omega)
        · have K := HMS.out
          rw [hmis, misR_none] at K
          have HK := Aside0.mk K
          have HCO := Aside0.mk hco
          clear hmis hco K HMS HSTEP
          go_wp2_with fail
          refine HK.out.mono ?_
          rintro e w5 ⟨rfl, h5⟩
          have HS5 := Aside0.mk (HS3.out.step h5)
          clear h5 z1
          have z1 := blk_cell HS5.out.top 1
          go_wp2_with fail
          have K := Complete_call (sl := 4096) (c := 8) HS5.out HNN.out (by omega) (by omega) (by have := HNN.out; omega)
          rw [HCO.out] at K
          refine K.mono ?_
          clear K
          rintro e w8 ⟨v8, rfl, h8⟩
          obtain ⟨M8, hm8, _⟩ := h8.front
          obtain ⟨A8, c8, rfl, _, hC8⟩ := hm8.readsN HN.out
          have k8 := Kd.C_string (P := Try.prog) (src := 22) (dst := 9) (c := c8) Try.underlying22 Try.underlying5 Try.underlying9 hC8
          have hC9 := Kd.C_below HR0.out h8.below'
          have k9 := Kd.C_string (P := Try.prog) (src := 22) (dst := 9) (c := c0) Try.underlying22 Try.underlying5 Try.underlying9 hC9
          have HB8 := Aside0.mk h8.below'
          have z3 := blk_cell h8.swap.third.top 0
          clear h8 hm8 hC8 hC9 z1
          generalize strOfNums b = sbb at *
          go_wp2_with fail
          go_ret
          exact ⟨by simp, HB8.out⟩

theorem Receives_row {R0 R1 R2 : Prop} (A : Option Addr) (c0 : Nat) (b : List Int) (A1 : Option Addr) (c1 : Nat) (o : List Int) (A2 : Option Addr) (c2 : Nat) (f : List Int) (w : World) (hr0 : (Kd.int .u8).C w A b.length b) (hc0 : b.length ≤ c0) (hr1 : (Kd.int .u8).C w A1 o.length o) (hc1 : o.length ≤ c1) (hr2 : (Kd.int .u8).C w A2 f.length f) (hc2 : f.length ≤ c2)
    (g0 : R0 ∧ b.length ≤ maxLen ∧ ∀ x ∈ b, (Lit.int .u8 x).wf = true) (g1 : R1 ∧ o.length ≤ maxLen ∧ ∀ x ∈ o, (Lit.int .u8 x).wf = true) (g2 : R2 ∧ f.length ≤ maxLen ∧ ∀ x ∈ f, (Lit.int .u8 x).wf = true) :
    Calls Try.prog 6 #[.slice A b.length c0, .slice A1 o.length c1, .slice A2 f.length c2] w fun e w' => e = .returned (.bool true) ∧ Below w.heap.size w w' :=
  Receives_law A A1 A2 c0 c1 c2 b o f w hr0 hc0 hr1 hc1 hr2 (fun x hx => by have := PUpdaterMatchesModel.wf_u8 g0.2.2 x hx; omega) (fun x hx => by have := PUpdaterMatchesModel.wf_u8 g1.2.2 x hx; omega) (fun x hx => by have := PUpdaterMatchesModel.wf_u8 g2.2.2 x hx; omega)
end Go.Proofs.Ytfcldacjnegacaa.Up
