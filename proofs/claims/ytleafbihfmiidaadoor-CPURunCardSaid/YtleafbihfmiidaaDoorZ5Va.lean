/- What this claim needs of Va. Parted by prune.py. -/
import Derived.Test.YtleafbihfmiidaaDoorZ5QAlx3
import Derived.Test.YtleafbihfmiidaaDoorZ5Bu
import Derived.Test.YtleafbihfmiidaaDoorZ5W
namespace Go.Proofs.YtleafbihfmiidaaDoor.QAl
open Go.RowKit Go.Proofs.YtleafbihfmiidaaDoorW.PrintWords Go.Proofs.YtleafbihfmiidaaDoorW.PrintLast Go.Proofs.YtleafbihfmiidaaDoorW.PrintMore Go.Proofs.YtleafbihfmiidaaDoor.Sl
set_option linter.unusedVariables false
set_option linter.unusedSimpArgs false
def getC (c : S72) (o : Int) : Int := if o = 0 then c.f1 else if o = 1 then c.f2 else if o = 2 then c.f3 else c.f4
def setC (s : S72) (o n : Int) : S72 := if o = 0 then ⟨s.f0, n, s.f2, s.f3, s.f4⟩ else if o = 1 then ⟨s.f0, s.f1, n, s.f3, s.f4⟩ else if o = 2 then ⟨s.f0, s.f1, s.f2, n, s.f4⟩ else ⟨s.f0, s.f1, s.f2, s.f3, n⟩
def okO (c : S72) (o : Int) : Bool := if o = 3 then immB c.f0 c.f4 else decide (0 ≤ getC c o) && decide (getC c o < 8)
def runO (c : S72) : S72 → List Int → Option S72
  | s, [] => some s
  | s, o :: l => if okO c o = true then runO c (setC s o (getC c o)) l else none
/-- The operands of an operation. -/
def opsL (op : Int) : List Int := (rd_T103 (isa_operations.f.getD []) op).f1
def eqC (s c : S72) : Bool := s.f0 == c.f0 && (s.f1 == c.f1 && (s.f2 == c.f2 && (s.f3 == c.f3 && s.f4 == c.f4)))
def validC (c : S72) : Bool := if 1 ≤ c.f0 ∧ c.f0 ≤ 30 then (match runO c ⟨c.f0, 0, 0, 0, 0⟩ (opsL c.f0) with | some s => eqC s c | none => false) else false
abbrev o72 (c : S72) : Obj := .cells #[.int .i64 c.f0, .int .i64 c.f1, .int .i64 c.f2, .int .i64 c.f3, .int .i16 c.f4] 72
abbrev v72 (c : S72) : Value := .agg #[.int .i64 c.f0, .int .i64 c.f1, .int .i64 c.f2, .int .i64 c.f3, .int .i16 c.f4]
set_option maxRecDepth 100000 in
theorem eq72 (s c : S72) (W : World) : (binOp .eql 72 (v72 s) (v72 c)).run Tryd.prog W = .ok (.bool (eqC s c)) W := by
  rw [run_eql_struct]
  have h : (Op.equalIn 10000 72 (v72 s) (v72 c)).run Tryd.prog W = .ok (eqC s c) W := by
    refine eqA_of Tryd.underlying72 (by kernel_rfl) ?_
    refine eqf_cons (by kernel_rfl) rfl rfl (run_equalIn_int _ _ _ _ _ _ _ Tryd.underlying3) ?_
    refine eqf_cons (by kernel_rfl) rfl rfl (run_equalIn_int _ _ _ _ _ _ _ Tryd.underlying3) ?_
    refine eqf_cons (by kernel_rfl) rfl rfl (run_equalIn_int _ _ _ _ _ _ _ Tryd.underlying3) ?_
    refine eqf_cons (by kernel_rfl) rfl rfl (run_equalIn_int _ _ _ _ _ _ _ Tryd.underlying3) ?_
    exact eqf_last (by kernel_rfl) rfl rfl (run_equalIn_int _ _ _ _ _ _ _ Tryd.underlying22)
  rw [h]
  rfl
set_option maxRecDepth 100000 in
theorem opsL_mem : ∀ k : Fin 31, ∀ o ∈ opsL ((k.val : Nat) : Int), o = 0 ∨ o = 1 ∨ o = 2 ∨ o = 3 := by decide +kernel
set_option maxRecDepth 100000 in
theorem opsL_len : ∀ k : Fin 31, (opsL ((k.val : Nat) : Int)).length ≤ 3 := by decide +kernel
theorem describe_f {op : Int} (h : 1 ≤ op ∧ op ≤ 30) : ∃ r1, isa_describe.f op = some (r1, opsL op, true) := by
  obtain ⟨l, hl, hn⟩ : ∃ l, isa_operations.f = some l ∧ l.length = 31 := ⟨_, rfl, rfl⟩
  unfold isa_describe.f opsL
  rw [hl, Option.bind_some, if_neg (by omega), if_neg (by rw [hn]; omega), if_pos (by omega), if_pos (by rw [hn]; omega)]
  exact ⟨_, rfl⟩
theorem describe_no {op : Int} (h : ¬ (1 ≤ op ∧ op ≤ 30)) : isa_describe.f op = some (⟨#[]⟩, [], false) := by
  obtain ⟨l, hl, hn⟩ : ∃ l, isa_operations.f = some l ∧ l.length = 31 := ⟨_, rfl, rfl⟩
  unfold isa_describe.f
  rw [hl, Option.bind_some]
  by_cases h1 : op < 1
  · rw [if_pos h1]
  · rw [if_neg h1, if_pos (by rw [hn]; omega)]
theorem get_f (c : S72) (o : Int) (ho : o = 0 ∨ o = 1 ∨ o = 2 ∨ o = 3) (h0 : -32768 ≤ c.f4) (h1 : c.f4 ≤ 32767) : isa_get.f c.f0 c.f1 c.f2 c.f3 c.f4 o = some (getC c o) := by
  have hw : wrap64 c.f4 = c.f4 := by unfold wrap64; omega
  unfold isa_get.f
  rw [hw]
  rcases ho with rfl | rfl | rfl | rfl <;> rfl
theorem wrap_i16 (n : Int) : IntKind.i16.wrap n = (n + 32768) % 65536 - 32768 := by
  simp [IntKind.wrap, IntKind.bits, IntKind.signed]
  split <;> omega
theorem wrap16_small {n : Int} (h0 : -32768 ≤ n) (h1 : n ≤ 32767) : IntKind.i16.wrap n = n := by
  rw [wrap_i16]
  omega
theorem set_call {L : List Chunk} {w0 w : World} {g : Nat} {s : S72} (h : Mem w0 w (ob g (o72 s) :: L)) (o n : Int) (ho : o = 0 ∨ o = 1 ∨ o = 2 ∨ o = 3) (hn : o = 3 → -32768 ≤ n ∧ n ≤ 32767) :
    Calls Tryd.prog 54 #[.pointer (some ⟨g, 0, none⟩), .int .i64 o, .int .i64 n] w fun e w' => e = .returned (.tuple #[]) ∧ Mem w0 w' (ob g (o72 (setC s o n)) :: L) := by
  have h0 := h.put (cs' := #[.int .i64 s.f0, .int .i64 n, .int .i64 s.f2, .int .i64 s.f3, .int .i16 s.f4]) 1 (.int .i64 n) rfl
  have h1 := h.put (cs' := #[.int .i64 s.f0, .int .i64 s.f1, .int .i64 n, .int .i64 s.f3, .int .i16 s.f4]) 2 (.int .i64 n) rfl
  have h2 := h.put (cs' := #[.int .i64 s.f0, .int .i64 s.f1, .int .i64 s.f2, .int .i64 n, .int .i16 s.f4]) 3 (.int .i64 n) rfl
  have h3 := h.put (cs' := #[.int .i64 s.f0, .int .i64 s.f1, .int .i64 s.f2, .int .i64 s.f3, .int .i16 n]) 4 (.int .i16 n) rfl
  have H0 := Aside0.mk h0
  have H1 := Aside0.mk h1
  have H2 := Aside0.mk h2
  have H3 := Aside0.mk h3
  have x1 := blk_cell h.get 1
  have x2 := blk_cell h.get 2
  have x3 := blk_cell h.get 3
  have x4 := blk_cell h.get 4
  have f1 := blk_frozen h.get 1
  have f2 := blk_frozen h.get 2
  have f3 := blk_frozen h.get 3
  have f4 := blk_frozen h.get 4
  clear h h0 h1 h2 h3
  rcases ho with rfl | rfl | rfl | rfl
  · go_enter Tryd.func54, Tryd.ntmps54
    go_wp2
    go_end0
    exact ⟨rfl, H0.out⟩
  · go_enter Tryd.func54, Tryd.ntmps54
    go_wp2
    go_end0
    exact ⟨rfl, H1.out⟩
  · go_enter Tryd.func54, Tryd.ntmps54
    go_wp2
    go_end0
    exact ⟨rfl, H2.out⟩
  · have hw : IntKind.i16.wrap n = n := wrap16_small (hn rfl).1 (hn rfl).2
    clear hn
    go_enter Tryd.func54, Tryd.ntmps54
    go_wp2
    go_end0
    exact ⟨rfl, H3.out⟩
theorem vmeas {i n : Nat} (hw : wrap64 ((i : Int) + 1) = ((i + 1 : Nat) : Int)) (h : i < n) : n - (intOf (.int .i64 (wrap64 ((i : Int) + 1)))).toNat < n - (intOf (.int .i64 (i : Int))).toNat := by
  rw [hw]
  simp only [intOf, Int.toNat_natCast]
  omega
def VaRel (w1 : World) (c : S72) (g5 : Nat) (l : List Int) (v23 : Value) (wr : World) : Prop :=
  ∃ (j : Nat) (s : S72), j ≤ l.length ∧ v23 = .int .i64 (j : Int) ∧ runO c ⟨c.f0, 0, 0, 0, 0⟩ l = runO c s (l.drop j) ∧ Mem w1 wr [ob g5 (o72 s)]
theorem runO_step {c s : S72} {l : List Int} {j : Nat} (hj : j < l.length) {o : Int} (ho : l.getD j 0 = o) : runO c s (l.drop j) = if okO c o = true then runO c (setC s o (getC c o)) (l.drop (j + 1)) else none := by
  rw [List.drop_eq_getElem_cons hj]
  have : l[j] = o := by rw [← ho, List.getD_eq_getElem?_getD, List.getElem?_eq_getElem hj]; rfl
  rw [this]
  rfl
theorem i64_cell {w : World} {A : Option Addr} {n : Nat} {d : List Int} (h : (Kd.int .i64).C w A n d) {j : Nat} (hj : j < n) : ∃ b o, A = some ⟨b, o, none⟩ ∧ w.cell? ⟨b, o + j, none⟩ = some (.int .i64 (d.getD j 0)) := by
  obtain ⟨b, o, cs, rfl, _, hK, hc⟩ := C_at 0 (by decide) h j hj
  have hK : cs = [.int .i64 (d.getD j 0)] := hK
  subst hK
  have e : (Kd.int .i64).sz = 1 := rfl
  rw [e] at hc
  refine ⟨b, o, rfl, ?_⟩
  have := hc 0 _ rfl
  simpa using this
set_option maxRecDepth 100000 in
set_option maxHeartbeats 16000000 in
theorem Valid_call (c : S72) (w : World) (h0 : -32768 ≤ c.f4) (h1 : c.f4 ≤ 32767) : Calls Tryd.prog 27 #[v72 c] w fun e w' => e = .returned (.bool (validC c)) ∧ Below w.heap.size w w' := by
  obtain ⟨g1, hg1⟩ : ∃ g1, w.heap.size = g1 := ⟨_, rfl⟩
  have HM0 := Aside0.mk ((Mem.start w).new_ (o72 c) hg1)
  have HG1 := Aside0.mk hg1
  have x0 := blk_cell HM0.out.get 0
  clear hg1
  by_cases hop : 1 ≤ c.f0 ∧ c.f0 ≤ 30
  · obtain ⟨r1, hde⟩ := describe_f hop
    have HDE := Aside0.mk (fun W => isa_describe.calls c.f0 r1 (opsL c.f0) true W hde)
    obtain ⟨k, hk⟩ : ∃ k : Fin 31, c.f0 = ((k.val : Nat) : Int) := ⟨⟨c.f0.toNat, by omega⟩, by show c.f0 = ((c.f0.toNat : Nat) : Int); omega⟩
    have HOM := Aside0.mk (show ∀ o ∈ opsL c.f0, o = 0 ∨ o = 1 ∨ o = 2 ∨ o = 3 by rw [hk]; exact opsL_mem k)
    have HOL := Aside0.mk (show (opsL c.f0).length ≤ 3 by rw [hk]; exact opsL_len k)
    have HV := Aside0.mk (show validC c = (match runO c ⟨c.f0, 0, 0, 0, 0⟩ (opsL c.f0) with | some s => eqC s c | none => false) from if_pos hop)
    generalize opsL c.f0 = l at *
    clear hde hk hop k
    obtain ⟨n, hn⟩ : ∃ n, l.length = n := ⟨_, rfl⟩
    have HN := Aside0.mk hn
    clear hn
    go_enter Tryd.func27, Tryd.ntmps27
    go_wp2_with fail
    rw [HG1.out]
    refine (HDE.out _).mono ?_
    rintro e w1 ⟨v1, rfl, hV, hB1⟩
    obtain ⟨A, cp, rfl⟩ := Kd.V_slice hV
    obtain ⟨_, hcp, hC⟩ := Kd.V_reads' hV
    rw [HN.out] at hcp hC ⊢
    have HC := Aside0.mk hC
    have HB1 := Aside0.mk (below_step HM0.out.below hB1)
    have hm0 := HM0.out.step hB1
    have z0 := blk_cell hm0.get 0
    have z1 := blk_cell hm0.get 1
    have z2 := blk_cell hm0.get 2
    have z3 := blk_cell hm0.get 3
    have z4 := blk_cell hm0.get 4
    have hg1 := hm0.lt
    have HM1 := Aside0.mk hm0
    clear hV hC hB1 hm0 x0 hcp
    obtain ⟨g3, hg3⟩ : ∃ g3, w1.heap.size = g3 := ⟨_, rfl⟩
    have hMb := (((Mem.start w1).new_ (.cells #[.string r1, .slice A n cp] 103) hg3).new_ (g := g3 + 1) (o72 ⟨c.f0, 0, 0, 0, 0⟩) (by rw [← hg3]; simp)).p1.drop
    have HMb := Aside0.mk (show Mem w1 _ [ob (g3 + 1) (o72 ⟨c.f0, 0, 0, 0, 0⟩)] from ((((Mem.start w1).new_ (.cells #[.string r1, .slice A n cp] 103) hg3).new_ (g := g3 + 1) (o72 ⟨c.f0, 0, 0, 0, 0⟩) (by rw [← hg3]; simp)).p1.drop))
    have HG3 := Aside0.mk hg3
    clear hMb hg3
    go_wp2_with fail
    rw [HG3.out]
    generalize g3 + 1 = g5 at *
    clear z0 z1 z2 z3 z4
    go_loopw [23] (fun v23 wr => VaRel w1 c g5 l v23 wr) (fun i _ => n - (intOf i).toNat)
    case atStart => exact ⟨0, _, Nat.zero_le _, rfl, rfl, HMb.out⟩
    case round =>
      obtain ⟨j, s, hj, rfl, hrun, hM⟩ := hrel
      rw [HN.out] at hj
      have HM := Aside0.mk hM
      have hm1 := HM1.out.step hM.below
      have z0 := blk_cell hm1.get 0
      have z1 := blk_cell hm1.get 1
      have z2 := blk_cell hm1.get 2
      have z3 := blk_cell hm1.get 3
      have z4 := blk_cell hm1.get 4
      have HR := Aside0.mk hrun
      clear hM hm1 hrun HMb
      by_cases hlt : j < n
      · have HLT := Aside0.mk hlt
        obtain ⟨b, off, rfl, y0⟩ := i64_cell (HM.out.came HC.out) hlt
        have hjl : j < l.length := by rw [HN.out]; exact hlt
        obtain ⟨o, ho⟩ : ∃ o, l.getD j 0 = o := ⟨_, rfl⟩
        rw [ho] at y0
        have HST := Aside0.mk (runO_step (c := c) (s := s) hjl ho)
        have ho4 : o = 0 ∨ o = 1 ∨ o = 2 ∨ o = 3 := HOM.out o (by rw [← ho, List.getD_eq_getElem?_getD, List.getElem?_eq_getElem hjl]; exact List.getElem_mem hjl)
        have HGET := Aside0.mk (fun W => isa_get.calls c.f0 c.f1 c.f2 c.f3 c.f4 o (getC c o) W (get_f c o ho4 h0 h1))
        have HW := Aside0.mk (show wrap64 ((j : Int) + 1) = ((j + 1 : Nat) : Int) by have := HOL.out; have := HN.out; unfold wrap64; omega)
        have HO4 := Aside0.mk ho4
        have HH := Aside0.mk (And.intro h0 h1)
        clear ho hjl
        rcases ho4 with rfl | rfl | rfl | rfl
        · obtain ⟨v, hv⟩ : ∃ v, getC c 0 = v := ⟨_, rfl⟩
          have HVV := Aside0.mk hv
          rw [hv] at HGET HST
          clear hv
          by_cases hv0 : v < 0
          · have d0 : decide (v < 0) = true := decide_eq_true hv0
            have HOK := Aside0.mk (show okO c 0 = false by unfold okO; rw [if_neg (by decide), HVV.out]; simp; omega)
            go_wp2_with fail
            refine (HGET.out _).mono ?_
            rintro e w2 ⟨rfl, hB2⟩
            have HM2 := Aside0.mk (HM.out.step hB2)
            have hmz := HM1.out.step HM2.out.below
            clear hB2 z0 z1 z2 z3 z4
            have z0 := blk_cell hmz.get 0
            have z4 := blk_cell hmz.get 4
            clear hmz
            go_wp2_with fail
            go_ret
            exact ⟨by rw [HV.out, HR.out, HST.out, if_neg (by rw [HOK.out]; simp)]; try rfl, below_step HB1.out HM2.out.below⟩
          have d0 : decide (v < 0) = false := decide_eq_false hv0
          by_cases hv8 : 8 ≤ v
          · have d8 : decide (8 ≤ v) = true := decide_eq_true hv8
            have HOK := Aside0.mk (show okO c 0 = false by unfold okO; rw [if_neg (by decide), HVV.out]; simp; omega)
            go_wp2_with fail
            refine (HGET.out _).mono ?_
            rintro e w2 ⟨rfl, hB2⟩
            have HM2 := Aside0.mk (HM.out.step hB2)
            have hmz := HM1.out.step HM2.out.below
            clear hB2 z0 z1 z2 z3 z4
            have z0 := blk_cell hmz.get 0
            have z4 := blk_cell hmz.get 4
            clear hmz
            go_wp2_with fail
            go_ret
            exact ⟨by rw [HV.out, HR.out, HST.out, if_neg (by rw [HOK.out]; simp)]; try rfl, below_step HB1.out HM2.out.below⟩
          have d8 : decide (8 ≤ v) = false := decide_eq_false hv8
          have HOK := Aside0.mk (show okO c 0 = true by unfold okO; rw [if_neg (by decide), HVV.out]; simp; omega)
          go_wp2_with fail
          refine (HGET.out _).mono ?_
          rintro e w2 ⟨rfl, hB2⟩
          have HM2 := Aside0.mk (HM.out.step hB2)
          have hmz := HM1.out.step HM2.out.below
          clear hB2 z0 z1 z2 z3 z4
          have z0 := blk_cell hmz.get 0
          have z4 := blk_cell hmz.get 4
          clear hmz
          go_wp2_with fail
          refine (set_call HM2.out 0 v (by decide) (by omega)).mono ?_
          rintro e w3 ⟨rfl, hM3⟩
          have HM3 := Aside0.mk hM3
          clear hM3 z0 z4
          go_wp2_with fail
          go_roundw
          case rel => exact ⟨j + 1, _, by rw [HN.out]; have := HLT.out; omega, by first | rw [HW.out] | (push_cast; rfl), by rw [HR.out, HST.out, if_pos HOK.out], HM3.out⟩
          case measure => exact vmeas HW.out HLT.out
        · obtain ⟨v, hv⟩ : ∃ v, getC c 1 = v := ⟨_, rfl⟩
          have HVV := Aside0.mk hv
          rw [hv] at HGET HST
          clear hv
          by_cases hv0 : v < 0
          · have d0 : decide (v < 0) = true := decide_eq_true hv0
            have HOK := Aside0.mk (show okO c 1 = false by unfold okO; rw [if_neg (by decide), HVV.out]; simp; omega)
            go_wp2_with fail
            refine (HGET.out _).mono ?_
            rintro e w2 ⟨rfl, hB2⟩
            have HM2 := Aside0.mk (HM.out.step hB2)
            have hmz := HM1.out.step HM2.out.below
            clear hB2 z0 z1 z2 z3 z4
            have z0 := blk_cell hmz.get 0
            have z4 := blk_cell hmz.get 4
            clear hmz
            go_wp2_with fail
            go_ret
            exact ⟨by rw [HV.out, HR.out, HST.out, if_neg (by rw [HOK.out]; simp)]; try rfl, below_step HB1.out HM2.out.below⟩
          have d0 : decide (v < 0) = false := decide_eq_false hv0
          by_cases hv8 : 8 ≤ v
          · have d8 : decide (8 ≤ v) = true := decide_eq_true hv8
            have HOK := Aside0.mk (show okO c 1 = false by unfold okO; rw [if_neg (by decide), HVV.out]; simp; omega)
            go_wp2_with fail
            refine (HGET.out _).mono ?_
            rintro e w2 ⟨rfl, hB2⟩
            have HM2 := Aside0.mk (HM.out.step hB2)
            have hmz := HM1.out.step HM2.out.below
            clear hB2 z0 z1 z2 z3 z4
            have z0 := blk_cell hmz.get 0
            have z4 := blk_cell hmz.get 4
            clear hmz
            go_wp2_with fail
            go_ret
            exact ⟨by rw [HV.out, HR.out, HST.out, if_neg (by rw [HOK.out]; simp)]; try rfl, below_step HB1.out HM2.out.below⟩
          have d8 : decide (8 ≤ v) = false := decide_eq_false hv8
          have HOK := Aside0.mk (show okO c 1 = true by unfold okO; rw [if_neg (by decide), HVV.out]; simp; omega)
          go_wp2_with fail
          refine (HGET.out _).mono ?_
          rintro e w2 ⟨rfl, hB2⟩
          have HM2 := Aside0.mk (HM.out.step hB2)
          have hmz := HM1.out.step HM2.out.below
          clear hB2 z0 z1 z2 z3 z4
          have z0 := blk_cell hmz.get 0
          have z4 := blk_cell hmz.get 4
          clear hmz
          go_wp2_with fail
          refine (set_call HM2.out 1 v (by decide) (by omega)).mono ?_
          rintro e w3 ⟨rfl, hM3⟩
          have HM3 := Aside0.mk hM3
          clear hM3 z0 z4
          go_wp2_with fail
          go_roundw
          case rel => exact ⟨j + 1, _, by rw [HN.out]; have := HLT.out; omega, by first | rw [HW.out] | (push_cast; rfl), by rw [HR.out, HST.out, if_pos HOK.out], HM3.out⟩
          case measure => exact vmeas HW.out HLT.out
        · obtain ⟨v, hv⟩ : ∃ v, getC c 2 = v := ⟨_, rfl⟩
          have HVV := Aside0.mk hv
          rw [hv] at HGET HST
          clear hv
          by_cases hv0 : v < 0
          · have d0 : decide (v < 0) = true := decide_eq_true hv0
            have HOK := Aside0.mk (show okO c 2 = false by unfold okO; rw [if_neg (by decide), HVV.out]; simp; omega)
            go_wp2_with fail
            refine (HGET.out _).mono ?_
            rintro e w2 ⟨rfl, hB2⟩
            have HM2 := Aside0.mk (HM.out.step hB2)
            have hmz := HM1.out.step HM2.out.below
            clear hB2 z0 z1 z2 z3 z4
            have z0 := blk_cell hmz.get 0
            have z4 := blk_cell hmz.get 4
            clear hmz
            go_wp2_with fail
            go_ret
            exact ⟨by rw [HV.out, HR.out, HST.out, if_neg (by rw [HOK.out]; simp)]; try rfl, below_step HB1.out HM2.out.below⟩
          have d0 : decide (v < 0) = false := decide_eq_false hv0
          by_cases hv8 : 8 ≤ v
          · have d8 : decide (8 ≤ v) = true := decide_eq_true hv8
            have HOK := Aside0.mk (show okO c 2 = false by unfold okO; rw [if_neg (by decide), HVV.out]; simp; omega)
            go_wp2_with fail
            refine (HGET.out _).mono ?_
            rintro e w2 ⟨rfl, hB2⟩
            have HM2 := Aside0.mk (HM.out.step hB2)
            have hmz := HM1.out.step HM2.out.below
            clear hB2 z0 z1 z2 z3 z4
            have z0 := blk_cell hmz.get 0
            have z4 := blk_cell hmz.get 4
            clear hmz
            go_wp2_with fail
            go_ret
            exact ⟨by rw [HV.out, HR.out, HST.out, if_neg (by rw [HOK.out]; simp)]; try rfl, below_step HB1.out HM2.out.below⟩
          have d8 : decide (8 ≤ v) = false := decide_eq_false hv8
          have HOK := Aside0.mk (show okO c 2 = true by unfold okO; rw [if_neg (by decide), HVV.out]; simp; omega)
          go_wp2_with fail
          refine (HGET.out _).mono ?_
          rintro e w2 ⟨rfl, hB2⟩
          have HM2 := Aside0.mk (HM.out.step hB2)
          have hmz := HM1.out.step HM2.out.below
          clear hB2 z0 z1 z2 z3 z4
          have z0 := blk_cell hmz.get 0
          have z4 := blk_cell hmz.get 4
          clear hmz
          go_wp2_with fail
          refine (set_call HM2.out 2 v (by decide) (by omega)).mono ?_
          rintro e w3 ⟨rfl, hM3⟩
          have HM3 := Aside0.mk hM3
          clear hM3 z0 z4
          go_wp2_with fail
          go_roundw
          case rel => exact ⟨j + 1, _, by rw [HN.out]; have := HLT.out; omega, by first | rw [HW.out] | (push_cast; rfl), by rw [HR.out, HST.out, if_pos HOK.out], HM3.out⟩
          case measure => exact vmeas HW.out HLT.out
        · have hv : getC c 3 = c.f4 := rfl
          have HIM := Aside0.mk (fun W => isa_immediate.calls c.f0 c.f4 (immB c.f0 c.f4) W (by unfold isa_immediate.f; exact if_pos HH.out))
          have HOK := Aside0.mk (show okO c 3 = immB c.f0 c.f4 from rfl)
          rw [hv] at HGET HST
          clear hv
          cases hib : immB c.f0 c.f4 with
          | false =>
            rw [hib] at HIM HOK
            clear hib
            go_wp2_with fail
            refine (HGET.out _).mono ?_
            rintro e w2 ⟨rfl, hB2⟩
            have HM2 := Aside0.mk (HM.out.step hB2)
            have hmz := HM1.out.step HM2.out.below
            clear hB2 z0 z1 z2 z3 z4
            have z0 := blk_cell hmz.get 0
            have z4 := blk_cell hmz.get 4
            clear hmz
            go_wp2_with fail
            refine (HIM.out _).mono ?_
            rintro e w4 ⟨rfl, hB4⟩
            have HM4 := Aside0.mk (HM2.out.step hB4)
            clear hB4 z0 z4
            go_wp2_with fail
            go_ret
            exact ⟨by rw [HV.out, HR.out, HST.out, if_neg (by rw [HOK.out]; simp)]; try rfl, below_step HB1.out HM4.out.below⟩
          | true =>
            rw [hib] at HIM HOK
            clear hib
            go_wp2_with fail
            refine (HGET.out _).mono ?_
            rintro e w2 ⟨rfl, hB2⟩
            have HM2 := Aside0.mk (HM.out.step hB2)
            have hmz := HM1.out.step HM2.out.below
            clear hB2 z0 z1 z2 z3 z4
            have z0 := blk_cell hmz.get 0
            have z4 := blk_cell hmz.get 4
            clear hmz
            go_wp2_with fail
            refine (HIM.out _).mono ?_
            rintro e w4 ⟨rfl, hB4⟩
            have HM4 := Aside0.mk (HM2.out.step hB4)
            clear hB4 z0 z4
            go_wp2_with fail
            refine (set_call HM4.out 3 c.f4 (by decide) (fun _ => HH.out)).mono ?_
            rintro e w3 ⟨rfl, hM3⟩
            have HM3 := Aside0.mk hM3
            clear hM3
            go_wp2_with fail
            go_roundw
            case rel => exact ⟨j + 1, _, by rw [HN.out]; have := HLT.out; omega, by first | rw [HW.out] | (push_cast; rfl), by rw [HR.out, HST.out, if_pos HOK.out], HM3.out⟩
            case measure => exact vmeas HW.out HLT.out
      · obtain rfl : j = n := by omega
        clear hlt
        have y0 := blk_cell HM.out.get 0
        have y1 := blk_cell HM.out.get 1
        have y2 := blk_cell HM.out.get 2
        have y3 := blk_cell HM.out.get 3
        have y4 := blk_cell HM.out.get 4
        have HE := Aside0.mk (show validC c = eqC s c by rw [HV.out, HR.out, List.drop_of_length_le (by rw [HN.out]; exact Nat.le_refl _)]; rfl)
        have hq := eq72 s c
        obtain ⟨q, hqq⟩ : ∃ q, eqC s c = q := ⟨_, rfl⟩
        rw [hqq] at hq HE
        clear hqq
        go_wp2_with fail
        go_ret
        exact ⟨by rw [HE.out]; try rfl, below_step HB1.out HM.out.below⟩
  · have hde := describe_no hop
    have HDE := Aside0.mk (fun W => isa_describe.calls c.f0 ⟨#[]⟩ [] false W hde)
    have HV := Aside0.mk (show validC c = false from if_neg hop)
    clear hop hde
    go_enter Tryd.func27, Tryd.ntmps27
    go_wp2_with fail
    rw [HG1.out]
    refine (HDE.out _).mono ?_
    rintro e w1 ⟨v1, rfl, hV, hB1⟩
    obtain ⟨A, cp, rfl⟩ := Kd.V_slice hV
    have HB1 := Aside0.mk (below_step HM0.out.below hB1)
    clear hV hB1
    go_wp2_with fail
    go_ret
    exact ⟨by rw [HV.out]; try rfl, (HB1.out).alloc (Nat.le_trans (by have := HM0.out.below.size; omega) (HB1.out.size)) _⟩
end Go.Proofs.YtleafbihfmiidaaDoor.QAl
