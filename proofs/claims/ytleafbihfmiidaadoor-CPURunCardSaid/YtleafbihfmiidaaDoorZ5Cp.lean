/- What this claim needs of Cp. Parted by prune.py. -/
import Derived.Test.YtleafbihfmiidaaDoorZ5Cw
namespace Go.Proofs.YtleafbihfmiidaaDoor.QAl
open Go.RowKit Go.Proofs.YtleafbihfmiidaaDoorW.PrintWords Go.Proofs.YtleafbihfmiidaaDoorW.PrintLast Go.Proofs.YtleafbihfmiidaaDoorW.PrintMore Go.Proofs.YtleafbihfmiidaaDoor.Sl
set_option linter.unusedVariables false
set_option linter.unusedSimpArgs false
/-- The state: the pc, and registers and frame in one list. -/
structure Cs where
  pc : Int
  m : List Int
def Cs.cells (s : Cs) : Array Value := (.int .i64 s.pc :: s.m.map (Value.int .i16)).toArray
structure Cs.Ok (s : Cs) : Prop where
  len : s.m.length = 72
  b : ∀ v ∈ s.m, S16 v
def Cs.r (s : Cs) (i : Nat) : Int := s.m.getD i 0
def Cs.set (s : Cs) (i : Nat) (v : Int) : Cs := ⟨s.pc, s.m.set i v⟩
def Cs.to (s : Cs) (pc : Int) : Cs := ⟨pc, s.m⟩
theorem Cs.Ok.r {s : Cs} (h : s.Ok) (i : Nat) : S16 (s.r i) := by
  unfold Cs.r
  rw [List.getD_eq_getElem?_getD]
  cases hj : s.m[i]? with
  | none => exact ⟨by decide, by decide⟩
  | some x => exact h.b x (List.mem_of_getElem? hj)
theorem Cs.Ok.set {s : Cs} (h : s.Ok) (i : Nat) {v : Int} (hv : S16 v) : (s.set i v).Ok := by
  refine ⟨by show (s.m.set i v).length = 72; rw [List.length_set]; exact h.len, fun x hx => ?_⟩
  rcases List.mem_or_eq_of_mem_set hx with hx | rfl
  · exact h.b x hx
  · exact hv
theorem Cs.Ok.to {s : Cs} (h : s.Ok) (p : Int) : (s.to p).Ok := ⟨h.len, h.b⟩
section
variable {w : World} {g t : Nat} {s : Cs}
theorem cpu_pc (h : w.heap[g]? = some (.cells s.cells t (0, 0))) : w.cell? ⟨g, 0, none⟩ = some (.int .i64 s.pc) := by
  rw [blk_cell h 0]
  unfold Cs.cells
  rfl
theorem cpu_r (h : w.heap[g]? = some (.cells s.cells t (0, 0))) (ok : s.Ok) {i : Nat} (hi : i < 72) : w.cell? ⟨g, 1 + i, none⟩ = some (.int .i16 (s.r i)) := by
  rw [blk_cell h (1 + i)]
  unfold Cs.cells Cs.r
  rw [List.getElem?_toArray, show 1 + i = i + 1 by omega, List.getElem?_cons_succ, List.getElem?_map, List.getD_eq_getElem?_getD, List.getElem?_eq_getElem (by rw [ok.len]; exact hi)]
  rfl
theorem cells_set (i : Nat) (v : Int) : s.cells.setIfInBounds (1 + i) (.int .i16 v) = (s.set i v).cells := by
  unfold Cs.cells Cs.set
  rw [List.setIfInBounds_toArray, show 1 + i = i + 1 by omega, List.set_cons_succ]
  dsimp only
  rw [List.map_set]
theorem cells_to (p : Int) : s.cells.setIfInBounds 0 (.int .i64 p) = (s.to p).cells := by
  unfold Cs.cells Cs.to
  rw [List.setIfInBounds_toArray, List.set_cons_zero]
end
abbrev iV (op : Int) (a b cc : Nat) (im : Int) : Value := .agg #[.int .i64 op, .int .i64 (a : Int), .int .i64 (b : Int), .int .i64 (cc : Int), .int .i16 im]
abbrev iO (op : Int) (a b cc : Nat) (im : Int) : Obj := .cells #[.int .i64 op, .int .i64 (a : Int), .int .i64 (b : Int), .int .i64 (cc : Int), .int .i16 im] 72
def adrC (s : Cs) (op : Int) (a b : Nat) (im : Int) : Int × Bool :=
  if op = 14 then (im, true) else if op = 15 then (im, true) else if op = 27 then (im, true) else if op = 16 then (s.r b, true) else if op = 17 then (s.r b, true) else if op = 28 then (s.r a, true) else (0, false)
theorem w64_s16 {v : Int} (h : S16 v) : wrap64 v = v := w64_small (by unfold S16 at h; omega) (by unfold S16 at h; omega)
set_option maxRecDepth 100000 in
set_option maxHeartbeats 4000000 in
theorem address_call {w : World} {gc : Nat} {s : Cs} (hc : w.heap[gc]? = some (.cells s.cells 32 (0, 0))) (hs : s.Ok) (op : Int) {a b : Nat} (cc : Nat) {im : Int} (ha : a < 8) (hb : b < 8) (hi : S16 im) :
    Calls Tryd.prog 55 #[.pointer (some ⟨gc, 0, none⟩), iV op a b cc im] w fun e w' => e = .returned (.tuple #[.int .i64 (adrC s op a b im).1, .bool (adrC s op a b im).2]) ∧ Below w.heap.size w w' := by
  have hw := w64_s16 hi
  obtain ⟨g1, hg1⟩ : ∃ g1, w.heap.size = g1 := ⟨_, rfl⟩
  have HM := Aside0.mk ((Mem.start w).new_ (iO op a b cc im) hg1)
  have HG := Aside0.mk hg1
  have hgc : gc < w.heap.size := blk_lt hc
  have xa := cpu_r hc hs (i := a) (by omega)
  have xb := cpu_r hc hs (i := b) (by omega)
  have wa := w64_s16 (hs.r a)
  have wb := w64_s16 (hs.r b)
  have ha' : (a : Int) < 8 := by omega
  have hb' : (b : Int) < 8 := by omega
  obtain ⟨va, hva⟩ : ∃ v, s.r a = v := ⟨_, rfl⟩
  obtain ⟨vb, hvb⟩ : ∃ v, s.r b = v := ⟨_, rfl⟩
  have HA := Aside0.mk (show adrC s op a b im = (if op = 14 then (im, true) else if op = 15 then (im, true) else if op = 27 then (im, true) else if op = 16 then (vb, true) else if op = 17 then (vb, true) else if op = 28 then (va, true) else (0, false)) by rw [← hva, ← hvb]; rfl)
  rw [hva] at xa wa
  rw [hvb] at xb wb
  rw [HA.out]
  clear hc hs hi hg1 hva hvb HA
  by_cases h14 : op = 14
  · subst h14
    go_enter Tryd.func55, Tryd.ntmps55
    go_wp2_with fail
    go_ret2
    exact ⟨rfl, HM.out.below⟩
  by_cases h15 : op = 15
  · subst h15
    go_enter Tryd.func55, Tryd.ntmps55
    go_wp2_with fail
    go_ret2
    exact ⟨rfl, HM.out.below⟩
  by_cases h27 : op = 27
  · subst h27
    go_enter Tryd.func55, Tryd.ntmps55
    go_wp2_with fail
    go_ret2
    exact ⟨rfl, HM.out.below⟩
  by_cases h16 : op = 16
  · subst h16
    go_enter Tryd.func55, Tryd.ntmps55
    go_wp2_with fail
    go_region
    go_wp2_with fail
    go_ret2
    exact ⟨rfl, (HM.out.drewN _).below⟩
  by_cases h17 : op = 17
  · subst h17
    go_enter Tryd.func55, Tryd.ntmps55
    go_wp2_with fail
    go_region
    go_wp2_with fail
    go_ret2
    exact ⟨rfl, (HM.out.drewN _).below⟩
  by_cases h28 : op = 28
  · subst h28
    go_enter Tryd.func55, Tryd.ntmps55
    go_wp2_with fail
    go_region
    go_wp2_with fail
    go_ret2
    exact ⟨rfl, (HM.out.drewN _).below⟩
  have b14 : (op == 14) = false := beq_eq_false_iff_ne.2 h14
  have b15 : (op == 15) = false := beq_eq_false_iff_ne.2 h15
  have b27 : (op == 27) = false := beq_eq_false_iff_ne.2 h27
  have b16 : (op == 16) = false := beq_eq_false_iff_ne.2 h16
  have b17 : (op == 17) = false := beq_eq_false_iff_ne.2 h17
  have b28 : (op == 28) = false := beq_eq_false_iff_ne.2 h28
  go_enter Tryd.func55, Tryd.ntmps55
  go_wp2_with fail
  go_ret2
  exact ⟨by simp [h14, h15, h27, h16, h17, h28], HM.out.below⟩
/-! ### The image -/
structure Img where
  codes : List S72
  globals : List S96
  sensors : Int
  outputs : Int
  chans : Nat
  addr : List Int
structure XP where
  a0 : Int
  A1 : Option Addr
  A4 : Option Addr
  A6 : Option Addr
  A11 : Option Addr
  c1 : Nat
  c4 : Nat
  c6 : Nat
  c11 : Nat
  v5 : Value
  v7 : Value
  v8 : Value
  v9 : Value
  v10 : Value
abbrev XP.arr (p : XP) (x : Img) : Array Value := #[.int .i64 p.a0, .slice p.A1 x.globals.length p.c1, .int .i64 x.sensors, .int .i64 x.outputs, .slice p.A4 x.chans p.c4, p.v5, .slice p.A6 x.addr.length p.c6, p.v7, p.v8, p.v9, p.v10, .slice p.A11 x.codes.length p.c11]
structure XR (p : XP) (x : Img) (w : World) : Prop where
  g : k96.C w p.A1 x.globals.length x.globals
  ad : (Kd.int .i64).C w p.A6 x.addr.length x.addr
  co : k72.C w p.A11 x.codes.length x.codes
theorem XR.below {p : XP} {x : Img} {w w' : World} (h : XR p x w) (hb : Below w.heap.size w w') : XR p x w' := ⟨Kd.C_below h.g hb, Kd.C_below h.ad hb, Kd.C_below h.co hb⟩
theorem glob_cell {w : World} {A : Option Addr} {n : Nat} {d : List S96} (h : k96.C w A n d) {j : Nat} (hj : j < n) : ∃ b o, A = some ⟨b, o, none⟩ ∧ w.cell? ⟨b, o + j * 4 + 1, none⟩ = some (.int .i64 (d.getD j z96).f1) := by
  obtain ⟨b, o, cs, rfl, _, hK, hc⟩ := C_at z96 (by decide) h j hj
  obtain rfl := k96_open hK
  have e : k96.sz = 4 := rfl
  rw [e] at hc
  exact ⟨b, o, rfl, hc 1 _ rfl⟩
theorem code_cells {w : World} {A : Option Addr} {n : Nat} {d : List S72} (h : k72.C w A n d) {j : Nat} (hj : j < n) : ∃ b o, A = some ⟨b, o, none⟩ ∧ w.cell? ⟨b, o + j * 5, none⟩ = some (.int .i64 (d.getD j z72).f0) ∧ w.cell? ⟨b, o + j * 5 + 1, none⟩ = some (.int .i64 (d.getD j z72).f1) ∧
    w.cell? ⟨b, o + j * 5 + 2, none⟩ = some (.int .i64 (d.getD j z72).f2) ∧ w.cell? ⟨b, o + j * 5 + 3, none⟩ = some (.int .i64 (d.getD j z72).f3) ∧ w.cell? ⟨b, o + j * 5 + 4, none⟩ = some (.int .i16 (d.getD j z72).f4) := by
  obtain ⟨b, o, cs, rfl, _, hK, hc⟩ := C_at z72 (by decide) h j hj
  obtain rfl := k72_open hK
  have e : k72.sz = 5 := rfl
  rw [e] at hc
  exact ⟨b, o, rfl, hc 0 _ rfl, hc 1 _ rfl, hc 2 _ rfl, hc 3 _ rfl, hc 4 _ rfl⟩
def dataOk (ad : Int) : Bool := (cpu_dataAddress.f ad).getD false
theorem data_f (ad : Int) : cpu_dataAddress.f ad = some (dataOk ad) := by
  unfold dataOk cpu_dataAddress.f
  split
  · split <;> rfl
  · rfl
theorem data_at {ad : Int} (h : dataOk ad = true) : DataAt ad ((ad - 2560) / 2).toNat := by
  unfold dataOk cpu_dataAddress.f at h
  by_cases h1 : ad.tmod 2 = 0
  · rw [if_pos h1] at h
    by_cases h2 : ad ≥ 2560
    · rw [if_pos h2] at h
      have h3 : ad < 3584 := by simpa using h
      rw [Int.tmod_eq_emod_of_nonneg (by omega)] at h1
      exact ⟨by omega, by omega⟩
    · rw [if_neg h2] at h
      cases h
  · rw [if_neg h1] at h
    cases h
/-- Whether the operands are valid for an image. -/
def opsB (x : Img) (s : Cs) (op : Int) (a b : Nat) (im : Int) : Bool :=
  if (adrC s op a b im).2 = true then dataOk (adrC s op a b im).1
  else if op = 18 then decide (im < (x.globals.length : Int)) && (decide (im < (x.addr.length : Int)) && decide (1 ≤ (x.globals.getD im.toNat z96).f1))
  else if op = 23 then decide (im < x.sensors) else if op = 26 then decide (im < x.outputs) else if op = 24 then decide (im < (x.chans : Int)) else true
set_option maxRecDepth 100000 in
set_option maxHeartbeats 8000000 in
theorem operands_call {w : World} {gc gx : Nat} {s : Cs} {p : XP} {x : Img} (hc : w.heap[gc]? = some (.cells s.cells 32 (0, 0))) (hs : s.Ok) (hx : w.heap[gx]? = some (.cells (p.arr x) 47 (0, 0))) (hr : XR p x w) (op : Int) {a b : Nat} (cc : Nat) {im : Int} (ha : a < 8) (hb : b < 8) (hi : S16 im) (h18 : op = 18 → 0 ≤ im) :
    Calls Tryd.prog 28 #[.pointer (some ⟨gc, 0, none⟩), .pointer (some ⟨gx, 0, none⟩), iV op a b cc im] w fun e w' => e = .returned (.bool (opsB x s op a b im)) ∧ Below w.heap.size w w' := by
  have hw := w64_s16 hi
  obtain ⟨g1, hg1⟩ : ∃ g1, w.heap.size = g1 := ⟨_, rfl⟩
  have hM := (Mem.start w).new_ (iO op a b cc im) hg1
  have HG := Aside0.mk hg1
  have HAD := Aside0.mk (address_call (w := w.alloc (iO op a b cc im)) (gc := gc) (s := s) (by rw [hM.below.block gc (blk_lt hc)]; exact hc) hs op cc ha hb hi)
  have HM := Aside0.mk hM
  have hgx : gx < w.heap.size := blk_lt hx
  have y0 := blk_cell hM.get 0
  have y1 := blk_cell hM.get 1
  have y2 := blk_cell hM.get 2
  have y3 := blk_cell hM.get 3
  have y4 := blk_cell hM.get 4
  obtain ⟨a0, A1, A4, A6, A11, c1, c4, c6, c11, v5, v7, v8, v9, v10⟩ := p
  obtain ⟨codes, globals, sensors, outputs, chans, addr⟩ := x
  have hg0 : k96.C w A1 globals.length globals := hr.g
  obtain ⟨nG, hnG⟩ : ∃ n, globals.length = n := ⟨_, rfl⟩
  obtain ⟨nA, hnA⟩ : ∃ n, addr.length = n := ⟨_, rfl⟩
  dsimp only [XP.arr] at hx
  rw [hnG, hnA] at hx
  rw [hnG] at hg0
  have HX := Aside0.mk hx
  have HGL0 := Aside0.mk hg0
  have HD := Aside0.mk (fun W => cpu_dataAddress.calls (adrC s op a b im).1 (dataOk (adrC s op a b im).1) W (data_f _))
  have HO := Aside0.mk (show opsB ⟨codes, globals, sensors, outputs, chans, addr⟩ s op a b im = if (adrC s op a b im).2 = true then dataOk (adrC s op a b im).1
  else if op = 18 then decide (im < (nG : Int)) && (decide (im < (nA : Int)) && decide (1 ≤ (globals.getD im.toNat z96).f1))
  else if op = 23 then decide (im < sensors) else if op = 26 then decide (im < outputs) else if op = 24 then decide (im < (chans : Int)) else true by rw [← hnG, ← hnA]; rfl)
  have HI := Aside0.mk (show im.toNat = im.toNat from rfl)
  clear hc hs hx hr hi hg1 hM ha hb hg0 hnG hnA
  rw [HO.out]
  generalize hAA : adrC s op a b im = AA at *
  obtain ⟨ad, is⟩ := AA
  clear hAA HO
  go_enter Tryd.func28, Tryd.ntmps28
  go_wp2_with fail
  rw [HG.out]
  refine HAD.out.mono ?_
  rintro e w1 ⟨rfl, hb1⟩
  have HM1 := Aside0.mk (HM.out.step hb1)
  have hx1 := (below_step HM.out.below hb1).block gx hgx
  rw [HX.out] at hx1
  have HGL := Aside0.mk (Kd.C_below HGL0.out (below_step HM.out.below hb1))
  have z1 := blk_cell hx1 1
  have z2 := blk_cell hx1 2
  have z3 := blk_cell hx1 3
  have z4 := blk_cell hx1 4
  have z6 := blk_cell hx1 6
  have q0 := blk_cell HM1.out.get 0
  have q4 := blk_cell HM1.out.get 4
  clear hb1 hx1 y0 y1 y2 y3 y4 HX
  cases is with
  | true =>
    go_wp2_with fail
    refine (HD.out _).mono ?_
    rintro e w2 ⟨rfl, hd2⟩
    have HB := Aside0.mk (below_step HM1.out.below hd2.below)
    clear hd2
    go_wp2_with fail
    go_ret
    exact ⟨by simp, HB.out⟩
  | false =>
    simp only [Bool.false_eq_true, if_false]
    by_cases e18 : op = 18
    · subst e18
      obtain ⟨k, rfl⟩ := Int.eq_ofNat_of_zero_le (h18 rfl)
      clear h18
      by_cases t1 : k < nG
      · have d1 : decide (k < nG) = true := decide_eq_true t1
        have d1' : decide ((k : Int) < (nG : Int)) = true := decide_eq_true (by omega)
        obtain ⟨bg, og, rfl, r1⟩ := glob_cell HGL.out t1
        by_cases t2 : k < nA
        · have d2 : decide (k < nA) = true := decide_eq_true t2
          have d2' : decide ((k : Int) < (nA : Int)) = true := decide_eq_true (by omega)
          obtain ⟨gl, hgl⟩ : ∃ v, (globals.getD k z96).f1 = v := ⟨_, rfl⟩
          rw [hgl] at r1
          have HGV := Aside0.mk hgl
          clear hgl
          go_wp2_with fail
          go_ret
          exact ⟨by simp [t1, t2, ← HGV.out], HM1.out.below⟩
        · have d2 : decide (k < nA) = false := decide_eq_false t2
          have d2' : decide ((k : Int) < (nA : Int)) = false := decide_eq_false (by omega)
          go_wp2_with fail
          go_ret
          exact ⟨by simp [d1', d2', t1, t2], HM1.out.below⟩
      · have d1 : decide (k < nG) = false := decide_eq_false t1
        have d1' : decide ((k : Int) < (nG : Int)) = false := decide_eq_false (by omega)
        go_wp2_with fail
        go_ret
        exact ⟨by simp [d1', t1], HM1.out.below⟩
    clear h18
    by_cases e23 : op = 23
    · subst e23
      go_wp2_with fail
      go_ret
      exact ⟨by simp, HM1.out.below⟩
    by_cases e26 : op = 26
    · subst e26
      go_wp2_with fail
      go_ret
      exact ⟨by simp, HM1.out.below⟩
    by_cases e24 : op = 24
    · subst e24
      go_wp2_with fail
      go_ret
      exact ⟨by simp, HM1.out.below⟩
    have b18 : (op == 18) = false := beq_eq_false_iff_ne.2 e18
    have b23 : (op == 23) = false := beq_eq_false_iff_ne.2 e23
    have b26 : (op == 26) = false := beq_eq_false_iff_ne.2 e26
    have b24 : (op == 24) = false := beq_eq_false_iff_ne.2 e24
    go_wp2_with fail
    go_ret
    exact ⟨by simp [e18, e23, e26, e24], HM1.out.below⟩
end Go.Proofs.YtleafbihfmiidaaDoor.QAl
