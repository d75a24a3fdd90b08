/- scheduler.Jobs by hand: the image lies behind a pointer. -/
import Derived.Test.YtlklcfaejmeljaaQJbx4
import Derived.Test.YtlklcfaejmeljaaSl
namespace Go.Proofs.Ytlklcfaejmeljaa.QJb
open Go.RowKit Go.Proofs.YtlklcfaejmeljaaW.PrintWords Go.Proofs.YtlklcfaejmeljaaW.PrintLast Go.Proofs.YtlklcfaejmeljaaW.PrintMore Go.Proofs.Ytlklcfaejmeljaa.Sl
set_option linter.unusedVariables false
set_option linter.unusedSimpArgs false

theorem rdNat {xs : List Int} {k : Nat} : rd xs (k : Int) = xs.getD k 0 := by unfold rd; rw [Int.toNat_natCast]
theorem getD_ge {xs : List Int} {k : Nat} (h : xs.length ≤ k) : xs.getD k 0 = 0 := by
  rw [List.getD_eq_getElem?_getD, List.getElem?_eq_none h]; rfl
/-- An element, 0 outside. -/
def atW (l : List Int) (e : Int) : Int := if e < 0 then 0 else l.getD e.toNat 0
theorem at64_f (l : List Int) (j : Nat) : scheduler_at_int64.f l (j : Int) = some (l.getD j 0) := by
  unfold scheduler_at_int64.f
  rw [if_neg (by omega)]
  by_cases h : (j : Int) ≥ (l.length : Int)
  · rw [if_pos h, getD_ge (by omega)]
  · rw [if_neg h, if_pos (by omega), if_pos (by omega), rdNat]
theorem atI_f (l : List Int) (e : Int) : scheduler_at_int.f l e = some (atW l e) := by
  unfold scheduler_at_int.f atW
  by_cases h0 : e < 0
  · rw [if_pos h0, if_pos h0]
  · rw [if_neg h0, if_neg h0]
    by_cases h : e ≥ (l.length : Int)
    · rw [if_pos h, getD_ge (by omega)]
    · rw [if_neg h, if_pos (by omega), if_pos (by omega)]; rfl
theorem atN_f (l : List Int) (j : Nat) : scheduler_at_int.f l (j : Int) = some (l.getD j 0) := by
  rw [atI_f]; unfold atW; rw [if_neg (show ¬ (j : Int) < 0 by omega), Int.toNat_natCast]
/-- The deadline of a task's job. -/
def dlW (t : S49) (r : Int) : Int := if t.f2 = 0 then 1099511627776 else mn (wrap64 (r + t.f2)) 1099511627776
theorem deadline_f (t : S49) (r : Int) : scheduler_deadline.f t.f0 t.f1 t.f2 t.f3 t.f4 t.f5 t.f6 t.f7 r = some (dlW t r) := by
  unfold scheduler_deadline.f dlW
  split <;> rfl
/-- The energy of a task's first region. -/
def enW (entry energy : List Int) (j : Nat) : Int := if j < entry.length then atW energy (entry.getD j 0) else 0
def relW (ts : List S49) (rel since : List Int) (j : Nat) : Int := if (ts.getD j z49).f1 > 0 then rel.getD j 0 else since.getD j 0
def rlsW (ts : List S49) (rel wait : List Int) (lo : Int) (j : Nat) : Bool := if (ts.getD j z49).f1 > 0 then decide (rel.getD j 0 ≤ lo) else decide (1 ≤ wait.getD j 0)
/-- The job of task j, if it is released. -/
def jobW (ts : List S49) (rel wait since : List Int) (lo : Int) (entry energy : List Int) (j : Nat) : Option S54 :=
  if rlsW ts rel wait lo j = true then some ⟨(j : Int), relW ts rel since j, dlW (ts.getD j z49) (relW ts rel since j), enW entry energy j⟩ else none
def jobsW (ts : List S49) (rel wait since : List Int) (lo : Int) (entry energy : List Int) : Nat → List S54
  | 0 => []
  | j + 1 => jobsW ts rel wait since lo entry energy j ++ (jobW ts rel wait since lo entry energy j).toList
theorem jobsW_len (ts : List S49) (rel wait since : List Int) (lo : Int) (entry energy : List Int) : ∀ j, (jobsW ts rel wait since lo entry energy j).length ≤ j
  | 0 => Nat.le_refl _
  | j + 1 => by
    have := jobsW_len ts rel wait since lo entry energy j
    show (_ ++ _ : List S54).length ≤ _
    rw [List.length_append]
    have : (jobW ts rel wait since lo entry energy j).toList.length ≤ 1 := by cases jobW ts rel wait since lo entry energy j <;> simp
    omega
theorem due_f (a lo hi : Int) : timer_Due.f a lo hi = some (decide (a ≤ lo)) := rfl
/-- A task in memory. -/
theorem task_at {w : World} {A : Option Addr} {n : Nat} {l : List S49} (h : k49.C w A n l) {j : Nat} (hj : j < n) : ∃ b o B c, A = some ⟨b, o, none⟩ ∧
    w.cell? ⟨b, o + j * 8, none⟩ = some (.string (l.getD j z49).f0) ∧ w.cell? ⟨b, o + j * 8 + 1, none⟩ = some (.int .i64 (l.getD j z49).f1) ∧ w.cell? ⟨b, o + j * 8 + 2, none⟩ = some (.int .i64 (l.getD j z49).f2) ∧ w.cell? ⟨b, o + j * 8 + 3, none⟩ = some (.string (l.getD j z49).f3) ∧ w.cell? ⟨b, o + j * 8 + 4, none⟩ = some (.string (l.getD j z49).f4) ∧ w.cell? ⟨b, o + j * 8 + 5, none⟩ = some (.int .i64 (l.getD j z49).f5) ∧ w.cell? ⟨b, o + j * 8 + 6, none⟩ = some (.slice B (l.getD j z49).f6.length c) ∧ w.cell? ⟨b, o + j * 8 + 7, none⟩ = some (.int .i64 (l.getD j z49).f7) ∧ (l.getD j z49).f6.length ≤ c ∧ k120.C w B (l.getD j z49).f6.length (l.getD j z49).f6 := by
  obtain ⟨b, o, cs, rfl, _, hK, hc⟩ := C_at z49 (by decide) h j hj
  obtain ⟨B, c, rfl, hl, hC⟩ := k49_open hK
  have e : k49.sz = 8 := rfl
  rw [e] at hc
  exact ⟨b, o, B, c, rfl, hc 0 _ rfl, hc 1 _ rfl, hc 2 _ rfl, hc 3 _ rfl, hc 4 _ rfl, hc 5 _ rfl, hc 6 _ rfl, hc 7 _ rfl, hl, hC⟩
theorem int_at {w : World} {A : Option Addr} {l : List Int} (hC : Kd.C (Kd.int .i64) w A l.length l) {j : Nat} (hl : j < l.length) :
    ∃ b o, A = some ⟨b, o, none⟩ ∧ w.cell? ⟨b, o + j, none⟩ = some (.int .i64 (l.getD j 0)) := by
  obtain ⟨b, o, cs, rfl, _, hK, hc⟩ := C_at (0 : Int) (by decide) hC j hl
  have hK' : cs = [.int .i64 (l.getD j 0)] := hK
  have h0 := hc 0 (.int .i64 (l.getD j 0)) (by rw [hK']; rfl)
  have e : (Kd.int .i64).sz = 1 := rfl
  rw [e, Nat.mul_one] at h0
  exact ⟨b, o, rfl, h0⟩
/-- What Jobs reads. -/
structure Img (w : World) (gi : Nat) (ts : List S49) (entry energy rel wait since : List Int) (At Ae An Ar Aw As : Option Addr) (ct ce cn cr cw cs : Nat) : Prop where
  x5 : w.cell? ⟨gi, 5, none⟩ = some (.slice At ts.length ct)
  x7 : w.cell? ⟨gi, 7, none⟩ = some (.slice Ae entry.length ce)
  x9 : w.cell? ⟨gi, 9, none⟩ = some (.slice An energy.length cn)
  hT : k49.C w At ts.length ts
  hE : Kd.C (Kd.int .i64) w Ae entry.length entry
  lE : entry.length ≤ ce
  hN : Kd.C (Kd.int .i64) w An energy.length energy
  lN : energy.length ≤ cn
  hR : Kd.C (Kd.int .i64) w Ar rel.length rel
  lR : rel.length ≤ cr
  hW : Kd.C (Kd.int .i64) w Aw wait.length wait
  lW : wait.length ≤ cw
  hS : Kd.C (Kd.int .i64) w As since.length since
  lS : since.length ≤ cs
theorem Img.below {w w' : World} {gi : Nat} {ts : List S49} {entry energy rel wait since : List Int} {At Ae An Ar Aw As : Option Addr} {ct ce cn cr cw cs : Nat} (h : Img w gi ts entry energy rel wait since At Ae An Ar Aw As ct ce cn cr cw cs) (hb : Below w.heap.size w w') : Img w' gi ts entry energy rel wait since At Ae An Ar Aw As ct ce cn cr cw cs :=
  ⟨Kd.cell_heap hb.block h.x5, Kd.cell_heap hb.block h.x7, Kd.cell_heap hb.block h.x9, Kd.C_below h.hT hb, Kd.C_below h.hE hb, h.lE, Kd.C_below h.hN hb, h.lN, Kd.C_below h.hR hb, h.lR, Kd.C_below h.hW hb, h.lW, Kd.C_below h.hS hb, h.lS⟩
def CutRel (w : World) (ts : List S49) (rel wait since : List Int) (lo hi : Int) (entry energy : List Int) (gb gN : Nat) (t : S49) (c : Nat) (B : Option Addr) (v11 : Value) (j : Nat) (rl : Int) (rs : Bool) (v14 v15 : Value) (wx : World) : Prop :=
  v14 = .int .i64 rl ∧ v15 = .bool rs ∧ Mem w wx [ob gN (.cells #[.string t.f0, .int .i64 t.f1, .int .i64 t.f2, .string t.f3, .string t.f4, .int .i64 t.f5, .slice B t.f6.length c, .int .i64 t.f7] 49), row w k54 54 v11 (jobsW ts rel wait since lo entry energy j), blk gb #[.int .i64 lo, .int .i64 hi] 43]
def JbRel (w : World) (ts : List S49) (rel wait since : List Int) (lo hi : Int) (entry energy : List Int) (gb : Nat) (v22 v11 : Value) (wr : World) : Prop :=
  ∃ j : Nat, j ≤ ts.length ∧ v22 = .int .i64 (j : Int) ∧ Mem w wr [row w k54 54 v11 (jobsW ts rel wait since lo entry energy j), blk gb #[.int .i64 lo, .int .i64 hi] 43]
theorem meas {a q : Nat} {x : Int} (hx : x = ((q + 1 : Nat) : Int)) (h : q < a) : a - (intOf (.int .i64 x)).toNat < a - (intOf (.int .i64 (q : Int))).toNat := by
  subst hx
  simp [intOf]
  omega
set_option maxRecDepth 100000 in
set_option maxHeartbeats 8000000 in
theorem Jobs_call {w : World} {gi : Nat} {ts : List S49} {entry energy rel wait since : List Int} {At Ae An Ar Aw As : Option Addr} {ct ce cn cr cw cs : Nat} (lo hi : Int) (hts : ts.length ≤ 1000) (hI : Img w gi ts entry energy rel wait since At Ae An Ar Aw As ct ce cn cr cw cs) :
    Calls Try.prog 16 #[.pointer (some ⟨gi, 0, none⟩), .slice Ar rel.length cr, .slice Aw wait.length cw, .slice As since.length cs, .agg #[.int .i64 lo, .int .i64 hi]] w fun e w' => ∃ v, e = .returned v ∧ Kd.R k54 54 w' w.heap.size (fun _ => True) v (jobsW ts rel wait since lo entry energy ts.length) ∧ Below w.heap.size w w' := by
  have HI := Aside0.mk hI
  obtain ⟨gb, hgb⟩ : ∃ gb, gb = w.heap.size := ⟨_, rfl⟩
  have hM := ((Mem.start w).new_ (g := gb) (.cells #[.int .i64 lo, .int .i64 hi] 43) hgb.symm).row_nil k54 54
  have x5 := (hI.below hM.below).x5
  have HM := Aside0.mk hM
  clear hM hI
  go_enter Try.func16, Try.ntmps16
  go_wp2_with fail
  rw [← hgb]
  clear hgb
  go_loopw [22, 11] (fun v22 v11 wr => JbRel w ts rel wait since lo hi entry energy gb v22 v11 wr) (fun i _ _ => ts.length - (intOf i).toNat)
  case atStart => exact ⟨0, Nat.zero_le _, rfl, HM.out⟩
  case round =>
    obtain ⟨j, hj, rfl, hM⟩ := hrel
    clear HM x5
    by_cases hlt : j < ts.length
    case neg =>
      obtain rfl : j = ts.length := by omega
      have HM := Aside0.mk hM
      clear hM
      go_wp2_with fail
      go_ret
      obtain ⟨hb, T, h1, _⟩ := HM.out
      exact ⟨_, rfl, Kd.R_mono h1 (fun _ _ => trivial), hb⟩
    have hIw := HI.out.below hM.below
    obtain ⟨b, o, B, c, rfl, x0, x1, x2, x3, x4, x5, x6, x7, hB, hC⟩ := task_at HI.out.hT hlt
    have hbk := hM.below.block
    have y0 := Kd.cell_heap hbk x0
    have y1 := Kd.cell_heap hbk x1
    have y2 := Kd.cell_heap hbk x2
    have y3 := Kd.cell_heap hbk x3
    have y4 := Kd.cell_heap hbk x4
    have y5 := Kd.cell_heap hbk x5
    have y6 := Kd.cell_heap hbk x6
    have y7 := Kd.cell_heap hbk x7
    clear x0 x1 x2 x3 x4 x5 x6 x7 hbk
    have hlen := jobsW_len ts rel wait since lo entry energy j
    have HLEN := Aside0.mk hlen
    have hJ : jobsW ts rel wait since lo entry energy (j + 1) = jobsW ts rel wait since lo entry energy j ++ (jobW ts rel wait since lo entry energy j).toList := rfl
    have HJ := Aside0.mk hJ
    clear hJ
    have hREL : relW ts rel since j = if (ts.getD j z49).f1 > 0 then rel.getD j 0 else since.getD j 0 := rfl
    have hRLS : rlsW ts rel wait lo j = if (ts.getD j z49).f1 > 0 then decide (rel.getD j 0 ≤ lo) else decide (1 ≤ wait.getD j 0) := rfl
    have hJW : jobW ts rel wait since lo entry energy j = if rlsW ts rel wait lo j = true then some ⟨(j : Int), relW ts rel since j, dlW (ts.getD j z49) (relW ts rel since j), enW entry energy j⟩ else none := rfl
    have a1 := at64_f rel j
    have a2 := at64_f since j
    have a3 := atN_f wait j
    generalize rel.getD j 0 = r1 at *
    generalize since.getD j 0 = r2 at *
    generalize wait.getD j 0 = r3 at *
    have A1 := Aside0.mk a1
    have A2 := Aside0.mk a2
    have A3 := Aside0.mk a3
    clear a1 a2 a3
    have HREL := Aside0.mk hREL
    clear hREL
    have HRLS := Aside0.mk hRLS
    clear hRLS
    have HJW := Aside0.mk hJW
    clear hJW
    generalize jobW ts rel wait since lo entry energy j = jw at *
    generalize relW ts rel since j = rl at *
    generalize rlsW ts rel wait lo j = rs at *
    generalize ts.getD j z49 = t at *
    have hM1 := hM.new (.cells #[.string t.f0, .int .i64 t.f1, .int .i64 t.f2, .string t.f3, .string t.f4, .int .i64 t.f5, .slice B t.f6.length c, .int .i64 t.f7] 49)
    have z1 := blk_cell hM1.get 1
    have g0 := blk_cell hM1.c2.get 0
    have g1 := blk_cell hM1.c2.get 1
    have HM1 := Aside0.mk hM1
    have HB := Aside0.mk (And.intro hB hC)
    have HW := Aside0.mk (show wrap64 ((j : Int) + 1) = ((j + 1 : Nat) : Int) by clear hlen HLEN; unfold wrap64; omega)
    have HI1 := Aside0.mk (HI.out.below hM1.below)
    generalize hgN : wr.heap.size = gN at *
    clear hM hM1 hIw hlen hB hC
    go_upto_if 32 with (go_at_call 31
                        refine (scheduler_at_int64.calls Ar cr rel (j : Int) r1 _ HI1.out.hR HI1.out.lR A1.out).mono ?_
                        rintro e w2 ⟨rfl, ⟨nd, rfl⟩⟩)
    go_cut [14, 15] (fun v14 v15 wx => CutRel w ts rel wait since lo hi entry energy gb gN t c B u11 j rl rs v14 v15 wx)
    case first =>
      have HI2 := Aside0.mk (fun n => HI.out.below (HM1.out.drewN n).below)
      go_wp2_with (first
        | (go_at_call 32
           refine (timer_Due.calls r1 lo hi _ _ (due_f _ _ _)).mono ?_
           rintro e w3 ⟨rfl, hb⟩
           have HM2 := Aside0.mk ((HM1.out.drewN nd).step hb)
           clear hb)
        | (go_at_call 31
           refine (scheduler_at_int64.calls As cs since (j : Int) r2 _ (HI2.out _).hS (HI2.out 0).lS A2.out).mono ?_
           rintro e w2 ⟨rfl, ⟨nd2, rfl⟩⟩)
        | (go_at_call 33
           refine (scheduler_at_int.calls Aw cw wait (j : Int) r3 _ (HI2.out _).hW (HI2.out 0).lW A3.out).mono ?_
           rintro e w2 ⟨rfl, ⟨nd3, rfl⟩⟩))
      · have hp : 0 < t.f1 := by assumption
        go_meet
        exact ⟨by rw [HREL.out, if_pos hp], by rw [HRLS.out, if_pos hp], HM2.out⟩
      · have hp : ¬ 0 < t.f1 := by first | assumption | omega
        go_meet
        exact ⟨by rw [HREL.out, if_neg hp], by rw [HRLS.out, if_neg hp], HM1.out.drewN _⟩
    case rest =>
      obtain ⟨rfl, rfl, hM⟩ := hcut
      clear HM1 HI1 HREL HRLS z1 g0 g1 y0 y1 y2 y3 y4 y5 y6 y7
      have HI1 := Aside0.mk (HI.out.below hM.below)
      have HM1 := Aside0.mk hM
      by_cases hrs : rs = true
      case neg =>
        obtain rfl : rs = false := by simpa using hrs
        have HQ := Aside0.mk (show jw = none by rw [HJW.out, if_neg (by decide)])
        clear hM hrs
        go_wp2_with fail
        first
          | rw [HW.out]
          | skip
        exact ⟨⟨j + 1, by omega, by go_num, by rw [HJ.out, HQ.out]; simpa using HM1.out.drop⟩, by simp [intOf]; omega⟩
      subst hrs
      have HQ := Aside0.mk (HJW.out.trans (if_pos rfl))
      have x7 := HI1.out.x7
      have x9 := HI1.out.x9
      have hb := hM.get
      have t0 := blk_cell hb 0
      have t1 := blk_cell hb 1
      have t2 := blk_cell hb 2
      have t3 := blk_cell hb 3
      have t4 := blk_cell hb 4
      have t5 := blk_cell hb 5
      have t6 := blk_cell hb 6
      have t7 := blk_cell hb 7
      by_cases he : j < entry.length
      · have c1 : decide ((j : Int) < (entry.length : Int)) = true := decide_eq_true (by omega)
        have c2 : decide (j < entry.length) = true := decide_eq_true he
        have hen : enW entry energy j = atW energy (entry.getD j 0) := by unfold enW; rw [if_pos he]
        obtain ⟨be, oe, rfl, z0⟩ := int_at HI1.out.hE he
        have b1 : (0 : Int) ≤ (j : Int) := by omega
        have b2 : (j : Int) < (entry.length : Int) := by omega
        have ae := atI_f energy (entry.getD j 0)
        generalize entry.getD j 0 = en at *
        have HEN := Aside0.mk hen
        have AE := Aside0.mk ae
        clear hM hb he hen ae
        go_wp2_with fail
        go_region_held3 (fun W => W.cell? ⟨gi, 9, none⟩ = some (.slice An energy.length cn) ∧ W.cell? ⟨gi, 7, none⟩ = some (.slice (some ⟨be, oe, none⟩) entry.length ce) ∧ W.cell? ⟨be, oe + j, none⟩ = some (.int .i64 en))
          (first
            | exact ⟨x9, x7, z0⟩
            | (go_split_ands; refine ⟨?_, ?_, ?_⟩ <;> assumption))
          (first
            | (go_at_call 33
               refine (scheduler_at_int.calls An cn energy en (atW energy en) _ (Kd.C_drew HI1.out.hN) HI1.out.lN AE.out).mono ?_
               rintro e w2 ⟨rfl, ⟨nd, rfl⟩⟩))
        go_wp2_with (first
          | (go_at_call 34
             refine (scheduler_deadline.calls t.f0 t.f1 t.f2 t.f3 t.f4 t.f5 B c t.f6 t.f7 rl (dlW t rl) _ ((HM1.out.drewN _).came HB.out.2) HB.out.1 (deadline_f t rl)).mono ?_
             rintro e w3 ⟨rfl, hb⟩
             have HM2 := Aside0.mk (Mem.step (HM1.out.drewN _) hb)
             clear hb)
          | ((with_reducible refine gate_builtin (b := .append) (xs := #[.tmp 64, .tmp 72]) rfl ?_); at_builtin
             refine Mem.wp_append k54 (w0 := w) rfl (.tmp 64) (.tmp 72) 26 54 (.agg #[.int .i64 0, .int .i64 0, .int .i64 0, .int .i64 0]) 32 rfl Try.underlying26 info54 rfl (by decide) (by omega) u11 (jobsW ts rel wait since lo entry energy j) (⟨(j : Int), rl, dlW t rl, atW energy en⟩ : S54) [.int .i64 (j : Int), .int .i64 rl, .int .i64 (dlW t rl), .int .i64 (atW energy en)] rfl _ rfl (by simp) (k54_mkM _ _ _ (⟨(j : Int), rl, dlW t rl, atW energy en⟩ : S54)) HM2.out.p1 (by have := HLEN.out; omega) ?_
             intro v1 w4 hm
             have HM3 := Aside0.mk hm
             clear hm))
        first
          | rw [HW.out]
          | skip
        exact ⟨⟨j + 1, by omega, by go_num, by rw [HJ.out, HQ.out, HEN.out]; exact HM3.out.p1.drop⟩, by simp [intOf]; omega⟩
      · have c1 : decide ((j : Int) < (entry.length : Int)) = false := decide_eq_false (by omega)
        have c2 : decide (j < entry.length) = false := decide_eq_false he
        have hen : enW entry energy j = 0 := by unfold enW; rw [if_neg he]
        have HEN := Aside0.mk hen
        clear hM hb he hen
        go_wp2_with (first
          | (go_at_call 34
             refine (scheduler_deadline.calls t.f0 t.f1 t.f2 t.f3 t.f4 t.f5 B c t.f6 t.f7 rl (dlW t rl) _ (HM1.out.came HB.out.2) HB.out.1 (deadline_f t rl)).mono ?_
             rintro e w3 ⟨rfl, hb⟩
             have HM2 := Aside0.mk (Mem.step HM1.out hb)
             clear hb)
          | ((with_reducible refine gate_builtin (b := .append) (xs := #[.tmp 64, .tmp 72]) rfl ?_); at_builtin
             refine Mem.wp_append k54 (w0 := w) rfl (.tmp 64) (.tmp 72) 26 54 (.agg #[.int .i64 0, .int .i64 0, .int .i64 0, .int .i64 0]) 32 rfl Try.underlying26 info54 rfl (by decide) (by omega) u11 (jobsW ts rel wait since lo entry energy j) (⟨(j : Int), rl, dlW t rl, 0⟩ : S54) [.int .i64 (j : Int), .int .i64 rl, .int .i64 (dlW t rl), .int .i64 (0)] rfl _ rfl (by simp) (k54_mkM _ _ _ (⟨(j : Int), rl, dlW t rl, 0⟩ : S54)) HM2.out.p1 (by have := HLEN.out; omega) ?_
             intro v1 w4 hm
             have HM3 := Aside0.mk hm
             clear hm))
        first
          | rw [HW.out]
          | skip
        exact ⟨⟨j + 1, by omega, by go_num, by rw [HJ.out, HQ.out, HEN.out]; exact HM3.out.p1.drop⟩, by simp [intOf]; omega⟩
end Go.Proofs.Ytlklcfaejmeljaa.QJb
