/- trickleref40.Jobs by hand. -/
import Derived.Test.YtlklcfaejmeljaaJbA
import Derived.Test.YtlklcfaejmeljaaQJbx5
namespace Go.Proofs.Ytlklcfaejmeljaa.QJb
open Go.RowKit Go.Proofs.YtlklcfaejmeljaaW.PrintWords Go.Proofs.YtlklcfaejmeljaaW.PrintLast Go.Proofs.YtlklcfaejmeljaaW.PrintMore Go.Proofs.Ytlklcfaejmeljaa.Sl
set_option linter.unusedVariables false
set_option linter.unusedSimpArgs false

/-- Where an image's rows lie. -/
structure ImA where
  a1 : Option Addr
  a4 : Option Addr
  a5 : Option Addr
  a6 : Option Addr
  a7 : Option Addr
  a8 : Option Addr
  a9 : Option Addr
  a10 : Option Addr
  a11 : Option Addr
  c1 : Nat
  c4 : Nat
  c5 : Nat
  c6 : Nat
  c7 : Nat
  c8 : Nat
  c9 : Nat
  c10 : Nat
  c11 : Nat
/-- An image that can be read. -/
structure Im (w : World) (x : S40) (a : ImA) : Prop where
  l1 : x.f1.length ≤ a.c1
  g1 : Kd.C k113 w a.a1 x.f1.length x.f1
  l4 : x.f4.length ≤ a.c4
  g4 : Kd.C (Kd.int .i64) w a.a4 x.f4.length x.f4
  l5 : x.f5.length ≤ a.c5
  g5 : Kd.C k49 w a.a5 x.f5.length x.f5
  l6 : x.f6.length ≤ a.c6
  g6 : Kd.C (Kd.int .i64) w a.a6 x.f6.length x.f6
  l7 : x.f7.length ≤ a.c7
  g7 : Kd.C (Kd.int .i64) w a.a7 x.f7.length x.f7
  l8 : x.f8.length ≤ a.c8
  g8 : Kd.C k115 w a.a8 x.f8.length x.f8
  l9 : x.f9.length ≤ a.c9
  g9 : Kd.C (Kd.int .i64) w a.a9 x.f9.length x.f9
  l10 : x.f10.length ≤ a.c10
  g10 : Kd.C (Kd.int .i64) w a.a10 x.f10.length x.f10
  l11 : x.f11.length ≤ a.c11
  g11 : Kd.C k117 w a.a11 x.f11.length x.f11
theorem Im.below {w w' : World} {x : S40} {a : ImA} (h : Im w x a) (hb : Below w.heap.size w w') : Im w' x a :=
  ⟨h.l1, Kd.C_below h.g1 hb, h.l4, Kd.C_below h.g4 hb, h.l5, Kd.C_below h.g5 hb, h.l6, Kd.C_below h.g6 hb, h.l7, Kd.C_below h.g7 hb, h.l8, Kd.C_below h.g8 hb, h.l9, Kd.C_below h.g9 hb, h.l10, Kd.C_below h.g10 hb, h.l11, Kd.C_below h.g11 hb⟩
theorem energy_f (x : S40) (j : Nat) : trickleref40_energy.f x.f0 x.f1 x.f2 x.f3 x.f4 x.f5 x.f6 x.f7 x.f8 x.f9 x.f10 x.f11 (j : Int) = some (enW x.f7 x.f9 j) := by
  unfold trickleref40_energy.f enW atW
  by_cases h : j < x.f7.length
  · rw [if_neg (by omega), if_pos (by omega), if_pos (by omega), if_pos h, rdNat]
    generalize x.f7.getD j 0 = e
    by_cases h0 : e < 0
    · rw [if_pos h0, if_pos h0]
    · rw [if_neg h0, if_neg h0]
      by_cases h1 : e ≥ (x.f9.length : Int)
      · rw [if_pos h1, getD_ge (by omega)]
      · rw [if_neg h1, if_pos (by omega), if_pos (by omega)]; rfl
  · rw [if_pos (by omega), if_neg h]
theorem energy_call {W : World} {x : S40} {a : ImA} (h : Im W x a) (j : Nat) :
    Calls Try.prog 35 #[.agg #[.int .i64 x.f0, .slice a.a1 x.f1.length a.c1, .int .i64 x.f2, .int .i64 x.f3, .slice a.a4 x.f4.length a.c4, .slice a.a5 x.f5.length a.c5, .slice a.a6 x.f6.length a.c6, .slice a.a7 x.f7.length a.c7, .slice a.a8 x.f8.length a.c8, .slice a.a9 x.f9.length a.c9, .slice a.a10 x.f10.length a.c10, .slice a.a11 x.f11.length a.c11], .int .i64 (j : Int)] W fun e w' => e = .returned (.int .i64 (enW x.f7 x.f9 j)) ∧ Below W.heap.size W w' :=
  trickleref40_energy.calls x.f0 a.a1 a.c1 x.f1 x.f2 x.f3 a.a4 a.c4 x.f4 a.a5 a.c5 x.f5 a.a6 a.c6 x.f6 a.a7 a.c7 x.f7 a.a8 a.c8 x.f8 a.a9 a.c9 x.f9 a.a10 a.c10 x.f10 a.a11 a.c11 x.f11 (j : Int) _ W h.g1 h.l1 h.g4 h.l4 h.g5 h.l5 h.g6 h.l6 h.g7 h.l7 h.g8 h.l8 h.g9 h.l9 h.g10 h.l10 h.g11 h.l11 (energy_f x j)
theorem ref_at_f (l : List Int) (j : Nat) : trickleref40_at.f l (j : Int) = some (l.getD j 0) := by
  unfold trickleref40_at.f
  by_cases h : (j : Int) < (l.length : Int)
  · rw [if_pos h, if_pos (by omega), rdNat]
  · rw [if_neg h, getD_ge (by omega)]
theorem ref_due_f (a lo hi : Int) : trickleref39_Due.f a lo hi = some (decide (a ≤ lo)) := rfl
theorem info58' : (Try.prog.info? 58).map (fun i => (i.zero, i.size, i.bytes)) = some (some (.agg #[.int .i64 0, .int .i64 0, .int .i64 0, .int .i64 0]), 4, 32) := by kernel_rfl
def bk (x : S54) : S58 := ⟨x.f0, x.f1, x.f2, x.f3⟩
def RjRel (w : World) (x : S40) (rel wait since : List Int) (lo hi : Int) (gi gb : Nat) (a : ImA) (v18 v11 : Value) (wr : World) : Prop :=
  ∃ j : Nat, j ≤ x.f5.length ∧ v18 = .int .i64 (j : Int) ∧ Mem w wr [row w k58 58 v11 ((jobsW x.f5 rel wait since lo x.f7 x.f9 j).map bk), blk gi #[.int .i64 x.f0, .slice a.a1 x.f1.length a.c1, .int .i64 x.f2, .int .i64 x.f3, .slice a.a4 x.f4.length a.c4, .slice a.a5 x.f5.length a.c5, .slice a.a6 x.f6.length a.c6, .slice a.a7 x.f7.length a.c7, .slice a.a8 x.f8.length a.c8, .slice a.a9 x.f9.length a.c9, .slice a.a10 x.f10.length a.c10, .slice a.a11 x.f11.length a.c11] 40, blk gb #[.int .i64 lo, .int .i64 hi] 43]
theorem step_some {l l' : List S54} {jw : Option S54} (h : l' = l ++ jw.toList) {p : S54} (hq : jw = some p) : l'.map bk = l.map bk ++ [bk p] := by rw [h, hq, List.map_append]; rfl
theorem step_none {l l' : List S54} {jw : Option S54} (h : l' = l ++ jw.toList) (hq : jw = none) : l'.map bk = l.map bk := by rw [h, hq]; simp
/-- What other slices Jobs reads. -/
structure Oth (w : World) (rel wait since : List Int) (Ar Aw As : Option Addr) (cr cw cs : Nat) : Prop where
  hR : Kd.C (Kd.int .i64) w Ar rel.length rel
  lR : rel.length ≤ cr
  hW : Kd.C (Kd.int .i64) w Aw wait.length wait
  lW : wait.length ≤ cw
  hS : Kd.C (Kd.int .i64) w As since.length since
  lS : since.length ≤ cs
theorem Oth.below {w w' : World} {rel wait since : List Int} {Ar Aw As : Option Addr} {cr cw cs : Nat} (h : Oth w rel wait since Ar Aw As cr cw cs) (hb : Below w.heap.size w w') : Oth w' rel wait since Ar Aw As cr cw cs :=
  ⟨Kd.C_below h.hR hb, h.lR, Kd.C_below h.hW hb, h.lW, Kd.C_below h.hS hb, h.lS⟩
set_option maxRecDepth 100000 in
set_option maxHeartbeats 8000000 in
theorem RefJobs_call {w : World} {x : S40} {a : ImA} {rel wait since : List Int} {Ar Aw As : Option Addr} {cr cw cs : Nat} (lo hi : Int) (hts : x.f5.length ≤ 1000) (hI : Im w x a) (hO : Oth w rel wait since Ar Aw As cr cw cs) :
    Calls Try.prog 17 #[.agg #[.int .i64 x.f0, .slice a.a1 x.f1.length a.c1, .int .i64 x.f2, .int .i64 x.f3, .slice a.a4 x.f4.length a.c4, .slice a.a5 x.f5.length a.c5, .slice a.a6 x.f6.length a.c6, .slice a.a7 x.f7.length a.c7, .slice a.a8 x.f8.length a.c8, .slice a.a9 x.f9.length a.c9, .slice a.a10 x.f10.length a.c10, .slice a.a11 x.f11.length a.c11], .slice Ar rel.length cr, .slice Aw wait.length cw, .slice As since.length cs, .agg #[.int .i64 lo, .int .i64 hi]] w fun e w' => ∃ v, e = .returned v ∧ Kd.R k58 58 w' w.heap.size (fun _ => True) v ((jobsW x.f5 rel wait since lo x.f7 x.f9 x.f5.length).map bk) ∧ Below w.heap.size w w' := by
  have HI := Aside0.mk hI
  have HO := Aside0.mk hO
  obtain ⟨gi, hgi⟩ : ∃ gi, gi = w.heap.size := ⟨_, rfl⟩
  have hM := (((Mem.start w).new_ (g := gi) (.cells #[.int .i64 x.f0, .slice a.a1 x.f1.length a.c1, .int .i64 x.f2, .int .i64 x.f3, .slice a.a4 x.f4.length a.c4, .slice a.a5 x.f5.length a.c5, .slice a.a6 x.f6.length a.c6, .slice a.a7 x.f7.length a.c7, .slice a.a8 x.f8.length a.c8, .slice a.a9 x.f9.length a.c9, .slice a.a10 x.f10.length a.c10, .slice a.a11 x.f11.length a.c11] 40) hgi.symm).new_ (g := gi + 1) (.cells #[.int .i64 lo, .int .i64 hi] 43) (by rw [hgi]; simp)).p1.row_nil k58 58
  have HM := Aside0.mk hM
  have x5 := blk_cell hM.drop.get 5
  obtain ⟨A5, hA5⟩ : ∃ A, A = a.a5 := ⟨_, rfl⟩
  rw [← hA5] at x5 ⊢
  have HA5 := Aside0.mk hA5
  clear hA5
  clear hM hI hO
  go_enter Try.func17, Try.ntmps17
  go_wp2_with fail
  rw [← hgi]
  clear hgi
  obtain ⟨gb, hgb⟩ : ∃ gb, gb = gi + 1 := ⟨_, rfl⟩
  rw [← hgb] at HM ⊢
  clear hgb
  go_loopw [18, 11] (fun v18 v11 wr => RjRel w x rel wait since lo hi gi gb a v18 v11 wr) (fun i _ _ => x.f5.length - (intOf i).toNat)
  case atStart => cases HA5.out; exact ⟨0, Nat.zero_le _, rfl, HM.out⟩
  case round =>
    obtain ⟨j, hj, rfl, hM⟩ := hrel
    clear HM x5
    by_cases hlt : j < x.f5.length
    case neg =>
      obtain rfl : j = x.f5.length := by omega
      have HM := Aside0.mk hM
      clear hM
      go_wp2_with fail
      go_ret
      obtain ⟨hb, T, h1, _⟩ := HM.out
      exact ⟨_, rfl, Kd.R_mono h1 (fun _ _ => trivial), hb⟩
    obtain ⟨b, o, B, c, hA, x0, x1, x2, x3, x4, x5, x6, x7, hB, hC⟩ := task_at HI.out.g5 hlt
    obtain rfl : A5 = some ⟨b, o, none⟩ := HA5.out.trans hA
    clear HA5
    have hbk := hM.below.block
    have y0 := Kd.cell_heap hbk x0
    have y1 := Kd.cell_heap hbk x1
    have y2 := Kd.cell_heap hbk x2
    have y3 := Kd.cell_heap hbk x3
    have y4 := Kd.cell_heap hbk x4
    have y5 := Kd.cell_heap hbk x5
    have y6 := Kd.cell_heap hbk x6
    have y7 := Kd.cell_heap hbk x7
    clear x0 x1 x2 x3 x4 x5 x6 x7 hbk hB hC
    have hlen := jobsW_len x.f5 rel wait since lo x.f7 x.f9 j
    have HLEN := Aside0.mk hlen
    have hJ : jobsW x.f5 rel wait since lo x.f7 x.f9 (j + 1) = jobsW x.f5 rel wait since lo x.f7 x.f9 j ++ (jobW x.f5 rel wait since lo x.f7 x.f9 j).toList := rfl
    have HJ := Aside0.mk hJ
    have hREL : relW x.f5 rel since j = if (x.f5.getD j z49).f1 > 0 then rel.getD j 0 else since.getD j 0 := rfl
    have hRLS : rlsW x.f5 rel wait lo j = if (x.f5.getD j z49).f1 > 0 then decide (rel.getD j 0 ≤ lo) else decide (1 ≤ wait.getD j 0) := rfl
    have hJW : jobW x.f5 rel wait since lo x.f7 x.f9 j = if rlsW x.f5 rel wait lo j = true then some ⟨(j : Int), relW x.f5 rel since j, dlW (x.f5.getD j z49) (relW x.f5 rel since j), enW x.f7 x.f9 j⟩ else none := rfl
    have HW := Aside0.mk (show wrap64 ((j : Int) + 1) = ((j + 1 : Nat) : Int) by clear hlen HLEN hJ HJ hREL hRLS hJW; unfold wrap64; omega)
    generalize jobW x.f5 rel wait since lo x.f7 x.f9 j = jw at *
    generalize relW x.f5 rel since j = rl at *
    generalize rlsW x.f5 rel wait lo j = rs at *
    generalize x.f5.getD j z49 = t at *
    have hM1 := hM.new (.cells #[.string t.f0, .int .i64 t.f1, .int .i64 t.f2, .string t.f3, .string t.f4, .int .i64 t.f5, .slice B t.f6.length c, .int .i64 t.f7] 49)
    have hHI1 := HI.out.below hM1.below
    have key := energy_call hHI1 j
    generalize enW x.f7 x.f9 j = en at *
    have a1 := ref_at_f rel j
    have a2 := ref_at_f since j
    have hw3 : j < wait.length ∨ wait.getD j 0 = 0 := by
      by_cases h : j < wait.length
      · exact .inl h
      · exact .inr (getD_ge (by omega))
    generalize rel.getD j 0 = r1 at *
    generalize since.getD j 0 = r2 at *
    have A1 := Aside0.mk a1
    have A2 := Aside0.mk a2
    have HREL := Aside0.mk hREL
    have HRLS := Aside0.mk hRLS
    have HJW := Aside0.mk hJW
    have HM1 := Aside0.mk hM1
    have HW3 := Aside0.mk hw3
    have hub := hM1.drop.drop
    have z0 := blk_cell hub.get 0
    have z1 := blk_cell hub.get 1
    have z2 := blk_cell hub.get 2
    have z3 := blk_cell hub.get 3
    have z4 := blk_cell hub.get 4
    have z5 := blk_cell hub.get 5
    have z6 := blk_cell hub.get 6
    have z7 := blk_cell hub.get 7
    have z8 := blk_cell hub.get 8
    have z9 := blk_cell hub.get 9
    have z10 := blk_cell hub.get 10
    have z11 := blk_cell hub.get 11
    rw [hA] at key z5
    clear hA
    have KEY := Aside0.mk key
    generalize hgN : wr.heap.size = gN at *
    clear hM hlen hJ a1 a2 hw3 hREL hRLS hJW hM1 hHI1 key hub
    go_wp2_with fail
    refine KEY.out.mono ?_
    rintro e w2 ⟨rfl, hb⟩
    have hM2 := (HM1.out.step hb).new (.cells #[.int .i64 (j : Int), .int .i64 0, .int .i64 1099511627776, .int .i64 en] 58)
    have p1 := blk_cell hM2.drop.get 1
    have p2 := blk_cell hM2.drop.get 2
    have q0 := blk_cell hM2.c4.get 0
    have q1 := blk_cell hM2.c4.get 1
    have s0 := blk_cell hM2.get 0
    have s1 := blk_cell hM2.get 1
    have s2 := blk_cell hM2.get 2
    have s3 := blk_cell hM2.get 3
    have f1 := blk_frozen hM2.get 1
    have f2 := blk_frozen hM2.get 2
    have ne1 : w2.heap.size ≠ gb := fun e => hM2.c4.ne e.symm
    have ne2 : w2.heap.size ≠ gN := hM2.ne
    have ne3 : gb ≠ w2.heap.size := hM2.c4.ne
    have ne4 : gN ≠ w2.heap.size := fun e => hM2.ne e.symm
    have HM2 := Aside0.mk hM2
    have HO2 := Aside0.mk (HO.out.below hM2.below)
    generalize hgJ : w2.heap.size = gJ at *
    clear hM2 hb y0 y1 y2 y3 y4 y5 y6 y7 z0 z1 z2 z3 z4 z5 z6 z7 z8 z9 z10 z11
    by_cases hp : 0 < t.f1
    · have c1 : decide (0 < t.f1) = true := decide_eq_true hp
      have E1 := Aside0.mk (HREL.out.trans (if_pos hp))
      have E2 := Aside0.mk (HRLS.out.trans (if_pos hp))
      clear hp HREL HRLS
      by_cases hd : r1 ≤ lo
      · have c2 : decide (r1 ≤ lo) = true := decide_eq_true hd
        have HQ := Aside0.mk (HJW.out.trans (if_pos (E2.out.trans c2)))
        clear hd
        by_cases h2 : t.f2 = 0
        · have d2 : (t.f2 != 0) = false := by simp [h2]
          have HD := Aside0.mk (show dlW t r1 = 1099511627776 by unfold dlW; rw [if_pos h2])
          clear h2
          go_wp2_with (first
            | (go_at_call 36
               refine (trickleref40_at.calls Ar cr rel (j : Int) r1 _ HO2.out.hR HO2.out.lR A1.out).mono ?_
               rintro e w3 ⟨rfl, ⟨nd, rfl⟩⟩)
            | (go_at_call 37
               refine (trickleref39_Due.calls r1 lo hi _ _ (ref_due_f _ _ _)).mono ?_
               rintro e w3 ⟨rfl, hb3⟩
               have hM3 := ((HM2.out.drewN nd).put (cs' := #[.int .i64 (j : Int), .int .i64 r1, .int .i64 1099511627776, .int .i64 en]) 1 (.int .i64 r1) rfl).step hb3
               have s0 := blk_cell hM3.get 0
               have s1 := blk_cell hM3.get 1
               have s2 := blk_cell hM3.get 2
               have s3 := blk_cell hM3.get 3
               have f1 := blk_frozen hM3.get 1
               have f2 := blk_frozen hM3.get 2
               have p2 := blk_cell hM3.drop.get 2
               have HM3 := Aside0.mk hM3
               clear hM3
               clear hb3)
            | ((with_reducible refine gate_builtin (b := .append) (xs := #[.tmp 65, .tmp 67]) rfl ?_); at_builtin
               refine Mem.wp_append k58 (w0 := w) rfl (.tmp 65) (.tmp 67) 22 58 (.agg #[.int .i64 0, .int .i64 0, .int .i64 0, .int .i64 0]) 32 rfl Try.underlying22 info58' rfl (by decide) (by omega) u11 ((jobsW x.f5 rel wait since lo x.f7 x.f9 j).map bk) (⟨(j : Int), r1, 1099511627776, en⟩ : S58) [.int .i64 (j : Int), .int .i64 r1, .int .i64 (1099511627776), .int .i64 en] rfl _ rfl (by first | (simp; done) | simp [hgJ]) (k58_mkM _ _ _ (⟨(j : Int), r1, 1099511627776, en⟩ : S58)) HM3.out.p2 (by have := HLEN.out; rw [List.length_map]; omega) ?_
               intro v1 w4 hm
               have HM4 := Aside0.mk hm
               clear hm))
          go_roundw
          case rel => exact ⟨j + 1, by omega, by first | rw [HW.out] | (congr 1) | go_num, by rw [step_some HJ.out (p := ⟨(j : Int), r1, 1099511627776, en⟩) (HQ.out.trans (by rw [E1.out, HD.out]))]; exact HM4.out.p1.drop.p1.drop⟩
          case measure => exact meas (show ((j : Int) + 1) = ((j + 1 : Nat) : Int) by omega) hlt
        · have d2 : (t.f2 != 0) = true := by simp [h2]
          obtain ⟨dl, hdl⟩ : ∃ d, mn (wrap64 (r1 + t.f2)) 1099511627776 = d := ⟨_, rfl⟩
          have HD := Aside0.mk (show dlW t r1 = dl by unfold dlW; rw [if_neg h2, hdl])
          have hdl_ : (if 1099511627776 < wrap64 (r1 + t.f2) then 1099511627776 else wrap64 (r1 + t.f2)) = dl := hdl
          clear h2 hdl
          go_wp2_with (first
            | (go_at_call 36
               refine (trickleref40_at.calls Ar cr rel (j : Int) r1 _ HO2.out.hR HO2.out.lR A1.out).mono ?_
               rintro e w3 ⟨rfl, ⟨nd, rfl⟩⟩)
            | (go_at_call 37
               refine (trickleref39_Due.calls r1 lo hi _ _ (ref_due_f _ _ _)).mono ?_
               rintro e w3 ⟨rfl, hb3⟩
               have hM3 := ((HM2.out.drewN nd).put (cs' := #[.int .i64 (j : Int), .int .i64 r1, .int .i64 1099511627776, .int .i64 en]) 1 (.int .i64 r1) rfl).step hb3
               have s0 := blk_cell hM3.get 0
               have s1 := blk_cell hM3.get 1
               have s2 := blk_cell hM3.get 2
               have s3 := blk_cell hM3.get 3
               have f1 := blk_frozen hM3.get 1
               have f2 := blk_frozen hM3.get 2
               have p2 := blk_cell hM3.drop.get 2
               have HM3 := Aside0.mk hM3
               clear hM3
               clear hb3)
            | ((with_reducible refine gate_builtin (b := .append) (xs := #[.tmp 65, .tmp 67]) rfl ?_); at_builtin
               refine Mem.wp_append k58 (w0 := w) rfl (.tmp 65) (.tmp 67) 22 58 (.agg #[.int .i64 0, .int .i64 0, .int .i64 0, .int .i64 0]) 32 rfl Try.underlying22 info58' rfl (by decide) (by omega) u11 ((jobsW x.f5 rel wait since lo x.f7 x.f9 j).map bk) (⟨(j : Int), r1, dl, en⟩ : S58) [.int .i64 (j : Int), .int .i64 r1, .int .i64 (dl), .int .i64 en] rfl _ rfl (by first | (simp; done) | simp [hgJ]) (k58_mkM _ _ _ (⟨(j : Int), r1, dl, en⟩ : S58)) (HM3.out.put (cs' := #[.int .i64 (j : Int), .int .i64 r1, .int .i64 dl, .int .i64 en]) 2 (.int .i64 dl) rfl).p2 (by have := HLEN.out; rw [List.length_map]; omega) ?_
               intro v1 w4 hm
               have HM4 := Aside0.mk hm
               clear hm))
          go_roundw
          case rel => exact ⟨j + 1, by omega, by first | rw [HW.out] | (congr 1) | go_num, by rw [step_some HJ.out (p := ⟨(j : Int), r1, dl, en⟩) (HQ.out.trans (by rw [E1.out, HD.out]))]; exact HM4.out.p1.drop.p1.drop⟩
          case measure => exact meas (show ((j : Int) + 1) = ((j + 1 : Nat) : Int) by omega) hlt
      · have c2 : decide (r1 ≤ lo) = false := decide_eq_false hd
        have HQ := Aside0.mk (HJW.out.trans (if_neg (by rw [E2.out, c2]; decide)))
        clear hd
        go_wp2_with (first
          | (go_at_call 36
             refine (trickleref40_at.calls Ar cr rel (j : Int) r1 _ HO2.out.hR HO2.out.lR A1.out).mono ?_
             rintro e w3 ⟨rfl, ⟨nd, rfl⟩⟩)
          | (go_at_call 37
             refine (trickleref39_Due.calls r1 lo hi _ _ (ref_due_f _ _ _)).mono ?_
             rintro e w3 ⟨rfl, hb3⟩
             have hM3 := ((HM2.out.drewN nd).put (cs' := #[.int .i64 (j : Int), .int .i64 r1, .int .i64 1099511627776, .int .i64 en]) 1 (.int .i64 r1) rfl).step hb3
             have s0 := blk_cell hM3.get 0
             have s1 := blk_cell hM3.get 1
             have s2 := blk_cell hM3.get 2
             have s3 := blk_cell hM3.get 3
             have f1 := blk_frozen hM3.get 1
             have f2 := blk_frozen hM3.get 2
             have p2 := blk_cell hM3.drop.get 2
             have HM3 := Aside0.mk hM3
             clear hM3
             clear hb3))
        go_roundw
        case rel => exact ⟨j + 1, by omega, by first | rw [HW.out] | (congr 1) | go_num, by rw [step_none HJ.out HQ.out]; exact HM3.out.drop.drop⟩
        case measure => exact meas (show ((j : Int) + 1) = ((j + 1 : Nat) : Int) by omega) hlt
    · have c1 : decide (0 < t.f1) = false := decide_eq_false hp
      have E1 := Aside0.mk (HREL.out.trans (if_neg hp))
      have E2 := Aside0.mk (HRLS.out.trans (if_neg hp))
      clear hp HREL HRLS
      by_cases hw : j < wait.length
      case neg =>
        have c2 : decide ((wait.length : Int) ≤ (j : Int)) = true := decide_eq_true (by omega)
        have c3 : decide (wait.length ≤ j) = true := decide_eq_true (by omega)
        have HQ := Aside0.mk (HJW.out.trans (if_neg (by rw [E2.out, getD_ge (by omega)]; decide)))
        clear hw
        go_wp2_with (first
          | (go_at_call 36
             refine (trickleref40_at.calls As cs since (j : Int) r2 _ HO2.out.hS HO2.out.lS A2.out).mono ?_
             rintro e w3 ⟨rfl, ⟨nd, rfl⟩⟩))
        go_roundw
        case rel => exact ⟨j + 1, by omega, by first | rw [HW.out] | (congr 1) | go_num, by rw [step_none HJ.out HQ.out]; exact ((HM2.out.drewN nd).put (cs' := #[.int .i64 (j : Int), .int .i64 r2, .int .i64 1099511627776, .int .i64 en]) 1 (.int .i64 r2) rfl).drop.drop⟩
        case measure => exact meas (show ((j : Int) + 1) = ((j + 1 : Nat) : Int) by omega) hlt
      have c2 : decide ((wait.length : Int) ≤ (j : Int)) = false := decide_eq_false (by omega)
      have c3 : decide (wait.length ≤ j) = false := decide_eq_false (by omega)
      obtain ⟨bw, ow, rfl, zw⟩ := int_at HO.out.hW hw
      have nw : bw < w.heap.size := block_lt_of_cell zw
      have zw := Kd.cell_heap (HM2.out.below).block zw
      have ne5 : gJ ≠ bw := by have := HM2.out.ge; omega
      have ne6 : bw ≠ gJ := fun e => ne5 e.symm
      have b1 : (0 : Int) ≤ (j : Int) := by omega
      have b2 : (j : Int) < (wait.length : Int) := by omega
      generalize wait.getD j 0 = r3 at *
      clear nw hw
      by_cases hd : 1 ≤ r3
      · have d3 : decide (r3 < 1) = false := decide_eq_false (by omega)
        have d4 : decide (r3 ≤ 0) = false := decide_eq_false (by omega)
        have HQ := Aside0.mk (HJW.out.trans (if_pos (E2.out.trans (decide_eq_true hd))))
        clear hd
        by_cases h2 : t.f2 = 0
        · have d2 : (t.f2 != 0) = false := by simp [h2]
          have HD := Aside0.mk (show dlW t r2 = 1099511627776 by unfold dlW; rw [if_pos h2])
          clear h2
          go_wp2_with (first
            | (go_at_call 36
               refine (trickleref40_at.calls As cs since (j : Int) r2 _ HO2.out.hS HO2.out.lS A2.out).mono ?_
               rintro e w3 ⟨rfl, ⟨nd, rfl⟩⟩)
            | ((with_reducible refine gate_builtin (b := .append) (xs := #[.tmp 65, .tmp 67]) rfl ?_); at_builtin
               refine Mem.wp_append k58 (w0 := w) rfl (.tmp 65) (.tmp 67) 22 58 (.agg #[.int .i64 0, .int .i64 0, .int .i64 0, .int .i64 0]) 32 rfl Try.underlying22 info58' rfl (by decide) (by omega) u11 ((jobsW x.f5 rel wait since lo x.f7 x.f9 j).map bk) (⟨(j : Int), r2, 1099511627776, en⟩ : S58) [.int .i64 (j : Int), .int .i64 r2, .int .i64 (1099511627776), .int .i64 en] rfl _ rfl (by first | (simp; done) | simp [hgJ]) (k58_mkM _ _ _ (⟨(j : Int), r2, 1099511627776, en⟩ : S58)) ((HM2.out.drewN nd).put (cs' := #[.int .i64 (j : Int), .int .i64 r2, .int .i64 1099511627776, .int .i64 en]) 1 (.int .i64 r2) rfl).p2 (by have := HLEN.out; rw [List.length_map]; omega) ?_
               intro v1 w4 hm
               have HM4 := Aside0.mk hm
               clear hm))
          go_roundw
          case rel => exact ⟨j + 1, by omega, by first | rw [HW.out] | (congr 1) | go_num, by rw [step_some HJ.out (p := ⟨(j : Int), r2, 1099511627776, en⟩) (HQ.out.trans (by rw [E1.out, HD.out]))]; exact HM4.out.p1.drop.p1.drop⟩
          case measure => exact meas (show ((j : Int) + 1) = ((j + 1 : Nat) : Int) by omega) hlt
        · have d2 : (t.f2 != 0) = true := by simp [h2]
          obtain ⟨dl, hdl⟩ : ∃ d, mn (wrap64 (r2 + t.f2)) 1099511627776 = d := ⟨_, rfl⟩
          have HD := Aside0.mk (show dlW t r2 = dl by unfold dlW; rw [if_neg h2, hdl])
          have hdl_ : (if 1099511627776 < wrap64 (r2 + t.f2) then 1099511627776 else wrap64 (r2 + t.f2)) = dl := hdl
          clear h2 hdl
          go_wp2_with (first
            | (go_at_call 36
               refine (trickleref40_at.calls As cs since (j : Int) r2 _ HO2.out.hS HO2.out.lS A2.out).mono ?_
               rintro e w3 ⟨rfl, ⟨nd, rfl⟩⟩)
            | ((with_reducible refine gate_builtin (b := .append) (xs := #[.tmp 65, .tmp 67]) rfl ?_); at_builtin
               refine Mem.wp_append k58 (w0 := w) rfl (.tmp 65) (.tmp 67) 22 58 (.agg #[.int .i64 0, .int .i64 0, .int .i64 0, .int .i64 0]) 32 rfl Try.underlying22 info58' rfl (by decide) (by omega) u11 ((jobsW x.f5 rel wait since lo x.f7 x.f9 j).map bk) (⟨(j : Int), r2, dl, en⟩ : S58) [.int .i64 (j : Int), .int .i64 r2, .int .i64 (dl), .int .i64 en] rfl _ rfl (by first | (simp; done) | simp [hgJ]) (k58_mkM _ _ _ (⟨(j : Int), r2, dl, en⟩ : S58)) (((HM2.out.drewN nd).put (cs' := #[.int .i64 (j : Int), .int .i64 r2, .int .i64 1099511627776, .int .i64 en]) 1 (.int .i64 r2) rfl).put (cs' := #[.int .i64 (j : Int), .int .i64 r2, .int .i64 dl, .int .i64 en]) 2 (.int .i64 dl) rfl).p2 (by have := HLEN.out; rw [List.length_map]; omega) ?_
               intro v1 w4 hm
               have HM4 := Aside0.mk hm
               clear hm))
          go_roundw
          case rel => exact ⟨j + 1, by omega, by first | rw [HW.out] | (congr 1) | go_num, by rw [step_some HJ.out (p := ⟨(j : Int), r2, dl, en⟩) (HQ.out.trans (by rw [E1.out, HD.out]))]; exact HM4.out.p1.drop.p1.drop⟩
          case measure => exact meas (show ((j : Int) + 1) = ((j + 1 : Nat) : Int) by omega) hlt
      · have d3 : decide (r3 < 1) = true := decide_eq_true (by omega)
        have d4 : decide (r3 ≤ 0) = true := decide_eq_true (by omega)
        have HQ := Aside0.mk (HJW.out.trans (if_neg (by rw [E2.out, decide_eq_false hd]; decide)))
        clear hd
        go_wp2_with (first
          | (go_at_call 36
             refine (trickleref40_at.calls As cs since (j : Int) r2 _ HO2.out.hS HO2.out.lS A2.out).mono ?_
             rintro e w3 ⟨rfl, ⟨nd, rfl⟩⟩))
        go_roundw
        case rel => exact ⟨j + 1, by omega, by first | rw [HW.out] | (congr 1) | go_num, by rw [step_none HJ.out HQ.out]; exact ((HM2.out.drewN nd).put (cs' := #[.int .i64 (j : Int), .int .i64 r2, .int .i64 1099511627776, .int .i64 en]) 1 (.int .i64 r2) rfl).drop.drop⟩
        case measure => exact meas (show ((j : Int) + 1) = ((j + 1 : Nat) : Int) by omega) hlt
end Go.Proofs.Ytlklcfaejmeljaa.QJb
