/- OutputRepeat: the law answers true. -/
import Derived.Test.YtfacjkcndfpmpaaLawsC
namespace Go.Proofs.Ytfacjkcndfpmpaa.QAl
open Go.RowKit Go.Proofs.YtfacjkcndfpmpaaW.PrintWords Go.Proofs.YtfacjkcndfpmpaaW.PrintLast Go.Proofs.YtfacjkcndfpmpaaW.PrintMore Go.Proofs.Ytfacjkcndfpmpaa.Sl
set_option linter.unusedVariables false
set_option linter.unusedSimpArgs false

theorem wr_old {levels : List Int} {log : List S37} {seq port : Int} (h : seq < (log.length : Int)) : wrB levels log seq port ≠ 0 := fun hz => by
  have := (wr_zero hz).1
  omega

set_option maxHeartbeats 4000000 in
set_option maxRecDepth 100000 in
theorem OutputRepeat_law (ports : Int) (A : Option Addr) (c : Nat) (l : List S46) (i : Int) (w : World) (hr : k46.C w A l.length l) :
    Calls Try.prog 7 #[.int .i64 ports, .slice A l.length c, .int .i64 i] w fun e w' => e = .returned (.bool true) ∧ Below w.heap.size w w' := by
  by_cases h : ports < 0 ∨ 8 < ports ∨ 200 < l.length
  · have H := Aside0.mk h
    clear h
    go_enter Try.func7, Try.ntmps7
    go_wp2_with fail
    refine (Run.bad ports A c l (Mem.start w) H.out).mono ?_
    rintro e w1 ⟨rfl, hM⟩
    have HM := Aside0.mk hM
    clear hM
    go_wp2_with fail
    refine (examples_true (HM.out.alloc _)).mono ?_
    rintro e w2 ⟨rfl, hM⟩
    have HM2 := Aside0.mk hM
    clear hM HM
    go_wp2_with fail
    refine (examples_true HM2.out).mono ?_
    rintro e w3 ⟨rfl, hM⟩
    have HM3 := Aside0.mk hM
    clear hM HM2
    go_wp2
    go_ret
    exact ⟨rfl, HM3.out.below⟩
  · obtain ⟨np, rfl⟩ := Int.eq_ofNat_of_zero_le (show 0 ≤ ports by omega)
    have h1 : np ≤ 8 := by omega
    have h2 : l.length ≤ 200 := by omega
    have HR := Aside0.mk hr
    have hlen := runW_len np l
    have HS := Aside0.mk (show (runW np l).2.length ≤ 200 by omega)
    by_cases hi : i < 0 ∨ (l.length : Int) ≤ i
    · have HI := Aside0.mk hi
      clear h hr hi
      go_enter Try.func7, Try.ntmps7
      go_wp2_with fail
      refine (Run.good np A c l (Mem.start w) HR.out h1 h2).mono ?_
      rintro e w1 ⟨g, lv, lg, vr, rfl, hM⟩
      obtain ⟨Ar, cr, rfl, _⟩ := hM.reads
      have HM := Aside0.mk hM
      clear hM
      go_wp2_with fail
      refine (examples_true (HM.out.alloc _)).mono ?_
      rintro e w2 ⟨rfl, hM⟩
      have HM2 := Aside0.mk hM
      clear hM HM
      by_cases h0 : i < 0
      · have c1 : decide (i < 0) = true := decide_eq_true h0
        clear h0
        go_wp2_with fail
        refine (examples_true HM2.out).mono ?_
        rintro e w3 ⟨rfl, hM⟩
        have HM3 := Aside0.mk hM
        clear hM HM2
        go_wp2
        go_ret
        exact ⟨rfl, HM3.out.below⟩
      · have c1 : decide (i < 0) = false := decide_eq_false h0
        have c2 : decide ((l.length : Int) ≤ i) = true := decide_eq_true (by have := HI.out; omega)
        clear h0
        go_wp2_with fail
        refine (examples_true HM2.out).mono ?_
        rintro e w3 ⟨rfl, hM⟩
        have HM3 := Aside0.mk hM
        clear hM HM2
        go_wp2
        go_ret
        exact ⟨rfl, HM3.out.below⟩
    · obtain ⟨j, rfl⟩ := Int.eq_ofNat_of_zero_le (show 0 ≤ i by omega)
      have hj : j < l.length := by omega
      have c1 : decide ((j : Int) < 0) = false := decide_eq_false (by omega)
      have c2 : decide ((l.length : Int) ≤ (j : Int)) = false := decide_eq_false (by omega)
      have c2' : decide (l.length ≤ j) = false := decide_eq_false (by omega)
      clear h hr hi
      go_enter Try.func7, Try.ntmps7
      go_wp2_with fail
      refine (Run.good np A c l (Mem.start w) HR.out h1 h2).mono ?_
      rintro e w1 ⟨g, lv, lg, vr, rfl, hM⟩
      generalize runW np l = s at *
      clear hlen
      obtain ⟨Ar, cr, rfl, _⟩ := hM.readsN (n := s.2.length) (by simp)
      have HM := Aside0.mk hM
      clear hM
      go_wp2_with fail
      refine (examples_true (HM.out.new (.cells #[.int .i64 (np : Int), .slice Ar s.2.length cr] 26))).mono ?_
      rintro e w2 ⟨rfl, hM⟩
      generalize w1.heap.size = b8 at *
      obtain ⟨ba, o, cs, rfl, _, hK, hc⟩ := C_at z46 (by decide) (hM.came HR.out) j hj
      generalize l.getD j z46 = a at *
      obtain rfl := k46_open hK
      have x0 : w2.cell? ⟨ba, o + j * 3, none⟩ = some (.int .i64 a.f0) := hc 0 _ rfl
      have x1 : w2.cell? ⟨ba, o + j * 3 + 1, none⟩ = some (.int .i64 a.f1) := hc 1 _ rfl
      have x2 : w2.cell? ⟨ba, o + j * 3 + 2, none⟩ = some (.int .i16 a.f2) := hc 2 _ rfl
      have hb := hM.get
      have lb := hM.lt
      have y0 : w2.cell? ⟨b8, 0, none⟩ = some (.int .i64 (np : Int)) := blk_cell hb 0
      have y1 : w2.cell? ⟨b8, 1, none⟩ = some (.slice Ar s.2.length cr) := blk_cell hb 1
      have HM2 := Aside0.mk hM
      clear hM HM hb hc hK
      by_cases hs : (s.2.length : Int) ≤ a.f0
      · have c3 : decide ((s.2.length : Int) ≤ a.f0) = true := decide_eq_true hs
        clear hs
        go_wp2
        go_ret
        exact ⟨rfl, (HM2.out.alloc _).below⟩
      · have c3 : decide ((s.2.length : Int) ≤ a.f0) = false := decide_eq_false hs
        have hne := wr_old (levels := s.1) (log := s.2) (seq := a.f0) (port := a.f1) (by omega)
        have HNE := Aside0.mk hne
        obtain ⟨cd, hcd⟩ : ∃ cd, wrB s.1 s.2 a.f0 a.f1 = cd := ⟨_, rfl⟩
        rw [hcd] at hne
        have n1 : decide (cd = 0) = false := decide_eq_false hne
        have n2 : (cd == 0) = false := by simpa using hne
        have n3 : (cd != 0) = true := by simpa using hne
        have HCD := Aside0.mk hcd
        clear hs hne hcd
        go_wp2_with fail
        have hM3 := HM2.out.new (.cells #[.int .i64 a.f0, .int .i64 a.f1, .int .i16 a.f2] 46)
        generalize w2.alloc (.cells #[.int .i64 a.f0, .int .i64 a.f1, .int .i16 a.f2] 46) = w3 at *
        generalize w2.heap.size = b10 at *
        clear x0 x1 x2 y0 y1 lb HM2
        have hb := hM3.get
        have hb' := hM3.p1.get
        have z0 : w3.cell? ⟨b10, 0, none⟩ = some (.int .i64 a.f0) := blk_cell hb 0
        have z1 : w3.cell? ⟨b10, 1, none⟩ = some (.int .i64 a.f1) := blk_cell hb 1
        have z2 : w3.cell? ⟨b10, 2, none⟩ = some (.int .i16 a.f2) := blk_cell hb 2
        have z3 : w3.cell? ⟨b8, 1, none⟩ = some (.slice Ar s.2.length cr) := blk_cell hb' 1
        have HM3 := Aside0.mk hM3
        clear hM3 hb hb'
        go_region_held3 (fun W => W.cell? ⟨b10, 0, none⟩ = some (.int .i64 a.f0) ∧ W.cell? ⟨b10, 1, none⟩ = some (.int .i64 a.f1) ∧ W.cell? ⟨b10, 2, none⟩ = some (.int .i16 a.f2) ∧ W.cell? ⟨b8, 1, none⟩ = some (.slice Ar s.2.length cr))
          (first
            | exact ⟨z0, z1, z2, z3⟩
            | exact ⟨t0, t1, t2, t3⟩
            | exact ⟨u0, u1, u2, u3⟩
            | (go_split_ands; refine ⟨?_, ?_, ?_, ?_⟩ <;> assumption))
          (first
            | (go_at_call 19
               have key := Write.bad (g := g) (lv := lv) (lg := lg) (levels := s.1) (log := s.2) a.f0 a.f1 a.f2 HM3.out.drew.c3 HNE.out
               rw [HCD.out] at key
               refine key.mono ?_
               clear key
               rintro e w4 ⟨rfl, rfl⟩)
            | (go_at_call 12; refine (Log HM3.out.drew.c3 (by have := HS.out; omega)).mono ?_
               rintro e w6 ⟨v6, rfl, hM⟩
               have hM6 := (Mem.u3 (L := row w k37 37 v6 s.2 :: bank w g lv lg s.1 s.2 []) hM).p3
               obtain ⟨A6, c6, rfl, _⟩ := hM6.reads
               have hb := hM6.p1.get
               have hb' := hM6.p2.get
               have t0 : w6.cell? ⟨b10, 0, none⟩ = some (.int .i64 a.f0) := blk_cell hb 0
               have t1 : w6.cell? ⟨b10, 1, none⟩ = some (.int .i64 a.f1) := blk_cell hb 1
               have t2 : w6.cell? ⟨b10, 2, none⟩ = some (.int .i16 a.f2) := blk_cell hb 2
               have t3 : w6.cell? ⟨b8, 1, none⟩ = some (.slice Ar s.2.length cr) := blk_cell hb' 1
               have HM6 := Aside0.mk hM6
               clear hM hM6 hb hb')
            | (go_at_call 14; refine (LogOf s.2 (by have := HS.out; omega) HM6.out HM6.out.readsE.2 HM6.out.readsE.1).mono ?_
               rintro e w7 ⟨v7, rfl, hM7⟩
               obtain ⟨A7, c7, rfl, _⟩ := hM7.readsN (n := s.2.length) (by simp)
               have hb := hM7.p2.get
               have hb' := hM7.p3.get
               have u0 : w7.cell? ⟨b10, 0, none⟩ = some (.int .i64 a.f0) := blk_cell hb 0
               have u1 : w7.cell? ⟨b10, 1, none⟩ = some (.int .i64 a.f1) := blk_cell hb 1
               have u2 : w7.cell? ⟨b10, 2, none⟩ = some (.int .i16 a.f2) := blk_cell hb 2
               have u3 : w7.cell? ⟨b8, 1, none⟩ = some (.slice Ar s.2.length cr) := blk_cell hb' 1
               have HM7 := Aside0.mk hM7
               clear hM7 hb hb')
            | (go_at_call 13
               have hq := (HM7.out.drop.drop.drop.drop : Mem w _ (row w k65 65 (.slice Ar s.2.length cr) (s.2.map conv) :: bank w g lv lg s.1 s.2 []))
               refine (SameOf (n := s.2.length) (s.2.map conv) (by simp) (by have := HS.out; omega) HM7.out.readsE.2 HM7.out.readsE.1 hq.readsE.2 hq.readsE.1).mono ?_
               clear hq
               rintro e w8 ⟨m8, rfl, rfl⟩))
        have HM8 := Aside0.mk (HM7.out.drewN m8)
        clear HM7 HM6 HM3
        go_wp2
        go_ret
        exact ⟨rfl, HM8.out.below⟩
theorem OutputLog_row {G G' : Prop} (ports : Int) (A : Option Addr) (c : Nat) (l : List S46) (w : World) (hr : k46.C w A l.length l) (hc : l.length ≤ c) (g : G) (g' : G') :
    Calls Try.prog 4 #[.int .i64 ports, .slice A l.length c] w fun e w' => e = .returned (.bool true) ∧ Below w.heap.size w w' := OutputLog_law ports A c l w hr
theorem OutputRepeat_row {G G' G2 : Prop} (ports : Int) (A : Option Addr) (c : Nat) (l : List S46) (i : Int) (w : World) (hr : k46.C w A l.length l) (hc : l.length ≤ c) (g : G) (g' : G') (g2 : G2) :
    Calls Try.prog 7 #[.int .i64 ports, .slice A l.length c, .int .i64 i] w fun e w' => e = .returned (.bool true) ∧ Below w.heap.size w w' := OutputRepeat_law ports A c l i w hr
end Go.Proofs.Ytfacjkcndfpmpaa.QAl
