/- TimerNoAliasing. -/
import Derived.Test.YtjdpogkddoaioaaWheelD
namespace Go.Proofs.Ytjdpogkddoaioaa.QWh
open Go.RowKit Go.Proofs.YtjdpogkddoaioaaW.PrintWords Go.Proofs.YtjdpogkddoaioaaW.PrintLast Go.Proofs.YtjdpogkddoaioaaW.PrintMore Go.Proofs.Ytjdpogkddoaioaa.Sl
set_option linter.unusedVariables false
set_option linter.unusedSimpArgs false

theorem wakes_true {w0 w : World} {L : List Chunk} (hM : Mem w0 w L) : Calls Try.prog 10 #[] w fun e w' => e = .returned (.bool true) ∧ Mem w0 w' L :=
  (tricklelaw39_wakes.calls 60 true w wakes_at).mono (fun e w' h => ⟨h.1, hM.step h.2⟩)
theorem New_any {w0 w : World} {L : List Chunk} {A : Option Addr} {c : Nat} (ps : List Int) (start : Int) (hl : ps.length ≤ 1000) (hC : Kd.C (Kd.int .i64) w A ps.length ps) (hc : ps.length ≤ c) (hM : Mem w0 w L) :
    Calls Try.prog 21 #[.slice A ps.length c, .int .i64 start] w fun e w' =>
      ((0 ≤ start ∧ start ≤ 1099511627776 ∧ ∀ p ∈ ps, okP p) ∧ ∃ g vp vn, e = .returned (.tuple #[.pointer (some ⟨g, 0, none⟩), .int .i64 0]) ∧ Mem w0 w' (wheel w0 g vp vn ps (ps.map (relOf start)) L)) ∨
      (¬ (0 ≤ start ∧ start ≤ 1099511627776 ∧ ∀ p ∈ ps, okP p) ∧ e = .returned (.tuple #[.pointer none, .int .i64 1]) ∧ Mem w0 w' L) := by
  by_cases h : start < 0 ∨ 1099511627776 < start
  · refine (New.far start h).mono ?_
    rintro e w' ⟨rfl, rfl⟩
    exact .inr ⟨fun h' => by omega, rfl, hM⟩
  · refine (New.calls ps start hl hC hc (by omega) (by omega)).mono ?_
    rintro e w' (⟨g, vp, vn, rfl, h1, h2⟩ | ⟨rfl, h1, p, hp, h2⟩)
    · exact .inl ⟨⟨by omega, by omega, h2⟩, g, vp, vn, rfl, wheel_join hM h1⟩
    · exact .inr ⟨fun h' => h2 (h'.2.2 p hp), rfl, hM.step h1⟩
theorem okR_rel {start p : Int} (h0 : 0 ≤ start) (h1 : start ≤ 1099511627776) (hp : okP p) : okR p (relOf start p) := by
  unfold okR relOf
  rcases hp with rfl | h
  · rw [if_pos rfl]; exact ⟨fun h => h.2 rfl, by omega, by omega⟩
  · rw [if_neg (by omega)]; exact ⟨fun h => by omega, by omega, by omega⟩
theorem rel_at {ps : List Int} {start : Int} {i : Nat} (hi : i < ps.length) : (ps.map (relOf start)).getD i 0 = relOf start (ps.getD i 0) := by
  rw [List.getD_eq_getElem?_getD, List.getD_eq_getElem?_getD, List.getElem?_map, List.getElem?_eq_getElem hi]; rfl

set_option maxHeartbeats 8000000 in
theorem NoAliasing_law (A : Option Addr) (c : Nat) (ps : List Int) (start : Int) (w : World) (hr : Kd.C (Kd.int .i64) w A ps.length ps) (hc : ps.length ≤ c) :
    Calls Try.prog 7 #[.slice A ps.length c, .int .i64 start] w fun e w' => e = .returned (.bool true) ∧ Below w.heap.size w w' := by
  by_cases h20 : 20 < ps.length
  · have c1 : decide ((20 : Int) < (ps.length : Int)) = true := decide_eq_true (by omega)
    have c1' : decide (20 < ps.length) = true := decide_eq_true h20
    clear hr hc h20
    go_enter Try.func7, Try.ntmps7
    go_wp2_with fail
    refine (wakes_true (Mem.start w)).mono ?_
    rintro e w1 ⟨rfl, hM⟩
    have HM := Aside0.mk hM
    clear hM
    go_wp2_with fail
    go_ret
    exact ⟨rfl, HM.out.below⟩
  have c1 : decide ((20 : Int) < (ps.length : Int)) = false := decide_eq_false (by omega)
  have c1' : decide (20 < ps.length) = false := decide_eq_false h20
  by_cases hz : ps.length = 0
  · have c2 : ((ps.length : Int) == 0) = true := beq_iff_eq.2 (by omega)
    have c3 : decide ((ps.length : Int) = 0) = true := decide_eq_true (by omega)
    have c4 : decide (ps.length = 0) = true := decide_eq_true hz
    clear hr hc h20 hz
    go_enter Try.func7, Try.ntmps7
    go_wp2_with fail
    refine (wakes_true (Mem.start w)).mono ?_
    rintro e w1 ⟨rfl, hM⟩
    have HM := Aside0.mk hM
    clear hM
    go_wp2_with fail
    go_ret
    exact ⟨rfl, HM.out.below⟩
  have c2 : ((ps.length : Int) == 0) = false := beq_eq_false_iff_ne.2 (by omega)
  have c3 : decide ((ps.length : Int) = 0) = false := decide_eq_false (by omega)
  have c4 : decide (ps.length = 0) = false := decide_eq_false hz
  have HR := Aside0.mk hr
  have H20 := Aside0.mk h20
  have HZ := Aside0.mk (show 0 < ps.length by omega)
  clear hr h20 hz
  go_enter Try.func7, Try.ntmps7
  go_wp2_with fail
  refine (wakes_true (Mem.start w)).mono ?_
  rintro e w1 ⟨rfl, hM⟩
  have HM := Aside0.mk hM
  clear hM
  go_wp2_with (((with_reducible refine gate_builtin (b := .append) (xs := #[.tmp 21, .tmp 22]) rfl ?_); at_builtin
                refine Mem.wp_append_ints .i64 (w0 := w) rfl (.tmp 21) (.tmp 22) 39 3 8 rfl Try.underlying39 info3 (by decide) _ [] ps A ps.length c rfl rfl (Mem.came (HM.out.row_empty (Kd.int .i64) 3) HR.out) (HM.out.row_empty (Kd.int .i64) 3) (by have := H20.out; simp; omega) ?_
                intro v1 w2 hm
                change Mem w w2 (row w (Kd.int .i64) 3 v1 ps :: _) at hm
                obtain ⟨go, co, rfl, hco⟩ := hm.row_form HZ.out
                have HM2 := Aside0.mk hm
                clear hm))
  have hC := HM2.out.readsE
  refine (New_any ps start (by have := H20.out; omega) hC.2 hC.1 HM2.out).mono ?_
  clear hC
  rintro e w3 (⟨hok, g, vp, vn, rfl, hM⟩ | ⟨hno, rfl, hM⟩)
  · have hns : (ps.map (relOf start)).length = ps.length := List.length_map _
    have HOK := Aside0.mk hok
    have HNS := Aside0.mk hns
    have HOKR := Aside0.mk (fun i (hi : i < ps.length) => (rel_at (start := start) hi) ▸ okR_rel hok.1 hok.2.1 (hok.2.2 _ (getD_mem hi)))
    have HREF := Aside0.mk (refNew_good hok.1 hok.2.1 hok.2.2)
    have HM3 := Aside0.mk hM
    clear hM HM2 hok hns HM
    go_wp2_with fail
    refine (RefNew ps start (by have := H20.out; omega) (HM3.out.came HR.out) hc HM3.out).mono ?_
    rintro e w4 ⟨r1, r2, rfl, hM⟩
    rw [HREF.out] at hM ⊢
    dsimp only at hM ⊢
    generalize ps.map (relOf start) = ns at *
    obtain ⟨⟨Ar, cr, rfl, _⟩, An, cn, rfl, _⟩ := row2_reads hM HNS.out
    have hM4 := (hM.new (.cells #[.slice Ar ps.length cr, .slice An ps.length cn] 44)).c5
    obtain ⟨z0, z1⟩ := hM4.row_cell (0 : Int) 0 HZ.out
    have HM4 := Aside0.mk hM4
    have c5 : decide (0 < ps.length) = true := decide_eq_true HZ.out
    have hpos := HZ.out
    have c5' : decide ((0 : Int) < (ps.length : Int)) = true := decide_eq_true (by have := HZ.out; omega)
    clear hM hM4 HM3
    generalize ps.getD 0 0 = p0 at *
    go_wp2_with fail
    have hM5 := ((HM4.out.row_put 0 (wrap64 (p0 + 1))).drop).c2
    have HM5 := Aside0.mk hM5
    clear hM5 HM4
    refine (Releases (by have := HNS.out; have := H20.out; omega) HM5.out).mono ?_
    rintro e w5 ⟨v5, rfl, hM⟩
    have hMf := hM
    obtain ⟨gl, cl, rfl, hcl⟩ := hM.row_form (by rw [HNS.out]; exact HZ.out)
    rw [HNS.out] at hM hMf hcl ⊢
    have HC5 := Aside0.mk hM.readsE
    have HM6 := Aside0.mk hM.c1
    have c6 : ((ps.length : Int) != (ps.length : Int)) = false := by simp
    clear hM hMf HM5
    go_wp2_with (go_at_call 24
                 refine (Set.calls (l := ns) HC5.out.2 HNS.out hcl (by have := H20.out; omega) HM6.out).mono ?_
                 rintro e w6 (⟨rfl, _, vn', hM⟩ | ⟨_, ⟨i, hi, hno⟩, _⟩)
                 case inr => exact absurd (HOKR.out i hi) hno
                 have HM7 := Aside0.mk (show Mem w w6 (row w (Kd.int .i64) 2 (.slice (some ⟨gl, 0, none⟩) ps.length cl) ns :: wheel w g vp vn' ps ns [ob w4.heap.size (.cells #[.slice Ar ps.length cr, .slice An ps.length cn] 44), row2 w (.slice Ar ps.length cr) ps (.slice An ps.length cn) ns]) from hM.c5)
                 obtain ⟨z2, z3⟩ := (Mem.row_cell (0 : Int) HM7.out 0 (by rw [HNS.out]; exact HZ.out))
                 generalize ns.getD 0 0 = n0 at *
                 have hne := (HM7.out.c4.p2.p1).ne_own
                 have hne' := hne.symm
                 have hb := HM7.out.c4.get
                 have y0 := blk_cell hb 0
                 have y1 := blk_cell hb 1
                 clear hM hb)
    have hM8 := ((((HM7.out.row_put 0 (wrap64 (n0 + 1))).drop).c3).p1).c2
    have HM8 := Aside0.mk hM8
    clear hM8 HM7
    refine (same_true 0 HNS.out (by have := H20.out; omega) HM8.out).mono ?_
    rintro e w7 ⟨rfl, hM⟩
    have HM9 := Aside0.mk hM
    clear hM
    go_wp2_with fail
    go_ret
    exact ⟨rfl, HM9.out.below⟩
  · have HNO := Aside0.mk hno
    have HM3 := Aside0.mk hM
    clear hM hno HM2 HM
    go_wp2_with fail
    refine (RefNew ps start (by have := H20.out; omega) (HM3.out.came HR.out) hc HM3.out).mono ?_
    rintro e w4 ⟨r1, r2, rfl, hM⟩
    obtain ⟨⟨Ar, cr, rfl, _⟩, An, cn, rfl, _⟩ := row2_reads hM rfl
    have HM4 := Aside0.mk (hM.alloc (.cells #[.slice Ar (refNew ps start).1.length cr, .slice An (refNew ps start).2.1.length cn] 44))
    clear hM
    go_wp2_with fail
    go_ret
    exact ⟨rfl, HM4.out.below⟩
theorem NoAliasing_row {G G' : Prop} (A : Option Addr) (c : Nat) (ps : List Int) (start : Int) (w : World) (hr : Kd.C (Kd.int .i64) w A ps.length ps) (hc : ps.length ≤ c) (g : G) (g' : G') :
    Calls Try.prog 7 #[.slice A ps.length c, .int .i64 start] w fun e w' => e = .returned (.bool true) ∧ Below w.heap.size w w' := NoAliasing_law A c ps start w hr hc
end Go.Proofs.Ytjdpogkddoaioaa.QWh
