/- TimerFireAll. -/
import Derived.Test.YtjdpogkddoaioaaFireAllP
import Derived.Test.YtjdpogkddoaioaaNoAlias
namespace Go.Proofs.Ytjdpogkddoaioaa.QWh
open Go.RowKit Go.Proofs.YtjdpogkddoaioaaW.PrintWords Go.Proofs.YtjdpogkddoaioaaW.PrintLast Go.Proofs.YtjdpogkddoaioaaW.PrintMore Go.Proofs.Ytjdpogkddoaioaa.Sl
set_option linter.unusedVariables false
set_option linter.unusedSimpArgs false

theorem interval_call (lo hi : Int) {w0 w : World} {L : List Chunk} (hM : Mem w0 w L) : Calls Try.prog 18 #[.agg #[.int .i64 lo, .int .i64 hi]] w fun e w' => e = .returned (.bool (decide (okI lo hi))) ∧ Mem w0 w' L :=
  (trickleref39_Interval.calls lo hi _ w (valid_f lo hi)).mono (fun e w' h => ⟨h.1, hM.step h.2⟩)
/-- The loop: q tasks have been fired. -/
def FaRel (w0 : World) (g gi : Nat) (v vp : Value) (ps ns0 : List Int) (lo hi : Int) (v39 : Value) (wr : World) : Prop :=
  ∃ (q : Nat) (vn : Value) (ns : List Int), q ≤ (readyW ps ns0 lo).length ∧ v39 = .int .i64 (q : Int) ∧ Fired ps ns0 lo ((readyW ps ns0 lo).take q) ns ∧ Mem w0 wr (row w0 (Kd.int .i64) 3 v (readyW ps ns0 lo) :: wheel w0 g vp vn ps ns [blk gi #[.int .i64 lo, .int .i64 hi] 23])
set_option maxHeartbeats 8000000 in
theorem FireAll_law (A : Option Addr) (c : Nat) (ps : List Int) (start lo hi : Int) (w : World) (hr : Kd.C (Kd.int .i64) w A ps.length ps) (hc : ps.length ≤ c) :
    Calls Try.prog 8 #[.slice A ps.length c, .int .i64 start, .agg #[.int .i64 lo, .int .i64 hi]] w fun e w' => e = .returned (.bool true) ∧ Below w.heap.size w w' := by
  have HM := Aside0.mk ((Mem.start w).new (.cells #[.int .i64 lo, .int .i64 hi] 23))
  by_cases h20 : 20 < ps.length
  · have c1 : decide ((20 : Int) < (ps.length : Int)) = true := decide_eq_true (by omega)
    have c1' : decide (20 < ps.length) = true := decide_eq_true h20
    clear hr hc h20
    go_enter Try.func8, Try.ntmps8
    go_wp2_with fail
    refine (wakes_true HM.out).mono ?_
    rintro e w1 ⟨rfl, hM⟩
    have HM1 := Aside0.mk hM
    clear hM
    go_wp2_with fail
    go_ret
    exact ⟨rfl, HM1.out.below⟩
  have c1 : decide ((20 : Int) < (ps.length : Int)) = false := decide_eq_false (by omega)
  have c1' : decide (20 < ps.length) = false := decide_eq_false h20
  have HR := Aside0.mk hr
  have H20 := Aside0.mk h20
  clear hr h20
  by_cases hi' : okI lo hi
  case neg =>
    have c2 : decide (okI lo hi) = false := decide_eq_false hi'
    clear hi'
    go_enter Try.func8, Try.ntmps8
    go_wp2_with fail
    refine (wakes_true HM.out).mono ?_
    rintro e w1 ⟨rfl, hM⟩
    have hb := hM.get
    have t0 := blk_cell hb 0
    have t1 := blk_cell hb 1
    have HM1 := Aside0.mk hM
    clear hM hb
    go_wp2_with (go_at_call 18
                 refine (interval_call lo hi HM1.out).mono ?_
                 rw [c2]
                 rintro e w2 ⟨rfl, hM⟩
                 have HM2 := Aside0.mk hM
                 clear hM)
    go_ret
    exact ⟨rfl, HM2.out.below⟩
  have c2 : decide (okI lo hi) = true := decide_eq_true hi'
  have HI := Aside0.mk hi'
  clear hi'
  go_enter Try.func8, Try.ntmps8
  go_wp2_with fail
  refine (wakes_true HM.out).mono ?_
  rintro e w1 ⟨rfl, hM⟩
  have hb := hM.get
  have t0 := blk_cell hb 0
  have t1 := blk_cell hb 1
  have HM1 := Aside0.mk hM
  clear hM hb
  go_wp2_with (first
    | (go_at_call 18
       refine (interval_call lo hi HM1.out).mono ?_
       rw [c2]
       rintro e w2 ⟨rfl, hM⟩
       have HM2 := Aside0.mk hM
       clear hM))
  refine (New_any ps start (by have := H20.out; omega) (HM2.out.came HR.out) hc HM2.out).mono ?_
  rintro e w3 (⟨hok, g, vp, vn, rfl, hM⟩ | ⟨hno, rfl, hM⟩)
  case inr =>
    have HM3 := Aside0.mk hM
    clear hM hno
    go_wp2_with fail
    go_ret
    exact ⟨rfl, HM3.out.below⟩
  have hns : (ps.map (relOf start)).length = ps.length := List.length_map _
  have HOK := Aside0.mk hok.2.2
  have HNS := Aside0.mk hns
  have HF := Aside0.mk (show Fired ps (ps.map (relOf start)) lo [] (ps.map (relOf start)) from ⟨hns, fun i hi => (rel_at (start := start) hi) ▸ okR_rel hok.1 hok.2.1 (hok.2.2 _ (getD_mem hi)), fun i hi h => absurd h (by simp), fun i hi h => rfl⟩)
  have hb := hM.c3.get
  have t2 := blk_cell hb 0
  have t3 := blk_cell hb 1
  have HM3 := Aside0.mk hM
  clear hM hb hok hns t0 t1
  generalize ps.map (relOf start) = ns0 at *
  go_wp2_with fail
  refine (Ready lo hi HNS.out (by have := H20.out; omega) HM3.out).mono ?_
  rintro e w4 ⟨v, rfl, hM⟩
  obtain ⟨Av, cv, rfl, _⟩ := hM.reads
  have HM4 := Aside0.mk hM
  clear hM t2 t3
  go_wp2_with fail
  generalize hgi : w.heap.size = gi at *
  go_loopw [39] (fun v39 wr => FaRel w g gi (.slice Av (readyW ps ns0 lo).length cv) vp ps ns0 lo hi v39 wr) (fun i _ => (readyW ps ns0 lo).length - (intOf i).toNat)
  case atStart => exact ⟨0, vn, ns0, Nat.zero_le _, rfl, HF.out, HM4.out⟩
  case round =>
    obtain ⟨q, vn', ns, hq, rfl, hf, hM⟩ := hrel
    clear HM4
    have hrl : (readyW ps ns0 lo).length ≤ 20 := by
      unfold readyW
      rw [srt_len]
      have := due_len ps ns0 lo ps.length
      have := H20.out
      omega
    by_cases hlt : q < (readyW ps ns0 lo).length
    · obtain ⟨j, hj1, hj2, hj3, hj4, hj5⟩ := ready_at hlt
      obtain ⟨b, o, rfl, x0⟩ := cell_at hM hM.readsE.2 hlt
      have htk : (readyW ps ns0 lo).take (q + 1) = (readyW ps ns0 lo).take q ++ [(j : Int)] := by
        rw [List.take_succ_eq_append_getElem hlt, ← hj1, List.getD_eq_getElem?_getD, List.getElem?_eq_getElem hlt]; rfl
      rw [hj1] at x0
      have hsame := hf.same j hj2 hj5
      have hst := hf.step HOK.out HI.out.1 (by have := HI.out.2.1; have := HI.out.2.2; omega) hj2 hj3 (by rw [hsame]; exact hj4)
      rw [← htk] at hst
      have hpp := (HOK.out _ (getD_mem hj2)).resolve_left hj3
      have hokr := hf.ok j hj2
      have hadv := adv_f (hi := hi) hokr.2.1 hpp.1 hpp.2 HI.out (by rw [hsame]; exact hj4)
      have HST := Aside0.mk hst
      have HADV := Aside0.mk hadv
      have HLEN := Aside0.mk hf.len
      have HJ3 := Aside0.mk hj3
      have HM5 := Aside0.mk hM.c1
      have hb := hM.c4.get
      have t2 := blk_cell hb 0
      have t3 := blk_cell hb 1
      have HRL := Aside0.mk hrl
      clear hM hb hst hadv hokr hpp hsame htk hj1 hj3 hj4 hj5 hf hrl
      go_wp2_with (first
        | (go_at_call 27
           refine (Fire.good j lo hi hj2 HLEN.out HI.out (fun _ => HADV.out) HM5.out).mono ?_
           rintro e w5 (⟨hbad, _, _⟩ | ⟨_, rfl, hM⟩)
           case inl => exact absurd hbad HJ3.out
           rw [if_pos rfl] at hM
           have HM6 := Aside0.mk hM
           clear hM))
      have hw : wrap64 ((q : Int) + 1) = ((q + 1 : Nat) : Int) := by have := HRL.out; unfold wrap64; omega
      rw [hw]
      refine ⟨⟨q + 1, _, _, by omega, rfl, HST.out, HM6.out.c4⟩, ?_⟩
      simp [intOf]; omega
    · have hql : q = (readyW ps ns0 lo).length := by omega
      subst hql
      rw [List.take_length] at hf
      have HNONE := Aside0.mk hf.none
      have HLEN := Aside0.mk hf.len
      have HM5 := Aside0.mk hM.c1
      have hb := hM.c4.get
      have t2 := blk_cell hb 0
      have t3 := blk_cell hb 1
      clear hM hb hf hlt hrl
      go_wp2_with fail
      refine (Ready lo hi HLEN.out (by have := H20.out; omega) HM5.out).mono ?_
      rintro e w5 ⟨v2, rfl, hM⟩
      rw [HNONE.out] at hM
      obtain ⟨A2, c2', rfl, _⟩ := hM.readsN (n := 0) rfl
      have HM6 := Aside0.mk hM
      clear hM
      go_wp2_with fail
      go_ret
      exact ⟨rfl, HM6.out.below⟩
theorem FireAll_row {G G' : Prop} {G2 : Prop} (A : Option Addr) (c : Nat) (ps : List Int) (start lo hi : Int) (w : World) (hr : Kd.C (Kd.int .i64) w A ps.length ps) (hc : ps.length ≤ c) (g : G) (g' : G') (g2 : G2) :
    Calls Try.prog 8 #[.slice A ps.length c, .int .i64 start, .agg #[.int .i64 lo, .int .i64 hi]] w fun e w' => e = .returned (.bool true) ∧ Below w.heap.size w w' := FireAll_law A c ps start lo hi w hr hc
end Go.Proofs.Ytjdpogkddoaioaa.QWh
