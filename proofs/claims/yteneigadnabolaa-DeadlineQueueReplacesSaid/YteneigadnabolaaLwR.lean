/- DeadlineQueueReplaces: the law answers true. -/
import Derived.Test.YteneigadnabolaaLwA
namespace Go.Proofs.Yteneigadnabolaa.QAl
open Go.RowKit Go.Proofs.YteneigadnabolaaW.PrintWords Go.Proofs.YteneigadnabolaaW.PrintLast Go.Proofs.YteneigadnabolaaW.PrintMore Go.Proofs.Yteneigadnabolaa.Sl
set_option linter.unusedVariables false
set_option linter.unusedSimpArgs false
theorem rm_ins (x : Dq.It) : ∀ r : List Dq.It, (∀ y ∈ r, y.1 ≠ x.1) → Dq.rm (Dq.ins x r) x.1 = r
  | [], _ => by
    unfold Dq.ins
    rw [rm_cons, if_pos rfl]
    rfl
  | y :: r, h => by
    have hy : ¬ y.1 = x.1 := h y (List.mem_cons_self ..)
    have ht : ∀ z ∈ r, z.1 ≠ x.1 := fun z hz => h z (List.mem_cons_of_mem _ hz)
    unfold Dq.ins
    split
    · rw [rm_cons, if_pos rfl, rm_cons, if_neg hy, Dq.rm_none ht]
    · rw [rm_cons, if_neg hy, rm_ins x r ht]
theorem rm_push (q : List Dq.It) (x : Dq.It) : Dq.rm (Dq.push q x) x.1 = Dq.rm q x.1 := rm_ins x _ (fun y hy => (Dq.rm_mem.1 hy).2)
theorem has_push (q : List Dq.It) (x : Dq.It) : has (Dq.push q x) x.1 = true := by
  unfold has
  rw [List.any_eq_true]
  exact ⟨x, Dq.push_mem.2 (.inl rfl), by simp⟩
theorem has_rm (q : List Dq.It) (id : Int) : has (Dq.rm q id) id = false := has_false (fun y hy => (Dq.rm_mem.1 hy).2)
theorem rm_rm (q : List Dq.It) (id : Int) : Dq.rm (Dq.rm q id) id = Dq.rm q id := Dq.rm_none (fun y hy => (Dq.rm_mem.1 hy).2)
def RunR8 (W : World) (l : List S27) (gq : Nat) (vi vl : Value) (wr : World) : Prop :=
  ∃ j : Nat, j ≤ l.length ∧ vi = .int .i64 (j : Int) ∧ ∃ v, Mem W wr (both W gq v vl (runQ (l.take j)) [])
set_option maxRecDepth 100000 in
set_option maxHeartbeats 1500000 in
theorem Replaces_law {W : World} {A : Option Addr} {c : Nat} {l : List S27} (id dl : Int) (hC : k27.C W A l.length l) :
    Calls Try.prog 8 #[.slice A l.length c, .int .i64 id, .int .i64 dl] W fun e w' => e = .returned (.bool true) ∧ Below W.heap.size W w' := by
  obtain ⟨n, hn⟩ : ∃ n, n = l.length := ⟨_, rfl⟩
  have HN := Aside0.mk hn
  have HC := Aside0.mk hC
  rw [← hn]
  clear hC hn
  by_cases hbig : 60 < n
  · have h1 : decide ((60 : Int) < (n : Int)) = true := decide_eq_true (by omega)
    have h2 : decide (60 < n) = true := decide_eq_true hbig
    clear hbig
    go_enter Try.func8, Try.ntmps8
    go_wp2_with (first
      | (go_at_call 10; refine (New_call (Mem.start W)).mono ?_; rintro e w1 ⟨gq, rfl, h1⟩; have HM1 := Aside0.mk h1; clear h1)
      | (go_at_call 11; refine (examples_call _).mono ?_; rintro e w2 ⟨rfl, hb2⟩; have HB2 := Aside0.mk hb2; clear hb2))
    go_ret
    exact ⟨rfl, below_step HM1.out.below HB2.out⟩
  · have h1 : decide ((60 : Int) < (n : Int)) = false := decide_eq_false (by omega)
    have h2 : decide (60 < n) = false := decide_eq_false hbig
    have hn60 : n ≤ 60 := by omega
    clear hbig
    go_enter Try.func8, Try.ntmps8
    go_wp2_with (go_at_call 10; refine (New_call (Mem.start W)).mono ?_; rintro e w1 ⟨gq, rfl, h1⟩; have HM1 := Aside0.mk (h1.q_nil k36 36).q2; clear h1)
    go_loopw [8, 28] (fun vl vi wr => RunR8 W l gq vi vl wr) (fun _ vi _ => n - (intOf vi).toNat)
    case atStart => exact ⟨0, Nat.zero_le _, rfl, _, HM1.out⟩
    case round =>
      obtain ⟨j, hj, rfl, v, hM⟩ := hrel
      rw [← HN.out] at hj
      clear HM1
      obtain ⟨A36, c36, rfl, _, _⟩ := hM.p2.q_reads
      have hm : ((runQ (l.take j)).map Go.Proofs.Yteneigadnabolaa.QAl.u36).length = (runQ (l.take j)).length := List.length_map _
      generalize ((runQ (l.take j)).map Go.Proofs.Yteneigadnabolaa.QAl.u36).length = m at *
      have HMM := Aside0.mk hm
      have hro := runQ_ok l j (by rw [← HN.out]; exact hn60)
      have HO := Aside0.mk hro.1
      have hlq := hro.2
      rw [← hm] at hlq
      clear hro hm
      by_cases hlt : j < n
      · have hjl : j < l.length := by rw [← HN.out]; exact hlt
        have hst := Aside0.mk (runQ_succ l j hjl)
        obtain ⟨b, o, rfl, x0, x1, x2⟩ := op_at (Kd.C_below HC.out hM.below) hjl
        generalize l.getD j z27 = a at *
        have hbw : b < wr.heap.size := World.block_lt_of_cell? wr _ x0
        have HMb := Aside0.mk (hM.new (.cells #[.int .i64 a.f0, .int .i64 a.f1, .int .i64 a.f2] 27)).q3
        clear hM
        go_wp2_with fail
        refine (Do_call a.f0 a.f1 a.f2 HMb.out (by rw [← HMM.out]; omega) HO.out).mono ?_
        rintro e w2 ⟨v2, lv2, rfl, hM2⟩
        have HM2 := Aside0.mk hM2.p3.drop
        clear hM2
        go_wp2_with fail
        go_roundw
        case rel => exact ⟨j + 1, by omega, by first | go_num | (congr 1), v2, by rw [hst.out]; exact HM2.out⟩
        case measure => simp [intOf]; omega
      · obtain rfl : j = n := by omega
        have hq : runQ (l.take j) = runQ l := by rw [List.take_of_length_le (by rw [← HN.out]; exact Nat.le_refl _)]
        rw [hq] at hM HO HMM
        generalize runQ l = q at *
        have HM := Aside0.mk hM
        have hlk : q.length < 1000000 := by rw [← HMM.out]; omega
        obtain ⟨kf, hkf⟩ := (refRemove_ev q id hlk).rounds
        obtain ⟨hz36, hc36, hC36⟩ := hM.p2.q_C
        have key := Aside0.mk (trickleref06_Remove.calls kf A36 c36 (q.map Go.Proofs.Yteneigadnabolaa.QAl.u36) id _ _ wr (by rw [← hz36]; exact hC36) hc36 hkf)
        rw [← hz36] at key
        clear hM hq hlt hj hkf hz36 hc36 hC36
        go_wp2_with fail
        refine key.out.mono ?_
        rintro e w2 ⟨vr, rfl, hR, hb⟩
        have hM2 := HM.out.row_made hb hR
        obtain ⟨Ar, cr, rfl, hcr, hCr⟩ := hM2.readsN (n := (Dq.rm q id).length) (by simp)
        have HM2 := Aside0.mk hM2.c1
        clear hM2 hR hb key hCr
        go_wp2_with fail
        refine (Push_call (w0 := W) (L := [qrow W k36 36 (.slice A36 m c36) (q.map Go.Proofs.Yteneigadnabolaa.QAl.u36), row W k36 36 (.slice Ar (Dq.rm q id).length cr) ((Dq.rm q id).map Go.Proofs.Yteneigadnabolaa.QAl.u36)]) ⟨id, dl⟩ HM2.out (by rw [← HMM.out]; omega) HO.out).mono ?_
        rintro e w3 ⟨v3, rfl, hM3⟩
        have HM3 := Aside0.mk hM3
        clear hM3
        have hpl : (Dq.push q (id, dl)).length = (Dq.rm q id).length + 1 := by unfold Dq.push; rw [Dq.ins_len]
        have HP := Aside0.mk hpl
        have hLen := Aside0.mk (Len_call HM3.out)
        rw [List.length_map, show Dq.push q (it ⟨id, dl⟩) = Dq.push q (id, dl) from rfl, hpl] at hLen
        have hok3 := Aside0.mk (HO.out.push (id, dl))
        have hlr := rm_len q id
        have hq60 : q.length ≤ 60 := by rw [← HMM.out]; exact hlq
        have keyR1 := Aside0.mk (Remove_call (q := Dq.push q (id, dl)) id HM3.out (by rw [hpl]; omega) hok3.out)
        rw [has_push q (id, dl), rm_push q (id, dl)] at keyR1
        have h0 := has_iff q id
        have hge := rm_ge HO.out id
        have hr1 := Aside0.mk (has_rm q id)
        have hr2 := Aside0.mk (rm_rm q id)
        have hr3 := Aside0.mk (HO.out.rm id)
        clear hpl hok3 HP
        generalize hq1 : Dq.rm q id = r at *
        obtain ⟨nr, hnr⟩ : ∃ nr, r.length = nr := ⟨_, rfl⟩
        rw [hnr] at hLen h0 hge hlr ⊢
        rw [← HMM.out] at h0 hge hlr
        have HNR := Aside0.mk hnr
        have hcase : Aside0 ((has q id = true ∧ nr + 1 = m) ∨ (has q id = false ∧ nr = m)) := ⟨by
          by_cases hlt : nr < m
          · exact .inl ⟨by rw [h0]; exact decide_eq_true hlt, by omega⟩
          · exact .inr ⟨by rw [h0]; exact decide_eq_false hlt, by omega⟩⟩
        have HRQ := Aside0.mk hq1
        clear h0 hq1 hnr hlr hge
        have hfin : Aside0 (∀ w0 : World, True) := ⟨fun _ => trivial⟩
        rcases hcase.out with ⟨hh, hm2⟩ | ⟨hh, hm2⟩
        all_goals
          rw [hh]
          subst hm2
          clear hh hcase
          have hnn : ((nr : Int) + 1 != (nr : Int) + 1) = false := by simp
          have hnn2 : ((nr : Int) + 1 == (nr : Int) + 1) = true := by simp
          have hnn3 : ((nr : Int) + 1 == (nr : Int)) = false := by simp; omega
          have hr60 : r.length ≤ 60 := by rw [HNR.out]; omega
          go_wp2_with fail
          refine hLen.out.mono ?_
          rintro e w4 ⟨rfl, rfl⟩
          go_wp2_with fail
          refine hLen.out.mono ?_
          rintro e w4 ⟨rfl, rfl⟩
          clear hLen
          go_wp2_with fail
          refine keyR1.out.mono ?_
          rintro e w6 ⟨v6, rfl, hM6⟩
          have HM6 := Aside0.mk hM6
          have keyR2 := Aside0.mk (Remove_call (q := r) id hM6 (by omega) hr3.out)
          rw [hr1.out, hr2.out] at keyR2
          clear hM6
          go_wp2_with fail
          refine keyR2.out.mono ?_
          rintro e w7 ⟨v7, rfl, hM7⟩
          have HM7 := Aside0.mk hM7
          clear hM7
          go_wp2_with fail
          refine (items_of (q := r) HM7.out (by omega)).mono ?_
          rintro e w8 ⟨A8, c8, rfl, hc8, hC8, hM8⟩
          have HM8 := Aside0.mk hM8
          have HC8 := Aside0.mk hC8
          clear hM8 hC8
          go_wp2_with fail
          refine (items_call HM8.out HC8.out rfl hc8 (by omega)).mono ?_
          rintro e w9 ⟨A9, c9, rfl, hM9⟩
          obtain ⟨hc9, hC9⟩ := hM9.readsE
          have HB9 := Aside0.mk hM9.below
          have hCr9 := hM9.drop.drop.drop.drop.drop.readsE
          have HK9 := Aside0.mk (same_call (q := r) hC9 hCr9.2 rfl rfl hc9 hCr9.1 (by omega))
          rw [HNR.out] at HK9
          clear hM9 hC9 hCr9
          go_wp2_with fail
          rw [HNR.out]
          refine HK9.out.mono ?_
          rintro e w10 ⟨rfl, hb10⟩
          have HB10 := Aside0.mk (below_step HB9.out hb10)
          clear hb10 HK9
          go_wp2_with fail
          refine (examples_call _).mono ?_
          rintro e w11 ⟨rfl, hb11⟩
          have HB11 := Aside0.mk (below_step HB10.out hb11)
          clear hb11
          go_wp2_with fail
          go_ret
          exact ⟨rfl, HB11.out⟩
theorem Replaces_row {G G' G'' : Prop} (A : Option Addr) (c : Nat) (l : List S27) (id dl : Int) (W : World) (hr : k27.C W A l.length l) (hc : l.length ≤ c) (g : G) (g' : G') (g'' : G'') :
    Calls Try.prog 8 #[.slice A l.length c, .int .i64 id, .int .i64 dl] W fun e w' => e = .returned (.bool true) ∧ Below W.heap.size W w' := Replaces_law id dl hr
end Go.Proofs.Yteneigadnabolaa.QAl
