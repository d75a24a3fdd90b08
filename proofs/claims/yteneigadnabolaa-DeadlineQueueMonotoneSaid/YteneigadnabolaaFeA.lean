/- deadlinequeue.Feasible: what it computes, and its contract. -/
import Derived.Test.YteneigadnabolaaDqK
import Derived.Test.YteneigadnabolaaMp
namespace Go.Proofs.Yteneigadnabolaa.QAl
open Go.RowKit Go.Proofs.YteneigadnabolaaW.PrintWords Go.Proofs.YteneigadnabolaaW.PrintLast Go.Proofs.YteneigadnabolaaW.PrintMore Go.Proofs.Yteneigadnabolaa.Sl
set_option linter.unusedVariables false
set_option linter.unusedSimpArgs false
variable {L : List Chunk}
theorem New_call {w0 W : World} (hM : Mem w0 W L) : Calls Try.prog 10 #[] W fun e w' => ∃ g, e = .returned (.pointer (some ⟨g, 0, none⟩)) ∧ Mem w0 w' (que w0 g (.slice none 0 0) [] L) := by
  have HM := Aside0.mk hM
  clear hM
  go_enter Try.func10, Try.ntmps10
  go_wp2_with fail
  go_ret
  exact ⟨_, rfl, (HM.out.q_nil k30 30).new _⟩
/-- Times and durations in range. -/
def vld (t : Int) : Bool := decide (0 ≤ t ∧ t ≤ 1099511627776)
theorem valid_call (t : Int) (w : World) : Calls Try.prog 31 #[.int .i64 t] w fun e w' => e = .returned (.bool (vld t)) ∧ w = w' := by
  by_cases h1 : 0 ≤ t
  · have e : vld t = decide (t ≤ 1099511627776) := by unfold vld; rw [decide_eq_decide]; exact ⟨fun h => h.2, fun h => ⟨h1, h⟩⟩
    rw [e]
    go_enter Try.func31, Try.ntmps31
    go_wp2_with fail
    go_ret
    exact ⟨rfl, rfl⟩
  · have e : vld t = false := decide_eq_false (fun h => h1 h.1)
    have h1b : decide (0 ≤ t) = false := decide_eq_false h1
    rw [e]
    go_enter Try.func31, Try.ntmps31
    go_wp2_with fail
    go_ret
    exact ⟨rfl, rfl⟩
def okJ (f : Int → Int) (x : Dq.It) : Bool := vld x.2 && vld (f x.1)
def runq (f : Int → Int) : Int → List Dq.It → Int × Int
  | _, [] => (0, 0)
  | now, x :: l => if x.2 < now + f x.1 then (x.1, 14) else runq f (now + f x.1) l
def queue (l : List Dq.It) : List Dq.It := l.foldl Dq.push []
def feas (f : Int → Int) (now : Int) (l : List Dq.It) : Int × Int :=
  if l.all (okJ f) = true ∧ vld now = true ∧ (queue l).length = l.length then runq f now (queue l) else (0, 1)
theorem queue_snoc (l : List Dq.It) (x : Dq.It) : queue (l ++ [x]) = Dq.push (queue l) x := by simp [queue, List.foldl_append]
theorem push_len (q : List Dq.It) (x : Dq.It) : (Dq.push q x).length ≤ q.length + 1 := by
  unfold Dq.push
  rw [Dq.ins_len]
  have := rm_len q x.1
  omega
theorem fold_ok : ∀ (l q : List Dq.It), Dq.Ok q → Dq.Ok (l.foldl Dq.push q) ∧ (l.foldl Dq.push q).length ≤ q.length + l.length
  | [], q, h => ⟨h, Nat.le_refl _⟩
  | x :: l, q, h => by
    have := push_len q x
    have ih := fold_ok l (Dq.push q x) (h.push x)
    exact ⟨ih.1, by rw [List.length_cons]; simp only [List.foldl_cons]; omega⟩
theorem queue_ok (l : List Dq.It) : Dq.Ok (queue l) ∧ (queue l).length ≤ l.length := by
  have := fold_ok l [] Dq.Ok.nil
  exact ⟨this.1, by unfold queue; simpa using this.2⟩
theorem queue_take (l : List Dq.It) (j : Nat) (h : j < l.length) : queue (l.take (j + 1)) = Dq.push (queue (l.take j)) l[j] := by
  rw [List.take_succ_eq_append_getElem h, queue_snoc]
theorem map_take_un (l : List Dq.It) (j : Nat) : (queue (l.take j)).length ≤ l.length := by
  have := (queue_ok (l.take j)).2
  rw [List.length_take] at this
  omega
def FeL1 (f : Int → Int) (W : World) (gq : Nat) (l : List Dq.It) (v16 : Value) (wr : World) : Prop :=
  ∃ j : Nat, j ≤ l.length ∧ v16 = .int .i64 (j : Int) ∧ (∃ v, Mem W wr (que W gq v ((queue (l.take j)).map un) [])) ∧ Aside0 (∀ x ∈ l.take j, okJ f x = true)
theorem fold_mem : ∀ (l q : List Dq.It) (y : Dq.It), y ∈ l.foldl Dq.push q → y ∈ q ∨ y ∈ l
  | [], q, y, h => .inl h
  | x :: l, q, y, h => by
    rcases fold_mem l (Dq.push q x) y h with h | h
    · rcases Dq.push_mem.1 h with rfl | h
      · exact .inr (List.mem_cons_self ..)
      · exact .inl h.1
    · exact .inr (List.mem_cons_of_mem _ h)
theorem queue_mem {l : List Dq.It} {y : Dq.It} (h : y ∈ queue l) : y ∈ l := (fold_mem l [] y h).resolve_left (by simp)
def FeL2 (f : Int → Int) (q : List Dq.It) (now : Int) (wq : World) (v0 v51 : Value) (wr : World) : Prop :=
  ∃ (j : Nat) (t : Int), j ≤ q.length ∧ v51 = .int .i64 (j : Int) ∧ v0 = .int .i64 t ∧ 0 ≤ t ∧ t ≤ 1099511627776 ∧ Aside0 (runq f now q = runq f t (q.drop j)) ∧ Below wq.heap.size wq wr
set_option maxRecDepth 100000 in
set_option maxHeartbeats 4000000 in
theorem Feasible_call {w0 W : World} {g n : Nat} {f : Int → Int} {A : Option Addr} {c : Nat} {l : List Dq.It} (now : Int) (hM : Mem w0 W (mpc 3 (Elt.int (P := Try.prog) (e := 2) (q := .i64) Try.underlying2) 0 g n f :: L))
    (hC : k30.C W A l.length (l.map un)) (hl : l.length ≤ 40) (hw : ∀ x ∈ l, (Lit.int .i64 x.1).wf = true) :
    Calls Try.prog 16 #[.int .i64 now, .slice A l.length c, .map (some g)] W fun e w' => e = .returned (.tuple #[.int .i64 (feas f now l).1, .int .i64 (feas f now l).2]) ∧ Below W.heap.size W w' := by
  have HM := Aside0.mk hM
  have HC := Aside0.mk hC
  have HW := Aside0.mk hw
  obtain ⟨m, hm⟩ : ∃ m, m = l.length := ⟨_, rfl⟩
  have HMM := Aside0.mk hm
  have hm40 : m ≤ 40 := by omega
  rw [← hm]
  clear hM hC hw hm hl
  go_enter Try.func16, Try.ntmps16
  go_wp2_with (refine (New_call (Mem.start W)).mono ?_; rintro e w1 ⟨gq, rfl, h1⟩; have HM1 := Aside0.mk h1; clear h1)
  go_loopw [16] (fun v16 wr => FeL1 f W gq l v16 wr) (fun v16 _ => m - (intOf v16).toNat)
  case atStart => exact ⟨0, Nat.zero_le _, rfl, ⟨_, HM1.out⟩, ⟨by simp⟩⟩
  case round =>
    obtain ⟨j, hj, rfl, ⟨v, hMq⟩, hall⟩ := hrel
    clear HM1
    rw [← HMM.out] at hj
    by_cases hlt : j < m
    · have hjl : j < l.length := by rw [← HMM.out]; exact hlt
      obtain ⟨xi, xd, hx⟩ : ∃ xi xd, l[j] = (xi, xd) := ⟨_, _, rfl⟩
      obtain ⟨b, o, rfl, x0, x1⟩ := item_at (Kd.C_below HC.out hMq.below) hjl
      rw [getD_un l j hjl, hx] at x0 x1
      replace x0 : wr.cell? ⟨b, o + j * 2, none⟩ = some (.int .i64 xi) := x0
      replace x1 : wr.cell? ⟨b, o + j * 2 + 1, none⟩ = some (.int .i64 xd) := x1
      have hwx : (Lit.int .i64 xi).wf = true := HW.out (xi, xd) (hx ▸ List.getElem_mem hjl)
      have hbw : b < wr.heap.size := World.block_lt_of_cell? wr _ x0
      have hlook := Aside0.mk (((HM.out.step hMq.below).alloc (.cells #[.int .i64 xi, .int .i64 xd] 30)).map_look (t := 45) (Go.Maps.int_keyed Try.underlying3) Try.underlying45 (by kernel_rfl) (by kernel_rfl) Try.underlying3 xi hwx)
      have HMb := Aside0.mk (hMq.new (.cells #[.int .i64 xi, .int .i64 xd] 30))
      clear hMq
      go_wp2_with fail
      refine (valid_call _ _).mono ?_
      rintro e w2 ⟨rfl, rfl⟩
      have hbad : Aside0 (okJ f (xi, xd) = false → feas f now l = (0, 1)) := ⟨fun h => by
        unfold feas
        rw [if_neg]
        rintro ⟨h1, _⟩
        rw [List.all_eq_true] at h1
        have := h1 (xi, xd) (hx ▸ List.getElem_mem hjl)
        rw [h] at this
        cases this⟩
      have hBx := Aside0.mk (HMb.out.below)
      by_cases hv : vld xd = true
      · rw [hv]
        have HV := Aside0.mk hv
        clear hv
        have hlk : (Instr.lookup 45 (.map (some g)) (.int .i64 xi) false).run Try.prog (wr.alloc (.cells #[.int .i64 xi, .int .i64 xd] 30)) = .ok (.int .i64 (f xi)) (wr.alloc (.cells #[.int .i64 xi, .int .i64 xd] 30)) := hlook.out
        go_wp2_with fail
        clear hlk
        refine (valid_call _ _).mono ?_
        rintro e w2 ⟨rfl, rfl⟩
        by_cases hv : vld (f xi) = true
        · rw [hv]
          have HV2 := Aside0.mk hv
          clear hv
          go_wp2_with fail
          have HQ := Aside0.mk (queue_ok (l.take j)).1
          have hql := map_take_un l j
          rw [← HMM.out] at hql
          refine (Push_call ⟨xi, xd⟩ HMb.out.q2 (by omega) HQ.out).mono ?_
          rintro e w3 ⟨v3, rfl, hM3⟩
          have HM3 := Aside0.mk hM3.p2.drop
          clear hM3
          go_wp2_with fail
          go_roundw
          case rel => exact ⟨j + 1, by have := HMM.out; omega, by first | go_num | (congr 1), ⟨v3, by rw [queue_take l j hjl, hx]; exact HM3.out⟩, ⟨fun y hy => by
            rw [List.take_succ_eq_append_getElem hjl, hx] at hy
            rcases List.mem_append.1 hy with hy | hy
            · exact hall.out y hy
            · rw [List.mem_singleton.1 hy]; unfold okJ; rw [HV.out, HV2.out]; rfl⟩⟩
          case measure => simp [intOf]; omega
        · have hv : vld (f xi) = false := by simpa using hv
          rw [hv]
          have HV2 := Aside0.mk hv
          clear hv
          go_wp2_with fail
          go_ret2
          rw [hbad.out (by unfold okJ; rw [HV.out, HV2.out]; rfl)]
          exact ⟨rfl, hBx.out⟩
      · have hv : vld xd = false := by simpa using hv
        rw [hv]
        have HV := Aside0.mk hv
        clear hv
        go_wp2_with fail
        go_ret2
        rw [hbad.out (by unfold okJ; rw [HV.out]; rfl)]
        exact ⟨rfl, hBx.out⟩
    · obtain rfl : j = m := by omega
      have hq : queue (l.take j) = queue l := by rw [List.take_of_length_le (by rw [← HMM.out]; omega)]
      have hal : Aside0 (∀ x ∈ l, okJ f x = true) := ⟨by have := hall.out; rwa [List.take_of_length_le (by rw [← HMM.out]; omega)] at this⟩
      rw [hq] at hMq
      have hql := (queue_ok l).2
      rw [← HMM.out] at hql
      have HB := Aside0.mk hMq.below
      have HMq := Aside0.mk hMq
      obtain ⟨q, hqq⟩ : ∃ q, queue l = q := ⟨_, rfl⟩
      have HQQ := Aside0.mk hqq
      have hqm : Aside0 (∀ y ∈ q, y ∈ l) := ⟨fun y hy => queue_mem (by rw [hqq]; exact hy)⟩
      rw [hqq] at HMq hql
      have hfe : Aside0 (feas f now l = if vld now = true ∧ q.length = j then runq f now q else (0, 1)) := ⟨by
        unfold feas
        rw [hqq, show l.all (okJ f) = true from List.all_eq_true.2 hal.out, HMM.out]
        simp only [true_and]⟩
      obtain ⟨A', c', e', hnc, hCq⟩ := HMq.out.p1.q_reads
      obtain ⟨nq, hnq⟩ : ∃ nq, nq = (q.map un).length := ⟨_, rfl⟩
      have hnq' : nq = q.length := by rw [hnq, List.length_map]
      have keyL := Aside0.mk (Len_call HMq.out)
      rw [e', ← hnq] at HMq
      rw [← hnq] at keyL
      have HNQ := Aside0.mk hnq'
      have HNQ2 := Aside0.mk hnq
      have HCQ := Aside0.mk hCq
      have z0 := blk_cell HMq.out.get 0
      clear hlt hall hMq hq hqq hnq hnq' e' hCq hnc
      go_wp2_with fail
      refine (valid_call _ _).mono ?_
      rintro e w2 ⟨rfl, rfl⟩
      by_cases hv : vld now = true
      · rw [hv]
        have HV := Aside0.mk hv
        clear hv
        go_wp2_with fail
        refine keyL.out.mono ?_
        rintro e w2 ⟨rfl, rfl⟩
        by_cases hne : nq = j
        · have HNE := Aside0.mk hne
          have hd : ((nq : Int) != (j : Int)) = false := by simp [hne]
          have hd2 : (nq != j) = false := by simp [hne]
          have hr : Aside0 (feas f now l = runq f now q) := ⟨by rw [hfe.out, if_pos ⟨HV.out, by rw [← HNQ.out]; exact HNE.out⟩]⟩
          have hnow : 0 ≤ now ∧ now ≤ 1099511627776 := by have := HV.out; unfold vld at this; simpa using this
          obtain ⟨hn0, hn1⟩ := hnow
          clear hne
          go_wp2_with fail
          go_loopw [0, 51] (fun v0 v51 wr => FeL2 f q now w2 v0 v51 wr) (fun _ v51 _ => nq - (intOf v51).toNat)
          case atStart => exact ⟨0, now, Nat.zero_le _, rfl, rfl, hn0, hn1, ⟨rfl⟩, Below.refl _ _⟩
          case round =>
            obtain ⟨k, t, hk, rfl, rfl, ht0, ht1, hrun, hBr⟩ := hrel
            rw [← HNQ.out] at hk
            have HBr := Aside0.mk hBr
            by_cases hlt : k < nq
            · have hkq : k < q.length := by rw [← HNQ.out]; exact hlt
              obtain ⟨xi, xd, hx⟩ : ∃ xi xd, q[k] = (xi, xd) := ⟨_, _, rfl⟩
              have hxl : (xi, xd) ∈ l := hqm.out _ (hx ▸ List.getElem_mem hkq)
              have hCr := Kd.C_below HCQ.out hBr
              rw [← HNQ2.out] at hCr
              obtain ⟨b, o, rfl, x0, x1⟩ := item_at hCr hlt
              rw [getD_un q k hkq, hx] at x0 x1
              replace x0 : wr.cell? ⟨b, o + k * 2, none⟩ = some (.int .i64 xi) := x0
              replace x1 : wr.cell? ⟨b, o + k * 2 + 1, none⟩ = some (.int .i64 xd) := x1
              have hwx : (Lit.int .i64 xi).wf = true := HW.out _ hxl
              have hok := hal.out _ hxl
              have hfv : 0 ≤ f xi ∧ f xi ≤ 1099511627776 := by
                unfold okJ vld at hok
                simp only [Bool.and_eq_true, decide_eq_true_eq] at hok
                exact hok.2
              have hxd : xd ≤ 1099511627776 := by
                unfold okJ vld at hok
                simp only [Bool.and_eq_true, decide_eq_true_eq] at hok
                exact hok.1.2
              obtain ⟨hf0, hf1⟩ := hfv
              have hlk : (Instr.lookup 45 (.map (some g)) (.int .i64 xi) false).run Try.prog (wr.alloc (.cells #[.int .i64 xi, .int .i64 xd] 30)) = .ok (.int .i64 (f xi)) (wr.alloc (.cells #[.int .i64 xi, .int .i64 xd] 30)) :=
                (((HM.out.step HB.out).step hBr).alloc (.cells #[.int .i64 xi, .int .i64 xd] 30)).map_look (t := 45) (Go.Maps.int_keyed Try.underlying3) Try.underlying45 (by kernel_rfl) (by kernel_rfl) Try.underlying3 xi hwx
              have hstep : Aside0 (runq f now q = if xd < t + f xi then (xi, 14) else runq f (t + f xi) (q.drop (k + 1))) := ⟨by
                rw [hrun.out, List.drop_eq_getElem_cons hkq, hx]; rfl⟩
              have hw1 : IntKind.i64.wrap (t + f xi) = t + f xi := by rw [IntKind.wrap_i64]; omega
              clear hBr hCr hx hxl hok hrun
              generalize f xi = d at *
              by_cases hlate : xd < t + d
              · have hl1 : decide (xd < t + d) = true := decide_eq_true hlate
                have HL := Aside0.mk hlate
                clear hlate
                go_wp2_with fail
                go_ret2
                rw [hr.out, hstep.out, if_pos HL.out]
                exact ⟨rfl, below_step HB.out (below_alloc HBr.out _)⟩
              · have hl1 : decide (xd < t + d) = false := decide_eq_false hlate
                have HL := Aside0.mk hlate
                have ht : t + d ≤ 1099511627776 := by omega
                have ht' : 0 ≤ t + d := by omega
                clear hlate
                go_wp2_with fail
                go_roundw
                case rel => exact ⟨k + 1, t + d, hkq, by first | go_num | (congr 1), rfl, ht', ht, ⟨by rw [hstep.out, if_neg HL.out]⟩, below_alloc HBr.out _⟩
                case measure => simp [intOf]; omega
            · obtain rfl : k = nq := by omega
              have hz : runq f now q = (0, 0) := by rw [hrun.out, List.drop_of_length_le (by rw [← HNQ.out]; exact Nat.le_refl _)]; rfl
              have HZ := Aside0.mk hz
              clear hz hrun hBr
              go_wp2_with fail
              go_ret2
              rw [hr.out, HZ.out]
              exact ⟨rfl, below_step HB.out HBr.out⟩
        · have HNE := Aside0.mk hne
          have hd : ((nq : Int) != (j : Int)) = true := by simp; omega
          have hd2 : (nq != j) = true := by simp [hne]
          clear hne
          go_wp2_with fail
          go_ret2
          rw [hfe.out, if_neg (by rintro ⟨_, h⟩; exact HNE.out (by rw [HNQ.out, h]))]
          exact ⟨rfl, HB.out⟩
      · have hv : vld now = false := by simpa using hv
        rw [hv]
        have HV := Aside0.mk hv
        clear hv
        go_wp2_with fail
        go_ret2
        rw [hfe.out, if_neg (by rw [HV.out]; simp)]
        exact ⟨rfl, HB.out⟩
end Go.Proofs.Yteneigadnabolaa.QAl
