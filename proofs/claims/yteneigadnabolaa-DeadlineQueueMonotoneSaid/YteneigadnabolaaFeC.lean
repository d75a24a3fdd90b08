/- The reference's Feasible and Meets: contracts. -/
import Derived.Test.YteneigadnabolaaFeB
import Derived.Test.YteneigadnabolaaFeP
import Derived.Test.YteneigadnabolaaDoA
namespace Go.Proofs.Yteneigadnabolaa.QAl
open Go.RowKit Go.Proofs.YteneigadnabolaaW.PrintWords Go.Proofs.YteneigadnabolaaW.PrintLast Go.Proofs.YteneigadnabolaaW.PrintMore Go.Proofs.Yteneigadnabolaa.Sl
set_option linter.unusedVariables false
set_option linter.unusedSimpArgs false
variable {L : List Chunk}
theorem getD_u36 (q : List Dq.It) (j : Nat) (h : j < q.length) : (q.map u36).getD j z36 = u36 q[j] := by
  rw [List.getD_eq_getElem?_getD, List.getElem?_map, List.getElem?_eq_getElem h]
  rfl
theorem vld_lt {t : Int} (h : vld t = true) : 0 ≤ t ∧ t ≤ 1099511627776 := by unfold vld at h; simpa using h
def MeR (f : Int → Int) (q : List Dq.It) (now : Int) (W : World) (v0 vi : Value) (wr : World) : Prop :=
  ∃ (j : Nat) (t : Int), j ≤ q.length ∧ vi = .int .i64 (j : Int) ∧ v0 = .int .i64 t ∧ 0 ≤ t ∧ t ≤ 1099511627776 ∧ Aside0 (meets f now q = meets f t (q.drop j)) ∧ Below W.heap.size W wr
set_option maxRecDepth 100000 in
set_option maxHeartbeats 2000000 in
theorem Meets_call {w0 W : World} {g n : Nat} {f : Int → Int} {A : Option Addr} {c m : Nat} {l : List Dq.It} (now : Int) (hM : Mem w0 W (imap g n f :: L)) (hC : k36.C W A m (l.map u36)) (hm : m = l.length) (hl : l.length ≤ 40)
    (hw : ∀ x ∈ l, (Lit.int .i64 x.1).wf = true) (hok : ∀ x ∈ l, okJ f x = true) (hn : vld now = true) :
    Calls Try.prog 20 #[.int .i64 now, .slice A m c, .map (some g)] W fun e w' => e = .returned (.bool (meets f now l)) ∧ Below W.heap.size W w' := by
  have HM := Aside0.mk hM
  have HC := Aside0.mk hC
  have HW := Aside0.mk hw
  have HOK := Aside0.mk hok
  have HMM := Aside0.mk hm
  have hm40 : m ≤ 40 := by omega
  obtain ⟨hn0, hn1⟩ := vld_lt hn
  clear hM hC hw hok hm hl hn
  go_enter Try.func20, Try.ntmps20
  go_wp2_with fail
  go_loopw [0, 11] (fun v0 vi wr => MeR f l now W v0 vi wr) (fun _ vi _ => m - (intOf vi).toNat)
  case atStart => exact ⟨0, now, Nat.zero_le _, rfl, rfl, hn0, hn1, ⟨rfl⟩, Below.refl _ _⟩
  case round =>
    obtain ⟨k, t, hk, rfl, rfl, ht0, ht1, hrun, hBr⟩ := hrel
    rw [← HMM.out] at hk
    have HBr := Aside0.mk hBr
    by_cases hlt : k < m
    · have hkq : k < l.length := by rw [← HMM.out]; exact hlt
      obtain ⟨xi, xd, hx⟩ : ∃ xi xd, l[k] = (xi, xd) := ⟨_, _, rfl⟩
      have hxl : (xi, xd) ∈ l := hx ▸ List.getElem_mem hkq
      obtain ⟨b, o, rfl, x0, x1⟩ := item36_at (Kd.C_below HC.out hBr) hlt
      rw [getD_u36 l k hkq, hx] at x0 x1
      replace x0 : wr.cell? ⟨b, o + k * 2, none⟩ = some (.int .i64 xi) := x0
      replace x1 : wr.cell? ⟨b, o + k * 2 + 1, none⟩ = some (.int .i64 xd) := x1
      have hwx : (Lit.int .i64 xi).wf = true := HW.out _ hxl
      have hok := HOK.out _ hxl
      have hfv : (0 ≤ f xi ∧ f xi ≤ 1099511627776) ∧ xd ≤ 1099511627776 := by
        unfold okJ at hok
        rw [Bool.and_eq_true] at hok
        exact ⟨vld_lt hok.2, (vld_lt hok.1).2⟩
      obtain ⟨⟨hf0, hf1⟩, hxd⟩ := hfv
      have hlk : (Instr.lookup 45 (.map (some g)) (.int .i64 xi) false).run Try.prog (wr.alloc (.cells #[.int .i64 xi, .int .i64 xd] 36)) = .ok (.int .i64 (f xi)) (wr.alloc (.cells #[.int .i64 xi, .int .i64 xd] 36)) :=
        imap_look ((HM.out.step hBr).alloc (.cells #[.int .i64 xi, .int .i64 xd] 36)) xi hwx
      have hstep : Aside0 (meets f now l = if xd < t + f xi then false else meets f (t + f xi) (l.drop (k + 1))) := ⟨by
        rw [hrun.out, List.drop_eq_getElem_cons hkq, hx]; rfl⟩
      have hw1 : IntKind.i64.wrap (t + f xi) = t + f xi := by rw [IntKind.wrap_i64]; omega
      clear hBr hx hxl hok hrun
      generalize f xi = d at *
      by_cases hlate : xd < t + d
      · have hl1 : decide (xd < t + d) = true := decide_eq_true hlate
        have HL := Aside0.mk hlate
        clear hlate
        go_wp2_with fail
        go_ret
        rw [hstep.out, if_pos HL.out]
        exact ⟨rfl, below_alloc HBr.out _⟩
      · have hl1 : decide (xd < t + d) = false := decide_eq_false hlate
        have HL := Aside0.mk hlate
        have ht : t + d ≤ 1099511627776 := by omega
        have ht' : 0 ≤ t + d := by omega
        clear hlate
        go_wp2_with fail
        go_roundw
        case rel => exact ⟨k + 1, t + d, hkq, by first | go_num | (congr 1), rfl, ht', ht, ⟨by rw [hstep.out, if_neg HL.out]⟩, below_alloc HBr.out _⟩
        case measure => simp [intOf]; omega
    · obtain rfl : k = m := by omega
      have hz : Aside0 (meets f now l = true) := ⟨by rw [hrun.out, List.drop_of_length_le (by rw [← HMM.out]; exact Nat.le_refl _)]; rfl⟩
      clear hrun hBr
      go_wp2_with fail
      go_ret
      rw [hz.out]
      exact ⟨rfl, HBr.out⟩
def RfR1 (f : Int → Int) (q : List Dq.It) (W : World) (vi : Value) (wr : World) : Prop :=
  ∃ j : Nat, j ≤ q.length ∧ vi = .int .i64 (j : Int) ∧ Aside0 (∀ x ∈ q.take j, okJ f x = true) ∧ Below W.heap.size W wr
set_option maxRecDepth 100000 in
set_option maxHeartbeats 4000000 in
theorem RefFeasible_call {w0 W : World} {g n : Nat} {f : Int → Int} {A : Option Addr} {c m : Nat} {l : List Dq.It} (now : Int) (hM : Mem w0 W (imap g n f :: L)) (hC : k36.C W A m (l.map u36)) (hm : m = l.length) (hc : m ≤ c) (hl : l.length ≤ 40)
    (hw : ∀ x ∈ l, (Lit.int .i64 x.1).wf = true) :
    Calls Try.prog 18 #[.int .i64 now, .slice A m c, .map (some g)] W fun e w' => e = .returned (.tuple #[.int .i64 (refFeas f now l).1, .int .i64 (refFeas f now l).2]) ∧ Below W.heap.size W w' := by
  have HM := Aside0.mk hM
  have HW := Aside0.mk hw
  obtain ⟨⟨qv, ok⟩, hev, hcase⟩ := sorted_ev l (by omega)
  obtain ⟨kf, hkf⟩ := hev.rounds
  subst hm
  have key := Aside0.mk (trickleref06_Sorted.calls kf A c (l.map u36) qv ok W (by rw [List.length_map]; exact hC) (by rw [List.length_map]; exact hc) hkf)
  rw [List.length_map] at key
  generalize hmm : l.length = m at *
  have HMM := Aside0.mk hmm
  clear hM hC hw hev hkf hmm
  rcases hcase with ⟨hb, hq⟩ | ⟨hb, hq⟩
  · obtain ⟨rfl, rfl⟩ := Prod.mk.inj hb
    have hqo := (queue_ok l).2
    have hwq : Aside0 (∀ y ∈ queue l, (Lit.int .i64 y.1).wf = true) := ⟨fun y hy => HW.out y (queue_mem hy)⟩
    have href : Aside0 (refFeas f now l = if vld now = true ∧ (queue l).all (okJ f) = true then runq f now (queue l) else (0, 1)) := ⟨by
      unfold refFeas
      rw [HMM.out]
      by_cases h : vld now = true ∧ (queue l).all (okJ f) = true
      · rw [if_pos h, if_pos ⟨hq, h⟩]
      · rw [if_neg h, if_neg (fun a => h a.2)]⟩
    generalize hqq : queue l = q at *
    have HQQ := Aside0.mk hq
    clear hb hqq hqo hq
    go_enter Try.func18, Try.ntmps18
    go_wp2_with fail
    refine key.out.mono ?_
    rintro e w2 ⟨v2, rfl, hR, hb2⟩
    have HB := Aside0.mk hb2
    obtain ⟨A2, c2, rfl, _, hC2⟩ := ((Mem.start W).row_made hb2 hR).readsN (n := m) (by rw [List.length_map]; exact HQQ.out)
    have HC2 := Aside0.mk hC2
    clear hR hb2 hC2 key
    by_cases hn0 : now < 0
    · have hd : decide (now < 0) = true := decide_eq_true hn0
      have hv : Aside0 (vld now = false) := ⟨decide_eq_false (by omega)⟩
      go_wp2_with fail
      go_ret2
      rw [href.out, if_neg (fun a => by rw [hv.out] at a; cases a.1)]
      exact ⟨rfl, HB.out⟩
    by_cases hn1 : 1099511627776 < now
    · have hd : decide (now < 0) = false := decide_eq_false hn0
      have hd2 : decide (1099511627776 < now) = true := decide_eq_true hn1
      have hv : Aside0 (vld now = false) := ⟨decide_eq_false (by omega)⟩
      go_wp2_with fail
      go_ret2
      rw [href.out, if_neg (fun a => by rw [hv.out] at a; cases a.1)]
      exact ⟨rfl, HB.out⟩
    have hd : decide (now < 0) = false := decide_eq_false hn0
    have hd2 : decide (1099511627776 < now) = false := decide_eq_false hn1
    have hv : Aside0 (vld now = true) := ⟨decide_eq_true (by omega)⟩
    have hnn0 : 0 ≤ now := by omega
    have hnn1 : now ≤ 1099511627776 := by omega
    clear hn0 hn1
    go_wp2_with fail
    go_loopw [32] (fun vi wr => RfR1 f q w2 vi wr) (fun vi _ => m - (intOf vi).toNat)
    case atStart => exact ⟨0, Nat.zero_le _, rfl, ⟨by simp⟩, Below.refl _ _⟩
    case round =>
      obtain ⟨k, hk, rfl, hall, hBr⟩ := hrel
      rw [HQQ.out] at hk
      have HBr := Aside0.mk hBr
      by_cases hlt : k < m
      · have hkq : k < q.length := by rw [HQQ.out]; exact hlt
        obtain ⟨xi, xd, hx⟩ : ∃ xi xd, q[k] = (xi, xd) := ⟨_, _, rfl⟩
        obtain ⟨b, o, rfl, x0, x1⟩ := item36_at (Kd.C_below HC2.out hBr) hlt
        rw [getD_u36 q k hkq, hx] at x0 x1
        replace x0 : wr.cell? ⟨b, o + k * 2, none⟩ = some (.int .i64 xi) := x0
        replace x1 : wr.cell? ⟨b, o + k * 2 + 1, none⟩ = some (.int .i64 xd) := x1
        have hwx : (Lit.int .i64 xi).wf = true := hwq.out (xi, xd) (hx ▸ List.getElem_mem hkq)
        have hlk : (Instr.lookup 45 (.map (some g)) (.int .i64 xi) false).run Try.prog (wr.alloc (.cells #[.int .i64 xi, .int .i64 xd] 36)) = .ok (.int .i64 (f xi)) (wr.alloc (.cells #[.int .i64 xi, .int .i64 xd] 36)) :=
          imap_look (((HM.out.step HB.out).step hBr).alloc (.cells #[.int .i64 xi, .int .i64 xd] 36)) xi hwx
        have hbad : Aside0 (okJ f (xi, xd) = false → refFeas f now l = (0, 1)) := ⟨fun h => by
          rw [href.out, if_neg]
          rintro ⟨_, h1⟩
          rw [List.all_eq_true] at h1
          have := h1 (xi, xd) (hx ▸ List.getElem_mem hkq)
          rw [h] at this
          cases this⟩
        have HX : Aside0 (∀ h : k < q.length, q[k] = (xi, xd)) := ⟨fun _ => hx⟩
        clear hBr hx hkq
        by_cases h1 : xd < 0
        · have d1 : decide (xd < 0) = true := decide_eq_true h1
          go_wp2_with fail
          go_ret2
          rw [hbad.out (by unfold okJ vld; dsimp only; rw [Bool.and_eq_false_iff]; first | exact .inl (decide_eq_false (by omega)) | exact .inr (decide_eq_false (by omega)))]
          exact ⟨rfl, below_step HB.out (below_alloc HBr.out _)⟩
        have d1 : decide (xd < 0) = false := decide_eq_false h1
        by_cases h2 : 1099511627776 < xd
        · have d2 : decide (1099511627776 < xd) = true := decide_eq_true h2
          go_wp2_with fail
          go_ret2
          rw [hbad.out (by unfold okJ vld; dsimp only; rw [Bool.and_eq_false_iff]; first | exact .inl (decide_eq_false (by omega)) | exact .inr (decide_eq_false (by omega)))]
          exact ⟨rfl, below_step HB.out (below_alloc HBr.out _)⟩
        have d2 : decide (1099511627776 < xd) = false := decide_eq_false h2
        by_cases h3 : f xi < 0
        · have d3 : decide (f xi < 0) = true := decide_eq_true h3
          go_wp2_with fail
          go_ret2
          rw [hbad.out (by unfold okJ vld; dsimp only; rw [Bool.and_eq_false_iff]; first | exact .inl (decide_eq_false (by omega)) | exact .inr (decide_eq_false (by omega)))]
          exact ⟨rfl, below_step HB.out (below_alloc HBr.out _)⟩
        have d3 : decide (f xi < 0) = false := decide_eq_false h3
        by_cases h4 : 1099511627776 < f xi
        · have d4 : decide (1099511627776 < f xi) = true := decide_eq_true h4
          go_wp2_with fail
          go_ret2
          rw [hbad.out (by unfold okJ vld; dsimp only; rw [Bool.and_eq_false_iff]; first | exact .inl (decide_eq_false (by omega)) | exact .inr (decide_eq_false (by omega)))]
          exact ⟨rfl, below_step HB.out (below_alloc HBr.out _)⟩
        have d4 : decide (1099511627776 < f xi) = false := decide_eq_false h4
        have hgood : Aside0 (okJ f (xi, xd) = true) := ⟨by unfold okJ vld; dsimp only; rw [Bool.and_eq_true]; exact ⟨decide_eq_true (by omega), decide_eq_true (by omega)⟩⟩
        go_wp2_with fail
        go_roundw
        case rel => exact ⟨k + 1, by rw [HQQ.out]; omega, by first | go_num | (congr 1), ⟨fun y hy => by
          rw [List.take_succ_eq_append_getElem (by rw [HQQ.out]; exact hlt), HX.out (by rw [HQQ.out]; exact hlt)] at hy
          rcases List.mem_append.1 hy with hy | hy
          · exact hall.out y hy
          · rw [List.mem_singleton.1 hy]; exact hgood.out⟩, below_alloc HBr.out _⟩
        case measure => simp [intOf]; omega
      · obtain rfl : k = m := by omega
        have hal : Aside0 (∀ x ∈ q, okJ f x = true) := ⟨by have := hall.out; rwa [List.take_of_length_le (by rw [HQQ.out]; exact Nat.le_refl _)] at this⟩
        have hrf : Aside0 (refFeas f now l = runq f now q) := ⟨by rw [href.out, if_pos ⟨hv.out, List.all_eq_true.2 hal.out⟩]⟩
        have HC3 := Aside0.mk (Kd.C_below HC2.out hBr)
        have HB3 := Aside0.mk (below_step HB.out hBr)
        clear hBr hall hlt hk
        go_wp2_with fail
        go_loopw [0, 59] (fun v0 vi wr2 => FeL2 f q now wr v0 vi wr2) (fun _ vi _ => k - (intOf vi).toNat)
        case atStart => exact ⟨0, now, Nat.zero_le _, rfl, rfl, hnn0, hnn1, ⟨rfl⟩, Below.refl _ _⟩
        case round =>
          obtain ⟨i, t, hi, rfl, rfl, ht0, ht1, hrun, hBr⟩ := hrel
          rw [HQQ.out] at hi
          have HBr2 := Aside0.mk hBr
          by_cases hlt : i < k
          · have hkq : i < q.length := by rw [HQQ.out]; exact hlt
            obtain ⟨xi, xd, hx⟩ : ∃ xi xd, q[i] = (xi, xd) := ⟨_, _, rfl⟩
            have hxl : (xi, xd) ∈ q := hx ▸ List.getElem_mem hkq
            obtain ⟨b, o, rfl, x0, x1⟩ := item36_at (Kd.C_below HC3.out hBr) hlt
            rw [getD_u36 q i hkq, hx] at x0 x1
            replace x0 : wr.cell? ⟨b, o + i * 2, none⟩ = some (.int .i64 xi) := x0
            replace x1 : wr.cell? ⟨b, o + i * 2 + 1, none⟩ = some (.int .i64 xd) := x1
            have hwx : (Lit.int .i64 xi).wf = true := hwq.out _ hxl
            have hok := hal.out _ hxl
            have hfv : (0 ≤ f xi ∧ f xi ≤ 1099511627776) ∧ xd ≤ 1099511627776 := by
              unfold okJ at hok
              rw [Bool.and_eq_true] at hok
              exact ⟨vld_lt hok.2, (vld_lt hok.1).2⟩
            obtain ⟨⟨hf0, hf1⟩, hxd⟩ := hfv
            have hlk : (Instr.lookup 45 (.map (some g)) (.int .i64 xi) false).run Try.prog (wr.alloc (.cells #[.int .i64 xi, .int .i64 xd] 36)) = .ok (.int .i64 (f xi)) (wr.alloc (.cells #[.int .i64 xi, .int .i64 xd] 36)) :=
              imap_look (((HM.out.step HB3.out).step hBr).alloc (.cells #[.int .i64 xi, .int .i64 xd] 36)) xi hwx
            have hstep : Aside0 (runq f now q = if xd < t + f xi then (xi, 14) else runq f (t + f xi) (q.drop (i + 1))) := ⟨by
              rw [hrun.out, List.drop_eq_getElem_cons hkq, hx]; rfl⟩
            have hw1 : IntKind.i64.wrap (t + f xi) = t + f xi := by rw [IntKind.wrap_i64]; omega
            clear hBr hx hxl hok hrun
            generalize f xi = d at *
            by_cases hlate : xd < t + d
            · have hl1 : decide (xd < t + d) = true := decide_eq_true hlate
              have HL := Aside0.mk hlate
              clear hlate
              go_wp2_with fail
              go_ret2
              rw [hrf.out, hstep.out, if_pos HL.out]
              exact ⟨rfl, below_step HB3.out (below_alloc HBr2.out _)⟩
            · have hl1 : decide (xd < t + d) = false := decide_eq_false hlate
              have HL := Aside0.mk hlate
              have ht : t + d ≤ 1099511627776 := by omega
              have ht' : 0 ≤ t + d := by omega
              clear hlate
              go_wp2_with fail
              go_roundw
              case rel => exact ⟨i + 1, t + d, hkq, by first | go_num | (congr 1), rfl, ht', ht, ⟨by rw [hstep.out, if_neg HL.out]⟩, below_alloc HBr2.out _⟩
              case measure => simp [intOf]; omega
          · obtain rfl : i = k := by omega
            have hz : Aside0 (runq f now q = (0, 0)) := ⟨by rw [hrun.out, List.drop_of_length_le (by rw [HQQ.out]; exact Nat.le_refl _)]; rfl⟩
            clear hrun hBr
            go_wp2_with fail
            go_ret2
            rw [hrf.out, hz.out]
            exact ⟨rfl, below_step HB3.out HBr2.out⟩
  · obtain ⟨rfl, rfl⟩ := Prod.mk.inj hb
    have href : Aside0 (refFeas f now l = (0, 1)) := ⟨by unfold refFeas; rw [HMM.out, if_neg (fun a => hq a.1)]⟩
    clear hb hq
    go_enter Try.func18, Try.ntmps18
    go_wp2_with fail
    refine key.out.mono ?_
    rintro e w2 ⟨v2, rfl, hR, hb2⟩
    have HB := Aside0.mk hb2
    obtain ⟨A2, c2, rfl, _, _⟩ := ((Mem.start W).row_made hb2 hR).reads
    clear hR hb2 key
    go_wp2_with fail
    go_ret2
    rw [href.out]
    exact ⟨rfl, HB.out⟩
end Go.Proofs.Yteneigadnabolaa.QAl
