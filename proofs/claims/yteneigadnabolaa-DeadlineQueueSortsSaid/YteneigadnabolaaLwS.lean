/- DeadlineQueueSorts: the law answers true. -/
import Derived.Test.YteneigadnabolaaLwA
namespace Go.Proofs.Yteneigadnabolaa.QAl
open Go.RowKit Go.Proofs.YteneigadnabolaaW.PrintWords Go.Proofs.YteneigadnabolaaW.PrintLast Go.Proofs.YteneigadnabolaaW.PrintMore Go.Proofs.Yteneigadnabolaa.Sl
set_option linter.unusedVariables false
set_option linter.unusedSimpArgs false
def pr (o : S27) : Dq.It := (o.f1, o.f2)
theorem has_take (q : List Dq.It) (k : Nat) (h : k < q.length) (id : Int) : has (q.take (k + 1)) id = if id = q[k].1 then true else has (q.take k) id := by
  rw [List.take_succ_eq_append_getElem h]
  unfold has
  rw [List.any_append]
  by_cases e : id = q[k].1
  · rw [if_pos e]; simp [e]
  · rw [if_neg e]
    have : (q[k].1 == id) = false := by simpa using fun h => e h.symm
    simp [this]
theorem has_new {q : List Dq.It} (h : Dq.Ok q) (k : Nat) (hk : k < q.length) : has (q.take k) q[k].1 = false := by
  refine has_false (fun y hy => ?_)
  obtain ⟨i, hi, rfl⟩ := List.mem_iff_getElem.1 hy
  rw [List.length_take] at hi
  rw [List.getElem_take]
  exact List.pairwise_iff_getElem.1 h.ids i k (by omega) hk (by omega)
theorem bef_next {q : List Dq.It} (h : Dq.Ok q) (k : Nat) (hk : k + 1 < q.length) : Dq.bef (q[k]'(by omega)) q[k + 1] := List.pairwise_iff_getElem.1 h.sorted k (k + 1) (by omega) hk (by omega)
theorem has_mem {q : List Dq.It} {y : Dq.It} (h : y ∈ q) : has q y.1 = true := by
  unfold has
  rw [List.any_eq_true]
  exact ⟨y, h, by simp⟩
theorem has_pushS (q : List Dq.It) (x : Dq.It) : has (Dq.push q x) x.1 = true := by
  unfold has
  rw [List.any_eq_true]
  exact ⟨x, Dq.push_mem.2 (.inl rfl), by simp⟩
theorem has_push_of {q : List Dq.It} {id : Int} (x : Dq.It) (h : has q id = true) : has (Dq.push q x) id = true := by
  unfold has at h ⊢
  rw [List.any_eq_true] at h ⊢
  obtain ⟨y, hy, he⟩ := h
  have he : y.1 = id := by simpa using he
  by_cases e : y.1 = x.1
  · exact ⟨x, Dq.push_mem.2 (.inl rfl), by simp; omega⟩
  · exact ⟨y, Dq.push_mem.2 (.inr ⟨hy, e⟩), by simpa using he⟩
theorem has_fold : ∀ (l q : List Dq.It) (id : Int), has q id = true ∨ (∃ y ∈ l, y.1 = id) → has (l.foldl Dq.push q) id = true
  | [], q, id, h => by
    rcases h with h | ⟨y, hy, _⟩
    · exact h
    · cases hy
  | x :: l, q, id, h => by
    refine has_fold l (Dq.push q x) id ?_
    rcases h with h | ⟨y, hy, he⟩
    · exact .inl (has_push_of x h)
    · rcases List.mem_cons.1 hy with rfl | hy
      · exact .inl (by rw [← he]; exact has_pushS q y)
      · exact .inr ⟨y, hy, he⟩
theorem has_queue {l : List Dq.It} {y : Dq.It} (h : y ∈ l) : has (queue l) y.1 = true := has_fold l [] y.1 (.inr ⟨y, h, rfl⟩)
def SrR1 (W : World) (l : List S27) (gq : Nat) (vi : Value) (wr : World) : Prop :=
  ∃ j : Nat, j ≤ l.length ∧ vi = .int .i64 (j : Int) ∧ ∃ v, Mem W wr (que W gq v ((queue ((l.map pr).take j)).map un) [])
@[reducible] def bmap (g n : Nat) (f : Int → Bool) : Chunk := mpc 3 (Elt.bool (P := Try.prog) (e := 4) Try.underlying4) false g n f
/-- The last item popped. -/
def lastOf (q : List Dq.It) (k : Nat) : Dq.It := if k = 0 then (0, 0) else q.getD (k - 1) (0, 0)
def SrR2 (W : World) (q : List Dq.It) (gq g7 gm : Nat) (vi : Value) (wr : World) : Prop :=
  ∃ k : Nat, k ≤ q.length ∧ vi = .int .i64 (k : Int) ∧ ∃ v, Mem W wr (que W gq v ((q.drop k).map un) [blk g7 #[.int .i64 (lastOf q k).1, .int .i64 (lastOf q k).2] 30, bmap gm k (fun id => has (q.take k) id)])
def SrR3 (W : World) (l : List S27) (L : List Chunk) (vi : Value) (wr : World) : Prop :=
  ∃ j : Nat, j ≤ l.length ∧ vi = .int .i64 (j : Int) ∧ Mem W wr L
set_option maxRecDepth 100000 in
set_option maxHeartbeats 1500000 in
theorem Sorts_law {W : World} {A : Option Addr} {c : Nat} {l : List S27} (hC : k27.C W A l.length l) (hw : ∀ x ∈ l, (Lit.int .i64 x.f1).wf = true) :
    Calls Try.prog 3 #[.slice A l.length c] W fun e w' => e = .returned (.bool true) ∧ Below W.heap.size W w' := by
  obtain ⟨n, hn⟩ : ∃ n, n = l.length := ⟨_, rfl⟩
  have HN := Aside0.mk hn
  have HC := Aside0.mk hC
  have HW := Aside0.mk hw
  clear hw
  rw [← hn]
  clear hC hn
  by_cases hbig : 60 < n
  · have h1 : decide ((60 : Int) < (n : Int)) = true := decide_eq_true (by omega)
    have h2 : decide (60 < n) = true := decide_eq_true hbig
    clear hbig
    go_enter Try.func3, Try.ntmps3
    go_wp2_with (first
      | (go_at_call 10; refine (New_call (Mem.start W)).mono ?_; rintro e w1 ⟨gq, rfl, h1⟩; have HM1 := Aside0.mk h1; clear h1)
      | (go_at_call 11; refine (examples_call _).mono ?_; rintro e w2 ⟨rfl, hb2⟩; have HB2 := Aside0.mk hb2; clear hb2))
    go_ret
    exact ⟨rfl, below_step HM1.out.below HB2.out⟩
  · have h1 : decide ((60 : Int) < (n : Int)) = false := decide_eq_false (by omega)
    have h2 : decide (60 < n) = false := decide_eq_false hbig
    have hn60 : n ≤ 60 := by omega
    clear hbig
    go_enter Try.func3, Try.ntmps3
    go_wp2_with (go_at_call 10; refine (New_call (Mem.start W)).mono ?_; rintro e w1 ⟨gq, rfl, h1⟩; have HM1 := Aside0.mk h1; clear h1)
    go_loopw [29] (fun vi wr => SrR1 W l gq vi wr) (fun vi _ => n - (intOf vi).toNat)
    case atStart => exact ⟨0, Nat.zero_le _, rfl, _, HM1.out⟩
    case round =>
      obtain ⟨j, hj, rfl, v, hM⟩ := hrel
      rw [← HN.out] at hj
      clear HM1
      have hq0 := queue_ok ((l.map pr).take j)
      have HO := Aside0.mk hq0.1
      have hlq : (queue ((l.map pr).take j)).length ≤ 60 := by
        have h := hq0.2
        rw [List.length_take, List.length_map, ← HN.out] at h
        omega
      clear hq0
      by_cases hlt : j < n
      · have hjl : j < l.length := by rw [← HN.out]; exact hlt
        have hst : Aside0 (queue ((l.map pr).take (j + 1)) = Dq.push (queue ((l.map pr).take j)) (pr (l.getD j z27))) := ⟨by
          rw [queue_take _ j (by rw [List.length_map]; exact hjl), List.getElem_map, List.getD_eq_getElem?_getD, List.getElem?_eq_getElem hjl]
          rfl⟩
        obtain ⟨b, o, rfl, x0, x1, x2⟩ := op_at (Kd.C_below HC.out hM.below) hjl
        generalize l.getD j z27 = a at *
        have hbw : b < wr.heap.size := World.block_lt_of_cell? wr _ x0
        have HMb := Aside0.mk (hM.new (.cells #[.int .i64 a.f0, .int .i64 a.f1, .int .i64 a.f2] 27)).q2
        clear hM
        go_wp2_with fail
        refine (Push_call ⟨a.f1, a.f2⟩ HMb.out (by omega) HO.out).mono ?_
        rintro e w2 ⟨v2, rfl, hM2⟩
        have HM2 := Aside0.mk hM2.p2.drop
        clear hM2
        go_wp2_with fail
        go_roundw
        case rel => exact ⟨j + 1, by rw [← HN.out]; omega, by first | go_num | (congr 1), v2, by rw [hst.out]; exact HM2.out⟩
        case measure => simp [intOf]; omega
      · obtain rfl : j = n := by omega
        have hq : queue ((l.map pr).take j) = queue (l.map pr) := by rw [List.take_of_length_le (by rw [List.length_map, ← HN.out]; exact Nat.le_refl _)]
        rw [hq] at hM HO hlq
        have hall : Aside0 (∀ x ∈ l, has (queue (l.map pr)) x.f1 = true) := ⟨fun x hx => has_queue (List.mem_map_of_mem (f := pr) hx)⟩
        have hwq : Aside0 (∀ y ∈ queue (l.map pr), (Lit.int .i64 y.1).wf = true) := ⟨fun y hy => by
          obtain ⟨x, hx, rfl⟩ := List.mem_map.1 (queue_mem hy)
          exact HW.out x hx⟩
        generalize queue (l.map pr) = q at *
        have HM := Aside0.mk hM
        have hLen := Aside0.mk (Len_call hM)
        obtain ⟨m, hm⟩ : ∃ m, q.length = m := ⟨_, rfl⟩
        have HMM := Aside0.mk hm
        rw [List.length_map, hm] at hLen
        rw [hm] at hlq
        clear hM hq hlt hj hm
        go_wp2_with fail
        refine hLen.out.mono ?_
        rintro e w2 ⟨rfl, rfl⟩
        clear hLen
        have hmk := fun w => run_makeMap (P := Try.prog) 32 w
        obtain ⟨g7, hg7⟩ : ∃ g7, w2.heap.size = g7 := ⟨_, rfl⟩
        have HM2 := Aside0.mk ((HM.out.new_ (.cells #[.int .i64 0, .int .i64 0] 30) hg7).map_new_ (g := g7 + 1) 3 (Elt.bool (P := Try.prog) (e := 4) Try.underlying4) false (by rw [← hg7]; simp))
        have HG7 := Aside0.mk hg7
        clear hg7
        go_wp2_with fail
        rw [HG7.out]
        generalize g7 + 1 = gm at *
        clear hmk
        go_loopw [45] (fun vi wr => SrR2 W q gq g7 gm vi wr) (fun vi _ => m - (intOf vi).toNat)
        case atStart => exact ⟨0, Nat.zero_le _, rfl, _, HM2.out.p1.c2⟩
        case round =>
          obtain ⟨k, hk, rfl, v, hM⟩ := hrel
          rw [HMM.out] at hk
          clear HM2
          by_cases hlt : k < m
          · obtain ⟨xi, xd, hx⟩ : ∃ xi xd, q.getD k (0, 0) = (xi, xd) := ⟨_, _, rfl⟩
            have hkq : k < q.length := by rw [HMM.out]; exact hlt
            have hxq : q[k] = (xi, xd) := by rw [← hx, List.getD_eq_getElem?_getD, List.getElem?_eq_getElem hkq]; rfl
            have hdrop : (q.drop k).map un = un (xi, xd) :: (q.drop (k + 1)).map un := by rw [List.drop_eq_getElem_cons hkq, hxq]; rfl
            have hnew := has_new HO.out k hkq
            have hseen : (fun id => has (q.take (k + 1)) id) = fun id => if id = xi then true else has (q.take k) id := by
              funext id
              rw [has_take q k hkq, hxq]
            have hlast1 : lastOf q (k + 1) = (xi, xd) := by unfold lastOf; rw [if_neg (by omega)]; exact hx
            have hbef : 0 < k → Dq.bef (lastOf q k) (xi, xd) := fun h => by
              obtain ⟨k', rfl⟩ : ∃ k', k = k' + 1 := ⟨k - 1, by omega⟩
              have := bef_next HO.out k' hkq
              rw [hxq] at this
              unfold lastOf
              rw [if_neg (by omega), List.getD_eq_getElem?_getD, List.getElem?_eq_getElem (by omega)]
              exact this
            have hwx : (Lit.int .i64 xi).wf = true := hwq.out _ (hxq ▸ List.getElem_mem hkq)
            rw [hxq] at hnew
            have hnew : has (q.take k) xi = false := hnew
            obtain ⟨li, ld, hl⟩ : ∃ li ld, lastOf q k = (li, ld) := ⟨_, _, rfl⟩
            rw [hl] at hM hbef
            rw [hdrop] at hM
            have HM := Aside0.mk hM
            have HBEF := Aside0.mk hbef
            have HSEEN := Aside0.mk hseen
            have HNEW := Aside0.mk hnew
            have HLAST := Aside0.mk hlast1
            clear hM hbef hseen hnew hlast1 hl hx hxq hdrop hkq
            go_wp2_with fail
            refine (Pop_call HM.out).mono ?_
            rintro e w3 ⟨v3, rfl, hM3⟩
            have hp : pk (un (xi, xd) :: (q.drop (k + 1)).map un) = .tuple #[.agg #[.int .i64 xi, .int .i64 xd], .bool true] := rfl
            rw [hp]
            obtain ⟨N, hN⟩ : ∃ N, w3.heap.size = N := ⟨_, rfl⟩
            have hM4 : Mem W (w3.alloc (.cells #[.int .i64 xi, .int .i64 xd] 30)) (blk N #[.int .i64 xi, .int .i64 xd] 30 :: que W gq v3 ((q.drop (k + 1)).map un) [blk g7 #[.int .i64 li, .int .i64 ld] 30, bmap gm k (fun id => has (q.take k) id)]) := hM3.new_ (.cells #[.int .i64 xi, .int .i64 xd] 30) hN
            have hlk := hM4.drop.drop.drop.drop.map_look (t := 32) (Go.Maps.int_keyed Try.underlying3) Try.underlying32 (by kernel_rfl) (by kernel_rfl) Try.underlying3 xi hwx
            rw [HNEW.out] at hlk
            replace hlk : (Instr.lookup 32 (.map (some gm)) (.int .i64 xi) false).run Try.prog (w3.alloc (.cells #[.int .i64 xi, .int .i64 xd] 30)) = .ok (.bool false) (w3.alloc (.cells #[.int .i64 xi, .int .i64 xd] 30)) := hlk
            have z0 : w3.cell? ⟨g7, 0, none⟩ = some (.int .i64 li) := blk_cell hM3.drop.drop.get 0
            have z1 : w3.cell? ⟨g7, 1, none⟩ = some (.int .i64 ld) := blk_cell hM3.drop.drop.get 1
            have hg7 : g7 < w3.heap.size := hM3.drop.drop.lt
            have HM4 := Aside0.mk hM4
            have HNN := Aside0.mk hN
            clear hM3 hM4 hp HM hN
            by_cases hk0 : k = 0
            · subst hk0
              go_wp2_with fail
              have HMc := HM4
              clear z0 z1 hlk
              obtain ⟨w5, hr, hM5⟩ := (Mem.u1 (L := [blk N #[.int .i64 xi, .int .i64 xd] 30, blk gq #[v3] 62, qrow W k30 30 v3 ((q.drop (0 + 1)).map un), blk g7 #[.int .i64 li, .int .i64 ld] 30]) HMc.out).drew.map_put (t := 32) (Go.Maps.int_keyed Try.underlying3) Try.underlying32 Try.underlying3 (by omega) xi hwx true (by kernel_rfl)
              replace hr : (Instr.mapUpdate 32 (.map (some gm)) (.int .i64 xi) (.bool true)).run Try.prog _ = .ok () w5 := hr
              have a0 := blk_cell HMc.out.get 0
              have a1 := blk_cell HMc.out.get 1
              have b0 := blk_cell hM5.p1.get 0
              have b1 := blk_cell hM5.p1.get 1
              have d0 : w5.cell? ⟨g7, 0, none⟩ = some (.int .i64 li) := blk_cell hM5.drop.drop.drop.drop.get 0
              have d1 : w5.cell? ⟨g7, 1, none⟩ = some (.int .i64 ld) := blk_cell hM5.drop.drop.drop.drop.get 1
              have f0 := blk_frozen hM5.drop.drop.drop.drop.get 0
              have f1 := blk_frozen hM5.drop.drop.drop.drop.get 1
              have hneN : g7 ≠ N := (hM5.drop.p1.drop.p1.drop.ne).symm
              have hneN' : N ≠ g7 := fun h => hneN h.symm
              have HM5 := Aside0.mk hM5
              have mixed : Try.prog.follows Departure.mixedOrders = true := by kernel_rfl
              clear hM5
              rw [HNN.out]
              go_region_law_o (fail)
              all_goals
                have HM6 := Aside0.mk (((Mem.put (g := g7) HM5.out.c4 0 (.int .i64 xi) rfl).put 1 (.int .i64 xd) rfl).p2.drop.c2)
                clear a0 a1 b0 b1 d0 d1 f0 f1
                go_wp2_with fail
                go_roundw
                case rel => exact ⟨0 + 1, by rw [HMM.out]; omega, by first | go_num | (congr 1), v3, by rw [HSEEN.out, HLAST.out]; exact HM6.out⟩
                case measure => simp [intOf]; omega
            · have hkp : (0 : Int) < (k : Int) := by omega
              have hd1 : decide ((0 : Int) < (k : Int)) = true := decide_eq_true hkp
              have hd2 : decide (0 < k) = true := decide_eq_true (by omega)
              have HKP : Aside0 (0 < k) := ⟨by omega⟩
              go_wp2_with fail
              refine (trickleref06_Before.calls li ld xi xd true _ (by have := before_f (li, ld) (xi, xd); rw [decide_eq_true (HBEF.out HKP.out)] at this; exact this)).mono ?_
              rintro e w4 ⟨rfl, hb4⟩
              have HMc := Aside0.mk (HM4.out.step hb4)
              clear hb4
              go_wp2_with fail
              clear z0 z1 hlk
              obtain ⟨w5, hr, hM5⟩ := (Mem.u1 (L := [blk N #[.int .i64 xi, .int .i64 xd] 30, blk gq #[v3] 62, qrow W k30 30 v3 ((q.drop (k + 1)).map un), blk g7 #[.int .i64 li, .int .i64 ld] 30]) HMc.out).drew.map_put (t := 32) (Go.Maps.int_keyed Try.underlying3) Try.underlying32 Try.underlying3 (by omega) xi hwx true (by kernel_rfl)
              replace hr : (Instr.mapUpdate 32 (.map (some gm)) (.int .i64 xi) (.bool true)).run Try.prog _ = .ok () w5 := hr
              have a0 := blk_cell HMc.out.get 0
              have a1 := blk_cell HMc.out.get 1
              have b0 := blk_cell hM5.p1.get 0
              have b1 := blk_cell hM5.p1.get 1
              have d0 : w5.cell? ⟨g7, 0, none⟩ = some (.int .i64 li) := blk_cell hM5.drop.drop.drop.drop.get 0
              have d1 : w5.cell? ⟨g7, 1, none⟩ = some (.int .i64 ld) := blk_cell hM5.drop.drop.drop.drop.get 1
              have f0 := blk_frozen hM5.drop.drop.drop.drop.get 0
              have f1 := blk_frozen hM5.drop.drop.drop.drop.get 1
              have hneN : g7 ≠ N := (hM5.drop.p1.drop.p1.drop.ne).symm
              have hneN' : N ≠ g7 := fun h => hneN h.symm
              have HM5 := Aside0.mk hM5
              have mixed : Try.prog.follows Departure.mixedOrders = true := by kernel_rfl
              clear hM5
              rw [HNN.out]
              go_region_law_o (fail)
              all_goals
                have HM6 := Aside0.mk (((Mem.put (g := g7) HM5.out.c4 0 (.int .i64 xi) rfl).put 1 (.int .i64 xd) rfl).p2.drop.c2)
                clear a0 a1 b0 b1 d0 d1 f0 f1
                go_wp2_with fail
                go_roundw
                case rel => exact ⟨k + 1, by rw [HMM.out]; omega, by first | go_num | (congr 1), v3, by rw [HSEEN.out, HLAST.out]; exact HM6.out⟩
                case measure => simp [intOf]; omega
          · obtain rfl : k = m := by omega
            have hdr : (q.drop k).map un = [] := by rw [List.drop_of_length_le (by rw [HMM.out]; exact Nat.le_refl _)]; rfl
            have htk : (fun id => has (q.take k) id) = fun id => has q id := by rw [List.take_of_length_le (by rw [HMM.out]; exact Nat.le_refl _)]
            rw [hdr, htk] at hM
            have HM := Aside0.mk hM
            clear hM hdr htk hlt hk
            go_wp2_with fail
            go_loopw [86] (fun vi wr3 => SrR3 W l (que W gq v [] [blk g7 #[.int .i64 (lastOf q k).1, .int .i64 (lastOf q k).2] 30, bmap gm k (fun id => has q id)]) vi wr3) (fun vi _ => j - (intOf vi).toNat)
            case atStart => exact ⟨0, Nat.zero_le _, rfl, HM.out⟩
            case round =>
              obtain ⟨i, hi, rfl, hM⟩ := hrel
              rw [← HN.out] at hi
              clear HM
              by_cases hlt : i < j
              · have hil : i < l.length := by rw [← HN.out]; exact hlt
                have hmem : l.getD i z27 ∈ l := by rw [List.getD_eq_getElem?_getD, List.getElem?_eq_getElem hil]; exact List.getElem_mem hil
                have hwa := HW.out _ hmem
                have hsa := Aside0.mk (hall.out _ hmem)
                obtain ⟨b, o, rfl, x0, x1, x2⟩ := op_at (Kd.C_below HC.out hM.below) hil
                generalize l.getD i z27 = a at *
                have hbw : b < wr.heap.size := World.block_lt_of_cell? wr _ x0
                have hlk := (hM.drop.drop.drop.alloc (.cells #[.int .i64 a.f0, .int .i64 a.f1, .int .i64 a.f2] 27)).map_look (t := 32) (Go.Maps.int_keyed Try.underlying3) Try.underlying32 (by kernel_rfl) (by kernel_rfl) Try.underlying3 a.f1 hwa
                rw [hsa.out] at hlk
                replace hlk : (Instr.lookup 32 (.map (some gm)) (.int .i64 a.f1) false).run Try.prog (wr.alloc (.cells #[.int .i64 a.f0, .int .i64 a.f1, .int .i64 a.f2] 27)) = .ok (.bool true) (wr.alloc (.cells #[.int .i64 a.f0, .int .i64 a.f1, .int .i64 a.f2] 27)) := hlk
                have HMb := Aside0.mk (hM.alloc (.cells #[.int .i64 a.f0, .int .i64 a.f1, .int .i64 a.f2] 27))
                clear hM hmem hil
                go_wp2_with fail
                go_roundw
                case rel => exact ⟨i + 1, by rw [← HN.out]; omega, by first | go_num | (congr 1), HMb.out⟩
                case measure => simp [intOf]; omega
              · obtain rfl : i = j := by omega
                have HM := Aside0.mk hM
                have hLen := Aside0.mk (Len_call hM)
                rw [List.length_nil] at hLen
                clear hM hlt hi
                go_wp2_with fail
                refine hLen.out.mono ?_
                rintro e w6 ⟨rfl, rfl⟩
                go_wp2_with fail
                refine (examples_call _).mono ?_
                rintro e w7 ⟨rfl, hb7⟩
                have HB7 := Aside0.mk (below_step HM.out.below hb7)
                clear hb7
                go_wp2_with fail
                go_ret
                exact ⟨rfl, HB7.out⟩
theorem Sorts_row (A : Option Addr) (c : Nat) (l : List S27) (W : World) (hr : k27.C W A l.length l) (hc : l.length ≤ c)
    (g : l.length * Try.prog.bytesOf 27 ≤ reachBytes ∧ l.length ≤ maxLen ∧ ∀ x ∈ l, ((Lit.int .i64 x.f0).wf = true) ∧ ((Lit.int .i64 x.f1).wf = true) ∧ ((Lit.int .i64 x.f2).wf = true)) :
    Calls Try.prog 3 #[.slice A l.length c] W fun e w' => e = .returned (.bool true) ∧ Below W.heap.size W w' := Sorts_law hr (fun x hx => (g.2.2 x hx).2.1)
end Go.Proofs.Yteneigadnabolaa.QAl
