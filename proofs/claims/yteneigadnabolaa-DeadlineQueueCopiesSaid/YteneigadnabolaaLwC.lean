/- DeadlineQueueCopies: the law answers true. -/
import Derived.Test.YteneigadnabolaaLwA
namespace Go.Proofs.Yteneigadnabolaa.QAl
open Go.RowKit Go.Proofs.YteneigadnabolaaW.PrintWords Go.Proofs.YteneigadnabolaaW.PrintLast Go.Proofs.YteneigadnabolaaW.PrintMore Go.Proofs.Yteneigadnabolaa.Sl
set_option linter.unusedVariables false
set_option linter.unusedSimpArgs false
def RunR (W : World) (l : List S27) (gq : Nat) (vi vl : Value) (wr : World) : Prop :=
  ∃ j : Nat, j ≤ l.length ∧ vi = .int .i64 (j : Int) ∧ ∃ v, Mem W wr (both W gq v vl (runQ (l.take j)) [])
def CopR (W : World) (q : List Dq.It) (gq : Nat) (v lv : Value) (A : Option Addr) (c : Nat) (vi : Value) (wr : World) : Prop :=
  ∃ j : Nat, j ≤ q.length ∧ vi = .int .i64 (j : Int) ∧ Mem W wr (row W k30 30 (.slice A q.length c) (q.map un) :: both W gq v lv q [])
set_option maxRecDepth 100000 in
set_option maxHeartbeats 1500000 in
theorem Copies_law {W : World} {A : Option Addr} {c : Nat} {l : List S27} (hC : k27.C W A l.length l) :
    Calls Try.prog 9 #[.slice A l.length c] W fun e w' => e = .returned (.bool true) ∧ Below W.heap.size W w' := by
  obtain ⟨n, hn⟩ : ∃ n, n = l.length := ⟨_, rfl⟩
  have HN := Aside0.mk hn
  have HC := Aside0.mk hC
  rw [← hn]
  clear hC hn
  by_cases hbig : 60 < n
  · have h1 : decide ((60 : Int) < (n : Int)) = true := decide_eq_true (by omega)
    have h2 : decide (60 < n) = true := decide_eq_true hbig
    clear hbig
    go_enter Try.func9, Try.ntmps9
    go_wp2_with (first
      | (go_at_call 10; refine (New_call (Mem.start W)).mono ?_; rintro e w1 ⟨gq, rfl, h1⟩; have HM1 := Aside0.mk h1; clear h1)
      | (go_at_call 11; refine (examples_call _).mono ?_; rintro e w2 ⟨rfl, hb2⟩; have HB2 := Aside0.mk hb2; clear hb2))
    go_ret
    exact ⟨rfl, below_step HM1.out.below HB2.out⟩
  · have h1 : decide ((60 : Int) < (n : Int)) = false := decide_eq_false (by omega)
    have h2 : decide (60 < n) = false := decide_eq_false hbig
    have hn60 : n ≤ 60 := by omega
    clear hbig
    go_enter Try.func9, Try.ntmps9
    go_wp2_with (go_at_call 10; refine (New_call (Mem.start W)).mono ?_; rintro e w1 ⟨gq, rfl, h1⟩; have HM1 := Aside0.mk (h1.q_nil k36 36).q2; clear h1)
    go_loopw [4, 24] (fun vl vi wr => RunR W l gq vi vl wr) (fun _ vi _ => n - (intOf vi).toNat)
    case atStart => exact ⟨0, Nat.zero_le _, rfl, _, HM1.out⟩
    case round =>
      obtain ⟨j, hj, rfl, v, hM⟩ := hrel
      rw [← HN.out] at hj
      clear HM1
      obtain ⟨A36, c36, rfl, _, _⟩ := hM.p2.q_reads
      have hm : ((runQ (l.take j)).map u36).length = (runQ (l.take j)).length := List.length_map _
      generalize ((runQ (l.take j)).map u36).length = m at *
      have HMM := Aside0.mk hm
      have hro := runQ_ok l j (by rw [← HN.out]; exact hn60)
      have HO := Aside0.mk hro.1
      have hlq := hro.2
      rw [← hm] at hlq
      clear hro hm
      by_cases hlt : j < n
      · have hjl : j < l.length := by rw [← HN.out]; exact hlt
        have hst := Aside0.mk (runQ_succ l j hjl)
        obtain ⟨b, o, rfl, x0, x1, x2⟩ := op_at (Kd.C_below HC.out hM.below) hjl
        generalize l.getD j z27 = a at *
        have hbw : b < wr.heap.size := World.block_lt_of_cell? wr _ x0
        have HMb := Aside0.mk (hM.new (.cells #[.int .i64 a.f0, .int .i64 a.f1, .int .i64 a.f2] 27)).q3
        clear hM
        go_wp2_with fail
        refine (Do_call a.f0 a.f1 a.f2 HMb.out (by rw [← HMM.out]; omega) HO.out).mono ?_
        rintro e w2 ⟨v2, lv2, rfl, hM2⟩
        have HM2 := Aside0.mk hM2.p3.drop
        clear hM2
        go_wp2_with fail
        go_roundw
        case rel => exact ⟨j + 1, by omega, by first | go_num | (congr 1), v2, by rw [hst.out]; exact HM2.out⟩
        case measure => simp [intOf]; omega
      · obtain rfl : j = n := by omega
        have hq : runQ (l.take j) = runQ l := by rw [List.take_of_length_le (by rw [← HN.out]; exact Nat.le_refl _)]
        rw [hq] at hM HO HMM
        generalize runQ l = q at *
        have HM := Aside0.mk hM
        clear hM hq hlt hj
        go_wp2_with fail
        refine (items_of HM.out (by rw [← HMM.out]; omega)).mono ?_
        rintro e w2 ⟨Ai, ci, rfl, hci, hCi, hM2⟩
        rw [← HMM.out] at hci hCi hM2 ⊢
        have HM2 := Aside0.mk hM2
        clear hM2 hCi HM
        go_wp2_with fail
        go_loopw [39] (fun vi wr => CopR W q gq v (.slice A36 m c36) Ai ci vi wr) (fun vi _ => m - (intOf vi).toNat)
        case atStart => exact ⟨0, Nat.zero_le _, rfl, by rw [← HMM.out]; exact HM2.out⟩
        case round =>
          obtain ⟨k, hk, rfl, hM⟩ := hrel
          rw [← HMM.out] at hk hM
          clear HM2
          by_cases hlt : k < m
          · obtain ⟨xi, xd, hx⟩ : ∃ xi xd, q.getD k (0, 0) = (xi, xd) := ⟨_, _, rfl⟩
            have hkq : k < q.length := by rw [← HMM.out]; exact hlt
            have hxq : q[k] = (xi, xd) := by rw [← hx, List.getD_eq_getElem?_getD, List.getElem?_eq_getElem hkq]; rfl
            obtain ⟨b, o, rfl, x0, x1⟩ := item_at hM.readsE.2 hlt
            rw [getD_un q k hkq, hxq] at x0 x1
            replace x0 : wr.cell? ⟨b, o + k * 2, none⟩ = some (.int .i64 xi) := x0
            replace x1 : wr.cell? ⟨b, o + k * 2 + 1, none⟩ = some (.int .i64 xd) := x1
            have hbw : b < wr.heap.size := World.block_lt_of_cell? wr _ x0
            have HMb := Aside0.mk ((hM.new (.cells #[.int .i64 xi, .int .i64 xd] 30)).c2)
            have mixed : Try.prog.follows Departure.mixedOrders = true := by kernel_rfl
            have HGD := Aside0.mk (show (q.map un).getD k z30 = ⟨xi, xd⟩ by rw [getD_un q k hkq, hxq]; rfl)
            clear hM hx hxq hkq
            go_wp2_with fail
            refine wp_region_held_drew (S := fun W_ => W_.heap[wr.heap.size]? = some (.cells #[.int .i64 xi, .int .i64 xd] 30 (0, 0))) (by kernel_rfl) HMb.out.drop.drop.drop.get (fun hS => ?_)
            refine wpAnyH_take (i := 0) (oi := { dst := some 44, op := Op.move (Operand.tmp 3), type := 23, pos := "law.go:203", after := #[], guard := none }) (v := ?_) rfl (by kernel_rfl) (by kernel_rfl) (by kernel_rfl) (fun _ _ _ h => h) (Or.inl ⟨by rfl, ?_⟩) hS ?_
            rotate_left
            · intro W_ hSW_
              go_simp
              try with_reducible rfl
            try simp only [Act.put, List.setIfInBounds_toArray, List.set_cons_zero, List.set_cons_succ]
            refine wpAnyH_take (i := 2) (oi := { dst := some 46, op := Op.move (Operand.tmp 7), type := 3, pos := "law.go:203", after := #[], guard := none }) (v := ?_) rfl (by kernel_rfl) (by kernel_rfl) (by kernel_rfl) (fun _ _ _ h => h) (Or.inl ⟨by rfl, ?_⟩) hS ?_
            rotate_left
            · intro W_ hSW_
              go_simp
              try with_reducible rfl
            try simp only [Act.put, List.setIfInBounds_toArray, List.set_cons_zero, List.set_cons_succ]
            refine wpAnyH_take (i := 3) (oi := { dst := some 47, op := Op.fieldAddr 30 (Operand.tmp 8) 0, type := 0, pos := "law.go:203", after := #[], guard := none }) (v := ?_) rfl (by kernel_rfl) (by kernel_rfl) (by kernel_rfl) (fun _ _ _ h => h) (Or.inl ⟨by rfl, ?_⟩) hS ?_
            rotate_left
            · intro W_ hSW_
              go_simp
              try with_reducible rfl
            try simp only [Act.put, List.setIfInBounds_toArray, List.set_cons_zero, List.set_cons_succ]
            refine wpAnyH_take (i := 4) (oi := { dst := some 48, op := Op.load 3 (Operand.tmp 47), type := 3, pos := "law.go:203", after := #[{ on := 3, ground := Ground.data }], guard := none }) (v := ?_) rfl (by kernel_rfl) (by kernel_rfl) (by kernel_rfl) (fun _ _ _ h => h) (Or.inl ⟨by rfl, ?_⟩) hS ?_
            rotate_left
            · intro W_ hSW_
              have e0 := blk_cell hSW_ 0
              go_simp
              try with_reducible rfl
            try simp only [Act.put, List.setIfInBounds_toArray, List.set_cons_zero, List.set_cons_succ]
            refine wpAnyH_take (i := 5) (oi := { dst := some 49, op := Op.binOp BinOp.add 3 (Operand.tmp 48) (Operand.const (Value.int IntKind.i64 1)) 3, type := 3, pos := "law.go:203", after := #[{ on := 4, ground := Ground.data }], guard := none }) (v := ?_) rfl (by kernel_rfl) (by kernel_rfl) (by kernel_rfl) (fun _ _ _ h => h) (Or.inl ⟨by rfl, ?_⟩) hS ?_
            rotate_left
            · intro W_ hSW_
              go_simp
              try with_reducible rfl
            try simp only [Act.put, List.setIfInBounds_toArray, List.set_cons_zero, List.set_cons_succ]
            refine wpAnyH_take (i := 6) (oi := { dst := some 50, op := Op.build 30 #[(0, Operand.tmp 49)], type := 30, pos := "law.go:203", after := #[{ on := 5, ground := Ground.data }], guard := none }) (v := ?_) rfl (by kernel_rfl) (by kernel_rfl) (by kernel_rfl) (fun _ _ _ h => h) (Or.inl ⟨by rfl, ?_⟩) hS ?_
            rotate_left
            · intro W_ hSW_
              go_simp
              try with_reducible rfl
            try simp only [Act.put, List.setIfInBounds_toArray, List.set_cons_zero, List.set_cons_succ]
            refine wpAnyH_ready (rs := [1]) (by kernel_rfl) (by simp) ?_
            refine AllReadyH.cons (o := { dst := some 45, op := Op.call { callee := Callee.value (Operand.func 24), args := #[Operand.tmp 44], argTypes := #[23] }, type := 38, pos := "law.go:203", after := #[{ on := 0, ground := Ground.data }], guard := none }) rfl (fun K_ hK_ => ?_) AllReadyH.nil
            go_simp
            refine (items_of (w0 := W) (L := [qrow W k36 36 (.slice A36 m c36) (q.map u36), ob wr.heap.size (.cells #[.int .i64 xi, .int .i64 xd] 30), row W k30 30 (.slice (some ⟨b, o, none⟩) m ci) (q.map un)]) HMb.out.drew (by rw [← HMM.out]; omega)).mono ?_
            rintro e w3 ⟨A3, c3, rfl, hc3, hC3, hM3⟩
            rw [← HMM.out] at hc3 hC3 hM3 ⊢
            obtain ⟨g3, _, e3, _⟩ := hM3.row_form (by rw [List.length_map, ← HMM.out]; omega)
            injection e3 with e3 e3b e3c
            clear e3b e3c
            subst e3
            obtain ⟨b3, o3, e3, y0, y1⟩ := item_at hC3 hlt
            injection e3 with e3
            injection e3 with e3 e4
            subst e3 e4
            rw [HGD.out, Nat.zero_add] at y0 y1
            obtain ⟨cells, hM4⟩ := hM3.row_blk
            have f0 := blk_frozen hM4.get (k * 2)
            have f1 := blk_frozen hM4.get (k * 2 + 1)
            have hbx := hM4.drop.drop.drop.drop.get
            have hne3 := hM4.p1.drop.p1.drop.p1.drop.ne
            have HM4 := Aside0.mk hM4
            have hkq : k < q.length := by rw [← HMM.out]; exact hlt
            have yc0 : (w3.cell? ⟨g3, k * 2, none⟩).isSome = true := by rw [y0]; rfl
            clear hM3 hM4 hC3
            refine hK_.out _ _ (hbx) (fun hS_ => ?_)
            clear hK_ K_ hS
            have hS := hS_
            clear hS_
            try simp only [Act.put, List.setIfInBounds_toArray, List.set_cons_zero, List.set_cons_succ]
            refine wpAnyH_take (i := 7) (oi := { dst := some 51, op := Op.indexAddr 38 (Operand.tmp 45) (Operand.tmp 46), type := 0, pos := "law.go:203", after := #[{ on := 1, ground := Ground.data }, { on := 2, ground := Ground.data }, { on := 0, ground := Ground.phase }, { on := 1, ground := Ground.phase }, { on := 2, ground := Ground.phase }, { on := 3, ground := Ground.phase }, { on := 4, ground := Ground.phase }, { on := 5, ground := Ground.phase }, { on := 6, ground := Ground.phase }], guard := none }) (v := ?_) rfl (by kernel_rfl) (by kernel_rfl) (by kernel_rfl) (fun _ _ _ h => h) (Or.inl ⟨by rfl, ?_⟩) hS ?_
            rotate_left
            · intro W_ hSW_
              go_simp
              try with_reducible rfl
            try simp only [Act.put, List.setIfInBounds_toArray, List.set_cons_zero, List.set_cons_succ]
            refine wpAnyH_ready (rs := [8]) (by kernel_rfl) (by simp) ?_
            refine AllReadyH.cons (o := { dst := none, op := Op.store 30 (Operand.tmp 51) (Operand.tmp 50), type := 0, pos := "law.go:203", after := #[{ on := 7, ground := Ground.data }, { on := 6, ground := Ground.data }, { on := 1, ground := Ground.chain }, { on := 0, ground := Ground.phase }, { on := 1, ground := Ground.phase }, { on := 2, ground := Ground.phase }, { on := 3, ground := Ground.phase }, { on := 4, ground := Ground.phase }, { on := 5, ground := Ground.phase }, { on := 6, ground := Ground.phase }], guard := none }) rfl (fun K_ hK_ => ?_) AllReadyH.nil
            have i0 : (0 : Int) ≤ (k : Int) := by omega
            go_simp
            refine hK_.out _ _ (blk_far (blk_far hbx (fun e => hne3 e.symm) _) (fun e => hne3 e.symm) _) (fun hS_ => ?_)
            clear hK_ K_ hS
            have hS := hS_
            clear hS_
            try simp only [Act.put, List.setIfInBounds_toArray, List.set_cons_zero, List.set_cons_succ]
            refine wpAnyH_done (by kernel_rfl) ?_ _
            have HM5 := Aside0.mk (Mem.u2 (L := [blk gq #[v] 62, qrow W k30 30 v (q.map un), qrow W k36 36 (.slice A36 m c36) (q.map u36)]) ((HM4.out.put (k * 2) (.int .i64 (wrap64 (xi + 1))) rfl).put (k * 2 + 1) (.int .i64 0) rfl).drop).drop
            clear y0 y1 yc0 hbx hne3 x0 x1
            go_wp2_with fail
            go_roundw
            case rel => exact ⟨k + 1, by rw [← HMM.out]; exact hlt, by first | go_num | (congr 1), by rw [← HMM.out]; exact HM5.out⟩
            case measure => simp [intOf]; omega
          · obtain rfl : k = m := by omega
            have HM3 := Aside0.mk hM.drop
            have hlk : q.length < 1000000 := by rw [← HMM.out]; omega
            have hkl : q.length ≤ 1000 := by rw [← HMM.out]; omega
            clear hM hlt hk
            go_wp2_with fail
            refine (items_of HM3.out hkl).mono ?_
            rintro e w4 ⟨A4, c4, rfl, hc4, hC4, hM4⟩
            have HM4 := Aside0.mk hM4
            have HC4 := Aside0.mk hC4
            clear hM4 hC4
            go_wp2_with fail
            refine (items_call HM4.out HC4.out rfl hc4 hlk).mono ?_
            rintro e w5 ⟨A5, c5, rfl, hM5⟩
            obtain ⟨hc5, hC5⟩ := hM5.readsE
            obtain ⟨hz36, hc36, hC36⟩ := hM5.drop.drop.drop.drop.q_C
            clear hz36
            have HK36 := Aside0.mk (same_call hC5 hC36 rfl HMM.out hc5 (by rw [List.length_map] at hc36; rw [HMM.out]; exact hc36) hlk)
            have HM5 := Aside0.mk hM5
            have hc36' : k ≤ c36 := by rw [List.length_map] at hc36; rw [HMM.out]; exact hc36
            clear hM5 hC5 hC36 hc36
            go_wp2_with fail
            refine HK36.out.mono ?_
            rintro e w6 ⟨rfl, hb6⟩
            have HM6 := Aside0.mk (HM5.out.step hb6)
            have HC6 := Aside0.mk (HM6.out.drop.drop.drop.drop.q_C.2.2)
            clear hb6 HK36
            go_wp2_with fail
            refine (back_call HM6.out HC6.out HMM.out hc36' hlk).mono ?_
            rintro e w7 ⟨A7, c7, rfl, hM7⟩
            have HM7 := Aside0.mk hM7
            have HL := Aside0.mk (Len_call (hM7.drop.drop.drop))
            rw [List.length_map] at HL
            clear hM7
            go_wp2_with fail
            refine HL.out.mono ?_
            rintro e w8 ⟨rfl, rfl⟩
            go_wp2_with fail
            refine (examples_call _).mono ?_
            rintro e w9 ⟨rfl, hb9⟩
            have HB9 := Aside0.mk (below_step HM7.out.below hb9)
            clear hb9
            go_wp2_with fail
            go_ret
            exact ⟨rfl, HB9.out⟩
theorem Copies_row {G : Prop} (A : Option Addr) (c : Nat) (l : List S27) (W : World) (hr : k27.C W A l.length l) (hc : l.length ≤ c) (g : G) :
    Calls Try.prog 9 #[.slice A l.length c] W fun e w' => e = .returned (.bool true) ∧ Below W.heap.size W w' := Copies_law hr
end Go.Proofs.Yteneigadnabolaa.QAl
