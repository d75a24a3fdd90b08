/- DeadlineQueueMatches: the law answers true. -/
import Derived.Test.YteneigadnabolaaLwA
namespace Go.Proofs.Yteneigadnabolaa.QAl
open Go.RowKit Go.Proofs.YteneigadnabolaaW.PrintWords Go.Proofs.YteneigadnabolaaW.PrintLast Go.Proofs.YteneigadnabolaaW.PrintMore Go.Proofs.Yteneigadnabolaa.Sl
set_option linter.unusedVariables false
set_option linter.unusedSimpArgs false
def RunR7 (W : World) (l : List S27) (gq : Nat) (vi vl : Value) (wr : World) : Prop :=
  ∃ j : Nat, j ≤ l.length ∧ vi = .int .i64 (j : Int) ∧ ∃ v, Mem W wr (both W gq v vl (runQ (l.take j)) [])
set_option maxRecDepth 100000 in
set_option maxHeartbeats 1500000 in
theorem Matches_law {W : World} {A : Option Addr} {c : Nat} {l : List S27} (hC : k27.C W A l.length l) :
    Calls Try.prog 7 #[.slice A l.length c] W fun e w' => e = .returned (.bool true) ∧ Below W.heap.size W w' := by
  obtain ⟨n, hn⟩ : ∃ n, n = l.length := ⟨_, rfl⟩
  have HN := Aside0.mk hn
  have HC := Aside0.mk hC
  rw [← hn]
  clear hC hn
  by_cases hbig : 60 < n
  · have h1 : decide ((60 : Int) < (n : Int)) = true := decide_eq_true (by omega)
    have h2 : decide (60 < n) = true := decide_eq_true hbig
    clear hbig
    go_enter Try.func7, Try.ntmps7
    go_wp2_with (first
      | (go_at_call 10; refine (New_call (Mem.start W)).mono ?_; rintro e w1 ⟨gq, rfl, h1⟩; have HM1 := Aside0.mk h1; clear h1)
      | (go_at_call 11; refine (examples_call _).mono ?_; rintro e w2 ⟨rfl, hb2⟩; have HB2 := Aside0.mk hb2; clear hb2))
    go_ret
    exact ⟨rfl, below_step HM1.out.below HB2.out⟩
  · have h1 : decide ((60 : Int) < (n : Int)) = false := decide_eq_false (by omega)
    have h2 : decide (60 < n) = false := decide_eq_false hbig
    have hn60 : n ≤ 60 := by omega
    clear hbig
    go_enter Try.func7, Try.ntmps7
    go_wp2_with (go_at_call 10; refine (New_call (Mem.start W)).mono ?_; rintro e w1 ⟨gq, rfl, h1⟩; have HM1 := Aside0.mk (h1.q_nil k36 36).q2; clear h1)
    go_loopw [4, 25] (fun vl vi wr => RunR7 W l gq vi vl wr) (fun _ vi _ => n - (intOf vi).toNat)
    case atStart => exact ⟨0, Nat.zero_le _, rfl, _, HM1.out⟩
    case round =>
      obtain ⟨j, hj, rfl, v, hM⟩ := hrel
      rw [← HN.out] at hj
      clear HM1
      obtain ⟨A36, c36, rfl, _, _⟩ := hM.p2.q_reads
      have hm : ((runQ (l.take j)).map Go.Proofs.Yteneigadnabolaa.QAl.u36).length = (runQ (l.take j)).length := List.length_map _
      generalize ((runQ (l.take j)).map Go.Proofs.Yteneigadnabolaa.QAl.u36).length = m at *
      have HMM := Aside0.mk hm
      have hro := runQ_ok l j (by rw [← HN.out]; exact hn60)
      have HO := Aside0.mk hro.1
      have hlq := hro.2
      rw [← hm] at hlq
      clear hro hm
      by_cases hlt : j < n
      · have hjl : j < l.length := by rw [← HN.out]; exact hlt
        have hst := Aside0.mk (runQ_succ l j hjl)
        obtain ⟨b, o, rfl, x0, x1, x2⟩ := op_at (Kd.C_below HC.out hM.below) hjl
        generalize l.getD j z27 = a at *
        have hbw : b < wr.heap.size := World.block_lt_of_cell? wr _ x0
        have HMb := Aside0.mk (hM.new (.cells #[.int .i64 a.f0, .int .i64 a.f1, .int .i64 a.f2] 27)).q3
        clear hM
        go_wp2_with fail
        refine (Do_call a.f0 a.f1 a.f2 HMb.out (by rw [← HMM.out]; omega) HO.out).mono ?_
        rintro e w2 ⟨v2, lv2, rfl, hM2⟩
        have hM2 := hM2.p3.drop
        have hro2 := runQ_ok l (j + 1) (by rw [← HN.out]; exact hn60)
        rw [hst.out] at hro2
        have hq60 := hro2.2
        have hq0 : stepQ (runQ (l.take j)) a.f0 (a.f1, a.f2) = stp (runQ (l.take j)) a := rfl
        rw [hq0] at hM2
        clear hro2 hq0
        generalize hqq : stp (runQ (l.take j)) a = q at *
        have hst2 : Aside0 (runQ (l.take (j + 1)) = q) := ⟨hst.out⟩
        obtain ⟨A3, c3, rfl, hc3, hC3⟩ := hM2.p2.q_reads
        obtain ⟨n3, hn3⟩ : ∃ n3, n3 = (q.map Go.Proofs.Yteneigadnabolaa.QAl.u36).length := ⟨_, rfl⟩
        have HN3 : Aside0 (n3 = q.length) := ⟨by rw [hn3, List.length_map]⟩
        rw [← hn3] at hM2 hC3 hc3 ⊢
        have HM2 := Aside0.mk hM2
        have HC3 := Aside0.mk hC3
        have hq61 : q.length ≤ 1000 := by omega
        have hqm : q.length < 1000000 := by omega
        clear hM2 hC3 hn3 hqq hst HMb
        go_wp2_with fail
        refine (Peek_call HM2.out).mono ?_
        rintro e w4 ⟨rfl, hb4⟩
        have hM4 := HM2.out.step hb4
        have hC4 := Kd.C_below HC3.out hb4
        clear hb4
        cases q with
        | nil =>
          have hp : pk (([] : List Dq.It).map un) = .tuple #[.agg #[.int .i64 0, .int .i64 0], .bool false] := rfl
          rw [hp]
          obtain ⟨b8, hb8⟩ : ∃ b8, w4.heap.size = b8 := ⟨_, rfl⟩
          have HM5 := Aside0.mk (hM4.new_ (.cells #[.int .i64 0, .int .i64 0] 30) hb8).q3.drew
          have hLen := Aside0.mk (Len_call HM5.out)
          rw [List.length_map, List.length_nil] at hLen
          obtain rfl : n3 = 0 := HN3.out
          have HB8 := Aside0.mk hb8
          clear hM4 hC4 hp hb8
          go_wp2_with fail
          rw [HB8.out]
          refine wp_region_held_drew (S := fun W_ => W_.heap[b8]? = some (.cells #[.int .i64 0, .int .i64 0] 30 (0, 0))) (by kernel_rfl) HM5.out.drop.drop.drop.get (fun hS => ?_)
          refine wpAnyH_take (i := 0) (oi := { dst := some 41, op := Op.move (Operand.tmp 7), type := 4, pos := "law.go:84", after := #[], guard := none }) (v := ?_) rfl (by kernel_rfl) (by kernel_rfl) (by kernel_rfl) (fun _ _ _ h => h) (Or.inl ⟨by rfl, ?_⟩) hS ?_
          rotate_left
          · intro W_ hSW_
            go_simp
            try with_reducible rfl
          try simp only [Act.put, List.setIfInBounds_toArray, List.set_cons_zero, List.set_cons_succ]
          refine wpAnyH_take (i := 1) (oi := { dst := some 42, op := Op.unOp UnOp.not 4 (Operand.tmp 41), type := 4, pos := "law.go:84", after := #[{ on := 0, ground := Ground.data }], guard := none }) (v := ?_) rfl (by kernel_rfl) (by kernel_rfl) (by kernel_rfl) (fun _ _ _ h => h) (Or.inl ⟨by rfl, ?_⟩) hS ?_
          rotate_left
          · intro W_ hSW_
            go_simp
            try with_reducible rfl
          try simp only [Act.put, List.setIfInBounds_toArray, List.set_cons_zero, List.set_cons_succ]
          refine wpAnyH_take (i := 2) (oi := { dst := some 43, op := Op.move (Operand.tmp 42), type := 4, pos := "law.go:84", after := #[{ on := 1, ground := Ground.data }], guard := none }) (v := ?_) rfl (by kernel_rfl) (by kernel_rfl) (by kernel_rfl) (fun _ _ _ h => h) (Or.inl ⟨by rfl, ?_⟩) hS ?_
          rotate_left
          · intro W_ hSW_
            go_simp
            try with_reducible rfl
          try simp only [Act.put, List.setIfInBounds_toArray, List.set_cons_zero, List.set_cons_succ]
          refine wpAnyH_take (i := 3) (oi := { dst := some 44, op := Op.move (Operand.tmp 3), type := 23, pos := "law.go:84", after := #[{ on := 2, ground := Ground.guard }], guard := some (2, false) }) (v := ?_) rfl (by kernel_rfl) (by kernel_rfl) (by kernel_rfl) (fun _ _ _ h => h) (Or.inl ⟨by rfl, ?_⟩) hS ?_
          rotate_left
          · intro W_ hSW_
            go_simp
            try with_reducible rfl
          try simp only [Act.put, List.setIfInBounds_toArray, List.set_cons_zero, List.set_cons_succ]
          refine wpAnyH_take (i := 5) (oi := { dst := some 46, op := Op.move (Operand.tmp 4), type := 48, pos := "law.go:84", after := #[{ on := 2, ground := Ground.guard }], guard := some (2, false) }) (v := ?_) rfl (by kernel_rfl) (by kernel_rfl) (by kernel_rfl) (fun _ _ _ h => h) (Or.inl ⟨by rfl, ?_⟩) hS ?_
          rotate_left
          · intro W_ hSW_
            go_simp
            try with_reducible rfl
          try simp only [Act.put, List.setIfInBounds_toArray, List.set_cons_zero, List.set_cons_succ]
          refine wpAnyH_take (i := 6) (oi := { dst := some 47, op := Op.call { callee := Callee.builtin Builtin.len, args := #[Operand.tmp 46], argTypes := #[48] }, type := 3, pos := "law.go:84", after := #[{ on := 5, ground := Ground.data }, { on := 2, ground := Ground.guard }], guard := some (2, false) }) (v := ?_) rfl (by kernel_rfl) (by kernel_rfl) (by kernel_rfl) (fun _ _ _ h => h) (Or.inl ⟨by rfl, ?_⟩) hS ?_
          rotate_left
          · intro W_ hSW_
            go_simp
            try with_reducible rfl
          try simp only [Act.put, List.setIfInBounds_toArray, List.set_cons_zero, List.set_cons_succ]
          refine wpAnyH_ready (rs := [4]) (by kernel_rfl) (by simp) ?_
          refine AllReadyH.cons (o := { dst := some 45, op := Op.call { callee := Callee.value (Operand.func 13), args := #[Operand.tmp 44], argTypes := #[23] }, type := 3, pos := "law.go:84", after := #[{ on := 3, ground := Ground.data }, { on := 2, ground := Ground.chain }, { on := 2, ground := Ground.guard }], guard := some (2, false) }) rfl (fun K_ hK_ => ?_) AllReadyH.nil
          go_simp
          refine hLen.out.mono ?_
          rintro e w5 ⟨rfl, rfl⟩
          refine hK_.out _ _ (hS) (fun hS_ => ?_)
          clear hK_ K_ hS
          have hS := hS_
          clear hS_
          try simp only [Act.put, List.setIfInBounds_toArray, List.set_cons_zero, List.set_cons_succ]
          refine wpAnyH_take (i := 7) (oi := { dst := some 48, op := Op.binOp BinOp.neq 3 (Operand.tmp 45) (Operand.tmp 47) 3, type := 4, pos := "law.go:84", after := #[{ on := 4, ground := Ground.data }, { on := 6, ground := Ground.data }, { on := 2, ground := Ground.guard }], guard := some (2, false) }) (v := ?_) rfl (by kernel_rfl) (by kernel_rfl) (by kernel_rfl) (fun _ _ _ h => h) (Or.inl ⟨by rfl, ?_⟩) hS ?_
          rotate_left
          · intro W_ hSW_
            go_simp
            try with_reducible rfl
          try simp only [Act.put, List.setIfInBounds_toArray, List.set_cons_zero, List.set_cons_succ]
          refine wpAnyH_take (i := 8) (oi := { dst := some 49, op := Op.pick (Operand.tmp 43) (Operand.const (Value.bool true)) (Operand.tmp 48), type := 4, pos := "law.go:84", after := #[{ on := 2, ground := Ground.data }, { on := 7, ground := Ground.data }], guard := none }) (v := ?_) rfl (by kernel_rfl) (by kernel_rfl) (by kernel_rfl) (fun _ _ _ h => h) (Or.inl ⟨by rfl, ?_⟩) hS ?_
          rotate_left
          · intro W_ hSW_
            go_simp
            try with_reducible rfl
          try simp only [Act.put, List.setIfInBounds_toArray, List.set_cons_zero, List.set_cons_succ]
          refine wpAnyH_take (i := 9) (oi := { dst := some 50, op := Op.move (Operand.tmp 49), type := 4, pos := "law.go:84", after := #[{ on := 8, ground := Ground.data }, { on := 4, ground := Ground.chain }], guard := none }) (v := ?_) rfl (by kernel_rfl) (by kernel_rfl) (by kernel_rfl) (fun _ _ _ h => h) (Or.inl ⟨by rfl, ?_⟩) hS ?_
          rotate_left
          · intro W_ hSW_
            go_simp
            try with_reducible rfl
          try simp only [Act.put, List.setIfInBounds_toArray, List.set_cons_zero, List.set_cons_succ]
          refine wpAnyH_take (i := 10) (oi := { dst := some 51, op := Op.move (Operand.tmp 9), type := 4, pos := "law.go:84", after := #[{ on := 9, ground := Ground.guard }], guard := some (9, false) }) (v := ?_) rfl (by kernel_rfl) (by kernel_rfl) (by kernel_rfl) (fun _ _ _ h => h) (Or.inl ⟨by rfl, ?_⟩) hS ?_
          rotate_left
          · intro W_ hSW_
            go_simp
            try with_reducible rfl
          try simp only [Act.put, List.setIfInBounds_toArray, List.set_cons_zero, List.set_cons_succ]
          refine wpAnyH_take (i := 11) (oi := { dst := some 52, op := Op.move (Operand.tmp 4), type := 48, pos := "law.go:84", after := #[{ on := 9, ground := Ground.guard }], guard := some (9, false) }) (v := ?_) rfl (by kernel_rfl) (by kernel_rfl) (by kernel_rfl) (fun _ _ _ h => h) (Or.inl ⟨by rfl, ?_⟩) hS ?_
          rotate_left
          · intro W_ hSW_
            go_simp
            try with_reducible rfl
          try simp only [Act.put, List.setIfInBounds_toArray, List.set_cons_zero, List.set_cons_succ]
          refine wpAnyH_take (i := 12) (oi := { dst := some 53, op := Op.call { callee := Callee.builtin Builtin.len, args := #[Operand.tmp 52], argTypes := #[48] }, type := 3, pos := "law.go:84", after := #[{ on := 11, ground := Ground.data }, { on := 9, ground := Ground.guard }], guard := some (9, false) }) (v := ?_) rfl (by kernel_rfl) (by kernel_rfl) (by kernel_rfl) (fun _ _ _ h => h) (Or.inl ⟨by rfl, ?_⟩) hS ?_
          rotate_left
          · intro W_ hSW_
            go_simp
            try with_reducible rfl
          try simp only [Act.put, List.setIfInBounds_toArray, List.set_cons_zero, List.set_cons_succ]
          refine wpAnyH_take (i := 13) (oi := { dst := some 54, op := Op.binOp BinOp.gtr 3 (Operand.tmp 53) (Operand.const (Value.int IntKind.i64 0)) 3, type := 4, pos := "law.go:84", after := #[{ on := 12, ground := Ground.data }, { on := 9, ground := Ground.guard }], guard := some (9, false) }) (v := ?_) rfl (by kernel_rfl) (by kernel_rfl) (by kernel_rfl) (fun _ _ _ h => h) (Or.inl ⟨by rfl, ?_⟩) hS ?_
          rotate_left
          · intro W_ hSW_
            go_simp
            try with_reducible rfl
          try simp only [Act.put, List.setIfInBounds_toArray, List.set_cons_zero, List.set_cons_succ]
          refine wpAnyH_take (i := 14) (oi := { dst := some 55, op := Op.binOp BinOp.neq 4 (Operand.tmp 51) (Operand.tmp 54) 4, type := 4, pos := "law.go:84", after := #[{ on := 10, ground := Ground.data }, { on := 13, ground := Ground.data }, { on := 9, ground := Ground.guard }], guard := some (9, false) }) (v := ?_) rfl (by kernel_rfl) (by kernel_rfl) (by kernel_rfl) (fun _ _ _ h => h) (Or.inl ⟨by rfl, ?_⟩) hS ?_
          rotate_left
          · intro W_ hSW_
            go_simp
            try with_reducible rfl
          try simp only [Act.put, List.setIfInBounds_toArray, List.set_cons_zero, List.set_cons_succ]
          refine wpAnyH_take (i := 15) (oi := { dst := some 56, op := Op.pick (Operand.tmp 50) (Operand.const (Value.bool true)) (Operand.tmp 55), type := 4, pos := "law.go:84", after := #[{ on := 9, ground := Ground.data }, { on := 14, ground := Ground.data }], guard := none }) (v := ?_) rfl (by kernel_rfl) (by kernel_rfl) (by kernel_rfl) (fun _ _ _ h => h) (Or.inl ⟨by rfl, ?_⟩) hS ?_
          rotate_left
          · intro W_ hSW_
            go_simp
            try with_reducible rfl
          try simp only [Act.put, List.setIfInBounds_toArray, List.set_cons_zero, List.set_cons_succ]
          refine wpAnyH_take (i := 16) (oi := { dst := some 57, op := Op.move (Operand.tmp 56), type := 4, pos := "law.go:84", after := #[{ on := 15, ground := Ground.data }, { on := 9, ground := Ground.chain }], guard := none }) (v := ?_) rfl (by kernel_rfl) (by kernel_rfl) (by kernel_rfl) (fun _ _ _ h => h) (Or.inl ⟨by rfl, ?_⟩) hS ?_
          rotate_left
          · intro W_ hSW_
            go_simp
            try with_reducible rfl
          try simp only [Act.put, List.setIfInBounds_toArray, List.set_cons_zero, List.set_cons_succ]
          refine wpAnyH_take (i := 17) (oi := { dst := some 58, op := Op.move (Operand.tmp 9), type := 4, pos := "law.go:84", after := #[{ on := 16, ground := Ground.guard }], guard := some (16, false) }) (v := ?_) rfl (by kernel_rfl) (by kernel_rfl) (by kernel_rfl) (fun _ _ _ h => h) (Or.inl ⟨by rfl, ?_⟩) hS ?_
          rotate_left
          · intro W_ hSW_
            go_simp
            try with_reducible rfl
          try simp only [Act.put, List.setIfInBounds_toArray, List.set_cons_zero, List.set_cons_succ]
          refine wpAnyH_take (i := 18) (oi := { dst := some 59, op := Op.move (Operand.tmp 58), type := 4, pos := "law.go:84", after := #[{ on := 17, ground := Ground.data }, { on := 16, ground := Ground.chain }, { on := 16, ground := Ground.guard }], guard := some (16, false) }) (v := ?_) rfl (by kernel_rfl) (by kernel_rfl) (by kernel_rfl) (fun _ _ _ h => h) (Or.inl ⟨by rfl, ?_⟩) hS ?_
          rotate_left
          · intro W_ hSW_
            go_simp
            try with_reducible rfl
          try simp only [Act.put, List.setIfInBounds_toArray, List.set_cons_zero, List.set_cons_succ]
          refine wpAnyH_take (i := 19) (oi := { dst := some 60, op := Op.fieldAddr 30 (Operand.tmp 8) 0, type := 0, pos := "law.go:84", after := #[{ on := 18, ground := Ground.guard }], guard := some (18, true) }) (v := undef) rfl (by kernel_rfl) (by kernel_rfl) (by kernel_rfl) (fun _ _ _ h => h) (Or.inr ⟨by rfl, rfl⟩) hS ?_
          try simp only [Act.put, List.setIfInBounds_toArray, List.set_cons_zero, List.set_cons_succ]
          refine wpAnyH_take (i := 20) (oi := { dst := some 61, op := Op.load 3 (Operand.tmp 60), type := 3, pos := "law.go:84", after := #[{ on := 19, ground := Ground.data }, { on := 18, ground := Ground.guard }], guard := some (18, true) }) (v := undef) rfl (by kernel_rfl) (by kernel_rfl) (by kernel_rfl) (fun _ _ _ h => h) (Or.inr ⟨by rfl, rfl⟩) hS ?_
          try simp only [Act.put, List.setIfInBounds_toArray, List.set_cons_zero, List.set_cons_succ]
          refine wpAnyH_take (i := 21) (oi := { dst := some 62, op := Op.move (Operand.tmp 4), type := 48, pos := "law.go:84", after := #[{ on := 18, ground := Ground.guard }], guard := some (18, true) }) (v := undef) rfl (by kernel_rfl) (by kernel_rfl) (by kernel_rfl) (fun _ _ _ h => h) (Or.inr ⟨by rfl, rfl⟩) hS ?_
          try simp only [Act.put, List.setIfInBounds_toArray, List.set_cons_zero, List.set_cons_succ]
          refine wpAnyH_take (i := 22) (oi := { dst := some 63, op := Op.indexAddr 48 (Operand.tmp 62) (Operand.const (Value.int IntKind.i64 0)), type := 0, pos := "law.go:84", after := #[{ on := 21, ground := Ground.data }, { on := 18, ground := Ground.guard }], guard := some (18, true) }) (v := undef) rfl (by kernel_rfl) (by kernel_rfl) (by kernel_rfl) (fun _ _ _ h => h) (Or.inr ⟨by rfl, rfl⟩) hS ?_
          try simp only [Act.put, List.setIfInBounds_toArray, List.set_cons_zero, List.set_cons_succ]
          refine wpAnyH_take (i := 23) (oi := { dst := some 64, op := Op.fieldAddr 36 (Operand.tmp 63) 0, type := 0, pos := "law.go:84", after := #[{ on := 22, ground := Ground.data }, { on := 18, ground := Ground.guard }], guard := some (18, true) }) (v := undef) rfl (by kernel_rfl) (by kernel_rfl) (by kernel_rfl) (fun _ _ _ h => h) (Or.inr ⟨by rfl, rfl⟩) hS ?_
          try simp only [Act.put, List.setIfInBounds_toArray, List.set_cons_zero, List.set_cons_succ]
          refine wpAnyH_take (i := 24) (oi := { dst := some 65, op := Op.load 3 (Operand.tmp 64), type := 3, pos := "law.go:84", after := #[{ on := 23, ground := Ground.data }, { on := 18, ground := Ground.guard }], guard := some (18, true) }) (v := undef) rfl (by kernel_rfl) (by kernel_rfl) (by kernel_rfl) (fun _ _ _ h => h) (Or.inr ⟨by rfl, rfl⟩) hS ?_
          try simp only [Act.put, List.setIfInBounds_toArray, List.set_cons_zero, List.set_cons_succ]
          refine wpAnyH_take (i := 25) (oi := { dst := some 66, op := Op.binOp BinOp.neq 3 (Operand.tmp 61) (Operand.tmp 65) 3, type := 4, pos := "law.go:84", after := #[{ on := 20, ground := Ground.data }, { on := 24, ground := Ground.data }, { on := 18, ground := Ground.guard }], guard := some (18, true) }) (v := undef) rfl (by kernel_rfl) (by kernel_rfl) (by kernel_rfl) (fun _ _ _ h => h) (Or.inr ⟨by rfl, rfl⟩) hS ?_
          try simp only [Act.put, List.setIfInBounds_toArray, List.set_cons_zero, List.set_cons_succ]
          refine wpAnyH_take (i := 26) (oi := { dst := some 67, op := Op.move (Operand.tmp 66), type := 4, pos := "law.go:84", after := #[{ on := 25, ground := Ground.data }, { on := 18, ground := Ground.chain }, { on := 18, ground := Ground.guard }], guard := some (18, true) }) (v := undef) rfl (by kernel_rfl) (by kernel_rfl) (by kernel_rfl) (fun _ _ _ h => h) (Or.inr ⟨by rfl, rfl⟩) hS ?_
          try simp only [Act.put, List.setIfInBounds_toArray, List.set_cons_zero, List.set_cons_succ]
          refine wpAnyH_take (i := 27) (oi := { dst := some 68, op := Op.fieldAddr 30 (Operand.tmp 8) 1, type := 0, pos := "law.go:84", after := #[{ on := 26, ground := Ground.guard }], guard := some (26, false) }) (v := undef) rfl (by kernel_rfl) (by kernel_rfl) (by kernel_rfl) (fun _ _ _ h => h) (Or.inr ⟨by rfl, rfl⟩) hS ?_
          try simp only [Act.put, List.setIfInBounds_toArray, List.set_cons_zero, List.set_cons_succ]
          refine wpAnyH_take (i := 28) (oi := { dst := some 69, op := Op.load 2 (Operand.tmp 68), type := 2, pos := "law.go:84", after := #[{ on := 27, ground := Ground.data }, { on := 26, ground := Ground.guard }], guard := some (26, false) }) (v := undef) rfl (by kernel_rfl) (by kernel_rfl) (by kernel_rfl) (fun _ _ _ h => h) (Or.inr ⟨by rfl, rfl⟩) hS ?_
          try simp only [Act.put, List.setIfInBounds_toArray, List.set_cons_zero, List.set_cons_succ]
          refine wpAnyH_take (i := 29) (oi := { dst := some 70, op := Op.move (Operand.tmp 4), type := 48, pos := "law.go:84", after := #[{ on := 26, ground := Ground.guard }], guard := some (26, false) }) (v := undef) rfl (by kernel_rfl) (by kernel_rfl) (by kernel_rfl) (fun _ _ _ h => h) (Or.inr ⟨by rfl, rfl⟩) hS ?_
          try simp only [Act.put, List.setIfInBounds_toArray, List.set_cons_zero, List.set_cons_succ]
          refine wpAnyH_take (i := 30) (oi := { dst := some 71, op := Op.indexAddr 48 (Operand.tmp 70) (Operand.const (Value.int IntKind.i64 0)), type := 0, pos := "law.go:84", after := #[{ on := 29, ground := Ground.data }, { on := 26, ground := Ground.guard }], guard := some (26, false) }) (v := undef) rfl (by kernel_rfl) (by kernel_rfl) (by kernel_rfl) (fun _ _ _ h => h) (Or.inr ⟨by rfl, rfl⟩) hS ?_
          try simp only [Act.put, List.setIfInBounds_toArray, List.set_cons_zero, List.set_cons_succ]
          refine wpAnyH_take (i := 31) (oi := { dst := some 72, op := Op.fieldAddr 36 (Operand.tmp 71) 1, type := 0, pos := "law.go:84", after := #[{ on := 30, ground := Ground.data }, { on := 26, ground := Ground.guard }], guard := some (26, false) }) (v := undef) rfl (by kernel_rfl) (by kernel_rfl) (by kernel_rfl) (fun _ _ _ h => h) (Or.inr ⟨by rfl, rfl⟩) hS ?_
          try simp only [Act.put, List.setIfInBounds_toArray, List.set_cons_zero, List.set_cons_succ]
          refine wpAnyH_take (i := 32) (oi := { dst := some 73, op := Op.load 2 (Operand.tmp 72), type := 2, pos := "law.go:84", after := #[{ on := 31, ground := Ground.data }, { on := 26, ground := Ground.guard }], guard := some (26, false) }) (v := undef) rfl (by kernel_rfl) (by kernel_rfl) (by kernel_rfl) (fun _ _ _ h => h) (Or.inr ⟨by rfl, rfl⟩) hS ?_
          try simp only [Act.put, List.setIfInBounds_toArray, List.set_cons_zero, List.set_cons_succ]
          refine wpAnyH_take (i := 33) (oi := { dst := some 74, op := Op.binOp BinOp.neq 2 (Operand.tmp 69) (Operand.tmp 73) 2, type := 4, pos := "law.go:84", after := #[{ on := 28, ground := Ground.data }, { on := 32, ground := Ground.data }, { on := 26, ground := Ground.guard }], guard := some (26, false) }) (v := undef) rfl (by kernel_rfl) (by kernel_rfl) (by kernel_rfl) (fun _ _ _ h => h) (Or.inr ⟨by rfl, rfl⟩) hS ?_
          try simp only [Act.put, List.setIfInBounds_toArray, List.set_cons_zero, List.set_cons_succ]
          refine wpAnyH_take (i := 34) (oi := { dst := some 75, op := Op.pick (Operand.tmp 67) (Operand.const (Value.bool true)) (Operand.tmp 74), type := 4, pos := "law.go:84", after := #[{ on := 26, ground := Ground.data }, { on := 33, ground := Ground.data }, { on := 18, ground := Ground.guard }], guard := some (18, true) }) (v := undef) rfl (by kernel_rfl) (by kernel_rfl) (by kernel_rfl) (fun _ _ _ h => h) (Or.inr ⟨by rfl, rfl⟩) hS ?_
          try simp only [Act.put, List.setIfInBounds_toArray, List.set_cons_zero, List.set_cons_succ]
          refine wpAnyH_take (i := 35) (oi := { dst := some 76, op := Op.pick (Operand.tmp 59) (Operand.tmp 75) (Operand.const (Value.bool false)), type := 4, pos := "law.go:84", after := #[{ on := 18, ground := Ground.data }, { on := 34, ground := Ground.data }, { on := 16, ground := Ground.guard }], guard := some (16, false) }) (v := ?_) rfl (by kernel_rfl) (by kernel_rfl) (by kernel_rfl) (fun _ _ _ h => h) (Or.inl ⟨by rfl, ?_⟩) hS ?_
          rotate_left
          · intro W_ hSW_
            go_simp
            try with_reducible rfl
          try simp only [Act.put, List.setIfInBounds_toArray, List.set_cons_zero, List.set_cons_succ]
          refine wpAnyH_take (i := 36) (oi := { dst := some 77, op := Op.pick (Operand.tmp 57) (Operand.const (Value.bool true)) (Operand.tmp 76), type := 4, pos := "law.go:84", after := #[{ on := 16, ground := Ground.data }, { on := 35, ground := Ground.data }], guard := none }) (v := ?_) rfl (by kernel_rfl) (by kernel_rfl) (by kernel_rfl) (fun _ _ _ h => h) (Or.inl ⟨by rfl, ?_⟩) hS ?_
          rotate_left
          · intro W_ hSW_
            go_simp
            try with_reducible rfl
          try simp only [Act.put, List.setIfInBounds_toArray, List.set_cons_zero, List.set_cons_succ]
          refine wpAnyH_take (i := 37) (oi := { dst := some 78, op := Op.move (Operand.tmp 77), type := 4, pos := "law.go:84", after := #[{ on := 36, ground := Ground.data }, { on := 26, ground := Ground.chain }], guard := none }) (v := ?_) rfl (by kernel_rfl) (by kernel_rfl) (by kernel_rfl) (fun _ _ _ h => h) (Or.inl ⟨by rfl, ?_⟩) hS ?_
          rotate_left
          · intro W_ hSW_
            go_simp
            try with_reducible rfl
          try simp only [Act.put, List.setIfInBounds_toArray, List.set_cons_zero, List.set_cons_succ]
          refine wpAnyH_take (i := 38) (oi := { dst := some 79, op := Op.move (Operand.tmp 9), type := 4, pos := "law.go:84", after := #[{ on := 37, ground := Ground.guard }], guard := some (37, false) }) (v := ?_) rfl (by kernel_rfl) (by kernel_rfl) (by kernel_rfl) (fun _ _ _ h => h) (Or.inl ⟨by rfl, ?_⟩) hS ?_
          rotate_left
          · intro W_ hSW_
            go_simp
            try with_reducible rfl
          try simp only [Act.put, List.setIfInBounds_toArray, List.set_cons_zero, List.set_cons_succ]
          refine wpAnyH_take (i := 39) (oi := { dst := some 80, op := Op.unOp UnOp.not 4 (Operand.tmp 79), type := 4, pos := "law.go:84", after := #[{ on := 38, ground := Ground.data }, { on := 37, ground := Ground.guard }], guard := some (37, false) }) (v := ?_) rfl (by kernel_rfl) (by kernel_rfl) (by kernel_rfl) (fun _ _ _ h => h) (Or.inl ⟨by rfl, ?_⟩) hS ?_
          rotate_left
          · intro W_ hSW_
            go_simp
            try with_reducible rfl
          try simp only [Act.put, List.setIfInBounds_toArray, List.set_cons_zero, List.set_cons_succ]
          refine wpAnyH_take (i := 40) (oi := { dst := some 81, op := Op.move (Operand.tmp 80), type := 4, pos := "law.go:84", after := #[{ on := 39, ground := Ground.data }, { on := 37, ground := Ground.chain }, { on := 37, ground := Ground.guard }], guard := some (37, false) }) (v := ?_) rfl (by kernel_rfl) (by kernel_rfl) (by kernel_rfl) (fun _ _ _ h => h) (Or.inl ⟨by rfl, ?_⟩) hS ?_
          rotate_left
          · intro W_ hSW_
            go_simp
            try with_reducible rfl
          try simp only [Act.put, List.setIfInBounds_toArray, List.set_cons_zero, List.set_cons_succ]
          refine wpAnyH_take (i := 41) (oi := { dst := some 82, op := Op.load 30 (Operand.tmp 8), type := 30, pos := "law.go:84", after := #[{ on := 40, ground := Ground.guard }], guard := some (40, true) }) (v := ?_) rfl (by kernel_rfl) (by kernel_rfl) (by kernel_rfl) (fun _ _ _ h => h) (Or.inl ⟨by rfl, ?_⟩) hS ?_
          rotate_left
          · intro W_ hSW_
            have e0 := blk_cell hSW_ 0
            have e1 := blk_cell hSW_ 1
            go_simp
            try with_reducible rfl
          try simp only [Act.put, List.setIfInBounds_toArray, List.set_cons_zero, List.set_cons_succ]
          refine wpAnyH_take (i := 42) (oi := { dst := some 83, op := Op.build 30 #[], type := 30, pos := "law.go:84", after := #[{ on := 40, ground := Ground.guard }], guard := some (40, true) }) (v := ?_) rfl (by kernel_rfl) (by kernel_rfl) (by kernel_rfl) (fun _ _ _ h => h) (Or.inl ⟨by rfl, ?_⟩) hS ?_
          rotate_left
          · intro W_ hSW_
            go_simp
            try with_reducible rfl
          try simp only [Act.put, List.setIfInBounds_toArray, List.set_cons_zero, List.set_cons_succ]
          refine wpAnyH_take (i := 43) (oi := { dst := some 84, op := Op.binOp BinOp.neq 30 (Operand.tmp 82) (Operand.tmp 83) 30, type := 4, pos := "law.go:84", after := #[{ on := 41, ground := Ground.data }, { on := 42, ground := Ground.data }, { on := 40, ground := Ground.guard }], guard := some (40, true) }) (v := ?_) rfl (by kernel_rfl) (by kernel_rfl) (by kernel_rfl) (fun _ _ _ h => h) (Or.inl ⟨by rfl, ?_⟩) hS ?_
          rotate_left
          · intro W_ hSW_
            go_simp
            try with_reducible rfl
          try simp only [Act.put, List.setIfInBounds_toArray, List.set_cons_zero, List.set_cons_succ]
          refine wpAnyH_take (i := 44) (oi := { dst := some 85, op := Op.pick (Operand.tmp 81) (Operand.tmp 84) (Operand.const (Value.bool false)), type := 4, pos := "law.go:84", after := #[{ on := 40, ground := Ground.data }, { on := 43, ground := Ground.data }, { on := 37, ground := Ground.guard }], guard := some (37, false) }) (v := ?_) rfl (by kernel_rfl) (by kernel_rfl) (by kernel_rfl) (fun _ _ _ h => h) (Or.inl ⟨by rfl, ?_⟩) hS ?_
          rotate_left
          · intro W_ hSW_
            go_simp
            try with_reducible rfl
          try simp only [Act.put, List.setIfInBounds_toArray, List.set_cons_zero, List.set_cons_succ]
          refine wpAnyH_take (i := 45) (oi := { dst := some 86, op := Op.pick (Operand.tmp 78) (Operand.const (Value.bool true)) (Operand.tmp 85), type := 4, pos := "law.go:84", after := #[{ on := 37, ground := Ground.data }, { on := 44, ground := Ground.data }], guard := none }) (v := ?_) rfl (by kernel_rfl) (by kernel_rfl) (by kernel_rfl) (fun _ _ _ h => h) (Or.inl ⟨by rfl, ?_⟩) hS ?_
          rotate_left
          · intro W_ hSW_
            go_simp
            try with_reducible rfl
          try simp only [Act.put, List.setIfInBounds_toArray, List.set_cons_zero, List.set_cons_succ]
          refine wpAnyH_take (i := 46) (oi := { dst := some 87, op := Op.move (Operand.tmp 86), type := 4, pos := "law.go:84", after := #[{ on := 45, ground := Ground.data }, { on := 40, ground := Ground.chain }], guard := none }) (v := ?_) rfl (by kernel_rfl) (by kernel_rfl) (by kernel_rfl) (fun _ _ _ h => h) (Or.inl ⟨by rfl, ?_⟩) hS ?_
          rotate_left
          · intro W_ hSW_
            go_simp
            try with_reducible rfl
          try simp only [Act.put, List.setIfInBounds_toArray, List.set_cons_zero, List.set_cons_succ]
          refine wpAnyH_take (i := 47) (oi := { dst := some 88, op := Op.move (Operand.tmp 3), type := 23, pos := "law.go:84", after := #[{ on := 46, ground := Ground.guard }], guard := some (46, false) }) (v := ?_) rfl (by kernel_rfl) (by kernel_rfl) (by kernel_rfl) (fun _ _ _ h => h) (Or.inl ⟨by rfl, ?_⟩) hS ?_
          rotate_left
          · intro W_ hSW_
            go_simp
            try with_reducible rfl
          try simp only [Act.put, List.setIfInBounds_toArray, List.set_cons_zero, List.set_cons_succ]
          refine wpAnyH_take (i := 50) (oi := { dst := some 91, op := Op.move (Operand.tmp 4), type := 48, pos := "law.go:84", after := #[{ on := 46, ground := Ground.guard }], guard := some (46, false) }) (v := ?_) rfl (by kernel_rfl) (by kernel_rfl) (by kernel_rfl) (fun _ _ _ h => h) (Or.inl ⟨by rfl, ?_⟩) hS ?_
          rotate_left
          · intro W_ hSW_
            go_simp
            try with_reducible rfl
          try simp only [Act.put, List.setIfInBounds_toArray, List.set_cons_zero, List.set_cons_succ]
          refine wpAnyH_ready (rs := [48]) (by kernel_rfl) (by simp) ?_
          refine AllReadyH.cons (o := { dst := some 89, op := Op.call { callee := Callee.value (Operand.func 24), args := #[Operand.tmp 88], argTypes := #[23] }, type := 38, pos := "law.go:84", after := #[{ on := 47, ground := Ground.data }, { on := 46, ground := Ground.chain }, { on := 46, ground := Ground.guard }], guard := some (46, false) }) rfl (fun K_ hK_ => ?_) AllReadyH.nil
          go_simp
          refine (items_of HM5.out hq61).mono ?_
          rintro e w6 ⟨A6, c6, rfl, hc6, hC6, hM6⟩
          have HM6 := Aside0.mk hM6
          have HC6 := Aside0.mk hC6
          have hS6 := Aside0.mk (hM6.drop.drop.drop.drop.get)
          clear hM6 hC6
          refine hK_.out _ _ (hS6.out) (fun hS_ => ?_)
          clear hK_ K_ hS
          have hS := hS_
          clear hS_
          try simp only [Act.put, List.setIfInBounds_toArray, List.set_cons_zero, List.set_cons_succ]
          refine wpAnyH_ready (rs := [49]) (by kernel_rfl) (by simp) ?_
          refine AllReadyH.cons (o := { dst := some 90, op := Op.call { callee := Callee.value (Operand.func 19), args := #[Operand.tmp 89], argTypes := #[38] }, type := 48, pos := "law.go:84", after := #[{ on := 48, ground := Ground.data }, { on := 48, ground := Ground.chain }, { on := 46, ground := Ground.guard }], guard := some (46, false) }) rfl (fun K_ hK_ => ?_) AllReadyH.nil
          go_simp
          refine (items_call HM6.out HC6.out rfl hc6 hqm).mono ?_
          rintro e w7 ⟨A7, c7, rfl, hM7⟩
          have HM7 := Aside0.mk hM7
          have hS7 := Aside0.mk (hM7.drop.drop.drop.drop.drop.get)
          have keyS := Aside0.mk (same_call (q := []) hM7.readsE.2 hM7.drop.drop.drop.drop.q_C.2.2 rfl HN3.out hM7.readsE.1 hc3 hqm)
          clear hM7
          refine hK_.out _ _ (hS7.out) (fun hS_ => ?_)
          clear hK_ K_ hS
          have hS := hS_
          clear hS_
          try simp only [Act.put, List.setIfInBounds_toArray, List.set_cons_zero, List.set_cons_succ]
          refine wpAnyH_ready (rs := [51]) (by kernel_rfl) (by simp) ?_
          refine AllReadyH.cons (o := { dst := some 92, op := Op.call { callee := Callee.value (Operand.func 23), args := #[Operand.tmp 90, Operand.tmp 91], argTypes := #[48, 48] }, type := 4, pos := "law.go:84", after := #[{ on := 49, ground := Ground.data }, { on := 50, ground := Ground.data }, { on := 49, ground := Ground.chain }, { on := 46, ground := Ground.guard }], guard := some (46, false) }) rfl (fun K_ hK_ => ?_) AllReadyH.nil
          go_simp
          refine keyS.out.mono ?_
          rintro e w8 ⟨rfl, hb8⟩
          have HM8 := Aside0.mk (HM7.out.step hb8)
          have hS8 := Aside0.mk (HM8.out.drop.drop.drop.drop.drop.get)
          clear hb8
          refine hK_.out _ _ (hS8.out) (fun hS_ => ?_)
          clear hK_ K_ hS
          have hS := hS_
          clear hS_
          try simp only [Act.put, List.setIfInBounds_toArray, List.set_cons_zero, List.set_cons_succ]
          refine wpAnyH_take (i := 52) (oi := { dst := some 93, op := Op.unOp UnOp.not 4 (Operand.tmp 92), type := 4, pos := "law.go:84", after := #[{ on := 51, ground := Ground.data }, { on := 46, ground := Ground.guard }], guard := some (46, false) }) (v := ?_) rfl (by kernel_rfl) (by kernel_rfl) (by kernel_rfl) (fun _ _ _ h => h) (Or.inl ⟨by rfl, ?_⟩) hS ?_
          rotate_left
          · intro W_ hSW_
            go_simp
            try with_reducible rfl
          try simp only [Act.put, List.setIfInBounds_toArray, List.set_cons_zero, List.set_cons_succ]
          refine wpAnyH_take (i := 53) (oi := { dst := some 94, op := Op.pick (Operand.tmp 87) (Operand.const (Value.bool true)) (Operand.tmp 93), type := 4, pos := "law.go:84", after := #[{ on := 46, ground := Ground.data }, { on := 52, ground := Ground.data }], guard := none }) (v := ?_) rfl (by kernel_rfl) (by kernel_rfl) (by kernel_rfl) (fun _ _ _ h => h) (Or.inl ⟨by rfl, ?_⟩) hS ?_
          rotate_left
          · intro W_ hSW_
            go_simp
            try with_reducible rfl
          try simp only [Act.put, List.setIfInBounds_toArray, List.set_cons_zero, List.set_cons_succ]
          refine wpAnyH_done (by kernel_rfl) ?_ _
          have HMF := Aside0.mk HM8.out.drop.drop.p3.drop
          go_wp2_with fail
          exact ⟨⟨j + 1, by rw [← HN.out]; omega, by first | go_num | (congr 1), v2, by rw [hst2.out]; exact HMF.out⟩, by simp [intOf]; omega⟩
        | cons y r =>
          obtain ⟨yi, yd⟩ := y
          have hp : pk (((yi, yd) :: r).map un) = .tuple #[.agg #[.int .i64 yi, .int .i64 yd], .bool true] := rfl
          rw [hp]
          obtain ⟨b8, hb8⟩ : ∃ b8, w4.heap.size = b8 := ⟨_, rfl⟩
          have HM5 := Aside0.mk (hM4.new_ (.cells #[.int .i64 yi, .int .i64 yd] 30) hb8).q3.drew
          have hLen := Aside0.mk (Len_call HM5.out)
          rw [List.length_map, ← HN3.out] at hLen
          have hn3p : 0 < n3 := by rw [HN3.out]; simp
          obtain ⟨b, o, e', _, _⟩ := item36_at hC4 (j := 0) hn3p
          subst e'
          have hyy : ∀ {L' : List Chunk} (w : World), Mem W w (qrow W k36 36 (.slice (some ⟨b, o, none⟩) n3 c3) (((yi, yd) :: r).map Go.Proofs.Yteneigadnabolaa.QAl.u36) :: L') → w.cell? ⟨b, o, none⟩ = some (.int .i64 yi) ∧ w.cell? ⟨b, o + 1, none⟩ = some (.int .i64 yd) := fun w h => by
            obtain ⟨b', o', e', y0, y1⟩ := item36_at h.q_C.2.2 (j := 0) hn3p
            injection e' with e'
            injection e' with e1 e2
            subst e1 e2
            rw [Nat.zero_mul, Nat.add_zero] at y0 y1
            exact ⟨y0, y1⟩
          have HY := Aside0.mk @hyy
          have HB8 := Aside0.mk hb8
          clear hM4 hC4 hp hb8 hyy
          have hn3i : ¬ ((n3 : Int) = 0) := by omega
          have hn3j : (0 : Int) < (n3 : Int) := by omega
          have hd1 : decide ((0 : Int) < (n3 : Int)) = true := decide_eq_true hn3j
          have hd2 : decide (0 < n3) = true := decide_eq_true hn3p
          go_wp2_with fail
          rw [HB8.out]
          have hyy := @HY.out
          refine wp_region_held_drew (S := fun W_ => W_.heap[b8]? = some (.cells #[.int .i64 yi, .int .i64 yd] 30 (0, 0)) ∧ W_.cell? ⟨b, o, none⟩ = some (.int .i64 yi) ∧ W_.cell? ⟨b, o + 1, none⟩ = some (.int .i64 yd)) (by kernel_rfl) ⟨HM5.out.drop.drop.drop.get, HY.out _ HM5.out.drop.drop⟩ (fun hS => ?_)
          refine wpAnyH_take (i := 0) (oi := { dst := some 41, op := Op.move (Operand.tmp 7), type := 4, pos := "law.go:84", after := #[], guard := none }) (v := ?_) rfl (by kernel_rfl) (by kernel_rfl) (by kernel_rfl) (fun _ _ _ h => h) (Or.inl ⟨by rfl, ?_⟩) hS ?_
          rotate_left
          · intro W_ hSW_
            go_simp
            try with_reducible rfl
          try simp only [Act.put, List.setIfInBounds_toArray, List.set_cons_zero, List.set_cons_succ]
          refine wpAnyH_take (i := 1) (oi := { dst := some 42, op := Op.unOp UnOp.not 4 (Operand.tmp 41), type := 4, pos := "law.go:84", after := #[{ on := 0, ground := Ground.data }], guard := none }) (v := ?_) rfl (by kernel_rfl) (by kernel_rfl) (by kernel_rfl) (fun _ _ _ h => h) (Or.inl ⟨by rfl, ?_⟩) hS ?_
          rotate_left
          · intro W_ hSW_
            go_simp
            try with_reducible rfl
          try simp only [Act.put, List.setIfInBounds_toArray, List.set_cons_zero, List.set_cons_succ]
          refine wpAnyH_take (i := 2) (oi := { dst := some 43, op := Op.move (Operand.tmp 42), type := 4, pos := "law.go:84", after := #[{ on := 1, ground := Ground.data }], guard := none }) (v := ?_) rfl (by kernel_rfl) (by kernel_rfl) (by kernel_rfl) (fun _ _ _ h => h) (Or.inl ⟨by rfl, ?_⟩) hS ?_
          rotate_left
          · intro W_ hSW_
            go_simp
            try with_reducible rfl
          try simp only [Act.put, List.setIfInBounds_toArray, List.set_cons_zero, List.set_cons_succ]
          refine wpAnyH_take (i := 3) (oi := { dst := some 44, op := Op.move (Operand.tmp 3), type := 23, pos := "law.go:84", after := #[{ on := 2, ground := Ground.guard }], guard := some (2, false) }) (v := ?_) rfl (by kernel_rfl) (by kernel_rfl) (by kernel_rfl) (fun _ _ _ h => h) (Or.inl ⟨by rfl, ?_⟩) hS ?_
          rotate_left
          · intro W_ hSW_
            go_simp
            try with_reducible rfl
          try simp only [Act.put, List.setIfInBounds_toArray, List.set_cons_zero, List.set_cons_succ]
          refine wpAnyH_take (i := 5) (oi := { dst := some 46, op := Op.move (Operand.tmp 4), type := 48, pos := "law.go:84", after := #[{ on := 2, ground := Ground.guard }], guard := some (2, false) }) (v := ?_) rfl (by kernel_rfl) (by kernel_rfl) (by kernel_rfl) (fun _ _ _ h => h) (Or.inl ⟨by rfl, ?_⟩) hS ?_
          rotate_left
          · intro W_ hSW_
            go_simp
            try with_reducible rfl
          try simp only [Act.put, List.setIfInBounds_toArray, List.set_cons_zero, List.set_cons_succ]
          refine wpAnyH_take (i := 6) (oi := { dst := some 47, op := Op.call { callee := Callee.builtin Builtin.len, args := #[Operand.tmp 46], argTypes := #[48] }, type := 3, pos := "law.go:84", after := #[{ on := 5, ground := Ground.data }, { on := 2, ground := Ground.guard }], guard := some (2, false) }) (v := ?_) rfl (by kernel_rfl) (by kernel_rfl) (by kernel_rfl) (fun _ _ _ h => h) (Or.inl ⟨by rfl, ?_⟩) hS ?_
          rotate_left
          · intro W_ hSW_
            go_simp
            try with_reducible rfl
          try simp only [Act.put, List.setIfInBounds_toArray, List.set_cons_zero, List.set_cons_succ]
          refine wpAnyH_ready (rs := [4]) (by kernel_rfl) (by simp) ?_
          refine AllReadyH.cons (o := { dst := some 45, op := Op.call { callee := Callee.value (Operand.func 13), args := #[Operand.tmp 44], argTypes := #[23] }, type := 3, pos := "law.go:84", after := #[{ on := 3, ground := Ground.data }, { on := 2, ground := Ground.chain }, { on := 2, ground := Ground.guard }], guard := some (2, false) }) rfl (fun K_ hK_ => ?_) AllReadyH.nil
          go_simp
          refine hLen.out.mono ?_
          rintro e w5 ⟨rfl, rfl⟩
          refine hK_.out _ _ (hS) (fun hS_ => ?_)
          clear hK_ K_ hS
          have hS := hS_
          clear hS_
          try simp only [Act.put, List.setIfInBounds_toArray, List.set_cons_zero, List.set_cons_succ]
          refine wpAnyH_take (i := 7) (oi := { dst := some 48, op := Op.binOp BinOp.neq 3 (Operand.tmp 45) (Operand.tmp 47) 3, type := 4, pos := "law.go:84", after := #[{ on := 4, ground := Ground.data }, { on := 6, ground := Ground.data }, { on := 2, ground := Ground.guard }], guard := some (2, false) }) (v := ?_) rfl (by kernel_rfl) (by kernel_rfl) (by kernel_rfl) (fun _ _ _ h => h) (Or.inl ⟨by rfl, ?_⟩) hS ?_
          rotate_left
          · intro W_ hSW_
            go_simp
            try with_reducible rfl
          try simp only [Act.put, List.setIfInBounds_toArray, List.set_cons_zero, List.set_cons_succ]
          refine wpAnyH_take (i := 8) (oi := { dst := some 49, op := Op.pick (Operand.tmp 43) (Operand.const (Value.bool true)) (Operand.tmp 48), type := 4, pos := "law.go:84", after := #[{ on := 2, ground := Ground.data }, { on := 7, ground := Ground.data }], guard := none }) (v := ?_) rfl (by kernel_rfl) (by kernel_rfl) (by kernel_rfl) (fun _ _ _ h => h) (Or.inl ⟨by rfl, ?_⟩) hS ?_
          rotate_left
          · intro W_ hSW_
            go_simp
            try with_reducible rfl
          try simp only [Act.put, List.setIfInBounds_toArray, List.set_cons_zero, List.set_cons_succ]
          refine wpAnyH_take (i := 9) (oi := { dst := some 50, op := Op.move (Operand.tmp 49), type := 4, pos := "law.go:84", after := #[{ on := 8, ground := Ground.data }, { on := 4, ground := Ground.chain }], guard := none }) (v := ?_) rfl (by kernel_rfl) (by kernel_rfl) (by kernel_rfl) (fun _ _ _ h => h) (Or.inl ⟨by rfl, ?_⟩) hS ?_
          rotate_left
          · intro W_ hSW_
            go_simp
            try with_reducible rfl
          try simp only [Act.put, List.setIfInBounds_toArray, List.set_cons_zero, List.set_cons_succ]
          refine wpAnyH_take (i := 10) (oi := { dst := some 51, op := Op.move (Operand.tmp 9), type := 4, pos := "law.go:84", after := #[{ on := 9, ground := Ground.guard }], guard := some (9, false) }) (v := ?_) rfl (by kernel_rfl) (by kernel_rfl) (by kernel_rfl) (fun _ _ _ h => h) (Or.inl ⟨by rfl, ?_⟩) hS ?_
          rotate_left
          · intro W_ hSW_
            go_simp
            try with_reducible rfl
          try simp only [Act.put, List.setIfInBounds_toArray, List.set_cons_zero, List.set_cons_succ]
          refine wpAnyH_take (i := 11) (oi := { dst := some 52, op := Op.move (Operand.tmp 4), type := 48, pos := "law.go:84", after := #[{ on := 9, ground := Ground.guard }], guard := some (9, false) }) (v := ?_) rfl (by kernel_rfl) (by kernel_rfl) (by kernel_rfl) (fun _ _ _ h => h) (Or.inl ⟨by rfl, ?_⟩) hS ?_
          rotate_left
          · intro W_ hSW_
            go_simp
            try with_reducible rfl
          try simp only [Act.put, List.setIfInBounds_toArray, List.set_cons_zero, List.set_cons_succ]
          refine wpAnyH_take (i := 12) (oi := { dst := some 53, op := Op.call { callee := Callee.builtin Builtin.len, args := #[Operand.tmp 52], argTypes := #[48] }, type := 3, pos := "law.go:84", after := #[{ on := 11, ground := Ground.data }, { on := 9, ground := Ground.guard }], guard := some (9, false) }) (v := ?_) rfl (by kernel_rfl) (by kernel_rfl) (by kernel_rfl) (fun _ _ _ h => h) (Or.inl ⟨by rfl, ?_⟩) hS ?_
          rotate_left
          · intro W_ hSW_
            go_simp
            try with_reducible rfl
          try simp only [Act.put, List.setIfInBounds_toArray, List.set_cons_zero, List.set_cons_succ]
          refine wpAnyH_take (i := 13) (oi := { dst := some 54, op := Op.binOp BinOp.gtr 3 (Operand.tmp 53) (Operand.const (Value.int IntKind.i64 0)) 3, type := 4, pos := "law.go:84", after := #[{ on := 12, ground := Ground.data }, { on := 9, ground := Ground.guard }], guard := some (9, false) }) (v := ?_) rfl (by kernel_rfl) (by kernel_rfl) (by kernel_rfl) (fun _ _ _ h => h) (Or.inl ⟨by rfl, ?_⟩) hS ?_
          rotate_left
          · intro W_ hSW_
            go_simp
            try with_reducible rfl
          try simp only [Act.put, List.setIfInBounds_toArray, List.set_cons_zero, List.set_cons_succ]
          refine wpAnyH_take (i := 14) (oi := { dst := some 55, op := Op.binOp BinOp.neq 4 (Operand.tmp 51) (Operand.tmp 54) 4, type := 4, pos := "law.go:84", after := #[{ on := 10, ground := Ground.data }, { on := 13, ground := Ground.data }, { on := 9, ground := Ground.guard }], guard := some (9, false) }) (v := ?_) rfl (by kernel_rfl) (by kernel_rfl) (by kernel_rfl) (fun _ _ _ h => h) (Or.inl ⟨by rfl, ?_⟩) hS ?_
          rotate_left
          · intro W_ hSW_
            go_simp
            try with_reducible rfl
          try simp only [Act.put, List.setIfInBounds_toArray, List.set_cons_zero, List.set_cons_succ]
          refine wpAnyH_take (i := 15) (oi := { dst := some 56, op := Op.pick (Operand.tmp 50) (Operand.const (Value.bool true)) (Operand.tmp 55), type := 4, pos := "law.go:84", after := #[{ on := 9, ground := Ground.data }, { on := 14, ground := Ground.data }], guard := none }) (v := ?_) rfl (by kernel_rfl) (by kernel_rfl) (by kernel_rfl) (fun _ _ _ h => h) (Or.inl ⟨by rfl, ?_⟩) hS ?_
          rotate_left
          · intro W_ hSW_
            go_simp
            try with_reducible rfl
          try simp only [Act.put, List.setIfInBounds_toArray, List.set_cons_zero, List.set_cons_succ]
          refine wpAnyH_take (i := 16) (oi := { dst := some 57, op := Op.move (Operand.tmp 56), type := 4, pos := "law.go:84", after := #[{ on := 15, ground := Ground.data }, { on := 9, ground := Ground.chain }], guard := none }) (v := ?_) rfl (by kernel_rfl) (by kernel_rfl) (by kernel_rfl) (fun _ _ _ h => h) (Or.inl ⟨by rfl, ?_⟩) hS ?_
          rotate_left
          · intro W_ hSW_
            go_simp
            try with_reducible rfl
          try simp only [Act.put, List.setIfInBounds_toArray, List.set_cons_zero, List.set_cons_succ]
          refine wpAnyH_take (i := 17) (oi := { dst := some 58, op := Op.move (Operand.tmp 9), type := 4, pos := "law.go:84", after := #[{ on := 16, ground := Ground.guard }], guard := some (16, false) }) (v := ?_) rfl (by kernel_rfl) (by kernel_rfl) (by kernel_rfl) (fun _ _ _ h => h) (Or.inl ⟨by rfl, ?_⟩) hS ?_
          rotate_left
          · intro W_ hSW_
            go_simp
            try with_reducible rfl
          try simp only [Act.put, List.setIfInBounds_toArray, List.set_cons_zero, List.set_cons_succ]
          refine wpAnyH_take (i := 18) (oi := { dst := some 59, op := Op.move (Operand.tmp 58), type := 4, pos := "law.go:84", after := #[{ on := 17, ground := Ground.data }, { on := 16, ground := Ground.chain }, { on := 16, ground := Ground.guard }], guard := some (16, false) }) (v := ?_) rfl (by kernel_rfl) (by kernel_rfl) (by kernel_rfl) (fun _ _ _ h => h) (Or.inl ⟨by rfl, ?_⟩) hS ?_
          rotate_left
          · intro W_ hSW_
            go_simp
            try with_reducible rfl
          try simp only [Act.put, List.setIfInBounds_toArray, List.set_cons_zero, List.set_cons_succ]
          refine wpAnyH_take (i := 19) (oi := { dst := some 60, op := Op.fieldAddr 30 (Operand.tmp 8) 0, type := 0, pos := "law.go:84", after := #[{ on := 18, ground := Ground.guard }], guard := some (18, true) }) (v := ?_) rfl (by kernel_rfl) (by kernel_rfl) (by kernel_rfl) (fun _ _ _ h => h) (Or.inl ⟨by rfl, ?_⟩) hS ?_
          rotate_left
          · intro W_ hSW_
            go_simp
            try with_reducible rfl
          try simp only [Act.put, List.setIfInBounds_toArray, List.set_cons_zero, List.set_cons_succ]
          refine wpAnyH_take (i := 20) (oi := { dst := some 61, op := Op.load 3 (Operand.tmp 60), type := 3, pos := "law.go:84", after := #[{ on := 19, ground := Ground.data }, { on := 18, ground := Ground.guard }], guard := some (18, true) }) (v := ?_) rfl (by kernel_rfl) (by kernel_rfl) (by kernel_rfl) (fun _ _ _ h => h) (Or.inl ⟨by rfl, ?_⟩) hS ?_
          rotate_left
          · intro W_ hSW_
            have e0 := blk_cell hSW_.1 0
            have e1 := blk_cell hSW_.1 1
            go_simp
            try with_reducible rfl
          try simp only [Act.put, List.setIfInBounds_toArray, List.set_cons_zero, List.set_cons_succ]
          refine wpAnyH_take (i := 21) (oi := { dst := some 62, op := Op.move (Operand.tmp 4), type := 48, pos := "law.go:84", after := #[{ on := 18, ground := Ground.guard }], guard := some (18, true) }) (v := ?_) rfl (by kernel_rfl) (by kernel_rfl) (by kernel_rfl) (fun _ _ _ h => h) (Or.inl ⟨by rfl, ?_⟩) hS ?_
          rotate_left
          · intro W_ hSW_
            go_simp
            try with_reducible rfl
          try simp only [Act.put, List.setIfInBounds_toArray, List.set_cons_zero, List.set_cons_succ]
          refine wpAnyH_take (i := 22) (oi := { dst := some 63, op := Op.indexAddr 48 (Operand.tmp 62) (Operand.const (Value.int IntKind.i64 0)), type := 0, pos := "law.go:84", after := #[{ on := 21, ground := Ground.data }, { on := 18, ground := Ground.guard }], guard := some (18, true) }) (v := ?_) rfl (by kernel_rfl) (by kernel_rfl) (by kernel_rfl) (fun _ _ _ h => h) (Or.inl ⟨by rfl, ?_⟩) hS ?_
          rotate_left
          · intro W_ hSW_
            go_simp
            try with_reducible rfl
          try simp only [Act.put, List.setIfInBounds_toArray, List.set_cons_zero, List.set_cons_succ]
          refine wpAnyH_take (i := 23) (oi := { dst := some 64, op := Op.fieldAddr 36 (Operand.tmp 63) 0, type := 0, pos := "law.go:84", after := #[{ on := 22, ground := Ground.data }, { on := 18, ground := Ground.guard }], guard := some (18, true) }) (v := ?_) rfl (by kernel_rfl) (by kernel_rfl) (by kernel_rfl) (fun _ _ _ h => h) (Or.inl ⟨by rfl, ?_⟩) hS ?_
          rotate_left
          · intro W_ hSW_
            go_simp
            try with_reducible rfl
          try simp only [Act.put, List.setIfInBounds_toArray, List.set_cons_zero, List.set_cons_succ]
          refine wpAnyH_take (i := 24) (oi := { dst := some 65, op := Op.load 3 (Operand.tmp 64), type := 3, pos := "law.go:84", after := #[{ on := 23, ground := Ground.data }, { on := 18, ground := Ground.guard }], guard := some (18, true) }) (v := ?_) rfl (by kernel_rfl) (by kernel_rfl) (by kernel_rfl) (fun _ _ _ h => h) (Or.inl ⟨by rfl, ?_⟩) hS ?_
          rotate_left
          · intro W_ hSW_
            have e0 := hSW_.2.1
            go_simp
            try with_reducible rfl
          try simp only [Act.put, List.setIfInBounds_toArray, List.set_cons_zero, List.set_cons_succ]
          refine wpAnyH_take (i := 25) (oi := { dst := some 66, op := Op.binOp BinOp.neq 3 (Operand.tmp 61) (Operand.tmp 65) 3, type := 4, pos := "law.go:84", after := #[{ on := 20, ground := Ground.data }, { on := 24, ground := Ground.data }, { on := 18, ground := Ground.guard }], guard := some (18, true) }) (v := ?_) rfl (by kernel_rfl) (by kernel_rfl) (by kernel_rfl) (fun _ _ _ h => h) (Or.inl ⟨by rfl, ?_⟩) hS ?_
          rotate_left
          · intro W_ hSW_
            go_simp
            try with_reducible rfl
          try simp only [Act.put, List.setIfInBounds_toArray, List.set_cons_zero, List.set_cons_succ]
          refine wpAnyH_take (i := 26) (oi := { dst := some 67, op := Op.move (Operand.tmp 66), type := 4, pos := "law.go:84", after := #[{ on := 25, ground := Ground.data }, { on := 18, ground := Ground.chain }, { on := 18, ground := Ground.guard }], guard := some (18, true) }) (v := ?_) rfl (by kernel_rfl) (by kernel_rfl) (by kernel_rfl) (fun _ _ _ h => h) (Or.inl ⟨by rfl, ?_⟩) hS ?_
          rotate_left
          · intro W_ hSW_
            go_simp
            try with_reducible rfl
          try simp only [Act.put, List.setIfInBounds_toArray, List.set_cons_zero, List.set_cons_succ]
          refine wpAnyH_take (i := 27) (oi := { dst := some 68, op := Op.fieldAddr 30 (Operand.tmp 8) 1, type := 0, pos := "law.go:84", after := #[{ on := 26, ground := Ground.guard }], guard := some (26, false) }) (v := ?_) rfl (by kernel_rfl) (by kernel_rfl) (by kernel_rfl) (fun _ _ _ h => h) (Or.inl ⟨by rfl, ?_⟩) hS ?_
          rotate_left
          · intro W_ hSW_
            go_simp
            try with_reducible rfl
          try simp only [Act.put, List.setIfInBounds_toArray, List.set_cons_zero, List.set_cons_succ]
          refine wpAnyH_take (i := 28) (oi := { dst := some 69, op := Op.load 2 (Operand.tmp 68), type := 2, pos := "law.go:84", after := #[{ on := 27, ground := Ground.data }, { on := 26, ground := Ground.guard }], guard := some (26, false) }) (v := ?_) rfl (by kernel_rfl) (by kernel_rfl) (by kernel_rfl) (fun _ _ _ h => h) (Or.inl ⟨by rfl, ?_⟩) hS ?_
          rotate_left
          · intro W_ hSW_
            have e0 := blk_cell hSW_.1 0
            have e1 := blk_cell hSW_.1 1
            go_simp
            try with_reducible rfl
          try simp only [Act.put, List.setIfInBounds_toArray, List.set_cons_zero, List.set_cons_succ]
          refine wpAnyH_take (i := 29) (oi := { dst := some 70, op := Op.move (Operand.tmp 4), type := 48, pos := "law.go:84", after := #[{ on := 26, ground := Ground.guard }], guard := some (26, false) }) (v := ?_) rfl (by kernel_rfl) (by kernel_rfl) (by kernel_rfl) (fun _ _ _ h => h) (Or.inl ⟨by rfl, ?_⟩) hS ?_
          rotate_left
          · intro W_ hSW_
            go_simp
            try with_reducible rfl
          try simp only [Act.put, List.setIfInBounds_toArray, List.set_cons_zero, List.set_cons_succ]
          refine wpAnyH_take (i := 30) (oi := { dst := some 71, op := Op.indexAddr 48 (Operand.tmp 70) (Operand.const (Value.int IntKind.i64 0)), type := 0, pos := "law.go:84", after := #[{ on := 29, ground := Ground.data }, { on := 26, ground := Ground.guard }], guard := some (26, false) }) (v := ?_) rfl (by kernel_rfl) (by kernel_rfl) (by kernel_rfl) (fun _ _ _ h => h) (Or.inl ⟨by rfl, ?_⟩) hS ?_
          rotate_left
          · intro W_ hSW_
            go_simp
            try with_reducible rfl
          try simp only [Act.put, List.setIfInBounds_toArray, List.set_cons_zero, List.set_cons_succ]
          refine wpAnyH_take (i := 31) (oi := { dst := some 72, op := Op.fieldAddr 36 (Operand.tmp 71) 1, type := 0, pos := "law.go:84", after := #[{ on := 30, ground := Ground.data }, { on := 26, ground := Ground.guard }], guard := some (26, false) }) (v := ?_) rfl (by kernel_rfl) (by kernel_rfl) (by kernel_rfl) (fun _ _ _ h => h) (Or.inl ⟨by rfl, ?_⟩) hS ?_
          rotate_left
          · intro W_ hSW_
            go_simp
            try with_reducible rfl
          try simp only [Act.put, List.setIfInBounds_toArray, List.set_cons_zero, List.set_cons_succ]
          refine wpAnyH_take (i := 32) (oi := { dst := some 73, op := Op.load 2 (Operand.tmp 72), type := 2, pos := "law.go:84", after := #[{ on := 31, ground := Ground.data }, { on := 26, ground := Ground.guard }], guard := some (26, false) }) (v := ?_) rfl (by kernel_rfl) (by kernel_rfl) (by kernel_rfl) (fun _ _ _ h => h) (Or.inl ⟨by rfl, ?_⟩) hS ?_
          rotate_left
          · intro W_ hSW_
            have e0 := hSW_.2.2
            go_simp
            try with_reducible rfl
          try simp only [Act.put, List.setIfInBounds_toArray, List.set_cons_zero, List.set_cons_succ]
          refine wpAnyH_take (i := 33) (oi := { dst := some 74, op := Op.binOp BinOp.neq 2 (Operand.tmp 69) (Operand.tmp 73) 2, type := 4, pos := "law.go:84", after := #[{ on := 28, ground := Ground.data }, { on := 32, ground := Ground.data }, { on := 26, ground := Ground.guard }], guard := some (26, false) }) (v := ?_) rfl (by kernel_rfl) (by kernel_rfl) (by kernel_rfl) (fun _ _ _ h => h) (Or.inl ⟨by rfl, ?_⟩) hS ?_
          rotate_left
          · intro W_ hSW_
            go_simp
            try with_reducible rfl
          try simp only [Act.put, List.setIfInBounds_toArray, List.set_cons_zero, List.set_cons_succ]
          refine wpAnyH_take (i := 34) (oi := { dst := some 75, op := Op.pick (Operand.tmp 67) (Operand.const (Value.bool true)) (Operand.tmp 74), type := 4, pos := "law.go:84", after := #[{ on := 26, ground := Ground.data }, { on := 33, ground := Ground.data }, { on := 18, ground := Ground.guard }], guard := some (18, true) }) (v := ?_) rfl (by kernel_rfl) (by kernel_rfl) (by kernel_rfl) (fun _ _ _ h => h) (Or.inl ⟨by rfl, ?_⟩) hS ?_
          rotate_left
          · intro W_ hSW_
            go_simp
            try with_reducible rfl
          try simp only [Act.put, List.setIfInBounds_toArray, List.set_cons_zero, List.set_cons_succ]
          refine wpAnyH_take (i := 35) (oi := { dst := some 76, op := Op.pick (Operand.tmp 59) (Operand.tmp 75) (Operand.const (Value.bool false)), type := 4, pos := "law.go:84", after := #[{ on := 18, ground := Ground.data }, { on := 34, ground := Ground.data }, { on := 16, ground := Ground.guard }], guard := some (16, false) }) (v := ?_) rfl (by kernel_rfl) (by kernel_rfl) (by kernel_rfl) (fun _ _ _ h => h) (Or.inl ⟨by rfl, ?_⟩) hS ?_
          rotate_left
          · intro W_ hSW_
            go_simp
            try with_reducible rfl
          try simp only [Act.put, List.setIfInBounds_toArray, List.set_cons_zero, List.set_cons_succ]
          refine wpAnyH_take (i := 36) (oi := { dst := some 77, op := Op.pick (Operand.tmp 57) (Operand.const (Value.bool true)) (Operand.tmp 76), type := 4, pos := "law.go:84", after := #[{ on := 16, ground := Ground.data }, { on := 35, ground := Ground.data }], guard := none }) (v := ?_) rfl (by kernel_rfl) (by kernel_rfl) (by kernel_rfl) (fun _ _ _ h => h) (Or.inl ⟨by rfl, ?_⟩) hS ?_
          rotate_left
          · intro W_ hSW_
            go_simp
            try with_reducible rfl
          try simp only [Act.put, List.setIfInBounds_toArray, List.set_cons_zero, List.set_cons_succ]
          refine wpAnyH_take (i := 37) (oi := { dst := some 78, op := Op.move (Operand.tmp 77), type := 4, pos := "law.go:84", after := #[{ on := 36, ground := Ground.data }, { on := 26, ground := Ground.chain }], guard := none }) (v := ?_) rfl (by kernel_rfl) (by kernel_rfl) (by kernel_rfl) (fun _ _ _ h => h) (Or.inl ⟨by rfl, ?_⟩) hS ?_
          rotate_left
          · intro W_ hSW_
            go_simp
            try with_reducible rfl
          try simp only [Act.put, List.setIfInBounds_toArray, List.set_cons_zero, List.set_cons_succ]
          refine wpAnyH_take (i := 38) (oi := { dst := some 79, op := Op.move (Operand.tmp 9), type := 4, pos := "law.go:84", after := #[{ on := 37, ground := Ground.guard }], guard := some (37, false) }) (v := ?_) rfl (by kernel_rfl) (by kernel_rfl) (by kernel_rfl) (fun _ _ _ h => h) (Or.inl ⟨by rfl, ?_⟩) hS ?_
          rotate_left
          · intro W_ hSW_
            go_simp
            try with_reducible rfl
          try simp only [Act.put, List.setIfInBounds_toArray, List.set_cons_zero, List.set_cons_succ]
          refine wpAnyH_take (i := 39) (oi := { dst := some 80, op := Op.unOp UnOp.not 4 (Operand.tmp 79), type := 4, pos := "law.go:84", after := #[{ on := 38, ground := Ground.data }, { on := 37, ground := Ground.guard }], guard := some (37, false) }) (v := ?_) rfl (by kernel_rfl) (by kernel_rfl) (by kernel_rfl) (fun _ _ _ h => h) (Or.inl ⟨by rfl, ?_⟩) hS ?_
          rotate_left
          · intro W_ hSW_
            go_simp
            try with_reducible rfl
          try simp only [Act.put, List.setIfInBounds_toArray, List.set_cons_zero, List.set_cons_succ]
          refine wpAnyH_take (i := 40) (oi := { dst := some 81, op := Op.move (Operand.tmp 80), type := 4, pos := "law.go:84", after := #[{ on := 39, ground := Ground.data }, { on := 37, ground := Ground.chain }, { on := 37, ground := Ground.guard }], guard := some (37, false) }) (v := ?_) rfl (by kernel_rfl) (by kernel_rfl) (by kernel_rfl) (fun _ _ _ h => h) (Or.inl ⟨by rfl, ?_⟩) hS ?_
          rotate_left
          · intro W_ hSW_
            go_simp
            try with_reducible rfl
          try simp only [Act.put, List.setIfInBounds_toArray, List.set_cons_zero, List.set_cons_succ]
          refine wpAnyH_take (i := 41) (oi := { dst := some 82, op := Op.load 30 (Operand.tmp 8), type := 30, pos := "law.go:84", after := #[{ on := 40, ground := Ground.guard }], guard := some (40, true) }) (v := undef) rfl (by kernel_rfl) (by kernel_rfl) (by kernel_rfl) (fun _ _ _ h => h) (Or.inr ⟨by rfl, rfl⟩) hS ?_
          try simp only [Act.put, List.setIfInBounds_toArray, List.set_cons_zero, List.set_cons_succ]
          refine wpAnyH_take (i := 42) (oi := { dst := some 83, op := Op.build 30 #[], type := 30, pos := "law.go:84", after := #[{ on := 40, ground := Ground.guard }], guard := some (40, true) }) (v := undef) rfl (by kernel_rfl) (by kernel_rfl) (by kernel_rfl) (fun _ _ _ h => h) (Or.inr ⟨by rfl, rfl⟩) hS ?_
          try simp only [Act.put, List.setIfInBounds_toArray, List.set_cons_zero, List.set_cons_succ]
          refine wpAnyH_take (i := 43) (oi := { dst := some 84, op := Op.binOp BinOp.neq 30 (Operand.tmp 82) (Operand.tmp 83) 30, type := 4, pos := "law.go:84", after := #[{ on := 41, ground := Ground.data }, { on := 42, ground := Ground.data }, { on := 40, ground := Ground.guard }], guard := some (40, true) }) (v := undef) rfl (by kernel_rfl) (by kernel_rfl) (by kernel_rfl) (fun _ _ _ h => h) (Or.inr ⟨by rfl, rfl⟩) hS ?_
          try simp only [Act.put, List.setIfInBounds_toArray, List.set_cons_zero, List.set_cons_succ]
          refine wpAnyH_take (i := 44) (oi := { dst := some 85, op := Op.pick (Operand.tmp 81) (Operand.tmp 84) (Operand.const (Value.bool false)), type := 4, pos := "law.go:84", after := #[{ on := 40, ground := Ground.data }, { on := 43, ground := Ground.data }, { on := 37, ground := Ground.guard }], guard := some (37, false) }) (v := ?_) rfl (by kernel_rfl) (by kernel_rfl) (by kernel_rfl) (fun _ _ _ h => h) (Or.inl ⟨by rfl, ?_⟩) hS ?_
          rotate_left
          · intro W_ hSW_
            go_simp
            try with_reducible rfl
          try simp only [Act.put, List.setIfInBounds_toArray, List.set_cons_zero, List.set_cons_succ]
          refine wpAnyH_take (i := 45) (oi := { dst := some 86, op := Op.pick (Operand.tmp 78) (Operand.const (Value.bool true)) (Operand.tmp 85), type := 4, pos := "law.go:84", after := #[{ on := 37, ground := Ground.data }, { on := 44, ground := Ground.data }], guard := none }) (v := ?_) rfl (by kernel_rfl) (by kernel_rfl) (by kernel_rfl) (fun _ _ _ h => h) (Or.inl ⟨by rfl, ?_⟩) hS ?_
          rotate_left
          · intro W_ hSW_
            go_simp
            try with_reducible rfl
          try simp only [Act.put, List.setIfInBounds_toArray, List.set_cons_zero, List.set_cons_succ]
          refine wpAnyH_take (i := 46) (oi := { dst := some 87, op := Op.move (Operand.tmp 86), type := 4, pos := "law.go:84", after := #[{ on := 45, ground := Ground.data }, { on := 40, ground := Ground.chain }], guard := none }) (v := ?_) rfl (by kernel_rfl) (by kernel_rfl) (by kernel_rfl) (fun _ _ _ h => h) (Or.inl ⟨by rfl, ?_⟩) hS ?_
          rotate_left
          · intro W_ hSW_
            go_simp
            try with_reducible rfl
          try simp only [Act.put, List.setIfInBounds_toArray, List.set_cons_zero, List.set_cons_succ]
          refine wpAnyH_take (i := 47) (oi := { dst := some 88, op := Op.move (Operand.tmp 3), type := 23, pos := "law.go:84", after := #[{ on := 46, ground := Ground.guard }], guard := some (46, false) }) (v := ?_) rfl (by kernel_rfl) (by kernel_rfl) (by kernel_rfl) (fun _ _ _ h => h) (Or.inl ⟨by rfl, ?_⟩) hS ?_
          rotate_left
          · intro W_ hSW_
            go_simp
            try with_reducible rfl
          try simp only [Act.put, List.setIfInBounds_toArray, List.set_cons_zero, List.set_cons_succ]
          refine wpAnyH_take (i := 50) (oi := { dst := some 91, op := Op.move (Operand.tmp 4), type := 48, pos := "law.go:84", after := #[{ on := 46, ground := Ground.guard }], guard := some (46, false) }) (v := ?_) rfl (by kernel_rfl) (by kernel_rfl) (by kernel_rfl) (fun _ _ _ h => h) (Or.inl ⟨by rfl, ?_⟩) hS ?_
          rotate_left
          · intro W_ hSW_
            go_simp
            try with_reducible rfl
          try simp only [Act.put, List.setIfInBounds_toArray, List.set_cons_zero, List.set_cons_succ]
          refine wpAnyH_ready (rs := [48]) (by kernel_rfl) (by simp) ?_
          refine AllReadyH.cons (o := { dst := some 89, op := Op.call { callee := Callee.value (Operand.func 24), args := #[Operand.tmp 88], argTypes := #[23] }, type := 38, pos := "law.go:84", after := #[{ on := 47, ground := Ground.data }, { on := 46, ground := Ground.chain }, { on := 46, ground := Ground.guard }], guard := some (46, false) }) rfl (fun K_ hK_ => ?_) AllReadyH.nil
          go_simp
          refine (items_of HM5.out hq61).mono ?_
          rintro e w6 ⟨A6, c6, rfl, hc6, hC6, hM6⟩
          have HM6 := Aside0.mk hM6
          have HC6 := Aside0.mk hC6
          have hS6 := Aside0.mk (And.intro hM6.drop.drop.drop.drop.get (hyy w6 hM6.drop.drop.drop))
          clear hM6 hC6
          refine hK_.out _ _ (hS6.out) (fun hS_ => ?_)
          clear hK_ K_ hS
          have hS := hS_
          clear hS_
          try simp only [Act.put, List.setIfInBounds_toArray, List.set_cons_zero, List.set_cons_succ]
          refine wpAnyH_ready (rs := [49]) (by kernel_rfl) (by simp) ?_
          refine AllReadyH.cons (o := { dst := some 90, op := Op.call { callee := Callee.value (Operand.func 19), args := #[Operand.tmp 89], argTypes := #[38] }, type := 48, pos := "law.go:84", after := #[{ on := 48, ground := Ground.data }, { on := 48, ground := Ground.chain }, { on := 46, ground := Ground.guard }], guard := some (46, false) }) rfl (fun K_ hK_ => ?_) AllReadyH.nil
          go_simp
          refine (items_call HM6.out HC6.out rfl hc6 hqm).mono ?_
          rintro e w7 ⟨A7, c7, rfl, hM7⟩
          have HM7 := Aside0.mk hM7
          have hS7 := Aside0.mk (And.intro hM7.drop.drop.drop.drop.drop.get (hyy w7 hM7.drop.drop.drop.drop))
          have keyS := Aside0.mk (same_call (q := (yi, yd) :: r) hM7.readsE.2 hM7.drop.drop.drop.drop.q_C.2.2 rfl HN3.out hM7.readsE.1 hc3 hqm)
          clear hM7
          refine hK_.out _ _ (hS7.out) (fun hS_ => ?_)
          clear hK_ K_ hS
          have hS := hS_
          clear hS_
          try simp only [Act.put, List.setIfInBounds_toArray, List.set_cons_zero, List.set_cons_succ]
          refine wpAnyH_ready (rs := [51]) (by kernel_rfl) (by simp) ?_
          refine AllReadyH.cons (o := { dst := some 92, op := Op.call { callee := Callee.value (Operand.func 23), args := #[Operand.tmp 90, Operand.tmp 91], argTypes := #[48, 48] }, type := 4, pos := "law.go:84", after := #[{ on := 49, ground := Ground.data }, { on := 50, ground := Ground.data }, { on := 49, ground := Ground.chain }, { on := 46, ground := Ground.guard }], guard := some (46, false) }) rfl (fun K_ hK_ => ?_) AllReadyH.nil
          go_simp
          refine keyS.out.mono ?_
          rintro e w8 ⟨rfl, hb8⟩
          have HM8 := Aside0.mk (HM7.out.step hb8)
          have hS8 := Aside0.mk (And.intro HM8.out.drop.drop.drop.drop.drop.get (hyy w8 HM8.out.drop.drop.drop.drop))
          clear hb8
          refine hK_.out _ _ (hS8.out) (fun hS_ => ?_)
          clear hK_ K_ hS
          have hS := hS_
          clear hS_
          try simp only [Act.put, List.setIfInBounds_toArray, List.set_cons_zero, List.set_cons_succ]
          refine wpAnyH_take (i := 52) (oi := { dst := some 93, op := Op.unOp UnOp.not 4 (Operand.tmp 92), type := 4, pos := "law.go:84", after := #[{ on := 51, ground := Ground.data }, { on := 46, ground := Ground.guard }], guard := some (46, false) }) (v := ?_) rfl (by kernel_rfl) (by kernel_rfl) (by kernel_rfl) (fun _ _ _ h => h) (Or.inl ⟨by rfl, ?_⟩) hS ?_
          rotate_left
          · intro W_ hSW_
            go_simp
            try with_reducible rfl
          try simp only [Act.put, List.setIfInBounds_toArray, List.set_cons_zero, List.set_cons_succ]
          refine wpAnyH_take (i := 53) (oi := { dst := some 94, op := Op.pick (Operand.tmp 87) (Operand.const (Value.bool true)) (Operand.tmp 93), type := 4, pos := "law.go:84", after := #[{ on := 46, ground := Ground.data }, { on := 52, ground := Ground.data }], guard := none }) (v := ?_) rfl (by kernel_rfl) (by kernel_rfl) (by kernel_rfl) (fun _ _ _ h => h) (Or.inl ⟨by rfl, ?_⟩) hS ?_
          rotate_left
          · intro W_ hSW_
            go_simp
            try with_reducible rfl
          try simp only [Act.put, List.setIfInBounds_toArray, List.set_cons_zero, List.set_cons_succ]
          refine wpAnyH_done (by kernel_rfl) ?_ _
          have HMF := Aside0.mk HM8.out.drop.drop.p3.drop
          go_wp2_with fail
          exact ⟨⟨j + 1, by rw [← HN.out]; omega, by first | go_num | (congr 1), v2, by rw [hst2.out]; exact HMF.out⟩, by simp [intOf]; omega⟩
      · obtain rfl : j = n := by omega
        have HM := Aside0.mk hM
        clear hM hlt hj
        go_wp2_with fail
        refine (examples_call _).mono ?_
        rintro e w9 ⟨rfl, hb9⟩
        have HB9 := Aside0.mk (below_step HM.out.below hb9)
        clear hb9
        go_wp2_with fail
        go_ret
        exact ⟨rfl, HB9.out⟩
theorem Matches_row {G : Prop} (A : Option Addr) (c : Nat) (l : List S27) (W : World) (hr : k27.C W A l.length l) (hc : l.length ≤ c) (g : G) :
    Calls Try.prog 7 #[.slice A l.length c] W fun e w' => e = .returned (.bool true) ∧ Below W.heap.size W w' := Matches_law hr
end Go.Proofs.Yteneigadnabolaa.QAl
