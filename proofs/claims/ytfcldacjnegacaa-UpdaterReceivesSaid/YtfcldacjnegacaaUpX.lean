/- The reference's Store. Printed by mkUpX.py. -/
import Derived.Test.YtfcldacjnegacaaUpV
namespace Go.Proofs.Ytfcldacjnegacaa.Up
open Go.RowKit Go.Proofs.YtfcldacjnegacaaW.PrintWords Go.Proofs.YtfcldacjnegacaaW.PrintLast Go.Proofs.YtfcldacjnegacaaW.PrintMore Go.Proofs.Ytfcldacjnegacaa.Sl
attribute [local go_sem] max2_int min2_int max_two min_two
set_option linter.unusedVariables false
set_option linter.unusedSimpArgs false
variable {L : List Chunk} {w0 w w' : World} {gd gr N c : Nat} {d : Dv} {slot chunk : Int}
def StRel (w0 : World) (gd gr N g1 sl c : Nat) (L : List Chunk) (T : Dv × Bool) (a : Nat) (xs : List Int) (v7 v8 : Value) (wr : World) : Prop :=
  ∃ (k : Nat) (p : Dv × Bool), k ≤ xs.length ∧ v7 = .bool p.2 ∧ v8 = .int .i64 (k : Int) ∧ T = bindW p (a + k) (xs.drop k) ∧ (p.2 = true → p.1.off = false) ∧ DvM w0 wr gd gr N p.1 (blk g1 #[.pointer (some ⟨gd, 0, none⟩), .int .i64 (sl : Int), .int .i64 (c : Int)] 28 :: L)
theorem DvM.made {g : Nat} {o : Obj} (h : DvM w0 w gd gr N d L) (hb : Below w.heap.size w w') (hg : w.heap.size ≤ g) (ho : w'.heap[g]? = some o) : DvM w0 w' gd gr N d (ob g o :: L) := ⟨h.1, (h.2.made (c := ob g o) hb ⟨hg, ho⟩).q2⟩
theorem act_on {d : Dv} {chunk : Int} (h : d.act chunk = true) : d.off = false := by
  cases ho : d.off with
  | false => rfl
  | true =>
    unfold Dv.act at h
    have : d.num 0 1 = 0 := by
      unfold Dv.num Dv.rds
      rw [if_pos ho]
      rfl
    rw [this] at h
    simp at h
theorem st_bound {sl k c l r m n N : Nat} (h1 : sl + 6144 ≤ N) (h2 : k * c < l) (h3 : k * c = r) (h5 : clen l c k = m) (h6 : n = m) (h8 : l ≤ 6144) (hN : N = 10240) (hc : c ≤ 36) : sl + r + n ≤ N ∧ sl + r ≤ 20000 ∧ n ≤ 36 := by
  unfold clen at h5
  rw [h3] at h5
  omega
set_option maxRecDepth 100000 in
set_option maxHeartbeats 2000000 in
theorem Store_call {sl : Nat} (hM : DvM w0 w gd gr N d L) (hN : N = 10240) (hc : 4 ≤ c) (hc2 : c ≤ 36) (hsl : sl + 6144 ≤ N) (i : Int) {A : Option Addr} {n cp : Nat} {xs : List Int} (hn : xs.length = n)
    (hX : ∀ d' W (L' : List Chunk), DvM w0 W gd gr N d' (L' ++ L) → (Kd.int .u8).C W A xs.length xs) (hx : ∀ x ∈ xs, 0 ≤ x ∧ x < 256) :
    Calls Try.prog 46 #[rup gd (sl : Int) (c : Int), .int .i64 i, .slice A n cp] w fun e w' => e = .returned (.int .i64 (d.store sl c i xs).2) ∧ DvM w0 w' gd gr N (d.store sl c i xs).1 L := by
  have HC := Aside0.mk (fun W (hb : Below w.heap.size w W) => Active_call (slot := (sl : Int)) (chunk := (c : Int)) (hM.step hb) hN)
  have HR := Aside0.mk (RQ.start w gd (sl : Int) (c : Int))
  obtain ⟨g1, hg1⟩ : ∃ g1, g1 = w.heap.size := ⟨_, rfl⟩
  have HA1 := Aside0.mk (hM.add (.cells #[.pointer (some ⟨gd, 0, none⟩), .int .i64 (sl : Int), .int .i64 (c : Int)] 28))
  have HGE : Aside0 (w.heap.size ≤ g1) := ⟨by rw [hg1]; exact Nat.le_refl _⟩
  rw [← hg1] at HR HA1
  generalize hR : d.store sl c i xs = R
  have HRR := Aside0.mk hR.symm
  have HM := Aside0.mk hM
  have HN := Aside0.mk hN
  have HCC := Aside0.mk (And.intro hc hc2)
  have HSL := Aside0.mk hsl
  have HX := Aside0.mk hX
  have HXB := Aside0.mk hx
  have HL := Aside0.mk hn
  have K5 := Aside0.mk (fun W (hb : Below w.heap.size w W) => rnumber5 (slot := (sl : Int)) (chunk := (c : Int)) (hM.step hb) hN)
  have mixed : Try.prog.follows Departure.mixedOrders = true := by kernel_rfl
  cases hac : d.act (c : Int) with
  | false =>
    rw [hac] at HC
    have HRt := Aside0.mk (HRR.out.trans (show d.store sl c i xs = (d, 10) by unfold Dv.store; rw [if_pos hac]))
    unfold rup at *
    clear hac hM hN hc hc2 hsl hX hx hn hR K5
    go_enter Try.func46, Try.ntmps46
    go_wp2_with fail
    rw [← hg1]
    refine (HC.out _ HR.out.1).mono ?_
    rintro e w1 ⟨rfl, hb⟩
    have HB := Aside0.mk (below_step HR.out.1 hb)
    clear hb hg1
    go_wp2_with fail
    go_ret
    rw [HRt.out]
    exact ⟨rfl, HM.out.step HB.out⟩
  | true =>
    rw [hac] at HC
    obtain ⟨hl1, hl2⟩ := act_len hac
    have HON := Aside0.mk (act_on hac)
    obtain ⟨l, hl⟩ : ∃ l : Nat, d.num 5 2 = (l : Int) := ⟨(d.num 5 2).toNat, by omega⟩
    have hl3 : l ≤ 6144 := by omega
    have hq : nch l c ≤ 1536 := nch_le hl3 HCC.out.1
    have HNM := Aside0.mk (fun (j : Nat) (h : j < nch l c) => nch_mul h)
    have HRs := Aside0.mk (HRR.out.trans (show d.store sl c i xs = if i < 0 ∨ (nch l c : Int) ≤ i ∨ xs.length ≠ clen l c i.toNat then (d, 1) else if d.st i.toNat = true then (d, 0) else d.put sl c i.toNat xs by
      unfold Dv.store
      rw [if_neg (by rw [hac]; simp), hl, Int.toNat_natCast]))
    have HRC := Aside0.mk (fun W => rchunks_call (gd := gd) (slot := (sl : Int)) W l hl3 HCC.out.1 HCC.out.2)
    have HLN0 := Aside0.mk (fun W (hb : Below w.heap.size w W) (j : Nat) (hj : j * c < l) => rlength_call (slot := (sl : Int)) (hM.step hb) hN hc hc2 hl hl3 hj)
    have HST0 := Aside0.mk (fun W (hb : Below w.heap.size w W) (j : Nat) (hj : j < 1600) => rstored_call (slot := (sl : Int)) (chunk := (c : Int)) (hM.step hb) hN j hj)
    rw [hl] at K5
    obtain ⟨q, hqq⟩ : ∃ q, nch l c = q := ⟨_, rfl⟩
    simp only [hqq] at HRC HRs
    rw [hqq] at hq
    have HQ := Aside0.mk hqq
    clear hl hl1 hl2 hac hqq hM hN hc hc2 hsl hX hx hn hR
    unfold rup at *
    go_enter Try.func46, Try.ntmps46
    go_wp2_with fail
    rw [← hg1]
    refine (HC.out _ HR.out.1).mono ?_
    rintro e w1 ⟨rfl, hb⟩
    have HR0 := Aside0.mk (HR.out.step hb)
    have HA2 := Aside0.mk (HA1.out.step hb)
    clear hb hg1 HC HR HA1
    by_cases hi0 : i < 0
    · have HRt := Aside0.mk (HRs.out.trans (if_pos (.inl hi0)))
      go_wp2_with fail
      refine wp_region_held_drew (S := RQ w g1 gd (sl : Int) (c : Int)) (by kernel_rfl) HR0.out.drew (fun hS => ?_)
      refine wpAnyH_take (i := 0) (oi := { dst := some 12, op := Op.move (Operand.tmp 1), type := 3, pos := "ref.go:123", after := #[], guard := none }) (v := ?_) rfl (by kernel_rfl) (by kernel_rfl) (by kernel_rfl) (fun _ _ _ h => h) (Or.inl ⟨by rfl, ?_⟩) hS ?_
      rotate_left
      · intro W_ hSW_
        obtain ⟨hB_, hG_⟩ := hSW_
        have t0_ := blk_cell hG_ 0
        have t1_ := blk_cell hG_ 1
        have t2_ := blk_cell hG_ 2
        go_simp
        try with_reducible rfl
      try simp only [Act.put, List.setIfInBounds_toArray, List.set_cons_zero, List.set_cons_succ]
      refine wpAnyH_take (i := 1) (oi := { dst := some 13, op := Op.binOp BinOp.lss 3 (Operand.tmp 12) (Operand.const (Value.int IntKind.i64 0)) 3, type := 4, pos := "ref.go:123", after := #[{ on := 0, ground := Ground.data }], guard := none }) (v := ?_) rfl (by kernel_rfl) (by kernel_rfl) (by kernel_rfl) (fun _ _ _ h => h) (Or.inl ⟨by rfl, ?_⟩) hS ?_
      rotate_left
      · intro W_ hSW_
        obtain ⟨hB_, hG_⟩ := hSW_
        have t0_ := blk_cell hG_ 0
        have t1_ := blk_cell hG_ 1
        have t2_ := blk_cell hG_ 2
        go_simp
        try with_reducible rfl
      try simp only [Act.put, List.setIfInBounds_toArray, List.set_cons_zero, List.set_cons_succ]
      refine wpAnyH_take (i := 2) (oi := { dst := some 14, op := Op.move (Operand.tmp 13), type := 4, pos := "ref.go:123", after := #[{ on := 1, ground := Ground.data }], guard := none }) (v := ?_) rfl (by kernel_rfl) (by kernel_rfl) (by kernel_rfl) (fun _ _ _ h => h) (Or.inl ⟨by rfl, ?_⟩) hS ?_
      rotate_left
      · intro W_ hSW_
        obtain ⟨hB_, hG_⟩ := hSW_
        have t0_ := blk_cell hG_ 0
        have t1_ := blk_cell hG_ 1
        have t2_ := blk_cell hG_ 2
        go_simp
        try with_reducible rfl
      try simp only [Act.put, List.setIfInBounds_toArray, List.set_cons_zero, List.set_cons_succ]
      refine wpAnyH_take (i := 3) (oi := { dst := some 15, op := Op.move (Operand.tmp 1), type := 3, pos := "ref.go:123", after := #[{ on := 2, ground := Ground.guard }], guard := some (2, false) }) (v := undef) rfl (by kernel_rfl) (by kernel_rfl) (by kernel_rfl) (fun _ _ _ h => h) (Or.inr ⟨by rfl, rfl⟩) hS ?_
      try simp only [Act.put, List.setIfInBounds_toArray, List.set_cons_zero, List.set_cons_succ]
      refine wpAnyH_take (i := 4) (oi := { dst := some 16, op := Op.load 28 (Operand.tmp 3), type := 28, pos := "ref.go:123", after := #[{ on := 2, ground := Ground.guard }], guard := some (2, false) }) (v := undef) rfl (by kernel_rfl) (by kernel_rfl) (by kernel_rfl) (fun _ _ _ h => h) (Or.inr ⟨by rfl, rfl⟩) hS ?_
      try simp only [Act.put, List.setIfInBounds_toArray, List.set_cons_zero, List.set_cons_succ]
      refine wpAnyH_take (i := 5) (oi := { dst := some 17, op := Op.load 28 (Operand.tmp 3), type := 28, pos := "ref.go:123", after := #[{ on := 2, ground := Ground.guard }], guard := some (2, false) }) (v := undef) rfl (by kernel_rfl) (by kernel_rfl) (by kernel_rfl) (fun _ _ _ h => h) (Or.inr ⟨by rfl, rfl⟩) hS ?_
      try simp only [Act.put, List.setIfInBounds_toArray, List.set_cons_zero, List.set_cons_succ]
      refine wpAnyH_take (i := 6) (oi := { dst := some 18, op := Op.call { callee := Callee.value (Operand.func 51), args := #[Operand.tmp 17, Operand.const (Value.int IntKind.i64 5), Operand.const (Value.int IntKind.i64 2)], argTypes := #[28, 3, 3] }, type := 3, pos := "ref.go:123", after := #[{ on := 5, ground := Ground.data }, { on := 2, ground := Ground.chain }, { on := 2, ground := Ground.guard }], guard := some (2, false) }) (v := undef) rfl (by kernel_rfl) (by kernel_rfl) (by kernel_rfl) (fun _ _ _ h => h) (Or.inr ⟨by rfl, rfl⟩) hS ?_
      try simp only [Act.put, List.setIfInBounds_toArray, List.set_cons_zero, List.set_cons_succ]
      refine wpAnyH_take (i := 7) (oi := { dst := some 19, op := Op.call { callee := Callee.value (Operand.func 50), args := #[Operand.tmp 16, Operand.tmp 18], argTypes := #[28, 3] }, type := 3, pos := "ref.go:123", after := #[{ on := 4, ground := Ground.data }, { on := 6, ground := Ground.data }, { on := 6, ground := Ground.chain }, { on := 2, ground := Ground.guard }], guard := some (2, false) }) (v := undef) rfl (by kernel_rfl) (by kernel_rfl) (by kernel_rfl) (fun _ _ _ h => h) (Or.inr ⟨by rfl, rfl⟩) hS ?_
      try simp only [Act.put, List.setIfInBounds_toArray, List.set_cons_zero, List.set_cons_succ]
      refine wpAnyH_take (i := 8) (oi := { dst := some 20, op := Op.binOp BinOp.geq 3 (Operand.tmp 15) (Operand.tmp 19) 3, type := 4, pos := "ref.go:123", after := #[{ on := 3, ground := Ground.data }, { on := 7, ground := Ground.data }, { on := 2, ground := Ground.guard }], guard := some (2, false) }) (v := undef) rfl (by kernel_rfl) (by kernel_rfl) (by kernel_rfl) (fun _ _ _ h => h) (Or.inr ⟨by rfl, rfl⟩) hS ?_
      try simp only [Act.put, List.setIfInBounds_toArray, List.set_cons_zero, List.set_cons_succ]
      refine wpAnyH_take (i := 9) (oi := { dst := some 21, op := Op.pick (Operand.tmp 14) (Operand.const (Value.bool true)) (Operand.tmp 20), type := 4, pos := "ref.go:123", after := #[{ on := 2, ground := Ground.data }, { on := 8, ground := Ground.data }], guard := none }) (v := ?_) rfl (by kernel_rfl) (by kernel_rfl) (by kernel_rfl) (fun _ _ _ h => h) (Or.inl ⟨by rfl, ?_⟩) hS ?_
      rotate_left
      · intro W_ hSW_
        obtain ⟨hB_, hG_⟩ := hSW_
        have t0_ := blk_cell hG_ 0
        have t1_ := blk_cell hG_ 1
        have t2_ := blk_cell hG_ 2
        go_simp
        try with_reducible rfl
      try simp only [Act.put, List.setIfInBounds_toArray, List.set_cons_zero, List.set_cons_succ]
      refine wpAnyH_take (i := 10) (oi := { dst := some 22, op := Op.move (Operand.tmp 21), type := 4, pos := "ref.go:123", after := #[{ on := 9, ground := Ground.data }, { on := 7, ground := Ground.chain }], guard := none }) (v := ?_) rfl (by kernel_rfl) (by kernel_rfl) (by kernel_rfl) (fun _ _ _ h => h) (Or.inl ⟨by rfl, ?_⟩) hS ?_
      rotate_left
      · intro W_ hSW_
        obtain ⟨hB_, hG_⟩ := hSW_
        have t0_ := blk_cell hG_ 0
        have t1_ := blk_cell hG_ 1
        have t2_ := blk_cell hG_ 2
        go_simp
        try with_reducible rfl
      try simp only [Act.put, List.setIfInBounds_toArray, List.set_cons_zero, List.set_cons_succ]
      refine wpAnyH_take (i := 11) (oi := { dst := some 23, op := Op.move (Operand.tmp 2), type := 22, pos := "ref.go:123", after := #[{ on := 10, ground := Ground.guard }], guard := some (10, false) }) (v := undef) rfl (by kernel_rfl) (by kernel_rfl) (by kernel_rfl) (fun _ _ _ h => h) (Or.inr ⟨by rfl, rfl⟩) hS ?_
      try simp only [Act.put, List.setIfInBounds_toArray, List.set_cons_zero, List.set_cons_succ]
      refine wpAnyH_take (i := 12) (oi := { dst := some 24, op := Op.call { callee := Callee.builtin Builtin.len, args := #[Operand.tmp 23], argTypes := #[22] }, type := 3, pos := "ref.go:123", after := #[{ on := 11, ground := Ground.data }, { on := 10, ground := Ground.guard }], guard := some (10, false) }) (v := undef) rfl (by kernel_rfl) (by kernel_rfl) (by kernel_rfl) (fun _ _ _ h => h) (Or.inr ⟨by rfl, rfl⟩) hS ?_
      try simp only [Act.put, List.setIfInBounds_toArray, List.set_cons_zero, List.set_cons_succ]
      refine wpAnyH_take (i := 13) (oi := { dst := some 25, op := Op.load 28 (Operand.tmp 3), type := 28, pos := "ref.go:123", after := #[{ on := 10, ground := Ground.guard }], guard := some (10, false) }) (v := undef) rfl (by kernel_rfl) (by kernel_rfl) (by kernel_rfl) (fun _ _ _ h => h) (Or.inr ⟨by rfl, rfl⟩) hS ?_
      try simp only [Act.put, List.setIfInBounds_toArray, List.set_cons_zero, List.set_cons_succ]
      refine wpAnyH_take (i := 14) (oi := { dst := some 26, op := Op.move (Operand.tmp 1), type := 3, pos := "ref.go:123", after := #[{ on := 10, ground := Ground.guard }], guard := some (10, false) }) (v := undef) rfl (by kernel_rfl) (by kernel_rfl) (by kernel_rfl) (fun _ _ _ h => h) (Or.inr ⟨by rfl, rfl⟩) hS ?_
      try simp only [Act.put, List.setIfInBounds_toArray, List.set_cons_zero, List.set_cons_succ]
      refine wpAnyH_take (i := 15) (oi := { dst := some 27, op := Op.call { callee := Callee.value (Operand.func 55), args := #[Operand.tmp 25, Operand.tmp 26], argTypes := #[28, 3] }, type := 3, pos := "ref.go:123", after := #[{ on := 13, ground := Ground.data }, { on := 14, ground := Ground.data }, { on := 10, ground := Ground.chain }, { on := 10, ground := Ground.guard }], guard := some (10, false) }) (v := undef) rfl (by kernel_rfl) (by kernel_rfl) (by kernel_rfl) (fun _ _ _ h => h) (Or.inr ⟨by rfl, rfl⟩) hS ?_
      try simp only [Act.put, List.setIfInBounds_toArray, List.set_cons_zero, List.set_cons_succ]
      refine wpAnyH_take (i := 16) (oi := { dst := some 28, op := Op.binOp BinOp.neq 3 (Operand.tmp 24) (Operand.tmp 27) 3, type := 4, pos := "ref.go:123", after := #[{ on := 12, ground := Ground.data }, { on := 15, ground := Ground.data }, { on := 10, ground := Ground.guard }], guard := some (10, false) }) (v := undef) rfl (by kernel_rfl) (by kernel_rfl) (by kernel_rfl) (fun _ _ _ h => h) (Or.inr ⟨by rfl, rfl⟩) hS ?_
      try simp only [Act.put, List.setIfInBounds_toArray, List.set_cons_zero, List.set_cons_succ]
      refine wpAnyH_take (i := 17) (oi := { dst := some 29, op := Op.pick (Operand.tmp 22) (Operand.const (Value.bool true)) (Operand.tmp 28), type := 4, pos := "ref.go:123", after := #[{ on := 10, ground := Ground.data }, { on := 16, ground := Ground.data }], guard := none }) (v := ?_) rfl (by kernel_rfl) (by kernel_rfl) (by kernel_rfl) (fun _ _ _ h => h) (Or.inl ⟨by rfl, ?_⟩) hS ?_
      rotate_left
      · intro W_ hSW_
        obtain ⟨hB_, hG_⟩ := hSW_
        have t0_ := blk_cell hG_ 0
        have t1_ := blk_cell hG_ 1
        have t2_ := blk_cell hG_ 2
        go_simp
        try with_reducible rfl
      try simp only [Act.put, List.setIfInBounds_toArray, List.set_cons_zero, List.set_cons_succ]
      refine wpAnyH_done (by kernel_rfl) ?_ _
      have HB := Aside0.mk hS.1
      clear hS
      go_wp2_with fail
      go_ret
      rw [HRt.out]
      exact ⟨rfl, HM.out.step HB.out⟩
    · obtain ⟨k, rfl⟩ : ∃ k : Nat, i = (k : Int) := ⟨i.toNat, by omega⟩
      rw [Int.toNat_natCast] at HRs
      clear hi0
      by_cases hkq : k < q
      · have hmul : k * c < l := HNM.out k (by rw [HQ.out]; exact hkq)
        have HLN := Aside0.mk (fun W (hb : Below w.heap.size w W) => HLN0.out W hb k hmul)
        have hkq1 : ¬ q ≤ k := by omega
        have hkq2 : ¬ (q : Int) ≤ (k : Int) := by omega
        have hk0 : decide ((k : Int) < 0) = false := decide_eq_false (by omega)
        have HMUL := Aside0.mk hmul
        obtain ⟨m, hm⟩ : ∃ m, clen l c k = m := ⟨_, rfl⟩
        simp only [hm] at HLN
        have hcl := Aside0.mk hm
        clear hmul hm HLN0
        go_wp2_with fail
        refine wp_region_held_drew (S := RQ w g1 gd (sl : Int) (c : Int)) (by kernel_rfl) HR0.out.drew (fun hS => ?_)
        refine wpAnyH_take (i := 0) (oi := { dst := some 12, op := Op.move (Operand.tmp 1), type := 3, pos := "ref.go:123", after := #[], guard := none }) (v := ?_) rfl (by kernel_rfl) (by kernel_rfl) (by kernel_rfl) (fun _ _ _ h => h) (Or.inl ⟨by rfl, ?_⟩) hS ?_
        rotate_left
        · intro W_ hSW_
          obtain ⟨hB_, hG_⟩ := hSW_
          have t0_ := blk_cell hG_ 0
          have t1_ := blk_cell hG_ 1
          have t2_ := blk_cell hG_ 2
          go_simp
          try with_reducible rfl
        try simp only [Act.put, List.setIfInBounds_toArray, List.set_cons_zero, List.set_cons_succ]
        refine wpAnyH_take (i := 1) (oi := { dst := some 13, op := Op.binOp BinOp.lss 3 (Operand.tmp 12) (Operand.const (Value.int IntKind.i64 0)) 3, type := 4, pos := "ref.go:123", after := #[{ on := 0, ground := Ground.data }], guard := none }) (v := ?_) rfl (by kernel_rfl) (by kernel_rfl) (by kernel_rfl) (fun _ _ _ h => h) (Or.inl ⟨by rfl, ?_⟩) hS ?_
        rotate_left
        · intro W_ hSW_
          obtain ⟨hB_, hG_⟩ := hSW_
          have t0_ := blk_cell hG_ 0
          have t1_ := blk_cell hG_ 1
          have t2_ := blk_cell hG_ 2
          go_simp
          try with_reducible rfl
        try simp only [Act.put, List.setIfInBounds_toArray, List.set_cons_zero, List.set_cons_succ]
        refine wpAnyH_take (i := 2) (oi := { dst := some 14, op := Op.move (Operand.tmp 13), type := 4, pos := "ref.go:123", after := #[{ on := 1, ground := Ground.data }], guard := none }) (v := ?_) rfl (by kernel_rfl) (by kernel_rfl) (by kernel_rfl) (fun _ _ _ h => h) (Or.inl ⟨by rfl, ?_⟩) hS ?_
        rotate_left
        · intro W_ hSW_
          obtain ⟨hB_, hG_⟩ := hSW_
          have t0_ := blk_cell hG_ 0
          have t1_ := blk_cell hG_ 1
          have t2_ := blk_cell hG_ 2
          go_simp
          try with_reducible rfl
        try simp only [Act.put, List.setIfInBounds_toArray, List.set_cons_zero, List.set_cons_succ]
        refine wpAnyH_take (i := 3) (oi := { dst := some 15, op := Op.move (Operand.tmp 1), type := 3, pos := "ref.go:123", after := #[{ on := 2, ground := Ground.guard }], guard := some (2, false) }) (v := ?_) rfl (by kernel_rfl) (by kernel_rfl) (by kernel_rfl) (fun _ _ _ h => h) (Or.inl ⟨by rfl, ?_⟩) hS ?_
        rotate_left
        · intro W_ hSW_
          obtain ⟨hB_, hG_⟩ := hSW_
          have t0_ := blk_cell hG_ 0
          have t1_ := blk_cell hG_ 1
          have t2_ := blk_cell hG_ 2
          go_simp
          try with_reducible rfl
        try simp only [Act.put, List.setIfInBounds_toArray, List.set_cons_zero, List.set_cons_succ]
        refine wpAnyH_take (i := 4) (oi := { dst := some 16, op := Op.load 28 (Operand.tmp 3), type := 28, pos := "ref.go:123", after := #[{ on := 2, ground := Ground.guard }], guard := some (2, false) }) (v := ?_) rfl (by kernel_rfl) (by kernel_rfl) (by kernel_rfl) (fun _ _ _ h => h) (Or.inl ⟨by rfl, ?_⟩) hS ?_
        rotate_left
        · intro W_ hSW_
          obtain ⟨hB_, hG_⟩ := hSW_
          have t0_ := blk_cell hG_ 0
          have t1_ := blk_cell hG_ 1
          have t2_ := blk_cell hG_ 2
          go_simp
          try with_reducible rfl
        try simp only [Act.put, List.setIfInBounds_toArray, List.set_cons_zero, List.set_cons_succ]
        refine wpAnyH_take (i := 5) (oi := { dst := some 17, op := Op.load 28 (Operand.tmp 3), type := 28, pos := "ref.go:123", after := #[{ on := 2, ground := Ground.guard }], guard := some (2, false) }) (v := ?_) rfl (by kernel_rfl) (by kernel_rfl) (by kernel_rfl) (fun _ _ _ h => h) (Or.inl ⟨by rfl, ?_⟩) hS ?_
        rotate_left
        · intro W_ hSW_
          obtain ⟨hB_, hG_⟩ := hSW_
          have t0_ := blk_cell hG_ 0
          have t1_ := blk_cell hG_ 1
          have t2_ := blk_cell hG_ 2
          go_simp
          try with_reducible rfl
        try simp only [Act.put, List.setIfInBounds_toArray, List.set_cons_zero, List.set_cons_succ]
        refine wpAnyH_ready (rs := [6]) (by kernel_rfl) (by simp) ?_
        refine AllReadyH.cons (o := { dst := some 18, op := Op.call { callee := Callee.value (Operand.func 51), args := #[Operand.tmp 17, Operand.const (Value.int IntKind.i64 5), Operand.const (Value.int IntKind.i64 2)], argTypes := #[28, 3, 3] }, type := 3, pos := "ref.go:123", after := #[{ on := 5, ground := Ground.data }, { on := 2, ground := Ground.chain }, { on := 2, ground := Ground.guard }], guard := some (2, false) }) rfl (fun K_ hK_ => ?_) AllReadyH.nil
        have hS0_ := Aside0.mk hS
        go_simp
        refine (K5.out _ hS0_.out.1).mono ?_
        rintro e w_ ⟨rfl, hb_⟩
        have HS_ := Aside0.mk (hS0_.out.step hb_)
        clear hb_ hS0_
        refine hK_.out _ _ (HS_.out) (fun hS_ => ?_)
        clear hK_ K_ hS
        have hS := hS_
        clear hS_
        try simp only [Act.put, List.setIfInBounds_toArray, List.set_cons_zero, List.set_cons_succ]
        refine wpAnyH_ready (rs := [7]) (by kernel_rfl) (by simp) ?_
        refine AllReadyH.cons (o := { dst := some 19, op := Op.call { callee := Callee.value (Operand.func 50), args := #[Operand.tmp 16, Operand.tmp 18], argTypes := #[28, 3] }, type := 3, pos := "ref.go:123", after := #[{ on := 4, ground := Ground.data }, { on := 6, ground := Ground.data }, { on := 6, ground := Ground.chain }, { on := 2, ground := Ground.guard }], guard := some (2, false) }) rfl (fun K_ hK_ => ?_) AllReadyH.nil
        have hS0_ := Aside0.mk hS
        go_simp
        refine (HRC.out _).mono ?_
        rintro e w_ ⟨rfl, hb_⟩
        have HS_ := Aside0.mk (hS0_.out.step hb_)
        clear hb_ hS0_
        refine hK_.out _ _ (HS_.out) (fun hS_ => ?_)
        clear hK_ K_ hS
        have hS := hS_
        clear hS_
        try simp only [Act.put, List.setIfInBounds_toArray, List.set_cons_zero, List.set_cons_succ]
        refine wpAnyH_take (i := 8) (oi := { dst := some 20, op := Op.binOp BinOp.geq 3 (Operand.tmp 15) (Operand.tmp 19) 3, type := 4, pos := "ref.go:123", after := #[{ on := 3, ground := Ground.data }, { on := 7, ground := Ground.data }, { on := 2, ground := Ground.guard }], guard := some (2, false) }) (v := ?_) rfl (by kernel_rfl) (by kernel_rfl) (by kernel_rfl) (fun _ _ _ h => h) (Or.inl ⟨by rfl, ?_⟩) hS ?_
        rotate_left
        · intro W_ hSW_
          obtain ⟨hB_, hG_⟩ := hSW_
          have t0_ := blk_cell hG_ 0
          have t1_ := blk_cell hG_ 1
          have t2_ := blk_cell hG_ 2
          go_simp
          try with_reducible rfl
        try simp only [Act.put, List.setIfInBounds_toArray, List.set_cons_zero, List.set_cons_succ]
        refine wpAnyH_take (i := 9) (oi := { dst := some 21, op := Op.pick (Operand.tmp 14) (Operand.const (Value.bool true)) (Operand.tmp 20), type := 4, pos := "ref.go:123", after := #[{ on := 2, ground := Ground.data }, { on := 8, ground := Ground.data }], guard := none }) (v := ?_) rfl (by kernel_rfl) (by kernel_rfl) (by kernel_rfl) (fun _ _ _ h => h) (Or.inl ⟨by rfl, ?_⟩) hS ?_
        rotate_left
        · intro W_ hSW_
          obtain ⟨hB_, hG_⟩ := hSW_
          have t0_ := blk_cell hG_ 0
          have t1_ := blk_cell hG_ 1
          have t2_ := blk_cell hG_ 2
          go_simp
          try with_reducible rfl
        try simp only [Act.put, List.setIfInBounds_toArray, List.set_cons_zero, List.set_cons_succ]
        refine wpAnyH_take (i := 10) (oi := { dst := some 22, op := Op.move (Operand.tmp 21), type := 4, pos := "ref.go:123", after := #[{ on := 9, ground := Ground.data }, { on := 7, ground := Ground.chain }], guard := none }) (v := ?_) rfl (by kernel_rfl) (by kernel_rfl) (by kernel_rfl) (fun _ _ _ h => h) (Or.inl ⟨by rfl, ?_⟩) hS ?_
        rotate_left
        · intro W_ hSW_
          obtain ⟨hB_, hG_⟩ := hSW_
          have t0_ := blk_cell hG_ 0
          have t1_ := blk_cell hG_ 1
          have t2_ := blk_cell hG_ 2
          go_simp
          try with_reducible rfl
        try simp only [Act.put, List.setIfInBounds_toArray, List.set_cons_zero, List.set_cons_succ]
        refine wpAnyH_take (i := 11) (oi := { dst := some 23, op := Op.move (Operand.tmp 2), type := 22, pos := "ref.go:123", after := #[{ on := 10, ground := Ground.guard }], guard := some (10, false) }) (v := ?_) rfl (by kernel_rfl) (by kernel_rfl) (by kernel_rfl) (fun _ _ _ h => h) (Or.inl ⟨by rfl, ?_⟩) hS ?_
        rotate_left
        · intro W_ hSW_
          obtain ⟨hB_, hG_⟩ := hSW_
          have t0_ := blk_cell hG_ 0
          have t1_ := blk_cell hG_ 1
          have t2_ := blk_cell hG_ 2
          go_simp
          try with_reducible rfl
        try simp only [Act.put, List.setIfInBounds_toArray, List.set_cons_zero, List.set_cons_succ]
        refine wpAnyH_take (i := 12) (oi := { dst := some 24, op := Op.call { callee := Callee.builtin Builtin.len, args := #[Operand.tmp 23], argTypes := #[22] }, type := 3, pos := "ref.go:123", after := #[{ on := 11, ground := Ground.data }, { on := 10, ground := Ground.guard }], guard := some (10, false) }) (v := ?_) rfl (by kernel_rfl) (by kernel_rfl) (by kernel_rfl) (fun _ _ _ h => h) (Or.inl ⟨by rfl, ?_⟩) hS ?_
        rotate_left
        · intro W_ hSW_
          obtain ⟨hB_, hG_⟩ := hSW_
          have t0_ := blk_cell hG_ 0
          have t1_ := blk_cell hG_ 1
          have t2_ := blk_cell hG_ 2
          go_simp
          try with_reducible rfl
        try simp only [Act.put, List.setIfInBounds_toArray, List.set_cons_zero, List.set_cons_succ]
        refine wpAnyH_take (i := 13) (oi := { dst := some 25, op := Op.load 28 (Operand.tmp 3), type := 28, pos := "ref.go:123", after := #[{ on := 10, ground := Ground.guard }], guard := some (10, false) }) (v := ?_) rfl (by kernel_rfl) (by kernel_rfl) (by kernel_rfl) (fun _ _ _ h => h) (Or.inl ⟨by rfl, ?_⟩) hS ?_
        rotate_left
        · intro W_ hSW_
          obtain ⟨hB_, hG_⟩ := hSW_
          have t0_ := blk_cell hG_ 0
          have t1_ := blk_cell hG_ 1
          have t2_ := blk_cell hG_ 2
          go_simp
          try with_reducible rfl
        try simp only [Act.put, List.setIfInBounds_toArray, List.set_cons_zero, List.set_cons_succ]
        refine wpAnyH_take (i := 14) (oi := { dst := some 26, op := Op.move (Operand.tmp 1), type := 3, pos := "ref.go:123", after := #[{ on := 10, ground := Ground.guard }], guard := some (10, false) }) (v := ?_) rfl (by kernel_rfl) (by kernel_rfl) (by kernel_rfl) (fun _ _ _ h => h) (Or.inl ⟨by rfl, ?_⟩) hS ?_
        rotate_left
        · intro W_ hSW_
          obtain ⟨hB_, hG_⟩ := hSW_
          have t0_ := blk_cell hG_ 0
          have t1_ := blk_cell hG_ 1
          have t2_ := blk_cell hG_ 2
          go_simp
          try with_reducible rfl
        try simp only [Act.put, List.setIfInBounds_toArray, List.set_cons_zero, List.set_cons_succ]
        refine wpAnyH_ready (rs := [15]) (by kernel_rfl) (by simp) ?_
        refine AllReadyH.cons (o := { dst := some 27, op := Op.call { callee := Callee.value (Operand.func 55), args := #[Operand.tmp 25, Operand.tmp 26], argTypes := #[28, 3] }, type := 3, pos := "ref.go:123", after := #[{ on := 13, ground := Ground.data }, { on := 14, ground := Ground.data }, { on := 10, ground := Ground.chain }, { on := 10, ground := Ground.guard }], guard := some (10, false) }) rfl (fun K_ hK_ => ?_) AllReadyH.nil
        have hS0_ := Aside0.mk hS
        go_simp
        refine (HLN.out _ hS0_.out.1).mono ?_
        rintro e w_ ⟨rfl, hb_⟩
        have HS_ := Aside0.mk (hS0_.out.step hb_)
        clear hb_ hS0_
        refine hK_.out _ _ (HS_.out) (fun hS_ => ?_)
        clear hK_ K_ hS
        have hS := hS_
        clear hS_
        try simp only [Act.put, List.setIfInBounds_toArray, List.set_cons_zero, List.set_cons_succ]
        refine wpAnyH_take (i := 16) (oi := { dst := some 28, op := Op.binOp BinOp.neq 3 (Operand.tmp 24) (Operand.tmp 27) 3, type := 4, pos := "ref.go:123", after := #[{ on := 12, ground := Ground.data }, { on := 15, ground := Ground.data }, { on := 10, ground := Ground.guard }], guard := some (10, false) }) (v := ?_) rfl (by kernel_rfl) (by kernel_rfl) (by kernel_rfl) (fun _ _ _ h => h) (Or.inl ⟨by rfl, ?_⟩) hS ?_
        rotate_left
        · intro W_ hSW_
          obtain ⟨hB_, hG_⟩ := hSW_
          have t0_ := blk_cell hG_ 0
          have t1_ := blk_cell hG_ 1
          have t2_ := blk_cell hG_ 2
          go_simp
          try with_reducible rfl
        try simp only [Act.put, List.setIfInBounds_toArray, List.set_cons_zero, List.set_cons_succ]
        refine wpAnyH_take (i := 17) (oi := { dst := some 29, op := Op.pick (Operand.tmp 22) (Operand.const (Value.bool true)) (Operand.tmp 28), type := 4, pos := "ref.go:123", after := #[{ on := 10, ground := Ground.data }, { on := 16, ground := Ground.data }], guard := none }) (v := ?_) rfl (by kernel_rfl) (by kernel_rfl) (by kernel_rfl) (fun _ _ _ h => h) (Or.inl ⟨by rfl, ?_⟩) hS ?_
        rotate_left
        · intro W_ hSW_
          obtain ⟨hB_, hG_⟩ := hSW_
          have t0_ := blk_cell hG_ 0
          have t1_ := blk_cell hG_ 1
          have t2_ := blk_cell hG_ 2
          go_simp
          try with_reducible rfl
        try simp only [Act.put, List.setIfInBounds_toArray, List.set_cons_zero, List.set_cons_succ]
        refine wpAnyH_done (by kernel_rfl) ?_ _
        have HR1 := Aside0.mk hS
        clear hS
        by_cases hnm : n = m
        · have hnb : ((n : Int) != (m : Int)) = false := by simp [hnm]
          have HRu := Aside0.mk (HRs.out.trans (if_neg (by
            rintro (h | h | h)
            · omega
            · omega
            · exact h (by rw [HL.out, hcl.out, hnm]))))
          have HST := Aside0.mk (HST0.out _ HR1.out.1 k (by omega))
          have HNM2 := Aside0.mk hnm
          have y0 := blk_cell HR1.out.2 0
          have y1 := blk_cell HR1.out.2 1
          have y2 := blk_cell HR1.out.2 2
          clear hnm HST0 HLN HRC K5
          cases hst : d.st k with
          | true =>
            have HRt := Aside0.mk (HRu.out.trans (if_pos hst))
            rw [hst] at HST
            clear hst
            go_wp2_with fail
            refine HST.out.mono ?_
            rintro e w3 ⟨rfl, hb⟩
            have HB3 := Aside0.mk (below_step HR1.out.1 hb)
            clear hb
            go_wp2_with fail
            go_ret
            rw [HRt.out]
            exact ⟨rfl, HM.out.step HB3.out⟩
          | false =>
            have HRt := Aside0.mk (HRu.out.trans (if_neg (by rw [hst]; simp)))
            rw [hst] at HST
            clear hst
            go_wp2_with fail
            refine HST.out.mono ?_
            rintro e w3 ⟨rfl, hb⟩
            have HM3 := Aside0.mk (HM.out.made (below_step HR1.out.1 hb) HGE.out (blk_below HR1.out.2 hb))
            clear hb HST y0 y1 y2 HR1 HR0 HA2
            obtain ⟨r, hr⟩ : ∃ r, k * c = r := ⟨_, rfl⟩
            have hri : (k : Int) * (c : Int) = (r : Int) := by rw [← hr]; simp
            have HRC2 := Aside0.mk hr
            obtain ⟨hb1, hb2, hb3⟩ := st_bound HSL.out HMUL.out hr hcl.out HNM2.out hl3 HN.out HCC.out.2
            have HBND := Aside0.mk hb1
            have f1 : IntKind.i64.wrap (r : Int) = (r : Int) := by rw [IntKind.wrap_i64]; omega
            have f2 : IntKind.i64.wrap ((sl : Int) + (r : Int)) = ((sl + r : Nat) : Int) := by rw [IntKind.wrap_i64]; omega
            have HT0 := Aside0.mk (show d.wrs (sl + r) xs = bindW (d, true) (sl + r + 0) (xs.drop 0) from rfl)
            generalize hT : d.wrs (sl + r) xs = T at *
            have HT := Aside0.mk hT
            have hn3 : n ≤ 36 := hb3
            clear hb1 hr hT hb3
            go_wp2_with fail
            go_loopw [7, 8] (fun v7 v8 wr => StRel w0 gd gr N g1 sl c L T (sl + r) xs v7 v8 wr) (fun _ vi _ => n - (intOf vi).toNat)
            case atStart => exact ⟨0, (d, true), Nat.zero_le _, rfl, rfl, HT0.out, fun _ => HON.out, HM3.out⟩
            case round =>
              obtain ⟨j, ⟨pd, pk⟩, hj, rfl, rfl, hT, hon, hM⟩ := hrel
              clear HM3
              rw [HL.out] at hj
              have HTj := Aside0.mk hT
              have HON2 := Aside0.mk hon
              have HMj := Aside0.mk hM
              have t0 := blk_cell hM.drew'.top 0
              have t1 := blk_cell hM.drew'.top 1
              have t2 := blk_cell hM.drew'.top 2
              clear hT hon
              by_cases hlt : j < n
              · have hltd : decide ((j : Int) < (n : Int)) = true := decide_eq_true (by omega)
                have hltd2 : decide (j < n) = true := decide_eq_true hlt
                have hlt2 : (j : Int) < (n : Int) := by omega
                have hXC := fun d' W (h : DvM w0 W gd gr N d' (blk g1 #[.pointer (some ⟨gd, 0, none⟩), .int .i64 (sl : Int), .int .i64 (c : Int)] 28 :: L)) => byte_cell (HX.out d' W [blk g1 #[.pointer (some ⟨gd, 0, none⟩), .int .i64 (sl : Int), .int .i64 (c : Int)] 28] h) (j := j) (by rw [HL.out]; exact hlt)
                obtain ⟨b, o, rfl, x0⟩ := hXC _ _ hM.drew'
                have HXC : Aside0 (∀ d' W, DvM w0 W gd gr N d' (blk g1 #[.pointer (some ⟨gd, 0, none⟩), .int .i64 (sl : Int), .int .i64 (c : Int)] 28 :: L) → W.cell? ⟨b, o + j, none⟩ = some (.int .u8 (xs.getD j 0))) := ⟨fun d' W h => by
                  obtain ⟨b', o', e, h'⟩ := hXC d' W h
                  injection e with e
                  injection e with e1 e2
                  subst e1 e2
                  exact h'⟩
                have hdr : Aside0 (xs.drop j = xs.getD j 0 :: xs.drop (j + 1)) := ⟨by
                  have hl : j < xs.length := by rw [HL.out]; exact hlt
                  rw [List.drop_eq_getElem_cons hl, List.getD_eq_getElem?_getD, List.getElem?_eq_getElem hl]; rfl⟩
                have hby : Aside0 (0 ≤ xs.getD j 0 ∧ xs.getD j 0 < 256) := ⟨HXB.out _ (by
                  have hl : j < xs.length := by rw [HL.out]; exact hlt
                  rw [List.getD_eq_getElem?_getD, List.getElem?_eq_getElem hl]; exact List.getElem_mem hl)⟩
                generalize xs.getD j 0 = x at *
                have f3 : IntKind.i64.wrap (((sl + r : Nat) : Int) + (j : Int)) = ((sl + r + j : Nat) : Int) := by rw [IntKind.wrap_i64]; omega
                have f3' : IntKind.i64.wrap ((sl : Int) + (r : Int) + (j : Int)) = ((sl + r + j : Nat) : Int) := by rw [IntKind.wrap_i64]; omega
                have HDW := Aside0.mk (dwrite_call hM.drew' (sl + r + j) x hby.out (by have := HBND.out; omega) (by have := HN.out; omega))
                clear hXC hM
                cases pk with
                | true =>
                  go_wp2_with fail
                  refine wp_region_held_drew (S := fun W => W.cell? ⟨g1, 0, none⟩ = some (.pointer (some ⟨gd, 0, none⟩)) ∧ W.cell? ⟨g1, 1, none⟩ = some (.int .i64 (sl : Int)) ∧ W.cell? ⟨g1, 2, none⟩ = some (.int .i64 (c : Int)) ∧ W.cell? ⟨b, o + j, none⟩ = some (.int .u8 x)) (by kernel_rfl) ⟨t0, t1, t2, x0⟩ (fun hS => ?_)
                  refine wpAnyH_take (i := 0) (oi := { dst := some 39, op := Op.move (Operand.tmp 7), type := 4, pos := "ref.go:131", after := #[], guard := none }) (v := ?_) rfl (by kernel_rfl) (by kernel_rfl) (by kernel_rfl) (fun _ _ _ h => h) (Or.inl ⟨by rfl, ?_⟩) hS ?_
                  rotate_left
                  · intro W_ hSW_
                    obtain ⟨t0_, t1_, t2_, x0_⟩ := hSW_
                    go_simp
                    try with_reducible rfl
                  try simp only [Act.put, List.setIfInBounds_toArray, List.set_cons_zero, List.set_cons_succ]
                  refine wpAnyH_take (i := 1) (oi := { dst := some 40, op := Op.move (Operand.tmp 39), type := 4, pos := "ref.go:131", after := #[{ on := 0, ground := Ground.data }], guard := none }) (v := ?_) rfl (by kernel_rfl) (by kernel_rfl) (by kernel_rfl) (fun _ _ _ h => h) (Or.inl ⟨by rfl, ?_⟩) hS ?_
                  rotate_left
                  · intro W_ hSW_
                    obtain ⟨t0_, t1_, t2_, x0_⟩ := hSW_
                    go_simp
                    try with_reducible rfl
                  try simp only [Act.put, List.setIfInBounds_toArray, List.set_cons_zero, List.set_cons_succ]
                  refine wpAnyH_take (i := 2) (oi := { dst := some 41, op := Op.fieldAddr 28 (Operand.tmp 3) 0, type := 0, pos := "ref.go:131", after := #[{ on := 1, ground := Ground.guard }], guard := some (1, true) }) (v := ?_) rfl (by kernel_rfl) (by kernel_rfl) (by kernel_rfl) (fun _ _ _ h => h) (Or.inl ⟨by rfl, ?_⟩) hS ?_
                  rotate_left
                  · intro W_ hSW_
                    obtain ⟨t0_, t1_, t2_, x0_⟩ := hSW_
                    go_simp
                    try with_reducible rfl
                  try simp only [Act.put, List.setIfInBounds_toArray, List.set_cons_zero, List.set_cons_succ]
                  refine wpAnyH_take (i := 3) (oi := { dst := some 42, op := Op.load 26 (Operand.tmp 41), type := 26, pos := "ref.go:131", after := #[{ on := 2, ground := Ground.data }, { on := 1, ground := Ground.guard }], guard := some (1, true) }) (v := ?_) rfl (by kernel_rfl) (by kernel_rfl) (by kernel_rfl) (fun _ _ _ h => h) (Or.inl ⟨by rfl, ?_⟩) hS ?_
                  rotate_left
                  · intro W_ hSW_
                    obtain ⟨t0_, t1_, t2_, x0_⟩ := hSW_
                    go_simp
                    try with_reducible rfl
                  try simp only [Act.put, List.setIfInBounds_toArray, List.set_cons_zero, List.set_cons_succ]
                  refine wpAnyH_take (i := 4) (oi := { dst := some 43, op := Op.fieldAddr 28 (Operand.tmp 3) 1, type := 0, pos := "ref.go:131", after := #[{ on := 1, ground := Ground.guard }], guard := some (1, true) }) (v := ?_) rfl (by kernel_rfl) (by kernel_rfl) (by kernel_rfl) (fun _ _ _ h => h) (Or.inl ⟨by rfl, ?_⟩) hS ?_
                  rotate_left
                  · intro W_ hSW_
                    obtain ⟨t0_, t1_, t2_, x0_⟩ := hSW_
                    go_simp
                    try with_reducible rfl
                  try simp only [Act.put, List.setIfInBounds_toArray, List.set_cons_zero, List.set_cons_succ]
                  refine wpAnyH_take (i := 5) (oi := { dst := some 44, op := Op.load 3 (Operand.tmp 43), type := 3, pos := "ref.go:131", after := #[{ on := 4, ground := Ground.data }, { on := 1, ground := Ground.guard }], guard := some (1, true) }) (v := ?_) rfl (by kernel_rfl) (by kernel_rfl) (by kernel_rfl) (fun _ _ _ h => h) (Or.inl ⟨by rfl, ?_⟩) hS ?_
                  rotate_left
                  · intro W_ hSW_
                    obtain ⟨t0_, t1_, t2_, x0_⟩ := hSW_
                    go_simp
                    try with_reducible rfl
                  try simp only [Act.put, List.setIfInBounds_toArray, List.set_cons_zero, List.set_cons_succ]
                  refine wpAnyH_take (i := 6) (oi := { dst := some 45, op := Op.move (Operand.tmp 1), type := 3, pos := "ref.go:131", after := #[{ on := 1, ground := Ground.guard }], guard := some (1, true) }) (v := ?_) rfl (by kernel_rfl) (by kernel_rfl) (by kernel_rfl) (fun _ _ _ h => h) (Or.inl ⟨by rfl, ?_⟩) hS ?_
                  rotate_left
                  · intro W_ hSW_
                    obtain ⟨t0_, t1_, t2_, x0_⟩ := hSW_
                    go_simp
                    try with_reducible rfl
                  try simp only [Act.put, List.setIfInBounds_toArray, List.set_cons_zero, List.set_cons_succ]
                  refine wpAnyH_take (i := 7) (oi := { dst := some 46, op := Op.fieldAddr 28 (Operand.tmp 3) 2, type := 0, pos := "ref.go:131", after := #[{ on := 1, ground := Ground.guard }], guard := some (1, true) }) (v := ?_) rfl (by kernel_rfl) (by kernel_rfl) (by kernel_rfl) (fun _ _ _ h => h) (Or.inl ⟨by rfl, ?_⟩) hS ?_
                  rotate_left
                  · intro W_ hSW_
                    obtain ⟨t0_, t1_, t2_, x0_⟩ := hSW_
                    go_simp
                    try with_reducible rfl
                  try simp only [Act.put, List.setIfInBounds_toArray, List.set_cons_zero, List.set_cons_succ]
                  refine wpAnyH_take (i := 8) (oi := { dst := some 47, op := Op.load 3 (Operand.tmp 46), type := 3, pos := "ref.go:131", after := #[{ on := 7, ground := Ground.data }, { on := 1, ground := Ground.guard }], guard := some (1, true) }) (v := ?_) rfl (by kernel_rfl) (by kernel_rfl) (by kernel_rfl) (fun _ _ _ h => h) (Or.inl ⟨by rfl, ?_⟩) hS ?_
                  rotate_left
                  · intro W_ hSW_
                    obtain ⟨t0_, t1_, t2_, x0_⟩ := hSW_
                    go_simp
                    try with_reducible rfl
                  try simp only [Act.put, List.setIfInBounds_toArray, List.set_cons_zero, List.set_cons_succ]
                  refine wpAnyH_take (i := 9) (oi := { dst := some 48, op := Op.binOp BinOp.mul 3 (Operand.tmp 45) (Operand.tmp 47) 3, type := 3, pos := "ref.go:131", after := #[{ on := 6, ground := Ground.data }, { on := 8, ground := Ground.data }, { on := 1, ground := Ground.guard }], guard := some (1, true) }) (v := ?_) rfl (by kernel_rfl) (by kernel_rfl) (by kernel_rfl) (fun _ _ _ h => h) (Or.inl ⟨by rfl, ?_⟩) hS ?_
                  rotate_left
                  · intro W_ hSW_
                    obtain ⟨t0_, t1_, t2_, x0_⟩ := hSW_
                    go_simp
                    try with_reducible rfl
                  try simp only [Act.put, List.setIfInBounds_toArray, List.set_cons_zero, List.set_cons_succ]
                  refine wpAnyH_take (i := 10) (oi := { dst := some 49, op := Op.binOp BinOp.add 3 (Operand.tmp 44) (Operand.tmp 48) 3, type := 3, pos := "ref.go:131", after := #[{ on := 5, ground := Ground.data }, { on := 9, ground := Ground.data }, { on := 1, ground := Ground.guard }], guard := some (1, true) }) (v := ?_) rfl (by kernel_rfl) (by kernel_rfl) (by kernel_rfl) (fun _ _ _ h => h) (Or.inl ⟨by rfl, ?_⟩) hS ?_
                  rotate_left
                  · intro W_ hSW_
                    obtain ⟨t0_, t1_, t2_, x0_⟩ := hSW_
                    go_simp
                    try with_reducible rfl
                  try simp only [Act.put, List.setIfInBounds_toArray, List.set_cons_zero, List.set_cons_succ]
                  refine wpAnyH_take (i := 11) (oi := { dst := some 50, op := Op.move (Operand.tmp 8), type := 3, pos := "ref.go:131", after := #[{ on := 1, ground := Ground.guard }], guard := some (1, true) }) (v := ?_) rfl (by kernel_rfl) (by kernel_rfl) (by kernel_rfl) (fun _ _ _ h => h) (Or.inl ⟨by rfl, ?_⟩) hS ?_
                  rotate_left
                  · intro W_ hSW_
                    obtain ⟨t0_, t1_, t2_, x0_⟩ := hSW_
                    go_simp
                    try with_reducible rfl
                  try simp only [Act.put, List.setIfInBounds_toArray, List.set_cons_zero, List.set_cons_succ]
                  refine wpAnyH_take (i := 12) (oi := { dst := some 51, op := Op.binOp BinOp.add 3 (Operand.tmp 49) (Operand.tmp 50) 3, type := 3, pos := "ref.go:131", after := #[{ on := 10, ground := Ground.data }, { on := 11, ground := Ground.data }, { on := 1, ground := Ground.guard }], guard := some (1, true) }) (v := ?_) rfl (by kernel_rfl) (by kernel_rfl) (by kernel_rfl) (fun _ _ _ h => h) (Or.inl ⟨by rfl, ?_⟩) hS ?_
                  rotate_left
                  · intro W_ hSW_
                    obtain ⟨t0_, t1_, t2_, x0_⟩ := hSW_
                    go_simp
                    try with_reducible rfl
                  try simp only [Act.put, List.setIfInBounds_toArray, List.set_cons_zero, List.set_cons_succ]
                  refine wpAnyH_take (i := 13) (oi := { dst := some 52, op := Op.move (Operand.tmp 2), type := 22, pos := "ref.go:131", after := #[{ on := 1, ground := Ground.guard }], guard := some (1, true) }) (v := ?_) rfl (by kernel_rfl) (by kernel_rfl) (by kernel_rfl) (fun _ _ _ h => h) (Or.inl ⟨by rfl, ?_⟩) hS ?_
                  rotate_left
                  · intro W_ hSW_
                    obtain ⟨t0_, t1_, t2_, x0_⟩ := hSW_
                    go_simp
                    try with_reducible rfl
                  try simp only [Act.put, List.setIfInBounds_toArray, List.set_cons_zero, List.set_cons_succ]
                  refine wpAnyH_take (i := 14) (oi := { dst := some 53, op := Op.move (Operand.tmp 8), type := 3, pos := "ref.go:131", after := #[{ on := 1, ground := Ground.guard }], guard := some (1, true) }) (v := ?_) rfl (by kernel_rfl) (by kernel_rfl) (by kernel_rfl) (fun _ _ _ h => h) (Or.inl ⟨by rfl, ?_⟩) hS ?_
                  rotate_left
                  · intro W_ hSW_
                    obtain ⟨t0_, t1_, t2_, x0_⟩ := hSW_
                    go_simp
                    try with_reducible rfl
                  try simp only [Act.put, List.setIfInBounds_toArray, List.set_cons_zero, List.set_cons_succ]
                  refine wpAnyH_take (i := 15) (oi := { dst := some 54, op := Op.indexAddr 22 (Operand.tmp 52) (Operand.tmp 53), type := 0, pos := "ref.go:131", after := #[{ on := 13, ground := Ground.data }, { on := 14, ground := Ground.data }, { on := 1, ground := Ground.guard }], guard := some (1, true) }) (v := ?_) rfl (by kernel_rfl) (by kernel_rfl) (by kernel_rfl) (fun _ _ _ h => h) (Or.inl ⟨by rfl, ?_⟩) hS ?_
                  rotate_left
                  · intro W_ hSW_
                    obtain ⟨t0_, t1_, t2_, x0_⟩ := hSW_
                    go_simp
                    try with_reducible rfl
                  try simp only [Act.put, List.setIfInBounds_toArray, List.set_cons_zero, List.set_cons_succ]
                  refine wpAnyH_take (i := 16) (oi := { dst := some 55, op := Op.load 5 (Operand.tmp 54), type := 5, pos := "ref.go:131", after := #[{ on := 15, ground := Ground.data }, { on := 1, ground := Ground.guard }], guard := some (1, true) }) (v := ?_) rfl (by kernel_rfl) (by kernel_rfl) (by kernel_rfl) (fun _ _ _ h => h) (Or.inl ⟨by rfl, ?_⟩) hS ?_
                  rotate_left
                  · intro W_ hSW_
                    obtain ⟨t0_, t1_, t2_, x0_⟩ := hSW_
                    go_simp
                    try with_reducible rfl
                  try simp only [Act.put, List.setIfInBounds_toArray, List.set_cons_zero, List.set_cons_succ]
                  refine wpAnyH_ready (rs := [17]) (by kernel_rfl) (by simp) ?_
                  refine AllReadyH.cons (o := { dst := some 56, op := Op.call { callee := Callee.value (Operand.func 56), args := #[Operand.tmp 42, Operand.tmp 51, Operand.tmp 55], argTypes := #[26, 3, 5] }, type := 4, pos := "ref.go:131", after := #[{ on := 3, ground := Ground.data }, { on := 12, ground := Ground.data }, { on := 16, ground := Ground.data }, { on := 1, ground := Ground.chain }, { on := 1, ground := Ground.guard }], guard := some (1, true) }) rfl (fun K_ hK_ => ?_) AllReadyH.nil
                  go_simp
                  refine HDW.out.mono ?_
                  rintro e w_ ⟨rfl, hm_⟩
                  have HM_ := Aside0.mk hm_
                  clear hm_
                  refine hK_.out _ _ (⟨blk_cell HM_.out.top 0, blk_cell HM_.out.top 1, blk_cell HM_.out.top 2, HXC.out _ _ HM_.out⟩) (fun hS_ => ?_)
                  clear hK_ K_ hS
                  have hS := hS_
                  clear hS_
                  try simp only [Act.put, List.setIfInBounds_toArray, List.set_cons_zero, List.set_cons_succ]
                  refine wpAnyH_take (i := 18) (oi := { dst := some 57, op := Op.pick (Operand.tmp 40) (Operand.tmp 56) (Operand.const (Value.bool false)), type := 4, pos := "ref.go:131", after := #[{ on := 1, ground := Ground.data }, { on := 17, ground := Ground.data }], guard := none }) (v := ?_) rfl (by kernel_rfl) (by kernel_rfl) (by kernel_rfl) (fun _ _ _ h => h) (Or.inl ⟨by rfl, ?_⟩) hS ?_
                  rotate_left
                  · intro W_ hSW_
                    obtain ⟨t0_, t1_, t2_, x0_⟩ := hSW_
                    go_simp
                    try with_reducible rfl
                  try simp only [Act.put, List.setIfInBounds_toArray, List.set_cons_zero, List.set_cons_succ]
                  refine wpAnyH_take (i := 19) (oi := { dst := some 7, op := Op.assign (Operand.tmp 57), type := 4, pos := "ref.go:131", after := #[{ on := 18, ground := Ground.data }, { on := 17, ground := Ground.chain }, { on := 0, ground := Ground.phase }, { on := 1, ground := Ground.phase }, { on := 2, ground := Ground.phase }, { on := 3, ground := Ground.phase }, { on := 4, ground := Ground.phase }, { on := 5, ground := Ground.phase }, { on := 6, ground := Ground.phase }, { on := 7, ground := Ground.phase }, { on := 8, ground := Ground.phase }, { on := 9, ground := Ground.phase }, { on := 10, ground := Ground.phase }, { on := 11, ground := Ground.phase }, { on := 12, ground := Ground.phase }, { on := 13, ground := Ground.phase }, { on := 14, ground := Ground.phase }, { on := 15, ground := Ground.phase }, { on := 16, ground := Ground.phase }, { on := 17, ground := Ground.phase }, { on := 18, ground := Ground.phase }], guard := none }) (v := ?_) rfl (by kernel_rfl) (by kernel_rfl) (by kernel_rfl) (fun _ _ _ h => h) (Or.inl ⟨by rfl, ?_⟩) hS ?_
                  rotate_left
                  · intro W_ hSW_
                    obtain ⟨t0_, t1_, t2_, x0_⟩ := hSW_
                    go_simp
                    try with_reducible rfl
                  try simp only [Act.put, List.setIfInBounds_toArray, List.set_cons_zero, List.set_cons_succ]
                  refine wpAnyH_done (by kernel_rfl) ?_ _
                  go_wp2_with fail
                  go_roundw
                  case rel =>
                    exact ⟨j + 1, pd.wr (sl + r + j) x, by rw [HL.out]; omega, rfl, by first | go_num | (congr 1), by rw [HTj.out, hdr.out, bindW_cons]; rfl, wr_ok, HM_.out⟩
                  case measure => simp [intOf]; omega
                | false =>
                  go_wp2_with fail
                  refine wp_region_held_drew (S := fun W => W.cell? ⟨g1, 0, none⟩ = some (.pointer (some ⟨gd, 0, none⟩)) ∧ W.cell? ⟨g1, 1, none⟩ = some (.int .i64 (sl : Int)) ∧ W.cell? ⟨g1, 2, none⟩ = some (.int .i64 (c : Int)) ∧ W.cell? ⟨b, o + j, none⟩ = some (.int .u8 x)) (by kernel_rfl) ⟨t0, t1, t2, x0⟩ (fun hS => ?_)
                  refine wpAnyH_take (i := 0) (oi := { dst := some 39, op := Op.move (Operand.tmp 7), type := 4, pos := "ref.go:131", after := #[], guard := none }) (v := ?_) rfl (by kernel_rfl) (by kernel_rfl) (by kernel_rfl) (fun _ _ _ h => h) (Or.inl ⟨by rfl, ?_⟩) hS ?_
                  rotate_left
                  · intro W_ hSW_
                    obtain ⟨t0_, t1_, t2_, x0_⟩ := hSW_
                    go_simp
                    try with_reducible rfl
                  try simp only [Act.put, List.setIfInBounds_toArray, List.set_cons_zero, List.set_cons_succ]
                  refine wpAnyH_take (i := 1) (oi := { dst := some 40, op := Op.move (Operand.tmp 39), type := 4, pos := "ref.go:131", after := #[{ on := 0, ground := Ground.data }], guard := none }) (v := ?_) rfl (by kernel_rfl) (by kernel_rfl) (by kernel_rfl) (fun _ _ _ h => h) (Or.inl ⟨by rfl, ?_⟩) hS ?_
                  rotate_left
                  · intro W_ hSW_
                    obtain ⟨t0_, t1_, t2_, x0_⟩ := hSW_
                    go_simp
                    try with_reducible rfl
                  try simp only [Act.put, List.setIfInBounds_toArray, List.set_cons_zero, List.set_cons_succ]
                  refine wpAnyH_take (i := 2) (oi := { dst := some 41, op := Op.fieldAddr 28 (Operand.tmp 3) 0, type := 0, pos := "ref.go:131", after := #[{ on := 1, ground := Ground.guard }], guard := some (1, true) }) (v := undef) rfl (by kernel_rfl) (by kernel_rfl) (by kernel_rfl) (fun _ _ _ h => h) (Or.inr ⟨by rfl, rfl⟩) hS ?_
                  try simp only [Act.put, List.setIfInBounds_toArray, List.set_cons_zero, List.set_cons_succ]
                  refine wpAnyH_take (i := 3) (oi := { dst := some 42, op := Op.load 26 (Operand.tmp 41), type := 26, pos := "ref.go:131", after := #[{ on := 2, ground := Ground.data }, { on := 1, ground := Ground.guard }], guard := some (1, true) }) (v := undef) rfl (by kernel_rfl) (by kernel_rfl) (by kernel_rfl) (fun _ _ _ h => h) (Or.inr ⟨by rfl, rfl⟩) hS ?_
                  try simp only [Act.put, List.setIfInBounds_toArray, List.set_cons_zero, List.set_cons_succ]
                  refine wpAnyH_take (i := 4) (oi := { dst := some 43, op := Op.fieldAddr 28 (Operand.tmp 3) 1, type := 0, pos := "ref.go:131", after := #[{ on := 1, ground := Ground.guard }], guard := some (1, true) }) (v := undef) rfl (by kernel_rfl) (by kernel_rfl) (by kernel_rfl) (fun _ _ _ h => h) (Or.inr ⟨by rfl, rfl⟩) hS ?_
                  try simp only [Act.put, List.setIfInBounds_toArray, List.set_cons_zero, List.set_cons_succ]
                  refine wpAnyH_take (i := 5) (oi := { dst := some 44, op := Op.load 3 (Operand.tmp 43), type := 3, pos := "ref.go:131", after := #[{ on := 4, ground := Ground.data }, { on := 1, ground := Ground.guard }], guard := some (1, true) }) (v := undef) rfl (by kernel_rfl) (by kernel_rfl) (by kernel_rfl) (fun _ _ _ h => h) (Or.inr ⟨by rfl, rfl⟩) hS ?_
                  try simp only [Act.put, List.setIfInBounds_toArray, List.set_cons_zero, List.set_cons_succ]
                  refine wpAnyH_take (i := 6) (oi := { dst := some 45, op := Op.move (Operand.tmp 1), type := 3, pos := "ref.go:131", after := #[{ on := 1, ground := Ground.guard }], guard := some (1, true) }) (v := undef) rfl (by kernel_rfl) (by kernel_rfl) (by kernel_rfl) (fun _ _ _ h => h) (Or.inr ⟨by rfl, rfl⟩) hS ?_
                  try simp only [Act.put, List.setIfInBounds_toArray, List.set_cons_zero, List.set_cons_succ]
                  refine wpAnyH_take (i := 7) (oi := { dst := some 46, op := Op.fieldAddr 28 (Operand.tmp 3) 2, type := 0, pos := "ref.go:131", after := #[{ on := 1, ground := Ground.guard }], guard := some (1, true) }) (v := undef) rfl (by kernel_rfl) (by kernel_rfl) (by kernel_rfl) (fun _ _ _ h => h) (Or.inr ⟨by rfl, rfl⟩) hS ?_
                  try simp only [Act.put, List.setIfInBounds_toArray, List.set_cons_zero, List.set_cons_succ]
                  refine wpAnyH_take (i := 8) (oi := { dst := some 47, op := Op.load 3 (Operand.tmp 46), type := 3, pos := "ref.go:131", after := #[{ on := 7, ground := Ground.data }, { on := 1, ground := Ground.guard }], guard := some (1, true) }) (v := undef) rfl (by kernel_rfl) (by kernel_rfl) (by kernel_rfl) (fun _ _ _ h => h) (Or.inr ⟨by rfl, rfl⟩) hS ?_
                  try simp only [Act.put, List.setIfInBounds_toArray, List.set_cons_zero, List.set_cons_succ]
                  refine wpAnyH_take (i := 9) (oi := { dst := some 48, op := Op.binOp BinOp.mul 3 (Operand.tmp 45) (Operand.tmp 47) 3, type := 3, pos := "ref.go:131", after := #[{ on := 6, ground := Ground.data }, { on := 8, ground := Ground.data }, { on := 1, ground := Ground.guard }], guard := some (1, true) }) (v := undef) rfl (by kernel_rfl) (by kernel_rfl) (by kernel_rfl) (fun _ _ _ h => h) (Or.inr ⟨by rfl, rfl⟩) hS ?_
                  try simp only [Act.put, List.setIfInBounds_toArray, List.set_cons_zero, List.set_cons_succ]
                  refine wpAnyH_take (i := 10) (oi := { dst := some 49, op := Op.binOp BinOp.add 3 (Operand.tmp 44) (Operand.tmp 48) 3, type := 3, pos := "ref.go:131", after := #[{ on := 5, ground := Ground.data }, { on := 9, ground := Ground.data }, { on := 1, ground := Ground.guard }], guard := some (1, true) }) (v := undef) rfl (by kernel_rfl) (by kernel_rfl) (by kernel_rfl) (fun _ _ _ h => h) (Or.inr ⟨by rfl, rfl⟩) hS ?_
                  try simp only [Act.put, List.setIfInBounds_toArray, List.set_cons_zero, List.set_cons_succ]
                  refine wpAnyH_take (i := 11) (oi := { dst := some 50, op := Op.move (Operand.tmp 8), type := 3, pos := "ref.go:131", after := #[{ on := 1, ground := Ground.guard }], guard := some (1, true) }) (v := undef) rfl (by kernel_rfl) (by kernel_rfl) (by kernel_rfl) (fun _ _ _ h => h) (Or.inr ⟨by rfl, rfl⟩) hS ?_
                  try simp only [Act.put, List.setIfInBounds_toArray, List.set_cons_zero, List.set_cons_succ]
                  refine wpAnyH_take (i := 12) (oi := { dst := some 51, op := Op.binOp BinOp.add 3 (Operand.tmp 49) (Operand.tmp 50) 3, type := 3, pos := "ref.go:131", after := #[{ on := 10, ground := Ground.data }, { on := 11, ground := Ground.data }, { on := 1, ground := Ground.guard }], guard := some (1, true) }) (v := undef) rfl (by kernel_rfl) (by kernel_rfl) (by kernel_rfl) (fun _ _ _ h => h) (Or.inr ⟨by rfl, rfl⟩) hS ?_
                  try simp only [Act.put, List.setIfInBounds_toArray, List.set_cons_zero, List.set_cons_succ]
                  refine wpAnyH_take (i := 13) (oi := { dst := some 52, op := Op.move (Operand.tmp 2), type := 22, pos := "ref.go:131", after := #[{ on := 1, ground := Ground.guard }], guard := some (1, true) }) (v := undef) rfl (by kernel_rfl) (by kernel_rfl) (by kernel_rfl) (fun _ _ _ h => h) (Or.inr ⟨by rfl, rfl⟩) hS ?_
                  try simp only [Act.put, List.setIfInBounds_toArray, List.set_cons_zero, List.set_cons_succ]
                  refine wpAnyH_take (i := 14) (oi := { dst := some 53, op := Op.move (Operand.tmp 8), type := 3, pos := "ref.go:131", after := #[{ on := 1, ground := Ground.guard }], guard := some (1, true) }) (v := undef) rfl (by kernel_rfl) (by kernel_rfl) (by kernel_rfl) (fun _ _ _ h => h) (Or.inr ⟨by rfl, rfl⟩) hS ?_
                  try simp only [Act.put, List.setIfInBounds_toArray, List.set_cons_zero, List.set_cons_succ]
                  refine wpAnyH_take (i := 15) (oi := { dst := some 54, op := Op.indexAddr 22 (Operand.tmp 52) (Operand.tmp 53), type := 0, pos := "ref.go:131", after := #[{ on := 13, ground := Ground.data }, { on := 14, ground := Ground.data }, { on := 1, ground := Ground.guard }], guard := some (1, true) }) (v := undef) rfl (by kernel_rfl) (by kernel_rfl) (by kernel_rfl) (fun _ _ _ h => h) (Or.inr ⟨by rfl, rfl⟩) hS ?_
                  try simp only [Act.put, List.setIfInBounds_toArray, List.set_cons_zero, List.set_cons_succ]
                  refine wpAnyH_take (i := 16) (oi := { dst := some 55, op := Op.load 5 (Operand.tmp 54), type := 5, pos := "ref.go:131", after := #[{ on := 15, ground := Ground.data }, { on := 1, ground := Ground.guard }], guard := some (1, true) }) (v := undef) rfl (by kernel_rfl) (by kernel_rfl) (by kernel_rfl) (fun _ _ _ h => h) (Or.inr ⟨by rfl, rfl⟩) hS ?_
                  try simp only [Act.put, List.setIfInBounds_toArray, List.set_cons_zero, List.set_cons_succ]
                  refine wpAnyH_take (i := 17) (oi := { dst := some 56, op := Op.call { callee := Callee.value (Operand.func 56), args := #[Operand.tmp 42, Operand.tmp 51, Operand.tmp 55], argTypes := #[26, 3, 5] }, type := 4, pos := "ref.go:131", after := #[{ on := 3, ground := Ground.data }, { on := 12, ground := Ground.data }, { on := 16, ground := Ground.data }, { on := 1, ground := Ground.chain }, { on := 1, ground := Ground.guard }], guard := some (1, true) }) (v := undef) rfl (by kernel_rfl) (by kernel_rfl) (by kernel_rfl) (fun _ _ _ h => h) (Or.inr ⟨by rfl, rfl⟩) hS ?_
                  try simp only [Act.put, List.setIfInBounds_toArray, List.set_cons_zero, List.set_cons_succ]
                  refine wpAnyH_take (i := 18) (oi := { dst := some 57, op := Op.pick (Operand.tmp 40) (Operand.tmp 56) (Operand.const (Value.bool false)), type := 4, pos := "ref.go:131", after := #[{ on := 1, ground := Ground.data }, { on := 17, ground := Ground.data }], guard := none }) (v := ?_) rfl (by kernel_rfl) (by kernel_rfl) (by kernel_rfl) (fun _ _ _ h => h) (Or.inl ⟨by rfl, ?_⟩) hS ?_
                  rotate_left
                  · intro W_ hSW_
                    obtain ⟨t0_, t1_, t2_, x0_⟩ := hSW_
                    go_simp
                    try with_reducible rfl
                  try simp only [Act.put, List.setIfInBounds_toArray, List.set_cons_zero, List.set_cons_succ]
                  refine wpAnyH_take (i := 19) (oi := { dst := some 7, op := Op.assign (Operand.tmp 57), type := 4, pos := "ref.go:131", after := #[{ on := 18, ground := Ground.data }, { on := 17, ground := Ground.chain }, { on := 0, ground := Ground.phase }, { on := 1, ground := Ground.phase }, { on := 2, ground := Ground.phase }, { on := 3, ground := Ground.phase }, { on := 4, ground := Ground.phase }, { on := 5, ground := Ground.phase }, { on := 6, ground := Ground.phase }, { on := 7, ground := Ground.phase }, { on := 8, ground := Ground.phase }, { on := 9, ground := Ground.phase }, { on := 10, ground := Ground.phase }, { on := 11, ground := Ground.phase }, { on := 12, ground := Ground.phase }, { on := 13, ground := Ground.phase }, { on := 14, ground := Ground.phase }, { on := 15, ground := Ground.phase }, { on := 16, ground := Ground.phase }, { on := 17, ground := Ground.phase }, { on := 18, ground := Ground.phase }], guard := none }) (v := ?_) rfl (by kernel_rfl) (by kernel_rfl) (by kernel_rfl) (fun _ _ _ h => h) (Or.inl ⟨by rfl, ?_⟩) hS ?_
                  rotate_left
                  · intro W_ hSW_
                    obtain ⟨t0_, t1_, t2_, x0_⟩ := hSW_
                    go_simp
                    try with_reducible rfl
                  try simp only [Act.put, List.setIfInBounds_toArray, List.set_cons_zero, List.set_cons_succ]
                  refine wpAnyH_done (by kernel_rfl) ?_ _
                  go_wp2_with fail
                  go_roundw
                  case rel =>
                    exact ⟨j + 1, (pd, false), by rw [HL.out]; omega, rfl, by first | go_num | (congr 1), by rw [HTj.out, hdr.out, bindW_cons]; rfl, (fun h => by cases h), HMj.out.drew'⟩
                  case measure => simp [intOf]; omega
              · have hjn : j = n := by omega
                subst hjn
                have hltd : decide ((j : Int) < (j : Int)) = false := decide_eq_false (by omega)
                have HTe : Aside0 (T = (pd, pk)) := ⟨by
                  rw [HTj.out, List.drop_eq_nil_of_le (by rw [HL.out]; exact Nat.le_refl _), bindW_nil _ HON2.out]⟩
                have HML := Aside0.mk hM
                clear hM HTj HMj
                cases pk with
                | false =>
                  have HRv := Aside0.mk (HRt.out.trans (put_f (by rw [HRC2.out, HT.out, HTe.out])))
                  rw [HRC2.out, HT.out, HTe.out] at HRv
                  go_wp2_with fail
                  refine wp_region_held_drew (S := fun W => W.cell? ⟨g1, 0, none⟩ = some (.pointer (some ⟨gd, 0, none⟩)) ∧ W.cell? ⟨g1, 1, none⟩ = some (.int .i64 (sl : Int)) ∧ W.cell? ⟨g1, 2, none⟩ = some (.int .i64 (c : Int))) (by kernel_rfl) ⟨t0, t1, t2⟩ (fun hS => ?_)
                  refine wpAnyH_take (i := 0) (oi := { dst := some 58, op := Op.move (Operand.tmp 7), type := 4, pos := "ref.go:133", after := #[], guard := none }) (v := ?_) rfl (by kernel_rfl) (by kernel_rfl) (by kernel_rfl) (fun _ _ _ h => h) (Or.inl ⟨by rfl, ?_⟩) hS ?_
                  rotate_left
                  · intro W_ hSW_
                    obtain ⟨t0_, t1_, t2_⟩ := hSW_
                    go_simp
                    try with_reducible rfl
                  try simp only [Act.put, List.setIfInBounds_toArray, List.set_cons_zero, List.set_cons_succ]
                  refine wpAnyH_take (i := 1) (oi := { dst := some 59, op := Op.move (Operand.tmp 58), type := 4, pos := "ref.go:133", after := #[{ on := 0, ground := Ground.data }], guard := none }) (v := ?_) rfl (by kernel_rfl) (by kernel_rfl) (by kernel_rfl) (fun _ _ _ h => h) (Or.inl ⟨by rfl, ?_⟩) hS ?_
                  rotate_left
                  · intro W_ hSW_
                    obtain ⟨t0_, t1_, t2_⟩ := hSW_
                    go_simp
                    try with_reducible rfl
                  try simp only [Act.put, List.setIfInBounds_toArray, List.set_cons_zero, List.set_cons_succ]
                  refine wpAnyH_take (i := 2) (oi := { dst := some 60, op := Op.load 28 (Operand.tmp 3), type := 28, pos := "ref.go:133", after := #[{ on := 1, ground := Ground.guard }], guard := some (1, true) }) (v := undef) rfl (by kernel_rfl) (by kernel_rfl) (by kernel_rfl) (fun _ _ _ h => h) (Or.inr ⟨by rfl, rfl⟩) hS ?_
                  try simp only [Act.put, List.setIfInBounds_toArray, List.set_cons_zero, List.set_cons_succ]
                  refine wpAnyH_take (i := 3) (oi := { dst := some 61, op := Op.move (Operand.tmp 1), type := 3, pos := "ref.go:133", after := #[{ on := 1, ground := Ground.guard }], guard := some (1, true) }) (v := undef) rfl (by kernel_rfl) (by kernel_rfl) (by kernel_rfl) (fun _ _ _ h => h) (Or.inr ⟨by rfl, rfl⟩) hS ?_
                  try simp only [Act.put, List.setIfInBounds_toArray, List.set_cons_zero, List.set_cons_succ]
                  refine wpAnyH_take (i := 4) (oi := { dst := some 62, op := Op.binOp BinOp.quo 3 (Operand.tmp 61) (Operand.const (Value.int IntKind.i64 8)) 3, type := 3, pos := "ref.go:133", after := #[{ on := 3, ground := Ground.data }, { on := 1, ground := Ground.guard }], guard := some (1, true) }) (v := undef) rfl (by kernel_rfl) (by kernel_rfl) (by kernel_rfl) (fun _ _ _ h => h) (Or.inr ⟨by rfl, rfl⟩) hS ?_
                  try simp only [Act.put, List.setIfInBounds_toArray, List.set_cons_zero, List.set_cons_succ]
                  refine wpAnyH_take (i := 5) (oi := { dst := some 63, op := Op.binOp BinOp.add 3 (Operand.const (Value.int IntKind.i64 16)) (Operand.tmp 62) 3, type := 3, pos := "ref.go:133", after := #[{ on := 4, ground := Ground.data }, { on := 1, ground := Ground.guard }], guard := some (1, true) }) (v := undef) rfl (by kernel_rfl) (by kernel_rfl) (by kernel_rfl) (fun _ _ _ h => h) (Or.inr ⟨by rfl, rfl⟩) hS ?_
                  try simp only [Act.put, List.setIfInBounds_toArray, List.set_cons_zero, List.set_cons_succ]
                  refine wpAnyH_take (i := 6) (oi := { dst := some 64, op := Op.load 28 (Operand.tmp 3), type := 28, pos := "ref.go:133", after := #[{ on := 1, ground := Ground.guard }], guard := some (1, true) }) (v := undef) rfl (by kernel_rfl) (by kernel_rfl) (by kernel_rfl) (fun _ _ _ h => h) (Or.inr ⟨by rfl, rfl⟩) hS ?_
                  try simp only [Act.put, List.setIfInBounds_toArray, List.set_cons_zero, List.set_cons_succ]
                  refine wpAnyH_take (i := 7) (oi := { dst := some 65, op := Op.move (Operand.tmp 1), type := 3, pos := "ref.go:133", after := #[{ on := 1, ground := Ground.guard }], guard := some (1, true) }) (v := undef) rfl (by kernel_rfl) (by kernel_rfl) (by kernel_rfl) (fun _ _ _ h => h) (Or.inr ⟨by rfl, rfl⟩) hS ?_
                  try simp only [Act.put, List.setIfInBounds_toArray, List.set_cons_zero, List.set_cons_succ]
                  refine wpAnyH_take (i := 8) (oi := { dst := some 66, op := Op.binOp BinOp.quo 3 (Operand.tmp 65) (Operand.const (Value.int IntKind.i64 8)) 3, type := 3, pos := "ref.go:133", after := #[{ on := 7, ground := Ground.data }, { on := 1, ground := Ground.guard }], guard := some (1, true) }) (v := undef) rfl (by kernel_rfl) (by kernel_rfl) (by kernel_rfl) (fun _ _ _ h => h) (Or.inr ⟨by rfl, rfl⟩) hS ?_
                  try simp only [Act.put, List.setIfInBounds_toArray, List.set_cons_zero, List.set_cons_succ]
                  refine wpAnyH_take (i := 9) (oi := { dst := some 67, op := Op.binOp BinOp.add 3 (Operand.const (Value.int IntKind.i64 16)) (Operand.tmp 66) 3, type := 3, pos := "ref.go:133", after := #[{ on := 8, ground := Ground.data }, { on := 1, ground := Ground.guard }], guard := some (1, true) }) (v := undef) rfl (by kernel_rfl) (by kernel_rfl) (by kernel_rfl) (fun _ _ _ h => h) (Or.inr ⟨by rfl, rfl⟩) hS ?_
                  try simp only [Act.put, List.setIfInBounds_toArray, List.set_cons_zero, List.set_cons_succ]
                  refine wpAnyH_take (i := 10) (oi := { dst := some 68, op := Op.call { callee := Callee.value (Operand.func 57), args := #[Operand.tmp 64, Operand.tmp 67], argTypes := #[28, 3] }, type := 3, pos := "ref.go:133", after := #[{ on := 6, ground := Ground.data }, { on := 9, ground := Ground.data }, { on := 1, ground := Ground.chain }, { on := 1, ground := Ground.guard }], guard := some (1, true) }) (v := undef) rfl (by kernel_rfl) (by kernel_rfl) (by kernel_rfl) (fun _ _ _ h => h) (Or.inr ⟨by rfl, rfl⟩) hS ?_
                  try simp only [Act.put, List.setIfInBounds_toArray, List.set_cons_zero, List.set_cons_succ]
                  refine wpAnyH_take (i := 11) (oi := { dst := some 69, op := Op.move (Operand.tmp 1), type := 3, pos := "ref.go:133", after := #[{ on := 1, ground := Ground.guard }], guard := some (1, true) }) (v := undef) rfl (by kernel_rfl) (by kernel_rfl) (by kernel_rfl) (fun _ _ _ h => h) (Or.inr ⟨by rfl, rfl⟩) hS ?_
                  try simp only [Act.put, List.setIfInBounds_toArray, List.set_cons_zero, List.set_cons_succ]
                  refine wpAnyH_take (i := 12) (oi := { dst := some 70, op := Op.binOp BinOp.rem 3 (Operand.tmp 69) (Operand.const (Value.int IntKind.i64 8)) 3, type := 3, pos := "ref.go:133", after := #[{ on := 11, ground := Ground.data }, { on := 1, ground := Ground.guard }], guard := some (1, true) }) (v := undef) rfl (by kernel_rfl) (by kernel_rfl) (by kernel_rfl) (fun _ _ _ h => h) (Or.inr ⟨by rfl, rfl⟩) hS ?_
                  try simp only [Act.put, List.setIfInBounds_toArray, List.set_cons_zero, List.set_cons_succ]
                  refine wpAnyH_take (i := 13) (oi := { dst := some 71, op := Op.binOp BinOp.shl 3 (Operand.const (Value.int IntKind.i64 1)) (Operand.tmp 70) 3, type := 3, pos := "ref.go:133", after := #[{ on := 12, ground := Ground.data }, { on := 1, ground := Ground.guard }], guard := some (1, true) }) (v := undef) rfl (by kernel_rfl) (by kernel_rfl) (by kernel_rfl) (fun _ _ _ h => h) (Or.inr ⟨by rfl, rfl⟩) hS ?_
                  try simp only [Act.put, List.setIfInBounds_toArray, List.set_cons_zero, List.set_cons_succ]
                  refine wpAnyH_take (i := 14) (oi := { dst := some 72, op := Op.binOp BinOp.or 3 (Operand.tmp 68) (Operand.tmp 71) 3, type := 3, pos := "ref.go:133", after := #[{ on := 10, ground := Ground.data }, { on := 13, ground := Ground.data }, { on := 1, ground := Ground.guard }], guard := some (1, true) }) (v := undef) rfl (by kernel_rfl) (by kernel_rfl) (by kernel_rfl) (fun _ _ _ h => h) (Or.inr ⟨by rfl, rfl⟩) hS ?_
                  try simp only [Act.put, List.setIfInBounds_toArray, List.set_cons_zero, List.set_cons_succ]
                  refine wpAnyH_take (i := 15) (oi := { dst := some 73, op := Op.call { callee := Callee.value (Operand.func 54), args := #[Operand.tmp 60, Operand.tmp 63, Operand.tmp 72], argTypes := #[28, 3, 3] }, type := 4, pos := "ref.go:133", after := #[{ on := 2, ground := Ground.data }, { on := 5, ground := Ground.data }, { on := 14, ground := Ground.data }, { on := 10, ground := Ground.chain }, { on := 1, ground := Ground.guard }], guard := some (1, true) }) (v := undef) rfl (by kernel_rfl) (by kernel_rfl) (by kernel_rfl) (fun _ _ _ h => h) (Or.inr ⟨by rfl, rfl⟩) hS ?_
                  try simp only [Act.put, List.setIfInBounds_toArray, List.set_cons_zero, List.set_cons_succ]
                  refine wpAnyH_take (i := 16) (oi := { dst := some 74, op := Op.pick (Operand.tmp 59) (Operand.tmp 73) (Operand.const (Value.bool false)), type := 4, pos := "ref.go:133", after := #[{ on := 1, ground := Ground.data }, { on := 15, ground := Ground.data }], guard := none }) (v := ?_) rfl (by kernel_rfl) (by kernel_rfl) (by kernel_rfl) (fun _ _ _ h => h) (Or.inl ⟨by rfl, ?_⟩) hS ?_
                  rotate_left
                  · intro W_ hSW_
                    obtain ⟨t0_, t1_, t2_⟩ := hSW_
                    go_simp
                    try with_reducible rfl
                  try simp only [Act.put, List.setIfInBounds_toArray, List.set_cons_zero, List.set_cons_succ]
                  refine wpAnyH_take (i := 17) (oi := { dst := some 7, op := Op.assign (Operand.tmp 74), type := 4, pos := "ref.go:133", after := #[{ on := 16, ground := Ground.data }, { on := 15, ground := Ground.chain }, { on := 0, ground := Ground.phase }, { on := 1, ground := Ground.phase }, { on := 2, ground := Ground.phase }, { on := 3, ground := Ground.phase }, { on := 4, ground := Ground.phase }, { on := 5, ground := Ground.phase }, { on := 6, ground := Ground.phase }, { on := 7, ground := Ground.phase }, { on := 8, ground := Ground.phase }, { on := 9, ground := Ground.phase }, { on := 10, ground := Ground.phase }, { on := 11, ground := Ground.phase }, { on := 12, ground := Ground.phase }, { on := 13, ground := Ground.phase }, { on := 14, ground := Ground.phase }, { on := 15, ground := Ground.phase }, { on := 16, ground := Ground.phase }], guard := none }) (v := ?_) rfl (by kernel_rfl) (by kernel_rfl) (by kernel_rfl) (fun _ _ _ h => h) (Or.inl ⟨by rfl, ?_⟩) hS ?_
                  rotate_left
                  · intro W_ hSW_
                    obtain ⟨t0_, t1_, t2_⟩ := hSW_
                    go_simp
                    try with_reducible rfl
                  try simp only [Act.put, List.setIfInBounds_toArray, List.set_cons_zero, List.set_cons_succ]
                  refine wpAnyH_done (by kernel_rfl) ?_ _
                  go_wp2_with fail
                  go_ret
                  rw [HRv.out]
                  exact ⟨rfl, HML.out.drew'.drop⟩
                | true =>
                  have HRv := Aside0.mk (HRt.out.trans (put_t (by rw [HRC2.out, HT.out, HTe.out])))
                  rw [HRC2.out, HT.out, HTe.out, wrs_one] at HRv
                  have HN1 := num_one (d := pd) HML.out.1 (i := 16 + k / 8) (by have := HN.out; omega)
                  have hbb : 3840 + (16 + k / 8) < N := by have := HN.out; omega
                  have z0 : 0 ≤ pd.num (16 + k / 8) 1 := num_nn HML.out.1 _ _
                  have z1 : pd.num (16 + k / 8) 1 < 256 := num_lt HML.out.1 hbb
                  have hor := or_bit_int _ z0 z1 (k % 8) (by omega)
                  obtain ⟨_, o0, o1⟩ := or_bit _ z0 z1 (k % 8) (by omega)
                  have HAT := Aside0.mk (at_call (slot := (sl : Int)) (chunk := (c : Int)) HML.out.drew' (16 + k / 8) hbb (by have := HN.out; omega))
                  have HPU := Aside0.mk (fun W (h : DvM w0 W gd gr N pd (blk g1 #[.pointer (some ⟨gd, 0, none⟩), .int .i64 (sl : Int), .int .i64 (c : Int)] 28 :: L)) => put_call (slot := (sl : Int)) (chunk := (c : Int)) h (16 + k / 8) (orb (pd.num (16 + k / 8) 1) (k % 8)) hbb (by have := HN.out; omega))
                  rw [← HN1] at HAT
                  have hmod : orb (pd.num (16 + k / 8) 1) (k % 8) % 256 = orb (pd.num (16 + k / 8) 1) (k % 8) := by omega
                  simp only [hmod] at HPU
                  have h56 : 3856 + k / 8 = 3840 + (16 + k / 8) := by omega
                  rw [h56] at HRv
                  unfold rup at HAT HPU
                  generalize pd.num (16 + k / 8) 1 = x at *
                  generalize orb x (k % 8) = y at *
                  have q1' : (k : Int).tdiv 8 = ((k / 8 : Nat) : Int) := by rw [Int.tdiv_eq_ediv_of_nonneg (by omega)]; omega
                  have q3 : (k : Int).tmod 8 = ((k % 8 : Nat) : Int) := by rw [Int.tmod_eq_emod_of_nonneg (by omega)]; omega
                  obtain ⟨km, hkm⟩ : ∃ km, k % 8 = km := ⟨_, rfl⟩
                  obtain ⟨k8, hk8⟩ : ∃ k8, k / 8 = k8 := ⟨_, rfl⟩
                  rw [hk8] at q1'
                  rw [hkm] at q3
                  have hkm8 : k % 8 < 8 := by omega
                  have hk8b : k / 8 ≤ 1000 := by omega
                  simp only [hk8, hkm] at *
                  have q1 : IntKind.i64.wrap (k8 : Int) = (k8 : Int) := by rw [IntKind.wrap_i64]; omega
                  have q2 : IntKind.i64.wrap (16 + (k8 : Int)) = ((16 + k8 : Nat) : Int) := by rw [IntKind.wrap_i64]; omega
                  have q4 : min km 64 = km := by omega
                  have q5 : IntKind.i64.wrap ((2 : Int) ^ km) = 2 ^ km := by
                    have h8 : km = 0 ∨ km = 1 ∨ km = 2 ∨ km = 3 ∨ km = 4 ∨ km = 5 ∨ km = 6 ∨ km = 7 := by omega
                    rcases h8 with h | h | h | h | h | h | h | h <;> rw [h] <;> decide
                  clear HN1 hmod h56 hbb hkm hk8
                  go_wp2_with fail
                  refine wp_region_held_drew (S := fun W => W.cell? ⟨g1, 0, none⟩ = some (.pointer (some ⟨gd, 0, none⟩)) ∧ W.cell? ⟨g1, 1, none⟩ = some (.int .i64 (sl : Int)) ∧ W.cell? ⟨g1, 2, none⟩ = some (.int .i64 (c : Int))) (by kernel_rfl) ⟨t0, t1, t2⟩ (fun hS => ?_)
                  refine wpAnyH_take (i := 0) (oi := { dst := some 58, op := Op.move (Operand.tmp 7), type := 4, pos := "ref.go:133", after := #[], guard := none }) (v := ?_) rfl (by kernel_rfl) (by kernel_rfl) (by kernel_rfl) (fun _ _ _ h => h) (Or.inl ⟨by rfl, ?_⟩) hS ?_
                  rotate_left
                  · intro W_ hSW_
                    obtain ⟨t0_, t1_, t2_⟩ := hSW_
                    go_simp
                    try with_reducible rfl
                  try simp only [Act.put, List.setIfInBounds_toArray, List.set_cons_zero, List.set_cons_succ]
                  refine wpAnyH_take (i := 1) (oi := { dst := some 59, op := Op.move (Operand.tmp 58), type := 4, pos := "ref.go:133", after := #[{ on := 0, ground := Ground.data }], guard := none }) (v := ?_) rfl (by kernel_rfl) (by kernel_rfl) (by kernel_rfl) (fun _ _ _ h => h) (Or.inl ⟨by rfl, ?_⟩) hS ?_
                  rotate_left
                  · intro W_ hSW_
                    obtain ⟨t0_, t1_, t2_⟩ := hSW_
                    go_simp
                    try with_reducible rfl
                  try simp only [Act.put, List.setIfInBounds_toArray, List.set_cons_zero, List.set_cons_succ]
                  refine wpAnyH_take (i := 2) (oi := { dst := some 60, op := Op.load 28 (Operand.tmp 3), type := 28, pos := "ref.go:133", after := #[{ on := 1, ground := Ground.guard }], guard := some (1, true) }) (v := ?_) rfl (by kernel_rfl) (by kernel_rfl) (by kernel_rfl) (fun _ _ _ h => h) (Or.inl ⟨by rfl, ?_⟩) hS ?_
                  rotate_left
                  · intro W_ hSW_
                    obtain ⟨t0_, t1_, t2_⟩ := hSW_
                    go_simp
                    try with_reducible rfl
                  try simp only [Act.put, List.setIfInBounds_toArray, List.set_cons_zero, List.set_cons_succ]
                  refine wpAnyH_take (i := 3) (oi := { dst := some 61, op := Op.move (Operand.tmp 1), type := 3, pos := "ref.go:133", after := #[{ on := 1, ground := Ground.guard }], guard := some (1, true) }) (v := ?_) rfl (by kernel_rfl) (by kernel_rfl) (by kernel_rfl) (fun _ _ _ h => h) (Or.inl ⟨by rfl, ?_⟩) hS ?_
                  rotate_left
                  · intro W_ hSW_
                    obtain ⟨t0_, t1_, t2_⟩ := hSW_
                    go_simp
                    try with_reducible rfl
                  try simp only [Act.put, List.setIfInBounds_toArray, List.set_cons_zero, List.set_cons_succ]
                  refine wpAnyH_take (i := 4) (oi := { dst := some 62, op := Op.binOp BinOp.quo 3 (Operand.tmp 61) (Operand.const (Value.int IntKind.i64 8)) 3, type := 3, pos := "ref.go:133", after := #[{ on := 3, ground := Ground.data }, { on := 1, ground := Ground.guard }], guard := some (1, true) }) (v := ?_) rfl (by kernel_rfl) (by kernel_rfl) (by kernel_rfl) (fun _ _ _ h => h) (Or.inl ⟨by rfl, ?_⟩) hS ?_
                  rotate_left
                  · intro W_ hSW_
                    obtain ⟨t0_, t1_, t2_⟩ := hSW_
                    go_simp
                    try with_reducible rfl
                  try simp only [Act.put, List.setIfInBounds_toArray, List.set_cons_zero, List.set_cons_succ]
                  refine wpAnyH_take (i := 5) (oi := { dst := some 63, op := Op.binOp BinOp.add 3 (Operand.const (Value.int IntKind.i64 16)) (Operand.tmp 62) 3, type := 3, pos := "ref.go:133", after := #[{ on := 4, ground := Ground.data }, { on := 1, ground := Ground.guard }], guard := some (1, true) }) (v := ?_) rfl (by kernel_rfl) (by kernel_rfl) (by kernel_rfl) (fun _ _ _ h => h) (Or.inl ⟨by rfl, ?_⟩) hS ?_
                  rotate_left
                  · intro W_ hSW_
                    obtain ⟨t0_, t1_, t2_⟩ := hSW_
                    go_simp
                    try with_reducible rfl
                  try simp only [Act.put, List.setIfInBounds_toArray, List.set_cons_zero, List.set_cons_succ]
                  refine wpAnyH_take (i := 6) (oi := { dst := some 64, op := Op.load 28 (Operand.tmp 3), type := 28, pos := "ref.go:133", after := #[{ on := 1, ground := Ground.guard }], guard := some (1, true) }) (v := ?_) rfl (by kernel_rfl) (by kernel_rfl) (by kernel_rfl) (fun _ _ _ h => h) (Or.inl ⟨by rfl, ?_⟩) hS ?_
                  rotate_left
                  · intro W_ hSW_
                    obtain ⟨t0_, t1_, t2_⟩ := hSW_
                    go_simp
                    try with_reducible rfl
                  try simp only [Act.put, List.setIfInBounds_toArray, List.set_cons_zero, List.set_cons_succ]
                  refine wpAnyH_take (i := 7) (oi := { dst := some 65, op := Op.move (Operand.tmp 1), type := 3, pos := "ref.go:133", after := #[{ on := 1, ground := Ground.guard }], guard := some (1, true) }) (v := ?_) rfl (by kernel_rfl) (by kernel_rfl) (by kernel_rfl) (fun _ _ _ h => h) (Or.inl ⟨by rfl, ?_⟩) hS ?_
                  rotate_left
                  · intro W_ hSW_
                    obtain ⟨t0_, t1_, t2_⟩ := hSW_
                    go_simp
                    try with_reducible rfl
                  try simp only [Act.put, List.setIfInBounds_toArray, List.set_cons_zero, List.set_cons_succ]
                  refine wpAnyH_take (i := 8) (oi := { dst := some 66, op := Op.binOp BinOp.quo 3 (Operand.tmp 65) (Operand.const (Value.int IntKind.i64 8)) 3, type := 3, pos := "ref.go:133", after := #[{ on := 7, ground := Ground.data }, { on := 1, ground := Ground.guard }], guard := some (1, true) }) (v := ?_) rfl (by kernel_rfl) (by kernel_rfl) (by kernel_rfl) (fun _ _ _ h => h) (Or.inl ⟨by rfl, ?_⟩) hS ?_
                  rotate_left
                  · intro W_ hSW_
                    obtain ⟨t0_, t1_, t2_⟩ := hSW_
                    go_simp
                    try with_reducible rfl
                  try simp only [Act.put, List.setIfInBounds_toArray, List.set_cons_zero, List.set_cons_succ]
                  refine wpAnyH_take (i := 9) (oi := { dst := some 67, op := Op.binOp BinOp.add 3 (Operand.const (Value.int IntKind.i64 16)) (Operand.tmp 66) 3, type := 3, pos := "ref.go:133", after := #[{ on := 8, ground := Ground.data }, { on := 1, ground := Ground.guard }], guard := some (1, true) }) (v := ?_) rfl (by kernel_rfl) (by kernel_rfl) (by kernel_rfl) (fun _ _ _ h => h) (Or.inl ⟨by rfl, ?_⟩) hS ?_
                  rotate_left
                  · intro W_ hSW_
                    obtain ⟨t0_, t1_, t2_⟩ := hSW_
                    go_simp
                    try with_reducible rfl
                  try simp only [Act.put, List.setIfInBounds_toArray, List.set_cons_zero, List.set_cons_succ]
                  refine wpAnyH_take (i := 11) (oi := { dst := some 69, op := Op.move (Operand.tmp 1), type := 3, pos := "ref.go:133", after := #[{ on := 1, ground := Ground.guard }], guard := some (1, true) }) (v := ?_) rfl (by kernel_rfl) (by kernel_rfl) (by kernel_rfl) (fun _ _ _ h => h) (Or.inl ⟨by rfl, ?_⟩) hS ?_
                  rotate_left
                  · intro W_ hSW_
                    obtain ⟨t0_, t1_, t2_⟩ := hSW_
                    go_simp
                    try with_reducible rfl
                  try simp only [Act.put, List.setIfInBounds_toArray, List.set_cons_zero, List.set_cons_succ]
                  refine wpAnyH_take (i := 12) (oi := { dst := some 70, op := Op.binOp BinOp.rem 3 (Operand.tmp 69) (Operand.const (Value.int IntKind.i64 8)) 3, type := 3, pos := "ref.go:133", after := #[{ on := 11, ground := Ground.data }, { on := 1, ground := Ground.guard }], guard := some (1, true) }) (v := ?_) rfl (by kernel_rfl) (by kernel_rfl) (by kernel_rfl) (fun _ _ _ h => h) (Or.inl ⟨by rfl, ?_⟩) hS ?_
                  rotate_left
                  · intro W_ hSW_
                    obtain ⟨t0_, t1_, t2_⟩ := hSW_
                    go_simp
                    try with_reducible rfl
                  try simp only [Act.put, List.setIfInBounds_toArray, List.set_cons_zero, List.set_cons_succ]
                  refine wpAnyH_take (i := 13) (oi := { dst := some 71, op := Op.binOp BinOp.shl 3 (Operand.const (Value.int IntKind.i64 1)) (Operand.tmp 70) 3, type := 3, pos := "ref.go:133", after := #[{ on := 12, ground := Ground.data }, { on := 1, ground := Ground.guard }], guard := some (1, true) }) (v := ?_) rfl (by kernel_rfl) (by kernel_rfl) (by kernel_rfl) (fun _ _ _ h => h) (Or.inl ⟨by rfl, ?_⟩) hS ?_
                  rotate_left
                  · intro W_ hSW_
                    obtain ⟨t0_, t1_, t2_⟩ := hSW_
                    go_simp
                    try with_reducible rfl
                  try simp only [Act.put, List.setIfInBounds_toArray, List.set_cons_zero, List.set_cons_succ]
                  refine wpAnyH_ready (rs := [10]) (by kernel_rfl) (by simp) ?_
                  refine AllReadyH.cons (o := { dst := some 68, op := Op.call { callee := Callee.value (Operand.func 57), args := #[Operand.tmp 64, Operand.tmp 67], argTypes := #[28, 3] }, type := 3, pos := "ref.go:133", after := #[{ on := 6, ground := Ground.data }, { on := 9, ground := Ground.data }, { on := 1, ground := Ground.chain }, { on := 1, ground := Ground.guard }], guard := some (1, true) }) rfl (fun K_ hK_ => ?_) AllReadyH.nil
                  go_simp
                  refine HAT.out.mono ?_
                  rintro e w_ ⟨rfl, hb_⟩
                  have HM_ := Aside0.mk (HML.out.drew'.step hb_)
                  clear hb_
                  refine hK_.out _ _ (⟨blk_cell HM_.out.top 0, blk_cell HM_.out.top 1, blk_cell HM_.out.top 2⟩) (fun hS_ => ?_)
                  clear hK_ K_ hS
                  have hS := hS_
                  clear hS_
                  try simp only [Act.put, List.setIfInBounds_toArray, List.set_cons_zero, List.set_cons_succ]
                  refine wpAnyH_take (i := 14) (oi := { dst := some 72, op := Op.binOp BinOp.or 3 (Operand.tmp 68) (Operand.tmp 71) 3, type := 3, pos := "ref.go:133", after := #[{ on := 10, ground := Ground.data }, { on := 13, ground := Ground.data }, { on := 1, ground := Ground.guard }], guard := some (1, true) }) (v := ?_) rfl (by kernel_rfl) (by kernel_rfl) (by kernel_rfl) (fun _ _ _ h => h) (Or.inl ⟨by rfl, ?_⟩) hS ?_
                  rotate_left
                  · intro W_ hSW_
                    obtain ⟨t0_, t1_, t2_⟩ := hSW_
                    go_simp
                    try with_reducible rfl
                  try simp only [Act.put, List.setIfInBounds_toArray, List.set_cons_zero, List.set_cons_succ]
                  refine wpAnyH_ready (rs := [15]) (by kernel_rfl) (by simp) ?_
                  refine AllReadyH.cons (o := { dst := some 73, op := Op.call { callee := Callee.value (Operand.func 54), args := #[Operand.tmp 60, Operand.tmp 63, Operand.tmp 72], argTypes := #[28, 3, 3] }, type := 4, pos := "ref.go:133", after := #[{ on := 2, ground := Ground.data }, { on := 5, ground := Ground.data }, { on := 14, ground := Ground.data }, { on := 10, ground := Ground.chain }, { on := 1, ground := Ground.guard }], guard := some (1, true) }) rfl (fun K_ hK_ => ?_) AllReadyH.nil
                  go_simp
                  refine (HPU.out _ HM_.out).mono ?_
                  rintro e w2_ ⟨rfl, hm2_⟩
                  have HM2_ := Aside0.mk hm2_
                  clear hm2_
                  refine hK_.out _ _ (⟨blk_cell HM2_.out.top 0, blk_cell HM2_.out.top 1, blk_cell HM2_.out.top 2⟩) (fun hS_ => ?_)
                  clear hK_ K_ hS
                  have hS := hS_
                  clear hS_
                  try simp only [Act.put, List.setIfInBounds_toArray, List.set_cons_zero, List.set_cons_succ]
                  refine wpAnyH_take (i := 16) (oi := { dst := some 74, op := Op.pick (Operand.tmp 59) (Operand.tmp 73) (Operand.const (Value.bool false)), type := 4, pos := "ref.go:133", after := #[{ on := 1, ground := Ground.data }, { on := 15, ground := Ground.data }], guard := none }) (v := ?_) rfl (by kernel_rfl) (by kernel_rfl) (by kernel_rfl) (fun _ _ _ h => h) (Or.inl ⟨by rfl, ?_⟩) hS ?_
                  rotate_left
                  · intro W_ hSW_
                    obtain ⟨t0_, t1_, t2_⟩ := hSW_
                    go_simp
                    try with_reducible rfl
                  try simp only [Act.put, List.setIfInBounds_toArray, List.set_cons_zero, List.set_cons_succ]
                  refine wpAnyH_take (i := 17) (oi := { dst := some 7, op := Op.assign (Operand.tmp 74), type := 4, pos := "ref.go:133", after := #[{ on := 16, ground := Ground.data }, { on := 15, ground := Ground.chain }, { on := 0, ground := Ground.phase }, { on := 1, ground := Ground.phase }, { on := 2, ground := Ground.phase }, { on := 3, ground := Ground.phase }, { on := 4, ground := Ground.phase }, { on := 5, ground := Ground.phase }, { on := 6, ground := Ground.phase }, { on := 7, ground := Ground.phase }, { on := 8, ground := Ground.phase }, { on := 9, ground := Ground.phase }, { on := 10, ground := Ground.phase }, { on := 11, ground := Ground.phase }, { on := 12, ground := Ground.phase }, { on := 13, ground := Ground.phase }, { on := 14, ground := Ground.phase }, { on := 15, ground := Ground.phase }, { on := 16, ground := Ground.phase }], guard := none }) (v := ?_) rfl (by kernel_rfl) (by kernel_rfl) (by kernel_rfl) (fun _ _ _ h => h) (Or.inl ⟨by rfl, ?_⟩) hS ?_
                  rotate_left
                  · intro W_ hSW_
                    obtain ⟨t0_, t1_, t2_⟩ := hSW_
                    go_simp
                    try with_reducible rfl
                  try simp only [Act.put, List.setIfInBounds_toArray, List.set_cons_zero, List.set_cons_succ]
                  refine wpAnyH_done (by kernel_rfl) ?_ _
                  generalize pd.wr (3840 + (16 + k8)) y = z at *
                  obtain ⟨zd, zk⟩ := z
                  cases zk with
                  | true =>
                    go_wp2_with fail
                    go_ret
                    rw [HRv.out]
                    exact ⟨rfl, HM2_.out.drop⟩
                  | false =>
                    go_wp2_with fail
                    go_ret
                    rw [HRv.out]
                    exact ⟨rfl, HM2_.out.drop⟩
        · have hnb : ((n : Int) != (m : Int)) = true := by simp; omega
          have HRt := Aside0.mk (HRs.out.trans (if_pos (.inr (.inr (by rw [HL.out, hcl.out]; exact hnm)))))
          go_wp2_with fail
          go_ret
          rw [HRt.out]
          exact ⟨rfl, HM.out.step HR1.out.1⟩
      · have HRt := Aside0.mk (HRs.out.trans (if_pos (.inr (.inl (by omega)))))
        have hkq1 : q ≤ k := by omega
        have hkq2 : (q : Int) ≤ (k : Int) := by omega
        go_wp2_with fail
        refine wp_region_held_drew (S := RQ w g1 gd (sl : Int) (c : Int)) (by kernel_rfl) HR0.out.drew (fun hS => ?_)
        refine wpAnyH_take (i := 0) (oi := { dst := some 12, op := Op.move (Operand.tmp 1), type := 3, pos := "ref.go:123", after := #[], guard := none }) (v := ?_) rfl (by kernel_rfl) (by kernel_rfl) (by kernel_rfl) (fun _ _ _ h => h) (Or.inl ⟨by rfl, ?_⟩) hS ?_
        rotate_left
        · intro W_ hSW_
          obtain ⟨hB_, hG_⟩ := hSW_
          have t0_ := blk_cell hG_ 0
          have t1_ := blk_cell hG_ 1
          have t2_ := blk_cell hG_ 2
          go_simp
          try with_reducible rfl
        try simp only [Act.put, List.setIfInBounds_toArray, List.set_cons_zero, List.set_cons_succ]
        refine wpAnyH_take (i := 1) (oi := { dst := some 13, op := Op.binOp BinOp.lss 3 (Operand.tmp 12) (Operand.const (Value.int IntKind.i64 0)) 3, type := 4, pos := "ref.go:123", after := #[{ on := 0, ground := Ground.data }], guard := none }) (v := ?_) rfl (by kernel_rfl) (by kernel_rfl) (by kernel_rfl) (fun _ _ _ h => h) (Or.inl ⟨by rfl, ?_⟩) hS ?_
        rotate_left
        · intro W_ hSW_
          obtain ⟨hB_, hG_⟩ := hSW_
          have t0_ := blk_cell hG_ 0
          have t1_ := blk_cell hG_ 1
          have t2_ := blk_cell hG_ 2
          go_simp
          try with_reducible rfl
        try simp only [Act.put, List.setIfInBounds_toArray, List.set_cons_zero, List.set_cons_succ]
        refine wpAnyH_take (i := 2) (oi := { dst := some 14, op := Op.move (Operand.tmp 13), type := 4, pos := "ref.go:123", after := #[{ on := 1, ground := Ground.data }], guard := none }) (v := ?_) rfl (by kernel_rfl) (by kernel_rfl) (by kernel_rfl) (fun _ _ _ h => h) (Or.inl ⟨by rfl, ?_⟩) hS ?_
        rotate_left
        · intro W_ hSW_
          obtain ⟨hB_, hG_⟩ := hSW_
          have t0_ := blk_cell hG_ 0
          have t1_ := blk_cell hG_ 1
          have t2_ := blk_cell hG_ 2
          go_simp
          try with_reducible rfl
        try simp only [Act.put, List.setIfInBounds_toArray, List.set_cons_zero, List.set_cons_succ]
        refine wpAnyH_take (i := 3) (oi := { dst := some 15, op := Op.move (Operand.tmp 1), type := 3, pos := "ref.go:123", after := #[{ on := 2, ground := Ground.guard }], guard := some (2, false) }) (v := ?_) rfl (by kernel_rfl) (by kernel_rfl) (by kernel_rfl) (fun _ _ _ h => h) (Or.inl ⟨by rfl, ?_⟩) hS ?_
        rotate_left
        · intro W_ hSW_
          obtain ⟨hB_, hG_⟩ := hSW_
          have t0_ := blk_cell hG_ 0
          have t1_ := blk_cell hG_ 1
          have t2_ := blk_cell hG_ 2
          go_simp
          try with_reducible rfl
        try simp only [Act.put, List.setIfInBounds_toArray, List.set_cons_zero, List.set_cons_succ]
        refine wpAnyH_take (i := 4) (oi := { dst := some 16, op := Op.load 28 (Operand.tmp 3), type := 28, pos := "ref.go:123", after := #[{ on := 2, ground := Ground.guard }], guard := some (2, false) }) (v := ?_) rfl (by kernel_rfl) (by kernel_rfl) (by kernel_rfl) (fun _ _ _ h => h) (Or.inl ⟨by rfl, ?_⟩) hS ?_
        rotate_left
        · intro W_ hSW_
          obtain ⟨hB_, hG_⟩ := hSW_
          have t0_ := blk_cell hG_ 0
          have t1_ := blk_cell hG_ 1
          have t2_ := blk_cell hG_ 2
          go_simp
          try with_reducible rfl
        try simp only [Act.put, List.setIfInBounds_toArray, List.set_cons_zero, List.set_cons_succ]
        refine wpAnyH_take (i := 5) (oi := { dst := some 17, op := Op.load 28 (Operand.tmp 3), type := 28, pos := "ref.go:123", after := #[{ on := 2, ground := Ground.guard }], guard := some (2, false) }) (v := ?_) rfl (by kernel_rfl) (by kernel_rfl) (by kernel_rfl) (fun _ _ _ h => h) (Or.inl ⟨by rfl, ?_⟩) hS ?_
        rotate_left
        · intro W_ hSW_
          obtain ⟨hB_, hG_⟩ := hSW_
          have t0_ := blk_cell hG_ 0
          have t1_ := blk_cell hG_ 1
          have t2_ := blk_cell hG_ 2
          go_simp
          try with_reducible rfl
        try simp only [Act.put, List.setIfInBounds_toArray, List.set_cons_zero, List.set_cons_succ]
        refine wpAnyH_ready (rs := [6]) (by kernel_rfl) (by simp) ?_
        refine AllReadyH.cons (o := { dst := some 18, op := Op.call { callee := Callee.value (Operand.func 51), args := #[Operand.tmp 17, Operand.const (Value.int IntKind.i64 5), Operand.const (Value.int IntKind.i64 2)], argTypes := #[28, 3, 3] }, type := 3, pos := "ref.go:123", after := #[{ on := 5, ground := Ground.data }, { on := 2, ground := Ground.chain }, { on := 2, ground := Ground.guard }], guard := some (2, false) }) rfl (fun K_ hK_ => ?_) AllReadyH.nil
        have hS0_ := Aside0.mk hS
        go_simp
        refine (K5.out _ hS0_.out.1).mono ?_
        rintro e w_ ⟨rfl, hb_⟩
        have HS_ := Aside0.mk (hS0_.out.step hb_)
        clear hb_ hS0_
        refine hK_.out _ _ (HS_.out) (fun hS_ => ?_)
        clear hK_ K_ hS
        have hS := hS_
        clear hS_
        try simp only [Act.put, List.setIfInBounds_toArray, List.set_cons_zero, List.set_cons_succ]
        refine wpAnyH_ready (rs := [7]) (by kernel_rfl) (by simp) ?_
        refine AllReadyH.cons (o := { dst := some 19, op := Op.call { callee := Callee.value (Operand.func 50), args := #[Operand.tmp 16, Operand.tmp 18], argTypes := #[28, 3] }, type := 3, pos := "ref.go:123", after := #[{ on := 4, ground := Ground.data }, { on := 6, ground := Ground.data }, { on := 6, ground := Ground.chain }, { on := 2, ground := Ground.guard }], guard := some (2, false) }) rfl (fun K_ hK_ => ?_) AllReadyH.nil
        have hS0_ := Aside0.mk hS
        go_simp
        refine (HRC.out _).mono ?_
        rintro e w_ ⟨rfl, hb_⟩
        have HS_ := Aside0.mk (hS0_.out.step hb_)
        clear hb_ hS0_
        refine hK_.out _ _ (HS_.out) (fun hS_ => ?_)
        clear hK_ K_ hS
        have hS := hS_
        clear hS_
        try simp only [Act.put, List.setIfInBounds_toArray, List.set_cons_zero, List.set_cons_succ]
        refine wpAnyH_take (i := 8) (oi := { dst := some 20, op := Op.binOp BinOp.geq 3 (Operand.tmp 15) (Operand.tmp 19) 3, type := 4, pos := "ref.go:123", after := #[{ on := 3, ground := Ground.data }, { on := 7, ground := Ground.data }, { on := 2, ground := Ground.guard }], guard := some (2, false) }) (v := ?_) rfl (by kernel_rfl) (by kernel_rfl) (by kernel_rfl) (fun _ _ _ h => h) (Or.inl ⟨by rfl, ?_⟩) hS ?_
        rotate_left
        · intro W_ hSW_
          obtain ⟨hB_, hG_⟩ := hSW_
          have t0_ := blk_cell hG_ 0
          have t1_ := blk_cell hG_ 1
          have t2_ := blk_cell hG_ 2
          go_simp
          try with_reducible rfl
        try simp only [Act.put, List.setIfInBounds_toArray, List.set_cons_zero, List.set_cons_succ]
        refine wpAnyH_take (i := 9) (oi := { dst := some 21, op := Op.pick (Operand.tmp 14) (Operand.const (Value.bool true)) (Operand.tmp 20), type := 4, pos := "ref.go:123", after := #[{ on := 2, ground := Ground.data }, { on := 8, ground := Ground.data }], guard := none }) (v := ?_) rfl (by kernel_rfl) (by kernel_rfl) (by kernel_rfl) (fun _ _ _ h => h) (Or.inl ⟨by rfl, ?_⟩) hS ?_
        rotate_left
        · intro W_ hSW_
          obtain ⟨hB_, hG_⟩ := hSW_
          have t0_ := blk_cell hG_ 0
          have t1_ := blk_cell hG_ 1
          have t2_ := blk_cell hG_ 2
          go_simp
          try with_reducible rfl
        try simp only [Act.put, List.setIfInBounds_toArray, List.set_cons_zero, List.set_cons_succ]
        refine wpAnyH_take (i := 10) (oi := { dst := some 22, op := Op.move (Operand.tmp 21), type := 4, pos := "ref.go:123", after := #[{ on := 9, ground := Ground.data }, { on := 7, ground := Ground.chain }], guard := none }) (v := ?_) rfl (by kernel_rfl) (by kernel_rfl) (by kernel_rfl) (fun _ _ _ h => h) (Or.inl ⟨by rfl, ?_⟩) hS ?_
        rotate_left
        · intro W_ hSW_
          obtain ⟨hB_, hG_⟩ := hSW_
          have t0_ := blk_cell hG_ 0
          have t1_ := blk_cell hG_ 1
          have t2_ := blk_cell hG_ 2
          go_simp
          try with_reducible rfl
        try simp only [Act.put, List.setIfInBounds_toArray, List.set_cons_zero, List.set_cons_succ]
        refine wpAnyH_take (i := 11) (oi := { dst := some 23, op := Op.move (Operand.tmp 2), type := 22, pos := "ref.go:123", after := #[{ on := 10, ground := Ground.guard }], guard := some (10, false) }) (v := undef) rfl (by kernel_rfl) (by kernel_rfl) (by kernel_rfl) (fun _ _ _ h => h) (Or.inr ⟨by rfl, rfl⟩) hS ?_
        try simp only [Act.put, List.setIfInBounds_toArray, List.set_cons_zero, List.set_cons_succ]
        refine wpAnyH_take (i := 12) (oi := { dst := some 24, op := Op.call { callee := Callee.builtin Builtin.len, args := #[Operand.tmp 23], argTypes := #[22] }, type := 3, pos := "ref.go:123", after := #[{ on := 11, ground := Ground.data }, { on := 10, ground := Ground.guard }], guard := some (10, false) }) (v := undef) rfl (by kernel_rfl) (by kernel_rfl) (by kernel_rfl) (fun _ _ _ h => h) (Or.inr ⟨by rfl, rfl⟩) hS ?_
        try simp only [Act.put, List.setIfInBounds_toArray, List.set_cons_zero, List.set_cons_succ]
        refine wpAnyH_take (i := 13) (oi := { dst := some 25, op := Op.load 28 (Operand.tmp 3), type := 28, pos := "ref.go:123", after := #[{ on := 10, ground := Ground.guard }], guard := some (10, false) }) (v := undef) rfl (by kernel_rfl) (by kernel_rfl) (by kernel_rfl) (fun _ _ _ h => h) (Or.inr ⟨by rfl, rfl⟩) hS ?_
        try simp only [Act.put, List.setIfInBounds_toArray, List.set_cons_zero, List.set_cons_succ]
        refine wpAnyH_take (i := 14) (oi := { dst := some 26, op := Op.move (Operand.tmp 1), type := 3, pos := "ref.go:123", after := #[{ on := 10, ground := Ground.guard }], guard := some (10, false) }) (v := undef) rfl (by kernel_rfl) (by kernel_rfl) (by kernel_rfl) (fun _ _ _ h => h) (Or.inr ⟨by rfl, rfl⟩) hS ?_
        try simp only [Act.put, List.setIfInBounds_toArray, List.set_cons_zero, List.set_cons_succ]
        refine wpAnyH_take (i := 15) (oi := { dst := some 27, op := Op.call { callee := Callee.value (Operand.func 55), args := #[Operand.tmp 25, Operand.tmp 26], argTypes := #[28, 3] }, type := 3, pos := "ref.go:123", after := #[{ on := 13, ground := Ground.data }, { on := 14, ground := Ground.data }, { on := 10, ground := Ground.chain }, { on := 10, ground := Ground.guard }], guard := some (10, false) }) (v := undef) rfl (by kernel_rfl) (by kernel_rfl) (by kernel_rfl) (fun _ _ _ h => h) (Or.inr ⟨by rfl, rfl⟩) hS ?_
        try simp only [Act.put, List.setIfInBounds_toArray, List.set_cons_zero, List.set_cons_succ]
        refine wpAnyH_take (i := 16) (oi := { dst := some 28, op := Op.binOp BinOp.neq 3 (Operand.tmp 24) (Operand.tmp 27) 3, type := 4, pos := "ref.go:123", after := #[{ on := 12, ground := Ground.data }, { on := 15, ground := Ground.data }, { on := 10, ground := Ground.guard }], guard := some (10, false) }) (v := undef) rfl (by kernel_rfl) (by kernel_rfl) (by kernel_rfl) (fun _ _ _ h => h) (Or.inr ⟨by rfl, rfl⟩) hS ?_
        try simp only [Act.put, List.setIfInBounds_toArray, List.set_cons_zero, List.set_cons_succ]
        refine wpAnyH_take (i := 17) (oi := { dst := some 29, op := Op.pick (Operand.tmp 22) (Operand.const (Value.bool true)) (Operand.tmp 28), type := 4, pos := "ref.go:123", after := #[{ on := 10, ground := Ground.data }, { on := 16, ground := Ground.data }], guard := none }) (v := ?_) rfl (by kernel_rfl) (by kernel_rfl) (by kernel_rfl) (fun _ _ _ h => h) (Or.inl ⟨by rfl, ?_⟩) hS ?_
        rotate_left
        · intro W_ hSW_
          obtain ⟨hB_, hG_⟩ := hSW_
          have t0_ := blk_cell hG_ 0
          have t1_ := blk_cell hG_ 1
          have t2_ := blk_cell hG_ 2
          go_simp
          try with_reducible rfl
        try simp only [Act.put, List.setIfInBounds_toArray, List.set_cons_zero, List.set_cons_succ]
        refine wpAnyH_done (by kernel_rfl) ?_ _
        have HB := Aside0.mk hS.1
        clear hS
        go_wp2_with fail
        go_ret
        rw [HRt.out]
        exact ⟨rfl, HM.out.step HB.out⟩
end Go.Proofs.Ytfcldacjnegacaa.Up
