/- updater.Chunk. Printed by mkUpH.py. -/
import Derived.Test.YtfcldacjnegacaaUpG
namespace Go.Proofs.Ytfcldacjnegacaa.Up
open Go.RowKit Go.Proofs.YtfcldacjnegacaaW.PrintWords Go.Proofs.YtfcldacjnegacaaW.PrintLast Go.Proofs.YtfcldacjnegacaaW.PrintMore Go.Proofs.Ytfcldacjnegacaa.Sl
attribute [local go_sem] max2_int min2_int max_two min_two
set_option linter.unusedVariables false
set_option linter.unusedSimpArgs false
variable {L : List Chunk} {w0 w w' : World} {gm gb gu N c : Nat} {d : Dv} {slot chunk : Int}
def orb (x : Int) (k : Nat) : Int := if x / 2 ^ k % 2 = 1 then x else x + 2 ^ k
theorem or_bit8 : ∀ x : Fin 256, ∀ k : Fin 8, bits .or .u8 ((x.val : Nat) : Int) (2 ^ k.val) = orb ((x.val : Nat) : Int) k.val ∧ 0 ≤ orb ((x.val : Nat) : Int) k.val ∧ orb ((x.val : Nat) : Int) k.val < 256 := by decide +kernel
theorem or_bit (x : Int) (h0 : 0 ≤ x) (h1 : x < 256) (k : Nat) (hk : k < 8) : bits .or .u8 x (2 ^ k) = orb x k ∧ 0 ≤ orb x k ∧ orb x k < 256 := by
  obtain ⟨n, rfl⟩ := Int.eq_ofNat_of_zero_le h0
  exact or_bit8 ⟨n, by omega⟩ ⟨k, hk⟩
/-- The length of chunk i. -/
def clen (l c i : Nat) : Nat := min c (l - i * c)
def Dv.put (d : Dv) (sl c i : Nat) (xs : List Int) : Dv × Int :=
  if (d.wrs (sl + i * c) xs).2 = true then
    (((d.wrs (sl + i * c) xs).1.wrs (3856 + i / 8) [orb ((d.wrs (sl + i * c) xs).1.num (16 + i / 8) 1) (i % 8)]).1, errP ((d.wrs (sl + i * c) xs).1.wrs (3856 + i / 8) [orb ((d.wrs (sl + i * c) xs).1.num (16 + i / 8) 1) (i % 8)]).2)
  else ((d.wrs (sl + i * c) xs).1, 9)
def Dv.store (d : Dv) (sl c : Nat) (i : Int) (xs : List Int) : Dv × Int :=
  if d.act (c : Int) = false then (d, 10)
  else if i < 0 ∨ (nch (d.num 5 2).toNat c : Int) ≤ i ∨ xs.length ≠ clen (d.num 5 2).toNat c i.toNat then (d, 1)
  else if d.st i.toNat = true then (d, 0)
  else d.put sl c i.toNat xs
theorem put_f {d : Dv} {sl c i : Nat} {xs : List Int} (h : (d.wrs (sl + i * c) xs).2 = false) : d.put sl c i xs = ((d.wrs (sl + i * c) xs).1, 9) := by
  unfold Dv.put
  exact if_neg (by rw [h]; simp)
theorem put_t {d : Dv} {sl c i : Nat} {xs : List Int} (h : (d.wrs (sl + i * c) xs).2 = true) : d.put sl c i xs =
    (((d.wrs (sl + i * c) xs).1.wrs (3856 + i / 8) [orb ((d.wrs (sl + i * c) xs).1.num (16 + i / 8) 1) (i % 8)]).1, errP ((d.wrs (sl + i * c) xs).1.wrs (3856 + i / 8) [orb ((d.wrs (sl + i * c) xs).1.num (16 + i / 8) 1) (i % 8)]).2) := by
  unfold Dv.put
  exact if_pos h
theorem nch_mul {l c i : Nat} (h : i < nch l c) : i * c < l := by
  unfold nch at h
  rcases Nat.eq_zero_or_pos c with rfl | hc
  · simp at h
  · have h1 := (Nat.lt_div_iff_mul_lt hc).1 h
    omega
theorem NvM.drew' (h : NvM w0 w gm gb N d L) : NvM w0 w.drew gm gb N d L := by
  obtain ⟨hd, lf, wv, hlf, hm⟩ := h
  exact ⟨hd, lf, wv, hlf, hm.drew⟩
theorem wb_bound {sl k c l r t m n N len : Nat} (h1 : sl + 6144 ≤ N) (h2 : k * c < l) (h3 : k * c = r) (h4 : l - r = t) (h5 : min c t = m) (h6 : n = m) (h7 : len = n) (h8 : l ≤ 6144) (hN : N = 10240) : sl + r + len ≤ N ∧ N ≤ 20000 ∧ IntKind.i64.wrap ((sl : Int) + (r : Int)) = ((sl + r : Nat) : Int) := by
  refine ⟨by omega, by omega, ?_⟩
  rw [IntKind.wrap_i64]
  omega
set_option maxRecDepth 100000 in
set_option maxHeartbeats 2000000 in
/-- The part that writes. -/
theorem Chunk_call {sl : Nat} (hM : NvM w0 w gm gb N d (upd gu gm (sl : Int) (c : Int) L)) (hN : N = 10240) (hc : 4 ≤ c) (hc2 : c ≤ 36) (hsl : sl + 6144 ≤ N) (i : Int) (hi : (Lit.int .i64 i).wf = true) {A : Option Addr} {n cp : Nat} {xs : List Int} (hn : xs.length = n)
    (hX : ∀ d' W, NvM w0 W gm gb N d' (upd gu gm (sl : Int) (c : Int) L) → (Kd.int .u8).C W A xs.length xs) (hx : ∀ x ∈ xs, 0 ≤ x ∧ x < 256) :
    Calls Try.prog 14 #[.pointer (some ⟨gu, 0, none⟩), .int .i64 i, .slice A n cp] w fun e w' => e = .returned (.int .i64 (d.store sl c i xs).2) ∧ NvM w0 w' gm gb N (d.store sl c i xs).1 (upd gu gm (sl : Int) (c : Int) L) := by
  have HC := Aside0.mk (current_call hM hN)
  generalize hR : d.store sl c i xs = R
  have HR := Aside0.mk hR.symm
  have HM := Aside0.mk hM
  have HN := Aside0.mk hN
  have HCC := Aside0.mk (And.intro hc hc2)
  have HSL := Aside0.mk hsl
  have HX := Aside0.mk hX
  have HXB := Aside0.mk hx
  have HL := Aside0.mk hn
  have HI := Aside0.mk hi
  clear hM hN hc hc2 hsl hX hx hn hi hR
  cases hac : d.act (c : Int) with
  | false =>
    rw [hac] at HC
    have HRt := Aside0.mk (HR.out.trans (show d.store sl c i xs = (d, 10) by unfold Dv.store; rw [if_pos hac]))
    clear hac
    go_enter Try.func14, Try.ntmps14
    go_wp2_with fail
    refine HC.out.mono ?_
    rintro e w1 ⟨rfl, hb⟩
    have HM1 := Aside0.mk (HM.out.step hb)
    clear hb
    go_wp2_with fail
    go_ret
    rw [HRt.out]
    exact ⟨rfl, HM1.out.step (below_alloc (Below.refl _ _) _)⟩
  | true =>
    rw [hac] at HC
    obtain ⟨hl1, hl2⟩ := act_len hac
    obtain ⟨l, hl⟩ : ∃ l : Nat, d.num 5 2 = (l : Int) := ⟨(d.num 5 2).toNat, by omega⟩
    rw [hl] at hl1 hl2 HC
    have hl3 : l ≤ 6144 := by omega
    have hq : nch l c ≤ 1536 := nch_le hl3 HCC.out.1
    have HNM := Aside0.mk (fun (j : Nat) (h : j < nch l c) => nch_mul h)
    have HRs := Aside0.mk (HR.out.trans (show d.store sl c i xs = if i < 0 ∨ (nch l c : Int) ≤ i ∨ xs.length ≠ clen l c i.toNat then (d, 1) else if d.st i.toNat = true then (d, 0) else d.put sl c i.toNat xs by
      unfold Dv.store
      rw [if_neg (by rw [hac]; simp), hl, Int.toNat_natCast]))
    have HK := Aside0.mk (fun W (h : NvM w0 W gm gb N d (upd gu gm (sl : Int) (c : Int) L)) => chunks_call h l hl3 HCC.out.1 HCC.out.2)
    have hn1 : ∃ n1, d.num 1 4 = n1 := ⟨_, rfl⟩
    obtain ⟨n1, hn1⟩ := hn1
    obtain ⟨n7, hn7⟩ : ∃ n7, d.num 7 2 = n7 := ⟨_, rfl⟩
    rw [hn1, hn7] at HC
    obtain ⟨q, hqq⟩ : ∃ q, nch l c = q := ⟨_, rfl⟩
    rw [hqq] at HK HRs hq
    have HQ := Aside0.mk hqq
    have HL3 := Aside0.mk hl3
    have hc36 : c ≤ 36 := HCC.out.2
    have mixed : Try.prog.follows Departure.mixedOrders = true := by kernel_rfl
    clear hl hl1 hl2 hac hn1 hn7 hqq
    go_enter Try.func14, Try.ntmps14
    go_wp2_with fail
    refine HC.out.mono ?_
    rintro e w1 ⟨rfl, hb⟩
    obtain ⟨W1, hW1⟩ : ∃ W1, W1 = w1.alloc (.cells #[.int .i64 n1, .int .i64 (l : Int), .int .u16 n7] 71) := ⟨_, rfl⟩
    obtain ⟨g7, hg7⟩ : ∃ g7, g7 = w1.heap.size := ⟨_, rfl⟩
    have HG : Aside0 (W1.heap[g7]? = some (.cells #[.int .i64 n1, .int .i64 (l : Int), .int .u16 n7] 71)) := ⟨by rw [hW1, hg7]; exact blk_new _ _⟩
    have HM1 : Aside0 (NvM w0 W1 gm gb N d (upd gu gm (sl : Int) (c : Int) L)) := ⟨by rw [hW1]; exact HM.out.step (below_alloc hb _)⟩
    clear hb HC
    by_cases hi0 : i < 0
    · have HRt := Aside0.mk (HRs.out.trans (if_pos (.inl hi0)))
      go_wp2_with fail
      rw [← hW1, ← hg7]
      clear hW1 hg7
      refine wp_region_held_drew (S := fun W => Below W1.heap.size W1 W) (by kernel_rfl) (below_drew1 (Below.refl _ _)) (fun hS => ?_)
      refine wpAnyH_take (i := 0) (oi := { dst := some 18, op := Op.move (Operand.tmp 1), type := 3, pos := "updater.go:120", after := #[], guard := none }) (v := ?_) rfl (by kernel_rfl) (by kernel_rfl) (by kernel_rfl) (fun _ _ _ h => h) (Or.inl ⟨by rfl, ?_⟩) hS ?_
      rotate_left
      · intro W_ hSW_
        have g1_ := blk_cell (blk_below HG.out hSW_) 1
        obtain ⟨x0_, x1_, x2_⟩ := (HM1.out.step hSW_).u
        go_simp
        try with_reducible rfl
      try simp only [Act.put, List.setIfInBounds_toArray, List.set_cons_zero, List.set_cons_succ]
      refine wpAnyH_take (i := 1) (oi := { dst := some 19, op := Op.binOp BinOp.lss 3 (Operand.tmp 18) (Operand.const (Value.int IntKind.i64 0)) 3, type := 4, pos := "updater.go:120", after := #[{ on := 0, ground := Ground.data }], guard := none }) (v := ?_) rfl (by kernel_rfl) (by kernel_rfl) (by kernel_rfl) (fun _ _ _ h => h) (Or.inl ⟨by rfl, ?_⟩) hS ?_
      rotate_left
      · intro W_ hSW_
        have g1_ := blk_cell (blk_below HG.out hSW_) 1
        obtain ⟨x0_, x1_, x2_⟩ := (HM1.out.step hSW_).u
        go_simp
        try with_reducible rfl
      try simp only [Act.put, List.setIfInBounds_toArray, List.set_cons_zero, List.set_cons_succ]
      refine wpAnyH_take (i := 2) (oi := { dst := some 20, op := Op.move (Operand.tmp 19), type := 4, pos := "updater.go:120", after := #[{ on := 1, ground := Ground.data }], guard := none }) (v := ?_) rfl (by kernel_rfl) (by kernel_rfl) (by kernel_rfl) (fun _ _ _ h => h) (Or.inl ⟨by rfl, ?_⟩) hS ?_
      rotate_left
      · intro W_ hSW_
        have g1_ := blk_cell (blk_below HG.out hSW_) 1
        obtain ⟨x0_, x1_, x2_⟩ := (HM1.out.step hSW_).u
        go_simp
        try with_reducible rfl
      try simp only [Act.put, List.setIfInBounds_toArray, List.set_cons_zero, List.set_cons_succ]
      refine wpAnyH_take (i := 3) (oi := { dst := some 21, op := Op.move (Operand.tmp 1), type := 3, pos := "updater.go:120", after := #[{ on := 2, ground := Ground.guard }], guard := some (2, false) }) (v := undef) rfl (by kernel_rfl) (by kernel_rfl) (by kernel_rfl) (fun _ _ _ h => h) (Or.inr ⟨by rfl, rfl⟩) hS ?_
      try simp only [Act.put, List.setIfInBounds_toArray, List.set_cons_zero, List.set_cons_succ]
      refine wpAnyH_take (i := 4) (oi := { dst := some 22, op := Op.move (Operand.tmp 0), type := 25, pos := "updater.go:120", after := #[{ on := 2, ground := Ground.guard }], guard := some (2, false) }) (v := undef) rfl (by kernel_rfl) (by kernel_rfl) (by kernel_rfl) (fun _ _ _ h => h) (Or.inr ⟨by rfl, rfl⟩) hS ?_
      try simp only [Act.put, List.setIfInBounds_toArray, List.set_cons_zero, List.set_cons_succ]
      refine wpAnyH_take (i := 5) (oi := { dst := some 23, op := Op.fieldAddr 71 (Operand.tmp 7) 1, type := 0, pos := "updater.go:120", after := #[{ on := 2, ground := Ground.guard }], guard := some (2, false) }) (v := undef) rfl (by kernel_rfl) (by kernel_rfl) (by kernel_rfl) (fun _ _ _ h => h) (Or.inr ⟨by rfl, rfl⟩) hS ?_
      try simp only [Act.put, List.setIfInBounds_toArray, List.set_cons_zero, List.set_cons_succ]
      refine wpAnyH_take (i := 6) (oi := { dst := some 24, op := Op.load 3 (Operand.tmp 23), type := 3, pos := "updater.go:120", after := #[{ on := 5, ground := Ground.data }, { on := 2, ground := Ground.guard }], guard := some (2, false) }) (v := undef) rfl (by kernel_rfl) (by kernel_rfl) (by kernel_rfl) (fun _ _ _ h => h) (Or.inr ⟨by rfl, rfl⟩) hS ?_
      try simp only [Act.put, List.setIfInBounds_toArray, List.set_cons_zero, List.set_cons_succ]
      refine wpAnyH_take (i := 7) (oi := { dst := some 25, op := Op.call { callee := Callee.value (Operand.func 36), args := #[Operand.tmp 22, Operand.tmp 24], argTypes := #[25, 3] }, type := 3, pos := "updater.go:120", after := #[{ on := 4, ground := Ground.data }, { on := 6, ground := Ground.data }, { on := 2, ground := Ground.chain }, { on := 2, ground := Ground.guard }], guard := some (2, false) }) (v := undef) rfl (by kernel_rfl) (by kernel_rfl) (by kernel_rfl) (fun _ _ _ h => h) (Or.inr ⟨by rfl, rfl⟩) hS ?_
      try simp only [Act.put, List.setIfInBounds_toArray, List.set_cons_zero, List.set_cons_succ]
      refine wpAnyH_take (i := 8) (oi := { dst := some 26, op := Op.binOp BinOp.geq 3 (Operand.tmp 21) (Operand.tmp 25) 3, type := 4, pos := "updater.go:120", after := #[{ on := 3, ground := Ground.data }, { on := 7, ground := Ground.data }, { on := 2, ground := Ground.guard }], guard := some (2, false) }) (v := undef) rfl (by kernel_rfl) (by kernel_rfl) (by kernel_rfl) (fun _ _ _ h => h) (Or.inr ⟨by rfl, rfl⟩) hS ?_
      try simp only [Act.put, List.setIfInBounds_toArray, List.set_cons_zero, List.set_cons_succ]
      refine wpAnyH_take (i := 9) (oi := { dst := some 27, op := Op.pick (Operand.tmp 20) (Operand.const (Value.bool true)) (Operand.tmp 26), type := 4, pos := "updater.go:120", after := #[{ on := 2, ground := Ground.data }, { on := 8, ground := Ground.data }], guard := none }) (v := ?_) rfl (by kernel_rfl) (by kernel_rfl) (by kernel_rfl) (fun _ _ _ h => h) (Or.inl ⟨by rfl, ?_⟩) hS ?_
      rotate_left
      · intro W_ hSW_
        have g1_ := blk_cell (blk_below HG.out hSW_) 1
        obtain ⟨x0_, x1_, x2_⟩ := (HM1.out.step hSW_).u
        go_simp
        try with_reducible rfl
      try simp only [Act.put, List.setIfInBounds_toArray, List.set_cons_zero, List.set_cons_succ]
      refine wpAnyH_take (i := 10) (oi := { dst := some 28, op := Op.move (Operand.tmp 27), type := 4, pos := "updater.go:120", after := #[{ on := 9, ground := Ground.data }, { on := 7, ground := Ground.chain }], guard := none }) (v := ?_) rfl (by kernel_rfl) (by kernel_rfl) (by kernel_rfl) (fun _ _ _ h => h) (Or.inl ⟨by rfl, ?_⟩) hS ?_
      rotate_left
      · intro W_ hSW_
        have g1_ := blk_cell (blk_below HG.out hSW_) 1
        obtain ⟨x0_, x1_, x2_⟩ := (HM1.out.step hSW_).u
        go_simp
        try with_reducible rfl
      try simp only [Act.put, List.setIfInBounds_toArray, List.set_cons_zero, List.set_cons_succ]
      refine wpAnyH_take (i := 11) (oi := { dst := some 29, op := Op.move (Operand.tmp 2), type := 22, pos := "updater.go:120", after := #[{ on := 10, ground := Ground.guard }], guard := some (10, false) }) (v := undef) rfl (by kernel_rfl) (by kernel_rfl) (by kernel_rfl) (fun _ _ _ h => h) (Or.inr ⟨by rfl, rfl⟩) hS ?_
      try simp only [Act.put, List.setIfInBounds_toArray, List.set_cons_zero, List.set_cons_succ]
      refine wpAnyH_take (i := 12) (oi := { dst := some 30, op := Op.call { callee := Callee.builtin Builtin.len, args := #[Operand.tmp 29], argTypes := #[22] }, type := 3, pos := "updater.go:120", after := #[{ on := 11, ground := Ground.data }, { on := 10, ground := Ground.guard }], guard := some (10, false) }) (v := undef) rfl (by kernel_rfl) (by kernel_rfl) (by kernel_rfl) (fun _ _ _ h => h) (Or.inr ⟨by rfl, rfl⟩) hS ?_
      try simp only [Act.put, List.setIfInBounds_toArray, List.set_cons_zero, List.set_cons_succ]
      refine wpAnyH_take (i := 13) (oi := { dst := some 31, op := Op.move (Operand.tmp 0), type := 25, pos := "updater.go:120", after := #[{ on := 10, ground := Ground.guard }], guard := some (10, false) }) (v := undef) rfl (by kernel_rfl) (by kernel_rfl) (by kernel_rfl) (fun _ _ _ h => h) (Or.inr ⟨by rfl, rfl⟩) hS ?_
      try simp only [Act.put, List.setIfInBounds_toArray, List.set_cons_zero, List.set_cons_succ]
      refine wpAnyH_take (i := 14) (oi := { dst := some 32, op := Op.nilCheck (Operand.tmp 31), type := 0, pos := "updater.go:120", after := #[{ on := 13, ground := Ground.data }, { on := 10, ground := Ground.guard }], guard := some (10, false) }) (v := undef) rfl (by kernel_rfl) (by kernel_rfl) (by kernel_rfl) (fun _ _ _ h => h) (Or.inr ⟨by rfl, rfl⟩) hS ?_
      try simp only [Act.put, List.setIfInBounds_toArray, List.set_cons_zero, List.set_cons_succ]
      refine wpAnyH_take (i := 15) (oi := { dst := some 33, op := Op.fieldAddr 77 (Operand.tmp 32) 2, type := 0, pos := "updater.go:120", after := #[{ on := 14, ground := Ground.data }, { on := 10, ground := Ground.guard }], guard := some (10, false) }) (v := undef) rfl (by kernel_rfl) (by kernel_rfl) (by kernel_rfl) (fun _ _ _ h => h) (Or.inr ⟨by rfl, rfl⟩) hS ?_
      try simp only [Act.put, List.setIfInBounds_toArray, List.set_cons_zero, List.set_cons_succ]
      refine wpAnyH_take (i := 16) (oi := { dst := some 34, op := Op.load 3 (Operand.tmp 33), type := 3, pos := "updater.go:120", after := #[{ on := 15, ground := Ground.data }, { on := 10, ground := Ground.guard }], guard := some (10, false) }) (v := undef) rfl (by kernel_rfl) (by kernel_rfl) (by kernel_rfl) (fun _ _ _ h => h) (Or.inr ⟨by rfl, rfl⟩) hS ?_
      try simp only [Act.put, List.setIfInBounds_toArray, List.set_cons_zero, List.set_cons_succ]
      refine wpAnyH_take (i := 17) (oi := { dst := some 35, op := Op.fieldAddr 71 (Operand.tmp 7) 1, type := 0, pos := "updater.go:120", after := #[{ on := 10, ground := Ground.guard }], guard := some (10, false) }) (v := undef) rfl (by kernel_rfl) (by kernel_rfl) (by kernel_rfl) (fun _ _ _ h => h) (Or.inr ⟨by rfl, rfl⟩) hS ?_
      try simp only [Act.put, List.setIfInBounds_toArray, List.set_cons_zero, List.set_cons_succ]
      refine wpAnyH_take (i := 18) (oi := { dst := some 36, op := Op.load 3 (Operand.tmp 35), type := 3, pos := "updater.go:120", after := #[{ on := 17, ground := Ground.data }, { on := 10, ground := Ground.guard }], guard := some (10, false) }) (v := undef) rfl (by kernel_rfl) (by kernel_rfl) (by kernel_rfl) (fun _ _ _ h => h) (Or.inr ⟨by rfl, rfl⟩) hS ?_
      try simp only [Act.put, List.setIfInBounds_toArray, List.set_cons_zero, List.set_cons_succ]
      refine wpAnyH_take (i := 19) (oi := { dst := some 37, op := Op.move (Operand.tmp 1), type := 3, pos := "updater.go:120", after := #[{ on := 10, ground := Ground.guard }], guard := some (10, false) }) (v := undef) rfl (by kernel_rfl) (by kernel_rfl) (by kernel_rfl) (fun _ _ _ h => h) (Or.inr ⟨by rfl, rfl⟩) hS ?_
      try simp only [Act.put, List.setIfInBounds_toArray, List.set_cons_zero, List.set_cons_succ]
      refine wpAnyH_take (i := 20) (oi := { dst := some 38, op := Op.move (Operand.tmp 0), type := 25, pos := "updater.go:120", after := #[{ on := 10, ground := Ground.guard }], guard := some (10, false) }) (v := undef) rfl (by kernel_rfl) (by kernel_rfl) (by kernel_rfl) (fun _ _ _ h => h) (Or.inr ⟨by rfl, rfl⟩) hS ?_
      try simp only [Act.put, List.setIfInBounds_toArray, List.set_cons_zero, List.set_cons_succ]
      refine wpAnyH_take (i := 21) (oi := { dst := some 39, op := Op.nilCheck (Operand.tmp 38), type := 0, pos := "updater.go:120", after := #[{ on := 20, ground := Ground.data }, { on := 10, ground := Ground.guard }], guard := some (10, false) }) (v := undef) rfl (by kernel_rfl) (by kernel_rfl) (by kernel_rfl) (fun _ _ _ h => h) (Or.inr ⟨by rfl, rfl⟩) hS ?_
      try simp only [Act.put, List.setIfInBounds_toArray, List.set_cons_zero, List.set_cons_succ]
      refine wpAnyH_take (i := 22) (oi := { dst := some 40, op := Op.fieldAddr 77 (Operand.tmp 39) 2, type := 0, pos := "updater.go:120", after := #[{ on := 21, ground := Ground.data }, { on := 10, ground := Ground.guard }], guard := some (10, false) }) (v := undef) rfl (by kernel_rfl) (by kernel_rfl) (by kernel_rfl) (fun _ _ _ h => h) (Or.inr ⟨by rfl, rfl⟩) hS ?_
      try simp only [Act.put, List.setIfInBounds_toArray, List.set_cons_zero, List.set_cons_succ]
      refine wpAnyH_take (i := 23) (oi := { dst := some 41, op := Op.load 3 (Operand.tmp 40), type := 3, pos := "updater.go:120", after := #[{ on := 22, ground := Ground.data }, { on := 10, ground := Ground.guard }], guard := some (10, false) }) (v := undef) rfl (by kernel_rfl) (by kernel_rfl) (by kernel_rfl) (fun _ _ _ h => h) (Or.inr ⟨by rfl, rfl⟩) hS ?_
      try simp only [Act.put, List.setIfInBounds_toArray, List.set_cons_zero, List.set_cons_succ]
      refine wpAnyH_take (i := 24) (oi := { dst := some 42, op := Op.binOp BinOp.mul 3 (Operand.tmp 37) (Operand.tmp 41) 3, type := 3, pos := "updater.go:120", after := #[{ on := 19, ground := Ground.data }, { on := 23, ground := Ground.data }, { on := 10, ground := Ground.guard }], guard := some (10, false) }) (v := undef) rfl (by kernel_rfl) (by kernel_rfl) (by kernel_rfl) (fun _ _ _ h => h) (Or.inr ⟨by rfl, rfl⟩) hS ?_
      try simp only [Act.put, List.setIfInBounds_toArray, List.set_cons_zero, List.set_cons_succ]
      refine wpAnyH_take (i := 25) (oi := { dst := some 43, op := Op.binOp BinOp.sub 3 (Operand.tmp 36) (Operand.tmp 42) 3, type := 3, pos := "updater.go:120", after := #[{ on := 18, ground := Ground.data }, { on := 24, ground := Ground.data }, { on := 10, ground := Ground.guard }], guard := some (10, false) }) (v := undef) rfl (by kernel_rfl) (by kernel_rfl) (by kernel_rfl) (fun _ _ _ h => h) (Or.inr ⟨by rfl, rfl⟩) hS ?_
      try simp only [Act.put, List.setIfInBounds_toArray, List.set_cons_zero, List.set_cons_succ]
      refine wpAnyH_take (i := 26) (oi := { dst := some 44, op := Op.call { callee := Callee.builtin Builtin.min, args := #[Operand.tmp 34, Operand.tmp 43], argTypes := #[3, 3] }, type := 3, pos := "updater.go:120", after := #[{ on := 16, ground := Ground.data }, { on := 25, ground := Ground.data }, { on := 10, ground := Ground.guard }], guard := some (10, false) }) (v := undef) rfl (by kernel_rfl) (by kernel_rfl) (by kernel_rfl) (fun _ _ _ h => h) (Or.inr ⟨by rfl, rfl⟩) hS ?_
      try simp only [Act.put, List.setIfInBounds_toArray, List.set_cons_zero, List.set_cons_succ]
      refine wpAnyH_take (i := 27) (oi := { dst := some 45, op := Op.binOp BinOp.neq 3 (Operand.tmp 30) (Operand.tmp 44) 3, type := 4, pos := "updater.go:120", after := #[{ on := 12, ground := Ground.data }, { on := 26, ground := Ground.data }, { on := 10, ground := Ground.guard }], guard := some (10, false) }) (v := undef) rfl (by kernel_rfl) (by kernel_rfl) (by kernel_rfl) (fun _ _ _ h => h) (Or.inr ⟨by rfl, rfl⟩) hS ?_
      try simp only [Act.put, List.setIfInBounds_toArray, List.set_cons_zero, List.set_cons_succ]
      refine wpAnyH_take (i := 28) (oi := { dst := some 46, op := Op.pick (Operand.tmp 28) (Operand.const (Value.bool true)) (Operand.tmp 45), type := 4, pos := "updater.go:120", after := #[{ on := 10, ground := Ground.data }, { on := 27, ground := Ground.data }], guard := none }) (v := ?_) rfl (by kernel_rfl) (by kernel_rfl) (by kernel_rfl) (fun _ _ _ h => h) (Or.inl ⟨by rfl, ?_⟩) hS ?_
      rotate_left
      · intro W_ hSW_
        have g1_ := blk_cell (blk_below HG.out hSW_) 1
        obtain ⟨x0_, x1_, x2_⟩ := (HM1.out.step hSW_).u
        go_simp
        try with_reducible rfl
      try simp only [Act.put, List.setIfInBounds_toArray, List.set_cons_zero, List.set_cons_succ]
      refine wpAnyH_done (by kernel_rfl) ?_ _
      go_wp2_with fail
      go_ret
      rw [HRt.out]
      exact ⟨rfl, HM1.out.step hS⟩
    · obtain ⟨k, rfl⟩ : ∃ k : Nat, i = (k : Int) := ⟨i.toNat, by omega⟩
      rw [Int.toNat_natCast] at HRs
      clear hi0
      by_cases hkq : k < q
      · have hmul : k * c < l := HNM.out k (by rw [HQ.out]; exact hkq)
        obtain ⟨r, hr⟩ : ∃ r, k * c = r := ⟨_, rfl⟩
        have hri : (k : Int) * (c : Int) = (r : Int) := by rw [← hr]; simp
        have e1 : wrap64 ((k : Int) * (c : Int)) = (r : Int) := by rw [hri]; unfold wrap64; omega
        have e2 : wrap64 ((l : Int) - (r : Int)) = ((l - r : Nat) : Int) := by unfold wrap64; omega
        have hcl : Aside0 (clen l c k = min c (l - r)) := ⟨by unfold clen; rw [hr]⟩
        have f1 : IntKind.i64.wrap (r : Int) = (r : Int) := by rw [IntKind.wrap_i64]; omega
        have f2 : IntKind.i64.wrap ((l : Int) - (r : Int)) = ((l - r : Nat) : Int) := by rw [IntKind.wrap_i64]; omega
        obtain ⟨t, ht⟩ : ∃ t, l - r = t := ⟨_, rfl⟩
        have HTT := Aside0.mk ht
        rw [ht] at e2 f2 hcl
        obtain ⟨m, hm⟩ : ∃ m, min c t = m := ⟨_, rfl⟩
        have hmin : (if (t : Int) < (c : Int) then (t : Int) else (c : Int)) = (m : Int) := by split <;> omega
        have hmin2 : (if t < c then (t : Int) else (c : Int)) = (m : Int) := by split <;> omega
        have hk0 : decide ((k : Int) < 0) = false := decide_eq_false (by omega)
        have hmin3 : (if (c : Int) < (t : Int) then (c : Int) else (t : Int)) = (m : Int) := by split <;> omega
        rw [hm] at hcl
        have HMM := Aside0.mk hm
        clear ht hm
        have HRR := Aside0.mk hr
        have hkq1 : ¬ q ≤ k := by omega
        have hkq2 : ¬ (q : Int) ≤ (k : Int) := by omega
        have HMUL := Aside0.mk hmul
        clear hr hmul
        go_wp2_with fail
        rw [← hW1, ← hg7]
        clear hW1 hg7
        refine wp_region_held_drew (S := fun W => Below W1.heap.size W1 W) (by kernel_rfl) (below_drew1 (Below.refl _ _)) (fun hS => ?_)
        refine wpAnyH_take (i := 0) (oi := { dst := some 18, op := Op.move (Operand.tmp 1), type := 3, pos := "updater.go:120", after := #[], guard := none }) (v := ?_) rfl (by kernel_rfl) (by kernel_rfl) (by kernel_rfl) (fun _ _ _ h => h) (Or.inl ⟨by rfl, ?_⟩) hS ?_
        rotate_left
        · intro W_ hSW_
          have g1_ := blk_cell (blk_below HG.out hSW_) 1
          obtain ⟨x0_, x1_, x2_⟩ := (HM1.out.step hSW_).u
          go_simp
          try with_reducible rfl
        try simp only [Act.put, List.setIfInBounds_toArray, List.set_cons_zero, List.set_cons_succ]
        refine wpAnyH_take (i := 1) (oi := { dst := some 19, op := Op.binOp BinOp.lss 3 (Operand.tmp 18) (Operand.const (Value.int IntKind.i64 0)) 3, type := 4, pos := "updater.go:120", after := #[{ on := 0, ground := Ground.data }], guard := none }) (v := ?_) rfl (by kernel_rfl) (by kernel_rfl) (by kernel_rfl) (fun _ _ _ h => h) (Or.inl ⟨by rfl, ?_⟩) hS ?_
        rotate_left
        · intro W_ hSW_
          have g1_ := blk_cell (blk_below HG.out hSW_) 1
          obtain ⟨x0_, x1_, x2_⟩ := (HM1.out.step hSW_).u
          go_simp
          try with_reducible rfl
        try simp only [Act.put, List.setIfInBounds_toArray, List.set_cons_zero, List.set_cons_succ]
        refine wpAnyH_take (i := 2) (oi := { dst := some 20, op := Op.move (Operand.tmp 19), type := 4, pos := "updater.go:120", after := #[{ on := 1, ground := Ground.data }], guard := none }) (v := ?_) rfl (by kernel_rfl) (by kernel_rfl) (by kernel_rfl) (fun _ _ _ h => h) (Or.inl ⟨by rfl, ?_⟩) hS ?_
        rotate_left
        · intro W_ hSW_
          have g1_ := blk_cell (blk_below HG.out hSW_) 1
          obtain ⟨x0_, x1_, x2_⟩ := (HM1.out.step hSW_).u
          go_simp
          try with_reducible rfl
        try simp only [Act.put, List.setIfInBounds_toArray, List.set_cons_zero, List.set_cons_succ]
        refine wpAnyH_take (i := 3) (oi := { dst := some 21, op := Op.move (Operand.tmp 1), type := 3, pos := "updater.go:120", after := #[{ on := 2, ground := Ground.guard }], guard := some (2, false) }) (v := ?_) rfl (by kernel_rfl) (by kernel_rfl) (by kernel_rfl) (fun _ _ _ h => h) (Or.inl ⟨by rfl, ?_⟩) hS ?_
        rotate_left
        · intro W_ hSW_
          have g1_ := blk_cell (blk_below HG.out hSW_) 1
          obtain ⟨x0_, x1_, x2_⟩ := (HM1.out.step hSW_).u
          go_simp
          try with_reducible rfl
        try simp only [Act.put, List.setIfInBounds_toArray, List.set_cons_zero, List.set_cons_succ]
        refine wpAnyH_take (i := 4) (oi := { dst := some 22, op := Op.move (Operand.tmp 0), type := 25, pos := "updater.go:120", after := #[{ on := 2, ground := Ground.guard }], guard := some (2, false) }) (v := ?_) rfl (by kernel_rfl) (by kernel_rfl) (by kernel_rfl) (fun _ _ _ h => h) (Or.inl ⟨by rfl, ?_⟩) hS ?_
        rotate_left
        · intro W_ hSW_
          have g1_ := blk_cell (blk_below HG.out hSW_) 1
          obtain ⟨x0_, x1_, x2_⟩ := (HM1.out.step hSW_).u
          go_simp
          try with_reducible rfl
        try simp only [Act.put, List.setIfInBounds_toArray, List.set_cons_zero, List.set_cons_succ]
        refine wpAnyH_take (i := 5) (oi := { dst := some 23, op := Op.fieldAddr 71 (Operand.tmp 7) 1, type := 0, pos := "updater.go:120", after := #[{ on := 2, ground := Ground.guard }], guard := some (2, false) }) (v := ?_) rfl (by kernel_rfl) (by kernel_rfl) (by kernel_rfl) (fun _ _ _ h => h) (Or.inl ⟨by rfl, ?_⟩) hS ?_
        rotate_left
        · intro W_ hSW_
          have g1_ := blk_cell (blk_below HG.out hSW_) 1
          obtain ⟨x0_, x1_, x2_⟩ := (HM1.out.step hSW_).u
          go_simp
          try with_reducible rfl
        try simp only [Act.put, List.setIfInBounds_toArray, List.set_cons_zero, List.set_cons_succ]
        refine wpAnyH_take (i := 6) (oi := { dst := some 24, op := Op.load 3 (Operand.tmp 23), type := 3, pos := "updater.go:120", after := #[{ on := 5, ground := Ground.data }, { on := 2, ground := Ground.guard }], guard := some (2, false) }) (v := ?_) rfl (by kernel_rfl) (by kernel_rfl) (by kernel_rfl) (fun _ _ _ h => h) (Or.inl ⟨by rfl, ?_⟩) hS ?_
        rotate_left
        · intro W_ hSW_
          have g1_ := blk_cell (blk_below HG.out hSW_) 1
          obtain ⟨x0_, x1_, x2_⟩ := (HM1.out.step hSW_).u
          go_simp
          try with_reducible rfl
        try simp only [Act.put, List.setIfInBounds_toArray, List.set_cons_zero, List.set_cons_succ]
        refine wpAnyH_ready (rs := [7]) (by kernel_rfl) (by simp) ?_
        refine AllReadyH.cons (o := { dst := some 25, op := Op.call { callee := Callee.value (Operand.func 36), args := #[Operand.tmp 22, Operand.tmp 24], argTypes := #[25, 3] }, type := 3, pos := "updater.go:120", after := #[{ on := 4, ground := Ground.data }, { on := 6, ground := Ground.data }, { on := 2, ground := Ground.chain }, { on := 2, ground := Ground.guard }], guard := some (2, false) }) rfl (fun K_ hK_ => ?_) AllReadyH.nil
        go_simp
        refine (HK.out _ (HM1.out.step hS)).mono ?_
        rintro e w_ ⟨rfl, hb_⟩
        have HB_ := Aside0.mk (below_step hS hb_)
        clear hb_
        refine hK_.out _ _ (HB_.out) (fun hS_ => ?_)
        clear hK_ K_ hS
        have hS := hS_
        clear hS_
        try simp only [Act.put, List.setIfInBounds_toArray, List.set_cons_zero, List.set_cons_succ]
        refine wpAnyH_take (i := 8) (oi := { dst := some 26, op := Op.binOp BinOp.geq 3 (Operand.tmp 21) (Operand.tmp 25) 3, type := 4, pos := "updater.go:120", after := #[{ on := 3, ground := Ground.data }, { on := 7, ground := Ground.data }, { on := 2, ground := Ground.guard }], guard := some (2, false) }) (v := ?_) rfl (by kernel_rfl) (by kernel_rfl) (by kernel_rfl) (fun _ _ _ h => h) (Or.inl ⟨by rfl, ?_⟩) hS ?_
        rotate_left
        · intro W_ hSW_
          have g1_ := blk_cell (blk_below HG.out hSW_) 1
          obtain ⟨x0_, x1_, x2_⟩ := (HM1.out.step hSW_).u
          go_simp
          try with_reducible rfl
        try simp only [Act.put, List.setIfInBounds_toArray, List.set_cons_zero, List.set_cons_succ]
        refine wpAnyH_take (i := 9) (oi := { dst := some 27, op := Op.pick (Operand.tmp 20) (Operand.const (Value.bool true)) (Operand.tmp 26), type := 4, pos := "updater.go:120", after := #[{ on := 2, ground := Ground.data }, { on := 8, ground := Ground.data }], guard := none }) (v := ?_) rfl (by kernel_rfl) (by kernel_rfl) (by kernel_rfl) (fun _ _ _ h => h) (Or.inl ⟨by rfl, ?_⟩) hS ?_
        rotate_left
        · intro W_ hSW_
          have g1_ := blk_cell (blk_below HG.out hSW_) 1
          obtain ⟨x0_, x1_, x2_⟩ := (HM1.out.step hSW_).u
          go_simp
          try with_reducible rfl
        try simp only [Act.put, List.setIfInBounds_toArray, List.set_cons_zero, List.set_cons_succ]
        refine wpAnyH_take (i := 10) (oi := { dst := some 28, op := Op.move (Operand.tmp 27), type := 4, pos := "updater.go:120", after := #[{ on := 9, ground := Ground.data }, { on := 7, ground := Ground.chain }], guard := none }) (v := ?_) rfl (by kernel_rfl) (by kernel_rfl) (by kernel_rfl) (fun _ _ _ h => h) (Or.inl ⟨by rfl, ?_⟩) hS ?_
        rotate_left
        · intro W_ hSW_
          have g1_ := blk_cell (blk_below HG.out hSW_) 1
          obtain ⟨x0_, x1_, x2_⟩ := (HM1.out.step hSW_).u
          go_simp
          try with_reducible rfl
        try simp only [Act.put, List.setIfInBounds_toArray, List.set_cons_zero, List.set_cons_succ]
        refine wpAnyH_take (i := 11) (oi := { dst := some 29, op := Op.move (Operand.tmp 2), type := 22, pos := "updater.go:120", after := #[{ on := 10, ground := Ground.guard }], guard := some (10, false) }) (v := ?_) rfl (by kernel_rfl) (by kernel_rfl) (by kernel_rfl) (fun _ _ _ h => h) (Or.inl ⟨by rfl, ?_⟩) hS ?_
        rotate_left
        · intro W_ hSW_
          have g1_ := blk_cell (blk_below HG.out hSW_) 1
          obtain ⟨x0_, x1_, x2_⟩ := (HM1.out.step hSW_).u
          go_simp
          try with_reducible rfl
        try simp only [Act.put, List.setIfInBounds_toArray, List.set_cons_zero, List.set_cons_succ]
        refine wpAnyH_take (i := 12) (oi := { dst := some 30, op := Op.call { callee := Callee.builtin Builtin.len, args := #[Operand.tmp 29], argTypes := #[22] }, type := 3, pos := "updater.go:120", after := #[{ on := 11, ground := Ground.data }, { on := 10, ground := Ground.guard }], guard := some (10, false) }) (v := ?_) rfl (by kernel_rfl) (by kernel_rfl) (by kernel_rfl) (fun _ _ _ h => h) (Or.inl ⟨by rfl, ?_⟩) hS ?_
        rotate_left
        · intro W_ hSW_
          have g1_ := blk_cell (blk_below HG.out hSW_) 1
          obtain ⟨x0_, x1_, x2_⟩ := (HM1.out.step hSW_).u
          go_simp
          try with_reducible rfl
        try simp only [Act.put, List.setIfInBounds_toArray, List.set_cons_zero, List.set_cons_succ]
        refine wpAnyH_take (i := 13) (oi := { dst := some 31, op := Op.move (Operand.tmp 0), type := 25, pos := "updater.go:120", after := #[{ on := 10, ground := Ground.guard }], guard := some (10, false) }) (v := ?_) rfl (by kernel_rfl) (by kernel_rfl) (by kernel_rfl) (fun _ _ _ h => h) (Or.inl ⟨by rfl, ?_⟩) hS ?_
        rotate_left
        · intro W_ hSW_
          have g1_ := blk_cell (blk_below HG.out hSW_) 1
          obtain ⟨x0_, x1_, x2_⟩ := (HM1.out.step hSW_).u
          go_simp
          try with_reducible rfl
        try simp only [Act.put, List.setIfInBounds_toArray, List.set_cons_zero, List.set_cons_succ]
        refine wpAnyH_take (i := 14) (oi := { dst := some 32, op := Op.nilCheck (Operand.tmp 31), type := 0, pos := "updater.go:120", after := #[{ on := 13, ground := Ground.data }, { on := 10, ground := Ground.guard }], guard := some (10, false) }) (v := ?_) rfl (by kernel_rfl) (by kernel_rfl) (by kernel_rfl) (fun _ _ _ h => h) (Or.inl ⟨by rfl, ?_⟩) hS ?_
        rotate_left
        · intro W_ hSW_
          have g1_ := blk_cell (blk_below HG.out hSW_) 1
          obtain ⟨x0_, x1_, x2_⟩ := (HM1.out.step hSW_).u
          go_simp
          try with_reducible rfl
        try simp only [Act.put, List.setIfInBounds_toArray, List.set_cons_zero, List.set_cons_succ]
        refine wpAnyH_take (i := 15) (oi := { dst := some 33, op := Op.fieldAddr 77 (Operand.tmp 32) 2, type := 0, pos := "updater.go:120", after := #[{ on := 14, ground := Ground.data }, { on := 10, ground := Ground.guard }], guard := some (10, false) }) (v := ?_) rfl (by kernel_rfl) (by kernel_rfl) (by kernel_rfl) (fun _ _ _ h => h) (Or.inl ⟨by rfl, ?_⟩) hS ?_
        rotate_left
        · intro W_ hSW_
          have g1_ := blk_cell (blk_below HG.out hSW_) 1
          obtain ⟨x0_, x1_, x2_⟩ := (HM1.out.step hSW_).u
          go_simp
          try with_reducible rfl
        try simp only [Act.put, List.setIfInBounds_toArray, List.set_cons_zero, List.set_cons_succ]
        refine wpAnyH_take (i := 16) (oi := { dst := some 34, op := Op.load 3 (Operand.tmp 33), type := 3, pos := "updater.go:120", after := #[{ on := 15, ground := Ground.data }, { on := 10, ground := Ground.guard }], guard := some (10, false) }) (v := ?_) rfl (by kernel_rfl) (by kernel_rfl) (by kernel_rfl) (fun _ _ _ h => h) (Or.inl ⟨by rfl, ?_⟩) hS ?_
        rotate_left
        · intro W_ hSW_
          have g1_ := blk_cell (blk_below HG.out hSW_) 1
          obtain ⟨x0_, x1_, x2_⟩ := (HM1.out.step hSW_).u
          go_simp
          try with_reducible rfl
        try simp only [Act.put, List.setIfInBounds_toArray, List.set_cons_zero, List.set_cons_succ]
        refine wpAnyH_take (i := 17) (oi := { dst := some 35, op := Op.fieldAddr 71 (Operand.tmp 7) 1, type := 0, pos := "updater.go:120", after := #[{ on := 10, ground := Ground.guard }], guard := some (10, false) }) (v := ?_) rfl (by kernel_rfl) (by kernel_rfl) (by kernel_rfl) (fun _ _ _ h => h) (Or.inl ⟨by rfl, ?_⟩) hS ?_
        rotate_left
        · intro W_ hSW_
          have g1_ := blk_cell (blk_below HG.out hSW_) 1
          obtain ⟨x0_, x1_, x2_⟩ := (HM1.out.step hSW_).u
          go_simp
          try with_reducible rfl
        try simp only [Act.put, List.setIfInBounds_toArray, List.set_cons_zero, List.set_cons_succ]
        refine wpAnyH_take (i := 18) (oi := { dst := some 36, op := Op.load 3 (Operand.tmp 35), type := 3, pos := "updater.go:120", after := #[{ on := 17, ground := Ground.data }, { on := 10, ground := Ground.guard }], guard := some (10, false) }) (v := ?_) rfl (by kernel_rfl) (by kernel_rfl) (by kernel_rfl) (fun _ _ _ h => h) (Or.inl ⟨by rfl, ?_⟩) hS ?_
        rotate_left
        · intro W_ hSW_
          have g1_ := blk_cell (blk_below HG.out hSW_) 1
          obtain ⟨x0_, x1_, x2_⟩ := (HM1.out.step hSW_).u
          go_simp
          try with_reducible rfl
        try simp only [Act.put, List.setIfInBounds_toArray, List.set_cons_zero, List.set_cons_succ]
        refine wpAnyH_take (i := 19) (oi := { dst := some 37, op := Op.move (Operand.tmp 1), type := 3, pos := "updater.go:120", after := #[{ on := 10, ground := Ground.guard }], guard := some (10, false) }) (v := ?_) rfl (by kernel_rfl) (by kernel_rfl) (by kernel_rfl) (fun _ _ _ h => h) (Or.inl ⟨by rfl, ?_⟩) hS ?_
        rotate_left
        · intro W_ hSW_
          have g1_ := blk_cell (blk_below HG.out hSW_) 1
          obtain ⟨x0_, x1_, x2_⟩ := (HM1.out.step hSW_).u
          go_simp
          try with_reducible rfl
        try simp only [Act.put, List.setIfInBounds_toArray, List.set_cons_zero, List.set_cons_succ]
        refine wpAnyH_take (i := 20) (oi := { dst := some 38, op := Op.move (Operand.tmp 0), type := 25, pos := "updater.go:120", after := #[{ on := 10, ground := Ground.guard }], guard := some (10, false) }) (v := ?_) rfl (by kernel_rfl) (by kernel_rfl) (by kernel_rfl) (fun _ _ _ h => h) (Or.inl ⟨by rfl, ?_⟩) hS ?_
        rotate_left
        · intro W_ hSW_
          have g1_ := blk_cell (blk_below HG.out hSW_) 1
          obtain ⟨x0_, x1_, x2_⟩ := (HM1.out.step hSW_).u
          go_simp
          try with_reducible rfl
        try simp only [Act.put, List.setIfInBounds_toArray, List.set_cons_zero, List.set_cons_succ]
        refine wpAnyH_take (i := 21) (oi := { dst := some 39, op := Op.nilCheck (Operand.tmp 38), type := 0, pos := "updater.go:120", after := #[{ on := 20, ground := Ground.data }, { on := 10, ground := Ground.guard }], guard := some (10, false) }) (v := ?_) rfl (by kernel_rfl) (by kernel_rfl) (by kernel_rfl) (fun _ _ _ h => h) (Or.inl ⟨by rfl, ?_⟩) hS ?_
        rotate_left
        · intro W_ hSW_
          have g1_ := blk_cell (blk_below HG.out hSW_) 1
          obtain ⟨x0_, x1_, x2_⟩ := (HM1.out.step hSW_).u
          go_simp
          try with_reducible rfl
        try simp only [Act.put, List.setIfInBounds_toArray, List.set_cons_zero, List.set_cons_succ]
        refine wpAnyH_take (i := 22) (oi := { dst := some 40, op := Op.fieldAddr 77 (Operand.tmp 39) 2, type := 0, pos := "updater.go:120", after := #[{ on := 21, ground := Ground.data }, { on := 10, ground := Ground.guard }], guard := some (10, false) }) (v := ?_) rfl (by kernel_rfl) (by kernel_rfl) (by kernel_rfl) (fun _ _ _ h => h) (Or.inl ⟨by rfl, ?_⟩) hS ?_
        rotate_left
        · intro W_ hSW_
          have g1_ := blk_cell (blk_below HG.out hSW_) 1
          obtain ⟨x0_, x1_, x2_⟩ := (HM1.out.step hSW_).u
          go_simp
          try with_reducible rfl
        try simp only [Act.put, List.setIfInBounds_toArray, List.set_cons_zero, List.set_cons_succ]
        refine wpAnyH_take (i := 23) (oi := { dst := some 41, op := Op.load 3 (Operand.tmp 40), type := 3, pos := "updater.go:120", after := #[{ on := 22, ground := Ground.data }, { on := 10, ground := Ground.guard }], guard := some (10, false) }) (v := ?_) rfl (by kernel_rfl) (by kernel_rfl) (by kernel_rfl) (fun _ _ _ h => h) (Or.inl ⟨by rfl, ?_⟩) hS ?_
        rotate_left
        · intro W_ hSW_
          have g1_ := blk_cell (blk_below HG.out hSW_) 1
          obtain ⟨x0_, x1_, x2_⟩ := (HM1.out.step hSW_).u
          go_simp
          try with_reducible rfl
        try simp only [Act.put, List.setIfInBounds_toArray, List.set_cons_zero, List.set_cons_succ]
        refine wpAnyH_take (i := 24) (oi := { dst := some 42, op := Op.binOp BinOp.mul 3 (Operand.tmp 37) (Operand.tmp 41) 3, type := 3, pos := "updater.go:120", after := #[{ on := 19, ground := Ground.data }, { on := 23, ground := Ground.data }, { on := 10, ground := Ground.guard }], guard := some (10, false) }) (v := ?_) rfl (by kernel_rfl) (by kernel_rfl) (by kernel_rfl) (fun _ _ _ h => h) (Or.inl ⟨by rfl, ?_⟩) hS ?_
        rotate_left
        · intro W_ hSW_
          have g1_ := blk_cell (blk_below HG.out hSW_) 1
          obtain ⟨x0_, x1_, x2_⟩ := (HM1.out.step hSW_).u
          go_simp
          try with_reducible rfl
        try simp only [Act.put, List.setIfInBounds_toArray, List.set_cons_zero, List.set_cons_succ]
        refine wpAnyH_take (i := 25) (oi := { dst := some 43, op := Op.binOp BinOp.sub 3 (Operand.tmp 36) (Operand.tmp 42) 3, type := 3, pos := "updater.go:120", after := #[{ on := 18, ground := Ground.data }, { on := 24, ground := Ground.data }, { on := 10, ground := Ground.guard }], guard := some (10, false) }) (v := ?_) rfl (by kernel_rfl) (by kernel_rfl) (by kernel_rfl) (fun _ _ _ h => h) (Or.inl ⟨by rfl, ?_⟩) hS ?_
        rotate_left
        · intro W_ hSW_
          have g1_ := blk_cell (blk_below HG.out hSW_) 1
          obtain ⟨x0_, x1_, x2_⟩ := (HM1.out.step hSW_).u
          go_simp
          try with_reducible rfl
        try simp only [Act.put, List.setIfInBounds_toArray, List.set_cons_zero, List.set_cons_succ]
        refine wpAnyH_take (i := 26) (oi := { dst := some 44, op := Op.call { callee := Callee.builtin Builtin.min, args := #[Operand.tmp 34, Operand.tmp 43], argTypes := #[3, 3] }, type := 3, pos := "updater.go:120", after := #[{ on := 16, ground := Ground.data }, { on := 25, ground := Ground.data }, { on := 10, ground := Ground.guard }], guard := some (10, false) }) (v := ?_) rfl (by kernel_rfl) (by kernel_rfl) (by kernel_rfl) (fun _ _ _ h => h) (Or.inl ⟨by rfl, ?_⟩) hS ?_
        rotate_left
        · intro W_ hSW_
          have g1_ := blk_cell (blk_below HG.out hSW_) 1
          obtain ⟨x0_, x1_, x2_⟩ := (HM1.out.step hSW_).u
          go_simp
          try with_reducible rfl
        try simp only [Act.put, List.setIfInBounds_toArray, List.set_cons_zero, List.set_cons_succ]
        refine wpAnyH_take (i := 27) (oi := { dst := some 45, op := Op.binOp BinOp.neq 3 (Operand.tmp 30) (Operand.tmp 44) 3, type := 4, pos := "updater.go:120", after := #[{ on := 12, ground := Ground.data }, { on := 26, ground := Ground.data }, { on := 10, ground := Ground.guard }], guard := some (10, false) }) (v := ?_) rfl (by kernel_rfl) (by kernel_rfl) (by kernel_rfl) (fun _ _ _ h => h) (Or.inl ⟨by rfl, ?_⟩) hS ?_
        rotate_left
        · intro W_ hSW_
          have g1_ := blk_cell (blk_below HG.out hSW_) 1
          obtain ⟨x0_, x1_, x2_⟩ := (HM1.out.step hSW_).u
          go_simp
          try with_reducible rfl
        try simp only [Act.put, List.setIfInBounds_toArray, List.set_cons_zero, List.set_cons_succ]
        refine wpAnyH_take (i := 28) (oi := { dst := some 46, op := Op.pick (Operand.tmp 28) (Operand.const (Value.bool true)) (Operand.tmp 45), type := 4, pos := "updater.go:120", after := #[{ on := 10, ground := Ground.data }, { on := 27, ground := Ground.data }], guard := none }) (v := ?_) rfl (by kernel_rfl) (by kernel_rfl) (by kernel_rfl) (fun _ _ _ h => h) (Or.inl ⟨by rfl, ?_⟩) hS ?_
        rotate_left
        · intro W_ hSW_
          have g1_ := blk_cell (blk_below HG.out hSW_) 1
          obtain ⟨x0_, x1_, x2_⟩ := (HM1.out.step hSW_).u
          go_simp
          try with_reducible rfl
        try simp only [Act.put, List.setIfInBounds_toArray, List.set_cons_zero, List.set_cons_succ]
        refine wpAnyH_done (by kernel_rfl) ?_ _
        have HMS := Aside0.mk (HM1.out.step hS)
        clear hS
        by_cases hnm : n = m
        · have hnb : ((n : Int) != (m : Int)) = false := by simp [hnm]
          have HRu := Aside0.mk (HRs.out.trans (if_neg (by
            rintro (h | h | h)
            · omega
            · omega
            · exact h (by rw [HL.out, hcl.out, hnm]))))
          have HST := Aside0.mk (stored_call HMS.out HN.out k (by omega))
          have HNM2 := Aside0.mk hnm
          clear hnm
          cases hst : d.st k with
          | true =>
            have HRt := Aside0.mk (HRu.out.trans (if_pos hst))
            rw [hst] at HST
            clear hst
            go_wp2_with fail
            refine HST.out.mono ?_
            rintro e w3 ⟨rfl, hb⟩
            have HB3 := Aside0.mk hb
            clear hb
            go_wp2_with fail
            go_ret
            rw [HRt.out]
            exact ⟨rfl, HMS.out.step HB3.out⟩
          | false =>
            have HRt := Aside0.mk (HRu.out.trans (if_neg (by rw [hst]; simp)))
            rw [hst] at HST
            clear hst
            go_wp2_with fail
            refine HST.out.mono ?_
            rintro e w3 ⟨rfl, hb⟩
            have HM3 := Aside0.mk (HMS.out.step hb)
            clear hb HST HMS
            obtain ⟨x0, x1, x2⟩ := HM3.out.u
            obtain ⟨b1, b2, e5⟩ := wb_bound HSL.out HMUL.out HRR.out HTT.out HMM.out HNM2.out HL.out hl3 HN.out
            have HWB := Aside0.mk (WriteBytes_call (c := cp) HM3.out.drew' (sl + r) HX.out HXB.out b1 b2)
            rw [HL.out] at HWB
            have HX3 := Aside0.mk HM3.out.drew'.u
            clear x0 x1 x2 b1 b2
            go_wp2_with fail
            refine wp_region_held_drew (S := fun W => W.cell? ⟨gu, 0, none⟩ = some (.pointer (some ⟨gm, 0, none⟩)) ∧ W.cell? ⟨gu, 1, none⟩ = some (.int .i64 (sl : Int)) ∧ W.cell? ⟨gu, 2, none⟩ = some (.int .i64 (c : Int))) (by kernel_rfl) HX3.out (fun hS => ?_)
            refine wpAnyH_take (i := 0) (oi := { dst := some 50, op := Op.move (Operand.tmp 0), type := 25, pos := "updater.go:126", after := #[], guard := none }) (v := ?_) rfl (by kernel_rfl) (by kernel_rfl) (by kernel_rfl) (fun _ _ _ h => h) (Or.inl ⟨by rfl, ?_⟩) hS ?_
            rotate_left
            · intro W_ hSW_
              obtain ⟨x0_, x1_, x2_⟩ := hSW_
              go_simp
              try with_reducible rfl
            try simp only [Act.put, List.setIfInBounds_toArray, List.set_cons_zero, List.set_cons_succ]
            refine wpAnyH_take (i := 1) (oi := { dst := some 51, op := Op.nilCheck (Operand.tmp 50), type := 0, pos := "updater.go:126", after := #[{ on := 0, ground := Ground.data }], guard := none }) (v := ?_) rfl (by kernel_rfl) (by kernel_rfl) (by kernel_rfl) (fun _ _ _ h => h) (Or.inl ⟨by rfl, ?_⟩) hS ?_
            rotate_left
            · intro W_ hSW_
              obtain ⟨x0_, x1_, x2_⟩ := hSW_
              go_simp
              try with_reducible rfl
            try simp only [Act.put, List.setIfInBounds_toArray, List.set_cons_zero, List.set_cons_succ]
            refine wpAnyH_take (i := 2) (oi := { dst := some 52, op := Op.fieldAddr 77 (Operand.tmp 51) 0, type := 0, pos := "updater.go:126", after := #[{ on := 1, ground := Ground.data }], guard := none }) (v := ?_) rfl (by kernel_rfl) (by kernel_rfl) (by kernel_rfl) (fun _ _ _ h => h) (Or.inl ⟨by rfl, ?_⟩) hS ?_
            rotate_left
            · intro W_ hSW_
              obtain ⟨x0_, x1_, x2_⟩ := hSW_
              go_simp
              try with_reducible rfl
            try simp only [Act.put, List.setIfInBounds_toArray, List.set_cons_zero, List.set_cons_succ]
            refine wpAnyH_take (i := 3) (oi := { dst := some 53, op := Op.load 24 (Operand.tmp 52), type := 24, pos := "updater.go:126", after := #[{ on := 2, ground := Ground.data }], guard := none }) (v := ?_) rfl (by kernel_rfl) (by kernel_rfl) (by kernel_rfl) (fun _ _ _ h => h) (Or.inl ⟨by rfl, ?_⟩) hS ?_
            rotate_left
            · intro W_ hSW_
              obtain ⟨x0_, x1_, x2_⟩ := hSW_
              go_simp
              try with_reducible rfl
            try simp only [Act.put, List.setIfInBounds_toArray, List.set_cons_zero, List.set_cons_succ]
            refine wpAnyH_take (i := 4) (oi := { dst := some 54, op := Op.move (Operand.tmp 0), type := 25, pos := "updater.go:126", after := #[], guard := none }) (v := ?_) rfl (by kernel_rfl) (by kernel_rfl) (by kernel_rfl) (fun _ _ _ h => h) (Or.inl ⟨by rfl, ?_⟩) hS ?_
            rotate_left
            · intro W_ hSW_
              obtain ⟨x0_, x1_, x2_⟩ := hSW_
              go_simp
              try with_reducible rfl
            try simp only [Act.put, List.setIfInBounds_toArray, List.set_cons_zero, List.set_cons_succ]
            refine wpAnyH_take (i := 5) (oi := { dst := some 55, op := Op.nilCheck (Operand.tmp 54), type := 0, pos := "updater.go:126", after := #[{ on := 4, ground := Ground.data }], guard := none }) (v := ?_) rfl (by kernel_rfl) (by kernel_rfl) (by kernel_rfl) (fun _ _ _ h => h) (Or.inl ⟨by rfl, ?_⟩) hS ?_
            rotate_left
            · intro W_ hSW_
              obtain ⟨x0_, x1_, x2_⟩ := hSW_
              go_simp
              try with_reducible rfl
            try simp only [Act.put, List.setIfInBounds_toArray, List.set_cons_zero, List.set_cons_succ]
            refine wpAnyH_take (i := 6) (oi := { dst := some 56, op := Op.fieldAddr 77 (Operand.tmp 55) 1, type := 0, pos := "updater.go:126", after := #[{ on := 5, ground := Ground.data }], guard := none }) (v := ?_) rfl (by kernel_rfl) (by kernel_rfl) (by kernel_rfl) (fun _ _ _ h => h) (Or.inl ⟨by rfl, ?_⟩) hS ?_
            rotate_left
            · intro W_ hSW_
              obtain ⟨x0_, x1_, x2_⟩ := hSW_
              go_simp
              try with_reducible rfl
            try simp only [Act.put, List.setIfInBounds_toArray, List.set_cons_zero, List.set_cons_succ]
            refine wpAnyH_take (i := 7) (oi := { dst := some 57, op := Op.load 3 (Operand.tmp 56), type := 3, pos := "updater.go:126", after := #[{ on := 6, ground := Ground.data }], guard := none }) (v := ?_) rfl (by kernel_rfl) (by kernel_rfl) (by kernel_rfl) (fun _ _ _ h => h) (Or.inl ⟨by rfl, ?_⟩) hS ?_
            rotate_left
            · intro W_ hSW_
              obtain ⟨x0_, x1_, x2_⟩ := hSW_
              go_simp
              try with_reducible rfl
            try simp only [Act.put, List.setIfInBounds_toArray, List.set_cons_zero, List.set_cons_succ]
            refine wpAnyH_take (i := 8) (oi := { dst := some 58, op := Op.move (Operand.tmp 1), type := 3, pos := "updater.go:126", after := #[], guard := none }) (v := ?_) rfl (by kernel_rfl) (by kernel_rfl) (by kernel_rfl) (fun _ _ _ h => h) (Or.inl ⟨by rfl, ?_⟩) hS ?_
            rotate_left
            · intro W_ hSW_
              obtain ⟨x0_, x1_, x2_⟩ := hSW_
              go_simp
              try with_reducible rfl
            try simp only [Act.put, List.setIfInBounds_toArray, List.set_cons_zero, List.set_cons_succ]
            refine wpAnyH_take (i := 9) (oi := { dst := some 59, op := Op.move (Operand.tmp 0), type := 25, pos := "updater.go:126", after := #[], guard := none }) (v := ?_) rfl (by kernel_rfl) (by kernel_rfl) (by kernel_rfl) (fun _ _ _ h => h) (Or.inl ⟨by rfl, ?_⟩) hS ?_
            rotate_left
            · intro W_ hSW_
              obtain ⟨x0_, x1_, x2_⟩ := hSW_
              go_simp
              try with_reducible rfl
            try simp only [Act.put, List.setIfInBounds_toArray, List.set_cons_zero, List.set_cons_succ]
            refine wpAnyH_take (i := 10) (oi := { dst := some 60, op := Op.nilCheck (Operand.tmp 59), type := 0, pos := "updater.go:126", after := #[{ on := 9, ground := Ground.data }], guard := none }) (v := ?_) rfl (by kernel_rfl) (by kernel_rfl) (by kernel_rfl) (fun _ _ _ h => h) (Or.inl ⟨by rfl, ?_⟩) hS ?_
            rotate_left
            · intro W_ hSW_
              obtain ⟨x0_, x1_, x2_⟩ := hSW_
              go_simp
              try with_reducible rfl
            try simp only [Act.put, List.setIfInBounds_toArray, List.set_cons_zero, List.set_cons_succ]
            refine wpAnyH_take (i := 11) (oi := { dst := some 61, op := Op.fieldAddr 77 (Operand.tmp 60) 2, type := 0, pos := "updater.go:126", after := #[{ on := 10, ground := Ground.data }], guard := none }) (v := ?_) rfl (by kernel_rfl) (by kernel_rfl) (by kernel_rfl) (fun _ _ _ h => h) (Or.inl ⟨by rfl, ?_⟩) hS ?_
            rotate_left
            · intro W_ hSW_
              obtain ⟨x0_, x1_, x2_⟩ := hSW_
              go_simp
              try with_reducible rfl
            try simp only [Act.put, List.setIfInBounds_toArray, List.set_cons_zero, List.set_cons_succ]
            refine wpAnyH_take (i := 12) (oi := { dst := some 62, op := Op.load 3 (Operand.tmp 61), type := 3, pos := "updater.go:126", after := #[{ on := 11, ground := Ground.data }], guard := none }) (v := ?_) rfl (by kernel_rfl) (by kernel_rfl) (by kernel_rfl) (fun _ _ _ h => h) (Or.inl ⟨by rfl, ?_⟩) hS ?_
            rotate_left
            · intro W_ hSW_
              obtain ⟨x0_, x1_, x2_⟩ := hSW_
              go_simp
              try with_reducible rfl
            try simp only [Act.put, List.setIfInBounds_toArray, List.set_cons_zero, List.set_cons_succ]
            refine wpAnyH_take (i := 13) (oi := { dst := some 63, op := Op.binOp BinOp.mul 3 (Operand.tmp 58) (Operand.tmp 62) 3, type := 3, pos := "updater.go:126", after := #[{ on := 8, ground := Ground.data }, { on := 12, ground := Ground.data }], guard := none }) (v := ?_) rfl (by kernel_rfl) (by kernel_rfl) (by kernel_rfl) (fun _ _ _ h => h) (Or.inl ⟨by rfl, ?_⟩) hS ?_
            rotate_left
            · intro W_ hSW_
              obtain ⟨x0_, x1_, x2_⟩ := hSW_
              go_simp
              try with_reducible rfl
            try simp only [Act.put, List.setIfInBounds_toArray, List.set_cons_zero, List.set_cons_succ]
            refine wpAnyH_take (i := 14) (oi := { dst := some 64, op := Op.binOp BinOp.add 3 (Operand.tmp 57) (Operand.tmp 63) 3, type := 3, pos := "updater.go:126", after := #[{ on := 7, ground := Ground.data }, { on := 13, ground := Ground.data }], guard := none }) (v := ?_) rfl (by kernel_rfl) (by kernel_rfl) (by kernel_rfl) (fun _ _ _ h => h) (Or.inl ⟨by rfl, ?_⟩) hS ?_
            rotate_left
            · intro W_ hSW_
              obtain ⟨x0_, x1_, x2_⟩ := hSW_
              go_simp
              try with_reducible rfl
            try simp only [Act.put, List.setIfInBounds_toArray, List.set_cons_zero, List.set_cons_succ]
            refine wpAnyH_take (i := 15) (oi := { dst := some 65, op := Op.move (Operand.tmp 2), type := 22, pos := "updater.go:126", after := #[], guard := none }) (v := ?_) rfl (by kernel_rfl) (by kernel_rfl) (by kernel_rfl) (fun _ _ _ h => h) (Or.inl ⟨by rfl, ?_⟩) hS ?_
            rotate_left
            · intro W_ hSW_
              obtain ⟨x0_, x1_, x2_⟩ := hSW_
              go_simp
              try with_reducible rfl
            try simp only [Act.put, List.setIfInBounds_toArray, List.set_cons_zero, List.set_cons_succ]
            refine wpAnyH_ready (rs := [16]) (by kernel_rfl) (by simp) ?_
            refine AllReadyH.cons (o := { dst := some 66, op := Op.call { callee := Callee.value (Operand.func 38), args := #[Operand.tmp 53, Operand.tmp 64, Operand.tmp 65], argTypes := #[24, 3, 22] }, type := 4, pos := "updater.go:126", after := #[{ on := 3, ground := Ground.data }, { on := 14, ground := Ground.data }, { on := 15, ground := Ground.data }], guard := none }) rfl (fun K_ hK_ => ?_) AllReadyH.nil
            go_simp
            refine HWB.out.mono ?_
            rintro e w4 ⟨rfl, hm⟩
            have HM4 := Aside0.mk hm
            clear hm
            refine hK_.out _ _ (HM4.out.u) (fun hS_ => ?_)
            clear hK_ K_ hS
            have hS := hS_
            clear hS_
            try simp only [Act.put, List.setIfInBounds_toArray, List.set_cons_zero, List.set_cons_succ]
            refine wpAnyH_take (i := 17) (oi := { dst := some 67, op := Op.unOp UnOp.not 4 (Operand.tmp 66), type := 4, pos := "updater.go:126", after := #[{ on := 16, ground := Ground.data }], guard := none }) (v := ?_) rfl (by kernel_rfl) (by kernel_rfl) (by kernel_rfl) (fun _ _ _ h => h) (Or.inl ⟨by rfl, ?_⟩) hS ?_
            rotate_left
            · intro W_ hSW_
              obtain ⟨x0_, x1_, x2_⟩ := hSW_
              go_simp
              try with_reducible rfl
            try simp only [Act.put, List.setIfInBounds_toArray, List.set_cons_zero, List.set_cons_succ]
            refine wpAnyH_done (by kernel_rfl) ?_ _
            cases hok : (d.wrs (sl + r) xs).2 with
            | false =>
              have HRv := Aside0.mk (HRt.out.trans (put_f (by rw [HRR.out]; exact hok)))
              go_wp2_with fail
              go_ret
              rw [HRv.out]
              exact ⟨rfl, by rw [HRR.out]; exact HM4.out⟩
            | true =>
              have HRv := Aside0.mk (HRt.out.trans (put_t (by rw [HRR.out]; exact hok)))
              rw [HRR.out] at HRv
              clear hok HWB
              generalize (d.wrs (sl + r) xs).1 = d1 at *
              have HBC := Aside0.mk (bit_call w4 k (by omega))
              have hbb : 3840 + (16 + k / 8) + 1 ≤ N := by have := HN.out; omega
              have HNC := Aside0.mk (fun W (h : Below w4.heap.size w4 W) => number_call (HM4.out.step h) (16 + k / 8) 1 hbb (by omega) (by omega) (by have := HN.out; omega))
              have y0 : 0 ≤ d1.num (16 + k / 8) 1 := num_nn HM4.out.1 _ _
              have y1 : d1.num (16 + k / 8) 1 < 256 := num_lt HM4.out.1 hbb
              obtain ⟨hor, z0, z1⟩ := or_bit _ y0 y1 (k % 8) (by omega)
              have HZ := Aside0.mk (And.intro z0 z1)
              have h56 : 3856 + k / 8 = 3840 + (16 + k / 8) := by omega
              rw [h56] at HRv
              generalize d1.num (16 + k / 8) 1 = x at *
              generalize orb x (k % 8) = y at *
              have HBB := Aside0.mk hbb
              clear hbb h56 z0 z1
              generalize 16 + k / 8 = t2 at *
              have e1x : x % 256 = x := by omega
              generalize (2 : Int) ^ (k % 8) = m2 at *
              clear y0 y1
              go_wp2_with fail
              refine HBC.out.mono ?_
              rintro e w5 ⟨rfl, hb⟩
              have HB5 := Aside0.mk hb
              clear hb HBC
              go_wp2_with fail
              refine (HNC.out _ HB5.out).mono ?_
              rintro e w6 ⟨rfl, hb⟩
              have HM6 := Aside0.mk ((HM4.out.step HB5.out).step hb)
              clear hb HNC HB5 HM4
              go_wp2_with fail
              refine (write_lit (n := 1) HM6.out t2 [y] #[.int .u8 y] rfl (by intro z hz; rw [List.mem_singleton] at hz; rw [hz]; exact HZ.out) rfl HBB.out HN.out rfl).mono ?_
              rintro e w7 ⟨rfl, hm⟩
              have HM7 := Aside0.mk hm
              clear hm HM6
              go_wp2_with fail
              go_ret
              rw [HRv.out]
              exact ⟨rfl, HM7.out⟩
        · have hnb : ((n : Int) != (m : Int)) = true := by simp; omega
          have HRt := Aside0.mk (HRs.out.trans (if_pos (.inr (.inr (by rw [HL.out, hcl.out]; exact hnm)))))
          go_wp2_with fail
          go_ret
          rw [HRt.out]
          exact ⟨rfl, HMS.out⟩
      · have HRt := Aside0.mk (HRs.out.trans (if_pos (.inr (.inl (by omega)))))
        have hkq1 : q ≤ k := by omega
        have hkq2 : (q : Int) ≤ (k : Int) := by omega
        go_wp2_with fail
        rw [← hW1, ← hg7]
        clear hW1 hg7
        refine wp_region_held_drew (S := fun W => Below W1.heap.size W1 W) (by kernel_rfl) (below_drew1 (Below.refl _ _)) (fun hS => ?_)
        refine wpAnyH_take (i := 0) (oi := { dst := some 18, op := Op.move (Operand.tmp 1), type := 3, pos := "updater.go:120", after := #[], guard := none }) (v := ?_) rfl (by kernel_rfl) (by kernel_rfl) (by kernel_rfl) (fun _ _ _ h => h) (Or.inl ⟨by rfl, ?_⟩) hS ?_
        rotate_left
        · intro W_ hSW_
          have g1_ := blk_cell (blk_below HG.out hSW_) 1
          obtain ⟨x0_, x1_, x2_⟩ := (HM1.out.step hSW_).u
          go_simp
          try with_reducible rfl
        try simp only [Act.put, List.setIfInBounds_toArray, List.set_cons_zero, List.set_cons_succ]
        refine wpAnyH_take (i := 1) (oi := { dst := some 19, op := Op.binOp BinOp.lss 3 (Operand.tmp 18) (Operand.const (Value.int IntKind.i64 0)) 3, type := 4, pos := "updater.go:120", after := #[{ on := 0, ground := Ground.data }], guard := none }) (v := ?_) rfl (by kernel_rfl) (by kernel_rfl) (by kernel_rfl) (fun _ _ _ h => h) (Or.inl ⟨by rfl, ?_⟩) hS ?_
        rotate_left
        · intro W_ hSW_
          have g1_ := blk_cell (blk_below HG.out hSW_) 1
          obtain ⟨x0_, x1_, x2_⟩ := (HM1.out.step hSW_).u
          go_simp
          try with_reducible rfl
        try simp only [Act.put, List.setIfInBounds_toArray, List.set_cons_zero, List.set_cons_succ]
        refine wpAnyH_take (i := 2) (oi := { dst := some 20, op := Op.move (Operand.tmp 19), type := 4, pos := "updater.go:120", after := #[{ on := 1, ground := Ground.data }], guard := none }) (v := ?_) rfl (by kernel_rfl) (by kernel_rfl) (by kernel_rfl) (fun _ _ _ h => h) (Or.inl ⟨by rfl, ?_⟩) hS ?_
        rotate_left
        · intro W_ hSW_
          have g1_ := blk_cell (blk_below HG.out hSW_) 1
          obtain ⟨x0_, x1_, x2_⟩ := (HM1.out.step hSW_).u
          go_simp
          try with_reducible rfl
        try simp only [Act.put, List.setIfInBounds_toArray, List.set_cons_zero, List.set_cons_succ]
        refine wpAnyH_take (i := 3) (oi := { dst := some 21, op := Op.move (Operand.tmp 1), type := 3, pos := "updater.go:120", after := #[{ on := 2, ground := Ground.guard }], guard := some (2, false) }) (v := ?_) rfl (by kernel_rfl) (by kernel_rfl) (by kernel_rfl) (fun _ _ _ h => h) (Or.inl ⟨by rfl, ?_⟩) hS ?_
        rotate_left
        · intro W_ hSW_
          have g1_ := blk_cell (blk_below HG.out hSW_) 1
          obtain ⟨x0_, x1_, x2_⟩ := (HM1.out.step hSW_).u
          go_simp
          try with_reducible rfl
        try simp only [Act.put, List.setIfInBounds_toArray, List.set_cons_zero, List.set_cons_succ]
        refine wpAnyH_take (i := 4) (oi := { dst := some 22, op := Op.move (Operand.tmp 0), type := 25, pos := "updater.go:120", after := #[{ on := 2, ground := Ground.guard }], guard := some (2, false) }) (v := ?_) rfl (by kernel_rfl) (by kernel_rfl) (by kernel_rfl) (fun _ _ _ h => h) (Or.inl ⟨by rfl, ?_⟩) hS ?_
        rotate_left
        · intro W_ hSW_
          have g1_ := blk_cell (blk_below HG.out hSW_) 1
          obtain ⟨x0_, x1_, x2_⟩ := (HM1.out.step hSW_).u
          go_simp
          try with_reducible rfl
        try simp only [Act.put, List.setIfInBounds_toArray, List.set_cons_zero, List.set_cons_succ]
        refine wpAnyH_take (i := 5) (oi := { dst := some 23, op := Op.fieldAddr 71 (Operand.tmp 7) 1, type := 0, pos := "updater.go:120", after := #[{ on := 2, ground := Ground.guard }], guard := some (2, false) }) (v := ?_) rfl (by kernel_rfl) (by kernel_rfl) (by kernel_rfl) (fun _ _ _ h => h) (Or.inl ⟨by rfl, ?_⟩) hS ?_
        rotate_left
        · intro W_ hSW_
          have g1_ := blk_cell (blk_below HG.out hSW_) 1
          obtain ⟨x0_, x1_, x2_⟩ := (HM1.out.step hSW_).u
          go_simp
          try with_reducible rfl
        try simp only [Act.put, List.setIfInBounds_toArray, List.set_cons_zero, List.set_cons_succ]
        refine wpAnyH_take (i := 6) (oi := { dst := some 24, op := Op.load 3 (Operand.tmp 23), type := 3, pos := "updater.go:120", after := #[{ on := 5, ground := Ground.data }, { on := 2, ground := Ground.guard }], guard := some (2, false) }) (v := ?_) rfl (by kernel_rfl) (by kernel_rfl) (by kernel_rfl) (fun _ _ _ h => h) (Or.inl ⟨by rfl, ?_⟩) hS ?_
        rotate_left
        · intro W_ hSW_
          have g1_ := blk_cell (blk_below HG.out hSW_) 1
          obtain ⟨x0_, x1_, x2_⟩ := (HM1.out.step hSW_).u
          go_simp
          try with_reducible rfl
        try simp only [Act.put, List.setIfInBounds_toArray, List.set_cons_zero, List.set_cons_succ]
        refine wpAnyH_ready (rs := [7]) (by kernel_rfl) (by simp) ?_
        refine AllReadyH.cons (o := { dst := some 25, op := Op.call { callee := Callee.value (Operand.func 36), args := #[Operand.tmp 22, Operand.tmp 24], argTypes := #[25, 3] }, type := 3, pos := "updater.go:120", after := #[{ on := 4, ground := Ground.data }, { on := 6, ground := Ground.data }, { on := 2, ground := Ground.chain }, { on := 2, ground := Ground.guard }], guard := some (2, false) }) rfl (fun K_ hK_ => ?_) AllReadyH.nil
        go_simp
        refine (HK.out _ (HM1.out.step hS)).mono ?_
        rintro e w_ ⟨rfl, hb_⟩
        have HB_ := Aside0.mk (below_step hS hb_)
        clear hb_
        refine hK_.out _ _ (HB_.out) (fun hS_ => ?_)
        clear hK_ K_ hS
        have hS := hS_
        clear hS_
        try simp only [Act.put, List.setIfInBounds_toArray, List.set_cons_zero, List.set_cons_succ]
        refine wpAnyH_take (i := 8) (oi := { dst := some 26, op := Op.binOp BinOp.geq 3 (Operand.tmp 21) (Operand.tmp 25) 3, type := 4, pos := "updater.go:120", after := #[{ on := 3, ground := Ground.data }, { on := 7, ground := Ground.data }, { on := 2, ground := Ground.guard }], guard := some (2, false) }) (v := ?_) rfl (by kernel_rfl) (by kernel_rfl) (by kernel_rfl) (fun _ _ _ h => h) (Or.inl ⟨by rfl, ?_⟩) hS ?_
        rotate_left
        · intro W_ hSW_
          have g1_ := blk_cell (blk_below HG.out hSW_) 1
          obtain ⟨x0_, x1_, x2_⟩ := (HM1.out.step hSW_).u
          go_simp
          try with_reducible rfl
        try simp only [Act.put, List.setIfInBounds_toArray, List.set_cons_zero, List.set_cons_succ]
        refine wpAnyH_take (i := 9) (oi := { dst := some 27, op := Op.pick (Operand.tmp 20) (Operand.const (Value.bool true)) (Operand.tmp 26), type := 4, pos := "updater.go:120", after := #[{ on := 2, ground := Ground.data }, { on := 8, ground := Ground.data }], guard := none }) (v := ?_) rfl (by kernel_rfl) (by kernel_rfl) (by kernel_rfl) (fun _ _ _ h => h) (Or.inl ⟨by rfl, ?_⟩) hS ?_
        rotate_left
        · intro W_ hSW_
          have g1_ := blk_cell (blk_below HG.out hSW_) 1
          obtain ⟨x0_, x1_, x2_⟩ := (HM1.out.step hSW_).u
          go_simp
          try with_reducible rfl
        try simp only [Act.put, List.setIfInBounds_toArray, List.set_cons_zero, List.set_cons_succ]
        refine wpAnyH_take (i := 10) (oi := { dst := some 28, op := Op.move (Operand.tmp 27), type := 4, pos := "updater.go:120", after := #[{ on := 9, ground := Ground.data }, { on := 7, ground := Ground.chain }], guard := none }) (v := ?_) rfl (by kernel_rfl) (by kernel_rfl) (by kernel_rfl) (fun _ _ _ h => h) (Or.inl ⟨by rfl, ?_⟩) hS ?_
        rotate_left
        · intro W_ hSW_
          have g1_ := blk_cell (blk_below HG.out hSW_) 1
          obtain ⟨x0_, x1_, x2_⟩ := (HM1.out.step hSW_).u
          go_simp
          try with_reducible rfl
        try simp only [Act.put, List.setIfInBounds_toArray, List.set_cons_zero, List.set_cons_succ]
        refine wpAnyH_take (i := 11) (oi := { dst := some 29, op := Op.move (Operand.tmp 2), type := 22, pos := "updater.go:120", after := #[{ on := 10, ground := Ground.guard }], guard := some (10, false) }) (v := undef) rfl (by kernel_rfl) (by kernel_rfl) (by kernel_rfl) (fun _ _ _ h => h) (Or.inr ⟨by rfl, rfl⟩) hS ?_
        try simp only [Act.put, List.setIfInBounds_toArray, List.set_cons_zero, List.set_cons_succ]
        refine wpAnyH_take (i := 12) (oi := { dst := some 30, op := Op.call { callee := Callee.builtin Builtin.len, args := #[Operand.tmp 29], argTypes := #[22] }, type := 3, pos := "updater.go:120", after := #[{ on := 11, ground := Ground.data }, { on := 10, ground := Ground.guard }], guard := some (10, false) }) (v := undef) rfl (by kernel_rfl) (by kernel_rfl) (by kernel_rfl) (fun _ _ _ h => h) (Or.inr ⟨by rfl, rfl⟩) hS ?_
        try simp only [Act.put, List.setIfInBounds_toArray, List.set_cons_zero, List.set_cons_succ]
        refine wpAnyH_take (i := 13) (oi := { dst := some 31, op := Op.move (Operand.tmp 0), type := 25, pos := "updater.go:120", after := #[{ on := 10, ground := Ground.guard }], guard := some (10, false) }) (v := undef) rfl (by kernel_rfl) (by kernel_rfl) (by kernel_rfl) (fun _ _ _ h => h) (Or.inr ⟨by rfl, rfl⟩) hS ?_
        try simp only [Act.put, List.setIfInBounds_toArray, List.set_cons_zero, List.set_cons_succ]
        refine wpAnyH_take (i := 14) (oi := { dst := some 32, op := Op.nilCheck (Operand.tmp 31), type := 0, pos := "updater.go:120", after := #[{ on := 13, ground := Ground.data }, { on := 10, ground := Ground.guard }], guard := some (10, false) }) (v := undef) rfl (by kernel_rfl) (by kernel_rfl) (by kernel_rfl) (fun _ _ _ h => h) (Or.inr ⟨by rfl, rfl⟩) hS ?_
        try simp only [Act.put, List.setIfInBounds_toArray, List.set_cons_zero, List.set_cons_succ]
        refine wpAnyH_take (i := 15) (oi := { dst := some 33, op := Op.fieldAddr 77 (Operand.tmp 32) 2, type := 0, pos := "updater.go:120", after := #[{ on := 14, ground := Ground.data }, { on := 10, ground := Ground.guard }], guard := some (10, false) }) (v := undef) rfl (by kernel_rfl) (by kernel_rfl) (by kernel_rfl) (fun _ _ _ h => h) (Or.inr ⟨by rfl, rfl⟩) hS ?_
        try simp only [Act.put, List.setIfInBounds_toArray, List.set_cons_zero, List.set_cons_succ]
        refine wpAnyH_take (i := 16) (oi := { dst := some 34, op := Op.load 3 (Operand.tmp 33), type := 3, pos := "updater.go:120", after := #[{ on := 15, ground := Ground.data }, { on := 10, ground := Ground.guard }], guard := some (10, false) }) (v := undef) rfl (by kernel_rfl) (by kernel_rfl) (by kernel_rfl) (fun _ _ _ h => h) (Or.inr ⟨by rfl, rfl⟩) hS ?_
        try simp only [Act.put, List.setIfInBounds_toArray, List.set_cons_zero, List.set_cons_succ]
        refine wpAnyH_take (i := 17) (oi := { dst := some 35, op := Op.fieldAddr 71 (Operand.tmp 7) 1, type := 0, pos := "updater.go:120", after := #[{ on := 10, ground := Ground.guard }], guard := some (10, false) }) (v := undef) rfl (by kernel_rfl) (by kernel_rfl) (by kernel_rfl) (fun _ _ _ h => h) (Or.inr ⟨by rfl, rfl⟩) hS ?_
        try simp only [Act.put, List.setIfInBounds_toArray, List.set_cons_zero, List.set_cons_succ]
        refine wpAnyH_take (i := 18) (oi := { dst := some 36, op := Op.load 3 (Operand.tmp 35), type := 3, pos := "updater.go:120", after := #[{ on := 17, ground := Ground.data }, { on := 10, ground := Ground.guard }], guard := some (10, false) }) (v := undef) rfl (by kernel_rfl) (by kernel_rfl) (by kernel_rfl) (fun _ _ _ h => h) (Or.inr ⟨by rfl, rfl⟩) hS ?_
        try simp only [Act.put, List.setIfInBounds_toArray, List.set_cons_zero, List.set_cons_succ]
        refine wpAnyH_take (i := 19) (oi := { dst := some 37, op := Op.move (Operand.tmp 1), type := 3, pos := "updater.go:120", after := #[{ on := 10, ground := Ground.guard }], guard := some (10, false) }) (v := undef) rfl (by kernel_rfl) (by kernel_rfl) (by kernel_rfl) (fun _ _ _ h => h) (Or.inr ⟨by rfl, rfl⟩) hS ?_
        try simp only [Act.put, List.setIfInBounds_toArray, List.set_cons_zero, List.set_cons_succ]
        refine wpAnyH_take (i := 20) (oi := { dst := some 38, op := Op.move (Operand.tmp 0), type := 25, pos := "updater.go:120", after := #[{ on := 10, ground := Ground.guard }], guard := some (10, false) }) (v := undef) rfl (by kernel_rfl) (by kernel_rfl) (by kernel_rfl) (fun _ _ _ h => h) (Or.inr ⟨by rfl, rfl⟩) hS ?_
        try simp only [Act.put, List.setIfInBounds_toArray, List.set_cons_zero, List.set_cons_succ]
        refine wpAnyH_take (i := 21) (oi := { dst := some 39, op := Op.nilCheck (Operand.tmp 38), type := 0, pos := "updater.go:120", after := #[{ on := 20, ground := Ground.data }, { on := 10, ground := Ground.guard }], guard := some (10, false) }) (v := undef) rfl (by kernel_rfl) (by kernel_rfl) (by kernel_rfl) (fun _ _ _ h => h) (Or.inr ⟨by rfl, rfl⟩) hS ?_
        try simp only [Act.put, List.setIfInBounds_toArray, List.set_cons_zero, List.set_cons_succ]
        refine wpAnyH_take (i := 22) (oi := { dst := some 40, op := Op.fieldAddr 77 (Operand.tmp 39) 2, type := 0, pos := "updater.go:120", after := #[{ on := 21, ground := Ground.data }, { on := 10, ground := Ground.guard }], guard := some (10, false) }) (v := undef) rfl (by kernel_rfl) (by kernel_rfl) (by kernel_rfl) (fun _ _ _ h => h) (Or.inr ⟨by rfl, rfl⟩) hS ?_
        try simp only [Act.put, List.setIfInBounds_toArray, List.set_cons_zero, List.set_cons_succ]
        refine wpAnyH_take (i := 23) (oi := { dst := some 41, op := Op.load 3 (Operand.tmp 40), type := 3, pos := "updater.go:120", after := #[{ on := 22, ground := Ground.data }, { on := 10, ground := Ground.guard }], guard := some (10, false) }) (v := undef) rfl (by kernel_rfl) (by kernel_rfl) (by kernel_rfl) (fun _ _ _ h => h) (Or.inr ⟨by rfl, rfl⟩) hS ?_
        try simp only [Act.put, List.setIfInBounds_toArray, List.set_cons_zero, List.set_cons_succ]
        refine wpAnyH_take (i := 24) (oi := { dst := some 42, op := Op.binOp BinOp.mul 3 (Operand.tmp 37) (Operand.tmp 41) 3, type := 3, pos := "updater.go:120", after := #[{ on := 19, ground := Ground.data }, { on := 23, ground := Ground.data }, { on := 10, ground := Ground.guard }], guard := some (10, false) }) (v := undef) rfl (by kernel_rfl) (by kernel_rfl) (by kernel_rfl) (fun _ _ _ h => h) (Or.inr ⟨by rfl, rfl⟩) hS ?_
        try simp only [Act.put, List.setIfInBounds_toArray, List.set_cons_zero, List.set_cons_succ]
        refine wpAnyH_take (i := 25) (oi := { dst := some 43, op := Op.binOp BinOp.sub 3 (Operand.tmp 36) (Operand.tmp 42) 3, type := 3, pos := "updater.go:120", after := #[{ on := 18, ground := Ground.data }, { on := 24, ground := Ground.data }, { on := 10, ground := Ground.guard }], guard := some (10, false) }) (v := undef) rfl (by kernel_rfl) (by kernel_rfl) (by kernel_rfl) (fun _ _ _ h => h) (Or.inr ⟨by rfl, rfl⟩) hS ?_
        try simp only [Act.put, List.setIfInBounds_toArray, List.set_cons_zero, List.set_cons_succ]
        refine wpAnyH_take (i := 26) (oi := { dst := some 44, op := Op.call { callee := Callee.builtin Builtin.min, args := #[Operand.tmp 34, Operand.tmp 43], argTypes := #[3, 3] }, type := 3, pos := "updater.go:120", after := #[{ on := 16, ground := Ground.data }, { on := 25, ground := Ground.data }, { on := 10, ground := Ground.guard }], guard := some (10, false) }) (v := undef) rfl (by kernel_rfl) (by kernel_rfl) (by kernel_rfl) (fun _ _ _ h => h) (Or.inr ⟨by rfl, rfl⟩) hS ?_
        try simp only [Act.put, List.setIfInBounds_toArray, List.set_cons_zero, List.set_cons_succ]
        refine wpAnyH_take (i := 27) (oi := { dst := some 45, op := Op.binOp BinOp.neq 3 (Operand.tmp 30) (Operand.tmp 44) 3, type := 4, pos := "updater.go:120", after := #[{ on := 12, ground := Ground.data }, { on := 26, ground := Ground.data }, { on := 10, ground := Ground.guard }], guard := some (10, false) }) (v := undef) rfl (by kernel_rfl) (by kernel_rfl) (by kernel_rfl) (fun _ _ _ h => h) (Or.inr ⟨by rfl, rfl⟩) hS ?_
        try simp only [Act.put, List.setIfInBounds_toArray, List.set_cons_zero, List.set_cons_succ]
        refine wpAnyH_take (i := 28) (oi := { dst := some 46, op := Op.pick (Operand.tmp 28) (Operand.const (Value.bool true)) (Operand.tmp 45), type := 4, pos := "updater.go:120", after := #[{ on := 10, ground := Ground.data }, { on := 27, ground := Ground.data }], guard := none }) (v := ?_) rfl (by kernel_rfl) (by kernel_rfl) (by kernel_rfl) (fun _ _ _ h => h) (Or.inl ⟨by rfl, ?_⟩) hS ?_
        rotate_left
        · intro W_ hSW_
          have g1_ := blk_cell (blk_below HG.out hSW_) 1
          obtain ⟨x0_, x1_, x2_⟩ := (HM1.out.step hSW_).u
          go_simp
          try with_reducible rfl
        try simp only [Act.put, List.setIfInBounds_toArray, List.set_cons_zero, List.set_cons_succ]
        refine wpAnyH_done (by kernel_rfl) ?_ _
        go_wp2_with fail
        go_ret
        rw [HRt.out]
        exact ⟨rfl, HM1.out.step hS⟩
end Go.Proofs.Ytfcldacjnegacaa.Up
