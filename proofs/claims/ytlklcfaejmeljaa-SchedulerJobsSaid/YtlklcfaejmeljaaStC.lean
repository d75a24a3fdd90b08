/- slices.SortStableFunc: insertion sort over a part of the row. -/
import Derived.Test.YtlklcfaejmeljaaStB
namespace Go.Proofs.Ytlklcfaejmeljaa.St
open Go.RowKit Go.Proofs.YtlklcfaejmeljaaW.PrintWords Go.Proofs.Ytlklcfaejmeljaa.Sl Go.Proofs.Ytlklcfaejmeljaa.Srt
set_option linter.unusedVariables false
set_option linter.unusedSimpArgs false

/-- What the sort asks of the comparison: it answers cf on numbers below n, whatever the row holds, and keeps what is there. -/
def CmpOk (w0 : World) (v : Value) (gb : Nat) (cf : Int → Int → Int) (n : Nat) (L : List Chunk) : Prop :=
  ∀ (W : World) (ys : List Int) (x y : Int), Mem w0 W (rws w0 v ys L) → (0 ≤ x ∧ x < (n : Int)) → (0 ≤ y ∧ y < (n : Int)) →
    Calls Try.prog 39 #[.int .i64 x, .int .i64 y, .pointer (some ⟨gb, 0, none⟩)] W fun e w' => e = .returned (.int .i64 (cf x y)) ∧ Mem w0 w' (rws w0 v ys L)
@[reducible] def fnv (gb : Nat) : Value := .func (.func 39) #[] #[.pointer (some ⟨gb, 0, none⟩)]
def lt_ (cf : Int → Int → Int) (x y : Int) : Prop := cf x y < 0
def inR (n : Nat) (xs : List Int) : Prop := ∀ x ∈ xs, 0 ≤ x ∧ x < (n : Int)
theorem inR.at {n : Nat} {xs : List Int} (h : inR n xs) {k : Nat} (hk : k < xs.length) : 0 ≤ at_ xs k ∧ at_ xs k < (n : Int) := by
  rw [at_eq hk]
  exact h _ (List.getElem_mem hk)
theorem inR.same {n : Nat} {xs ys : List Int} {a b : Nat} (h : inR n xs) (hs : Same xs ys a b) : inR n ys := fun x hx => h x (hs.perm.mem_iff.1 hx)
/-- The values of [a, b) grow. -/
def Inc (xs : List Int) (a b : Nat) : Prop := ∀ i j, a ≤ i → i < j → j < b → at_ xs i < at_ xs j
/-- [a, i) is in order, the rest is as it was. -/
structure Ins (cf : Int → Int → Int) (xs ys : List Int) (a i : Nat) : Prop where
  same : Same xs ys a i
  ord : Ord (lt_ cf) ys a i
theorem Ins.done {cf : Int → Int → Int} (hR : SWO (lt_ cf)) {xs ys : List Int} {a b i j : Nat} (h : Ins cf xs ys a i) (hinc : Inc xs a b) (hb : b ≤ xs.length) (hi : i < b) (ha : a ≤ j) (hj : j ≤ i)
    (h1 : j = a ∨ ¬ lt_ cf (at_ ys i) (at_ ys (j - 1))) (h2 : j = i ∨ lt_ cf (at_ ys i) (at_ ys j)) : Ins cf xs (dn ys i (i - j)) a (i + 1) := by
  have hl := h.same.len
  have hlow : ∀ k, a ≤ k → k < i → at_ ys k < at_ ys i := by
    intro k k1 k2
    obtain ⟨q, q1, q2, q3⟩ := h.same.mem k k1 k2
    rw [q3, h.same.out i (.inr (Nat.le_refl _))]
    exact hinc q i q1 q2 hi
  have key := dn_merged hR (xs := ys) (a := a) (m := i) (i := j) (by omega) h.ord ha hj ?_ ?_
  · exact ⟨(h.same.wide (Nat.le_refl _) (by omega)).trans key.same, key.ord⟩
  · rcases h1 with h1 | h1
    · exact .inl h1
    · by_cases e : j = a
      · exact .inl e
      · exact .inr (.inr ⟨h1, hlow _ (by omega) (by omega)⟩)
  · exact h2.imp id (fun h => .inl h)
def OutRel (w0 : World) (v : Value) (cf : Int → Int → Int) (xs : List Int) (a b : Nat) (L : List Chunk) (v8 : Value) (wr : World) : Prop :=
  ∃ (i : Nat) (ys : List Int), a + 1 ≤ i ∧ i ≤ b ∧ v8 = .int .i64 (i : Int) ∧ Ins cf xs ys a i ∧ Mem w0 wr (rws w0 v ys L)
def InRel (w0 : World) (v : Value) (cf : Int → Int → Int) (ys : List Int) (a i : Nat) (L : List Chunk) (v9 : Value) (wr : World) : Prop :=
  ∃ (j : Nat), a ≤ j ∧ j ≤ i ∧ v9 = .int .i64 (j : Int) ∧ (j = i ∨ lt_ cf (at_ ys i) (at_ ys j)) ∧ Mem w0 wr (rws w0 v (dn ys i (i - j)) L)
theorem ins0 {w : World} {A : Option Addr} {n c : Nat} (a b : Nat) (hab : b ≤ a + 1) (ha : a ≤ 1000) (f : Value) :
    Calls Try.prog 52 #[.slice A n c, .int .i64 (a : Int), .int .i64 (b : Int), f] w fun e w' => e = .returned (.tuple #[]) ∧ w = w' := by
  go_enter Try.func52, Try.ntmps52
  go_wp2_with fail
  go_loopw [8] (fun v8 wr => v8 = .int .i64 ((a : Int) + 1) ∧ wr = w) (fun i _ => 0)
  case atStart => exact ⟨rfl, rfl⟩
  case round =>
    obtain ⟨rfl, rfl⟩ := hrel
    have c1 : decide ((a : Int) + 1 < (b : Int)) = false := decide_eq_false (by omega)
    go_wp2_with fail
    go_end0
    exact ⟨rfl, rfl⟩
set_option maxHeartbeats 8000000 in
theorem insSort {w0 w : World} {go c gb n : Nat} {cf : Int → Int → Int} {xs : List Int} {L : List Chunk} (a b : Nat) (hR : SWO (lt_ cf)) (hC : CmpOk w0 (.slice (some ⟨go, 0, none⟩) xs.length c) gb cf n L) (hab : a < b) (hb : b ≤ xs.length) (h9 : xs.length ≤ 1000) (hin : inR n xs) (hinc : Inc xs a b) (hM : Mem w0 w (rws w0 (.slice (some ⟨go, 0, none⟩) xs.length c) xs L)) :
    Calls Try.prog 52 #[.slice (some ⟨go, 0, none⟩) xs.length c, .int .i64 (a : Int), .int .i64 (b : Int), fnv gb] w fun e w' => e = .returned (.tuple #[]) ∧ ∃ ys, Ins cf xs ys a b ∧ Mem w0 w' (rws w0 (.slice (some ⟨go, 0, none⟩) xs.length c) ys L) := by
  have HM := Aside0.mk hM
  have HIN := Aside0.mk hin
  have HINC := Aside0.mk hinc
  have HC := Aside0.mk hC
  have HR := Aside0.mk hR
  have hl9 : xs.length = xs.length := rfl
  have B1 : b ≤ 1000 := by omega
  have HB := Aside0.mk hb
  clear hM hin hinc hC hR hl9 hb
  go_enter Try.func52, Try.ntmps52
  go_wp2_with fail
  go_loopw [8] (fun v8 wr => OutRel w0 (.slice (some ⟨go, 0, none⟩) xs.length c) cf xs a b L v8 wr) (fun i _ => b - (intOf i).toNat)
  case atStart => exact ⟨a + 1, xs, Nat.le_refl _, hab, rfl, ⟨Same.refl _ _ _, fun i j h1 h2 h3 => absurd h3 (by omega)⟩, HM.out⟩
  case round =>
    obtain ⟨i, ys, hi1, hi2, rfl, hins, hM⟩ := hrel
    clear HM
    by_cases hlt : i < b
    · have HM := Aside0.mk hM
      have hyl := hins.same.len
      have HINS := Aside0.mk hins
      have HIY := Aside0.mk (HIN.out.same hins.same)
      clear hM hins
      go_wp2_with fail
      go_loopw [9] (fun v9 wr => InRel w0 (.slice (some ⟨go, 0, none⟩) xs.length c) cf ys a i L v9 wr) (fun j _ => (intOf j).toNat)
      case atStart => exact ⟨i, by omega, Nat.le_refl _, rfl, .inl rfl, by rw [Nat.sub_self]; exact HM.out⟩
      case round =>
        obtain ⟨j, haj, hji, rfl, hlast, hM⟩ := hrel
        clear HM
        by_cases hj0 : j = a
        · have c0 : decide ((a : Int) < (j : Int)) = false := decide_eq_false (by omega)
          have c0' : decide (a < j) = false := decide_eq_false (by omega)
          have HD := Aside0.mk (HINS.out.done HR.out HINC.out HB.out hlt haj hji (.inl hj0) hlast)
          have HM := Aside0.mk hM
          have HI := Aside0.mk (And.intro hi1 hlt)
          have HW := Aside0.mk (show wrap64 ((i : Int) + 1) = ((i + 1 : Nat) : Int) from ww (by omega) (by omega))
          clear hM hlast hj0
          go_wp2_with fail
          refine wp_region_held_drew (S := fun W => True) (by kernel_rfl) trivial (fun hS => ?_)
          refine wpAnyH_take (i := 0) (oi := { dst := some 18, op := Op.move (Operand.tmp 9), type := 3, pos := "zsortanyfunc.go:12", after := #[], guard := none }) (v := ?_) rfl (by kernel_rfl) (by kernel_rfl) (by kernel_rfl) (fun _ _ _ h => h) (Or.inl ⟨by rfl, ?_⟩) hS ?_
          rotate_left
          · intro W_ hSW_
            go_simp
            try with_reducible rfl
          try simp only [Act.put, List.setIfInBounds_toArray, List.set_cons_zero, List.set_cons_succ]
          refine wpAnyH_take (i := 1) (oi := { dst := some 19, op := Op.move (Operand.tmp 1), type := 3, pos := "zsortanyfunc.go:12", after := #[], guard := none }) (v := ?_) rfl (by kernel_rfl) (by kernel_rfl) (by kernel_rfl) (fun _ _ _ h => h) (Or.inl ⟨by rfl, ?_⟩) hS ?_
          rotate_left
          · intro W_ hSW_
            go_simp
            try with_reducible rfl
          try simp only [Act.put, List.setIfInBounds_toArray, List.set_cons_zero, List.set_cons_succ]
          refine wpAnyH_take (i := 2) (oi := { dst := some 20, op := Op.binOp BinOp.gtr 3 (Operand.tmp 18) (Operand.tmp 19) 3, type := 4, pos := "zsortanyfunc.go:12", after := #[{ on := 0, ground := Ground.data }, { on := 1, ground := Ground.data }], guard := none }) (v := ?_) rfl (by kernel_rfl) (by kernel_rfl) (by kernel_rfl) (fun _ _ _ h => h) (Or.inl ⟨by rfl, ?_⟩) hS ?_
          rotate_left
          · intro W_ hSW_
            go_simp
            try with_reducible rfl
          try simp only [Act.put, List.setIfInBounds_toArray, List.set_cons_zero, List.set_cons_succ]
          refine wpAnyH_take (i := 3) (oi := { dst := some 21, op := Op.move (Operand.tmp 20), type := 4, pos := "zsortanyfunc.go:12", after := #[{ on := 2, ground := Ground.data }], guard := none }) (v := ?_) rfl (by kernel_rfl) (by kernel_rfl) (by kernel_rfl) (fun _ _ _ h => h) (Or.inl ⟨by rfl, ?_⟩) hS ?_
          rotate_left
          · intro W_ hSW_
            go_simp
            try with_reducible rfl
          try simp only [Act.put, List.setIfInBounds_toArray, List.set_cons_zero, List.set_cons_succ]
          refine wpAnyH_take (i := 4) (oi := { dst := some 22, op := Op.move (Operand.tmp 3), type := 82, pos := "zsortanyfunc.go:12", after := #[{ on := 3, ground := Ground.guard }], guard := some (3, true) }) (v := undef) rfl (by kernel_rfl) (by kernel_rfl) (by kernel_rfl) (fun _ _ _ h => h) (Or.inr ⟨by rfl, rfl⟩) hS ?_
          try simp only [Act.put, List.setIfInBounds_toArray, List.set_cons_zero, List.set_cons_succ]
          refine wpAnyH_take (i := 5) (oi := { dst := some 23, op := Op.move (Operand.tmp 0), type := 30, pos := "zsortanyfunc.go:12", after := #[{ on := 3, ground := Ground.guard }], guard := some (3, true) }) (v := undef) rfl (by kernel_rfl) (by kernel_rfl) (by kernel_rfl) (fun _ _ _ h => h) (Or.inr ⟨by rfl, rfl⟩) hS ?_
          try simp only [Act.put, List.setIfInBounds_toArray, List.set_cons_zero, List.set_cons_succ]
          refine wpAnyH_take (i := 6) (oi := { dst := some 24, op := Op.move (Operand.tmp 9), type := 3, pos := "zsortanyfunc.go:12", after := #[{ on := 3, ground := Ground.guard }], guard := some (3, true) }) (v := undef) rfl (by kernel_rfl) (by kernel_rfl) (by kernel_rfl) (fun _ _ _ h => h) (Or.inr ⟨by rfl, rfl⟩) hS ?_
          try simp only [Act.put, List.setIfInBounds_toArray, List.set_cons_zero, List.set_cons_succ]
          refine wpAnyH_take (i := 7) (oi := { dst := some 25, op := Op.indexAddr 30 (Operand.tmp 23) (Operand.tmp 24), type := 0, pos := "zsortanyfunc.go:12", after := #[{ on := 5, ground := Ground.data }, { on := 6, ground := Ground.data }, { on := 3, ground := Ground.guard }], guard := some (3, true) }) (v := undef) rfl (by kernel_rfl) (by kernel_rfl) (by kernel_rfl) (fun _ _ _ h => h) (Or.inr ⟨by rfl, rfl⟩) hS ?_
          try simp only [Act.put, List.setIfInBounds_toArray, List.set_cons_zero, List.set_cons_succ]
          refine wpAnyH_take (i := 8) (oi := { dst := some 26, op := Op.load 3 (Operand.tmp 25), type := 3, pos := "zsortanyfunc.go:12", after := #[{ on := 7, ground := Ground.data }, { on := 3, ground := Ground.guard }], guard := some (3, true) }) (v := undef) rfl (by kernel_rfl) (by kernel_rfl) (by kernel_rfl) (fun _ _ _ h => h) (Or.inr ⟨by rfl, rfl⟩) hS ?_
          try simp only [Act.put, List.setIfInBounds_toArray, List.set_cons_zero, List.set_cons_succ]
          refine wpAnyH_take (i := 9) (oi := { dst := some 27, op := Op.move (Operand.tmp 0), type := 30, pos := "zsortanyfunc.go:12", after := #[{ on := 3, ground := Ground.guard }], guard := some (3, true) }) (v := undef) rfl (by kernel_rfl) (by kernel_rfl) (by kernel_rfl) (fun _ _ _ h => h) (Or.inr ⟨by rfl, rfl⟩) hS ?_
          try simp only [Act.put, List.setIfInBounds_toArray, List.set_cons_zero, List.set_cons_succ]
          refine wpAnyH_take (i := 10) (oi := { dst := some 28, op := Op.move (Operand.tmp 9), type := 3, pos := "zsortanyfunc.go:12", after := #[{ on := 3, ground := Ground.guard }], guard := some (3, true) }) (v := undef) rfl (by kernel_rfl) (by kernel_rfl) (by kernel_rfl) (fun _ _ _ h => h) (Or.inr ⟨by rfl, rfl⟩) hS ?_
          try simp only [Act.put, List.setIfInBounds_toArray, List.set_cons_zero, List.set_cons_succ]
          refine wpAnyH_take (i := 11) (oi := { dst := some 29, op := Op.binOp BinOp.sub 3 (Operand.tmp 28) (Operand.const (Value.int IntKind.i64 1)) 3, type := 3, pos := "zsortanyfunc.go:12", after := #[{ on := 10, ground := Ground.data }, { on := 3, ground := Ground.guard }], guard := some (3, true) }) (v := undef) rfl (by kernel_rfl) (by kernel_rfl) (by kernel_rfl) (fun _ _ _ h => h) (Or.inr ⟨by rfl, rfl⟩) hS ?_
          try simp only [Act.put, List.setIfInBounds_toArray, List.set_cons_zero, List.set_cons_succ]
          refine wpAnyH_take (i := 12) (oi := { dst := some 30, op := Op.indexAddr 30 (Operand.tmp 27) (Operand.tmp 29), type := 0, pos := "zsortanyfunc.go:12", after := #[{ on := 9, ground := Ground.data }, { on := 11, ground := Ground.data }, { on := 3, ground := Ground.guard }], guard := some (3, true) }) (v := undef) rfl (by kernel_rfl) (by kernel_rfl) (by kernel_rfl) (fun _ _ _ h => h) (Or.inr ⟨by rfl, rfl⟩) hS ?_
          try simp only [Act.put, List.setIfInBounds_toArray, List.set_cons_zero, List.set_cons_succ]
          refine wpAnyH_take (i := 13) (oi := { dst := some 31, op := Op.load 3 (Operand.tmp 30), type := 3, pos := "zsortanyfunc.go:12", after := #[{ on := 12, ground := Ground.data }, { on := 3, ground := Ground.guard }], guard := some (3, true) }) (v := undef) rfl (by kernel_rfl) (by kernel_rfl) (by kernel_rfl) (fun _ _ _ h => h) (Or.inr ⟨by rfl, rfl⟩) hS ?_
          try simp only [Act.put, List.setIfInBounds_toArray, List.set_cons_zero, List.set_cons_succ]
          refine wpAnyH_take (i := 14) (oi := { dst := some 32, op := Op.call { callee := Callee.value (Operand.tmp 22), args := #[Operand.tmp 26, Operand.tmp 31], argTypes := #[3, 3] }, type := 3, pos := "zsortanyfunc.go:12", after := #[{ on := 4, ground := Ground.data }, { on := 8, ground := Ground.data }, { on := 13, ground := Ground.data }, { on := 3, ground := Ground.chain }, { on := 3, ground := Ground.guard }], guard := some (3, true) }) (v := undef) rfl (by kernel_rfl) (by kernel_rfl) (by kernel_rfl) (fun _ _ _ h => h) (Or.inr ⟨by rfl, rfl⟩) hS ?_
          try simp only [Act.put, List.setIfInBounds_toArray, List.set_cons_zero, List.set_cons_succ]
          refine wpAnyH_take (i := 15) (oi := { dst := some 33, op := Op.binOp BinOp.lss 3 (Operand.tmp 32) (Operand.const (Value.int IntKind.i64 0)) 3, type := 4, pos := "zsortanyfunc.go:12", after := #[{ on := 14, ground := Ground.data }, { on := 3, ground := Ground.guard }], guard := some (3, true) }) (v := undef) rfl (by kernel_rfl) (by kernel_rfl) (by kernel_rfl) (fun _ _ _ h => h) (Or.inr ⟨by rfl, rfl⟩) hS ?_
          try simp only [Act.put, List.setIfInBounds_toArray, List.set_cons_zero, List.set_cons_succ]
          refine wpAnyH_take (i := 16) (oi := { dst := some 34, op := Op.pick (Operand.tmp 21) (Operand.tmp 33) (Operand.const (Value.bool false)), type := 4, pos := "zsortanyfunc.go:12", after := #[{ on := 3, ground := Ground.data }, { on := 15, ground := Ground.data }], guard := none }) (v := ?_) rfl (by kernel_rfl) (by kernel_rfl) (by kernel_rfl) (fun _ _ _ h => h) (Or.inl ⟨by rfl, ?_⟩) hS ?_
          rotate_left
          · intro W_ hSW_
            go_simp
            try with_reducible rfl
          try simp only [Act.put, List.setIfInBounds_toArray, List.set_cons_zero, List.set_cons_succ]
          refine wpAnyH_done (by kernel_rfl) ?_ _
          go_wp2_with fail
          first
            | rw [HW.out]
            | skip
          exact ⟨⟨i + 1, _, by have := HI.out; omega, by have := HI.out; omega, rfl, HD.out, HM.out.drew⟩, meas rfl HI.out.2⟩
        · obtain ⟨m, hm⟩ : ∃ m, j = m + 1 := ⟨j - 1, by omega⟩
          obtain ⟨zs, hzs⟩ : ∃ zs, zs = dn ys i (i - j) := ⟨_, rfl⟩
          have hzl : zs.length = xs.length := by rw [hzs, dn_len, hyl]
          have hb := HB.out
          have fj : at_ zs j = at_ ys i := by rw [hzs, dn_at (by omega) _ (by omega), if_neg (by omega), if_neg (by omega), if_pos (by omega)]
          have fm : at_ zs m = at_ ys m := by rw [hzs, dn_at (by omega) _ (by omega), if_neg (by omega), if_neg (by omega), if_neg (by omega)]
          have hstep : sw zs j m = dn ys i (i - m) := by
            rw [hzs, show i - m = (i - j) + 1 by omega]
            show _ = sw (dn ys i (i - j)) (i - (i - j)) (i - (i - j) - 1)
            rw [show i - (i - j) = j by omega, show j - 1 = m by omega]
          have hiy : inR n zs := by rw [hzs]; exact HIY.out.same (dn_same (a := a) (b := b) (by omega) hlt (i - j) (by omega))
          rw [← hzs] at hM
          obtain ⟨z0, z1⟩ := cell2 hM (k := j) (by omega)
          obtain ⟨z2, z3⟩ := cell2 hM (k := m) (by omega)
          have HX := Aside0.mk (hiy.at (k := j) (by omega))
          have HY := Aside0.mk (hiy.at (k := m) (by omega))
          have HFJ := Aside0.mk fj
          have HZ := Aside0.mk hzs
          have HFM := Aside0.mk fm
          have HST := Aside0.mk hstep
          have HJL := Aside0.mk (show j < zs.length by omega)
          have HML := Aside0.mk (show m < zs.length by omega)
          have HDN := Aside0.mk (fun h => HINS.out.done HR.out HINC.out HB.out hlt haj hji (.inr h) hlast)
          rw [show j - 1 = m by omega] at HDN
          have HLT := Aside0.mk (And.intro hlt hi1)
          have HJM := Aside0.mk (show a ≤ m ∧ m ≤ i ∧ m < j by omega)
          have HW := Aside0.mk (show wrap64 ((i : Int) + 1) = ((i + 1 : Nat) : Int) from ww (by omega) (by omega))
          have HM := Aside0.mk hM
          have c0 : decide ((a : Int) < (j : Int)) = true := decide_eq_true (by omega)
          have c0' : decide (a < j) = true := decide_eq_true (by omega)
          have b1 : (0 : Int) ≤ (j : Int) := by omega
          have b2 : (j : Int) < (xs.length : Int) := by omega
          have b3 : (0 : Int) ≤ (m : Int) := by omega
          have b4 : (m : Int) < (xs.length : Int) := by omega
          have b5 : (0 : Int) ≤ (j : Int) - 1 := by omega
          have b6 : (j : Int) - 1 < (xs.length : Int) := by omega
          have b7 : (1 : Int) ≤ (j : Int) := by omega
          have n1 : j ≠ m := by omega
          have n2 : m ≠ j := by omega
          have e1 : (j : Int) - 1 = (m : Int) := by omega
          have e4 : ((j : Int) - 1).toNat = m := by omega
          have e3 : IntKind.i64.wrap ((j : Int) - 1) = (m : Int) := wk (by omega) (by omega)
          have e5 : IntKind.i64.wrap (m : Int) = (m : Int) := wk rfl (by omega)
          have e2 : wrap64 ((j : Int) - 1) = (m : Int) := ww (by omega) (by omega)
          have e6 : wrap64 (m : Int) = (m : Int) := ww rfl (by omega)
          clear hM hb hm hyl hzl fj fm hstep hiy hlast haj hji hj0 hi1 hi2 hab h9 B1 hzs hlt
          obtain ⟨x, hx⟩ : ∃ x, at_ zs j = x := ⟨_, rfl⟩
          obtain ⟨y, hy⟩ : ∃ y, at_ zs m = y := ⟨_, rfl⟩
          rw [hx] at z0 HX HFJ
          rw [hy] at z2 HY HFM
          have HXE := Aside0.mk hx
          have HYE := Aside0.mk hy
          clear hx hy
          go_wp2_with fail
          go_region_held3 (fun W => W.cell? ⟨go, j, none⟩ = some (.int .i64 x) ∧ W.cell? ⟨go, m, none⟩ = some (.int .i64 y))
            (first
              | exact ⟨z0, z2⟩
              | exact ⟨zz0, zz2⟩
              | (go_split_ands; refine ⟨?_, ?_⟩ <;> assumption))
            (first
              | (go_at_call 39
                 refine (HC.out _ zs x y HM.out.drew HX.out HY.out).mono ?_
                 rintro e w2 ⟨rfl, hM⟩
                 have HM2 := Aside0.mk hM
                 obtain ⟨zz0, zz1⟩ := cell2 hM (k := j) HJL.out
                 obtain ⟨zz2, zz3⟩ := cell2 hM (k := m) HML.out
                 rw [HXE.out] at zz0
                 rw [HYE.out] at zz2
                 have hs := sw_put hM j m
                 rw [HST.out, HXE.out, HYE.out] at hs
                 have HS := Aside0.mk hs
                 clear hM hs))
          by_cases hc : cf x y < 0
          · have d1 : decide (cf x y < 0) = true := decide_eq_true hc
            have HCX := Aside0.mk hc
            clear hc
            go_wp2_with fail
            · go_region
              go_wp2_with fail
              refine ⟨⟨m, HJM.out.1, HJM.out.2.1, rfl, .inr (by rw [← HFJ.out, ← HFM.out]; exact HCX.out), HS.out.drew⟩, ?_⟩
              have := HJM.out
              simp [intOf]; omega
            · rename_i hge
              have := HCX.out
              omega
          · have d1 : decide (cf x y < 0) = false := decide_eq_false hc
            have HCX := Aside0.mk hc
            have hge : 0 ≤ cf x y := by clear e1 e2 e3 e4 e5 e6; omega
            go_wp2_with fail
            first
              | rw [HW.out]
              | skip
            exact ⟨⟨i + 1, _, by have := HLT.out; omega, by have := HLT.out; omega, rfl, HDN.out (by rw [← HFJ.out, ← HFM.out]; exact HCX.out), by rw [← HZ.out]; exact HM2.out⟩, meas rfl HLT.out.1⟩
    · obtain rfl : i = b := by omega
      have HM := Aside0.mk hM
      have HI := Aside0.mk hins
      clear hM hins
      go_wp2_with fail
      go_end0
      exact ⟨rfl, _, HI.out, HM.out⟩
end Go.Proofs.Ytlklcfaejmeljaa.St
