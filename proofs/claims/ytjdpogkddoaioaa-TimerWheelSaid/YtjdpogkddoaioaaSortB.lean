/- slices.SortStableFunc on at most 20 elements: the walk. -/
import Derived.Test.YtjdpogkddoaioaaSort
namespace Go.Proofs.Ytjdpogkddoaioaa.QWh
open Go.RowKit Go.Proofs.YtjdpogkddoaioaaW.PrintWords Go.Proofs.YtjdpogkddoaioaaW.PrintLast Go.Proofs.YtjdpogkddoaioaaW.PrintMore Go.Proofs.Ytjdpogkddoaioaa.Sl
set_option linter.unusedVariables false
set_option linter.unusedSimpArgs false

/-- By the releases. -/
def cfR (ns : List Int) (x y : Int) : Int := cmpI (ns.getD x.toNat 0) (ns.getD y.toNat 0)
/-- What is in memory during the sort: the row, the wheel, the box of the wheel's pointer. -/
@[reducible] def srtM (w0 : World) (v : Value) (xs : List Int) (g gb : Nat) (vp vn : Value) (ps ns : List Int) (L : List Chunk) : List Chunk :=
  row w0 (Kd.int .i64) 3 v xs :: wheel w0 g vp vn ps ns (blk gb #[.pointer (some ⟨g, 0, none⟩)] 40 :: L)
def inW (ns : List Int) (xs : List Int) : Prop := ∀ x ∈ xs, 0 ≤ x ∧ x < (ns.length : Int)
theorem srt_in {ns xs : List Int} (h : inW ns xs) {i : Nat} (hi : i ≤ xs.length) : inW ns (srt (cfR ns) xs i) := fun x hx => h x (srt_mem _ xs i hi x hx)
theorem cmp_call {w0 w : World} {v : Value} {xs : List Int} {g gb : Nat} {vp vn : Value} {ps ns : List Int} {L : List Chunk} (x y : Int) (hx : 0 ≤ x ∧ x < (ns.length : Int)) (hy : 0 ≤ y ∧ y < (ns.length : Int)) (hM : Mem w0 w (srtM w0 v xs g gb vp vn ps ns L)) :
    Calls Try.prog 43 #[.int .i64 x, .int .i64 y, .pointer (some ⟨gb, 0, none⟩)] w fun e w' => e = .returned (.int .i64 (cfR ns x y)) ∧ Mem w0 w' (srtM w0 v xs g gb vp vn ps ns L) := by
  obtain ⟨a, rfl⟩ := Int.eq_ofNat_of_zero_le hx.1
  obtain ⟨b, rfl⟩ := Int.eq_ofNat_of_zero_le hy.1
  refine (lessReady (gb := gb) a b (by omega) (by omega) hM.drop (blk_cell (hM.c4.get) 0)).mono ?_
  rintro e w' ⟨rfl, hb⟩
  exact ⟨by unfold cfR; rw [Int.toNat_natCast, Int.toNat_natCast], hM.step hb⟩

def OutRel (w0 : World) (v : Value) (xs : List Int) (g gb : Nat) (vp vn : Value) (ps ns : List Int) (L : List Chunk) (v8 : Value) (wr : World) : Prop :=
  ∃ i : Nat, 1 ≤ i ∧ i ≤ xs.length ∧ v8 = .int .i64 (i : Int) ∧ Mem w0 wr (srtM w0 v (srt (cfR ns) xs i) g gb vp vn ps ns L)
def InRel (w0 : World) (v : Value) (xs : List Int) (i : Nat) (g gb : Nat) (vp vn : Value) (ps ns : List Int) (L : List Chunk) (v9 : Value) (wr : World) : Prop :=
  ∃ (j : Nat) (ys : List Int), j ≤ i ∧ v9 = .int .i64 (j : Int) ∧ ys.length = xs.length ∧ inW ns ys ∧ insJ (cfR ns) ys j = srt (cfR ns) xs (i + 1) ∧ Mem w0 wr (srtM w0 v ys g gb vp vn ps ns L)
set_option maxHeartbeats 8000000 in
theorem insSort {w0 w : World} {go c : Nat} {xs : List Int} {g gb : Nat} {vp vn : Value} {ps ns : List Int} {L : List Chunk} (hn : 0 < xs.length) (h20 : xs.length ≤ 1000) (hin : inW ns xs) (hM : Mem w0 w (srtM w0 (.slice (some ⟨go, 0, none⟩) xs.length c) xs g gb vp vn ps ns L)) :
    Calls Try.prog 47 #[.slice (some ⟨go, 0, none⟩) xs.length c, .int .i64 0, .int .i64 (xs.length : Int), .func (.func 43) #[] #[.pointer (some ⟨gb, 0, none⟩)]] w fun e w' => e = .returned (.tuple #[]) ∧ Mem w0 w' (srtM w0 (.slice (some ⟨go, 0, none⟩) xs.length c) (srt (cfR ns) xs xs.length) g gb vp vn ps ns L) := by
  have HM := Aside0.mk hM
  have HIN := Aside0.mk hin
  clear hM hin
  go_enter Try.func47, Try.ntmps47
  go_wp2_with fail
  go_loopw [8] (fun v8 wr => OutRel w0 (.slice (some ⟨go, 0, none⟩) xs.length c) xs g gb vp vn ps ns L v8 wr) (fun i _ => xs.length - (intOf i).toNat)
  case atStart => exact ⟨1, Nat.le_refl _, hn, rfl, HM.out⟩
  case round =>
    obtain ⟨i, hi1, hi2, rfl, hM⟩ := hrel
    clear HM
    by_cases hlt : i < xs.length
    · have HM := Aside0.mk hM
      clear hM
      go_wp2_with fail
      go_loopw [9] (fun v9 wr => InRel w0 (.slice (some ⟨go, 0, none⟩) xs.length c) xs i g gb vp vn ps ns L v9 wr) (fun j _ => (intOf j).toNat)
      case atStart => exact ⟨i, _, Nat.le_refl _, rfl, srt_len _ _ _, srt_in HIN.out (by omega), rfl, HM.out⟩
      case round =>
        obtain ⟨j, ys, hji, rfl, hlen, hiny, hins, hM⟩ := hrel
        clear HM
        by_cases hj0 : j = 0
        · have c0 : decide ((0 : Int) < (j : Int)) = false := decide_eq_false (by omega)
          have c0' : decide (0 < j) = false := decide_eq_false (by omega)
          have HJ := Aside0.mk hj0
          clear hj0
          have HM := Aside0.mk hM
          have HINS := Aside0.mk hins
          clear hM hins
          --GEN
          go_wp2_with fail
          refine wp_region_held_drew (S := fun W => True) (by kernel_rfl) trivial (fun hS => ?_)
          refine wpAnyH_take (i := 0) (oi := { dst := some 18, op := Op.move (Operand.tmp 9), type := 3, pos := "zsortanyfunc.go:12", after := #[], guard := none }) (v := ?_) rfl (by kernel_rfl) (by kernel_rfl) (by kernel_rfl) (fun _ _ _ h => h) (Or.inl ⟨by rfl, ?_⟩) hS ?_
          rotate_left
          · intro W_ hSW_
            go_simp
            try with_reducible rfl
          try simp only [Act.put, List.setIfInBounds_toArray, List.set_cons_zero, List.set_cons_succ]
          refine wpAnyH_take (i := 1) (oi := { dst := some 19, op := Op.move (Operand.tmp 1), type := 3, pos := "zsortanyfunc.go:12", after := #[], guard := none }) (v := ?_) rfl (by kernel_rfl) (by kernel_rfl) (by kernel_rfl) (fun _ _ _ h => h) (Or.inl ⟨by rfl, ?_⟩) hS ?_
          rotate_left
          · intro W_ hSW_
            go_simp
            try with_reducible rfl
          try simp only [Act.put, List.setIfInBounds_toArray, List.set_cons_zero, List.set_cons_succ]
          refine wpAnyH_take (i := 2) (oi := { dst := some 20, op := Op.binOp BinOp.gtr 3 (Operand.tmp 18) (Operand.tmp 19) 3, type := 4, pos := "zsortanyfunc.go:12", after := #[{ on := 0, ground := Ground.data }, { on := 1, ground := Ground.data }], guard := none }) (v := ?_) rfl (by kernel_rfl) (by kernel_rfl) (by kernel_rfl) (fun _ _ _ h => h) (Or.inl ⟨by rfl, ?_⟩) hS ?_
          rotate_left
          · intro W_ hSW_
            go_simp
            try with_reducible rfl
          try simp only [Act.put, List.setIfInBounds_toArray, List.set_cons_zero, List.set_cons_succ]
          refine wpAnyH_take (i := 3) (oi := { dst := some 21, op := Op.move (Operand.tmp 20), type := 4, pos := "zsortanyfunc.go:12", after := #[{ on := 2, ground := Ground.data }], guard := none }) (v := ?_) rfl (by kernel_rfl) (by kernel_rfl) (by kernel_rfl) (fun _ _ _ h => h) (Or.inl ⟨by rfl, ?_⟩) hS ?_
          rotate_left
          · intro W_ hSW_
            go_simp
            try with_reducible rfl
          try simp only [Act.put, List.setIfInBounds_toArray, List.set_cons_zero, List.set_cons_succ]
          refine wpAnyH_take (i := 4) (oi := { dst := some 22, op := Op.move (Operand.tmp 3), type := 73, pos := "zsortanyfunc.go:12", after := #[{ on := 3, ground := Ground.guard }], guard := some (3, true) }) (v := undef) rfl (by kernel_rfl) (by kernel_rfl) (by kernel_rfl) (fun _ _ _ h => h) (Or.inr ⟨by rfl, rfl⟩) hS ?_
          try simp only [Act.put, List.setIfInBounds_toArray, List.set_cons_zero, List.set_cons_succ]
          refine wpAnyH_take (i := 5) (oi := { dst := some 23, op := Op.move (Operand.tmp 0), type := 39, pos := "zsortanyfunc.go:12", after := #[{ on := 3, ground := Ground.guard }], guard := some (3, true) }) (v := undef) rfl (by kernel_rfl) (by kernel_rfl) (by kernel_rfl) (fun _ _ _ h => h) (Or.inr ⟨by rfl, rfl⟩) hS ?_
          try simp only [Act.put, List.setIfInBounds_toArray, List.set_cons_zero, List.set_cons_succ]
          refine wpAnyH_take (i := 6) (oi := { dst := some 24, op := Op.move (Operand.tmp 9), type := 3, pos := "zsortanyfunc.go:12", after := #[{ on := 3, ground := Ground.guard }], guard := some (3, true) }) (v := undef) rfl (by kernel_rfl) (by kernel_rfl) (by kernel_rfl) (fun _ _ _ h => h) (Or.inr ⟨by rfl, rfl⟩) hS ?_
          try simp only [Act.put, List.setIfInBounds_toArray, List.set_cons_zero, List.set_cons_succ]
          refine wpAnyH_take (i := 7) (oi := { dst := some 25, op := Op.indexAddr 39 (Operand.tmp 23) (Operand.tmp 24), type := 0, pos := "zsortanyfunc.go:12", after := #[{ on := 5, ground := Ground.data }, { on := 6, ground := Ground.data }, { on := 3, ground := Ground.guard }], guard := some (3, true) }) (v := undef) rfl (by kernel_rfl) (by kernel_rfl) (by kernel_rfl) (fun _ _ _ h => h) (Or.inr ⟨by rfl, rfl⟩) hS ?_
          try simp only [Act.put, List.setIfInBounds_toArray, List.set_cons_zero, List.set_cons_succ]
          refine wpAnyH_take (i := 8) (oi := { dst := some 26, op := Op.load 3 (Operand.tmp 25), type := 3, pos := "zsortanyfunc.go:12", after := #[{ on := 7, ground := Ground.data }, { on := 3, ground := Ground.guard }], guard := some (3, true) }) (v := undef) rfl (by kernel_rfl) (by kernel_rfl) (by kernel_rfl) (fun _ _ _ h => h) (Or.inr ⟨by rfl, rfl⟩) hS ?_
          try simp only [Act.put, List.setIfInBounds_toArray, List.set_cons_zero, List.set_cons_succ]
          refine wpAnyH_take (i := 9) (oi := { dst := some 27, op := Op.move (Operand.tmp 0), type := 39, pos := "zsortanyfunc.go:12", after := #[{ on := 3, ground := Ground.guard }], guard := some (3, true) }) (v := undef) rfl (by kernel_rfl) (by kernel_rfl) (by kernel_rfl) (fun _ _ _ h => h) (Or.inr ⟨by rfl, rfl⟩) hS ?_
          try simp only [Act.put, List.setIfInBounds_toArray, List.set_cons_zero, List.set_cons_succ]
          refine wpAnyH_take (i := 10) (oi := { dst := some 28, op := Op.move (Operand.tmp 9), type := 3, pos := "zsortanyfunc.go:12", after := #[{ on := 3, ground := Ground.guard }], guard := some (3, true) }) (v := undef) rfl (by kernel_rfl) (by kernel_rfl) (by kernel_rfl) (fun _ _ _ h => h) (Or.inr ⟨by rfl, rfl⟩) hS ?_
          try simp only [Act.put, List.setIfInBounds_toArray, List.set_cons_zero, List.set_cons_succ]
          refine wpAnyH_take (i := 11) (oi := { dst := some 29, op := Op.binOp BinOp.sub 3 (Operand.tmp 28) (Operand.const (Value.int IntKind.i64 1)) 3, type := 3, pos := "zsortanyfunc.go:12", after := #[{ on := 10, ground := Ground.data }, { on := 3, ground := Ground.guard }], guard := some (3, true) }) (v := undef) rfl (by kernel_rfl) (by kernel_rfl) (by kernel_rfl) (fun _ _ _ h => h) (Or.inr ⟨by rfl, rfl⟩) hS ?_
          try simp only [Act.put, List.setIfInBounds_toArray, List.set_cons_zero, List.set_cons_succ]
          refine wpAnyH_take (i := 12) (oi := { dst := some 30, op := Op.indexAddr 39 (Operand.tmp 27) (Operand.tmp 29), type := 0, pos := "zsortanyfunc.go:12", after := #[{ on := 9, ground := Ground.data }, { on := 11, ground := Ground.data }, { on := 3, ground := Ground.guard }], guard := some (3, true) }) (v := undef) rfl (by kernel_rfl) (by kernel_rfl) (by kernel_rfl) (fun _ _ _ h => h) (Or.inr ⟨by rfl, rfl⟩) hS ?_
          try simp only [Act.put, List.setIfInBounds_toArray, List.set_cons_zero, List.set_cons_succ]
          refine wpAnyH_take (i := 13) (oi := { dst := some 31, op := Op.load 3 (Operand.tmp 30), type := 3, pos := "zsortanyfunc.go:12", after := #[{ on := 12, ground := Ground.data }, { on := 3, ground := Ground.guard }], guard := some (3, true) }) (v := undef) rfl (by kernel_rfl) (by kernel_rfl) (by kernel_rfl) (fun _ _ _ h => h) (Or.inr ⟨by rfl, rfl⟩) hS ?_
          try simp only [Act.put, List.setIfInBounds_toArray, List.set_cons_zero, List.set_cons_succ]
          refine wpAnyH_take (i := 14) (oi := { dst := some 32, op := Op.call { callee := Callee.value (Operand.tmp 22), args := #[Operand.tmp 26, Operand.tmp 31], argTypes := #[3, 3] }, type := 3, pos := "zsortanyfunc.go:12", after := #[{ on := 4, ground := Ground.data }, { on := 8, ground := Ground.data }, { on := 13, ground := Ground.data }, { on := 3, ground := Ground.chain }, { on := 3, ground := Ground.guard }], guard := some (3, true) }) (v := undef) rfl (by kernel_rfl) (by kernel_rfl) (by kernel_rfl) (fun _ _ _ h => h) (Or.inr ⟨by rfl, rfl⟩) hS ?_
          try simp only [Act.put, List.setIfInBounds_toArray, List.set_cons_zero, List.set_cons_succ]
          refine wpAnyH_take (i := 15) (oi := { dst := some 33, op := Op.binOp BinOp.lss 3 (Operand.tmp 32) (Operand.const (Value.int IntKind.i64 0)) 3, type := 4, pos := "zsortanyfunc.go:12", after := #[{ on := 14, ground := Ground.data }, { on := 3, ground := Ground.guard }], guard := some (3, true) }) (v := undef) rfl (by kernel_rfl) (by kernel_rfl) (by kernel_rfl) (fun _ _ _ h => h) (Or.inr ⟨by rfl, rfl⟩) hS ?_
          try simp only [Act.put, List.setIfInBounds_toArray, List.set_cons_zero, List.set_cons_succ]
          refine wpAnyH_take (i := 16) (oi := { dst := some 34, op := Op.pick (Operand.tmp 21) (Operand.tmp 33) (Operand.const (Value.bool false)), type := 4, pos := "zsortanyfunc.go:12", after := #[{ on := 3, ground := Ground.data }, { on := 15, ground := Ground.data }], guard := none }) (v := ?_) rfl (by kernel_rfl) (by kernel_rfl) (by kernel_rfl) (fun _ _ _ h => h) (Or.inl ⟨by rfl, ?_⟩) hS ?_
          rotate_left
          · intro W_ hSW_
            go_simp
            try with_reducible rfl
          try simp only [Act.put, List.setIfInBounds_toArray, List.set_cons_zero, List.set_cons_succ]
          refine wpAnyH_done (by kernel_rfl) ?_ _
          go_wp2_with fail
          go_roundw
          case rel => exact ⟨i + 1, by omega, by omega, by go_num, by have h := HINS.out; rw [HJ.out] at h; have h' : ys = srt (cfR ns) xs (i + 1) := h; rw [← h']; exact HM.out.drew⟩
          case measure => simp [intOf]; omega
        · obtain ⟨m, hm⟩ : ∃ m, j = m + 1 := ⟨j - 1, by omega⟩
          have c0 : decide ((0 : Int) < (j : Int)) = true := decide_eq_true (by omega)
          have c0' : decide (0 < j) = true := decide_eq_true (by omega)
          have e1 : (j : Int) - 1 = (m : Int) := by omega
          have e2 : wrap64 ((j : Int) - 1) = (m : Int) := by unfold wrap64; omega
          have e3 : IntKind.i64.wrap ((j : Int) - 1) = (m : Int) := by rw [IntKind.wrap_i64]; omega
          have b1 : (0 : Int) ≤ (j : Int) := by omega
          have b2 : (j : Int) < (xs.length : Int) := by omega
          have b3 : (0 : Int) ≤ (m : Int) := by omega
          have b5 : (0 : Int) ≤ (j : Int) - 1 := by omega
          have b6 : (j : Int) - 1 < (xs.length : Int) := by omega
          have e4 : ((j : Int) - 1).toNat = m := by omega
          have e5 : IntKind.i64.wrap (m : Int) = (m : Int) := by rw [IntKind.wrap_i64]; omega
          have e6 : wrap64 (m : Int) = (m : Int) := by unfold wrap64; omega
          have b7 : (1 : Int) ≤ (j : Int) := by omega
          have b8 : 1 ≤ j := by omega
          have b4 : (m : Int) < (xs.length : Int) := by omega
          have hjl : j < ys.length := by omega
          have hml : m < ys.length := by omega
          obtain ⟨z0, z1⟩ := hM.row_cell (0 : Int) j hjl
          obtain ⟨z2, z3⟩ := hM.row_cell (0 : Int) m hml
          have HX := Aside0.mk (hiny _ (getD_mem hjl))
          have HY := Aside0.mk (hiny _ (getD_mem hml))
          have HEX := Aside0.mk (rfl : ys.getD j 0 = ys.getD j 0)
          have HSTEP : insJ (cfR ns) ys j = if cfR ns (ys.getD j 0) (ys.getD m 0) < 0 then insJ (cfR ns) ((ys.set j (ys.getD m 0)).set m (ys.getD j 0)) m else ys := by rw [hm]; rfl
          have HSW : inW ns ((ys.set j (ys.getD m 0)).set m (ys.getD j 0)) := by
            intro z hz
            rcases List.mem_or_eq_of_mem_set hz with h | h
            · rcases List.mem_or_eq_of_mem_set h with h | h
              · exact hiny z h
              · rw [h]; exact HY.out
            · rw [h]; exact HX.out
          have HSTEP := Aside0.mk HSTEP
          have HSW := Aside0.mk HSW
          have HM := Aside0.mk hM
          have HINS := Aside0.mk hins
          have HMJ := Aside0.mk hm
          have HLEN := Aside0.mk hlen
          clear hM hins hiny hm HEX hlen
          generalize hxe : ys.getD j 0 = x at *
          generalize hye : ys.getD m 0 = y at *
          have HXE := Aside0.mk hxe
          have HYE := Aside0.mk hye
          clear hxe hye
          go_wp2_with fail
          go_region_held3 (fun W => W.cell? ⟨go, j, none⟩ = some (.int .i64 x) ∧ W.cell? ⟨go, m, none⟩ = some (.int .i64 y))
            (first
              | exact ⟨z0, z2⟩
              | exact ⟨zz0, zz2⟩
              | (go_split_ands; refine ⟨?_, ?_⟩ <;> assumption))
            (first
              | (go_at_call 43
                 refine (cmp_call x y HX.out HY.out HM.out.drew).mono ?_
                 rintro e w2 ⟨rfl, hM⟩
                 have HM2 := Aside0.mk hM
                 obtain ⟨zz0, zz1⟩ := hM.row_cell (0 : Int) j hjl
                 obtain ⟨zz2, zz3⟩ := hM.row_cell (0 : Int) m hml
                 rw [HXE.out] at zz0
                 rw [HYE.out] at zz2
                 clear hM))
          by_cases hc : cfR ns x y < 0
          · have d1 : decide (cfR ns x y < 0) = true := decide_eq_true hc
            have HC := Aside0.mk hc
            have hjm : j ≠ m := by omega
            have hmj : m ≠ j := by omega
            clear hc
            go_wp2_with fail
            · go_region
              go_wp2_with fail
              have hs := (HM2.out.row_put j y).row_put m x
              refine ⟨⟨m, (ys.set j y).set m x, by have := HMJ.out; omega, rfl, by rw [List.length_set, List.length_set]; exact HLEN.out, HSW.out, by have h := HINS.out; rw [HSTEP.out, if_pos HC.out] at h; exact h, hs.drew⟩, ?_⟩
              have := HMJ.out
              simp [intOf]; omega
            · rename_i hge
              have := HC.out
              omega
          · have d1 : decide (cfR ns x y < 0) = false := decide_eq_false hc
            have HC := Aside0.mk hc
            have hge : 0 ≤ cfR ns x y := by omega
            go_wp2_with fail
            go_roundw
            case rel => exact ⟨i + 1, by omega, by omega, by go_num, by have h := HINS.out; rw [HSTEP.out, if_neg HC.out] at h; rw [← h]; exact HM2.out⟩
            case measure => simp [intOf]; omega
    · have hil : i = xs.length := by omega
      subst hil
      have HM := Aside0.mk hM
      clear hM
      go_wp2_with fail
      go_end0
      exact ⟨rfl, HM.out⟩
end Go.Proofs.Ytjdpogkddoaioaa.QWh
