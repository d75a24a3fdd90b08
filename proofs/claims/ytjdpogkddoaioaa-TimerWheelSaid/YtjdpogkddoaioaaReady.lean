/- What Ready does. -/
import Derived.Test.YtjdpogkddoaioaaSortD
import Derived.Test.YtjdpogkddoaioaaFire
namespace Go.Proofs.Ytjdpogkddoaioaa.QWh
open Go.RowKit Go.Proofs.YtjdpogkddoaioaaW.PrintWords Go.Proofs.YtjdpogkddoaioaaW.PrintLast Go.Proofs.YtjdpogkddoaioaaW.PrintMore Go.Proofs.Ytjdpogkddoaioaa.Sl
set_option linter.unusedVariables false
set_option linter.unusedSimpArgs false

/-- The tasks below j that are due. -/
def dueW (ps ns : List Int) (lo : Int) : Nat → List Int
  | 0 => []
  | j + 1 => if ps.getD j 0 ≠ 0 ∧ ns.getD j 0 ≤ lo then dueW ps ns lo j ++ [(j : Int)] else dueW ps ns lo j
theorem due_len (ps ns : List Int) (lo : Int) : ∀ j, (dueW ps ns lo j).length ≤ j
  | 0 => Nat.le_refl _
  | j + 1 => by
    have := due_len ps ns lo j
    unfold dueW
    split
    · rw [List.length_append, List.length_singleton]; omega
    · omega
theorem due_in (ps ns : List Int) (lo : Int) : ∀ j, ∀ x ∈ dueW ps ns lo j, 0 ≤ x ∧ x < (j : Int)
  | 0, x, h => by cases h
  | j + 1, x, h => by
    unfold dueW at h
    split at h
    · rcases List.mem_append.mp h with h | h
      · have := due_in ps ns lo j x h; omega
      · rw [List.mem_singleton] at h; omega
    · have := due_in ps ns lo j x h; omega
def readyW (ps ns : List Int) (lo : Int) : List Int := srt (cfR ns) (dueW ps ns lo ps.length) (dueW ps ns lo ps.length).length
theorem due_f (n lo hi : Int) : timer_Due.f n lo hi = some (decide (n ≤ lo)) := rfl

/-- What is there during the loop: the list so far, the wheel, the two boxes. -/
@[reducible] def rdyM (w0 : World) (v : Value) (xs : List Int) (g gb gi : Nat) (vp vn : Value) (ps ns : List Int) (lo hi : Int) (L : List Chunk) : List Chunk :=
  srtM w0 v xs g gb vp vn ps ns (blk gi #[.int .i64 lo, .int .i64 hi] 23 :: L)
def RdyRel (w0 : World) (g gb gi : Nat) (vp vn : Value) (ps ns : List Int) (lo hi : Int) (L : List Chunk) (v5 v13 : Value) (wr : World) : Prop :=
  ∃ j : Nat, j ≤ ps.length ∧ v13 = .int .i64 (j : Int) ∧ Mem w0 wr (rdyM w0 v5 (dueW ps ns lo j) g gb gi vp vn ps ns lo hi L)
theorem perm5 (gi gb a b c : Chunk) (L : List Chunk) : (gi :: gb :: a :: b :: c :: L).Perm (a :: b :: c :: gb :: gi :: L) :=
  List.Perm.append_right L (l₁ := [gi, gb, a, b, c]) (l₂ := [a, b, c, gb, gi]) ((List.perm_append_comm (l₁ := [gi, gb]) (l₂ := [a, b, c])).trans ((List.Perm.swap gb gi []).append_left [a, b, c]))
theorem perm6 (gi gb r a b c : Chunk) (L : List Chunk) : (r :: a :: b :: c :: gb :: gi :: L).Perm (gb :: gi :: r :: a :: b :: c :: L) :=
  List.Perm.append_right L (l₁ := [r, a, b, c, gb, gi]) (l₂ := [gb, gi, r, a, b, c]) (List.perm_append_comm (l₁ := [r, a, b, c]) (l₂ := [gb, gi]))
theorem perm6' (gi gb r a b c : Chunk) (L : List Chunk) : (r :: a :: b :: c :: gb :: gi :: L).Perm (gi :: gb :: r :: a :: b :: c :: L) := (perm6 gi gb r a b c L).trans (List.Perm.swap gi gb _)
set_option maxHeartbeats 8000000 in
theorem Ready {w0 w : World} {g : Nat} {vp vn : Value} {ps ns : List Int} {L : List Chunk} (lo hi : Int) (hl : ns.length = ps.length) (h20 : ps.length ≤ 20) (hM : Mem w0 w (wheel w0 g vp vn ps ns L)) :
    Calls Try.prog 26 #[.pointer (some ⟨g, 0, none⟩), .agg #[.int .i64 lo, .int .i64 hi]] w fun e w' => ∃ v, e = .returned v ∧ Mem w0 w' (row w0 (Kd.int .i64) 3 v (readyW ps ns lo) :: wheel w0 g vp vn ps ns L) := by
  obtain ⟨A, c, hvp, _⟩ := hM.drop.reads
  subst hvp
  have hM1 := hM.new (.cells #[.pointer (some ⟨g, 0, none⟩)] 40)
  have hM2 := (hM1.new_ (g := w.heap.size + 1) (.cells #[.int .i64 lo, .int .i64 hi] 23) (by simp)).perm (perm5 _ _ _ _ _ _)
  have hM3 := hM2.row_nil (Kd.int .i64) 3
  have HM := Aside0.mk hM3
  have HL := Aside0.mk hl
  have hx := wheel_cells hM2
  have y0 := hx.1
  have hb := (hM3.perm (perm6 _ _ _ _ _ _ _)).get
  have y2 := blk_cell hb 0
  clear hM hM1 hM2 hM3 hl hx hb
  go_enter Try.func26, Try.ntmps26
  go_wp2_with fail
  clear y0 y2
  generalize hgb : w.heap.size = gb at *
  go_loopw [5, 13] (fun v5 v13 wr => RdyRel w0 g gb (gb + 1) (.slice A ps.length c) vn ps ns lo hi L v5 v13 wr) (fun _ i _ => ps.length - (intOf i).toNat)
  case atStart => exact ⟨0, Nat.zero_le _, rfl, HM.out⟩
  case round =>
    obtain ⟨j, hj, rfl, hM⟩ := hrel
    clear HM
    --GEN
    by_cases hlt : j < ps.length
    · have hC := hM.drop.drop.readsE
      obtain ⟨b, o, rfl, x0⟩ := cell_at hM hC.2 hlt
      have hjn : j < ns.length := by have := HL.out; omega
      obtain ⟨gn, cn, rfl, _⟩ := hM.drop.drop.drop.row_form (by omega)
      obtain ⟨x1, _⟩ := hM.drop.drop.drop.row_cell (0 : Int) j hjn
      have hx := wheel_cells hM.drop
      have y1 := hx.2.1
      have hb := (hM.perm (perm6 _ _ _ _ _ _ _)).get
      have y2 := blk_cell hb 0
      have hb' := (hM.perm (perm6' _ _ _ _ _ _ _)).get
      have y3 := blk_cell hb' 0
      have y4 := blk_cell hb' 1
      have HDUE := Aside0.mk (show dueW ps ns lo (j + 1) = if ps.getD j 0 ≠ 0 ∧ ns.getD j 0 ≤ lo then dueW ps ns lo j ++ [(j : Int)] else dueW ps ns lo j from rfl)
      have HLEN := Aside0.mk (due_len ps ns lo j)
      have HM := Aside0.mk hM
      have b1 : (j : Int) < (ps.length : Int) := by omega
      have b2 : (j : Int) < (ns.length : Int) := by omega
      have b3 : (0 : Int) ≤ (j : Int) := by omega
      clear hM hC hx hb hb'
      generalize hpe : ps.getD j 0 = p at *
      generalize hne : ns.getD j 0 = n at *
      clear hpe hne
      by_cases hp : p = 0
      · subst hp
        go_wp2_with fail
        refine wp_region_held_drew (S := fun W => True) (by kernel_rfl) trivial (fun hS => ?_)
        refine wpAnyH_take (i := 0) (oi := { dst := some 18, op := Op.move (Operand.tmp 7), type := 3, pos := "timer.go:85", after := #[], guard := none }) (v := ?_) rfl (by kernel_rfl) (by kernel_rfl) (by kernel_rfl) (fun _ _ _ h => h) (Or.inl ⟨by rfl, ?_⟩) hS ?_
        rotate_left
        · intro W_ hSW_
          go_simp
          try with_reducible rfl
        try simp only [Act.put, List.setIfInBounds_toArray, List.set_cons_zero, List.set_cons_succ]
        refine wpAnyH_take (i := 1) (oi := { dst := some 19, op := Op.binOp BinOp.neq 3 (Operand.tmp 18) (Operand.const (Value.int IntKind.i64 0)) 3, type := 4, pos := "timer.go:85", after := #[{ on := 0, ground := Ground.data }], guard := none }) (v := ?_) rfl (by kernel_rfl) (by kernel_rfl) (by kernel_rfl) (fun _ _ _ h => h) (Or.inl ⟨by rfl, ?_⟩) hS ?_
        rotate_left
        · intro W_ hSW_
          go_simp
          try with_reducible rfl
        try simp only [Act.put, List.setIfInBounds_toArray, List.set_cons_zero, List.set_cons_succ]
        refine wpAnyH_take (i := 2) (oi := { dst := some 20, op := Op.move (Operand.tmp 19), type := 4, pos := "timer.go:85", after := #[{ on := 1, ground := Ground.data }], guard := none }) (v := ?_) rfl (by kernel_rfl) (by kernel_rfl) (by kernel_rfl) (fun _ _ _ h => h) (Or.inl ⟨by rfl, ?_⟩) hS ?_
        rotate_left
        · intro W_ hSW_
          go_simp
          try with_reducible rfl
        try simp only [Act.put, List.setIfInBounds_toArray, List.set_cons_zero, List.set_cons_succ]
        refine wpAnyH_take (i := 3) (oi := { dst := some 21, op := Op.load 40 (Operand.tmp 2), type := 40, pos := "timer.go:85", after := #[{ on := 2, ground := Ground.guard }], guard := some (2, true) }) (v := undef) rfl (by kernel_rfl) (by kernel_rfl) (by kernel_rfl) (fun _ _ _ h => h) (Or.inr ⟨by rfl, rfl⟩) hS ?_
        try simp only [Act.put, List.setIfInBounds_toArray, List.set_cons_zero, List.set_cons_succ]
        refine wpAnyH_take (i := 4) (oi := { dst := some 22, op := Op.nilCheck (Operand.tmp 21), type := 0, pos := "timer.go:85", after := #[{ on := 3, ground := Ground.data }, { on := 2, ground := Ground.guard }], guard := some (2, true) }) (v := undef) rfl (by kernel_rfl) (by kernel_rfl) (by kernel_rfl) (fun _ _ _ h => h) (Or.inr ⟨by rfl, rfl⟩) hS ?_
        try simp only [Act.put, List.setIfInBounds_toArray, List.set_cons_zero, List.set_cons_succ]
        refine wpAnyH_take (i := 5) (oi := { dst := some 23, op := Op.fieldAddr 67 (Operand.tmp 22) 1, type := 0, pos := "timer.go:85", after := #[{ on := 4, ground := Ground.data }, { on := 2, ground := Ground.guard }], guard := some (2, true) }) (v := undef) rfl (by kernel_rfl) (by kernel_rfl) (by kernel_rfl) (fun _ _ _ h => h) (Or.inr ⟨by rfl, rfl⟩) hS ?_
        try simp only [Act.put, List.setIfInBounds_toArray, List.set_cons_zero, List.set_cons_succ]
        refine wpAnyH_take (i := 6) (oi := { dst := some 24, op := Op.load 34 (Operand.tmp 23), type := 34, pos := "timer.go:85", after := #[{ on := 5, ground := Ground.data }, { on := 2, ground := Ground.guard }], guard := some (2, true) }) (v := undef) rfl (by kernel_rfl) (by kernel_rfl) (by kernel_rfl) (fun _ _ _ h => h) (Or.inr ⟨by rfl, rfl⟩) hS ?_
        try simp only [Act.put, List.setIfInBounds_toArray, List.set_cons_zero, List.set_cons_succ]
        refine wpAnyH_take (i := 7) (oi := { dst := some 25, op := Op.move (Operand.tmp 6), type := 3, pos := "timer.go:85", after := #[{ on := 2, ground := Ground.guard }], guard := some (2, true) }) (v := undef) rfl (by kernel_rfl) (by kernel_rfl) (by kernel_rfl) (fun _ _ _ h => h) (Or.inr ⟨by rfl, rfl⟩) hS ?_
        try simp only [Act.put, List.setIfInBounds_toArray, List.set_cons_zero, List.set_cons_succ]
        refine wpAnyH_take (i := 8) (oi := { dst := some 26, op := Op.indexAddr 34 (Operand.tmp 24) (Operand.tmp 25), type := 0, pos := "timer.go:85", after := #[{ on := 6, ground := Ground.data }, { on := 7, ground := Ground.data }, { on := 2, ground := Ground.guard }], guard := some (2, true) }) (v := undef) rfl (by kernel_rfl) (by kernel_rfl) (by kernel_rfl) (fun _ _ _ h => h) (Or.inr ⟨by rfl, rfl⟩) hS ?_
        try simp only [Act.put, List.setIfInBounds_toArray, List.set_cons_zero, List.set_cons_succ]
        refine wpAnyH_take (i := 9) (oi := { dst := some 27, op := Op.load 2 (Operand.tmp 26), type := 2, pos := "timer.go:85", after := #[{ on := 8, ground := Ground.data }, { on := 2, ground := Ground.guard }], guard := some (2, true) }) (v := undef) rfl (by kernel_rfl) (by kernel_rfl) (by kernel_rfl) (fun _ _ _ h => h) (Or.inr ⟨by rfl, rfl⟩) hS ?_
        try simp only [Act.put, List.setIfInBounds_toArray, List.set_cons_zero, List.set_cons_succ]
        refine wpAnyH_take (i := 10) (oi := { dst := some 28, op := Op.load 23 (Operand.tmp 3), type := 23, pos := "timer.go:85", after := #[{ on := 2, ground := Ground.guard }], guard := some (2, true) }) (v := undef) rfl (by kernel_rfl) (by kernel_rfl) (by kernel_rfl) (fun _ _ _ h => h) (Or.inr ⟨by rfl, rfl⟩) hS ?_
        try simp only [Act.put, List.setIfInBounds_toArray, List.set_cons_zero, List.set_cons_succ]
        refine wpAnyH_take (i := 11) (oi := { dst := some 29, op := Op.call { callee := Callee.value (Operand.func 16), args := #[Operand.tmp 27, Operand.tmp 28], argTypes := #[2, 23] }, type := 4, pos := "timer.go:85", after := #[{ on := 9, ground := Ground.data }, { on := 10, ground := Ground.data }, { on := 2, ground := Ground.chain }, { on := 2, ground := Ground.guard }], guard := some (2, true) }) (v := undef) rfl (by kernel_rfl) (by kernel_rfl) (by kernel_rfl) (fun _ _ _ h => h) (Or.inr ⟨by rfl, rfl⟩) hS ?_
        try simp only [Act.put, List.setIfInBounds_toArray, List.set_cons_zero, List.set_cons_succ]
        refine wpAnyH_take (i := 12) (oi := { dst := some 30, op := Op.pick (Operand.tmp 20) (Operand.tmp 29) (Operand.const (Value.bool false)), type := 4, pos := "timer.go:85", after := #[{ on := 2, ground := Ground.data }, { on := 11, ground := Ground.data }], guard := none }) (v := ?_) rfl (by kernel_rfl) (by kernel_rfl) (by kernel_rfl) (fun _ _ _ h => h) (Or.inl ⟨by rfl, ?_⟩) hS ?_
        rotate_left
        · intro W_ hSW_
          go_simp
          try with_reducible rfl
        try simp only [Act.put, List.setIfInBounds_toArray, List.set_cons_zero, List.set_cons_succ]
        refine wpAnyH_done (by kernel_rfl) ?_ _
        go_wp2_with fail
        go_roundw
        case rel => exact ⟨j + 1, by omega, by go_num, by rw [HDUE.out, if_neg (fun h => h.1 rfl)]; exact HM.out.drew⟩
        case measure => simp [intOf]; omega
      · have q1 : (p == 0) = false := beq_eq_false_iff_ne.2 hp
        have q2 : decide (p = 0) = false := decide_eq_false hp
        have q3 : (p != 0) = true := bne_iff_ne.2 hp
        have HP := Aside0.mk hp
        clear hp
        go_wp2_with fail
        go_region_held3 (fun W => W.cell? ⟨gb, 0, none⟩ = some (.pointer (some ⟨g, 0, none⟩)) ∧ W.cell? ⟨g, 1, none⟩ = some (.slice (some ⟨gn, 0, none⟩) ns.length cn) ∧ W.cell? ⟨gn, j, none⟩ = some (.int .i64 n) ∧ W.cell? ⟨gb + 1, 0, none⟩ = some (.int .i64 lo) ∧ W.cell? ⟨gb + 1, 1, none⟩ = some (.int .i64 hi))
          (first
            | exact ⟨y2, y1, x1, y3, y4⟩
            | (go_split_ands; refine ⟨?_, ?_, ?_, ?_, ?_⟩ <;> exact pw_cell_below hb3 (by assumption)))
          (first
            | (go_at_call 16
               refine (timer_Due.calls n lo hi _ _ (due_f n lo hi)).mono ?_
               rintro e w2 ⟨rfl, hb3⟩
               have HM2 := Aside0.mk (HM.out.drew.step hb3)))
        by_cases hd : n ≤ lo
        · have d1 : decide (n ≤ lo) = true := decide_eq_true hd
          have HD := Aside0.mk hd
          go_wp2_with (((with_reducible refine gate_builtin (b := .append) (xs := #[.tmp 31, .tmp 33]) rfl ?_); at_builtin
                        refine Mem.wp_append (Kd.int .i64) (w0 := w0) rfl (.tmp 31) (.tmp 33) 39 3 (.int .i64 0) 8 rfl Try.underlying39 info3 rfl (by decide) (by decide) _ (dueW ps ns lo j) (j : Int) [.int .i64 (j : Int)] rfl _ rfl (by simp) rfl HM2.out (by have := HLEN.out; omega) ?_
                        intro v1 w3 hm
                        have HM3 := Aside0.mk hm
                        clear hm))
          go_roundw
          case rel => exact ⟨j + 1, by omega, by go_num, by rw [HDUE.out, if_pos ⟨HP.out, HD.out⟩]; exact HM3.out⟩
          case measure => simp [intOf]; omega
        · have d1 : decide (n ≤ lo) = false := decide_eq_false hd
          have HD := Aside0.mk hd
          have hd' : lo < n := by omega
          go_wp2_with fail
          go_roundw
          case rel => exact ⟨j + 1, by omega, by go_num, by rw [HDUE.out, if_neg (fun h => HD.out h.2)]; exact HM2.out⟩
          case measure => simp [intOf]; omega
    · have hjl : j = ps.length := by omega
      subst hjl
      clear hlt
      by_cases hz : (dueW ps ns lo ps.length).length = 0
      · obtain ⟨Av, cv, rfl, _⟩ := hM.readsN (n := 0) hz
        have HZ := Aside0.mk hz
        have HM := Aside0.mk hM
        clear hM hz
        go_wp2_with fail
        refine (SortStable0 _).mono ?_
        rintro e w2 ⟨rfl, hw⟩
        subst hw
        go_wp2_with fail
        go_ret
        have h := ((HM.out.perm (perm6 _ _ _ _ _ _ _)).drop).drop
        refine ⟨_, rfl, ?_⟩
        unfold readyW
        rw [HZ.out]
        exact h
      · obtain ⟨gv, cv, rfl, _⟩ := hM.row_form (by omega)
        have HM := Aside0.mk hM
        have HIN := Aside0.mk (show inW ns (dueW ps ns lo ps.length) from fun x hx => by have := due_in ps ns lo ps.length x hx; have := HL.out; omega)
        have hn0 : 0 < (dueW ps ns lo ps.length).length := by omega
        have hn20 : (dueW ps ns lo ps.length).length ≤ 20 := by have := due_len ps ns lo ps.length; omega
        clear hM hz
        go_wp2_with fail
        refine (SortStable hn0 hn20 HIN.out HM.out).mono ?_
        rintro e w2 ⟨rfl, hM⟩
        have HM2 := Aside0.mk hM
        clear hM
        go_wp2_with fail
        go_ret
        exact ⟨_, rfl, ((HM2.out.perm (perm6 _ _ _ _ _ _ _)).drop).drop⟩
end Go.Proofs.Ytjdpogkddoaioaa.QWh
