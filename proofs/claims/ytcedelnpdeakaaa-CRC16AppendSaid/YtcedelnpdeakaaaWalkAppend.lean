/- CRC16Append: Append answers the reference's bytes, whose checksum is 0, and Check takes it back. -/
import Derived.Test.YtcedelnpdeakaaaQAllx0
import Derived.Test.YtcedelnpdeakaaaQAllx1
import Derived.Test.YtcedelnpdeakaaaQAllx2
import Derived.Test.YtcedelnpdeakaaaQAllx4
import Derived.Test.YtcedelnpdeakaaaCrcLink2
import Derived.Deep.RegionHeld
import Derived.IntWalk
namespace Go.Proofs.Ytcedelnpdeakaaa.QAll
open Go.RowKit Go.Proofs.YtcedelnpdeakaaaW.PrintWords Go.Proofs.YtcedelnpdeakaaaW.PrintLast Go.Proofs.YtcedelnpdeakaaaW.PrintMore
attribute [local go_sem] max2_int min2_int max_two min_two max_three min_three max_four min_four   -- for this text's walks alone
set_option linter.unusedVariables false
set_option linter.unusedSimpArgs false
set_option maxHeartbeats 4000000 in
set_option maxRecDepth 100000 in
theorem append_law (k : Nat) (A0 : Option Addr) (c0 : Nat) (l0 xs : List Int) (w : World) (hr0 : Kd.C (Kd.int .u8) w A0 l0.length l0) (hc0 : l0.length ≤ c0) (hlen : l0.length ≤ 300)
    (hA : crc16_Append.f k l0 = some xs) (hC : crc16_Check.f k xs = some (l0, 0)) (hR : trickleref02_Append.f k l0 = some xs) (hS : crc16_Sum.f k xs = some 0) :
    Calls Try.prog 8 #[.slice A0 l0.length c0] w fun e w' => e = .returned (.bool true) ∧ Below w.heap.size w w' := by
  have HA := Aside0.mk hA
  have HC := Aside0.mk hC
  have HR := Aside0.mk hR
  have HS := Aside0.mk hS
  have HR0 := Aside0.mk hr0
  have HC0 := Aside0.mk hc0
  have c2b0 : decide (300 < (l0.length : Int)) = false := decide_eq_false (by omega)
  have c2b1 : decide (300 < l0.length) = false := decide_eq_false (by omega)
  clear hA hC hR hS hr0 hc0
  have HB := Aside0.mk (Below.refl w.heap.size w)
  go_enter Try.func8, Try.ntmps8
  go_wp2_with fail
  refine (crc16_Append.calls k A0 c0 l0 xs w HR0.out HC0.out HA.out).mono ?_
  rintro e w1 ⟨v1, rfl, ho1, hb1⟩
  have HB1 := Aside0.mk hb1
  obtain ⟨A1, c1, rfl⟩ := Kd.R_slice ho1
  have HX := Aside0.mk (Kd.R_reads' ho1).2
  clear ho1 hb1 HA
  go_wp2_with fail
  refine (crc16_Check.calls k A1 c1 xs l0 0 w1 HX.out.2 HX.out.1 HC.out).mono ?_
  rintro e w2 ⟨v2, rfl, ho2, hb2⟩
  have HB2 := Aside0.mk hb2
  obtain ⟨A2, c2, rfl⟩ := Kd.R_slice ho2
  have HY := Aside0.mk (Kd.R_reads' ho2).2
  clear ho2 hb2 HC
  go_wp2_with fail
  have HB02 := Aside0.mk (below_step HB1.out HB2.out)
  have eX := Aside0.mk fun (W : World) (h : Below w2.heap.size w2 W) => Kd.C_string (P := Try.prog) (c := c1) Try.underlying22 Try.underlying5 Try.underlying9 (Kd.C_below HX.out.2 (below_step HB2.out h))
  have eB := Aside0.mk fun (W : World) (h : Below w2.heap.size w2 W) => Kd.C_string (P := Try.prog) (c := c0) Try.underlying22 Try.underlying5 Try.underlying9 (Kd.C_below HR0.out (below_step HB02.out h))
  have eY := Aside0.mk fun (W : World) (h : Below w2.heap.size w2 W) => Kd.C_string (P := Try.prog) (c := c2) Try.underlying22 Try.underlying5 Try.underlying9 (Kd.C_below HY.out.2 h)
  refine wp_region_held_drew (S := fun W => Below w2.heap.size w2 W) (by kernel_rfl) (below_drew1 (Below.refl _ _)) (fun hS => ?_)
  refine wpAnyH_take (i := 0) (oi := { dst := some 17, op := Op.move (Operand.tmp 3), type := 22, pos := "law.go:40", after := #[], guard := none }) (v := ?_) rfl (by kernel_rfl) (by kernel_rfl) (by kernel_rfl) (fun _ _ _ h => h) (Or.inl ⟨by rfl, ?_⟩) hS ?_
  rotate_left
  · intro W_ hSW_
    go_simp
    try with_reducible rfl
  try simp only [Act.put, List.setIfInBounds_toArray, List.set_cons_zero, List.set_cons_succ]
  refine wpAnyH_take (i := 1) (oi := { dst := some 18, op := Op.convert 22 9 (Operand.tmp 17), type := 9, pos := "law.go:40", after := #[{ on := 0, ground := Ground.data }], guard := none }) (v := ?_) rfl (by kernel_rfl) (by kernel_rfl) (by kernel_rfl) (fun _ _ _ h => h) (Or.inl ⟨by rfl, ?_⟩) hS ?_
  rotate_left
  · intro W_ hSW_
    have e_ := eX.out W_ hSW_
    go_simp
    try with_reducible rfl
  try simp only [Act.put, List.setIfInBounds_toArray, List.set_cons_zero, List.set_cons_succ]
  refine wpAnyH_take (i := 2) (oi := { dst := some 19, op := Op.move (Operand.tmp 0), type := 22, pos := "law.go:40", after := #[], guard := none }) (v := ?_) rfl (by kernel_rfl) (by kernel_rfl) (by kernel_rfl) (fun _ _ _ h => h) (Or.inl ⟨by rfl, ?_⟩) hS ?_
  rotate_left
  · intro W_ hSW_
    go_simp
    try with_reducible rfl
  try simp only [Act.put, List.setIfInBounds_toArray, List.set_cons_zero, List.set_cons_succ]
  refine wpAnyH_ready (rs := [3]) (by kernel_rfl) (by simp) ?_
  refine AllReadyH.cons (o := { dst := some 20, op := Op.call { callee := Callee.value (Operand.func 17), args := #[Operand.tmp 19], argTypes := #[22] }, type := 22, pos := "law.go:40", after := #[{ on := 2, ground := Ground.data }], guard := none }) rfl (fun K_ hK_ => ?_) AllReadyH.nil
  go_simp
  refine (trickleref02_Append.calls k A0 c0 l0 xs _ (Kd.C_below HR0.out (below_step HB02.out hS)) HC0.out HR.out).mono ?_
  rintro e w3 ⟨v3, rfl, ho3, hb3⟩
  have HB3 := Aside0.mk (below_step hS hb3)
  obtain ⟨A3, c3, rfl⟩ := Kd.R_slice ho3
  have HZ := Aside0.mk (Kd.R_reads' ho3).2
  clear ho3 hb3
  refine hK_.out _ _ (HB3.out) (fun hS_ => ?_)
  clear hK_ K_ hS
  have hS := hS_
  clear hS_
  try simp only [Act.put, List.setIfInBounds_toArray, List.set_cons_zero, List.set_cons_succ]
  refine wpAnyH_ready (rs := [4]) (by kernel_rfl) (by simp) ?_
  refine AllReadyH.cons (o := { dst := some 21, op := Op.convert 22 9 (Operand.tmp 20), type := 9, pos := "law.go:40", after := #[{ on := 3, ground := Ground.data }], guard := none }) rfl (fun K_ hK_ => ?_) AllReadyH.nil
  have e_ := Kd.C_string (P := Try.prog) (c := c3) Try.underlying22 Try.underlying5 Try.underlying9 HZ.out.2
  go_simp
  clear e_
  refine hK_.out _ _ (HB3.out) (fun hS_ => ?_)
  clear hK_ K_ hS
  have hS := hS_
  clear hS_
  try simp only [Act.put, List.setIfInBounds_toArray, List.set_cons_zero, List.set_cons_succ]
  refine wpAnyH_take (i := 5) (oi := { dst := some 22, op := Op.binOp BinOp.eql 9 (Operand.tmp 18) (Operand.tmp 21) 9, type := 4, pos := "law.go:40", after := #[{ on := 1, ground := Ground.data }, { on := 4, ground := Ground.data }], guard := none }) (v := ?_) rfl (by kernel_rfl) (by kernel_rfl) (by kernel_rfl) (fun _ _ _ h => h) (Or.inl ⟨by rfl, ?_⟩) hS ?_
  rotate_left
  · intro W_ hSW_
    go_simp
    try with_reducible rfl
  try simp only [Act.put, List.setIfInBounds_toArray, List.set_cons_zero, List.set_cons_succ]
  refine wpAnyH_take (i := 6) (oi := { dst := some 23, op := Op.move (Operand.tmp 22), type := 4, pos := "law.go:40", after := #[{ on := 5, ground := Ground.data }, { on := 3, ground := Ground.chain }], guard := none }) (v := ?_) rfl (by kernel_rfl) (by kernel_rfl) (by kernel_rfl) (fun _ _ _ h => h) (Or.inl ⟨by rfl, ?_⟩) hS ?_
  rotate_left
  · intro W_ hSW_
    go_simp
    try with_reducible rfl
  try simp only [Act.put, List.setIfInBounds_toArray, List.set_cons_zero, List.set_cons_succ]
  refine wpAnyH_take (i := 7) (oi := { dst := some 24, op := Op.move (Operand.tmp 3), type := 22, pos := "law.go:40", after := #[{ on := 6, ground := Ground.guard }], guard := some (6, true) }) (v := ?_) rfl (by kernel_rfl) (by kernel_rfl) (by kernel_rfl) (fun _ _ _ h => h) (Or.inl ⟨by rfl, ?_⟩) hS ?_
  rotate_left
  · intro W_ hSW_
    go_simp
    try with_reducible rfl
  try simp only [Act.put, List.setIfInBounds_toArray, List.set_cons_zero, List.set_cons_succ]
  refine wpAnyH_ready (rs := [8]) (by kernel_rfl) (by simp) ?_
  refine AllReadyH.cons (o := { dst := some 25, op := Op.call { callee := Callee.value (Operand.func 11), args := #[Operand.tmp 24], argTypes := #[22] }, type := 23, pos := "law.go:40", after := #[{ on := 7, ground := Ground.data }, { on := 6, ground := Ground.chain }, { on := 6, ground := Ground.guard }], guard := some (6, true) }) rfl (fun K_ hK_ => ?_) AllReadyH.nil
  go_simp
  refine (crc16_Sum.calls k A1 c1 xs 0 w3 (Kd.C_below HX.out.2 (below_step HB2.out HB3.out)) HX.out.1 HS.out).mono ?_
  rintro e w' ⟨rfl, nd, rfl⟩
  refine hK_.out _ _ (pw_below_drewN HB3.out nd) (fun hS_ => ?_)
  clear hK_ K_ hS
  have hS := hS_
  clear hS_
  try simp only [Act.put, List.setIfInBounds_toArray, List.set_cons_zero, List.set_cons_succ]
  refine wpAnyH_take (i := 9) (oi := { dst := some 26, op := Op.binOp BinOp.eql 23 (Operand.tmp 25) (Operand.const (Value.int IntKind.u16 0)) 23, type := 4, pos := "law.go:40", after := #[{ on := 8, ground := Ground.data }, { on := 6, ground := Ground.guard }], guard := some (6, true) }) (v := ?_) rfl (by kernel_rfl) (by kernel_rfl) (by kernel_rfl) (fun _ _ _ h => h) (Or.inl ⟨by rfl, ?_⟩) hS ?_
  rotate_left
  · intro W_ hSW_
    go_simp
    try with_reducible rfl
  try simp only [Act.put, List.setIfInBounds_toArray, List.set_cons_zero, List.set_cons_succ]
  refine wpAnyH_take (i := 10) (oi := { dst := some 27, op := Op.pick (Operand.tmp 23) (Operand.tmp 26) (Operand.const (Value.bool false)), type := 4, pos := "law.go:40", after := #[{ on := 6, ground := Ground.data }, { on := 9, ground := Ground.data }], guard := none }) (v := ?_) rfl (by kernel_rfl) (by kernel_rfl) (by kernel_rfl) (fun _ _ _ h => h) (Or.inl ⟨by rfl, ?_⟩) hS ?_
  rotate_left
  · intro W_ hSW_
    go_simp
    try with_reducible rfl
  try simp only [Act.put, List.setIfInBounds_toArray, List.set_cons_zero, List.set_cons_succ]
  refine wpAnyH_take (i := 11) (oi := { dst := some 28, op := Op.move (Operand.tmp 27), type := 4, pos := "law.go:40", after := #[{ on := 10, ground := Ground.data }, { on := 8, ground := Ground.chain }], guard := none }) (v := ?_) rfl (by kernel_rfl) (by kernel_rfl) (by kernel_rfl) (fun _ _ _ h => h) (Or.inl ⟨by rfl, ?_⟩) hS ?_
  rotate_left
  · intro W_ hSW_
    go_simp
    try with_reducible rfl
  try simp only [Act.put, List.setIfInBounds_toArray, List.set_cons_zero, List.set_cons_succ]
  refine wpAnyH_take (i := 12) (oi := { dst := some 29, op := Op.move (Operand.tmp 5), type := 29, pos := "law.go:40", after := #[{ on := 11, ground := Ground.guard }], guard := some (11, true) }) (v := ?_) rfl (by kernel_rfl) (by kernel_rfl) (by kernel_rfl) (fun _ _ _ h => h) (Or.inl ⟨by rfl, ?_⟩) hS ?_
  rotate_left
  · intro W_ hSW_
    go_simp
    try with_reducible rfl
  try simp only [Act.put, List.setIfInBounds_toArray, List.set_cons_zero, List.set_cons_succ]
  refine wpAnyH_take (i := 13) (oi := { dst := some 30, op := Op.binOp BinOp.eql 29 (Operand.tmp 29) (Operand.const (Value.int IntKind.i64 0)) 29, type := 4, pos := "law.go:40", after := #[{ on := 12, ground := Ground.data }, { on := 11, ground := Ground.guard }], guard := some (11, true) }) (v := ?_) rfl (by kernel_rfl) (by kernel_rfl) (by kernel_rfl) (fun _ _ _ h => h) (Or.inl ⟨by rfl, ?_⟩) hS ?_
  rotate_left
  · intro W_ hSW_
    go_simp
    try with_reducible rfl
  try simp only [Act.put, List.setIfInBounds_toArray, List.set_cons_zero, List.set_cons_succ]
  refine wpAnyH_take (i := 14) (oi := { dst := some 31, op := Op.pick (Operand.tmp 28) (Operand.tmp 30) (Operand.const (Value.bool false)), type := 4, pos := "law.go:40", after := #[{ on := 11, ground := Ground.data }, { on := 13, ground := Ground.data }], guard := none }) (v := ?_) rfl (by kernel_rfl) (by kernel_rfl) (by kernel_rfl) (fun _ _ _ h => h) (Or.inl ⟨by rfl, ?_⟩) hS ?_
  rotate_left
  · intro W_ hSW_
    go_simp
    try with_reducible rfl
  try simp only [Act.put, List.setIfInBounds_toArray, List.set_cons_zero, List.set_cons_succ]
  refine wpAnyH_take (i := 15) (oi := { dst := some 32, op := Op.move (Operand.tmp 31), type := 4, pos := "law.go:40", after := #[{ on := 14, ground := Ground.data }, { on := 11, ground := Ground.chain }], guard := none }) (v := ?_) rfl (by kernel_rfl) (by kernel_rfl) (by kernel_rfl) (fun _ _ _ h => h) (Or.inl ⟨by rfl, ?_⟩) hS ?_
  rotate_left
  · intro W_ hSW_
    go_simp
    try with_reducible rfl
  try simp only [Act.put, List.setIfInBounds_toArray, List.set_cons_zero, List.set_cons_succ]
  refine wpAnyH_take (i := 16) (oi := { dst := some 33, op := Op.move (Operand.tmp 4), type := 22, pos := "law.go:40", after := #[{ on := 15, ground := Ground.guard }], guard := some (15, true) }) (v := ?_) rfl (by kernel_rfl) (by kernel_rfl) (by kernel_rfl) (fun _ _ _ h => h) (Or.inl ⟨by rfl, ?_⟩) hS ?_
  rotate_left
  · intro W_ hSW_
    go_simp
    try with_reducible rfl
  try simp only [Act.put, List.setIfInBounds_toArray, List.set_cons_zero, List.set_cons_succ]
  refine wpAnyH_take (i := 17) (oi := { dst := some 34, op := Op.convert 22 9 (Operand.tmp 33), type := 9, pos := "law.go:40", after := #[{ on := 16, ground := Ground.data }, { on := 15, ground := Ground.guard }], guard := some (15, true) }) (v := ?_) rfl (by kernel_rfl) (by kernel_rfl) (by kernel_rfl) (fun _ _ _ h => h) (Or.inl ⟨by rfl, ?_⟩) hS ?_
  rotate_left
  · intro W_ hSW_
    have e_ := eY.out W_ hSW_
    go_simp
    try with_reducible rfl
  try simp only [Act.put, List.setIfInBounds_toArray, List.set_cons_zero, List.set_cons_succ]
  refine wpAnyH_take (i := 18) (oi := { dst := some 35, op := Op.move (Operand.tmp 0), type := 22, pos := "law.go:40", after := #[{ on := 15, ground := Ground.guard }], guard := some (15, true) }) (v := ?_) rfl (by kernel_rfl) (by kernel_rfl) (by kernel_rfl) (fun _ _ _ h => h) (Or.inl ⟨by rfl, ?_⟩) hS ?_
  rotate_left
  · intro W_ hSW_
    go_simp
    try with_reducible rfl
  try simp only [Act.put, List.setIfInBounds_toArray, List.set_cons_zero, List.set_cons_succ]
  refine wpAnyH_take (i := 19) (oi := { dst := some 36, op := Op.convert 22 9 (Operand.tmp 35), type := 9, pos := "law.go:40", after := #[{ on := 18, ground := Ground.data }, { on := 15, ground := Ground.guard }], guard := some (15, true) }) (v := ?_) rfl (by kernel_rfl) (by kernel_rfl) (by kernel_rfl) (fun _ _ _ h => h) (Or.inl ⟨by rfl, ?_⟩) hS ?_
  rotate_left
  · intro W_ hSW_
    have e_ := eB.out W_ hSW_
    go_simp
    try with_reducible rfl
  try simp only [Act.put, List.setIfInBounds_toArray, List.set_cons_zero, List.set_cons_succ]
  refine wpAnyH_take (i := 20) (oi := { dst := some 37, op := Op.binOp BinOp.eql 9 (Operand.tmp 34) (Operand.tmp 36) 9, type := 4, pos := "law.go:40", after := #[{ on := 17, ground := Ground.data }, { on := 19, ground := Ground.data }, { on := 15, ground := Ground.guard }], guard := some (15, true) }) (v := ?_) rfl (by kernel_rfl) (by kernel_rfl) (by kernel_rfl) (fun _ _ _ h => h) (Or.inl ⟨by rfl, ?_⟩) hS ?_
  rotate_left
  · intro W_ hSW_
    go_simp
    try with_reducible rfl
  try simp only [Act.put, List.setIfInBounds_toArray, List.set_cons_zero, List.set_cons_succ]
  refine wpAnyH_take (i := 21) (oi := { dst := some 38, op := Op.pick (Operand.tmp 32) (Operand.tmp 37) (Operand.const (Value.bool false)), type := 4, pos := "law.go:40", after := #[{ on := 15, ground := Ground.data }, { on := 20, ground := Ground.data }], guard := none }) (v := ?_) rfl (by kernel_rfl) (by kernel_rfl) (by kernel_rfl) (fun _ _ _ h => h) (Or.inl ⟨by rfl, ?_⟩) hS ?_
  rotate_left
  · intro W_ hSW_
    go_simp
    try with_reducible rfl
  try simp only [Act.put, List.setIfInBounds_toArray, List.set_cons_zero, List.set_cons_succ]
  refine wpAnyH_take (i := 22) (oi := { dst := some 39, op := Op.move (Operand.tmp 38), type := 4, pos := "law.go:40", after := #[{ on := 21, ground := Ground.data }, { on := 15, ground := Ground.chain }], guard := none }) (v := ?_) rfl (by kernel_rfl) (by kernel_rfl) (by kernel_rfl) (fun _ _ _ h => h) (Or.inl ⟨by rfl, ?_⟩) hS ?_
  rotate_left
  · intro W_ hSW_
    go_simp
    try with_reducible rfl
  try simp only [Act.put, List.setIfInBounds_toArray, List.set_cons_zero, List.set_cons_succ]
  refine wpAnyH_ready (rs := [23]) (by kernel_rfl) (by simp) ?_
  refine AllReadyH.cons (o := { dst := some 40, op := Op.call { callee := Callee.value (Operand.func 10), args := #[], argTypes := #[] }, type := 4, pos := "law.go:40", after := #[{ on := 22, ground := Ground.chain }, { on := 22, ground := Ground.guard }], guard := some (22, true) }) rfl (fun K_ hK_ => ?_) AllReadyH.nil
  go_simp
  refine (tricklelaw02_examples.calls true _ rfl).mono ?_
  rintro e w5 ⟨rfl, hb5⟩
  have HB5 := Aside0.mk (below_step (pw_below_drewN HB3.out nd) hb5)
  clear hb5
  refine hK_.out _ _ (HB5.out) (fun hS_ => ?_)
  clear hK_ K_ hS
  have hS := hS_
  clear hS_
  try simp only [Act.put, List.setIfInBounds_toArray, List.set_cons_zero, List.set_cons_succ]
  refine wpAnyH_take (i := 24) (oi := { dst := some 41, op := Op.pick (Operand.tmp 39) (Operand.tmp 40) (Operand.const (Value.bool false)), type := 4, pos := "law.go:40", after := #[{ on := 22, ground := Ground.data }, { on := 23, ground := Ground.data }], guard := none }) (v := ?_) rfl (by kernel_rfl) (by kernel_rfl) (by kernel_rfl) (fun _ _ _ h => h) (Or.inl ⟨by rfl, ?_⟩) hS ?_
  rotate_left
  · intro W_ hSW_
    go_simp
    try with_reducible rfl
  try simp only [Act.put, List.setIfInBounds_toArray, List.set_cons_zero, List.set_cons_succ]
  refine wpAnyH_take (i := 25) (oi := { dst := some 2, op := Op.assign (Operand.tmp 41), type := 4, pos := "law.go:40", after := #[{ on := 24, ground := Ground.data }, { on := 23, ground := Ground.chain }, { on := 0, ground := Ground.phase }, { on := 1, ground := Ground.phase }, { on := 2, ground := Ground.phase }, { on := 3, ground := Ground.phase }, { on := 4, ground := Ground.phase }, { on := 5, ground := Ground.phase }, { on := 6, ground := Ground.phase }, { on := 7, ground := Ground.phase }, { on := 8, ground := Ground.phase }, { on := 9, ground := Ground.phase }, { on := 10, ground := Ground.phase }, { on := 11, ground := Ground.phase }, { on := 12, ground := Ground.phase }, { on := 13, ground := Ground.phase }, { on := 14, ground := Ground.phase }, { on := 15, ground := Ground.phase }, { on := 16, ground := Ground.phase }, { on := 17, ground := Ground.phase }, { on := 18, ground := Ground.phase }, { on := 19, ground := Ground.phase }, { on := 20, ground := Ground.phase }, { on := 21, ground := Ground.phase }, { on := 22, ground := Ground.phase }, { on := 23, ground := Ground.phase }, { on := 24, ground := Ground.phase }], guard := none }) (v := ?_) rfl (by kernel_rfl) (by kernel_rfl) (by kernel_rfl) (fun _ _ _ h => h) (Or.inl ⟨by rfl, ?_⟩) hS ?_
  rotate_left
  · intro W_ hSW_
    go_simp
    try with_reducible rfl
  try simp only [Act.put, List.setIfInBounds_toArray, List.set_cons_zero, List.set_cons_succ]
  refine wpAnyH_done (by kernel_rfl) ?_ _
  clear eX eB eY
  go_wp2
  go_ret
  exact ⟨rfl, below_step HB02.out HB5.out⟩

set_option maxHeartbeats 1000000 in
theorem append_long (A0 : Option Addr) (c0 : Nat) (l0 : List Int) (w : World) (hlen : 300 < l0.length) (hm : l0.length ≤ 9223372036854775807) :
    Calls Try.prog 8 #[.slice A0 l0.length c0] w fun e w' => e = .returned (.bool true) ∧ Below w.heap.size w w' := by
  have c2b0 : decide (300 < (l0.length : Int)) = true := decide_eq_true (by omega)
  have c2b1 : decide (300 < l0.length) = true := decide_eq_true (by omega)
  go_enter Try.func8, Try.ntmps8
  go_wp2_with (go_at_call 10; (with_reducible refine (tricklelaw02_examples.calls true _ rfl).mono ?_); rintro e w5 ⟨rfl, hb5⟩)
  go_ret
  exact ⟨rfl, hb5⟩

theorem crc_append (l : List Int) (hwf : ∀ x ∈ l, 0 ≤ x ∧ x ≤ 255) (hn : l.length < 140737488355326) (k : Nat) (hk : 10 * l.length + 1 ≤ k) : crc16_Append.f k l = some (summed l) := by
  unfold crc16_Append.f slices_Clone_byte_byte.f
  rw [crc_sum l hwf (by omega) k hk, if_pos (by omega)]
  simp only [Option.bind_some, List.length_cons, List.length_nil]
  rw [if_pos (by omega)]
  have hs := (Crc.upd 0xFFFF#16 l).isLt
  have h1 : ((((Crc.upd 0xFFFF#16 l).toNat : Nat) : Int) / 256) % 256 = (((Crc.upd 0xFFFF#16 l).toNat / 256 : Nat) : Int) := by omega
  have h2 : (((Crc.upd 0xFFFF#16 l).toNat : Nat) : Int) % 256 = (((Crc.upd 0xFFFF#16 l).toNat % 256 : Nat) : Int) := by omega
  rw [h1, h2]
  rfl
theorem checked_summed (l : List Int) : checked (summed l) = (l, 0) := by
  have hl : (summed l).length = l.length + 2 := by simp [summed, two]
  have ht : (summed l).take ((summed l).length - 2) = l := by
    rw [hl, Nat.add_sub_cancel]
    exact List.take_left' rfl
  unfold checked
  rw [ht, if_neg (by omega), if_pos rfl]

theorem append_all (A0 : Option Addr) (c0 : Nat) (l0 : List Int) (w : World) (hr0 : Kd.C (Kd.int .u8) w A0 l0.length l0) (hc0 : l0.length ≤ c0)
    (hg : l0.length * Try.prog.bytesOf 5 ≤ reachBytes ∧ l0.length ≤ maxLen ∧ ∀ x ∈ l0, (Lit.int .u8 x).wf = true) :
    Calls Try.prog 8 #[.slice A0 l0.length c0] w fun e w' => e = .returned (.bool true) ∧ Below w.heap.size w w' := by
  have hwf := wf_u8 hg.2.2
  by_cases h : l0.length ≤ 300
  · have h1 : (summed l0).length = l0.length + 2 := by simp [summed, two]
    obtain ⟨K, hK⟩ : ∃ K, 10 * l0.length + 100 ≤ K := ⟨_, Nat.le_refl _⟩
    have hC := crc_check (summed l0) (wf_summed hwf) (by omega) K (by omega)
    rw [checked_summed] at hC
    have hS := crc_sum (summed l0) (wf_summed hwf) (by omega) K (by omega)
    rw [summed_zero] at hS
    exact append_law K A0 c0 l0 (summed l0) w hr0 hc0 h (crc_append l0 hwf (by omega) K (by omega)) hC (ref_append l0 hwf (by omega) K (by omega)) hS
  · exact append_long A0 c0 l0 w (by omega) hg.2.1
end Go.Proofs.Ytcedelnpdeakaaa.QAll
