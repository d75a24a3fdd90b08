/- The reference's Missing, length. Printed by mkUpU.py. -/
import Derived.Test.YtfcldacjnegacaaUpT
import Derived.Test.YtfcldacjnegacaaUpH
namespace Go.Proofs.Ytfcldacjnegacaa.Up
open Go.RowKit Go.Proofs.YtfcldacjnegacaaW.PrintWords Go.Proofs.YtfcldacjnegacaaW.PrintLast Go.Proofs.YtfcldacjnegacaaW.PrintMore Go.Proofs.Ytfcldacjnegacaa.Sl
attribute [local go_sem] max2_int min2_int max_two min_two
set_option linter.unusedVariables false
set_option linter.unusedSimpArgs false
variable {L : List Chunk} {w0 w w' : World} {gd gr N c : Nat} {d : Dv} {slot chunk : Int}
def RmRel (w : World) (g1 gd : Nat) (slot : Int) (c : Nat) (d : Dv) (n : Nat) (vi : Value) (wr : World) : Prop := ∃ i : Nat, i ≤ n ∧ vi = .int .i64 (i : Int) ∧ (∀ j < i, d.st j = true) ∧ RQ w g1 gd slot (c : Int) wr
set_option maxRecDepth 100000 in
set_option maxHeartbeats 2000000 in
theorem rMissing_call (hM : DvM w0 w gd gr N d L) (hN : N = 10240) (hc : 4 ≤ c) (hc2 : c ≤ 36) :
    Calls Try.prog 32 #[rup gd slot (c : Int)] w fun e w' => e = .returned (misR (d.misA c)) ∧ Below w.heap.size w w' := by
  have HC := Aside0.mk (fun W (hb : Below w.heap.size w W) => Active_call (slot := slot) (chunk := (c : Int)) (hM.step hb) hN)
  have K5 := Aside0.mk (fun W (hb : Below w.heap.size w W) => rnumber5 (slot := slot) (chunk := (c : Int)) (hM.step hb) hN)
  have HR := Aside0.mk (RQ.start w gd slot (c : Int))
  have HST := Aside0.mk (fun W (hb : Below w.heap.size w W) i hi => rstored_call (slot := slot) (chunk := (c : Int)) (hM.step hb) hN i hi)
  have HCC := Aside0.mk (And.intro hc hc2)
  have HL := Aside0.mk (act_len (d := d) (chunk := (c : Int)))
  obtain ⟨g1, hg1⟩ : ∃ g1, g1 = w.heap.size := ⟨_, rfl⟩
  rw [← hg1] at HR
  unfold Dv.misA
  generalize d.act (c : Int) = ac at *
  generalize d.num 5 2 = n5 at *
  clear hM hN hc hc2
  cases ac with
  | false =>
    unfold rup at *
    go_enter Try.func32, Try.ntmps32
    go_wp2_with fail
    rw [← hg1]
    refine (HC.out _ HR.out.1).mono ?_
    rintro e w1 ⟨rfl, hb⟩
    have HR1 := Aside0.mk (HR.out.step hb)
    clear hb hg1
    go_wp2_with fail
    go_ret2
    exact ⟨rfl, HR1.out.1⟩
  | true =>
    obtain ⟨h1, h2⟩ := HL.out rfl
    obtain ⟨l, rfl⟩ : ∃ l : Nat, n5 = (l : Int) := ⟨n5.toNat, by omega⟩
    rw [if_pos rfl, Int.toNat_natCast]
    have HLL := Aside0.mk (show l ≤ 6144 by omega)
    have hq : nch l c ≤ 1536 := nch_le HLL.out HCC.out.1
    have HRC := Aside0.mk (fun W => rchunks_call (gd := gd) (slot := slot) W l HLL.out HCC.out.1 HCC.out.2)
    obtain ⟨n, hn⟩ : ∃ n, nch l c = n := ⟨_, rfl⟩
    simp only [hn] at HRC
    rw [hn] at hq ⊢
    have HNN := Aside0.mk hn
    have mixed : Try.prog.follows Departure.mixedOrders = true := by kernel_rfl
    clear hn h1 h2 HL
    unfold rup at *
    go_enter Try.func32, Try.ntmps32
    go_wp2_with fail
    rw [← hg1]
    refine (HC.out _ HR.out.1).mono ?_
    rintro e w1 ⟨rfl, hb⟩
    have HR1 := Aside0.mk (HR.out.step hb)
    clear hb hg1 HR
    go_wp2_with fail
    go_loopw [4] (fun vi wr => RmRel w g1 gd slot c d n vi wr) (fun vi _ => n - (intOf vi).toNat)
    case atStart => exact ⟨0, Nat.zero_le _, rfl, fun j hj => by omega, HR1.out⟩
    case round =>
      obtain ⟨i, hi, rfl, hst, hR⟩ := hrel
      have HST2 := Aside0.mk hst
      have HR0 := Aside0.mk hR
      clear hst hR HR1
      by_cases hlt : i < n
      · have hlt2 : (i : Int) < (n : Int) := by omega
        have hltd : decide ((i : Int) < (n : Int)) = true := decide_eq_true hlt2
        have hltd2 : decide (i < n) = true := decide_eq_true hlt
        go_wp2_with fail
        refine wp_region_held_drew (S := RQ w g1 gd slot (c : Int)) (by kernel_rfl) HR0.out.drew (fun hS => ?_)
        refine wpAnyH_take (i := 0) (oi := { dst := some 8, op := Op.move (Operand.tmp 4), type := 3, pos := "ref.go:145", after := #[], guard := none }) (v := ?_) rfl (by kernel_rfl) (by kernel_rfl) (by kernel_rfl) (fun _ _ _ h => h) (Or.inl ⟨by rfl, ?_⟩) hS ?_
        rotate_left
        · intro W_ hSW_
          obtain ⟨hB_, hG_⟩ := hSW_
          have t0_ := blk_cell hG_ 0
          have t1_ := blk_cell hG_ 1
          have t2_ := blk_cell hG_ 2
          go_simp
          try with_reducible rfl
        try simp only [Act.put, List.setIfInBounds_toArray, List.set_cons_zero, List.set_cons_succ]
        refine wpAnyH_take (i := 1) (oi := { dst := some 9, op := Op.load 28 (Operand.tmp 1), type := 28, pos := "ref.go:145", after := #[], guard := none }) (v := ?_) rfl (by kernel_rfl) (by kernel_rfl) (by kernel_rfl) (fun _ _ _ h => h) (Or.inl ⟨by rfl, ?_⟩) hS ?_
        rotate_left
        · intro W_ hSW_
          obtain ⟨hB_, hG_⟩ := hSW_
          have t0_ := blk_cell hG_ 0
          have t1_ := blk_cell hG_ 1
          have t2_ := blk_cell hG_ 2
          go_simp
          try with_reducible rfl
        try simp only [Act.put, List.setIfInBounds_toArray, List.set_cons_zero, List.set_cons_succ]
        refine wpAnyH_take (i := 2) (oi := { dst := some 10, op := Op.load 28 (Operand.tmp 1), type := 28, pos := "ref.go:145", after := #[], guard := none }) (v := ?_) rfl (by kernel_rfl) (by kernel_rfl) (by kernel_rfl) (fun _ _ _ h => h) (Or.inl ⟨by rfl, ?_⟩) hS ?_
        rotate_left
        · intro W_ hSW_
          obtain ⟨hB_, hG_⟩ := hSW_
          have t0_ := blk_cell hG_ 0
          have t1_ := blk_cell hG_ 1
          have t2_ := blk_cell hG_ 2
          go_simp
          try with_reducible rfl
        try simp only [Act.put, List.setIfInBounds_toArray, List.set_cons_zero, List.set_cons_succ]
        refine wpAnyH_ready (rs := [3]) (by kernel_rfl) (by simp) ?_
        refine AllReadyH.cons (o := { dst := some 11, op := Op.call { callee := Callee.value (Operand.func 51), args := #[Operand.tmp 10, Operand.const (Value.int IntKind.i64 5), Operand.const (Value.int IntKind.i64 2)], argTypes := #[28, 3, 3] }, type := 3, pos := "ref.go:145", after := #[{ on := 2, ground := Ground.data }], guard := none }) rfl (fun K_ hK_ => ?_) AllReadyH.nil
        have hS0_ := Aside0.mk hS
        go_simp
        refine (K5.out _ hS0_.out.1).mono ?_
        rintro e w_ ⟨rfl, hb_⟩
        have HS_ := Aside0.mk (hS0_.out.step hb_)
        clear hb_ hS0_
        refine hK_.out _ _ (HS_.out) (fun hS_ => ?_)
        clear hK_ K_ hS
        have hS := hS_
        clear hS_
        try simp only [Act.put, List.setIfInBounds_toArray, List.set_cons_zero, List.set_cons_succ]
        refine wpAnyH_ready (rs := [4]) (by kernel_rfl) (by simp) ?_
        refine AllReadyH.cons (o := { dst := some 12, op := Op.call { callee := Callee.value (Operand.func 50), args := #[Operand.tmp 9, Operand.tmp 11], argTypes := #[28, 3] }, type := 3, pos := "ref.go:145", after := #[{ on := 1, ground := Ground.data }, { on := 3, ground := Ground.data }, { on := 3, ground := Ground.chain }], guard := none }) rfl (fun K_ hK_ => ?_) AllReadyH.nil
        have hS0_ := Aside0.mk hS
        go_simp
        refine (HRC.out _).mono ?_
        rintro e w_ ⟨rfl, hb_⟩
        have HS_ := Aside0.mk (hS0_.out.step hb_)
        clear hb_ hS0_
        refine hK_.out _ _ (HS_.out) (fun hS_ => ?_)
        clear hK_ K_ hS
        have hS := hS_
        clear hS_
        try simp only [Act.put, List.setIfInBounds_toArray, List.set_cons_zero, List.set_cons_succ]
        refine wpAnyH_take (i := 5) (oi := { dst := some 13, op := Op.binOp BinOp.lss 3 (Operand.tmp 8) (Operand.tmp 12) 3, type := 4, pos := "ref.go:145", after := #[{ on := 0, ground := Ground.data }, { on := 4, ground := Ground.data }], guard := none }) (v := ?_) rfl (by kernel_rfl) (by kernel_rfl) (by kernel_rfl) (fun _ _ _ h => h) (Or.inl ⟨by rfl, ?_⟩) hS ?_
        rotate_left
        · intro W_ hSW_
          obtain ⟨hB_, hG_⟩ := hSW_
          have t0_ := blk_cell hG_ 0
          have t1_ := blk_cell hG_ 1
          have t2_ := blk_cell hG_ 2
          go_simp
          try with_reducible rfl
        try simp only [Act.put, List.setIfInBounds_toArray, List.set_cons_zero, List.set_cons_succ]
        refine wpAnyH_done (by kernel_rfl) ?_ _
        have HR1 := Aside0.mk hS
        clear hS
        have y0 := blk_cell HR1.out.2 0
        have y1 := blk_cell HR1.out.2 1
        have y2 := blk_cell HR1.out.2 2
        have HSi := Aside0.mk (HST.out _ HR1.out.1 i (by omega))
        clear HR0
        cases hs : d.st i with
        | true =>
          rw [hs] at HSi
          have HS := Aside0.mk hs
          clear hs
          go_wp2_with fail
          refine HSi.out.mono ?_
          rintro e w3 ⟨rfl, hb⟩
          have HR3 := Aside0.mk (HR1.out.step hb)
          clear hb HSi
          go_wp2_with fail
          go_roundw
          case rel => exact ⟨i + 1, by omega, by first | go_num | (congr 1), fun j hj => by
            by_cases e : j = i
            · subst e; exact HS.out
            · exact HST2.out j (by omega), HR3.out⟩
          case measure => simp [intOf]; omega
        | false =>
          rw [hs] at HSi
          have HS := Aside0.mk hs
          clear hs
          go_wp2_with fail
          refine HSi.out.mono ?_
          rintro e w3 ⟨rfl, hb⟩
          have HR3 := Aside0.mk (HR1.out.step hb)
          clear hb HSi
          go_wp2_with fail
          go_ret2
          rw [mis_some hlt HST2.out HS.out]
          exact ⟨rfl, HR3.out.1⟩
      · have hin : i = n := by omega
        subst hin
        have hltd : decide ((i : Int) < (i : Int)) = false := decide_eq_false (by omega)
        go_wp2_with fail
        refine wp_region_held_drew (S := RQ w g1 gd slot (c : Int)) (by kernel_rfl) HR0.out.drew (fun hS => ?_)
        refine wpAnyH_take (i := 0) (oi := { dst := some 8, op := Op.move (Operand.tmp 4), type := 3, pos := "ref.go:145", after := #[], guard := none }) (v := ?_) rfl (by kernel_rfl) (by kernel_rfl) (by kernel_rfl) (fun _ _ _ h => h) (Or.inl ⟨by rfl, ?_⟩) hS ?_
        rotate_left
        · intro W_ hSW_
          obtain ⟨hB_, hG_⟩ := hSW_
          have t0_ := blk_cell hG_ 0
          have t1_ := blk_cell hG_ 1
          have t2_ := blk_cell hG_ 2
          go_simp
          try with_reducible rfl
        try simp only [Act.put, List.setIfInBounds_toArray, List.set_cons_zero, List.set_cons_succ]
        refine wpAnyH_take (i := 1) (oi := { dst := some 9, op := Op.load 28 (Operand.tmp 1), type := 28, pos := "ref.go:145", after := #[], guard := none }) (v := ?_) rfl (by kernel_rfl) (by kernel_rfl) (by kernel_rfl) (fun _ _ _ h => h) (Or.inl ⟨by rfl, ?_⟩) hS ?_
        rotate_left
        · intro W_ hSW_
          obtain ⟨hB_, hG_⟩ := hSW_
          have t0_ := blk_cell hG_ 0
          have t1_ := blk_cell hG_ 1
          have t2_ := blk_cell hG_ 2
          go_simp
          try with_reducible rfl
        try simp only [Act.put, List.setIfInBounds_toArray, List.set_cons_zero, List.set_cons_succ]
        refine wpAnyH_take (i := 2) (oi := { dst := some 10, op := Op.load 28 (Operand.tmp 1), type := 28, pos := "ref.go:145", after := #[], guard := none }) (v := ?_) rfl (by kernel_rfl) (by kernel_rfl) (by kernel_rfl) (fun _ _ _ h => h) (Or.inl ⟨by rfl, ?_⟩) hS ?_
        rotate_left
        · intro W_ hSW_
          obtain ⟨hB_, hG_⟩ := hSW_
          have t0_ := blk_cell hG_ 0
          have t1_ := blk_cell hG_ 1
          have t2_ := blk_cell hG_ 2
          go_simp
          try with_reducible rfl
        try simp only [Act.put, List.setIfInBounds_toArray, List.set_cons_zero, List.set_cons_succ]
        refine wpAnyH_ready (rs := [3]) (by kernel_rfl) (by simp) ?_
        refine AllReadyH.cons (o := { dst := some 11, op := Op.call { callee := Callee.value (Operand.func 51), args := #[Operand.tmp 10, Operand.const (Value.int IntKind.i64 5), Operand.const (Value.int IntKind.i64 2)], argTypes := #[28, 3, 3] }, type := 3, pos := "ref.go:145", after := #[{ on := 2, ground := Ground.data }], guard := none }) rfl (fun K_ hK_ => ?_) AllReadyH.nil
        have hS0_ := Aside0.mk hS
        go_simp
        refine (K5.out _ hS0_.out.1).mono ?_
        rintro e w_ ⟨rfl, hb_⟩
        have HS_ := Aside0.mk (hS0_.out.step hb_)
        clear hb_ hS0_
        refine hK_.out _ _ (HS_.out) (fun hS_ => ?_)
        clear hK_ K_ hS
        have hS := hS_
        clear hS_
        try simp only [Act.put, List.setIfInBounds_toArray, List.set_cons_zero, List.set_cons_succ]
        refine wpAnyH_ready (rs := [4]) (by kernel_rfl) (by simp) ?_
        refine AllReadyH.cons (o := { dst := some 12, op := Op.call { callee := Callee.value (Operand.func 50), args := #[Operand.tmp 9, Operand.tmp 11], argTypes := #[28, 3] }, type := 3, pos := "ref.go:145", after := #[{ on := 1, ground := Ground.data }, { on := 3, ground := Ground.data }, { on := 3, ground := Ground.chain }], guard := none }) rfl (fun K_ hK_ => ?_) AllReadyH.nil
        have hS0_ := Aside0.mk hS
        go_simp
        refine (HRC.out _).mono ?_
        rintro e w_ ⟨rfl, hb_⟩
        have HS_ := Aside0.mk (hS0_.out.step hb_)
        clear hb_ hS0_
        refine hK_.out _ _ (HS_.out) (fun hS_ => ?_)
        clear hK_ K_ hS
        have hS := hS_
        clear hS_
        try simp only [Act.put, List.setIfInBounds_toArray, List.set_cons_zero, List.set_cons_succ]
        refine wpAnyH_take (i := 5) (oi := { dst := some 13, op := Op.binOp BinOp.lss 3 (Operand.tmp 8) (Operand.tmp 12) 3, type := 4, pos := "ref.go:145", after := #[{ on := 0, ground := Ground.data }, { on := 4, ground := Ground.data }], guard := none }) (v := ?_) rfl (by kernel_rfl) (by kernel_rfl) (by kernel_rfl) (fun _ _ _ h => h) (Or.inl ⟨by rfl, ?_⟩) hS ?_
        rotate_left
        · intro W_ hSW_
          obtain ⟨hB_, hG_⟩ := hSW_
          have t0_ := blk_cell hG_ 0
          have t1_ := blk_cell hG_ 1
          have t2_ := blk_cell hG_ 2
          go_simp
          try with_reducible rfl
        try simp only [Act.put, List.setIfInBounds_toArray, List.set_cons_zero, List.set_cons_succ]
        refine wpAnyH_done (by kernel_rfl) ?_ _
        have HR1 := Aside0.mk hS
        clear hS
        go_wp2_with fail
        go_ret2
        rw [mis_none HST2.out]
        exact ⟨rfl, HR1.out.1⟩
/-- The length of chunk i, by the reference. -/
theorem rlength_call (hM : DvM w0 w gd gr N d L) (hN : N = 10240) (hc : 4 ≤ c) (hc2 : c ≤ 36) {l i : Nat} (hl : d.num 5 2 = (l : Int)) (hl2 : l ≤ 6144) (hi : i * c < l) :
    Calls Try.prog 55 #[rup gd slot (c : Int), .int .i64 (i : Int)] w fun e w' => e = .returned (.int .i64 (clen l c i : Int)) ∧ Below w.heap.size w w' := by
  have K5 := Aside0.mk (fun W (hb : Below w.heap.size w W) => rnumber5 (slot := slot) (chunk := (c : Int)) (hM.step hb) hN)
  have HR := Aside0.mk (RQ.start w gd slot (c : Int))
  obtain ⟨g1, hg1⟩ : ∃ g1, g1 = w.heap.size := ⟨_, rfl⟩
  rw [← hg1] at HR
  have HR0 := HR
  rw [hl] at K5
  unfold clen
  obtain ⟨r, hr⟩ : ∃ r, i * c = r := ⟨_, rfl⟩
  rw [hr] at hi ⊢
  have hri : (i : Int) * (c : Int) = (r : Int) := by rw [← hr]; simp
  have e1 : wrap64 ((i : Int) * (c : Int)) = (r : Int) := by rw [hri]; unfold wrap64; omega
  have f1 : IntKind.i64.wrap (r : Int) = (r : Int) := by rw [IntKind.wrap_i64]; omega
  obtain ⟨t, ht⟩ : ∃ t, l - r = t := ⟨_, rfl⟩
  have e2 : wrap64 ((l : Int) - (r : Int)) = (t : Int) := by unfold wrap64; omega
  have f2 : IntKind.i64.wrap ((l : Int) - (r : Int)) = (t : Int) := by rw [IntKind.wrap_i64]; omega
  have mixed : Try.prog.follows Departure.mixedOrders = true := by kernel_rfl
  rw [ht]
  unfold rup at *
  clear hM hN hc hc2 hl hl2 hi hr ht
  go_enter Try.func55, Try.ntmps55
  go_wp2_with fail
  rw [← hg1]
  clear hg1
  refine wp_region_held_drew (S := RQ w g1 gd slot (c : Int)) (by kernel_rfl) HR0.out.drew (fun hS => ?_)
  refine wpAnyH_take (i := 0) (oi := { dst := some 6, op := Op.load 28 (Operand.tmp 2), type := 28, pos := "ref.go:80", after := #[], guard := none }) (v := ?_) rfl (by kernel_rfl) (by kernel_rfl) (by kernel_rfl) (fun _ _ _ h => h) (Or.inl ⟨by rfl, ?_⟩) hS ?_
  rotate_left
  · intro W_ hSW_
    obtain ⟨hB_, hG_⟩ := hSW_
    have t0_ := blk_cell hG_ 0
    have t1_ := blk_cell hG_ 1
    have t2_ := blk_cell hG_ 2
    go_simp
    try with_reducible rfl
  try simp only [Act.put, List.setIfInBounds_toArray, List.set_cons_zero, List.set_cons_succ]
  refine wpAnyH_take (i := 2) (oi := { dst := some 8, op := Op.move (Operand.tmp 1), type := 3, pos := "ref.go:80", after := #[], guard := none }) (v := ?_) rfl (by kernel_rfl) (by kernel_rfl) (by kernel_rfl) (fun _ _ _ h => h) (Or.inl ⟨by rfl, ?_⟩) hS ?_
  rotate_left
  · intro W_ hSW_
    obtain ⟨hB_, hG_⟩ := hSW_
    have t0_ := blk_cell hG_ 0
    have t1_ := blk_cell hG_ 1
    have t2_ := blk_cell hG_ 2
    go_simp
    try with_reducible rfl
  try simp only [Act.put, List.setIfInBounds_toArray, List.set_cons_zero, List.set_cons_succ]
  refine wpAnyH_take (i := 3) (oi := { dst := some 9, op := Op.fieldAddr 28 (Operand.tmp 2) 2, type := 0, pos := "ref.go:80", after := #[], guard := none }) (v := ?_) rfl (by kernel_rfl) (by kernel_rfl) (by kernel_rfl) (fun _ _ _ h => h) (Or.inl ⟨by rfl, ?_⟩) hS ?_
  rotate_left
  · intro W_ hSW_
    obtain ⟨hB_, hG_⟩ := hSW_
    have t0_ := blk_cell hG_ 0
    have t1_ := blk_cell hG_ 1
    have t2_ := blk_cell hG_ 2
    go_simp
    try with_reducible rfl
  try simp only [Act.put, List.setIfInBounds_toArray, List.set_cons_zero, List.set_cons_succ]
  refine wpAnyH_take (i := 4) (oi := { dst := some 10, op := Op.load 3 (Operand.tmp 9), type := 3, pos := "ref.go:80", after := #[{ on := 3, ground := Ground.data }], guard := none }) (v := ?_) rfl (by kernel_rfl) (by kernel_rfl) (by kernel_rfl) (fun _ _ _ h => h) (Or.inl ⟨by rfl, ?_⟩) hS ?_
  rotate_left
  · intro W_ hSW_
    obtain ⟨hB_, hG_⟩ := hSW_
    have t0_ := blk_cell hG_ 0
    have t1_ := blk_cell hG_ 1
    have t2_ := blk_cell hG_ 2
    go_simp
    try with_reducible rfl
  try simp only [Act.put, List.setIfInBounds_toArray, List.set_cons_zero, List.set_cons_succ]
  refine wpAnyH_take (i := 5) (oi := { dst := some 11, op := Op.binOp BinOp.mul 3 (Operand.tmp 8) (Operand.tmp 10) 3, type := 3, pos := "ref.go:80", after := #[{ on := 2, ground := Ground.data }, { on := 4, ground := Ground.data }], guard := none }) (v := ?_) rfl (by kernel_rfl) (by kernel_rfl) (by kernel_rfl) (fun _ _ _ h => h) (Or.inl ⟨by rfl, ?_⟩) hS ?_
  rotate_left
  · intro W_ hSW_
    obtain ⟨hB_, hG_⟩ := hSW_
    have t0_ := blk_cell hG_ 0
    have t1_ := blk_cell hG_ 1
    have t2_ := blk_cell hG_ 2
    go_simp
    try with_reducible rfl
  try simp only [Act.put, List.setIfInBounds_toArray, List.set_cons_zero, List.set_cons_succ]
  refine wpAnyH_ready (rs := [1]) (by kernel_rfl) (by simp) ?_
  refine AllReadyH.cons (o := { dst := some 7, op := Op.call { callee := Callee.value (Operand.func 51), args := #[Operand.tmp 6, Operand.const (Value.int IntKind.i64 5), Operand.const (Value.int IntKind.i64 2)], argTypes := #[28, 3, 3] }, type := 3, pos := "ref.go:80", after := #[{ on := 0, ground := Ground.data }], guard := none }) rfl (fun K_ hK_ => ?_) AllReadyH.nil
  have hS0_ := Aside0.mk hS
  go_simp
  refine (K5.out _ hS0_.out.1).mono ?_
  rintro e w_ ⟨rfl, hb_⟩
  have HS_ := Aside0.mk (hS0_.out.step hb_)
  clear hb_ hS0_
  refine hK_.out _ _ (HS_.out) (fun hS_ => ?_)
  clear hK_ K_ hS
  have hS := hS_
  clear hS_
  try simp only [Act.put, List.setIfInBounds_toArray, List.set_cons_zero, List.set_cons_succ]
  refine wpAnyH_take (i := 6) (oi := { dst := some 12, op := Op.binOp BinOp.sub 3 (Operand.tmp 7) (Operand.tmp 11) 3, type := 3, pos := "ref.go:80", after := #[{ on := 1, ground := Ground.data }, { on := 5, ground := Ground.data }], guard := none }) (v := ?_) rfl (by kernel_rfl) (by kernel_rfl) (by kernel_rfl) (fun _ _ _ h => h) (Or.inl ⟨by rfl, ?_⟩) hS ?_
  rotate_left
  · intro W_ hSW_
    obtain ⟨hB_, hG_⟩ := hSW_
    have t0_ := blk_cell hG_ 0
    have t1_ := blk_cell hG_ 1
    have t2_ := blk_cell hG_ 2
    go_simp
    try with_reducible rfl
  try simp only [Act.put, List.setIfInBounds_toArray, List.set_cons_zero, List.set_cons_succ]
  refine wpAnyH_take (i := 7) (oi := { dst := some 5, op := Op.assign (Operand.tmp 12), type := 3, pos := "ref.go:80", after := #[{ on := 6, ground := Ground.data }, { on := 1, ground := Ground.chain }, { on := 0, ground := Ground.phase }, { on := 1, ground := Ground.phase }, { on := 2, ground := Ground.phase }, { on := 3, ground := Ground.phase }, { on := 4, ground := Ground.phase }, { on := 5, ground := Ground.phase }, { on := 6, ground := Ground.phase }], guard := none }) (v := ?_) rfl (by kernel_rfl) (by kernel_rfl) (by kernel_rfl) (fun _ _ _ h => h) (Or.inl ⟨by rfl, ?_⟩) hS ?_
  rotate_left
  · intro W_ hSW_
    obtain ⟨hB_, hG_⟩ := hSW_
    have t0_ := blk_cell hG_ 0
    have t1_ := blk_cell hG_ 1
    have t2_ := blk_cell hG_ 2
    go_simp
    try with_reducible rfl
  try simp only [Act.put, List.setIfInBounds_toArray, List.set_cons_zero, List.set_cons_succ]
  refine wpAnyH_done (by kernel_rfl) ?_ _
  have HR1 := Aside0.mk hS
  clear hS
  have y0 := blk_cell HR1.out.2 0
  have y1 := blk_cell HR1.out.2 1
  have y2 := blk_cell HR1.out.2 2
  by_cases htc : c < t
  · have htc2 : (c : Int) < (t : Int) := by omega
    have hm := Aside0.mk (show min c t = c by omega)
    go_wp2_with fail
    go_ret
    rw [hm.out]
    exact ⟨rfl, HR1.out.1⟩
  · have htc2 : ¬ (c : Int) < (t : Int) := by omega
    have hm := Aside0.mk (show min c t = t by omega)
    go_wp2_with fail
    go_ret
    rw [hm.out]
    exact ⟨rfl, HR1.out.1⟩
end Go.Proofs.Ytfcldacjnegacaa.Up
