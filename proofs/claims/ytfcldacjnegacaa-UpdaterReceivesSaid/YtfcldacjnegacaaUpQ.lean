/- The reference's Complete. Printed by mkUpQ.py. -/
import Derived.Test.YtfcldacjnegacaaUpX
import Derived.Test.YtfcldacjnegacaaUpP
namespace Go.Proofs.Ytfcldacjnegacaa.Up
open Go.RowKit Go.Proofs.YtfcldacjnegacaaW.PrintWords Go.Proofs.YtfcldacjnegacaaW.PrintLast Go.Proofs.YtfcldacjnegacaaW.PrintMore Go.Proofs.Ytfcldacjnegacaa.Sl
set_option linter.unusedVariables false
set_option linter.unusedSimpArgs false
section
variable {P : Program} {ops : Array Oper} {o : Oper} {a : Act} {Q : Exit → Act → World → Prop} {Kc : Act → World → Prop} {L : List Chunk}
theorem append_ints_step (k : IntKind) {w0 W : World} (hw : Region.wanted o (yielded ops a.tmps) = true) (s x : Operand) (t e : TypeId) (bytes : Nat)
    (ho : o.op = .call { callee := .builtin .append, args := #[s, x], argTypes := #[t, t] })
    (ht : P.underlying t = some (.slice e)) (hinfo : (P.info? e).map (fun i => (i.zero, i.size, i.bytes)) = some (some (.int k 0), 1, bytes)) (hb0 : 0 < bytes)
    (v : Value) (xs ys : List Int) (A : Option Addr) (m c : Nat) (hs : a.eval s = v) (hx : a.eval x = .slice A m c) (HR : Kd.C (Kd.int k) W A m ys)
    (HM : Mem w0 W (row w0 (Kd.int k) e v xs :: L)) (hl : (xs.length + m) * bytes ≤ 140737488355328)
    (h : ∀ v1 w1, Mem w0 w1 (row w0 (Kd.int k) e v1 (xs ++ ys) :: L) → Kc (a.put o.dst v1) w1) :
    if Region.wanted o (yielded ops a.tmps) = true then Oper.wp P o a W Kc Q else Kc (a.put o.dst undef) W := by
  have hB := HM.below
  obtain ⟨T, hr, h2, h3⟩ := HM.front
  have hr : (Kd.int k).R e W w0.heap.size T v xs := hr
  refine Kd.R_append_rows_step (Kd.int k) (w0 := w0) w0.heap.size hw s x t e (.int k 0) bytes ho ht hinfo rfl Nat.one_pos hb0 v xs ys A m c (fun k => T k ∨ W.heap.size ≤ k) (fun _ => False) hs hx (Kd.R_mono hr (fun _ hk => .inl hk)) HR (fun _ _ h => h) (fun _ h => h.elim) (fun _ hk => .inr hk) hB hB.size hl ?_
  intro v1 w1 hR hB1 hg hat
  exact h v1 w1 (h3 w1 (row w0 (Kd.int k) e v1 (xs ++ ys)) hB1 ⟨hg.size, fun i hi hn => hg.block i hi (fun e => hn (hr.1 i e.symm))⟩ hR)
end
variable {L : List Chunk} {w0 w w' : World} {gd gr N c : Nat} {d : Dv} {slot chunk : Int}
theorem DvM.nilrow (h : DvM w0 w gd gr N d L) : DvM w0 w gd gr N d (row w0 (Kd.int .u8) 5 (.slice none 0 0) [] :: L) := ⟨h.1, (h.2.row_nil (Kd.int .u8) 5).q2⟩
theorem put0_call (hM : DvM w0 w gd gr N d L) (hN : N = 10240) :
    Calls Try.prog 54 #[rup gd slot chunk, .int .i64 0, .int .i64 0] w fun e w' => e = .returned (.bool (d.wrs 3840 [0]).2) ∧ DvM w0 w' gd gr N (d.wrs 3840 [0]).1 L := by
  have h := put_call (slot := slot) (chunk := chunk) hM 0 0 (by omega) (by omega)
  rw [wrs_one]
  exact h
theorem cp_bound {sl n N sn : Nat} (h1 : sl + 6144 ≤ N) (h2 : n ≤ 6144) (h0 : 1 ≤ n) (hN : N = 10240) (hs : sl + n = sn) :
    wrap64 ((sl : Int) + (n : Int)) = (sn : Int) ∧ IntKind.i64.wrap ((sl : Int) + (n : Int)) = (sn : Int) ∧ sn ≤ N ∧ ¬ N = sl ∧ sn - sl = n ∧ sl ≤ sn ∧ (sl : Int) ≤ (sn : Int) ∧ (sn : Int) ≤ (N : Int) := by
  subst hs
  rw [IntKind.wrap_i64]
  unfold wrap64
  omega
set_option maxRecDepth 100000 in
set_option maxHeartbeats 2000000 in
theorem rComplete_call {sl : Nat} (hM : DvM w0 w gd gr N d L) (hN : N = 10240) (hc : 4 ≤ c) (hc2 : c ≤ 36) (hsl : sl + 6144 ≤ N) :
    Calls Try.prog 47 #[rup gd (sl : Int) (c : Int)] w fun e w' => ∃ v, e = .returned (.tuple #[v, .int .i64 (d.compl sl c).2.2.1, .int .i64 (d.compl sl c).2.2.2]) ∧ DvM w0 w' gd gr N (d.compl sl c).1 (row w0 (Kd.int .u8) 5 v (d.compl sl c).2.1 :: L) := by
  have HC := Aside0.mk (fun W (hb : Below w.heap.size w W) => Active_call (slot := (sl : Int)) (chunk := (c : Int)) (hM.step hb) hN)
  have HR := Aside0.mk (RQ.start w gd (sl : Int) (c : Int))
  obtain ⟨g1, hg1⟩ : ∃ g1, g1 = w.heap.size := ⟨_, rfl⟩
  have HA1 := Aside0.mk (hM.add (.cells #[.pointer (some ⟨gd, 0, none⟩), .int .i64 (sl : Int), .int .i64 (c : Int)] 28))
  rw [← hg1] at HR HA1
  have HM := Aside0.mk hM
  have HN := Aside0.mk hN
  have mixed : Try.prog.follows Departure.mixedOrders = true := by kernel_rfl
  cases hac : d.act (c : Int) with
  | false =>
    rw [hac] at HC
    have HD := Aside0.mk (compl1 (sl := sl) hac)
    unfold rup at *
    clear hac hM hN hc hc2 hsl
    go_enter Try.func47, Try.ntmps47
    go_wp2_with fail
    rw [← hg1]
    refine (HC.out _ HR.out.1).mono ?_
    rintro e w1 ⟨rfl, hb⟩
    have HB := Aside0.mk (below_step HR.out.1 hb)
    clear hb hg1
    go_wp2_with fail
    go_ret3
    rw [HD.out]
    exact ⟨_, rfl, (HM.out.step HB.out).nilrow⟩
  | true =>
    rw [hac] at HC
    have HMi := Aside0.mk (fun W (hb : Below w.heap.size w W) => rMissing_call (slot := (sl : Int)) (hM.step hb) hN hc hc2)
    obtain ⟨hl1, hl2⟩ := act_len hac
    have HON := Aside0.mk (act_on hac)
    cases hmi : d.misA c with
    | some i =>
      rw [hmi] at HMi
      have HD := Aside0.mk (compl2 (sl := sl) hac hmi)
      unfold rup misR at *
      clear hac hM hN hc hc2 hsl hmi hl1 hl2
      go_enter Try.func47, Try.ntmps47
      go_wp2_with fail
      rw [← hg1]
      refine (HC.out _ HR.out.1).mono ?_
      rintro e w1 ⟨rfl, hb⟩
      have HR1 := Aside0.mk (HR.out.step hb)
      clear hb hg1
      have t0 := blk_cell HR1.out.2 0
      have t1 := blk_cell HR1.out.2 1
      have t2 := blk_cell HR1.out.2 2
      go_wp2_with fail
      refine (HMi.out _ HR1.out.1).mono ?_
      rintro e w2 ⟨rfl, hb⟩
      have HB := Aside0.mk (below_step HR1.out.1 hb)
      clear hb
      go_wp2_with fail
      go_ret3
      rw [HD.out]
      exact ⟨_, rfl, (HM.out.step HB.out).nilrow⟩
    | none =>
      rw [hmi] at HMi
      obtain ⟨n, hn⟩ : ∃ n : Nat, d.num 5 2 = (n : Int) := ⟨(d.num 5 2).toNat, by omega⟩
      have hn0 : 1 ≤ n := by omega
      have hn2 : n ≤ 6144 := by omega
      have HNB := Aside0.mk hn2
      have HMD := Aside0.mk hM.1
      have HLEN := Aside0.mk (rds_len hM.1 (a := sl) (n := n) (by omega))
      have HBY := Aside0.mk (rds_byte hM.1 sl n)
      obtain ⟨n1, hn1⟩ : ∃ n1, n1 = d.num 1 4 := ⟨_, rfl⟩
      obtain ⟨n7, hn7⟩ : ∃ n7, n7 = d.num 7 2 := ⟨_, rfl⟩
      obtain ⟨xs, hxs⟩ : ∃ xs, xs = d.rds sl n := ⟨_, rfl⟩
      have K5 := Aside0.mk (fun W (hb : Below w.heap.size w W) => rnumber5 (slot := (sl : Int)) (chunk := (c : Int)) (hM.step hb) hN)
      have HN7 := Aside0.mk (fun (V : Value) (W : World) (hb : Mem w0 W (row w0 (Kd.int .u8) 5 V xs :: dev w0 gd gr N d (blk g1 #[.pointer (some ⟨gd, 0, none⟩), .int .i64 (sl : Int), .int .i64 (c : Int)] 28 :: L))) => rnumber7 (slot := (sl : Int)) (chunk := (c : Int)) (L := _) (⟨hM.1, hb.drop⟩ : DvM w0 W gd gr N d _) hN)
      have HN1 := Aside0.mk (fun (V : Value) (W : World) (hb : Mem w0 W (row w0 (Kd.int .u8) 5 V xs :: dev w0 gd gr N d (blk g1 #[.pointer (some ⟨gd, 0, none⟩), .int .i64 (sl : Int), .int .i64 (c : Int)] 28 :: L))) => rnumber1 (slot := (sl : Int)) (chunk := (c : Int)) (L := _) (⟨hM.1, hb.drop⟩ : DvM w0 W gd gr N d _) hN)
      have HPU := Aside0.mk (fun (V : Value) (W : World) (hb : Mem w0 W (row w0 (Kd.int .u8) 5 V xs :: dev w0 gd gr N d (blk g1 #[.pointer (some ⟨gd, 0, none⟩), .int .i64 (sl : Int), .int .i64 (c : Int)] 28 :: L))) => put0_call (slot := (sl : Int)) (chunk := (c : Int)) (L := _) (⟨hM.1, hb.drop⟩ : DvM w0 W gd gr N d _) hN)
      have HCX := Aside0.mk (fun (W : World) (V : Value) (hb : Mem w0 W (row w0 (Kd.int .u8) 5 V [] :: dev w0 gd gr N d (blk g1 #[.pointer (some ⟨gd, 0, none⟩), .int .i64 (sl : Int), .int .i64 (c : Int)] 28 :: L))) => show (Kd.int .u8).C W (some ⟨gr, sl, none⟩) n xs by
        have h1 := C_sub (m := n) (a := sl) hb.drop.drop.readsE.2 (by omega) hM.1.len (by omega)
        rw [hxs]
        unfold Dv.rds
        rw [if_neg (by rw [act_on hac]; simp)]
        exact h1)
      obtain ⟨sn, hsnn⟩ : ∃ sn, sl + n = sn := ⟨_, rfl⟩
      obtain ⟨hsn, hsn2, b1, b2, b3, b4, b5, b6⟩ := cp_bound hsl hn2 hn0 hN hsnn
      rw [hn] at K5
      rw [← hn7] at HN7
      rw [← hn1] at HN1
      rw [← hxs] at HLEN HBY
      have HD3 := Aside0.mk (fun h => compl3 (sl := sl) hac hmi h)
      have HD4 := Aside0.mk (fun h => compl4 (sl := sl) hac hmi h)
      rw [hn, Int.toNat_natCast, ← hxs, ← hn7, ← hn1] at HD3
      rw [hn, Int.toNat_natCast, ← hxs, ← hn7] at HD4
      unfold rup misR at *
      clear hac hM hN hc hc2 hsl hmi hl1 hl2 hn hn0 hn2 hn1 hn7 hxs hsnn
      go_enter Try.func47, Try.ntmps47
      go_wp2_with fail
      rw [← hg1]
      refine (HC.out _ HR.out.1).mono ?_
      rintro e w1 ⟨rfl, hb⟩
      have HR1 := Aside0.mk (HR.out.step hb)
      have HA2 := Aside0.mk (HA1.out.step hb)
      clear hb hg1
      have t0 := blk_cell HR1.out.2 0
      have t1 := blk_cell HR1.out.2 1
      have t2 := blk_cell HR1.out.2 2
      go_wp2_with fail
      refine (HMi.out _ HR1.out.1).mono ?_
      rintro e w2 ⟨rfl, hb⟩
      have HR2 := Aside0.mk (HR1.out.step hb)
      have HA2b := Aside0.mk (HA2.out.step hb)
      clear hb t0 t1 t2
      have t0 := blk_cell HR2.out.2 0
      have t1 := blk_cell HR2.out.2 1
      have t2 := blk_cell HR2.out.2 2
      go_wp2_with fail
      refine (K5.out _ HR2.out.1).mono ?_
      rintro e w3 ⟨rfl, hb⟩
      have HA3 := Aside0.mk (HA2b.out.step hb)
      clear hb t0 t1 t2
      have t0 := blk_cell HA3.out.drew'.top 0
      have t1 := blk_cell HA3.out.drew'.top 1
      have x0 := blk_cell HA3.out.drew'.2.get 0
      go_wp2_with fail
      refine wp_region_held_drew (S := fun W => W.cell? ⟨g1, 0, none⟩ = some (.pointer (some ⟨gd, 0, none⟩)) ∧ W.cell? ⟨g1, 1, none⟩ = some (.int .i64 (sl : Int)) ∧ W.cell? ⟨gd, 0, none⟩ = some (.slice (some ⟨gr, 0, none⟩) N N)) (by kernel_rfl) ⟨t0, t1, x0⟩ (fun hS => ?_)
      refine wpAnyH_take (i := 1) (oi := { dst := some 21, op := Op.fieldAddr 28 (Operand.tmp 1) 0, type := 0, pos := "ref.go:163", after := #[], guard := none }) (v := ?_) rfl (by kernel_rfl) (by kernel_rfl) (by kernel_rfl) (fun _ _ _ h => h) (Or.inl ⟨by rfl, ?_⟩) hS ?_
      rotate_left
      · intro W_ hSW_
        obtain ⟨t0_, t1_, x0_⟩ := hSW_
        go_simp
        try with_reducible rfl
      try simp only [Act.put, List.setIfInBounds_toArray, List.set_cons_zero, List.set_cons_succ]
      refine wpAnyH_take (i := 2) (oi := { dst := some 22, op := Op.load 26 (Operand.tmp 21), type := 26, pos := "ref.go:163", after := #[{ on := 1, ground := Ground.data }], guard := none }) (v := ?_) rfl (by kernel_rfl) (by kernel_rfl) (by kernel_rfl) (fun _ _ _ h => h) (Or.inl ⟨by rfl, ?_⟩) hS ?_
      rotate_left
      · intro W_ hSW_
        obtain ⟨t0_, t1_, x0_⟩ := hSW_
        go_simp
        try with_reducible rfl
      try simp only [Act.put, List.setIfInBounds_toArray, List.set_cons_zero, List.set_cons_succ]
      refine wpAnyH_take (i := 3) (oi := { dst := some 23, op := Op.nilCheck (Operand.tmp 22), type := 0, pos := "ref.go:163", after := #[{ on := 2, ground := Ground.data }], guard := none }) (v := ?_) rfl (by kernel_rfl) (by kernel_rfl) (by kernel_rfl) (fun _ _ _ h => h) (Or.inl ⟨by rfl, ?_⟩) hS ?_
      rotate_left
      · intro W_ hSW_
        obtain ⟨t0_, t1_, x0_⟩ := hSW_
        go_simp
        try with_reducible rfl
      try simp only [Act.put, List.setIfInBounds_toArray, List.set_cons_zero, List.set_cons_succ]
      refine wpAnyH_take (i := 4) (oi := { dst := some 24, op := Op.fieldAddr 62 (Operand.tmp 23) 0, type := 0, pos := "ref.go:163", after := #[{ on := 3, ground := Ground.data }], guard := none }) (v := ?_) rfl (by kernel_rfl) (by kernel_rfl) (by kernel_rfl) (fun _ _ _ h => h) (Or.inl ⟨by rfl, ?_⟩) hS ?_
      rotate_left
      · intro W_ hSW_
        obtain ⟨t0_, t1_, x0_⟩ := hSW_
        go_simp
        try with_reducible rfl
      try simp only [Act.put, List.setIfInBounds_toArray, List.set_cons_zero, List.set_cons_succ]
      refine wpAnyH_take (i := 5) (oi := { dst := some 25, op := Op.load 22 (Operand.tmp 24), type := 22, pos := "ref.go:163", after := #[{ on := 4, ground := Ground.data }], guard := none }) (v := ?_) rfl (by kernel_rfl) (by kernel_rfl) (by kernel_rfl) (fun _ _ _ h => h) (Or.inl ⟨by rfl, ?_⟩) hS ?_
      rotate_left
      · intro W_ hSW_
        obtain ⟨t0_, t1_, x0_⟩ := hSW_
        go_simp
        try with_reducible rfl
      try simp only [Act.put, List.setIfInBounds_toArray, List.set_cons_zero, List.set_cons_succ]
      refine wpAnyH_take (i := 6) (oi := { dst := some 26, op := Op.fieldAddr 28 (Operand.tmp 1) 1, type := 0, pos := "ref.go:163", after := #[], guard := none }) (v := ?_) rfl (by kernel_rfl) (by kernel_rfl) (by kernel_rfl) (fun _ _ _ h => h) (Or.inl ⟨by rfl, ?_⟩) hS ?_
      rotate_left
      · intro W_ hSW_
        obtain ⟨t0_, t1_, x0_⟩ := hSW_
        go_simp
        try with_reducible rfl
      try simp only [Act.put, List.setIfInBounds_toArray, List.set_cons_zero, List.set_cons_succ]
      refine wpAnyH_take (i := 7) (oi := { dst := some 27, op := Op.load 3 (Operand.tmp 26), type := 3, pos := "ref.go:163", after := #[{ on := 6, ground := Ground.data }], guard := none }) (v := ?_) rfl (by kernel_rfl) (by kernel_rfl) (by kernel_rfl) (fun _ _ _ h => h) (Or.inl ⟨by rfl, ?_⟩) hS ?_
      rotate_left
      · intro W_ hSW_
        obtain ⟨t0_, t1_, x0_⟩ := hSW_
        go_simp
        try with_reducible rfl
      try simp only [Act.put, List.setIfInBounds_toArray, List.set_cons_zero, List.set_cons_succ]
      refine wpAnyH_take (i := 8) (oi := { dst := some 28, op := Op.fieldAddr 28 (Operand.tmp 1) 1, type := 0, pos := "ref.go:163", after := #[], guard := none }) (v := ?_) rfl (by kernel_rfl) (by kernel_rfl) (by kernel_rfl) (fun _ _ _ h => h) (Or.inl ⟨by rfl, ?_⟩) hS ?_
      rotate_left
      · intro W_ hSW_
        obtain ⟨t0_, t1_, x0_⟩ := hSW_
        go_simp
        try with_reducible rfl
      try simp only [Act.put, List.setIfInBounds_toArray, List.set_cons_zero, List.set_cons_succ]
      refine wpAnyH_take (i := 9) (oi := { dst := some 29, op := Op.load 3 (Operand.tmp 28), type := 3, pos := "ref.go:163", after := #[{ on := 8, ground := Ground.data }], guard := none }) (v := ?_) rfl (by kernel_rfl) (by kernel_rfl) (by kernel_rfl) (fun _ _ _ h => h) (Or.inl ⟨by rfl, ?_⟩) hS ?_
      rotate_left
      · intro W_ hSW_
        obtain ⟨t0_, t1_, x0_⟩ := hSW_
        go_simp
        try with_reducible rfl
      try simp only [Act.put, List.setIfInBounds_toArray, List.set_cons_zero, List.set_cons_succ]
      refine wpAnyH_take (i := 10) (oi := { dst := some 30, op := Op.move (Operand.tmp 7), type := 3, pos := "ref.go:163", after := #[], guard := none }) (v := ?_) rfl (by kernel_rfl) (by kernel_rfl) (by kernel_rfl) (fun _ _ _ h => h) (Or.inl ⟨by rfl, ?_⟩) hS ?_
      rotate_left
      · intro W_ hSW_
        obtain ⟨t0_, t1_, x0_⟩ := hSW_
        go_simp
        try with_reducible rfl
      try simp only [Act.put, List.setIfInBounds_toArray, List.set_cons_zero, List.set_cons_succ]
      refine wpAnyH_take (i := 11) (oi := { dst := some 31, op := Op.binOp BinOp.add 3 (Operand.tmp 29) (Operand.tmp 30) 3, type := 3, pos := "ref.go:163", after := #[{ on := 9, ground := Ground.data }, { on := 10, ground := Ground.data }], guard := none }) (v := ?_) rfl (by kernel_rfl) (by kernel_rfl) (by kernel_rfl) (fun _ _ _ h => h) (Or.inl ⟨by rfl, ?_⟩) hS ?_
      rotate_left
      · intro W_ hSW_
        obtain ⟨t0_, t1_, x0_⟩ := hSW_
        go_simp
        try with_reducible rfl
      try simp only [Act.put, List.setIfInBounds_toArray, List.set_cons_zero, List.set_cons_succ]
      refine wpAnyH_take (i := 12) (oi := { dst := some 32, op := Op.slice 22 (Operand.tmp 25) (some (Operand.tmp 27)) (some (Operand.tmp 31)) none, type := 22, pos := "ref.go:163", after := #[{ on := 5, ground := Ground.data }, { on := 7, ground := Ground.data }, { on := 11, ground := Ground.data }], guard := none }) (v := ?_) rfl (by kernel_rfl) (by kernel_rfl) (by kernel_rfl) (fun _ _ _ h => h) (Or.inl ⟨by rfl, ?_⟩) hS ?_
      rotate_left
      · intro W_ hSW_
        obtain ⟨t0_, t1_, x0_⟩ := hSW_
        go_simp
        try with_reducible rfl
      try simp only [Act.put, List.setIfInBounds_toArray, List.set_cons_zero, List.set_cons_succ]
      refine wpAnyH_ready (rs := [0]) (by kernel_rfl) (by simp) ?_
      refine AllReadyH.cons (o := { dst := some 20, op := Op.buildSlice 22 0 #[], type := 22, pos := "ref.go:163", after := #[], guard := none }) rfl (fun K_ hK_ => ?_) AllReadyH.nil
      refine event_step (v := .slice (some ⟨w3.drew.heap.size, 0, none⟩) 0 0) (w1 := w3.drew.alloc (.cells #[] 5)) rfl ?hrun ?_
      case hrun => first | (go_simp; done) | (go_simp; rfl)
      have HMa := Aside0.mk (HA3.out.2.drew.row_empty (Kd.int .u8) 5)
      refine hK_.out _ _ (⟨blk_cell HMa.out.p3.get 0, blk_cell HMa.out.p3.get 1, blk_cell HMa.out.p1.get 0⟩) (fun hS_ => ?_)
      clear hK_ K_ hS
      have hS := hS_
      clear hS_
      try simp only [Act.put, List.setIfInBounds_toArray, List.set_cons_zero, List.set_cons_succ]
      refine wpAnyH_ready (rs := [13]) (by kernel_rfl) (by simp) ?_
      refine AllReadyH.cons (o := { dst := some 33, op := Op.call { callee := Callee.builtin Builtin.append, args := #[Operand.tmp 20, Operand.tmp 32], argTypes := #[22, 22] }, type := 22, pos := "ref.go:163", after := #[{ on := 0, ground := Ground.data }, { on := 12, ground := Ground.data }], guard := none }) rfl (fun K_ hK_ => ?_) AllReadyH.nil
      refine append_ints_step .u8 (w0 := w0) rfl (.tmp 20) (.tmp 32) 22 5 1 rfl Try.underlying22 info5 (by decide) _ [] xs (some ⟨gr, sl, none⟩) n (N - sl) rfl rfl (HCX.out _ _ HMa.out) HMa.out (by have := HNB.out; simp; omega) ?_
      intro v4 w4 hm
      rw [List.nil_append] at hm
      obtain ⟨A4, c4, rfl, hl4, hC4⟩ := hm.readsN HLEN.out
      have HMb := Aside0.mk hm
      have HR4 := Aside0.mk (And.intro hl4 hC4)
      clear hm hl4 hC4 HMa
      refine hK_.out _ _ (⟨blk_cell HMb.out.p3.get 0, blk_cell HMb.out.p3.get 1, blk_cell HMb.out.p1.get 0⟩) (fun hS_ => ?_)
      clear hK_ K_ hS
      have hS := hS_
      clear hS_
      try simp only [Act.put, List.setIfInBounds_toArray, List.set_cons_zero, List.set_cons_succ]
      refine wpAnyH_take (i := 14) (oi := { dst := some 8, op := Op.assign (Operand.tmp 33), type := 22, pos := "ref.go:163", after := #[{ on := 13, ground := Ground.data }, { on := 13, ground := Ground.chain }, { on := 0, ground := Ground.phase }, { on := 1, ground := Ground.phase }, { on := 2, ground := Ground.phase }, { on := 3, ground := Ground.phase }, { on := 4, ground := Ground.phase }, { on := 5, ground := Ground.phase }, { on := 6, ground := Ground.phase }, { on := 7, ground := Ground.phase }, { on := 8, ground := Ground.phase }, { on := 9, ground := Ground.phase }, { on := 10, ground := Ground.phase }, { on := 11, ground := Ground.phase }, { on := 12, ground := Ground.phase }, { on := 13, ground := Ground.phase }], guard := none }) (v := ?_) rfl (by kernel_rfl) (by kernel_rfl) (by kernel_rfl) (fun _ _ _ h => h) (Or.inl ⟨by rfl, ?_⟩) hS ?_
      rotate_left
      · intro W_ hSW_
        obtain ⟨t0_, t1_, x0_⟩ := hSW_
        go_simp
        try with_reducible rfl
      try simp only [Act.put, List.setIfInBounds_toArray, List.set_cons_zero, List.set_cons_succ]
      refine wpAnyH_done (by kernel_rfl) ?_ _
      clear hS t0 t1 x0
      go_wp2_with fail
      have t0 := blk_cell HMb.out.drew.p3.get 0
      have t1 := blk_cell HMb.out.drew.p3.get 1
      have t2 := blk_cell HMb.out.drew.p3.get 2
      have HSM := Aside0.mk (fun (W : World) (hb : Mem w0 W (row w0 (Kd.int .u8) 5 (.slice A4 n c4) xs :: dev w0 gd gr N d (blk g1 #[.pointer (some ⟨gd, 0, none⟩), .int .i64 (sl : Int), .int .i64 (c : Int)] 28 :: L))) => rsum_call hb.readsE.2 hb.readsE.1 HBY.out (by have := HNB.out; omega))
      have hcl := crcI_lt xs
      have hcn := crcI_nn xs
      have hcw : wrap64 (crcI xs) = crcI xs := by unfold wrap64; omega
      have hcw2 : IntKind.i64.wrap (crcI xs) = crcI xs := by rw [IntKind.wrap_i64]; omega
      clear hcl hcn
      refine wp_region_held_drew (S := fun W => W.cell? ⟨g1, 0, none⟩ = some (.pointer (some ⟨gd, 0, none⟩)) ∧ W.cell? ⟨g1, 1, none⟩ = some (.int .i64 (sl : Int)) ∧ W.cell? ⟨g1, 2, none⟩ = some (.int .i64 (c : Int))) (by kernel_rfl) ⟨t0, t1, t2⟩ (fun hS => ?_)
      refine wpAnyH_take (i := 0) (oi := { dst := some 34, op := Op.move (Operand.tmp 8), type := 22, pos := "ref.go:164", after := #[], guard := none }) (v := ?_) rfl (by kernel_rfl) (by kernel_rfl) (by kernel_rfl) (fun _ _ _ h => h) (Or.inl ⟨by rfl, ?_⟩) hS ?_
      rotate_left
      · intro W_ hSW_
        obtain ⟨t0_, t1_, t2_⟩ := hSW_
        go_simp
        try with_reducible rfl
      try simp only [Act.put, List.setIfInBounds_toArray, List.set_cons_zero, List.set_cons_succ]
      refine wpAnyH_take (i := 3) (oi := { dst := some 37, op := Op.load 28 (Operand.tmp 1), type := 28, pos := "ref.go:164", after := #[], guard := none }) (v := ?_) rfl (by kernel_rfl) (by kernel_rfl) (by kernel_rfl) (fun _ _ _ h => h) (Or.inl ⟨by rfl, ?_⟩) hS ?_
      rotate_left
      · intro W_ hSW_
        obtain ⟨t0_, t1_, t2_⟩ := hSW_
        go_simp
        try with_reducible rfl
      try simp only [Act.put, List.setIfInBounds_toArray, List.set_cons_zero, List.set_cons_succ]
      refine wpAnyH_ready (rs := [1]) (by kernel_rfl) (by simp) ?_
      refine AllReadyH.cons (o := { dst := some 35, op := Op.call { callee := Callee.value (Operand.func 58), args := #[Operand.tmp 34], argTypes := #[22] }, type := 38, pos := "ref.go:164", after := #[{ on := 0, ground := Ground.data }], guard := none }) rfl (fun K_ hK_ => ?_) AllReadyH.nil
      go_simp
      refine (HSM.out _ HMb.out.drew).mono ?_
      rintro e w5 ⟨rfl, hb5⟩
      have HMc := Aside0.mk (HMb.out.drew.step hb5)
      clear hb5
      refine hK_.out _ _ (⟨blk_cell HMc.out.p3.get 0, blk_cell HMc.out.p3.get 1, blk_cell HMc.out.p3.get 2⟩) (fun hS_ => ?_)
      clear hK_ K_ hS
      have hS := hS_
      clear hS_
      try simp only [Act.put, List.setIfInBounds_toArray, List.set_cons_zero, List.set_cons_succ]
      refine wpAnyH_take (i := 2) (oi := { dst := some 36, op := Op.convert 38 3 (Operand.tmp 35), type := 3, pos := "ref.go:164", after := #[{ on := 1, ground := Ground.data }], guard := none }) (v := ?_) rfl (by kernel_rfl) (by kernel_rfl) (by kernel_rfl) (fun _ _ _ h => h) (Or.inl ⟨by rfl, ?_⟩) hS ?_
      rotate_left
      · intro W_ hSW_
        obtain ⟨t0_, t1_, t2_⟩ := hSW_
        go_simp
        try with_reducible rfl
      try simp only [Act.put, List.setIfInBounds_toArray, List.set_cons_zero, List.set_cons_succ]
      refine wpAnyH_ready (rs := [4]) (by kernel_rfl) (by simp) ?_
      refine AllReadyH.cons (o := { dst := some 38, op := Op.call { callee := Callee.value (Operand.func 51), args := #[Operand.tmp 37, Operand.const (Value.int IntKind.i64 7), Operand.const (Value.int IntKind.i64 2)], argTypes := #[28, 3, 3] }, type := 3, pos := "ref.go:164", after := #[{ on := 3, ground := Ground.data }, { on := 1, ground := Ground.chain }], guard := none }) rfl (fun K_ hK_ => ?_) AllReadyH.nil
      go_simp
      refine (HN7.out _ _ HMc.out).mono ?_
      rintro e w6 ⟨rfl, hb6⟩
      have HMd := Aside0.mk (HMc.out.step hb6)
      clear hb6
      refine hK_.out _ _ (⟨blk_cell HMd.out.p3.get 0, blk_cell HMd.out.p3.get 1, blk_cell HMd.out.p3.get 2⟩) (fun hS_ => ?_)
      clear hK_ K_ hS
      have hS := hS_
      clear hS_
      try simp only [Act.put, List.setIfInBounds_toArray, List.set_cons_zero, List.set_cons_succ]
      refine wpAnyH_take (i := 5) (oi := { dst := some 39, op := Op.binOp BinOp.neq 3 (Operand.tmp 36) (Operand.tmp 38) 3, type := 4, pos := "ref.go:164", after := #[{ on := 2, ground := Ground.data }, { on := 4, ground := Ground.data }], guard := none }) (v := ?_) rfl (by kernel_rfl) (by kernel_rfl) (by kernel_rfl) (fun _ _ _ h => h) (Or.inl ⟨by rfl, ?_⟩) hS ?_
      rotate_left
      · intro W_ hSW_
        obtain ⟨t0_, t1_, t2_⟩ := hSW_
        go_simp
        try with_reducible rfl
      try simp only [Act.put, List.setIfInBounds_toArray, List.set_cons_zero, List.set_cons_succ]
      refine wpAnyH_done (by kernel_rfl) ?_ _
      clear hS t0 t1 t2
      have t0 := blk_cell HMd.out.p3.get 0
      have t1 := blk_cell HMd.out.p3.get 1
      have t2 := blk_cell HMd.out.p3.get 2
      by_cases hcr : crcI xs = n7
      · have HD := Aside0.mk (HD3.out hcr)
        have hcb : (crcI xs != n7) = false := by rw [hcr]; simp
        clear hcr
        go_wp2_with fail
        refine (HN1.out _ _ HMd.out).mono ?_
        rintro e w7 ⟨rfl, hb⟩
        have HM7 := Aside0.mk (HMd.out.step hb)
        clear hb
        go_wp2_with fail
        go_ret3
        rw [HD.out]
        exact ⟨_, rfl, HMD.out, HM7.out.p3.drop.q2⟩
      · have HD := Aside0.mk (HD4.out hcr)
        have hcb : (crcI xs != n7) = true := by simp [hcr]
        clear hcr
        go_wp2_with fail
        have HPP := Aside0.mk (HPU.out _ _ HMd.out)
        cases hok : (d.wrs 3840 [0]).2 with
        | true =>
          rw [hok] at HPP
          have HOK := Aside0.mk hok
          clear hok
          refine HPP.out.mono ?_
          rintro e w7 ⟨rfl, hm⟩
          have HM7 := Aside0.mk hm
          clear hm
          go_wp2_with fail
          go_ret3
          rw [HD.out, HOK.out]
          exact ⟨_, rfl, HM7.out.drop.nilrow⟩
        | false =>
          rw [hok] at HPP
          have HOK := Aside0.mk hok
          clear hok
          refine HPP.out.mono ?_
          rintro e w7 ⟨rfl, hm⟩
          have HM7 := Aside0.mk hm
          clear hm
          go_wp2_with fail
          go_ret3
          rw [HD.out, HOK.out]
          exact ⟨_, rfl, HM7.out.drop.nilrow⟩
end Go.Proofs.Ytfcldacjnegacaa.Up
