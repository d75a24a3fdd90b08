/- The law's do: an operation on the updater and on the reference. Printed by mkDo.py. -/
import Derived.Test.YtfcldacjnegacaaDw
namespace Go.Proofs.Ytfcldacjnegacaa.Up
open Go.RowKit Go.Proofs.YtfcldacjnegacaaW.PrintWords Go.Proofs.YtfcldacjnegacaaW.PrintLast Go.Proofs.YtfcldacjnegacaaW.PrintMore Go.Proofs.Ytfcldacjnegacaa.Sl
set_option linter.unusedVariables false
set_option linter.unusedSimpArgs false

attribute [local go_sem] max2_int min2_int max_two min_two
variable {L : List Chunk} {w0 w w' : World} {gm gb gu gd gr N c : Nat} {d e : Dv}
abbrev o30 (gm gu gd c : Nat) : Obj := .cells #[.pointer (some ⟨gm, 0, none⟩), .pointer (some ⟨gu, 0, none⟩), .pointer (some ⟨gd, 0, none⟩), .int .i64 4096, .int .i64 (c : Int)] 30
abbrev o58 (k v l s i : Int) (A : Option Addr) (n cp : Nat) : Obj := .cells #[.int .u8 k, .int .i64 v, .int .i64 l, .int .u16 s, .int .i64 i, .slice A n cp] 58
theorem st58 {k v l s i : Int} {A : Option Addr} {n cp : Nat} (hS : St w0 w gm gb gu gd gr N d d c L) : St w0 ((w.alloc (o30 gm gu gd c)).alloc (o58 k v l s i A n cp)) gm gb gu gd gr N d d c (ob (w.heap.size + 1) (o58 k v l s i A n cp) :: ob w.heap.size (o30 gm gu gd c) :: L) :=
  (hS.add (o30 gm gu gd c)).add_ (o58 k v l s i A n cp) (by simp)
abbrev args27 (gm gu gd c : Nat) (k v l s i : Int) (A : Option Addr) (n cp : Nat) : Array Value := #[.agg #[.pointer (some ⟨gm, 0, none⟩), .pointer (some ⟨gu, 0, none⟩), .pointer (some ⟨gd, 0, none⟩), .int .i64 4096, .int .i64 (c : Int)], .agg #[.int .u8 k, .int .i64 v, .int .i64 l, .int .u16 s, .int .i64 i, .slice A n cp]]
set_option maxRecDepth 100000 in
set_option maxHeartbeats 2000000 in
theorem do_0 (hS : St w0 w gm gb gu gd gr N d d c L) (hN : N = 10240) (hc : 4 ≤ c) (hc2 : c ≤ 36) {k v l s i : Int} {A : Option Addr} {n cp : Nat} {xs : List Int} (hC : (Kd.int .u8).C w0 A n xs) (hx : ∀ x ∈ xs, 0 ≤ x ∧ x < 256) (hk0 : 0 ≤ k) (hk : k % 7 = 0) (hs0 : 0 ≤ s) (hs1 : s < 65536) :
    Calls Try.prog 27 (args27 gm gu gd c k v l s i A n cp) w fun e w' => e = .returned (.bool true) ∧ St w0 w' gm gb gu gd gr N (d.offer c v l s).1 (d.offer c v l s).1 c L := by
  have HS := Aside0.mk (st58 (k := k) (v := v) (l := l) (s := s) (i := i) (A := A) (n := n) (cp := cp) hS)
  have HN := Aside0.mk hN
  have HC := Aside0.mk (And.intro hc hc2)
  have HX := Aside0.mk (And.intro hC hx)
  have H16 := Aside0.mk (And.intro hs0 hs1)
  clear hs0 hs1
  clear hS hN hc hc2 hC hx
  obtain ⟨g2, hg2⟩ : ∃ g2, g2 = w.heap.size := ⟨_, rfl⟩
  rw [← hg2] at HS
  obtain ⟨g3, hg3⟩ : ∃ g3, g3 = g2 + 1 := ⟨_, rfl⟩
  rw [← hg3] at HS
  have hx := HS.out.top
  have hy := HS.out.drop.top
  have q0 := blk_cell hx 0
  have q1 := blk_cell hx 1
  have q2 := blk_cell hx 2
  have q3 := blk_cell hx 3
  have q4 := blk_cell hx 4
  have q5 := blk_cell hx 5
  have y0 := blk_cell hy 0
  have y1 := blk_cell hy 1
  have y2 := blk_cell hy 2
  have y3 := blk_cell hy 3
  have y4 := blk_cell hy 4
  clear hx hy
  obtain ⟨r, hr, hr2⟩ : ∃ r : Int, k % 7 = r ∧ k.tmod 7 = r := ⟨_, rfl, by rw [Int.tmod_eq_emod_of_nonneg hk0]⟩
  rw [hr] at hk
  have b0 : (k % 7 == 0) = true := by rw [hr]; simp; omega
  have c0 : (k.tmod 7 == 0) = true := by rw [hr2]; simp; omega
  clear hk hk0 hr hr2
  go_enter Try.func27, Try.ntmps27
  go_wp2_with fail
  rw [← hg2, ← hg3]
  clear hg2 hg3
  refine wp_region_held_drew (S := fun W => W.cell? ⟨g2, 1, none⟩ = some (.pointer (some ⟨gu, 0, none⟩)) ∧ W.cell? ⟨g2, 2, none⟩ = some (.pointer (some ⟨gd, 0, none⟩)) ∧ W.cell? ⟨g2, 3, none⟩ = some (.int .i64 4096) ∧ W.cell? ⟨g2, 4, none⟩ = some (.int .i64 (c : Int)) ∧ W.cell? ⟨g3, 1, none⟩ = some (.int .i64 v) ∧ W.cell? ⟨g3, 2, none⟩ = some (.int .i64 l) ∧ W.cell? ⟨g3, 3, none⟩ = some (.int .u16 s)) (by kernel_rfl) ⟨y1, y2, y3, y4, q1, q2, q3⟩ (fun hS => ?_)
  refine wpAnyH_take (i := 0) (oi := { dst := some 30, op := Op.fieldAddr 30 (Operand.tmp 2) 1, type := 0, pos := "law.go:78", after := #[], guard := none }) (v := ?_) rfl (by kernel_rfl) (by kernel_rfl) (by kernel_rfl) (fun _ _ _ h => h) (Or.inl ⟨by rfl, ?_⟩) hS ?_
  rotate_left
  · intro W_ hSW_
    obtain ⟨y1_, y2_, y3_, y4_, q1_, q2_, q3_⟩ := hSW_
    go_simp
    try with_reducible rfl
  try simp only [Act.put, List.setIfInBounds_toArray, List.set_cons_zero, List.set_cons_succ]
  refine wpAnyH_take (i := 1) (oi := { dst := some 31, op := Op.load 25 (Operand.tmp 30), type := 25, pos := "law.go:78", after := #[{ on := 0, ground := Ground.data }], guard := none }) (v := ?_) rfl (by kernel_rfl) (by kernel_rfl) (by kernel_rfl) (fun _ _ _ h => h) (Or.inl ⟨by rfl, ?_⟩) hS ?_
  rotate_left
  · intro W_ hSW_
    obtain ⟨y1_, y2_, y3_, y4_, q1_, q2_, q3_⟩ := hSW_
    go_simp
    try with_reducible rfl
  try simp only [Act.put, List.setIfInBounds_toArray, List.set_cons_zero, List.set_cons_succ]
  refine wpAnyH_take (i := 2) (oi := { dst := some 32, op := Op.fieldAddr 58 (Operand.tmp 3) 1, type := 0, pos := "law.go:78", after := #[], guard := none }) (v := ?_) rfl (by kernel_rfl) (by kernel_rfl) (by kernel_rfl) (fun _ _ _ h => h) (Or.inl ⟨by rfl, ?_⟩) hS ?_
  rotate_left
  · intro W_ hSW_
    obtain ⟨y1_, y2_, y3_, y4_, q1_, q2_, q3_⟩ := hSW_
    go_simp
    try with_reducible rfl
  try simp only [Act.put, List.setIfInBounds_toArray, List.set_cons_zero, List.set_cons_succ]
  refine wpAnyH_take (i := 3) (oi := { dst := some 33, op := Op.load 3 (Operand.tmp 32), type := 3, pos := "law.go:78", after := #[{ on := 2, ground := Ground.data }], guard := none }) (v := ?_) rfl (by kernel_rfl) (by kernel_rfl) (by kernel_rfl) (fun _ _ _ h => h) (Or.inl ⟨by rfl, ?_⟩) hS ?_
  rotate_left
  · intro W_ hSW_
    obtain ⟨y1_, y2_, y3_, y4_, q1_, q2_, q3_⟩ := hSW_
    go_simp
    try with_reducible rfl
  try simp only [Act.put, List.setIfInBounds_toArray, List.set_cons_zero, List.set_cons_succ]
  refine wpAnyH_take (i := 4) (oi := { dst := some 34, op := Op.fieldAddr 58 (Operand.tmp 3) 2, type := 0, pos := "law.go:78", after := #[], guard := none }) (v := ?_) rfl (by kernel_rfl) (by kernel_rfl) (by kernel_rfl) (fun _ _ _ h => h) (Or.inl ⟨by rfl, ?_⟩) hS ?_
  rotate_left
  · intro W_ hSW_
    obtain ⟨y1_, y2_, y3_, y4_, q1_, q2_, q3_⟩ := hSW_
    go_simp
    try with_reducible rfl
  try simp only [Act.put, List.setIfInBounds_toArray, List.set_cons_zero, List.set_cons_succ]
  refine wpAnyH_take (i := 5) (oi := { dst := some 35, op := Op.load 3 (Operand.tmp 34), type := 3, pos := "law.go:78", after := #[{ on := 4, ground := Ground.data }], guard := none }) (v := ?_) rfl (by kernel_rfl) (by kernel_rfl) (by kernel_rfl) (fun _ _ _ h => h) (Or.inl ⟨by rfl, ?_⟩) hS ?_
  rotate_left
  · intro W_ hSW_
    obtain ⟨y1_, y2_, y3_, y4_, q1_, q2_, q3_⟩ := hSW_
    go_simp
    try with_reducible rfl
  try simp only [Act.put, List.setIfInBounds_toArray, List.set_cons_zero, List.set_cons_succ]
  refine wpAnyH_take (i := 6) (oi := { dst := some 36, op := Op.fieldAddr 58 (Operand.tmp 3) 3, type := 0, pos := "law.go:78", after := #[], guard := none }) (v := ?_) rfl (by kernel_rfl) (by kernel_rfl) (by kernel_rfl) (fun _ _ _ h => h) (Or.inl ⟨by rfl, ?_⟩) hS ?_
  rotate_left
  · intro W_ hSW_
    obtain ⟨y1_, y2_, y3_, y4_, q1_, q2_, q3_⟩ := hSW_
    go_simp
    try with_reducible rfl
  try simp only [Act.put, List.setIfInBounds_toArray, List.set_cons_zero, List.set_cons_succ]
  refine wpAnyH_take (i := 7) (oi := { dst := some 37, op := Op.load 38 (Operand.tmp 36), type := 38, pos := "law.go:78", after := #[{ on := 6, ground := Ground.data }], guard := none }) (v := ?_) rfl (by kernel_rfl) (by kernel_rfl) (by kernel_rfl) (fun _ _ _ h => h) (Or.inl ⟨by rfl, ?_⟩) hS ?_
  rotate_left
  · intro W_ hSW_
    obtain ⟨y1_, y2_, y3_, y4_, q1_, q2_, q3_⟩ := hSW_
    go_simp
    try with_reducible rfl
  try simp only [Act.put, List.setIfInBounds_toArray, List.set_cons_zero, List.set_cons_succ]
  refine wpAnyH_take (i := 9) (oi := { dst := some 39, op := Op.fieldAddr 30 (Operand.tmp 2) 2, type := 0, pos := "law.go:78", after := #[], guard := none }) (v := ?_) rfl (by kernel_rfl) (by kernel_rfl) (by kernel_rfl) (fun _ _ _ h => h) (Or.inl ⟨by rfl, ?_⟩) hS ?_
  rotate_left
  · intro W_ hSW_
    obtain ⟨y1_, y2_, y3_, y4_, q1_, q2_, q3_⟩ := hSW_
    go_simp
    try with_reducible rfl
  try simp only [Act.put, List.setIfInBounds_toArray, List.set_cons_zero, List.set_cons_succ]
  refine wpAnyH_take (i := 10) (oi := { dst := some 40, op := Op.load 28 (Operand.tmp 39), type := 28, pos := "law.go:78", after := #[{ on := 9, ground := Ground.data }], guard := none }) (v := ?_) rfl (by kernel_rfl) (by kernel_rfl) (by kernel_rfl) (fun _ _ _ h => h) (Or.inl ⟨by rfl, ?_⟩) hS ?_
  rotate_left
  · intro W_ hSW_
    obtain ⟨y1_, y2_, y3_, y4_, q1_, q2_, q3_⟩ := hSW_
    go_simp
    try with_reducible rfl
  try simp only [Act.put, List.setIfInBounds_toArray, List.set_cons_zero, List.set_cons_succ]
  refine wpAnyH_take (i := 11) (oi := { dst := some 41, op := Op.fieldAddr 58 (Operand.tmp 3) 1, type := 0, pos := "law.go:78", after := #[], guard := none }) (v := ?_) rfl (by kernel_rfl) (by kernel_rfl) (by kernel_rfl) (fun _ _ _ h => h) (Or.inl ⟨by rfl, ?_⟩) hS ?_
  rotate_left
  · intro W_ hSW_
    obtain ⟨y1_, y2_, y3_, y4_, q1_, q2_, q3_⟩ := hSW_
    go_simp
    try with_reducible rfl
  try simp only [Act.put, List.setIfInBounds_toArray, List.set_cons_zero, List.set_cons_succ]
  refine wpAnyH_take (i := 12) (oi := { dst := some 42, op := Op.load 3 (Operand.tmp 41), type := 3, pos := "law.go:78", after := #[{ on := 11, ground := Ground.data }], guard := none }) (v := ?_) rfl (by kernel_rfl) (by kernel_rfl) (by kernel_rfl) (fun _ _ _ h => h) (Or.inl ⟨by rfl, ?_⟩) hS ?_
  rotate_left
  · intro W_ hSW_
    obtain ⟨y1_, y2_, y3_, y4_, q1_, q2_, q3_⟩ := hSW_
    go_simp
    try with_reducible rfl
  try simp only [Act.put, List.setIfInBounds_toArray, List.set_cons_zero, List.set_cons_succ]
  refine wpAnyH_take (i := 13) (oi := { dst := some 43, op := Op.fieldAddr 58 (Operand.tmp 3) 2, type := 0, pos := "law.go:78", after := #[], guard := none }) (v := ?_) rfl (by kernel_rfl) (by kernel_rfl) (by kernel_rfl) (fun _ _ _ h => h) (Or.inl ⟨by rfl, ?_⟩) hS ?_
  rotate_left
  · intro W_ hSW_
    obtain ⟨y1_, y2_, y3_, y4_, q1_, q2_, q3_⟩ := hSW_
    go_simp
    try with_reducible rfl
  try simp only [Act.put, List.setIfInBounds_toArray, List.set_cons_zero, List.set_cons_succ]
  refine wpAnyH_take (i := 14) (oi := { dst := some 44, op := Op.load 3 (Operand.tmp 43), type := 3, pos := "law.go:78", after := #[{ on := 13, ground := Ground.data }], guard := none }) (v := ?_) rfl (by kernel_rfl) (by kernel_rfl) (by kernel_rfl) (fun _ _ _ h => h) (Or.inl ⟨by rfl, ?_⟩) hS ?_
  rotate_left
  · intro W_ hSW_
    obtain ⟨y1_, y2_, y3_, y4_, q1_, q2_, q3_⟩ := hSW_
    go_simp
    try with_reducible rfl
  try simp only [Act.put, List.setIfInBounds_toArray, List.set_cons_zero, List.set_cons_succ]
  refine wpAnyH_take (i := 15) (oi := { dst := some 45, op := Op.fieldAddr 58 (Operand.tmp 3) 3, type := 0, pos := "law.go:78", after := #[], guard := none }) (v := ?_) rfl (by kernel_rfl) (by kernel_rfl) (by kernel_rfl) (fun _ _ _ h => h) (Or.inl ⟨by rfl, ?_⟩) hS ?_
  rotate_left
  · intro W_ hSW_
    obtain ⟨y1_, y2_, y3_, y4_, q1_, q2_, q3_⟩ := hSW_
    go_simp
    try with_reducible rfl
  try simp only [Act.put, List.setIfInBounds_toArray, List.set_cons_zero, List.set_cons_succ]
  refine wpAnyH_take (i := 16) (oi := { dst := some 46, op := Op.load 38 (Operand.tmp 45), type := 38, pos := "law.go:78", after := #[{ on := 15, ground := Ground.data }], guard := none }) (v := ?_) rfl (by kernel_rfl) (by kernel_rfl) (by kernel_rfl) (fun _ _ _ h => h) (Or.inl ⟨by rfl, ?_⟩) hS ?_
  rotate_left
  · intro W_ hSW_
    obtain ⟨y1_, y2_, y3_, y4_, q1_, q2_, q3_⟩ := hSW_
    go_simp
    try with_reducible rfl
  try simp only [Act.put, List.setIfInBounds_toArray, List.set_cons_zero, List.set_cons_succ]
  refine wpAnyH_ready (rs := [8]) (by kernel_rfl) (by simp) ?_
  refine AllReadyH.cons (o := { dst := some 38, op := Op.call { callee := Callee.value (Operand.func 13), args := #[Operand.tmp 31, Operand.tmp 33, Operand.tmp 35, Operand.tmp 37], argTypes := #[25, 3, 3, 38] }, type := 31, pos := "law.go:78", after := #[{ on := 1, ground := Ground.data }, { on := 3, ground := Ground.data }, { on := 5, ground := Ground.data }, { on := 7, ground := Ground.data }], guard := none }) rfl (fun K_ hK_ => ?_) AllReadyH.nil
  go_simp
  refine (HS.out.drew.offer HN.out HC.out.1 HC.out.2 v l s H16.out.1 H16.out.2).mono ?_
  rintro e wA ⟨rfl, hA⟩
  have HA := Aside0.mk hA
  clear hA
  refine hK_.out _ _ (⟨blk_cell HA.out.drop.top 1, blk_cell HA.out.drop.top 2, blk_cell HA.out.drop.top 3, blk_cell HA.out.drop.top 4, blk_cell HA.out.top 1, blk_cell HA.out.top 2, blk_cell HA.out.top 3⟩) (fun hS_ => ?_)
  clear hK_ K_ hS
  have hS := hS_
  clear hS_
  try simp only [Act.put, List.setIfInBounds_toArray, List.set_cons_zero, List.set_cons_succ]
  refine wpAnyH_ready (rs := [17]) (by kernel_rfl) (by simp) ?_
  refine AllReadyH.cons (o := { dst := some 47, op := Op.call { callee := Callee.value (Operand.func 45), args := #[Operand.tmp 40, Operand.tmp 42, Operand.tmp 44, Operand.tmp 46], argTypes := #[28, 3, 3, 38] }, type := 31, pos := "law.go:78", after := #[{ on := 10, ground := Ground.data }, { on := 12, ground := Ground.data }, { on := 14, ground := Ground.data }, { on := 16, ground := Ground.data }, { on := 8, ground := Ground.chain }], guard := none }) rfl (fun K_ hK_ => ?_) AllReadyH.nil
  go_simp
  refine (HA.out.roffer HN.out HC.out.1 HC.out.2 v l s H16.out.1 H16.out.2).mono ?_
  rintro e wB ⟨rfl, hB⟩
  have HB := Aside0.mk hB
  clear hB
  refine hK_.out _ _ (⟨blk_cell HB.out.drop.top 1, blk_cell HB.out.drop.top 2, blk_cell HB.out.drop.top 3, blk_cell HB.out.drop.top 4, blk_cell HB.out.top 1, blk_cell HB.out.top 2, blk_cell HB.out.top 3⟩) (fun hS_ => ?_)
  clear hK_ K_ hS
  have hS := hS_
  clear hS_
  try simp only [Act.put, List.setIfInBounds_toArray, List.set_cons_zero, List.set_cons_succ]
  refine wpAnyH_take (i := 18) (oi := { dst := some 48, op := Op.binOp BinOp.eql 31 (Operand.tmp 38) (Operand.tmp 47) 31, type := 4, pos := "law.go:78", after := #[{ on := 8, ground := Ground.data }, { on := 17, ground := Ground.data }], guard := none }) (v := ?_) rfl (by kernel_rfl) (by kernel_rfl) (by kernel_rfl) (fun _ _ _ h => h) (Or.inl ⟨by rfl, ?_⟩) hS ?_
  rotate_left
  · intro W_ hSW_
    obtain ⟨y1_, y2_, y3_, y4_, q1_, q2_, q3_⟩ := hSW_
    go_simp
    try with_reducible rfl
  try simp only [Act.put, List.setIfInBounds_toArray, List.set_cons_zero, List.set_cons_succ]
  refine wpAnyH_take (i := 19) (oi := { dst := some 4, op := Op.assign (Operand.tmp 48), type := 4, pos := "law.go:78", after := #[{ on := 18, ground := Ground.data }, { on := 17, ground := Ground.chain }, { on := 0, ground := Ground.phase }, { on := 1, ground := Ground.phase }, { on := 2, ground := Ground.phase }, { on := 3, ground := Ground.phase }, { on := 4, ground := Ground.phase }, { on := 5, ground := Ground.phase }, { on := 6, ground := Ground.phase }, { on := 7, ground := Ground.phase }, { on := 8, ground := Ground.phase }, { on := 9, ground := Ground.phase }, { on := 10, ground := Ground.phase }, { on := 11, ground := Ground.phase }, { on := 12, ground := Ground.phase }, { on := 13, ground := Ground.phase }, { on := 14, ground := Ground.phase }, { on := 15, ground := Ground.phase }, { on := 16, ground := Ground.phase }, { on := 17, ground := Ground.phase }, { on := 18, ground := Ground.phase }], guard := none }) (v := ?_) rfl (by kernel_rfl) (by kernel_rfl) (by kernel_rfl) (fun _ _ _ h => h) (Or.inl ⟨by rfl, ?_⟩) hS ?_
  rotate_left
  · intro W_ hSW_
    obtain ⟨y1_, y2_, y3_, y4_, q1_, q2_, q3_⟩ := hSW_
    go_simp
    try with_reducible rfl
  try simp only [Act.put, List.setIfInBounds_toArray, List.set_cons_zero, List.set_cons_succ]
  refine wpAnyH_done (by kernel_rfl) ?_ _
  clear hS
  go_wp2_with fail
  go_ret
  exact ⟨by simp, HB.out.drop.drop⟩
set_option maxRecDepth 100000 in
set_option maxHeartbeats 2000000 in
theorem do_1 (hS : St w0 w gm gb gu gd gr N d d c L) (hN : N = 10240) (hc : 4 ≤ c) (hc2 : c ≤ 36) {k v l s i : Int} {A : Option Addr} {n cp : Nat} {xs : List Int} (hC : (Kd.int .u8).C w0 A n xs) (hx : ∀ x ∈ xs, 0 ≤ x ∧ x < 256) (hk0 : 0 ≤ k) (hk : k % 7 = 1) (hi : (Lit.int .i64 i).wf = true) :
    Calls Try.prog 27 (args27 gm gu gd c k v l s i A n cp) w fun e w' => e = .returned (.bool true) ∧ St w0 w' gm gb gu gd gr N (d.store 4096 c i xs).1 (d.store 4096 c i xs).1 c L := by
  have HS := Aside0.mk (st58 (k := k) (v := v) (l := l) (s := s) (i := i) (A := A) (n := n) (cp := cp) hS)
  have HN := Aside0.mk hN
  have HC := Aside0.mk (And.intro hc hc2)
  have HX := Aside0.mk (And.intro hC hx)
  have HI := Aside0.mk hi
  clear hi
  obtain ⟨r, hr, hr2⟩ : ∃ r : Int, k % 7 = r ∧ k.tmod 7 = r := ⟨_, rfl, by rw [Int.tmod_eq_emod_of_nonneg hk0]⟩
  rw [hr] at hk
  have b0 : (k % 7 == 0) = false := by rw [hr]; simp; omega
  have c0 : (k.tmod 7 == 0) = false := by rw [hr2]; simp; omega
  have b1 : (k % 7 == 1) = true := by rw [hr]; simp; omega
  have c1 : (k.tmod 7 == 1) = true := by rw [hr2]; simp; omega
  clear hk hk0 hr hr2
  clear hS hN hc hc2 hC hx
  obtain ⟨g2, hg2⟩ : ∃ g2, g2 = w.heap.size := ⟨_, rfl⟩
  rw [← hg2] at HS
  obtain ⟨g3, hg3⟩ : ∃ g3, g3 = g2 + 1 := ⟨_, rfl⟩
  rw [← hg3] at HS
  have hx := HS.out.top
  have hy := HS.out.drop.top
  have q0 := blk_cell hx 0
  have q1 := blk_cell hx 1
  have q2 := blk_cell hx 2
  have q3 := blk_cell hx 3
  have q4 := blk_cell hx 4
  have q5 := blk_cell hx 5
  have y0 := blk_cell hy 0
  have y1 := blk_cell hy 1
  have y2 := blk_cell hy 2
  have y3 := blk_cell hy 3
  have y4 := blk_cell hy 4
  clear hx hy
  go_enter Try.func27, Try.ntmps27
  go_wp2_with fail
  rw [← hg2, ← hg3]
  clear hg2 hg3
  refine wp_region_held_drew (S := fun W => W.cell? ⟨g2, 1, none⟩ = some (.pointer (some ⟨gu, 0, none⟩)) ∧ W.cell? ⟨g2, 2, none⟩ = some (.pointer (some ⟨gd, 0, none⟩)) ∧ W.cell? ⟨g2, 3, none⟩ = some (.int .i64 4096) ∧ W.cell? ⟨g2, 4, none⟩ = some (.int .i64 (c : Int)) ∧ W.cell? ⟨g3, 4, none⟩ = some (.int .i64 i) ∧ W.cell? ⟨g3, 5, none⟩ = some (.slice A n cp)) (by kernel_rfl) ⟨y1, y2, y3, y4, q4, q5⟩ (fun hS => ?_)
  refine wpAnyH_take (i := 0) (oi := { dst := some 52, op := Op.fieldAddr 30 (Operand.tmp 2) 1, type := 0, pos := "law.go:80", after := #[], guard := none }) (v := ?_) rfl (by kernel_rfl) (by kernel_rfl) (by kernel_rfl) (fun _ _ _ h => h) (Or.inl ⟨by rfl, ?_⟩) hS ?_
  rotate_left
  · intro W_ hSW_
    obtain ⟨y1_, y2_, y3_, y4_, q4_, q5_⟩ := hSW_
    go_simp
    try with_reducible rfl
  try simp only [Act.put, List.setIfInBounds_toArray, List.set_cons_zero, List.set_cons_succ]
  refine wpAnyH_take (i := 1) (oi := { dst := some 53, op := Op.load 25 (Operand.tmp 52), type := 25, pos := "law.go:80", after := #[{ on := 0, ground := Ground.data }], guard := none }) (v := ?_) rfl (by kernel_rfl) (by kernel_rfl) (by kernel_rfl) (fun _ _ _ h => h) (Or.inl ⟨by rfl, ?_⟩) hS ?_
  rotate_left
  · intro W_ hSW_
    obtain ⟨y1_, y2_, y3_, y4_, q4_, q5_⟩ := hSW_
    go_simp
    try with_reducible rfl
  try simp only [Act.put, List.setIfInBounds_toArray, List.set_cons_zero, List.set_cons_succ]
  refine wpAnyH_take (i := 2) (oi := { dst := some 54, op := Op.fieldAddr 58 (Operand.tmp 3) 4, type := 0, pos := "law.go:80", after := #[], guard := none }) (v := ?_) rfl (by kernel_rfl) (by kernel_rfl) (by kernel_rfl) (fun _ _ _ h => h) (Or.inl ⟨by rfl, ?_⟩) hS ?_
  rotate_left
  · intro W_ hSW_
    obtain ⟨y1_, y2_, y3_, y4_, q4_, q5_⟩ := hSW_
    go_simp
    try with_reducible rfl
  try simp only [Act.put, List.setIfInBounds_toArray, List.set_cons_zero, List.set_cons_succ]
  refine wpAnyH_take (i := 3) (oi := { dst := some 55, op := Op.load 3 (Operand.tmp 54), type := 3, pos := "law.go:80", after := #[{ on := 2, ground := Ground.data }], guard := none }) (v := ?_) rfl (by kernel_rfl) (by kernel_rfl) (by kernel_rfl) (fun _ _ _ h => h) (Or.inl ⟨by rfl, ?_⟩) hS ?_
  rotate_left
  · intro W_ hSW_
    obtain ⟨y1_, y2_, y3_, y4_, q4_, q5_⟩ := hSW_
    go_simp
    try with_reducible rfl
  try simp only [Act.put, List.setIfInBounds_toArray, List.set_cons_zero, List.set_cons_succ]
  refine wpAnyH_take (i := 4) (oi := { dst := some 56, op := Op.fieldAddr 58 (Operand.tmp 3) 5, type := 0, pos := "law.go:80", after := #[], guard := none }) (v := ?_) rfl (by kernel_rfl) (by kernel_rfl) (by kernel_rfl) (fun _ _ _ h => h) (Or.inl ⟨by rfl, ?_⟩) hS ?_
  rotate_left
  · intro W_ hSW_
    obtain ⟨y1_, y2_, y3_, y4_, q4_, q5_⟩ := hSW_
    go_simp
    try with_reducible rfl
  try simp only [Act.put, List.setIfInBounds_toArray, List.set_cons_zero, List.set_cons_succ]
  refine wpAnyH_take (i := 5) (oi := { dst := some 57, op := Op.load 22 (Operand.tmp 56), type := 22, pos := "law.go:80", after := #[{ on := 4, ground := Ground.data }], guard := none }) (v := ?_) rfl (by kernel_rfl) (by kernel_rfl) (by kernel_rfl) (fun _ _ _ h => h) (Or.inl ⟨by rfl, ?_⟩) hS ?_
  rotate_left
  · intro W_ hSW_
    obtain ⟨y1_, y2_, y3_, y4_, q4_, q5_⟩ := hSW_
    go_simp
    try with_reducible rfl
  try simp only [Act.put, List.setIfInBounds_toArray, List.set_cons_zero, List.set_cons_succ]
  refine wpAnyH_take (i := 7) (oi := { dst := some 59, op := Op.fieldAddr 30 (Operand.tmp 2) 2, type := 0, pos := "law.go:80", after := #[], guard := none }) (v := ?_) rfl (by kernel_rfl) (by kernel_rfl) (by kernel_rfl) (fun _ _ _ h => h) (Or.inl ⟨by rfl, ?_⟩) hS ?_
  rotate_left
  · intro W_ hSW_
    obtain ⟨y1_, y2_, y3_, y4_, q4_, q5_⟩ := hSW_
    go_simp
    try with_reducible rfl
  try simp only [Act.put, List.setIfInBounds_toArray, List.set_cons_zero, List.set_cons_succ]
  refine wpAnyH_take (i := 8) (oi := { dst := some 60, op := Op.load 28 (Operand.tmp 59), type := 28, pos := "law.go:80", after := #[{ on := 7, ground := Ground.data }], guard := none }) (v := ?_) rfl (by kernel_rfl) (by kernel_rfl) (by kernel_rfl) (fun _ _ _ h => h) (Or.inl ⟨by rfl, ?_⟩) hS ?_
  rotate_left
  · intro W_ hSW_
    obtain ⟨y1_, y2_, y3_, y4_, q4_, q5_⟩ := hSW_
    go_simp
    try with_reducible rfl
  try simp only [Act.put, List.setIfInBounds_toArray, List.set_cons_zero, List.set_cons_succ]
  refine wpAnyH_take (i := 9) (oi := { dst := some 61, op := Op.fieldAddr 58 (Operand.tmp 3) 4, type := 0, pos := "law.go:80", after := #[], guard := none }) (v := ?_) rfl (by kernel_rfl) (by kernel_rfl) (by kernel_rfl) (fun _ _ _ h => h) (Or.inl ⟨by rfl, ?_⟩) hS ?_
  rotate_left
  · intro W_ hSW_
    obtain ⟨y1_, y2_, y3_, y4_, q4_, q5_⟩ := hSW_
    go_simp
    try with_reducible rfl
  try simp only [Act.put, List.setIfInBounds_toArray, List.set_cons_zero, List.set_cons_succ]
  refine wpAnyH_take (i := 10) (oi := { dst := some 62, op := Op.load 3 (Operand.tmp 61), type := 3, pos := "law.go:80", after := #[{ on := 9, ground := Ground.data }], guard := none }) (v := ?_) rfl (by kernel_rfl) (by kernel_rfl) (by kernel_rfl) (fun _ _ _ h => h) (Or.inl ⟨by rfl, ?_⟩) hS ?_
  rotate_left
  · intro W_ hSW_
    obtain ⟨y1_, y2_, y3_, y4_, q4_, q5_⟩ := hSW_
    go_simp
    try with_reducible rfl
  try simp only [Act.put, List.setIfInBounds_toArray, List.set_cons_zero, List.set_cons_succ]
  refine wpAnyH_take (i := 11) (oi := { dst := some 63, op := Op.fieldAddr 58 (Operand.tmp 3) 5, type := 0, pos := "law.go:80", after := #[], guard := none }) (v := ?_) rfl (by kernel_rfl) (by kernel_rfl) (by kernel_rfl) (fun _ _ _ h => h) (Or.inl ⟨by rfl, ?_⟩) hS ?_
  rotate_left
  · intro W_ hSW_
    obtain ⟨y1_, y2_, y3_, y4_, q4_, q5_⟩ := hSW_
    go_simp
    try with_reducible rfl
  try simp only [Act.put, List.setIfInBounds_toArray, List.set_cons_zero, List.set_cons_succ]
  refine wpAnyH_take (i := 12) (oi := { dst := some 64, op := Op.load 22 (Operand.tmp 63), type := 22, pos := "law.go:80", after := #[{ on := 11, ground := Ground.data }], guard := none }) (v := ?_) rfl (by kernel_rfl) (by kernel_rfl) (by kernel_rfl) (fun _ _ _ h => h) (Or.inl ⟨by rfl, ?_⟩) hS ?_
  rotate_left
  · intro W_ hSW_
    obtain ⟨y1_, y2_, y3_, y4_, q4_, q5_⟩ := hSW_
    go_simp
    try with_reducible rfl
  try simp only [Act.put, List.setIfInBounds_toArray, List.set_cons_zero, List.set_cons_succ]
  refine wpAnyH_ready (rs := [6]) (by kernel_rfl) (by simp) ?_
  refine AllReadyH.cons (o := { dst := some 58, op := Op.call { callee := Callee.value (Operand.func 14), args := #[Operand.tmp 53, Operand.tmp 55, Operand.tmp 57], argTypes := #[25, 3, 22] }, type := 31, pos := "law.go:80", after := #[{ on := 1, ground := Ground.data }, { on := 3, ground := Ground.data }, { on := 5, ground := Ground.data }], guard := none }) rfl (fun K_ hK_ => ?_) AllReadyH.nil
  go_simp
  refine (HS.out.drew.chunk HN.out HC.out.1 HC.out.2 i HI.out HX.out.1 HX.out.2).mono ?_
  rintro e wA ⟨rfl, hA⟩
  have HA := Aside0.mk hA
  clear hA
  refine hK_.out _ _ (⟨blk_cell HA.out.drop.top 1, blk_cell HA.out.drop.top 2, blk_cell HA.out.drop.top 3, blk_cell HA.out.drop.top 4, blk_cell HA.out.top 4, blk_cell HA.out.top 5⟩) (fun hS_ => ?_)
  clear hK_ K_ hS
  have hS := hS_
  clear hS_
  try simp only [Act.put, List.setIfInBounds_toArray, List.set_cons_zero, List.set_cons_succ]
  refine wpAnyH_ready (rs := [13]) (by kernel_rfl) (by simp) ?_
  refine AllReadyH.cons (o := { dst := some 65, op := Op.call { callee := Callee.value (Operand.func 46), args := #[Operand.tmp 60, Operand.tmp 62, Operand.tmp 64], argTypes := #[28, 3, 22] }, type := 31, pos := "law.go:80", after := #[{ on := 8, ground := Ground.data }, { on := 10, ground := Ground.data }, { on := 12, ground := Ground.data }, { on := 6, ground := Ground.chain }], guard := none }) rfl (fun K_ hK_ => ?_) AllReadyH.nil
  go_simp
  refine (HA.out.rchunk HN.out HC.out.1 HC.out.2 i HX.out.1 HX.out.2).mono ?_
  rintro e wB ⟨rfl, hB⟩
  have HB := Aside0.mk hB
  clear hB
  refine hK_.out _ _ (⟨blk_cell HB.out.drop.top 1, blk_cell HB.out.drop.top 2, blk_cell HB.out.drop.top 3, blk_cell HB.out.drop.top 4, blk_cell HB.out.top 4, blk_cell HB.out.top 5⟩) (fun hS_ => ?_)
  clear hK_ K_ hS
  have hS := hS_
  clear hS_
  try simp only [Act.put, List.setIfInBounds_toArray, List.set_cons_zero, List.set_cons_succ]
  refine wpAnyH_take (i := 14) (oi := { dst := some 66, op := Op.binOp BinOp.eql 31 (Operand.tmp 58) (Operand.tmp 65) 31, type := 4, pos := "law.go:80", after := #[{ on := 6, ground := Ground.data }, { on := 13, ground := Ground.data }], guard := none }) (v := ?_) rfl (by kernel_rfl) (by kernel_rfl) (by kernel_rfl) (fun _ _ _ h => h) (Or.inl ⟨by rfl, ?_⟩) hS ?_
  rotate_left
  · intro W_ hSW_
    obtain ⟨y1_, y2_, y3_, y4_, q4_, q5_⟩ := hSW_
    go_simp
    try with_reducible rfl
  try simp only [Act.put, List.setIfInBounds_toArray, List.set_cons_zero, List.set_cons_succ]
  refine wpAnyH_take (i := 15) (oi := { dst := some 4, op := Op.assign (Operand.tmp 66), type := 4, pos := "law.go:80", after := #[{ on := 14, ground := Ground.data }, { on := 13, ground := Ground.chain }, { on := 0, ground := Ground.phase }, { on := 1, ground := Ground.phase }, { on := 2, ground := Ground.phase }, { on := 3, ground := Ground.phase }, { on := 4, ground := Ground.phase }, { on := 5, ground := Ground.phase }, { on := 6, ground := Ground.phase }, { on := 7, ground := Ground.phase }, { on := 8, ground := Ground.phase }, { on := 9, ground := Ground.phase }, { on := 10, ground := Ground.phase }, { on := 11, ground := Ground.phase }, { on := 12, ground := Ground.phase }, { on := 13, ground := Ground.phase }, { on := 14, ground := Ground.phase }], guard := none }) (v := ?_) rfl (by kernel_rfl) (by kernel_rfl) (by kernel_rfl) (fun _ _ _ h => h) (Or.inl ⟨by rfl, ?_⟩) hS ?_
  rotate_left
  · intro W_ hSW_
    obtain ⟨y1_, y2_, y3_, y4_, q4_, q5_⟩ := hSW_
    go_simp
    try with_reducible rfl
  try simp only [Act.put, List.setIfInBounds_toArray, List.set_cons_zero, List.set_cons_succ]
  refine wpAnyH_done (by kernel_rfl) ?_ _
  clear hS
  go_wp2_with fail
  go_ret
  exact ⟨by simp, HB.out.drop.drop⟩
set_option maxRecDepth 100000 in
set_option maxHeartbeats 2000000 in
theorem do_2 (hS : St w0 w gm gb gu gd gr N d d c L) (hN : N = 10240) (hc : 4 ≤ c) (hc2 : c ≤ 36) {k v l s i : Int} {A : Option Addr} {n cp : Nat} {xs : List Int} (hC : (Kd.int .u8).C w0 A n xs) (hx : ∀ x ∈ xs, 0 ≤ x ∧ x < 256) (hk0 : 0 ≤ k) (hk : k % 7 = 2) (hi : (Lit.int .i64 i).wf = true) :
    Calls Try.prog 27 (args27 gm gu gd c k v l s i A n cp) w fun e w' => e = .returned (.bool true) ∧ St w0 w' gm gb gu gd gr N (d.store 4096 c i xs).1 (d.store 4096 c i xs).1 c L := by
  have HS := Aside0.mk (st58 (k := k) (v := v) (l := l) (s := s) (i := i) (A := A) (n := n) (cp := cp) hS)
  have HN := Aside0.mk hN
  have HC := Aside0.mk (And.intro hc hc2)
  have HX := Aside0.mk (And.intro hC hx)
  have HI := Aside0.mk hi
  clear hi
  obtain ⟨r, hr, hr2⟩ : ∃ r : Int, k % 7 = r ∧ k.tmod 7 = r := ⟨_, rfl, by rw [Int.tmod_eq_emod_of_nonneg hk0]⟩
  rw [hr] at hk
  have b0 : (k % 7 == 0) = false := by rw [hr]; simp; omega
  have c0 : (k.tmod 7 == 0) = false := by rw [hr2]; simp; omega
  have b1 : (k % 7 == 1) = false := by rw [hr]; simp; omega
  have c1 : (k.tmod 7 == 1) = false := by rw [hr2]; simp; omega
  have b2 : (k % 7 == 2) = true := by rw [hr]; simp; omega
  have c2 : (k.tmod 7 == 2) = true := by rw [hr2]; simp; omega
  clear hk hk0 hr hr2
  clear hS hN hc hc2 hC hx
  obtain ⟨g2, hg2⟩ : ∃ g2, g2 = w.heap.size := ⟨_, rfl⟩
  rw [← hg2] at HS
  obtain ⟨g3, hg3⟩ : ∃ g3, g3 = g2 + 1 := ⟨_, rfl⟩
  rw [← hg3] at HS
  have hx := HS.out.top
  have hy := HS.out.drop.top
  have q0 := blk_cell hx 0
  have q1 := blk_cell hx 1
  have q2 := blk_cell hx 2
  have q3 := blk_cell hx 3
  have q4 := blk_cell hx 4
  have q5 := blk_cell hx 5
  have y0 := blk_cell hy 0
  have y1 := blk_cell hy 1
  have y2 := blk_cell hy 2
  have y3 := blk_cell hy 3
  have y4 := blk_cell hy 4
  clear hx hy
  go_enter Try.func27, Try.ntmps27
  go_wp2_with fail
  rw [← hg2, ← hg3]
  clear hg2 hg3
  refine wp_region_held_drew (S := fun W => W.cell? ⟨g2, 1, none⟩ = some (.pointer (some ⟨gu, 0, none⟩)) ∧ W.cell? ⟨g2, 2, none⟩ = some (.pointer (some ⟨gd, 0, none⟩)) ∧ W.cell? ⟨g2, 3, none⟩ = some (.int .i64 4096) ∧ W.cell? ⟨g2, 4, none⟩ = some (.int .i64 (c : Int)) ∧ W.cell? ⟨g3, 4, none⟩ = some (.int .i64 i) ∧ W.cell? ⟨g3, 5, none⟩ = some (.slice A n cp)) (by kernel_rfl) ⟨y1, y2, y3, y4, q4, q5⟩ (fun hS => ?_)
  refine wpAnyH_take (i := 0) (oi := { dst := some 52, op := Op.fieldAddr 30 (Operand.tmp 2) 1, type := 0, pos := "law.go:80", after := #[], guard := none }) (v := ?_) rfl (by kernel_rfl) (by kernel_rfl) (by kernel_rfl) (fun _ _ _ h => h) (Or.inl ⟨by rfl, ?_⟩) hS ?_
  rotate_left
  · intro W_ hSW_
    obtain ⟨y1_, y2_, y3_, y4_, q4_, q5_⟩ := hSW_
    go_simp
    try with_reducible rfl
  try simp only [Act.put, List.setIfInBounds_toArray, List.set_cons_zero, List.set_cons_succ]
  refine wpAnyH_take (i := 1) (oi := { dst := some 53, op := Op.load 25 (Operand.tmp 52), type := 25, pos := "law.go:80", after := #[{ on := 0, ground := Ground.data }], guard := none }) (v := ?_) rfl (by kernel_rfl) (by kernel_rfl) (by kernel_rfl) (fun _ _ _ h => h) (Or.inl ⟨by rfl, ?_⟩) hS ?_
  rotate_left
  · intro W_ hSW_
    obtain ⟨y1_, y2_, y3_, y4_, q4_, q5_⟩ := hSW_
    go_simp
    try with_reducible rfl
  try simp only [Act.put, List.setIfInBounds_toArray, List.set_cons_zero, List.set_cons_succ]
  refine wpAnyH_take (i := 2) (oi := { dst := some 54, op := Op.fieldAddr 58 (Operand.tmp 3) 4, type := 0, pos := "law.go:80", after := #[], guard := none }) (v := ?_) rfl (by kernel_rfl) (by kernel_rfl) (by kernel_rfl) (fun _ _ _ h => h) (Or.inl ⟨by rfl, ?_⟩) hS ?_
  rotate_left
  · intro W_ hSW_
    obtain ⟨y1_, y2_, y3_, y4_, q4_, q5_⟩ := hSW_
    go_simp
    try with_reducible rfl
  try simp only [Act.put, List.setIfInBounds_toArray, List.set_cons_zero, List.set_cons_succ]
  refine wpAnyH_take (i := 3) (oi := { dst := some 55, op := Op.load 3 (Operand.tmp 54), type := 3, pos := "law.go:80", after := #[{ on := 2, ground := Ground.data }], guard := none }) (v := ?_) rfl (by kernel_rfl) (by kernel_rfl) (by kernel_rfl) (fun _ _ _ h => h) (Or.inl ⟨by rfl, ?_⟩) hS ?_
  rotate_left
  · intro W_ hSW_
    obtain ⟨y1_, y2_, y3_, y4_, q4_, q5_⟩ := hSW_
    go_simp
    try with_reducible rfl
  try simp only [Act.put, List.setIfInBounds_toArray, List.set_cons_zero, List.set_cons_succ]
  refine wpAnyH_take (i := 4) (oi := { dst := some 56, op := Op.fieldAddr 58 (Operand.tmp 3) 5, type := 0, pos := "law.go:80", after := #[], guard := none }) (v := ?_) rfl (by kernel_rfl) (by kernel_rfl) (by kernel_rfl) (fun _ _ _ h => h) (Or.inl ⟨by rfl, ?_⟩) hS ?_
  rotate_left
  · intro W_ hSW_
    obtain ⟨y1_, y2_, y3_, y4_, q4_, q5_⟩ := hSW_
    go_simp
    try with_reducible rfl
  try simp only [Act.put, List.setIfInBounds_toArray, List.set_cons_zero, List.set_cons_succ]
  refine wpAnyH_take (i := 5) (oi := { dst := some 57, op := Op.load 22 (Operand.tmp 56), type := 22, pos := "law.go:80", after := #[{ on := 4, ground := Ground.data }], guard := none }) (v := ?_) rfl (by kernel_rfl) (by kernel_rfl) (by kernel_rfl) (fun _ _ _ h => h) (Or.inl ⟨by rfl, ?_⟩) hS ?_
  rotate_left
  · intro W_ hSW_
    obtain ⟨y1_, y2_, y3_, y4_, q4_, q5_⟩ := hSW_
    go_simp
    try with_reducible rfl
  try simp only [Act.put, List.setIfInBounds_toArray, List.set_cons_zero, List.set_cons_succ]
  refine wpAnyH_take (i := 7) (oi := { dst := some 59, op := Op.fieldAddr 30 (Operand.tmp 2) 2, type := 0, pos := "law.go:80", after := #[], guard := none }) (v := ?_) rfl (by kernel_rfl) (by kernel_rfl) (by kernel_rfl) (fun _ _ _ h => h) (Or.inl ⟨by rfl, ?_⟩) hS ?_
  rotate_left
  · intro W_ hSW_
    obtain ⟨y1_, y2_, y3_, y4_, q4_, q5_⟩ := hSW_
    go_simp
    try with_reducible rfl
  try simp only [Act.put, List.setIfInBounds_toArray, List.set_cons_zero, List.set_cons_succ]
  refine wpAnyH_take (i := 8) (oi := { dst := some 60, op := Op.load 28 (Operand.tmp 59), type := 28, pos := "law.go:80", after := #[{ on := 7, ground := Ground.data }], guard := none }) (v := ?_) rfl (by kernel_rfl) (by kernel_rfl) (by kernel_rfl) (fun _ _ _ h => h) (Or.inl ⟨by rfl, ?_⟩) hS ?_
  rotate_left
  · intro W_ hSW_
    obtain ⟨y1_, y2_, y3_, y4_, q4_, q5_⟩ := hSW_
    go_simp
    try with_reducible rfl
  try simp only [Act.put, List.setIfInBounds_toArray, List.set_cons_zero, List.set_cons_succ]
  refine wpAnyH_take (i := 9) (oi := { dst := some 61, op := Op.fieldAddr 58 (Operand.tmp 3) 4, type := 0, pos := "law.go:80", after := #[], guard := none }) (v := ?_) rfl (by kernel_rfl) (by kernel_rfl) (by kernel_rfl) (fun _ _ _ h => h) (Or.inl ⟨by rfl, ?_⟩) hS ?_
  rotate_left
  · intro W_ hSW_
    obtain ⟨y1_, y2_, y3_, y4_, q4_, q5_⟩ := hSW_
    go_simp
    try with_reducible rfl
  try simp only [Act.put, List.setIfInBounds_toArray, List.set_cons_zero, List.set_cons_succ]
  refine wpAnyH_take (i := 10) (oi := { dst := some 62, op := Op.load 3 (Operand.tmp 61), type := 3, pos := "law.go:80", after := #[{ on := 9, ground := Ground.data }], guard := none }) (v := ?_) rfl (by kernel_rfl) (by kernel_rfl) (by kernel_rfl) (fun _ _ _ h => h) (Or.inl ⟨by rfl, ?_⟩) hS ?_
  rotate_left
  · intro W_ hSW_
    obtain ⟨y1_, y2_, y3_, y4_, q4_, q5_⟩ := hSW_
    go_simp
    try with_reducible rfl
  try simp only [Act.put, List.setIfInBounds_toArray, List.set_cons_zero, List.set_cons_succ]
  refine wpAnyH_take (i := 11) (oi := { dst := some 63, op := Op.fieldAddr 58 (Operand.tmp 3) 5, type := 0, pos := "law.go:80", after := #[], guard := none }) (v := ?_) rfl (by kernel_rfl) (by kernel_rfl) (by kernel_rfl) (fun _ _ _ h => h) (Or.inl ⟨by rfl, ?_⟩) hS ?_
  rotate_left
  · intro W_ hSW_
    obtain ⟨y1_, y2_, y3_, y4_, q4_, q5_⟩ := hSW_
    go_simp
    try with_reducible rfl
  try simp only [Act.put, List.setIfInBounds_toArray, List.set_cons_zero, List.set_cons_succ]
  refine wpAnyH_take (i := 12) (oi := { dst := some 64, op := Op.load 22 (Operand.tmp 63), type := 22, pos := "law.go:80", after := #[{ on := 11, ground := Ground.data }], guard := none }) (v := ?_) rfl (by kernel_rfl) (by kernel_rfl) (by kernel_rfl) (fun _ _ _ h => h) (Or.inl ⟨by rfl, ?_⟩) hS ?_
  rotate_left
  · intro W_ hSW_
    obtain ⟨y1_, y2_, y3_, y4_, q4_, q5_⟩ := hSW_
    go_simp
    try with_reducible rfl
  try simp only [Act.put, List.setIfInBounds_toArray, List.set_cons_zero, List.set_cons_succ]
  refine wpAnyH_ready (rs := [6]) (by kernel_rfl) (by simp) ?_
  refine AllReadyH.cons (o := { dst := some 58, op := Op.call { callee := Callee.value (Operand.func 14), args := #[Operand.tmp 53, Operand.tmp 55, Operand.tmp 57], argTypes := #[25, 3, 22] }, type := 31, pos := "law.go:80", after := #[{ on := 1, ground := Ground.data }, { on := 3, ground := Ground.data }, { on := 5, ground := Ground.data }], guard := none }) rfl (fun K_ hK_ => ?_) AllReadyH.nil
  go_simp
  refine (HS.out.drew.chunk HN.out HC.out.1 HC.out.2 i HI.out HX.out.1 HX.out.2).mono ?_
  rintro e wA ⟨rfl, hA⟩
  have HA := Aside0.mk hA
  clear hA
  refine hK_.out _ _ (⟨blk_cell HA.out.drop.top 1, blk_cell HA.out.drop.top 2, blk_cell HA.out.drop.top 3, blk_cell HA.out.drop.top 4, blk_cell HA.out.top 4, blk_cell HA.out.top 5⟩) (fun hS_ => ?_)
  clear hK_ K_ hS
  have hS := hS_
  clear hS_
  try simp only [Act.put, List.setIfInBounds_toArray, List.set_cons_zero, List.set_cons_succ]
  refine wpAnyH_ready (rs := [13]) (by kernel_rfl) (by simp) ?_
  refine AllReadyH.cons (o := { dst := some 65, op := Op.call { callee := Callee.value (Operand.func 46), args := #[Operand.tmp 60, Operand.tmp 62, Operand.tmp 64], argTypes := #[28, 3, 22] }, type := 31, pos := "law.go:80", after := #[{ on := 8, ground := Ground.data }, { on := 10, ground := Ground.data }, { on := 12, ground := Ground.data }, { on := 6, ground := Ground.chain }], guard := none }) rfl (fun K_ hK_ => ?_) AllReadyH.nil
  go_simp
  refine (HA.out.rchunk HN.out HC.out.1 HC.out.2 i HX.out.1 HX.out.2).mono ?_
  rintro e wB ⟨rfl, hB⟩
  have HB := Aside0.mk hB
  clear hB
  refine hK_.out _ _ (⟨blk_cell HB.out.drop.top 1, blk_cell HB.out.drop.top 2, blk_cell HB.out.drop.top 3, blk_cell HB.out.drop.top 4, blk_cell HB.out.top 4, blk_cell HB.out.top 5⟩) (fun hS_ => ?_)
  clear hK_ K_ hS
  have hS := hS_
  clear hS_
  try simp only [Act.put, List.setIfInBounds_toArray, List.set_cons_zero, List.set_cons_succ]
  refine wpAnyH_take (i := 14) (oi := { dst := some 66, op := Op.binOp BinOp.eql 31 (Operand.tmp 58) (Operand.tmp 65) 31, type := 4, pos := "law.go:80", after := #[{ on := 6, ground := Ground.data }, { on := 13, ground := Ground.data }], guard := none }) (v := ?_) rfl (by kernel_rfl) (by kernel_rfl) (by kernel_rfl) (fun _ _ _ h => h) (Or.inl ⟨by rfl, ?_⟩) hS ?_
  rotate_left
  · intro W_ hSW_
    obtain ⟨y1_, y2_, y3_, y4_, q4_, q5_⟩ := hSW_
    go_simp
    try with_reducible rfl
  try simp only [Act.put, List.setIfInBounds_toArray, List.set_cons_zero, List.set_cons_succ]
  refine wpAnyH_take (i := 15) (oi := { dst := some 4, op := Op.assign (Operand.tmp 66), type := 4, pos := "law.go:80", after := #[{ on := 14, ground := Ground.data }, { on := 13, ground := Ground.chain }, { on := 0, ground := Ground.phase }, { on := 1, ground := Ground.phase }, { on := 2, ground := Ground.phase }, { on := 3, ground := Ground.phase }, { on := 4, ground := Ground.phase }, { on := 5, ground := Ground.phase }, { on := 6, ground := Ground.phase }, { on := 7, ground := Ground.phase }, { on := 8, ground := Ground.phase }, { on := 9, ground := Ground.phase }, { on := 10, ground := Ground.phase }, { on := 11, ground := Ground.phase }, { on := 12, ground := Ground.phase }, { on := 13, ground := Ground.phase }, { on := 14, ground := Ground.phase }], guard := none }) (v := ?_) rfl (by kernel_rfl) (by kernel_rfl) (by kernel_rfl) (fun _ _ _ h => h) (Or.inl ⟨by rfl, ?_⟩) hS ?_
  rotate_left
  · intro W_ hSW_
    obtain ⟨y1_, y2_, y3_, y4_, q4_, q5_⟩ := hSW_
    go_simp
    try with_reducible rfl
  try simp only [Act.put, List.setIfInBounds_toArray, List.set_cons_zero, List.set_cons_succ]
  refine wpAnyH_done (by kernel_rfl) ?_ _
  clear hS
  go_wp2_with fail
  go_ret
  exact ⟨by simp, HB.out.drop.drop⟩
set_option maxRecDepth 100000 in
set_option maxHeartbeats 2000000 in
theorem do_4 (hS : St w0 w gm gb gu gd gr N d d c L) (hN : N = 10240) (hc : 4 ≤ c) (hc2 : c ≤ 36) {k v l s i : Int} {A : Option Addr} {n cp : Nat} {xs : List Int} (hC : (Kd.int .u8).C w0 A n xs) (hx : ∀ x ∈ xs, 0 ≤ x ∧ x < 256) (hk0 : 0 ≤ k) (hk : k % 7 = 4) :
    Calls Try.prog 27 (args27 gm gu gd c k v l s i A n cp) w fun e w' => e = .returned (.bool true) ∧ St w0 w' gm gb gu gd gr N (d.wrs 3840 [0]).1 (d.wrs 3840 [0]).1 c L := by
  have HS := Aside0.mk (st58 (k := k) (v := v) (l := l) (s := s) (i := i) (A := A) (n := n) (cp := cp) hS)
  have HN := Aside0.mk hN
  have HC := Aside0.mk (And.intro hc hc2)
  have HX := Aside0.mk (And.intro hC hx)
  obtain ⟨r, hr, hr2⟩ : ∃ r : Int, k % 7 = r ∧ k.tmod 7 = r := ⟨_, rfl, by rw [Int.tmod_eq_emod_of_nonneg hk0]⟩
  rw [hr] at hk
  have b0 : (k % 7 == 0) = false := by rw [hr]; simp; omega
  have c0 : (k.tmod 7 == 0) = false := by rw [hr2]; simp; omega
  have b1 : (k % 7 == 1) = false := by rw [hr]; simp; omega
  have c1 : (k.tmod 7 == 1) = false := by rw [hr2]; simp; omega
  have b2 : (k % 7 == 2) = false := by rw [hr]; simp; omega
  have c2 : (k.tmod 7 == 2) = false := by rw [hr2]; simp; omega
  have b3 : (k % 7 == 3) = false := by rw [hr]; simp; omega
  have c3 : (k.tmod 7 == 3) = false := by rw [hr2]; simp; omega
  have b4 : (k % 7 == 4) = true := by rw [hr]; simp; omega
  have c4 : (k.tmod 7 == 4) = true := by rw [hr2]; simp; omega
  clear hk hk0 hr hr2
  clear hS hN hc hc2 hC hx
  obtain ⟨g2, hg2⟩ : ∃ g2, g2 = w.heap.size := ⟨_, rfl⟩
  rw [← hg2] at HS
  obtain ⟨g3, hg3⟩ : ∃ g3, g3 = g2 + 1 := ⟨_, rfl⟩
  rw [← hg3] at HS
  have hx := HS.out.top
  have hy := HS.out.drop.top
  have q0 := blk_cell hx 0
  have q1 := blk_cell hx 1
  have q2 := blk_cell hx 2
  have q3 := blk_cell hx 3
  have q4 := blk_cell hx 4
  have q5 := blk_cell hx 5
  have y0 := blk_cell hy 0
  have y1 := blk_cell hy 1
  have y2 := blk_cell hy 2
  have y3 := blk_cell hy 3
  have y4 := blk_cell hy 4
  clear hx hy
  go_enter Try.func27, Try.ntmps27
  go_wp2_with fail
  rw [← hg2, ← hg3]
  clear hg2 hg3
  refine wp_region_held_drew (S := fun W => W.cell? ⟨g2, 1, none⟩ = some (.pointer (some ⟨gu, 0, none⟩)) ∧ W.cell? ⟨g2, 2, none⟩ = some (.pointer (some ⟨gd, 0, none⟩)) ∧ W.cell? ⟨g2, 3, none⟩ = some (.int .i64 4096) ∧ W.cell? ⟨g2, 4, none⟩ = some (.int .i64 (c : Int))) (by kernel_rfl) ⟨y1, y2, y3, y4⟩ (fun hS => ?_)
  refine wpAnyH_take (i := 0) (oi := { dst := some 100, op := Op.fieldAddr 30 (Operand.tmp 2) 1, type := 0, pos := "law.go:86", after := #[], guard := none }) (v := ?_) rfl (by kernel_rfl) (by kernel_rfl) (by kernel_rfl) (fun _ _ _ h => h) (Or.inl ⟨by rfl, ?_⟩) hS ?_
  rotate_left
  · intro W_ hSW_
    obtain ⟨y1_, y2_, y3_, y4_⟩ := hSW_
    go_simp
    try with_reducible rfl
  try simp only [Act.put, List.setIfInBounds_toArray, List.set_cons_zero, List.set_cons_succ]
  refine wpAnyH_take (i := 1) (oi := { dst := some 101, op := Op.load 25 (Operand.tmp 100), type := 25, pos := "law.go:86", after := #[{ on := 0, ground := Ground.data }], guard := none }) (v := ?_) rfl (by kernel_rfl) (by kernel_rfl) (by kernel_rfl) (fun _ _ _ h => h) (Or.inl ⟨by rfl, ?_⟩) hS ?_
  rotate_left
  · intro W_ hSW_
    obtain ⟨y1_, y2_, y3_, y4_⟩ := hSW_
    go_simp
    try with_reducible rfl
  try simp only [Act.put, List.setIfInBounds_toArray, List.set_cons_zero, List.set_cons_succ]
  refine wpAnyH_take (i := 3) (oi := { dst := some 103, op := Op.fieldAddr 30 (Operand.tmp 2) 2, type := 0, pos := "law.go:86", after := #[], guard := none }) (v := ?_) rfl (by kernel_rfl) (by kernel_rfl) (by kernel_rfl) (fun _ _ _ h => h) (Or.inl ⟨by rfl, ?_⟩) hS ?_
  rotate_left
  · intro W_ hSW_
    obtain ⟨y1_, y2_, y3_, y4_⟩ := hSW_
    go_simp
    try with_reducible rfl
  try simp only [Act.put, List.setIfInBounds_toArray, List.set_cons_zero, List.set_cons_succ]
  refine wpAnyH_take (i := 4) (oi := { dst := some 104, op := Op.load 28 (Operand.tmp 103), type := 28, pos := "law.go:86", after := #[{ on := 3, ground := Ground.data }], guard := none }) (v := ?_) rfl (by kernel_rfl) (by kernel_rfl) (by kernel_rfl) (fun _ _ _ h => h) (Or.inl ⟨by rfl, ?_⟩) hS ?_
  rotate_left
  · intro W_ hSW_
    obtain ⟨y1_, y2_, y3_, y4_⟩ := hSW_
    go_simp
    try with_reducible rfl
  try simp only [Act.put, List.setIfInBounds_toArray, List.set_cons_zero, List.set_cons_succ]
  refine wpAnyH_ready (rs := [2]) (by kernel_rfl) (by simp) ?_
  refine AllReadyH.cons (o := { dst := some 102, op := Op.call { callee := Callee.value (Operand.func 44), args := #[Operand.tmp 101], argTypes := #[25] }, type := 31, pos := "law.go:86", after := #[{ on := 1, ground := Ground.data }], guard := none }) rfl (fun K_ hK_ => ?_) AllReadyH.nil
  go_simp
  refine (HS.out.drew.discard HN.out).mono ?_
  rintro e wA ⟨rfl, hA⟩
  have HA := Aside0.mk hA
  clear hA
  refine hK_.out _ _ (⟨blk_cell HA.out.drop.top 1, blk_cell HA.out.drop.top 2, blk_cell HA.out.drop.top 3, blk_cell HA.out.drop.top 4⟩) (fun hS_ => ?_)
  clear hK_ K_ hS
  have hS := hS_
  clear hS_
  try simp only [Act.put, List.setIfInBounds_toArray, List.set_cons_zero, List.set_cons_succ]
  refine wpAnyH_ready (rs := [5]) (by kernel_rfl) (by simp) ?_
  refine AllReadyH.cons (o := { dst := some 105, op := Op.call { callee := Callee.value (Operand.func 48), args := #[Operand.tmp 104], argTypes := #[28] }, type := 31, pos := "law.go:86", after := #[{ on := 4, ground := Ground.data }, { on := 2, ground := Ground.chain }], guard := none }) rfl (fun K_ hK_ => ?_) AllReadyH.nil
  go_simp
  refine (HA.out.rdiscard HN.out).mono ?_
  rintro e wB ⟨rfl, hB⟩
  have HB := Aside0.mk hB
  clear hB
  refine hK_.out _ _ (⟨blk_cell HB.out.drop.top 1, blk_cell HB.out.drop.top 2, blk_cell HB.out.drop.top 3, blk_cell HB.out.drop.top 4⟩) (fun hS_ => ?_)
  clear hK_ K_ hS
  have hS := hS_
  clear hS_
  try simp only [Act.put, List.setIfInBounds_toArray, List.set_cons_zero, List.set_cons_succ]
  refine wpAnyH_take (i := 6) (oi := { dst := some 106, op := Op.binOp BinOp.eql 31 (Operand.tmp 102) (Operand.tmp 105) 31, type := 4, pos := "law.go:86", after := #[{ on := 2, ground := Ground.data }, { on := 5, ground := Ground.data }], guard := none }) (v := ?_) rfl (by kernel_rfl) (by kernel_rfl) (by kernel_rfl) (fun _ _ _ h => h) (Or.inl ⟨by rfl, ?_⟩) hS ?_
  rotate_left
  · intro W_ hSW_
    obtain ⟨y1_, y2_, y3_, y4_⟩ := hSW_
    go_simp
    try with_reducible rfl
  try simp only [Act.put, List.setIfInBounds_toArray, List.set_cons_zero, List.set_cons_succ]
  refine wpAnyH_take (i := 7) (oi := { dst := some 4, op := Op.assign (Operand.tmp 106), type := 4, pos := "law.go:86", after := #[{ on := 6, ground := Ground.data }, { on := 5, ground := Ground.chain }, { on := 0, ground := Ground.phase }, { on := 1, ground := Ground.phase }, { on := 2, ground := Ground.phase }, { on := 3, ground := Ground.phase }, { on := 4, ground := Ground.phase }, { on := 5, ground := Ground.phase }, { on := 6, ground := Ground.phase }], guard := none }) (v := ?_) rfl (by kernel_rfl) (by kernel_rfl) (by kernel_rfl) (fun _ _ _ h => h) (Or.inl ⟨by rfl, ?_⟩) hS ?_
  rotate_left
  · intro W_ hSW_
    obtain ⟨y1_, y2_, y3_, y4_⟩ := hSW_
    go_simp
    try with_reducible rfl
  try simp only [Act.put, List.setIfInBounds_toArray, List.set_cons_zero, List.set_cons_succ]
  refine wpAnyH_done (by kernel_rfl) ?_ _
  clear hS
  go_wp2_with fail
  go_ret
  exact ⟨by simp, HB.out.drop.drop⟩
set_option maxRecDepth 100000 in
set_option maxHeartbeats 2000000 in
theorem do_3 (hS : St w0 w gm gb gu gd gr N d d c L) (hN : N = 10240) (hc : 4 ≤ c) (hc2 : c ≤ 36) {k v l s i : Int} {A : Option Addr} {n cp : Nat} {xs : List Int} (hC : (Kd.int .u8).C w0 A n xs) (hx : ∀ x ∈ xs, 0 ≤ x ∧ x < 256) (hk0 : 0 ≤ k) (hk : k % 7 = 3) :
    Calls Try.prog 27 (args27 gm gu gd c k v l s i A n cp) w fun e w' => e = .returned (.bool true) ∧ St w0 w' gm gb gu gd gr N (d.compl 4096 c).1 (d.compl 4096 c).1 c L := by
  have HS := Aside0.mk (st58 (k := k) (v := v) (l := l) (s := s) (i := i) (A := A) (n := n) (cp := cp) hS)
  have HN := Aside0.mk hN
  have HC := Aside0.mk (And.intro hc hc2)
  have HX := Aside0.mk (And.intro hC hx)
  obtain ⟨r, hr, hr2⟩ : ∃ r : Int, k % 7 = r ∧ k.tmod 7 = r := ⟨_, rfl, by rw [Int.tmod_eq_emod_of_nonneg hk0]⟩
  rw [hr] at hk
  have b0 : (k % 7 == 0) = false := by rw [hr]; simp; omega
  have c0 : (k.tmod 7 == 0) = false := by rw [hr2]; simp; omega
  have b1 : (k % 7 == 1) = false := by rw [hr]; simp; omega
  have c1 : (k.tmod 7 == 1) = false := by rw [hr2]; simp; omega
  have b2 : (k % 7 == 2) = false := by rw [hr]; simp; omega
  have c2 : (k.tmod 7 == 2) = false := by rw [hr2]; simp; omega
  have b3 : (k % 7 == 3) = true := by rw [hr]; simp; omega
  have c3 : (k.tmod 7 == 3) = true := by rw [hr2]; simp; omega
  clear hk hk0 hr hr2
  clear hS hN hc hc2 hC hx
  obtain ⟨g2, hg2⟩ : ∃ g2, g2 = w.heap.size := ⟨_, rfl⟩
  rw [← hg2] at HS
  obtain ⟨g3, hg3⟩ : ∃ g3, g3 = g2 + 1 := ⟨_, rfl⟩
  rw [← hg3] at HS
  have hx := HS.out.top
  have hy := HS.out.drop.top
  have q0 := blk_cell hx 0
  have q1 := blk_cell hx 1
  have q2 := blk_cell hx 2
  have q3 := blk_cell hx 3
  have q4 := blk_cell hx 4
  have q5 := blk_cell hx 5
  have y0 := blk_cell hy 0
  have y1 := blk_cell hy 1
  have y2 := blk_cell hy 2
  have y3 := blk_cell hy 3
  have y4 := blk_cell hy 4
  clear hx hy
  go_enter Try.func27, Try.ntmps27
  go_wp2_with fail
  rw [← hg2, ← hg3]
  clear hg2 hg3
  have KA := Aside0.mk (fun W (h : St w0 W gm gb gu gd gr N d d c (ob g3 (o58 k v l s i A n cp) :: ob g2 (o30 gm gu gd c) :: L)) => h.compl HN.out HC.out.1 HC.out.2)
  have KB := Aside0.mk (fun W e' L' (h : St w0 W gm gb gu gd gr N e' d c L') => h.rcompl HN.out HC.out.1 HC.out.2)
  obtain ⟨p, hp⟩ : ∃ p, d.compl 4096 c = p := ⟨_, rfl⟩
  rw [hp] at KA KB
  have HP := Aside0.mk hp
  clear hp
  obtain ⟨d', bs, n1, er⟩ := p
  dsimp only at KA KB
  refine (KA.out _ HS.out).mono ?_
  rintro e w1 ⟨va, rfl, h1⟩
  obtain ⟨A1, c1, rfl, _, hC1⟩ := (h1.front.elim fun M hm => hm.reads)
  have y2 := blk_cell h1.third.top 2
  have y3 := blk_cell h1.third.top 3
  have y4 := blk_cell h1.third.top 4
  have HC1 := Aside0.mk hC1
  have H1 := Aside0.mk h1
  clear hC1 h1
  go_wp2_with fail
  refine (KB.out _ _ _ H1.out).mono ?_
  rintro e w2 ⟨vb, rfl, h2⟩
  obtain ⟨A2, c2, rfl, _, hC2⟩ := (h2.front.elim fun M hm => hm.reads)
  obtain ⟨A1', c1', e1, _, hC1⟩ := (h2.swap.front.elim fun M hm => hm.reads)
  injection e1 with e1 _ e3
  subst e1 e3
  have k1 : (convert 22 9 (.slice A1 bs.length c1)).run Try.prog w2 = .ok (.string (strOfNums bs)) w2 := Kd.C_string Try.underlying22 Try.underlying5 Try.underlying9 hC1
  have k2 : (convert 22 9 (.slice A2 bs.length c2)).run Try.prog w2 = .ok (.string (strOfNums bs)) w2 := Kd.C_string Try.underlying22 Try.underlying5 Try.underlying9 hC2
  have H2 := Aside0.mk h2
  clear hC1 hC2 h2
  generalize strOfNums bs = sb at *
  go_wp2_with fail
  go_ret
  rw [HP.out]
  exact ⟨by simp, H2.out.drop.drop.drop.drop⟩
set_option maxRecDepth 100000 in
set_option maxHeartbeats 2000000 in
theorem do_5a (hS : St w0 w gm gb gu gd gr N d d c L) (hN : N = 10240) (hc : 4 ≤ c) (hc2 : c ≤ 36) {k v l s i : Int} {A : Option Addr} {n cp : Nat} {xs : List Int} (hC : (Kd.int .u8).C w0 A n xs) (hx : ∀ x ∈ xs, 0 ≤ x ∧ x < 256) (hk0 : 0 ≤ k) (hk : k % 7 = 5) (ho : d.off = false) (hi : i < 0) :
    Calls Try.prog 27 (args27 gm gu gd c k v l s i A n cp) w fun e w' => e = .returned (.bool true) ∧ St w0 w' gm gb gu gd gr N ⟨d.B, d.off, 0⟩ ⟨d.B, d.off, 0⟩ c L := by
  have HS := Aside0.mk (st58 (k := k) (v := v) (l := l) (s := s) (i := i) (A := A) (n := n) (cp := cp) hS)
  have HN := Aside0.mk hN
  have HC := Aside0.mk (And.intro hc hc2)
  have HX := Aside0.mk (And.intro hC hx)
  have t1 : i < 100 := by omega
  have HO := Aside0.mk ho
  clear ho
  have HM := Aside0.mk (show (0 : Int) ≤ 0 ∧ (0 : Int) ≤ 1000 by omega)
  obtain ⟨r, hr, hr2⟩ : ∃ r : Int, k % 7 = r ∧ k.tmod 7 = r := ⟨_, rfl, by rw [Int.tmod_eq_emod_of_nonneg hk0]⟩
  rw [hr] at hk
  have b0 : (k % 7 == 0) = false := by rw [hr]; simp; omega
  have c0 : (k.tmod 7 == 0) = false := by rw [hr2]; simp; omega
  have b1 : (k % 7 == 1) = false := by rw [hr]; simp; omega
  have c1 : (k.tmod 7 == 1) = false := by rw [hr2]; simp; omega
  have b2 : (k % 7 == 2) = false := by rw [hr]; simp; omega
  have c2 : (k.tmod 7 == 2) = false := by rw [hr2]; simp; omega
  have b3 : (k % 7 == 3) = false := by rw [hr]; simp; omega
  have c3 : (k.tmod 7 == 3) = false := by rw [hr2]; simp; omega
  have b4 : (k % 7 == 4) = false := by rw [hr]; simp; omega
  have c4 : (k.tmod 7 == 4) = false := by rw [hr2]; simp; omega
  have b5 : (k % 7 == 5) = true := by rw [hr]; simp; omega
  have c5 : (k.tmod 7 == 5) = true := by rw [hr2]; simp; omega
  clear hk hk0 hr hr2
  clear hS hN hc hc2 hC hx
  obtain ⟨g2, hg2⟩ : ∃ g2, g2 = w.heap.size := ⟨_, rfl⟩
  rw [← hg2] at HS
  obtain ⟨g3, hg3⟩ : ∃ g3, g3 = g2 + 1 := ⟨_, rfl⟩
  rw [← hg3] at HS
  have hx := HS.out.top
  have hy := HS.out.drop.top
  have q0 := blk_cell hx 0
  have q1 := blk_cell hx 1
  have q2 := blk_cell hx 2
  have q3 := blk_cell hx 3
  have q4 := blk_cell hx 4
  have q5 := blk_cell hx 5
  have y0 := blk_cell hy 0
  have y1 := blk_cell hy 1
  have y2 := blk_cell hy 2
  have y3 := blk_cell hy 3
  have y4 := blk_cell hy 4
  clear hx hy
  go_enter Try.func27, Try.ntmps27
  go_wp2_with fail
  rw [← hg2, ← hg3]
  clear hg2 hg3
  refine (HS.out.arm 0 HM.out.1 HM.out.2).mono ?_
  rintro e w1 ⟨rfl, h1⟩
  have y2 := blk_cell h1.swap.top 2
  have x1 := blk_cell h1.gdev 1
  have x2 := blk_cell h1.gdev 2
  have f2 := blk_frozen h1.gdev 2
  have H1 := Aside0.mk h1
  clear h1
  rw [HO.out] at x1
  go_wp2_with fail
  go_ret
  exact ⟨by simp, (H1.out.dev_left 0 (by have := HM.out; omega) HM.out.2).drop.drop⟩
set_option maxRecDepth 100000 in
set_option maxHeartbeats 2000000 in
theorem do_5b (hS : St w0 w gm gb gu gd gr N d d c L) (hN : N = 10240) (hc : 4 ≤ c) (hc2 : c ≤ 36) {k v l s i : Int} {A : Option Addr} {n cp : Nat} {xs : List Int} (hC : (Kd.int .u8).C w0 A n xs) (hx : ∀ x ∈ xs, 0 ≤ x ∧ x < 256) (hk0 : 0 ≤ k) (hk : k % 7 = 5) (ho : d.off = false) (hi : 0 < i ∧ i < 100) :
    Calls Try.prog 27 (args27 gm gu gd c k v l s i A n cp) w fun e w' => e = .returned (.bool true) ∧ St w0 w' gm gb gu gd gr N ⟨d.B, d.off, i⟩ ⟨d.B, d.off, i⟩ c L := by
  have HS := Aside0.mk (st58 (k := k) (v := v) (l := l) (s := s) (i := i) (A := A) (n := n) (cp := cp) hS)
  have HN := Aside0.mk hN
  have HC := Aside0.mk (And.intro hc hc2)
  have HX := Aside0.mk (And.intro hC hx)
  have t1 : i < 100 := by omega
  have t2 : ¬ i < 0 := by omega
  have t3 : 0 < i := by omega
  have t4 : ¬ 100 < i := by omega
  have t5 : i ≤ 100 := by omega
  have t6 : 0 ≤ i := by omega
  clear hi
  have HO := Aside0.mk ho
  clear ho
  have HM := Aside0.mk (show (0 : Int) ≤ i ∧ (i : Int) ≤ 1000 by omega)
  obtain ⟨r, hr, hr2⟩ : ∃ r : Int, k % 7 = r ∧ k.tmod 7 = r := ⟨_, rfl, by rw [Int.tmod_eq_emod_of_nonneg hk0]⟩
  rw [hr] at hk
  have b0 : (k % 7 == 0) = false := by rw [hr]; simp; omega
  have c0 : (k.tmod 7 == 0) = false := by rw [hr2]; simp; omega
  have b1 : (k % 7 == 1) = false := by rw [hr]; simp; omega
  have c1 : (k.tmod 7 == 1) = false := by rw [hr2]; simp; omega
  have b2 : (k % 7 == 2) = false := by rw [hr]; simp; omega
  have c2 : (k.tmod 7 == 2) = false := by rw [hr2]; simp; omega
  have b3 : (k % 7 == 3) = false := by rw [hr]; simp; omega
  have c3 : (k.tmod 7 == 3) = false := by rw [hr2]; simp; omega
  have b4 : (k % 7 == 4) = false := by rw [hr]; simp; omega
  have c4 : (k.tmod 7 == 4) = false := by rw [hr2]; simp; omega
  have b5 : (k % 7 == 5) = true := by rw [hr]; simp; omega
  have c5 : (k.tmod 7 == 5) = true := by rw [hr2]; simp; omega
  clear hk hk0 hr hr2
  clear hS hN hc hc2 hC hx
  obtain ⟨g2, hg2⟩ : ∃ g2, g2 = w.heap.size := ⟨_, rfl⟩
  rw [← hg2] at HS
  obtain ⟨g3, hg3⟩ : ∃ g3, g3 = g2 + 1 := ⟨_, rfl⟩
  rw [← hg3] at HS
  have hx := HS.out.top
  have hy := HS.out.drop.top
  have q0 := blk_cell hx 0
  have q1 := blk_cell hx 1
  have q2 := blk_cell hx 2
  have q3 := blk_cell hx 3
  have q4 := blk_cell hx 4
  have q5 := blk_cell hx 5
  have y0 := blk_cell hy 0
  have y1 := blk_cell hy 1
  have y2 := blk_cell hy 2
  have y3 := blk_cell hy 3
  have y4 := blk_cell hy 4
  clear hx hy
  go_enter Try.func27, Try.ntmps27
  go_wp2_with fail
  rw [← hg2, ← hg3]
  clear hg2 hg3
  refine (HS.out.arm i HM.out.1 HM.out.2).mono ?_
  rintro e w1 ⟨rfl, h1⟩
  have y2 := blk_cell h1.swap.top 2
  have x1 := blk_cell h1.gdev 1
  have x2 := blk_cell h1.gdev 2
  have f2 := blk_frozen h1.gdev 2
  have H1 := Aside0.mk h1
  clear h1
  rw [HO.out] at x1
  go_wp2_with fail
  go_ret
  exact ⟨by simp, (H1.out.dev_left i (by have := HM.out; omega) HM.out.2).drop.drop⟩
set_option maxRecDepth 100000 in
set_option maxHeartbeats 2000000 in
theorem do_5d (hS : St w0 w gm gb gu gd gr N d d c L) (hN : N = 10240) (hc : 4 ≤ c) (hc2 : c ≤ 36) {k v l s i : Int} {A : Option Addr} {n cp : Nat} {xs : List Int} (hC : (Kd.int .u8).C w0 A n xs) (hx : ∀ x ∈ xs, 0 ≤ x ∧ x < 256) (hk0 : 0 ≤ k) (hk : k % 7 = 5) (ho : d.off = false) (hi : i = 0) :
    Calls Try.prog 27 (args27 gm gu gd c k v l s i A n cp) w fun e w' => e = .returned (.bool true) ∧ St w0 w' gm gb gu gd gr N ⟨d.B, d.off, 0⟩ ⟨d.B, d.off, 0⟩ c L := by
  have HS := Aside0.mk (st58 (k := k) (v := v) (l := l) (s := s) (i := i) (A := A) (n := n) (cp := cp) hS)
  have HN := Aside0.mk hN
  have HC := Aside0.mk (And.intro hc hc2)
  have HX := Aside0.mk (And.intro hC hx)
  subst hi
  have HO := Aside0.mk ho
  clear ho
  have HM := Aside0.mk (show (0 : Int) ≤ 0 ∧ (0 : Int) ≤ 1000 by omega)
  obtain ⟨r, hr, hr2⟩ : ∃ r : Int, k % 7 = r ∧ k.tmod 7 = r := ⟨_, rfl, by rw [Int.tmod_eq_emod_of_nonneg hk0]⟩
  rw [hr] at hk
  have b0 : (k % 7 == 0) = false := by rw [hr]; simp; omega
  have c0 : (k.tmod 7 == 0) = false := by rw [hr2]; simp; omega
  have b1 : (k % 7 == 1) = false := by rw [hr]; simp; omega
  have c1 : (k.tmod 7 == 1) = false := by rw [hr2]; simp; omega
  have b2 : (k % 7 == 2) = false := by rw [hr]; simp; omega
  have c2 : (k.tmod 7 == 2) = false := by rw [hr2]; simp; omega
  have b3 : (k % 7 == 3) = false := by rw [hr]; simp; omega
  have c3 : (k.tmod 7 == 3) = false := by rw [hr2]; simp; omega
  have b4 : (k % 7 == 4) = false := by rw [hr]; simp; omega
  have c4 : (k.tmod 7 == 4) = false := by rw [hr2]; simp; omega
  have b5 : (k % 7 == 5) = true := by rw [hr]; simp; omega
  have c5 : (k.tmod 7 == 5) = true := by rw [hr2]; simp; omega
  clear hk hk0 hr hr2
  clear hS hN hc hc2 hC hx
  obtain ⟨g2, hg2⟩ : ∃ g2, g2 = w.heap.size := ⟨_, rfl⟩
  rw [← hg2] at HS
  obtain ⟨g3, hg3⟩ : ∃ g3, g3 = g2 + 1 := ⟨_, rfl⟩
  rw [← hg3] at HS
  have hx := HS.out.top
  have hy := HS.out.drop.top
  have q0 := blk_cell hx 0
  have q1 := blk_cell hx 1
  have q2 := blk_cell hx 2
  have q3 := blk_cell hx 3
  have q4 := blk_cell hx 4
  have q5 := blk_cell hx 5
  have y0 := blk_cell hy 0
  have y1 := blk_cell hy 1
  have y2 := blk_cell hy 2
  have y3 := blk_cell hy 3
  have y4 := blk_cell hy 4
  clear hx hy
  go_enter Try.func27, Try.ntmps27
  go_wp2_with fail
  rw [← hg2, ← hg3]
  clear hg2 hg3
  refine (HS.out.arm 0 HM.out.1 HM.out.2).mono ?_
  rintro e w1 ⟨rfl, h1⟩
  have y2 := blk_cell h1.swap.top 2
  have x1 := blk_cell h1.gdev 1
  have x2 := blk_cell h1.gdev 2
  have f2 := blk_frozen h1.gdev 2
  have H1 := Aside0.mk h1
  clear h1
  rw [HO.out] at x1
  go_wp2_with fail
  go_ret
  exact ⟨by simp, (H1.out.dev_left 0 (by have := HM.out; omega) HM.out.2).drop.drop⟩
set_option maxRecDepth 100000 in
set_option maxHeartbeats 2000000 in
theorem do_5c (hS : St w0 w gm gb gu gd gr N d d c L) (hN : N = 10240) (hc : 4 ≤ c) (hc2 : c ≤ 36) {k v l s i : Int} {A : Option Addr} {n cp : Nat} {xs : List Int} (hC : (Kd.int .u8).C w0 A n xs) (hx : ∀ x ∈ xs, 0 ≤ x ∧ x < 256) (hk0 : 0 ≤ k) (hk : k % 7 = 5) (ho : d.off = false) (hi : 100 < i) :
    Calls Try.prog 27 (args27 gm gu gd c k v l s i A n cp) w fun e w' => e = .returned (.bool true) ∧ St w0 w' gm gb gu gd gr N ⟨d.B, d.off, 100⟩ ⟨d.B, d.off, 100⟩ c L := by
  have HS := Aside0.mk (st58 (k := k) (v := v) (l := l) (s := s) (i := i) (A := A) (n := n) (cp := cp) hS)
  have HN := Aside0.mk hN
  have HC := Aside0.mk (And.intro hc hc2)
  have HX := Aside0.mk (And.intro hC hx)
  have t1 : ¬ i < 100 := by omega
  have t2 : ¬ i ≤ 100 := by omega
  clear hi
  have HO := Aside0.mk ho
  clear ho
  have HM := Aside0.mk (show (0 : Int) ≤ 100 ∧ (100 : Int) ≤ 1000 by omega)
  obtain ⟨r, hr, hr2⟩ : ∃ r : Int, k % 7 = r ∧ k.tmod 7 = r := ⟨_, rfl, by rw [Int.tmod_eq_emod_of_nonneg hk0]⟩
  rw [hr] at hk
  have b0 : (k % 7 == 0) = false := by rw [hr]; simp; omega
  have c0 : (k.tmod 7 == 0) = false := by rw [hr2]; simp; omega
  have b1 : (k % 7 == 1) = false := by rw [hr]; simp; omega
  have c1 : (k.tmod 7 == 1) = false := by rw [hr2]; simp; omega
  have b2 : (k % 7 == 2) = false := by rw [hr]; simp; omega
  have c2 : (k.tmod 7 == 2) = false := by rw [hr2]; simp; omega
  have b3 : (k % 7 == 3) = false := by rw [hr]; simp; omega
  have c3 : (k.tmod 7 == 3) = false := by rw [hr2]; simp; omega
  have b4 : (k % 7 == 4) = false := by rw [hr]; simp; omega
  have c4 : (k.tmod 7 == 4) = false := by rw [hr2]; simp; omega
  have b5 : (k % 7 == 5) = true := by rw [hr]; simp; omega
  have c5 : (k.tmod 7 == 5) = true := by rw [hr2]; simp; omega
  clear hk hk0 hr hr2
  clear hS hN hc hc2 hC hx
  obtain ⟨g2, hg2⟩ : ∃ g2, g2 = w.heap.size := ⟨_, rfl⟩
  rw [← hg2] at HS
  obtain ⟨g3, hg3⟩ : ∃ g3, g3 = g2 + 1 := ⟨_, rfl⟩
  rw [← hg3] at HS
  have hx := HS.out.top
  have hy := HS.out.drop.top
  have q0 := blk_cell hx 0
  have q1 := blk_cell hx 1
  have q2 := blk_cell hx 2
  have q3 := blk_cell hx 3
  have q4 := blk_cell hx 4
  have q5 := blk_cell hx 5
  have y0 := blk_cell hy 0
  have y1 := blk_cell hy 1
  have y2 := blk_cell hy 2
  have y3 := blk_cell hy 3
  have y4 := blk_cell hy 4
  clear hx hy
  go_enter Try.func27, Try.ntmps27
  go_wp2_with fail
  rw [← hg2, ← hg3]
  clear hg2 hg3
  refine (HS.out.arm 100 HM.out.1 HM.out.2).mono ?_
  rintro e w1 ⟨rfl, h1⟩
  have y2 := blk_cell h1.swap.top 2
  have x1 := blk_cell h1.gdev 1
  have x2 := blk_cell h1.gdev 2
  have f2 := blk_frozen h1.gdev 2
  have H1 := Aside0.mk h1
  clear h1
  rw [HO.out] at x1
  go_wp2_with fail
  go_ret
  exact ⟨by simp, (H1.out.dev_left 100 (by have := HM.out; omega) HM.out.2).drop.drop⟩
set_option maxRecDepth 100000 in
set_option maxHeartbeats 2000000 in
theorem do_5e (hS : St w0 w gm gb gu gd gr N d d c L) (hN : N = 10240) (hc : 4 ≤ c) (hc2 : c ≤ 36) {k v l s i : Int} {A : Option Addr} {n cp : Nat} {xs : List Int} (hC : (Kd.int .u8).C w0 A n xs) (hx : ∀ x ∈ xs, 0 ≤ x ∧ x < 256) (hk0 : 0 ≤ k) (hk : k % 7 = 5) (ho : d.off = false) (hi : i = 100) :
    Calls Try.prog 27 (args27 gm gu gd c k v l s i A n cp) w fun e w' => e = .returned (.bool true) ∧ St w0 w' gm gb gu gd gr N ⟨d.B, d.off, 100⟩ ⟨d.B, d.off, 100⟩ c L := by
  have HS := Aside0.mk (st58 (k := k) (v := v) (l := l) (s := s) (i := i) (A := A) (n := n) (cp := cp) hS)
  have HN := Aside0.mk hN
  have HC := Aside0.mk (And.intro hc hc2)
  have HX := Aside0.mk (And.intro hC hx)
  subst hi
  have HO := Aside0.mk ho
  clear ho
  have HM := Aside0.mk (show (0 : Int) ≤ 100 ∧ (100 : Int) ≤ 1000 by omega)
  obtain ⟨r, hr, hr2⟩ : ∃ r : Int, k % 7 = r ∧ k.tmod 7 = r := ⟨_, rfl, by rw [Int.tmod_eq_emod_of_nonneg hk0]⟩
  rw [hr] at hk
  have b0 : (k % 7 == 0) = false := by rw [hr]; simp; omega
  have c0 : (k.tmod 7 == 0) = false := by rw [hr2]; simp; omega
  have b1 : (k % 7 == 1) = false := by rw [hr]; simp; omega
  have c1 : (k.tmod 7 == 1) = false := by rw [hr2]; simp; omega
  have b2 : (k % 7 == 2) = false := by rw [hr]; simp; omega
  have c2 : (k.tmod 7 == 2) = false := by rw [hr2]; simp; omega
  have b3 : (k % 7 == 3) = false := by rw [hr]; simp; omega
  have c3 : (k.tmod 7 == 3) = false := by rw [hr2]; simp; omega
  have b4 : (k % 7 == 4) = false := by rw [hr]; simp; omega
  have c4 : (k.tmod 7 == 4) = false := by rw [hr2]; simp; omega
  have b5 : (k % 7 == 5) = true := by rw [hr]; simp; omega
  have c5 : (k.tmod 7 == 5) = true := by rw [hr2]; simp; omega
  clear hk hk0 hr hr2
  clear hS hN hc hc2 hC hx
  obtain ⟨g2, hg2⟩ : ∃ g2, g2 = w.heap.size := ⟨_, rfl⟩
  rw [← hg2] at HS
  obtain ⟨g3, hg3⟩ : ∃ g3, g3 = g2 + 1 := ⟨_, rfl⟩
  rw [← hg3] at HS
  have hx := HS.out.top
  have hy := HS.out.drop.top
  have q0 := blk_cell hx 0
  have q1 := blk_cell hx 1
  have q2 := blk_cell hx 2
  have q3 := blk_cell hx 3
  have q4 := blk_cell hx 4
  have q5 := blk_cell hx 5
  have y0 := blk_cell hy 0
  have y1 := blk_cell hy 1
  have y2 := blk_cell hy 2
  have y3 := blk_cell hy 3
  have y4 := blk_cell hy 4
  clear hx hy
  go_enter Try.func27, Try.ntmps27
  go_wp2_with fail
  rw [← hg2, ← hg3]
  clear hg2 hg3
  refine (HS.out.arm 100 HM.out.1 HM.out.2).mono ?_
  rintro e w1 ⟨rfl, h1⟩
  have y2 := blk_cell h1.swap.top 2
  have x1 := blk_cell h1.gdev 1
  have x2 := blk_cell h1.gdev 2
  have f2 := blk_frozen h1.gdev 2
  have H1 := Aside0.mk h1
  clear h1
  rw [HO.out] at x1
  go_wp2_with fail
  go_ret
  exact ⟨by simp, (H1.out.dev_left 100 (by have := HM.out; omega) HM.out.2).drop.drop⟩
set_option maxRecDepth 100000 in
set_option maxHeartbeats 2000000 in
theorem do_6 (hS : St w0 w gm gb gu gd gr N d d c L) (hN : N = 10240) (hc : 4 ≤ c) (hc2 : c ≤ 36) {k v l s i : Int} {A : Option Addr} {n cp : Nat} {xs : List Int} (hC : (Kd.int .u8).C w0 A n xs) (hx : ∀ x ∈ xs, 0 ≤ x ∧ x < 256) (hk0 : 0 ≤ k) (hk : k % 7 = 6) :
    Calls Try.prog 27 (args27 gm gu gd c k v l s i A n cp) w fun e w' => e = .returned (.bool true) ∧ St w0 w' gm gb gu gd gr N ⟨d.B, false, -1⟩ ⟨d.B, false, -1⟩ c L := by
  have HS := Aside0.mk (st58 (k := k) (v := v) (l := l) (s := s) (i := i) (A := A) (n := n) (cp := cp) hS)
  have HN := Aside0.mk hN
  have HC := Aside0.mk (And.intro hc hc2)
  have HX := Aside0.mk (And.intro hC hx)
  obtain ⟨r, hr, hr2⟩ : ∃ r : Int, k % 7 = r ∧ k.tmod 7 = r := ⟨_, rfl, by rw [Int.tmod_eq_emod_of_nonneg hk0]⟩
  rw [hr] at hk
  have b0 : (k % 7 == 0) = false := by rw [hr]; simp; omega
  have c0 : (k.tmod 7 == 0) = false := by rw [hr2]; simp; omega
  have b1 : (k % 7 == 1) = false := by rw [hr]; simp; omega
  have c1 : (k.tmod 7 == 1) = false := by rw [hr2]; simp; omega
  have b2 : (k % 7 == 2) = false := by rw [hr]; simp; omega
  have c2 : (k.tmod 7 == 2) = false := by rw [hr2]; simp; omega
  have b3 : (k % 7 == 3) = false := by rw [hr]; simp; omega
  have c3 : (k.tmod 7 == 3) = false := by rw [hr2]; simp; omega
  have b4 : (k % 7 == 4) = false := by rw [hr]; simp; omega
  have c4 : (k.tmod 7 == 4) = false := by rw [hr2]; simp; omega
  have b5 : (k % 7 == 5) = false := by rw [hr]; simp; omega
  have c5 : (k.tmod 7 == 5) = false := by rw [hr2]; simp; omega
  clear hk hk0 hr hr2
  clear hS hN hc hc2 hC hx
  obtain ⟨g2, hg2⟩ : ∃ g2, g2 = w.heap.size := ⟨_, rfl⟩
  rw [← hg2] at HS
  obtain ⟨g3, hg3⟩ : ∃ g3, g3 = g2 + 1 := ⟨_, rfl⟩
  rw [← hg3] at HS
  have hx := HS.out.top
  have hy := HS.out.drop.top
  have q0 := blk_cell hx 0
  have q1 := blk_cell hx 1
  have q2 := blk_cell hx 2
  have q3 := blk_cell hx 3
  have q4 := blk_cell hx 4
  have q5 := blk_cell hx 5
  have y0 := blk_cell hy 0
  have y1 := blk_cell hy 1
  have y2 := blk_cell hy 2
  have y3 := blk_cell hy 3
  have y4 := blk_cell hy 4
  clear hx hy
  go_enter Try.func27, Try.ntmps27
  go_wp2_with fail
  rw [← hg2, ← hg3]
  clear hg2 hg3
  refine (HS.out.power).mono ?_
  rintro e w1 ⟨rfl, h1⟩
  have y2 := blk_cell h1.swap.top 2
  have x1 := blk_cell h1.gdev 1
  have x2 := blk_cell h1.gdev 2
  have f1 := blk_frozen h1.gdev 1
  have f2 := blk_frozen h1.gdev 2
  have H1 := Aside0.mk h1
  clear h1
  go_wp2_with fail
  go_region
  go_wp2_with fail
  go_ret
  exact ⟨by simp, (H1.out.dev_on).drop.drop.drew⟩
theorem do_5 (hS : St w0 w gm gb gu gd gr N d d c L) (hN : N = 10240) (hc : 4 ≤ c) (hc2 : c ≤ 36) {k v l s i : Int} {A : Option Addr} {n cp : Nat} {xs : List Int} (hC : (Kd.int .u8).C w0 A n xs) (hx : ∀ x ∈ xs, 0 ≤ x ∧ x < 256) (hk0 : 0 ≤ k) (hk : k % 7 = 5) (ho : d.off = false) :
    ∃ m, 0 ≤ m ∧ m ≤ 100 ∧ Calls Try.prog 27 (args27 gm gu gd c k v l s i A n cp) w fun e w' => e = .returned (.bool true) ∧ St w0 w' gm gb gu gd gr N ⟨d.B, d.off, m⟩ ⟨d.B, d.off, m⟩ c L := by
  by_cases h1 : i < 0
  · exact ⟨0, by omega, by omega, do_5a hS hN hc hc2 hC hx hk0 hk ho h1⟩
  · by_cases h2 : i = 0
    · exact ⟨0, by omega, by omega, do_5d hS hN hc hc2 hC hx hk0 hk ho h2⟩
    · by_cases h3 : 100 < i
      · exact ⟨100, by omega, by omega, do_5c hS hN hc hc2 hC hx hk0 hk ho h3⟩
      · by_cases h4 : i = 100
        · exact ⟨100, by omega, by omega, do_5e hS hN hc hc2 hC hx hk0 hk ho h4⟩
        · exact ⟨i, by omega, by omega, do_5b hS hN hc hc2 hC hx hk0 hk ho ⟨by omega, by omega⟩⟩
/-- Whatever the operation: both end over the same device. -/
theorem Do_call (hS : St w0 w gm gb gu gd gr N d d c L) (hN : N = 10240) (hc : 4 ≤ c) (hc2 : c ≤ 36) {k v l s i : Int} {A : Option Addr} {n cp : Nat} {xs : List Int} (hC : (Kd.int .u8).C w0 A n xs) (hx : ∀ x ∈ xs, 0 ≤ x ∧ x < 256) (hk0 : 0 ≤ k) (hs0 : 0 ≤ s) (hs1 : s < 65536) (hi : (Lit.int .i64 i).wf = true) (ho : k % 7 = 5 → d.off = false) :
    ∃ d', Calls Try.prog 27 (args27 gm gu gd c k v l s i A n cp) w fun e w' => e = .returned (.bool true) ∧ St w0 w' gm gb gu gd gr N d' d' c L := by
  have h7 : k % 7 = 0 ∨ k % 7 = 1 ∨ k % 7 = 2 ∨ k % 7 = 3 ∨ k % 7 = 4 ∨ k % 7 = 5 ∨ k % 7 = 6 := by omega
  rcases h7 with h | h | h | h | h | h | h
  · exact ⟨_, do_0 hS hN hc hc2 hC hx hk0 h hs0 hs1⟩
  · exact ⟨_, do_1 hS hN hc hc2 hC hx hk0 h hi⟩
  · exact ⟨_, do_2 hS hN hc hc2 hC hx hk0 h hi⟩
  · exact ⟨_, do_3 hS hN hc hc2 hC hx hk0 h⟩
  · exact ⟨_, do_4 hS hN hc hc2 hC hx hk0 h⟩
  · obtain ⟨m, _, _, hd⟩ := do_5 (i := i) (v := v) (l := l) (s := s) hS hN hc hc2 hC hx hk0 h (ho h)
    exact ⟨_, hd⟩
  · exact ⟨_, do_6 hS hN hc hc2 hC hx hk0 h⟩
end Go.Proofs.Ytfcldacjnegacaa.Up
