/- UpdaterReceives: the law answers true. Printed by mkRc.py. -/
import Derived.Test.YtfcldacjnegacaaRcP
import Derived.Test.YtfcldacjnegacaaSpo
namespace Go.Proofs.Ytfcldacjnegacaa.Up
open Go.RowKit Go.Proofs.YtfcldacjnegacaaW.PrintWords Go.Proofs.YtfcldacjnegacaaW.PrintLast Go.Proofs.YtfcldacjnegacaaW.PrintMore Go.Proofs.Ytfcldacjnegacaa.Sl
set_option linter.unusedVariables false
set_option linter.unusedSimpArgs false
attribute [local go_sem] max_two min_two
abbrev o22 (A : Option Addr) (n c : Nat) : Obj := .cells #[.slice A n c] 22
section
variable {L : List Chunk} {w0 w w' : World} {gm gb gu N : Nat} {d : Dv}
theorem NvM.p4 {c : Int} {x y : Chunk} (h : NvM w0 w gm gb N d (upd gu gm 4096 c [x, y])) : NvM w0 w gm gb N d (upd gu gm 4096 c [y, x]) := h.swap
theorem NvM.got (h : NvM w0 w gm gb N d L) : d.Ok N := h.1
/-- A new updater takes the place of the old one. -/
theorem NvM.open_ {c : Nat} (h : NvM w0 w gm gb N d (upd gu gm 4096 (c : Int) L)) (hN : N = 10240) (hc : 4 ≤ c) (hc2 : c ≤ 36) :
    Calls Try.prog 24 #[.pointer (some ⟨gm, 0, none⟩), .int .i64 4096, .int .i64 (c : Int)] w fun e w' => ∃ gu', e = .returned (.tuple #[.pointer (some ⟨gu', 0, none⟩), .int .i64 0]) ∧ NvM w0 w' gm gb N d (upd gu' gm 4096 (c : Int) L) := by
  obtain ⟨hd, lf, wv, hlf, hm⟩ := h
  refine (Open_ok hm hd.len hN c hc hc2).mono ?_
  rintro e w' ⟨gu', rfl, hm'⟩
  exact ⟨gu', rfl, hd, lf, wv, hlf, hm'.p3.drop⟩
end

set_option maxRecDepth 100000 in
set_option maxHeartbeats 4000000 in
theorem offer_cl {w0 w : World} {gm gb gu gd N g7 g3 : Nat} {d : Dv} {A : Option Addr} {n cp : Nat} {b : List Int} (h : NvM w0 w gm gb N d (upd gu gm 4096 8 [ob g7 (o30n gm gu gd 8), ob g3 (o22 A n cp)])) (hN : N = 10240)
    (hC : (Kd.int .u8).C w0 A n b) (hcp : n ≤ cp) (hb : ∀ x ∈ b, 0 ≤ x ∧ x < 256) (hn : n ≤ 300) :
    Calls Try.prog 23 #[.pointer (some ⟨g7, 0, none⟩), .pointer (some ⟨g3, 0, none⟩)] w fun e w' => e = .returned (.int .i64 (d.offer 8 3 (n : Int) (crcI b)).2) ∧ NvM w0 w' gm gb N (d.offer 8 3 (n : Int) (crcI b)).1 (upd gu gm 4096 8 [ob g7 (o30n gm gu gd 8), ob g3 (o22 A n cp)]) := by
  have z1 := blk_cell h.top 1
  have z2 := blk_cell h.swap.top 0
  have HC := Aside0.mk hC
  have H := Aside0.mk h
  have HCP := Aside0.mk (And.intro hcp hn)
  have HB := Aside0.mk hb
  have HN := Aside0.mk hN
  have HSUM := Aside0.mk (fun W (h : Below w0.heap.size w0 W) => sum_call (Kd.C_below hC h) hcp hb (show n ≤ 100000 by omega))
  have HCL := Aside0.mk (And.intro (crcI_nn b) (crcI_lt b))
  generalize crcI b = sb at *
  have HOC := Aside0.mk (fun W (h : NvM w0 W gm gb N d (upd gu gm 4096 8 [ob g7 (o30n gm gu gd 8), ob g3 (o22 A n cp)])) => Offer_call (c := 8) h hN (by omega) (by omega) 3 (n : Int) sb HCL.out.1 HCL.out.2)
  generalize hR : d.offer 8 3 (n : Int) sb = R at *
  obtain ⟨d2, r2⟩ := R
  clear h hC hcp hb hn hN hR
  go_enter Try.func23, Try.ntmps23
  go_wp2_with fail
  refine wp_region_held_drew (S := fun W => W.cell? ⟨g7, 1, none⟩ = some (.pointer (some ⟨gu, 0, none⟩)) ∧ W.cell? ⟨g3, 0, none⟩ = some (.slice A n cp)) (by kernel_rfl) ⟨z1, z2⟩ (fun hS => ?_)
  refine wpAnyH_take (i := 0) (oi := { dst := some 3, op := Op.fieldAddr 30 (Operand.tmp 0) 1, type := 0, pos := "law.go:167", after := #[], guard := none }) (v := ?_) rfl (by kernel_rfl) (by kernel_rfl) (by kernel_rfl) (fun _ _ _ h => h) (Or.inl ⟨by rfl, ?_⟩) hS ?_
  rotate_left
  · intro W_ hSW_
    obtain ⟨z1_, z2_⟩ := hSW_
    go_simp
    try with_reducible rfl
  try simp only [Act.put, List.setIfInBounds_toArray, List.set_cons_zero, List.set_cons_succ]
  refine wpAnyH_take (i := 1) (oi := { dst := some 4, op := Op.load 25 (Operand.tmp 3), type := 25, pos := "law.go:167", after := #[{ on := 0, ground := Ground.data }], guard := none }) (v := ?_) rfl (by kernel_rfl) (by kernel_rfl) (by kernel_rfl) (fun _ _ _ h => h) (Or.inl ⟨by rfl, ?_⟩) hS ?_
  rotate_left
  · intro W_ hSW_
    obtain ⟨z1_, z2_⟩ := hSW_
    go_simp
    try with_reducible rfl
  try simp only [Act.put, List.setIfInBounds_toArray, List.set_cons_zero, List.set_cons_succ]
  refine wpAnyH_take (i := 2) (oi := { dst := some 5, op := Op.load 22 (Operand.tmp 1), type := 22, pos := "law.go:167", after := #[], guard := none }) (v := ?_) rfl (by kernel_rfl) (by kernel_rfl) (by kernel_rfl) (fun _ _ _ h => h) (Or.inl ⟨by rfl, ?_⟩) hS ?_
  rotate_left
  · intro W_ hSW_
    obtain ⟨z1_, z2_⟩ := hSW_
    go_simp
    try with_reducible rfl
  try simp only [Act.put, List.setIfInBounds_toArray, List.set_cons_zero, List.set_cons_succ]
  refine wpAnyH_take (i := 3) (oi := { dst := some 6, op := Op.call { callee := Callee.builtin Builtin.len, args := #[Operand.tmp 5], argTypes := #[22] }, type := 3, pos := "law.go:167", after := #[{ on := 2, ground := Ground.data }], guard := none }) (v := ?_) rfl (by kernel_rfl) (by kernel_rfl) (by kernel_rfl) (fun _ _ _ h => h) (Or.inl ⟨by rfl, ?_⟩) hS ?_
  rotate_left
  · intro W_ hSW_
    obtain ⟨z1_, z2_⟩ := hSW_
    go_simp
    try with_reducible rfl
  try simp only [Act.put, List.setIfInBounds_toArray, List.set_cons_zero, List.set_cons_succ]
  refine wpAnyH_take (i := 4) (oi := { dst := some 7, op := Op.load 22 (Operand.tmp 1), type := 22, pos := "law.go:167", after := #[], guard := none }) (v := ?_) rfl (by kernel_rfl) (by kernel_rfl) (by kernel_rfl) (fun _ _ _ h => h) (Or.inl ⟨by rfl, ?_⟩) hS ?_
  rotate_left
  · intro W_ hSW_
    obtain ⟨z1_, z2_⟩ := hSW_
    go_simp
    try with_reducible rfl
  try simp only [Act.put, List.setIfInBounds_toArray, List.set_cons_zero, List.set_cons_succ]
  refine wpAnyH_ready (rs := [5]) (by kernel_rfl) (by simp) ?_
  refine AllReadyH.cons (o := { dst := some 8, op := Op.call { callee := Callee.value (Operand.func 20), args := #[Operand.tmp 7], argTypes := #[22] }, type := 38, pos := "law.go:167", after := #[{ on := 4, ground := Ground.data }], guard := none }) rfl (fun K_ hK_ => ?_) AllReadyH.nil
  go_simp
  refine (HSUM.out _ (below_drew H.out.below')).mono ?_
  rintro e w4 ⟨rfl, hb4⟩
  have H4 := Aside0.mk ((H.out.drew'').step hb4)
  clear hb4
  refine hK_.out _ _ (⟨blk_cell H4.out.top 1, blk_cell H4.out.swap.top 0⟩) (fun hS_ => ?_)
  clear hK_ K_ hS
  have hS := hS_
  clear hS_
  try simp only [Act.put, List.setIfInBounds_toArray, List.set_cons_zero, List.set_cons_succ]
  refine wpAnyH_ready (rs := [6]) (by kernel_rfl) (by simp) ?_
  refine AllReadyH.cons (o := { dst := some 9, op := Op.call { callee := Callee.value (Operand.func 13), args := #[Operand.tmp 4, Operand.const (Value.int IntKind.i64 3), Operand.tmp 6, Operand.tmp 8], argTypes := #[25, 3, 3, 38] }, type := 31, pos := "law.go:167", after := #[{ on := 1, ground := Ground.data }, { on := 3, ground := Ground.data }, { on := 5, ground := Ground.data }, { on := 5, ground := Ground.chain }], guard := none }) rfl (fun K_ hK_ => ?_) AllReadyH.nil
  go_simp
  refine (HOC.out _ H4.out).mono ?_
  rintro e w5 ⟨rfl, h5⟩
  have HD := Aside0.mk h5
  clear h5
  refine hK_.out _ _ (⟨blk_cell HD.out.top 1, blk_cell HD.out.swap.top 0⟩) (fun hS_ => ?_)
  clear hK_ K_ hS
  have hS := hS_
  clear hS_
  try simp only [Act.put, List.setIfInBounds_toArray, List.set_cons_zero, List.set_cons_succ]
  refine wpAnyH_take (i := 7) (oi := { dst := some 2, op := Op.assign (Operand.tmp 9), type := 31, pos := "law.go:167", after := #[{ on := 6, ground := Ground.data }, { on := 6, ground := Ground.chain }, { on := 0, ground := Ground.phase }, { on := 1, ground := Ground.phase }, { on := 2, ground := Ground.phase }, { on := 3, ground := Ground.phase }, { on := 4, ground := Ground.phase }, { on := 5, ground := Ground.phase }, { on := 6, ground := Ground.phase }], guard := none }) (v := ?_) rfl (by kernel_rfl) (by kernel_rfl) (by kernel_rfl) (fun _ _ _ h => h) (Or.inl ⟨by rfl, ?_⟩) hS ?_
  rotate_left
  · intro W_ hSW_
    obtain ⟨z1_, z2_⟩ := hSW_
    go_simp
    try with_reducible rfl
  try simp only [Act.put, List.setIfInBounds_toArray, List.set_cons_zero, List.set_cons_succ]
  refine wpAnyH_done (by kernel_rfl) ?_ _
  clear hS
  go_wp2_with fail
  go_ret
  exact ⟨rfl, HD.out⟩
end Go.Proofs.Ytfcldacjnegacaa.Up
