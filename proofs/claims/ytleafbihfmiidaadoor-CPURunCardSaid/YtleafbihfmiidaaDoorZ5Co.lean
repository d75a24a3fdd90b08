/- What this claim needs of Co. Parted by prune.py. -/
import Derived.Test.YtleafbihfmiidaaDoorZ5Sa
import Derived.Test.YtleafbihfmiidaaDoorZ5Re
namespace Go.Proofs.YtleafbihfmiidaaDoor.QAl
open Go.RowKit Go.Proofs.YtleafbihfmiidaaDoorW.PrintWords Go.Proofs.YtleafbihfmiidaaDoorW.PrintLast Go.Proofs.YtleafbihfmiidaaDoorW.PrintMore Go.Proofs.YtleafbihfmiidaaDoor.Sl
set_option linter.unusedVariables false
set_option linter.unusedSimpArgs false
section
variable {P : Program} {ops : Array Oper} {rest : List Oper} {o : Oper} {a : Act} {Q : Exit → Act → World → Prop} {L : List Chunk}
/-- append(v, ys...) of structs, behind 'at_builtin'. -/
theorem wp_append_rows {α : Type} (d : Kd α) {w0 W : World} (hgd : o.guard = none) (s x : Operand) (t e : TypeId) (z : Value) (bytes : Nat)
    (ho : o.op = .call { callee := .builtin .append, args := #[s, x], argTypes := #[t, t] })
    (ht : P.underlying t = some (.slice e)) (hinfo : (P.info? e).map (fun i => (i.zero, i.size, i.bytes)) = some (some z, d.sz, bytes)) (hz : z.cells.size = d.sz) (hs0 : 0 < d.sz) (hb0 : 0 < bytes)
    (v : Value) (xs ys : List α) (A : Option Addr) (m c : Nat) (hs : a.eval s = v) (hx : a.eval x = .slice A m c) 
    (HC : d.C W A m ys)
    (hmk : ∀ (w : World) (b : Nat) (cs : List Value) (p : α), d.K w p cs → d.M w b (fun _ => False) p cs)
    (HM : Mem w0 W (row w0 d e v xs :: L)) (hl : (xs.length + m) * bytes ≤ 140737488355328)
    (h : ∀ v1 w1, Mem w0 w1 (row w0 d e v1 (xs ++ ys) :: L) → wpList P ops Q rest (a.put o.dst v1) w1) :
    wpList P ops Q (o :: rest) a W := by
  have hB := HM.below
  obtain ⟨T, hr, h2, h3⟩ := HM.front
  have hr : d.R e W w0.heap.size T v xs := hr
  refine Kd.R_append_rows d (w0 := w0) w0.heap.size hgd s x t e z bytes ho ht hinfo hz hs0 hb0 v xs ys A m c (fun k => T k ∨ W.heap.size ≤ k) (fun _ => False) hs hx (Kd.R_mono hr (fun _ hk => .inl hk)) HC (fun _ _ h => hmk _ _ _ _ h) (fun _ h => h.elim) (fun _ hk => .inr hk) hB hB.size hl ?_
  intro v1 w1 hR hB1 hg hat
  exact h v1 w1 (h3 w1 (row w0 d e v1 (xs ++ ys)) hB1 ⟨hg.size, fun i hi hn => hg.block i hi (fun e => hn (hr.1 i e.symm))⟩ hR)
end
theorem k100_move (w : World) (b : Nat) (cs : List Value) (p : S100) (h : k100.K w p cs) : k100.M w b (fun _ => False) p cs := by
  rw [k100_open h]
  exact k100_mkM _ _ _ _
theorem i50 : (Tryd.prog.info? 50).map (·.size) = some 4 := by kernel_rfl
set_option maxRecDepth 100000 in
set_option maxHeartbeats 8000000 in
theorem Copy_call {w0 w : World} {L : List Chunk} (h : Mem w0 w L) (B0 B1 B3 : Option Addr) (n0 n1 n3 d0 d1 d3 : Nat) (fl : Int) (ws rs : List Int) (cs : List S100)
    (hr0 : Kd.C (Kd.int .i16) w0 B0 n0 ws) (hr1 : Kd.C (Kd.int .i16) w0 B1 n1 rs) (hr3 : Kd.C k100 w0 B3 n3 cs) (hn0 : n0 ≤ 600) (hn1 : n1 ≤ 60) (hn3 : n3 = 0) (hw : ws.length = n0) (hrl : rs.length = n1) (hcl : cs.length = n3) :
    Calls Tryd.prog 18 #[.agg #[.slice B0 n0 d0, .slice B1 n1 d1, .int .i64 fl, .slice B3 n3 d3]] w fun e w' => ∃ v0 v1 v3, e = .returned (.agg #[v0, v1, .int .i64 fl, v3]) ∧ Mem w0 w' (row w0 k100 100 v3 cs :: row w0 (Kd.int .i16) 22 v1 rs :: row w0 (Kd.int .i16) 22 v0 ws :: L) := by
  obtain ⟨g, hg⟩ : ∃ g, w.heap.size = g := ⟨_, rfl⟩
  have h1 := h.new_ (.cells #[.slice B0 n0 d0, .slice B1 n1 d1, .int .i64 fl, .slice B3 n3 d3] 50) hg
  have h2 := (h1.new_ (g := g + 1) (.cells #[.slice none 0 0, .slice none 0 0, .int .i64 0, .slice none 0 0] 50) (by simp [hg])).p1
  have HM := Aside0.mk h2
  have HRE := h2.row_empty (Kd.int .i16) 22
  rw [show ((w.alloc (.cells #[.slice B0 n0 d0, .slice B1 n1 d1, .int .i64 fl, .slice B3 n3 d3] 50)).alloc (.cells #[.slice none 0 0, .slice none 0 0, .int .i64 0, .slice none 0 0] 50)).heap.size = g + 1 + 1 by simp [hg]] at HRE
  replace HRE := Aside0.mk HRE
  have x0 := blk_cell h2.get 0
  have R0 := Aside0.mk hr0
  have R1 := Aside0.mk hr1
  have R3 := Aside0.mk hr3
  have N0 := Aside0.mk hn0
  have N1 := Aside0.mk hn1
  have N3 := Aside0.mk hn3
  have W0 := Aside0.mk hw
  have W1 := Aside0.mk hrl
  have W3 := Aside0.mk hcl
  clear h h1 h2 hr0 hr1 hr3 hn0 hn1 hn3 hw hrl hcl
  go_enter Tryd.func18, Tryd.ntmps18
  go_upto_region 2 with (
      (with_reducible refine gate_builtin (b := .append) (xs := #[.tmp 3, .tmp 5]) rfl ?_); at_builtin
      refine Mem.wp_append_ints .i16 (w0 := w0) rfl (.tmp 3) (.tmp 5) 30 22 2 rfl Tryd.underlying30 info22 (by decide) _ [] ws B0 n0 d0 rfl rfl (Mem.came HRE.out R0.out) HRE.out (by have := N0.out; simp; omega) ?_
      intro v1 w1 hm1
      rw [List.nil_append] at hm1
      obtain ⟨A1, c1, rfl, _, _⟩ := hm1.readsN W0.out
      have f0 := blk_frozen hm1.drop.get 0
      have c0 := blk_cell hm1.drop.get 0
      have HE1 := Aside0.mk (hm1.p1.put 0 (.slice A1 n0 c1) rfl)
      clear hm1)
  clear x0
  generalize w1.setCell _ _ = W_1 at *
  have x1 := blk_cell HE1.out.get 1
  have l1 := HE1.out.lt
  try simp only [Act.put, List.setIfInBounds_toArray, List.set_cons_zero, List.set_cons_succ]
  go_upto_region 3 with (
      (with_reducible refine gate_builtin (b := .append) (xs := #[.tmp 8, .tmp 10]) rfl ?_); at_builtin
      refine Mem.wp_append_ints .i16 (w0 := w0) rfl (.tmp 8) (.tmp 10) 30 22 2 rfl Tryd.underlying30 info22 (by decide) _ [] rs B1 n1 d1 rfl rfl (Mem.came (HE1.out.row_empty (Kd.int .i16) 22) R1.out) (HE1.out.row_empty (Kd.int .i16) 22) (by have := N1.out; simp; omega) ?_
      intro v2 w2 hm2
      rw [List.nil_append] at hm2
      obtain ⟨A2, c2, rfl, _, _⟩ := hm2.readsN W1.out
      have f1 := blk_frozen hm2.drop.get 1
      have c1_ := blk_cell hm2.drop.get 1
      have HE2 := Aside0.mk (hm2.p1.put 1 (.slice A2 n1 c2) rfl)
      clear hm2)
  clear x1 l1 HE1
  generalize w2.setCell _ _ = W_2 at *
  have x3 := blk_cell HE2.out.get 3
  have l2 := HE2.out.lt
  try simp only [Act.put, List.setIfInBounds_toArray, List.set_cons_zero, List.set_cons_succ]
  go_upto_region 4 with (
      (with_reducible refine gate_builtin (b := .append) (xs := #[.tmp 13, .tmp 15]) rfl ?_); at_builtin
      refine wp_append_rows k100 (w0 := w0) rfl (.tmp 13) (.tmp 15) 48 100 (.agg #[.int .i64 0, .int .i64 0, .int .i64 0]) 24 rfl Tryd.underlying48 info100 rfl (by decide) (by decide) _ [] cs B3 n3 d3 rfl rfl (Mem.came (HE2.out.row_empty k100 100) R3.out) k100_move (HE2.out.row_empty k100 100) (by have := N3.out; simp; omega) ?_
      intro v3 w3 hm3
      rw [List.nil_append] at hm3
      obtain ⟨A3, c3, rfl, _, _⟩ := hm3.readsN W3.out
      have f3 := blk_frozen hm3.drop.get 3
      have c3_ := blk_cell hm3.drop.get 3
      have HE3 := Aside0.mk (hm3.p1.put 3 (.slice A3 n3 c3) rfl)
      clear hm3)
  clear x3 l2 HE2
  generalize w3.setCell _ _ = W_3 at *
  have z0 := blk_cell HE3.out.get 0
  have z1 := blk_cell HE3.out.get 1
  have z2 := blk_cell HE3.out.get 2
  have z3 := blk_cell HE3.out.get 3
  try simp only [Act.put, List.setIfInBounds_toArray, List.set_cons_zero, List.set_cons_succ]
  have HX := Aside0.mk HE3.out.drop.p3
  go_wp2_with (refine wpList_store_row rfl 50 (.tmp 2) (.tmp 18) rfl (g + 1) #[.slice A1 n0 c1, .slice A2 n1 c2, .int .i64 fl, .slice A3 n3 c3] rfl rfl 50 #[.slice none 0 0, .slice none 0 0, .int .i64 0, .slice none 0 0] HX.out.get i50 rfl (by simp [Value.oneCell']) ?_)
  have h9 := putRow HX.out #[.slice A1 n0 c1, .slice A2 n1 c2, .int .i64 fl, .slice A3 n3 c3]
  refine bodyPost_ret (results_cell_row rfl _ _ (g + 1) 50 #[.slice A1 n0 c1, .slice A2 n1 c2, .int .i64 fl, .slice A3 n3 c3] (0, 0) _ rfl h9.get Tryd.underlying50 rfl i50) rfl ?_
  exact ⟨_, _, _, rfl, h9.drop⟩
end Go.Proofs.YtleafbihfmiidaaDoor.QAl
