/- c12: CPUSaves, walked. -/
import Derived.Test.YtleafbihfmiidaaDoorRs
import Derived.Test.YtleafbihfmiidaaDoorSm
namespace Go.Proofs.YtleafbihfmiidaaDoor.QAl
open Go.RowKit Go.Proofs.YtleafbihfmiidaaDoorW.PrintWords Go.Proofs.YtleafbihfmiidaaDoorW.PrintLast Go.Proofs.YtleafbihfmiidaaDoorW.PrintMore Go.Proofs.YtleafbihfmiidaaDoor.Sl
set_option linter.unusedVariables false
set_option linter.unusedSimpArgs false
theorem same_l0 (l : List Int) (hl : l.length ≤ 100000) : ∀ (m k : Nat), k + m = l.length → trickleref12_Same.l0 (m + 1) l l (l.length : Int) (k : Int) = some true
  | 0, k, h => by
    unfold trickleref12_Same.l0
    rw [if_neg (by omega)]
  | m + 1, k, h => by
    unfold trickleref12_Same.l0
    have e : wrap64 ((k : Int) + 1) = ((k + 1 : Nat) : Int) := by unfold wrap64; omega
    rw [if_pos (by omega), if_pos (by omega), if_pos (by omega), if_pos (by omega), if_pos rfl, e]
    exact same_l0 l hl m (k + 1) (by omega)
theorem same_self (l : List Int) (hl : l.length ≤ 100000) : trickleref12_Same.f (l.length + 1) l l = some true := by
  unfold trickleref12_Same.f
  rw [if_pos rfl]
  exact same_l0 l hl l.length 0 (by omega)
section
variable {ops : Array Oper} {S : World → Prop} {op : Oper} {a : Act} {s : Cs} {g t : Nat}
theorem range_all {w : World} (h : w.heap[g]? = some (.cells s.cells t (0, 0))) : w.rangeAt g 0 (.int .i64 s.pc :: s.m.map (Value.int .i16)) := by
  intro j v hv
  rw [blk_cell h (0 + j)]
  unfold Cs.cells
  rw [List.getElem?_toArray, Nat.zero_add]
  exact hv
theorem yields26 (hw : Region.wanted op (yielded ops a.tmps) = true) (x : Operand) (ho : op.op = .load 26 x) (g : Nat) (hx : a.eval x = .pointer (some ⟨g, 0, none⟩)) (ok : s.Ok) (hS : ∀ w, S w → w.heap[g]? = some (.cells s.cells t (0, 0))) : YieldsIf Tryd.prog ops S op (.agg s.cells) a :=
  yieldsIf_load_mid hw 26 x ho g 0 hx (.int .i64 s.pc :: s.m.map (Value.int .i16)) _ (fun w hw => range_all (hS w hw)) Tryd.underlying26 rfl (by rw [List.length_cons, List.length_map, ok.len]; exact i26)
theorem yields32 (hw : Region.wanted op (yielded ops a.tmps) = true) (x : Operand) (ho : op.op = .load 32 x) (g : Nat) (hx : a.eval x = .pointer (some ⟨g, 0, none⟩)) (ok : s.Ok) (hS : ∀ w, S w → w.heap[g]? = some (.cells s.cells t (0, 0))) : YieldsIf Tryd.prog ops S op (.agg s.cells) a :=
  yieldsIf_load_mid hw 32 x ho g 0 hx (.int .i64 s.pc :: s.m.map (Value.int .i16)) _ (fun w hw => range_all (hS w hw)) Tryd.underlying32 rfl (by rw [List.length_cons, List.length_map, ok.len]; exact i32)
theorem wpList_load26 {rest : List Oper} {w : World} {Q : Exit → Act → World → Prop} (hgd : op.guard = none) (x : Operand) (ho : op.op = .load 26 x) (g : Nat) (hx : a.eval x = .pointer (some ⟨g, 0, none⟩)) (ok : s.Ok) (hg : w.heap[g]? = some (.cells s.cells t (0, 0)))
    (h : wpList Tryd.prog ops Q rest (a.put op.dst (.agg s.cells)) w) : wpList Tryd.prog ops Q (op :: rest) a w :=
  wpList_load_mid hgd 26 x ho g 0 hx (.int .i64 s.pc :: s.m.map (Value.int .i16)) _ (range_all hg) Tryd.underlying26 rfl (by rw [List.length_cons, List.length_map, ok.len]; exact i26) h
theorem wpList_load32 {rest : List Oper} {w : World} {Q : Exit → Act → World → Prop} (hgd : op.guard = none) (x : Operand) (ho : op.op = .load 32 x) (g : Nat) (hx : a.eval x = .pointer (some ⟨g, 0, none⟩)) (ok : s.Ok) (hg : w.heap[g]? = some (.cells s.cells t (0, 0)))
    (h : wpList Tryd.prog ops Q rest (a.put op.dst (.agg s.cells)) w) : wpList Tryd.prog ops Q (op :: rest) a w :=
  wpList_load_mid hgd 32 x ho g 0 hx (.int .i64 s.pc :: s.m.map (Value.int .i16)) _ (range_all hg) Tryd.underlying32 rfl (by rw [List.length_cons, List.length_map, ok.len]; exact i32) h
theorem zero32 : Tryd.zeroCells32.size = 73 := by kernel_rfl
theorem wpList_store32 {rest : List Oper} {w : World} {Q : Exit → Act → World → Prop} (hgd : op.guard = none) (x y : Operand) (ho : op.op = .store 32 x y) (g : Nat) (hx : a.eval x = .pointer (some ⟨g, 0, none⟩)) (hy : a.eval y = .agg s.cells) (ok : s.Ok) (hg : w.heap[g]? = some (.cells Tryd.zeroCells32 32 (0, 0)))
    (h : wpList Tryd.prog ops Q rest (a.put op.dst undef) (w.setRow g s.cells)) : wpList Tryd.prog ops Q (op :: rest) a w :=
  wpList_store_row hgd 32 x y ho g s.cells hx hy 32 Tryd.zeroCells32 hg (by rw [ok.size]; exact i32) (by rw [ok.size]; exact zero32) (by unfold Cs.cells; simp [Value.oneCell']) h
end
set_option maxRecDepth 100000 in
set_option maxHeartbeats 8000000 in
theorem Saves_row (s : Cs) (ok : s.Ok) (st : Int) (A : Option Addr) (c : Nat) (ls : List Int) (W : World) (hr : Kd.C (Kd.int .i64) W A ls.length ls) (hc : ls.length ≤ c) (hG : GT W) :
    Calls Tryd.prog 9 #[.agg s.cells, .agg #[.int .i64 st, .slice A ls.length c]] W fun e W' => e = .returned (.bool true) ∧ Below W.heap.size W W' := by
  obtain ⟨g, hg⟩ : ∃ g, W.heap.size = g := ⟨_, rfl⟩
  have h0 := (Mem.start W).new_ (.cells s.cells 26) hg
  have h1 := h0.new_ (g := g + 1) (.cells #[.int .i64 st, .slice A ls.length c] 29) (by simp [hg])
  have HAW := Aside0.mk (awake_call h1 hG)
  have HO := Aside0.mk ok
  have HR := Aside0.mk hr
  have HG := Aside0.mk hg
  clear h0 h1 hr ok hG
  go_enter Tryd.func9, Tryd.ntmps9
  go_wp2_with fail
  refine HAW.out.mono ?_
  rintro e w2 ⟨rfl, h2⟩
  have x1 := blk_cell h2.get 1
  have H2 := Aside0.mk h2
  clear h2
  by_cases hn : ls.length ≤ 100
  rotate_left
  · have hn' : 100 < ls.length := by omega
    clear hn
    go_wp2_with fail
    go_ret
    exact ⟨rfl, H2.out.below⟩
  have hn' : ¬ 100 < ls.length := by omega
  have HN := Aside0.mk hn
  clear hn
  go_wp2_with (refine wpList_load26 rfl (.tmp 2) rfl g rfl HO.out H2.out.drop.get ?_)
  refine (own_call H2.out HO.out).mono ?_
  rintro e w3 ⟨rfl, h3⟩
  obtain ⟨gc, hgc⟩ : ∃ gc, w3.heap.size = gc := ⟨_, rfl⟩
  have X4 := Aside0.mk (h3.new_ (.cells Tryd.zeroCells32 32) hgc).get
  have HSR := Aside0.mk (show (w3.alloc (.cells Tryd.zeroCells32 32)).setRow gc s.cells = w3.alloc (.cells s.cells 32) by rw [← hgc]; exact World.setRow_alloc_new w3 Tryd.zeroCells32 s.cells 32)
  have H5 := Aside0.mk (h3.new_ (.cells s.cells 32) hgc)
  clear h3 x1
  go_wp2_with (refine wpList_store32 rfl (.tmp 5) (.tmp 13) rfl gc rfl rfl HO.out X4.out ?_)
  rw [HSR.out]
  clear HSR X4 hgc
  generalize w3.alloc (.cells s.cells 32) = w5 at *
  try simp only [Act.put, List.setIfInBounds_toArray, List.set_cons_zero, List.set_cons_succ]
  have HS0 : Aside0 (w5.drew.heap[g]? = some (.cells s.cells 26 (0, 0)) ∧ w5.drew.heap[g + 1]? = some (.cells #[.int .i64 st, .slice A ls.length c] 29 (0, 0)) ∧ w5.drew.heap[gc]? = some (.cells s.cells 32 (0, 0))) := ⟨H5.out.drop.drop.get, H5.out.drop.get, H5.out.get⟩
  refine wp_region_held_drew (S := fun W => W.heap[g]? = some (.cells s.cells 26 (0, 0)) ∧ W.heap[g + 1]? = some (.cells #[.int .i64 st, .slice A ls.length c] 29 (0, 0)) ∧ W.heap[gc]? = some (.cells s.cells 32 (0, 0))) (by kernel_rfl) HS0.out (fun hS => ?_)
  refine wpAnyH_take (i := 0) (oi := { dst := some 14, op := Op.load 29 (Operand.tmp 3), type := 29, pos := "law.go:116", after := #[], guard := none }) (v := ?_) rfl (by kernel_rfl) (by kernel_rfl) (by kernel_rfl) (fun _ _ _ h => h) (Or.inl ⟨by rfl, ?_⟩) hS ?_
  rotate_left
  · intro W_ hSW_
    have e0 := blk_cell hSW_.2.1 0
    have e1 := blk_cell hSW_.2.1 1
    go_simp
    try with_reducible rfl
  try simp only [Act.put, List.setIfInBounds_toArray, List.set_cons_zero, List.set_cons_succ]
  refine wpAnyH_take (i := 2) (oi := { dst := some 16, op := Op.load 26 (Operand.tmp 2), type := 26, pos := "law.go:116", after := #[], guard := none }) (v := .agg s.cells) rfl (by kernel_rfl) (by kernel_rfl) (by kernel_rfl) (fun _ _ _ h => h) (yields26 (by rfl) _ rfl _ rfl HO.out (fun W_ hSW_ => hSW_.1)) hS ?_
  try simp only [Act.put, List.setIfInBounds_toArray, List.set_cons_zero, List.set_cons_succ]
  refine wpAnyH_take (i := 3) (oi := { dst := some 17, op := Op.load 29 (Operand.tmp 3), type := 29, pos := "law.go:116", after := #[], guard := none }) (v := ?_) rfl (by kernel_rfl) (by kernel_rfl) (by kernel_rfl) (fun _ _ _ h => h) (Or.inl ⟨by rfl, ?_⟩) hS ?_
  rotate_left
  · intro W_ hSW_
    have e0 := blk_cell hSW_.2.1 0
    have e1 := blk_cell hSW_.2.1 1
    go_simp
    try with_reducible rfl
  try simp only [Act.put, List.setIfInBounds_toArray, List.set_cons_zero, List.set_cons_succ]
  refine wpAnyH_ready (rs := [1]) (by kernel_rfl) (by simp) ?_
  refine AllReadyH.cons (o := { dst := some 15, op := Op.call { callee := Callee.value (Operand.func 16), args := #[Operand.tmp 5, Operand.tmp 14], argTypes := #[32, 29] }, type := 30, pos := "law.go:116", after := #[{ on := 0, ground := Ground.data }], guard := none }) rfl (fun K_ hK_ => ?_) AllReadyH.nil
  go_simp
  refine (Save_call H5.out.drew HO.out st A ls.length c ls rfl hc HN.out HR.out).mono ?_
  rintro e w6 ⟨v1, rfl, h6⟩
  have H6 := Aside0.mk h6
  clear h6
  refine hK_.out _ _ (⟨H6.out.drop.drop.drop.get, H6.out.drop.drop.get, H6.out.drop.get⟩) (fun hS_ => ?_)
  clear hK_ K_ hS
  have hS := hS_
  clear hS_
  try simp only [Act.put, List.setIfInBounds_toArray, List.set_cons_zero, List.set_cons_succ]
  refine wpAnyH_ready (rs := [4]) (by kernel_rfl) (by simp) ?_
  refine AllReadyH.cons (o := { dst := some 18, op := Op.call { callee := Callee.value (Operand.func 24), args := #[Operand.tmp 16, Operand.tmp 17], argTypes := #[26, 29] }, type := 30, pos := "law.go:116", after := #[{ on := 2, ground := Ground.data }, { on := 3, ground := Ground.data }, { on := 1, ground := Ground.chain }], guard := none }) rfl (fun K_ hK_ => ?_) AllReadyH.nil
  go_simp
  refine (rSave_call H6.out HO.out st A ls.length c ls rfl HN.out HR.out).mono ?_
  rintro e w7 ⟨v2, rfl, h7⟩
  obtain ⟨A2, c2, rfl, hc2, hC2⟩ := h7.reads
  obtain ⟨A1, c1, rfl, hc1, hC1⟩ := h7.drop.reads
  have H7 := Aside0.mk h7
  have HSM := Aside0.mk (trickleref12_Same.calls _ A1 c1 _ A2 c2 _ true w7 hC1 hc1 hC2 hc2 (same_self _ (by rw [List.length_map]; have := HN.out; omega)))
  clear h7 hc1 hC1 hc2 hC2
  refine hK_.out _ _ (⟨H7.out.drop.drop.drop.drop.get, H7.out.drop.drop.drop.get, H7.out.drop.drop.get⟩) (fun hS_ => ?_)
  clear hK_ K_ hS
  have hS := hS_
  clear hS_
  try simp only [Act.put, List.setIfInBounds_toArray, List.set_cons_zero, List.set_cons_succ]
  refine wpAnyH_ready (rs := [5]) (by kernel_rfl) (by simp) ?_
  refine AllReadyH.cons (o := { dst := some 19, op := Op.call { callee := Callee.value (Operand.func 15), args := #[Operand.tmp 15, Operand.tmp 18], argTypes := #[30, 30] }, type := 4, pos := "law.go:116", after := #[{ on := 1, ground := Ground.data }, { on := 4, ground := Ground.data }, { on := 4, ground := Ground.chain }], guard := none }) rfl (fun K_ hK_ => ?_) AllReadyH.nil
  go_simp
  have key := HSM.out
  try simp only [List.length_map] at key
  refine key.mono ?_
  clear key
  rintro e w8 ⟨rfl, hd8⟩
  have H8 := Aside0.mk (H7.out.step hd8.below)
  clear hd8
  refine hK_.out _ _ (⟨H8.out.drop.drop.drop.drop.get, H8.out.drop.drop.drop.get, H8.out.drop.drop.get⟩) (fun hS_ => ?_)
  clear hK_ K_ hS
  have hS := hS_
  clear hS_
  try simp only [Act.put, List.setIfInBounds_toArray, List.set_cons_zero, List.set_cons_succ]
  refine wpAnyH_take (i := 6) (oi := { dst := some 20, op := Op.move (Operand.tmp 19), type := 4, pos := "law.go:116", after := #[{ on := 5, ground := Ground.data }, { on := 5, ground := Ground.chain }], guard := none }) (v := ?_) rfl (by kernel_rfl) (by kernel_rfl) (by kernel_rfl) (fun _ _ _ h => h) (Or.inl ⟨by rfl, ?_⟩) hS ?_
  rotate_left
  · intro W_ hSW_
    go_simp
    try with_reducible rfl
  try simp only [Act.put, List.setIfInBounds_toArray, List.set_cons_zero, List.set_cons_succ]
  refine wpAnyH_take (i := 7) (oi := { dst := some 21, op := Op.load 32 (Operand.tmp 5), type := 32, pos := "law.go:116", after := #[{ on := 6, ground := Ground.guard }], guard := some (6, true) }) (v := .agg s.cells) rfl (by kernel_rfl) (by kernel_rfl) (by kernel_rfl) (fun _ _ _ h => h) (yields32 (by rfl) _ rfl _ rfl HO.out (fun W_ hSW_ => hSW_.2.2)) hS ?_
  try simp only [Act.put, List.setIfInBounds_toArray, List.set_cons_zero, List.set_cons_succ]
  refine wpAnyH_take (i := 8) (oi := { dst := some 22, op := Op.load 26 (Operand.tmp 2), type := 26, pos := "law.go:116", after := #[{ on := 6, ground := Ground.guard }], guard := some (6, true) }) (v := .agg s.cells) rfl (by kernel_rfl) (by kernel_rfl) (by kernel_rfl) (fun _ _ _ h => h) (yields26 (by rfl) _ rfl _ rfl HO.out (fun W_ hSW_ => hSW_.1)) hS ?_
  try simp only [Act.put, List.setIfInBounds_toArray, List.set_cons_zero, List.set_cons_succ]
  refine wpAnyH_ready (rs := [9]) (by kernel_rfl) (by simp) ?_
  refine AllReadyH.cons (o := { dst := some 23, op := Op.call { callee := Callee.value (Operand.func 14), args := #[Operand.tmp 21, Operand.tmp 22], argTypes := #[32, 26] }, type := 4, pos := "law.go:116", after := #[{ on := 7, ground := Ground.data }, { on := 8, ground := Ground.data }, { on := 6, ground := Ground.chain }, { on := 6, ground := Ground.guard }], guard := some (6, true) }) rfl (fun K_ hK_ => ?_) AllReadyH.nil
  go_simp
  refine (same_call H8.out HO.out).mono ?_
  rintro e w9 ⟨rfl, h9⟩
  have H9 := Aside0.mk h9
  clear h9
  refine hK_.out _ _ (⟨H9.out.drop.drop.drop.drop.get, H9.out.drop.drop.drop.get, H9.out.drop.drop.get⟩) (fun hS_ => ?_)
  clear hK_ K_ hS
  have hS := hS_
  clear hS_
  try simp only [Act.put, List.setIfInBounds_toArray, List.set_cons_zero, List.set_cons_succ]
  refine wpAnyH_take (i := 10) (oi := { dst := some 24, op := Op.pick (Operand.tmp 20) (Operand.tmp 23) (Operand.const (Value.bool false)), type := 4, pos := "law.go:116", after := #[{ on := 6, ground := Ground.data }, { on := 9, ground := Ground.data }], guard := none }) (v := ?_) rfl (by kernel_rfl) (by kernel_rfl) (by kernel_rfl) (fun _ _ _ h => h) (Or.inl ⟨by rfl, ?_⟩) hS ?_
  rotate_left
  · intro W_ hSW_
    go_simp
    try with_reducible rfl
  try simp only [Act.put, List.setIfInBounds_toArray, List.set_cons_zero, List.set_cons_succ]
  refine wpAnyH_take (i := 11) (oi := { dst := some 4, op := Op.assign (Operand.tmp 24), type := 4, pos := "law.go:116", after := #[{ on := 10, ground := Ground.data }, { on := 9, ground := Ground.chain }, { on := 0, ground := Ground.phase }, { on := 1, ground := Ground.phase }, { on := 2, ground := Ground.phase }, { on := 3, ground := Ground.phase }, { on := 4, ground := Ground.phase }, { on := 5, ground := Ground.phase }, { on := 6, ground := Ground.phase }, { on := 7, ground := Ground.phase }, { on := 8, ground := Ground.phase }, { on := 9, ground := Ground.phase }, { on := 10, ground := Ground.phase }], guard := none }) (v := ?_) rfl (by kernel_rfl) (by kernel_rfl) (by kernel_rfl) (fun _ _ _ h => h) (Or.inl ⟨by rfl, ?_⟩) hS ?_
  rotate_left
  · intro W_ hSW_
    go_simp
    try with_reducible rfl
  try simp only [Act.put, List.setIfInBounds_toArray, List.set_cons_zero, List.set_cons_succ]
  refine wpAnyH_done (by kernel_rfl) ?_ _
  go_wp2_with fail
  go_ret
  exact ⟨rfl, H9.out.below⟩
end Go.Proofs.YtleafbihfmiidaaDoor.QAl
