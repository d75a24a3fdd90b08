/- What this claim needs of Ow. Parted by prune.py. -/
import Derived.Test.YtleafbihfmiidaaDoorZ5Aw
import Derived.Test.YtleafbihfmiidaaDoorZ5Arr
import Derived.Great.BuildSlice
import Derived.Deep.WholeRow
namespace Go.Proofs.YtleafbihfmiidaaDoor.QAl
open Go.RowKit Go.Proofs.YtleafbihfmiidaaDoorW.PrintWords Go.Proofs.YtleafbihfmiidaaDoorW.PrintLast Go.Proofs.YtleafbihfmiidaaDoorW.PrintMore Go.Proofs.YtleafbihfmiidaaDoor.Sl
set_option linter.unusedVariables false
set_option linter.unusedSimpArgs false
theorem list_fn {n : Nat} (m : List Int) (h : m.length = n) : m = (List.range n).map (fun i => m.getD i 0) := by
  apply List.ext_getElem (by simp [h])
  intro i h1 h2
  simp [List.getD_eq_getElem?_getD, List.getElem?_eq_getElem h1]
def Cs.rs (s : Cs) : List Value := (s.m.take 8).map (Value.int .i16)
def Cs.fs (s : Cs) : List Value := (s.m.drop 8).map (Value.int .i16)
set_option maxRecDepth 100000 in
theorem built_fn (pc : Int) (g : Nat → Int) : Tryd.prog.built 32 [(0, .int .i64 pc), (1, .agg ((((List.range 72).map g).take 8).map (Value.int .i16)).toArray), (2, .agg ((((List.range 72).map g).drop 8).map (Value.int .i16)).toArray)] = some (Cs.mk pc ((List.range 72).map g)).cells := by kernel_rfl
theorem built_cs (s : Cs) (ok : s.Ok) : Tryd.prog.built 32 [(0, .int .i64 s.pc), (1, .agg s.rs.toArray), (2, .agg s.fs.toArray)] = some s.cells := by
  obtain ⟨pc, m⟩ := s
  unfold Cs.rs Cs.fs
  have hl := ok.len
  dsimp only at hl ⊢
  rw [list_fn m hl]
  exact built_fn pc _
theorem range_rs {w : World} {g t : Nat} {s : Cs} (h : w.heap[g]? = some (.cells s.cells t (0, 0))) : w.rangeAt g 1 s.rs := by
  intro j v hv
  rw [blk_cell h (1 + j)]
  unfold Cs.cells
  unfold Cs.rs at hv
  rw [List.getElem?_toArray, show 1 + j = j + 1 by omega, List.getElem?_cons_succ]
  rw [List.map_take] at hv
  have hj : j < 8 := by
    have := (List.getElem?_eq_some_iff.1 hv).1
    simp at this
    omega
  rw [List.getElem?_take] at hv
  simpa [hj] using hv
theorem range_fs {w : World} {g t : Nat} {s : Cs} (h : w.heap[g]? = some (.cells s.cells t (0, 0))) : w.rangeAt g 9 s.fs := by
  intro j v hv
  rw [blk_cell h (9 + j)]
  unfold Cs.cells
  unfold Cs.fs at hv
  rw [List.getElem?_toArray, show 9 + j = (8 + j) + 1 by omega, List.getElem?_cons_succ]
  rw [List.map_drop, List.getElem?_drop] at hv
  exact hv
theorem i23 : (Tryd.prog.info? 23).map (·.size) = some 8 := by kernel_rfl
theorem i24 : (Tryd.prog.info? 24).map (·.size) = some 64 := by kernel_rfl
theorem i26 : (Tryd.prog.info? 26).map (·.size) = some 73 := by kernel_rfl
theorem i32 : (Tryd.prog.info? 32).map (·.size) = some 73 := by kernel_rfl
section
variable {w : World} {g t : Nat} {s : Cs}
theorem Cs.Ok.rs_len (ok : s.Ok) : s.rs.length = 8 := by unfold Cs.rs; rw [List.length_map, List.length_take, ok.len]; rfl
theorem Cs.Ok.fs_len (ok : s.Ok) : s.fs.length = 64 := by unfold Cs.fs; rw [List.length_map, List.length_drop, ok.len]
theorem Cs.Ok.size (ok : s.Ok) : s.cells.size = 73 := by unfold Cs.cells; simp [ok.len]
end
set_option maxRecDepth 100000 in
set_option maxHeartbeats 4000000 in
theorem own_call {w0 w : World} {L : List Chunk} (h : Mem w0 w L) {s : Cs} (ok : s.Ok) :
    Calls Tryd.prog 11 #[.agg s.cells] w fun e w' => e = .returned (.agg s.cells) ∧ Mem w0 w' L := by
  obtain ⟨gk, hgk⟩ : ∃ gk, w.heap.size = gk := ⟨_, rfl⟩
  have h1 := h.new_ (.cells s.cells 26) hgk
  have h2 := h1.new_ (g := gk + 1) (.cells Tryd.zeroCells32 32) (by simp [hgk])
  have zs : Tryd.zeroCells32.size = 73 := by kernel_rfl
  have x0 := cpu_pc h2.drop.get
  have X1 := Aside0.mk (range_rs h2.drop.get)
  have X2 := Aside0.mk (range_fs h2.drop.get)
  have X3 := Aside0.mk h2.get
  have HO := Aside0.mk ok
  have HZ := Aside0.mk zs
  have HM := Aside0.mk h
  have HG := Aside0.mk hgk
  clear h1 h2 h ok zs
  go_enter Tryd.func11, Tryd.ntmps11
  go_wp2_with (first
    | refine wpList_load_mid rfl 23 (.tmp 5) rfl gk 1 rfl s.rs _ X1.out Tryd.underlying23 rfl (by rw [HO.out.rs_len]; exact i23) ?_
    | refine wpList_load_mid rfl 24 (.tmp 7) rfl gk 9 rfl s.fs _ X2.out Tryd.underlying24 rfl (by rw [HO.out.fs_len]; exact i24) ?_
    | refine wpList_buildTo rfl 32 _ rfl (some 9) rfl s.cells (by simp only [List.map_toArray, List.map_cons, List.map_nil]; exact built_cs s HO.out) ?_
    | refine wpList_store_row rfl 32 (.tmp 2) (.tmp 9) rfl (gk + 1) s.cells rfl rfl 32 Tryd.zeroCells32 X3.out (by rw [HO.out.size]; exact i32) (by rw [HO.out.size]; exact HZ.out) (by unfold Cs.cells; simp [Value.oneCell']) ?_)
  rw [show (((w.alloc (Obj.cells s.cells 26)).alloc (Obj.cells Tryd.zeroCells32 32)).setRow (gk + 1) s.cells) = (w.alloc (Obj.cells s.cells 26)).alloc (Obj.cells s.cells 32) from by
    have := World.setRow_alloc_new (w.alloc (Obj.cells s.cells 26)) Tryd.zeroCells32 s.cells 32
    rw [← this]; simp [HG.out]]
  have h4 := (HM.out.new_ (.cells s.cells 26) HG.out).new_ (g := gk + 1) (.cells s.cells 32) (by simp [HG.out])
  refine bodyPost_ret (results_cell_row rfl _ _ (gk + 1) 32 s.cells (0, 0) _ rfl h4.get Tryd.underlying32 rfl (by rw [HO.out.size]; exact i32)) rfl ?_
  exact ⟨rfl, h4.drop.drop⟩
theorem eq23 (d : Nat) (w : World) (s : Cs) (ok : s.Ok) : (Op.equalIn (d + 2) 23 (.agg s.rs.toArray) (.agg s.rs.toArray)).run Tryd.prog w = .ok true w := by
  obtain ⟨i, hi⟩ := Option.isSome_iff_exists.1 (show (Tryd.prog.info? 22).isSome = true by kernel_rfl)
  have hl : (s.m.take 8).length = 8 := by rw [List.length_take, ok.len]; rfl
  have := Arr.eq_ints (w := w) (k := .i16) (by kernel_rfl) Tryd.underlying22 8 Tryd.underlying23 hi (by kernel_rfl) d (s.m.take 8) (s.m.take 8) hl hl
  rw [decide_eq_true rfl] at this
  exact this
theorem eq24 (d : Nat) (w : World) (s : Cs) (ok : s.Ok) : (Op.equalIn (d + 2) 24 (.agg s.fs.toArray) (.agg s.fs.toArray)).run Tryd.prog w = .ok true w := by
  obtain ⟨i, hi⟩ := Option.isSome_iff_exists.1 (show (Tryd.prog.info? 22).isSome = true by kernel_rfl)
  have hl : (s.m.drop 8).length = 64 := by rw [List.length_drop, ok.len]
  have := Arr.eq_ints (w := w) (k := .i16) (by kernel_rfl) Tryd.underlying22 64 Tryd.underlying24 hi (by kernel_rfl) d (s.m.drop 8) (s.m.drop 8) hl hl
  rw [decide_eq_true rfl] at this
  exact this
set_option maxRecDepth 100000 in
set_option maxHeartbeats 4000000 in
theorem same_call {w0 w : World} {L : List Chunk} (h : Mem w0 w L) {s : Cs} (ok : s.Ok) :
    Calls Tryd.prog 14 #[.agg s.cells, .agg s.cells] w fun e w' => e = .returned (.bool true) ∧ Mem w0 w' L := by
  obtain ⟨gk, hgk⟩ : ∃ gk, w.heap.size = gk := ⟨_, rfl⟩
  have h1 := h.new_ (.cells s.cells 32) hgk
  have h2 := h1.new_ (g := gk + 1) (.cells s.cells 26) (by simp [hgk])
  have x0 := cpu_pc h2.drop.get
  have x0' := cpu_pc h2.get
  have e23 := fun d W => eq23 d W s ok
  have e24 := fun d W => eq24 d W s ok
  have X1 := Aside0.mk (range_rs h2.drop.get)
  have X2 := Aside0.mk (range_fs h2.drop.get)
  have Y1 := Aside0.mk (range_rs h2.get)
  have Y2 := Aside0.mk (range_fs h2.get)
  have HO := Aside0.mk ok
  have HM := Aside0.mk h2.drop.drop
  have HG := Aside0.mk hgk
  clear h1 h2 h ok
  go_enter Tryd.func14, Tryd.ntmps14
  go_wp2_with (first
    | (refine wpList_step fun K hK => ?_; first
      | refine wp_load_mid 23 (.tmp 11) rfl gk 1 rfl s.rs _ X1.out Tryd.underlying23 rfl (by rw [HO.out.rs_len]; exact i23) ?_
      | refine wp_load_mid 23 (.tmp 13) rfl (gk + 1) 1 rfl s.rs _ Y1.out Tryd.underlying23 rfl (by rw [HO.out.rs_len]; exact i23) ?_
      | refine wp_load_mid 24 (.tmp 18) rfl gk 9 rfl s.fs _ X2.out Tryd.underlying24 rfl (by rw [HO.out.fs_len]; exact i24) ?_
      | refine wp_load_mid 24 (.tmp 20) rfl (gk + 1) 9 rfl s.fs _ Y2.out Tryd.underlying24 rfl (by rw [HO.out.fs_len]; exact i24) ?_))
  go_ret
  exact ⟨by simp, HM.out⟩
end Go.Proofs.YtleafbihfmiidaaDoor.QAl
