/- What this claim needs of Re. Parted by prune.py. -/
import Derived.Test.YtleafbihfmiidaaDoorZ5Sv
import Derived.Laws.CopyOwn
namespace Go.Proofs.YtleafbihfmiidaaDoor.QAl
open Go.RowKit Go.Proofs.YtleafbihfmiidaaDoorW.PrintWords Go.Proofs.YtleafbihfmiidaaDoorW.PrintLast Go.Proofs.YtleafbihfmiidaaDoorW.PrintMore Go.Proofs.YtleafbihfmiidaaDoor.Sl
set_option linter.unusedVariables false
set_option linter.unusedSimpArgs false
theorem putRow {w0 w : World} {L : List Chunk} {g t : Nat} {old : Array Value} (h : Mem w0 w (ob g (.cells old t) :: L)) (new : Array Value) : Mem w0 (w.setRow g new) (ob g (.cells new t) :: L) := by
  have hg := h.ge
  have hw := h.get
  obtain ⟨T, h1, h2, h3⟩ := h.front
  exact h3 _ _ (below_setRow h.below hg new) ⟨by simp [World.setRow], fun i hi hn => setRow_other w g i new (fun e => hn (e ▸ h1.1))⟩ ⟨.inl h1.1, setRow_heap w g old new t (0, 0) hw⟩
section
variable {ops : Array Oper} {S : World → Prop} {op : Oper} {a : Act} {s : Cs} {g t : Nat}
theorem range_all {w : World} (h : w.heap[g]? = some (.cells s.cells t (0, 0))) : w.rangeAt g 0 (.int .i64 s.pc :: s.m.map (Value.int .i16)) := by
  intro j v hv
  rw [blk_cell h (0 + j)]
  unfold Cs.cells
  rw [List.getElem?_toArray, Nat.zero_add]
  exact hv
theorem wpList_load26 {rest : List Oper} {w : World} {Q : Exit → Act → World → Prop} (hgd : op.guard = none) (x : Operand) (ho : op.op = .load 26 x) (g : Nat) (hx : a.eval x = .pointer (some ⟨g, 0, none⟩)) (ok : s.Ok) (hg : w.heap[g]? = some (.cells s.cells t (0, 0)))
    (h : wpList Tryd.prog ops Q rest (a.put op.dst (.agg s.cells)) w) : wpList Tryd.prog ops Q (op :: rest) a w :=
  wpList_load_mid hgd 26 x ho g 0 hx (.int .i64 s.pc :: s.m.map (Value.int .i16)) _ (range_all hg) Tryd.underlying26 rfl (by rw [List.length_cons, List.length_map, ok.len]; exact i26) h
theorem zero32 : Tryd.zeroCells32.size = 73 := by kernel_rfl
theorem zero26 : Tryd.zeroCells26.size = 73 := by kernel_rfl
theorem cs_one (s : Cs) : s.cells.all (·.oneCell') = true := by unfold Cs.cells; simp [Value.oneCell']
theorem wpList_store32 {rest : List Oper} {w : World} {Q : Exit → Act → World → Prop} (hgd : op.guard = none) (x y : Operand) (ho : op.op = .store 32 x y) (g : Nat) (hx : a.eval x = .pointer (some ⟨g, 0, none⟩)) (hy : a.eval y = .agg s.cells) (ok : s.Ok) (old : Array Value) (hz : old.size = 73) (hg : w.heap[g]? = some (.cells old t (0, 0)))
    (h : wpList Tryd.prog ops Q rest (a.put op.dst undef) (w.setRow g s.cells)) : wpList Tryd.prog ops Q (op :: rest) a w :=
  wpList_store_row hgd 32 x y ho g s.cells hx hy t old hg (by rw [ok.size]; exact i32) (by rw [ok.size]; exact hz) (cs_one s) h
theorem wpList_store26 {rest : List Oper} {w : World} {Q : Exit → Act → World → Prop} (hgd : op.guard = none) (x y : Operand) (ho : op.op = .store 26 x y) (g : Nat) (hx : a.eval x = .pointer (some ⟨g, 0, none⟩)) (hy : a.eval y = .agg s.cells) (ok : s.Ok) (old : Array Value) (hz : old.size = 73) (hg : w.heap[g]? = some (.cells old t (0, 0)))
    (h : wpList Tryd.prog ops Q rest (a.put op.dst undef) (w.setRow g s.cells)) : wpList Tryd.prog ops Q (op :: rest) a w :=
  wpList_store_row hgd 26 x y ho g s.cells hx hy t old hg (by rw [ok.size]; exact i26) (by rw [ok.size]; exact hz) (cs_one s) h
end
end Go.Proofs.YtleafbihfmiidaaDoor.QAl
