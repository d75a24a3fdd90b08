/- What this claim needs of Ca. Parted by prune.py. -/
import Derived.Test.YtleafbihfmiidaaDoorZ5Oi
import Derived.Test.YtleafbihfmiidaaDoorZ5Co
namespace Go.Proofs.YtleafbihfmiidaaDoor.QAl
open Go.RowKit Go.Proofs.YtleafbihfmiidaaDoorW.PrintWords Go.Proofs.YtleafbihfmiidaaDoorW.PrintLast Go.Proofs.YtleafbihfmiidaaDoorW.PrintMore Go.Proofs.YtleafbihfmiidaaDoor.Sl
set_option linter.unusedVariables false
set_option linter.unusedSimpArgs false
abbrev Cs.lst (s : Cs) : List Value := .int .i64 s.pc :: s.m.map (Value.int .i16)
theorem Cs.Ok.lst_len {s : Cs} (ok : s.Ok) : s.lst.length = 73 := by simp [Cs.lst, ok.len]
/-- The cells of a Case: a state, then a world's four. -/
def caseA (s : Cs) (l : List Value) : Array Value := (s.lst ++ l).toArray
section
variable {w : World} {g t : Nat} {s : Cs} {l : List Value}
theorem range_case0 (h : w.heap[g]? = some (.cells (caseA s l) t (0, 0))) : w.rangeAt g 0 s.lst := by
  intro j v hv
  rw [blk_cell h (0 + j), Nat.zero_add]
  unfold caseA
  rw [List.getElem?_toArray, List.getElem?_append_left (List.getElem?_eq_some_iff.1 hv).1]
  exact hv
theorem range_case1 (ok : s.Ok) (h : w.heap[g]? = some (.cells (caseA s l) t (0, 0))) : w.rangeAt g 73 l := by
  intro j v hv
  rw [blk_cell h (73 + j)]
  unfold caseA
  rw [List.getElem?_toArray, List.getElem?_append_right (by rw [ok.lst_len]; omega), ok.lst_len, show 73 + j - 73 = j by omega]
  exact hv
end
section
variable {ops : Array Oper} {op : Oper} {a : Act} {s : Cs} {t : Nat} {l : List Value}
/-- z.S out of the box. -/
theorem wpList_case0 {rest : List Oper} {w : World} {Q : Exit → Act → World → Prop} (hgd : op.guard = none) (x : Operand) (ho : op.op = .load 26 x) (g : Nat) (hx : a.eval x = .pointer (some ⟨g, 0, none⟩)) (ok : s.Ok) (hg : w.heap[g]? = some (.cells (caseA s l) t (0, 0)))
    (h : wpList Tryd.prog ops Q rest (a.put op.dst (.agg s.cells)) w) : wpList Tryd.prog ops Q (op :: rest) a w :=
  wpList_load_mid hgd 26 x ho g 0 hx s.lst _ (range_case0 hg) Tryd.underlying26 rfl (by rw [ok.lst_len]; exact i26) h
/-- z.W out of the box. -/
theorem wpList_case1 {rest : List Oper} {w : World} {Q : Exit → Act → World → Prop} (hgd : op.guard = none) (x : Operand) (ho : op.op = .load 50 x) (g : Nat) (hx : a.eval x = .pointer (some ⟨g, 73, none⟩)) (ok : s.Ok) (hl : l.length = 4) (hg : w.heap[g]? = some (.cells (caseA s l) t (0, 0)))
    (h : wpList Tryd.prog ops Q rest (a.put op.dst (.agg l.toArray)) w) : wpList Tryd.prog ops Q (op :: rest) a w :=
  wpList_load_mid hgd 50 x ho g 73 hx l _ (range_case1 ok hg) Tryd.underlying50 rfl (by rw [hl]; exact i50) h
end
end Go.Proofs.YtleafbihfmiidaaDoor.QAl
namespace Go.Proofs.YtleafbihfmiidaaDoor.Kc
open Go.RowKit Go.WideShapes Go.ChangeShapes Go.Proofs.YtleafbihfmiidaaDoor.Ka
open Go.Proofs.YtleafbihfmiidaaDoorW.PrintWords
theorem Case_cells {W : World} {x : (Int × List Int × List Int) × TWorld} {v : Value} (hv : ∃ base, Value.okWide Tryd.prog W .any base 52 v) (h : kCase.K W x v.cells.toList) (hg : GState x.1) :
    ∃ (s : QAl.Cs) (l : List Value), v = .agg (QAl.caseA s l) ∧ s.Ok ∧ kWorld.K W x.2 l := by
  obtain ⟨⟨pc, R, F⟩, y⟩ := x
  obtain ⟨c, l, hcs, ⟨c0, c1, rfl, h0, c2, c3, rfl, h1, h2⟩, hW⟩ := h
  obtain ⟨l1, e1⟩ := Kd.arr_cells h1
  obtain ⟨l2, e2⟩ := Kd.arr_cells h2
  have h0 : c0 = [.int .i64 pc] := h0
  subst h0 e1 e2
  refine ⟨⟨pc, R ++ F⟩, l, ?_, ⟨?_, ?_⟩, hW⟩
  · rw [← val_agg Tryd.underlying52 hv hcs]
    unfold QAl.caseA
    simp [encs]
  · dsimp only at l1 l2
    simp [l1, l2]
  · intro v hv'
    rcases List.mem_append.1 hv' with h | h
    · exact s16_of (hg.2.1 v h)
    · exact s16_of (hg.2.2 v h)
end Go.Proofs.YtleafbihfmiidaaDoor.Kc
