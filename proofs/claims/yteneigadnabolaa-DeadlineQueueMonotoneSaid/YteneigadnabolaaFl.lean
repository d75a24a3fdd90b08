/- Items as flat cells; a queue's row as the print's QRow; copy and clear of elements of two cells. -/
import Derived.Test.YteneigadnabolaaQAlx0
import Derived.Test.YteneigadnabolaaQu
import Derived.Lib.SliceRun
import Derived.Lib.AppendZerosOnto
import Derived.Lib.Overlaps
import Derived.Laws.IdiomCopy
namespace Go.Proofs.Yteneigadnabolaa.QAl
open Go.RowKit Go.Proofs.YteneigadnabolaaW.PrintWords Go.Proofs.YteneigadnabolaaW.PrintLast Go.Proofs.YteneigadnabolaaW.PrintMore Go.Proofs.Yteneigadnabolaa.Sl
set_option linter.unusedVariables false
set_option linter.unusedSimpArgs false
/-- The cells of items. -/
def flat (l : List S30) : List Value := l.flatMap fun x => [.int .i64 x.f0, .int .i64 x.f1]
theorem flat_cons (x : S30) (l : List S30) : flat (x :: l) = .int .i64 x.f0 :: .int .i64 x.f1 :: flat l := rfl
theorem flat_append (a b : List S30) : flat (a ++ b) = flat a ++ flat b := by simp [flat, List.flatMap_append]
theorem flat_length : ∀ l : List S30, (flat l).length = l.length * 2
  | [] => rfl
  | x :: l => by rw [flat_cons, List.length_cons, List.length_cons, flat_length l, List.length_cons]; omega
theorem flat_one (l : List S30) : ∀ u ∈ flat l, u.oneCell' = true := by
  intro u hu
  obtain ⟨x, _, hx⟩ := List.mem_flatMap.1 hu
  rcases List.mem_cons.1 hx with rfl | hx
  · rfl
  · rw [List.mem_singleton.1 hx]; rfl
theorem flat_take (l : List S30) (k : Nat) (hk : k ≤ l.length) : (flat l).take (k * 2) = flat (l.take k) := by
  conv => lhs; rw [← List.take_append_drop k l, flat_append]
  rw [List.take_left' (by rw [flat_length, List.length_take]; omega)]
theorem flat_drop (l : List S30) (k : Nat) (hk : k ≤ l.length) : (flat l).drop (k * 2) = flat (l.drop k) := by
  conv => lhs; rw [← List.take_append_drop k l, flat_append]
  rw [List.drop_left' (by rw [flat_length, List.length_take]; omega)]
theorem reps_flat {R : S30 → List Value → Prop} (hR : ∀ x cs, R x cs → cs = [.int .i64 x.f0, .int .i64 x.f1]) : ∀ {l : List S30} {cs : List Value}, Reps R 2 l cs → cs = flat l
  | [], cs, h => List.eq_nil_of_length_eq_zero (by simpa using h.1)
  | x :: l, cs, h => by
    have h0 := hR _ _ (h.2 0 x rfl)
    have h1 := reps_flat hR (Kd.reps_drop (m := 1) h)
    rw [Nat.zero_mul, List.drop_zero] at h0
    rw [← List.take_append_drop 2 cs, h0, flat_cons]
    have e : cs.drop 2 = flat l := h1
    rw [e]
    rfl
theorem flat_reps {R : S30 → List Value → Prop} (hR : ∀ x, R x [.int .i64 x.f0, .int .i64 x.f1]) (l : List S30) : Reps R 2 l (flat l) := by
  refine ⟨flat_length l, fun j p hj => ?_⟩
  have hlt := (List.getElem?_eq_some_iff.1 hj).1
  rw [flat_drop l j (by omega)]
  have e : l.drop j = p :: l.drop (j + 1) := by
    rw [List.drop_eq_getElem_cons hlt]
    congr 1
    exact (List.getElem?_eq_some_iff.1 hj).2
  rw [e, flat_cons]
  exact hR p
theorem q_flat {w : World} {base : Nat} {ok : Nat → Prop} {v : Value} {l : List S30} (h : k30.Q 30 w base ok v l) : (∀ k, v.ownBlock = some k → ok k) ∧ QRow w base 30 2 v l.length (flat l) := by
  obtain ⟨h0, inner, ho, hr⟩ := h
  have hr : Reps (k30.M w base (fun k => ok k ∧ some k ≠ v.ownBlock)) 2 l inner := hr
  have e := reps_flat (fun _ _ hp => k30_openM hp) hr
  subst e
  exact ⟨h0, ho⟩
theorem flat_q {w : World} {base : Nat} {ok : Nat → Prop} {v : Value} {l : List S30} (h0 : ∀ k, v.ownBlock = some k → ok k) (ho : QRow w base 30 2 v l.length (flat l)) : k30.Q 30 w base ok v l :=
  ⟨h0, flat l, ho, flat_reps (fun x => k30_mkM _ _ _ x) l⟩
/-- A queue's row that holds something: its block. -/
theorem q_blk {w : World} {base n c : Nat} {A : Option Addr} {l : List S30} (h : QRow w base 30 2 (.slice A n c) l.length (flat l)) (hn : 0 < l.length) :
    ∃ g off cur, A = some ⟨g, off * 2, none⟩ ∧ n = l.length ∧ base ≤ g ∧ w.heap[g]? = some (.cells cur 30 (0, 0)) ∧ n ≤ c ∧ off + c ≤ maxLen ∧ cur.size = (off + c) * 2 ∧ (cur.toList.drop (off * 2)).take (n * 2) = flat l := by
  rcases h.2 with ⟨h0, _⟩ | ⟨g, off, cap, cur, he, h1, h2, h3, h4, h5, h6⟩
  · omega
  · injection he with e1 e2 e3
    subst e1 e2 e3
    exact ⟨g, off, cur, rfl, rfl, h1, h2, h3, h4, h5, h6⟩
theorem cur_cell {w : World} {g off n : Nat} {cur : Array Value} {fl : List Value} (hg : w.heap[g]? = some (.cells cur 30 (0, 0))) (hf : (cur.toList.drop off).take n = fl) {j : Nat} {u : Value} (hj : fl[j]? = some u) : w.cell? ⟨g, off + j, none⟩ = some u := by
  rw [cell_of_row w g _ cur 30 (0, 0) hg]
  rw [← hf, List.getElem?_take] at hj
  split at hj
  · rw [List.getElem?_drop] at hj
    rw [← Array.getElem?_toList]
    exact hj
  · cases hj
theorem cur_some {w : World} {g : Nat} {cur : Array Value} (hg : w.heap[g]? = some (.cells cur 30 (0, 0))) {j : Nat} (hj : j < cur.size) : (w.cell? ⟨g, j, none⟩).isSome = true := by
  rw [cell_of_row w g _ cur 30 (0, 0) hg, Array.getElem?_eq_getElem hj]
  rfl
section
variable {P : Program}
/-- copy of elements of 'size' cells. -/
theorem run_copy_sz (w : World) (dT sT ty elem : TypeId) (b o dLen dCap : Nat) (a : Addr) (sLen sCap size cnt : Nat) (cs : List Value)
    (hu : P.underlying dT = some (.slice elem)) (hs : (P.info? elem).map (·.size) = some size) (hcnt : Nat.min sLen dLen = cnt) (hn : cs.length = cnt * size)
    (hsrc : ∀ j v, cs[j]? = some v → w.cell? (a.add j) = some v) (hc : ∀ j, j < cs.length → (w.cell? ⟨b, o + j, none⟩).isSome = true) (hf : ∀ j, j < cs.length → w.frozen? ⟨b, o + j, none⟩ = false) (h1 : ∀ v ∈ cs, v.oneCell' = true) :
    (Builtin.copy_ #[dT, sT] ty #[.slice (some ⟨b, o, none⟩) dLen dCap, .slice (some a) sLen sCap]).run P w = .ok (goInt cnt) (w.setCells b o cs) := by
  have hl := run_loadCells_list (P := P) w a cs hsrc
  have hst := run_storeCells_cells (P := P) b o cs 0 w (by simpa using hc) (by simpa using hf) h1
  cases hq : P.info? elem with
  | none => simp [hq] at hs
  | some i =>
    have hi : i.size = size := by simpa [hq] using hs
    simp [Builtin.copy_, run_underlying hu, Builtin.lenOf, Builtin.firstCells, sizeOf, typeInfo, hq, hi, hcnt, ← hn, hl, hst]
/-- clear of one element. -/
theorem run_clear_one (w : World) (t e ty : TypeId) (z : Value) (ht : P.underlying t = some (.slice e)) (hv : ∀ w, (zeroValue e).run P w = .ok z w) (h1 : ∀ u ∈ z.cells.toList, u.oneCell' = true) (b o c : Nat)
    (hc : ∀ j, j < z.cells.size → (w.cell? ⟨b, o + j, none⟩).isSome = true) (hf : ∀ j, j < z.cells.size → w.frozen? ⟨b, o + j, none⟩ = false) :
    (Builtin.clear_ #[t] ty #[.slice (some ⟨b, o, none⟩) 1 c]).run P w = .ok (.tuple #[]) (w.setCells b o z.cells.toList) := by
  have hzc : (Builtin.zeroCells z.cells 1).toList = z.cells.toList := by
    apply List.ext_getElem
    · simp [Builtin.zeroCells]
    · intro i h1 h2
      have h2' : i < z.cells.size := by simpa using h2
      simp [Builtin.zeroCells, Nat.mod_eq_of_lt h2', getElem!_pos z.cells i h2']
  have hst := run_storeCells_cells (P := P) b o z.cells.toList 0 w (by simpa using hc) (by simpa using hf) h1
  simp only [Nat.add_zero] at hst
  simp [Builtin.clear_, run_underlying ht, hv, hzc, hst]
end
end Go.Proofs.Yteneigadnabolaa.QAl
