/- Words for the laws: operations, their run, reading them; the contracts of the reference's functions over lists of pairs. -/
import Derived.Test.YteneigadnabolaaDoB
namespace Go.Proofs.Yteneigadnabolaa.QAl
open Go.RowKit Go.Proofs.YteneigadnabolaaW.PrintWords Go.Proofs.YteneigadnabolaaW.PrintLast Go.Proofs.YteneigadnabolaaW.PrintMore Go.Proofs.Yteneigadnabolaa.Sl
set_option linter.unusedVariables false
set_option linter.unusedSimpArgs false
variable {L : List Chunk}
structure S27 where
  f0 : Int
  f1 : Int
  f2 : Int
def z27 : S27 := ⟨0, 0, 0⟩
def k27 : Kd S27 := Kd.iso (Kd.pair (Kd.int .i64) (Kd.pair (Kd.int .i64) (Kd.int .i64))) (fun x : S27 => (x.f0, x.f1, x.f2))
theorem k27_open {w : World} {x : S27} {cs : List Value} (h : k27.K w x cs) : cs = [.int .i64 x.f0, .int .i64 x.f1, .int .i64 x.f2] := by
  obtain ⟨c0, c1, rfl, h0, c2, c3, rfl, h2, h3⟩ := h
  have h0 : c0 = [.int .i64 x.f0] := h0
  have h2 : c2 = [.int .i64 x.f1] := h2
  have h3 : c3 = [.int .i64 x.f2] := h3
  rw [h0, h2, h3]
  rfl
theorem op_at {w : World} {A : Option Addr} {n : Nat} {l : List S27} (h : k27.C w A n l) {j : Nat} (hj : j < n) : ∃ b o, A = some ⟨b, o, none⟩ ∧
    w.cell? ⟨b, o + j * 3, none⟩ = some (.int .i64 (l.getD j z27).f0) ∧ w.cell? ⟨b, o + j * 3 + 1, none⟩ = some (.int .i64 (l.getD j z27).f1) ∧ w.cell? ⟨b, o + j * 3 + 2, none⟩ = some (.int .i64 (l.getD j z27).f2) := by
  obtain ⟨b, o, cs, rfl, _, hK, hc⟩ := C_at z27 (by decide) h j hj
  obtain rfl := k27_open hK
  have e : k27.sz = 3 := rfl
  rw [e] at hc
  exact ⟨b, o, rfl, hc 0 _ rfl, hc 1 _ rfl, hc 2 _ rfl⟩
def stp (q : List Dq.It) (o : S27) : List Dq.It := stepQ q o.f0 (o.f1, o.f2)
def runQ (l : List S27) : List Dq.It := l.foldl stp []
theorem fold_stp : ∀ (l : List S27) (q : List Dq.It), Dq.Ok q → Dq.Ok (l.foldl stp q) ∧ (l.foldl stp q).length ≤ q.length + l.length
  | [], q, h => ⟨h, Nat.le_refl _⟩
  | o :: l, q, h => by
    have h1 := stepQ_ok h o.f0 (o.f1, o.f2)
    have ih := fold_stp l (stp q o) h1.1
    have h2 : (stp q o).length ≤ q.length + 1 := h1.2
    exact ⟨ih.1, by rw [List.length_cons, List.foldl_cons]; omega⟩
theorem runQ_ok (l : List S27) (j : Nat) (hl : l.length ≤ 60) : Dq.Ok (runQ (l.take j)) ∧ (runQ (l.take j)).length ≤ 60 := by
  have := fold_stp (l.take j) [] Dq.Ok.nil
  have h2 : (l.take j).length ≤ 60 := by rw [List.length_take]; omega
  exact ⟨this.1, by unfold runQ; simp only [List.length_nil, Nat.zero_add] at this; omega⟩
theorem runQ_succ (l : List S27) (j : Nat) (h : j < l.length) : runQ (l.take (j + 1)) = stp (runQ (l.take j)) (l.getD j z27) := by
  unfold runQ
  rw [List.take_succ_eq_append_getElem h, List.foldl_append, List.getD_eq_getElem?_getD, List.getElem?_eq_getElem h]
  rfl
/-- A row of one's own as a block. -/
theorem _root_.Go.Proofs.Yteneigadnabolaa.Sl.Mem.row_blk {α : Type} {d : Kd α} {e g n c : Nat} {xs : List α} {w0 w : World} (h : Mem w0 w (row w0 d e (.slice (some ⟨g, 0, none⟩) n c) xs :: L)) : ∃ cells, Mem w0 w (blk g cells e :: L) := by
  obtain ⟨hb, T, hr, h2, h3⟩ := h
  have hr : d.R e w w0.heap.size T (.slice (some ⟨g, 0, none⟩) n c) xs := hr
  have hT : T g := hr.1 g (by simp [Value.ownBlock])
  obtain ⟨_, inner, ho, _⟩ := hr
  obtain ⟨cells, hc⟩ := own_typed ho g (by simp [Value.ownBlock])
  exact ⟨cells, hb, T, ⟨hT, hc⟩, h2, h3⟩
/-- items, back, Same over what lies in memory. -/
theorem items_call {w0 W : World} {A : Option Addr} {n c : Nat} {q : List Dq.It} (hM : Mem w0 W L) (hC : k30.C W A n (q.map un)) (hn : n = q.length) (hc : n ≤ c) (hl : q.length < 1000000) :
    Calls Try.prog 19 #[.slice A n c] W fun e w' => ∃ A' c', e = .returned (.slice A' q.length c') ∧ Mem w0 w' (row w0 k36 36 (.slice A' q.length c') (q.map u36) :: L) := by
  obtain ⟨k, hk⟩ := (items_ev q hl).rounds
  subst hn
  have key := tricklelaw06_items.calls k A c (q.map un) _ W (by rw [List.length_map]; exact hC) (by rw [List.length_map]; exact hc) hk
  rw [List.length_map] at key
  refine key.mono ?_
  rintro e w' ⟨v, rfl, hR, hb⟩
  have h := hM.row_made hb hR
  obtain ⟨A', c', rfl, _, _⟩ := h.readsN (n := q.length) (by simp)
  exact ⟨A', c', rfl, h⟩
theorem back_call {w0 W : World} {A : Option Addr} {n c : Nat} {q : List Dq.It} (hM : Mem w0 W L) (hC : k36.C W A n (q.map u36)) (hn : n = q.length) (hc : n ≤ c) (hl : q.length < 1000000) :
    Calls Try.prog 27 #[.slice A n c] W fun e w' => ∃ A' c', e = .returned (.slice A' q.length c') ∧ Mem w0 w' (row w0 k30 30 (.slice A' q.length c') (q.map un) :: L) := by
  obtain ⟨k, hk⟩ := (back_ev q hl).rounds
  subst hn
  have key := tricklelaw06_back.calls k A c (q.map u36) _ W (by rw [List.length_map]; exact hC) (by rw [List.length_map]; exact hc) hk
  rw [List.length_map] at key
  refine key.mono ?_
  rintro e w' ⟨v, rfl, hR, hb⟩
  have h := hM.row_made hb hR
  obtain ⟨A', c', rfl, _, _⟩ := h.readsN (n := q.length) (by simp)
  exact ⟨A', c', rfl, h⟩
theorem same_call {W : World} {A B : Option Addr} {n c m d : Nat} {q : List Dq.It} (hA : k36.C W A n (q.map u36)) (hB : k36.C W B m (q.map u36)) (hn : n = q.length) (hm : m = q.length) (hc : n ≤ c) (hd : m ≤ d) (hl : q.length < 1000000) :
    Calls Try.prog 23 #[.slice A n c, .slice B m d] W fun e w' => e = .returned (.bool true) ∧ Below W.heap.size W w' := by
  obtain ⟨k, hk⟩ := (refSame_ev q hl).rounds
  subst hn
  subst hm
  have key := trickleref06_Same.calls k A c (q.map u36) B d (q.map u36) true W (by rw [List.length_map]; exact hA) (by rw [List.length_map]; exact hc) (by rw [List.length_map]; exact hB) (by rw [List.length_map]; exact hd) hk
  rw [List.length_map] at key
  exact key.mono fun e w' ⟨he, hd⟩ => ⟨he, hd.below⟩
theorem items_of {w0 W : World} {g : Nat} {v : Value} {q : List Dq.It} (hM : Mem w0 W (que w0 g v (q.map un) L)) (hl : q.length ≤ 1000) :
    Calls Try.prog 24 #[.pointer (some ⟨g, 0, none⟩)] W fun e w' => ∃ A c, e = .returned (.slice A q.length c) ∧ q.length ≤ c ∧ k30.C w' A q.length (q.map un) ∧ Mem w0 w' (row w0 k30 30 (.slice A q.length c) (q.map un) :: que w0 g v (q.map un) L) := by
  refine (Items_call hM (by rw [List.length_map]; exact hl)).mono ?_
  rintro e w' ⟨v', rfl, h⟩
  obtain ⟨A, c, rfl, hc, hC⟩ := h.readsN (n := q.length) (by simp)
  exact ⟨A, c, rfl, hc, hC, h⟩
end Go.Proofs.Yteneigadnabolaa.QAl
