/- A piece of memory that is a queue's row: a row whose front may have been cut off (the print's Kd.Q). -/
import Derived.Test.YteneigadnabolaaSl
namespace Go.Proofs.Yteneigadnabolaa.Sl
open Go.RowKit Go.Proofs.YteneigadnabolaaW.PrintWords
variable {w0 w w' : World} {L : List Chunk}
/-- A row of the call's own, its front perhaps cut off. -/
def qrow {α : Type} (w0 : World) (d : Kd α) (e : Nat) (v : Value) (xs : List α) : Chunk where
  P := fun w S => d.Q e w w0.heap.size S v xs
  mono := fun h hp => Kd.Q_mono hp h
  bound := fun hp => Kd.Q_mono (Kd.Q_bound hp) (fun _ hk => ⟨hk.1, hk.2.2.1⟩)
  move := fun h hp => Kd.Q_move hp h
theorem Mem.toQ {α : Type} {d : Kd α} {e : Nat} {v : Value} {xs : List α} (h : Mem w0 w (row w0 d e v xs :: L)) : Mem w0 w (qrow w0 d e v xs :: L) := by
  obtain ⟨hb, T, h1, h2⟩ := h
  exact ⟨hb, T, Kd.Q_of_R h1, h2⟩
theorem Mem.q_nil {α : Type} (d : Kd α) (e : Nat) (h : Mem w0 w L) : Mem w0 w (qrow w0 d e (.slice none 0 0) [] :: L) := (h.row_nil d e).toQ
theorem Mem.q_made {α : Type} {d : Kd α} {e : Nat} {v : Value} {xs : List α} {ok : Nat → Prop} (h : Mem w0 w L) (hb : Below w.heap.size w w') (hr : d.Q e w' w.heap.size ok v xs) : Mem w0 w' (qrow w0 d e v xs :: L) :=
  h.made hb (Kd.Q_lower (Kd.Q_mono (Kd.Q_bound hr) (fun _ hk => hk.2.1)) h.size)
theorem Mem.q_reads {α : Type} {d : Kd α} {e : Nat} {v : Value} {xs : List α} (h : Mem w0 w (qrow w0 d e v xs :: L)) : ∃ A c, v = .slice A xs.length c ∧ xs.length ≤ c ∧ d.C w A xs.length xs := by
  obtain ⟨hb, T, h1, _⟩ := h
  exact Kd.Q_reads h1
/-- Pop's cut. -/
theorem Mem.q_drop {α : Type} {d : Kd α} {e : Nat} {A : Option Addr} {k n c : Nat} {xs : List α} (h : Mem w0 w (qrow w0 d e (.slice A n c) xs :: L)) (hk : k ≤ xs.length) :
    Mem w0 w (qrow w0 d e (.slice (if c = k then A else A.map (·.add (k * d.sz))) (n - k) (c - k)) (xs.drop k) :: L) := by
  obtain ⟨hb, T, h1, h2⟩ := h
  exact ⟨hb, T, Kd.Q_drop h1 hk, h2⟩
theorem Mem.q_take {α : Type} {d : Kd α} {e : Nat} {A : Option Addr} {m n c : Nat} {xs : List α} (h : Mem w0 w (qrow w0 d e (.slice A n c) xs :: L)) (hm : m ≤ xs.length) :
    Mem w0 w (qrow w0 d e (.slice A m c) (xs.take m) :: L) := by
  obtain ⟨hb, T, h1, h2⟩ := h
  exact ⟨hb, T, Kd.Q_take h1 hm, h2⟩
section
variable {P : Program} {ops : Array Oper} {rest : List Oper} {o : Oper} {a : Act} {Q : Exit → Act → World → Prop} {α : Type}
/-- append(v, ys...) of elements that hold no memory of their own, behind 'at_builtin'. -/
theorem Mem.wp_append_rows (d : Kd α) {W : World} (hgd : o.guard = none) (s x : Operand) (t e : TypeId) (z : Value) (bytes : Nat)
    (ho : o.op = .call { callee := .builtin .append, args := #[s, x], argTypes := #[t, t] })
    (ht : P.underlying t = some (.slice e)) (hinfo : (P.info? e).map (fun i => (i.zero, i.size, i.bytes)) = some (some z, d.sz, bytes)) (hz : z.cells.size = d.sz) (hs0 : 0 < d.sz) (hb0 : 0 < bytes)
    (v : Value) (xs ys : List α) (A : Option Addr) (m c : Nat) (hs : a.eval s = v) (hx : a.eval x = .slice A m c) (HR : d.C W A m ys) (hKM : ∀ x cs, d.K W x cs → d.M W w0.heap.size (fun _ => False) x cs)
    (HM : Mem w0 W (row w0 d e v xs :: L)) (hl : (xs.length + m) * bytes ≤ 140737488355328)
    (h : ∀ v1 w1, Mem w0 w1 (row w0 d e v1 (xs ++ ys) :: L) → wpList P ops Q rest (a.put o.dst v1) w1) :
    wpList P ops Q (o :: rest) a W := by
  have hB := HM.below
  obtain ⟨T, hr, h2, h3⟩ := HM.front
  have hr : d.R e W w0.heap.size T v xs := hr
  refine Kd.R_append_rows d (w0 := w0) w0.heap.size hgd s x t e z bytes ho ht hinfo hz hs0 hb0 v xs ys A m c (fun k => T k ∨ W.heap.size ≤ k) (fun _ => False) hs hx (Kd.R_mono hr (fun _ hk => .inl hk)) HR hKM (fun _ h => h.elim) (fun _ hk => .inr hk) hB hB.size hl ?_
  intro v1 w1 hR hB1 hg hat
  exact h v1 w1 (h3 w1 (row w0 d e v1 (xs ++ ys)) hB1 ⟨hg.size, fun i hi hn => hg.block i hi (fun e => hn (hr.1 i e.symm))⟩ hR)
end
end Go.Proofs.Yteneigadnabolaa.Sl
