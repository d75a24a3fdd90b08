/- What this claim needs of Sl. Parted by prune.py. -/
import Derived.Test.YtleafbihfmiidaaDoorZ5W
namespace Go.Proofs.YtleafbihfmiidaaDoor.Sl
open Go.RowKit Go.Proofs.YtleafbihfmiidaaDoorW.PrintWords
set_option linter.unusedVariables false
/-- What lies in some blocks S. -/
structure Chunk where
  P : World → (Nat → Prop) → Prop
  mono : ∀ {w : World} {S S' : Nat → Prop}, (∀ k, S k → S' k) → P w S → P w S'
  bound : ∀ {w : World} {S : Nat → Prop}, P w S → P w (fun k => S k ∧ k < w.heap.size)
  move : ∀ {w w' : World} {S : Nat → Prop}, (∀ k, S k → w'.heap[k]? = w.heap[k]?) → P w S → P w' S
/-- A block that is known whole. -/
def ob (g : Nat) (o : Obj) : Chunk where
  P := fun w S => S g ∧ w.heap[g]? = some o
  mono := fun h hp => ⟨h _ hp.1, hp.2⟩
  bound := fun hp => ⟨⟨hp.1, blk_lt hp.2⟩, hp.2⟩
  move := fun h hp => ⟨hp.1, (h _ hp.1).trans hp.2⟩
@[reducible] def blk (g : Nat) (cs : Array Value) (t : TypeId) : Chunk := ob g (.cells cs t (0, 0))
/-- A row of elements of the call's own. -/
def row {α : Type} (w0 : World) (d : Kd α) (e : Nat) (v : Value) (xs : List α) : Chunk where
  P := fun w S => d.R e w w0.heap.size S v xs
  mono := fun h hp => Kd.R_mono hp h
  bound := fun hp => Kd.R_mono (Kd.R_bound hp) (fun _ hk => ⟨hk.1, hk.2.2.1⟩)
  move := fun h hp => Kd.R_move hp h
/-- The pieces lie apart, from block 'base' on, in S. -/
def Sep (base : Nat) (w : World) : List Chunk → (Nat → Prop) → Prop
  | [], _ => True
  | c :: L, S => ∃ T : Nat → Prop, c.P w T ∧ (∀ k, T k → S k ∧ base ≤ k ∧ k < w.heap.size) ∧ Sep base w L (fun k => S k ∧ ¬ T k)
theorem Sep.mono {base : Nat} {w : World} : ∀ {L : List Chunk} {S S' : Nat → Prop}, (∀ k, S k → S' k) → Sep base w L S → Sep base w L S'
  | [], _, _, _, _ => trivial
  | _ :: _, _, _, h, ⟨T, h1, h2, h3⟩ => ⟨T, h1, fun k hk => ⟨h k (h2 k hk).1, (h2 k hk).2⟩, Sep.mono (fun k hk => ⟨h k hk.1, hk.2⟩) h3⟩
theorem Sep.step {base : Nat} {w w' : World} (hs : w.heap.size ≤ w'.heap.size) : ∀ {L : List Chunk} {S : Nat → Prop}, (∀ k, S k → base ≤ k → k < w.heap.size → w'.heap[k]? = w.heap[k]?) → Sep base w L S → Sep base w' L S
  | [], _, _, _ => trivial
  | c :: _, _, h, ⟨T, h1, h2, h3⟩ => ⟨T, c.move (fun k hk => h k (h2 k hk).1 (h2 k hk).2.1 (h2 k hk).2.2) h1, fun k hk => ⟨(h2 k hk).1, (h2 k hk).2.1, Nat.lt_of_lt_of_le (h2 k hk).2.2 hs⟩,
      Sep.step hs (fun k hk => h k hk.1) h3⟩
theorem Sep.lt {base : Nat} {w : World} : ∀ {L : List Chunk} {S : Nat → Prop}, Sep base w L S → Sep base w L (fun k => S k ∧ base ≤ k ∧ k < w.heap.size)
  | [], _, _ => trivial
  | _ :: _, _, ⟨T, h1, h2, h3⟩ => ⟨T, h1, fun k hk => ⟨h2 k hk, (h2 k hk).2⟩, Sep.mono (fun k hk => ⟨⟨hk.1.1, hk.2⟩, hk.1.2⟩) (Sep.lt h3)⟩
theorem Sep.perm {base : Nat} {w : World} {L L' : List Chunk} (h : L.Perm L') : ∀ {S : Nat → Prop}, Sep base w L S → Sep base w L' S := by
  induction h with
  | nil => exact fun h => h
  | cons x _ ih => exact fun ⟨T, h1, h2, h3⟩ => ⟨T, h1, h2, ih h3⟩
  | swap x y l =>
    intro S ⟨T, h1, h2, U, h4, h5, h6⟩
    exact ⟨U, h4, fun k hk => ⟨(h5 k hk).1.1, (h5 k hk).2⟩, T, h1, fun k hk => ⟨⟨(h2 k hk).1, fun hu => (h5 k hu).1.2 hk⟩, (h2 k hk).2⟩, Sep.mono (fun k hk => ⟨⟨hk.1.1, hk.2⟩, hk.1.2⟩) h6⟩
  | trans _ _ ih1 ih2 => exact fun h => ih2 (ih1 h)
/-- What the call has made since w0 lies in the pieces L; what was there at w0 is as it was. -/
structure Mem (w0 w : World) (L : List Chunk) : Prop where
  below : Below w0.heap.size w0 w
  sep : Sep w0.heap.size w L (fun _ => True)
section
variable {w0 w w' : World} {L L' : List Chunk} {a b c d : Chunk}
theorem Mem.start (w : World) : Mem w w [] := ⟨Below.refl _ _, trivial⟩
theorem Mem.perm (h : Mem w0 w L) (hp : L.Perm L') : Mem w0 w L' := ⟨h.below, h.sep.perm hp⟩
theorem Mem.p1 (h : Mem w0 w (a :: b :: L)) : Mem w0 w (b :: a :: L) := h.perm (List.Perm.swap _ _ _)
theorem Mem.p3 (h : Mem w0 w (a :: b :: c :: d :: L)) : Mem w0 w (d :: a :: b :: c :: L) := h.perm (List.perm_middle (l₁ := [a, b, c]))
theorem Mem.q3 (h : Mem w0 w (d :: a :: b :: c :: L)) : Mem w0 w (a :: b :: c :: d :: L) := h.perm (List.perm_middle (l₁ := [a, b, c])).symm
theorem Mem.c4 (h : Mem w0 w (a :: b :: c :: d :: L)) : Mem w0 w (L ++ [a, b, c, d]) := h.perm (List.perm_append_comm (l₁ := [a, b, c, d]))
theorem Mem.u4 (h : Mem w0 w (L ++ [a, b, c, d])) : Mem w0 w (a :: b :: c :: d :: L) := h.perm (List.perm_append_comm (l₂ := [a, b, c, d]))
theorem Mem.drop (h : Mem w0 w (a :: L)) : Mem w0 w L := by
  obtain ⟨hb, T, h1, h2, h3⟩ := h
  exact ⟨hb, h3.mono (fun _ _ => trivial)⟩
theorem Mem.size (h : Mem w0 w L) : w0.heap.size ≤ w.heap.size := h.below.size
/-- Nothing that was there has turned. -/
theorem Mem.step (h : Mem w0 w L) (hb : Below w.heap.size w w') : Mem w0 w' L :=
  ⟨below_step h.below hb, h.sep.step hb.size (fun k _ _ hk => hb.block k hk)⟩
theorem Mem.drew (h : Mem w0 w L) : Mem w0 w.drew L := h.step (below_drew (Below.refl _ _))
theorem Mem.drewN (h : Mem w0 w L) (n : Nat) : Mem w0 (w.drewN n) L := h.step (pw_below_drewN (Below.refl _ _) n)
/-- Behind a call that makes something. -/
theorem Mem.made (h : Mem w0 w L) (hb : Below w.heap.size w w') (hc : c.P w' (fun k => w.heap.size ≤ k)) : Mem w0 w' (c :: L) := by
  refine ⟨below_step h.below hb, fun k => w.heap.size ≤ k ∧ k < w'.heap.size, c.bound hc, fun k hk => ⟨trivial, Nat.le_trans h.size hk.1, hk.2⟩, ?_⟩
  exact (h.sep.lt.step hb.size (fun k _ _ hk => hb.block k hk)).mono (fun k hk => ⟨trivial, fun hn => by have := hk.2.2; omega⟩)
theorem Mem.new (h : Mem w0 w L) (o : Obj) : Mem w0 (w.alloc o) (ob w.heap.size o :: L) :=
  h.made (below_alloc (Below.refl _ _) o) ⟨Nat.le_refl _, blk_new w o⟩
theorem Mem.new_ {g : Nat} (h : Mem w0 w L) (o : Obj) (hg : w.heap.size = g) : Mem w0 (w.alloc o) (ob g o :: L) := by subst hg; exact h.new o
theorem Mem.row_made {α : Type} {d : Kd α} {e : Nat} {v : Value} {xs : List α} {ok : Nat → Prop} (h : Mem w0 w L) (hb : Below w.heap.size w w') (hr : d.R e w' w.heap.size ok v xs) : Mem w0 w' (row w0 d e v xs :: L) :=
  h.made hb (Kd.R_lower (Kd.R_mono (Kd.R_bound hr) (fun _ hk => hk.2.1)) h.size)
/-- An empty row takes no room. -/
theorem Mem.row_nil {α : Type} (d : Kd α) (e : Nat) (h : Mem w0 w L) : Mem w0 w (row w0 d e (.slice none 0 0) [] :: L) :=
  h.row_made (Below.refl _ _) (Kd.R_nil d e w w.heap.size (fun _ => True))
/-- '[]T{}'. -/
theorem Mem.row_empty {α : Type} (d : Kd α) (e : Nat) (h : Mem w0 w L) : Mem w0 (w.alloc (.cells #[] e)) (row w0 d e (.slice (some ⟨w.heap.size, 0, none⟩) 0 0) [] :: L) := by
  refine h.row_made (ok := fun _ => True) (below_alloc (Below.refl _ _) _) ⟨fun _ _ => trivial, [], ?_, Reps.none _ _⟩
  have h2 := World.ownsRow_lit (base := w.heap.size) (e := e) (size := d.sz) w #[] 0 (Nat.le_refl _) (by simp [maxLen]) (by simp)
  simpa using h2
/-- The first piece is turned into another by a step that touches it alone. -/
theorem Mem.front (h : Mem w0 w (c :: L)) : ∃ T : Nat → Prop, c.P w T ∧ (∀ k, T k → w0.heap.size ≤ k ∧ k < w.heap.size) ∧
    ∀ (w' : World) (c' : Chunk), Below w0.heap.size w0 w' → Kept w w' T → c'.P w' (fun k => T k ∨ w.heap.size ≤ k) → Mem w0 w' (c' :: L) := by
  obtain ⟨hb, T, h1, h2, h3⟩ := h
  refine ⟨T, h1, fun k hk => (h2 k hk).2, fun w' c' hb' hk hc' => ⟨hb', fun k => (T k ∨ w.heap.size ≤ k) ∧ k < w'.heap.size, c'.bound hc', fun k hk' => ⟨trivial, ?_, hk'.2⟩, ?_⟩⟩
  · rcases hk'.1 with h | h
    · exact (h2 k h).2.1
    · exact Nat.le_trans hb.size h
  · exact (h3.lt.step hk.1 (fun k hs _ hlt => hk.2 k hlt hs.1.2)).mono (fun k hk' => ⟨trivial, fun hn => hn.1.elim hk'.1.2 (fun h => by have := hk'.2.2; omega)⟩)
theorem Mem.get {g : Nat} {o : Obj} (h : Mem w0 w (ob g o :: L)) : w.heap[g]? = some o := by
  obtain ⟨hb, T, h1, _⟩ := h
  exact h1.2
theorem Mem.ge {g : Nat} {o : Obj} (h : Mem w0 w (ob g o :: L)) : w0.heap.size ≤ g := by
  obtain ⟨hb, T, h1, h2, _⟩ := h
  exact (h2 g h1.1).2.1
theorem Mem.lt {g : Nat} {o : Obj} (h : Mem w0 w (ob g o :: L)) : g < w.heap.size := blk_lt h.get
theorem Mem.ne {g g' : Nat} {o o' : Obj} (h : Mem w0 w (ob g o :: ob g' o' :: L)) : g ≠ g' := by
  obtain ⟨hb, T, h1, h2, U, h4, h5, h6⟩ := h
  rintro rfl
  exact (h5 g h4.1).1.2 h1.1
/-- Writing into the first piece, a block. -/
theorem Mem.put {g t : Nat} {cs cs' : Array Value} (h : Mem w0 w (blk g cs t :: L)) (i : Nat) (u : Value) (e : cs.setIfInBounds i u = cs') : Mem w0 (w.setCell ⟨g, i, none⟩ u) (blk g cs' t :: L) := by
  have hg := h.ge
  have hw := h.get
  obtain ⟨T, h1, h2, h3⟩ := h.front
  refine h3 _ _ (below_set h.below hg) (Kept.setCell (Kept.refl w T) (.inl h1.1) u) ⟨.inl h1.1, blk_put hw i u e⟩
/-- What a row's cells read. -/
theorem Mem.reads {α : Type} {d : Kd α} {e : Nat} {v : Value} {xs : List α} (h : Mem w0 w (row w0 d e v xs :: L)) : ∃ A c, v = .slice A xs.length c ∧ xs.length ≤ c ∧ d.C w A xs.length xs := by
  obtain ⟨hb, T, h1, _⟩ := h
  exact Kd.R_reads h1
theorem Mem.readsC {α : Type} {d : Kd α} {e n c : Nat} {A : Option Addr} {xs : List α} (h : Mem w0 w (row w0 d e (.slice A n c) xs :: L)) : n = xs.length ∧ xs.length ≤ c ∧ d.C w A xs.length xs := by
  obtain ⟨A', c', e', h1, h2⟩ := h.reads
  injection e' with e1 e2 e3
  subst e1 e2 e3
  exact ⟨rfl, h1, h2⟩
theorem Mem.readsN {α : Type} {d : Kd α} {e : Nat} {v : Value} {xs : List α} (h : Mem w0 w (row w0 d e v xs :: L)) {n : Nat} (hn : xs.length = n) : ∃ A c, v = .slice A n c ∧ n ≤ c ∧ d.C w A n xs := by
  subst hn
  exact h.reads
/-- The cells of an element of a row. -/
theorem Mem.row_cells {α : Type} {d : Kd α} {e g n c : Nat} {xs : List α} (z : α) (h : Mem w0 w (row w0 d e (.slice (some ⟨g, 0, none⟩) n c) xs :: L)) (i : Nat) (hi : i < xs.length) :
    ∃ cs, cs.length = d.sz ∧ d.K w (xs.getD i z) cs ∧ ∀ j u, cs[j]? = some u → w.cell? ⟨g, i * d.sz + j, none⟩ = some u := by
  obtain ⟨e1, h1, h2⟩ := h.readsC
  subst e1
  obtain ⟨ad, cs, e2, h3, h4, h5⟩ := Kd.C_get h2 z (i : Int) (by omega) (by omega)
  injection e2 with e2
  subst e2
  rw [Int.toNat_natCast] at h4
  refine ⟨cs, h3, h4, fun j u hj => ?_⟩
  have := h5 j u hj
  rw [Int.toNat_natCast, add_plain] at this
  exact this
/-- What came in reads as ever. -/
theorem Mem.came {α : Type} {d : Kd α} {n : Nat} {A : Option Addr} {xs : List α} (h : Mem w0 w L) (hc : d.C w0 A n xs) : d.C w A n xs := Kd.C_below hc h.below
theorem Mem.row_form {α : Type} {d : Kd α} {e : Nat} {v : Value} {xs : List α} (h : Mem w0 w (row w0 d e v xs :: L)) (hn : 0 < xs.length) : ∃ g cap, v = .slice (some ⟨g, 0, none⟩) xs.length cap ∧ xs.length ≤ cap := by
  obtain ⟨hb, T, h1, _⟩ := h
  have h1 : d.R e w w0.heap.size T v xs := h1
  obtain ⟨A, c, e1, hl, _⟩ := Kd.R_reads h1
  obtain ⟨_, inner, ho, _⟩ := h1
  obtain ⟨g, cap, rfl, _⟩ := ho.form hn
  injection e1 with _ _ e3
  subst e3
  exact ⟨g, cap, rfl, hl⟩
/-- An element of a row of plain values: read, not frozen, written. -/
theorem Mem.row_cell {α : Type} {enc : α → Value} {h1 : ∀ x, (enc x).oneCell' = true} {e g n c : Nat} {xs : List α} (z : α) (h : Mem w0 w (row w0 (Kd.scalar enc h1) e (.slice (some ⟨g, 0, none⟩) n c) xs :: L)) (i : Nat) (hi : i < xs.length) :
    w.cell? ⟨g, i, none⟩ = some (enc (xs.getD i z)) ∧ w.frozen? ⟨g, i, none⟩ = false := by
  obtain ⟨e1, _, _⟩ := h.readsC
  subst e1
  obtain ⟨hb, T, hr, _⟩ := h
  have := Kd.R_cell z (show (Kd.scalar enc h1).R e w w0.heap.size T (.slice (some ⟨g, 0, none⟩) xs.length c) xs from hr) (i : Int) (by omega) (by omega)
  rw [Int.toNat_natCast] at this
  refine ⟨?_, this.2⟩
  rw [this.1]
  simp [rdOf]
theorem Mem.row_put {α : Type} {enc : α → Value} {h1 : ∀ x, (enc x).oneCell' = true} {e g n c : Nat} {xs : List α} (h : Mem w0 w (row w0 (Kd.scalar enc h1) e (.slice (some ⟨g, 0, none⟩) n c) xs :: L)) (i : Nat) (x : α) :
    Mem w0 (w.setCell ⟨g, i, none⟩ (enc x)) (row w0 (Kd.scalar enc h1) e (.slice (some ⟨g, 0, none⟩) n c) (xs.set i x) :: L) := by
  have hb := h.below
  obtain ⟨T, hr, h2, h3⟩ := h.front
  have hr : (Kd.scalar enc h1).R e w w0.heap.size T (.slice (some ⟨g, 0, none⟩) n c) xs := hr
  have hT : T g := hr.1 g (by simp [Value.ownBlock])
  have hp := Kd.R_putn hr (i : Int) x
  rw [Int.toNat_natCast] at hp
  exact h3 _ _ (below_set hb (h2 g hT).1) (Kept.setCell (Kept.refl w T) (.inl hT) _) (Kd.R_mono hp (fun _ hk => .inl hk))
end
/-- Where an element of a row that is read lies. -/
theorem C_at {α : Type} {d : Kd α} {w : World} {A : Option Addr} {n : Nat} {xs : List α} (z : α) (hd : 0 < d.sz) (h : d.C w A n xs) (i : Nat) (hi : i < n) :
    ∃ b o cs, A = some ⟨b, o, none⟩ ∧ cs.length = d.sz ∧ d.K w (xs.getD i z) cs ∧ ∀ j u, cs[j]? = some u → w.cell? ⟨b, o + i * d.sz + j, none⟩ = some u := by
  obtain ⟨ad, cs, e2, h3, h4, h5⟩ := Kd.C_get h z (i : Int) (by omega) (by omega)
  obtain ⟨ad', cs', e2', h3', _, h5'⟩ := Kd.C_get h z 0 (by omega) (by omega)
  rw [e2] at e2'
  injection e2' with e2'
  subst e2'
  rw [Int.toNat_natCast] at h4 h5
  obtain ⟨b, o, sp⟩ := ad
  have h0 := h5' 0 (cs'[0]'(by omega)) (List.getElem?_eq_getElem (by omega))
  have hsp : sp = none := by
    cases sp with
    | none => rfl
    | some s =>
      exfalso
      simp [World.cell?, Addr.add] at h0
      split at h0 <;> simp_all
  subst hsp
  refine ⟨b, o, cs, e2, h3, h4, fun j u hj => ?_⟩
  have := h5 j u hj
  have e : (⟨b, o, none⟩ : Addr).add (i * d.sz + j) = ⟨b, o + i * d.sz + j, none⟩ := by
    unfold Addr.add
    simp [Nat.add_assoc]
  rwa [e] at this
section
variable {P : Program} {ops : Array Oper} {rest : List Oper} {o : Oper} {a : Act} {Q : Exit → Act → World → Prop} {α : Type} {L : List Chunk}
/-- append(v, x), behind 'at_builtin': x's cells are cs, in the box that the call has just made. -/
theorem Mem.wp_append (d : Kd α) {w0 W : World} (hgd : o.guard = none) (s x : Operand) (t e : TypeId) (z : Value) (bytes : Nat)
    (ho : o.op = .call { callee := .builtin .append, args := #[s, x], argTypes := #[t, t] })
    (ht : P.underlying t = some (.slice e)) (hinfo : (P.info? e).map (fun i => (i.zero, i.size, i.bytes)) = some (some z, d.sz, bytes)) (hz : z.cells.size = d.sz) (hs0 : 0 < d.sz) (hb0 : 0 < bytes)
    (v : Value) (xs : List α) (p : α) (cs : List Value) (hs : a.eval s = v) (N : Nat) (hx : a.eval x = .slice (some ⟨N, 0, none⟩) 1 1) (hN : N = W.heap.size) (hp : d.M W w0.heap.size (fun _ => False) p cs)
    (HM : Mem w0 W (row w0 d e v xs :: L)) (hl : (xs.length + 1) * bytes ≤ 140737488355328)
    (h : ∀ v1 w1, Mem w0 w1 (row w0 d e v1 (xs ++ [p]) :: L) → wpList P ops Q rest (a.put o.dst v1) w1) :
    wpList P ops Q (o :: rest) a (W.alloc (.cells cs.toArray e)) := by
  subst hN
  have hB := HM.below
  obtain ⟨T, hr, h2, h3⟩ := HM.front
  have hr : d.R e W w0.heap.size T v xs := hr
  refine Kd.R_append d (w0 := w0) w0.heap.size hgd s x t e z bytes ho ht hinfo hz hs0 hb0 v xs p cs (fun k => T k ∨ W.heap.size ≤ k) (fun _ => False) hs hx hp (fun _ hk => hk.elim) (fun _ hk => .inr hk) (Kd.R_mono hr (fun _ hk => .inl hk)) hB hB.size hl ?_
  intro v1 w1 hR hB1 hg hat
  exact h v1 w1 (h3 w1 (row w0 d e v1 (xs ++ [p])) hB1 ⟨hg.size, fun i hi hn => hg.block i hi (fun e => hn (hr.1 i e.symm))⟩ hR)
/-- append(v, ys...) of whole numbers, behind 'at_builtin'. -/
theorem Mem.wp_append_ints (k : IntKind) {w0 W : World} (hgd : o.guard = none) (s x : Operand) (t e : TypeId) (bytes : Nat)
    (ho : o.op = .call { callee := .builtin .append, args := #[s, x], argTypes := #[t, t] })
    (ht : P.underlying t = some (.slice e)) (hinfo : (P.info? e).map (fun i => (i.zero, i.size, i.bytes)) = some (some (.int k 0), 1, bytes)) (hb0 : 0 < bytes)
    (v : Value) (xs ys : List Int) (A : Option Addr) (m c : Nat) (hs : a.eval s = v) (hx : a.eval x = .slice A m c) (HR : Kd.C (Kd.int k) W A m ys)
    (HM : Mem w0 W (row w0 (Kd.int k) e v xs :: L)) (hl : (xs.length + m) * bytes ≤ 140737488355328)
    (h : ∀ v1 w1, Mem w0 w1 (row w0 (Kd.int k) e v1 (xs ++ ys) :: L) → wpList P ops Q rest (a.put o.dst v1) w1) :
    wpList P ops Q (o :: rest) a W := by
  have hB := HM.below
  obtain ⟨T, hr, h2, h3⟩ := HM.front
  have hr : (Kd.int k).R e W w0.heap.size T v xs := hr
  refine Kd.R_append_rows (Kd.int k) (w0 := w0) w0.heap.size hgd s x t e (.int k 0) bytes ho ht hinfo rfl Nat.one_pos hb0 v xs ys A m c (fun k => T k ∨ W.heap.size ≤ k) (fun _ => False) hs hx (Kd.R_mono hr (fun _ hk => .inl hk)) HR (fun _ _ h => h) (fun _ h => h.elim) (fun _ hk => .inr hk) hB hB.size hl ?_
  intro v1 w1 hR hB1 hg hat
  exact h v1 w1 (h3 w1 (row w0 (Kd.int k) e v1 (xs ++ ys)) hB1 ⟨hg.size, fun i hi hn => hg.block i hi (fun e => hn (hr.1 i e.symm))⟩ hR)
end
end Go.Proofs.YtleafbihfmiidaaDoor.Sl
