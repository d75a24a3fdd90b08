/- Maps of the call's own, from whole numbers of 64 bits: a piece of memory, look-up, store. -/
import Derived.Test.YteneigadnabolaaSl
import Derived.Maps.Own
import Derived.Maps.Views
namespace Go.Proofs.Yteneigadnabolaa.Sl
open Go.RowKit Go.Maps Go.Proofs.YteneigadnabolaaW.PrintWords
set_option linter.unusedVariables false
variable {w0 w w' W : World} {L : List Chunk}
/-- Elements of a plain type: how they lie and how they read. -/
structure Elt (P : Program) (e : TypeId) (α : Type) where
  val : α → Value
  dat : α → DataW Unit
  inj : ∀ a b, dat a = dat b → a = b
  reads : ∀ v z, plainElem (H := Unit) P e v = some z → ∃ a, v = val a ∧ z = (dat a, [])
def Elt.int {P : Program} {e : TypeId} {q : IntKind} (he : P.underlying e = some (.int q)) : Elt P e Int where
  val := .int q
  dat := fun a => .lit (.int q a)
  inj := fun a b h => by injection h with h; injection h
  reads := fun v z h => by
    obtain ⟨a, h1, h2, _⟩ := plainElem_int_inv he h
    exact ⟨a, h1, h2⟩
def Elt.bool {P : Program} {e : TypeId} (he : P.underlying e = some .bool) : Elt P e Bool where
  val := .bool
  dat := fun a => .lit (.bool a)
  inj := fun a b h => by injection h with h; injection h
  reads := fun v z h => by
    unfold plainElem at h
    rw [he] at h
    cases v <;> simp at h
    rename_i x
    exact ⟨x, rfl, h.symm⟩
/-- The map in block g, of at most n entries: at x lies f x. -/
def mpc {P : Program} {e : TypeId} {α : Type} (k : TypeId) (E : Elt P e α) (z : α) (g n : Nat) (f : Int → α) : Chunk where
  P := fun w S => S g ∧ ∃ D : DataW Unit, w.ownsMap P k (plainElem P e) g n D ∧ ∀ x, D.atKey (.int .i64 x) (E.dat z) = E.dat (f x)
  mono := fun h hp => ⟨h _ hp.1, hp.2⟩
  bound := fun hp => ⟨⟨hp.1, by obtain ⟨D, h, _⟩ := hp.2; exact h.lt⟩, hp.2⟩
  move := fun h hp => by
    obtain ⟨h1, D, ⟨es, clock, hb, r⟩, h3⟩ := hp
    exact ⟨h1, D, ⟨es, clock, (h _ h1).trans hb, r⟩, h3⟩
section
variable {P : Program} {e : TypeId} {α : Type} {k : TypeId} {E : Elt P e α} {z : α} {g n : Nat} {f : Int → α}
theorem Mem.map_new (h : Mem w0 w L) (k : TypeId) (E : Elt P e α) (z : α) : Mem w0 (w.alloc (.map #[] 0)) (mpc k E z w.heap.size 0 (fun _ => z) :: L) :=
  h.made (below_alloc (Below.refl _ _) _) ⟨Nat.le_refl _, .map [], World.ownsMap_made w P k _, fun x => rfl⟩
theorem Mem.map_new_ {g : Nat} (h : Mem w0 w L) (k : TypeId) (E : Elt P e α) (z : α) (hg : w.heap.size = g) : Mem w0 (w.alloc (.map #[] 0)) (mpc k E z g 0 (fun _ => z) :: L) := by subst hg; exact h.map_new k E z
theorem Mem.map_lt (h : Mem w0 w (mpc k E z g n f :: L)) : g < w.heap.size := by
  obtain ⟨_, T, ⟨_, D, ho, _⟩, _⟩ := h
  exact ho.lt
theorem Mem.map_look (h : Mem w0 w (mpc k E z g n f :: L)) {t : TypeId} (K : Keyed P k) (ht : P.underlying t = some (.map k e)) (hz : (zeroValue e).run P w = .ok (E.val z) w) (hzr : plainElem (H := Unit) P e (E.val z) = some (E.dat z, []))
    (hk : P.underlying k = some (.int .i64)) (x : Int) (hx : (Lit.int .i64 x).wf = true) : (Instr.lookup t (.map (some g)) (.int .i64 x) false).run P w = .ok (E.val (f x)) w := by
  obtain ⟨_, T, ⟨_, D, ho, hD⟩, _⟩ := h
  obtain ⟨v, ps, hr, hv⟩ := ho.lookup K ht hz hzr (keyOf_int_mk hk hx)
  obtain ⟨a, rfl, ha⟩ := E.reads _ _ hv
  have : E.dat a = E.dat (f x) := by rw [← hD x]; exact (Prod.mk.inj ha).1.symm
  rw [E.inj _ _ this] at hr
  exact hr
theorem ownsMap_isMap {R : Value → Option (DataW Unit × List MemPlace)} {D : DataW Unit} (h : w.ownsMap P k R g n D) : IsMap D := by
  obtain ⟨es, clock, _, _, _, rfl⟩ := h
  exact ⟨_, rfl⟩
/-- A store. -/
theorem Mem.map_put (h : Mem w0 w (mpc k E z g n f :: L)) {t : TypeId} (K : Keyed P k) (ht : P.underlying t = some (.map k e)) (hk : P.underlying k = some (.int .i64)) (hn : n < 1000000) (x : Int) (hx : (Lit.int .i64 x).wf = true) (a : α) (ha : plainElem (H := Unit) P e (E.val a) = some (E.dat a, [])) :
    ∃ w', (Instr.mapUpdate t (.map (some g)) (.int .i64 x) (E.val a)).run P w = .ok () w' ∧ Mem w0 w' (mpc k E z g (n + 1) (fun y => if y = x then a else f y) :: L) := by
  have hb := h.below
  obtain ⟨T, hp, h2, h3⟩ := h.front
  obtain ⟨hT, D, ho, hD⟩ := hp
  obtain ⟨w', hr, ho', hg⟩ := ho.update K ht (by simp only [maxLen]; omega) (keyOf_int_mk hk hx) ha
  refine ⟨w', hr, h3 w' (mpc k E z g (n + 1) (fun y => if y = x then a else f y)) ?_ ⟨hg.size, fun i hi hn => hg.block i hi (fun e => hn (by injection e with e; exact e ▸ hT))⟩ ⟨.inl hT, _, ho', fun y => ?_⟩⟩
  · exact hb.grown hg hb.size (fun j hj => by injection hj with hj; exact hj ▸ (h2 g hT).1)
  · by_cases hy : y = x
    · subst hy
      rw [atKey_put_same (ownsMap_isMap ho) (by simp [WideAt.IsKeyLit])]
      dsimp only
      rw [if_pos rfl]
    · rw [atKey_put_other (by intro e; injection e with _ e; exact hy e)]
      dsimp only
      rw [if_neg hy]
      exact hD y
end
section
variable {P : Program} {e : TypeId} {α : Type} {k : TypeId} {E : Elt P e α} {z : α} {g n : Nat} {f : Int → α} {ops : Array Oper} {rest : List Oper} {o : Oper} {a : Act} {Q : Exit → Act → World → Prop}
/-- 'm[k] = v' at the operation. -/
theorem Mem.wp_put (h : Mem w0 w (mpc k E z g n f :: L)) (hg : o.guard = none) (m x v : Operand) (t : TypeId) (hop : o.op = Op.mapUpdate t m x v ∨ o.op = Op.insert t m x v) (K : Keyed P k) (ht : P.underlying t = some (.map k e)) (hk : P.underlying k = some (.int .i64)) (hn : n < 1000000)
    (hm : a.eval m = .map (some g)) (xi : Int) (hx : a.eval x = .int .i64 xi) (hxw : (Lit.int .i64 xi).wf = true) (y : α) (hv : a.eval v = E.val y) (hy : plainElem (H := Unit) P e (E.val y) = some (E.dat y, []))
    (hK : ∀ w', Mem w0 w' (mpc k E z g (n + 1) (fun j => if j = xi then y else f j) :: L) → wpList P ops Q rest (a.put o.dst undef) w') : wpList P ops Q (o :: rest) a w := by
  obtain ⟨w', hr, hM⟩ := h.map_put K ht hk hn xi hxw y hy
  refine wpList_plain hg fun K' hK' => ?_
  unfold Oper.wp
  rcases hop with hop | hop
  · simp [execOp, hop, hm, hx, hv, hr, Result.andThen]
    exact hK' _ _ (hK w' hM)
  · simp [execOp, hop, hm, hx, hv, hr, Result.andThen]
    exact hK' _ _ (hK w' hM)
end
end Go.Proofs.Yteneigadnabolaa.Sl
