/- Ordered lists of items (ID, deadline), over lists alone: the queue's insertion by search and the reference's Push, deletion by index and the reference's Remove. -/
import Derived.Test.YteneigadnabolaaWWords
namespace Go.Proofs.Yteneigadnabolaa.Dq
set_option linter.unusedVariables false

/-- An item: ID and deadline. -/
abbrev It := Int × Int
def bef (a b : It) : Prop := a.2 < b.2 ∨ (a.2 = b.2 ∧ a.1 < b.1)
instance (a b : It) : Decidable (bef a b) := by unfold bef; infer_instance
theorem bef.trans {a b c : It} (h : bef a b) (h' : bef b c) : bef a c := by unfold bef at *; omega
theorem bef.irrefl {a : It} (h : bef a a) : False := by unfold bef at h; omega
theorem bef.total {a b : It} (h : a.1 ≠ b.1) : bef a b ∨ bef b a := by unfold bef; omega
theorem bef.not {a b : It} (h : a.1 ≠ b.1) (hn : ¬ bef b a) : bef a b := (bef.total h).resolve_right hn
/-- In order, each ID once. -/
structure Ok (l : List It) : Prop where
  sorted : l.Pairwise bef
  ids : l.Pairwise (fun a b => a.1 ≠ b.1)
theorem Ok.nil : Ok [] := ⟨.nil, .nil⟩
/-- Without an ID. -/
def rm (l : List It) (id : Int) : List It := l.filter (fun y => decide (y.1 ≠ id))
def ins (x : It) : List It → List It
  | [] => [x]
  | y :: l => if bef x y then x :: y :: l else y :: ins x l
def push (l : List It) (x : It) : List It := ins x (rm l x.1)
theorem rm_mem {l : List It} {id : Int} {y : It} : y ∈ rm l id ↔ y ∈ l ∧ y.1 ≠ id := by unfold rm; simp [List.mem_filter]
theorem ins_mem {x y : It} : ∀ {l : List It}, y ∈ ins x l ↔ y = x ∨ y ∈ l
  | [] => by simp [ins]
  | z :: l => by
    unfold ins
    split
    · simp
    · rw [List.mem_cons, ins_mem, List.mem_cons]
      constructor
      · rintro (h | h | h)
        · exact .inr (.inl h)
        · exact .inl h
        · exact .inr (.inr h)
      · rintro (h | h | h)
        · exact .inr (.inl h)
        · exact .inl h
        · exact .inr (.inr h)
theorem ins_len (x : It) : ∀ l : List It, (ins x l).length = l.length + 1
  | [] => rfl
  | y :: l => by
    unfold ins
    split
    · rfl
    · rw [List.length_cons, ins_len x l, List.length_cons]
theorem Ok.rm {l : List It} (h : Ok l) (id : Int) : Ok (rm l id) := ⟨h.sorted.filter _, h.ids.filter _⟩
theorem Ok.tail {l : List It} {y : It} (h : Ok (y :: l)) : Ok l := ⟨(List.pairwise_cons.1 h.sorted).2, (List.pairwise_cons.1 h.ids).2⟩
theorem Ok.drop {l : List It} (h : Ok l) (k : Nat) : Ok (l.drop k) := ⟨h.sorted.sublist (List.drop_sublist _ _), h.ids.sublist (List.drop_sublist _ _)⟩
theorem Ok.ins {x : It} : ∀ {l : List It}, Ok l → (∀ y ∈ l, y.1 ≠ x.1) → Ok (ins x l)
  | [], _, _ => ⟨List.pairwise_singleton _ _, List.pairwise_singleton _ _⟩
  | y :: l, h, hx => by
    have hs := List.pairwise_cons.1 h.sorted
    have hi := List.pairwise_cons.1 h.ids
    unfold Dq.ins
    split
    · rename_i hb
      refine ⟨List.pairwise_cons.2 ⟨fun z hz => ?_, h.sorted⟩, List.pairwise_cons.2 ⟨fun z hz => (hx z hz).symm, h.ids⟩⟩
      rcases List.mem_cons.1 hz with rfl | hz
      · exact hb
      · exact hb.trans (hs.1 z hz)
    · rename_i hb
      have ih := Ok.ins h.tail (fun z hz => hx z (List.mem_cons_of_mem _ hz))
      have hyx : bef y x := bef.not (hx y (List.mem_cons_self ..)) hb
      refine ⟨List.pairwise_cons.2 ⟨fun z hz => ?_, ih.sorted⟩, List.pairwise_cons.2 ⟨fun z hz => ?_, ih.ids⟩⟩
      · rcases ins_mem.1 hz with rfl | hz
        · exact hyx
        · exact hs.1 z hz
      · rcases ins_mem.1 hz with rfl | hz
        · exact hx y (List.mem_cons_self ..)
        · exact hi.1 z hz
theorem Ok.push {l : List It} (h : Ok l) (x : It) : Ok (push l x) := (h.rm x.1).ins (fun y hy => (rm_mem.1 hy).2)
theorem push_mem {l : List It} {x y : It} : y ∈ push l x ↔ y = x ∨ (y ∈ l ∧ y.1 ≠ x.1) := by unfold push; rw [ins_mem, rm_mem]
/-- What a search for x's place finds is where the reference puts x. -/
theorem ins_at (x : It) : ∀ (l : List It) (i : Nat), i ≤ l.length → (∀ j (h : j < l.length), j < i → bef l[j] x) → (∀ j (h : j < l.length), i ≤ j → bef x l[j]) → ins x l = l.take i ++ x :: l.drop i
  | [], i, _, _, _ => by simp [ins]
  | y :: l, 0, _, _, h2 => by
    unfold ins
    rw [if_pos (show bef x y from h2 0 (by simp) (Nat.zero_le _))]
    rfl
  | y :: l, i + 1, hi, h1, h2 => by
    unfold ins
    have hy : bef y x := h1 0 (by simp) (by omega)
    rw [if_neg (fun hb => (hb.trans hy).irrefl), ins_at x l i (by simpa using hi) (fun j h hj => h1 (j + 1) (by simpa using h) (by omega)) (fun j h hj => h2 (j + 1) (by simpa using h) (by omega))]
    rfl
/-- The first of an ID is its only one: cutting it out is the reference's Remove. -/
theorem rm_none {l : List It} {id : Int} (h : ∀ y ∈ l, y.1 ≠ id) : rm l id = l := by
  unfold rm
  rw [List.filter_eq_self]
  intro y hy
  simpa using h y hy
theorem rm_at {id : Int} : ∀ (l : List It) (i : Nat) (h : i < l.length), Ok l → l[i].1 = id → rm l id = l.take i ++ l.drop (i + 1)
  | [], i, h, _, _ => by simp at h
  | y :: l, 0, _, ho, he => by
    have he : y.1 = id := he
    have hi := (List.pairwise_cons.1 ho.ids).1
    show (y :: l).filter _ = _
    rw [List.filter_cons_of_neg (by simp [he])]
    exact rm_none (fun z hz => by have := hi z hz; rw [he] at this; exact this.symm)
  | y :: l, i + 1, h, ho, he => by
    have hl : i < l.length := by simpa using h
    have he : l[i].1 = id := he
    have hi := (List.pairwise_cons.1 ho.ids).1
    have hy : y.1 ≠ id := by have := hi _ (List.getElem_mem hl); rw [he] at this; exact this
    show (y :: l).filter _ = _
    rw [List.filter_cons_of_pos (by simpa using hy)]
    show y :: rm l id = _
    rw [rm_at l i hl ho.tail he]
    rfl
theorem rm_len_at {l : List It} {i : Nat} {id : Int} (h : i < l.length) (ho : Ok l) (he : l[i].1 = id) : (rm l id).length = l.length - 1 := by
  rw [rm_at l i h ho he, List.length_append, List.length_take, List.length_drop]
  omega
/-- Binary search's invariant leads to the place. -/
structure Bs (x : It) (l : List It) (i j : Nat) : Prop where
  le : i ≤ j
  hi : j ≤ l.length
  lo : ∀ k (h : k < l.length), k < i → bef l[k] x
  up : ∀ k (h : k < l.length), j ≤ k → ¬ bef l[k] x
theorem Bs.start (x : It) (l : List It) : Bs x l 0 l.length := ⟨Nat.zero_le _, Nat.le_refl _, fun _ _ h => by omega, fun _ h h' => by omega⟩
theorem Bs.left {x : It} {l : List It} {i j : Nat} (h : Bs x l i j) (hs : l.Pairwise bef) {m : Nat} (hm : i ≤ m) (hm' : m < j) (hn : ¬ bef (l[m]'(by have := h.hi; omega)) x) : Bs x l i m :=
  ⟨hm, by have := h.hi; omega, h.lo, fun k hk hmk hb => by
    by_cases e : k = m
    · subst e; exact hn hb
    · exact hn ((List.pairwise_iff_getElem.1 hs m k (by have := h.hi; omega) hk (by omega)).trans hb)⟩
theorem Bs.right {x : It} {l : List It} {i j : Nat} (h : Bs x l i j) (hs : l.Pairwise bef) {m : Nat} (hm : i ≤ m) (hm' : m < j) (hn : bef (l[m]'(by have := h.hi; omega)) x) : Bs x l (m + 1) j :=
  ⟨hm', h.hi, fun k hk hmk => by
    by_cases e : k = m
    · subst e; exact hn
    · exact (List.pairwise_iff_getElem.1 hs k m hk (by have := h.hi; omega) (by omega)).trans hn, h.up⟩
theorem Bs.done {x : It} {l : List It} {i : Nat} (h : Bs x l i i) (hx : ∀ y ∈ l, y.1 ≠ x.1) : ins x l = l.take i ++ x :: l.drop i :=
  ins_at x l i h.hi (fun j hj hji => h.lo j hj hji) (fun j hj hij => bef.not (fun e => hx _ (List.getElem_mem hj) e.symm) (h.up j hj hij))
/-- An ordered list is what its members make it. -/
theorem sorted_unique : ∀ {l l' : List It}, l.Pairwise bef → l'.Pairwise bef → (∀ y, y ∈ l ↔ y ∈ l') → l = l'
  | [], [], _, _, _ => rfl
  | [], y :: l', _, _, h => by have := (h y).2 (List.mem_cons_self ..); simp at this
  | y :: l, [], _, _, h => by have := (h y).1 (List.mem_cons_self ..); simp at this
  | y :: l, y' :: l', hs, hs', h => by
    have h1 := List.pairwise_cons.1 hs
    have h2 := List.pairwise_cons.1 hs'
    have e : y = y' := by
      rcases List.mem_cons.1 ((h y).1 (List.mem_cons_self ..)) with e | e
      · exact e
      · rcases List.mem_cons.1 ((h y').2 (List.mem_cons_self ..)) with e' | e'
        · exact e'.symm
        · exact ((h2.1 y e).trans (h1.1 y' e')).irrefl.elim
    subst e
    rw [sorted_unique h1.2 h2.2 (fun z => ?_)]
    constructor
    · intro hz
      rcases List.mem_cons.1 ((h z).1 (List.mem_cons_of_mem _ hz)) with e | e
      · subst e; exact ((h1.1 z hz).irrefl).elim
      · exact e
    · intro hz
      rcases List.mem_cons.1 ((h z).2 (List.mem_cons_of_mem _ hz)) with e | e
      · subst e; exact ((h2.1 z hz).irrefl).elim
      · exact e
end Go.Proofs.Yteneigadnabolaa.Dq
