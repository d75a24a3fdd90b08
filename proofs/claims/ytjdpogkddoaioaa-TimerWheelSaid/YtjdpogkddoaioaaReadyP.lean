/- The sort of Ready is the reference's insertion: over lists alone. -/
import Derived.Test.YtjdpogkddoaioaaFireAllP
namespace Go.Proofs.Ytjdpogkddoaioaa.QWh
open Go.RowKit Go.Proofs.YtjdpogkddoaioaaW.PrintWords Go.Proofs.YtjdpogkddoaioaaW.PrintLast Go.Proofs.YtjdpogkddoaioaaW.PrintMore Go.Proofs.Ytjdpogkddoaioaa.Sl
set_option linter.unusedVariables false
set_option linter.unusedSimpArgs false

/-- A task's release. -/
def key (ns : List Int) (x : Int) : Int := ns.getD x.toNat 0
def insF (ns : List Int) (x : Int) : List Int → List Int
  | [] => [x]
  | y :: t => if key ns x < key ns y then x :: y :: t else y :: insF ns x t
theorem cfR_neg (ns : List Int) (x y : Int) : cfR ns x y < 0 ↔ key ns x < key ns y := by
  unfold cfR cmpI key
  split
  · simp_all
  · split <;> simp_all
/-- In order of the releases. -/
def Srt (ns : List Int) (l : List Int) : Prop := l.Pairwise (fun a b => key ns a ≤ key ns b)
theorem insF_all (ns : List Int) (x : Int) : ∀ (l : List Int), (∀ y ∈ l, key ns y ≤ key ns x) → insF ns x l = l ++ [x]
  | [], _ => rfl
  | y :: t, h => by
    unfold insF
    rw [if_neg (by have := h y (List.mem_cons_self ..); omega), insF_all ns x t (fun z hz => h z (List.mem_cons_of_mem _ hz))]
    rfl
theorem insF_snoc (ns : List Int) (x y : Int) (h : key ns x < key ns y) : ∀ (l : List Int), insF ns x (l ++ [y]) = insF ns x l ++ [y]
  | [] => by unfold insF; rw [List.nil_append]; show insF ns x [y] = _; unfold insF; rw [if_pos h]; rfl
  | z :: t => by
    show insF ns x (z :: (t ++ [y])) = insF ns x (z :: t) ++ [y]
    unfold insF
    split
    · rfl
    · rw [insF_snoc ns x y h t]; rfl
theorem insF_mem (ns : List Int) (x : Int) : ∀ (l : List Int) (z : Int), z ∈ insF ns x l ↔ z = x ∨ z ∈ l
  | [], z => by simp [insF]
  | y :: t, z => by
    unfold insF
    split
    · simp
    · rw [List.mem_cons, insF_mem ns x t z, List.mem_cons]
      constructor
      · rintro (h | h | h)
        · exact .inr (.inl h)
        · exact .inl h
        · exact .inr (.inr h)
      · rintro (h | h | h)
        · exact .inr (.inl h)
        · exact .inl h
        · exact .inr (.inr h)
theorem insF_srt (ns : List Int) (x : Int) : ∀ (l : List Int), Srt ns l → Srt ns (insF ns x l)
  | [], _ => by unfold insF Srt; simp
  | y :: t, h => by
    unfold Srt at h
    rw [List.pairwise_cons] at h
    unfold insF
    split
    · rename_i hlt
      unfold Srt
      rw [List.pairwise_cons, List.pairwise_cons]
      refine ⟨fun z hz => ?_, h.1, h.2⟩
      rcases List.mem_cons.mp hz with rfl | hz
      · omega
      · have := h.1 z hz; omega
    · rename_i hge
      unfold Srt
      rw [List.pairwise_cons]
      refine ⟨fun z hz => ?_, insF_srt ns x t h.2⟩
      rcases (insF_mem ns x t z).mp hz with rfl | hz
      · omega
      · exact h.1 z hz
theorem getD_mid (A : List Int) (x : Int) (B : List Int) : (A ++ x :: B).getD A.length 0 = x := by
  rw [List.getD_eq_getElem?_getD, List.getElem?_append_right (Nat.le_refl _), Nat.sub_self]; rfl
theorem set_mid' (A : List Int) (x v : Int) (B : List Int) : (A ++ x :: B).set A.length v = A ++ v :: B := by
  rw [List.set_append, if_neg (by omega), Nat.sub_self]; rfl
theorem insJ_at (ns : List Int) (x : Int) : ∀ (n : Nat) (S T : List Int), S.length = n → Srt ns S → insJ (cfR ns) (S ++ x :: T) n = insF ns x S ++ T := by
  intro n
  induction n with
  | zero =>
    intro S T hn hs
    obtain rfl := List.eq_nil_of_length_eq_zero hn
    rfl
  | succ n ih =>
    intro S T hn hs
    rcases List.eq_nil_or_concat S with rfl | ⟨S0, y, rfl⟩
    · simp at hn
    · rw [List.concat_eq_append] at *
      have h0 : S0.length = n := by simpa using hn
      have e1 : (S0 ++ [y] ++ x :: T).getD (n + 1) 0 = x := by
        have := getD_mid (S0 ++ [y]) x T
        rw [List.length_append, List.length_singleton, h0] at this
        exact this
      have e2 : (S0 ++ [y] ++ x :: T).getD n 0 = y := by
        rw [List.append_assoc, List.singleton_append, ← h0]; exact getD_mid S0 y (x :: T)
      have e3 : ((S0 ++ [y] ++ x :: T).set (n + 1) y).set n x = S0 ++ x :: y :: T := by
        have a := set_mid' (S0 ++ [y]) x y T
        rw [List.length_append, List.length_singleton, h0] at a
        rw [a, List.append_assoc, List.singleton_append, ← h0, set_mid']
      unfold Srt at hs
      rw [List.pairwise_append] at hs
      unfold insJ
      rw [e1, e2, e3]
      by_cases hc : cfR ns x y < 0
      · rw [if_pos hc, ih S0 (y :: T) h0 hs.1, insF_snoc ns x y ((cfR_neg ns x y).mp hc), List.append_assoc, List.singleton_append]
      · rw [if_neg hc]
        have hk : key ns y ≤ key ns x := by
          have h1 : ¬ key ns x < key ns y := fun h => hc ((cfR_neg ns x y).mpr h)
          omega
        rw [insF_all ns x (S0 ++ [y]) (fun z hz => ?_)]
        · simp
        · rcases List.mem_append.mp hz with h | h
          · have := hs.2.2 z h y (List.mem_singleton.mpr rfl); omega
          · rw [List.mem_singleton] at h; rw [h]; exact hk
theorem insJ_app (cf : Int → Int → Int) (B : List Int) : ∀ (j : Nat) (xs : List Int), j < xs.length → insJ cf (xs ++ B) j = insJ cf xs j ++ B
  | 0, xs, _ => rfl
  | j + 1, xs, h => by
    have e : ∀ i, i < xs.length → (xs ++ B).getD i 0 = xs.getD i 0 := by
      intro i hi
      rw [List.getD_eq_getElem?_getD, List.getD_eq_getElem?_getD, List.getElem?_append_left hi]
    unfold insJ
    rw [e _ h, e j (by omega)]
    split
    · rw [List.set_append_left _ _ h, List.set_append_left _ _ (by simp; omega)]
      exact insJ_app cf B j _ (by simp; omega)
    · rfl
theorem srt_app (cf : Int → Int → Int) (xs B : List Int) : ∀ i, i ≤ xs.length → srt cf (xs ++ B) i = srt cf xs i ++ B
  | 0, _ => rfl
  | i + 1, h => by
    show insJ cf (srt cf (xs ++ B) i) i = insJ cf (srt cf xs i) i ++ B
    rw [srt_app cf xs B i (by omega), insJ_app _ _ _ _ (by rw [srt_len]; omega)]
/-- One more element: it is inserted. -/
theorem srt_snoc (ns ys : List Int) (x : Int) (hs : Srt ns (srt (cfR ns) ys ys.length)) : srt (cfR ns) (ys ++ [x]) (ys ++ [x]).length = insF ns x (srt (cfR ns) ys ys.length) := by
  rw [List.length_append, List.length_singleton]
  show insJ (cfR ns) (srt (cfR ns) (ys ++ [x]) ys.length) ys.length = _
  rw [srt_app _ _ _ _ (Nat.le_refl _), insJ_at ns x ys.length _ [] (srt_len _ _ _) hs, List.append_nil]
/-- The reference's list: each due task is inserted. -/
def refR (ps ns : List Int) (lo : Int) : Nat → List Int
  | 0 => []
  | j + 1 => if ps.getD j 0 ≠ 0 ∧ ns.getD j 0 ≤ lo then insF ns (j : Int) (refR ps ns lo j) else refR ps ns lo j
theorem ref_srt (ps ns : List Int) (lo : Int) : ∀ j, Srt ns (refR ps ns lo j) ∧ srt (cfR ns) (dueW ps ns lo j) (dueW ps ns lo j).length = refR ps ns lo j
  | 0 => ⟨List.Pairwise.nil, rfl⟩
  | j + 1 => by
    obtain ⟨h1, h2⟩ := ref_srt ps ns lo j
    unfold refR dueW
    split
    · exact ⟨insF_srt ns _ _ h1, by rw [srt_snoc ns _ _ (by rw [h2]; exact h1), h2]⟩
    · exact ⟨h1, h2⟩
theorem readyW_ref (ps ns : List Int) (lo : Int) : readyW ps ns lo = refR ps ns lo ps.length := (ref_srt ps ns lo ps.length).2
end Go.Proofs.Ytjdpogkddoaioaa.QWh
