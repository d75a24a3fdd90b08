/- The reference's Ready gives refR. -/
import Derived.Test.YtjdpogkddoaioaaReadyP
import Derived.Test.YtjdpogkddoaioaaQWhx3
namespace Go.Proofs.Ytjdpogkddoaioaa.QWh
open Go.RowKit Go.Proofs.YtjdpogkddoaioaaW.PrintWords Go.Proofs.YtjdpogkddoaioaaW.PrintLast Go.Proofs.YtjdpogkddoaioaaW.PrintMore Go.Proofs.Ytjdpogkddoaioaa.Sl
set_option linter.unusedVariables false
set_option linter.unusedSimpArgs false

theorem wrapn {j : Nat} (h : j ≤ 1000000) : wrap64 ((j : Int) + 1) = ((j + 1 : Nat) : Int) := by unfold wrap64; omega
theorem refR_len (ps ns : List Int) (lo : Int) : ∀ j, (refR ps ns lo j).length ≤ j
  | 0 => Nat.le_refl _
  | j + 1 => by
    have := refR_len ps ns lo j
    unfold refR
    split
    · have h : ∀ (x : Int) (l : List Int), (insF ns x l).length = l.length + 1 := by
        intro x l
        induction l with
        | nil => rfl
        | cons y t ih => unfold insF; split <;> simp [ih]
      rw [h]; omega
    · omega
theorem refR_in (ps ns : List Int) (lo : Int) : ∀ j, ∀ x ∈ refR ps ns lo j, 0 ≤ x ∧ x < (j : Int)
  | 0, x, h => by cases h
  | j + 1, x, h => by
    unfold refR at h
    split at h
    · rcases (insF_mem ns _ _ _).mp h with rfl | h
      · omega
      · have := refR_in ps ns lo j x h; omega
    · have := refR_in ps ns lo j x h; omega
theorem key_nat (ns : List Int) (i : Nat) : key ns (i : Int) = ns.getD i 0 := by unfold key; rw [Int.toNat_natCast]
/-- The inner loop: B is still to come. -/
theorem ins_ev (ps ns : List Int) (lo hi : Int) (i : Nat) (hi' : i < ns.length) (r : List Int) : ∀ (B A next : List Int) (put : Bool), (∀ x ∈ A ++ B, 0 ≤ x ∧ x < (ns.length : Int)) → A.length + B.length ≤ 1000 → next.length ≤ 2 * A.length + 1 →
    Ev (fun k => trickleref39_Ready.l0 k (next ++ (if put then B else insF ns (i : Int) B)) (wrap64 ((i : Int) + 1)) ps ns lo hi) r →
    Ev (fun k => trickleref39_Ready.l1 k (A ++ B) (i : Int) next put (A.length : Int) ps ns lo hi) r
  | [], A, next, put, hin, h1, h2, h => by
    refine Ev.step (fun k => ?_) h
    rw [trickleref39_Ready.l1.eq_2, if_neg (by simp)]
    simp only [List.length_nil, Nat.add_zero] at h1
    cases put with
    | true => rw [if_pos rfl, if_pos rfl, List.append_nil]
    | false => rw [if_neg (by decide), if_pos (by omega)]; rfl
  | y :: t, A, next, put, hin, h1, h2, h => by
    have hy := hin y (by simp)
    have e0 : rd (A ++ y :: t) (A.length : Int) = y := by rw [rdn]; exact getD_mid A y t
    have hlen : (A ++ y :: t).length = A.length + (t.length + 1) := by simp
    simp only [List.length_cons] at h1
    have hA : ((A ++ [y]).length : Int) = ((A.length + 1 : Nat) : Int) := by simp
    have rec' := ins_ev ps ns lo hi i hi' r t (A ++ [y])
    have go : ∀ (nx : List Int) (pt : Bool), nx.length ≤ 2 * (A ++ [y]).length + 1 → Ev (fun k => trickleref39_Ready.l0 k (nx ++ (if pt then t else insF ns (i : Int) t)) (wrap64 ((i : Int) + 1)) ps ns lo hi) r → Ev (fun k => trickleref39_Ready.l1 k (A ++ y :: t) (i : Int) nx pt ((A.length + 1 : Nat) : Int) ps ns lo hi) r := by
      intro nx pt hn he
      have := rec' nx pt (by rw [List.append_assoc, List.singleton_append]; exact hin) (by simp; omega) hn he
      rw [List.append_assoc, List.singleton_append, hA] at this
      exact this
    cases put with
    | true =>
      refine Ev.step (fun k => ?_) (go (next ++ [y]) true (by simp; omega) ?_)
      · rw [trickleref39_Ready.l1.eq_2, if_pos (by omega), if_pos rfl, if_pos (by omega), if_pos (by omega), e0, wrapn (by omega)]
      · rw [if_pos rfl] at h ⊢
        rw [List.append_assoc, List.singleton_append]; exact h
    | false =>
      obtain ⟨m, rfl⟩ := Int.eq_ofNat_of_zero_le hy.1
      rw [if_neg (by decide)] at h
      by_cases hk : ns.getD i 0 < ns.getD m 0
      · refine Ev.step (fun k => ?_) (go (next ++ [(i : Int)] ++ [(m : Int)]) true (by simp; omega) ?_)
        · rw [trickleref39_Ready.l1.eq_2, if_pos (by omega), if_neg (by decide), if_pos (by omega), if_pos (by omega), if_pos (by omega), e0, if_pos (by omega), if_pos hy.2, rdn, rdn, if_pos hk, if_pos (by omega), Option.bind_some, if_pos (by simp; omega), wrapn (by omega)]
        · rw [if_pos rfl]
          unfold insF at h
          rw [key_nat, key_nat, if_pos hk] at h
          rw [List.append_assoc, List.append_assoc]; exact h
      · refine Ev.step (fun k => ?_) (go (next ++ [(m : Int)]) false (by simp; omega) ?_)
        · rw [trickleref39_Ready.l1.eq_2, if_pos (by omega), if_neg (by decide), if_pos (by omega), if_pos (by omega), if_pos (by omega), e0, if_pos (by omega), if_pos hy.2, rdn, rdn, if_neg hk, if_pos (by omega), wrapn (by omega)]
        · rw [if_neg (by decide)]
          unfold insF at h
          rw [key_nat, key_nat, if_neg hk] at h
          rw [List.append_assoc, List.singleton_append]; exact h
theorem ready_ev (ps ns : List Int) (lo hi : Int) (hl : ns.length = ps.length) (h9 : ps.length ≤ 900) : ∀ (n j : Nat), ps.length - j ≤ n → j ≤ ps.length → Ev (fun k => trickleref39_Ready.l0 k (refR ps ns lo j) (j : Int) ps ns lo hi) (refR ps ns lo ps.length) := by
  have last : Ev (fun k => trickleref39_Ready.l0 k (refR ps ns lo ps.length) (ps.length : Int) ps ns lo hi) (refR ps ns lo ps.length) := by
    refine Ev.step (f := fun _ => some _) (fun k => ?_) (Ev.now _)
    rw [trickleref39_Ready.l0.eq_2, if_neg (by omega)]
  intro n
  induction n with
  | zero =>
    intro j h1 h2
    obtain rfl : j = ps.length := by omega
    exact last
  | succ n ih =>
    intro j h1 h2
    by_cases hj : j < ps.length
    · have ih := ih (j + 1) (by omega) (by omega)
      rw [← wrapn (by omega)] at ih
      have hdue : refR ps ns lo (j + 1) = if ps.getD j 0 ≠ 0 ∧ ns.getD j 0 ≤ lo then insF ns (j : Int) (refR ps ns lo j) else refR ps ns lo j := rfl
      by_cases hp : ps.getD j 0 = 0
      · rw [hdue, if_neg (fun h => h.1 hp)] at ih
        refine Ev.step (f := fun k => trickleref39_Ready.j1 k (refR ps ns lo j) (j : Int) true ps ns lo hi) (fun k => ?_) (Ev.step (fun k => ?_) ih)
        · rw [trickleref39_Ready.l0.eq_2, if_pos (by omega), if_pos (by omega), rdn, if_pos hp]
        · rw [trickleref39_Ready.j1.eq_2, if_pos rfl]
      · by_cases hd : ns.getD j 0 ≤ lo
        · rw [hdue, if_pos ⟨hp, hd⟩] at ih
          have key := ins_ev ps ns lo hi j (by omega) _ (refR ps ns lo j) [] [] false (fun x hx => by have := refR_in ps ns lo j x hx; omega) (by have := refR_len ps ns lo j; simp; omega) (by simp) (by rw [if_neg (by decide), List.nil_append]; exact ih)
          refine Ev.step (f := fun k => trickleref39_Ready.j1 k (refR ps ns lo j) (j : Int) false ps ns lo hi) (fun k => ?_) (Ev.step (fun k => ?_) key)
          · rw [trickleref39_Ready.l0.eq_2, if_pos (by omega), if_pos (by omega), rdn, if_neg hp, if_pos (by omega), rdn]
            unfold trickleref39_Due.f
            rw [decide_eq_true hd]; rfl
          · rw [trickleref39_Ready.j1.eq_2, if_neg (by decide)]; rfl
        · rw [hdue, if_neg (fun h => hd h.2)] at ih
          refine Ev.step (f := fun k => trickleref39_Ready.j1 k (refR ps ns lo j) (j : Int) true ps ns lo hi) (fun k => ?_) (Ev.step (fun k => ?_) ih)
          · rw [trickleref39_Ready.l0.eq_2, if_pos (by omega), if_pos (by omega), rdn, if_neg hp, if_pos (by omega), rdn]
            unfold trickleref39_Due.f
            rw [decide_eq_false hd]; rfl
          · rw [trickleref39_Ready.j1.eq_2, if_pos rfl]
    · obtain rfl : j = ps.length := by omega
      exact last
theorem refReady_ev (ps ns : List Int) (lo hi : Int) (hl : ns.length = ps.length) (h9 : ps.length ≤ 900) : ∃ k, trickleref39_Ready.f k ps ns lo hi = some (readyW ps ns lo) := by
  rw [readyW_ref]
  apply Ev.rounds
  exact ready_ev ps ns lo hi hl h9 ps.length 0 (by omega) (by omega)
end Go.Proofs.Ytjdpogkddoaioaa.QWh
