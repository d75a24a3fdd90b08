/- SchedulerUtilization, the statement over numbers alone. -/
import Derived.Test.YtlklcfaejmeljaaPureSchedulerSelects
import Derived.Test.YtlklcfaejmeljaaQUtx8
namespace Go.Proofs.Ytlklcfaejmeljaa.Pure
open Go.RowKit Go.Proofs.Ytlklcfaejmeljaa.QUt Go.Proofs.YtlklcfaejmeljaaW.PrintWords Go.Proofs.YtlklcfaejmeljaaW.PrintLast Go.Proofs.YtlklcfaejmeljaaW.PrintMore
set_option linter.unusedVariables false
set_option linter.unusedSimpArgs false

theorem w64 {a : Int} (h1 : -9223372036854775808 ≤ a) (h2 : a ≤ 9223372036854775807) : wrap64 a = a := by unfold wrap64; omega

/-! ## Sums of fractions -/
def den : List Int → Int
  | [] => 1
  | d :: t => d * den t
def num : List Int → List Int → Int
  | n :: ns, d :: ds => n * den ds + d * num ns ds
  | _, _ => 0
/-- Proper fractions with small denominators. -/
def Rs : List Int → List Int → Prop
  | [], [] => True
  | n :: ns, d :: ds => 0 ≤ n ∧ n < d ∧ d ≤ 1048576 ∧ Rs ns ds
  | _, _ => False
theorem Rs.len : ∀ {ns ds : List Int}, Rs ns ds → ns.length = ds.length
  | [], [], _ => rfl
  | _ :: _, _ :: _, h => by simp only [List.length_cons]; rw [Rs.len h.2.2.2]
theorem Rs.bound : ∀ {ns ds : List Int}, Rs ns ds → 0 < den ds ∧ den ds ≤ 1048576 ^ ds.length ∧ 0 ≤ num ns ds ∧ num ns ds ≤ ds.length * den ds
  | [], [], _ => ⟨by decide, by decide, by decide, by decide⟩
  | n :: ns, d :: ds, ⟨a, b, c, h⟩ => by
    obtain ⟨h1, h2, h3, h4⟩ := Rs.bound h
    have hd : 0 < d := by omega
    refine ⟨Int.mul_pos hd h1, ?_, ?_, ?_⟩
    · show d * den ds ≤ _
      rw [List.length_cons, Int.pow_succ, Int.mul_comm d]
      exact Int.mul_le_mul h2 c (by omega) (by exact Int.pow_nonneg (by decide))
    · exact Int.add_nonneg (Int.mul_nonneg a (by omega)) (Int.mul_nonneg (by omega) h3)
    · show n * den ds + d * num ns ds ≤ ((ds.length + 1 : Nat) : Int) * (d * den ds)
      have e1 : n * den ds ≤ d * den ds := Int.mul_le_mul_of_nonneg_right (by omega) (by omega)
      have e2 : d * num ns ds ≤ d * (ds.length * den ds) := Int.mul_le_mul_of_nonneg_left h4 (by omega)
      have e3 : ((ds.length + 1 : Nat) : Int) * (d * den ds) = d * den ds + d * (ds.length * den ds) := by
        rw [Int.natCast_add]; grind
      omega
theorem den_snoc : ∀ (ds : List Int) (d : Int), den (ds ++ [d]) = den ds * d
  | [], d => by show d * 1 = 1 * d; omega
  | a :: ds, d => by show a * den (ds ++ [d]) = a * den ds * d; rw [den_snoc ds d]; grind
theorem num_snoc : ∀ {ns ds : List Int}, ns.length = ds.length → ∀ (n d : Int), num (ns ++ [n]) (ds ++ [d]) = num ns ds * d + n * den ds
  | [], [], _, n, d => by show n * 1 + d * 0 = 0 * d + n * 1; omega
  | a :: ns, b :: ds, h, n, d => by
    show a * den (ds ++ [d]) + b * num (ns ++ [n]) (ds ++ [d]) = (a * den ds + b * num ns ds) * d + n * (b * den ds)
    rw [den_snoc, num_snoc (by simpa using h)]; grind
theorem Rs.snoc : ∀ {ns ds : List Int}, Rs ns ds → ∀ {n d : Int}, 0 ≤ n → n < d → d ≤ 1048576 → Rs (ns ++ [n]) (ds ++ [d])
  | [], [], _, n, d, a, b, c => ⟨a, b, c, trivial⟩
  | _ :: _, _ :: _, h, n, d, a, b, c => ⟨h.1, h.2.1, h.2.2.1, Rs.snoc h.2.2.2 a b c⟩

/-! ## The program's comparison, digit by digit -/
def dblR : List Int → List Int → List Int
  | n :: ns, d :: ds => (if n * 2 ≥ d then n * 2 - d else n * 2) :: dblR ns ds
  | _, _ => []
def cnt : List Int → List Int → Int
  | n :: ns, d :: ds => (if n * 2 ≥ d then 1 else 0) + cnt ns ds
  | _, _ => 0
theorem Rs.dbl : ∀ {ns ds : List Int}, Rs ns ds → Rs (dblR ns ds) ds ∧ num (dblR ns ds) ds = 2 * num ns ds - cnt ns ds * den ds ∧ 0 ≤ cnt ns ds ∧ cnt ns ds ≤ ds.length
  | [], [], _ => ⟨trivial, by decide, by decide, by decide⟩
  | n :: ns, d :: ds, ⟨a, b, c, h⟩ => by
    obtain ⟨h1, h2, h3, h4⟩ := Rs.dbl h
    by_cases hd : n * 2 ≥ d
    · have e1 : dblR (n :: ns) (d :: ds) = (n * 2 - d) :: dblR ns ds := by show (if n * 2 ≥ d then _ else _) :: _ = _; rw [if_pos hd]
      have e2 : cnt (n :: ns) (d :: ds) = 1 + cnt ns ds := by show (if n * 2 ≥ d then _ else _) + _ = _; rw [if_pos hd]
      rw [e1, e2]
      refine ⟨⟨by omega, by omega, c, h1⟩, ?_, by omega, by simp only [List.length_cons]; omega⟩
      show (n * 2 - d) * den ds + d * num (dblR ns ds) ds = 2 * (n * den ds + d * num ns ds) - (1 + cnt ns ds) * (d * den ds)
      rw [h2]; grind
    · have e1 : dblR (n :: ns) (d :: ds) = (n * 2) :: dblR ns ds := by show (if n * 2 ≥ d then _ else _) :: _ = _; rw [if_neg hd]
      have e2 : cnt (n :: ns) (d :: ds) = 0 + cnt ns ds := by show (if n * 2 ≥ d then _ else _) + _ = _; rw [if_neg hd]
      rw [e1, e2]
      refine ⟨⟨by omega, by omega, c, h1⟩, ?_, by omega, by simp only [List.length_cons]; omega⟩
      show (n * 2) * den ds + d * num (dblR ns ds) ds = 2 * (n * den ds + d * num ns ds) - (0 + cnt ns ds) * (d * den ds)
      rw [h2]; grind

def dn (fs : List S73) : List Int := fs.map (·.f1)
def nn (fs : List S73) : List Int := fs.map (·.f0)
theorem rd_mid (a b : List Int) (r : Int) : rd (a ++ r :: b) (a.length : Int) = r := by
  unfold rd
  rw [Int.toNat_natCast, List.getD_eq_getElem?_getD, List.getElem?_append_right (Nat.le_refl _), Nat.sub_self]
  rfl
theorem set_mid (a b : List Int) (r v : Int) : (a ++ r :: b).set (a.length : Int).toNat v = a ++ v :: b := by
  rw [Int.toNat_natCast, List.set_append, if_neg (by omega), Nat.sub_self]; rfl
theorem rd73_mid (a b : List S73) (r : S73) {n : Nat} (h : n = a.length) : rd_T73 (a ++ r :: b) (n : Int) = r := by
  unfold rd_T73
  rw [Int.toNat_natCast, h, List.getD_eq_getElem?_getD, List.getElem?_append_right (Nat.le_refl _), Nat.sub_self]
  rfl
theorem round_ev (fs : List S73) (hl : fs.length ≤ 8) (t : Int) (r : Bool) : ∀ (b : List Int) (fb fa : List S73) (a : List Int), fs = fa ++ fb → a.length = fa.length → Rs b (dn fb) → ∀ x8 : Int, -1000 ≤ x8 - fb.length → x8 ≤ 1000 →
    Ev (fun k => scheduler_fractions_atMost.l1 k fs (a ++ dblR b (dn fb)) (x8 - cnt b (dn fb)) (wrap64 (t + 1))) r →
    Ev (fun k => scheduler_fractions_atMost.l2 k fs (a ++ b) x8 t fs (fs.length : Int) (a.length : Int)) r
  | [], [], fa, a, hf, hal, _, x8, h1, h2, h => by
    refine Ev.step (fun k => ?_) h
    rw [scheduler_fractions_atMost.l2.eq_2, if_neg (by rw [hf, hal]; simp)]
    show scheduler_fractions_atMost.l1 k fs (a ++ []) x8 (wrap64 (t + 1)) = scheduler_fractions_atMost.l1 k fs (a ++ []) (x8 - 0) (wrap64 (t + 1))
    rw [Int.sub_zero]
  | n :: b, f :: fb, fa, a, hf, hal, ⟨p1, p2, p3, p4⟩, x8, h1, h2, h => by
    have hlen : fs.length = fa.length + (fb.length + 1) := by rw [hf]; simp
    have hx : (a ++ n :: b).length = a.length + (b.length + 1) := by simp
    have e1 : rd_T73 fs (a.length : Int) = f := by rw [hf]; exact rd73_mid _ _ _ hal
    have e2 : wrap64 (n * 2) = n * 2 := w64 (by omega) (by omega)
    have e3 : wrap64 ((a.length : Int) + 1) = ((a.length + 1 : Nat) : Int) := by rw [w64 (by omega) (by omega)]; rfl
    have hd : f.f1 = f.f1 := rfl
    simp only [List.length_cons] at h1
    change n < f.f1 at p2
    change f.f1 ≤ 1048576 at p3
    by_cases hc : n * 2 ≥ f.f1
    · have h' := round_ev fs hl t r b fb (fa ++ [f]) (a ++ [n * 2 - f.f1]) (by rw [hf]; simp) (by simp [hal]) p4 (x8 - 1) (by omega) (by omega) (by
        have q1 : dblR (n :: b) (dn (f :: fb)) = (n * 2 - f.f1) :: dblR b (dn fb) := by show (if n * 2 ≥ f.f1 then _ else _) :: _ = _; rw [if_pos hc]; rfl
        have q2 : cnt (n :: b) (dn (f :: fb)) = 1 + cnt b (dn fb) := by show (if n * 2 ≥ f.f1 then _ else _) + _ = _; rw [if_pos hc]; rfl
        rw [q1, q2] at h
        rw [List.append_assoc, List.singleton_append, show x8 - 1 - cnt b (dn fb) = x8 - (1 + cnt b (dn fb)) by omega]
        exact h)
      refine Ev.step (fun k => ?_) h'
      rw [scheduler_fractions_atMost.l2.eq_2, if_pos (by omega), if_pos (by omega), if_pos (by omega), if_pos (by omega), rd_mid, e1, e2, set_mid, Option.bind_some, rd_mid, if_pos hc, set_mid, e3, w64 (a := n * 2 - f.f1) (by omega) (by omega), w64 (a := x8 - 1) (by omega) (by omega), List.append_assoc, List.length_append]
      rfl
    · have h' := round_ev fs hl t r b fb (fa ++ [f]) (a ++ [n * 2]) (by rw [hf]; simp) (by simp [hal]) p4 x8 (by omega) (by omega) (by
        have q1 : dblR (n :: b) (dn (f :: fb)) = (n * 2) :: dblR b (dn fb) := by show (if n * 2 ≥ f.f1 then _ else _) :: _ = _; rw [if_neg hc]; rfl
        have q2 : cnt (n :: b) (dn (f :: fb)) = 0 + cnt b (dn fb) := by show (if n * 2 ≥ f.f1 then _ else _) + _ = _; rw [if_neg hc]; rfl
        rw [q1, q2] at h
        rw [List.append_assoc, List.singleton_append, show x8 - cnt b (dn fb) = x8 - (0 + cnt b (dn fb)) by omega]
        exact h)
      refine Ev.step (fun k => ?_) h'
      rw [scheduler_fractions_atMost.l2.eq_2, if_pos (by omega), if_pos (by omega), if_pos (by omega), if_pos (by omega), rd_mid, e1, e2, set_mid, Option.bind_some, rd_mid, if_neg hc, e3, List.append_assoc, List.length_append]
      rfl

theorem nn_of_mul {a p : Int} (hp : 0 < p) (h : 0 ≤ a * p) : 0 ≤ a := by
  apply Int.not_lt.mp
  intro ha
  have := Int.mul_neg_of_neg_of_pos ha hp
  omega
theorem pow_two_pos (t : Nat) : (0 : Int) < 2 ^ t := Int.pow_pos (by decide)
theorem digits_ev (fs : List S73) (hl : fs.length ≤ 8) (lim N : Int) : ∀ (n t : Nat), 168 - t ≤ n → t ≤ 168 → ∀ (rs : List Int) (x8 : Int), Rs rs (dn fs) → -8 ≤ x8 → x8 ≤ 16 →
    (lim * den (dn fs) - N) * 2 ^ t = x8 * den (dn fs) - num rs (dn fs) →
    Ev (fun k => scheduler_fractions_atMost.l1 k fs rs x8 (t : Int)) (decide (N ≤ lim * den (dn fs))) := by
  have hdl : (dn fs).length = fs.length := by unfold dn; rw [List.length_map]
  have fin : ∀ (t : Nat) (rs : List Int) (x8 : Int), Rs rs (dn fs) → (lim * den (dn fs) - N) * 2 ^ t = x8 * den (dn fs) - num rs (dn fs) → (t = 168 ∨ x8 < 0 ∨ (fs.length : Int) ≤ x8) → decide (x8 ≥ 0) = decide (N ≤ lim * den (dn fs)) := by
    intro t rs x8 hr he hh
    obtain ⟨b1, b2, b3, b4⟩ := hr.bound
    rw [hdl] at b2 b4
    apply decide_eq_decide.mpr
    constructor
    · intro h0
      have hx : 0 ≤ x8 * den (dn fs) := Int.mul_nonneg h0 (by omega)
      rcases hh with rfl | h | h
      · -- all the digits were looked at
        have c1 : den (dn fs) ≤ 1048576 ^ 8 := by
          refine Int.le_trans b2 ?_
          obtain ⟨m, hm⟩ : ∃ m, 8 = fs.length + m := ⟨8 - fs.length, by omega⟩
          rw [hm, Int.pow_add]
          have z1 : (0 : Int) < 1048576 ^ fs.length := Int.pow_pos (by decide)
          have z2 : (0 : Int) < 1048576 ^ m := Int.pow_pos (by decide)
          calc (1048576 : Int) ^ fs.length = 1048576 ^ fs.length * 1 := by omega
            _ ≤ _ := Int.mul_le_mul_of_nonneg_left (by omega) (by omega)
        have c2 : (fs.length : Int) * den (dn fs) ≤ 8 * den (dn fs) := Int.mul_le_mul_of_nonneg_right (by omega) (by omega)
        generalize hq : lim * den (dn fs) - N = E at he
        generalize x8 * den (dn fs) = X at *
        have : (1048576 : Int) ^ 8 = 1461501637330902918203684832716283019655932542976 := by decide
        have : (2 : Int) ^ 168 = 374144419156711147060143317175368453031918731001856 := by decide
        have hE : 0 ≤ E := by omega
        omega
      · omega
      · have : (fs.length : Int) * den (dn fs) ≤ x8 * den (dn fs) := Int.mul_le_mul_of_nonneg_right h (by omega)
        have := nn_of_mul (pow_two_pos t) (a := lim * den (dn fs) - N) (by omega)
        omega
    · intro h0
      apply Int.not_lt.mp
      intro hn
      have h1 : 0 ≤ (lim * den (dn fs) - N) * 2 ^ t := Int.mul_nonneg (by omega) (by have := pow_two_pos t; omega)
      have h2 : x8 * den (dn fs) < 0 := Int.mul_neg_of_neg_of_pos hn b1
      omega
  intro n
  induction n with
  | zero =>
    intro t h1 h2 rs x8 hr hx hy he
    obtain rfl : t = 168 := by omega
    rw [← fin 168 rs x8 hr he (.inl rfl)]
    refine Ev.step (f := fun _ => some _) (fun k => ?_) (Ev.now _)
    rw [scheduler_fractions_atMost.l1.eq_2, if_neg (by decide)]
  | succ n ih =>
    intro t h1 h2 rs x8 hr hx hy he
    by_cases ht : t = 168
    · subst ht
      rw [← fin 168 rs x8 hr he (.inl rfl)]
      refine Ev.step (f := fun _ => some _) (fun k => ?_) (Ev.now _)
      rw [scheduler_fractions_atMost.l1.eq_2, if_neg (by decide)]
    · by_cases hg : x8 ≥ (fs.length : Int)
      · rw [← fin t rs x8 hr he (.inr (.inr hg))]
        refine Ev.step (f := fun k => scheduler_fractions_atMost.j2 k fs rs x8 (t : Int) true) (fun k => ?_) (Ev.step (f := fun _ => some _) (fun k => ?_) (Ev.now _))
        · rw [scheduler_fractions_atMost.l1.eq_2, if_pos (by omega), if_pos hg]
        · rw [scheduler_fractions_atMost.j2.eq_2, if_pos rfl]
      · by_cases hneg : x8 < 0
        · rw [← fin t rs x8 hr he (.inr (.inl hneg))]
          refine Ev.step (f := fun k => scheduler_fractions_atMost.j2 k fs rs x8 (t : Int) true) (fun k => ?_) (Ev.step (f := fun _ => some _) (fun k => ?_) (Ev.now _))
          · rw [scheduler_fractions_atMost.l1.eq_2, if_pos (by omega), if_neg hg, decide_eq_true hneg]
          · rw [scheduler_fractions_atMost.j2.eq_2, if_pos rfl]
        · obtain ⟨d1, d2, d3, d4⟩ := hr.dbl
          rw [hdl] at d4
          have := ih (t + 1) (by omega) (by omega) (dblR rs (dn fs)) (x8 * 2 - cnt rs (dn fs)) d1 (by omega) (by omega) (by
            rw [d2, Int.pow_succ]; grind)
          refine Ev.step (f := fun k => scheduler_fractions_atMost.j2 k fs rs x8 (t : Int) false) (fun k => ?_) (Ev.step (f := fun k => scheduler_fractions_atMost.l2 k fs rs (x8 * 2) (t : Int) fs (fs.length : Int) 0) (fun k => ?_) ?_)
          · rw [scheduler_fractions_atMost.l1.eq_2, if_pos (by omega), if_neg hg, decide_eq_false hneg]
          · rw [scheduler_fractions_atMost.j2.eq_2, if_neg (by decide), w64 (by omega) (by omega)]
          · refine round_ev fs hl (t : Int) _ rs fs [] [] rfl rfl hr (x8 * 2) (by omega) (by omega) ?_
            rw [List.nil_append, show wrap64 ((t : Int) + 1) = ((t + 1 : Nat) : Int) by rw [w64 (by omega) (by omega)]; rfl]
            exact this

theorem wrap_nat {j : Nat} (h : j ≤ 1000000) : wrap64 ((j : Int) + 1) = ((j + 1 : Nat) : Int) := by rw [w64 (by omega) (by omega)]; rfl
/-- Whether the fractions are at most a whole number. -/
theorem atMost_ev (fs : List S73) (hl : fs.length ≤ 8) (hr : Rs (nn fs) (dn fs)) (lim : Int) (h0 : 0 ≤ lim) (h8 : lim ≤ 8) :
    Ev (fun k => scheduler_fractions_atMost.f k fs lim) (decide (num (nn fs) (dn fs) ≤ lim * den (dn fs))) := by
  unfold scheduler_fractions_atMost.f
  have go : ∀ (n j : Nat), fs.length - j ≤ n → j ≤ fs.length → Ev (fun k => scheduler_fractions_atMost.l0 k fs lim (nn (fs.take j)) fs (fs.length : Int) (j : Int)) (decide (num (nn fs) (dn fs) ≤ lim * den (dn fs))) := by
    have last : Ev (fun k => scheduler_fractions_atMost.l0 k fs lim (nn (fs.take fs.length)) fs (fs.length : Int) (fs.length : Int)) (decide (num (nn fs) (dn fs) ≤ lim * den (dn fs))) := by
      have := digits_ev fs hl lim (num (nn fs) (dn fs)) 168 0 (by omega) (by omega) (nn fs) lim hr (by omega) (by omega) (by rw [Int.pow_zero, Int.mul_one])
      refine Ev.step (fun k => ?_) this
      rw [scheduler_fractions_atMost.l0.eq_2, if_neg (by omega), List.take_length]
      rfl
    intro n
    induction n with
    | zero =>
      intro j h1 h2
      obtain rfl : j = fs.length := by omega
      exact last
    | succ n ih =>
      intro j h1 h2
      by_cases hj : j < fs.length
      · refine Ev.step (fun k => ?_) (ih (j + 1) (by omega) (by omega))
        have e1 : rd_T73 fs (j : Int) = fs[j] := by
          unfold rd_T73
          rw [Int.toNat_natCast, List.getD_eq_getElem?_getD, List.getElem?_eq_getElem hj, Option.getD_some]
        have e2 : (nn (fs.take j)).length = j := by unfold nn; rw [List.length_map, List.length_take]; omega
        rw [scheduler_fractions_atMost.l0.eq_2, if_pos (by omega), if_pos (by omega), if_pos (by omega), if_pos (by omega), e1, wrap_nat (by omega), List.take_succ_eq_append_getElem hj]
        unfold nn
        rw [List.map_append]
        rfl
      · obtain rfl : j = fs.length := by omega
        exact last
  exact go fs.length 0 (by omega) (by omega)
/-- The least whole number that the fractions do not exceed. -/
theorem least (N D : Int) (hN : 0 ≤ N) (hD : 0 < D) : ∃ m : Nat, ∀ j : Nat, N ≤ (j : Int) * D ↔ m ≤ j := by
  refine ⟨((N + D - 1) / D).toNat, fun j => ?_⟩
  have hq : 0 ≤ (N + D - 1) / D := Int.ediv_nonneg (by omega) (by omega)
  have h2 : (N + D - 1) / D ≤ (j : Int) ↔ N ≤ (j : Int) * D := by
    rw [← Int.lt_add_one_iff, Int.ediv_lt_iff_lt_mul hD]
    have : ((j : Int) + 1) * D = (j : Int) * D + D := by grind
    omega
  rw [← h2]; omega
theorem roundUp_ev (fs : List S73) (hl : fs.length ≤ 8) (hr : Rs (nn fs) (dn fs)) (m : Nat) (hm : ∀ j : Nat, num (nn fs) (dn fs) ≤ (j : Int) * den (dn fs) ↔ m ≤ j) :
    Ev (fun k => scheduler_fractions_roundUp.f k fs) (m : Int) := by
  have hb := hr.bound
  have hd : (dn fs).length = fs.length := by unfold dn; rw [List.length_map]
  have hm8 : m ≤ fs.length := (hm fs.length).mp (by have := hb.2.2.2; rwa [hd] at this)
  have go : ∀ (n j : Nat), m - j ≤ n → j ≤ m → Ev (fun k => scheduler_fractions_roundUp.l0 k fs (j : Int)) (m : Int) := by
    intro n
    induction n with
    | zero =>
      intro j h1 h2
      obtain rfl : j = m := by omega
      refine Ev.step (fun k => by rw [scheduler_fractions_roundUp.l0.eq_2]) (Ev.bind (atMost_ev fs hl hr (j : Int) (by omega) (by omega)) ?_)
      exact Ev.congr (fun k => by rw [if_pos (decide_eq_true ((hm j).mpr (Nat.le_refl j)))]) (Ev.now _)
    | succ n ih =>
      intro j h1 h2
      by_cases hj : j = m
      · subst hj
        refine Ev.step (fun k => by rw [scheduler_fractions_roundUp.l0.eq_2]) (Ev.bind (atMost_ev fs hl hr (j : Int) (by omega) (by omega)) ?_)
        exact Ev.congr (fun k => by rw [if_pos (decide_eq_true ((hm j).mpr (Nat.le_refl j)))]) (Ev.now _)
      · refine Ev.step (fun k => by rw [scheduler_fractions_roundUp.l0.eq_2]) (Ev.bind (atMost_ev fs hl hr (j : Int) (by omega) (by omega)) ?_)
        refine Ev.congr (fun k => ?_) (ih (j + 1) (by omega) (by omega))
        rw [if_neg (by rw [decide_eq_true_eq, hm j]; omega), wrap_nat (by omega)]
  exact go m 0 (by omega) (by omega)

/-! ## The reference's numbers, in digits of 20 bits -/
def B (n : Nat) : Int := 1048576 ^ n
theorem B0 : B 0 = 1 := rfl
theorem Bs (n : Nat) : B (n + 1) = 1048576 * B n := by unfold B; rw [Int.pow_succ, Int.mul_comm]
theorem Bp (n : Nat) : 0 < B n := Int.pow_pos (by decide)
/-- What the first n digits are worth. -/
def pv (a : List Int) : Nat → Int
  | 0 => 0
  | n + 1 => pv a n + B n * a.getD n 0
def bval (a : List Int) : Int := pv a a.length
def Dg (a : List Int) : Prop := ∀ x ∈ a, 0 ≤ x ∧ x < 1048576
theorem Dg.at {a : List Int} (h : Dg a) (n : Nat) : 0 ≤ a.getD n 0 ∧ a.getD n 0 < 1048576 := by
  rw [List.getD_eq_getElem?_getD]
  by_cases hn : n < a.length
  · rw [List.getElem?_eq_getElem hn]; exact h _ (List.getElem_mem hn)
  · rw [List.getElem?_eq_none (by omega)]; decide
theorem Dg.snoc {a : List Int} (h : Dg a) {d : Int} (h1 : 0 ≤ d) (h2 : d < 1048576) : Dg (a ++ [d]) := by
  intro x hx
  rcases List.mem_append.mp hx with hx | hx
  · exact h x hx
  · rw [List.mem_singleton.mp hx]; exact ⟨h1, h2⟩
theorem pv_ge (a : List Int) : ∀ n, a.length ≤ n → pv a n = bval a := by
  intro n
  induction n with
  | zero => intro h; obtain h : a.length = 0 := by omega
            unfold bval; rw [h]
  | succ n ih =>
    intro h
    by_cases hn : a.length = n + 1
    · unfold bval; rw [hn]
    · show pv a n + B n * a.getD n 0 = _
      rw [ih (by omega), List.getD_eq_getElem?_getD, List.getElem?_eq_none (by omega)]
      show _ + B n * 0 = _
      rw [Int.mul_zero, Int.add_zero]
theorem pv_append (a t : List Int) : ∀ n, n ≤ a.length → pv (a ++ t) n = pv a n := by
  intro n
  induction n with
  | zero => intro _; rfl
  | succ n ih =>
    intro h
    show pv (a ++ t) n + B n * (a ++ t).getD n 0 = pv a n + B n * a.getD n 0
    rw [ih (by omega), List.getD_eq_getElem?_getD, List.getD_eq_getElem?_getD, List.getElem?_append_left (by omega)]
theorem bval_snoc (a : List Int) (d : Int) : bval (a ++ [d]) = bval a + B a.length * d := by
  unfold bval
  rw [List.length_append]
  show pv (a ++ [d]) a.length + B a.length * (a ++ [d]).getD a.length 0 = _
  rw [pv_append a [d] _ (Nat.le_refl _), List.getD_eq_getElem?_getD, List.getElem?_append_right (Nat.le_refl _), Nat.sub_self]
  rfl
theorem pv_bound {a : List Int} (h : Dg a) : ∀ n, 0 ≤ pv a n ∧ pv a n < B n := by
  intro n
  induction n with
  | zero => exact ⟨Int.le_refl _, show (0 : Int) < B 0 by decide⟩
  | succ n ih =>
    have hx := h.at n
    have hb := Bp n
    have : 0 ≤ B n * a.getD n 0 := Int.mul_nonneg (by omega) hx.1
    have : B n * a.getD n 0 ≤ B n * 1048575 := Int.mul_le_mul_of_nonneg_left (by omega) (by omega)
    show 0 ≤ pv a n + B n * a.getD n 0 ∧ pv a n + B n * a.getD n 0 < B (n + 1)
    rw [Bs]; omega
theorem digit_at {a : List Int} {n : Nat} : trickleref40_digit.f a (n : Int) = some (a.getD n 0) := by
  unfold trickleref40_digit.f
  split
  · rw [if_pos (by omega)]; unfold rd; rw [Int.toNat_natCast]
  · rw [List.getD_eq_getElem?_getD, List.getElem?_eq_none (by omega)]; rfl
theorem rd_nat (a : List Int) (n : Nat) : rd a (n : Int) = a.getD n 0 := by unfold rd; rw [Int.toNat_natCast]
theorem tmod_at {a : Int} (h : 0 ≤ a) : Int.tmod a 1048576 = a % 1048576 := Int.tmod_eq_emod_of_nonneg h
theorem tdiv_at {a : Int} (h : 0 ≤ a) : Int.tdiv a 1048576 = a / 1048576 := Int.tdiv_eq_ediv_of_nonneg h
theorem split_at (s X : Int) : X * (s % 1048576) + 1048576 * X * (s / 1048576) = X * s := by
  have : s % 1048576 + 1048576 * (s / 1048576) = s := Int.emod_add_mul_ediv s 1048576
  grind

theorem mul_carry : ∀ (m : Nat) (c : Int) (out : List Int), 0 ≤ c → c < B m → c ≤ 2097152 → Dg out → out.length + m ≤ 1000 →
    ∃ z, Dg z ∧ z.length ≤ out.length + m ∧ bval z = bval out + B out.length * c ∧ Ev (fun k => trickleref40_Mul.l1 k out c) z := by
  intro m
  induction m with
  | zero =>
    intro c out h0 h1 h2 hd hl
    obtain rfl : c = 0 := by rw [B0] at h1; omega
    refine ⟨out, hd, by omega, by rw [Int.mul_zero, Int.add_zero], Ev.step (f := fun _ => some out) (fun k => ?_) (Ev.now _)⟩
    rw [trickleref40_Mul.l1.eq_2, if_neg (by decide)]
  | succ m ih =>
    intro c out h0 h1 h2 hd hl
    by_cases hc : c > 0
    · rw [Bs] at h1
      obtain ⟨z, z1, z2, z3, z4⟩ := ih (c / 1048576) (out ++ [c % 1048576]) (by omega) (by omega) (by omega) (hd.snoc (by omega) (by omega)) (by simp; omega)
      refine ⟨z, z1, by simp at z2; omega, ?_, Ev.step (fun k => ?_) z4⟩
      · rw [z3, bval_snoc, List.length_append]
        show _ + B (out.length + 1) * _ = _
        rw [Bs, Int.add_assoc, split_at]
      · rw [trickleref40_Mul.l1.eq_2, if_pos hc, if_pos (by omega), tmod_at h0, tdiv_at h0, w64 (by omega) (by omega)]
    · obtain rfl : c = 0 := by omega
      refine ⟨out, hd, by omega, by rw [Int.mul_zero, Int.add_zero], Ev.step (f := fun _ => some out) (fun k => ?_) (Ev.now _)⟩
      rw [trickleref40_Mul.l1.eq_2, if_neg (by decide)]
theorem mul_loop (x : List Int) (n : Int) (hn0 : 0 ≤ n) (hn : n ≤ 1048576) (hx : Dg x) (hl : x.length ≤ 900) : ∀ (m j : Nat), x.length - j ≤ m → j ≤ x.length → ∀ (out : List Int) (c : Int), out.length = j → Dg out → 0 ≤ c → c ≤ 1048576 → bval out + B j * c = n * pv x j →
    ∃ z, Dg z ∧ z.length ≤ x.length + 2 ∧ bval z = bval x * n ∧ Ev (fun k => trickleref40_Mul.l0 k n out c x (x.length : Int) (j : Int)) z := by
  have last : ∀ (out : List Int) (c : Int), out.length = x.length → Dg out → 0 ≤ c → c ≤ 1048576 → bval out + B x.length * c = n * pv x x.length →
    ∃ z, Dg z ∧ z.length ≤ x.length + 2 ∧ bval z = bval x * n ∧ Ev (fun k => trickleref40_Mul.l0 k n out c x (x.length : Int) (x.length : Int)) z := by
    intro out c ho hd h0 h1 he
    obtain ⟨z, z1, z2, z3, z4⟩ := mul_carry 2 c out h0 (by show c < 1048576 ^ 2; have : (1048576 : Int) ^ 2 = 1099511627776 := by decide
                                                           omega) (by omega) hd (by omega)
    refine ⟨z, z1, by omega, by rw [z3, ho, he, Int.mul_comm]; rfl, Ev.step (fun k => ?_) z4⟩
    rw [trickleref40_Mul.l0.eq_2, if_neg (by omega)]
  intro m
  induction m with
  | zero =>
    intro j h1 h2 out c ho hd h3 h4 he
    obtain rfl : j = x.length := by omega
    exact last out c ho hd h3 h4 he
  | succ m ih =>
    intro j h1 h2 out c ho hd h3 h4 he
    by_cases hj : j < x.length
    · have hxj := hx.at j
      have p1 : 0 ≤ x.getD j 0 * n := Int.mul_nonneg hxj.1 hn0
      have p2 : x.getD j 0 * n ≤ 1048575 * 1048576 := Int.mul_le_mul (by omega) hn hn0 (by omega)
      obtain ⟨z, z1, z2, z3, z4⟩ := ih (j + 1) (by omega) (by omega) (out ++ [(c + x.getD j 0 * n) % 1048576]) ((c + x.getD j 0 * n) / 1048576) (by simp [ho]) (hd.snoc (by omega) (by omega)) (by omega) (by omega) (by
        rw [bval_snoc, Bs, ho, Int.add_assoc, split_at]
        show _ = n * (pv x j + B j * x.getD j 0)
        grind)
      refine ⟨z, z1, z2, z3, Ev.step (fun k => ?_) z4⟩
      rw [trickleref40_Mul.l0.eq_2, if_pos (by omega), if_pos (by omega), if_pos (by omega), if_pos (by omega), rd_nat, w64 (a := x.getD j 0 * n) (by omega) (by omega), w64 (a := c + x.getD j 0 * n) (by omega) (by omega), tmod_at (by omega), tdiv_at (by omega), w64 (a := (c + x.getD j 0 * n) / 1048576) (by omega) (by omega), wrap_nat (by omega)]
    · obtain rfl : j = x.length := by omega
      exact last out c ho hd h3 h4 he
theorem mul_ev {x : List Int} {n : Int} (hn0 : 0 ≤ n) (hn : n ≤ 1048576) (hx : Dg x) (hl : x.length ≤ 900) : ∃ z, Dg z ∧ z.length ≤ x.length + 2 ∧ bval z = bval x * n ∧ Ev (fun k => trickleref40_Mul.f k x n) z :=
  mul_loop x n hn0 hn hx hl x.length 0 (by omega) (by omega) [] 0 rfl (fun _ h => by cases h) (by decide) (by decide) (by show (0 : Int) + B 0 * 0 = n * 0; omega)

theorem add_loop (a b : List Int) (ha : Dg a) (hb : Dg b) (L : Nat) (hla : a.length ≤ L) (hlb : b.length ≤ L) (hL : L = a.length ∨ L = b.length) (h9 : L ≤ 900) : ∀ (m j : Nat), L + 1 - j ≤ m → j ≤ L + 1 → ∀ (out : List Int) (c : Int), out.length = j → Dg out → 0 ≤ c → c ≤ 1 → (j = L + 1 → c = 0) → bval out + B j * c = pv a j + pv b j →
    ∃ z, Dg z ∧ z.length ≤ L + 1 ∧ bval z = bval a + bval b ∧ Ev (fun k => trickleref40_Add.l0 k a b out c (j : Int)) z := by
  have enter : ∀ (k j : Nat) (out : List Int) (c : Int), trickleref40_Add.l0 (k + 1) a b out c (j : Int) = trickleref40_Add.j1 k a b out c (j : Int) (decide (j < L ∨ c > 0)) := by
    intro k j out c
    rw [trickleref40_Add.l0.eq_2]
    by_cases h1 : (j : Int) < (a.length : Int)
    · rw [if_pos h1, decide_eq_true (show j < L ∨ c > 0 from .inl (by omega))]
    · rw [if_neg h1]
      by_cases h2 : (j : Int) < (b.length : Int)
      · rw [if_pos h2, decide_eq_true (show j < L ∨ c > 0 from .inl (by omega))]
      · rw [if_neg h2]
        congr 1
        apply decide_eq_decide.mpr
        omega
  have stop : ∀ (j : Nat) (out : List Int) (c : Int), ¬ (j < L ∨ c > 0) → j ≤ L + 1 → out.length = j → Dg out → 0 ≤ c → bval out + B j * c = pv a j + pv b j →
    ∃ z, Dg z ∧ z.length ≤ L + 1 ∧ bval z = bval a + bval b ∧ Ev (fun k => trickleref40_Add.l0 k a b out c (j : Int)) z := by
    intro j out c hn hj ho hd h0 he
    obtain rfl : c = 0 := by omega
    rw [Int.mul_zero, Int.add_zero, pv_ge a j (by omega), pv_ge b j (by omega)] at he
    refine ⟨out, hd, by omega, he, Ev.step (fun k => by rw [enter, decide_eq_false hn]) (Ev.step (f := fun _ => some out) (fun k => ?_) (Ev.now _))⟩
    rw [trickleref40_Add.j1.eq_2, if_neg (by decide)]
  intro m
  induction m with
  | zero =>
    intro j h1 h2 out c ho hd h3 h4 h5 he
    exact stop j out c (by have := h5 (by omega); omega) h2 ho hd h3 he
  | succ m ih =>
    intro j h1 h2 out c ho hd h3 h4 h5 he
    by_cases hc : j < L ∨ c > 0
    · have hj : j ≤ L := by rcases hc with h | h <;> omega
      have xa := ha.at j
      have xb := hb.at j
      obtain ⟨z, z1, z2, z3, z4⟩ := ih (j + 1) (by omega) (by omega) (out ++ [(c + a.getD j 0 + b.getD j 0) % 1048576]) ((c + a.getD j 0 + b.getD j 0) / 1048576) (by simp [ho]) (hd.snoc (by omega) (by omega)) (by omega) (by omega) (by
        intro hj1
        have ga : a.getD j 0 = 0 := by rw [List.getD_eq_getElem?_getD, List.getElem?_eq_none (by omega)]; rfl
        have gb : b.getD j 0 = 0 := by rw [List.getD_eq_getElem?_getD, List.getElem?_eq_none (by omega)]; rfl
        omega) (by
        rw [bval_snoc, Bs, ho, Int.add_assoc, split_at]
        show _ = pv a j + B j * a.getD j 0 + (pv b j + B j * b.getD j 0)
        grind)
      refine ⟨z, z1, z2, z3, Ev.step (fun k => by rw [enter, decide_eq_true hc]) (Ev.step (fun k => ?_) z4)⟩
      rw [trickleref40_Add.j1.eq_2, if_pos rfl, digit_at, Option.bind_some, digit_at, Option.bind_some, if_pos (by omega), w64 (a := c + a.getD j 0) (by omega) (by omega), w64 (a := c + a.getD j 0 + b.getD j 0) (by omega) (by omega), tmod_at (by omega), tdiv_at (by omega), w64 (a := (c + a.getD j 0 + b.getD j 0) / 1048576) (by omega) (by omega), wrap_nat (by omega)]
    · exact stop j out c hc h2 ho hd h3 he
theorem add_ev {a b : List Int} (ha : Dg a) (hb : Dg b) {L : Nat} (hla : a.length ≤ L) (hlb : b.length ≤ L) (h9 : L ≤ 900) : ∃ z, Dg z ∧ z.length ≤ L + 1 ∧ bval z = bval a + bval b ∧ Ev (fun k => trickleref40_Add.f k a b) z := by
  obtain ⟨M, m1, m2, m3, m4⟩ : ∃ M : Nat, a.length ≤ M ∧ b.length ≤ M ∧ (M = a.length ∨ M = b.length) ∧ M ≤ L := by
    by_cases h : a.length ≤ b.length
    · exact ⟨b.length, h, Nat.le_refl _, .inr rfl, hlb⟩
    · exact ⟨a.length, Nat.le_refl _, by omega, .inl rfl, hla⟩
  obtain ⟨z, z1, z2, z3, z4⟩ := add_loop a b ha hb M m1 m2 m3 (by omega) (M + 1) 0 (by omega) (by omega) [] 0 rfl (fun _ h => by cases h) (by decide) (by decide) (fun h => rfl) (by show (0 : Int) + B 0 * 0 = 0 + 0; omega)
  exact ⟨z, z1, by omega, z3, z4⟩
theorem less_loop (a b : List Int) (ha : Dg a) (hb : Dg b) : ∀ i : Nat, i ≤ 1000000 → Ev (fun k => trickleref40_Less.l0 k a b ((i : Int) - 1)) (decide (pv a i < pv b i)) := by
  intro i
  induction i with
  | zero =>
    intro _
    refine Ev.step (f := fun _ => some _) (fun k => ?_) (Ev.now _)
    rw [trickleref40_Less.l0.eq_2, if_neg (by omega)]
    rfl
  | succ i ih =>
    intro hi
    have e : ((i + 1 : Nat) : Int) - 1 = (i : Int) := by omega
    have a1 := pv_bound ha i
    have b1 := pv_bound hb i
    have hB := Bp i
    rw [e]
    by_cases hd : a.getD i 0 = b.getD i 0
    · have : decide (pv a (i + 1) < pv b (i + 1)) = decide (pv a i < pv b i) := by
        apply decide_eq_decide.mpr
        show pv a i + B i * a.getD i 0 < pv b i + B i * b.getD i 0 ↔ _
        rw [hd]; omega
      rw [this]
      refine Ev.step (fun k => ?_) (ih (by omega))
      rw [trickleref40_Less.l0.eq_2, if_pos (by omega), digit_at, Option.bind_some, digit_at, Option.bind_some, if_pos hd, w64 (by omega) (by omega)]
    · have : decide (pv a (i + 1) < pv b (i + 1)) = decide (a.getD i 0 < b.getD i 0) := by
        apply decide_eq_decide.mpr
        show pv a i + B i * a.getD i 0 < pv b i + B i * b.getD i 0 ↔ _
        constructor
        · intro h
          apply Int.not_le.mp
          intro hle
          have : B i * (b.getD i 0 + 1) ≤ B i * a.getD i 0 := Int.mul_le_mul_of_nonneg_left (by omega) (by omega)
          have : B i * (b.getD i 0 + 1) = B i * b.getD i 0 + B i := by grind
          omega
        · intro h
          have : B i * (a.getD i 0 + 1) ≤ B i * b.getD i 0 := Int.mul_le_mul_of_nonneg_left (by omega) (by omega)
          have : B i * (a.getD i 0 + 1) = B i * a.getD i 0 + B i := by grind
          omega
      rw [this]
      refine Ev.step (f := fun _ => some _) (fun k => ?_) (Ev.now _)
      rw [trickleref40_Less.l0.eq_2, if_pos (by omega), digit_at, Option.bind_some, digit_at, Option.bind_some, if_neg hd]
      rfl
theorem less_ev {a b : List Int} (ha : Dg a) (hb : Dg b) (hla : a.length ≤ 900) (hlb : b.length ≤ 900) : Ev (fun k => trickleref40_Less.f k a b) (decide (bval a < bval b)) := by
  obtain ⟨M, m1, m2, m3, m4⟩ : ∃ M : Nat, a.length ≤ M ∧ b.length ≤ M ∧ mx (a.length : Int) (b.length : Int) = (M : Int) ∧ M ≤ 900 := by
    unfold mx
    by_cases h : a.length < b.length
    · exact ⟨b.length, by omega, Nat.le_refl _, if_pos (by omega), hlb⟩
    · exact ⟨a.length, Nat.le_refl _, by omega, if_neg (by omega), hla⟩
  have := less_loop a b ha hb M (by omega)
  rw [pv_ge a M m1, pv_ge b M m2] at this
  unfold trickleref40_Less.f
  rw [m3, w64 (by omega) (by omega)]
  exact this

/-! ## Whether the fractions exceed a whole number: the reference -/
theorem exceeds_loop (u : Int) (hu : 0 ≤ u) (hu8 : u ≤ 8) (x0 x1 : List Int) (hx8 : x0.length ≤ 8) : ∀ (nb db na da : List Int), x0 = na ++ nb → x1 = da ++ db → na.length = da.length → Rs nb db → ∀ (p q : List Int), Dg p → Dg q → p.length + 4 * nb.length ≤ 800 → q.length + 4 * nb.length ≤ 800 →
    Ev (fun k => trickleref40_exceeds.l0 k x0 x1 u p q (x0.length : Int) (na.length : Int)) (decide (bval q * den db * u < bval p * den db + bval q * num nb db))
  | [], [], na, da, e0, e1, hl, _, p, q, hp, hq, lp, lq => by
    obtain ⟨z, z1, z2, z3, z4⟩ := mul_ev hu (by omega) hq (show q.length ≤ 900 by omega)
    have h := less_ev z1 hp (by omega) (by omega)
    have eq : decide (bval q * den [] * u < bval p * den [] + bval q * num [] []) = decide (bval z < bval p) := by
      rw [z3]
      show decide (bval q * 1 * u < bval p * 1 + bval q * 0) = _
      rw [Int.mul_one, Int.mul_one, Int.mul_zero, Int.add_zero]
    rw [eq]
    refine Ev.step (f := fun k => (trickleref40_Mul.f k q u).bind fun t195 => ((trickleref40_Less.f k t195 p).bind fun t198 => (some t198))) (fun k => ?_) (Ev.bind z4 (Ev.bind h (Ev.now _)))
    rw [trickleref40_exceeds.l0.eq_2, if_neg (by rw [e0]; simp)]
  | n :: nb, d :: db, na, da, e0, e1, hl, ⟨r1, r2, r3, r4⟩, p, q, hp, hq, lp, lq => by
    simp only [List.length_cons] at lp lq
    obtain ⟨s, s1, s2, s3, s4⟩ := mul_ev (n := d) (by omega) r3 hp (show p.length ≤ 900 by omega)
    obtain ⟨t, t1, t2, t3, t4⟩ := mul_ev (n := n) r1 (by omega) hq (show q.length ≤ 900 by omega)
    obtain ⟨v, v1, v2, v3, v4⟩ := add_ev (L := 799 - 4 * nb.length) s1 t1 (by omega) (by omega) (by omega)
    obtain ⟨y, y1, y2, y3, y4⟩ := mul_ev (n := d) (by omega) r3 hq (show q.length ≤ 900 by omega)
    have ih := exceeds_loop u hu hu8 x0 x1 hx8 nb db (na ++ [n]) (da ++ [d]) (by rw [e0]; simp) (by rw [e1]; simp) (by simp [hl]) r4 v y v1 y1 (by omega) (by omega)
    have eq : decide (bval q * den (d :: db) * u < bval p * den (d :: db) + bval q * num (n :: nb) (d :: db)) = decide (bval y * den db * u < bval v * den db + bval y * num nb db) := by
      rw [v3, s3, t3, y3]
      show decide (bval q * (d * den db) * u < bval p * (d * den db) + bval q * (n * den db + d * num nb db)) = _
      congr 2 <;> grind
    rw [eq]
    have l0 : x0.length = na.length + (nb.length + 1) := by rw [e0]; simp
    have l1 : x1.length = da.length + (db.length + 1) := by rw [e1]; simp
    have g1 : rd x1 (na.length : Int) = d := by rw [hl, e1]; exact rd_mid _ _ _
    have g0 : rd x0 (na.length : Int) = n := by rw [e0]; exact rd_mid _ _ _
    have hlr := r4.len
    refine Ev.step (f := fun k => (trickleref40_Mul.f k p d).bind fun t200 => (trickleref40_Mul.f k q n).bind fun t204 => (trickleref40_Add.f k t200 t204).bind fun t207 => (trickleref40_Mul.f k q d).bind fun t211 => trickleref40_exceeds.l0 k x0 x1 u t207 t211 (x0.length : Int) ((na ++ [n]).length : Int)) (fun k => ?_) (Ev.bind s4 (Ev.bind t4 (Ev.bind v4 (Ev.bind y4 ih))))
    rw [trickleref40_exceeds.l0.eq_2, if_pos (by omega), if_pos (by omega), if_pos (by omega), g1, g0, wrap_nat (by omega), List.length_append]
    simp only [if_pos (show (na.length : Int) < (x0.length : Int) by omega)]
    rfl
theorem exceeds_ev {ns ds : List Int} (h : Rs ns ds) (hl : ns.length ≤ 8) (u : Int) (hu : 0 ≤ u) (hu8 : u ≤ 8) : Ev (fun k => trickleref40_exceeds.f k ns ds u) (decide (den ds * u < num ns ds)) := by
  have := exceeds_loop u hu hu8 ns ds hl ns ds [] [] rfl rfl rfl h [] [1] (fun _ h => by cases h) (fun x h => by rw [List.mem_singleton.mp h]; decide) (by show 0 + 4 * ns.length ≤ 800; omega) (by show 1 + 4 * ns.length ≤ 800; omega)
  have e : bval [1] = 1 := by decide
  have e' : bval [] = 0 := by decide
  rw [e, e', Int.one_mul, Int.one_mul, Int.zero_mul, Int.zero_add] at this
  exact this

/-- The reference's answer: the least whole number. -/
theorem units_ev {ns ds : List Int} (h : Rs ns ds) (hl : ns.length ≤ 8) (w : Int) (m : Nat) (hm : ∀ j : Nat, num ns ds ≤ (j : Int) * den ds ↔ m ≤ j) :
    Ev (fun k => trickleref40_Utilization.l1 k w ns ds 0) (wrap64 (w + m), (0 : Int)) := by
  have hb := h.bound
  have hm8 : m ≤ ns.length := (hm ns.length).mp (by rw [h.len]; exact hb.2.2.2)
  have go : ∀ (n j : Nat), m - j ≤ n → j ≤ m → Ev (fun k => trickleref40_Utilization.l1 k w ns ds (j : Int)) (wrap64 (w + m), (0 : Int)) := by
    have stop : Ev (fun k => trickleref40_Utilization.l1 k w ns ds (m : Int)) (wrap64 (w + m), (0 : Int)) := by
      by_cases hlt : m < ns.length
      · refine Ev.step (fun k => by rw [trickleref40_Utilization.l1.eq_2, if_pos (by omega)]) (Ev.bind (exceeds_ev h hl (m : Int) (by omega) (by omega)) ?_)
        refine Ev.congr (fun k => ?_) (Ev.now _)
        rw [if_neg (by rw [decide_eq_true_eq, Int.mul_comm]; have := (hm m).mpr (Nat.le_refl m); omega)]
      · refine Ev.step (f := fun _ => some _) (fun k => ?_) (Ev.now _)
        rw [trickleref40_Utilization.l1.eq_2, if_neg (by omega)]
    intro n
    induction n with
    | zero =>
      intro j h1 h2
      obtain rfl : j = m := by omega
      exact stop
    | succ n ih =>
      intro j h1 h2
      by_cases hj : j = m
      · subst hj; exact stop
      · refine Ev.step (fun k => by rw [trickleref40_Utilization.l1.eq_2, if_pos (by omega)]) (Ev.bind (exceeds_ev h hl (j : Int) (by omega) (by omega)) ?_)
        refine Ev.congr (fun k => ?_) (ih (j + 1) (by omega) (by omega))
        rw [if_pos (by rw [decide_eq_true_eq, Int.mul_comm]; have := hm j; omega), wrap_nat (by omega)]
  exact go m 0 (by omega) (by omega)

/-! ## The sums of both -/
/-- The program's sum and the reference's: the same whole part; the program's fractions are the reference's and some zeros. -/
def Two (j : Nat) (s : Int × List S73) (w : Int) (ns ds : List Int) : Prop :=
  s.1 = w ∧ 0 ≤ w ∧ w ≤ 1048576000 * j ∧ s.2.length ≤ j ∧ ns.length ≤ j ∧ Rs (nn s.2) (dn s.2) ∧ Rs ns ds ∧ ∃ Z : Int, 0 < Z ∧ den (dn s.2) = Z * den ds ∧ num (nn s.2) (dn s.2) = Z * num ns ds
theorem Two.least {j : Nat} {s : Int × List S73} {w : Int} {ns ds : List Int} (h : Two j s w ns ds) (m : Nat) (hm : ∀ i : Nat, num ns ds ≤ (i : Int) * den ds ↔ m ≤ i) : ∀ i : Nat, num (nn s.2) (dn s.2) ≤ (i : Int) * den (dn s.2) ↔ m ≤ i := by
  obtain ⟨_, _, _, _, _, _, _, Z, hZ, e1, e2⟩ := h
  intro i
  rw [← hm i, e1, e2, show (i : Int) * (Z * den ds) = Z * ((i : Int) * den ds) by grind]
  exact ⟨fun h => Int.le_of_mul_le_mul_left h hZ, fun h => Int.mul_le_mul_of_nonneg_left h (by omega)⟩
theorem nn_snoc (l : List S73) (x : S73) : nn (l ++ [x]) = nn l ++ [x.f0] := by unfold nn; rw [List.map_append]; rfl
theorem dn_snoc (l : List S73) (x : S73) : dn (l ++ [x]) = dn l ++ [x.f1] := by unfold dn; rw [List.map_append]; rfl
theorem Two.zero : Two 0 (0, []) 0 [] [] := ⟨rfl, by decide, by decide, by decide, by decide, trivial, trivial, 1, by decide, rfl, rfl⟩
theorem outB_in {n : Int} (h : outB n = false) : 0 ≤ n ∧ n ≤ 1048576 := by
  unfold outB at h
  rw [Bool.or_eq_false_iff, decide_eq_false_iff_not, decide_eq_false_iff_not] at h
  omega
theorem getD_drop {l : List Int} {j : Nat} (h : j < l.length) : l.drop j = l.getD j 0 :: l.drop (j + 1) := by
  rw [List.drop_eq_getElem_cons h, List.getD_eq_getElem?_getD, List.getElem?_eq_getElem h]; rfl
theorem sum_loop (l0 l1 : List Int) (hl : l0.length = l1.length) (h8 : l0.length ≤ 8) (r : Int × Int) : ∀ (n j : Nat), l0.length - j ≤ n → j ≤ l0.length → ∀ (w : Int) (ns ds : List Int), Two j (utSum l0 l1 j) w ns ds →
    ((l0.drop j).any outB = true ∨ (l1.drop j).any outB = true → r = (0, 1)) →
    ((l0.drop j).any outB = false → (l1.drop j).any outB = false → ∀ w ns ds, Two l0.length (utSum l0 l1 l0.length) w ns ds → Ev (fun k => trickleref40_Utilization.l1 k w ns ds 0) r) →
    Ev (fun k => trickleref40_Utilization.l0 k l1 w ns ds l0 (l0.length : Int) (j : Int)) r := by
  intro n
  induction n with
  | zero =>
    intro j h1 h2 w ns ds ht hb hg
    obtain rfl : j = l0.length := by omega
    refine Ev.step (fun k => ?_) (hg (by rw [List.drop_length]; rfl) (by rw [hl, List.drop_length]; rfl) w ns ds ht)
    rw [trickleref40_Utilization.l0.eq_2, if_neg (by omega)]
  | succ n ih =>
    intro j h1 h2 w ns ds ht hb hg
    by_cases hj : j < l0.length
    · rw [getD_drop hj, getD_drop (show j < l1.length by omega), List.any_cons, List.any_cons] at hb
      rw [getD_drop hj, getD_drop (show j < l1.length by omega), List.any_cons, List.any_cons] at hg
      have hsum : utSum l0 l1 (j + 1) = utStep (utSum l0 l1 j) (l0.getD j 0) (l1.getD j 0) := rfl
      generalize hp : l0.getD j 0 = p at *
      generalize htk : l1.getD j 0 = t at *
      have enter : ∀ k, trickleref40_Utilization.l0 (k + 1) l1 w ns ds l0 (l0.length : Int) (j : Int) = trickleref40_Utilization.j2 k l1 w ns ds (j : Int) p l0 (l0.length : Int) (j : Int) (outB p || outB t) := by
        intro k
        rw [trickleref40_Utilization.l0.eq_2, if_pos (by omega), if_pos (by omega), if_pos (by omega), rd_nat, hp, rd_nat, htk]
        unfold outB
        by_cases q1 : p < 0
        · rw [if_pos q1, decide_eq_true q1]; rfl
        · rw [if_neg q1, decide_eq_false q1]
          by_cases q2 : p > 1048576
          · rw [if_pos q2, decide_eq_true q2]; rfl
          · rw [if_neg q2, decide_eq_false (show ¬ 1048576 < p from q2), if_pos (by omega)]
            by_cases q3 : t < 0
            · rw [if_pos q3, decide_eq_true q3]; rfl
            · rw [if_neg q3, decide_eq_false q3]; rfl
      cases hbad : (outB p || outB t) with
      | true =>
        have : r = (0, 1) := by
          rw [Bool.or_eq_true] at hbad
          refine hb (hbad.imp (fun h => ?_) (fun h => ?_)) <;> rw [h] <;> rfl
        rw [this]
        refine Ev.step (fun k => by rw [enter, hbad]) (Ev.step (f := fun _ => some _) (fun k => ?_) (Ev.now _))
        rw [trickleref40_Utilization.j2.eq_2, if_pos rfl]
      | false =>
        rw [Bool.or_eq_false_iff] at hbad
        rw [hbad.1, hbad.2, Bool.false_or, Bool.false_or] at hb hg
        obtain ⟨p0, p1⟩ := outB_in hbad.1
        obtain ⟨t0, t1⟩ := outB_in hbad.2
        have hbad' : (outB p || outB t) = false := by rw [hbad.1, hbad.2]; rfl
        obtain ⟨a1, a2, a3, a4, a5, a6, a7, Z, a8, a9, a10⟩ := ht
        by_cases hz : p = 0
        · have := ih (j + 1) (by omega) (by omega) w ns ds (by
            rw [hsum]; unfold utStep; rw [if_pos (by omega)]
            exact ⟨a1, a2, by omega, by omega, by omega, a6, a7, Z, a8, a9, a10⟩) hb hg
          refine Ev.step (fun k => by rw [enter, hbad']) (Ev.step (fun k => ?_) this)
          rw [trickleref40_Utilization.j2.eq_2, if_neg (by decide), if_pos hz, wrap_nat (by omega)]
        · have hs : utSum l0 l1 (j + 1) = ((utSum l0 l1 j).1 + t * 1000 / p, (utSum l0 l1 j).2 ++ [⟨t * 1000 % p, p⟩]) := by
            rw [hsum]; unfold utStep; rw [if_neg (by omega)]
          have m0 : 0 ≤ t * 1000 % p := Int.emod_nonneg _ (by omega)
          have m1 : t * 1000 % p < p := Int.emod_lt_of_pos _ (by omega)
          have d0 : 0 ≤ t * 1000 / p := Int.ediv_nonneg (by omega) (by omega)
          have d1 : t * 1000 / p ≤ t * 1000 := Int.ediv_le_self _ (by omega)
          have e1 : wrap64 (1000 * t) = t * 1000 := by rw [w64 (by omega) (by omega)]; omega
          have e2 : Int.tmod (t * 1000) p = t * 1000 % p := Int.tmod_eq_emod_of_nonneg (by omega)
          have e3 : Int.tdiv (t * 1000) p = t * 1000 / p := Int.tdiv_eq_ediv_of_nonneg (by omega)
          have e4 : wrap64 (t * 1000 / p) = t * 1000 / p := w64 (by omega) (by omega)
          have e5 : wrap64 (w + t * 1000 / p) = w + t * 1000 / p := w64 (by omega) (by omega)
          have r1 : Rs (nn (utSum l0 l1 (j + 1)).2) (dn (utSum l0 l1 (j + 1)).2) := by
            rw [hs, nn_snoc, dn_snoc]; exact a6.snoc m0 m1 p1
          have f1 : den (dn (utSum l0 l1 (j + 1)).2) = den (dn (utSum l0 l1 j).2) * p := by rw [hs, dn_snoc, den_snoc]
          have f2 : num (nn (utSum l0 l1 (j + 1)).2) (dn (utSum l0 l1 (j + 1)).2) = num (nn (utSum l0 l1 j).2) (dn (utSum l0 l1 j).2) * p + t * 1000 % p * den (dn (utSum l0 l1 j).2) := by rw [hs, nn_snoc, dn_snoc, num_snoc a6.len]
          have f3 : (utSum l0 l1 (j + 1)).2.length = (utSum l0 l1 j).2.length + 1 := by rw [hs]; simp
          have f4 : (utSum l0 l1 (j + 1)).1 = (utSum l0 l1 j).1 + t * 1000 / p := by rw [hs]
          by_cases hr : t * 1000 % p > 0
          · have := ih (j + 1) (by omega) (by omega) (w + t * 1000 / p) (ns ++ [t * 1000 % p]) (ds ++ [p]) (by
              refine ⟨by rw [f4, a1], by omega, by omega, by omega, by simp; omega, r1, a7.snoc m0 m1 p1, Z, a8, ?_, ?_⟩
              · rw [f1, a9, den_snoc]; grind
              · rw [f2, a9, a10, num_snoc a7.len]; grind) hb hg
            have hlr := a7.len
            refine Ev.step (fun k => by rw [enter, hbad']) (Ev.step (fun k => ?_) this)
            rw [trickleref40_Utilization.j2.eq_2, if_neg (by decide), if_neg hz, if_pos (by omega), if_pos (by omega), rd_nat, htk, e1, e2, if_pos hr, if_pos (by omega), if_pos (by omega), e3, e4, e5, wrap_nat (by omega)]
          · have hr0 : t * 1000 % p = 0 := by omega
            have := ih (j + 1) (by omega) (by omega) (w + t * 1000 / p) ns ds (by
              refine ⟨by rw [f4, a1], by omega, by omega, by omega, by omega, r1, a7, Z * p, Int.mul_pos a8 (by omega), ?_, ?_⟩
              · rw [f1, a9]; grind
              · rw [f2, a9, a10, hr0]; grind) hb hg
            refine Ev.step (fun k => by rw [enter, hbad']) (Ev.step (fun k => ?_) this)
            rw [trickleref40_Utilization.j2.eq_2, if_neg (by decide), if_neg hz, if_pos (by omega), if_pos (by omega), rd_nat, htk, e1, e2, if_neg hr, e3, e4, e5, wrap_nat (by omega)]
    · obtain rfl : j = l0.length := by omega
      refine Ev.step (fun k => ?_) (hg (by rw [List.drop_length]; rfl) (by rw [hl, List.drop_length]; rfl) w ns ds ht)
      rw [trickleref40_Utilization.l0.eq_2, if_neg (by omega)]

/-- Both answer the same. -/
theorem both_ev (l0 l1 : List Int) : ∃ r : Int × Int, Ev (fun k => scheduler_Utilization.f k l0 l1) r ∧ Ev (fun k => trickleref40_Utilization.f k l0 l1) r := by
  have bad : Ev (fun k => trickleref40_Utilization.j0 k l0 l1 true) (0, 1) := Ev.step (f := fun _ => some _) (fun k => by rw [trickleref40_Utilization.j0.eq_2, if_pos rfl]) (Ev.now _)
  unfold scheduler_Utilization.f trickleref40_Utilization.f
  by_cases hl : l0.length = l1.length
  · by_cases h8 : 8 < l0.length
    · refine ⟨(0, 1), Ev.congr (fun k => by rw [if_pos hl, if_pos h8]) (Ev.now _), Ev.congr (fun k => ?_) bad⟩
      rw [if_pos (by omega), decide_eq_true (show (l0.length : Int) > 8 by omega)]
    · have refr : ∀ r, Ev (fun k => trickleref40_Utilization.l0 k l1 0 [] [] l0 (l0.length : Int) 0) r → Ev (fun k => if (l0.length : Int) = (l1.length : Int) then trickleref40_Utilization.j0 k l0 l1 (decide ((l0.length : Int) > 8)) else trickleref40_Utilization.j0 k l0 l1 true) r := by
        intro r h
        refine Ev.congr (f := fun k => trickleref40_Utilization.j0 k l0 l1 false) (fun k => by rw [if_pos (by omega), decide_eq_false (show ¬ (l0.length : Int) > 8 by omega)]) (Ev.step (fun k => ?_) h)
        rw [trickleref40_Utilization.j0.eq_2, if_neg (by decide)]
      by_cases hb : l0.any outB = true ∨ l1.any outB = true
      · refine ⟨(0, 1), Ev.congr (fun k => ?_) (Ev.now _), refr _ (sum_loop l0 l1 hl (by omega) (0, 1) l0.length 0 (by omega) (by omega) 0 [] [] Two.zero (fun _ => rfl) (fun h1 h2 => ?_))⟩
        · rw [if_pos hl, if_neg h8]
          by_cases h0 : l0.any outB = true
          · rw [if_pos h0]
          · rw [if_neg h0, if_pos (hb.resolve_left h0)]
        · rw [List.drop_zero] at h1 h2
          rw [h1, h2] at hb
          simp at hb
      · have h0 : l0.any outB = false := by cases h : l0.any outB with | false => rfl | true => exact absurd (.inl h) hb
        have h1 : l1.any outB = false := by cases h : l1.any outB with | false => rfl | true => exact absurd (.inr h) hb
        -- the sums end in a relation; take one run of the reference to know it
        have key : ∀ w ns ds, Two l0.length (utSum l0 l1 l0.length) w ns ds → ∃ m : Nat, (∀ i : Nat, num (nn (utSum l0 l1 l0.length).2) (dn (utSum l0 l1 l0.length).2) ≤ (i : Int) * den (dn (utSum l0 l1 l0.length).2) ↔ m ≤ i) ∧ Ev (fun k => trickleref40_Utilization.l1 k w ns ds 0) (wrap64 (w + m), (0 : Int)) := by
          intro w ns ds ht
          obtain ⟨m, hm⟩ := least (num ns ds) (den ds) ht.2.2.2.2.2.2.1.bound.2.2.1 ht.2.2.2.2.2.2.1.bound.1
          exact ⟨m, ht.least m hm, units_ev ht.2.2.2.2.2.2.1 (by have := ht.2.2.2.2.1; omega) w m hm⟩
        obtain ⟨w, ns, ds, ht⟩ : ∃ w ns ds, Two l0.length (utSum l0 l1 l0.length) w ns ds := by
          apply Classical.byContradiction
          intro hno
          have hno : ∀ w ns ds, ¬ Two l0.length (utSum l0 l1 l0.length) w ns ds := fun w ns ds h => hno ⟨w, ns, ds, h⟩
          have a := sum_loop l0 l1 hl (by omega) (0, 0) l0.length 0 (by omega) (by omega) 0 [] [] Two.zero (by rw [List.drop_zero, List.drop_zero, h0, h1]; intro h; simp at h) (fun _ _ w ns ds h => absurd h (hno w ns ds))
          have b := sum_loop l0 l1 hl (by omega) (0, 1) l0.length 0 (by omega) (by omega) 0 [] [] Two.zero (fun _ => rfl) (fun _ _ w ns ds h => absurd h (hno w ns ds))
          obtain ⟨K, hK⟩ := a
          obtain ⟨K', hK'⟩ := b
          have e := (hK (K + K') (by omega)).symm.trans (hK' (K + K') (by omega))
          simp at e
        obtain ⟨m, hm, _⟩ := key w ns ds ht
        refine ⟨(wrap64 (w + m), 0), ?_, refr _ (sum_loop l0 l1 hl (by omega) _ l0.length 0 (by omega) (by omega) 0 [] [] Two.zero (by rw [List.drop_zero, List.drop_zero, h0, h1]; intro h; simp at h) (fun _ _ w' ns' ds' ht' => ?_))⟩
        · refine Ev.congr (f := fun k => (scheduler_fractions_roundUp.f k (utSum l0 l1 l0.length).2).bind fun n => some (wrap64 ((utSum l0 l1 l0.length).1 + n), 0)) (fun k => by rw [if_pos hl, if_neg h8, if_neg (by rw [h0]; decide), if_neg (by rw [h1]; decide)]) ?_
          refine Ev.bind (roundUp_ev _ (by have := ht.2.2.2.1; omega) ht.2.2.2.2.2.1 m hm) ?_
          rw [ht.1]
          exact Ev.now _
        · obtain ⟨m', hm', h'⟩ := key w' ns' ds' ht'
          have e1 : m' = m := by
            have a := (hm m').symm.trans (hm' m')
            have b := (hm m).symm.trans (hm' m)
            omega
          have e2 : w' = w := ht'.1.symm.trans ht.1
          rw [e1, e2] at h'
          rw [e2]
          exact h'
  · refine ⟨(0, 1), Ev.congr (fun k => by rw [if_neg hl]) (Ev.now _), Ev.congr (fun k => ?_) bad⟩
    rw [if_neg (by omega)]

theorem SchedulerUtilization : tricklelaw40_SchedulerUtilization.Pure := by
  intro l0 l1 _ _ _ _ _ _
  apply Ev.rounds
  unfold tricklelaw40_SchedulerUtilization.f
  refine Ev.bind awake_ev ?_
  obtain ⟨r, e1, e2⟩ := both_ev l0 l1
  have tt : Ev (fun k => tricklelaw40_SchedulerUtilization.j0 k l0 l1 true) true := Ev.step (f := fun _ => some true) (fun k => by rw [tricklelaw40_SchedulerUtilization.j0.eq_2, if_pos rfl]) (Ev.now _)
  have ff : Ev (fun k => tricklelaw40_SchedulerUtilization.j0 k l0 l1 false) true := by
    refine Ev.step (fun k => by rw [tricklelaw40_SchedulerUtilization.j0.eq_2, if_neg (by decide)]) (Ev.bind e1 (Ev.bind e2 ?_))
    exact Ev.congr (fun k => by rw [if_pos rfl, beq_self_eq_true]) (Ev.now true)
  by_cases h : (l0.length : Int) > 20
  · exact Ev.congr (fun k => by rw [if_pos rfl, if_pos h]) tt
  · by_cases h' : (l1.length : Int) > 20
    · exact Ev.congr (fun k => by rw [if_pos rfl, if_neg h, decide_eq_true h']) tt
    · exact Ev.congr (fun k => by rw [if_pos rfl, if_neg h, decide_eq_false h']) ff
end Go.Proofs.Ytlklcfaejmeljaa.Pure
