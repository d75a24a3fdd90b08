/- What this claim needs of Arr. Parted by prune.py. -/
import Derived.ChangeKeysEq
import Derived.Laws.StructEq
import Derived.OpenShut
import Derived.Test.YtleafbihfmiidaaDoorZ5W
import Derived.Test.YtleafbihfmiidaaDoorZ5Ka
namespace Go.Proofs.YtleafbihfmiidaaDoor.Arr
open Go.RowKit Go.Proofs.YtleafbihfmiidaaDoorW.PrintWords
section
variable {P : Program} {w : World} {e t : TypeId} {k k' : IntKind}
theorem eqItems_ints (he : P.plainKey e = true) (hu : P.underlying e = some (.int k')) (d : Nat) (al bl : List Int) (n : Nat) (ha : al.length = n) (hb : bl.length = n) :
    ∀ is : List Nat, (∀ i ∈ is, i < n) → (Op.eqItems (d + 1) e 1 (nums k al).toArray (nums k bl).toArray is).run P w = .ok (is.all fun i => al.getD i 0 == bl.getD i 0) w := by
  intro is
  induction is with
  | nil => intro _; simp [Op.eqItems]
  | cons i is ih =>
    intro h
    have hi := h i (by simp)
    have p1 : (part e (nums k al).toArray (i * 1)).run P w = .ok (.int k (al.getD i 0)) w :=
      run_part_plain w he (by simp [nums, List.getElem?_eq_getElem (show i < al.length by omega), List.getD_eq_getElem?_getD])
    have p2 : (part e (nums k bl).toArray (i * 1)).run P w = .ok (.int k (bl.getD i 0)) w :=
      run_part_plain w he (by simp [nums, List.getElem?_eq_getElem (show i < bl.length by omega), List.getD_eq_getElem?_getD])
    have p3 := run_equalIn_int (P := P) (w := w) d e k k' (al.getD i 0) (bl.getD i 0) hu
    have ih := ih (fun j hj => h j (by simp [hj]))
    simp only [Op.eqItems, Sem.run_bind, p1, p2, p3, Result.andThen_ok, List.all_cons]
    cases hc : (al.getD i 0 == bl.getD i 0)
    · simp
    · simpa using ih
theorem eq_ints (he : P.plainKey e = true) (hu : P.underlying e = some (.int k')) (n : Nat) (ht : P.underlying t = some (.array n e)) {i : TypeInfo} (hi : P.info? e = some i) (h1 : P.cellsOf e = 1) (d : Nat) (al bl : List Int) (ha : al.length = n) (hb : bl.length = n) :
    (Op.equalIn (d + 2) t (.agg (nums k al).toArray) (.agg (nums k bl).toArray)).run P w = .ok (decide (al = bl)) w := by
  rw [run_equalIn_array (d + 1) (w := w) _ _ ht hi, h1, eqItems_ints he hu d al bl n ha hb _ (fun j hj => by simpa using hj)]
  congr 1
  rw [Bool.eq_iff_iff, List.all_eq_true, decide_eq_true_iff]
  constructor
  · intro h
    apply List.ext_getElem (by omega)
    intro j h1 h2
    have := h j (by simpa using (by omega : j < n))
    simpa [List.getElem?_eq_getElem h1, List.getElem?_eq_getElem h2, List.getD_eq_getElem?_getD] using this
  · rintro rfl j _
    simp
end
section
open Go.WideShapes Go.ChangeShapes Go.Proofs.YtleafbihfmiidaaDoor.Ka
variable {H : Type} {enc : TypeId × Value → H} {P : Program} {w : World}
/-- What an array holds. -/
theorem opens_array {t e : TypeId} {n : Nat} {α : Type} {d : Kd α} {good : α → Prop} (hs : 0 < d.sz) (hu : P.underlying t = some (.array n e)) (hz : P.cellsOf e = d.sz) (ht : P.cellsOf t = n * d.sz) (h : Opens enc P w e d good) :
    Opens enc P w t (Kd.arr n d hs) (fun xs => ∀ x ∈ xs, good x) := by
  intro fuel cs dt ps ho hw
  obtain ⟨xs, m, _, hx, hl, hlen, hf⟩ := DataW.trod_array hu ho
  obtain ⟨rfl, rfl⟩ := Prod.mk.inj hx
  have hwe : ∀ i (hi : i < xs.length), ∀ k ∈ (xs[i].1).weights P e, k ≤ reachBytes := by
    intro i hi k hk
    refine hw k ?_
    simp only [DataW.weights, hu]
    have : ∀ (l : List (DataW H)) (z : DataW H), z ∈ l → k ∈ z.weights P e → k ∈ DataW.weightsAll P e l := by
      intro l
      induction l with
      | nil => intro z hz; cases hz
      | cons y l ih =>
        intro z hz hk
        simp only [DataW.weightsAll, List.mem_append]
        rcases List.mem_cons.1 hz with rfl | hz
        · exact .inl hk
        · exact .inr (ih z hz hk)
    exact this _ xs[i].1 (List.mem_map.2 ⟨xs[i], List.getElem_mem hi, rfl⟩) hk
  have hel : ∀ i, i < n → ∃ x, d.K w x ((cs.drop (i * d.sz)).take d.sz) ∧ good x := by
    intro i hi
    have h1 := hf i hi
    rw [List.getElem?_eq_getElem (show i < xs.length by omega), hz] at h1
    exact h m _ _ _ h1 (hwe i (by omega))
  have hex : ∀ m, m ≤ n → ∃ l : List α, l.length = m ∧ ∀ i x, l[i]? = some x → d.K w x ((cs.drop (i * d.sz)).take d.sz) ∧ good x := by
    intro m
    induction m with
    | zero => intro _; exact ⟨[], rfl, fun i x h => by simp at h⟩
    | succ m ih =>
      intro hm
      obtain ⟨l, hl1, hl2⟩ := ih (by omega)
      obtain ⟨x, hx⟩ := hel m (by omega)
      refine ⟨l ++ [x], by simp [hl1], fun i y hy => ?_⟩
      rcases Nat.lt_or_ge i l.length with hi | hi
      · rw [List.getElem?_append_left hi] at hy
        exact hl2 i y hy
      · have : i = m := by
          have := (List.getElem?_eq_some_iff.1 hy).1
          simp at this
          omega
        subst this
        rw [← hl1, List.getElem?_concat_length] at hy
        injection hy with hy
        subst hy
        exact hx
  obtain ⟨l, h1, h2⟩ := hex n (Nat.le_refl _)
  refine ⟨l, ⟨h1, by rw [hl, ht, h1], fun j p hp => (h2 j p hp).1⟩, fun x hx => ?_⟩
  obtain ⟨i, hi, rfl⟩ := List.getElem_of_mem hx
  exact (h2 i _ (List.getElem?_eq_getElem hi)).2
end
end Go.Proofs.YtleafbihfmiidaaDoor.Arr
