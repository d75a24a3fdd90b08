/- What arguments of recursive types hold: as in Ka, but over readings that are smaller than a number, so that a type may lead to itself. -/
import Derived.Test.YtlklcfaejmeljaaKa
namespace Go.Proofs.Ytlklcfaejmeljaa.Fx
open Go.RowKit Go.WideShapes Go.ChangeShapes
open Go.Proofs.YtlklcfaejmeljaaW.PrintWords Go.Proofs.Ytlklcfaejmeljaa.Ka

section
variable {H : Type} {enc : TypeId × Value → H} {P : Program} {w : World}

def OpensS (n : Nat) (enc : TypeId × Value → H) (P : Program) (w : World) (t : TypeId) {α : Type} (d : Kd α) (good : α → Prop) : Prop :=
  ∀ (fuel : Nat) (cs : List Value) (dt : DataW H) (ps : List MemPlace), SizeOf.sizeOf dt < n → DataW.trod enc P w 0 (fun _ => true) true fuel t cs = some (dt, ps) →
    (∀ n ∈ dt.weights P t, n ≤ reachBytes) → ∃ x, d.K w x cs ∧ good x
theorem OpensS.all {t : TypeId} {α : Type} {d : Kd α} {good : α → Prop} (h : ∀ n, OpensS n enc P w t d good) : Opens enc P w t d good :=
  fun fuel cs dt ps ht hw => h (SizeOf.sizeOf dt + 1) fuel cs dt ps (Nat.lt_succ_self _) ht hw
theorem OpensS.of {n : Nat} {t : TypeId} {α : Type} {d : Kd α} {good : α → Prop} (h : Opens enc P w t d good) : OpensS n enc P w t d good :=
  fun fuel cs dt ps _ ht hw => h fuel cs dt ps ht hw
theorem OpensS.imp {n : Nat} {t : TypeId} {α : Type} {d : Kd α} {good good' : α → Prop} (h : OpensS n enc P w t d good) (hg : ∀ x, good x → good' x) : OpensS n enc P w t d good' := by
  intro fuel cs dt ps hn ht hw
  obtain ⟨x, h1, h2⟩ := h fuel cs dt ps hn ht hw
  exact ⟨x, h1, hg x h2⟩
theorem opensS_slice {m : Nat} {t e : TypeId} {α : Type} {d : Kd α} {good : α → Prop} (hu : P.underlying t = some (.slice e)) (hz : P.cellsOf e = d.sz) (hd : ∀ k, k < m → OpensS k enc P w e d good) :
    OpensS m enc P w t (Kd.slice e d) (fun xs => xs.length * P.bytesOf e ≤ reachBytes ∧ xs.length ≤ maxLen ∧ ∀ x ∈ xs, good x) := by
  intro fuel cs dt ps hsz h hw
  rcases Deep.open_slice hu h with ⟨rfl, hx⟩ | ⟨a, len, _, cap, n, D, Pl, rfl, _, hl, hm, rfl, hx, hel⟩
  · exact ⟨[], ⟨none, 0, rfl, Nat.le_refl _, rfl, by simp, fun h => absurd h (by simp)⟩, by simp, by simp, by simp⟩
  · have hx : (dt, ps) = (DataW.slice ((List.range len).map D) ((List.range (cap - len)).map fun j => D (len + j)), MemPlace.row a (cap * P.cellsOf e) ++ (List.range cap).flatMap Pl) := hx
    have hel : ∀ i, i < cap → ∃ cs', w.cells? 0 (a.add (i * P.cellsOf e)) (P.cellsOf e) = some cs' ∧ DataW.trod enc P w 0 (fun _ => true) true n e cs' = some (D i, Pl i) := hel
    obtain ⟨rfl, rfl⟩ := Prod.mk.inj hx
    have hsmall : ∀ i, i < len → SizeOf.sizeOf (D i) + 1 < m := by
      intro i hi
      have h1 : SizeOf.sizeOf (D i) < SizeOf.sizeOf ((List.range len).map D) := List.sizeOf_lt_of_mem (List.mem_map.2 ⟨i, List.mem_range.2 hi, rfl⟩)
      have h2 : SizeOf.sizeOf (DataW.slice ((List.range len).map D) ((List.range (cap - len)).map fun j => D (len + j))) = 1 + SizeOf.sizeOf ((List.range len).map D) + SizeOf.sizeOf ((List.range (cap - len)).map fun j => D (len + j)) := by simp
      omega
    have hwe : ∀ i, i < len → ∀ k ∈ (D i).weights P e, k ≤ reachBytes := by
      intro i hi k hk
      refine hw k ?_
      simp only [DataW.weights, hu, List.mem_cons, List.mem_append]
      refine .inr (.inl ?_)
      have : ∀ l : List (DataW H), D i ∈ l → k ∈ DataW.weightsAll P e l := by
        intro l
        induction l with
        | nil => simp
        | cons y l ih =>
          intro hy
          simp only [DataW.weightsAll, List.mem_append]
          rcases List.mem_cons.1 hy with rfl | hy
          · exact .inl hk
          · exact .inr (ih hy)
      exact this _ (List.mem_map.2 ⟨i, List.mem_range.2 hi, rfl⟩)
    have hsz' : (len + (cap - len)) * P.bytesOf e ≤ reachBytes := by
      have := hw ((((List.range len).map D).length + ((List.range (cap - len)).map fun j => D (len + j)).length) * P.bytesOf e) (by simp [DataW.weights, hu])
      simpa using this
    have hall : ∀ l : Nat, l ≤ len → ∃ xs : List α, xs.length = l ∧ (∀ x ∈ xs, good x) ∧ ∀ j p, xs[j]? = some p → ∃ c, c.length = d.sz ∧ d.K w p c ∧ ∀ i u, c[i]? = some u → w.cell? (a.add (j * d.sz + i)) = some u := by
      intro l
      induction l with
      | zero => exact fun _ => ⟨[], rfl, by simp, by simp⟩
      | succ l ih =>
        intro hle
        obtain ⟨xs, h1, h2, h3⟩ := ih (by omega)
        obtain ⟨c, hc, htr⟩ := hel l (by omega)
        obtain ⟨x, hK, hg⟩ := hd (SizeOf.sizeOf (D l) + 1) (hsmall l (by omega)) n c (D l) (Pl l) (Nat.lt_succ_self _) htr (hwe l (by omega))
        obtain ⟨_, hcl, hcc⟩ := World.cells?_some hc
        refine ⟨xs ++ [x], by simp [h1], ?_, ?_⟩
        · intro y hy
          rcases List.mem_append.1 hy with hy | hy
          · exact h2 y hy
          · rw [List.mem_singleton.1 hy]
            exact hg
        · intro j p hj
          rcases Nat.lt_or_ge j l with hlt | hge
          · rw [List.getElem?_append_left (by omega)] at hj
            exact h3 j p hj
          · rw [List.getElem?_append_right (by omega)] at hj
            have hj0 : j = l := by
              rcases Nat.eq_or_lt_of_le hge with h | h
              · exact h.symm
              · rw [List.getElem?_eq_none (by simp; omega)] at hj
                cases hj
            subst hj0
            rw [h1, Nat.sub_self] at hj
            obtain rfl := Option.some.inj hj
            refine ⟨c, d.K_len hK, hK, fun i u hu' => ?_⟩
            have hi : i < c.length := (List.getElem?_eq_some_iff.1 hu').1
            have := hcc i (by omega)
            rw [hu', hz, Deep.add_add] at this
            exact this
    obtain ⟨xs, h1, h2, h3⟩ := hall len (Nat.le_refl _)
    refine ⟨xs, ⟨some a, cap, by rw [h1], by omega, rfl, ?_, fun _ => ⟨a, rfl, h3⟩⟩, ?_, by omega, h2⟩
    · have : maxLen = 9223372036854775807 := rfl
      omega
    · rw [h1]
      exact Nat.le_trans (Nat.mul_le_mul_right _ (by omega)) hsz'
/-- The fields from number i on, whose cells begin at off. -/
def OpensFS (m : Nat) (enc : TypeId × Value → H) (P : Program) (w : World) (fs : List Field) (off : Nat) {α : Type} (d : Kd α) (good : α → Prop) : Prop :=
  ∀ (fuel : Nat) (cs : List Value) (xs : List (DataW H × List MemPlace)),
    cs.length = off + d.sz → xs.length = fs.length → (∀ y ∈ xs, SizeOf.sizeOf y.1 + 1 < m) →
    (∀ (i : Nat) (f : Field), fs[i]? = some f → DataW.trod enc P w 0 (fun _ => true) true fuel f.type ((cs.drop f.offset).take (P.cellsOf f.type)) = xs[i]?) →
    (∀ n ∈ DataW.weightsEach P (fs.map (·.type)) (xs.map (·.1)), n ≤ reachBytes) → ∃ x, d.K w x (cs.drop off) ∧ good x
theorem opensFS_one {m : Nat} {f : Field} {off : Nat} {α : Type} {d : Kd α} {good : α → Prop} (ho : f.offset = off) (hz : P.cellsOf f.type = d.sz) (h : ∀ k, k < m → OpensS k enc P w f.type d good) : OpensFS m enc P w [f] off d good := by
  intro fuel cs xs hl hx hs ht hw
  match xs, hx with
  | [y], _ =>
    have h1 := ht 0 f rfl
    simp only [List.getElem?_cons_zero] at h1
    rw [ho, hz, List.take_of_length_le (by rw [List.length_drop]; omega)] at h1
    exact h _ (hs y (by simp)) fuel _ y.1 y.2 (Nat.lt_succ_self _) h1 (fun n hn => hw n (by simpa [DataW.weightsEach] using hn))
theorem opensFS_cons {m : Nat} {f : Field} {fs : List Field} {off : Nat} {α β : Type} {d : Kd α} {d' : Kd β} {good : α → Prop} {good' : β → Prop} (ho : f.offset = off) (hz : P.cellsOf f.type = d.sz)
    (h : ∀ k, k < m → OpensS k enc P w f.type d good) (h' : OpensFS m enc P w fs (off + d.sz) d' good') : OpensFS m enc P w (f :: fs) off (Kd.pair d d') (fun x => good x.1 ∧ good' x.2) := by
  intro fuel cs xs hl hx hs ht hw
  match xs, hx with
  | y :: xs, hx =>
    have h1 := ht 0 f rfl
    simp only [List.getElem?_cons_zero] at h1
    rw [ho, hz] at h1
    obtain ⟨x, hK, hg⟩ := h _ (hs y (by simp)) fuel _ y.1 y.2 (Nat.lt_succ_self _) h1 (fun n hn => hw n (by simp [DataW.weightsEach, hn]))
    have hl' : cs.length = off + (d.sz + d'.sz) := hl
    obtain ⟨x', hK', hg'⟩ := h' fuel cs xs (by omega) (by simpa using hx) (fun z hz => hs z (by simp [hz])) (fun i f' hf => by simpa using ht (i + 1) f' (by simpa using hf)) (fun n hn => hw n (by simp [DataW.weightsEach]; exact .inr hn))
    refine ⟨(x, x'), ⟨_, _, ?_, hK, hK'⟩, hg, hg'⟩
    rw [← List.drop_drop, List.take_append_drop]
theorem opensS_struct {m : Nat} {t : TypeId} {fs : Array Field} {α : Type} {d : Kd α} {good : α → Prop} (hu : P.underlying t = some (.struct fs)) (hz : P.cellsOf t = d.sz) (h : OpensFS m enc P w fs.toList 0 d good) : OpensS m enc P w t d good := by
  intro fuel cs dt ps hsz ht hw
  obtain ⟨xs, n, _, hx, hl, hlen, hf⟩ := DataW.trod_struct hu ht
  obtain ⟨rfl, rfl⟩ := Prod.mk.inj hx
  have hsm : ∀ y ∈ xs, SizeOf.sizeOf y.1 + 1 < m := by
    intro y hy
    have h1 : SizeOf.sizeOf y.1 < SizeOf.sizeOf (xs.map (·.1)) := List.sizeOf_lt_of_mem (List.mem_map.2 ⟨y, hy, rfl⟩)
    have h2 : SizeOf.sizeOf (DataW.agg (xs.map (·.1))) = 1 + SizeOf.sizeOf (xs.map (·.1)) := by simp
    omega
  obtain ⟨x, hK, hg⟩ := h n cs xs (by rw [hl, hz, Nat.zero_add]) (by simpa using hlen) hsm (fun i f hi => hf i f (by simpa using hi)) (fun k hk => hw k (by simpa [DataW.weights, hu] using hk))
  exact ⟨x, hK, hg⟩
end
end Go.Proofs.Ytlklcfaejmeljaa.Fx
