/- What this claim needs of Ka. Parted by prune.py. -/
import Derived.Test.YtleafbihfmiidaaDoorRows
import Derived.ProofKit
import Derived.Below
import Derived.Carry
import Derived.SizedLaws
import Derived.Deep.Slices
import Derived.Test.YtleafbihfmiidaaDoorZ5W
namespace Go.Proofs.YtleafbihfmiidaaDoor.Ka
open Go.RowKit Go.WideShapes Go.ChangeShapes
open Go.Proofs.YtleafbihfmiidaaDoorW.PrintWords
section
variable {H : Type} {enc : TypeId × Value → H} {P : Program}
theorem trodAll_stays (hl : laidOutB P = true) {W W' : World} (hb : Below W.heap.size W W') :
    ∀ (ts : List TypeId) (vs : List Value) (ds : List (DataW H)) (ps : List MemPlace),
      (ts.all fun t => P.readableRec t && decide (t < P.types.size)) = true →
      DataW.TrodAll enc P W 0 (fun _ => true) true ts vs ds ps → (∀ x ∈ ps, x.block < W.heap.size) →
      ∀ sp : Nat → Bool, (∀ x ∈ ps, sp x.block = true) → DataW.TrodAll enc P W' 0 sp true ts vs ds ps
  | [], [], [], _, _, h, _, _, _ => h
  | t :: ts, v :: vs, d :: ds, ps, hr, h, hlt, sp, hsp => by
    obtain ⟨p, q, h1, h2, rfl⟩ := h
    simp only [List.all_cons, Bool.and_eq_true, decide_eq_true_eq] at hr
    refine ⟨p, q, ?_, ?_, rfl⟩
    · exact WideElems.Trod_stays hl hr.1.1 hr.1.2 h1 (fun x hx => hb.same (hlt x (by simp [hx]))) (fun x hx => hsp x (by simp [hx]))
    · exact trodAll_stays hl hb ts vs ds q hr.2 h2 (fun x hx => hlt x (by simp [hx])) sp (fun x hx => hsp x (by simp [hx]))
  | [], _ :: _, _, _, _, h, _, _, _ => absurd h (by simp [DataW.TrodAll])
  | [], [], _ :: _, _, _, h, _, _, _ => absurd h (by simp [DataW.TrodAll])
  | _ :: _, [], _, _, _, h, _, _, _ => absurd h (by simp [DataW.TrodAll])
  | _ :: _, _ :: _, [], _, _, h, _, _, _ => absurd h (by simp [DataW.TrodAll])
theorem trodAll_length {W : World} {base : Nat} {sp : Nat → Bool} {hd : Bool} :
    ∀ (ts : List TypeId) (vs : List Value) (ds : List (DataW H)) (ps : List MemPlace), DataW.TrodAll enc P W base sp hd ts vs ds ps → ds.length = ts.length ∧ vs.length = ts.length
  | [], [], [], _, _ => ⟨rfl, rfl⟩
  | _ :: ts, _ :: vs, _ :: ds, ps, h => by
    obtain ⟨_, q, _, h2, _⟩ := h
    have := trodAll_length ts vs ds q h2
    simp [this.1, this.2]
  | [], _ :: _, _, _, h => absurd h (by simp [DataW.TrodAll])
  | [], [], _ :: _, _, h => absurd h (by simp [DataW.TrodAll])
  | _ :: _, [], _, _, h => absurd h (by simp [DataW.TrodAll])
  | _ :: _, _ :: _, [], _, h => absurd h (by simp [DataW.TrodAll])
end
/-! ### What a value of a type holds -/
section
variable {H : Type} {enc : TypeId × Value → H} {P : Program} {w : World}
/-- Whatever cells read as a value of type t are the cells of some x of the kind d, and x is good. -/
def Opens (enc : TypeId × Value → H) (P : Program) (w : World) (t : TypeId) {α : Type} (d : Kd α) (good : α → Prop) : Prop :=
  ∀ (fuel : Nat) (cs : List Value) (dt : DataW H) (ps : List MemPlace), DataW.trod enc P w 0 (fun _ => true) true fuel t cs = some (dt, ps) →
    (∀ n ∈ dt.weights P t, n ≤ reachBytes) → ∃ x, d.K w x cs ∧ good x
theorem Opens.imp {t : TypeId} {α : Type} {d : Kd α} {good good' : α → Prop} (h : Opens enc P w t d good) (hg : ∀ x, good x → good' x) : Opens enc P w t d good' := by
  intro fuel cs dt ps ht hw
  obtain ⟨x, h1, h2⟩ := h fuel cs dt ps ht hw
  exact ⟨x, h1, hg x h2⟩
theorem opens_int {t : TypeId} {k : IntKind} (hu : P.underlying t = some (.int k)) : Opens enc P w t (Kd.int k) (fun n => (Lit.int k n).wf = true) := by
  intro fuel cs dt ps h _
  cases fuel with
  | zero => simp [DataW.trod] at h
  | succ fuel =>
    unfold DataW.trod at h
    rw [hu] at h
    split at h <;> try simp at *
    rename_i h1 h2
    subst h2
    obtain ⟨⟨rfl, hwf⟩, _⟩ := h
    exact ⟨h1, rfl, hwf⟩
theorem opens_string {t : TypeId} (hu : P.underlying t = some .string) : Opens enc P w t Kd.string (fun s => s.size ≤ reachBytes) := by
  intro fuel cs dt ps h hw
  cases fuel with
  | zero => simp [DataW.trod] at h
  | succ fuel =>
    unfold DataW.trod at h
    rw [hu] at h
    split at h <;> try simp at *
    obtain ⟨_, rfl, _⟩ := h
    refine ⟨_, rfl, ?_⟩
    have := hw
    simpa [DataW.weights] using this
theorem opens_slice {t e : TypeId} {α : Type} {d : Kd α} {good : α → Prop} (hu : P.underlying t = some (.slice e)) (hz : P.cellsOf e = d.sz) (hd : Opens enc P w e d good) :
    Opens enc P w t (Kd.slice e d) (fun xs => xs.length * P.bytesOf e ≤ reachBytes ∧ xs.length ≤ maxLen ∧ ∀ x ∈ xs, good x) := by
  intro fuel cs dt ps h hw
  rcases Deep.open_slice hu h with ⟨rfl, hx⟩ | ⟨a, len, _, cap, n, D, Pl, rfl, _, hl, hm, rfl, hx, hel⟩
  · exact ⟨[], ⟨none, 0, rfl, Nat.le_refl _, rfl, by simp, fun h => absurd h (by simp)⟩, by simp, by simp, by simp⟩
  · have hx : (dt, ps) = (DataW.slice ((List.range len).map D) ((List.range (cap - len)).map fun j => D (len + j)), MemPlace.row a (cap * P.cellsOf e) ++ (List.range cap).flatMap Pl) := hx
    have hel : ∀ i, i < cap → ∃ cs', w.cells? 0 (a.add (i * P.cellsOf e)) (P.cellsOf e) = some cs' ∧ DataW.trod enc P w 0 (fun _ => true) true n e cs' = some (D i, Pl i) := hel
    obtain ⟨rfl, rfl⟩ := Prod.mk.inj hx
    have hwe : ∀ i, i < len → ∀ k ∈ (D i).weights P e, k ≤ reachBytes := by
      intro i hi k hk
      refine hw k ?_
      simp only [DataW.weights, hu, List.mem_cons, List.mem_append]
      refine .inr (.inl ?_)
      have : ∀ l : List (DataW H), D i ∈ l → k ∈ DataW.weightsAll P e l := by
        intro l
        induction l with
        | nil => simp
        | cons y l ih =>
          intro hy
          simp only [DataW.weightsAll, List.mem_append]
          rcases List.mem_cons.1 hy with rfl | hy
          · exact .inl hk
          · exact .inr (ih hy)
      exact this _ (List.mem_map.2 ⟨i, List.mem_range.2 hi, rfl⟩)
    have hsz : (len + (cap - len)) * P.bytesOf e ≤ reachBytes := by
      have := hw ((((List.range len).map D).length + ((List.range (cap - len)).map fun j => D (len + j)).length) * P.bytesOf e) (by simp [DataW.weights, hu])
      simpa using this
    have hall : ∀ l : Nat, l ≤ len → ∃ xs : List α, xs.length = l ∧ (∀ x ∈ xs, good x) ∧ ∀ j p, xs[j]? = some p → ∃ c, c.length = d.sz ∧ d.K w p c ∧ ∀ i u, c[i]? = some u → w.cell? (a.add (j * d.sz + i)) = some u := by
      intro l
      induction l with
      | zero => exact fun _ => ⟨[], rfl, by simp, by simp⟩
      | succ l ih =>
        intro hle
        obtain ⟨xs, h1, h2, h3⟩ := ih (by omega)
        obtain ⟨c, hc, htr⟩ := hel l (by omega)
        obtain ⟨x, hK, hg⟩ := hd n c (D l) (Pl l) htr (hwe l (by omega))
        obtain ⟨_, hcl, hcc⟩ := World.cells?_some hc
        refine ⟨xs ++ [x], by simp [h1], ?_, ?_⟩
        · intro y hy
          rcases List.mem_append.1 hy with hy | hy
          · exact h2 y hy
          · rw [List.mem_singleton.1 hy]
            exact hg
        · intro j p hj
          rcases Nat.lt_or_ge j l with hlt | hge
          · rw [List.getElem?_append_left (by omega)] at hj
            exact h3 j p hj
          · rw [List.getElem?_append_right (by omega)] at hj
            have hj0 : j = l := by
              rcases Nat.eq_or_lt_of_le hge with h | h
              · exact h.symm
              · rw [List.getElem?_eq_none (by simp; omega)] at hj
                cases hj
            subst hj0
            rw [h1, Nat.sub_self] at hj
            obtain rfl := Option.some.inj hj
            refine ⟨c, d.K_len hK, hK, fun i u hu' => ?_⟩
            have hi : i < c.length := (List.getElem?_eq_some_iff.1 hu').1
            have := hcc i (by omega)
            rw [hu', hz, Deep.add_add] at this
            exact this
    obtain ⟨xs, h1, h2, h3⟩ := hall len (Nat.le_refl _)
    refine ⟨xs, ⟨some a, cap, by rw [h1], by omega, rfl, ?_, fun _ => ⟨a, rfl, h3⟩⟩, ?_, by omega, h2⟩
    · have : maxLen = 9223372036854775807 := rfl
      omega
    · rw [h1]
      exact Nat.le_trans (Nat.mul_le_mul_right _ (by omega)) hsz
/-- The fields from number i on, whose cells begin at off. -/
def OpensF (enc : TypeId × Value → H) (P : Program) (w : World) (fs : List Field) (off : Nat) {α : Type} (d : Kd α) (good : α → Prop) : Prop :=
  ∀ (fuel : Nat) (cs : List Value) (xs : List (DataW H × List MemPlace)),
    cs.length = off + d.sz → xs.length = fs.length →
    (∀ (i : Nat) (f : Field), fs[i]? = some f → DataW.trod enc P w 0 (fun _ => true) true fuel f.type ((cs.drop f.offset).take (P.cellsOf f.type)) = xs[i]?) →
    (∀ n ∈ DataW.weightsEach P (fs.map (·.type)) (xs.map (·.1)), n ≤ reachBytes) → ∃ x, d.K w x (cs.drop off) ∧ good x
theorem opensF_one {f : Field} {off : Nat} {α : Type} {d : Kd α} {good : α → Prop} (ho : f.offset = off) (hz : P.cellsOf f.type = d.sz) (h : Opens enc P w f.type d good) : OpensF enc P w [f] off d good := by
  intro fuel cs xs hl hx ht hw
  match xs, hx with
  | [y], _ =>
    have h1 := ht 0 f rfl
    simp only [List.getElem?_cons_zero] at h1
    rw [ho, hz, List.take_of_length_le (by rw [List.length_drop]; omega)] at h1
    exact h fuel _ y.1 y.2 h1 (fun n hn => hw n (by simpa [DataW.weightsEach] using hn))
theorem opensF_cons {f : Field} {fs : List Field} {off : Nat} {α β : Type} {d : Kd α} {d' : Kd β} {good : α → Prop} {good' : β → Prop} (ho : f.offset = off) (hz : P.cellsOf f.type = d.sz)
    (h : Opens enc P w f.type d good) (h' : OpensF enc P w fs (off + d.sz) d' good') : OpensF enc P w (f :: fs) off (Kd.pair d d') (fun x => good x.1 ∧ good' x.2) := by
  intro fuel cs xs hl hx ht hw
  match xs, hx with
  | y :: xs, hx =>
    have h1 := ht 0 f rfl
    simp only [List.getElem?_cons_zero] at h1
    rw [ho, hz] at h1
    obtain ⟨x, hK, hg⟩ := h fuel _ y.1 y.2 h1 (fun n hn => hw n (by simp [DataW.weightsEach, hn]))
    have hl' : cs.length = off + (d.sz + d'.sz) := hl
    obtain ⟨x', hK', hg'⟩ := h' fuel cs xs (by omega) (by simpa using hx) (fun i f' hf => by simpa using ht (i + 1) f' (by simpa using hf)) (fun n hn => hw n (by simp [DataW.weightsEach]; exact .inr hn))
    refine ⟨(x, x'), ⟨_, _, ?_, hK, hK'⟩, hg, hg'⟩
    rw [← List.drop_drop, List.take_append_drop]
theorem opens_struct {t : TypeId} {fs : Array Field} {α : Type} {d : Kd α} {good : α → Prop} (hu : P.underlying t = some (.struct fs)) (hz : P.cellsOf t = d.sz) (h : OpensF enc P w fs.toList 0 d good) : Opens enc P w t d good := by
  intro fuel cs dt ps ht hw
  obtain ⟨xs, n, _, hx, hl, hlen, hf⟩ := DataW.trod_struct hu ht
  obtain ⟨rfl, rfl⟩ := Prod.mk.inj hx
  obtain ⟨x, hK, hg⟩ := h n cs xs (by rw [hl, hz, Nat.zero_add]) (by simpa using hlen) (fun i f hi => hf i f (by simpa using hi)) (fun k hk => hw k (by simpa [DataW.weights, hu] using hk))
  exact ⟨x, hK, hg⟩
theorem opens_iso {t : TypeId} {α β : Type} {d : Kd α} {good : β → Prop} (f : β → α) (g : α → β) (hfg : ∀ x, f (g x) = x) (h : Opens enc P w t d (fun x => good (g x))) : Opens enc P w t (Kd.iso d f) good := by
  intro fuel cs dt ps ht hw
  obtain ⟨x, hK, hg⟩ := h fuel cs dt ps ht hw
  exact ⟨g x, by show d.K w (f (g x)) cs; rw [hfg]; exact hK, hg⟩
/-- The first argument. -/
theorem args_cons {t : TypeId} {ts : List TypeId} {vs : List Value} {ds : List (DataW H)} {ps : List MemPlace} {α : Type} {d : Kd α} {good : α → Prop}
    (h : DataW.TrodAll enc P w 0 (fun _ => true) true (t :: ts) vs ds ps) (hw : ∀ n ∈ DataW.weightsEach P (t :: ts) ds, n ≤ reachBytes) (ho : Opens enc P w t d good) :
    ∃ v vs' ds' ps' x, vs = v :: vs' ∧ d.K w x v.cells.toList ∧ good x ∧ DataW.TrodAll enc P w 0 (fun _ => true) true ts vs' ds' ps' ∧ (∀ n ∈ DataW.weightsEach P ts ds', n ≤ reachBytes) := by
  match vs, ds, h with
  | v :: vs, dt :: ds, h =>
    obtain ⟨p, q, ⟨fuel, h1⟩, h2, _⟩ := h
    obtain ⟨x, hK, hg⟩ := ho fuel _ dt p h1 (fun n hn => hw n (by simp [DataW.weightsEach, hn]))
    exact ⟨v, vs, ds, q, x, rfl, hK, hg, h2, fun n hn => hw n (by simp [DataW.weightsEach, hn])⟩
theorem args_nil {vs : List Value} {ds : List (DataW H)} {ps : List MemPlace} (h : DataW.TrodAll enc P w 0 (fun _ => true) true [] vs ds ps) : vs = [] := by
  match vs, ds, h with
  | [], [], _ => rfl
section
variable {r : Reach} {t : TypeId} {v c : Value}
theorem val_agg {fs : Array Field} {l : List Value} (hu : P.underlying t = some (.struct fs)) (h : ∃ base, Value.okWide P w r base t v) (hc : v.cells.toList = l) : .agg l.toArray = v := by
  obtain ⟨base, h⟩ := h
  simp only [Value.okWide, hu] at h
  obtain ⟨cs, rfl, _⟩ := h
  subst hc
  rfl
end
end
end Go.Proofs.YtleafbihfmiidaaDoor.Ka
