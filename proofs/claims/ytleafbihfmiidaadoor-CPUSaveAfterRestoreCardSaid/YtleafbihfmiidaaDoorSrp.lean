/- c12: what Restore stores, Save reads. No program in sight. -/
import Derived.Test.YtleafbihfmiidaaDoorRe
import Derived.Test.YtleafbihfmiidaaDoorSm
namespace Go.Proofs.YtleafbihfmiidaaDoor.QAl
open Go.RowKit Go.Proofs.YtleafbihfmiidaaDoorW.PrintWords
set_option linter.unusedVariables false
set_option linter.unusedSimpArgs false
theorem same_l0 (l : List Int) (hl : l.length ≤ 100000) : ∀ (m k : Nat), k + m = l.length → trickleref12_Same.l0 (m + 1) l l (l.length : Int) (k : Int) = some true
  | 0, k, h => by
    unfold trickleref12_Same.l0
    rw [if_neg (by omega)]
  | m + 1, k, h => by
    unfold trickleref12_Same.l0
    have e : wrap64 ((k : Int) + 1) = ((k + 1 : Nat) : Int) := by unfold wrap64; omega
    rw [if_pos (by omega), if_pos (by omega), if_pos (by omega), if_pos (by omega), if_pos rfl, e]
    exact same_l0 l hl m (k + 1) (by omega)
theorem same_self (l : List Int) (hl : l.length ≤ 100000) : trickleref12_Same.f (l.length + 1) l l = some true := by
  unfold trickleref12_Same.f
  rw [if_pos rfl]
  exact same_l0 l hl l.length 0 (by omega)
theorem r_set_ne {s : Cs} {i q : Nat} (v : Int) (h : i ≠ q) : (s.set i v).r q = s.r q := by
  unfold Cs.r Cs.set
  simp only [List.getD_eq_getElem?_getD, List.getElem?_set, if_neg h]
theorem r_set_eq {s : Cs} (ok : s.Ok) {i : Nat} (hi : i < 72) (v : Int) : (s.set i v).r i = v := by
  unfold Cs.r Cs.set
  simp [List.getD_eq_getElem?_getD, List.getElem?_set, ok.len, hi]
theorem restR_out : ∀ (ls vs : List Int) (s t : Cs), restR s ls vs = some t → (t.pc = s.pc) ∧ ∀ q : Nat, (q : Int) ∉ ls → t.r q = s.r q
  | [], _, s, t, h => by
    simp only [restR, Option.some.injEq] at h
    subst h
    exact ⟨rfl, fun _ _ => rfl⟩
  | _ :: _, [], s, t, h => by simp [restR] at h
  | n :: ns, v :: vs, s, t, h => by
    simp only [restR] at h
    split at h
    · obtain ⟨h1, h2⟩ := restR_out ns vs _ t h
      refine ⟨h1, fun q hq => ?_⟩
      rw [h2 q (fun hm => hq (by simp [hm]))]
      exact r_set_ne v (fun e => hq (by simp; left; omega))
    · cases h
theorem restR_in : ∀ (ls vs : List Int) (s t : Cs), s.Ok → ls.Nodup → vs.length = ls.length → (∀ v ∈ vs, S16 v) → restR s ls vs = some t → ls.map (locV t) = vs
  | [], [], _, _, _, _, _, _, _ => rfl
  | [], _ :: _, _, _, _, _, hl, _, _ => by simp at hl
  | _ :: _, [], s, t, _, _, _, _, h => by simp [restR] at h
  | n :: ns, v :: vs, s, t, ok, hd, hl, hv, h => by
    simp only [restR] at h
    split at h
    · rename_i hr
      obtain ⟨h1, h2⟩ := List.nodup_cons.1 hd
      have h3 := (restR_out ns vs _ t h).2 n.toNat (by rw [show ((n.toNat : Nat) : Int) = n by omega]; exact h1)
      rw [r_set_eq ok (by omega)] at h3
      rw [List.map_cons, restR_in ns vs _ t (ok.set _ (hv v (by simp))) h2 (by simpa using hl) (fun u hu => hv u (by simp [hu])) h]
      unfold locV
      rw [if_pos hr, h3]
    · cases h
/-- What the law's last step rests on. -/
theorem rest_save {s : Cs} {st : Int} {ls vs : List Int} (hd : ls.Nodup) (hv : ∀ v ∈ vs, S16 v) : ((restC s st ls vs).2 = 1 ∧ (restC s st ls vs).1 = s) ∨
    ((restC s st ls vs).2 = 0 ∧ (restC s st ls vs).1.pc = st ∧ vs.length = ls.length ∧ ls.map (locV (restC s st ls vs).1) = vs) := by
  unfold restC
  split
  · rename_i hl
    cases h : restR (zeroC st) ls vs with
    | none => exact .inl ⟨rfl, rfl⟩
    | some t => exact .inr ⟨rfl, (restR_out ls vs _ t h).1, hl, restR_in ls vs _ t (zeroC_ok st) hd hl hv h⟩
  · exact .inl ⟨rfl, rfl⟩
theorem nodup_snoc {l : List Int} {x : Int} (h : l.Nodup) (hx : x ∉ l) : (l ++ [x]).Nodup := by
  rw [List.nodup_append]
  refine ⟨h, by simp, ?_⟩
  intro a ha b hb
  simp at hb
  subst hb
  rintro rfl
  exact hx ha
end Go.Proofs.YtleafbihfmiidaaDoor.QAl
