/- What this claim needs of Sq. Parted by prune.py. -/
import Derived.Test.YtleafbihfmiidaaDoorZ5Cm
import Derived.Test.YtleafbihfmiidaaDoorZ5Av
namespace Go.Proofs.YtleafbihfmiidaaDoor.QAl
open Go.RowKit Go.Proofs.YtleafbihfmiidaaDoorW.PrintWords
set_option linter.unusedVariables false
set_option linter.unusedSimpArgs false
structure Bs.Ok (B : Bs) : Prop where
  w : ∀ v ∈ B.words, S16 v
  r : ∀ v ∈ B.reads, S16 v
theorem s16_zero : S16 0 := ⟨by decide, by decide⟩
theorem s16_getD {l : List Int} (h : ∀ v ∈ l, S16 v) (i : Nat) : S16 (l.getD i 0) := by
  rw [List.getD_eq_getElem?_getD]
  cases hj : l[i]? with
  | none => exact s16_zero
  | some x => exact h x (List.mem_of_getElem? hj)
theorem Bs.Ok.log {B : Bs} (h : B.Ok) (k a b : Int) : (B.log k a b).Ok := ⟨h.w, h.r⟩
theorem Bs.Ok.setW {B : Bs} (h : B.Ok) (i : Nat) {v : Int} (hv : S16 v) : (B.setW i v).Ok := by
  refine ⟨fun x hx => ?_, h.r⟩
  have hx : x ∈ B.words.set i v := hx
  rcases List.mem_or_eq_of_mem_set hx with hx | rfl
  · exact h.w x hx
  · exact hv
theorem Bs.Ok.readN {B : Bs} (h : B.Ok) : B.readN.Ok := ⟨h.w, fun x hx => h.r x (List.mem_of_mem_tail hx)⟩
theorem acc_ok {B : Bs} {s : Cs} (hB : B.Ok) (hs : s.Ok) (op : Int) (a b : Nat) (im : Int) : S16 (accC B s op a b im).1 ∧ (accC B s op a b im).2.2.2.Ok ∧ (accC B s op a b im).2.2.2.calls.length ≤ B.calls.length + 1 := by
  have hl : ∀ k x y, (B.log k x y).calls.length ≤ B.calls.length + 1 := fun k x y => by
    show (B.calls ++ [(⟨k, x, y⟩ : S100)]).length ≤ _
    rw [List.length_append]
    exact Nat.le_refl _
  have hst : ∀ ad v, S16 v → (bstore B ad v).Ok ∧ (bstore B ad v).calls.length ≤ B.calls.length + 1 := fun ad v hv => by
    unfold bstore
    split
    · exact ⟨(hB.log _ _ _).setW _ hv, hl _ _ _⟩
    · exact ⟨hB.log _ _ _, hl _ _ _⟩
  unfold accC
  repeat' split
  all_goals first
    | exact ⟨s16_getD hB.w _, hB.log _ _ _, hl _ _ _⟩
    | exact ⟨s16_getD hB.r 0, (hB.log _ _ _).readN, hl _ _ _⟩
    | exact ⟨s16_zero, hst _ _ (hs.r a)⟩
    | exact ⟨s16_zero, hB.log _ _ _, hl _ _ _⟩
    | exact ⟨s16_zero, hB, Nat.le_succ _⟩
theorem ite_s16 {c : Prop} [Decidable c] {x y : Int × Bool} (hx : S16 x.1) (hy : S16 y.1) : S16 (if c then x else y).1 := by
  split
  · exact hx
  · exact hy
theorem cmp_ok {x : Img} {s : Cs} (hs : s.Ok) (op : Int) (a b cc : Nat) {im : Int} (hi : S16 im) : S16 (cmpC x s op a b cc im).1 := by
  have hb := hs.r b
  have hc := hs.r cc
  unfold cmpC
  refine ite_s16 hi (ite_s16 hb (ite_s16 (s16_wrap _) (ite_s16 (s16_not _) (ite_s16 (s16_bin 3 hb hc) (ite_s16 (s16_bin 4 hb hc) (ite_s16 (s16_bin 5 hb hc) (ite_s16 (s16_bin 6 hb hc) (ite_s16 (s16_bin 7 hb hc) (ite_s16 (s16_bin 8 hb hc) (ite_s16 (s16_bin 10 hb hc) (ite_s16 (s16_bin 11 hb hc) (ite_s16 (s16_wrap _) (ite_s16 (hs.r _) s16_zero)))))))))))))
theorem adv_ok {s : Cs} (hs : s.Ok) (op : Int) (a : Nat) (im : Int) : (advC s op a im).1.Ok := by
  unfold advC
  repeat' split
  all_goals first
    | exact (hs.set _ (hs.r _)).to _
    | exact hs.to _
end Go.Proofs.YtleafbihfmiidaaDoor.QAl
