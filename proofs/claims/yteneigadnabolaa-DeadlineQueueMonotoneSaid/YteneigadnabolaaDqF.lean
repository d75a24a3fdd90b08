/- slices.Insert of one item, over a queue's row: at the end. -/
import Derived.Test.YteneigadnabolaaDqE
namespace Go.Proofs.Yteneigadnabolaa.QAl
open Go.RowKit Go.Proofs.YteneigadnabolaaW.PrintWords Go.Proofs.YteneigadnabolaaW.PrintLast Go.Proofs.YteneigadnabolaaW.PrintMore Go.Proofs.Yteneigadnabolaa.Sl
set_option linter.unusedVariables false
set_option linter.unusedSimpArgs false
variable {L : List Chunk}
set_option maxRecDepth 100000 in
set_option maxHeartbeats 4000000 in
theorem Insert_end {w0 W : World} {A : Option Addr} {n c gv : Nat} {x : S30} {l : List S30} (hM : Mem w0 W (qrow w0 k30 30 (.slice A n c) l :: blk gv #[.int .i64 x.f0, .int .i64 x.f1] 30 :: L)) (hl : l.length ≤ 1000) :
    Calls Try.prog 30 #[.slice A n c, .int .i64 (n : Int), .slice (some ⟨gv, 0, none⟩) 1 1] W fun e w' => ∃ v', e = .returned v' ∧ Mem w0 w' (qrow w0 k30 30 v' (l ++ [x]) :: blk gv #[.int .i64 x.f0, .int .i64 x.f1] 30 :: L) := by
  have hb := hM.below
  obtain ⟨hn, hnc⟩ : n = l.length ∧ n ≤ c := by
    obtain ⟨A', c', e, h1, _⟩ := hM.q_reads
    injection e with _ e2 e3
    subst e2 e3
    exact ⟨rfl, h1⟩
  have hv := hM.p1.get
  obtain ⟨T, hr, h2, h3⟩ := hM.front
  obtain ⟨h0, hq⟩ := q_flat (show k30.Q 30 W w0.heap.size T (.slice A n c) l from hr)
  obtain ⟨i0, hi0, hzz⟩ := Option.map_eq_some_iff.1 info30
  simp only [Prod.mk.injEq] at hzz
  obtain ⟨v', w', hrun, hq', hg, hat⟩ := q_append (P := Try.prog) W w0.heap.size 38 38 30 i0 _ 2 16 Try.underlying38 hi0 hzz.1 hzz.2.1 hzz.2.2 rfl (by decide) (.slice A n c) l.length (flat l) hq ⟨gv, 0, none⟩ 1 1 [.int .i64 x.f0, .int .i64 x.f1] rfl
    (by
      intro j u hj
      rw [add_plain, blk_cell hv j]
      simpa using hj) (by intro u hu; simp only [List.mem_cons, List.not_mem_nil, or_false] at hu; rcases hu with rfl | rfl <;> rfl) (by decide) (by simp only [maxLen]; omega) (by omega) hb.size
  have HRUN := Aside0.mk hrun
  have hfin : ∃ v', Ending.returned v' = Ending.returned v' := ⟨v', rfl⟩
  have HE : Mem w0 w' (qrow w0 k30 30 v' (l ++ [x]) :: blk gv #[.int .i64 x.f0, .int .i64 x.f1] 30 :: L) := by
    have hT : ∀ k, (Value.slice A n c).ownBlock = some k → T k := h0
    refine h3 w' (qrow w0 k30 30 v' (l ++ [x])) (hb.grown hg hb.size (fun k hk => (q_typed hq k hk).1)) ⟨hg.size, fun i hi hn => hg.block i hi (fun e => hn (hT i e.symm))⟩ ?_
    refine flat_q (fun k hk => ?_) (by rw [List.length_append, flat_append]; exact hq')
    rcases hat with hat | ⟨b, hb', hle⟩
    · exact .inl (hT k (hat ▸ hk))
    · rw [hb'] at hk
      injection hk with hk
      exact .inr (by omega)
  have HEE := Aside0.mk HE
  clear hrun hfin HE hat hg hq' hq hr hv h2 h3 h0 hzz hi0 hM
  have e0 : (0 : Int) ≤ (n : Int) := by omega
  have e1 : (n : Int) ≤ n := by omega
  have e2 : ¬ ((1 : Int) = 0) := by omega
  go_enter Try.func30, Try.ntmps30
  cases A with
  | none =>
    clear hn
    go_wp2_with (at_builtin; refine Lib.wpList_append_run _ rfl _ _ _ _ rfl _ _ rfl rfl _ _ HRUN.out ?_)
    go_ret
    exact ⟨_, rfl, HEE.out⟩
  | some a =>
    obtain ⟨ab, ao, asp⟩ := a
    clear hn
    go_wp2_with (at_builtin; refine Lib.wpList_append_run _ rfl _ _ _ _ rfl _ _ rfl rfl _ _ HRUN.out ?_)
    all_goals (go_ret; exact ⟨_, rfl, HEE.out⟩)
end Go.Proofs.Yteneigadnabolaa.QAl
