/- DeadlineQueueOptimal: the law answers true. -/
import Derived.Test.YteneigadnabolaaLwF
namespace Go.Proofs.Yteneigadnabolaa.QAl
open Go.RowKit Go.Proofs.YteneigadnabolaaW.PrintWords Go.Proofs.YteneigadnabolaaW.PrintLast Go.Proofs.YteneigadnabolaaW.PrintMore Go.Proofs.Yteneigadnabolaa.Sl
set_option linter.unusedVariables false
set_option linter.unusedSimpArgs false
set_option maxRecDepth 100000 in
set_option maxHeartbeats 2000000 in
theorem Opt_law {W : World} {A B : Option Addr} {c cd : Nat} {l : List Dq.It} {d : List Int} (now : Int) (hA : k30.C W A l.length (l.map un)) (hcA : l.length ≤ c) (hB : (Kd.int .i64).C W B d.length d)
    (hw : ∀ x ∈ l, (Lit.int .i64 x.1).wf = true) (hd : ∀ x ∈ d, (Lit.int .i64 x).wf = true) :
    Calls Try.prog 5 #[.int .i64 now, .agg #[.slice A l.length c, .slice B d.length cd]] W fun e w' => e = .returned (.bool true) ∧ Below W.heap.size W w' := by
  obtain ⟨b, hb⟩ : ∃ b, W.heap.size = b := ⟨_, rfl⟩
  have HBB := Aside0.mk hb
  have HW := Aside0.mk hw
  have HM0' := (Mem.start W).new_ (.cells #[.slice A l.length c, .slice B d.length cd] 41) hb
  have HB0 := Aside0.mk (below_alloc (Below.refl W.heap.size W) (.cells #[.slice A l.length c, .slice B d.length cd] 41))
  by_cases hbig : 40 < l.length
  · obtain ⟨n, hn⟩ : ∃ n, n = l.length := ⟨_, rfl⟩
    rw [← hn] at hbig HB0 ⊢
    have h1 : decide ((40 : Int) < (n : Int)) = true := decide_eq_true (by omega)
    have h2 : decide (40 < n) = true := decide_eq_true hbig
    clear hA hcA hB hw hd HM0' hb hn hbig
    go_enter Try.func5, Try.ntmps5
    go_wp2_with (go_at_call 11; refine (examples_call _).mono ?_; rintro e w2 ⟨rfl, hb2⟩; have HB2 := Aside0.mk hb2; clear hb2)
    go_ret
    exact ⟨rfl, below_step HB0.out HB2.out⟩
  · have hl40 : l.length ≤ 40 := by omega
    have hl6 : l.length < 1000000 := by omega
    have HDUR : Aside0 (∀ w1, Below W.heap.size W w1 → Calls Try.prog 17 #[.agg #[.slice A l.length c, .slice B d.length cd]] w1 fun e w' => ∃ g n, e = .returned (.map (some g)) ∧ Mem w1 w' [imap g n (durA l d l.length)]) :=
      ⟨fun w1 h => durations_call (Kd.C_below hA h) (Kd.C_below hB h) hl40 hw hd⟩
    have HCA : Aside0 (∀ w1, Below W.heap.size W w1 → k30.C w1 A l.length (l.map un)) := ⟨fun w1 h => Kd.C_below hA h⟩
    generalize durA l d l.length = f at HDUR
    have HM0 := Aside0.mk HM0'
    have hd1 : decide ((40 : Int) < (l.length : Int)) = false := decide_eq_false (by omega)
    have hd2 : decide (40 < l.length) = false := decide_eq_false hbig
    clear hA hB hw hd HM0' hb hbig
    go_enter Try.func5, Try.ntmps5
    go_wp2_with fail
    refine (HDUR.out _ HM0.out.below).mono ?_
    rintro e w1 ⟨g, n, rfl, h1⟩
    have HM1 := Aside0.mk (Mem.join HM0.out h1 (.cons (Lowers.refl _) .nil))
    have x0 := blk_cell HM1.out.drop.get 0
    clear h1
    rw [HBB.out]
    go_wp2_with fail
    refine (Feasible_call now HM1.out (HCA.out _ HM1.out.below) hl40 HW.out).mono ?_
    rintro e w2 ⟨rfl, h2⟩
    have HM2 := Aside0.mk (HM1.out.step h2)
    have x0 := blk_cell HM2.out.drop.get 0
    have hcs := feas_cases f now l
    have hlate := Aside0.mk (@late f now l)
    obtain ⟨r, hr⟩ : ∃ r, feas f now l = r := ⟨_, rfl⟩
    obtain ⟨r1, r2⟩ := r
    rw [hr] at hcs hlate ⊢
    have hcs : r2 = 0 ∨ r2 = 1 ∨ r2 = 14 := hcs
    clear h2 hr
    rcases hcs with rfl | rfl | rfl
    · go_wp2_with fail
      refine (examples_call _).mono ?_
      rintro e w3 ⟨rfl, h3⟩
      have HB3 := Aside0.mk (below_step HM2.out.below h3)
      clear h3
      go_wp2_with fail
      go_ret
      exact ⟨rfl, HB3.out⟩
    · go_wp2_with fail
      refine (examples_call _).mono ?_
      rintro e w3 ⟨rfl, h3⟩
      have HB3 := Aside0.mk (below_step HM2.out.below h3)
      clear h3
      go_wp2_with fail
      go_ret
      exact ⟨rfl, HB3.out⟩
    · obtain ⟨hok, hvn, hmt⟩ := hlate.out rfl
      have HOK := Aside0.mk hok
      have HVN := Aside0.mk hvn
      have HMT := Aside0.mk hmt
      clear hok hvn hmt
      go_wp2_with fail
      refine (items_call HM2.out (HCA.out _ HM2.out.below) rfl hcA hl6).mono ?_
      rintro e w3 ⟨A3, c3, rfl, h3⟩
      have HM3 := Aside0.mk h3
      obtain ⟨hc3, hC3⟩ := h3.readsE
      have HC3 := Aside0.mk hC3
      clear h3 hC3
      go_wp2_with fail
      refine (Meets_call now HM3.out.drop HC3.out rfl hl40 HW.out HOK.out HVN.out).mono ?_
      rintro e w4 ⟨rfl, h4⟩
      rw [HMT.out]
      have HB4 := Aside0.mk (below_step HM3.out.below h4)
      clear h4
      go_wp2_with fail
      refine (examples_call _).mono ?_
      rintro e w5 ⟨rfl, h5⟩
      have HB5 := Aside0.mk (below_step HB4.out h5)
      clear h5
      go_wp2_with fail
      go_ret
      exact ⟨rfl, HB5.out⟩
theorem Opt_row {G : Prop} (now : Int) (A : Option Addr) (c : Nat) (x : List S30) (B : Option Addr) (cd : Nat) (d : List Int) (W : World) (hr : k30.C W A x.length x) (hc : x.length ≤ c) (hr2 : (Kd.int .i64).C W B d.length d) (hc2 : d.length ≤ cd) (g : G) (g1 : GoodJ x d) :
    Calls Try.prog 5 #[.int .i64 now, .agg #[.slice A x.length c, .slice B d.length cd]] W fun e w' => e = .returned (.bool true) ∧ Below W.heap.size W w' := by
  have e : x.length = (x.map it).length := (List.length_map _).symm
  rw [e] at hr hc ⊢
  refine Opt_law (l := x.map it) now (by rw [map_un_it]; exact hr) hc hr2 (fun y hy => ?_) g1.2.2.2
  obtain ⟨z, hz, rfl⟩ := List.mem_map.1 hy
  exact (g1.1.2.2 z hz).1
end Go.Proofs.Yteneigadnabolaa.QAl
