/- c12: the reference's Run. Printed by mkRrn.py. -/
import Derived.Test.YtleafbihfmiidaaDoorZ5Rst
import Derived.Test.YtleafbihfmiidaaDoorZ5Spq
namespace Go.Proofs.YtleafbihfmiidaaDoor.QAl
open Go.RowKit Go.Proofs.YtleafbihfmiidaaDoorW.PrintWords Go.Proofs.YtleafbihfmiidaaDoorW.PrintLast Go.Proofs.YtleafbihfmiidaaDoorW.PrintMore Go.Proofs.YtleafbihfmiidaaDoor.Sl
set_option linter.unusedVariables false
set_option linter.unusedSimpArgs false
theorem results_ctt {P : Program} {fn : Func} {p v u : Tmp} {ty : TypeId} (h : fn.results = #[.cell p ty, .tmp v, .tmp u]) (tmps : Array Value) (w : World) (g : Nat) (t : TypeId) (cs : Array Value) (fr : Nat × Nat) (d : TypeDesc)
    (hp : tmps.getD p undef = .pointer (some ⟨g, 0, none⟩)) (hg : w.heap[g]? = some (.cells cs t fr))
    (hu : P.underlying ty = some d) (hd : (match d with | .struct _ | .array _ _ => true | _ => false) = true) (hi : (P.info? ty).map (·.size) = some cs.size) :
    (results fn tmps).run P w = .ok (.tuple #[.agg cs, tmps.getD v undef, tmps.getD u undef]) w := by
  have hp' : tmps[p]?.getD undef = .pointer (some ⟨g, 0, none⟩) := by simpa using hp
  simp [results, h, hp', asAddr, run_loadVar_row w g t ty cs fr d hg hu hd hi]
def RrnRel (w0 : World) (g gw n : Nat) (s : Cs) (B : Bs) (p : XP) (x : Img) (L : List Chunk) (v11 v12 : Value) (wr : World) : Prop :=
  ∃ (j : Nat) (s' : Cs) (B' : Bs) (o : Int), j ≤ n ∧ v11 = .int .i64 o ∧ v12 = .int .i64 (j : Int) ∧ (o = 1 → runC x n s B = addN (runC x (n - j) s' B') j) ∧ (o ≠ 1 → runC x n s B = (s', B', o, j)) ∧ s'.Ok ∧ B'.Ok ∧ B'.calls.length ≤ B.calls.length + 2 * j ∧
    BusM w0 wr gw B' (ob g (.cells s'.cells 26) :: ob (g + 1 + 1) (.cells Tryd.zeroCells26 26) :: ob (g + 1) (.cells (p.arr x) 47) :: L)
set_option maxRecDepth 100000 in
set_option maxHeartbeats 8000000 in
theorem rRun_call {L : List Chunk} {w0 w : World} {gw n : Nat} {s : Cs} {B : Bs} {p : XP} {x : Img} (h : BusM w0 w gw B L) (hl : B.calls.length + 2 * n ≤ 50000) (hs : s.Ok) (hB : B.Ok) (hxo : x.Ok) (hXR : XR p x w0) :
    Calls Tryd.prog 23 #[.agg s.cells, .agg (p.arr x), .pointer (some ⟨gw, 0, none⟩), .int .i64 (n : Int)] w fun e w' => e = .returned (.tuple #[.agg (runC x n s B).1.cells, .int .i64 (runC x n s B).2.2.1, .int .i64 ((runC x n s B).2.2.2 : Int)]) ∧ BusM w0 w' gw (runC x n s B).2.1 L := by
  obtain ⟨g, hg⟩ : ∃ g, w.heap.size = g := ⟨_, rfl⟩
  have h1 := h.new_ (.cells s.cells 26) hg
  have h2 := h1.new_ (g := g + 1) (.cells (p.arr x) 47) (by simp [hg])
  have h3 := h2.new_ (g := g + 1 + 1) (.cells Tryd.zeroCells26 26) (by simp [hg])
  have H := Aside0.mk (h3.up 2)
  have HSO := Aside0.mk hs
  have HBO := Aside0.mk hB
  have HL := Aside0.mk hl
  have HXO := Aside0.mk hxo
  have HXR := Aside0.mk hXR
  clear h h1 h2 h3 hl hs hB hxo hXR
  go_enter Tryd.func23, Tryd.ntmps23
  go_wp2_with fail
  go_loopw [11, 12] (fun v11 v12 wr => RrnRel w0 g gw n s B p x L v11 v12 wr) (fun _ i _ => n - (intOf i).toNat)
  case atStart => exact ⟨0, s, B, 1, Nat.zero_le _, rfl, rfl, fun _ => rfl, fun h => absurd rfl h, HSO.out, HBO.out, Nat.le_add_right _ _, H.out⟩
  case round =>
    obtain ⟨j, s', B', o, hj, rfl, rfl, hrun, hrun2, hs', hB', hc', hM⟩ := hrel
    have HR := Aside0.mk hrun
    have HR2 := Aside0.mk hrun2
    have HM := Aside0.mk hM
    have HOK := Aside0.mk (And.intro hs' (And.intro hB' hc'))
    have HNL := Aside0.mk (show n ≤ 25000 by have := HL.out; omega)
    clear hrun hrun2 hM hs' hB' hc' H
    by_cases ho : o = 1
    rotate_left
    · have HF := Aside0.mk (HR2.out ho)
      have c1 : (o == 1) = false := beq_eq_false_iff_ne.2 ho
      clear ho
      go_wp2_with (first
        | refine wpList_load26 rfl (.tmp 4) rfl g rfl HOK.out.1 HM.out.top ?_
        | refine wpList_store26 rfl (.tmp 8) (.tmp 29) rfl (g + 1 + 1) rfl rfl HOK.out.1 Tryd.zeroCells26 zero26 (HM.out.up 1).top ?_)
      have h9 := BusM.putRow (HM.out.up 1) s'.cells
      refine bodyPost_ret (results_ctt rfl _ _ (g + 1 + 1) 26 s'.cells (0, 0) _ rfl h9.top Tryd.underlying26 rfl (by rw [HOK.out.1.size]; exact i26)) rfl ?_
      exact ⟨by rw [HF.out]; rfl, by rw [HF.out]; exact h9.drop.drop.drop⟩
    subst ho
    by_cases hlt : j < n
    · have HLT := Aside0.mk hlt
      have hj1 : wrap64 ((j : Int) + 1) = ((j + 1 : Nat) : Int) := by have := HNL.out; unfold wrap64; omega
      have HW := Aside0.mk hj1
      have HST := Aside0.mk (rStep_call HM.out (by have := HOK.out.2.2; have := HL.out; omega) HOK.out.1 HOK.out.2.1 HXO.out HXR.out)
      have HSO2 := Aside0.mk (step_ok HXO.out HOK.out.1 HOK.out.2.1)
      have HUN := Aside0.mk (show runC x (n - j) s' B' = if (stepC x s' B').2.2 = 1 then addN (runC x (n - (j + 1)) (stepC x s' B').1 (stepC x s' B').2.1) 1 else ((stepC x s' B').1, (stepC x s' B').2.1, (stepC x s' B').2.2, 1) by
        rw [show n - j = (n - (j + 1)) + 1 by omega]
        rfl)
      obtain ⟨ST, hST⟩ : ∃ ST, stepC x s' B' = ST := ⟨_, rfl⟩
      rw [hST] at HST HSO2 HUN
      obtain ⟨s2, B2, o2⟩ := ST
      dsimp only at HST HSO2 HUN
      have hx := (HM.out.up 2).top
      have y0 := blk_cell hx 0
      have y1 := blk_cell hx 1
      have y2 := blk_cell hx 2
      have y3 := blk_cell hx 3
      have y4 := blk_cell hx 4
      have y5 := blk_cell hx 5
      have y6 := blk_cell hx 6
      have y7 := blk_cell hx 7
      have y8 := blk_cell hx 8
      have y9 := blk_cell hx 9
      have y10 := blk_cell hx 10
      have y11 := blk_cell hx 11
      clear hST hj1 hx
      go_wp2_with (refine wpList_load26 rfl (.tmp 4) rfl g rfl HOK.out.1 HM.out.top ?_)
      refine HST.out.mono ?_
      rintro e w2 ⟨rfl, h2⟩
      clear hlt y0 y1 y2 y3 y4 y5 y6 y7 y8 y9 y10 y11
      have H2 := Aside0.mk h2
      have H3 := Aside0.mk (BusM.putRow h2 s2.cells)
      clear h2
      go_wp2_with (refine wpList_store26 rfl (.tmp 4) (.tmp 25) rfl g rfl rfl HSO2.out.1 s'.cells HOK.out.1.size H2.out.top ?_)
      go_roundw
      case rel =>
        refine ⟨j + 1, s2, B2, o2, by have := HLT.out; omega, rfl, by first | rw [HW.out] | (push_cast; rfl), fun ho => ?_, fun ho => ?_, HSO2.out.1, HSO2.out.2.1, by have := HSO2.out.2.2; have := HOK.out.2.2; omega, H3.out⟩
        · rw [HR.out (by first | rfl | trivial), HUN.out, if_pos ho]; simp only [addN]; rw [Nat.add_assoc, Nat.add_comm 1 j]
        · rw [HR.out (by first | rfl | trivial), HUN.out, if_neg ho]; simp only [addN]; rw [Nat.add_comm 1 j]
      case measure => rw [HW.out]; simp only [intOf, Int.toNat_natCast]; have := HLT.out; omega
    · obtain rfl : j = n := by omega
      have HF := Aside0.mk (show runC x j s B = (s', B', 1, j) by rw [HR.out rfl, Nat.sub_self]; show ((s', B', (1 : Int), 0 + j) : Cs × Bs × Int × Nat) = _; rw [Nat.zero_add])
      have n0 : ¬ (j : Int) < (j : Int) := by omega
      clear hlt
      go_wp2_with (first
        | refine wpList_load26 rfl (.tmp 4) rfl g rfl HOK.out.1 HM.out.top ?_
        | refine wpList_store26 rfl (.tmp 8) (.tmp 29) rfl (g + 1 + 1) rfl rfl HOK.out.1 Tryd.zeroCells26 zero26 (HM.out.up 1).top ?_)
      have h9 := BusM.putRow (HM.out.up 1) s'.cells
      refine bodyPost_ret (results_ctt rfl _ _ (g + 1 + 1) 26 s'.cells (0, 0) _ rfl h9.top Tryd.underlying26 rfl (by rw [HOK.out.1.size]; exact i26)) rfl ?_
      exact ⟨by rw [HF.out]; rfl, by rw [HF.out]; exact h9.drop.drop.drop⟩
end Go.Proofs.YtleafbihfmiidaaDoor.QAl
