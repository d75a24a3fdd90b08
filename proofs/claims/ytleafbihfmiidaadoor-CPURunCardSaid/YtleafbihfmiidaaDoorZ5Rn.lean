/- What this claim needs of Rn. Parted by prune.py. -/
import Derived.Test.YtleafbihfmiidaaDoorZ5Sr
namespace Go.Proofs.YtleafbihfmiidaaDoor.QAl
open Go.RowKit Go.Proofs.YtleafbihfmiidaaDoorW.PrintWords Go.Proofs.YtleafbihfmiidaaDoorW.PrintLast Go.Proofs.YtleafbihfmiidaaDoorW.PrintMore Go.Proofs.YtleafbihfmiidaaDoor.Sl
attribute [local go_sem] max2_int min2_int max_two min_two
set_option linter.unusedVariables false
set_option linter.unusedSimpArgs false
def addN (u : Cs × Bs × Int × Nat) (j : Nat) : Cs × Bs × Int × Nat := (u.1, u.2.1, u.2.2.1, u.2.2.2 + j)
def RnRel (w0 : World) (gc gx gw n : Nat) (s : Cs) (B : Bs) (p : XP) (x : Img) (L : List Chunk) (v10 : Value) (wr : World) : Prop :=
  ∃ (j : Nat) (s' : Cs) (B' : Bs), j ≤ n ∧ v10 = .int .i64 (j : Int) ∧ runC x n s B = addN (runC x (n - j) s' B') j ∧ s'.Ok ∧ B'.Ok ∧ B'.calls.length ≤ B.calls.length + 2 * j ∧
    BusM w0 wr gw B' (ob gc (.cells s'.cells 32) :: ob gx (.cells (p.arr x) 47) :: L)
set_option maxRecDepth 100000 in
set_option maxHeartbeats 8000000 in
theorem Run_call {L : List Chunk} {w0 w : World} {gc gx gw n : Nat} {s : Cs} {B : Bs} {p : XP} {x : Img} (h : BusM w0 w gw B (ob gc (.cells s.cells 32) :: ob gx (.cells (p.arr x) 47) :: L)) (hl : B.calls.length + 2 * n ≤ 50000) (hs : s.Ok) (hB : B.Ok) (hxo : x.Ok) (hG0 : GT w0)
    (hX : ∀ (W : World) (s' : Cs) (B' : Bs), BusM w0 W gw B' (ob gc (.cells s'.cells 32) :: ob gx (.cells (p.arr x) 47) :: L) → XR p x W) :
    Calls Tryd.prog 22 #[.pointer (some ⟨gc, 0, none⟩), .pointer (some ⟨gx, 0, none⟩), busV gw, .int .i64 (n : Int)] w fun e w' => e = .returned (.tuple #[.int .i64 (runC x n s B).2.2.1, .int .i64 ((runC x n s B).2.2.2 : Int)]) ∧ BusM w0 w' gw (runC x n s B).2.1 (ob gc (.cells (runC x n s B).1.cells 32) :: ob gx (.cells (p.arr x) 47) :: L) := by
  have H := Aside0.mk h
  have HSO := Aside0.mk hs
  have HBO := Aside0.mk hB
  have HL := Aside0.mk hl
  have HSTEP := Aside0.mk (fun (W : World) (s' : Cs) (B' : Bs) (h : BusM w0 W gw B' (ob gc (.cells s'.cells 32) :: ob gx (.cells (p.arr x) 47) :: L)) (h2 : B'.calls.length ≤ 50000) (h3 : s'.Ok) (h4 : B'.Ok) => Step_call h h2 h3 h4 hxo hG0 hX)
  have HXO := Aside0.mk hxo
  clear h hl hs hB hxo hG0 hX
  go_enter Tryd.func22, Tryd.ntmps22
  go_wp2_with fail
  go_loopw [10] (fun v10 wr => RnRel w0 gc gx gw n s B p x L v10 wr) (fun i _ => n - (intOf i).toNat)
  case atStart => exact ⟨0, s, B, Nat.zero_le _, rfl, rfl, HSO.out, HBO.out, Nat.le_add_right _ _, H.out⟩
  case round =>
    obtain ⟨j, s', B', hj, rfl, hrun, hs', hB', hc', hM⟩ := hrel
    have HR := Aside0.mk hrun
    have HM := Aside0.mk hM
    have HOK := Aside0.mk (And.intro hs' (And.intro hB' hc'))
    have HNL := Aside0.mk (show n ≤ 25000 by have := HL.out; omega)
    clear hrun hM hs' hB' hc' H
    by_cases hlt : j < n
    · have HLT := Aside0.mk hlt
      have hj1 : wrap64 ((j : Int) + 1) = ((j + 1 : Nat) : Int) := by have := HNL.out; unfold wrap64; omega
      have HW := Aside0.mk hj1
      have HST := Aside0.mk (HSTEP.out _ s' B' HM.out (by have := HOK.out.2.2; have := HL.out; omega) HOK.out.1 HOK.out.2.1)
      have HSO2 := Aside0.mk (step_ok HXO.out HOK.out.1 HOK.out.2.1)
      have HUN := Aside0.mk (show runC x (n - j) s' B' = if (stepC x s' B').2.2 = 1 then addN (runC x (n - (j + 1)) (stepC x s' B').1 (stepC x s' B').2.1) 1 else ((stepC x s' B').1, (stepC x s' B').2.1, (stepC x s' B').2.2, 1) by
        rw [show n - j = (n - (j + 1)) + 1 by omega]
        rfl)
      obtain ⟨ST, hST⟩ : ∃ ST, stepC x s' B' = ST := ⟨_, rfl⟩
      rw [hST] at HST HSO2 HUN
      obtain ⟨s2, B2, o⟩ := ST
      dsimp only at HST HSO2 HUN
      clear hST hj1
      go_wp2_with fail
      refine HST.out.mono ?_
      rintro e w2 ⟨rfl, h2⟩
      clear hlt
      have H2 := Aside0.mk h2
      clear h2
      by_cases ho : o = 1
      · have HU2 := Aside0.mk (show runC x (n - j) s' B' = addN (runC x (n - (j + 1)) s2 B2) 1 by rw [HUN.out, if_pos ho])
        subst ho
        go_wp2_with fail
        go_roundw
        case rel => exact ⟨j + 1, s2, B2, by have := HLT.out; omega, by first | rw [HW.out] | (push_cast; rfl), by rw [HR.out, HU2.out]; simp only [addN]; rw [Nat.add_assoc, Nat.add_comm 1 j], HSO2.out.1, HSO2.out.2.1, by have := HSO2.out.2.2; have := HOK.out.2.2; omega, H2.out⟩
        case measure => rw [HW.out]; simp only [intOf, Int.toNat_natCast]; have := HLT.out; omega
      · have HF := Aside0.mk (show runC x n s B = (s2, B2, o, 1 + j) by rw [HR.out, HUN.out, if_neg ho]; rfl)
        have c1 : (o != 1) = true := by simpa using ho
        have c2 : (o == 1) = false := beq_eq_false_iff_ne.2 ho
        clear ho
        have hj1 : wrap64 ((j : Int) + 1) = ((1 + j : Nat) : Int) := by rw [HW.out, Nat.add_comm]
        go_wp2_with fail
        go_ret2
        exact ⟨by rw [HF.out]; first | rfl | (simp; omega), by rw [HF.out]; exact H2.out⟩
    · obtain rfl : j = n := by omega
      have HF := Aside0.mk (show runC x j s B = (s', B', 1, j) by rw [HR.out, Nat.sub_self]; show ((s', B', (1 : Int), 0 + j) : Cs × Bs × Int × Nat) = _; rw [Nat.zero_add])
      have n0 : ¬ (j : Int) < 0 := by omega
      clear hlt
      go_wp2_with fail
      go_ret2
      exact ⟨by rw [HF.out]; rfl, by rw [HF.out]; exact HM.out⟩
end Go.Proofs.YtleafbihfmiidaaDoor.QAl
