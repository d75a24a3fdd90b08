/- What this claim needs of Aw. Parted by prune.py. -/
import Derived.Test.YtleafbihfmiidaaDoorZ5Rn
namespace Go.Proofs.YtleafbihfmiidaaDoor.QAl
open Go.RowKit Go.Proofs.YtleafbihfmiidaaDoorW.PrintWords Go.Proofs.YtleafbihfmiidaaDoorW.PrintLast Go.Proofs.YtleafbihfmiidaaDoorW.PrintMore Go.Proofs.YtleafbihfmiidaaDoor.Sl
set_option linter.unusedVariables false
set_option linter.unusedSimpArgs false
theorem BusM.mem {L : List Chunk} {w0 w : World} {gw : Nat} {B : Bs} (h : BusM w0 w gw B L) : Mem w0 w L := by
  obtain ⟨_, _, _, _, _, _, hm⟩ := h
  exact hm.drop.drop.drop.drop
/-- A bus without words and readings. -/
theorem BusM.fresh {L : List Chunk} {w0 w : World} {gw : Nat} {f : Int} (h : Mem w0 w (ob gw (.cells #[.slice none 0 0, .slice none 0 0, .int .i64 f, .slice none 0 0] 50) :: L)) : BusM w0 w gw ⟨[], [], f, []⟩ L := by
  have h5 := ((h.row_nil k100 100).row_nil (Kd.int .i16) 22).row_nil (Kd.int .i16) 22
  exact ⟨_, _, _, _, [], seen_row h5, h5.p3⟩
def awCodes : List S72 := [⟨2, 0, 0, 0, 5⟩, ⟨2, 1, 0, 0, 7⟩, ⟨8, 2, 0, 1, 0⟩, ⟨1, 0, 0, 0, 0⟩]
def awX : Img := ⟨awCodes, [], 0, 0, 0, []⟩
def awS : Cs := ⟨0, List.replicate 72 0⟩
abbrev awCells : Array Value := #[.int .i64 2, .int .i64 0, .int .i64 0, .int .i64 0, .int .i16 5, .int .i64 2, .int .i64 1, .int .i64 0, .int .i64 0, .int .i16 7, .int .i64 8, .int .i64 2, .int .i64 0, .int .i64 1, .int .i16 0, .int .i64 1, .int .i64 0, .int .i64 0, .int .i64 0, .int .i16 0]
abbrev awP (gk : Nat) : XP := ⟨0, none, none, none, some ⟨gk, 0, none⟩, 0, 0, 0, 4, .slice none 0 0, .slice none 0 0, .slice none 0 0, .slice none 0 0, .slice none 0 0⟩
theorem aw_codes {W : World} {g : Nat} (h : W.heap[g]? = some (.cells awCells 72 (0, 0))) : k72.C W (some ⟨g, 0, none⟩) 4 awCodes := by
  have hc : ∀ q v, awCells[q]? = some v → W.cell? ⟨g, q, none⟩ = some v := fun q v hv => by rw [cell_of_row W g q _ 72 (0, 0) h]; exact hv
  refine ⟨rfl, by decide, fun _ => ⟨⟨g, 0, none⟩, rfl, fun j p hj => ?_⟩⟩
  refine ⟨[.int .i64 p.f0, .int .i64 p.f1, .int .i64 p.f2, .int .i64 p.f3, .int .i16 p.f4], rfl, k72_mk W p, fun i u hu => ?_⟩
  rw [Addr.add_mid, Nat.zero_add, show k72.sz = 5 from rfl]
  refine hc _ u ?_
  rcases j with _ | _ | _ | _ | j
  · obtain rfl := Option.some.inj hj
    rcases i with _ | _ | _ | _ | _ | i
    · exact hu
    · exact hu
    · exact hu
    · exact hu
    · exact hu
    · simp at hu
  · obtain rfl := Option.some.inj hj
    rcases i with _ | _ | _ | _ | _ | i
    · exact hu
    · exact hu
    · exact hu
    · exact hu
    · exact hu
    · simp at hu
  · obtain rfl := Option.some.inj hj
    rcases i with _ | _ | _ | _ | _ | i
    · exact hu
    · exact hu
    · exact hu
    · exact hu
    · exact hu
    · simp at hu
  · obtain rfl := Option.some.inj hj
    rcases i with _ | _ | _ | _ | _ | i
    · exact hu
    · exact hu
    · exact hu
    · exact hu
    · exact hu
    · simp at hu
  · simp [awCodes] at hj
set_option maxRecDepth 100000 in
theorem aw_run : (runC awX 10 awS ⟨[], [], 0, []⟩).2.2.1 = 2 ∧ (runC awX 10 awS ⟨[], [], 0, []⟩).2.2.2 = 4 ∧ (runC awX 10 awS ⟨[], [], 0, []⟩).1.r 2 = 35 ∧ (runC awX 10 awS ⟨[], [], 0, []⟩).1.pc = 3 := by decide +kernel
set_option maxRecDepth 100000 in
theorem aw_ok : awS.Ok := ⟨rfl, fun v hv => by
  obtain rfl := (List.mem_replicate.1 hv).2
  exact s16_zero⟩
theorem aw_bok : Bs.Ok ⟨[], [], 0, []⟩ := ⟨fun v hv => (by cases hv), fun v hv => (by cases hv)⟩
theorem aw_xok : awX.Ok := ⟨fun c hc => by
  have : c = ⟨2, 0, 0, 0, 5⟩ ∨ c = ⟨2, 1, 0, 0, 7⟩ ∨ c = ⟨8, 2, 0, 1, 0⟩ ∨ c = ⟨1, 0, 0, 0, 0⟩ := by simpa [awX, awCodes] using hc
  rcases this with rfl | rfl | rfl | rfl <;> exact ⟨by decide, by decide⟩, by decide⟩
theorem run_ok {x : Img} (hx : x.Ok) : ∀ (n : Nat) (s : Cs) (B : Bs), s.Ok → B.Ok → (runC x n s B).1.Ok ∧ (runC x n s B).2.1.Ok ∧ (runC x n s B).2.1.calls.length ≤ B.calls.length + 2 * n
  | 0, s, B, hs, hB => ⟨hs, hB, Nat.le_add_right _ _⟩
  | n + 1, s, B, hs, hB => by
    obtain ⟨h1, h2, h3⟩ := step_ok hx hs hB
    have ih := run_ok hx n (stepC x s B).1 (stepC x s B).2.1 h1 h2
    have e : runC x (n + 1) s B = if (stepC x s B).2.2 = 1 then ((runC x n (stepC x s B).1 (stepC x s B).2.1).1, (runC x n (stepC x s B).1 (stepC x s B).2.1).2.1, (runC x n (stepC x s B).1 (stepC x s B).2.1).2.2.1, (runC x n (stepC x s B).1 (stepC x s B).2.1).2.2.2 + 1) else ((stepC x s B).1, (stepC x s B).2.1, (stepC x s B).2.2, 1) := rfl
    rw [e]
    split
    · exact ⟨ih.1, ih.2.1, by have := ih.2.2; show (runC x n (stepC x s B).1 (stepC x s B).2.1).2.1.calls.length ≤ _; omega⟩
    · exact ⟨h1, h2, by show (stepC x s B).2.1.calls.length ≤ _; omega⟩
set_option maxRecDepth 100000 in
set_option maxHeartbeats 8000000 in
theorem awake_call {w0 w : World} {L : List Chunk} (h : Mem w0 w L) (hG0 : GT w0) :
    Calls Tryd.prog 10 #[] w fun e w' => e = .returned (.bool true) ∧ Mem w0 w' L := by
  obtain ⟨gk, hgk⟩ : ∃ gk, w.heap.size = gk := ⟨_, rfl⟩
  have h1 := h.new_ (.cells awCells 72) hgk
  have h2 := h1.new_ (g := gk + 1) (.cells ((awP gk).arr awX) 47) (by simp [hgk])
  have h3 := h2.new_ (g := gk + 1 + 1) (.cells awS.cells 32) (by simp [hgk])
  have h4 := h3.new_ (g := gk + 1 + 1 + 1) (.cells #[.slice none 0 0, .slice none 0 0, .int .i64 0, .slice none 0 0] 50) (by simp [hgk])
  have hb := BusM.fresh h4
  have HR := Aside0.mk (Run_call (n := 10) hb (by decide) aw_ok aw_bok aw_xok hG0 (fun W s' B' hW => ⟨Kd.C_nil _ _, Kd.C_nil _ _, aw_codes hW.drop.drop.top⟩))
  have hrun := aw_run
  have hro := run_ok aw_xok 10 awS ⟨[], [], 0, []⟩ aw_ok aw_bok
  obtain ⟨R, hR⟩ : ∃ R, runC awX 10 awS ⟨[], [], 0, []⟩ = R := ⟨_, rfl⟩
  rw [hR] at HR hrun hro
  obtain ⟨s2, B2, o, n2⟩ := R
  obtain ⟨e1, e2, e3, e4⟩ := hrun
  dsimp only at e1 e2
  subst e1 e2
  have HRO := Aside0.mk hro.1
  have HE := Aside0.mk (And.intro e3 e4)
  have HGK := Aside0.mk hgk
  clear h h1 h2 h3 h4 hb hR hro e3 e4 hG0 hgk
  go_enter Tryd.func10, Tryd.ntmps10
  go_wp2_with fail
  rw [HGK.out]
  refine HR.out.mono ?_
  rintro e w2 ⟨rfl, hm⟩
  have x0 := cpu_pc hm.top
  have x3 := cpu_r hm.top HRO.out (i := 2) (by decide)
  rw [show s2.pc = 3 from HE.out.2] at x0
  rw [show s2.r 2 = 35 from HE.out.1] at x3
  have x3' : w2.cell? ⟨gk + 1 + 1, 3, none⟩ = some (.int .i16 35) := x3
  have HM := Aside0.mk hm.mem.drop.drop.drop
  clear hm x3
  go_wp2_with fail
  go_ret
  exact ⟨by simp, HM.out⟩
end Go.Proofs.YtleafbihfmiidaaDoor.QAl
