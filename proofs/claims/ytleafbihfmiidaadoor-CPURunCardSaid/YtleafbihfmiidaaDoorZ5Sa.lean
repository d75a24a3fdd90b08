/- What this claim needs of Sa. Parted by prune.py. -/
import Derived.Test.YtleafbihfmiidaaDoorZ5Ow
namespace Go.Proofs.YtleafbihfmiidaaDoor.QAl
open Go.RowKit Go.Proofs.YtleafbihfmiidaaDoorW.PrintWords Go.Proofs.YtleafbihfmiidaaDoorW.PrintLast Go.Proofs.YtleafbihfmiidaaDoorW.PrintMore Go.Proofs.YtleafbihfmiidaaDoor.Sl
set_option linter.unusedVariables false
set_option linter.unusedSimpArgs false
/-- What Small answers of the lengths. -/
def smallB (a b c d e f g : Nat) : Bool := decide (a ≤ 60) && (decide (b ≤ 20) && (decide (c ≤ 20) && (decide (d ≤ 20) && (decide (e ≤ 600) && (decide (f ≤ 60) && decide (g = 0))))))
set_option maxRecDepth 100000 in
set_option maxHeartbeats 4000000 in
theorem Small_call {w0 w : World} {L : List Chunk} (h : Mem w0 w L) (p : XP) (x : Img) (B0 B1 B3 : Option Addr) (n0 n1 n3 d0 d1 d3 : Nat) (fl : Int) :
    Calls Tryd.prog 17 #[.agg (p.arr x), .agg #[.slice B0 n0 d0, .slice B1 n1 d1, .int .i64 fl, .slice B3 n3 d3]] w fun e w' => e = .returned (.bool (smallB x.codes.length x.globals.length x.addr.length x.chans n0 n1 n3)) ∧ Mem w0 w' L := by
  obtain ⟨g, hg⟩ : ∃ g, w.heap.size = g := ⟨_, rfl⟩
  have h1 := h.new_ (.cells (p.arr x) 47) hg
  have h2 := h1.new_ (g := g + 1) (.cells #[.slice B0 n0 d0, .slice B1 n1 d1, .int .i64 fl, .slice B3 n3 d3] 50) (by simp [hg])
  obtain ⟨codes, globals, sensors, outputs, chans, addr⟩ := x
  dsimp only [XP.arr] at h1 h2 ⊢
  generalize codes.length = nc at *
  generalize globals.length = ng at *
  generalize addr.length = na at *
  have x11 := blk_cell h2.drop.get 11
  have x1 := blk_cell h2.drop.get 1
  have x6 := blk_cell h2.drop.get 6
  have x4 := blk_cell h2.drop.get 4
  have y0 := blk_cell h2.get 0
  have y1 := blk_cell h2.get 1
  have y3 := blk_cell h2.get 3
  have HM := Aside0.mk h2.drop.drop
  have HB : Aside0 (smallB nc ng na chans n0 n1 n3 = (decide (nc ≤ 60) && (decide (ng ≤ 20) && (decide (na ≤ 20) && (decide (chans ≤ 20) && (decide (n0 ≤ 600) && (decide (n1 ≤ 60) && decide (n3 = 0)))))))) := ⟨rfl⟩
  clear h h1 h2
  by_cases k0 : nc ≤ 60
  rotate_left
  · have c0 : 60 < nc := by omega
    have K0 := Aside0.mk k0
    go_enter Tryd.func17, Tryd.ntmps17
    go_wp2_with fail
    go_ret
    refine ⟨?_, HM.out⟩
    rw [HB.out]
    simp [K0.out]
  have K0 := Aside0.mk k0
  by_cases k1 : ng ≤ 20
  rotate_left
  · have c1 : 20 < ng := by omega
    have K1 := Aside0.mk k1
    go_enter Tryd.func17, Tryd.ntmps17
    go_wp2_with fail
    go_ret
    refine ⟨?_, HM.out⟩
    rw [HB.out]
    simp [K0.out, K1.out]
  have K1 := Aside0.mk k1
  by_cases k2 : na ≤ 20
  rotate_left
  · have c2 : 20 < na := by omega
    have K2 := Aside0.mk k2
    go_enter Tryd.func17, Tryd.ntmps17
    go_wp2_with fail
    go_ret
    refine ⟨?_, HM.out⟩
    rw [HB.out]
    simp [K0.out, K1.out, K2.out]
  have K2 := Aside0.mk k2
  by_cases k3 : chans ≤ 20
  rotate_left
  · have c3 : 20 < chans := by omega
    have K3 := Aside0.mk k3
    go_enter Tryd.func17, Tryd.ntmps17
    go_wp2_with fail
    go_ret
    refine ⟨?_, HM.out⟩
    rw [HB.out]
    simp [K0.out, K1.out, K2.out, K3.out]
  have K3 := Aside0.mk k3
  by_cases k4 : n0 ≤ 600
  rotate_left
  · have c4 : 600 < n0 := by omega
    have K4 := Aside0.mk k4
    go_enter Tryd.func17, Tryd.ntmps17
    go_wp2_with fail
    go_ret
    refine ⟨?_, HM.out⟩
    rw [HB.out]
    simp [K0.out, K1.out, K2.out, K3.out, K4.out]
  have K4 := Aside0.mk k4
  by_cases k5 : n1 ≤ 60
  rotate_left
  · have c5 : 60 < n1 := by omega
    have K5 := Aside0.mk k5
    go_enter Tryd.func17, Tryd.ntmps17
    go_wp2_with fail
    go_ret
    refine ⟨?_, HM.out⟩
    rw [HB.out]
    simp [K0.out, K1.out, K2.out, K3.out, K4.out, K5.out]
  have K5 := Aside0.mk k5
  by_cases k6 : n3 = 0
  · subst k6
    go_enter Tryd.func17, Tryd.ntmps17
    go_wp2_with fail
    go_ret
    refine ⟨?_, HM.out⟩
    rw [HB.out]
    simp [K0.out, K1.out, K2.out, K3.out, K4.out, K5.out]
  · have K6 := Aside0.mk k6
    go_enter Tryd.func17, Tryd.ntmps17
    go_wp2_with fail
    go_ret
    refine ⟨?_, HM.out⟩
    rw [HB.out]
    simp [K0.out, K1.out, K2.out, K3.out, K4.out, K5.out, K6.out]
end Go.Proofs.YtleafbihfmiidaaDoor.QAl
