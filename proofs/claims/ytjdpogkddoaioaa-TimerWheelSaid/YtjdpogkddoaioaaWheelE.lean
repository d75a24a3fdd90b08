/- Fire and Set at whatever arguments. -/
import Derived.Test.YtjdpogkddoaioaaWheelP
import Derived.Test.YtjdpogkddoaioaaFire
namespace Go.Proofs.Ytjdpogkddoaioaa.QWh
open Go.RowKit Go.Proofs.YtjdpogkddoaioaaW.PrintWords Go.Proofs.YtjdpogkddoaioaaW.PrintLast Go.Proofs.YtjdpogkddoaioaaW.PrintMore Go.Proofs.Ytjdpogkddoaioaa.Sl
set_option linter.unusedVariables false
set_option linter.unusedSimpArgs false

theorem Fire_any {w0 w : World} {g : Nat} {vp vn : Value} {ps ns : List Int} {L : List Chunk} (t lo hi : Int) (hI : WInv ps ns) (hM : Mem w0 w (wheel w0 g vp vn ps ns L)) :
    Calls Try.prog 27 #[.pointer (some ⟨g, 0, none⟩), .int .i64 t, .agg #[.int .i64 lo, .int .i64 hi]] w fun e w' =>
      e = .returned (.tuple #[.int .i64 (fireW ps ns t lo hi).2.1, .int .i64 (fireW ps ns t lo hi).2.2]) ∧ Mem w0 w' (wheel w0 g vp vn ps (fireW ps ns t lo hi).1 L) := by
  by_cases hg : 0 ≤ t ∧ t < (ps.length : Int) ∧ okI lo hi
  · obtain ⟨j, rfl⟩ := Int.eq_ofNat_of_zero_le hg.1
    have hj : j < ps.length := by omega
    have hr := hI.ok j hj
    refine (Fire.good j lo hi hj hI.len hg.2.2 (k := 2) (at' := (advW (ns.getD j 0) (ps.getD j 0) lo).1) (sk := (advW (ns.getD j 0) (ps.getD j 0) lo).2.1) (er := (advW (ns.getD j 0) (ps.getD j 0) lo).2.2) (fun hz => ?_) hM).mono ?_
    · have hpp := (hI.per _ (getD_mem hj)).resolve_left hz
      exact adv_any hr.2.1 hr.2.2 hpp.1 hpp.2 hg.2.2
    · rintro e w' (⟨hz, rfl, hm⟩ | ⟨hz, rfl, hm⟩)
      · have e : fireW ps ns (j : Int) lo hi = (ns, 0, 5) := by unfold fireW; rw [if_pos hg, Int.toNat_natCast, if_pos hz]
        rw [e]; exact ⟨rfl, hm⟩
      · unfold advW at hm ⊢
        by_cases hd : ns.getD j 0 ≤ lo
        · have e : fireW ps ns (j : Int) lo hi = (ns.set j (advAt (ns.getD j 0) (ps.getD j 0) lo), (lo - ns.getD j 0) / ps.getD j 0, 0) := by unfold fireW; rw [if_pos hg, Int.toNat_natCast, if_neg hz, if_pos hd]
          rw [if_pos hd] at hm ⊢
          rw [e]; exact ⟨rfl, hm⟩
        · have e : fireW ps ns (j : Int) lo hi = (ns, 0, 10) := by unfold fireW; rw [if_pos hg, Int.toNat_natCast, if_neg hz, if_neg hd]
          rw [if_neg hd] at hm ⊢
          rw [e]; exact ⟨rfl, hm⟩
  · have e : fireW ps ns t lo hi = (ns, 0, 1) := by unfold fireW; rw [if_neg hg]
    rw [e]
    exact Fire.bad t lo hi hg hM
end Go.Proofs.Ytjdpogkddoaioaa.QWh
