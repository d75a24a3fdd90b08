/- slices.SortStableFunc on at most 20 elements. -/
import Derived.Test.YtjdpogkddoaioaaSortC
namespace Go.Proofs.Ytjdpogkddoaioaa.QWh
open Go.RowKit Go.Proofs.YtjdpogkddoaioaaW.PrintWords Go.Proofs.YtjdpogkddoaioaaW.PrintLast Go.Proofs.YtjdpogkddoaioaaW.PrintMore Go.Proofs.Ytjdpogkddoaioaa.Sl
set_option linter.unusedVariables false
set_option linter.unusedSimpArgs false

theorem stable0 {w : World} {A : Option Addr} {c : Nat} (f : Value) :
    Calls Try.prog 45 #[.slice A 0 c, .int .i64 0, f] w fun e w' => e = .returned (.tuple #[]) ∧ w = w' := by
  go_enter Try.func45, Try.ntmps45
  go_wp2_with fail
  go_loopw [7, 8] (fun v7 v8 wr => v7 = .int .i64 0 ∧ v8 = .int .i64 20 ∧ wr = w) (fun _ i _ => 0)
  case atStart => exact ⟨rfl, rfl, rfl⟩
  case round =>
    obtain ⟨rfl, rfl, rfl⟩ := hrel
    go_wp2_with fail
    refine (insSort0 (n := 0) 0 0 (by decide) (by decide) (by decide) f).mono ?_
    rintro e w2 ⟨rfl, hw⟩
    subst hw
    go_wp2_with fail
    go_loopw [6] (fun v6 w3 => v6 = .int .i64 20 ∧ w3 = wr) (fun _ _ => 0)
    case atStart => exact ⟨rfl, rfl⟩
    case round =>
      obtain ⟨rfl, rfl⟩ := hrel
      go_wp2_with fail
      go_end0
      exact ⟨rfl, rfl⟩
theorem SortStable0 {w : World} {A : Option Addr} {c : Nat} (f : Value) :
    Calls Try.prog 42 #[.slice A 0 c, f] w fun e w' => e = .returned (.tuple #[]) ∧ w = w' := by
  go_enter Try.func42, Try.ntmps42
  go_wp2_with fail
  refine (stable0 f).mono ?_
  rintro e w2 ⟨rfl, hw⟩
  subst hw
  go_wp2_with fail
  go_end0
  exact ⟨rfl, rfl⟩
theorem SortStable {w0 w : World} {go c : Nat} {xs : List Int} {g gb : Nat} {vp vn : Value} {ps ns : List Int} {L : List Chunk} (hn : 0 < xs.length) (h20 : xs.length ≤ 20) (hin : inW ns xs) (hM : Mem w0 w (srtM w0 (.slice (some ⟨go, 0, none⟩) xs.length c) xs g gb vp vn ps ns L)) :
    Calls Try.prog 42 #[.slice (some ⟨go, 0, none⟩) xs.length c, .func (.func 43) #[] #[.pointer (some ⟨gb, 0, none⟩)]] w fun e w' => e = .returned (.tuple #[]) ∧ Mem w0 w' (srtM w0 (.slice (some ⟨go, 0, none⟩) xs.length c) (srt (cfR ns) xs xs.length) g gb vp vn ps ns L) := by
  have HM := Aside0.mk hM
  have HIN := Aside0.mk hin
  clear hM hin
  go_enter Try.func42, Try.ntmps42
  go_wp2_with fail
  refine (stable (c := c) hn h20 HIN.out HM.out).mono ?_
  rintro e w2 ⟨rfl, hM⟩
  have HM2 := Aside0.mk hM
  clear hM
  go_wp2_with fail
  go_end0
  exact ⟨rfl, HM2.out⟩
end Go.Proofs.Ytjdpogkddoaioaa.QWh
