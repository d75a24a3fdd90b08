/- slices.SortStableFunc on at most 20 elements: stableCmpFunc, SortStableFunc. -/
import Derived.Test.YtjdpogkddoaioaaSortB
namespace Go.Proofs.Ytjdpogkddoaioaa.QWh
open Go.RowKit Go.Proofs.YtjdpogkddoaioaaW.PrintWords Go.Proofs.YtjdpogkddoaioaaW.PrintLast Go.Proofs.YtjdpogkddoaioaaW.PrintMore Go.Proofs.Ytjdpogkddoaioaa.Sl
set_option linter.unusedVariables false
set_option linter.unusedSimpArgs false

theorem insSort0 {w : World} {A : Option Addr} {n c : Nat} (a b : Int) (ha0 : 0 ≤ a) (ha : a ≤ 1000) (hab : b ≤ a + 1) (f : Value) :
    Calls Try.prog 47 #[.slice A n c, .int .i64 a, .int .i64 b, f] w fun e w' => e = .returned (.tuple #[]) ∧ w = w' := by
  go_enter Try.func47, Try.ntmps47
  go_wp2_with fail
  go_loopw [8] (fun v8 wr => v8 = .int .i64 (a + 1) ∧ wr = w) (fun i _ => 0)
  case atStart => exact ⟨rfl, rfl⟩
  case round =>
    obtain ⟨rfl, rfl⟩ := hrel
    have c1 : decide (a + 1 < b) = false := decide_eq_false (by omega)
    go_wp2_with fail
    go_end0
    exact ⟨rfl, rfl⟩

def StRel (w0 : World) (v : Value) (xs : List Int) (g gb : Nat) (vp vn : Value) (ps ns : List Int) (L : List Chunk) (v7 v8 : Value) (wr : World) : Prop :=
  (v7 = .int .i64 0 ∧ v8 = .int .i64 20 ∧ Mem w0 wr (srtM w0 v xs g gb vp vn ps ns L)) ∨
  (xs.length = 20 ∧ v7 = .int .i64 20 ∧ v8 = .int .i64 40 ∧ Mem w0 wr (srtM w0 v (srt (cfR ns) xs xs.length) g gb vp vn ps ns L))
set_option maxHeartbeats 8000000 in
theorem stable {w0 w : World} {go c : Nat} {xs : List Int} {g gb : Nat} {vp vn : Value} {ps ns : List Int} {L : List Chunk} (hn : 0 < xs.length) (h20 : xs.length ≤ 20) (hin : inW ns xs) (hM : Mem w0 w (srtM w0 (.slice (some ⟨go, 0, none⟩) xs.length c) xs g gb vp vn ps ns L)) :
    Calls Try.prog 45 #[.slice (some ⟨go, 0, none⟩) xs.length c, .int .i64 (xs.length : Int), .func (.func 43) #[] #[.pointer (some ⟨gb, 0, none⟩)]] w fun e w' => e = .returned (.tuple #[]) ∧ Mem w0 w' (srtM w0 (.slice (some ⟨go, 0, none⟩) xs.length c) (srt (cfR ns) xs xs.length) g gb vp vn ps ns L) := by
  have HM := Aside0.mk hM
  have HIN := Aside0.mk hin
  clear hM hin
  have c9 : decide ((20 : Int) < (xs.length : Int)) = false := decide_eq_false (by omega)
  go_enter Try.func45, Try.ntmps45
  go_wp2_with fail
  go_loopw [7, 8] (fun v7 v8 wr => StRel w0 (.slice (some ⟨go, 0, none⟩) xs.length c) xs g gb vp vn ps ns L v7 v8 wr) (fun _ i _ => 40 - (intOf i).toNat)
  case atStart => exact .inl ⟨rfl, rfl, HM.out⟩
  case round =>
    rcases hrel with ⟨rfl, rfl, hM⟩ | ⟨h20', rfl, rfl, hM⟩
    · by_cases hl : xs.length = 20
      · have c1 : decide ((20 : Int) ≤ (xs.length : Int)) = true := decide_eq_true (by omega)
        have HM1 := Aside0.mk hM
        have HL := Aside0.mk hl
        clear hM HM hl
        go_wp2_with fail
        have key := insSort (c := c) hn (by omega) HIN.out HM1.out
        rw [show ((xs.length : Nat) : Int) = 20 by rw [HL.out]; rfl] at key
        refine key.mono ?_
        clear key
        rintro e w2 ⟨rfl, hM⟩
        have HM2 := Aside0.mk hM
        clear hM
        go_wp2_with fail
        go_roundw
        case rel => exact .inr ⟨HL.out, rfl, rfl, HM2.out⟩
        case measure => simp [intOf]
      · have c1 : decide ((20 : Int) ≤ (xs.length : Int)) = false := decide_eq_false (by omega)
        have HM1 := Aside0.mk hM
        clear hM HM
        go_wp2_with fail
        refine (insSort (c := c) hn (by omega) HIN.out HM1.out).mono ?_
        rintro e w2 ⟨rfl, hM⟩
        have HM2 := Aside0.mk hM
        clear hM
        go_wp2_with fail
        go_loopw [6] (fun v6 wr => v6 = .int .i64 20 ∧ wr = w2) (fun _ _ => 0)
        case atStart => exact ⟨rfl, rfl⟩
        case round =>
          obtain ⟨rfl, rfl⟩ := hrel
          go_wp2_with fail
          go_end0
          exact ⟨rfl, HM2.out⟩
    · have c1 : decide ((40 : Int) ≤ (xs.length : Int)) = false := decide_eq_false (by omega)
      have HM1 := Aside0.mk hM
      have HL := Aside0.mk h20'
      clear hM HM h20'
      go_wp2_with fail
      have key := insSort0 (w := wr) (A := some ⟨go, 0, none⟩) (n := xs.length) (c := c) 20 (xs.length : Int) (by decide) (by decide) (by have := HL.out; omega) (.func (.func 43) #[] #[.pointer (some ⟨gb, 0, none⟩)])
      refine key.mono ?_
      clear key
      rintro e w2 ⟨rfl, hw⟩
      subst hw
      go_wp2_with fail
      go_loopw [6] (fun v6 w3 => v6 = .int .i64 20 ∧ w3 = wr) (fun _ _ => 0)
      case atStart => exact ⟨rfl, rfl⟩
      case round =>
        obtain ⟨rfl, rfl⟩ := hrel
        go_wp2_with fail
        go_end0
        exact ⟨rfl, HM1.out⟩
end Go.Proofs.Ytjdpogkddoaioaa.QWh
