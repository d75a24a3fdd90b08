/- c12: location, Save and the reference's Save. -/
import Derived.Test.YtleafbihfmiidaaDoorOw
namespace Go.Proofs.YtleafbihfmiidaaDoor.QAl
open Go.RowKit Go.Proofs.YtleafbihfmiidaaDoorW.PrintWords Go.Proofs.YtleafbihfmiidaaDoorW.PrintLast Go.Proofs.YtleafbihfmiidaaDoorW.PrintMore Go.Proofs.YtleafbihfmiidaaDoor.Sl
set_option linter.unusedVariables false
set_option linter.unusedSimpArgs false
def locP (g : Nat) (x : Int) : Value := if 0 ≤ x ∧ x < 72 then .pointer (some ⟨g, 1 + x.toNat, none⟩) else .pointer none
def locV (s : Cs) (x : Int) : Int := if 0 ≤ x ∧ x < 72 then s.r x.toNat else 0
set_option maxRecDepth 100000 in
set_option maxHeartbeats 4000000 in
theorem location_call (g : Nat) (x : Int) (w : World) : Calls Tryd.prog 25 #[.pointer (some ⟨g, 0, none⟩), .int .i64 x] w fun e w' => e = .returned (locP g x) ∧ w = w' := by
  have HP : Aside0 (locP g x = if 0 ≤ x ∧ x < 72 then .pointer (some ⟨g, 1 + x.toNat, none⟩) else .pointer none) := ⟨rfl⟩
  by_cases h0 : x < 0
  · have HX := Aside0.mk h0
    have n0 : ¬ 0 ≤ x := by omega
    have n1 : ¬ 8 ≤ x := by omega
    go_enter Tryd.func25, Tryd.ntmps25
    go_wp2_with fail
    go_ret
    exact ⟨by rw [HP.out, if_neg (by have := HX.out; omega)]; rfl, rfl⟩
  by_cases h8 : x < 8
  · have HX := Aside0.mk (And.intro h0 h8)
    have n0 : 0 ≤ x := by omega
    go_enter Tryd.func25, Tryd.ntmps25
    go_wp2_with fail
    go_ret
    exact ⟨by rw [HP.out, if_pos (by have := HX.out; omega)]; rfl, rfl⟩
  by_cases h72 : x < 72
  · have HX := Aside0.mk (And.intro h8 h72)
    have n0 : 0 ≤ x := by omega
    have n1 : 8 ≤ x := by omega
    have e1 : wrap64 (x - 8) = x - 8 := by unfold wrap64; omega
    have b0 : 0 ≤ x - 8 := by omega
    have b1 : x - 8 < 64 := by omega
    have e2 : 9 + (x - 8).toNat = 1 + x.toNat := by omega
    go_enter Tryd.func25, Tryd.ntmps25
    go_wp2_with fail
    go_ret
    exact ⟨by rw [HP.out, if_pos (by have := HX.out; omega)]; simp [e2], rfl⟩
  · have HX := Aside0.mk h72
    have n0 : 0 ≤ x := by omega
    have n1 : 8 ≤ x := by omega
    go_enter Tryd.func25, Tryd.ntmps25
    go_wp2_with fail
    go_ret
    exact ⟨by rw [HP.out, if_neg (by have := HX.out; omega)]; rfl, rfl⟩
def SvRel (w0 : World) (g gs N : Nat) (s : Cs) (o : Obj) (ls : List Int) (L : List Chunk) (v5 v13 : Value) (wr : World) : Prop :=
  ∃ k : Nat, k ≤ N ∧ v13 = .int .i64 (k : Int) ∧ Mem w0 wr (row w0 (Kd.int .i16) 22 v5 ((ls.take k).map (locV s)) :: ob gs o :: ob g (.cells s.cells 32) :: L)
set_option maxRecDepth 100000 in
set_option maxHeartbeats 4000000 in
theorem Save_call {w0 w : World} {L : List Chunk} {g : Nat} {s : Cs} (h : Mem w0 w (ob g (.cells s.cells 32) :: L)) (ok : s.Ok) (st : Int) (A : Option Addr) (n c : Nat) (ls : List Int) (hl : ls.length = n) (hc : n ≤ c) (hn : n ≤ 100) (hr : Kd.C (Kd.int .i64) w0 A n ls) :
    Calls Tryd.prog 16 #[.pointer (some ⟨g, 0, none⟩), .agg #[.int .i64 st, .slice A n c]] w fun e w' => ∃ v, e = .returned v ∧ Mem w0 w' (row w0 (Kd.int .i16) 22 v (ls.map (locV s)) :: ob g (.cells s.cells 32) :: L) := by
  obtain ⟨gs, hgs⟩ : ∃ gs, w.heap.size = gs := ⟨_, rfl⟩
  have h1 := h.new_ (.cells #[.int .i64 st, .slice A n c] 29) hgs
  have hm := h1.row_nil (Kd.int .i16) 22
  have x1 := blk_cell h1.get 1
  have HM := Aside0.mk hm
  have HO := Aside0.mk ok
  have HR := Aside0.mk hr
  have HL := Aside0.mk hl
  have HN := Aside0.mk hn
  clear h h1 hm hl ok hr hn hc
  go_enter Tryd.func16, Tryd.ntmps16
  go_wp2_with fail
  go_loopw [5, 13] (fun v5 v13 wr => SvRel w0 g gs n s (.cells #[.int .i64 st, .slice A n c] 29) ls L v5 v13 wr) (fun _ i _ => n - (intOf i).toNat)
  case atStart => exact ⟨0, Nat.zero_le _, rfl, HM.out⟩
  case round =>
    obtain ⟨k, hk, rfl, hM⟩ := hrel
    clear HM x1
    by_cases hlt : k < n
    · have hkl : k < ls.length := by rw [HL.out]; exact hlt
      obtain ⟨b, o, rfl, y0⟩ := i64_cell (Kd.C_below HR.out hM.below) hlt
      have hx : ls[k] = ls.getD k 0 := by rw [List.getD_eq_getElem?_getD, List.getElem?_eq_getElem hkl]; rfl
      have HT : Aside0 (ls.take (k + 1) = ls.take k ++ [ls[k]]) := ⟨List.take_succ_eq_append_getElem hkl⟩
      rw [← hx] at y0
      generalize ls[k] = x at *
      have HW : Aside0 (wrap64 ((k : Int) + 1) = ((k + 1 : Nat) : Int)) := ⟨by have := HN.out; unfold wrap64; omega⟩
      have HLOC := Aside0.mk (location_call g x wr)
      have HMi := Aside0.mk hM
      have HK := Aside0.mk hlt
      have HLN := Aside0.mk (show (ls.take k).length = k by rw [List.length_take, Nat.min_eq_left (by omega)])
      clear hM hx
      go_wp2_with fail
      refine HLOC.out.mono ?_
      rintro e w2 ⟨rfl, rfl⟩
      by_cases hrg : 0 ≤ x ∧ x < 72
      · have HV : Aside0 (locV s x = s.r x.toNat) := ⟨if_pos hrg⟩
        have hloc : locP g x = .pointer (some ⟨g, 1 + x.toNat, none⟩) := if_pos hrg
        have hlt' : x.toNat < 72 := by omega
        have y1 := cpu_r HMi.out.drop.drop.get HO.out hlt'
        rw [hloc]
        clear hloc hrg
        generalize s.r x.toNat = y at *
        obtain ⟨q, hq⟩ : ∃ q, 1 + x.toNat = q := ⟨_, rfl⟩
        rw [hq] at y1 ⊢
        clear hq hlt'
        go_wp2_with (
          (with_reducible refine gate_builtin (b := .append) (xs := #[.tmp 25, .tmp 27]) rfl ?_); at_builtin
          refine Mem.wp_append (Kd.int .i16) (w0 := w0) rfl (.tmp 25) (.tmp 27) 30 22 (.int .i16 0) 2 rfl Tryd.underlying30 info22 rfl (by decide) (by omega) u5 ((ls.take k).map (locV s)) (y) [.int .i16 (y)] rfl _ rfl (by simp) rfl HMi.out (by have := HLN.out; have := HN.out; have := HK.out; simp only [List.length_map]; omega) ?_
          intro v1 w1 hm1
          have HM1 := Aside0.mk hm1
          clear hm1)
        go_roundw
        case rel =>
          refine ⟨k + 1, by have := HK.out; omega, by first | rw [HW.out] | go_num, ?_⟩
          rw [HT.out, List.map_append, List.map_cons, List.map_nil, HV.out]
          exact HM1.out
        case measure => have := HK.out; rw [HW.out]; simp only [intOf, Int.toNat_natCast]; omega
      · have HV : Aside0 (locV s x = 0) := ⟨if_neg hrg⟩
        have hloc : locP g x = .pointer none := if_neg hrg
        rw [hloc]
        clear hloc hrg
        go_wp2_with (
          (with_reducible refine gate_builtin (b := .append) (xs := #[.tmp 25, .tmp 27]) rfl ?_); at_builtin
          refine Mem.wp_append (Kd.int .i16) (w0 := w0) rfl (.tmp 25) (.tmp 27) 30 22 (.int .i16 0) 2 rfl Tryd.underlying30 info22 rfl (by decide) (by omega) u5 ((ls.take k).map (locV s)) (0) [.int .i16 (0)] rfl _ rfl (by simp) rfl HMi.out (by have := HLN.out; have := HN.out; have := HK.out; simp only [List.length_map]; omega) ?_
          intro v1 w1 hm1
          have HM1 := Aside0.mk hm1
          clear hm1)
        go_roundw
        case rel =>
          refine ⟨k + 1, by have := HK.out; omega, by first | rw [HW.out] | go_num, ?_⟩
          rw [HT.out, List.map_append, List.map_cons, List.map_nil, HV.out]
          exact HM1.out
        case measure => have := HK.out; rw [HW.out]; simp only [intOf, Int.toNat_natCast]; omega
    · obtain rfl : k = n := by omega
      have HF : Aside0 (ls.take k = ls) := ⟨List.take_of_length_le (by rw [HL.out]; exact Nat.le_refl _)⟩
      have n0 : ¬ (k : Int) < (k : Int) := by omega
      have HMi := Aside0.mk hM
      clear hM hlt
      go_wp2_with fail
      go_ret
      exact ⟨_, rfl, by have := HMi.out; rw [HF.out] at this; exact this.p1.drop⟩
end Go.Proofs.YtleafbihfmiidaaDoor.QAl
