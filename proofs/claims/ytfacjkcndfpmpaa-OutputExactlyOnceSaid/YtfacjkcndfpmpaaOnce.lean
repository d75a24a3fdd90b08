/- OutputExactlyOnce: the law answers true. -/
import Derived.Test.YtfacjkcndfpmpaaLawsC
namespace Go.Proofs.Ytfacjkcndfpmpaa.QAl
open Go.RowKit Go.Proofs.YtfacjkcndfpmpaaW.PrintWords Go.Proofs.YtfacjkcndfpmpaaW.PrintLast Go.Proofs.YtfacjkcndfpmpaaW.PrintMore Go.Proofs.Ytfacjkcndfpmpaa.Sl
attribute [local go_sem] max2_int min2_int max_two min_two
set_option linter.unusedVariables false
set_option linter.unusedSimpArgs false

structure S51 where
  f0 : Int
  f1 : Int
def z51 : S51 := ⟨0, 0⟩
def k51 : Kd S51 := Kd.iso (Kd.pair (Kd.int .u8) (Kd.int .u8)) (fun x : S51 => (x.f0, x.f1))
theorem k51_open {w : World} {x : S51} {cs : List Value} (h : k51.K w x cs) : cs = [.int .u8 x.f0, .int .u8 x.f1] := by
  obtain ⟨c0, c1, rfl, h0, h1⟩ := h
  have h0 : c0 = [.int .u8 x.f0] := h0
  have h1 : c1 = [.int .u8 x.f1] := h1
  rw [h0, h1]
  rfl

/-- The first r values, each once and in order. -/
def onceLog (vs : List Int) (r : Nat) : List S37 := (List.range r).map fun (i : Nat) => (⟨(i : Int), (i : Int) % 3, vs.getD i 0⟩ : S37)
theorem onceLog_len (vs : List Int) (r : Nat) : (onceLog vs r).length = r := by simp [onceLog]
theorem onceLog_succ (vs : List Int) (r : Nat) : onceLog vs (r + 1) = onceLog vs r ++ [(⟨(r : Int), (r : Int) % 3, vs.getD r 0⟩ : S37)] := by
  simp [onceLog, List.range_succ]

/-- A write of value i, of those that have been written or the next one. -/
theorem WriteOnce {w0 w : World} {g : Nat} {lv lg : Value} {levels : List Int} {L : List Chunk} (vs : List Int) (r i : Nat) (hM : Mem w0 w (bank w0 g lv lg levels (onceLog vs r) L)) (hi : i ≤ r) (hl : levels.length = 3) (hr : r ≤ 1000) :
    Calls Try.prog 19 #[.pointer (some ⟨g, 0, none⟩), .int .i64 (i : Int), .int .i64 ((i : Int) % 3), .int .i16 (vs.getD i 0)] w fun e w' => ∃ lg' levels', e = .returned (.int .i64 (if i < r then 11 else 0)) ∧ levels'.length = 3 ∧ Mem w0 w' (bank w0 g lv lg' levels' (onceLog vs (if i < r then r else r + 1)) L) := by
  have h3 : i % 3 < 3 := Nat.mod_lt _ (by decide)
  have e3 : ((i % 3 : Nat) : Int) = (i : Int) % 3 := by omega
  by_cases h : i < r
  · have e : wrB levels (onceLog vs r) (i : Int) ((i : Int) % 3) = 11 := by
      unfold wrB
      rw [onceLog_len, if_neg (by omega), if_pos (by omega)]
    rw [if_pos h, if_pos h]
    have := Write.bad (i : Int) ((i : Int) % 3) (vs.getD i 0) hM (by rw [e]; decide)
    rw [e] at this
    exact this.mono fun e w' ⟨he, hw⟩ => ⟨lg, levels, he, hl, hw ▸ hM⟩
  · obtain rfl : i = r := by omega
    rw [if_neg h, if_neg h]
    have := Write.good (i % 3) (vs.getD i 0) hM (by omega) (by omega) (by rw [onceLog_len]; omega)
    rw [onceLog_len, e3] at this
    refine this.mono ?_
    rintro e w' ⟨lg', he, hm⟩
    refine ⟨lg', levels.set (i % 3) (vs.getD i 0), he, by rw [List.length_set]; exact hl, ?_⟩
    rw [onceLog_succ]
    exact hm

def OnceRel3 (w0 : World) (vs : List Int) (r g : Nat) (lv lg : Value) (levels : List Int) (gt : Option Addr) (ct : Nat) (v97 : Value) (wr : World) : Prop :=
  ∃ k : Nat, k ≤ r ∧ v97 = .int .i64 (k : Int) ∧ Mem w0 wr (row w0 k37 37 (.slice gt r ct) (onceLog vs r) :: bank w0 g lv lg levels (onceLog vs r) [])
/-- At the head of an attempt, and of a write. -/
def OnceRel (w0 : World) (vs : List Int) (m g : Nat) (lv : Value) (v7 v41 : Value) (wr : World) : Prop :=
  ∃ (r j : Nat) (lg : Value) (levels : List Int), r ≤ vs.length ∧ j ≤ m ∧ levels.length = 3 ∧ v7 = .int .i64 (r : Int) ∧ v41 = .int .i64 (j : Int) ∧ Mem w0 wr (bank w0 g lv lg levels (onceLog vs r) [])
def OnceRel2 (w0 : World) (vs : List Int) (g b9 : Nat) (lv : Value) (a : S51) (v7 v11 : Value) (wr : World) : Prop :=
  ∃ (r i : Nat) (lg : Value) (levels : List Int), r ≤ vs.length ∧ i ≤ r ∧ levels.length = 3 ∧ v7 = .int .i64 (r : Int) ∧ v11 = .int .i64 (i : Int) ∧ Mem w0 wr (bank w0 g lv lg levels (onceLog vs r) [blk b9 #[.int .u8 a.f0, .int .u8 a.f1] 51])

set_option maxHeartbeats 8000000 in
set_option maxRecDepth 100000 in
theorem OutputExactlyOnce_law (A : Option Addr) (c : Nat) (vs : List Int) (A1 : Option Addr) (c1 : Nat) (l : List S51) (w : World) (hr0 : Kd.C (Kd.int .i16) w A vs.length vs) (hr1 : k51.C w A1 l.length l) (hwf : ∀ x ∈ l, 0 ≤ x.f0 ∧ x.f0 ≤ 255 ∧ 0 ≤ x.f1 ∧ x.f1 ≤ 255) :
    Calls Try.prog 8 #[.slice A vs.length c, .slice A1 l.length c1] w fun e w' => e = .returned (.bool true) ∧ Below w.heap.size w w' := by
  by_cases h : 100 < vs.length ∨ 60 < l.length
  · have H := Aside0.mk h
    by_cases h0 : 100 < vs.length
    · have c1 : decide (100 < vs.length) = true := decide_eq_true h0
      have c2 : decide ((100 : Int) < (vs.length : Int)) = true := decide_eq_true (by omega)
      clear h h0
      go_enter Try.func8, Try.ntmps8
      go_wp2_with fail
      refine (examples_true (Mem.start w)).mono ?_
      rintro e w2 ⟨rfl, hM⟩
      have HM2 := Aside0.mk hM
      clear hM
      go_wp2_with fail
      refine (examples_true HM2.out).mono ?_
      rintro e w3 ⟨rfl, hM⟩
      have HM3 := Aside0.mk hM
      clear hM HM2
      go_wp2
      go_ret
      exact ⟨rfl, HM3.out.below⟩
    · have c1 : decide (100 < vs.length) = false := decide_eq_false h0
      have c2 : decide ((100 : Int) < (vs.length : Int)) = false := decide_eq_false (by omega)
      have c3 : decide (60 < l.length) = true := decide_eq_true (by omega)
      have c4 : decide ((60 : Int) < (l.length : Int)) = true := decide_eq_true (by omega)
      clear h h0
      go_enter Try.func8, Try.ntmps8
      go_wp2_with fail
      refine (examples_true (Mem.start w)).mono ?_
      rintro e w2 ⟨rfl, hM⟩
      have HM2 := Aside0.mk hM
      clear hM
      go_wp2_with fail
      refine (examples_true HM2.out).mono ?_
      rintro e w3 ⟨rfl, hM⟩
      have HM3 := Aside0.mk hM
      clear hM HM2
      go_wp2
      go_ret
      exact ⟨rfl, HM3.out.below⟩
  · have q1 : decide (100 < vs.length) = false := decide_eq_false (by omega)
    have q2 : decide ((100 : Int) < (vs.length : Int)) = false := decide_eq_false (by omega)
    have q3 : decide (60 < l.length) = false := decide_eq_false (by omega)
    have q4 : decide ((60 : Int) < (l.length : Int)) = false := decide_eq_false (by omega)
    have HV := Aside0.mk (show vs.length ≤ 100 by omega)
    have HL := Aside0.mk (show l.length ≤ 60 by omega)
    have HR0 := Aside0.mk hr0
    have HR1 := Aside0.mk hr1
    have HWF := Aside0.mk hwf
    clear h hr0 hr1 hwf
    go_enter Try.func8, Try.ntmps8
    go_wp2_with fail
    refine (examples_true (Mem.start w)).mono ?_
    rintro e w2 ⟨rfl, hM⟩
    have HM2 := Aside0.mk hM
    clear hM
    go_wp2_with fail
    refine (New.good 3 (by omega) HM2.out).mono ?_
    rintro e w3 ⟨g, lv, rfl, hM⟩
    have HM3 := Aside0.mk hM
    clear hM HM2
    go_wp2_with fail
    go_loopw [7, 41] (fun v7 v41 wr => OnceRel w vs l.length g lv v7 v41 wr) (fun _ i _ => l.length - (intOf i).toNat)
    case atStart => exact ⟨0, 0, .slice none 0 0, List.replicate 3 0, Nat.zero_le _, Nat.zero_le _, rfl, rfl, rfl, HM3.out⟩
    case round =>
      obtain ⟨r, j, lg, levels, hr, hj, hlv, rfl, rfl, hM⟩ := hrel
      clear HM3
      have HLV := Aside0.mk hlv
      clear hlv
      by_cases hlt : j < l.length
      · obtain ⟨ba, o, cs, rfl, _, hK, hc⟩ := C_at z51 (by decide) (hM.came HR1.out) j hlt
        have hwa := HWF.out (l.getD j z51) (by rw [List.getD_eq_getElem?_getD, List.getElem?_eq_getElem hlt, Option.getD_some]; exact List.getElem_mem _)
        generalize l.getD j z51 = a at *
        obtain rfl := k51_open hK
        have x0 : wr.cell? ⟨ba, o + j * 2, none⟩ = some (.int .u8 a.f0) := hc 0 _ rfl
        have x1 : wr.cell? ⟨ba, o + j * 2 + 1, none⟩ = some (.int .u8 a.f1) := hc 1 _ rfl
        obtain ⟨a1, a2, a3, a4⟩ := hwa
        obtain ⟨af0, af1⟩ := a
        dsimp only at x0 x1 a1 a2 a3 a4
        obtain ⟨x, rfl⟩ := Int.eq_ofNat_of_zero_le a1
        obtain ⟨y, rfl⟩ := Int.eq_ofNat_of_zero_le a3
        have hM3 : Mem w (wr.alloc (.cells #[.int .u8 (x : Int), .int .u8 (y : Int)] 51)) (bank w g lv lg levels (onceLog vs r) [blk wr.heap.size #[.int .u8 (x : Int), .int .u8 (y : Int)] 51]) := (hM.new (.cells #[.int .u8 (x : Int), .int .u8 (y : Int)] 51)).c1
        have HM3 := Aside0.mk hM3
        clear hM hM3 hc hK
        obtain ⟨at0, hat, hatr⟩ : ∃ at0 : Nat, (if (r : Int) - (x : Int) < 0 then 0 else (r : Int) - (x : Int)) = (at0 : Int) ∧ at0 ≤ r := by
          by_cases hc : (r : Int) - (x : Int) < 0
          · exact ⟨0, by rw [if_pos hc]; rfl, Nat.zero_le _⟩
          · exact ⟨r - x, by rw [if_neg hc]; omega, by omega⟩
        obtain ⟨lim, hlim, hlimv⟩ : ∃ lim : Nat, (if (vs.length : Int) < (at0 : Int) + (y : Int) then (vs.length : Int) else (at0 : Int) + (y : Int)) = (lim : Int) ∧ lim ≤ vs.length := by
          by_cases hc : (vs.length : Int) < (at0 : Int) + (y : Int)
          · exact ⟨vs.length, by rw [if_pos hc], Nat.le_refl _⟩
          · exact ⟨at0 + y, by rw [if_neg hc]; omega, by omega⟩
        have HAT := Aside0.mk hatr
        have HLIM := Aside0.mk hlimv
        have hvb := HV.out
        have hab : at0 ≤ 100 := by omega
        have hlb := HL.out
        clear hatr hlimv
        go_wp2_with fail
        generalize wr.alloc (.cells #[.int .u8 (x : Int), .int .u8 (y : Int)] 51) = wo at *
        generalize wr.heap.size = b9 at *
        clear x0 x1 hat
        go_loopw [7, 11] (fun v7 v11 wr2 => OnceRel2 w vs g b9 lv ⟨(x : Int), (y : Int)⟩ v7 v11 wr2) (fun _ i _ => lim - (intOf i).toNat)
        case atStart => exact ⟨r, at0, lg, levels, hr, HAT.out, HLV.out, rfl, rfl, HM3.out⟩
        case round =>
          obtain ⟨r2, i2, lg2, levels2, hr2, hi2, hlv2, rfl, rfl, hM⟩ := hrel
          have hb := (hM.p3).get
          have z1 : wr.cell? ⟨b9, 1, none⟩ = some (.int .u8 (y : Int)) := blk_cell hb 1
          have hvb := HV.out
          by_cases hlt2 : i2 < lim
          · have hiv : i2 < vs.length := by have := HLIM.out; omega
            obtain ⟨bv, ov, cs, rfl, _, hK, hc⟩ := C_at (0 : Int) (by decide) (hM.came HR0.out) i2 hiv
            have hK' : cs = [.int .i16 (vs.getD i2 0)] := hK
            have zv : wr.cell? ⟨bv, ov + i2, none⟩ = some (.int .i16 (vs.getD i2 0)) := by
              have h0 := hc 0 (.int .i16 (vs.getD i2 0)) (by rw [hK']; rfl)
              have h1 : (Kd.int .i16).sz = 1 := rfl
              rw [h1, Nat.mul_one] at h0
              exact h0
            have WO := Aside0.mk (fun (W : World) (h : Mem w W (bank w g lv lg2 levels2 (onceLog vs r2) [blk b9 #[.int .u8 (x : Int), .int .u8 (y : Int)] 51])) => WriteOnce vs r2 i2 h hi2 hlv2 (by omega))
            generalize vs.getD i2 0 = vv at *
            have HMi := Aside0.mk hM
            have HHI := Aside0.mk hi2
            have HHR := Aside0.mk hr2
            clear hM hb hK hK' hc hi2 hlv2 hr2
            obtain ⟨r3, hr3, hr3e⟩ : ∃ r3 : Nat, (if (r2 : Int) < (i2 : Int) + 1 then (i2 : Int) + 1 else (r2 : Int)) = (r3 : Int) ∧ r3 = (if i2 < r2 then r2 else r2 + 1) := by
              refine ⟨_, ?_, rfl⟩
              have := HHI.out
              by_cases h : i2 < r2
              · rw [if_pos h, if_neg (by omega)]
              · rw [if_neg h, if_pos (by omega)]; omega
            have HR3 := Aside0.mk hr3e
            clear hr3e
            by_cases hir : i2 < r2
            · have e1 : decide (r2 ≤ i2) = false := decide_eq_false (by omega)
              have HIR := Aside0.mk hir
              clear hir
              go_wp2_with fail
              have key := WO.out _ HMi.out
              rw [if_pos HIR.out] at key
              refine key.mono ?_
              clear key
              rintro e w5 ⟨lg5, levels5, rfl, h5, hM5⟩
              have HM5 := Aside0.mk hM5
              have H5 := Aside0.mk h5
              clear hM5 h5
              go_wp2
              go_roundw
              case rel =>
                refine ⟨r3, i2 + 1, lg5, levels5, ?_, ?_, H5.out, rfl, by go_num, ?_⟩
                · rw [HR3.out, if_pos HIR.out]; exact HHR.out
                · rw [HR3.out, if_pos HIR.out]; exact HIR.out
                · rw [HR3.out]; exact HM5.out
              case measure => simp [intOf]; omega
            · have HIR := Aside0.mk hir
              clear hir
              go_wp2_with fail
              have key := WO.out _ HMi.out
              rw [if_neg HIR.out] at key
              refine key.mono ?_
              clear key
              rintro e w5 ⟨lg5, levels5, rfl, h5, hM5⟩
              have HM5 := Aside0.mk hM5
              have H5 := Aside0.mk h5
              clear hM5 h5
              go_wp2
              go_roundw
              case rel =>
                refine ⟨r3, i2 + 1, lg5, levels5, ?_, ?_, H5.out, rfl, by go_num, ?_⟩
                · rw [HR3.out, if_neg HIR.out]; have := HIR.out; have := HHI.out; omega
                · rw [HR3.out, if_neg HIR.out]; have := HIR.out; have := HHI.out; omega
                · rw [HR3.out]; exact HM5.out
              case measure => simp [intOf]; omega
          · have e1 : decide (lim ≤ i2) = true := decide_eq_true (by omega)
            have HMi := Aside0.mk (Mem.u3 (L := []) hM.c3.drop)
            have HH := Aside0.mk (show r2 ≤ vs.length ∧ levels2.length = 3 from ⟨hr2, hlv2⟩)
            clear hM hb hr2 hi2 hlv2
            go_wp2
            go_roundw
            case rel => exact ⟨r2, j + 1, lg2, levels2, HH.out.1, by omega, HH.out.2, rfl, by go_num, HMi.out⟩
            case measure => simp [intOf]; omega
      · have hjl : j = l.length := by omega
        subst hjl
        have hvb := HV.out
        have HM := Aside0.mk hM
        have HRR := Aside0.mk hr
        clear hM hlt
        go_wp2_with fail
        refine (Log HM.out (by rw [onceLog_len]; omega)).mono ?_
        rintro e w4 ⟨v, rfl, hM⟩
        obtain ⟨At, ct, rfl, _, _⟩ := hM.readsN (n := r) (onceLog_len vs r)
        have HM4 := Aside0.mk hM
        clear hM HM
        go_wp2_with fail
        go_loopw [97] (fun v97 wr2 => OnceRel3 w vs r g lv lg levels At ct v97 wr2) (fun i _ => r - (intOf i).toNat)
        case atStart => exact ⟨0, Nat.zero_le _, rfl, HM4.out⟩
        case round =>
          obtain ⟨k, hk, rfl, hM⟩ := hrel
          clear HM4
          by_cases hlt : k < r
          · obtain ⟨gt, ct', e1, _⟩ := hM.row_form (by rw [onceLog_len]; omega)
            injection e1 with e1 e2 e3
            subst e1
            clear e2 e3
            have hkv : k < vs.length := by omega
            obtain ⟨y0, y1, y2⟩ := entry_cells hM k ⟨(k : Int), (k : Int) % 3, vs.getD k 0⟩ (by simp [onceLog, hlt])
            obtain ⟨bv, ov, cs, rfl, _, hK, hc⟩ := C_at (0 : Int) (by decide) (hM.came HR0.out) k hkv
            have hK' : cs = [.int .i16 (vs.getD k 0)] := hK
            have zv : wr.cell? ⟨bv, ov + k, none⟩ = some (.int .i16 (vs.getD k 0)) := by
              have h0 := hc 0 (.int .i16 (vs.getD k 0)) (by rw [hK']; rfl)
              have h1 : (Kd.int .i16).sz = 1 := rfl
              rw [h1, Nat.mul_one] at h0
              exact h0
            have lbv : bv < wr.heap.size := World.block_lt_of_cell? wr _ zv
            dsimp only at y0 y1 y2
            generalize vs.getD k 0 = vv at *
            have HMi := Aside0.mk hM
            clear hM hK hK' hc
            go_wp2_with fail
            go_region
            all_goals go_wp2
            go_roundw
            case rel => exact ⟨k + 1, by omega, by go_num, (HMi.out.alloc _).drew⟩
            case measure => simp [intOf]; omega
          · have hkr : k = r := by omega
            subst hkr
            have HMi := Aside0.mk hM
            clear hM hlt
            go_wp2
            go_ret
            exact ⟨rfl, HMi.out.below⟩
theorem OutputExactlyOnce_row {G R : Prop} (A : Option Addr) (c : Nat) (vs : List Int) (A1 : Option Addr) (c1 : Nat) (l : List S51) (w : World) (hr0 : Kd.C (Kd.int .i16) w A vs.length vs) (hc0 : vs.length ≤ c) (hr1 : k51.C w A1 l.length l) (hc1 : l.length ≤ c1) (g0 : G) (g1 : R ∧ l.length ≤ maxLen ∧ ∀ x ∈ l, (Lit.int .u8 x.f0).wf = true ∧ (Lit.int .u8 x.f1).wf = true) :
    Calls Try.prog 8 #[.slice A vs.length c, .slice A1 l.length c1] w fun e w' => e = .returned (.bool true) ∧ Below w.heap.size w w' :=
  OutputExactlyOnce_law A c vs A1 c1 l w hr0 hr1 fun x hx => ⟨(lit_u8 (g1.2.2 x hx).1).1, (lit_u8 (g1.2.2 x hx).1).2, (lit_u8 (g1.2.2 x hx).2).1, (lit_u8 (g1.2.2 x hx).2).2⟩
end Go.Proofs.Ytfacjkcndfpmpaa.QAl
