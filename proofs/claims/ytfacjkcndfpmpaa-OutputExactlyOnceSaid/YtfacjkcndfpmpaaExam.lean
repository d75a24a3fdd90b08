/- The fixed examples of the law hold. -/
import Derived.Test.YtfacjkcndfpmpaaPack
import Derived.Test.YtfacjkcndfpmpaaArr
namespace Go.Proofs.Ytfacjkcndfpmpaa.QAl
open Go.RowKit Go.Proofs.YtfacjkcndfpmpaaW.PrintWords Go.Proofs.YtfacjkcndfpmpaaW.PrintLast Go.Proofs.YtfacjkcndfpmpaaW.PrintMore Go.Proofs.Ytfacjkcndfpmpaa.Sl
set_option linter.unusedVariables false
set_option linter.unusedSimpArgs false

theorem Log {w0 w : World} {g : Nat} {lv lg : Value} {levels : List Int} {log : List S37} {L : List Chunk} (hM : Mem w0 w (bank w0 g lv lg levels log L)) (hl : log.length < 5864062014805) :
    Calls Try.prog 12 #[.pointer (some ⟨g, 0, none⟩)] w fun e w' => ∃ v, e = .returned v ∧ Mem w0 w' (row w0 k37 37 v log :: bank w0 g lv lg levels log L) := by
  have HM := Aside0.mk hM
  have hb := hM.get
  obtain ⟨A, c, rfl, _⟩ := hM.drop.reads
  obtain ⟨A', c', rfl, hc', hC⟩ := hM.drop.drop.reads
  have hc1 : w.cell? ⟨g, 1, none⟩ = some (.slice A' log.length c') := blk_cell hb 1
  have HC := Aside0.mk hC
  have HC' := Aside0.mk hc'
  have HF := Aside0.mk (show output_Entry.f log = some log from if_pos hl)
  clear hM hb hC hc' hl
  go_enter Try.func12, Try.ntmps12
  go_wp2_with (go_at_call 25; refine (output_Entry.calls A' c' log log _ HC.out HC'.out HF.out).mono ?_; rintro e w1 ⟨v, rfl, hr, hb⟩)
  go_ret
  exact ⟨v, rfl, HM.out.row_made hb hr⟩

theorem Level {w0 w : World} {g : Nat} {lv lg : Value} {levels : List Int} {log : List S37} {L : List Chunk} (port : Nat) (hM : Mem w0 w (bank w0 g lv lg levels log L)) (hp : port < levels.length) (hlen : levels.length ≤ 1000) :
    Calls Try.prog 15 #[.pointer (some ⟨g, 0, none⟩), .int .i64 (port : Int)] w fun e w' => e = .returned (.int .i16 (levels.getD port 0)) ∧ w = w' := by
  obtain ⟨gl, cl, rfl, _⟩ := hM.drop.row_form (by omega)
  obtain ⟨hc0, hc1, hf1, ⟨A, c, e0⟩, ⟨A', c', rfl⟩⟩ := bank_cells hM
  clear e0 A c
  obtain ⟨hlc, hlf⟩ := hM.drop.row_cell (0 : Int) port hp
  clear hM
  generalize levels.getD port 0 = y at hlc ⊢
  have c2 : decide ((port : Int) < 0) = false := decide_eq_false (by omega)
  have c3 : decide (levels.length ≤ port) = false := decide_eq_false (by omega)
  have c3' : decide (port < levels.length) = true := decide_eq_true (by omega)
  go_enter Try.func15, Try.ntmps15
  go_wp2
  go_ret
  exact ⟨rfl, rfl⟩
theorem Level.out {w0 w : World} {g : Nat} {lv lg : Value} {levels : List Int} {log : List S37} {L : List Chunk} (port : Int) (hM : Mem w0 w (bank w0 g lv lg levels log L)) (hp : port < 0 ∨ (levels.length : Int) ≤ port) :
    Calls Try.prog 15 #[.pointer (some ⟨g, 0, none⟩), .int .i64 port] w fun e w' => e = .returned (.int .i16 0) ∧ w = w' := by
  obtain ⟨hc0, hc1, hf1, ⟨A, c, rfl⟩, ⟨A', c', rfl⟩⟩ := bank_cells hM
  clear hM
  by_cases h : port < 0
  · have c1 : decide (port < 0) = true := decide_eq_true h
    clear h hp
    go_enter Try.func15, Try.ntmps15
    go_wp2
    go_ret
    exact ⟨rfl, rfl⟩
  · have c1 : decide (port < 0) = false := decide_eq_false h
    have c2 : decide ((levels.length : Int) ≤ port) = true := decide_eq_true (by omega)
    clear h hp
    go_enter Try.func15, Try.ntmps15
    go_wp2
    go_ret
    exact ⟨rfl, rfl⟩

theorem eqA53 (d : Nat) (w : World) (x0 x1 x2 x3 y0 y1 y2 y3 : Int) :
    (Op.equalIn (d + 2) 53 (.agg #[.int .u8 x0, .int .u8 x1, .int .u8 x2, .int .u8 x3]) (.agg #[.int .u8 y0, .int .u8 y1, .int .u8 y2, .int .u8 y3])).run Try.prog w = .ok (decide ([x0, x1, x2, x3] = [y0, y1, y2, y3])) w := by
  obtain ⟨i, hi⟩ := Option.isSome_iff_exists.1 (show (Try.prog.info? 5).isSome = true by kernel_rfl)
  exact Arr.eq_ints (k := .u8) (by kernel_rfl) Try.underlying5 4 Try.underlying53 hi (by kernel_rfl) d [x0, x1, x2, x3] [y0, y1, y2, y3] rfl rfl
attribute [local go_sem high] eqA53

/-- The cells of an entry of a row. -/
theorem entry_cells {w0 w : World} {L : List Chunk} {g n c : Nat} {xs : List S37} (h : Mem w0 w (row w0 k37 37 (.slice (some ⟨g, 0, none⟩) n c) xs :: L)) (i : Nat) (x : S37) (hx : xs[i]? = some x) :
    w.cell? ⟨g, i * 3, none⟩ = some (.int .i64 x.f0) ∧ w.cell? ⟨g, i * 3 + 1, none⟩ = some (.int .i64 x.f1) ∧ w.cell? ⟨g, i * 3 + 2, none⟩ = some (.int .i16 x.f2) := by
  obtain ⟨hi, hx'⟩ := List.getElem?_eq_some_iff.1 hx
  obtain ⟨cs, h1, h2, h3⟩ := h.row_cells z37 i hi
  rw [List.getD_eq_getElem?_getD, hx, Option.getD_some] at h2
  obtain rfl := k37_open h2
  exact ⟨h3 0 _ rfl, h3 1 _ rfl, h3 2 _ rfl⟩

theorem examples_true {w0 w : World} {L : List Chunk} (hM : Mem w0 w L) :
    Calls Try.prog 11 #[] w fun e w' => e = .returned (.bool true) ∧ Mem w0 w' L := by
  have HM := Aside0.mk hM
  clear hM
  go_enter Try.func11, Try.ntmps11
  go_wp2_with fail
  refine (New.good 2 (by omega) HM.out).mono ?_
  rintro e w1 ⟨g, lv, rfl, hM1⟩
  have HM1 := Aside0.mk hM1
  clear hM1 HM
  go_wp2_with fail
  refine (New.bad 9 (by omega)).mono ?_
  rintro e w2 ⟨rfl, rfl⟩
  go_wp2_with fail
  refine (Write.good 1 7 HM1.out (by decide) (by decide) (by decide)).mono ?_
  rintro e w2 ⟨lg, rfl, hM2⟩
  have HM2 := Aside0.mk hM2
  clear hM2 HM1
  go_wp2_with fail
  refine (Write.bad 0 1 7 HM2.out (by decide)).mono ?_
  rintro e w3 ⟨rfl, rfl⟩
  rw [show wrB ((List.replicate 2 0).set 1 7) ([] ++ [(⟨(([] : List S37).length : Int), ((1 : Nat) : Int), 7⟩ : S37)]) 0 1 = 11 from by decide]
  go_wp2_with fail
  refine (Write.bad 2 1 8 HM2.out (by decide)).mono ?_
  rintro e w3 ⟨rfl, rfl⟩
  rw [show wrB ((List.replicate 2 0).set 1 7) ([] ++ [(⟨(([] : List S37).length : Int), ((1 : Nat) : Int), 7⟩ : S37)]) 2 1 = 10 from by decide]
  go_wp2_with fail
  refine (Write.bad 1 2 8 HM2.out (by decide)).mono ?_
  rintro e w3 ⟨rfl, rfl⟩
  rw [show wrB ((List.replicate 2 0).set 1 7) ([] ++ [(⟨(([] : List S37).length : Int), ((1 : Nat) : Int), 7⟩ : S37)]) 1 2 = 1 from by decide]
  go_wp2_with fail
  refine (Log HM2.out (by decide)).mono ?_
  rintro e w3 ⟨v, rfl, hM3⟩
  obtain ⟨gv, cv, rfl, _⟩ := hM3.row_form (by decide)
  obtain ⟨e1, e2, e3⟩ := entry_cells hM3 0 ⟨0, 1, 7⟩ rfl
  have E1 := Aside0.mk e1
  have E2 := Aside0.mk e2
  have E3 := Aside0.mk e3
  have HM3 := Aside0.mk hM3
  clear hM3 HM2 e1 e2 e3
  go_wp2_with fail
  refine (Unpack 1 9 254 255 (by omega) (by omega) (by omega) (by omega) (by omega) (by omega) _).mono ?_
  rintro e w4 ⟨rfl, hb4⟩
  rw [show IntKind.i16.wrap (254 + 255 * 256) = -2 from by decide]
  have HM4 := Aside0.mk (HM3.out.step hb4)
  have e1 : w4.cell? ⟨gv, 0, none⟩ = some (.int .i64 0) := pw_cell_below hb4 E1.out
  have e2 : w4.cell? ⟨gv, 1, none⟩ = some (.int .i64 1) := pw_cell_below hb4 E2.out
  have e3 : w4.cell? ⟨gv, 2, none⟩ = some (.int .i16 7) := pw_cell_below hb4 E3.out
  clear HM3 E1 E2 E3 hb4
  have HM4' : Aside0 (Mem w0 w4 (row w0 k37 37 (.slice (some ⟨gv, 0, none⟩) 1 cv) [⟨0, 1, 7⟩] :: bank w0 g lv lg [0, 7] [⟨0, 1, 7⟩] L)) := HM4
  clear HM4
  go_wp2_with fail
  refine (Next HM4'.out.drop).mono ?_
  rintro e w5 ⟨rfl, rfl⟩
  go_wp2_with fail
  refine (Level 1 HM4'.out.drop (by decide) (by decide)).mono ?_
  rintro e w5 ⟨rfl, rfl⟩
  go_wp2_with fail
  refine (Level 0 HM4'.out.drop (by decide) (by decide)).mono ?_
  rintro e w5 ⟨rfl, rfl⟩
  go_wp2_with fail
  refine (Pack 1 (-2) (by decide) (by decide) _).mono ?_
  rintro e w5 ⟨rfl, hb5⟩
  go_wp2
  go_ret
  exact ⟨rfl, (HM4'.out.step hb5).drop.drop.drop.drop⟩
end Go.Proofs.Ytfacjkcndfpmpaa.QAl
