/- OutputNew, OutputWrite and OutputPack: each law answers true. -/
import Derived.Test.YtfacjkcndfpmpaaRun
namespace Go.Proofs.Ytfacjkcndfpmpaa.QAl
open Go.RowKit Go.Proofs.YtfacjkcndfpmpaaW.PrintWords Go.Proofs.YtfacjkcndfpmpaaW.PrintLast Go.Proofs.YtfacjkcndfpmpaaW.PrintMore Go.Proofs.Ytfacjkcndfpmpaa.Sl
set_option linter.unusedVariables false
set_option linter.unusedSimpArgs false

attribute [local go_sem high] eqA53

theorem OutputNew_law (ports : Int) (w : World) : Calls Try.prog 6 #[.int .i64 ports] w fun e w' => e = .returned (.bool true) ∧ Below w.heap.size w w' := by
  by_cases hp : ports < 0 ∨ 8 < ports
  · have HP := Aside0.mk hp
    by_cases h0 : ports < 0
    · have c1 : decide (ports < 0) = true := decide_eq_true h0
      clear hp h0
      go_enter Try.func6, Try.ntmps6
      go_wp2_with fail
      refine (New.bad ports HP.out).mono ?_
      rintro e w1 ⟨rfl, rfl⟩
      go_wp2_with fail
      refine (examples_true (Mem.start w)).mono ?_
      rintro e w1 ⟨rfl, hM⟩
      have HM := Aside0.mk hM
      clear hM
      go_wp2
      go_ret
      exact ⟨rfl, HM.out.below⟩
    · have c1 : decide (ports < 0) = false := decide_eq_false h0
      have c2 : decide (8 < ports) = true := decide_eq_true (by omega)
      clear hp h0
      go_enter Try.func6, Try.ntmps6
      go_wp2_with fail
      refine (New.bad ports HP.out).mono ?_
      rintro e w1 ⟨rfl, rfl⟩
      go_wp2_with fail
      refine (examples_true (Mem.start w)).mono ?_
      rintro e w1 ⟨rfl, hM⟩
      have HM := Aside0.mk hM
      clear hM
      go_wp2
      go_ret
      exact ⟨rfl, HM.out.below⟩
  · obtain ⟨np, rfl⟩ := Int.eq_ofNat_of_zero_le (show 0 ≤ ports by omega)
    have h8 : np ≤ 8 := by omega
    have c1 : decide ((np : Int) < 0) = false := decide_eq_false (by omega)
    have c2 : decide ((8 : Int) < (np : Int)) = false := decide_eq_false (by omega)
    have c2' : decide (8 < np) = false := decide_eq_false (by omega)
    clear hp
    go_enter Try.func6, Try.ntmps6
    go_wp2_with fail
    refine (New.good np h8 (Mem.start w)).mono ?_
    rintro e w1 ⟨g, lv, rfl, hM⟩
    have HM := Aside0.mk hM
    clear hM
    go_wp2_with fail
    refine (examples_true HM.out).mono ?_
    rintro e w2 ⟨rfl, hM⟩
    have HM2 := Aside0.mk hM
    clear hM HM
    go_wp2_with fail
    refine (Next HM2.out).mono ?_
    rintro e w3 ⟨rfl, rfl⟩
    go_wp2_with fail
    refine (Log HM2.out (by decide)).mono ?_
    rintro e w3 ⟨v, rfl, hM⟩
    obtain ⟨A, c, rfl, _⟩ := hM.readsN (n := 0) rfl
    have HM3 := Aside0.mk hM
    clear hM HM2
    go_wp2
    go_ret
    exact ⟨rfl, HM3.out.below⟩

theorem OutputWrite_law (ports : Int) (A : Option Addr) (c : Nat) (l : List S46) (w : World) (hr : k46.C w A l.length l) :
    Calls Try.prog 3 #[.int .i64 ports, .slice A l.length c] w fun e w' => e = .returned (.bool true) ∧ Below w.heap.size w w' := by
  by_cases h : ports < 0 ∨ 8 < ports ∨ 200 < l.length
  · have H := Aside0.mk h
    clear h
    go_enter Try.func3, Try.ntmps3
    go_wp2_with fail
    refine (Run.bad ports A c l (Mem.start w) H.out).mono ?_
    rintro e w1 ⟨rfl, hM⟩
    have HM := Aside0.mk hM
    clear hM
    go_wp2_with fail
    refine (examples_true (HM.out.alloc _)).mono ?_
    rintro e w2 ⟨rfl, hM⟩
    have HM2 := Aside0.mk hM
    clear hM HM
    go_wp2
    go_ret
    exact ⟨rfl, HM2.out.below⟩
  · obtain ⟨np, rfl⟩ := Int.eq_ofNat_of_zero_le (show 0 ≤ ports by omega)
    have h1 : np ≤ 8 := by omega
    have h2 : l.length ≤ 200 := by omega
    have HR := Aside0.mk hr
    clear h hr
    go_enter Try.func3, Try.ntmps3
    go_wp2_with fail
    refine (Run.good np A c l (Mem.start w) HR.out h1 h2).mono ?_
    rintro e w1 ⟨g, lv, lg, vr, rfl, hM⟩
    obtain ⟨Ar, cr, rfl, _⟩ := hM.reads
    have HM := Aside0.mk hM
    clear hM
    go_wp2_with fail
    refine (examples_true (HM.out.alloc _)).mono ?_
    rintro e w2 ⟨rfl, hM⟩
    have HM2 := Aside0.mk hM
    clear hM HM
    go_wp2
    go_ret
    exact ⟨rfl, HM2.out.below⟩

theorem OutputPack_law (p v a b c d : Int) (h1 : -32768 ≤ v) (h2 : v ≤ 32767) (ha : 0 ≤ a) (ha2 : a ≤ 255) (hc : 0 ≤ c) (hc2 : c ≤ 255) (hd : 0 ≤ d) (hd2 : d ≤ 255) (w : World) :
    Calls Try.prog 9 #[.int .i64 p, .int .i16 v, .agg #[.int .u8 a, .int .u8 b, .int .u8 c, .int .u8 d]] w fun e w' => e = .returned (.bool true) ∧ Below w.heap.size w w' := by
  have ew : IntKind.i64.wrap a = a := by rw [IntKind.wrap_i64]; omega
  go_enter Try.func9, Try.ntmps9
  go_wp2_with fail
  refine (Pack p v h1 h2 _).mono ?_
  rintro e w1 ⟨rfl, hb1⟩
  have HM := Aside0.mk (((Mem.start w).new (.cells #[.int .u8 a, .int .u8 b, .int .u8 c, .int .u8 d] 53)).step hb1)
  clear hb1
  go_wp2_with fail
  refine (Unpack (p % 256) 0 (v % 256) (v / 256 % 256) (by omega) (by omega) (by omega) (by omega) (by omega) (by omega) _).mono ?_
  rintro e w2 ⟨rfl, hb⟩
  have HM2 := Aside0.mk (HM.out.step hb)
  clear hb HM
  rw [i16_get v h1 h2]
  generalize w.heap.size = b5 at *
  have hb := HM2.out.get
  have y0 : w2.cell? ⟨b5, 0, none⟩ = some (.int .u8 a) := blk_cell hb 0
  have y1 : w2.cell? ⟨b5, 1, none⟩ = some (.int .u8 b) := blk_cell hb 1
  have y2 : w2.cell? ⟨b5, 2, none⟩ = some (.int .u8 c) := blk_cell hb 2
  have y3 : w2.cell? ⟨b5, 3, none⟩ = some (.int .u8 d) := blk_cell hb 3
  go_wp2_with fail
  refine (Unpack a b c d hc hc2 hd hd2 ha ha2 _).mono ?_
  rintro e w3 ⟨rfl, hb3⟩
  have HM3 := Aside0.mk (HM2.out.step hb3)
  clear hb hb3 HM2 y0 y1 y2 y3
  go_wp2_with fail
  refine (examples_true HM3.out).mono ?_
  rintro e w4 ⟨rfl, hM⟩
  have HM4 := Aside0.mk hM
  clear hM HM3
  go_wp2_with fail
  refine (Pack p v h1 h2 _).mono ?_
  rintro e w5 ⟨rfl, hb⟩
  have HM5 := Aside0.mk (HM4.out.step hb)
  clear hb HM4
  go_wp2_with fail
  refine (RefPack p v h1 h2 _).mono ?_
  rintro e w6 ⟨rfl, hb⟩
  have hM := HM5.out.step hb
  clear hb HM5
  have hb := hM.get
  have y0 : w6.cell? ⟨b5, 0, none⟩ = some (.int .u8 a) := blk_cell hb 0
  have y2 : w6.cell? ⟨b5, 2, none⟩ = some (.int .u8 c) := blk_cell hb 2
  have y3 : w6.cell? ⟨b5, 3, none⟩ = some (.int .u8 d) := blk_cell hb 3
  have HM6 := Aside0.mk hM
  clear hM hb
  by_cases hp0 : p < 0
  · have q0 : decide (p < 0) = true := decide_eq_true hp0
    clear hp0
    go_wp2_with fail
    refine (RefGet c d hc hc2 hd hd2 _).mono ?_
    rintro e w7 ⟨rfl, hb⟩
    have HM7 := Aside0.mk (HM6.out.step hb)
    clear hb HM6
    go_wp2
    go_ret
    exact ⟨rfl, HM7.out.below⟩
  by_cases hp1 : 255 < p
  · have q0 : decide (p < 0) = false := decide_eq_false hp0
    have q1 : decide (255 < p) = true := decide_eq_true hp1
    clear hp0 hp1
    go_wp2_with fail
    refine (RefGet c d hc hc2 hd hd2 _).mono ?_
    rintro e w7 ⟨rfl, hb⟩
    have HM7 := Aside0.mk (HM6.out.step hb)
    clear hb HM6
    go_wp2
    go_ret
    exact ⟨rfl, HM7.out.below⟩
  · have q0 : decide (p < 0) = false := decide_eq_false hp0
    have q1 : decide (255 < p) = false := decide_eq_false hp1
    have q2 : p % 256 = p := by omega
    clear hp0 hp1
    go_wp2_with fail
    refine (RefGet c d hc hc2 hd hd2 _).mono ?_
    rintro e w7 ⟨rfl, hb⟩
    have HM7 := Aside0.mk (HM6.out.step hb)
    clear hb HM6
    go_wp2
    go_ret
    exact ⟨rfl, HM7.out.below⟩

theorem lit_i64 {n : Int} (h : (Lit.int .i64 n).wf = true) : -9223372036854775808 ≤ n ∧ n ≤ 9223372036854775807 := by
  simp only [Lit.wf, IntKind.min, IntKind.max, IntKind.signed, IntKind.bits, Bool.and_eq_true, decide_eq_true_eq] at h
  simpa using h
theorem lit_i16 {n : Int} (h : (Lit.int .i16 n).wf = true) : -32768 ≤ n ∧ n ≤ 32767 := by
  simp only [Lit.wf, IntKind.min, IntKind.max, IntKind.signed, IntKind.bits, Bool.and_eq_true, decide_eq_true_eq] at h
  simpa using h
theorem lit_u8 {n : Int} (h : (Lit.int .u8 n).wf = true) : 0 ≤ n ∧ n ≤ 255 := by
  simp only [Lit.wf, IntKind.min, IntKind.max, IntKind.signed, IntKind.bits, Bool.and_eq_true, decide_eq_true_eq] at h
  simpa using h
theorem OutputNew_row {G : Prop} (ports : Int) (w : World) (g : G) : Calls Try.prog 6 #[.int .i64 ports] w fun e w' => e = .returned (.bool true) ∧ Below w.heap.size w w' := OutputNew_law ports w
theorem OutputWrite_row {G G' : Prop} (ports : Int) (A : Option Addr) (c : Nat) (l : List S46) (w : World) (hr : k46.C w A l.length l) (hc : l.length ≤ c) (g : G) (g' : G') :
    Calls Try.prog 3 #[.int .i64 ports, .slice A l.length c] w fun e w' => e = .returned (.bool true) ∧ Below w.heap.size w w' := OutputWrite_law ports A c l w hr
theorem OutputPack_row {G : Prop} (p v : Int) (x : List Int) (w : World) (hx : x.length = 4) (g0 : G) (g1 : (Lit.int .i16 v).wf = true) (g2 : ∀ y ∈ x, (Lit.int .u8 y).wf = true) :
    Calls Try.prog 9 #[.int .i64 p, .int .i16 v, .agg (encs (Value.int .u8) x).toArray] w fun e w' => e = .returned (.bool true) ∧ Below w.heap.size w w' := by
  match x, hx with
  | [a, b, c, d], _ =>
    have ha := lit_u8 (g2 a (by simp))
    have hc := lit_u8 (g2 c (by simp))
    have hd := lit_u8 (g2 d (by simp))
    exact OutputPack_law p v a b c d (lit_i16 g1).1 (lit_i16 g1).2 ha.1 ha.2 hc.1 hc.2 hd.1 hd.2 w
end Go.Proofs.Ytfacjkcndfpmpaa.QAl
