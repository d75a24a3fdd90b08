/- What Next, Releases and Set do. -/
import Derived.Test.YtjdpogkddoaioaaWheel
namespace Go.Proofs.Ytjdpogkddoaioaa.QWh
open Go.RowKit Go.Proofs.YtjdpogkddoaioaaW.PrintWords Go.Proofs.YtjdpogkddoaioaaW.PrintLast Go.Proofs.YtjdpogkddoaioaaW.PrintMore Go.Proofs.Ytjdpogkddoaioaa.Sl
set_option linter.unusedVariables false
set_option linter.unusedSimpArgs false

def nextW (ps ns : List Int) (t : Int) : Int × Bool :=
  if 0 ≤ t ∧ t < (ps.length : Int) then (if ps.getD t.toNat 0 = 0 then (0, false) else (ns.getD t.toNat 0, true)) else (0, false)
theorem Next {w0 w : World} {g : Nat} {vp vn : Value} {ps ns : List Int} {L : List Chunk} (t : Int) (hl : ns.length = ps.length) (hM : Mem w0 w (wheel w0 g vp vn ps ns L)) :
    Calls Try.prog 40 #[.pointer (some ⟨g, 0, none⟩), .int .i64 t] w fun e w' => e = .returned (.tuple #[.int .i64 (nextW ps ns t).1, .bool (nextW ps ns t).2]) ∧ w = w' := by
  obtain ⟨y0, y1, _, ⟨A, c, rfl⟩, ⟨A', c', rfl⟩⟩ := wheel_cells hM
  unfold nextW
  by_cases h0 : t < 0
  · have c1 : decide (t < 0) = true := decide_eq_true h0
    rw [if_neg (by omega)]
    clear h0 hM
    go_enter Try.func40, Try.ntmps40
    go_wp2_with fail
    go_ret2
    exact ⟨rfl, rfl⟩
  have c1 : decide (t < 0) = false := decide_eq_false h0
  by_cases h1 : t < (ps.length : Int)
  case neg =>
    have c2 : decide ((ps.length : Int) ≤ t) = true := decide_eq_true (by omega)
    rw [if_neg (by omega)]
    clear h0 h1 hM
    go_enter Try.func40, Try.ntmps40
    go_wp2_with fail
    go_ret2
    exact ⟨rfl, rfl⟩
  rw [if_pos (by omega)]
  obtain ⟨j, rfl⟩ : ∃ j : Nat, t = (j : Int) := ⟨t.toNat, by omega⟩
  have hj : j < ps.length := by omega
  rw [Int.toNat_natCast]
  have c2 : decide ((ps.length : Int) ≤ (j : Int)) = false := decide_eq_false (by omega)
  have c2' : decide (ps.length ≤ j) = false := decide_eq_false (by omega)
  obtain ⟨b, o, rfl, x0⟩ := cell_at hM hM.drop.readsE.2 hj
  obtain ⟨b', o', rfl, x1⟩ := cell_at hM hM.drop.drop.readsE.2 (show j < ns.length by omega)
  have hl' := Aside0.mk hl
  clear hM h0 h1
  rw [hl] at y1
  clear hl
  generalize ps.getD j 0 = p at *
  generalize ns.getD j 0 = n at *
  by_cases hp : p = 0
  · subst hp
    rw [if_pos rfl]
    go_enter Try.func40, Try.ntmps40
    go_wp2_with fail
    go_ret2
    exact ⟨rfl, rfl⟩
  · have q1 : (p == 0) = false := beq_eq_false_iff_ne.2 hp
    have q2 : decide (p = 0) = false := decide_eq_false hp
    rw [if_neg hp]
    clear hp
    go_enter Try.func40, Try.ntmps40
    go_wp2_with fail
    go_ret2
    exact ⟨rfl, rfl⟩

theorem Releases {w0 w : World} {g : Nat} {vp vn : Value} {ps ns : List Int} {L : List Chunk} (hl : ns.length ≤ 1000) (hM : Mem w0 w (wheel w0 g vp vn ps ns L)) :
    Calls Try.prog 23 #[.pointer (some ⟨g, 0, none⟩)] w fun e w' => ∃ v, e = .returned v ∧ Mem w0 w' (row w0 (Kd.int .i64) 2 v ns :: wheel w0 g vp vn ps ns L) := by
  obtain ⟨y0, y1, _, _, ⟨A', c', rfl⟩⟩ := wheel_cells hM
  have hC := hM.drop.drop.readsE
  have HM := Aside0.mk hM
  clear hM
  go_enter Try.func23, Try.ntmps23
  go_wp2_with fail
  refine (Clone2 hC.2 rfl hC.1 hl HM.out).mono ?_
  rintro e w1 ⟨v, rfl, hM1⟩
  have HM1 := Aside0.mk hM1
  clear hM1
  go_wp2_with fail
  go_ret
  exact ⟨v, rfl, HM1.out⟩

def okR (p r : Int) : Prop := ¬ (p = 0 ∧ r ≠ 0) ∧ 0 ≤ r ∧ r ≤ 1099511660543
instance (p r : Int) : Decidable (okR p r) := by unfold okR; exact inferInstance
theorem release_f (r : Int) : timer_release.f r = some (decide (0 ≤ r ∧ r ≤ 1099511660543)) := by
  unfold timer_release.f
  by_cases h : r ≥ 0
  · rw [if_pos h]; congr 1; apply decide_eq_decide.mpr; exact ⟨fun h' => ⟨h, h'⟩, fun h' => h'.2⟩
  · rw [if_neg h]; congr 1; exact (decide_eq_false (fun h' => h h'.1)).symm
def SetPost (w0 : World) (g : Nat) (vp vn : Value) (ps ns l : List Int) (L : List Chunk) (e : Ending) (w' : World) : Prop :=
  (e = .returned (.int .i64 0) ∧ (∀ i, i < ps.length → okR (ps.getD i 0) (l.getD i 0)) ∧ ∃ vn', Mem w0 w' (wheel w0 g vp vn' ps l L)) ∨
  (e = .returned (.int .i64 1) ∧ (∃ i, i < ps.length ∧ ¬ okR (ps.getD i 0) (l.getD i 0)) ∧ Mem w0 w' (wheel w0 g vp vn ps ns L))
def SetRel (w : World) (ps l : List Int) (v17 : Value) (wr : World) : Prop :=
  ∃ j : Nat, j ≤ ps.length ∧ v17 = .int .i64 (j : Int) ∧ Below w.heap.size w wr ∧ ∀ i, i < j → okR (ps.getD i 0) (l.getD i 0)
theorem rSteps {ps l : List Int} {j : Nat} (h : ∀ i, i < j → okR (ps.getD i 0) (l.getD i 0)) (hj : okR (ps.getD j 0) (l.getD j 0)) : ∀ i, i < j + 1 → okR (ps.getD i 0) (l.getD i 0) := by
  intro i hi
  by_cases e : i = j
  · rw [e]; exact hj
  · exact h i (by omega)
theorem Set.short {w0 w : World} {g : Nat} {vp vn : Value} {ps ns : List Int} {L : List Chunk} {A : Option Addr} {n c : Nat} (hne : n ≠ ps.length) (hM : Mem w0 w (wheel w0 g vp vn ps ns L)) :
    Calls Try.prog 24 #[.pointer (some ⟨g, 0, none⟩), .slice A n c] w fun e w' => e = .returned (.int .i64 1) ∧ w = w' := by
  obtain ⟨y0, y1, _, ⟨Ap, cp, rfl⟩, ⟨A', c', rfl⟩⟩ := wheel_cells hM
  have q1 : ((n : Int) != (ps.length : Int)) = true := bne_iff_ne.2 (by omega)
  have q2 : ((n : Int) == (ps.length : Int)) = false := beq_eq_false_iff_ne.2 (by omega)
  have q3 : decide ((n : Int) = (ps.length : Int)) = false := decide_eq_false (by omega)
  have q4 : decide (n = ps.length) = false := decide_eq_false hne
  clear hM hne
  go_enter Try.func24, Try.ntmps24
  go_wp2_with fail
  go_ret
  exact ⟨rfl, rfl⟩
set_option maxHeartbeats 4000000 in
theorem Set.calls {w0 w : World} {g : Nat} {vp vn : Value} {ps ns l : List Int} {L : List Chunk} {A : Option Addr} {c : Nat} (hC : Kd.C (Kd.int .i64) w A ps.length l) (hll : l.length = ps.length) (hc : ps.length ≤ c) (hl : ps.length ≤ 1000) (hM : Mem w0 w (wheel w0 g vp vn ps ns L)) :
    Calls Try.prog 24 #[.pointer (some ⟨g, 0, none⟩), .slice A ps.length c] w fun e w' => SetPost w0 g vp vn ps ns l L e w' := by
  obtain ⟨y0, y1, _, ⟨Ap, cp, rfl⟩, ⟨A', c', rfl⟩⟩ := wheel_cells hM
  have HM := Aside0.mk hM
  have HC := Aside0.mk hC
  have HLL := Aside0.mk hll
  clear hM hC y0 y1 hll
  have q1 : ((ps.length : Int) != (ps.length : Int)) = false := by simp
  have y0 := (wheel_cells HM.out).1
  go_enter Try.func24, Try.ntmps24
  go_wp2_with fail
  clear y0
  go_loopw [17] (fun v17 wr => SetRel w ps l v17 wr) (fun i _ => ps.length - (intOf i).toNat)
  case atStart => exact ⟨0, Nat.zero_le _, rfl, Below.refl _ _, fun i hi => absurd hi (by omega)⟩
  case round =>
    obtain ⟨j, hj, rfl, hb, hok⟩ := hrel
    have hM := HM.out.step hb
    have hC := Kd.C_below HC.out hb
    by_cases hlt : j < ps.length
    · have hx := wheel_cells hM
      have y0 := hx.1
      obtain ⟨b, o, rfl, x0⟩ := cell_at hM hM.drop.readsE.2 hlt
      obtain ⟨b', o', rfl, x1⟩ := cell_at (j := j) hM (by rw [HLL.out]; exact hC) (by rw [HLL.out]; exact hlt)
      have HOKS := Aside0.mk (fun h => rSteps hok h)
      have HM3 := Aside0.mk hM
      have HB := Aside0.mk hb
      have HEX := Aside0.mk (fun (h : ¬ okR (ps.getD j 0) (l.getD j 0)) => (⟨j, hlt, h⟩ : ∃ i, i < ps.length ∧ ¬ okR (ps.getD i 0) (l.getD i 0)))
      clear hM hx hok hC hb
      generalize ps.getD j 0 = p at *
      generalize l.getD j 0 = r at *
      by_cases hp : p = 0
      · subst hp
        by_cases hr : r = 0
        · subst hr
          have HF := Aside0.mk (release_f 0)
          rw [decide_eq_true (by decide)] at HF
          go_wp2_with (go_at_call 32; (with_reducible refine (timer_release.calls 0 true _ HF.out).mono ?_); rintro e w' ⟨rfl, ⟨nd', rfl⟩⟩)
          go_roundw
          case rel => exact ⟨j + 1, by omega, by go_num, pw_below_drewN HB.out nd', HOKS.out (by decide)⟩
          case measure => simp [intOf]; omega
        · have q2 : (r == 0) = false := beq_eq_false_iff_ne.2 hr
          have q3 : decide (r = 0) = false := decide_eq_false hr
          have q4 : (r != 0) = true := bne_iff_ne.2 hr
          have HR := Aside0.mk hr
          clear hr
          go_wp2_with fail
          go_ret
          exact .inr ⟨rfl, HEX.out (fun h => h.1 ⟨rfl, HR.out⟩), HM3.out⟩
      · have q2 : (p == 0) = false := beq_eq_false_iff_ne.2 hp
        have q3 : decide (p = 0) = false := decide_eq_false hp
        have HP := Aside0.mk hp
        clear hp
        by_cases hr : 0 ≤ r ∧ r ≤ 1099511660543
        · have HF := Aside0.mk (release_f r)
          rw [decide_eq_true hr] at HF
          have HR := Aside0.mk hr
          clear hr
          go_wp2_with (go_at_call 32; (with_reducible refine (timer_release.calls r true _ HF.out).mono ?_); rintro e w' ⟨rfl, ⟨nd', rfl⟩⟩)
          go_roundw
          case rel => exact ⟨j + 1, by omega, by go_num, pw_below_drewN HB.out nd', HOKS.out ⟨fun h => HP.out h.1, HR.out⟩⟩
          case measure => simp [intOf]; omega
        · have HF := Aside0.mk (release_f r)
          rw [decide_eq_false hr] at HF
          have HR := Aside0.mk hr
          clear hr
          go_wp2_with (go_at_call 32; (with_reducible refine (timer_release.calls r false _ HF.out).mono ?_); rintro e w' ⟨rfl, ⟨nd', rfl⟩⟩)
          go_ret
          exact .inr ⟨rfl, HEX.out (fun h => HR.out h.2), HM3.out.drewN nd'⟩
    · have hjl : j = ps.length := by omega
      subst hjl
      have HOK := Aside0.mk hok
      have HM3 := Aside0.mk hM
      have HC3 := Aside0.mk hC
      clear hlt hM hok hb
      go_wp2_with fail
      refine (Clone2 (L := wheel w0 g (.slice Ap ps.length cp) (.slice A' ns.length c') ps ns L) HC3.out HLL.out.symm (by rw [HLL.out]; exact hc) (by rw [HLL.out]; exact hl) HM3.out).mono ?_
      rintro e w1 ⟨v1, rfl, hM1⟩
      have hb := hM1.drop.get
      have x0 : w1.cell? ⟨g, 1, none⟩ = some (.slice A' ns.length c') := blk_cell hb 1
      have x1 := blk_frozen hb 1
      obtain ⟨A1, c1, rfl, _⟩ := hM1.reads
      have hp := (hM1.p1.put (cs' := #[.slice Ap ps.length cp, .slice A1 l.length c1]) 1 (.slice A1 l.length c1) rfl)
      have HP := Aside0.mk hp
      clear hM1 hb hp
      go_wp2_with fail
      go_ret
      exact .inl ⟨rfl, HOK.out, _, HP.out.p3.drop.p2.p1⟩
end Go.Proofs.Ytjdpogkddoaioaa.QWh
