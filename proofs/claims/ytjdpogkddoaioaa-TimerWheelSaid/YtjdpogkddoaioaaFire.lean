/- What Fire does. -/
import Derived.Test.YtjdpogkddoaioaaWheelD
namespace Go.Proofs.Ytjdpogkddoaioaa.QWh
open Go.RowKit Go.Proofs.YtjdpogkddoaioaaW.PrintWords Go.Proofs.YtjdpogkddoaioaaW.PrintLast Go.Proofs.YtjdpogkddoaioaaW.PrintMore Go.Proofs.Ytjdpogkddoaioaa.Sl
set_option linter.unusedVariables false
set_option linter.unusedSimpArgs false

def okI (lo hi : Int) : Prop := 0 ≤ lo ∧ lo ≤ hi ∧ hi ≤ 1099511627776
instance (lo hi : Int) : Decidable (okI lo hi) := by unfold okI; exact inferInstance
theorem valid_f (lo hi : Int) : timer_valid.f lo hi = some (decide (okI lo hi)) := by
  unfold timer_valid.f
  by_cases h0 : lo ≥ 0
  · rw [if_pos h0]
    by_cases h1 : lo ≤ hi
    · rw [if_pos h1]; congr 1; apply decide_eq_decide.mpr; exact ⟨fun h => ⟨h0, h1, h⟩, fun h => h.2.2⟩
    · rw [if_neg h1, decide_eq_false (show ¬ okI lo hi from fun h => h1 h.2.1)]
  · rw [if_neg h0, decide_eq_false (show ¬ okI lo hi from fun h => h0 h.1)]
theorem valid_call (lo hi : Int) {w0 w : World} {L : List Chunk} (hM : Mem w0 w L) : Calls Try.prog 34 #[.agg #[.int .i64 lo, .int .i64 hi]] w fun e w' => e = .returned (.bool (decide (okI lo hi))) ∧ Mem w0 w' L :=
  (timer_valid.calls lo hi _ w (valid_f lo hi)).mono (fun e w' h => ⟨h.1, hM.step h.2⟩)

set_option maxHeartbeats 4000000 in
theorem Fire.bad {w0 w : World} {g : Nat} {vp vn : Value} {ps ns : List Int} {L : List Chunk} (t lo hi : Int) (hb : ¬ (0 ≤ t ∧ t < (ps.length : Int) ∧ okI lo hi)) (hM : Mem w0 w (wheel w0 g vp vn ps ns L)) :
    Calls Try.prog 27 #[.pointer (some ⟨g, 0, none⟩), .int .i64 t, .agg #[.int .i64 lo, .int .i64 hi]] w fun e w' => e = .returned (.tuple #[.int .i64 0, .int .i64 1]) ∧ Mem w0 w' (wheel w0 g vp vn ps ns L) := by
  have hM1 := hM.alloc (.cells #[.int .i64 lo, .int .i64 hi] 23)
  obtain ⟨y0, y1, _, ⟨A, c, rfl⟩, ⟨A', c', rfl⟩⟩ := wheel_cells hM1
  have HM1 := Aside0.mk hM1
  have hgl := hM.lt
  clear hM hM1
  by_cases h0 : t < 0
  · have c1 : decide (t < 0) = true := decide_eq_true h0
    clear h0 hb
    go_enter Try.func27, Try.ntmps27
    go_wp2_with fail
    go_ret2
    exact ⟨rfl, HM1.out⟩
  have c1 : decide (t < 0) = false := decide_eq_false h0
  by_cases h1 : t < (ps.length : Int)
  case neg =>
    have c2 : decide ((ps.length : Int) ≤ t) = true := decide_eq_true (by omega)
    clear h0 h1 hb
    go_enter Try.func27, Try.ntmps27
    go_wp2_with fail
    go_ret2
    exact ⟨rfl, HM1.out⟩
  have c2 : decide ((ps.length : Int) ≤ t) = false := decide_eq_false (by omega)
  have c3 : decide (okI lo hi) = false := decide_eq_false (fun h => hb ⟨by omega, h1, h⟩)
  clear h0 h1 hb
  go_enter Try.func27, Try.ntmps27
  go_wp2_with (go_at_call 34
               refine (valid_call lo hi HM1.out).mono ?_
               rw [c3]
               rintro e w1 ⟨rfl, hM⟩
               have HM2 := Aside0.mk hM
               clear hM)
  go_ret2
  exact ⟨rfl, HM2.out⟩
def FirePost (w0 : World) (g : Nat) (vp vn : Value) (ps ns : List Int) (L : List Chunk) (j : Nat) (p at' sk er : Int) (e : Ending) (w' : World) : Prop :=
  (p = 0 ∧ e = .returned (.tuple #[.int .i64 0, .int .i64 5]) ∧ Mem w0 w' (wheel w0 g vp vn ps ns L)) ∨
  (p ≠ 0 ∧ e = .returned (.tuple #[.int .i64 sk, .int .i64 er]) ∧ Mem w0 w' (wheel w0 g vp vn ps (if er = 0 then ns.set j at' else ns) L))
set_option maxHeartbeats 8000000 in
theorem Fire.good {w0 w : World} {g : Nat} {vp vn : Value} {ps ns : List Int} {L : List Chunk} (j : Nat) (lo hi : Int) (hj : j < ps.length) (hl : ns.length = ps.length) (hi' : okI lo hi) {k : Nat} {at' sk er : Int}
    (hadv : ps.getD j 0 ≠ 0 → timer_Advance.f k (ns.getD j 0) (ps.getD j 0) lo hi = some (at', sk, er)) (hM : Mem w0 w (wheel w0 g vp vn ps ns L)) :
    Calls Try.prog 27 #[.pointer (some ⟨g, 0, none⟩), .int .i64 (j : Int), .agg #[.int .i64 lo, .int .i64 hi]] w fun e w' =>
      FirePost w0 g vp vn ps ns L j (ps.getD j 0) at' sk er e w' := by
  have hM1 := (hM.new (.cells #[.int .i64 lo, .int .i64 hi] 23)).c1
  obtain ⟨gn, cn, rfl, _⟩ := hM.drop.drop.row_form (by omega)
  obtain ⟨y0, y1, _, ⟨A, c, rfl⟩, _⟩ := wheel_cells hM1
  have hgl := hM1.lt
  have HM1 := Aside0.mk hM1
  have HL := Aside0.mk hl
  have c1 : decide ((j : Int) < 0) = false := decide_eq_false (by omega)
  have c2 : decide ((ps.length : Int) ≤ (j : Int)) = false := decide_eq_false (by omega)
  have c2' : decide (ps.length ≤ j) = false := decide_eq_false (by omega)
  have c3 : decide (okI lo hi) = true := decide_eq_true hi'
  have hj2 : j < ns.length := by omega
  generalize hp' : ps.getD j 0 = p at *
  generalize hn' : ns.getD j 0 = n at *
  have HP := Aside0.mk hp'
  have HN := Aside0.mk hn'
  have hj3 : (j : Int) < (ns.length : Int) := by omega
  have hj4 : (j : Int) < (ps.length : Int) := by omega
  have hj5 : (0 : Int) ≤ (j : Int) := by omega
  clear hM hM1 hi' hl hp' hn'
  by_cases hp : p = 0
  · subst hp
    clear hadv
    go_enter Try.func27, Try.ntmps27
    go_wp2_with (go_at_call 34
                 refine (valid_call lo hi HM1.out).mono ?_
                 rw [c3]
                 rintro e w1 ⟨rfl, hM⟩
                 obtain ⟨b, o, rfl, x0⟩ := cell_at hM hM.drop.readsE.2 hj
                 obtain ⟨z0, z1⟩ := hM.p2.row_cell (0 : Int) j hj2
                 rw [HP.out] at x0
                 rw [HN.out] at z0
                 have hx := wheel_cells hM
                 have yy0 := hx.1
                 have yy1 := hx.2.1
                 have hb0 := (Mem.u1 (L := wheel w0 g (.slice (some ⟨b, o, none⟩) ps.length c) (.slice (some ⟨gn, 0, none⟩) ns.length cn) ps ns L) hM)
                 have hb := hb0.get
                 have HM2 := Aside0.mk hb0.drop
                 have t0 := blk_cell hb 0
                 have t1 := blk_cell hb 1
                 clear hM hx hb hb0)
    go_ret2
    exact .inl ⟨rfl, rfl, HM2.out⟩
  · have hadv := hadv hp
    have HADV := Aside0.mk hadv
    have q1 : (p == 0) = false := beq_eq_false_iff_ne.2 hp
    have q2 : decide (p = 0) = false := decide_eq_false hp
    have HPN := Aside0.mk hp
    clear hadv hp
    go_enter Try.func27, Try.ntmps27
    go_wp2_with (go_at_call 34
                 refine (valid_call lo hi HM1.out).mono ?_
                 rw [c3]
                 rintro e w1 ⟨rfl, hM⟩
                 obtain ⟨b, o, rfl, x0⟩ := cell_at hM hM.drop.readsE.2 hj
                 obtain ⟨z0, z1⟩ := hM.p2.row_cell (0 : Int) j hj2
                 rw [HP.out] at x0
                 rw [HN.out] at z0
                 have hx := wheel_cells hM
                 have yy0 := hx.1
                 have yy1 := hx.2.1
                 have hb0 := (Mem.u1 (L := wheel w0 g (.slice (some ⟨b, o, none⟩) ps.length c) (.slice (some ⟨gn, 0, none⟩) ns.length cn) ps ns L) hM)
                 have hb := hb0.get
                 have HM2 := Aside0.mk hb0.drop
                 have t0 := blk_cell hb 0
                 have t1 := blk_cell hb 1
                 clear hM hx hb hb0)
    go_region_held3 (fun W => W.cell? ⟨w.heap.size, 0, none⟩ = some (.int .i64 lo) ∧ W.cell? ⟨w.heap.size, 1, none⟩ = some (.int .i64 hi) ∧ W.cell? ⟨g, 0, none⟩ = some (.slice (some ⟨b, o, none⟩) ps.length c) ∧ W.cell? ⟨g, 1, none⟩ = some (.slice (some ⟨gn, 0, none⟩) ns.length cn) ∧ W.cell? ⟨gn, j, none⟩ = some (.int .i64 n) ∧ W.cell? ⟨b, o + j, none⟩ = some (.int .i64 p))
      (first
        | exact ⟨t0, t1, yy0, yy1, z0, x0⟩
        | (go_split_ands; refine ⟨?_, ?_, ?_, ?_, ?_, ?_⟩ <;> exact pw_cell_below hb3 (by assumption)))
      (first
        | (go_at_call 11
           refine (timer_Advance.calls k n p lo hi _ _ _ _ HADV.out).mono ?_
           rintro e w2 ⟨rfl, hb3⟩
           have HM3 := Aside0.mk (HM2.out.drew.step hb3)))
    have hx := wheel_cells HM3.out
    have yz1 := hx.2.1
    obtain ⟨zz0, zz1⟩ := HM3.out.p2.row_cell (0 : Int) j hj2
    clear hx
    by_cases her : er = 0
    · have r1 : (er == 0) = true := beq_iff_eq.2 her
      have r2 : decide (er = 0) = true := decide_eq_true her
      have HER := Aside0.mk her
      clear her
      go_wp2_with fail
      go_ret2
      have hm := (HM3.out.p2.row_put j at').q2
      refine .inr ⟨HPN.out, rfl, ?_⟩
      rw [if_pos HER.out]
      exact hm
    · have r1 : (er == 0) = false := beq_eq_false_iff_ne.2 her
      have r2 : decide (er = 0) = false := decide_eq_false her
      have HER := Aside0.mk her
      clear her
      go_wp2_with fail
      go_ret2
      refine .inr ⟨HPN.out, rfl, ?_⟩
      rw [if_neg HER.out]
      exact HM3.out
end Go.Proofs.Ytjdpogkddoaioaa.QWh
