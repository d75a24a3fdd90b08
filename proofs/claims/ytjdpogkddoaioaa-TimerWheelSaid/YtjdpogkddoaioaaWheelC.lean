/- A wheel agrees with the model: what 'same' does then. -/
import Derived.Test.YtjdpogkddoaioaaWheelB
namespace Go.Proofs.Ytjdpogkddoaioaa.QWh
open Go.RowKit Go.Proofs.YtjdpogkddoaioaaW.PrintWords Go.Proofs.YtjdpogkddoaioaaW.PrintLast Go.Proofs.YtjdpogkddoaioaaW.PrintMore Go.Proofs.Ytjdpogkddoaioaa.Sl
set_option linter.unusedVariables false
set_option linter.unusedSimpArgs false

theorem rdn {xs : List Int} {k : Nat} : rd xs (k : Int) = xs.getD k 0 := by unfold rd; rw [Int.toNat_natCast]
theorem same_loop (l : List Int) (hl : l.length ≤ 1000000) : ∀ (n j : Nat), l.length - j ≤ n → j ≤ l.length → trickleref39_Same.l0 (n + 1) l l (j : Int) = some true := by
  intro n
  induction n with
  | zero => intro j h1 h2; rw [trickleref39_Same.l0.eq_2, if_neg (by omega)]
  | succ n ih =>
    intro j h1 h2
    rw [trickleref39_Same.l0.eq_2]
    by_cases h : (j : Int) < (l.length : Int)
    · rw [if_pos h, if_pos (by omega), if_pos h, if_pos rfl, show wrap64 ((j : Int) + 1) = ((j + 1 : Nat) : Int) by unfold wrap64; omega]
      exact ih (j + 1) (by omega) (by omega)
    · rw [if_neg h]
theorem same_f (l : List Int) (hl : l.length ≤ 1000000) : trickleref39_Same.f (l.length + 1) l l = some true := by
  unfold trickleref39_Same.f
  rw [if_pos rfl]
  exact same_loop l hl l.length 0 (by omega) (by omega)

/-- Two rows that may lie in one another. -/
def row2 (w0 : World) (v1 : Value) (xs : List Int) (v2 : Value) (ys : List Int) : Chunk where
  P := fun w S => (Kd.int .i64).R 3 w w0.heap.size S v1 xs ∧ (Kd.int .i64).R 2 w w0.heap.size S v2 ys
  mono := fun h hp => ⟨Kd.R_mono hp.1 h, Kd.R_mono hp.2 h⟩
  bound := fun hp => ⟨Kd.R_mono (Kd.R_bound hp.1) (fun _ hk => ⟨hk.1, hk.2.2.1⟩), Kd.R_mono (Kd.R_bound hp.2) (fun _ hk => ⟨hk.1, hk.2.2.1⟩)⟩
  move := fun h hp => ⟨Kd.R_move hp.1 h, Kd.R_move hp.2 h⟩
theorem row2_reads {w0 w : World} {v1 v2 : Value} {xs ys : List Int} {L : List Chunk} {m : Nat} (h : Mem w0 w (row2 w0 v1 xs v2 ys :: L)) (hm : ys.length = m) :
    (∃ A c, v1 = .slice A xs.length c ∧ xs.length ≤ c ∧ (Kd.int .i64).C w A xs.length xs) ∧ ∃ A c, v2 = .slice A m c ∧ m ≤ c ∧ (Kd.int .i64).C w A m ys := by
  subst hm
  obtain ⟨hb, T, h1, h2, h3⟩ := h
  have a : Mem w0 w [row w0 (Kd.int .i64) 3 v1 xs] := ⟨hb, T, h1.1, h2, trivial⟩
  have b : Mem w0 w [row w0 (Kd.int .i64) 2 v2 ys] := ⟨hb, T, h1.2, h2, trivial⟩
  exact ⟨a.reads, b.reads⟩
/-- The wheel and the model's lists. -/
@[reducible] def both (w0 : World) (g : Nat) (vp vn rp rn : Value) (ps ns : List Int) (L : List Chunk) : List Chunk :=
  wheel w0 g vp vn ps ns (row2 w0 rp ps rn ns :: L)
set_option maxHeartbeats 8000000 in
theorem same_true {w0 w : World} {g : Nat} {vp vn rp rn : Value} {ps ns : List Int} {L : List Chunk} (t : Int) (hl : ns.length = ps.length) (h1000 : ps.length ≤ 1000) (hM : Mem w0 w (both w0 g vp vn rp rn ps ns L)) :
    Calls Try.prog 25 #[.pointer (some ⟨g, 0, none⟩), .agg #[rp, rn], .int .i64 t] w fun e w' => e = .returned (.bool true) ∧ Mem w0 w' (both w0 g vp vn rp rn ps ns L) := by
  obtain ⟨⟨Ar, cr, rfl, _⟩, An, cn, rfl, _⟩ := row2_reads hM.drop.drop.drop hl
  have HL := Aside0.mk hl
  have hM1 := hM.new (.cells #[.slice Ar ps.length cr, .slice An ps.length cn] 44)
  have HM1 := Aside0.mk hM1.c1
  have HM := Aside0.mk hM
  have hb := hM1.get
  have y0 := blk_cell hb 0
  have y1 := blk_cell hb 1
  have y1' : (w.alloc (.cells #[.slice Ar ps.length cr, .slice An ps.length cn] 44)).cell? ⟨w.heap.size, 1, none⟩ = some (.slice An ps.length cn) := y1
  obtain ⟨⟨_, _, he4, _, hc4⟩, hc5⟩ := row2_reads hM1.drop.drop.drop.drop hl
  injection he4 with e1 e2 e3
  subst e1 e3
  have HCp := Aside0.mk hc4
  have HCn := Aside0.mk hc5
  have hM1 := Aside0.mk hM1
  clear hM hl hb hc4 hc5 e2
  by_cases h0 : t < 0
  · have c1 : decide (t < 0) = true := decide_eq_true h0
    have c2 : decide (0 ≤ t) = false := decide_eq_false (by omega)
    have HN := Aside0.mk (show nextW ps ns t = (0, false) by unfold nextW; rw [if_neg (by omega)])
    clear h0
    go_enter Try.func25, Try.ntmps25
    go_wp2_with fail
    refine (Next t HL.out HM1.out).mono ?_
    rintro e w1 ⟨rfl, hw⟩
    subst hw
    rw [HN.out]
    go_wp2_with fail
    go_region_held3 (fun W => W.cell? ⟨w.heap.size, 1, none⟩ = some (.slice An ps.length cn))
      (first
        | exact y1'
        | exact z1
        | (go_split_ands; assumption))
      (first
        | (go_at_call 23
           refine (Releases (by rw [HL.out]; exact h1000) HM1.out.drew).mono ?_
           rintro e w2 ⟨v, rfl, hM2⟩
           obtain ⟨A2, c2, rfl, hc2, hC2⟩ := hM2.readsN (n := ps.length) HL.out
           have hC3 := (row2_reads hM2.drop.drop.drop.drop HL.out).2
           have hu := Mem.u1 (L := row w0 (Kd.int .i64) 2 (.slice A2 ps.length c2) ns :: both w0 g vp vn (.slice Ar ps.length cr) (.slice An ps.length cn) ps ns L) hM2
           have z1 : w2.cell? ⟨w.heap.size, 1, none⟩ = some (.slice An ps.length cn) := blk_cell hu.get 1
           have HM2 := Aside0.mk hu.drop.drop
           have HC2 := Aside0.mk hC2
           have HC3 := Aside0.mk hC3
           clear hM2 hu hC2 hC3)
        | (go_at_call 41
           obtain ⟨A', c', he, hc3, hC3⟩ := HC3.out
           injection he with e1 e2 e3
           subst e1 e3
           have key := trickleref39_Same.calls (ns.length + 1) A2 c2 ns An cn ns true _ (by rw [HL.out]; exact HC2.out) (by rw [HL.out]; exact hc2) (by rw [HL.out]; exact hC3) (by rw [HL.out]; exact hc3) (same_f ns (by rw [HL.out]; omega))
           rw [HL.out] at key
           refine key.mono ?_
           clear key hC3 hc3 e2
           rintro e w3 ⟨rfl, ⟨nd, rfl⟩⟩))
    go_wp2_with fail
    go_ret
    exact ⟨rfl, HM2.out.drewN nd⟩
  have c2 : decide (0 ≤ t) = true := decide_eq_true (by omega)
  by_cases h1 : t < (ps.length : Int)
  case neg =>
    have c3 : decide (t < (ps.length : Int)) = false := decide_eq_false h1
    have HN := Aside0.mk (show nextW ps ns t = (0, false) by unfold nextW; rw [if_neg (by omega)])
    clear h0 h1
    go_enter Try.func25, Try.ntmps25
    go_wp2_with fail
    refine (Next t HL.out HM1.out).mono ?_
    rintro e w1 ⟨rfl, hw⟩
    subst hw
    rw [HN.out]
    go_wp2_with fail
    go_region_held3 (fun W => W.cell? ⟨w.heap.size, 1, none⟩ = some (.slice An ps.length cn))
      (first
        | exact y1'
        | exact z1
        | (go_split_ands; assumption))
      (first
        | (go_at_call 23
           refine (Releases (by rw [HL.out]; exact h1000) HM1.out.drew).mono ?_
           rintro e w2 ⟨v, rfl, hM2⟩
           obtain ⟨A2, c2, rfl, hc2, hC2⟩ := hM2.readsN (n := ps.length) HL.out
           have hC3 := (row2_reads hM2.drop.drop.drop.drop HL.out).2
           have hu := Mem.u1 (L := row w0 (Kd.int .i64) 2 (.slice A2 ps.length c2) ns :: both w0 g vp vn (.slice Ar ps.length cr) (.slice An ps.length cn) ps ns L) hM2
           have z1 : w2.cell? ⟨w.heap.size, 1, none⟩ = some (.slice An ps.length cn) := blk_cell hu.get 1
           have HM2 := Aside0.mk hu.drop.drop
           have HC2 := Aside0.mk hC2
           have HC3 := Aside0.mk hC3
           clear hM2 hu hC2 hC3)
        | (go_at_call 41
           obtain ⟨A', c', he, hc3, hC3⟩ := HC3.out
           injection he with e1 e2 e3
           subst e1 e3
           have key := trickleref39_Same.calls (ns.length + 1) A2 c2 ns An cn ns true _ (by rw [HL.out]; exact HC2.out) (by rw [HL.out]; exact hc2) (by rw [HL.out]; exact hC3) (by rw [HL.out]; exact hc3) (same_f ns (by rw [HL.out]; omega))
           rw [HL.out] at key
           refine key.mono ?_
           clear key hC3 hc3 e2
           rintro e w3 ⟨rfl, ⟨nd, rfl⟩⟩))
    go_wp2_with fail
    go_ret
    exact ⟨rfl, HM2.out.drewN nd⟩
  obtain ⟨j, rfl⟩ : ∃ j : Nat, t = (j : Int) := ⟨t.toNat, by omega⟩
  have hj : j < ps.length := by omega
  have c3 : decide ((j : Int) < (ps.length : Int)) = true := decide_eq_true h1
  have c4 : decide (j < ps.length) = true := decide_eq_true hj
  obtain ⟨b, o, e0, x0⟩ := cell_at hM1.out HCp.out hj
  obtain ⟨A', c', he, _, hcn⟩ := HCn.out
  injection he with e1 e2 e3
  subst e1 e3
  obtain ⟨b', o', e1, x1⟩ := cell_at (l := ns) hM1.out (by rw [HL.out]; exact hcn) (by rw [HL.out]; exact hj)
  have hN : nextW ps ns (j : Int) = (if ps.getD j 0 = 0 then (0, false) else (ns.getD j 0, true)) := by unfold nextW; rw [if_pos (by omega), Int.toNat_natCast]
  clear h0 h1 hcn e2
  subst e0 e1
  generalize ps.getD j 0 = p at *
  generalize ns.getD j 0 = n at *
  by_cases hp : p = 0
  · subst hp
    have HN := Aside0.mk (hN.trans (if_pos rfl))
    clear hN
    go_enter Try.func25, Try.ntmps25
    go_wp2_with fail
    refine (Next (j : Int) HL.out HM1.out).mono ?_
    rintro e w1 ⟨rfl, hw⟩
    subst hw
    rw [HN.out]
    go_wp2_with fail
    go_region_held3 (fun W => W.cell? ⟨w.heap.size, 1, none⟩ = some (.slice (some ⟨b', o', none⟩) ps.length cn))
      (first
        | exact y1'
        | exact z1
        | (go_split_ands; assumption))
      (first
        | (go_at_call 23
           refine (Releases (by rw [HL.out]; exact h1000) HM1.out.drew).mono ?_
           rintro e w2 ⟨v, rfl, hM2⟩
           obtain ⟨A2, c2, rfl, hc2, hC2⟩ := hM2.readsN (n := ps.length) HL.out
           have hC3 := (row2_reads hM2.drop.drop.drop.drop HL.out).2
           have hu := Mem.u1 (L := row w0 (Kd.int .i64) 2 (.slice A2 ps.length c2) ns :: both w0 g vp vn (.slice (some ⟨b, o, none⟩) ps.length cr) (.slice (some ⟨b', o', none⟩) ps.length cn) ps ns L) hM2
           have z1 : w2.cell? ⟨w.heap.size, 1, none⟩ = some (.slice (some ⟨b', o', none⟩) ps.length cn) := blk_cell hu.get 1
           have HM2 := Aside0.mk hu.drop.drop
           have HC2 := Aside0.mk hC2
           have HC3 := Aside0.mk hC3
           clear hM2 hu hC2 hC3)
        | (go_at_call 41
           obtain ⟨A', c', he, hc3, hC3⟩ := HC3.out
           injection he with e1 e2 e3
           subst e1 e3
           have key := trickleref39_Same.calls (ns.length + 1) A2 c2 ns (some ⟨b', o', none⟩) cn ns true _ (by rw [HL.out]; exact HC2.out) (by rw [HL.out]; exact hc2) (by rw [HL.out]; exact hC3) (by rw [HL.out]; exact hc3) (same_f ns (by rw [HL.out]; omega))
           rw [HL.out] at key
           refine key.mono ?_
           clear key hC3 hc3 e2
           rintro e w3 ⟨rfl, ⟨nd, rfl⟩⟩))
    go_wp2_with fail
    go_ret
    exact ⟨rfl, HM2.out.drewN nd⟩
  · have q1 : (p == 0) = false := beq_eq_false_iff_ne.2 hp
    have q2 : decide (p = 0) = false := decide_eq_false hp
    have q3 : (p != 0) = true := bne_iff_ne.2 hp
    have HN := Aside0.mk (hN.trans (if_neg hp))
    clear hN hp
    go_enter Try.func25, Try.ntmps25
    go_wp2_with fail
    refine (Next (j : Int) HL.out HM1.out).mono ?_
    rintro e w1 ⟨rfl, hw⟩
    subst hw
    rw [HN.out]
    go_wp2_with fail
    go_region_held3 (fun W => W.cell? ⟨w.heap.size, 1, none⟩ = some (.slice (some ⟨b', o', none⟩) ps.length cn))
      (first
        | exact y1'
        | exact z1
        | (go_split_ands; assumption))
      (first
        | (go_at_call 23
           refine (Releases (by rw [HL.out]; exact h1000) HM1.out.drew).mono ?_
           rintro e w2 ⟨v, rfl, hM2⟩
           obtain ⟨A2, c2, rfl, hc2, hC2⟩ := hM2.readsN (n := ps.length) HL.out
           have hC3 := (row2_reads hM2.drop.drop.drop.drop HL.out).2
           have hu := Mem.u1 (L := row w0 (Kd.int .i64) 2 (.slice A2 ps.length c2) ns :: both w0 g vp vn (.slice (some ⟨b, o, none⟩) ps.length cr) (.slice (some ⟨b', o', none⟩) ps.length cn) ps ns L) hM2
           have z1 : w2.cell? ⟨w.heap.size, 1, none⟩ = some (.slice (some ⟨b', o', none⟩) ps.length cn) := blk_cell hu.get 1
           have HM2 := Aside0.mk hu.drop.drop
           have HC2 := Aside0.mk hC2
           have HC3 := Aside0.mk hC3
           clear hM2 hu hC2 hC3)
        | (go_at_call 41
           obtain ⟨A', c', he, hc3, hC3⟩ := HC3.out
           injection he with e1 e2 e3
           subst e1 e3
           have key := trickleref39_Same.calls (ns.length + 1) A2 c2 ns (some ⟨b', o', none⟩) cn ns true _ (by rw [HL.out]; exact HC2.out) (by rw [HL.out]; exact hc2) (by rw [HL.out]; exact hC3) (by rw [HL.out]; exact hc3) (same_f ns (by rw [HL.out]; omega))
           rw [HL.out] at key
           refine key.mono ?_
           clear key hC3 hc3 e2
           rintro e w3 ⟨rfl, ⟨nd, rfl⟩⟩))
    go_wp2_with fail
    go_ret
    exact ⟨rfl, HM2.out.drewN nd⟩
end Go.Proofs.Ytjdpogkddoaioaa.QWh
