/- TimerWheel. -/
import Derived.Test.YtjdpogkddoaioaaWheelF
namespace Go.Proofs.Ytjdpogkddoaioaa.QWh
open Go.RowKit Go.Proofs.YtjdpogkddoaioaaW.PrintWords Go.Proofs.YtjdpogkddoaioaaW.PrintLast Go.Proofs.YtjdpogkddoaioaaW.PrintMore Go.Proofs.Ytjdpogkddoaioaa.Sl
set_option linter.unusedVariables false
set_option linter.unusedSimpArgs false

/-- An interval; an operation. -/
structure S23 where
  f0 : Int
  f1 : Int
def k23 : Kd S23 := Kd.iso (Kd.pair (Kd.int .i64) (Kd.int .i64)) (fun x : S23 => (x.f0, x.f1))
structure S56 where
  f0 : Int
  f1 : Int
  f2 : S23
  f3 : List Int
def z56 : S56 := ⟨0, 0, ⟨0, 0⟩, []⟩
def k56 : Kd S56 := Kd.iso (Kd.pair (Kd.int .u8) (Kd.pair (Kd.int .i64) (Kd.pair k23 (Kd.slice 2 (Kd.int .i64))))) (fun x : S56 => (x.f0, x.f1, x.f2, x.f3))
theorem k56_open {w : World} {x : S56} {cs : List Value} (h : k56.K w x cs) : ∃ A c, cs = [.int .u8 x.f0, .int .i64 x.f1, .int .i64 x.f2.f0, .int .i64 x.f2.f1, .slice A x.f3.length c] ∧ x.f3.length ≤ c ∧ Kd.C (Kd.int .i64) w A x.f3.length x.f3 := by
  obtain ⟨c0, r0, rfl, h0, c1, r1, rfl, h1, c2, r2, rfl, ⟨c3, c4, rfl, h3, h4⟩, A, c, rfl, hl, hC⟩ := h
  have e0 : c0 = [.int .u8 x.f0] := h0
  have e1 : c1 = [.int .i64 x.f1] := h1
  have e3 : c3 = [.int .i64 x.f2.f0] := h3
  have e4 : c4 = [.int .i64 x.f2.f1] := h4
  subst e0 e1 e3 e4
  exact ⟨A, c, rfl, hl, hC⟩
/-- An operation of the argument: where its cells lie. -/
theorem op_at {w : World} {A : Option Addr} {n : Nat} {l : List S56} (h : k56.C w A n l) {j : Nat} (hj : j < n) : ∃ b o B c, A = some ⟨b, o, none⟩ ∧
    w.cell? ⟨b, o + j * 5, none⟩ = some (.int .u8 (l.getD j z56).f0) ∧ w.cell? ⟨b, o + j * 5 + 1, none⟩ = some (.int .i64 (l.getD j z56).f1) ∧ w.cell? ⟨b, o + j * 5 + 2, none⟩ = some (.int .i64 (l.getD j z56).f2.f0) ∧ w.cell? ⟨b, o + j * 5 + 3, none⟩ = some (.int .i64 (l.getD j z56).f2.f1) ∧ w.cell? ⟨b, o + j * 5 + 4, none⟩ = some (.slice B (l.getD j z56).f3.length c) ∧ (l.getD j z56).f3.length ≤ c ∧ Kd.C (Kd.int .i64) w B (l.getD j z56).f3.length (l.getD j z56).f3 := by
  obtain ⟨b, o, cs, rfl, _, hK, hc⟩ := C_at z56 (by decide) h j hj
  obtain ⟨B, c, rfl, hl, hC⟩ := k56_open hK
  have e : k56.sz = 5 := rfl
  rw [e] at hc
  exact ⟨b, o, B, c, rfl, hc 0 _ rfl, hc 1 _ rfl, hc 2 _ rfl, hc 3 _ rfl, hc 4 _ rfl, hl, hC⟩

/-- The loop: q operations have been done. -/
def WhRel (w0 : World) (g g9 : Nat) (vp : Value) (ps : List Int) (n : Nat) (v58 : Value) (wr : World) : Prop :=
  ∃ (q : Nat) (vn rp rn : Value) (ns : List Int), q ≤ n ∧ v58 = .int .i64 (q : Int) ∧ WInv ps ns ∧ Mem w0 wr (both w0 g vp vn rp rn ps ns [blk g9 #[rp, rn] 44])
set_option maxRecDepth 100000 in
set_option maxHeartbeats 8000000 in
theorem Wheel_law (A : Option Addr) (c : Nat) (ps : List Int) (start : Int) (B : Option Addr) (cb : Nat) (l : List S56) (w : World) (hr : Kd.C (Kd.int .i64) w A ps.length ps) (hc : ps.length ≤ c) (hr2 : k56.C w B l.length l) (hcb : l.length ≤ cb) (hk : ∀ x ∈ l, 0 ≤ x.f0 ∧ x.f0 ≤ 255) :
    Calls Try.prog 9 #[.slice A ps.length c, .int .i64 start, .slice B l.length cb] w fun e w' => e = .returned (.bool true) ∧ Below w.heap.size w w' := by
  have HM := Aside0.mk (Mem.start w)
  by_cases h20 : 20 < ps.length
  · have c1 : decide ((20 : Int) < (ps.length : Int)) = true := decide_eq_true (by omega)
    have c1' : decide (20 < ps.length) = true := decide_eq_true h20
    clear hr hc h20 hr2 hcb hk
    go_enter Try.func9, Try.ntmps9
    go_wp2_with fail
    refine (wakes_true HM.out).mono ?_
    rintro e w1 ⟨rfl, hM⟩
    have HM1 := Aside0.mk hM
    clear hM
    go_wp2_with fail
    go_ret
    exact ⟨rfl, HM1.out.below⟩
  have c1 : decide ((20 : Int) < (ps.length : Int)) = false := decide_eq_false (by omega)
  have c1' : decide (20 < ps.length) = false := decide_eq_false h20
  by_cases h40 : 40 < l.length
  · have c2 : decide ((40 : Int) < (l.length : Int)) = true := decide_eq_true (by omega)
    have c2' : decide (40 < l.length) = true := decide_eq_true h40
    clear hr hc h20 h40 hr2 hcb hk
    go_enter Try.func9, Try.ntmps9
    go_wp2_with fail
    refine (wakes_true HM.out).mono ?_
    rintro e w1 ⟨rfl, hM⟩
    have HM1 := Aside0.mk hM
    clear hM
    go_wp2_with fail
    go_ret
    exact ⟨rfl, HM1.out.below⟩
  have c2 : decide ((40 : Int) < (l.length : Int)) = false := decide_eq_false (by omega)
  have c2' : decide (40 < l.length) = false := decide_eq_false h40
  have HR := Aside0.mk hr
  have HR2 := Aside0.mk hr2
  have HK := Aside0.mk hk
  have H20 := Aside0.mk h20
  have H40 := Aside0.mk h40
  clear hr h20 h40 hr2 hk
  go_enter Try.func9, Try.ntmps9
  go_wp2_with fail
  refine (wakes_true HM.out).mono ?_
  rintro e w1 ⟨rfl, hM⟩
  have HM1 := Aside0.mk hM
  clear hM
  go_wp2_with fail
  refine (New_any ps start (by have := H20.out; omega) (HM1.out.came HR.out) hc HM1.out).mono ?_
  rintro e w3 (⟨hok, g, vp, vn, rfl, hM⟩ | ⟨hno, rfl, hM⟩)
  case inr =>
    have HM3 := Aside0.mk hM
    have HNO := Aside0.mk (refNew_bad hno)
    clear hM hno
    go_wp2_with fail
    refine (RefNew ps start (by have := H20.out; omega) (HM3.out.came HR.out) hc HM3.out).mono ?_
    rw [HNO.out]
    rintro e w4 ⟨v1, v2, rfl, hM⟩
    obtain ⟨⟨A1, c1, rfl, _⟩, A2, c2, rfl, _⟩ := row2_reads hM (m := 0) rfl
    have HM4 := Aside0.mk hM
    clear hM
    go_wp2_with fail
    go_ret
    exact ⟨rfl, (HM4.out.alloc _).below⟩
  have HOK := Aside0.mk (refNew_good hok.1 hok.2.1 hok.2.2)
  have HI := Aside0.mk (WInv.new hok)
  have HM3 := Aside0.mk hM
  clear hM hok
  go_wp2_with fail
  refine (RefNew ps start (by have := H20.out; omega) (HM3.out.came HR.out) hc HM3.out).mono ?_
  rw [HOK.out]
  rintro e w4 ⟨rp, rn, rfl, hM⟩
  obtain ⟨⟨A1, c1, rfl, _⟩, A2, c2, rfl, _⟩ := row2_reads hM rfl
  generalize ps.map (relOf start) = ns0 at *
  have HM4 := Aside0.mk ((hM.new (.cells #[.slice A1 ps.length c1, .slice A2 ns0.length c2] 44)).c2)
  clear hM
  go_wp2_with fail
  generalize hg9 : w4.heap.size = g9 at *
  go_loopw [58] (fun v58 wr => WhRel w g g9 vp ps l.length v58 wr) (fun i _ => l.length - (intOf i).toNat)
  case atStart => exact ⟨0, vn, _, _, ns0, Nat.zero_le _, rfl, HI.out, HM4.out.c3.p1.c2⟩
  case round =>
    obtain ⟨q, vn', rp, rn, ns, hq, rfl, hI, hM⟩ := hrel
    clear HM4 HM3 HI HM1 HM HOK
    have HI := Aside0.mk hI
    by_cases hlt : q < l.length
    case neg =>
      obtain rfl : q = l.length := by omega
      obtain ⟨⟨Ap, cp, rfl, _⟩, An, cn, rfl, _⟩ := row2_reads hM.drop.drop.drop hI.len
      have hb := hM.c4.get
      have t0 := blk_cell hb 0
      have t1 := blk_cell hb 1
      have HM4 := Aside0.mk hM
      clear hM hb hI
      go_wp2_with fail
      refine (same_true 0 HI.out.len (by have := H20.out; omega) HM4.out).mono ?_
      rintro e w5 ⟨rfl, hM⟩
      have HM5 := Aside0.mk hM
      clear hM
      go_wp2_with fail
      go_ret
      exact ⟨rfl, HM5.out.below⟩
    have hx := HK.out _ (List.getElem_mem hlt)
    rw [show l[q] = l.getD q z56 by rw [List.getD_eq_getElem?_getD, List.getElem?_eq_getElem hlt]; rfl] at hx
    obtain ⟨b, o, Bq, cq, rfl, y0, y1, y2, y3, y4, hcq, hC0⟩ := op_at HR2.out hlt
    have x0 := Kd.cell_heap hM.below.block y0
    have x1 := Kd.cell_heap hM.below.block y1
    have x2 := Kd.cell_heap hM.below.block y2
    have x3 := Kd.cell_heap hM.below.block y3
    have x4 := Kd.cell_heap hM.below.block y4
    clear y0 y1 y2 y3 y4
    obtain ⟨⟨Ap, cp, rfl, _⟩, An, cn, rfl, _⟩ := row2_reads hM.drop.drop.drop hI.len
    generalize l.getD q z56 = x at *
    obtain ⟨k, tk, ⟨lo, hi⟩, L⟩ := x
    simp only at hx x0 x1 x2 x3 x4 hcq hC0
    have hM1 := hM.new (.cells #[.int .u8 k, .int .i64 tk, .int .i64 lo, .int .i64 hi, .slice Bq L.length cq] 56)
    have hb := hM1.get
    have t0 := blk_cell hb 0
    have t1 := blk_cell hb 1
    have t2 := blk_cell hb 2
    have t3 := blk_cell hb 3
    have t4 := blk_cell hb 4
    have HX := Aside0.mk hx
    have HC0 := Aside0.mk hC0
    have HCQ := Aside0.mk hcq
    by_cases hL : 40 < L.length
    · have c5 : decide ((40 : Int) < (L.length : Int)) = true := decide_eq_true (by omega)
      have c5' : decide (40 < L.length) = true := decide_eq_true hL
      have HM5 := Aside0.mk hM1
      clear hM hM1 hb hI hC0 hcq hx hL
      go_wp2_with fail
      go_ret
      exact ⟨rfl, HM5.out.below⟩
    have c5 : decide ((40 : Int) < (L.length : Int)) = false := decide_eq_false (by omega)
    have c5' : decide (40 < L.length) = false := decide_eq_false hL
    have hub := hM1.c5.get
    have z0 := blk_cell hub 0
    have z1 := blk_cell hub 1
    have HMa := Aside0.mk hM1.c1
    have HM0 := Aside0.mk hM
    have HW := Aside0.mk (show wrap64 ((q : Int) + 1) = ((q + 1 : Nat) : Int) by have := H40.out; unfold wrap64; omega)
    have hS := And.intro (And.intro z0 z1) (And.intro t2 t3)
    clear hL hC0 hcq hI hub hM1 hM hb
    generalize hgN : wr.heap.size = gN at *
    by_cases k0 : k % 3 = 0
    · have d0 : (k % 3 == 0) = true := beq_iff_eq.2 k0
      have d0' : decide (k % 3 = 0) = true := decide_eq_true k0
      clear k0
      go_wp2_with fail
      have HLEN := Aside0.mk (show (readyW ps ns lo).length ≤ 1000000 by have := ready_len (ps := ps) (ns := ns) (lo := lo); have := H20.out; omega)
      go_region_held3 (fun W => (W.cell? ⟨g9, 0, none⟩ = some (.slice Ap ps.length cp) ∧ W.cell? ⟨g9, 1, none⟩ = some (.slice An ps.length cn)) ∧ W.cell? ⟨gN, 2, none⟩ = some (.int .i64 lo) ∧ W.cell? ⟨gN, 3, none⟩ = some (.int .i64 hi))
        (first
          | exact hS
          | (go_split_ands; refine ⟨⟨?_, ?_⟩, ?_, ?_⟩ <;> assumption))
        (first
          | (go_at_call 26
             refine (Ready lo hi HI.out.len (by have := H20.out; omega) HMa.out.drew).mono ?_
             rintro e wA ⟨v, rfl, hM⟩
             obtain ⟨Av, cv, rfl, _⟩ := hM.reads
             have hub := hM.c5
             have z0 := blk_cell hub.get 0
             have z1 := blk_cell hub.get 1
             have z2 := blk_cell hub.drop.get 2
             have z3 := blk_cell hub.drop.get 3
             have HMb := Aside0.mk hM.c4
             clear hM hub)
          | (go_at_call 29
             refine (RefReady lo hi HI.out.len (by have := H20.out; omega) HMb.out).mono ?_
             rintro e wB ⟨v, rfl, hM⟩
             obtain ⟨Bv, bv, rfl, hbv, hBv⟩ := hM.reads
             have hub := hM.drop.drop
             have z0 := blk_cell hub.get 0
             have z1 := blk_cell hub.get 1
             have z2 := blk_cell hub.drop.get 2
             have z3 := blk_cell hub.drop.get 3
             have z4 := blk_cell hub.drop.get 1
             have HMc := Aside0.mk hM.drop.c4
             have hav := hM.c4.readsE
             have HAV := Aside0.mk hav
             have HBV := Aside0.mk (And.intro hbv hBv)
             clear hM hub hav hbv hBv)
          | (go_at_call 28
             refine (Same11 HLEN.out HAV.out HBV.out).mono ?_
             rintro e w3 ⟨rfl, ⟨nd, rfl⟩⟩))
      go_wp2_with fail
      refine (same_true tk HI.out.len (by have := H20.out; omega) (HMc.out.drewN nd)).mono ?_
      rintro e w5 ⟨rfl, hM⟩
      have HM5 := Aside0.mk hM
      clear hM
      go_wp2_with fail
      go_roundw
      case rel => exact ⟨q + 1, vn', _, _, ns, by omega, by rw [HW.out], HI.out, HM5.out.c5.drop.drop⟩
      case measure => exact meas HW.out hlt
    by_cases k1 : k % 3 = 1
    · have d0 : (k % 3 == 0) = false := beq_eq_false_iff_ne.2 k0
      have d0' : decide (k % 3 = 0) = false := decide_eq_false k0
      have d1 : (k % 3 == 1) = true := beq_iff_eq.2 k1
      have d1' : decide (k % 3 = 1) = true := decide_eq_true k1
      clear k0 k1
      have z0 := hS.1.1
      have z1 := hS.1.2
      clear hS
      go_wp2_with fail
      refine (RefFire tk lo hi HI.out (by have := H20.out; omega) HMa.out.c3).mono ?_
      rintro e wB ⟨v1, v2, rfl, hM⟩
      obtain ⟨⟨A3, c3, rfl, _⟩, A4, c4, rfl, _⟩ := row2_reads hM (HI.out.fire tk lo hi).len
      have hub := hM.drop
      have z0 := blk_cell hub.get 0
      have z1 := blk_cell hub.get 1
      have z2 := blk_cell hub.drop.get 1
      have z3 := blk_cell hub.drop.get 2
      have z4 := blk_cell hub.drop.get 3
      have f0 := blk_frozen hub.get 0
      have f1 := blk_frozen hub.get 1
      have ne1 : g9 ≠ gN := hub.ne
      have ne2 : g9 < wB.heap.size := hM.drop.lt
      have ne3 : gN < wB.heap.size := hM.drop.drop.lt
      have hp0 := hM.c1.put (cs' := #[.slice A3 ps.length c3, .slice An ps.length cn]) 0 (.slice A3 ps.length c3) rfl
      have hp1 := hp0.put (cs' := #[.slice A3 ps.length c3, .slice A4 ps.length c4]) 1 (.slice A4 ps.length c4) rfl
      have HMc := Aside0.mk (hp1.c2.alloc (.cells #[.slice A3 ps.length c3, .slice A4 ps.length c4] 44))
      clear hM hub hp0 hp1
      go_wp2_with fail
      refine (Fire_any tk lo hi HI.out HMc.out).mono ?_
      rintro e wC ⟨rfl, hM⟩
      have HI2 := Aside0.mk (HI.out.fire tk lo hi)
      generalize fireW ps ns tk lo hi = fw at *
      obtain ⟨ns2, sk, er⟩ := fw
      simp only at hM HI2 ⊢
      have hub := hM.c4
      have z0 := blk_cell hub.get 0
      have z1 := blk_cell hub.get 1
      have z2 := blk_cell hub.drop.get 1
      have e1 : (sk != sk) = false := by simp
      have e2 : (er != er) = false := by simp
      have HM5 := Aside0.mk hM
      clear hM hub HMc f0 f1 ne1 ne2 ne3
      go_wp2_with fail
      refine (same_true tk HI2.out.len (by have := H20.out; omega) HM5.out).mono ?_
      rintro e w5 ⟨rfl, hM⟩
      have HM6 := Aside0.mk hM
      clear hM
      go_wp2_with fail
      go_roundw
      case rel => exact ⟨q + 1, vn', _, _, ns2, by omega, by rw [HW.out], HI2.out, HM6.out.c5.drop⟩
      case measure => exact meas HW.out hlt
    · have d0 : (k % 3 == 0) = false := beq_eq_false_iff_ne.2 k0
      have d0' : decide (k % 3 = 0) = false := decide_eq_false k0
      have d1 : (k % 3 == 1) = false := beq_eq_false_iff_ne.2 k1
      have d1' : decide (k % 3 = 1) = false := decide_eq_false k1
      clear k0 k1
      have z0 := hS.1.1
      have z1 := hS.1.2
      clear hS
      go_wp2_with fail
      refine (RefSet HC0.out HCQ.out (by have := H20.out; omega) HMa.out.c3).mono ?_
      rintro e wB ⟨v1, v2, rfl, hM⟩
      have HI2 := Aside0.mk (HI.out.setW (l := L))
      obtain ⟨⟨A3, c3, rfl, _⟩, A4, c4, rfl, _⟩ := row2_reads hM HI2.out.len
      have hub := hM.drop
      have z0 := blk_cell hub.get 0
      have z1 := blk_cell hub.get 1
      have z2 := blk_cell hub.drop.get 1
      have z3 := blk_cell hub.drop.get 4
      have f0 := blk_frozen hub.get 0
      have f1 := blk_frozen hub.get 1
      have ne1 : g9 ≠ gN := hub.ne
      have ne2 : g9 < wB.heap.size := hM.drop.lt
      have ne3 : gN < wB.heap.size := hM.drop.drop.lt
      have hp0 := hM.c1.put (cs' := #[.slice A3 ps.length c3, .slice An ps.length cn]) 0 (.slice A3 ps.length c3) rfl
      have hp1 := hp0.put (cs' := #[.slice A3 ps.length c3, .slice A4 ps.length c4]) 1 (.slice A4 ps.length c4) rfl
      have HMc := Aside0.mk (hp1.c2.alloc (.cells #[.slice A3 ps.length c3, .slice A4 ps.length c4] 44))
      clear hM hub hp0 hp1
      go_wp2_with fail
      refine (Set_any (HMc.out.came HC0.out) HCQ.out (by have := H20.out; omega) HMc.out).mono ?_
      rintro e wC ⟨rfl, vn2, hM⟩
      generalize setW ps ns L = fw at *
      obtain ⟨ns2, er⟩ := fw
      simp only at hM HI2 ⊢
      have hub := hM.c4
      have z0 := blk_cell hub.get 0
      have z1 := blk_cell hub.get 1
      have z2 := blk_cell hub.drop.get 1
      have e2 : (er != er) = false := by simp
      have HM5 := Aside0.mk hM
      clear hM hub HMc f0 f1 ne1 ne2 ne3
      go_wp2_with fail
      refine (same_true tk HI2.out.len (by have := H20.out; omega) HM5.out).mono ?_
      rintro e w5 ⟨rfl, hM⟩
      have HM6 := Aside0.mk hM
      clear hM
      go_wp2_with fail
      go_roundw
      case rel => exact ⟨q + 1, vn2, _, _, ns2, by omega, by rw [HW.out], HI2.out, HM6.out.c5.drop⟩
      case measure => exact meas HW.out hlt
theorem wf_u8 {x : Int} (h : (Lit.int .u8 x).wf = true) : 0 ≤ x ∧ x ≤ 255 := by
  simp [Lit.wf, IntKind.min, IntKind.max, IntKind.bits, IntKind.signed] at h
  omega
theorem Wheel_row {G G' X Y : Prop} {R : S56 → Prop} (A : Option Addr) (c : Nat) (ps : List Int) (start : Int) (B : Option Addr) (cb : Nat) (l : List S56) (w : World) (hr : Kd.C (Kd.int .i64) w A ps.length ps) (hc : ps.length ≤ c) (hr2 : k56.C w B l.length l) (hcb : l.length ≤ cb) (g : G) (g' : G') (g2 : X ∧ Y ∧ ∀ x ∈ l, (Lit.int .u8 x.f0).wf = true ∧ R x) :
    Calls Try.prog 9 #[.slice A ps.length c, .int .i64 start, .slice B l.length cb] w fun e w' => e = .returned (.bool true) ∧ Below w.heap.size w w' :=
  Wheel_law A c ps start B cb l w hr hc hr2 hcb (fun x hx => wf_u8 (g2.2.2 x hx).1)
end Go.Proofs.Ytjdpogkddoaioaa.QWh
