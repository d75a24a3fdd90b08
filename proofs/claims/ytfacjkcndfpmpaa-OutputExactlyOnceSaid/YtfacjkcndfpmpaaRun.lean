/- The law's run: the same writes on a bank and on the reference. -/
import Derived.Test.YtfacjkcndfpmpaaRunA
namespace Go.Proofs.Ytfacjkcndfpmpaa.QAl
open Go.RowKit Go.Proofs.YtfacjkcndfpmpaaW.PrintWords Go.Proofs.YtfacjkcndfpmpaaW.PrintLast Go.Proofs.YtfacjkcndfpmpaaW.PrintMore Go.Proofs.Ytfacjkcndfpmpaa.Sl
set_option linter.unusedVariables false
set_option linter.unusedSimpArgs false

/-- At the head of a round. -/
def RunRel (w0 : World) (L : List Chunk) (np : Nat) (l : List S46) (b7 g : Nat) (lv : Value) (b i : Value) (wr : World) : Prop :=
  ∃ (k : Nat) (lg vr : Value), k ≤ l.length ∧ i = .int .i64 (k : Int) ∧ b = .bool true ∧
    Mem w0 wr (row w0 k65 65 vr ((runW np (l.take k)).2.map conv) :: blk b7 #[.int .i64 (np : Int), vr] 26 :: bank w0 g lv lg (runW np (l.take k)).1 (runW np (l.take k)).2 L)

set_option maxHeartbeats 4000000 in
set_option maxRecDepth 100000 in
theorem Run.good {w0 w : World} {L : List Chunk} (np : Nat) (A : Option Addr) (c : Nat) (l : List S46) (hM : Mem w0 w L) (hr : k46.C w0 A l.length l) (h1 : np ≤ 8) (h2 : l.length ≤ 200) :
    Calls Try.prog 10 #[.int .i64 (np : Int), .slice A l.length c] w fun e w' => ∃ g lv lg vr, e = .returned (.tuple #[.pointer (some ⟨g, 0, none⟩), .agg #[.int .i64 (np : Int), vr], .bool true]) ∧
      Mem w0 w' (row w0 k65 65 vr ((runW np l).2.map conv) :: bank w0 g lv lg (runW np l).1 (runW np l).2 L) := by
  have HM := Aside0.mk hM
  have HR := Aside0.mk hr
  have c1 : decide ((np : Int) < 0) = false := decide_eq_false (by omega)
  have c2 : decide ((8 : Int) < (np : Int)) = false := decide_eq_false (by omega)
  have c2' : decide (8 < np) = false := decide_eq_false (by omega)
  have c3 : decide ((200 : Int) < (l.length : Int)) = false := decide_eq_false (by omega)
  have c3' : decide (200 < l.length) = false := decide_eq_false (by omega)
  have H2 := Aside0.mk h2
  clear hM hr
  go_enter Try.func10, Try.ntmps10
  go_wp2_with fail
  refine (New.good (w0 := w0) np h1 ((HM.out.new _).new_ (g := w.heap.size + 1) _ (by simp))).mono ?_
  rintro e w1 ⟨g, lv, rfl, hM1⟩
  have HM1 := Aside0.mk hM1
  clear hM1 HM
  go_wp2_with fail
  generalize hb5 : w.heap.size = b5 at HM1 ⊢
  generalize hb7 : b5 + 1 = b7 at HM1 ⊢
  clear hb5 hb7
  go_loopw [10, 44] (fun b i wr => RunRel w0 (blk b5 #[.int .i64 0, .slice none 0 0] 26 :: L) np l b7 g lv b i wr) (fun _ i _ => l.length - (intOf i).toNat)
  case atStart => exact ⟨0, .slice none 0 0, .slice none 0 0, Nat.zero_le _, rfl, rfl, HM1.out.p3.row_nil k65 65⟩
  case round =>
    obtain ⟨k, lg, vr, hk, rfl, rfl, hM⟩ := hrel
    have hs1 := runW_len np (l.take k)
    have hs2 : k < l.length → runW np (l.take (k + 1)) = stepW (runW np (l.take k)) (l.getD k z46) := fun h => by
      rw [runW_succ np l k h, List.getD_eq_getElem?_getD, List.getElem?_eq_getElem h, Option.getD_some]
    have hs3 : k = l.length → runW np (l.take k) = runW np l := fun h => by rw [h, List.take_length]
    have HS2 := Aside0.mk hs2
    have HS3 := Aside0.mk hs3
    have hn : np = (runW np (l.take k)).1.length := hs1.1.symm
    have hlk : (runW np (l.take k)).2.length ≤ k := by
      have := hs1.2
      rw [List.length_take] at this
      omega
    clear hs1 hs2 hs3
    generalize runW np (l.take k) = s at *
    have HN := Aside0.mk hn
    have HLK := Aside0.mk hlk
    clear hn hlk
    by_cases hlt : k < l.length
    · obtain ⟨ba, o, cs, rfl, _, hK, hc⟩ := C_at z46 (by decide) (hM.came HR.out) k hlt
      generalize l.getD k z46 = a at *
      obtain rfl := k46_open hK
      have x0 : wr.cell? ⟨ba, o + k * 3, none⟩ = some (.int .i64 a.f0) := hc 0 _ rfl
      have x1 : wr.cell? ⟨ba, o + k * 3 + 1, none⟩ = some (.int .i64 a.f1) := hc 1 _ rfl
      have x2 : wr.cell? ⟨ba, o + k * 3 + 2, none⟩ = some (.int .i16 a.f2) := hc 2 _ rfl
      clear hc hK
      obtain ⟨Av, cv, rfl, _, _⟩ := hM.readsN (n := s.2.length) (by simp)
      have hb := hM.drop.get
      have y0 : wr.cell? ⟨b7, 0, none⟩ = some (.int .i64 (np : Int)) := blk_cell hb 0
      have y1 : wr.cell? ⟨b7, 1, none⟩ = some (.slice Av s.2.length cv) := blk_cell hb 1
      have lb7 := hM.drop.lt
      have HMr := Aside0.mk hM
      clear hM hb
      go_wp2_with fail
      have hF : trickleref49_Write.f 1 (np : Int) (s.2.map conv) a.f0 a.f1 a.f2 = some ((np : Int), (stepW s a).2.map conv, wrB s.1 s.2 a.f0 a.f1) := by
        have := refWrite (levels := s.1) (log := s.2) a.f0 a.f1 a.f2 (by have := HLK.out; have := H2.out; omega)
        rw [← HN.out] at this
        exact this
      have hM4 := (HMr.out.new (.cells #[.int .i64 a.f0, .int .i64 a.f1, .int .i16 a.f2] 46)).p1
      obtain ⟨T, hT, hclose⟩ := hM4.row_taken
      refine (trickleref49_Write.calls 1 _ T _ _ _ _ _ _ _ _ w0 _ hM4.below hT hF).mono ?_
      rintro e w2 ⟨v1, rfl, hr2, hb2, hk2⟩
      have hM5 := hclose w2 v1 _ hb2 hk2 hr2
      generalize wr.heap.size = b12 at *
      obtain ⟨A5, c5, rfl, _, _⟩ := hM5.readsN (n := (stepW s a).2.length) (by simp)
      clear hF hM4 hT hclose hr2 hb2 hk2 x0 x1 x2 y0 y1 lb7 HMr
      have hb := hM5.drop.get
      have z0 : w2.cell? ⟨b12, 0, none⟩ = some (.int .i64 a.f0) := blk_cell hb 0
      have z1 : w2.cell? ⟨b12, 1, none⟩ = some (.int .i64 a.f1) := blk_cell hb 1
      have z2 : w2.cell? ⟨b12, 2, none⟩ = some (.int .i16 a.f2) := blk_cell hb 2
      have lb := hM5.p1.lt
      have HM5 := Aside0.mk hM5
      clear hM5 hb
      go_wp2_with fail
      have hM6 := HM5.out.new (.cells #[.int .i64 (np : Int), .slice A5 (stepW s a).2.length c5] 26)
      generalize w2.alloc (.cells #[.int .i64 (np : Int), .slice A5 (stepW s a).2.length c5] 26) = w3 at *
      generalize w2.heap.size = b13 at *
      clear z0 z1 z2 lb HM5
      have hb := hM6.p2.get
      have hb' := hM6.get
      have z0 : w3.cell? ⟨b12, 0, none⟩ = some (.int .i64 a.f0) := blk_cell hb 0
      have z1 : w3.cell? ⟨b12, 1, none⟩ = some (.int .i64 a.f1) := blk_cell hb 1
      have z2 : w3.cell? ⟨b12, 2, none⟩ = some (.int .i16 a.f2) := blk_cell hb 2
      have z3 : w3.cell? ⟨b13, 1, none⟩ = some (.slice A5 (stepW s a).2.length c5) := blk_cell hb' 1
      have HM6 := Aside0.mk hM6
      clear hM6 hb hb'
      go_region_held3 (fun W => W.cell? ⟨b12, 0, none⟩ = some (.int .i64 a.f0) ∧ W.cell? ⟨b12, 1, none⟩ = some (.int .i64 a.f1) ∧ W.cell? ⟨b12, 2, none⟩ = some (.int .i16 a.f2) ∧ W.cell? ⟨b13, 1, none⟩ = some (.slice A5 (stepW s a).2.length c5))
        (first
          | exact ⟨z0, z1, z2, z3⟩
          | (go_split_ands; exact ⟨t0, t1, t2, t3⟩))
        (first
          | (go_at_call 19; refine (Write (s := s) a.f0 a.f1 a.f2 HM6.out.drew.c4 (by have := HN.out; omega) (by have := HLK.out; have := H2.out; omega)).mono ?_; rintro e w4 ⟨lg4, rfl, hM7⟩
             have hM8 := Mem.u4 (L := bank w0 g lv lg4 (stepW s a).1 (stepW s a).2 (blk b5 #[.int .i64 0, .slice none 0 0] 26 :: L)) hM7
             have hb := hM8.p2.get
             have hb' := hM8.get
             have t0 : w4.cell? ⟨b12, 0, none⟩ = some (.int .i64 a.f0) := blk_cell hb 0
             have t1 : w4.cell? ⟨b12, 1, none⟩ = some (.int .i64 a.f1) := blk_cell hb 1
             have t2 : w4.cell? ⟨b12, 2, none⟩ = some (.int .i16 a.f2) := blk_cell hb 2
             have t3 : w4.cell? ⟨b13, 1, none⟩ = some (.slice A5 (stepW s a).2.length c5) := blk_cell hb' 1
             have HM8 := Aside0.mk hM8
             clear hM7 hM8 hb hb')
          | (go_at_call 18; refine (Next HM8.out.c4).mono ?_; rintro e w5 ⟨rfl, rfl⟩))
      clear t0 t1 t2 t3 z0 z1 z2 z3 HM6
      have hb := HM8.out.p3.get
      have hb' := HM8.out.get
      have t0 : w4.cell? ⟨b13, 0, none⟩ = some (.int .i64 (np : Int)) := blk_cell hb' 0
      have t1 : w4.cell? ⟨b13, 1, none⟩ = some (.slice A5 (stepW s a).2.length c5) := blk_cell hb' 1
      have t2 : w4.cell? ⟨b7, 0, none⟩ = some (.int .i64 (np : Int)) := blk_cell hb 0
      have t3 : w4.cell? ⟨b7, 1, none⟩ = some (.slice Av s.2.length cv) := blk_cell hb 1
      have t4 := blk_frozen hb 0
      have t5 := blk_frozen hb 1
      clear hb hb'
      have hM9 := ((HM8.out.p3.put (cs' := #[.int .i64 (np : Int), .slice Av s.2.length cv]) 0 (.int .i64 (np : Int)) rfl).put (cs' := #[.int .i64 (np : Int), .slice A5 (stepW s a).2.length c5]) 1 (.slice A5 (stepW s a).2.length c5) rfl)
      have hM10 := hM9.p1.drop.p2.drop.p1
      have HM10 := Aside0.mk hM10
      clear hM9 hM10 HM8
      go_wp2
      go_roundw
      case rel =>
        refine ⟨k + 1, lg4, .slice A5 (stepW s a).2.length c5, by omega, by go_num, rfl, ?_⟩
        rw [HS2.out hlt]
        exact HM10.out
      case measure => simp [intOf]; omega
    · have hkl : k = l.length := by omega
      have hse := HS3.out hkl
      subst hkl
      clear hlt
      have HSE := Aside0.mk hse
      clear hse
      obtain ⟨Av, cv, rfl, _, _⟩ := hM.readsN (n := s.2.length) (by simp)
      have hb := hM.drop.get
      have hb' : wr.heap[b5]? = some (.cells #[.int .i64 0, .slice none 0 0] 26 (0, 0)) := hM.c5.get
      have hne : b7 ≠ b5 := (hM.drop.p1.drop.p1.drop.p1.drop : Mem w0 wr (blk b7 _ 26 :: blk b5 _ 26 :: L)).ne
      have hne' : b5 ≠ b7 := fun h => hne h.symm
      have y0 : wr.cell? ⟨b7, 0, none⟩ = some (.int .i64 (np : Int)) := blk_cell hb 0
      have y1 : wr.cell? ⟨b7, 1, none⟩ = some (.slice Av s.2.length cv) := blk_cell hb 1
      have y2 : wr.cell? ⟨b5, 0, none⟩ = some (.int .i64 0) := blk_cell hb' 0
      have y3 : wr.cell? ⟨b5, 1, none⟩ = some (.slice none 0 0) := blk_cell hb' 1
      have y4 := blk_frozen hb' 0
      have y5 := blk_frozen hb' 1
      have hM2 := ((Mem.put (g := b5) (L := L ++ [row w0 k65 65 (.slice Av s.2.length cv) (s.2.map conv), blk b7 #[.int .i64 (np : Int), .slice Av s.2.length cv] 26, blk g #[lv, lg] 64, row w0 (Kd.int .i16) 35 lv s.1, row w0 k37 37 lg s.2]) hM.c5 (cs' := #[.int .i64 (np : Int), .slice none 0 0]) 0 (.int .i64 (np : Int)) rfl).put (cs' := #[.int .i64 (np : Int), .slice Av s.2.length cv]) 1 (.slice Av s.2.length cv) rfl)
      have HM2 := Aside0.mk hM2
      have hb2 := Aside0.mk hM2.get
      clear hb hb' hM hM2
      go_wp2_with fail
      go_region
      all_goals go_wp2
      refine bodyPost_ret (results_tct rfl _ _ b5 26 _ (0, 0) _ rfl hb2.out Try.underlying26 rfl (by kernel_rfl)) rfl ?_
      rw [← HSE.out]
      exact ⟨g, lv, lg, .slice Av s.2.length cv, rfl, (HM2.out.drop.u5.p1.drop : Mem w0 _ (row w0 k65 65 _ _ :: bank w0 g lv lg s.1 s.2 L)).drew⟩

set_option maxHeartbeats 4000000 in
theorem Run.bad {w0 w : World} {L : List Chunk} (ports : Int) (A : Option Addr) (c : Nat) (l : List S46) (hM : Mem w0 w L) (h : ports < 0 ∨ 8 < ports ∨ 200 < l.length) :
    Calls Try.prog 10 #[.int .i64 ports, .slice A l.length c] w fun e w' => e = .returned (.tuple #[.pointer none, .agg #[.int .i64 ports, .slice none 0 0], .bool true]) ∧ Mem w0 w' L := by
  have HM := Aside0.mk hM
  clear hM
  have fin : ∀ (g : Nat) (w1 : World) (L' : List Chunk), True := fun _ _ _ => trivial
  clear fin
  by_cases hp : ports < 0 ∨ 8 < ports
  · have HP := Aside0.mk hp
    clear h hp
    go_enter Try.func10, Try.ntmps10
    go_wp2_with fail
    refine (New.bad ports HP.out).mono ?_
    rintro e w1 ⟨rfl, rfl⟩
    have HM1 := ((HM.out.new (.cells #[.int .i64 0, .slice none 0 0] 26)).new_ (g := w.heap.size + 1) (.cells #[.int .i64 ports, .slice none 0 0] 26) (by simp))
    generalize hw : ((w.alloc (.cells #[.int .i64 0, .slice none 0 0] 26)).alloc (.cells #[.int .i64 ports, .slice none 0 0] 26)) = w1 at HM1 ⊢
    generalize hb5 : w.heap.size = b5 at HM1 ⊢
    generalize hb7 : b5 + 1 = b7 at HM1 ⊢
    clear hw hb5 hb7 HM
    have hb := HM1.get
    have hb' := HM1.p1.get
    have hne := HM1.ne
    have hne' : b5 ≠ b7 := fun h => hne h.symm
    have y0 : w1.cell? ⟨b7, 0, none⟩ = some (.int .i64 ports) := blk_cell hb 0
    have y1 : w1.cell? ⟨b7, 1, none⟩ = some (.slice none 0 0) := blk_cell hb 1
    have y2 : w1.cell? ⟨b5, 0, none⟩ = some (.int .i64 0) := blk_cell hb' 0
    have y3 : w1.cell? ⟨b5, 1, none⟩ = some (.slice none 0 0) := blk_cell hb' 1
    have y4 := blk_frozen hb' 0
    have y5 := blk_frozen hb' 1
    have hM2 := ((HM1.p1.put (cs' := #[.int .i64 ports, .slice none 0 0]) 0 (.int .i64 ports) rfl).put (cs' := #[.int .i64 ports, .slice none 0 0]) 1 (.slice none 0 0) rfl)
    have HM2 := Aside0.mk hM2
    have hb2 := Aside0.mk hM2.get
    clear hb hb' HM1 hM2
    go_wp2_with fail
    go_region
    all_goals go_wp2
    refine bodyPost_ret (results_tct rfl _ _ b5 26 _ (0, 0) _ rfl hb2.out Try.underlying26 rfl (by kernel_rfl)) rfl ?_
    exact ⟨rfl, HM2.out.drop.drop.drew⟩
  · have hl : 200 < l.length := by omega
    obtain ⟨np, rfl⟩ := Int.eq_ofNat_of_zero_le (show 0 ≤ ports by omega)
    have h8 : np ≤ 8 := by omega
    have c1 : decide ((np : Int) < 0) = false := decide_eq_false (by omega)
    have c2 : decide ((8 : Int) < (np : Int)) = false := decide_eq_false (by omega)
    have c2' : decide (8 < np) = false := decide_eq_false (by omega)
    have c3 : decide ((200 : Int) < (l.length : Int)) = true := decide_eq_true (by omega)
    have c3' : decide (200 < l.length) = true := decide_eq_true (by omega)
    clear h hp
    go_enter Try.func10, Try.ntmps10
    go_wp2_with fail
    refine (New.good (w0 := w0) np h8 ((HM.out.new _).new_ (g := w.heap.size + 1) _ (by simp))).mono ?_
    rintro e w1 ⟨g, lv, rfl, hM1⟩
    have HM1 : Mem w0 w1 (blk (w.heap.size + 1) #[.int .i64 (np : Int), .slice none 0 0] 26 :: blk w.heap.size #[.int .i64 0, .slice none 0 0] 26 :: L) := hM1.drop.drop.drop
    clear hM1 HM
    generalize hb5 : w.heap.size = b5 at HM1 ⊢
    generalize hb7 : b5 + 1 = b7 at HM1 ⊢
    clear hb5 hb7
    have hb := HM1.get
    have hb' := HM1.p1.get
    have hne := HM1.ne
    have hne' : b5 ≠ b7 := fun h => hne h.symm
    have y0 : w1.cell? ⟨b7, 0, none⟩ = some (.int .i64 (np : Int)) := blk_cell hb 0
    have y1 : w1.cell? ⟨b7, 1, none⟩ = some (.slice none 0 0) := blk_cell hb 1
    have y2 : w1.cell? ⟨b5, 0, none⟩ = some (.int .i64 0) := blk_cell hb' 0
    have y3 : w1.cell? ⟨b5, 1, none⟩ = some (.slice none 0 0) := blk_cell hb' 1
    have y4 := blk_frozen hb' 0
    have y5 := blk_frozen hb' 1
    have hM2 := ((HM1.p1.put (cs' := #[.int .i64 (np : Int), .slice none 0 0]) 0 (.int .i64 (np : Int)) rfl).put (cs' := #[.int .i64 (np : Int), .slice none 0 0]) 1 (.slice none 0 0) rfl)
    have HM2 := Aside0.mk hM2
    have hb2 := Aside0.mk hM2.get
    clear hb hb' HM1 hM2
    go_wp2_with fail
    go_region
    all_goals go_wp2
    refine bodyPost_ret (results_tct rfl _ _ b5 26 _ (0, 0) _ rfl hb2.out Try.underlying26 rfl (by kernel_rfl)) rfl ?_
    exact ⟨rfl, HM2.out.drop.drop.drew⟩
end Go.Proofs.Ytfacjkcndfpmpaa.QAl
