/- What the methods of timer.Wheel do to its blocks. -/
import Derived.Test.YtjdpogkddoaioaaQWhx5
import Derived.Test.YtjdpogkddoaioaaSl
namespace Go.Proofs.Ytjdpogkddoaioaa.QWh
open Go.RowKit Go.Proofs.YtjdpogkddoaioaaW.PrintWords Go.Proofs.YtjdpogkddoaioaaW.PrintLast Go.Proofs.YtjdpogkddoaioaaW.PrintMore Go.Proofs.Ytjdpogkddoaioaa.Sl
set_option linter.unusedVariables false
set_option linter.unusedSimpArgs false

theorem info2' : (Try.prog.info? 2).map (fun i => (i.zero, i.size, i.bytes)) = some (some (.int .i64 0), 1, 8) := by kernel_rfl

/-- A wheel: its block, its periods' row and its releases' row. -/
@[reducible] def wheel (w0 : World) (g : Nat) (vp vn : Value) (ps ns : List Int) (L : List Chunk) : List Chunk :=
  blk g #[vp, vn] 67 :: row w0 (Kd.int .i64) 3 vp ps :: row w0 (Kd.int .i64) 2 vn ns :: L

theorem row_of_made {w0 w : World} {L : List Chunk} (h : Mem w0 w L) (m : Nat) (hm : m ≤ 9223372036854775807) :
    Mem w0 (w.alloc (.cells (madeCells #[.int .i64 0] m) 2)) (row w0 (Kd.int .i64) 2 (.slice (some ⟨w.heap.size, 0, none⟩) m m) (List.replicate m 0) :: L) := by
  refine h.row_made (d := Kd.int .i64) (e := 2) (ok := fun _ => True) (below_alloc (Below.refl _ _) _) ?_
  exact Kd.R_of_own (enc := Value.int .i64) (h1 := fun _ => rfl) (by rw [List.length_replicate]; exact own_made w w.heap.size 2 .i64 m (Nat.le_refl _) hm) (fun _ _ => trivial)

theorem Clone3 {w0 w : World} {L : List Chunk} {A : Option Addr} {n c : Nat} {xs : List Int} (hC : Kd.C (Kd.int .i64) w A n xs) (hn : n = xs.length) (hc : xs.length ≤ c) (hl : xs.length ≤ 1000) (hM : Mem w0 w L) :
    Calls Try.prog 38 #[.slice A n c] w fun e w' => ∃ v, e = .returned v ∧ Mem w0 w' (row w0 (Kd.int .i64) 3 v xs :: L) := by
  subst hn
  refine (slices_Clone_int_int.calls A c xs xs w hC hc (by unfold slices_Clone_int_int.f; rw [if_pos (by omega)])).mono ?_
  rintro e w' ⟨v, rfl, hR, hb⟩
  exact ⟨v, rfl, hM.row_made hb hR⟩
theorem Clone2 {w0 w : World} {L : List Chunk} {A : Option Addr} {n c : Nat} {xs : List Int} (hC : Kd.C (Kd.int .i64) w A n xs) (hn : n = xs.length) (hc : xs.length ≤ c) (hl : xs.length ≤ 1000) (hM : Mem w0 w L) :
    Calls Try.prog 39 #[.slice A n c] w fun e w' => ∃ v, e = .returned v ∧ Mem w0 w' (row w0 (Kd.int .i64) 2 v xs :: L) := by
  subst hn
  refine (slices_Clone_int64_int64.calls A c xs xs w hC hc (by unfold slices_Clone_int64_int64.f; rw [if_pos (by omega)])).mono ?_
  rintro e w' ⟨v, rfl, hR, hb⟩
  exact ⟨v, rfl, hM.row_made hb hR⟩

theorem cell_at {w0 w : World} {L : List Chunk} (hM : Mem w0 w L) {A : Option Addr} {l : List Int} {j : Nat} (hC : Kd.C (Kd.int .i64) w A l.length l) (hl : j < l.length) :
    ∃ b o, A = some ⟨b, o, none⟩ ∧ w.cell? ⟨b, o + j, none⟩ = some (.int .i64 (l.getD j 0)) := by
  obtain ⟨b, o, cs, rfl, _, hK, hc⟩ := C_at (0 : Int) (by decide) hC j hl
  have hK' : cs = [.int .i64 (l.getD j 0)] := hK
  have h0 := hc 0 (.int .i64 (l.getD j 0)) (by rw [hK']; rfl)
  have h1 : (Kd.int .i64).sz = 1 := rfl
  rw [h1, Nat.mul_one] at h0
  exact ⟨b, o, rfl, h0⟩

theorem wheel_join {w0 w w' : World} {g : Nat} {vp vn : Value} {ps ns : List Int} {L : List Chunk} (h : Mem w0 w L) (h' : Mem w w' (wheel w g vp vn ps ns [])) : Mem w0 w' (wheel w0 g vp vn ps ns L) :=
  h.join h' (.cons (Lowers.refl _) (.cons (Lowers.row h.size) (.cons (Lowers.row h.size) .nil)))
theorem wheel_cells {w0 w : World} {g : Nat} {vp vn : Value} {ps ns : List Int} {L : List Chunk} (hM : Mem w0 w (wheel w0 g vp vn ps ns L)) :
    w.cell? ⟨g, 0, none⟩ = some vp ∧ w.cell? ⟨g, 1, none⟩ = some vn ∧ w.frozen? ⟨g, 1, none⟩ = false ∧ (∃ A c, vp = .slice A ps.length c) ∧ (∃ A c, vn = .slice A ns.length c) := by
  have hb := hM.get
  obtain ⟨A, c, rfl, _⟩ := hM.drop.reads
  obtain ⟨A', c', rfl, _⟩ := hM.drop.drop.reads
  exact ⟨blk_cell hb 0, blk_cell hb 1, blk_frozen hb 1, ⟨A, c, rfl⟩, ⟨A', c', rfl⟩⟩
theorem getD_mem {l : List Int} {j : Nat} (h : j < l.length) : l.getD j 0 ∈ l := by
  rw [List.getD_eq_getElem?_getD, List.getElem?_eq_getElem h]; exact List.getElem_mem h

def okP (p : Int) : Prop := p = 0 ∨ 1 ≤ p ∧ p ≤ 32767
def relOf (start p : Int) : Int := if p = 0 then 0 else start + p
def news (ps : List Int) (start : Int) (j : Nat) : List Int := (ps.take j).map (relOf start) ++ List.replicate (ps.length - j) 0
theorem news_len {ps : List Int} {start : Int} {j : Nat} (h : j ≤ ps.length) : (news ps start j).length = ps.length := by
  unfold news; rw [List.length_append, List.length_map, List.length_take, List.length_replicate]; omega
theorem news_step {ps : List Int} {start : Int} {j : Nat} (h : j < ps.length) : (news ps start j).set j (relOf start (ps.getD j 0)) = news ps start (j + 1) := by
  unfold news
  have e : ((ps.take j).map (relOf start)).length = j := by rw [List.length_map, List.length_take]; omega
  obtain ⟨m, hm⟩ : ∃ m, ps.length - j = m + 1 := ⟨ps.length - j - 1, by omega⟩
  rw [hm, List.replicate_succ, List.set_append, if_neg (by omega), e, Nat.sub_self, show ps.length - (j + 1) = m by omega, List.take_succ_eq_append_getElem h, List.map_append, List.append_assoc, List.getD_eq_getElem?_getD, List.getElem?_eq_getElem h]
  rfl
theorem news_zero {ps : List Int} {start : Int} {j : Nat} (h : j < ps.length) (h0 : ps.getD j 0 = 0) : news ps start (j + 1) = news ps start j := by
  rw [← news_step h]
  have e : (news ps start j)[j]? = some 0 := by
    unfold news
    have e : ((ps.take j).map (relOf start)).length = j := by rw [List.length_map, List.length_take]; omega
    rw [List.getElem?_append_right (by omega), e, Nat.sub_self, List.getElem?_replicate, if_pos (by omega)]
  rw [h0]
  apply List.ext_getElem?
  intro i
  rw [List.getElem?_set]
  split
  · rename_i hi; subst hi; rw [e]; unfold relOf; rw [if_pos rfl]
    rw [if_pos (by rw [news_len (by omega)]; omega)]
  · rfl
theorem news_all (ps : List Int) (start : Int) : news ps start ps.length = ps.map (relOf start) := by
  unfold news; rw [Nat.sub_self, List.take_length]; simp
/-- The releases after j periods. -/
def NewRel (w : World) (g : Nat) (vp vn : Value) (ps : List Int) (start : Int) (v26 : Value) (wr : World) : Prop :=
  ∃ j : Nat, j ≤ ps.length ∧ v26 = .int .i64 (j : Int) ∧ Mem w wr (wheel w g vp vn ps (news ps start j) []) ∧ ∀ i, i < j → okP (ps.getD i 0)
theorem first_good {p start : Int} (h0 : 0 ≤ start) (h1 : start ≤ 1099511627776) (hp : 1 ≤ p ∧ p ≤ 32767) : timer_First.f p start = some (start + p, 0) := by
  unfold timer_First.f timer_period.f
  rw [if_pos (by omega), decide_eq_true hp.2, Option.bind_some, if_pos rfl, if_neg (by omega), if_neg (by omega)]
  unfold wrap64
  rw [show (start + p + 9223372036854775808) % 18446744073709551616 - 9223372036854775808 = start + p by omega]
theorem first_bad {p start : Int} (hp : ¬ (1 ≤ p ∧ p ≤ 32767)) : timer_First.f p start = some (0, 1) := by
  unfold timer_First.f timer_period.f
  by_cases h : p ≥ 1
  · rw [if_pos h, decide_eq_false (show ¬ p ≤ 32767 by omega)]; rfl
  · rw [if_neg h]; rfl
theorem okSteps {ps : List Int} {j : Nat} (h : ∀ i, i < j → okP (ps.getD i 0)) (hj : okP (ps.getD j 0)) : ∀ i, i < j + 1 → okP (ps.getD i 0) := by
  intro i hi
  by_cases e : i = j
  · rw [e]; exact hj
  · exact h i (by omega)
/-- What New answers. -/
def NewPost (w : World) (ps : List Int) (start : Int) (e : Ending) (w' : World) : Prop :=
  (∃ g vp vn, e = .returned (.tuple #[.pointer (some ⟨g, 0, none⟩), .int .i64 0]) ∧ Mem w w' (wheel w g vp vn ps (ps.map (relOf start)) []) ∧ ∀ p ∈ ps, okP p) ∨
  (e = .returned (.tuple #[.pointer none, .int .i64 1]) ∧ Below w.heap.size w w' ∧ ∃ p ∈ ps, ¬ okP p)
set_option maxHeartbeats 4000000 in
theorem New.calls {w : World} {A : Option Addr} {c : Nat} (ps : List Int) (start : Int) (hl : ps.length ≤ 1000) (hC : Kd.C (Kd.int .i64) w A ps.length ps) (hc : ps.length ≤ c) (h0 : 0 ≤ start) (h1 : start ≤ 1099511627776) :
    Calls Try.prog 21 #[.slice A ps.length c, .int .i64 start] w fun e w' => NewPost w ps start e w' := by
  have hmk := print_make (P := Try.prog) 34 2 .i64 8 Try.underlying34 info2' (by decide) ps.length (by omega)
  have c1 : decide (start < 0) = false := decide_eq_false (by omega)
  have c2 : decide ((1099511627776 : Int) < start) = false := decide_eq_false (by omega)
  have HC := Aside0.mk hC
  clear hC
  go_enter Try.func21, Try.ntmps21
  go_wp2_with fail
  go_region_held3 (fun W => True)
    (first | exact trivial)
    (first
      | (go_at_call 38
         refine (Clone3 (w0 := w) (L := []) (xs := ps) (Kd.C_drew HC.out) rfl hc hl (Mem.start w).drew).mono ?_
         rintro e w1 ⟨v1, rfl, hM1⟩
         obtain ⟨A1, cc1, rfl, _⟩ := hM1.readsN (n := ps.length) rfl
         have HM1 := Aside0.mk hM1
         clear hM1)
      | (go_at_call 38
         have hM2 := row_of_made (Mem.start w) ps.length (by omega)
         have hC2 := Kd.C_below HC.out (below_drew (below_alloc (Below.refl w.heap.size w) (.cells (madeCells #[.int .i64 0] ps.length) 2)))
         refine (Clone3 (w0 := w) (xs := ps) hC2 rfl hc hl hM2.drew).mono ?_
         rintro e w1 ⟨v1, rfl, hM1⟩
         obtain ⟨A1, cc1, rfl, _⟩ := hM1.readsN (n := ps.length) rfl
         have HM1 := Aside0.mk hM1
         clear hM1 hM2 hC2))
  · have HM2 := Aside0.mk (((row_of_made HM1.out ps.length (by omega)).p1.new_ (g := w1.heap.size + 1) (.cells #[.slice A1 ps.length cc1, .slice (some ⟨w1.heap.size, 0, none⟩) ps.length ps.length] 67) (by simp)))
    clear HM1
    go_wp2_with fail
    go_loopw [26] (fun v26 wr => NewRel w (w1.heap.size + 1) (.slice A1 ps.length cc1) (.slice (some ⟨w1.heap.size, 0, none⟩) ps.length ps.length) ps start v26 wr) (fun i _ => ps.length - (intOf i).toNat)
    case atStart => exact ⟨0, Nat.zero_le _, rfl, HM2.out, fun i hi => absurd hi (by omega)⟩
    case round =>
      obtain ⟨j, hj, rfl, hM, hok⟩ := hrel
      clear HM2
      by_cases hlt : j < ps.length
      · obtain ⟨b, o, rfl, x0⟩ := cell_at hM (hM.came HC.out) hlt
        have hx := wheel_cells hM
        have y1 := hx.2.1
        obtain ⟨z0, z1⟩ := hM.p2.row_cell (0 : Int) j (by rw [news_len hj]; exact hlt)
        have HST := Aside0.mk (news_step (start := start) hlt)
        have HSZ := Aside0.mk (news_zero (start := start) hlt)
        have HIN := Aside0.mk (getD_mem hlt)
        have HOKS := Aside0.mk (fun h => okSteps hok h)
        have hgl := hM.lt
        have HM3 := Aside0.mk hM
        clear hM hx hok
        generalize ps.getD j 0 = p at *
        by_cases hp0 : p = 0
        · subst hp0
          have HZZ := Aside0.mk (HSZ.out rfl)
          go_wp2_with fail
          go_roundw
          case rel => exact ⟨j + 1, by omega, by go_num, by rw [HZZ.out]; exact HM3.out, HOKS.out (.inl rfl)⟩
          case measure => simp [intOf]; omega
        · have q1 : (p == 0) = false := beq_eq_false_iff_ne.2 hp0
          have q2 : decide (p = 0) = false := decide_eq_false hp0
          by_cases hpr : 1 ≤ p ∧ p ≤ 32767
          · have HF := Aside0.mk (first_good h0 h1 hpr)
            have er : relOf start p = start + p := by unfold relOf; rw [if_neg hp0]
            rw [er] at HST
            have HPR := Aside0.mk hpr
            clear hp0 hpr er
            go_wp2_with (go_at_call 14; (with_reducible refine (timer_First.calls p start _ _ _ HF.out).mono ?_); rintro e w' ⟨rfl, ⟨nd, rfl⟩⟩)
            have hm := (HM3.out.drewN nd).p2.row_put j (start + p)
            rw [HST.out] at hm
            go_roundw
            case rel => exact ⟨j + 1, by omega, by go_num, hm.q2, HOKS.out (.inr HPR.out)⟩
            case measure => simp [intOf]; omega
          · have HF := Aside0.mk (first_bad (start := start) hpr)
            have HPR := Aside0.mk (show ¬ okP p from fun h => h.elim hp0 hpr)
            clear hp0 hpr
            go_wp2_with (go_at_call 14; (with_reducible refine (timer_First.calls p start _ _ _ HF.out).mono ?_); rintro e w' ⟨rfl, ⟨nd, rfl⟩⟩)
            go_ret2
            exact .inr ⟨rfl, (HM3.out.drewN nd).below, ⟨p, HIN.out, HPR.out⟩⟩
      · have hjl : j = ps.length := by omega
        subst hjl
        clear hlt
        have HM3 := Aside0.mk hM
        have HOK := Aside0.mk hok
        clear hM hok
        go_wp2_with fail
        go_ret2
        have hm := HM3.out
        rw [news_all] at hm
        refine .inl ⟨_, _, _, rfl, hm, fun p hp => ?_⟩
        obtain ⟨i, hi, rfl⟩ := List.getElem_of_mem hp
        have := HOK.out i hi
        rwa [List.getD_eq_getElem?_getD, List.getElem?_eq_getElem hi] at this
  · have HM2 := Aside0.mk ((HM1.out.new (.cells #[.slice A1 ps.length cc1, .slice (some ⟨w.heap.size, 0, none⟩) ps.length ps.length] 67)))
    clear HM1
    go_wp2_with fail
    go_loopw [26] (fun v26 wr => NewRel w (w1.heap.size) (.slice A1 ps.length cc1) (.slice (some ⟨w.heap.size, 0, none⟩) ps.length ps.length) ps start v26 wr) (fun i _ => ps.length - (intOf i).toNat)
    case atStart => exact ⟨0, Nat.zero_le _, rfl, HM2.out, fun i hi => absurd hi (by omega)⟩
    case round =>
      obtain ⟨j, hj, rfl, hM, hok⟩ := hrel
      clear HM2
      by_cases hlt : j < ps.length
      · obtain ⟨b, o, rfl, x0⟩ := cell_at hM (hM.came HC.out) hlt
        have hx := wheel_cells hM
        have y1 := hx.2.1
        obtain ⟨z0, z1⟩ := hM.p2.row_cell (0 : Int) j (by rw [news_len hj]; exact hlt)
        have HST := Aside0.mk (news_step (start := start) hlt)
        have HSZ := Aside0.mk (news_zero (start := start) hlt)
        have HIN := Aside0.mk (getD_mem hlt)
        have HOKS := Aside0.mk (fun h => okSteps hok h)
        have hgl := hM.lt
        have HM3 := Aside0.mk hM
        clear hM hx hok
        generalize ps.getD j 0 = p at *
        by_cases hp0 : p = 0
        · subst hp0
          have HZZ := Aside0.mk (HSZ.out rfl)
          go_wp2_with fail
          go_roundw
          case rel => exact ⟨j + 1, by omega, by go_num, by rw [HZZ.out]; exact HM3.out, HOKS.out (.inl rfl)⟩
          case measure => simp [intOf]; omega
        · have q1 : (p == 0) = false := beq_eq_false_iff_ne.2 hp0
          have q2 : decide (p = 0) = false := decide_eq_false hp0
          by_cases hpr : 1 ≤ p ∧ p ≤ 32767
          · have HF := Aside0.mk (first_good h0 h1 hpr)
            have er : relOf start p = start + p := by unfold relOf; rw [if_neg hp0]
            rw [er] at HST
            have HPR := Aside0.mk hpr
            clear hp0 hpr er
            go_wp2_with (go_at_call 14; (with_reducible refine (timer_First.calls p start _ _ _ HF.out).mono ?_); rintro e w' ⟨rfl, ⟨nd, rfl⟩⟩)
            have hm := (HM3.out.drewN nd).p2.row_put j (start + p)
            rw [HST.out] at hm
            go_roundw
            case rel => exact ⟨j + 1, by omega, by go_num, hm.q2, HOKS.out (.inr HPR.out)⟩
            case measure => simp [intOf]; omega
          · have HF := Aside0.mk (first_bad (start := start) hpr)
            have HPR := Aside0.mk (show ¬ okP p from fun h => h.elim hp0 hpr)
            clear hp0 hpr
            go_wp2_with (go_at_call 14; (with_reducible refine (timer_First.calls p start _ _ _ HF.out).mono ?_); rintro e w' ⟨rfl, ⟨nd, rfl⟩⟩)
            go_ret2
            exact .inr ⟨rfl, (HM3.out.drewN nd).below, ⟨p, HIN.out, HPR.out⟩⟩
      · have hjl : j = ps.length := by omega
        subst hjl
        clear hlt
        have HM3 := Aside0.mk hM
        have HOK := Aside0.mk hok
        clear hM hok
        go_wp2_with fail
        go_ret2
        have hm := HM3.out
        rw [news_all] at hm
        refine .inl ⟨_, _, _, rfl, hm, fun p hp => ?_⟩
        obtain ⟨i, hi, rfl⟩ := List.getElem_of_mem hp
        have := HOK.out i hi
        rwa [List.getD_eq_getElem?_getD, List.getElem?_eq_getElem hi] at this
theorem New.far {w : World} {A : Option Addr} {n c : Nat} (start : Int) (h : start < 0 ∨ 1099511627776 < start) :
    Calls Try.prog 21 #[.slice A n c, .int .i64 start] w fun e w' => e = .returned (.tuple #[.pointer none, .int .i64 1]) ∧ w = w' := by
  by_cases h0 : start < 0
  · have c1 : decide (start < 0) = true := decide_eq_true h0
    clear h h0
    go_enter Try.func21, Try.ntmps21
    go_wp2_with fail
    go_ret2
    exact ⟨rfl, rfl⟩
  · have c1 : decide (start < 0) = false := decide_eq_false h0
    have c2 : decide ((1099511627776 : Int) < start) = true := decide_eq_true (by omega)
    clear h h0
    go_enter Try.func21, Try.ntmps21
    go_wp2_with fail
    go_ret2
    exact ⟨rfl, rfl⟩
end Go.Proofs.Ytjdpogkddoaioaa.QWh
