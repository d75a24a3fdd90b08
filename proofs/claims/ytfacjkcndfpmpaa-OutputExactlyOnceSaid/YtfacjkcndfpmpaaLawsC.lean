/- OutputLog and OutputRepeat: the laws answer true. -/
import Derived.Test.YtfacjkcndfpmpaaLawsA
namespace Go.Proofs.Ytfacjkcndfpmpaa.QAl
open Go.RowKit Go.Proofs.YtfacjkcndfpmpaaW.PrintWords Go.Proofs.YtfacjkcndfpmpaaW.PrintLast Go.Proofs.YtfacjkcndfpmpaaW.PrintMore Go.Proofs.Ytfacjkcndfpmpaa.Sl
set_option linter.unusedVariables false
set_option linter.unusedSimpArgs false

theorem log_loop (log : List S37) (hl : log.length ≤ 1000) : ∀ (n j K : Nat), log.length - j ≤ n → n + 1 ≤ K → j ≤ log.length → tricklelaw49_log.l0 K ((log.take j).map conv) log (log.length : Int) (j : Int) = some (log.map conv) := by
  intro n
  induction n with
  | zero =>
    intro j K h1 h2 h3
    obtain ⟨k, rfl⟩ : ∃ k, K = k + 1 := ⟨K - 1, by omega⟩
    obtain rfl : j = log.length := by omega
    rw [tricklelaw49_log.l0.eq_2, if_neg (by omega), List.take_length]
  | succ n ih =>
    intro j K h1 h2 h3
    obtain ⟨k, rfl⟩ : ∃ k, K = k + 1 := ⟨K - 1, by omega⟩
    by_cases hj : j < log.length
    · have e1 : rd_T37 log (j : Int) = log[j] := by
        unfold rd_T37
        rw [Int.toNat_natCast, List.getD_eq_getElem?_getD, List.getElem?_eq_getElem hj, Option.getD_some]
      have e2 : wrap64 ((j : Int) + 1) = ((j + 1 : Nat) : Int) := by unfold wrap64; omega
      have ih := ih (j + 1) k (by omega) (by omega) (by omega)
      rw [List.take_succ_eq_append_getElem hj, List.map_append] at ih
      rw [tricklelaw49_log.l0.eq_2, if_pos (by omega), if_pos (by omega), if_pos (by omega), if_pos (by rw [List.length_map, List.length_take]; omega), e1, e2]
      exact ih
    · obtain rfl : j = log.length := by omega
      rw [tricklelaw49_log.l0.eq_2, if_neg (by omega), List.take_length]
theorem log_f (log : List S37) (hl : log.length ≤ 1000) : tricklelaw49_log.f (log.length + 1) log = some (log.map conv) :=
  log_loop log hl log.length 0 _ (by omega) (by omega) (by omega)
theorem same_loop (l : List S65) (hl : l.length ≤ 1000) : ∀ (n j K : Nat), l.length - j ≤ n → n + 1 ≤ K → j ≤ l.length → trickleref49_Same.l0 K l l (j : Int) = some true := by
  intro n
  induction n with
  | zero =>
    intro j K h1 h2 h3
    obtain ⟨k, rfl⟩ : ∃ k, K = k + 1 := ⟨K - 1, by omega⟩
    rw [trickleref49_Same.l0.eq_2, if_neg (by omega)]
  | succ n ih =>
    intro j K h1 h2 h3
    obtain ⟨k, rfl⟩ : ∃ k, K = k + 1 := ⟨K - 1, by omega⟩
    by_cases hj : j < l.length
    · have e2 : wrap64 ((j : Int) + 1) = ((j + 1 : Nat) : Int) := by unfold wrap64; omega
      rw [trickleref49_Same.l0.eq_2, if_pos (by omega), if_pos (by omega), if_pos (by omega), e2, if_neg (by simp)]
      exact ih (j + 1) k (by omega) (by omega) (by omega)
    · rw [trickleref49_Same.l0.eq_2, if_neg (by omega)]
theorem same_f (l : List S65) (hl : l.length ≤ 1000) : trickleref49_Same.f (l.length + 1) l l = some true := by
  unfold trickleref49_Same.f
  rw [if_pos rfl]
  exact same_loop l hl l.length 0 _ (by omega) (by omega) (by omega)

/-- What the law's log makes of a log. -/
theorem LogOf {w0 w : World} {L : List Chunk} {A : Option Addr} {c : Nat} (log : List S37) (hl : log.length ≤ 1000) (hM : Mem w0 w L) (hC : k37.C w A log.length log) (hc : log.length ≤ c) :
    Calls Try.prog 14 #[.slice A log.length c] w fun e w' => ∃ v, e = .returned v ∧ Mem w0 w' (row w0 k65 65 v (log.map conv) :: L) :=
  (tricklelaw49_log.calls (log.length + 1) A c log (log.map conv) w hC hc (log_f log hl)).mono fun e w' ⟨v, he, hr, hb⟩ => ⟨v, he, hM.row_made hb hr⟩
/-- Two logs that are the same. -/
theorem SameOf {w : World} {A A' : Option Addr} {n c c' : Nat} (l : List S65) (hn : l.length = n) (hl : n ≤ 1000) (hC : k65.C w A n l) (hc : n ≤ c) (hC' : k65.C w A' n l) (hc' : n ≤ c') :
    Calls Try.prog 13 #[.slice A n c, .slice A' n c'] w fun e w' => ∃ m, e = .returned (.bool true) ∧ w' = w.drewN m := by
  subst hn
  refine (trickleref49_Same.calls (l.length + 1) A c l A' c' l true w hC hc hC' hc' (same_f l hl)).mono fun e w' ⟨he, hd⟩ => ?_
  obtain ⟨m, hm⟩ := hd.out
  exact ⟨m, he, hm⟩

/-- At the head of a round. -/
def LogRel (w0 : World) (np b6 g : Nat) (lv lg vr : Value) (s : St) (A3 : Option Addr) (ct : Nat) (i : Value) (wr : World) : Prop :=
  ∃ (k : Nat) (told : List S37), k ≤ s.2.length ∧ told.length = s.2.length ∧ i = .int .i64 (k : Int) ∧
    Mem w0 wr (row w0 k37 37 (.slice A3 s.2.length ct) told :: blk b6 #[.int .i64 (np : Int), vr] 26 :: row w0 k65 65 vr (s.2.map conv) :: bank w0 g lv lg s.1 s.2 [])

set_option maxHeartbeats 4000000 in
set_option maxRecDepth 100000 in
theorem OutputLog_law (ports : Int) (A : Option Addr) (c : Nat) (l : List S46) (w : World) (hr : k46.C w A l.length l) :
    Calls Try.prog 4 #[.int .i64 ports, .slice A l.length c] w fun e w' => e = .returned (.bool true) ∧ Below w.heap.size w w' := by
  by_cases h : ports < 0 ∨ 8 < ports ∨ 200 < l.length
  · have H := Aside0.mk h
    clear h
    go_enter Try.func4, Try.ntmps4
    go_wp2_with fail
    refine (Run.bad ports A c l (Mem.start w) H.out).mono ?_
    rintro e w1 ⟨rfl, hM⟩
    have HM := Aside0.mk hM
    clear hM
    go_wp2_with fail
    refine (examples_true (HM.out.alloc _)).mono ?_
    rintro e w2 ⟨rfl, hM⟩
    have HM2 := Aside0.mk hM
    clear hM HM
    go_wp2_with fail
    refine (examples_true HM2.out).mono ?_
    rintro e w3 ⟨rfl, hM⟩
    have HM3 := Aside0.mk hM
    clear hM HM2
    go_wp2
    go_ret
    exact ⟨rfl, HM3.out.below⟩
  · obtain ⟨np, rfl⟩ := Int.eq_ofNat_of_zero_le (show 0 ≤ ports by omega)
    have h1 : np ≤ 8 := by omega
    have h2 : l.length ≤ 200 := by omega
    have HR := Aside0.mk hr
    have hlen := runW_len np l
    have HS := Aside0.mk (show (runW np l).2.length ≤ 200 by omega)
    clear h hr
    go_enter Try.func4, Try.ntmps4
    go_wp2_with fail
    refine (Run.good np A c l (Mem.start w) HR.out h1 h2).mono ?_
    rintro e w1 ⟨g, lv, lg, vr, rfl, hM⟩
    generalize runW np l = s at *
    have HN := Aside0.mk hlen
    clear hlen
    obtain ⟨Ar, cr, rfl, _⟩ := hM.readsN (n := s.2.length) (by simp)
    have HM := Aside0.mk hM
    clear hM
    go_wp2_with fail
    refine (examples_true (HM.out.new (.cells #[.int .i64 (np : Int), .slice Ar s.2.length cr] 26))).mono ?_
    rintro e w2 ⟨rfl, hM⟩
    generalize w1.heap.size = b6 at *
    have HM2 := Aside0.mk hM
    clear hM HM
    go_wp2_with fail
    refine (Log HM2.out.c2 (by have := HS.out; omega)).mono ?_
    rintro e w3 ⟨v, rfl, hM⟩
    have hM3 := (Mem.u2 (L := row w k37 37 v s.2 :: bank w g lv lg s.1 s.2 []) hM).p2
    clear hM
    obtain ⟨A3, c3, rfl, hc3, hC3⟩ := hM3.reads
    have hb := hM3.p1.get
    have y0 : w3.cell? ⟨b6, 0, none⟩ = some (.int .i64 (np : Int)) := blk_cell hb 0
    have y1 : w3.cell? ⟨b6, 1, none⟩ = some (.slice Ar s.2.length cr) := blk_cell hb 1
    have HM3 := Aside0.mk hM3
    have HC3 := Aside0.mk hC3
    have Hc3 := Aside0.mk hc3
    clear hM3 hb HM2 hC3 hc3
    go_wp2_with fail
    go_region_held3 (fun W => W.cell? ⟨b6, 0, none⟩ = some (.int .i64 (np : Int)) ∧ W.cell? ⟨b6, 1, none⟩ = some (.slice Ar s.2.length cr))
      (first
        | exact ⟨y0, y1⟩
        | exact ⟨z0, z1⟩
        | (go_split_ands; constructor <;> assumption))
      (first
        | (go_at_call 14; refine (LogOf (L := row w k37 37 (.slice A3 s.2.length c3) s.2 :: blk b6 #[.int .i64 (np : Int), .slice Ar s.2.length cr] 26 :: row w k65 65 (.slice Ar s.2.length cr) (s.2.map conv) :: bank w g lv lg s.1 s.2 []) s.2 (by have := HS.out; omega) HM3.out.drew (Kd.C_drew HC3.out) Hc3.out).mono ?_
           rintro e w4 ⟨v4, rfl, hM4⟩
           obtain ⟨A4, c4, rfl, _⟩ := hM4.readsN (n := s.2.length) (by simp)
           have hb := hM4.p2.get
           have z0 : w4.cell? ⟨b6, 0, none⟩ = some (.int .i64 (np : Int)) := blk_cell hb 0
           have z1 : w4.cell? ⟨b6, 1, none⟩ = some (.slice Ar s.2.length cr) := blk_cell hb 1
           have HM4 := Aside0.mk hM4
           clear hM4 hb)
        | (go_at_call 13
           refine (SameOf (n := s.2.length) (s.2.map conv) (by simp) (by have := HS.out; omega) HM4.out.readsE.2 HM4.out.readsE.1 HM4.out.p3.readsE.2 HM4.out.p3.readsE.1).mono ?_
           rintro e w5 ⟨m, rfl, rfl⟩))
    have HM5 := Aside0.mk (HM4.out.drop.drewN m)
    clear HM4 HM3 HC3 Hc3 z0 z1 y0 y1
    go_wp2_with fail
    go_loopw [34] (fun i wr => LogRel w np b6 g lv lg (.slice Ar s.2.length cr) s A3 c3 i wr) (fun i _ => s.2.length - (intOf i).toNat)
    case atStart => exact ⟨0, s.2, Nat.zero_le _, rfl, rfl, HM5.out⟩
    case round =>
      obtain ⟨k, told, hk, htl, rfl, hM⟩ := hrel
      by_cases hlt : k < s.2.length
      · obtain ⟨gt, ct, e1, _⟩ := hM.row_form (by omega)
        injection e1 with e1 e2 e3
        subst e1
        clear e2 e3
        have hks : k < told.length := by omega
        obtain ⟨cs, hcl, hK, hcc⟩ := hM.row_cells z37 k hks
        obtain rfl := k37_open hK
        generalize told.getD k z37 = a at *
        have y2 : wr.cell? ⟨gt, k * 3 + 2, none⟩ = some (.int .i16 a.f2) := hcc 2 _ rfl
        have y3 := hM.row_free (k * 3 + 2)
        have hM6 := hM.row_set k hks 2 (.int .i16 (IntKind.i16.wrap (a.f2 + 1))) [.int .i64 a.f0, .int .i64 a.f1, .int .i16 a.f2] (by decide) rfl hcc ⟨a.f0, a.f1, IntKind.i16.wrap (a.f2 + 1)⟩ (k37_mkM _ _ _ (⟨a.f0, a.f1, IntKind.i16.wrap (a.f2 + 1)⟩ : S37))
        have HTL := Aside0.mk htl
        have HM6 := Aside0.mk hM6
        have hbd := HS.out
        clear hM hM6 hcc hK htl hks HM5
        go_wp2
        go_roundw
        case rel => exact ⟨k + 1, _, by omega, by rw [List.length_set]; exact HTL.out, by go_num, HM6.out⟩
        case measure => simp [intOf]; omega
      · have hkn : k = s.2.length := by omega
        subst hkn
        have hb := hM.p1.get
        have y0 : wr.cell? ⟨b6, 0, none⟩ = some (.int .i64 (np : Int)) := blk_cell hb 0
        have y1 : wr.cell? ⟨b6, 1, none⟩ = some (.slice Ar s.2.length cr) := blk_cell hb 1
        have HMr := Aside0.mk (Mem.drop hM)
        clear hM hb hlt htl HM5
        go_wp2_with fail
        go_region_held3 (fun W => W.cell? ⟨b6, 0, none⟩ = some (.int .i64 (np : Int)) ∧ W.cell? ⟨b6, 1, none⟩ = some (.slice Ar s.2.length cr))
          (first
            | exact ⟨y0, y1⟩
            | exact ⟨x0, x1⟩
            | exact ⟨z0, z1⟩
            | (go_split_ands; constructor <;> assumption))
          (first
            | (go_at_call 12; refine (Log HMr.out.drew.c2 (by have := HS.out; omega)).mono ?_
               rintro e w6 ⟨v6, rfl, hM⟩
               have hM6 := (Mem.u2 (L := row w k37 37 v6 s.2 :: bank w g lv lg s.1 s.2 []) hM).p2
               obtain ⟨A6, c6, rfl, _⟩ := hM6.reads
               have hb := hM6.p1.get
               have z0 : w6.cell? ⟨b6, 0, none⟩ = some (.int .i64 (np : Int)) := blk_cell hb 0
               have z1 : w6.cell? ⟨b6, 1, none⟩ = some (.slice Ar s.2.length cr) := blk_cell hb 1
               have HM6 := Aside0.mk hM6
               clear hM hM6 hb)
            | (go_at_call 14; refine (LogOf s.2 (by have := HS.out; omega) HM6.out HM6.out.readsE.2 HM6.out.readsE.1).mono ?_
               rintro e w7 ⟨v7, rfl, hM7⟩
               obtain ⟨A7, c7, rfl, _⟩ := hM7.readsN (n := s.2.length) (by simp)
               have hb := hM7.p2.get
               have x0 : w7.cell? ⟨b6, 0, none⟩ = some (.int .i64 (np : Int)) := blk_cell hb 0
               have x1 : w7.cell? ⟨b6, 1, none⟩ = some (.slice Ar s.2.length cr) := blk_cell hb 1
               have HM7 := Aside0.mk hM7
               clear hM7 hb)
            | (go_at_call 13
               refine (SameOf (n := s.2.length) (s.2.map conv) (by simp) (by have := HS.out; omega) HM7.out.readsE.2 HM7.out.readsE.1 HM7.out.p3.readsE.2 HM7.out.p3.readsE.1).mono ?_
               rintro e w8 ⟨m8, rfl, rfl⟩))
        have HM8 := Aside0.mk (HM7.out.drewN m8)
        clear HM7 HM6 HMr
        go_wp2
        go_ret
        exact ⟨rfl, HM8.out.below⟩
end Go.Proofs.Ytfacjkcndfpmpaa.QAl
