/- OutputLevel: the law answers true. -/
import Derived.Test.YtfacjkcndfpmpaaLawsA
namespace Go.Proofs.Ytfacjkcndfpmpaa.QAl
open Go.RowKit Go.Proofs.YtfacjkcndfpmpaaW.PrintWords Go.Proofs.YtfacjkcndfpmpaaW.PrintLast Go.Proofs.YtfacjkcndfpmpaaW.PrintMore Go.Proofs.Ytfacjkcndfpmpaa.Sl
set_option linter.unusedVariables false
set_option linter.unusedSimpArgs false

/-- The last value of a port. -/
def lvl (log : List S37) (p : Int) : Int := log.foldl (fun v e => if e.f1 = p then e.f2 else v) 0
theorem lvl_snoc (log : List S37) (e : S37) (p : Int) : lvl (log ++ [e]) p = if e.f1 = p then e.f2 else lvl log p := by
  unfold lvl
  rw [List.foldl_append]
  rfl
theorem step_lvl (s : St) (a : S46) (h : ∀ p : Nat, p < s.1.length → s.1.getD p 0 = lvl s.2 p) : ∀ p : Nat, p < (stepW s a).1.length → (stepW s a).1.getD p 0 = lvl (stepW s a).2 p := by
  intro p hp
  unfold stepW at hp ⊢
  by_cases hz : wrB s.1 s.2 a.f0 a.f1 = 0
  · rw [if_pos hz] at hp ⊢
    obtain ⟨_, h0, h1⟩ := wr_zero hz
    dsimp only at hp ⊢
    rw [lvl_snoc]
    dsimp only
    rw [List.length_set] at hp
    by_cases he : a.f1 = (p : Int)
    · rw [if_pos he, he, Int.toNat_natCast]
      simp [List.getD_eq_getElem?_getD, List.getElem?_set, hp]
    · rw [if_neg he, ← h p hp]
      have : a.f1.toNat ≠ p := by omega
      simp [List.getD_eq_getElem?_getD, List.getElem?_set, this]
  · rw [if_neg hz] at hp ⊢
    exact h p hp
theorem run_lvl (np : Nat) (l : List S46) : ∀ p : Nat, p < np → (runW np l).1.getD p 0 = lvl (runW np l).2 p := by
  have key : ∀ (l : List S46) (s : St), (∀ p : Nat, p < s.1.length → s.1.getD p 0 = lvl s.2 p) → ∀ p : Nat, p < (l.foldl stepW s).1.length → (l.foldl stepW s).1.getD p 0 = lvl (l.foldl stepW s).2 p := by
    intro l
    induction l with
    | nil => intro s h; exact h
    | cons a l ih => intro s h; exact ih _ (step_lvl s a h)
  intro p hp
  refine key l (List.replicate np 0, []) (fun q hq => ?_) p (by have := (runW_len np l).1; unfold runW at this; omega)
  simp only [List.length_replicate] at hq
  simp [List.getD_eq_getElem?_getD, List.getElem?_replicate, hq, lvl]

theorem refLevel (np : Int) (log : List S37) (p : Int) (hl : log.length ≤ 140737488355328) : ∀ (n j K : Nat), log.length - j ≤ n → n + 1 ≤ K → j ≤ log.length → trickleref49_Level.l0 K p (lvl (log.take j) p) (j : Int) np (log.map conv) = some (lvl log p) := by
  intro n
  induction n with
  | zero =>
    intro j K h1 h2 h3
    obtain ⟨k, rfl⟩ : ∃ k, K = k + 1 := ⟨K - 1, by omega⟩
    obtain rfl : j = log.length := by omega
    rw [trickleref49_Level.l0.eq_2, if_neg (by simp), List.take_length]
  | succ n ih =>
    intro j K h1 h2 h3
    obtain ⟨k, rfl⟩ : ∃ k, K = k + 1 := ⟨K - 1, by omega⟩
    by_cases hj : j < log.length
    · have e1 : rd_T65 (log.map conv) (j : Int) = conv log[j] := by
        unfold rd_T65
        rw [Int.toNat_natCast, List.getD_eq_getElem?_getD, List.getElem?_eq_getElem (by simpa using hj), Option.getD_some, List.getElem_map]
      have e2 : wrap64 ((j : Int) + 1) = ((j + 1 : Nat) : Int) := by unfold wrap64; omega
      have e3 : lvl (log.take (j + 1)) p = if log[j].f1 = p then log[j].f2 else lvl (log.take j) p := by rw [List.take_succ_eq_append_getElem hj, lvl_snoc]
      have ih := ih (j + 1) k (by omega) (by omega) (by omega)
      rw [e3] at ih
      rw [trickleref49_Level.l0.eq_2, if_pos (by simpa using hj), if_pos (by omega), e1, e2]
      show (if log[j].f1 = p then trickleref49_Level.l0 k p log[j].f2 _ np _ else _) = _
      by_cases hp : log[j].f1 = p
      · rw [if_pos hp] at ih ⊢; exact ih
      · rw [if_neg hp] at ih ⊢; exact ih
    · obtain rfl : j = log.length := by omega
      rw [trickleref49_Level.l0.eq_2, if_neg (by simp), List.take_length]
theorem refLevel_f (np : Int) (log : List S37) (p : Int) (hl : log.length ≤ 140737488355328) : trickleref49_Level.f (log.length + 1) np (log.map conv) p = some (lvl log p) :=
  refLevel np log p hl log.length 0 _ (by omega) (by omega) (by omega)

/-- At the head of a round. -/
def LevRel (w0 : World) (np b8 g : Nat) (lv lg vr : Value) (s : St) (i : Value) (wr : World) : Prop :=
  ∃ k : Nat, k ≤ np ∧ i = .int .i64 (k : Int) ∧ Mem w0 wr (blk b8 #[.int .i64 (np : Int), vr] 26 :: row w0 k65 65 vr (s.2.map conv) :: bank w0 g lv lg s.1 s.2 [])

set_option maxHeartbeats 4000000 in
set_option maxRecDepth 100000 in
theorem OutputLevel_law (ports : Int) (A : Option Addr) (c : Nat) (l : List S46) (port : Int) (w : World) (hr : k46.C w A l.length l) :
    Calls Try.prog 5 #[.int .i64 ports, .slice A l.length c, .int .i64 port] w fun e w' => e = .returned (.bool true) ∧ Below w.heap.size w w' := by
  by_cases h : ports < 0 ∨ 8 < ports ∨ 200 < l.length
  · have H := Aside0.mk h
    clear h
    go_enter Try.func5, Try.ntmps5
    go_wp2_with fail
    refine (Run.bad ports A c l (Mem.start w) H.out).mono ?_
    rintro e w1 ⟨rfl, hM⟩
    have HM := Aside0.mk hM
    clear hM
    go_wp2_with fail
    refine (examples_true (HM.out.alloc _)).mono ?_
    rintro e w2 ⟨rfl, hM⟩
    have HM2 := Aside0.mk hM
    clear hM HM
    go_wp2_with fail
    refine (examples_true HM2.out).mono ?_
    rintro e w3 ⟨rfl, hM⟩
    have HM3 := Aside0.mk hM
    clear hM HM2
    go_wp2
    go_ret
    exact ⟨rfl, HM3.out.below⟩
  · obtain ⟨np, rfl⟩ := Int.eq_ofNat_of_zero_le (show 0 ≤ ports by omega)
    have h1 : np ≤ 8 := by omega
    have h2 : l.length ≤ 200 := by omega
    have HR := Aside0.mk hr
    have hlen := runW_len np l
    have hlv := run_lvl np l
    clear h hr
    go_enter Try.func5, Try.ntmps5
    go_wp2_with fail
    refine (Run.good np A c l (Mem.start w) HR.out h1 h2).mono ?_
    rintro e w1 ⟨g, lv, lg, vr, rfl, hM⟩
    generalize runW np l = s at *
    have HN := Aside0.mk hlen
    have HLV := Aside0.mk hlv
    clear hlen hlv
    obtain ⟨Ar, cr, rfl, _⟩ := hM.readsN (n := s.2.length) (by simp)
    have HM := Aside0.mk hM
    clear hM
    go_wp2_with fail
    refine (examples_true (HM.out.new (.cells #[.int .i64 (np : Int), .slice Ar s.2.length cr] 26))).mono ?_
    rintro e w2 ⟨rfl, hM⟩
    generalize w1.heap.size = b8 at *
    have HM2 := Aside0.mk hM
    clear hM HM
    go_wp2_with fail
    go_loopw [26] (fun i wr => LevRel w np b8 g lv lg (.slice Ar s.2.length cr) s i wr) (fun i _ => np - (intOf i).toNat)
    case atStart => exact ⟨0, Nat.zero_le _, rfl, HM2.out⟩
    case round =>
      obtain ⟨k, hk, rfl, hM⟩ := hrel
      by_cases hlt : k < np
      · have hb := hM.get
        have y0 : wr.cell? ⟨b8, 0, none⟩ = some (.int .i64 (np : Int)) := blk_cell hb 0
        have y1 : wr.cell? ⟨b8, 1, none⟩ = some (.slice Ar s.2.length cr) := blk_cell hb 1
        have HMr := Aside0.mk hM
        clear hM hb
        go_wp2_with fail
        have hF := Aside0.mk (refLevel_f (np : Int) s.2 (k : Int) (by have := HN.out.2; omega))
        go_region_held3 (fun W => W.cell? ⟨b8, 0, none⟩ = some (.int .i64 (np : Int)) ∧ W.cell? ⟨b8, 1, none⟩ = some (.slice Ar s.2.length cr))
          (first
            | exact ⟨y0, y1⟩
            | (go_split_ands; exact ⟨pw_cell_below hb3 (by assumption), pw_cell_below hb3 (by assumption)⟩))
          (first
            | (go_at_call 15
               have key := Level (L := []) k HMr.out.drew.drop.drop (by have := HN.out.1; omega) (by have := HN.out.1; omega)
               rw [HLV.out k hlt] at key
               refine key.mono ?_
               clear key
               rintro e w3 ⟨rfl, rfl⟩)
            | (go_at_call 16
               have hC := HMr.out.drew.drop.readsC
               have key := trickleref49_Level.calls (s.2.length + 1) _ Ar cr _ _ _ _ hC.2.2 hC.2.1 hF.out
               rw [List.length_map] at key
               refine key.mono ?_
               clear key hC
               rintro e w3 ⟨rfl, hb3⟩))
        have HM3 := Aside0.mk (HMr.out.drew.step hb3)
        clear hb3 HMr y0 y1 HM2
        go_wp2
        go_roundw
        case rel => exact ⟨k + 1, by omega, by go_num, HM3.out⟩
        case measure => simp [intOf]; omega
      · have hkn : k = np := by omega
        subst hkn
        have HMr := Aside0.mk hM
        clear hM hlt
        by_cases hp : 0 ≤ port ∧ port < (k : Int)
        · have q1 : decide (0 ≤ port) = true := decide_eq_true hp.1
          have q2 : decide (port < (k : Int)) = true := decide_eq_true hp.2
          clear hp
          go_wp2
          go_ret
          exact ⟨rfl, HMr.out.below⟩
        · by_cases hp0 : 0 ≤ port
          · have q1 : decide (0 ≤ port) = true := decide_eq_true hp0
            have q2 : decide (port < (k : Int)) = false := decide_eq_false (by omega)
            have QQ := Aside0.mk (show port < 0 ∨ (s.1.length : Int) ≤ port by have := HN.out.1; omega)
            clear hp hp0
            go_wp2_with fail
            refine (Level.out port HMr.out.drop.drop QQ.out).mono ?_
            rintro e w3 ⟨rfl, rfl⟩
            go_wp2
            go_ret
            exact ⟨rfl, HMr.out.below⟩
          · have q1 : decide (0 ≤ port) = false := decide_eq_false hp0
            have QQ := Aside0.mk (show port < 0 ∨ (s.1.length : Int) ≤ port by omega)
            clear hp hp0
            go_wp2_with fail
            refine (Level.out port HMr.out.drop.drop QQ.out).mono ?_
            rintro e w3 ⟨rfl, rfl⟩
            go_wp2
            go_ret
            exact ⟨rfl, HMr.out.below⟩

theorem OutputLevel_row {G G' G2 : Prop} (ports : Int) (A : Option Addr) (c : Nat) (l : List S46) (port : Int) (w : World) (hr : k46.C w A l.length l) (hc : l.length ≤ c) (g : G) (g' : G') (g2 : G2) :
    Calls Try.prog 5 #[.int .i64 ports, .slice A l.length c, .int .i64 port] w fun e w' => e = .returned (.bool true) ∧ Below w.heap.size w w' := OutputLevel_law ports A c l port w hr
end Go.Proofs.Ytfacjkcndfpmpaa.QAl
