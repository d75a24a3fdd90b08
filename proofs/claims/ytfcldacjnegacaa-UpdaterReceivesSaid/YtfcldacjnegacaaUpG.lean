/- updater.Offer. Printed by mkUpG.py. -/
import Derived.Test.YtfcldacjnegacaaUpF
namespace Go.Proofs.Ytfcldacjnegacaa.Up
open Go.RowKit Go.Proofs.YtfcldacjnegacaaW.PrintWords Go.Proofs.YtfcldacjnegacaaW.PrintLast Go.Proofs.YtfcldacjnegacaaW.PrintMore Go.Proofs.Ytfcldacjnegacaa.Sl
set_option linter.unusedVariables false
set_option linter.unusedSimpArgs false
variable {L : List Chunk} {w0 w w' : World} {gm gb gu N c : Nat} {d : Dv} {slot chunk : Int}
theorem made_bytes (m : Nat) : madeCells #[.int .u8 0] m = ((List.replicate m (0 : Int)).map (Value.int .u8)).toArray := by
  apply Array.ext
  · simp [madeCells]
  · intro i h1 h2
    simp [madeCells, Nat.mod_one]
/-- The numbers of a transfer, as bytes. -/
def head (v l s : Int) (c : Nat) : List Int := [v % 256, v / 256 % 256, v / 65536 % 256, v / 16777216 % 256, l % 256, l / 256 % 256, s % 256, s / 256 % 256, (c : Int) % 256]
/-- Writes one behind the other, until one fails. -/
def Dv.seq (d : Dv) : List (Nat × List Int) → Dv × Bool
  | [] => (d, true)
  | p :: r => if (d.wrs p.1 p.2).2 = true then (d.wrs p.1 p.2).1.seq r else ((d.wrs p.1 p.2).1, false)
theorem seq_t {d : Dv} {a : Nat} {l : List Int} {r : List (Nat × List Int)} (h : (d.wrs a l).2 = true) : d.seq ((a, l) :: r) = (d.wrs a l).1.seq r := by
  conv => lhs; unfold Dv.seq
  exact if_pos h
theorem seq_f {d : Dv} {a : Nat} {l : List Int} {r : List (Nat × List Int)} (h : (d.wrs a l).2 = false) : d.seq ((a, l) :: r) = ((d.wrs a l).1, false) := by
  conv => lhs; unfold Dv.seq
  exact if_neg (by rw [h]; simp)
theorem seq_one (d : Dv) (a : Nat) (l : List Int) : d.seq [(a, l)] = d.wrs a l := by
  cases h : (d.wrs a l).2 with
  | true => rw [seq_t h]; unfold Dv.seq; rw [← h]
  | false => rw [seq_f h, ← h]
def seqR (p : Dv × Bool) : Dv × Int := (p.1, errP p.2)
def offL (v l s : Int) (c m : Nat) : List (Nat × List Int) := [(3840, [0]), (3856, List.replicate m 0), (3841, head v l s c), (3840, [1])]
def badO (v l : Int) : Bool := decide (v < 1) || decide (2147483647 < v) || decide (l < 1) || decide (6144 < l)
def Dv.offer (d : Dv) (c : Nat) (v l s : Int) : Dv × Int :=
  if badO v l = true then (d, 1)
  else if d.act (c : Int) = true ∧ (d.num 1 4 == v && (d.num 5 2 == l && d.num 7 2 == s)) = true then (d, 0)
  else if d.act (c : Int) = true ∧ v < d.num 1 4 then (d, 11)
  else seqR (d.seq (offL v l s c ((nch l.toNat c + 7) / 8)))
theorem Offer_bad (w : World) (p : Value) (v l s : Int) (h : badO v l = true) :
    Calls Try.prog 13 #[p, .int .i64 v, .int .i64 l, .int .u16 s] w fun e w' => e = .returned (.int .i64 1) ∧ w = w' := by
  unfold badO at h
  by_cases h1 : v < 1
  · clear h
    go_enter Try.func13, Try.ntmps13
    go_wp2
    go_ret
    exact ⟨rfl, rfl⟩
  · by_cases h2 : 2147483647 < v
    · clear h
      go_enter Try.func13, Try.ntmps13
      go_wp2
      go_ret
      exact ⟨rfl, rfl⟩
    · by_cases h3 : l < 1
      · clear h
        go_enter Try.func13, Try.ntmps13
        go_wp2
        go_ret
        exact ⟨rfl, rfl⟩
      · have h4 : 6144 < l := by simpa [h1, h2, h3] using h
        clear h
        go_enter Try.func13, Try.ntmps13
        go_wp2
        go_ret
        exact ⟨rfl, rfl⟩
set_option maxRecDepth 100000 in
set_option maxHeartbeats 2000000 in
theorem Offer_call (hM : NvM w0 w gm gb N d (upd gu gm slot (c : Int) L)) (hN : N = 10240) (hc : 4 ≤ c) (hc2 : c ≤ 36) (v l s : Int) (hs0 : 0 ≤ s) (hs1 : s < 65536) :
    Calls Try.prog 13 #[.pointer (some ⟨gu, 0, none⟩), .int .i64 v, .int .i64 l, .int .u16 s] w fun e w' => e = .returned (.int .i64 (d.offer c v l s).2) ∧ NvM w0 w' gm gb N (d.offer c v l s).1 (upd gu gm slot (c : Int) L) := by
  unfold Dv.offer
  cases hbad : badO v l with
  | true =>
    rw [if_pos rfl]
    refine (Offer_bad w _ v l s hbad).mono ?_
    rintro e w' ⟨rfl, rfl⟩
    exact ⟨rfl, hM⟩
  | false =>
    rw [if_neg (by simp)]
    unfold badO at hbad
    simp at hbad
    obtain ⟨⟨⟨h1, h2⟩, h3⟩, h4⟩ := hbad
    obtain ⟨n, rfl⟩ : ∃ n : Nat, l = (n : Int) := ⟨l.toNat, by omega⟩
    rw [Int.toNat_natCast]
    have HC := Aside0.mk (current_call (hM.step (below_alloc (Below.refl w.heap.size w) (.cells #[.int .i64 v, .int .i64 (n : Int), .int .u16 s] 71))) hN)
    have HM := Aside0.mk hM
    have HN := Aside0.mk hN
    have hn2 : n ≤ 6144 := by omega
    have HK := Aside0.mk (fun d' W (h : NvM w0 W gm gb N d' (upd gu gm slot (c : Int) L)) => chunks_call h n hn2 hc hc2)
    have hq : nch n c ≤ 1536 := nch_le hn2 hc
    obtain ⟨m, hm⟩ : ∃ m, m = (nch n c + 7) / 8 := ⟨_, rfl⟩
    rw [← hm]
    have hm2 : m ≤ 200 := by omega
    have e1 : wrap64 ((nch n c : Int) + 7) = (nch n c : Int) + 7 := by unfold wrap64; omega
    have e2 : wrap64 (((nch n c : Int) + 7) / 8) = (m : Int) := by unfold wrap64; omega
    have e2b : ((nch n c : Int) + 7) / 8 = (m : Int) := by omega
    have hmk := print_make (P := Try.prog) 22 5 .u8 1 Try.underlying22 info5 (by decide) m (by omega)
    generalize nch n c = q at *
    have HS := Aside0.mk (And.intro hs0 hs1)
    have HCC := Aside0.mk (And.intro hc hc2)
    have h1' : ¬ v < 1 := by omega
    have h2' : ¬ 2147483647 < v := by omega
    have h3' : ¬ (n : Int) < 1 := by omega
    have h4' : ¬ 6144 < (n : Int) := by omega
    have h3n : ¬ n < 1 := by omega
    have h4n : ¬ 6144 < n := by omega
    have heq := eq71
    have HM2 := Aside0.mk hm2
    have HHM := Aside0.mk hm
    have HV := Aside0.mk (And.intro h1 h2)
    clear hM hN hc hc2 hs0 hs1 h1 h2 h3 h4 hn2 hm
    generalize d.act (c : Int) = ac at *
    generalize hn1 : d.num 1 4 = n1 at *
    generalize hn5 : d.num 5 2 = n5 at *
    generalize hn7 : d.num 7 2 = n7 at *
    have HNN := Aside0.mk (And.intro hn1 (And.intro hn5 hn7))
    clear hn1 hn5 hn7
    generalize hR : (if ac = true ∧ (n1 == v && (n5 == (n : Int) && n7 == s)) = true then (d, (0 : Int)) else if ac = true ∧ v < n1 then (d, 11) else seqR (d.seq (offL v n s c m))) = R
    have HR := Aside0.mk hR.symm
    clear hR
    go_enter Try.func13, Try.ntmps13
    go_wp2_with fail
    refine HC.out.mono ?_
    rintro e w1 ⟨rfl, hb⟩
    have HB := Aside0.mk (below_step (below_alloc (Below.refl w.heap.size w) _) hb)
    have HG := Aside0.mk (blk_below (blk_new w (.cells #[.int .i64 v, .int .i64 (n : Int), .int .u16 s] 71)) hb)
    have x0 := blk_cell HG.out 0
    have x1 := blk_cell HG.out 1
    have x2 := blk_cell HG.out 2
    have hlt : w.heap.size < w1.heap.size := blk_lt HG.out
    have hne : ¬ w.heap.size = w1.heap.size := by omega
    have hne' : ¬ w1.heap.size = w.heap.size := by omega
    have HM1 := Aside0.mk ((HM.out.step HB.out).step (below_alloc (Below.refl w1.heap.size w1) (.cells #[.int .i64 n1, .int .i64 n5, .int .u16 n7] 71)))
    clear hb HB HG
    cases ac with
    | true =>
      cases heqv : (n1 == v && (n5 == (n : Int) && n7 == s)) with
      | true =>
        have HRt := Aside0.mk (HR.out.trans (if_pos ⟨rfl, heqv⟩))
        have hE : ∀ W, (binOp .eql 71 (.agg #[.int .i64 n1, .int .i64 n5, .int .u16 n7]) (.agg #[.int .i64 v, .int .i64 (n : Int), .int .u16 s])).run Try.prog W = .ok (.bool true) W := by
          intro W
          rw [eq71, heqv]
        clear heq heqv
        go_wp2_with fail
        go_ret
        rw [HRt.out]
        exact ⟨rfl, HM1.out⟩
      | false =>
        have HRs := Aside0.mk (HR.out.trans (if_neg (by rw [heqv]; simp)))
        have hE : ∀ W, (binOp .eql 71 (.agg #[.int .i64 n1, .int .i64 n5, .int .u16 n7]) (.agg #[.int .i64 v, .int .i64 (n : Int), .int .u16 s])).run Try.prog W = .ok (.bool false) W := by
          intro W
          rw [eq71, heqv]
        clear heq heqv
        by_cases hst : v < n1
        · have HRt := Aside0.mk (HRs.out.trans (if_pos ⟨rfl, hst⟩))
          go_wp2_with fail
          go_ret
          rw [HRt.out]
          exact ⟨rfl, HM1.out⟩
        · have HRt := Aside0.mk (HRs.out.trans (if_neg (fun h => hst h.2)))
          go_wp2_with fail
          refine (write0 HM1.out 0 (by omega) HN.out (by simp)).mono ?_
          rintro e w2 ⟨rfl, hm⟩
          have HMa := Aside0.mk hm
          clear hm
          replace HRt : Aside0 (R = seqR (d.seq [(3840, [0]), (3856, List.replicate m 0), (3841, head v (n : Int) s c), (3840, [1])])) := ⟨HRt.out⟩
          cases hok0 : (d.wrs 3840 [0]).2 with
          | false =>
            have HRu := Aside0.mk (HRt.out.trans (congrArg seqR (seq_f hok0)))
            go_wp2_with fail
            go_ret
            rw [HRu.out]
            exact ⟨rfl, HMa.out⟩
          | true =>
            replace HRt := Aside0.mk (HRt.out.trans (congrArg seqR (seq_t hok0)))
            generalize (d.wrs 3840 [0]).1 = da at *
            clear hok0
            go_wp2_with fail
            refine (HK.out _ _ HMa.out).mono ?_
            rintro e w3 ⟨rfl, hb⟩
            have HMb := Aside0.mk (HMa.out.step hb)
            clear hb HMa
            go_wp2_with fail
            refine (write_lit (n := m) HMb.out 16 (List.replicate m 0) _ (made_bytes m) (fun x hx => by rw [List.mem_replicate] at hx; omega) (by simp) (by have := HM2.out; have := HN.out; omega) HN.out rfl).mono ?_
            rintro e w4 ⟨rfl, hm⟩
            have HMc := Aside0.mk hm
            clear hm HMb
            cases hok1 : (da.wrs 3856 (List.replicate m 0)).2 with
            | false =>
              have HRu := Aside0.mk (HRt.out.trans (congrArg seqR (seq_f hok1)))
              go_wp2_with fail
              go_ret
              rw [HRu.out]
              exact ⟨rfl, HMc.out⟩
            | true =>
              replace HRt := Aside0.mk (HRt.out.trans (congrArg seqR (seq_t hok1)))
              generalize (da.wrs 3856 (List.replicate m 0)).1 = dc at *
              clear hok1 hmk
              have y2 := HMc.out.u.2.2
              go_wp2_with fail
              refine (write_lit (n := 9) HMc.out 1 (head v (n : Int) s c) #[.int .u8 (v % 256), .int .u8 (v / 256 % 256), .int .u8 (v / 65536 % 256), .int .u8 (v / 16777216), .int .u8 ((n : Int) % 256), .int .u8 ((n : Int) / 256), .int .u8 (s % 256), .int .u8 (s / 256 % 256), .int .u8 ((c : Int) % 256)] (by
                have e3 : v / 16777216 % 256 = v / 16777216 := by have := HV.out; omega
                have e4 : (n : Int) / 256 % 256 = (n : Int) / 256 := by omega
                simp [head, e3, e4]) (by intro x hx; simp [head] at hx; omega) rfl (by have := HN.out; omega) HN.out rfl).mono ?_
              rintro e w5 ⟨rfl, hm⟩
              have HMd := Aside0.mk hm
              clear hm HMc y2
              cases hok2 : (dc.wrs 3841 (head v (n : Int) s c)).2 with
              | false =>
                have HRu := Aside0.mk (HRt.out.trans (congrArg seqR (seq_f hok2)))
                go_wp2_with fail
                go_ret
                rw [HRu.out]
                exact ⟨rfl, HMd.out⟩
              | true =>
                replace HRt := Aside0.mk (HRt.out.trans (congrArg seqR (seq_t hok2)))
                generalize (dc.wrs 3841 (head v (n : Int) s c)).1 = de at *
                clear hok2
                go_wp2_with fail
                refine (write0 HMd.out 1 (by omega) HN.out rfl).mono ?_
                rintro e w6 ⟨rfl, hm⟩
                have HMe := Aside0.mk hm
                clear hm HMd
                replace HRt := Aside0.mk (HRt.out.trans (congrArg seqR (seq_one _ _ _)))
                go_wp2_with fail
                go_ret
                rw [HRt.out]
                exact ⟨rfl, HMe.out⟩
    | false =>
      have HRt := Aside0.mk ((HR.out.trans (if_neg (by simp))).trans (if_neg (by simp)))
      clear heq
      go_wp2_with fail
      refine (write0 HM1.out 0 (by omega) HN.out (by simp)).mono ?_
      rintro e w2 ⟨rfl, hm⟩
      have HMa := Aside0.mk hm
      clear hm
      replace HRt : Aside0 (R = seqR (d.seq [(3840, [0]), (3856, List.replicate m 0), (3841, head v (n : Int) s c), (3840, [1])])) := ⟨HRt.out⟩
      cases hok0 : (d.wrs 3840 [0]).2 with
      | false =>
        have HRu := Aside0.mk (HRt.out.trans (congrArg seqR (seq_f hok0)))
        go_wp2_with fail
        go_ret
        rw [HRu.out]
        exact ⟨rfl, HMa.out⟩
      | true =>
        replace HRt := Aside0.mk (HRt.out.trans (congrArg seqR (seq_t hok0)))
        generalize (d.wrs 3840 [0]).1 = da at *
        clear hok0
        go_wp2_with fail
        refine (HK.out _ _ HMa.out).mono ?_
        rintro e w3 ⟨rfl, hb⟩
        have HMb := Aside0.mk (HMa.out.step hb)
        clear hb HMa
        go_wp2_with fail
        refine (write_lit (n := m) HMb.out 16 (List.replicate m 0) _ (made_bytes m) (fun x hx => by rw [List.mem_replicate] at hx; omega) (by simp) (by have := HM2.out; have := HN.out; omega) HN.out rfl).mono ?_
        rintro e w4 ⟨rfl, hm⟩
        have HMc := Aside0.mk hm
        clear hm HMb
        cases hok1 : (da.wrs 3856 (List.replicate m 0)).2 with
        | false =>
          have HRu := Aside0.mk (HRt.out.trans (congrArg seqR (seq_f hok1)))
          go_wp2_with fail
          go_ret
          rw [HRu.out]
          exact ⟨rfl, HMc.out⟩
        | true =>
          replace HRt := Aside0.mk (HRt.out.trans (congrArg seqR (seq_t hok1)))
          generalize (da.wrs 3856 (List.replicate m 0)).1 = dc at *
          clear hok1 hmk
          have y2 := HMc.out.u.2.2
          go_wp2_with fail
          refine (write_lit (n := 9) HMc.out 1 (head v (n : Int) s c) #[.int .u8 (v % 256), .int .u8 (v / 256 % 256), .int .u8 (v / 65536 % 256), .int .u8 (v / 16777216), .int .u8 ((n : Int) % 256), .int .u8 ((n : Int) / 256), .int .u8 (s % 256), .int .u8 (s / 256 % 256), .int .u8 ((c : Int) % 256)] (by
            have e3 : v / 16777216 % 256 = v / 16777216 := by have := HV.out; omega
            have e4 : (n : Int) / 256 % 256 = (n : Int) / 256 := by omega
            simp [head, e3, e4]) (by intro x hx; simp [head] at hx; omega) rfl (by have := HN.out; omega) HN.out rfl).mono ?_
          rintro e w5 ⟨rfl, hm⟩
          have HMd := Aside0.mk hm
          clear hm HMc y2
          cases hok2 : (dc.wrs 3841 (head v (n : Int) s c)).2 with
          | false =>
            have HRu := Aside0.mk (HRt.out.trans (congrArg seqR (seq_f hok2)))
            go_wp2_with fail
            go_ret
            rw [HRu.out]
            exact ⟨rfl, HMd.out⟩
          | true =>
            replace HRt := Aside0.mk (HRt.out.trans (congrArg seqR (seq_t hok2)))
            generalize (dc.wrs 3841 (head v (n : Int) s c)).1 = de at *
            clear hok2
            go_wp2_with fail
            refine (write0 HMd.out 1 (by omega) HN.out rfl).mono ?_
            rintro e w6 ⟨rfl, hm⟩
            have HMe := Aside0.mk hm
            clear hm HMd
            replace HRt := Aside0.mk (HRt.out.trans (congrArg seqR (seq_one _ _ _)))
            go_wp2_with fail
            go_ret
            rw [HRt.out]
            exact ⟨rfl, HMe.out⟩
end Go.Proofs.Ytfcldacjnegacaa.Up
