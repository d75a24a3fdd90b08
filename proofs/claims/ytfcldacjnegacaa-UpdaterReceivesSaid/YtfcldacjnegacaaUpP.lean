/- updater.Complete. -/
import Derived.Test.YtfcldacjnegacaaUpG
import Derived.Test.YtfcldacjnegacaaUpL
import Derived.Test.YtfcldacjnegacaaCrcS
namespace Go.Proofs.Ytfcldacjnegacaa.Up
open Go.RowKit Go.Proofs.YtfcldacjnegacaaW.PrintWords Go.Proofs.YtfcldacjnegacaaW.PrintLast Go.Proofs.YtfcldacjnegacaaW.PrintMore Go.Proofs.Ytfcldacjnegacaa.Sl
set_option linter.unusedVariables false
set_option linter.unusedSimpArgs false
variable {L : List Chunk} {w0 w w' : World} {gm gb gu N c : Nat} {d : Dv} {slot chunk : Int}
/-- What Complete answers: the device behind it, the image, the version, the error. -/
def Dv.compl (d : Dv) (sl c : Nat) : Dv × List Int × Int × Int :=
  if d.act (c : Int) = false then (d, [], 0, 10)
  else if (d.misA c).isSome = true then (d, [], 0, 8)
  else if crcI (d.rds sl (d.num 5 2).toNat) = d.num 7 2 then (d, d.rds sl (d.num 5 2).toNat, d.num 1 4, 0)
  else ((d.wrs 3840 [0]).1, [], 0, if (d.wrs 3840 [0]).2 = true then 4 else 9)
theorem compl1 {sl : Nat} (h : d.act (c : Int) = false) : d.compl sl c = (d, [], 0, 10) := by unfold Dv.compl; rw [if_pos h]
theorem compl2 {sl : Nat} (h : d.act (c : Int) = true) {i : Nat} (h2 : d.misA c = some i) : d.compl sl c = (d, [], 0, 8) := by unfold Dv.compl; rw [if_neg (by rw [h]; simp), if_pos (by rw [h2]; rfl)]
theorem compl3 {sl : Nat} (h : d.act (c : Int) = true) (h2 : d.misA c = none) (h3 : crcI (d.rds sl (d.num 5 2).toNat) = d.num 7 2) : d.compl sl c = (d, d.rds sl (d.num 5 2).toNat, d.num 1 4, 0) := by
  unfold Dv.compl; rw [if_neg (by rw [h]; simp), if_neg (by rw [h2]; simp), if_pos h3]
theorem compl4 {sl : Nat} (h : d.act (c : Int) = true) (h2 : d.misA c = none) (h3 : ¬ crcI (d.rds sl (d.num 5 2).toNat) = d.num 7 2) : d.compl sl c = ((d.wrs 3840 [0]).1, [], 0, if (d.wrs 3840 [0]).2 = true then 4 else 9) := by
  unfold Dv.compl; rw [if_neg (by rw [h]; simp), if_neg (by rw [h2]; simp), if_neg h3]
/-- What a call of the memory's made, beside it. -/
theorem NvM.join1 {α : Type} {kd : Kd α} {e : Nat} {v : Value} {xs : List α} (h : NvM w0 w gm gb N d (upd gu gm slot chunk L)) (h' : Mem w w' [row w kd e v xs]) : NvM w0 w' gm gb N d (upd gu gm slot chunk (row w0 kd e v xs :: L)) := by
  obtain ⟨hd, lf, wv, hlf, hm⟩ := h
  exact ⟨hd, lf, wv, hlf, (hm.join h' (.cons (Lowers.row hm.size) .nil)).q3⟩
theorem NvM.drew' (h : NvM w0 w gm gb N d L) : NvM w0 w.drew gm gb N d L := h.step (below_drew (Below.refl _ _))
theorem NvM.nilrow (h : NvM w0 w gm gb N d (upd gu gm slot chunk L)) : NvM w0 w gm gb N d (upd gu gm slot chunk (row w0 (Kd.int .u8) 5 (.slice none 0 0) [] :: L)) := by
  obtain ⟨hd, lf, wv, hlf, hm⟩ := h
  exact ⟨hd, lf, wv, hlf, (hm.row_nil (Kd.int .u8) 5).q3⟩
set_option maxRecDepth 100000 in
set_option maxHeartbeats 2000000 in
theorem Complete_call {sl : Nat} (hM : NvM w0 w gm gb N d (upd gu gm (sl : Int) (c : Int) L)) (hN : N = 10240) (hc : 4 ≤ c) (hc2 : c ≤ 36) (hsl : sl + 6144 ≤ N) :
    Calls Try.prog 21 #[.pointer (some ⟨gu, 0, none⟩)] w fun e w' => ∃ v, e = .returned (.tuple #[v, .int .i64 (d.compl sl c).2.2.1, .int .i64 (d.compl sl c).2.2.2]) ∧ NvM w0 w' gm gb N (d.compl sl c).1 (upd gu gm (sl : Int) (c : Int) (row w0 (Kd.int .u8) 5 v (d.compl sl c).2.1 :: L)) := by
  have HC := Aside0.mk (current_call hM hN)
  have HM := Aside0.mk hM
  have HN := Aside0.mk hN
  have HCC := Aside0.mk (And.intro hc hc2)
  cases hac : d.act (c : Int) with
  | false =>
    rw [compl1 hac]
    have HAC := Aside0.mk hac
    rw [hac] at HC
    generalize d.num 1 4 = n1 at *
    generalize d.num 5 2 = n5 at *
    generalize d.num 7 2 = n7 at *
    clear hM hN hc hc2 hac
    go_enter Try.func21, Try.ntmps21
    go_wp2_with fail
    refine HC.out.mono ?_
    rintro e w1 ⟨rfl, hb⟩
    have HB1 := Aside0.mk (below_alloc hb (.cells #[.int .i64 n1, .int .i64 n5, .int .u16 n7] 71))
    clear hb
    go_wp2_with fail
    go_ret3
    exact ⟨_, rfl, (HM.out.step HB1.out).nilrow⟩
  | true =>
    have HMi := Aside0.mk (fun W (hb : Below w.heap.size w W) => Missing_call (hM.step hb) hN hc hc2)
    obtain ⟨h51, h52⟩ := act_len hac
    have HAC := Aside0.mk hac
    rw [hac] at HC
    cases hmi : d.misA c with
    | some i =>
      rw [compl2 hac hmi]
      rw [hmi] at HMi
      generalize d.num 1 4 = n1 at *
      generalize d.num 5 2 = n5 at *
      generalize d.num 7 2 = n7 at *
      clear hM hN hc hc2 hac hmi
      go_enter Try.func21, Try.ntmps21
      go_wp2_with fail
      refine HC.out.mono ?_
      rintro e w1 ⟨rfl, hb⟩
      have HB1 := Aside0.mk (below_alloc hb (.cells #[.int .i64 n1, .int .i64 n5, .int .u16 n7] 71))
      clear hb
      go_wp2_with fail
      refine (HMi.out _ HB1.out).mono ?_
      rintro e w2 ⟨rfl, hb⟩
      have HB2 := Aside0.mk (below_step HB1.out hb)
      clear hb
      unfold misR
      go_wp2_with fail
      go_ret3
      exact ⟨_, rfl, (HM.out.step HB2.out).nilrow⟩
    | none =>
      rw [hmi] at HMi
      have HMI := Aside0.mk hmi
      obtain ⟨n, hn⟩ : ∃ n : Nat, d.num 5 2 = (n : Int) := ⟨(d.num 5 2).toNat, by omega⟩
      have hn0 : 1 ≤ n := by omega
      have hn2 : n ≤ 6144 := by omega
      have HNN := Aside0.mk hn
      have HRB := Aside0.mk (fun W (hb : Below w.heap.size w W) => ReadBytes_call (hM.step hb) sl n (by omega) (by omega) (by omega))
      have HLEN := Aside0.mk (rds_len hM.1 (a := sl) (n := n) (by omega))
      have HBY := Aside0.mk (rds_byte hM.1 sl n)
      rw [hn] at HC
      clear hac hmi h51 h52
      obtain ⟨n1, hn1⟩ : ∃ n1, n1 = d.num 1 4 := ⟨_, rfl⟩
      obtain ⟨n7, hn7⟩ : ∃ n7, n7 = d.num 7 2 := ⟨_, rfl⟩
      obtain ⟨xs, hxs⟩ : ∃ xs, xs = d.rds sl n := ⟨_, rfl⟩
      rw [← hn1, ← hn7] at HC
      rw [← hxs] at HRB HLEN HBY
      have HN1 := Aside0.mk hn1
      have HN7 := Aside0.mk hn7
      have HXS := Aside0.mk (show xs = d.rds sl (d.num 5 2).toNat by rw [hn, Int.toNat_natCast]; exact hxs)
      clear hM hN hc hc2 hn hn1 hn7 hxs
      go_enter Try.func21, Try.ntmps21
      go_wp2_with fail
      refine HC.out.mono ?_
      rintro e w1 ⟨rfl, hb⟩
      have HB1 := Aside0.mk (below_alloc hb (.cells #[.int .i64 n1, .int .i64 (n : Int), .int .u16 n7] 71))
      have HG1 := Aside0.mk (blk_new w1 (.cells #[.int .i64 n1, .int .i64 (n : Int), .int .u16 n7] 71))
      clear hb
      go_wp2_with fail
      refine (HMi.out _ HB1.out).mono ?_
      rintro e w2 ⟨rfl, hb⟩
      have HB2 := Aside0.mk (below_step HB1.out hb)
      have HG2 := Aside0.mk (blk_below HG1.out hb)
      clear hb HG1
      unfold misR
      go_wp2_with fail
      obtain ⟨z0, z1, _⟩ := (HM.out.step HB2.out).u
      have hS := And.intro (And.intro z0 z1) (blk_cell HG2.out 1)
      clear z0 z1
      go_region_held3 (fun W => (W.cell? ⟨gu, 0, none⟩ = some (.pointer (some ⟨gm, 0, none⟩)) ∧ W.cell? ⟨gu, 1, none⟩ = some (.int .i64 (sl : Int))) ∧ W.cell? ⟨w1.heap.size, 1, none⟩ = some (.int .i64 (n : Int)))
        (first
          | exact hS
          | (go_split_ands; refine ⟨⟨?_, ?_⟩, ?_⟩ <;> assumption))
        (first | (go_at_call 19
                  refine (HRB.out _ (below_drew HB2.out)).mono ?_
                  rintro e w3 ⟨v, rfl, hm⟩
                  have HM3 := Aside0.mk ((HM.out.step (below_drew HB2.out)).join1 hm)
                  have HG3 := Aside0.mk (blk_below (show w2.drew.heap[w1.heap.size]? = _ from HG2.out) hm.below)
                  obtain ⟨A, cp, rfl, hcp, hCC⟩ := hm.readsN HLEN.out
                  have HR3 := Aside0.mk (And.intro hcp hCC)
                  have HM23 := Aside0.mk hm.below
                  obtain ⟨z0, z1, _⟩ := HM3.out.u
                  have z2 := blk_cell HG3.out 1
                  clear hm hcp hCC))
      go_wp2_with fail
      clear z0 z1 z2 hS
      have HSUM := Aside0.mk (fun W (hb : Below w3.heap.size w3 W) => sum_call (w := W) (Kd.C_below HR3.out.2 hb) HR3.out.1 HBY.out (by omega))
      by_cases hcr : crcI xs = n7
      · have HCR := Aside0.mk hcr
        rw [hcr] at HSUM
        have HD := Aside0.mk (compl3 (sl := sl) HAC.out HMI.out (by rw [← HXS.out, ← HN7.out]; exact hcr))
        rw [← HXS.out, ← HN1.out] at HD
        clear hcr
        have hS := blk_cell (show w3.drew.heap[w1.heap.size]? = _ from HG3.out) 2
        go_region_held3 (fun W => W.cell? ⟨w1.heap.size, 2, none⟩ = some (.int .u16 n7))
          (first
            | exact hS
            | (go_split_ands; assumption))
          (first | (go_at_call 20
                    refine (HSUM.out _ (below_drew (Below.refl _ _))).mono ?_
                    rintro e w4 ⟨rfl, hb⟩
                    have HB4 := Aside0.mk (below_step (below_drew (Below.refl w3.heap.size w3)) hb)
                    have HG4 := Aside0.mk (blk_below HG3.out HB4.out)
                    have z2 := blk_cell HG4.out 2
                    clear hb))
        go_wp2_with fail
        have z0 := blk_cell HG4.out 0
        go_region
        go_wp2_with fail
        go_ret3
        rw [HD.out]
        exact ⟨_, rfl, (HM3.out.step HB4.out).drew'⟩
      · have HCR := Aside0.mk hcr
        have HD := Aside0.mk (compl4 (sl := sl) HAC.out HMI.out (by rw [← HXS.out, ← HN7.out]; exact hcr))
        have hS := blk_cell (show w3.drew.heap[w1.heap.size]? = _ from HG3.out) 2
        have hcb : (crcI xs == n7) = false := beq_eq_false_iff_ne.2 hcr
        clear hcr
        go_region_held3 (fun W => W.cell? ⟨w1.heap.size, 2, none⟩ = some (.int .u16 n7))
          (first
            | exact hS
            | (go_split_ands; assumption))
          (first | (go_at_call 20
                    refine (HSUM.out _ (below_drew (Below.refl _ _))).mono ?_
                    rintro e w4 ⟨rfl, hb⟩
                    have HB4 := Aside0.mk (below_step (below_drew (Below.refl w3.heap.size w3)) hb)
                    have HG4 := Aside0.mk (blk_below HG3.out HB4.out)
                    have z2 := blk_cell HG4.out 2
                    clear hb))
        have HDI := Aside0.mk (Discard_call ((HM.out.step HB2.out).step (below_step (below_drew (Below.refl w2.heap.size w2)) HM23.out) |>.step HB4.out) HN.out)
        cases hok : (d.wrs 3840 [0]).2 with
        | true =>
          rw [hok] at HDI
          have HOK := Aside0.mk hok
          clear hok
          go_wp2_with fail
          refine HDI.out.mono ?_
          rintro e w5 ⟨rfl, hm⟩
          have HM5 := Aside0.mk hm
          clear hm
          unfold errP
          go_wp2_with fail
          go_ret3
          rw [HD.out, HOK.out]
          exact ⟨_, rfl, HM5.out.nilrow⟩
        | false =>
          rw [hok] at HDI
          have HOK := Aside0.mk hok
          clear hok
          go_wp2_with fail
          refine HDI.out.mono ?_
          rintro e w5 ⟨rfl, hm⟩
          have HM5 := Aside0.mk hm
          clear hm
          unfold errP
          go_wp2_with fail
          go_ret3
          rw [HD.out, HOK.out]
          exact ⟨_, rfl, HM5.out.nilrow⟩
end Go.Proofs.Ytfcldacjnegacaa.Up
