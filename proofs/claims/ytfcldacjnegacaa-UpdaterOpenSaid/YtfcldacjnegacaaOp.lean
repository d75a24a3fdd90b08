/- UpdaterOpen: the law answers true. -/
import Derived.Test.YtfcldacjnegacaaSm
namespace Go.Proofs.Ytfcldacjnegacaa.Up
open Go.RowKit Go.Proofs.YtfcldacjnegacaaW.PrintWords Go.Proofs.YtfcldacjnegacaaW.PrintLast Go.Proofs.YtfcldacjnegacaaW.PrintMore Go.Proofs.Ytfcldacjnegacaa.Sl
set_option linter.unusedVariables false
set_option linter.unusedSimpArgs false
theorem valid_good {w : World} {c : Nat} (hc : 4 ≤ c) (hc2 : c ≤ 36) : Calls Try.prog 10 #[.int .i64 10240, .int .i64 4096, .int .i64 (c : Int)] w fun e w' => e = .returned (.bool true) ∧ w = w' := by
  have c1 : ¬ (c : Int) < 4 := by omega
  have c2 : ¬ (36 : Int) < (c : Int) := by omega
  have c1n : ¬ c < 4 := by omega
  have c2n : ¬ 36 < c := by omega
  clear hc hc2
  go_enter Try.func10, Try.ntmps10
  go_wp2
  go_ret
  exact ⟨rfl, rfl⟩
theorem valid_bad {w : World} {s c : Int} (h : ¬ goodO s c) : Calls Try.prog 10 #[.int .i64 10240, .int .i64 s, .int .i64 c] w fun e w' => e = .returned (.bool false) ∧ w = w' := by
  unfold goodO at h
  by_cases h1 : c < 4
  · clear h
    go_enter Try.func10, Try.ntmps10
    go_wp2
    go_ret
    exact ⟨rfl, rfl⟩
  by_cases h2 : 36 < c
  · clear h
    go_enter Try.func10, Try.ntmps10
    go_wp2
    go_ret
    exact ⟨rfl, rfl⟩
  by_cases h3 : s < 0
  · clear h
    go_enter Try.func10, Try.ntmps10
    go_wp2
    go_ret
    exact ⟨rfl, rfl⟩
  by_cases h4 : 4096 < s
  · clear h
    go_enter Try.func10, Try.ntmps10
    go_wp2
    go_ret
    exact ⟨rfl, rfl⟩
  have h5 : ¬ 4096 ≤ s := by omega
  have h6 : wrap64 (s + 6144) = s + 6144 := by unfold wrap64; omega
  have h7 : ¬ s + 6144 ≤ 3840 := by omega
  have h8 : s < 4096 := by omega
  clear h
  go_enter Try.func10, Try.ntmps10
  go_wp2
  go_ret
  exact ⟨rfl, rfl⟩
variable {L : List Chunk} {w0 w w' : World} {gm gb gu gd gr N c : Nat} {d e : Dv}
theorem same_true' (hS : St w0 w gm gb gu gd gr N d d c L) (hN : N = 10240) (hc : 4 ≤ c) (hc2 : c ≤ 36) :
    Calls Try.prog 12 #[.agg #[.pointer (some ⟨gm, 0, none⟩), .pointer (some ⟨gu, 0, none⟩), .pointer (some ⟨gd, 0, none⟩), .int .i64 4096, .int .i64 (c : Int)]] w fun e w' => e = .returned (.bool true) ∧ Below w.heap.size w w' := by
  cases h : d.misA c with
  | some i => exact same_any (i := (i : Int)) (b := true) hS hN hc hc2 (by rw [h]; rfl) rfl rfl
  | none => exact same_any (i := 0) (b := false) hS hN hc hc2 (by rw [h]; rfl) rfl rfl
set_option maxRecDepth 100000 in
set_option maxHeartbeats 4000000 in
theorem Open_law (A : Option Addr) (cp : Nat) (p : List Int) (s ch : Int) (w : World) (hr0 : (Kd.int .u8).C w A p.length p) (hp : ∀ x ∈ p, 0 ≤ x ∧ x < 256) :
    Calls Try.prog 3 #[.slice A p.length cp, .int .i64 s, .int .i64 ch] w fun e w' => e = .returned (.bool true) ∧ Below w.heap.size w w' := by
  have HWK := Aside0.mk (wakes_call (Mem.start w))
  have HR0 := Aside0.mk hr0
  have HP := Aside0.mk hp
  clear hr0 hp
  obtain ⟨n, hn⟩ : ∃ n, n = p.length := ⟨_, rfl⟩
  have HNP := Aside0.mk hn
  rw [← hn] at HR0 ⊢
  clear hn
  by_cases h256 : n ≤ 256
  case neg =>
    have c1 : decide ((256 : Int) < (n : Int)) = true := decide_eq_true (by omega)
    have c1' : decide (256 < n) = true := decide_eq_true (by omega)
    clear h256
    go_enter Try.func3, Try.ntmps3
    go_wp2_with fail
    refine HWK.out.mono ?_
    rintro e w1 ⟨rfl, h1⟩
    have HB1 := Aside0.mk h1.below
    clear h1 HWK
    go_wp2_with fail
    go_ret
    exact ⟨rfl, HB1.out⟩
  have c1 : decide ((256 : Int) < (n : Int)) = false := decide_eq_false (by omega)
  have c1' : decide (256 < n) = false := decide_eq_false (by omega)
  have H256 := Aside0.mk h256
  clear h256
  by_cases hg : goodO s ch
  · obtain ⟨rfl, hc, hc2⟩ := hg
    obtain ⟨c, rfl⟩ : ∃ c : Nat, ch = (c : Int) := ⟨ch.toNat, by omega⟩
    have HC := Aside0.mk (show 4 ≤ c ∧ c ≤ 36 by omega)
    clear hc hc2
    go_enter Try.func3, Try.ntmps3
    go_wp2_with fail
    refine HWK.out.mono ?_
    rintro e w1 ⟨rfl, h1⟩
    have HM1 := Aside0.mk h1
    clear h1 HWK
    go_wp2_with fail
    refine (start_good0 HM1.out HR0.out HP.out H256.out HC.out.1 HC.out.2).mono ?_
    rintro e w2 ⟨gm, gb, gu, gd, gr, N, hN, rfl, hm, hd⟩
    have HN := Aside0.mk hN
    have HD := Aside0.mk hd
    have HM2 := Aside0.mk (hm.alloc (.cells #[.pointer (some ⟨gm, 0, none⟩), .pointer (some ⟨gu, 0, none⟩), .pointer (some ⟨gd, 0, none⟩), .int .i64 4096, .int .i64 (c : Int)] 30))
    clear hm hd hN
    go_wp2_with fail
    refine (valid_good HC.out.1 HC.out.2).mono ?_
    rintro e w3 ⟨rfl, rfl⟩
    go_wp2_with fail
    refine (Writes_call HM2.out).mono ?_
    rintro e w3 ⟨rfl, rfl⟩
    go_wp2_with fail
    refine (same_true' (L := []) ⟨⟨HD.out, 0, 0, fun h => absurd h (by show ¬ (0 : Int) ≤ -1; decide), HM2.out⟩, HD.out⟩ HN.out HC.out.1 HC.out.2).mono ?_
    rintro e w3 ⟨rfl, hb⟩
    have HB3 := Aside0.mk (below_step HM2.out.below hb)
    clear hb
    go_wp2_with fail
    go_ret
    exact ⟨rfl, HB3.out⟩
  · have HG := Aside0.mk hg
    clear hg
    go_enter Try.func3, Try.ntmps3
    go_wp2_with fail
    refine HWK.out.mono ?_
    rintro e w1 ⟨rfl, h1⟩
    have HM1 := Aside0.mk h1
    clear h1 HWK
    go_wp2_with fail
    refine (start_bad HM1.out HR0.out HP.out H256.out HG.out).mono ?_
    rintro e w2 ⟨gm, gd, rfl, hb⟩
    have HB2 := Aside0.mk hb
    clear hb
    go_wp2_with fail
    refine (valid_bad HG.out).mono ?_
    rintro e w3 ⟨rfl, rfl⟩
    go_wp2_with fail
    go_ret
    exact ⟨rfl, below_alloc HB2.out _⟩
theorem Open_row {R0 : Prop} (A : Option Addr) (cp : Nat) (p : List Int) (s ch : Int) (w : World) (hr0 : (Kd.int .u8).C w A p.length p) (hc0 : p.length ≤ cp)
    (g0 : R0 ∧ p.length ≤ maxLen ∧ ∀ x ∈ p, (Lit.int .u8 x).wf = true) (g1 : (Lit.int .i64 s).wf = true) (g2 : (Lit.int .i64 ch).wf = true) :
    Calls Try.prog 3 #[.slice A p.length cp, .int .i64 s, .int .i64 ch] w fun e w' => e = .returned (.bool true) ∧ Below w.heap.size w w' :=
  Open_law A cp p s ch w hr0 (fun x hx => by have := PUpdaterMatchesModel.wf_u8 g0.2.2 x hx; omega)
end Go.Proofs.Ytfcldacjnegacaa.Up
