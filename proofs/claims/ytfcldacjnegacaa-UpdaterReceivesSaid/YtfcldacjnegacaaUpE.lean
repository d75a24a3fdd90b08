/- The updater's reads: chunks, bit, stored, Version, Missing. -/
import Derived.Test.YtfcldacjnegacaaUpD
namespace Go.Proofs.Ytfcldacjnegacaa.Up
open Go.RowKit Go.Proofs.YtfcldacjnegacaaW.PrintWords Go.Proofs.YtfcldacjnegacaaW.PrintLast Go.Proofs.YtfcldacjnegacaaW.PrintMore Go.Proofs.Ytfcldacjnegacaa.Sl
set_option linter.unusedVariables false
set_option linter.unusedSimpArgs false
variable {L : List Chunk} {w0 w w' : World} {gm gb gu N c : Nat} {d : Dv} {slot chunk : Int}
/-- How many chunks. -/
def nch (l c : Nat) : Nat := (l + c - 1) / c
theorem chunks_call (hM : NvM w0 w gm gb N d (upd gu gm slot (c : Int) L)) (l : Nat) (hl : l ≤ 6144) (hc : 4 ≤ c) (hc2 : c ≤ 36) :
    Calls Try.prog 36 #[.pointer (some ⟨gu, 0, none⟩), .int .i64 (l : Int)] w fun e w' => e = .returned (.int .i64 (nch l c : Int)) ∧ Below w.heap.size w w' := by
  have x2 := hM.u.2.2
  have e1 : wrap64 ((l : Int) + (c : Int)) = (l : Int) + (c : Int) := by unfold wrap64; omega
  have e2 : wrap64 ((l : Int) + (c : Int) - 1) = ((l + c - 1 : Nat) : Int) := by unfold wrap64; omega
  have hc0 : ¬ (c : Int) = 0 := by omega
  have hc1 : ¬ (c : Int) = -1 := by omega
  have HB := Aside0.mk (show (((l + c - 1 : Nat) : Int) / (c : Int)) = (nch l c : Int) by unfold nch; omega)
  have hq : (l + c - 1) / c ≤ 100000 := Nat.le_trans (Nat.div_le_self _ _) (by omega)
  have HQ := Aside0.mk hq
  clear hM hl hc hc2
  go_enter Try.func36, Try.ntmps36
  go_wp2
  go_region
  go_wp2
  go_ret
  refine ⟨?_, below_drew (Below.refl _ _)⟩
  have e : wrap64 (((l + c - 1 : Nat) : Int) / (c : Int)) = (nch l c : Int) := by
    rw [HB.out]
    have h : nch l c ≤ 100000 := HQ.out
    generalize nch l c = q at h
    unfold wrap64
    omega
  rw [← e]
  rfl
theorem bit_call (w : World) (i : Nat) (hi : i ≤ 2000) :
    Calls Try.prog 39 #[.int .i64 (i : Int)] w fun e w' => e = .returned (.tuple #[.int .i64 ((16 + i / 8 : Nat) : Int), .int .u8 (2 ^ (i % 8))]) ∧ Below w.heap.size w w' := by
  go_enter Try.func39, Try.ntmps39
  go_wp2
  go_region
  go_wp2
  go_ret2
  refine ⟨?_, below_drew (Below.refl _ _)⟩
  have e : (2 : Int) ^ (i % 8) % 256 = 2 ^ (i % 8) := by
    have h8 : i % 8 = 0 ∨ i % 8 = 1 ∨ i % 8 = 2 ∨ i % 8 = 3 ∨ i % 8 = 4 ∨ i % 8 = 5 ∨ i % 8 = 6 ∨ i % 8 = 7 := by omega
    rcases h8 with h | h | h | h | h | h | h | h <;> rw [h] <;> decide
  rw [← e]
  simp
/-- Whether chunk i is stored. -/
def Dv.st (d : Dv) (i : Nat) : Bool := decide (d.num (16 + i / 8) 1 / 2 ^ (i % 8) % 2 = 1)
theorem and_bit8 : ∀ x : Fin 256, ∀ k : Fin 8, (bits .and .u8 ((x.val : Nat) : Int) (2 ^ k.val) != 0) = decide (((x.val : Nat) : Int) / 2 ^ k.val % 2 = 1) := by decide +kernel
theorem and_bit (x : Int) (h0 : 0 ≤ x) (h1 : x < 256) (k : Nat) (hk : k < 8) : (bits .and .u8 x (2 ^ k) != 0) = decide (x / 2 ^ k % 2 = 1) := by
  obtain ⟨n, rfl⟩ := Int.eq_ofNat_of_zero_le h0
  exact and_bit8 ⟨n, by omega⟩ ⟨k, hk⟩
theorem stored_call (hM : NvM w0 w gm gb N d (upd gu gm slot chunk L)) (hN : N = 10240) (i : Nat) (hi : i < 1600) :
    Calls Try.prog 37 #[.pointer (some ⟨gu, 0, none⟩), .int .i64 (i : Int)] w fun e w' => e = .returned (.bool (d.st i)) ∧ Below w.heap.size w w' := by
  have HB := Aside0.mk (bit_call w i (by omega))
  have HK := Aside0.mk (fun W (hb : Below w.heap.size w W) => number_call (hM.step hb) (16 + i / 8) 1 (by omega) (by omega) (by omega) (by omega))
  have h0 : 0 ≤ d.num (16 + i / 8) 1 := num_nn hM.1 _ _
  have h1 : d.num (16 + i / 8) 1 < 256 := num_lt hM.1 (by omega)
  have HA := Aside0.mk (and_bit _ h0 h1 (i % 8) (by omega))
  have HS := Aside0.mk (show d.st i = decide (d.num (16 + i / 8) 1 / 2 ^ (i % 8) % 2 = 1) from rfl)
  generalize d.num (16 + i / 8) 1 = x at *
  generalize 16 + i / 8 = t at *
  have e1 : x % 256 = x := by omega
  obtain ⟨y, hy⟩ : ∃ y, bits .and .u8 x (2 ^ (i % 8)) = y := ⟨_, rfl⟩
  rw [hy] at HA
  generalize (2 : Int) ^ (i % 8) = m at *
  clear hM h0 h1
  go_enter Try.func37, Try.ntmps37
  go_wp2_with fail
  refine HB.out.mono ?_
  rintro e w1 ⟨rfl, hb⟩
  have HB1 := Aside0.mk hb
  clear hb
  go_wp2_with fail
  refine (HK.out _ HB1.out).mono ?_
  rintro e w2 ⟨rfl, hb⟩
  have HB2 := Aside0.mk (below_step HB1.out hb)
  clear hb
  go_wp2_with fail
  go_ret
  refine ⟨?_, HB2.out⟩
  rw [HS.out, ← HA.out]
  rfl
theorem Version_call (hM : NvM w0 w gm gb N d (upd gu gm slot chunk L)) (hN : N = 10240) :
    Calls Try.prog 22 #[.pointer (some ⟨gu, 0, none⟩)] w fun e w' => e = .returned (.tuple #[.int .i64 (if d.act chunk = true then d.num 1 4 else 0), .bool (d.act chunk)]) ∧ Below w.heap.size w w' := by
  have HC := Aside0.mk (current_call hM hN)
  generalize d.act chunk = ac at *
  generalize d.num 1 4 = n1 at *
  clear hM hN
  go_enter Try.func22, Try.ntmps22
  go_wp2_with fail
  refine HC.out.mono ?_
  rintro e w1 ⟨rfl, hb⟩
  have HB1 := Aside0.mk hb
  clear hb
  cases ac with
  | true =>
    go_wp2
    go_ret2
    exact ⟨rfl, below_alloc HB1.out _⟩
  | false =>
    go_wp2
    go_ret2
    exact ⟨rfl, below_alloc HB1.out _⟩
/-- The first chunk that is missing. -/
def Dv.mis (d : Dv) (n : Nat) : Option Nat := (List.range n).find? (fun i => !d.st i)
theorem mis_some {n i : Nat} (hi : i < n) (h : ∀ j < i, d.st j = true) (hn : d.st i = false) : d.mis n = some i := by
  unfold Dv.mis
  rw [List.find?_range_eq_some]
  exact ⟨by rw [hn]; rfl, List.mem_range.2 hi, fun j hj => by rw [h j hj]; rfl⟩
theorem mis_none {n : Nat} (h : ∀ j < n, d.st j = true) : d.mis n = none := by
  unfold Dv.mis
  rw [List.find?_eq_none]
  intro j hj
  rw [h j (List.mem_range.1 hj)]
  simp
def misR : Option Nat → Value
  | some i => .tuple #[.int .i64 (i : Int), .bool true]
  | none => .tuple #[.int .i64 0, .bool false]
def Dv.misA (d : Dv) (c : Nat) : Option Nat := if d.act (c : Int) = true then d.mis (nch (d.num 5 2).toNat c) else none
theorem act_len {d : Dv} {chunk : Int} (h : d.act chunk = true) : 1 ≤ d.num 5 2 ∧ d.num 5 2 ≤ 6144 := by
  unfold Dv.act at h
  simp at h
  exact ⟨h.1.1.2, h.1.2⟩
def MisRel (w : World) (d : Dv) (n : Nat) (vi : Value) (wr : World) : Prop := ∃ i : Nat, i ≤ n ∧ vi = .int .i64 (i : Int) ∧ (∀ j < i, d.st j = true) ∧ Below w.heap.size w wr
theorem nch_le {l c : Nat} (hl : l ≤ 6144) (hc : 4 ≤ c) : nch l c ≤ 1536 := by
  unfold nch
  rw [Nat.div_le_iff_le_mul_add_pred (by omega)]
  have : 4 * 1536 ≤ c * 1536 := Nat.mul_le_mul_right _ hc
  omega
theorem Missing_call (hM : NvM w0 w gm gb N d (upd gu gm slot (c : Int) L)) (hN : N = 10240) (hc : 4 ≤ c) (hc2 : c ≤ 36) :
    Calls Try.prog 18 #[.pointer (some ⟨gu, 0, none⟩)] w fun e w' => e = .returned (misR (d.misA c)) ∧ Below w.heap.size w w' := by
  have HC := Aside0.mk (current_call hM hN)
  have HM := Aside0.mk hM
  have HN := Aside0.mk hN
  have HCC := Aside0.mk (And.intro hc hc2)
  unfold Dv.misA
  have HL := Aside0.mk (act_len (d := d) (chunk := (c : Int)))
  generalize d.act (c : Int) = ac at *
  clear hM hN hc hc2
  cases ac with
  | false =>
    generalize d.num 1 4 = n1 at *
    generalize d.num 5 2 = n5 at *
    generalize d.num 7 2 = n7 at *
    go_enter Try.func18, Try.ntmps18
    go_wp2_with fail
    refine HC.out.mono ?_
    rintro e w1 ⟨rfl, hb⟩
    have HB1 := Aside0.mk hb
    clear hb
    go_wp2_with fail
    go_ret2
    exact ⟨rfl, below_alloc HB1.out _⟩
  | true =>
    obtain ⟨h1, h2⟩ := HL.out rfl
    obtain ⟨l, hl⟩ : ∃ l : Nat, d.num 5 2 = (l : Int) := ⟨(d.num 5 2).toNat, by omega⟩
    rw [hl] at h1 h2 HC ⊢
    have hl2 : l ≤ 6144 := by omega
    rw [if_pos rfl, Int.toNat_natCast]
    have HNC := Aside0.mk (fun W (hb : Below w.heap.size w W) => chunks_call (HM.out.step hb) l hl2 HCC.out.1 HCC.out.2)
    have HST := Aside0.mk (fun W (hb : Below w.heap.size w W) i hi => stored_call (HM.out.step hb) HN.out i hi)
    have hn : nch l c ≤ 1536 := nch_le hl2 HCC.out.1
    generalize nch l c = n at *
    generalize d.num 1 4 = n1 at *
    generalize d.num 7 2 = n7 at *
    clear HM h1 h2 HL hl hl2
    go_enter Try.func18, Try.ntmps18
    go_wp2_with fail
    refine HC.out.mono ?_
    rintro e w1 ⟨rfl, hb⟩
    have HB1 := Aside0.mk (below_alloc hb (.cells #[.int .i64 n1, .int .i64 (l : Int), .int .u16 n7] 71))
    clear hb
    go_wp2_with fail
    refine (HNC.out _ HB1.out).mono ?_
    rintro e w2 ⟨rfl, hb⟩
    have HB2 := Aside0.mk (below_step HB1.out hb)
    clear hb
    go_wp2_with fail
    go_loopw [18] (fun vi wr => MisRel w d n vi wr) (fun vi _ => n - (intOf vi).toNat)
    case atStart => exact ⟨0, Nat.zero_le _, rfl, fun j hj => by omega, HB2.out⟩
    case round =>
      obtain ⟨i, hi, rfl, hst, hb⟩ := hrel
      have HST2 := Aside0.mk hst
      have HBr := Aside0.mk hb
      clear hst hb HB2
      by_cases hlt : i < n
      · have HSi := Aside0.mk (HST.out _ HBr.out i (by omega))
        cases hs : d.st i with
        | true =>
          rw [hs] at HSi
          have HS := Aside0.mk hs
          clear hs
          go_wp2_with fail
          refine HSi.out.mono ?_
          rintro e w3 ⟨rfl, hb⟩
          have HB3 := Aside0.mk (below_step HBr.out hb)
          clear hb HSi
          go_wp2_with fail
          go_roundw
          case rel => exact ⟨i + 1, by omega, by first | go_num | (congr 1), fun j hj => by
            by_cases e : j = i
            · subst e; exact HS.out
            · exact HST2.out j (by omega), HB3.out⟩
          case measure => simp [intOf]; omega
        | false =>
          rw [hs] at HSi
          have HS := Aside0.mk hs
          clear hs
          go_wp2_with fail
          refine HSi.out.mono ?_
          rintro e w3 ⟨rfl, hb⟩
          have HB3 := Aside0.mk (below_step HBr.out hb)
          clear hb HSi
          go_wp2_with fail
          go_ret2
          rw [mis_some hlt HST2.out HS.out]
          exact ⟨rfl, HB3.out⟩
      · have hin : i = n := by omega
        subst hin
        go_wp2_with fail
        go_ret2
        rw [mis_none HST2.out]
        exact ⟨rfl, HBr.out⟩
end Go.Proofs.Ytfcldacjnegacaa.Up
