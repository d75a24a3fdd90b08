/- What the slot holds behind chunks that were stored. -/
import Derived.Test.YtfcldacjnegacaaSto
import Derived.Test.YtfcldacjnegacaaSpP
namespace Go.Proofs.Ytfcldacjnegacaa.Up
open Go.RowKit Go.Proofs.YtfcldacjnegacaaW.PrintWords
set_option linter.unusedVariables false
/-- The first j chunks hold the image's bytes. -/
def Fill (B cs : List Int) (c n j : Nat) : Prop := ∀ t, t < j * c → t < n → G B (4096 + t) = G cs t
theorem cutL_G {cs : List Int} {c i t : Nat} (h : i * c ≤ t) (h2 : t < i * c + clen cs.length c i) : G (cutL cs c i) (t - i * c) = G cs t := by
  show (cutL cs c i).getD (t - i * c) 0 = cs.getD t 0
  unfold cutL
  simp only [List.getD_eq_getElem?_getD]
  rw [List.getElem?_take, if_pos (by omega), List.getElem?_drop, show i * c + (t - i * c) = t by omega]
theorem fill_store {B cs : List Int} {c n j : Nat} (hB : B.length = 10240) (hn : cs.length = n) (hn2 : n ≤ 6144) (hj : j < nch n c) (hj2 : j < 1900) (hf : Fill B cs c n j) : Fill (putB B 4096 c j (cutL cs c j)) cs c n (j + 1) := by
  intro t ht htn
  have hl : (cutL cs c j).length = clen n c j := cutL_len.trans (by rw [hn])
  have hfit := chunk_fits hn2 hj rfl
  rw [Nat.add_mul, Nat.one_mul] at ht
  rw [putB_G (by omega) hj2 (by rw [hl]; exact hfit) _ (by omega), hl]
  by_cases h : j * c ≤ t
  · have hcl : t < j * c + clen n c j := by unfold clen; omega
    rw [if_pos (by omega), show 4096 + t - (4096 + j * c) = t - j * c by omega]
    exact cutL_G h (by rw [hn]; exact hcl)
  · rw [if_neg (by omega)]
    exact hf t (by omega) htn
theorem fill_zero (B cs : List Int) (c n : Nat) : Fill B cs c n 0 := fun t ht => by omega
theorem nch_all {n c : Nat} (hc : 1 ≤ c) : n ≤ nch n c * c := by
  unfold nch
  have := Nat.div_add_mod (n + c - 1) c
  have h2 := Nat.mod_lt (n + c - 1) (show c > 0 by omega)
  rw [Nat.mul_comm]
  omega
theorem fill_rds {B cs : List Int} {c n : Nat} (hB : B.length = 10240) (hn : cs.length = n) (hn2 : n ≤ 6144) (hc : 1 ≤ c) (hf : Fill B cs c n (nch n c)) : (on B).rds 4096 n = cs := by
  rw [rds_on rfl, take_G _ _ _ (by show 4096 + n ≤ B.length; omega)]
  apply List.ext_getElem
  · simp [hn]
  · intro t h1 h2
    simp only [List.getElem_map, List.getElem_range]
    have := nch_all (n := n) hc
    rw [hf t (by omega) (by omega)]
    show cs.getD t 0 = cs[t]
    rw [List.getD_eq_getElem?_getD, List.getElem?_eq_getElem h2]
    rfl
/-- All chunks are stored, but the sum is another: Complete ends the transfer. -/
theorem part_spoilt {B cs : List Int} {v s : Int} {n c : Nat} (h : Part B v (n : Int) s c (nch n c) (nch n c)) (hn : cs.length = n) (hn1 : 1 ≤ n) (hn2 : n ≤ 6144) (hc : 4 ≤ c) (hf : Fill B cs c n (nch n c)) (hs : crcI cs ≠ s) :
    ∃ B', (on B).compl 4096 c = (on B', [], 0, 4) ∧ (on B').act (c : Int) = false := by
  have hlen := h.len
  have hm := part_mis h rfl hn1 hn2 hc
  rw [if_neg (by omega)] at hm
  have hl4 : 4096 ≤ (on B).B.length := by show 4096 ≤ B.length; omega
  have h52 : (on B).num 5 2 = (n : Int) := by rw [n52 rfl hl4]; exact h.hd.l
  have h72 : (on B).num 7 2 = s := by rw [n72 rfl hl4]; exact h.hd.s
  refine ⟨ins B 3840 [0], ?_, zero_act (by rw [ins_len]; omega) ?_ c⟩
  · rw [compl4 (h.hd.act rfl hl4 (by omega) (by omega)) hm (by rw [h52, Int.toNat_natCast, fill_rds hlen hn hn2 (by omega) hf, h72]; exact hs), wrs_on]
    rfl
  · have := G_in (l := [0]) (B := B) (a := 3840) (j := 0) (by simp; omega) (by simp)
    exact this
/-- All chunks are stored and the sum is right: Complete gives the image. -/
theorem part_whole {B cs : List Int} {v s : Int} {n c : Nat} (h : Part B v (n : Int) s c (nch n c) (nch n c)) (hn : cs.length = n) (hn1 : 1 ≤ n) (hn2 : n ≤ 6144) (hc : 4 ≤ c) (hf : Fill B cs c n (nch n c)) (hs : crcI cs = s) :
    (on B).compl 4096 c = (on B, cs, v, 0) := by
  have hlen := h.len
  have hm := part_mis h rfl hn1 hn2 hc
  rw [if_neg (by omega)] at hm
  have hl4 : 4096 ≤ (on B).B.length := by show 4096 ≤ B.length; omega
  have h52 : (on B).num 5 2 = (n : Int) := by rw [n52 rfl hl4]; exact h.hd.l
  have h72 : (on B).num 7 2 = s := by rw [n72 rfl hl4]; exact h.hd.s
  have h14 : (on B).num 1 4 = v := by rw [n14 rfl hl4]; exact h.hd.v
  have hr : (on B).rds 4096 ((on B).num 5 2).toNat = cs := by rw [h52, Int.toNat_natCast, fill_rds hlen hn hn2 (by omega) hf]
  rw [compl3 (h.hd.act rfl hl4 (by omega) (by omega)) hm (by rw [hr, h72]; exact hs), hr, h14]
end Go.Proofs.Ytfcldacjnegacaa.Up
