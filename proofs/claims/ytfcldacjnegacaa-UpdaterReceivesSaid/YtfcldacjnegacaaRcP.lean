/- Receiving an image through power failures: the pure part. No program in sight. -/
import Derived.Test.YtfcldacjnegacaaSpQ
namespace Go.Proofs.Ytfcldacjnegacaa.Up
open Go.RowKit Go.Proofs.YtfcldacjnegacaaW.PrintWords
set_option linter.unusedVariables false
/-- An active transfer of b: each chunk that is marked holds b's bytes. -/
structure Rcv (B b : List Int) : Prop where
  hd : Hd B 3 (b.length : Int) (crcI b) 8
  fil : ∀ i, i < nch b.length 8 → stB B i = true → ∀ t, i * 8 ≤ t → t < i * 8 + clen b.length 8 i → G B (4096 + t) = G b t
def RInv (B b : List Int) : Prop := (on B).act ((8 : Nat) : Int) = true → Rcv B b
theorem act_k (B : List Int) (k : Int) (c : Int) : Dv.act ⟨B, false, k⟩ c = (on B).act c := rfl
theorem st_k (B : List Int) (k : Int) (i : Nat) : Dv.st ⟨B, false, k⟩ i = (on B).st i := rfl
theorem Rcv.act {B b : List Int} (h : Rcv B b) (hB : B.length = 10240) (h1 : 1 ≤ b.length) (h2 : b.length ≤ 300) : (on B).act ((8 : Nat) : Int) = true :=
  h.hd.act rfl (show 4096 ≤ B.length by omega) (by omega) (by omega)
theorem Rcv.inv {B b : List Int} (h : Rcv B b) : RInv B b := fun _ => h
theorem rc_offer {B b : List Int} {k : Int} (hok : Dv.Ok 10240 ⟨B, false, k⟩) (h1 : 1 ≤ b.length) (h2 : b.length ≤ 300) (hI : RInv B b) :
    (∃ B' k', Dv.offer ⟨B, false, k⟩ 8 3 (b.length : Int) (crcI b) = (⟨B', false, k'⟩, 0) ∧ Rcv B' b ∧ (k < 0 → k' = k)) ∨
    (∃ B' k' r, Dv.offer ⟨B, false, k⟩ 8 3 (b.length : Int) (crcI b) = (⟨B', true, k'⟩, r) ∧ r = 9 ∧ RInv B' b ∧ 0 ≤ k) := by
  have hlen : B.length = 10240 := hok.len
  have hlo : -1 ≤ k := hok.lo
  have hhi : k ≤ 1000 := hok.hi
  have hl4 : 4096 ≤ (Dv.mk B false k).B.length := by show 4096 ≤ B.length; omega
  cases hact : (on B).act ((8 : Nat) : Int) with
  | true =>
    have hr := hI hact
    refine .inl ⟨B, k, ?_, hr, fun _ => rfl⟩
    unfold Dv.offer
    have e1 : Dv.num ⟨B, false, k⟩ 1 4 = 3 := by rw [n14 rfl hl4]; exact hr.hd.v
    have e2 : Dv.num ⟨B, false, k⟩ 5 2 = (b.length : Int) := by rw [n52 rfl hl4]; exact hr.hd.l
    have e3 : Dv.num ⟨B, false, k⟩ 7 2 = crcI b := by rw [n72 rfl hl4]; exact hr.hd.s
    rw [if_neg (by rw [bad_ok (by omega) (by omega) (by omega) (by omega)]; simp), if_pos ⟨by rw [act_k]; exact hact, by rw [e1, e2, e3]; simp⟩]
  | false =>
    obtain ⟨hm, hm2⟩ := nch_bits (l := b.length) (c := 8) (by omega) (by omega)
    rw [offer_new (bad_ok (by omega) (by omega) (by omega) (by omega)) (by rw [act_k, hact]; simp) (by rw [act_k, hact]; simp)]
    rcases seq_spec hlo hhi 3 (b.length : Int) (crcI b) 8 ((nch (b.length : Int).toNat 8 + 7) / 8) (show 10240 ≤ B.length by omega) (by rw [Int.toNat_natCast]; exact hm) with ⟨k', e1, _, _, e2⟩ | ⟨hk, B', hB', hl', e2⟩
    · refine .inl ⟨_, k', by rw [e2]; rfl, ⟨off_Hd (by omega) (by rw [Int.toNat_natCast]; exact hm) ⟨by omega, by omega⟩ ⟨by omega, by omega⟩ ⟨crcI_nn b, crcI_lt b⟩ (by omega), fun i hi hs => ?_⟩, e1⟩
      rw [off_st (by omega) (by rw [Int.toNat_natCast]; exact hm) i (by rw [Int.toNat_natCast]; omega)] at hs
      cases hs
    · refine .inr ⟨B', 0, 9, by rw [e2]; rfl, rfl, ?_, hk⟩
      rcases hB' with rfl | h0
      · exact hI
      · intro ha
        rw [zero_act (by omega) h0 8] at ha
        cases ha
theorem cutL_byte {b : List Int} (hb : ∀ x ∈ b, 0 ≤ x ∧ x < 256) (c i : Nat) : ∀ x ∈ cutL b c i, 0 ≤ x ∧ x < 256 :=
  fun x hx => hb x (List.mem_of_mem_drop (List.mem_of_mem_take hx))
theorem rc_other {l i j t : Nat} (hne : j ≠ i) (h1 : j * 8 ≤ t) (h2 : t < j * 8 + clen l 8 j) : ¬ (4096 + i * 8 ≤ 4096 + t ∧ 4096 + t < 4096 + i * 8 + clen l 8 i) := by
  unfold clen at *
  omega
theorem rc_store {B b : List Int} {o : Bool} {k : Int} {i : Nat} (hok : Dv.Ok 10240 ⟨B, o, k⟩) (h1 : 1 ≤ b.length) (h2 : b.length ≤ 300) (hb : ∀ x ∈ b, 0 ≤ x ∧ x < 256) (hr : Rcv B b) (hi : i < nch b.length 8) :
    Rcv (Dv.store ⟨B, o, k⟩ 4096 8 (i : Int) (cutL b 8 i)).1.B b := by
  have hlen : B.length = 10240 := hok.len
  have hq := nch_le (l := b.length) (c := 8) (by omega) (by omega)
  cases o with
  | true =>
    unfold Dv.store
    rw [if_pos (act_off rfl _)]
    exact hr
  | false =>
    have hact : Dv.act ⟨B, false, k⟩ ((8 : Nat) : Int) = true := hr.act hlen h1 h2
    have hl4 : 4096 ≤ (Dv.mk B false k).B.length := by show 4096 ≤ B.length; omega
    have h52 : Dv.num ⟨B, false, k⟩ 5 2 = (b.length : Int) := by rw [n52 rfl hl4]; exact hr.hd.l
    have hcl : (cutL b 8 i).length = clen b.length 8 i := cutL_len
    have hf := chunk_fits (l := b.length) (c := 8) (n := (cutL b 8 i).length) (by omega) hi hcl
    cases hs : stB B i with
    | true =>
      unfold Dv.store
      rw [if_neg (by rw [hact]; simp), h52, Int.toNat_natCast, Int.toNat_natCast, if_neg (by omega), if_pos (by rw [st_on rfl hl4 i (by omega)]; exact hs)]
      exact hr
    | false =>
      rcases store_spec hok rfl (by omega) hact hr.hd.l hi hcl hs with ⟨_, k', _, _, _, e⟩ | ⟨n, hn, _, _, e⟩
      · rw [e]
        show Rcv (putB B 4096 8 i (cutL b 8 i)) b
        refine ⟨putB_Hd hr.hd (by omega) (by omega) hf, fun j hj hst t ht1 ht2 => ?_⟩
        rw [putB_st hok (by omega) (by omega) hf j (by omega)] at hst
        rw [putB_G (by omega) (by omega) hf _ (by omega)]
        by_cases hji : j = i
        · subst hji
          rw [if_pos (by rw [hcl]; omega), show 4096 + t - (4096 + j * 8) = t - j * 8 by omega]
          exact cutL_G ht1 ht2
        · rw [if_neg (by rw [hcl]; exact rc_other hji ht1 ht2)]
          exact hr.fil j hj (by simpa [hji] using hst) t ht1 ht2
      · rw [e]
        show Rcv (ins B (4096 + i * 8) ((cutL b 8 i).take n)) b
        have hlt : ((cutL b 8 i).take n).length ≤ clen b.length 8 i := by rw [List.length_take]; omega
        refine ⟨hr.hd.congr fun j hj1 hj2 => G_out (by omega) (by omega), fun j hj hst t ht1 ht2 => ?_⟩
        have e2 : stB (ins B (4096 + i * 8) ((cutL b 8 i).take n)) j = stB B j := by
          unfold stB
          rw [G_out (by omega) (by omega)]
        rw [e2] at hst
        have hji : j ≠ i := by rintro rfl; rw [hs] at hst; cases hst
        have ho := rc_other hji ht1 ht2
        rw [G_out (by omega) (by omega)]
        exact hr.fil j hj hst t ht1 ht2
theorem rc_fill {B b : List Int} (hr : Rcv B b) (h : ∀ i < nch b.length 8, stB B i = true) : Fill B b 8 b.length (nch b.length 8) := by
  intro t ht htn
  have h1 : t / 8 < nch b.length 8 := by omega
  refine hr.fil (t / 8) h1 (h _ h1) t (by omega) ?_
  unfold clen
  omega
/-- What is missing is stored; when nothing is missing, Complete gives the image. -/
theorem rc_step {B b : List Int} {j : Nat} (hok : (on B).Ok 10240) (h1 : 1 ≤ b.length) (h2 : b.length ≤ 300) (hb : ∀ x ∈ b, 0 ≤ x ∧ x < 256) (hr : Rcv B b) (hj : ∀ i < j, stB B i = true) :
    (∃ i, j ≤ i ∧ i < nch b.length 8 ∧ (on B).misA 8 = some i ∧ ∃ B', (on B).store 4096 8 (i : Int) (cutL b 8 i) = (on B', 0) ∧ Rcv B' b ∧ ∀ t < j + 1, stB B' t = true) ∨
    ((on B).misA 8 = none ∧ (on B).compl 4096 8 = (on B, b, 3, 0)) := by
  have hlen : B.length = 10240 := hok.len
  have hl4 : 4096 ≤ (on B).B.length := by show 4096 ≤ B.length; omega
  have hq := nch_le (l := b.length) (c := 8) (by omega) (by omega)
  have hmA : (on B).misA 8 = (on B).mis (nch b.length 8) := misA_on (by omega) hr.hd (by omega) (by omega)
  cases hm : (on B).mis (nch b.length 8) with
  | some i =>
    have hm' := hm
    unfold Dv.mis at hm'
    rw [List.find?_range_eq_some] at hm'
    obtain ⟨a1, a2, a3⟩ := hm'
    have hin : i < nch b.length 8 := List.mem_range.1 a2
    have hsi : stB B i = false := by
      rw [st_on rfl hl4 i (by omega)] at a1
      simpa using a1
    have hlow : ∀ t < i, stB B t = true := fun t ht => by
      have := a3 t ht
      rw [st_on rfl hl4 t (by omega)] at this
      simpa using this
    have hji : j ≤ i := by
      rcases Nat.lt_or_ge i j with h | h
      · rw [hj i h] at hsi; cases hsi
      · exact h
    have hcl : (cutL b 8 i).length = clen b.length 8 i := cutL_len
    have hf := chunk_fits (l := b.length) (c := 8) (n := (cutL b 8 i).length) (by omega) hin hcl
    have hst := store_on hok rfl (by omega) hr.hd (by omega) (by omega) hin hcl hsi
    have hrs := rc_store (k := -1) hok h1 h2 hb hr hin
    rw [hst] at hrs
    refine .inl ⟨i, hji, hin, by rw [hmA, hm], _, hst, hrs, fun t ht => ?_⟩
    rw [putB_st hok (by omega) (by omega) hf t (by omega)]
    by_cases hti : t = i
    · simp [hti]
    · rw [hlow t (by omega)]; rfl
  | none =>
    have hm' := hm
    unfold Dv.mis at hm'
    rw [List.find?_eq_none] at hm'
    have hall : ∀ i < nch b.length 8, stB B i = true := fun i hi => by
      have := hm' i (List.mem_range.2 hi)
      rw [st_on rfl hl4 i (by omega)] at this
      simpa using this
    refine .inr ⟨by rw [hmA, hm], ?_⟩
    have h52 : (on B).num 5 2 = (b.length : Int) := by rw [n52 rfl hl4]; exact hr.hd.l
    have h72 : (on B).num 7 2 = crcI b := by rw [n72 rfl hl4]; exact hr.hd.s
    have h14 : (on B).num 1 4 = 3 := by rw [n14 rfl hl4]; exact hr.hd.v
    have hrd : (on B).rds 4096 ((on B).num 5 2).toNat = b := by rw [h52, Int.toNat_natCast, fill_rds hlen rfl (by omega) (by omega) (rc_fill hr hall)]
    rw [compl3 (hr.act hlen h1 h2) (by rw [hmA, hm]) (by rw [hrd, h72]), hrd, h14]
end Go.Proofs.Ytfcldacjnegacaa.Up
