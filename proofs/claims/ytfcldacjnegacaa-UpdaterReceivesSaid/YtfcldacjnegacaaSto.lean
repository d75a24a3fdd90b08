/- UpdaterStored: the law answers true. Printed by mkSt.py. -/
import Derived.Test.YtfcldacjnegacaaCut
namespace Go.Proofs.Ytfcldacjnegacaa.Up
open Go.RowKit Go.Proofs.YtfcldacjnegacaaW.PrintWords Go.Proofs.YtfcldacjnegacaaW.PrintLast Go.Proofs.YtfcldacjnegacaaW.PrintMore Go.Proofs.Ytfcldacjnegacaa.Sl
set_option linter.unusedVariables false
set_option linter.unusedSimpArgs false
/-- The first j chunks of n are stored, of an image of l bytes. -/
structure Part (B : List Int) (v l s : Int) (c n j : Nat) : Prop where
  ok : (on B).Ok 10240
  hd : Hd B v l s c
  st : ∀ i < n, stB B i = decide (i < j)
theorem Part.len {B : List Int} {v l s : Int} {c n j : Nat} (h : Part B v l s c n j) : B.length = 10240 := h.ok.len
theorem part_offer {l c n : Nat} {v s : Int} (hn : n = nch l c) (hl1 : 1 ≤ l) (hl2 : l ≤ 6144) (hc : 4 ≤ c) (hc2 : c ≤ 36) (hv1 : 1 ≤ v) (hv2 : v ≤ 2147483647) (hs : 0 ≤ s ∧ s < 65536) :
    ∃ B, (on (List.replicate 10240 0)).offer c v (l : Int) s = (on B, 0) ∧ Part B v (l : Int) s c n 0 := by
  obtain ⟨B0, h0⟩ : ∃ B0 : List Int, B0 = List.replicate 10240 0 := ⟨_, rfl⟩
  have o0 : (on B0).Ok 10240 := by rw [h0]; exact zero_ok 10240
  have l0 : B0.length = 10240 := o0.len
  have a0 : (on B0).act (c : Int) = false := zero_act (by omega) (by rw [h0]; exact zero_G _ 3840) c
  rw [← h0]
  obtain ⟨hm, hm2⟩ := nch_bits hl2 hc
  refine ⟨_, offer_on (by omega) hc hv1 hv2 (by omega) (by omega) a0, off_ok o0, off_Hd (by omega) (by rw [Int.toNat_natCast]; exact hm) ⟨by omega, hv2⟩ ⟨by omega, by omega⟩ hs (by omega), fun i hi => ?_⟩
  rw [off_st (by omega) (by rw [Int.toNat_natCast]; exact hm) i (by rw [Int.toNat_natCast]; omega)]
  rfl
theorem part_store {B : List Int} {v s : Int} {l c n j : Nat} {xs : List Int} (h : Part B v (l : Int) s c n j) (hn : n = nch l c) (hl1 : 1 ≤ l) (hl2 : l ≤ 6144) (hc : 4 ≤ c) (hj : j < n) (hx : xs.length = clen l c j) (hb : ∀ x ∈ xs, 0 ≤ x ∧ x < 256) :
    (on B).store 4096 c (j : Int) xs = (on (putB B 4096 c j xs), 0) ∧ Part (putB B 4096 c j xs) v (l : Int) s c n (j + 1) := by
  subst hn
  have hlen := h.len
  have hq := nch_le hl2 hc
  have hf := chunk_fits hl2 hj hx
  refine ⟨store_on h.ok rfl hc h.hd hl1 hl2 hj hx (by rw [h.st j hj]; simp), putB_ok h.ok hb, putB_Hd h.hd (by omega) (by omega) hf, fun i hi => ?_⟩
  rw [putB_st h.ok (by omega) (by omega) hf i (by omega), h.st i hi]
  by_cases e : i = j
  · subst e; simp
  · by_cases e2 : i < j
    · simp [e, e2]; omega
    · simp [e, e2]; omega
theorem part_mis {B : List Int} {v s : Int} {l c n j : Nat} (h : Part B v (l : Int) s c n j) (hn : n = nch l c) (hl1 : 1 ≤ l) (hl2 : l ≤ 6144) (hc : 4 ≤ c) : (on B).misA c = if j < n then some j else none := by
  have hlen := h.len
  have hq := nch_le hl2 hc
  rw [misA_on (by omega) h.hd hl1 hl2, ← hn]
  split
  · rename_i hj
    exact mis_first (by omega) hj (by omega) (fun i hi => by rw [h.st i (by omega)]; simp [hi]) (by rw [h.st j hj]; simp)
  · rename_i hj
    exact mis_end (by omega) (by omega) (fun i hi => by rw [h.st i hi]; simp; omega)
/-- What a slot reads behind a chunk that was stored. -/
theorem putB_rds {B : List Int} {c i : Nat} {xs : List Int} (hB : B.length = 10240) (hi : i < 1900) (hf : 4096 + i * c + xs.length ≤ 10240) : (on (putB B 4096 c i xs)).rds (4096 + i * c) xs.length = xs := by
  rw [rds_on rfl, take_G _ _ _ (by show 4096 + i * c + xs.length ≤ (putB B 4096 c i xs).length; rw [putB_len]; omega)]
  apply List.ext_getElem
  · simp
  · intro t h1 h2
    simp only [List.getElem_map, List.getElem_range]
    show G (putB B 4096 c i xs) (4096 + i * c + t) = _
    rw [putB_G (by omega) hi hf _ (by omega), if_pos (by omega), Nat.add_sub_cancel_left]
    show xs.getD t 0 = xs[t]
    rw [List.getD_eq_getElem?_getD, List.getElem?_eq_getElem h2]
    rfl
/-- The chunk at which the power may fail. -/
theorem part_fail {B : List Int} {v s : Int} {l c n j : Nat} {xs : List Int} {k : Int} (h : Part B v (l : Int) s c n j) (hn : n = nch l c) (hl1 : 1 ≤ l) (hl2 : l ≤ 6144) (hc : 4 ≤ c) (hj : j < n) (hx : xs.length = clen l c j) (hb : ∀ x ∈ xs, 0 ≤ x ∧ x < 256) (hk0 : 0 ≤ k) (hk1 : k ≤ 1000) :
    (∃ k', Dv.store ⟨B, false, k⟩ 4096 c (j : Int) xs = (⟨putB B 4096 c j xs, false, k'⟩, 0)) ∨
    (∃ B', Dv.store ⟨B, false, k⟩ 4096 c (j : Int) xs = (⟨B', true, 0⟩, 9) ∧ Part B' v (l : Int) s c n j) := by
  subst hn
  have hlen := h.len
  have hq := nch_le hl2 hc
  have hf := chunk_fits hl2 hj hx
  have hok : Dv.Ok 10240 ⟨B, false, k⟩ := ⟨h.ok.len, by show -1 ≤ k; omega, hk1, h.ok.byte⟩
  have hact : Dv.act ⟨B, false, k⟩ (c : Int) = true := h.hd.act rfl (show 4096 ≤ B.length by omega) (by omega) (by omega)
  rcases store_spec hok rfl hc hact h.hd.l hj hx (by rw [h.st j hj]; simp) with ⟨_, k', _, _, _, h2⟩ | ⟨m, hm, _, _, h2⟩
  · exact .inl ⟨k', h2⟩
  · refine .inr ⟨_, h2, ins_ok (o := false) (k := -1) h.ok (fun x hx => hb x (List.mem_of_mem_take hx)) (by omega) (by omega), h.hd.congr fun i h1 h3 => ?_, fun i hi => ?_⟩
    · exact G_out (by rw [List.length_take]; omega) (by omega)
    · have e : G (ins B (4096 + j * c) (xs.take m)) (3856 + i / 8) = G B (3856 + i / 8) := G_out (by rw [List.length_take]; omega) (by omega)
      unfold stB
      rw [e]
      exact h.st i hi
def StoRel (w : World) (b : List Int) (gm gb gu N g7 at_ : Nat) (o7 : Obj) (v56 : Value) (wr : World) : Prop :=
  ∃ (j : Nat) (B : List Int), j ≤ at_ ∧ v56 = .int .i64 (j : Int) ∧ Part B 3 (b.length : Int) 0 8 (nch b.length 8) j ∧ NvM w wr gm gb N (on B) (upd gu gm 4096 8 [ob g7 o7])
abbrev o30n (gm gu gd : Nat) (c : Int) : Obj := .cells #[.pointer (some ⟨gm, 0, none⟩), .pointer (some ⟨gu, 0, none⟩), .pointer (some ⟨gd, 0, none⟩), .int .i64 4096, .int .i64 c] 30
section
variable {L : List Chunk} {w0 w w' : World} {gm gb gu N : Nat} {d : Dv}
theorem NvM.came {c : Int} {A : Option Addr} {n : Nat} {xs : List Int} (h : NvM w0 w gm gb N d (upd gu gm 4096 c L)) (hc : (Kd.int .u8).C w0 A n xs) : (Kd.int .u8).C w A n xs := by
  obtain ⟨_, _, _, _, hm⟩ := h
  exact hm.came hc
theorem NvM.chunk {c : Nat} (h : NvM w0 w gm gb N d (upd gu gm 4096 (c : Int) L)) (hN : N = 10240) (hc : 4 ≤ c) (hc2 : c ≤ 36) (i : Int) (hi : (Lit.int .i64 i).wf = true) {A : Option Addr} {n cp : Nat} {xs : List Int} (hC : (Kd.int .u8).C w0 A n xs) (hx : ∀ x ∈ xs, 0 ≤ x ∧ x < 256) :
    Calls Try.prog 14 #[.pointer (some ⟨gu, 0, none⟩), .int .i64 i, .slice A n cp] w fun x w' => x = .returned (.int .i64 (d.store 4096 c i xs).2) ∧ NvM w0 w' gm gb N (d.store 4096 c i xs).1 (upd gu gm 4096 (c : Int) L) :=
  Chunk_call (sl := 4096) h hN hc hc2 (by omega) i hi hC.1 (fun d' W hW => by rw [hC.1]; exact hW.came hC) hx
end
theorem wf_i (n : Nat) (h : n ≤ 100000) : (Lit.int .i64 (n : Int)).wf = true := by
  simp [Lit.wf, IntKind.min, IntKind.max, IntKind.bits, IntKind.signed]
  omega
theorem misR_some (i : Nat) : misR (some i) = .tuple #[.int .i64 (i : Int), .bool true] := rfl
theorem misR_none : misR none = .tuple #[.int .i64 0, .bool false] := rfl
theorem sb5 {at_ q lo ad : Nat} (h : at_ < q) (hq : q ≤ 40) (h1 : at_ * 8 = lo) (h2 : 4096 + lo = ad) : wrap64 ((at_ : Int) * 8) = (lo : Int) ∧ wrap64 (4096 + (lo : Int)) = (ad : Int) ∧ IntKind.i64.wrap ((at_ : Int) * 8) = (lo : Int) ∧ IntKind.i64.wrap (4096 + (lo : Int)) = (ad : Int) := by
  rw [IntKind.wrap_i64, IntKind.wrap_i64]
  unfold wrap64
  omega
theorem NvM.below' {L : List Chunk} {w0 w : World} {gm gb N : Nat} {d : Dv} (h : NvM w0 w gm gb N d L) : Below w0.heap.size w0 w := by
  obtain ⟨_, _, _, _, hm⟩ := h
  exact hm.below
theorem cut_call' {w0 : World} {A : Option Addr} {b : List Int} {c i cp n : Nat} (hn : b.length = n) (h : (Kd.int .u8).C w0 A n b) (hi : i * c < n) (hcp : n ≤ cp) (hb : n ≤ 1000) (hc : 1 ≤ c) (hc2 : c ≤ 36) :
    ∃ A' c', (Kd.int .u8).C w0 A' (clen n c i) (cutL b c i) ∧ ∀ W, Calls Try.prog 15 #[.slice A n cp, .int .i64 (c : Int), .int .i64 (i : Int)] W fun e w' => e = .returned (.slice A' (clen n c i) c') ∧ W = w' := by
  subst hn
  obtain ⟨b0, o, rfl, hC⟩ := cut_C h hi hcp
  refine ⟨some ⟨b0, o + i * c, none⟩, cp - i * c, hC, fun W => ?_⟩
  have hi2 : i ≤ i * c := Nat.le_mul_of_pos_right _ hc
  obtain ⟨lo, hlo⟩ : ∃ lo, i * c = lo := ⟨_, rfl⟩
  have hlo' : (i : Int) * (c : Int) = (lo : Int) := by rw [← hlo]; push_cast; rfl
  have hhi' : ((i : Int) + 1) * (c : Int) = ((lo + c : Nat) : Int) := by rw [Int.add_mul, hlo', Int.one_mul]; push_cast; rfl
  unfold clen
  rw [hlo] at hi hi2 ⊢
  obtain ⟨k1, k2, k3, k4, k5, k6⟩ := cut_bounds hi hc hc2 hb hi2
  rw [k5]
  exact cut_walk k1 hlo' hhi' (wrap_small k2) (wrap_small k3) (by omega) (Nat.le_add_right _ _) (by omega) (by omega)
theorem sb1 {n q : Nat} (hn : 1 ≤ n ∧ n ≤ 300) (hq : q = (n + 7) / 8) (hq0 : 1 ≤ q ∧ q ≤ 40) : wrap64 ((n : Int) + 8) = (n : Int) + 8 ∧ wrap64 ((n : Int) + 8 - 1) = (n : Int) + 7 ∧ wrap64 ((n : Int) + 7) = (n : Int) + 7 ∧ ((n : Int) + 7).tdiv 8 = (q : Int) ∧ wrap64 (q : Int) = (q : Int) ∧ ¬ (q : Int) = 0 ∧ ¬ q = 0 ∧ ¬ (q : Int) = -1 := by
  have h1 : ((n : Int) + 7) / 8 = (q : Int) := by omega
  rw [Int.tdiv_eq_ediv_of_nonneg (by omega), h1]
  unfold wrap64
  omega
theorem sb2 {i q at_ k : Nat} (h : at_ = i % q) (h2 : at_ < q) (hq : q ≤ 40) (hi : i < 256) (hk : k < 256) : (i : Int) % (q : Int) = (at_ : Int) ∧ (i : Int).tmod (q : Int) = (at_ : Int) ∧ wrap64 (at_ : Int) = (at_ : Int) ∧ wrap64 (i : Int) = (i : Int) ∧ wrap64 (k : Int) = (k : Int) := by
  have h1 : (i : Int) % (q : Int) = (at_ : Int) := by rw [h]; rfl
  refine ⟨h1, by rw [Int.tmod_eq_emod_of_nonneg (by omega)]; exact h1, ?_⟩
  clear h h1
  unfold wrap64
  omega
theorem sb3 {k m : Nat} (h : m = k % 12) (h2 : m < 12) : (k : Int) % 12 = (m : Int) ∧ (k : Int).tmod 12 = (m : Int) ∧ wrap64 (m : Int) = (m : Int) := by
  have h1 : (k : Int) % 12 = (m : Int) := by rw [h]; rfl
  refine ⟨h1, by rw [Int.tmod_eq_emod_of_nonneg (by omega)]; exact h1, ?_⟩
  clear h h1
  unfold wrap64
  omega
theorem sb4 {at_ q : Nat} (h : at_ < q) (hq : q ≤ 40) : wrap64 ((at_ : Int) * 8) = ((at_ * 8 : Nat) : Int) ∧ wrap64 (4096 + ((at_ * 8 : Nat) : Int)) = ((4096 + at_ * 8 : Nat) : Int) ∧ wrap64 ((q : Int) - 1) = (q : Int) - 1 ∧ wrap64 ((at_ : Int) + 1) = (at_ : Int) + 1 := by
  unfold wrap64
  omega
theorem smeas {i n : Nat} (hw : wrap64 ((i : Int) + 1) = ((i + 1 : Nat) : Int)) (h : i < n) : n - (intOf (.int .i64 (wrap64 ((i : Int) + 1)))).toNat < n - (intOf (.int .i64 (i : Int))).toNat := by
  rw [hw]
  simp [intOf]
  omega
theorem NvM.drew'' {L : List Chunk} {w0 w : World} {gm gb N : Nat} {d : Dv} (h : NvM w0 w gm gb N d L) : NvM w0 w.drew gm gb N d L := h.step (below_drew (Below.refl _ _))

set_option maxRecDepth 100000 in
set_option maxHeartbeats 8000000 in
theorem Stored_law (A : Option Addr) (cp : Nat) (b : List Int) (i k : Nat) (w : World) (hr0 : (Kd.int .u8).C w A b.length b) (hcp : b.length ≤ cp) (hb : ∀ x ∈ b, 0 ≤ x ∧ x < 256) (hi : i < 256) (hk : k < 256) :
    Calls Try.prog 4 #[.slice A b.length cp, .int .u8 (i : Int), .int .u8 (k : Int)] w fun e w' => e = .returned (.bool true) ∧ Below w.heap.size w w' := by
  have HWK := Aside0.mk (wakes_call (Mem.start w))
  have HR0 := Aside0.mk hr0
  have HB := Aside0.mk hb
  have HCP := Aside0.mk hcp
  clear hr0 hb hcp
  obtain ⟨n, hn⟩ : ∃ n, b.length = n := ⟨_, rfl⟩
  rw [hn] at HR0 HCP ⊢
  have HN := Aside0.mk hn
  clear hn
  by_cases h0 : n = 0
  · subst h0
    go_enter Try.func4, Try.ntmps4
    go_wp2_with fail
    refine HWK.out.mono ?_
    rintro e w1 ⟨rfl, h1⟩
    have HB1 := Aside0.mk h1.below
    clear h1 HWK
    go_wp2_with fail
    go_ret
    exact ⟨rfl, HB1.out⟩
  have c0 : (n == 0) = false := beq_eq_false_iff_ne.2 h0
  have c0' : ((n : Int) == 0) = false := beq_eq_false_iff_ne.2 (by omega)
  by_cases h300 : 300 < n
  · have c3 : decide (300 < n) = true := decide_eq_true h300
    have c3' : decide ((300 : Int) < (n : Int)) = true := decide_eq_true (by omega)
    clear h300 h0
    go_enter Try.func4, Try.ntmps4
    go_wp2_with fail
    refine HWK.out.mono ?_
    rintro e w1 ⟨rfl, h1⟩
    have HB1 := Aside0.mk h1.below
    clear h1 HWK
    go_wp2_with fail
    go_ret
    exact ⟨rfl, HB1.out⟩
  have c3 : decide (300 < n) = false := decide_eq_false h300
  have c3' : decide ((300 : Int) < (n : Int)) = false := decide_eq_false (by omega)
  obtain ⟨q, hq⟩ : ∃ q, q = nch n 8 := ⟨_, rfl⟩
  have hq2 : q = (n + 7) / 8 := hq
  have hq0 : 1 ≤ q ∧ q ≤ 40 := by omega
  obtain ⟨at_, hat⟩ : ∃ at_, at_ = i % q := ⟨_, rfl⟩
  have hat2 : at_ < q := by rw [hat]; exact Nat.mod_lt _ (by omega)
  obtain ⟨m, hm⟩ : ∃ m, m = k % 12 := ⟨_, rfl⟩
  have hm2 : m < 12 := by rw [hm]; exact Nat.mod_lt _ (by omega)
  have HLE := Aside0.mk (show 1 ≤ n ∧ n ≤ 300 by omega)
  have HM12 := Aside0.mk (show m ≤ 1000 by omega)
  have HAT := Aside0.mk hat2
  have HQ := Aside0.mk hq
  have HQL := Aside0.mk (show q ≤ 40 by omega)
  clear h300 h0
  obtain ⟨e1, e2, e3, e3', e3'', q0, q0n, q1⟩ := sb1 HLE.out hq2 hq0
  obtain ⟨e4, e4', e5, e6, e7⟩ := sb2 hat hat2 hq0.2 hi hk
  obtain ⟨e8, e8', e9⟩ := sb3 hm hm2
  obtain ⟨e10, e11, e12, e13⟩ := sb4 hat2 hq0.2
  clear hq hq2 hat hm hi hk hat2 hq0 hm2
  obtain ⟨B0, hoff, hp0⟩ := part_offer (l := n) (c := 8) (n := q) (v := 3) (s := 0) HQ.out HLE.out.1 (by have := HLE.out; omega) (by omega) (by omega) (by omega) (by omega) (by omega)
  have HOFF := Aside0.mk hoff
  have HP0 := Aside0.mk hp0
  clear hoff hp0
  go_enter Try.func4, Try.ntmps4
  go_wp2_with fail
  refine HWK.out.mono ?_
  rintro e w1 ⟨rfl, h1⟩
  have HM1 := Aside0.mk h1
  clear h1 HWK
  go_wp2_with fail
  refine (start_nil (c := 8) HM1.out (by omega) (by omega)).mono ?_
  rintro e w2 ⟨gm, gb, gu, gd, N, hN, rfl, h2⟩
  have HNN := Aside0.mk hN
  rw [← hN] at HOFF
  have h2' := h2.add (o30n gm gu gd 8)
  obtain ⟨g7, hg7⟩ : ∃ g7, g7 = w2.heap.size := ⟨_, rfl⟩
  rw [← hg7] at h2'
  have hx := h2'.top
  have z1 := blk_cell hx 1
  have K2 := Offer_call (c := 8) h2' hN (by omega) (by omega) 3 (n : Int) 0 (by omega) (by omega)
  rw [HOFF.out] at K2
  have KK2 := Aside0.mk K2
  clear h2 h2' hx hN K2 HM1
  go_wp2_with fail
  rw [← hg7]
  clear hg7 z1
  refine KK2.out.mono ?_
  rintro e w3 ⟨rfl, h3⟩
  have H3 := Aside0.mk (show NvM w w3 gm gb N (on B0) (upd gu gm 4096 8 [ob g7 (o30n gm gu gd 8)]) from h3)
  clear h3 KK2
  go_wp2_with fail
  have HE := Aside0.mk (And.intro e7 (And.intro e8 (And.intro e8' (And.intro e9 (And.intro e10 (And.intro e11 (And.intro e12 (And.intro e13 (And.intro e5 e3'')))))))))
  clear e1 e2 e3 e3' e3'' q0 q0n q1 e4 e4' e5 e6 e7 e8 e8' e9 e10 e11 e12 e13
  go_loopw [56] (fun v56 wr => StoRel w b gm gb gu N g7 at_ (o30n gm gu gd 8) v56 wr) (fun i _ => at_ - (intOf i).toNat)
  case atStart => exact ⟨0, B0, Nat.zero_le _, rfl, by rw [HN.out, ← HQ.out]; exact HP0.out, H3.out⟩
  case round =>
    obtain ⟨j, B, hj, rfl, hP, hS⟩ := hrel
    clear H3
    rw [HN.out, ← HQ.out] at hP
    have HPP := Aside0.mk hP
    have HS := Aside0.mk hS
    have z1 := blk_cell hS.top 1
    clear hP
    by_cases hlt : j < at_
    · have HLT := Aside0.mk hlt
      have HMUL := Aside0.mk (show j * 8 < n from nch_mul (c := 8) (by rw [← HQ.out]; have := HAT.out; omega))
      obtain ⟨A', c', hC', hcut⟩ := cut_call (W := wr.drew) (i := j) (c := 8) HN.out HR0.out HMUL.out HCP.out (by have := HLE.out; omega) (by omega) (by omega)
      have HCUT := Aside0.mk hcut
      have HC' := Aside0.mk hC'
      have HBY := Aside0.mk (show ∀ x ∈ cutL b 8 j, 0 ≤ x ∧ x < 256 from fun x hx => HB.out x (List.mem_of_mem_drop (List.mem_of_mem_take hx)))
      have hst := part_store HPP.out HQ.out HLE.out.1 (by have := HLE.out; omega) (by omega) (by have := HAT.out; omega) (cutL_len.trans (by rw [HN.out])) HBY.out
      have HST := Aside0.mk hst
      have HCH := Aside0.mk (fun W (h : NvM w W gm gb N (on B) (upd gu gm 4096 8 [ob g7 (o30n gm gu gd 8)])) => by have K := NvM.chunk (c := 8) (cp := c') h HNN.out (by omega) (by omega) (j : Int) (wf_i j (by have := HAT.out; have := HQL.out; omega)) HC'.out HBY.out; rw [hst.1] at K; exact K)
      have HW := Aside0.mk (show wrap64 ((j : Int) + 1) = ((j + 1 : Nat) : Int) by have := HAT.out; have := HQL.out; unfold wrap64; omega)
      generalize clen n 8 j = cl at *
      clear hS hC' hcut hst
      go_wp2_with fail
      refine wp_region_held_drew (S := fun W => W.cell? ⟨g7, 1, none⟩ = some (.pointer (some ⟨gu, 0, none⟩))) (by kernel_rfl) z1 (fun hS => ?_)
      refine wpAnyH_take (i := 0) (oi := { dst := some 59, op := Op.fieldAddr 30 (Operand.tmp 7) 1, type := 0, pos := "law.go:214", after := #[], guard := none }) (v := ?_) rfl (by kernel_rfl) (by kernel_rfl) (by kernel_rfl) (fun _ _ _ h => h) (Or.inl ⟨by rfl, ?_⟩) hS ?_
      rotate_left
      · intro W_ hSW_
        have z1_ := hSW_
        go_simp
        try with_reducible rfl
      try simp only [Act.put, List.setIfInBounds_toArray, List.set_cons_zero, List.set_cons_succ]
      refine wpAnyH_take (i := 1) (oi := { dst := some 60, op := Op.load 25 (Operand.tmp 59), type := 25, pos := "law.go:214", after := #[{ on := 0, ground := Ground.data }], guard := none }) (v := ?_) rfl (by kernel_rfl) (by kernel_rfl) (by kernel_rfl) (fun _ _ _ h => h) (Or.inl ⟨by rfl, ?_⟩) hS ?_
      rotate_left
      · intro W_ hSW_
        have z1_ := hSW_
        go_simp
        try with_reducible rfl
      try simp only [Act.put, List.setIfInBounds_toArray, List.set_cons_zero, List.set_cons_succ]
      refine wpAnyH_take (i := 2) (oi := { dst := some 61, op := Op.move (Operand.tmp 11), type := 3, pos := "law.go:214", after := #[], guard := none }) (v := ?_) rfl (by kernel_rfl) (by kernel_rfl) (by kernel_rfl) (fun _ _ _ h => h) (Or.inl ⟨by rfl, ?_⟩) hS ?_
      rotate_left
      · intro W_ hSW_
        have z1_ := hSW_
        go_simp
        try with_reducible rfl
      try simp only [Act.put, List.setIfInBounds_toArray, List.set_cons_zero, List.set_cons_succ]
      refine wpAnyH_take (i := 3) (oi := { dst := some 62, op := Op.move (Operand.tmp 0), type := 22, pos := "law.go:214", after := #[], guard := none }) (v := ?_) rfl (by kernel_rfl) (by kernel_rfl) (by kernel_rfl) (fun _ _ _ h => h) (Or.inl ⟨by rfl, ?_⟩) hS ?_
      rotate_left
      · intro W_ hSW_
        have z1_ := hSW_
        go_simp
        try with_reducible rfl
      try simp only [Act.put, List.setIfInBounds_toArray, List.set_cons_zero, List.set_cons_succ]
      refine wpAnyH_take (i := 4) (oi := { dst := some 63, op := Op.move (Operand.tmp 11), type := 3, pos := "law.go:214", after := #[], guard := none }) (v := ?_) rfl (by kernel_rfl) (by kernel_rfl) (by kernel_rfl) (fun _ _ _ h => h) (Or.inl ⟨by rfl, ?_⟩) hS ?_
      rotate_left
      · intro W_ hSW_
        have z1_ := hSW_
        go_simp
        try with_reducible rfl
      try simp only [Act.put, List.setIfInBounds_toArray, List.set_cons_zero, List.set_cons_succ]
      refine wpAnyH_ready (rs := [5]) (by kernel_rfl) (by simp) ?_
      refine AllReadyH.cons (o := { dst := some 64, op := Op.call { callee := Callee.value (Operand.func 15), args := #[Operand.tmp 62, Operand.const (Value.int IntKind.i64 8), Operand.tmp 63], argTypes := #[22, 3, 3] }, type := 22, pos := "law.go:214", after := #[{ on := 3, ground := Ground.data }, { on := 4, ground := Ground.data }], guard := none }) rfl (fun K_ hK_ => ?_) AllReadyH.nil
      go_simp
      refine HCUT.out.mono ?_
      rintro e w4 ⟨rfl, rfl⟩
      refine hK_.out _ _ (z1) (fun hS_ => ?_)
      clear hK_ K_ hS
      have hS := hS_
      clear hS_
      try simp only [Act.put, List.setIfInBounds_toArray, List.set_cons_zero, List.set_cons_succ]
      refine wpAnyH_ready (rs := [6]) (by kernel_rfl) (by simp) ?_
      refine AllReadyH.cons (o := { dst := some 65, op := Op.call { callee := Callee.value (Operand.func 14), args := #[Operand.tmp 60, Operand.tmp 61, Operand.tmp 64], argTypes := #[25, 3, 22] }, type := 31, pos := "law.go:214", after := #[{ on := 1, ground := Ground.data }, { on := 2, ground := Ground.data }, { on := 5, ground := Ground.data }, { on := 5, ground := Ground.chain }], guard := none }) rfl (fun K_ hK_ => ?_) AllReadyH.nil
      go_simp
      refine (HCH.out _ HS.out.drew'').mono ?_
      rintro e w5 ⟨rfl, h5⟩
      have HCD := Aside0.mk h5
      clear h5
      refine hK_.out _ _ (blk_cell HCD.out.top 1) (fun hS_ => ?_)
      clear hK_ K_ hS
      have hS := hS_
      clear hS_
      try simp only [Act.put, List.setIfInBounds_toArray, List.set_cons_zero, List.set_cons_succ]
      refine wpAnyH_done (by kernel_rfl) ?_ _
      clear hS
      go_wp2_with fail
      go_roundw
      case rel => exact ⟨j + 1, _, by have := HLT.out; omega, by rw [HW.out], by rw [HN.out, ← HQ.out]; exact HST.out.2, HCD.out⟩
      case measure => exact smeas HW.out HLT.out
    · have hja : at_ = j := by omega
      subst hja
      clear hS hlt
      have z0 := blk_cell HS.out.top 0
      have HMUL := Aside0.mk (show at_ * 8 < n from nch_mul (c := 8) (by rw [← HQ.out]; exact HAT.out))
      obtain ⟨A', c', hC', hcut⟩ := cut_call' (i := at_) (c := 8) HN.out HR0.out HMUL.out HCP.out (by have := HLE.out; omega) (by omega) (by omega)
      have HCUT := Aside0.mk hcut
      have HC' := Aside0.mk hC'
      have HBY := Aside0.mk (show ∀ x ∈ cutL b 8 at_, 0 ≤ x ∧ x < 256 from fun x hx => HB.out x (List.mem_of_mem_drop (List.mem_of_mem_take hx)))
      have HCLN := Aside0.mk (show (cutL b 8 at_).length = clen n 8 at_ from cutL_len.trans (by rw [HN.out]))
      have HFIT := Aside0.mk (show 4096 + at_ * 8 + clen n 8 at_ ≤ 10240 from chunk_fits (by have := HLE.out; omega) (by rw [← HQ.out]; exact HAT.out) rfl)
      obtain ⟨cl, hcl⟩ : ∃ cl, cl = clen n 8 at_ := ⟨_, rfl⟩
      rw [← hcl] at HCUT HC' HCLN HFIT
      have HCL := Aside0.mk hcl
      clear hC' hcut hcl
      have HPF := Aside0.mk (part_fail (k := (m : Int)) HPP.out HQ.out HLE.out.1 (by have := HLE.out; omega) (by omega) HAT.out (HCLN.out.trans HCL.out) HBY.out (by omega) (by have := HM12.out; omega))
      have HCHK := Aside0.mk (fun W (h : NvM w W gm gb N ⟨B, false, (m : Int)⟩ (upd gu gm 4096 8 [ob g7 (o30n gm gu gd 8)])) => NvM.chunk (c := 8) (cp := c') h HNN.out (by omega) (by omega) (at_ : Int) (wf_i at_ (by have := HAT.out; have := HQL.out; omega)) HC'.out HBY.out)
      have HARM := Aside0.mk (Arm_call HS.out (m : Int) (by omega) (by have := HM12.out; omega))
      have HMIS := Aside0.mk (fun W B' (hP : Part B' 3 (n : Int) 0 8 q (at_ + 1) ∨ Part B' 3 (n : Int) 0 8 q at_) (h : NvM w W gm gb N (on B') (upd gu gm 4096 8 [ob g7 (o30n gm gu gd 8)])) => Missing_call (c := 8) h HNN.out (by omega) (by omega))
      have HM1 := Aside0.mk (fun B' (hP : Part B' 3 (n : Int) 0 8 q (at_ + 1)) => part_mis hP HQ.out HLE.out.1 (by have := HLE.out; omega) (by omega))
      have HM2 := Aside0.mk (fun B' (hP : Part B' 3 (n : Int) 0 8 q at_) => part_mis hP HQ.out HLE.out.1 (by have := HLE.out; omega) (by omega))
      have HRDB := Aside0.mk (fun W B' (h : NvM w W gm gb N (on B') (upd gu gm 4096 8 [ob g7 (o30n gm gu gd 8)])) => ReadBytes_call h (4096 + at_ * 8) cl (by have := HFIT.out; have := HNN.out; omega) (by have := HFIT.out; have := HNN.out; have := HMUL.out; have := HLE.out; omega) (by have := HNN.out; omega))
      have HRLN := Aside0.mk (fun B' (h : (on B').Ok N) => rds_len h (a := 4096 + at_ * 8) (n := cl) (by have := HFIT.out; have := HNN.out; omega))
      have HPUT := Aside0.mk (putB_rds (B := B) (c := 8) (i := at_) (xs := cutL b 8 at_) HPP.out.len (by have := HAT.out; have := HQL.out; omega) (by rw [HCLN.out]; exact HFIT.out))
      have HPST := Aside0.mk (part_store HPP.out HQ.out HLE.out.1 (by have := HLE.out; omega) (by omega) HAT.out (HCLN.out.trans HCL.out) HBY.out).2
      have HLQ := Aside0.mk (show ¬ at_ + 1 < q → q = at_ + 1 by have := HAT.out; omega)
      have HEQ1 := Aside0.mk (show at_ + 1 < q → ((at_ : Int) == (q : Int) - 1) = false by intro h; simp; omega)
      have HEQ2 := Aside0.mk (show ¬ at_ + 1 < q → ((at_ : Int) == (q : Int) - 1) = true by intro h; have := HAT.out; simp; omega)
      obtain ⟨e7, e8, e8', e9, e10, e11, e12, e13, e5, e3''⟩ := HE.out
      obtain ⟨lo8, hlo8⟩ : ∃ lo8, at_ * 8 = lo8 := ⟨_, rfl⟩
      obtain ⟨ad, had⟩ : ∃ ad, 4096 + lo8 = ad := ⟨_, rfl⟩
      clear e10 e11
      obtain ⟨e10, e11, e10', e11'⟩ := sb5 HAT.out HQL.out hlo8 had
      rw [hlo8, had] at HRDB HPUT
      simp only [hlo8, had] at HRLN
      clear hlo8 had
      go_wp2_with fail
      refine HARM.out.mono ?_
      rintro e w6 ⟨rfl, h6⟩
      have H6 := Aside0.mk (show NvM w w6 gm gb N ⟨B, false, (m : Int)⟩ (upd gu gm 4096 8 [ob g7 (o30n gm gu gd 8)]) from h6)
      clear z0 z1
      have z1 := blk_cell h6.top 1
      clear h6
      go_wp2_with fail
      refine (HCUT.out w6).mono ?_
      rintro e w7 ⟨rfl, rfl⟩
      go_wp2_with fail
      rcases HPF.out with ⟨k', hst⟩ | ⟨B', hst, hP'⟩
      · have K := HCHK.out _ H6.out
        rw [hst] at K
        have HP' := Aside0.mk HPST.out
        have HRD := Aside0.mk HPUT.out
        obtain ⟨B', hB'⟩ : ∃ B', B' = putB B 4096 8 at_ (cutL b 8 at_) := ⟨_, rfl⟩
        rw [← hB'] at K HP' HRD
        rw [HCLN.out] at HRD
        clear hst hB'
        refine K.mono ?_
        clear K
        rintro e w8 ⟨rfl, h8⟩
        have H8 := Aside0.mk h8
        have z0 := blk_cell h8.top 0
        clear h8 z1
        go_wp2_with fail
        refine (PowerOn_call H8.out).mono ?_
        rintro e w9 ⟨rfl, h9⟩
        have H9 := Aside0.mk (show NvM w w9 gm gb N (on B') (upd gu gm 4096 8 [ob g7 (o30n gm gu gd 8)]) from h9)
        have z1 := blk_cell h9.top 1
        clear h9 z0
        go_wp2_with fail
        have K := HMIS.out _ _ (.inl HP'.out) H9.out
        rw [HM1.out _ HP'.out] at K
        have KK := Aside0.mk K
        clear K
        by_cases hlast : at_ + 1 < q
        · have c9 := HEQ1.out hlast
          have HLA := Aside0.mk hlast
          have HE13 := Aside0.mk (show ((at_ + 1 : Nat) : Int) = (at_ : Int) + 1 by push_cast; rfl)
          rw [if_pos hlast, misR_some, HE13.out] at KK
          clear hlast
          refine KK.out.mono ?_
          rintro e w10 ⟨rfl, h10⟩
          have H10 := Aside0.mk ((H9.out.step h10).drew'')
          have z0 := blk_cell H10.out.top 0
          have hCB := H10.out.came HC'.out
          have HYL := Aside0.mk (show (cutL b 8 at_).length = cl from HCLN.out)
          clear h10 z1 KK
          go_wp2_with fail
          refine wp_region_held_drew (S := fun W => W.cell? ⟨g7, 0, none⟩ = some (.pointer (some ⟨gm, 0, none⟩)) ∧ (Kd.int .u8).C W A' cl (cutL b 8 at_)) (by kernel_rfl) ⟨z0, hCB⟩ (fun hS => ?_)
          refine wpAnyH_take (i := 0) (oi := { dst := some 90, op := Op.fieldAddr 30 (Operand.tmp 7) 0, type := 0, pos := "law.go:221", after := #[], guard := none }) (v := ?_) rfl (by kernel_rfl) (by kernel_rfl) (by kernel_rfl) (fun _ _ _ h => h) (Or.inl ⟨by rfl, ?_⟩) hS ?_
          rotate_left
          · intro W_ hSW_
            obtain ⟨z0_, hC_⟩ := hSW_
            have k2_ := Kd.C_string (P := Try.prog) (src := 22) (dst := 9) (c := c') Try.underlying22 Try.underlying5 Try.underlying9 hC_
            go_simp
            try with_reducible rfl
          try simp only [Act.put, List.setIfInBounds_toArray, List.set_cons_zero, List.set_cons_succ]
          refine wpAnyH_take (i := 1) (oi := { dst := some 91, op := Op.load 24 (Operand.tmp 90), type := 24, pos := "law.go:221", after := #[{ on := 0, ground := Ground.data }], guard := none }) (v := ?_) rfl (by kernel_rfl) (by kernel_rfl) (by kernel_rfl) (fun _ _ _ h => h) (Or.inl ⟨by rfl, ?_⟩) hS ?_
          rotate_left
          · intro W_ hSW_
            obtain ⟨z0_, hC_⟩ := hSW_
            have k2_ := Kd.C_string (P := Try.prog) (src := 22) (dst := 9) (c := c') Try.underlying22 Try.underlying5 Try.underlying9 hC_
            go_simp
            try with_reducible rfl
          try simp only [Act.put, List.setIfInBounds_toArray, List.set_cons_zero, List.set_cons_succ]
          refine wpAnyH_take (i := 2) (oi := { dst := some 92, op := Op.move (Operand.tmp 10), type := 3, pos := "law.go:221", after := #[], guard := none }) (v := ?_) rfl (by kernel_rfl) (by kernel_rfl) (by kernel_rfl) (fun _ _ _ h => h) (Or.inl ⟨by rfl, ?_⟩) hS ?_
          rotate_left
          · intro W_ hSW_
            obtain ⟨z0_, hC_⟩ := hSW_
            have k2_ := Kd.C_string (P := Try.prog) (src := 22) (dst := 9) (c := c') Try.underlying22 Try.underlying5 Try.underlying9 hC_
            go_simp
            try with_reducible rfl
          try simp only [Act.put, List.setIfInBounds_toArray, List.set_cons_zero, List.set_cons_succ]
          refine wpAnyH_take (i := 3) (oi := { dst := some 93, op := Op.binOp BinOp.mul 3 (Operand.tmp 92) (Operand.const (Value.int IntKind.i64 8)) 3, type := 3, pos := "law.go:221", after := #[{ on := 2, ground := Ground.data }], guard := none }) (v := ?_) rfl (by kernel_rfl) (by kernel_rfl) (by kernel_rfl) (fun _ _ _ h => h) (Or.inl ⟨by rfl, ?_⟩) hS ?_
          rotate_left
          · intro W_ hSW_
            obtain ⟨z0_, hC_⟩ := hSW_
            have k2_ := Kd.C_string (P := Try.prog) (src := 22) (dst := 9) (c := c') Try.underlying22 Try.underlying5 Try.underlying9 hC_
            go_simp
            try with_reducible rfl
          try simp only [Act.put, List.setIfInBounds_toArray, List.set_cons_zero, List.set_cons_succ]
          refine wpAnyH_take (i := 4) (oi := { dst := some 94, op := Op.binOp BinOp.add 3 (Operand.const (Value.int IntKind.i64 4096)) (Operand.tmp 93) 3, type := 3, pos := "law.go:221", after := #[{ on := 3, ground := Ground.data }], guard := none }) (v := ?_) rfl (by kernel_rfl) (by kernel_rfl) (by kernel_rfl) (fun _ _ _ h => h) (Or.inl ⟨by rfl, ?_⟩) hS ?_
          rotate_left
          · intro W_ hSW_
            obtain ⟨z0_, hC_⟩ := hSW_
            have k2_ := Kd.C_string (P := Try.prog) (src := 22) (dst := 9) (c := c') Try.underlying22 Try.underlying5 Try.underlying9 hC_
            go_simp
            try with_reducible rfl
          try simp only [Act.put, List.setIfInBounds_toArray, List.set_cons_zero, List.set_cons_succ]
          refine wpAnyH_take (i := 5) (oi := { dst := some 95, op := Op.move (Operand.tmp 12), type := 22, pos := "law.go:221", after := #[], guard := none }) (v := ?_) rfl (by kernel_rfl) (by kernel_rfl) (by kernel_rfl) (fun _ _ _ h => h) (Or.inl ⟨by rfl, ?_⟩) hS ?_
          rotate_left
          · intro W_ hSW_
            obtain ⟨z0_, hC_⟩ := hSW_
            have k2_ := Kd.C_string (P := Try.prog) (src := 22) (dst := 9) (c := c') Try.underlying22 Try.underlying5 Try.underlying9 hC_
            go_simp
            try with_reducible rfl
          try simp only [Act.put, List.setIfInBounds_toArray, List.set_cons_zero, List.set_cons_succ]
          refine wpAnyH_take (i := 6) (oi := { dst := some 96, op := Op.call { callee := Callee.builtin Builtin.len, args := #[Operand.tmp 95], argTypes := #[22] }, type := 3, pos := "law.go:221", after := #[{ on := 5, ground := Ground.data }], guard := none }) (v := ?_) rfl (by kernel_rfl) (by kernel_rfl) (by kernel_rfl) (fun _ _ _ h => h) (Or.inl ⟨by rfl, ?_⟩) hS ?_
          rotate_left
          · intro W_ hSW_
            obtain ⟨z0_, hC_⟩ := hSW_
            have k2_ := Kd.C_string (P := Try.prog) (src := 22) (dst := 9) (c := c') Try.underlying22 Try.underlying5 Try.underlying9 hC_
            go_simp
            try with_reducible rfl
          try simp only [Act.put, List.setIfInBounds_toArray, List.set_cons_zero, List.set_cons_succ]
          refine wpAnyH_take (i := 9) (oi := { dst := some 99, op := Op.move (Operand.tmp 12), type := 22, pos := "law.go:221", after := #[], guard := none }) (v := ?_) rfl (by kernel_rfl) (by kernel_rfl) (by kernel_rfl) (fun _ _ _ h => h) (Or.inl ⟨by rfl, ?_⟩) hS ?_
          rotate_left
          · intro W_ hSW_
            obtain ⟨z0_, hC_⟩ := hSW_
            have k2_ := Kd.C_string (P := Try.prog) (src := 22) (dst := 9) (c := c') Try.underlying22 Try.underlying5 Try.underlying9 hC_
            go_simp
            try with_reducible rfl
          try simp only [Act.put, List.setIfInBounds_toArray, List.set_cons_zero, List.set_cons_succ]
          refine wpAnyH_take (i := 10) (oi := { dst := some 100, op := Op.convert 22 9 (Operand.tmp 99), type := 9, pos := "law.go:221", after := #[{ on := 9, ground := Ground.data }], guard := none }) (v := ?_) rfl (by kernel_rfl) (by kernel_rfl) (by kernel_rfl) (fun _ _ _ h => h) (Or.inl ⟨by rfl, ?_⟩) hS ?_
          rotate_left
          · intro W_ hSW_
            obtain ⟨z0_, hC_⟩ := hSW_
            have k2_ := Kd.C_string (P := Try.prog) (src := 22) (dst := 9) (c := c') Try.underlying22 Try.underlying5 Try.underlying9 hC_
            go_simp
            try with_reducible rfl
          try simp only [Act.put, List.setIfInBounds_toArray, List.set_cons_zero, List.set_cons_succ]
          refine wpAnyH_ready (rs := [7]) (by kernel_rfl) (by simp) ?_
          refine AllReadyH.cons (o := { dst := some 97, op := Op.call { callee := Callee.value (Operand.func 19), args := #[Operand.tmp 91, Operand.tmp 94, Operand.tmp 96], argTypes := #[24, 3, 3] }, type := 22, pos := "law.go:221", after := #[{ on := 1, ground := Ground.data }, { on := 4, ground := Ground.data }, { on := 6, ground := Ground.data }], guard := none }) rfl (fun K_ hK_ => ?_) AllReadyH.nil
          go_simp
          refine (HRDB.out _ _ H10.out).mono ?_
          rintro e w11 ⟨v11, rfl, h11⟩
          rw [HRD.out] at h11
          obtain ⟨A11, c11, rfl, _, hC11⟩ := h11.readsN HYL.out
          have k11 := Kd.C_string (P := Try.prog) (src := 22) (dst := 9) (c := c11) Try.underlying22 Try.underlying5 Try.underlying9 hC11
          have H11 := Aside0.mk (H10.out.step h11.below)
          have HCB := Aside0.mk (H11.out.came HC'.out)
          clear h11 hC11
          refine hK_.out _ _ (⟨blk_cell H11.out.top 0, HCB.out⟩) (fun hS_ => ?_)
          clear hK_ K_ hS
          have hS := hS_
          clear hS_
          try simp only [Act.put, List.setIfInBounds_toArray, List.set_cons_zero, List.set_cons_succ]
          refine wpAnyH_ready (rs := [8]) (by kernel_rfl) (by simp) ?_
          refine AllReadyH.cons (o := { dst := some 98, op := Op.convert 22 9 (Operand.tmp 97), type := 9, pos := "law.go:221", after := #[{ on := 7, ground := Ground.data }], guard := none }) rfl (fun K_ hK_ => ?_) AllReadyH.nil
          refine event_step (v := .string (strOfNums (cutL b 8 at_))) (w1 := w11) rfl ?hrun ?_
          case hrun => first | (go_simp; done) | (go_simp; rfl)
          refine hK_.out _ _ (⟨blk_cell H11.out.top 0, HCB.out⟩) (fun hS_ => ?_)
          clear hK_ K_ hS
          have hS := hS_
          clear hS_
          try simp only [Act.put, List.setIfInBounds_toArray, List.set_cons_zero, List.set_cons_succ]
          refine wpAnyH_take (i := 11) (oi := { dst := some 101, op := Op.binOp BinOp.eql 9 (Operand.tmp 98) (Operand.tmp 100) 9, type := 4, pos := "law.go:221", after := #[{ on := 8, ground := Ground.data }, { on := 10, ground := Ground.data }], guard := none }) (v := ?_) rfl (by kernel_rfl) (by kernel_rfl) (by kernel_rfl) (fun _ _ _ h => h) (Or.inl ⟨by rfl, ?_⟩) hS ?_
          rotate_left
          · intro W_ hSW_
            go_simp
            try with_reducible rfl
          try simp only [Act.put, List.setIfInBounds_toArray, List.set_cons_zero, List.set_cons_succ]
          refine wpAnyH_take (i := 12) (oi := { dst := some 16, op := Op.assign (Operand.tmp 101), type := 4, pos := "law.go:221", after := #[{ on := 11, ground := Ground.data }, { on := 7, ground := Ground.chain }, { on := 0, ground := Ground.phase }, { on := 1, ground := Ground.phase }, { on := 2, ground := Ground.phase }, { on := 3, ground := Ground.phase }, { on := 4, ground := Ground.phase }, { on := 5, ground := Ground.phase }, { on := 6, ground := Ground.phase }, { on := 7, ground := Ground.phase }, { on := 8, ground := Ground.phase }, { on := 9, ground := Ground.phase }, { on := 10, ground := Ground.phase }, { on := 11, ground := Ground.phase }], guard := none }) (v := ?_) rfl (by kernel_rfl) (by kernel_rfl) (by kernel_rfl) (fun _ _ _ h => h) (Or.inl ⟨by rfl, ?_⟩) hS ?_
          rotate_left
          · intro W_ hSW_
            go_simp
            try with_reducible rfl
          try simp only [Act.put, List.setIfInBounds_toArray, List.set_cons_zero, List.set_cons_succ]
          refine wpAnyH_done (by kernel_rfl) ?_ _
          clear hS
          go_wp2_with fail
          go_ret
          exact ⟨by simp, H11.out.below'⟩
        · have c9 := HEQ2.out hlast
          have HLA := Aside0.mk hlast
          rw [if_neg hlast, misR_none] at KK
          clear hlast
          refine KK.out.mono ?_
          rintro e w10 ⟨rfl, h10⟩
          have H10 := Aside0.mk ((H9.out.step h10).drew'')
          have z0 := blk_cell H10.out.top 0
          have hCB := H10.out.came HC'.out
          have HYL := Aside0.mk (show (cutL b 8 at_).length = cl from HCLN.out)
          clear h10 z1 KK
          go_wp2_with fail
          refine wp_region_held_drew (S := fun W => W.cell? ⟨g7, 0, none⟩ = some (.pointer (some ⟨gm, 0, none⟩)) ∧ (Kd.int .u8).C W A' cl (cutL b 8 at_)) (by kernel_rfl) ⟨z0, hCB⟩ (fun hS => ?_)
          refine wpAnyH_take (i := 0) (oi := { dst := some 90, op := Op.fieldAddr 30 (Operand.tmp 7) 0, type := 0, pos := "law.go:221", after := #[], guard := none }) (v := ?_) rfl (by kernel_rfl) (by kernel_rfl) (by kernel_rfl) (fun _ _ _ h => h) (Or.inl ⟨by rfl, ?_⟩) hS ?_
          rotate_left
          · intro W_ hSW_
            obtain ⟨z0_, hC_⟩ := hSW_
            have k2_ := Kd.C_string (P := Try.prog) (src := 22) (dst := 9) (c := c') Try.underlying22 Try.underlying5 Try.underlying9 hC_
            go_simp
            try with_reducible rfl
          try simp only [Act.put, List.setIfInBounds_toArray, List.set_cons_zero, List.set_cons_succ]
          refine wpAnyH_take (i := 1) (oi := { dst := some 91, op := Op.load 24 (Operand.tmp 90), type := 24, pos := "law.go:221", after := #[{ on := 0, ground := Ground.data }], guard := none }) (v := ?_) rfl (by kernel_rfl) (by kernel_rfl) (by kernel_rfl) (fun _ _ _ h => h) (Or.inl ⟨by rfl, ?_⟩) hS ?_
          rotate_left
          · intro W_ hSW_
            obtain ⟨z0_, hC_⟩ := hSW_
            have k2_ := Kd.C_string (P := Try.prog) (src := 22) (dst := 9) (c := c') Try.underlying22 Try.underlying5 Try.underlying9 hC_
            go_simp
            try with_reducible rfl
          try simp only [Act.put, List.setIfInBounds_toArray, List.set_cons_zero, List.set_cons_succ]
          refine wpAnyH_take (i := 2) (oi := { dst := some 92, op := Op.move (Operand.tmp 10), type := 3, pos := "law.go:221", after := #[], guard := none }) (v := ?_) rfl (by kernel_rfl) (by kernel_rfl) (by kernel_rfl) (fun _ _ _ h => h) (Or.inl ⟨by rfl, ?_⟩) hS ?_
          rotate_left
          · intro W_ hSW_
            obtain ⟨z0_, hC_⟩ := hSW_
            have k2_ := Kd.C_string (P := Try.prog) (src := 22) (dst := 9) (c := c') Try.underlying22 Try.underlying5 Try.underlying9 hC_
            go_simp
            try with_reducible rfl
          try simp only [Act.put, List.setIfInBounds_toArray, List.set_cons_zero, List.set_cons_succ]
          refine wpAnyH_take (i := 3) (oi := { dst := some 93, op := Op.binOp BinOp.mul 3 (Operand.tmp 92) (Operand.const (Value.int IntKind.i64 8)) 3, type := 3, pos := "law.go:221", after := #[{ on := 2, ground := Ground.data }], guard := none }) (v := ?_) rfl (by kernel_rfl) (by kernel_rfl) (by kernel_rfl) (fun _ _ _ h => h) (Or.inl ⟨by rfl, ?_⟩) hS ?_
          rotate_left
          · intro W_ hSW_
            obtain ⟨z0_, hC_⟩ := hSW_
            have k2_ := Kd.C_string (P := Try.prog) (src := 22) (dst := 9) (c := c') Try.underlying22 Try.underlying5 Try.underlying9 hC_
            go_simp
            try with_reducible rfl
          try simp only [Act.put, List.setIfInBounds_toArray, List.set_cons_zero, List.set_cons_succ]
          refine wpAnyH_take (i := 4) (oi := { dst := some 94, op := Op.binOp BinOp.add 3 (Operand.const (Value.int IntKind.i64 4096)) (Operand.tmp 93) 3, type := 3, pos := "law.go:221", after := #[{ on := 3, ground := Ground.data }], guard := none }) (v := ?_) rfl (by kernel_rfl) (by kernel_rfl) (by kernel_rfl) (fun _ _ _ h => h) (Or.inl ⟨by rfl, ?_⟩) hS ?_
          rotate_left
          · intro W_ hSW_
            obtain ⟨z0_, hC_⟩ := hSW_
            have k2_ := Kd.C_string (P := Try.prog) (src := 22) (dst := 9) (c := c') Try.underlying22 Try.underlying5 Try.underlying9 hC_
            go_simp
            try with_reducible rfl
          try simp only [Act.put, List.setIfInBounds_toArray, List.set_cons_zero, List.set_cons_succ]
          refine wpAnyH_take (i := 5) (oi := { dst := some 95, op := Op.move (Operand.tmp 12), type := 22, pos := "law.go:221", after := #[], guard := none }) (v := ?_) rfl (by kernel_rfl) (by kernel_rfl) (by kernel_rfl) (fun _ _ _ h => h) (Or.inl ⟨by rfl, ?_⟩) hS ?_
          rotate_left
          · intro W_ hSW_
            obtain ⟨z0_, hC_⟩ := hSW_
            have k2_ := Kd.C_string (P := Try.prog) (src := 22) (dst := 9) (c := c') Try.underlying22 Try.underlying5 Try.underlying9 hC_
            go_simp
            try with_reducible rfl
          try simp only [Act.put, List.setIfInBounds_toArray, List.set_cons_zero, List.set_cons_succ]
          refine wpAnyH_take (i := 6) (oi := { dst := some 96, op := Op.call { callee := Callee.builtin Builtin.len, args := #[Operand.tmp 95], argTypes := #[22] }, type := 3, pos := "law.go:221", after := #[{ on := 5, ground := Ground.data }], guard := none }) (v := ?_) rfl (by kernel_rfl) (by kernel_rfl) (by kernel_rfl) (fun _ _ _ h => h) (Or.inl ⟨by rfl, ?_⟩) hS ?_
          rotate_left
          · intro W_ hSW_
            obtain ⟨z0_, hC_⟩ := hSW_
            have k2_ := Kd.C_string (P := Try.prog) (src := 22) (dst := 9) (c := c') Try.underlying22 Try.underlying5 Try.underlying9 hC_
            go_simp
            try with_reducible rfl
          try simp only [Act.put, List.setIfInBounds_toArray, List.set_cons_zero, List.set_cons_succ]
          refine wpAnyH_take (i := 9) (oi := { dst := some 99, op := Op.move (Operand.tmp 12), type := 22, pos := "law.go:221", after := #[], guard := none }) (v := ?_) rfl (by kernel_rfl) (by kernel_rfl) (by kernel_rfl) (fun _ _ _ h => h) (Or.inl ⟨by rfl, ?_⟩) hS ?_
          rotate_left
          · intro W_ hSW_
            obtain ⟨z0_, hC_⟩ := hSW_
            have k2_ := Kd.C_string (P := Try.prog) (src := 22) (dst := 9) (c := c') Try.underlying22 Try.underlying5 Try.underlying9 hC_
            go_simp
            try with_reducible rfl
          try simp only [Act.put, List.setIfInBounds_toArray, List.set_cons_zero, List.set_cons_succ]
          refine wpAnyH_take (i := 10) (oi := { dst := some 100, op := Op.convert 22 9 (Operand.tmp 99), type := 9, pos := "law.go:221", after := #[{ on := 9, ground := Ground.data }], guard := none }) (v := ?_) rfl (by kernel_rfl) (by kernel_rfl) (by kernel_rfl) (fun _ _ _ h => h) (Or.inl ⟨by rfl, ?_⟩) hS ?_
          rotate_left
          · intro W_ hSW_
            obtain ⟨z0_, hC_⟩ := hSW_
            have k2_ := Kd.C_string (P := Try.prog) (src := 22) (dst := 9) (c := c') Try.underlying22 Try.underlying5 Try.underlying9 hC_
            go_simp
            try with_reducible rfl
          try simp only [Act.put, List.setIfInBounds_toArray, List.set_cons_zero, List.set_cons_succ]
          refine wpAnyH_ready (rs := [7]) (by kernel_rfl) (by simp) ?_
          refine AllReadyH.cons (o := { dst := some 97, op := Op.call { callee := Callee.value (Operand.func 19), args := #[Operand.tmp 91, Operand.tmp 94, Operand.tmp 96], argTypes := #[24, 3, 3] }, type := 22, pos := "law.go:221", after := #[{ on := 1, ground := Ground.data }, { on := 4, ground := Ground.data }, { on := 6, ground := Ground.data }], guard := none }) rfl (fun K_ hK_ => ?_) AllReadyH.nil
          go_simp
          refine (HRDB.out _ _ H10.out).mono ?_
          rintro e w11 ⟨v11, rfl, h11⟩
          rw [HRD.out] at h11
          obtain ⟨A11, c11, rfl, _, hC11⟩ := h11.readsN HYL.out
          have k11 := Kd.C_string (P := Try.prog) (src := 22) (dst := 9) (c := c11) Try.underlying22 Try.underlying5 Try.underlying9 hC11
          have H11 := Aside0.mk (H10.out.step h11.below)
          have HCB := Aside0.mk (H11.out.came HC'.out)
          clear h11 hC11
          refine hK_.out _ _ (⟨blk_cell H11.out.top 0, HCB.out⟩) (fun hS_ => ?_)
          clear hK_ K_ hS
          have hS := hS_
          clear hS_
          try simp only [Act.put, List.setIfInBounds_toArray, List.set_cons_zero, List.set_cons_succ]
          refine wpAnyH_ready (rs := [8]) (by kernel_rfl) (by simp) ?_
          refine AllReadyH.cons (o := { dst := some 98, op := Op.convert 22 9 (Operand.tmp 97), type := 9, pos := "law.go:221", after := #[{ on := 7, ground := Ground.data }], guard := none }) rfl (fun K_ hK_ => ?_) AllReadyH.nil
          refine event_step (v := .string (strOfNums (cutL b 8 at_))) (w1 := w11) rfl ?hrun ?_
          case hrun => first | (go_simp; done) | (go_simp; rfl)
          refine hK_.out _ _ (⟨blk_cell H11.out.top 0, HCB.out⟩) (fun hS_ => ?_)
          clear hK_ K_ hS
          have hS := hS_
          clear hS_
          try simp only [Act.put, List.setIfInBounds_toArray, List.set_cons_zero, List.set_cons_succ]
          refine wpAnyH_take (i := 11) (oi := { dst := some 101, op := Op.binOp BinOp.eql 9 (Operand.tmp 98) (Operand.tmp 100) 9, type := 4, pos := "law.go:221", after := #[{ on := 8, ground := Ground.data }, { on := 10, ground := Ground.data }], guard := none }) (v := ?_) rfl (by kernel_rfl) (by kernel_rfl) (by kernel_rfl) (fun _ _ _ h => h) (Or.inl ⟨by rfl, ?_⟩) hS ?_
          rotate_left
          · intro W_ hSW_
            go_simp
            try with_reducible rfl
          try simp only [Act.put, List.setIfInBounds_toArray, List.set_cons_zero, List.set_cons_succ]
          refine wpAnyH_take (i := 12) (oi := { dst := some 16, op := Op.assign (Operand.tmp 101), type := 4, pos := "law.go:221", after := #[{ on := 11, ground := Ground.data }, { on := 7, ground := Ground.chain }, { on := 0, ground := Ground.phase }, { on := 1, ground := Ground.phase }, { on := 2, ground := Ground.phase }, { on := 3, ground := Ground.phase }, { on := 4, ground := Ground.phase }, { on := 5, ground := Ground.phase }, { on := 6, ground := Ground.phase }, { on := 7, ground := Ground.phase }, { on := 8, ground := Ground.phase }, { on := 9, ground := Ground.phase }, { on := 10, ground := Ground.phase }, { on := 11, ground := Ground.phase }], guard := none }) (v := ?_) rfl (by kernel_rfl) (by kernel_rfl) (by kernel_rfl) (fun _ _ _ h => h) (Or.inl ⟨by rfl, ?_⟩) hS ?_
          rotate_left
          · intro W_ hSW_
            go_simp
            try with_reducible rfl
          try simp only [Act.put, List.setIfInBounds_toArray, List.set_cons_zero, List.set_cons_succ]
          refine wpAnyH_done (by kernel_rfl) ?_ _
          clear hS
          go_wp2_with fail
          go_ret
          exact ⟨by simp, H11.out.below'⟩
      · have K := HCHK.out _ H6.out
        rw [hst] at K
        have HP' := Aside0.mk hP'
        clear hst hP'
        refine K.mono ?_
        clear K
        rintro e w8 ⟨rfl, h8⟩
        have H8 := Aside0.mk h8
        have z0 := blk_cell h8.top 0
        clear h8 z1
        go_wp2_with fail
        refine (PowerOn_call H8.out).mono ?_
        rintro e w9 ⟨rfl, h9⟩
        have H9 := Aside0.mk (show NvM w w9 gm gb N (on B') (upd gu gm 4096 8 [ob g7 (o30n gm gu gd 8)]) from h9)
        have z1 := blk_cell h9.top 1
        clear h9 z0
        go_wp2_with fail
        have K := HMIS.out _ _ (.inr HP'.out) H9.out
        rw [HM2.out _ HP'.out, if_pos HAT.out, misR_some] at K
        have KK := Aside0.mk K
        clear K
        refine KK.out.mono ?_
        rintro e w10 ⟨rfl, h10⟩
        have H10 := Aside0.mk ((H9.out.step h10).drew'')
        have z0 := blk_cell H10.out.top 0
        have hCB := H10.out.came HC'.out
        have HYL := Aside0.mk (show ((on B').rds ad cl).length = cl from HRLN.out _ H9.out.1)
        clear h10 z1 KK
        go_wp2_with fail
        refine wp_region_held_drew (S := fun W => W.cell? ⟨g7, 0, none⟩ = some (.pointer (some ⟨gm, 0, none⟩)) ∧ (Kd.int .u8).C W A' cl (cutL b 8 at_)) (by kernel_rfl) ⟨z0, hCB⟩ (fun hS => ?_)
        refine wpAnyH_take (i := 0) (oi := { dst := some 90, op := Op.fieldAddr 30 (Operand.tmp 7) 0, type := 0, pos := "law.go:221", after := #[], guard := none }) (v := ?_) rfl (by kernel_rfl) (by kernel_rfl) (by kernel_rfl) (fun _ _ _ h => h) (Or.inl ⟨by rfl, ?_⟩) hS ?_
        rotate_left
        · intro W_ hSW_
          obtain ⟨z0_, hC_⟩ := hSW_
          have k2_ := Kd.C_string (P := Try.prog) (src := 22) (dst := 9) (c := c') Try.underlying22 Try.underlying5 Try.underlying9 hC_
          go_simp
          try with_reducible rfl
        try simp only [Act.put, List.setIfInBounds_toArray, List.set_cons_zero, List.set_cons_succ]
        refine wpAnyH_take (i := 1) (oi := { dst := some 91, op := Op.load 24 (Operand.tmp 90), type := 24, pos := "law.go:221", after := #[{ on := 0, ground := Ground.data }], guard := none }) (v := ?_) rfl (by kernel_rfl) (by kernel_rfl) (by kernel_rfl) (fun _ _ _ h => h) (Or.inl ⟨by rfl, ?_⟩) hS ?_
        rotate_left
        · intro W_ hSW_
          obtain ⟨z0_, hC_⟩ := hSW_
          have k2_ := Kd.C_string (P := Try.prog) (src := 22) (dst := 9) (c := c') Try.underlying22 Try.underlying5 Try.underlying9 hC_
          go_simp
          try with_reducible rfl
        try simp only [Act.put, List.setIfInBounds_toArray, List.set_cons_zero, List.set_cons_succ]
        refine wpAnyH_take (i := 2) (oi := { dst := some 92, op := Op.move (Operand.tmp 10), type := 3, pos := "law.go:221", after := #[], guard := none }) (v := ?_) rfl (by kernel_rfl) (by kernel_rfl) (by kernel_rfl) (fun _ _ _ h => h) (Or.inl ⟨by rfl, ?_⟩) hS ?_
        rotate_left
        · intro W_ hSW_
          obtain ⟨z0_, hC_⟩ := hSW_
          have k2_ := Kd.C_string (P := Try.prog) (src := 22) (dst := 9) (c := c') Try.underlying22 Try.underlying5 Try.underlying9 hC_
          go_simp
          try with_reducible rfl
        try simp only [Act.put, List.setIfInBounds_toArray, List.set_cons_zero, List.set_cons_succ]
        refine wpAnyH_take (i := 3) (oi := { dst := some 93, op := Op.binOp BinOp.mul 3 (Operand.tmp 92) (Operand.const (Value.int IntKind.i64 8)) 3, type := 3, pos := "law.go:221", after := #[{ on := 2, ground := Ground.data }], guard := none }) (v := ?_) rfl (by kernel_rfl) (by kernel_rfl) (by kernel_rfl) (fun _ _ _ h => h) (Or.inl ⟨by rfl, ?_⟩) hS ?_
        rotate_left
        · intro W_ hSW_
          obtain ⟨z0_, hC_⟩ := hSW_
          have k2_ := Kd.C_string (P := Try.prog) (src := 22) (dst := 9) (c := c') Try.underlying22 Try.underlying5 Try.underlying9 hC_
          go_simp
          try with_reducible rfl
        try simp only [Act.put, List.setIfInBounds_toArray, List.set_cons_zero, List.set_cons_succ]
        refine wpAnyH_take (i := 4) (oi := { dst := some 94, op := Op.binOp BinOp.add 3 (Operand.const (Value.int IntKind.i64 4096)) (Operand.tmp 93) 3, type := 3, pos := "law.go:221", after := #[{ on := 3, ground := Ground.data }], guard := none }) (v := ?_) rfl (by kernel_rfl) (by kernel_rfl) (by kernel_rfl) (fun _ _ _ h => h) (Or.inl ⟨by rfl, ?_⟩) hS ?_
        rotate_left
        · intro W_ hSW_
          obtain ⟨z0_, hC_⟩ := hSW_
          have k2_ := Kd.C_string (P := Try.prog) (src := 22) (dst := 9) (c := c') Try.underlying22 Try.underlying5 Try.underlying9 hC_
          go_simp
          try with_reducible rfl
        try simp only [Act.put, List.setIfInBounds_toArray, List.set_cons_zero, List.set_cons_succ]
        refine wpAnyH_take (i := 5) (oi := { dst := some 95, op := Op.move (Operand.tmp 12), type := 22, pos := "law.go:221", after := #[], guard := none }) (v := ?_) rfl (by kernel_rfl) (by kernel_rfl) (by kernel_rfl) (fun _ _ _ h => h) (Or.inl ⟨by rfl, ?_⟩) hS ?_
        rotate_left
        · intro W_ hSW_
          obtain ⟨z0_, hC_⟩ := hSW_
          have k2_ := Kd.C_string (P := Try.prog) (src := 22) (dst := 9) (c := c') Try.underlying22 Try.underlying5 Try.underlying9 hC_
          go_simp
          try with_reducible rfl
        try simp only [Act.put, List.setIfInBounds_toArray, List.set_cons_zero, List.set_cons_succ]
        refine wpAnyH_take (i := 6) (oi := { dst := some 96, op := Op.call { callee := Callee.builtin Builtin.len, args := #[Operand.tmp 95], argTypes := #[22] }, type := 3, pos := "law.go:221", after := #[{ on := 5, ground := Ground.data }], guard := none }) (v := ?_) rfl (by kernel_rfl) (by kernel_rfl) (by kernel_rfl) (fun _ _ _ h => h) (Or.inl ⟨by rfl, ?_⟩) hS ?_
        rotate_left
        · intro W_ hSW_
          obtain ⟨z0_, hC_⟩ := hSW_
          have k2_ := Kd.C_string (P := Try.prog) (src := 22) (dst := 9) (c := c') Try.underlying22 Try.underlying5 Try.underlying9 hC_
          go_simp
          try with_reducible rfl
        try simp only [Act.put, List.setIfInBounds_toArray, List.set_cons_zero, List.set_cons_succ]
        refine wpAnyH_take (i := 9) (oi := { dst := some 99, op := Op.move (Operand.tmp 12), type := 22, pos := "law.go:221", after := #[], guard := none }) (v := ?_) rfl (by kernel_rfl) (by kernel_rfl) (by kernel_rfl) (fun _ _ _ h => h) (Or.inl ⟨by rfl, ?_⟩) hS ?_
        rotate_left
        · intro W_ hSW_
          obtain ⟨z0_, hC_⟩ := hSW_
          have k2_ := Kd.C_string (P := Try.prog) (src := 22) (dst := 9) (c := c') Try.underlying22 Try.underlying5 Try.underlying9 hC_
          go_simp
          try with_reducible rfl
        try simp only [Act.put, List.setIfInBounds_toArray, List.set_cons_zero, List.set_cons_succ]
        refine wpAnyH_take (i := 10) (oi := { dst := some 100, op := Op.convert 22 9 (Operand.tmp 99), type := 9, pos := "law.go:221", after := #[{ on := 9, ground := Ground.data }], guard := none }) (v := ?_) rfl (by kernel_rfl) (by kernel_rfl) (by kernel_rfl) (fun _ _ _ h => h) (Or.inl ⟨by rfl, ?_⟩) hS ?_
        rotate_left
        · intro W_ hSW_
          obtain ⟨z0_, hC_⟩ := hSW_
          have k2_ := Kd.C_string (P := Try.prog) (src := 22) (dst := 9) (c := c') Try.underlying22 Try.underlying5 Try.underlying9 hC_
          go_simp
          try with_reducible rfl
        try simp only [Act.put, List.setIfInBounds_toArray, List.set_cons_zero, List.set_cons_succ]
        refine wpAnyH_ready (rs := [7]) (by kernel_rfl) (by simp) ?_
        refine AllReadyH.cons (o := { dst := some 97, op := Op.call { callee := Callee.value (Operand.func 19), args := #[Operand.tmp 91, Operand.tmp 94, Operand.tmp 96], argTypes := #[24, 3, 3] }, type := 22, pos := "law.go:221", after := #[{ on := 1, ground := Ground.data }, { on := 4, ground := Ground.data }, { on := 6, ground := Ground.data }], guard := none }) rfl (fun K_ hK_ => ?_) AllReadyH.nil
        go_simp
        refine (HRDB.out _ _ H10.out).mono ?_
        rintro e w11 ⟨v11, rfl, h11⟩
        obtain ⟨A11, c11, rfl, _, hC11⟩ := h11.readsN HYL.out
        have k11 := Kd.C_string (P := Try.prog) (src := 22) (dst := 9) (c := c11) Try.underlying22 Try.underlying5 Try.underlying9 hC11
        have H11 := Aside0.mk (H10.out.step h11.below)
        have HCB := Aside0.mk (H11.out.came HC'.out)
        clear h11 hC11
        refine hK_.out _ _ (⟨blk_cell H11.out.top 0, HCB.out⟩) (fun hS_ => ?_)
        clear hK_ K_ hS
        have hS := hS_
        clear hS_
        try simp only [Act.put, List.setIfInBounds_toArray, List.set_cons_zero, List.set_cons_succ]
        refine wpAnyH_ready (rs := [8]) (by kernel_rfl) (by simp) ?_
        refine AllReadyH.cons (o := { dst := some 98, op := Op.convert 22 9 (Operand.tmp 97), type := 9, pos := "law.go:221", after := #[{ on := 7, ground := Ground.data }], guard := none }) rfl (fun K_ hK_ => ?_) AllReadyH.nil
        refine event_step (v := .string (strOfNums ((on B').rds ad cl))) (w1 := w11) rfl ?hrun ?_
        case hrun => first | (go_simp; done) | (go_simp; rfl)
        refine hK_.out _ _ (⟨blk_cell H11.out.top 0, HCB.out⟩) (fun hS_ => ?_)
        clear hK_ K_ hS
        have hS := hS_
        clear hS_
        try simp only [Act.put, List.setIfInBounds_toArray, List.set_cons_zero, List.set_cons_succ]
        refine wpAnyH_take (i := 11) (oi := { dst := some 101, op := Op.binOp BinOp.eql 9 (Operand.tmp 98) (Operand.tmp 100) 9, type := 4, pos := "law.go:221", after := #[{ on := 8, ground := Ground.data }, { on := 10, ground := Ground.data }], guard := none }) (v := ?_) rfl (by kernel_rfl) (by kernel_rfl) (by kernel_rfl) (fun _ _ _ h => h) (Or.inl ⟨by rfl, ?_⟩) hS ?_
        rotate_left
        · intro W_ hSW_
          go_simp
          try with_reducible rfl
        try simp only [Act.put, List.setIfInBounds_toArray, List.set_cons_zero, List.set_cons_succ]
        refine wpAnyH_take (i := 12) (oi := { dst := some 16, op := Op.assign (Operand.tmp 101), type := 4, pos := "law.go:221", after := #[{ on := 11, ground := Ground.data }, { on := 7, ground := Ground.chain }, { on := 0, ground := Ground.phase }, { on := 1, ground := Ground.phase }, { on := 2, ground := Ground.phase }, { on := 3, ground := Ground.phase }, { on := 4, ground := Ground.phase }, { on := 5, ground := Ground.phase }, { on := 6, ground := Ground.phase }, { on := 7, ground := Ground.phase }, { on := 8, ground := Ground.phase }, { on := 9, ground := Ground.phase }, { on := 10, ground := Ground.phase }, { on := 11, ground := Ground.phase }], guard := none }) (v := ?_) rfl (by kernel_rfl) (by kernel_rfl) (by kernel_rfl) (fun _ _ _ h => h) (Or.inl ⟨by rfl, ?_⟩) hS ?_
        rotate_left
        · intro W_ hSW_
          go_simp
          try with_reducible rfl
        try simp only [Act.put, List.setIfInBounds_toArray, List.set_cons_zero, List.set_cons_succ]
        refine wpAnyH_done (by kernel_rfl) ?_ _
        clear hS
        go_wp2_with fail
        go_ret
        exact ⟨by simp, H11.out.below'⟩

theorem Stored_row {R0 : Prop} (A : Option Addr) (cp : Nat) (b : List Int) (i k : Int) (w : World) (hr0 : (Kd.int .u8).C w A b.length b) (hc0 : b.length ≤ cp)
    (g0 : R0 ∧ b.length ≤ maxLen ∧ ∀ x ∈ b, (Lit.int .u8 x).wf = true) (g1 : (Lit.int .u8 i).wf = true) (g2 : (Lit.int .u8 k).wf = true) :
    Calls Try.prog 4 #[.slice A b.length cp, .int .u8 i, .int .u8 k] w fun e w' => e = .returned (.bool true) ∧ Below w.heap.size w w' := by
  have h1 := PUpdaterMatchesModel.wf_u8 (l := [i]) (by simpa using g1) i (by simp)
  have h2 := PUpdaterMatchesModel.wf_u8 (l := [k]) (by simpa using g2) k (by simp)
  obtain ⟨i, rfl⟩ := Int.eq_ofNat_of_zero_le h1.1
  obtain ⟨k, rfl⟩ := Int.eq_ofNat_of_zero_le h2.1
  exact Stored_law A cp b i k w hr0 hc0 (fun x hx => by have := PUpdaterMatchesModel.wf_u8 g0.2.2 x hx; omega) (by omega) (by omega)
end Go.Proofs.Ytfcldacjnegacaa.Up
