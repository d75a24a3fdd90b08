/- UpdaterSpoilt: the law answers true. Printed by mkSp.py. -/
import Derived.Test.YtfcldacjnegacaaSpQ
namespace Go.Proofs.Ytfcldacjnegacaa.Up
open Go.RowKit Go.Proofs.YtfcldacjnegacaaW.PrintWords Go.Proofs.YtfcldacjnegacaaW.PrintLast Go.Proofs.YtfcldacjnegacaaW.PrintMore Go.Proofs.Ytfcldacjnegacaa.Sl
set_option linter.unusedVariables false
set_option linter.unusedSimpArgs false
section
variable {L : List Chunk} {w0 w w' : World} {gm gb gu N : Nat} {d : Dv}
/-- A row of the call's own, beside the updater. -/
theorem NvM.front {c : Int} {x : Chunk} (h : NvM w0 w gm gb N d (upd gu gm 4096 c (x :: L))) : ∃ M, Mem w0 w (x :: M) ∧ ∀ w' x', Mem w0 w' (x' :: M) → NvM w0 w' gm gb N d (upd gu gm 4096 c (x' :: L)) := by
  obtain ⟨hd, lf, wv, hlf, hm⟩ := h
  exact ⟨_, hm.p3, fun w' x' hm' => ⟨hd, lf, wv, hlf, hm'.q3⟩⟩
theorem NvM.swap {c : Int} {x y : Chunk} (h : NvM w0 w gm gb N d (upd gu gm 4096 c (x :: y :: L))) : NvM w0 w gm gb N d (upd gu gm 4096 c (y :: x :: L)) := by
  obtain ⟨hd, lf, wv, hlf, hm⟩ := h
  exact ⟨hd, lf, wv, hlf, hm.perm (List.Perm.append_left [_, _, _] (List.Perm.swap y x L))⟩
theorem NvM.third {c : Int} {x y z : Chunk} (h : NvM w0 w gm gb N d (upd gu gm 4096 c (x :: y :: z :: L))) : NvM w0 w gm gb N d (upd gu gm 4096 c (z :: x :: y :: L)) := by
  obtain ⟨hd, lf, wv, hlf, hm⟩ := h
  exact ⟨hd, lf, wv, hlf, hm.perm (List.Perm.append_left [_, _, _] (List.perm_middle (l₁ := [x, y])))⟩
theorem NvM.chunk2 {c : Nat} {v : Value} {xs0 : List Int} (h : NvM w0 w gm gb N d (upd gu gm 4096 (c : Int) (row w0 (Kd.int .u8) 5 v xs0 :: L))) (hN : N = 10240) (hc : 4 ≤ c) (hc2 : c ≤ 36) (i : Int) (hi : (Lit.int .i64 i).wf = true) {A : Option Addr} {n cp : Nat} {xs : List Int}
    (hC : ∀ W M, Mem w0 W (row w0 (Kd.int .u8) 5 v xs0 :: M) → (Kd.int .u8).C W A n xs) (hx : ∀ x ∈ xs, 0 ≤ x ∧ x < 256) (hl : xs.length = n) :
    Calls Try.prog 14 #[.pointer (some ⟨gu, 0, none⟩), .int .i64 i, .slice A n cp] w fun x w' => x = .returned (.int .i64 (d.store 4096 c i xs).2) ∧ NvM w0 w' gm gb N (d.store 4096 c i xs).1 (upd gu gm 4096 (c : Int) (row w0 (Kd.int .u8) 5 v xs0 :: L)) :=
  Chunk_call (sl := 4096) h hN hc hc2 (by omega) i hi hl (fun d' W hW => by obtain ⟨M, hm, _⟩ := hW.front; rw [hl]; exact hC W M hm) hx
end
def SpoRel (w : World) (cs : List Int) (gm gb gu N g7 q : Nat) (o7 : Obj) (v : Value) (s : Int) (v84 : Value) (wr : World) : Prop :=
  ∃ (j : Nat) (B : List Int), j ≤ q ∧ v84 = .int .i64 (j : Int) ∧ Part B 9 (cs.length : Int) s 36 q j ∧ Fill B cs 36 cs.length j ∧ NvM w wr gm gb N (on B) (upd gu gm 4096 36 [row w (Kd.int .u8) 5 v cs, ob g7 o7])
theorem spoilt_list {b cs : List Int} {k mk : Nat} {x0 x1 y1 y2 : Int} (hb : ∀ x ∈ b, 0 ≤ x ∧ x < 256) (hk : k + 1 < b.length) (hm : mk < 65536) (hm0 : ¬ mk = 0) (h0 : b.getD k 0 = x0) (h1 : b.getD (k + 1) 0 = x1)
    (hy1 : bits BinOp.xor IntKind.u8 x0 ((mk : Int) / 256 % 256) = y1) (hy2 : bits BinOp.xor IntKind.u8 x1 ((mk : Int) % 256) = y2) (hcs : (b.set k y1).set (k + 1) y2 = cs) : cs.length = b.length ∧ (∀ x ∈ cs, 0 ≤ x ∧ x < 256) ∧ crcI cs ≠ crcI b := by
  subst hcs
  have e1 : (mk : Int) / 256 % 256 = ((mk / 256 : Nat) : Int) := by omega
  have e2 : (mk : Int) % 256 = ((mk % 256 : Nat) : Int) := by omega
  have g0 : 0 ≤ x0 ∧ x0 < 256 := by
    rw [← h0, List.getD_eq_getElem?_getD, List.getElem?_eq_getElem (show k < b.length by omega)]
    exact hb _ (List.getElem_mem _)
  have g1 : 0 ≤ x1 ∧ x1 < 256 := by
    rw [← h1, List.getD_eq_getElem?_getD, List.getElem?_eq_getElem hk]
    exact hb _ (List.getElem_mem _)
  obtain ⟨a1, a2, a3⟩ := byte_xor' x0 (mk / 256) g0.1 g0.2 (by omega)
  obtain ⟨b1, b2, b3⟩ := byte_xor' x1 (mk % 256) g1.1 g1.2 (by omega)
  rw [e1] at hy1
  rw [e2] at hy2
  rw [hy1] at a1 a2 a3
  rw [hy2] at b1 b2 b3
  refine ⟨by rw [List.length_set, List.length_set], ?_, crc_spoilt b k (mk / 256) (mk % 256) y1 y2 hk (by omega) (by omega) (by omega) (by rw [h0]; exact a1) (by rw [h1]; exact b1)⟩
  intro x hx
  rcases List.mem_or_eq_of_mem_set hx with hx | rfl
  · rcases List.mem_or_eq_of_mem_set hx with hx | rfl
    · exact hb x hx
    · exact ⟨a2, a3⟩
  · exact ⟨b2, b3⟩
theorem row_cut {w0 W : World} {g n cp c i : Nat} {cs : List Int} {M : List Chunk} (hn : cs.length = n) (hM : Mem w0 W (row w0 (Kd.int .u8) 5 (.slice (some ⟨g, 0, none⟩) n cp) cs :: M)) (hi : i * c < n) : (Kd.int .u8).C W (some ⟨g, i * c, none⟩) (clen n c i) (cutL cs c i) := by
  subst hn
  obtain ⟨b0, o, e, h⟩ := cut_C (cp := cs.length) hM.readsE.2 hi (Nat.le_refl _)
  injection e with e
  injection e with e1 e2 _
  subst e1 e2
  rw [Nat.zero_add] at h
  exact h
theorem cut_row_call {W : World} {g n cp c i : Nat} (hi : i * c < n) (hcp : n ≤ cp) (hb : n ≤ 1000) (hc : 1 ≤ c) (hc2 : c ≤ 36) :
    Calls Try.prog 15 #[.slice (some ⟨g, 0, none⟩) n cp, .int .i64 (c : Int), .int .i64 (i : Int)] W fun e w' => e = .returned (.slice (some ⟨g, i * c, none⟩) (clen n c i) (cp - i * c)) ∧ W = w' := by
  have hi2 : i ≤ i * c := Nat.le_mul_of_pos_right _ hc
  obtain ⟨lo, hlo⟩ : ∃ lo, i * c = lo := ⟨_, rfl⟩
  have hlo' : (i : Int) * (c : Int) = (lo : Int) := by rw [← hlo]; push_cast; rfl
  have hhi' : ((i : Int) + 1) * (c : Int) = ((lo + c : Nat) : Int) := by rw [Int.add_mul, hlo', Int.one_mul]; push_cast; rfl
  unfold clen
  rw [hlo] at hi hi2 ⊢
  obtain ⟨k1, k2, k3, k4, k5, k6⟩ := cut_bounds hi hc hc2 hb hi2
  rw [k5]
  have h := cut_walk (W := W) (b0 := g) (o := 0) (cp := cp) k1 hlo' hhi' (wrap_small k2) (wrap_small k3) (by omega) (Nat.le_add_right _ _) (by omega) (by omega)
  rw [Nat.zero_add] at h
  exact h
theorem sp1 {n q : Nat} (hn : 2 ≤ n ∧ n ≤ 200) (hq : q = (n + 35) / 36) (hq0 : 1 ≤ q ∧ q ≤ 40) : wrap64 ((n : Int) + 36) = (n : Int) + 36 ∧ wrap64 ((n : Int) + 36 - 1) = (n : Int) + 35 ∧ wrap64 ((n : Int) + 35) = (n : Int) + 35 ∧ ((n : Int) + 35).tdiv 36 = (q : Int) ∧ wrap64 (q : Int) = (q : Int) ∧ ((n : Int) + 35) / 36 = (q : Int) ∧ ((n : Int) + 36 - 1) / 36 = (q : Int) := by
  have h1 : ((n : Int) + 35) / 36 = (q : Int) := by omega
  have h2 : ((n : Int) + 36 - 1) / 36 = (q : Int) := by omega
  rw [Int.tdiv_eq_ediv_of_nonneg (by omega), h1, h2]
  refine ⟨?_, ?_, ?_, rfl, ?_, rfl, rfl⟩
  all_goals (clear h1 h2 hq; unfold wrap64; omega)
theorem sp2 {n a k : Nat} (hn : 2 ≤ n ∧ n ≤ 200) (ha : a < 65536) (hk : k = a % (n - 1)) : wrap64 (a : Int) = (a : Int) ∧ wrap64 ((n : Int) - 1) = (n : Int) - 1 ∧ ¬ (n : Int) - 1 = 0 ∧ ¬ (n : Int) - 1 = -1 ∧ (a : Int).tmod ((n : Int) - 1) = (k : Int) ∧ (a : Int) % ((n : Int) - 1) = (k : Int) ∧ wrap64 (k : Int) = (k : Int) ∧ k + 1 < n ∧ wrap64 ((k : Int) + 1) = (k : Int) + 1 ∧ ¬ (n : Int) = 1 := by
  have h1 : (a : Int) % ((n : Int) - 1) = (k : Int) := by rw [hk, show (n : Int) - 1 = ((n - 1 : Nat) : Int) by omega]; rfl
  have h2 : k < n - 1 := by rw [hk]; exact Nat.mod_lt _ (by omega)
  refine ⟨?_, ?_, ?_, ?_, by rw [Int.tmod_eq_emod_of_nonneg (by omega)]; exact h1, h1, ?_, ?_, ?_, ?_⟩
  all_goals (clear hk h1; first | omega | (unfold wrap64; omega))

set_option maxRecDepth 100000 in
set_option maxHeartbeats 8000000 in
theorem Spoilt_law (A : Option Addr) (cp : Nat) (b : List Int) (a mk : Nat) (w : World) (hr0 : (Kd.int .u8).C w A b.length b) (hcp : b.length ≤ cp) (hb : ∀ x ∈ b, 0 ≤ x ∧ x < 256) (ha : a < 65536) (hmk : mk < 65536) :
    Calls Try.prog 5 #[.slice A b.length cp, .int .u16 (a : Int), .int .u16 (mk : Int)] w fun e w' => e = .returned (.bool true) ∧ Below w.heap.size w w' := by
  have HWK := Aside0.mk (wakes_call (Mem.start w))
  have HR0 := Aside0.mk hr0
  have HB := Aside0.mk hb
  have HCP := Aside0.mk hcp
  clear hr0 hb hcp
  obtain ⟨n, hn⟩ : ∃ n, b.length = n := ⟨_, rfl⟩
  rw [hn] at HR0 HCP ⊢
  have HN := Aside0.mk hn
  clear hn
  by_cases h2 : n < 2
  · have h2' : (n : Int) < 2 := by omega
    go_enter Try.func5, Try.ntmps5
    go_wp2_with fail
    refine HWK.out.mono ?_
    rintro e w1 ⟨rfl, h1⟩
    have HB1 := Aside0.mk h1.below
    clear h1 HWK
    go_wp2_with fail
    go_ret
    exact ⟨rfl, HB1.out⟩
  have c2 : ¬ (n : Int) < 2 := by omega
  by_cases h200 : 200 < n
  · have c3 : (200 : Int) < (n : Int) := by omega
    go_enter Try.func5, Try.ntmps5
    go_wp2_with fail
    refine HWK.out.mono ?_
    rintro e w1 ⟨rfl, h1⟩
    have HB1 := Aside0.mk h1.below
    clear h1 HWK
    go_wp2_with fail
    go_ret
    exact ⟨rfl, HB1.out⟩
  have c3 : ¬ (200 : Int) < (n : Int) := by omega
  by_cases hm0 : mk = 0
  · subst hm0
    go_enter Try.func5, Try.ntmps5
    go_wp2_with fail
    refine HWK.out.mono ?_
    rintro e w1 ⟨rfl, h1⟩
    have HB1 := Aside0.mk h1.below
    clear h1 HWK
    go_wp2_with fail
    go_ret
    exact ⟨rfl, HB1.out⟩
  have c4 : (mk == 0) = false := beq_eq_false_iff_ne.2 hm0
  have c4' : ((mk : Int) == 0) = false := beq_eq_false_iff_ne.2 (by omega)
  have HNL := Aside0.mk (show 2 ≤ n ∧ n ≤ 200 by omega)
  obtain ⟨q, hq⟩ : ∃ q, q = nch n 36 := ⟨_, rfl⟩
  have hq2 : q = (n + 35) / 36 := hq
  have hq0 : 1 ≤ q ∧ q ≤ 40 := by omega
  obtain ⟨k, hk⟩ : ∃ k, k = a % (n - 1) := ⟨_, rfl⟩
  have HQ := Aside0.mk hq
  have HQL := Aside0.mk hq0
  have HS1 := Aside0.mk (sp1 HNL.out hq2 hq0)
  have HS2 := Aside0.mk (sp2 HNL.out ha hk)
  have HMK := Aside0.mk (And.intro hmk hm0)
  clear hq hq2 hq0 hk ha hmk hm0
  have HCL := Aside0.mk (And.intro (crcI_nn b) (crcI_lt b))
  obtain ⟨sb, hsb⟩ : ∃ sb, crcI b = sb := ⟨_, rfl⟩
  have HSUM := Aside0.mk (fun W (h : Below w.heap.size w W) => sum_call (Kd.C_below HR0.out h) HCP.out HB.out (by have := HNL.out; omega))
  rw [hsb] at HCL HSUM
  have HSB := Aside0.mk hsb
  clear hsb
  obtain ⟨B0, hoff, hp0⟩ := part_offer (l := n) (c := 36) (n := q) (v := 9) (s := sb) HQ.out (by have := HNL.out; omega) (by have := HNL.out; omega) (by omega) (by omega) (by omega) (by omega) HCL.out
  have HOFF := Aside0.mk hoff
  have HP0 := Aside0.mk hp0
  clear hoff hp0
  go_enter Try.func5, Try.ntmps5
  go_wp2_with fail
  refine HWK.out.mono ?_
  rintro e w1 ⟨rfl, h1⟩
  have HM1 := Aside0.mk h1
  clear h1 HWK
  go_wp2_with fail
  refine (start_nil (c := 36) HM1.out (by omega) (by omega)).mono ?_
  rintro e w2 ⟨gm, gb, gu, gd, N, hN, rfl, h2⟩
  have HNN := Aside0.mk hN
  rw [← hN] at HOFF
  have h2' := h2.add (o30n gm gu gd 36)
  obtain ⟨g7, hg7⟩ : ∃ g7, g7 = w2.heap.size := ⟨_, rfl⟩
  rw [← hg7] at h2'
  have z1 := blk_cell h2'.top 1
  have HOC := Aside0.mk (fun W (h : NvM w W gm gb N (on (List.replicate N 0)) (upd gu gm 4096 36 [ob g7 (o30n gm gu gd 36)])) => by have K := Offer_call (c := 36) h hN (by omega) (by omega) 9 (n : Int) sb HCL.out.1 HCL.out.2; rw [HOFF.out] at K; exact K)
  have H2 := Aside0.mk (show NvM w _ gm gb N (on (List.replicate N 0)) (upd gu gm 4096 36 [ob g7 (o30n gm gu gd 36)]) from h2')
  clear h2 h2' hN HM1
  go_wp2_with fail
  rw [← hg7]
  clear hg7
  obtain ⟨W3, hW3⟩ : ∃ W3, W3 = w2.alloc (o30n gm gu gd 36) := ⟨_, rfl⟩
  refine wp_region_held_drew (S := fun W => W.cell? ⟨g7, 1, none⟩ = some (.pointer (some ⟨gu, 0, none⟩))) (by kernel_rfl) z1 (fun hS => ?_)
  clear hW3
  refine wpAnyH_take (i := 0) (oi := { dst := some 35, op := Op.move (Operand.tmp 8), type := 31, pos := "law.go:238", after := #[], guard := none }) (v := ?_) rfl (by kernel_rfl) (by kernel_rfl) (by kernel_rfl) (fun _ _ _ h => h) (Or.inl ⟨by rfl, ?_⟩) hS ?_
  rotate_left
  · intro W_ hSW_
    have z1_ := hSW_
    go_simp
    try with_reducible rfl
  try simp only [Act.put, List.setIfInBounds_toArray, List.set_cons_zero, List.set_cons_succ]
  refine wpAnyH_take (i := 1) (oi := { dst := some 36, op := Op.binOp BinOp.neq 31 (Operand.tmp 35) (Operand.const (Value.int IntKind.i64 0)) 31, type := 4, pos := "law.go:238", after := #[{ on := 0, ground := Ground.data }], guard := none }) (v := ?_) rfl (by kernel_rfl) (by kernel_rfl) (by kernel_rfl) (fun _ _ _ h => h) (Or.inl ⟨by rfl, ?_⟩) hS ?_
  rotate_left
  · intro W_ hSW_
    have z1_ := hSW_
    go_simp
    try with_reducible rfl
  try simp only [Act.put, List.setIfInBounds_toArray, List.set_cons_zero, List.set_cons_succ]
  refine wpAnyH_take (i := 2) (oi := { dst := some 37, op := Op.move (Operand.tmp 36), type := 4, pos := "law.go:238", after := #[{ on := 1, ground := Ground.data }], guard := none }) (v := ?_) rfl (by kernel_rfl) (by kernel_rfl) (by kernel_rfl) (fun _ _ _ h => h) (Or.inl ⟨by rfl, ?_⟩) hS ?_
  rotate_left
  · intro W_ hSW_
    have z1_ := hSW_
    go_simp
    try with_reducible rfl
  try simp only [Act.put, List.setIfInBounds_toArray, List.set_cons_zero, List.set_cons_succ]
  refine wpAnyH_take (i := 3) (oi := { dst := some 38, op := Op.fieldAddr 30 (Operand.tmp 7) 1, type := 0, pos := "law.go:238", after := #[{ on := 2, ground := Ground.guard }], guard := some (2, false) }) (v := ?_) rfl (by kernel_rfl) (by kernel_rfl) (by kernel_rfl) (fun _ _ _ h => h) (Or.inl ⟨by rfl, ?_⟩) hS ?_
  rotate_left
  · intro W_ hSW_
    have z1_ := hSW_
    go_simp
    try with_reducible rfl
  try simp only [Act.put, List.setIfInBounds_toArray, List.set_cons_zero, List.set_cons_succ]
  refine wpAnyH_take (i := 4) (oi := { dst := some 39, op := Op.load 25 (Operand.tmp 38), type := 25, pos := "law.go:238", after := #[{ on := 3, ground := Ground.data }, { on := 2, ground := Ground.guard }], guard := some (2, false) }) (v := ?_) rfl (by kernel_rfl) (by kernel_rfl) (by kernel_rfl) (fun _ _ _ h => h) (Or.inl ⟨by rfl, ?_⟩) hS ?_
  rotate_left
  · intro W_ hSW_
    have z1_ := hSW_
    go_simp
    try with_reducible rfl
  try simp only [Act.put, List.setIfInBounds_toArray, List.set_cons_zero, List.set_cons_succ]
  refine wpAnyH_take (i := 5) (oi := { dst := some 40, op := Op.binOp BinOp.eql 25 (Operand.tmp 39) (Operand.const (Value.pointer none)) 25, type := 4, pos := "law.go:238", after := #[{ on := 4, ground := Ground.data }, { on := 2, ground := Ground.guard }], guard := some (2, false) }) (v := ?_) rfl (by kernel_rfl) (by kernel_rfl) (by kernel_rfl) (fun _ _ _ h => h) (Or.inl ⟨by rfl, ?_⟩) hS ?_
  rotate_left
  · intro W_ hSW_
    have z1_ := hSW_
    go_simp
    try with_reducible rfl
  try simp only [Act.put, List.setIfInBounds_toArray, List.set_cons_zero, List.set_cons_succ]
  refine wpAnyH_take (i := 6) (oi := { dst := some 41, op := Op.pick (Operand.tmp 37) (Operand.const (Value.bool true)) (Operand.tmp 40), type := 4, pos := "law.go:238", after := #[{ on := 2, ground := Ground.data }, { on := 5, ground := Ground.data }], guard := none }) (v := ?_) rfl (by kernel_rfl) (by kernel_rfl) (by kernel_rfl) (fun _ _ _ h => h) (Or.inl ⟨by rfl, ?_⟩) hS ?_
  rotate_left
  · intro W_ hSW_
    have z1_ := hSW_
    go_simp
    try with_reducible rfl
  try simp only [Act.put, List.setIfInBounds_toArray, List.set_cons_zero, List.set_cons_succ]
  refine wpAnyH_take (i := 7) (oi := { dst := some 42, op := Op.move (Operand.tmp 41), type := 4, pos := "law.go:238", after := #[{ on := 6, ground := Ground.data }, { on := 2, ground := Ground.chain }], guard := none }) (v := ?_) rfl (by kernel_rfl) (by kernel_rfl) (by kernel_rfl) (fun _ _ _ h => h) (Or.inl ⟨by rfl, ?_⟩) hS ?_
  rotate_left
  · intro W_ hSW_
    have z1_ := hSW_
    go_simp
    try with_reducible rfl
  try simp only [Act.put, List.setIfInBounds_toArray, List.set_cons_zero, List.set_cons_succ]
  refine wpAnyH_take (i := 8) (oi := { dst := some 43, op := Op.fieldAddr 30 (Operand.tmp 7) 1, type := 0, pos := "law.go:238", after := #[{ on := 7, ground := Ground.guard }], guard := some (7, false) }) (v := ?_) rfl (by kernel_rfl) (by kernel_rfl) (by kernel_rfl) (fun _ _ _ h => h) (Or.inl ⟨by rfl, ?_⟩) hS ?_
  rotate_left
  · intro W_ hSW_
    have z1_ := hSW_
    go_simp
    try with_reducible rfl
  try simp only [Act.put, List.setIfInBounds_toArray, List.set_cons_zero, List.set_cons_succ]
  refine wpAnyH_take (i := 9) (oi := { dst := some 44, op := Op.load 25 (Operand.tmp 43), type := 25, pos := "law.go:238", after := #[{ on := 8, ground := Ground.data }, { on := 7, ground := Ground.guard }], guard := some (7, false) }) (v := ?_) rfl (by kernel_rfl) (by kernel_rfl) (by kernel_rfl) (fun _ _ _ h => h) (Or.inl ⟨by rfl, ?_⟩) hS ?_
  rotate_left
  · intro W_ hSW_
    have z1_ := hSW_
    go_simp
    try with_reducible rfl
  try simp only [Act.put, List.setIfInBounds_toArray, List.set_cons_zero, List.set_cons_succ]
  refine wpAnyH_take (i := 10) (oi := { dst := some 45, op := Op.move (Operand.tmp 0), type := 22, pos := "law.go:238", after := #[{ on := 7, ground := Ground.guard }], guard := some (7, false) }) (v := ?_) rfl (by kernel_rfl) (by kernel_rfl) (by kernel_rfl) (fun _ _ _ h => h) (Or.inl ⟨by rfl, ?_⟩) hS ?_
  rotate_left
  · intro W_ hSW_
    have z1_ := hSW_
    go_simp
    try with_reducible rfl
  try simp only [Act.put, List.setIfInBounds_toArray, List.set_cons_zero, List.set_cons_succ]
  refine wpAnyH_take (i := 11) (oi := { dst := some 46, op := Op.call { callee := Callee.builtin Builtin.len, args := #[Operand.tmp 45], argTypes := #[22] }, type := 3, pos := "law.go:238", after := #[{ on := 10, ground := Ground.data }, { on := 7, ground := Ground.guard }], guard := some (7, false) }) (v := ?_) rfl (by kernel_rfl) (by kernel_rfl) (by kernel_rfl) (fun _ _ _ h => h) (Or.inl ⟨by rfl, ?_⟩) hS ?_
  rotate_left
  · intro W_ hSW_
    have z1_ := hSW_
    go_simp
    try with_reducible rfl
  try simp only [Act.put, List.setIfInBounds_toArray, List.set_cons_zero, List.set_cons_succ]
  refine wpAnyH_take (i := 12) (oi := { dst := some 47, op := Op.move (Operand.tmp 0), type := 22, pos := "law.go:238", after := #[{ on := 7, ground := Ground.guard }], guard := some (7, false) }) (v := ?_) rfl (by kernel_rfl) (by kernel_rfl) (by kernel_rfl) (fun _ _ _ h => h) (Or.inl ⟨by rfl, ?_⟩) hS ?_
  rotate_left
  · intro W_ hSW_
    have z1_ := hSW_
    go_simp
    try with_reducible rfl
  try simp only [Act.put, List.setIfInBounds_toArray, List.set_cons_zero, List.set_cons_succ]
  refine wpAnyH_ready (rs := [13]) (by kernel_rfl) (by simp) ?_
  refine AllReadyH.cons (o := { dst := some 48, op := Op.call { callee := Callee.value (Operand.func 20), args := #[Operand.tmp 47], argTypes := #[22] }, type := 38, pos := "law.go:238", after := #[{ on := 12, ground := Ground.data }, { on := 7, ground := Ground.chain }, { on := 7, ground := Ground.guard }], guard := some (7, false) }) rfl (fun K_ hK_ => ?_) AllReadyH.nil
  go_simp
  refine (HSUM.out _ (below_drew H2.out.below')).mono ?_
  rintro e w4 ⟨rfl, hb4⟩
  have H4 := Aside0.mk ((H2.out.drew'').step hb4)
  clear hb4
  refine hK_.out _ _ (blk_cell H4.out.top 1) (fun hS_ => ?_)
  clear hK_ K_ hS
  have hS := hS_
  clear hS_
  try simp only [Act.put, List.setIfInBounds_toArray, List.set_cons_zero, List.set_cons_succ]
  refine wpAnyH_ready (rs := [14]) (by kernel_rfl) (by simp) ?_
  refine AllReadyH.cons (o := { dst := some 49, op := Op.call { callee := Callee.value (Operand.func 13), args := #[Operand.tmp 44, Operand.const (Value.int IntKind.i64 9), Operand.tmp 46, Operand.tmp 48], argTypes := #[25, 3, 3, 38] }, type := 31, pos := "law.go:238", after := #[{ on := 9, ground := Ground.data }, { on := 11, ground := Ground.data }, { on := 13, ground := Ground.data }, { on := 13, ground := Ground.chain }, { on := 7, ground := Ground.guard }], guard := some (7, false) }) rfl (fun K_ hK_ => ?_) AllReadyH.nil
  go_simp
  refine (HOC.out _ H4.out).mono ?_
  rintro e w5 ⟨rfl, h5⟩
  have H5 := Aside0.mk h5
  clear h5
  refine hK_.out _ _ (blk_cell H5.out.top 1) (fun hS_ => ?_)
  clear hK_ K_ hS
  have hS := hS_
  clear hS_
  try simp only [Act.put, List.setIfInBounds_toArray, List.set_cons_zero, List.set_cons_succ]
  refine wpAnyH_take (i := 15) (oi := { dst := some 50, op := Op.binOp BinOp.neq 31 (Operand.tmp 49) (Operand.const (Value.int IntKind.i64 0)) 31, type := 4, pos := "law.go:238", after := #[{ on := 14, ground := Ground.data }, { on := 7, ground := Ground.guard }], guard := some (7, false) }) (v := ?_) rfl (by kernel_rfl) (by kernel_rfl) (by kernel_rfl) (fun _ _ _ h => h) (Or.inl ⟨by rfl, ?_⟩) hS ?_
  rotate_left
  · intro W_ hSW_
    have z1_ := hSW_
    go_simp
    try with_reducible rfl
  try simp only [Act.put, List.setIfInBounds_toArray, List.set_cons_zero, List.set_cons_succ]
  refine wpAnyH_take (i := 16) (oi := { dst := some 51, op := Op.pick (Operand.tmp 42) (Operand.const (Value.bool true)) (Operand.tmp 50), type := 4, pos := "law.go:238", after := #[{ on := 7, ground := Ground.data }, { on := 15, ground := Ground.data }], guard := none }) (v := ?_) rfl (by kernel_rfl) (by kernel_rfl) (by kernel_rfl) (fun _ _ _ h => h) (Or.inl ⟨by rfl, ?_⟩) hS ?_
  rotate_left
  · intro W_ hSW_
    have z1_ := hSW_
    go_simp
    try with_reducible rfl
  try simp only [Act.put, List.setIfInBounds_toArray, List.set_cons_zero, List.set_cons_succ]
  refine wpAnyH_done (by kernel_rfl) ?_ _
  clear hS
  obtain ⟨hd5, lf5, wv5, hlf5, hm5⟩ := H5.out
  have HEM := Aside0.mk (hm5.row_empty (Kd.int .u8) 5)
  have HCA := Aside0.mk (HEM.out.came HR0.out)
  have H5X := Aside0.mk (And.intro hd5 hlf5)
  clear hd5 hlf5 hm5 z1
  have HAP := Aside0.mk (show (([] : List Int).length + n) * 1 ≤ 140737488355328 by have := HNL.out; simp; omega)
  have HN0 := Aside0.mk (show 0 < b.length by rw [HN.out]; have := HNL.out; omega)
  have HK8 := Aside0.mk (show k < b.length ∧ k + 1 < b.length by rw [HN.out]; have := HS2.out.2.2.2.2.2.2.2.1; omega)
  obtain ⟨k1, k2, k3, k4, k5, k6, k7, k8, k9, k10⟩ := HS2.out
  go_upto_region 12 with (
      (with_reducible refine gate_builtin (b := .append) (xs := #[.tmp 52, .tmp 53]) rfl ?_); at_builtin
      refine Mem.wp_append_ints .u8 (w0 := w) rfl (.tmp 52) (.tmp 53) 22 5 1 rfl Try.underlying22 info5 (by omega) _ [] b A n cp rfl rfl (HCA.out) HEM.out HAP.out ?_
      intro v1 w6 hm
      rw [List.nil_append] at hm
      have HR6 := Aside0.mk hm
      have H6 := Aside0.mk (show NvM w w6 gm gb N (on B0) (upd gu gm 4096 36 (row w (Kd.int .u8) 5 v1 b :: [ob g7 (o30n gm gu gd 36)])) from ⟨H5X.out.1, lf5, wv5, H5X.out.2, hm.q3⟩)
      obtain ⟨gc, capc, hform, _⟩ := hm.row_form HN0.out
      obtain ⟨hr0, f0⟩ : w6.cell? ⟨gc, k, none⟩ = some (.int .u8 (b.getD k 0)) ∧ w6.frozen? ⟨gc, k, none⟩ = false := by subst hform; exact hm.row_cell (0 : Int) k HK8.out.1
      obtain ⟨hr1, f1⟩ : w6.cell? ⟨gc, k + 1, none⟩ = some (.int .u8 (b.getD (k + 1) 0)) ∧ w6.frozen? ⟨gc, k + 1, none⟩ = false := by subst hform; exact hm.row_cell (0 : Int) (k + 1) HK8.out.2
      rw [HN.out] at hform
      subst hform
      obtain ⟨x0, hx0⟩ : ∃ x0, b.getD k 0 = x0 := ⟨_, rfl⟩
      obtain ⟨x1, hx1⟩ : ∃ x1, b.getD (k + 1) 0 = x1 := ⟨_, rfl⟩
      rw [hx0] at hr0
      rw [hx1] at hr1
      have HX01 := Aside0.mk (And.intro hx0 hx1)
      clear hm hx0 hx1)
  obtain ⟨y1, hy1⟩ : ∃ y1, bits BinOp.xor IntKind.u8 x0 ((mk : Int) / 256 % 256) = y1 := ⟨_, rfl⟩
  obtain ⟨y2, hy2⟩ : ∃ y2, bits BinOp.xor IntKind.u8 x1 ((mk : Int) % 256) = y2 := ⟨_, rfl⟩
  rw [hy1, hy2]
  obtain ⟨cs, hcs⟩ : ∃ cs, (b.set k y1).set (k + 1) y2 = cs := ⟨_, rfl⟩
  have hsp := spoilt_list HB.out HK8.out.2 HMK.out.1 HMK.out.2 HX01.out.1 HX01.out.2 hy1 hy2 hcs
  obtain ⟨hcl, hcb, hcc⟩ := hsp
  rw [HN.out] at hcl
  rw [HSB.out] at hcc
  have HCN := Aside0.mk hcl
  have HCB := Aside0.mk hcb
  have HCC := Aside0.mk hcc
  have h7 := (HR6.out.row_put k y1).row_put (k + 1) y2
  rw [hcs] at h7
  have H7 := Aside0.mk (show NvM w _ gm gb N (on B0) (upd gu gm 4096 36 (row w (Kd.int .u8) 5 (.slice (some ⟨gc, 0, none⟩) n capc) cs :: [ob g7 (o30n gm gu gd 36)])) from ⟨H5X.out.1, lf5, wv5, H5X.out.2, h7.q3⟩)
  have HCAP := Aside0.mk (show n ≤ capc from (h7.readsE).1)
  clear hy1 hy2 hcs hcl hcb hcc h7 hr0 hr1 f0 f1 k1 k2 k3 k4 k5 k6 k7 k8 k9 k10
  obtain ⟨s1, s2, s3, s4, s5, s6, s7⟩ := HS1.out
  go_wp2_with fail
  clear s1 s2 s3 s4 s5 s6 s7
  go_loopw [84] (fun v84 wr => SpoRel w cs gm gb gu N g7 q (o30n gm gu gd 36) (.slice (some ⟨gc, 0, none⟩) n capc) sb v84 wr) (fun i _ => q - (intOf i).toNat)
  case atStart => exact ⟨0, B0, Nat.zero_le _, rfl, by rw [HCN.out]; exact HP0.out, fill_zero _ _ _ _, H7.out⟩
  case round =>
    obtain ⟨j, B, hj, rfl, hP, hF, hS⟩ := hrel
    clear H7 H6 HR6 HEM HCA
    rw [HCN.out] at hP hF
    have HPP := Aside0.mk hP
    have HFF := Aside0.mk hF
    have HS := Aside0.mk hS
    have z1 := blk_cell hS.swap.top 1
    clear hP hF hS
    by_cases hlt : j < q
    · have HLT := Aside0.mk hlt
      have HMUL := Aside0.mk (show j * 36 < n from nch_mul (c := 36) (by rw [← HQ.out]; exact hlt))
      have HCUT := Aside0.mk (fun W => cut_row_call (W := W) (g := gc) (cp := capc) HMUL.out HCAP.out (by have := HNL.out; omega) (by omega) (by omega))
      have HBY := Aside0.mk (show ∀ x ∈ cutL cs 36 j, 0 ≤ x ∧ x < 256 from fun x hx => HCB.out x (List.mem_of_mem_drop (List.mem_of_mem_take hx)))
      have HLC := Aside0.mk (show (cutL cs 36 j).length = clen n 36 j from cutL_len.trans (by rw [HCN.out]))
      have hst := part_store HPP.out HQ.out (by have := HNL.out; omega) (by have := HNL.out; omega) (by omega) hlt HLC.out HBY.out
      have HST := Aside0.mk hst
      have HFS := Aside0.mk (fill_store HPP.out.len HCN.out (by have := HNL.out; omega) (by rw [← HQ.out]; exact hlt) (by have := HQL.out; omega) HFF.out)
      have HCH := Aside0.mk (fun W (h : NvM w W gm gb N (on B) (upd gu gm 4096 36 (row w (Kd.int .u8) 5 (.slice (some ⟨gc, 0, none⟩) n capc) cs :: [ob g7 (o30n gm gu gd 36)]))) => by have K := NvM.chunk2 (c := 36) (cp := capc - j * 36) h HNN.out (by omega) (by omega) (j : Int) (wf_i j (by have := HQL.out; omega)) (fun W M hm => row_cut HCN.out hm HMUL.out) HBY.out HLC.out; rw [hst.1] at K; exact K)
      have HW := Aside0.mk (show wrap64 ((j : Int) + 1) = ((j + 1 : Nat) : Int) by have := HQL.out; unfold wrap64; omega)
      generalize clen n 36 j = cl at *
      generalize hlo : j * 36 = lo at HCUT HCH
      clear hst hlo
      go_wp2_with fail
      refine wp_region_held_drew (S := fun W => W.cell? ⟨g7, 1, none⟩ = some (.pointer (some ⟨gu, 0, none⟩))) (by kernel_rfl) z1 (fun hS => ?_)
      refine wpAnyH_take (i := 0) (oi := { dst := some 87, op := Op.fieldAddr 30 (Operand.tmp 7) 1, type := 0, pos := "law.go:246", after := #[], guard := none }) (v := ?_) rfl (by kernel_rfl) (by kernel_rfl) (by kernel_rfl) (fun _ _ _ h => h) (Or.inl ⟨by rfl, ?_⟩) hS ?_
      rotate_left
      · intro W_ hSW_
        have z1_ := hSW_
        go_simp
        try with_reducible rfl
      try simp only [Act.put, List.setIfInBounds_toArray, List.set_cons_zero, List.set_cons_succ]
      refine wpAnyH_take (i := 1) (oi := { dst := some 88, op := Op.load 25 (Operand.tmp 87), type := 25, pos := "law.go:246", after := #[{ on := 0, ground := Ground.data }], guard := none }) (v := ?_) rfl (by kernel_rfl) (by kernel_rfl) (by kernel_rfl) (fun _ _ _ h => h) (Or.inl ⟨by rfl, ?_⟩) hS ?_
      rotate_left
      · intro W_ hSW_
        have z1_ := hSW_
        go_simp
        try with_reducible rfl
      try simp only [Act.put, List.setIfInBounds_toArray, List.set_cons_zero, List.set_cons_succ]
      refine wpAnyH_take (i := 2) (oi := { dst := some 89, op := Op.move (Operand.tmp 11), type := 3, pos := "law.go:246", after := #[], guard := none }) (v := ?_) rfl (by kernel_rfl) (by kernel_rfl) (by kernel_rfl) (fun _ _ _ h => h) (Or.inl ⟨by rfl, ?_⟩) hS ?_
      rotate_left
      · intro W_ hSW_
        have z1_ := hSW_
        go_simp
        try with_reducible rfl
      try simp only [Act.put, List.setIfInBounds_toArray, List.set_cons_zero, List.set_cons_succ]
      refine wpAnyH_take (i := 3) (oi := { dst := some 90, op := Op.move (Operand.tmp 9), type := 22, pos := "law.go:246", after := #[], guard := none }) (v := ?_) rfl (by kernel_rfl) (by kernel_rfl) (by kernel_rfl) (fun _ _ _ h => h) (Or.inl ⟨by rfl, ?_⟩) hS ?_
      rotate_left
      · intro W_ hSW_
        have z1_ := hSW_
        go_simp
        try with_reducible rfl
      try simp only [Act.put, List.setIfInBounds_toArray, List.set_cons_zero, List.set_cons_succ]
      refine wpAnyH_take (i := 4) (oi := { dst := some 91, op := Op.move (Operand.tmp 11), type := 3, pos := "law.go:246", after := #[], guard := none }) (v := ?_) rfl (by kernel_rfl) (by kernel_rfl) (by kernel_rfl) (fun _ _ _ h => h) (Or.inl ⟨by rfl, ?_⟩) hS ?_
      rotate_left
      · intro W_ hSW_
        have z1_ := hSW_
        go_simp
        try with_reducible rfl
      try simp only [Act.put, List.setIfInBounds_toArray, List.set_cons_zero, List.set_cons_succ]
      refine wpAnyH_ready (rs := [5]) (by kernel_rfl) (by simp) ?_
      refine AllReadyH.cons (o := { dst := some 92, op := Op.call { callee := Callee.value (Operand.func 15), args := #[Operand.tmp 90, Operand.const (Value.int IntKind.i64 36), Operand.tmp 91], argTypes := #[22, 3, 3] }, type := 22, pos := "law.go:246", after := #[{ on := 3, ground := Ground.data }, { on := 4, ground := Ground.data }], guard := none }) rfl (fun K_ hK_ => ?_) AllReadyH.nil
      go_simp
      refine (HCUT.out _).mono ?_
      rintro e w4 ⟨rfl, rfl⟩
      refine hK_.out _ _ (z1) (fun hS_ => ?_)
      clear hK_ K_ hS
      have hS := hS_
      clear hS_
      try simp only [Act.put, List.setIfInBounds_toArray, List.set_cons_zero, List.set_cons_succ]
      refine wpAnyH_ready (rs := [6]) (by kernel_rfl) (by simp) ?_
      refine AllReadyH.cons (o := { dst := some 93, op := Op.call { callee := Callee.value (Operand.func 14), args := #[Operand.tmp 88, Operand.tmp 89, Operand.tmp 92], argTypes := #[25, 3, 22] }, type := 31, pos := "law.go:246", after := #[{ on := 1, ground := Ground.data }, { on := 2, ground := Ground.data }, { on := 5, ground := Ground.data }, { on := 5, ground := Ground.chain }], guard := none }) rfl (fun K_ hK_ => ?_) AllReadyH.nil
      go_simp
      refine (HCH.out _ HS.out.drew'').mono ?_
      rintro e w5 ⟨rfl, h5⟩
      have HCD := Aside0.mk h5
      clear h5
      refine hK_.out _ _ (blk_cell HCD.out.swap.top 1) (fun hS_ => ?_)
      clear hK_ K_ hS
      have hS := hS_
      clear hS_
      try simp only [Act.put, List.setIfInBounds_toArray, List.set_cons_zero, List.set_cons_succ]
      refine wpAnyH_take (i := 7) (oi := { dst := some 94, op := Op.binOp BinOp.neq 31 (Operand.tmp 93) (Operand.const (Value.int IntKind.i64 0)) 31, type := 4, pos := "law.go:246", after := #[{ on := 6, ground := Ground.data }], guard := none }) (v := ?_) rfl (by kernel_rfl) (by kernel_rfl) (by kernel_rfl) (fun _ _ _ h => h) (Or.inl ⟨by rfl, ?_⟩) hS ?_
      rotate_left
      · intro W_ hSW_
        have z1_ := hSW_
        go_simp
        try with_reducible rfl
      try simp only [Act.put, List.setIfInBounds_toArray, List.set_cons_zero, List.set_cons_succ]
      refine wpAnyH_done (by kernel_rfl) ?_ _
      clear hS
      go_wp2_with fail
      go_roundw
      case rel => exact ⟨j + 1, _, by have := HLT.out; omega, by first | rw [HW.out] | (push_cast; rfl), by rw [HCN.out]; exact HST.out.2, by rw [HCN.out]; exact HFS.out, HCD.out⟩
      case measure => first | exact smeas HW.out HLT.out | (simp [intOf]; omega)
    · have hja : q = j := by omega
      subst hja
      clear hlt
      obtain ⟨B', hco, hac⟩ := part_spoilt (by rw [← HQ.out]; exact HPP.out) HCN.out (by have := HNL.out; omega) (by have := HNL.out; omega) (by omega) (by rw [← HQ.out]; exact HFF.out) HCC.out
      have KC := Complete_call (sl := 4096) (c := 36) HS.out HNN.out (by omega) (by omega) (by have := HNN.out; omega)
      rw [hco] at KC
      have HKC := Aside0.mk KC
      have HVC := Aside0.mk (fun W L (h : NvM w W gm gb N (on B') (upd gu gm 4096 ((36 : Nat) : Int) L)) => by have K := Version_call h HNN.out; rw [hac, if_neg (by simp)] at K; exact K)
      clear hco hac KC
      go_wp2_with fail
      refine HKC.out.mono ?_
      rintro e w8 ⟨v8, rfl, h8⟩
      obtain ⟨M8, hm8, _⟩ := h8.front
      obtain ⟨A8, c8, rfl, _⟩ := hm8.readsN (n := 0) rfl
      have H8 := Aside0.mk (show NvM w w8 gm gb N (on B') (upd gu gm 4096 36 (row w (Kd.int .u8) 5 (.slice A8 0 c8) [] :: row w (Kd.int .u8) 5 (.slice (some ⟨gc, 0, none⟩) n capc) cs :: [ob g7 (o30n gm gu gd 36)])) from h8)
      clear h8 hm8 z1
      have z1 := blk_cell (NvM.third H8.out).top 1
      go_wp2_with fail
      refine (HVC.out _ _ H8.out).mono ?_
      rintro e w9 ⟨rfl, h9⟩
      have HB9 := Aside0.mk (below_step H8.out.below' h9)
      clear h9
      go_wp2_with fail
      go_ret
      exact ⟨by simp, HB9.out⟩

theorem wf_u16 {i : Int} (h : (Lit.int .u16 i).wf = true) : 0 ≤ i ∧ i < 65536 := by
  simp [Lit.wf, IntKind.min, IntKind.max, IntKind.bits, IntKind.signed] at h
  omega
theorem Spoilt_row {R0 : Prop} (A : Option Addr) (cp : Nat) (b : List Int) (i k : Int) (w : World) (hr0 : (Kd.int .u8).C w A b.length b) (hc0 : b.length ≤ cp)
    (g0 : R0 ∧ b.length ≤ maxLen ∧ ∀ x ∈ b, (Lit.int .u8 x).wf = true) (g1 : (Lit.int .u16 i).wf = true) (g2 : (Lit.int .u16 k).wf = true) :
    Calls Try.prog 5 #[.slice A b.length cp, .int .u16 i, .int .u16 k] w fun e w' => e = .returned (.bool true) ∧ Below w.heap.size w w' := by
  have h1 := wf_u16 g1
  have h2 := wf_u16 g2
  obtain ⟨i, rfl⟩ := Int.eq_ofNat_of_zero_le h1.1
  obtain ⟨k, rfl⟩ := Int.eq_ofNat_of_zero_le h2.1
  exact Spoilt_law A cp b i k w hr0 hc0 (fun x hx => by have := PUpdaterMatchesModel.wf_u8 g0.2.2 x hx; omega) (by omega) (by omega)
end Go.Proofs.Ytfcldacjnegacaa.Up
