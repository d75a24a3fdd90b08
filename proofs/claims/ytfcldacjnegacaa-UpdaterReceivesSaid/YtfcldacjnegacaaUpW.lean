/- The document's example: wakes answers true. -/
import Derived.Test.YtfcldacjnegacaaPu
import Derived.Test.YtfcldacjnegacaaUpI
import Derived.Test.YtfcldacjnegacaaUpH
import Derived.Lib.SlBytesConst
namespace Go.Proofs.Ytfcldacjnegacaa.Up
open Go.RowKit Go.Proofs.YtfcldacjnegacaaW.PrintWords Go.Proofs.YtfcldacjnegacaaW.PrintLast Go.Proofs.YtfcldacjnegacaaW.PrintMore Go.Proofs.Ytfcldacjnegacaa.Sl
set_option linter.unusedVariables false
set_option linter.unusedSimpArgs false
/-! ### More pure laws -/
theorem putB_Hd {B : List Int} {v l s : Int} {c i : Nat} {xs : List Int} (h : Hd B v l s c) (hB : 10240 ≤ B.length) (hi : i < 1900) (hx : 4096 + i * c + xs.length ≤ 10240) : Hd (putB B 4096 c i xs) v l s c :=
  h.congr fun j h1 h2 => by rw [putB_G hB hi hx j (by omega), if_neg (by omega)]
theorem chunk_fits {l c i n : Nat} (hl : l ≤ 6144) (hi : i < nch l c) (hx : n = clen l c i) : 4096 + i * c + n ≤ 10240 := by
  have := nch_mul hi
  rw [hx]
  unfold clen
  omega
theorem putB_ok {N : Nat} {B : List Int} {c i : Nat} {xs : List Int} (h : (on B).Ok N) (hx : ∀ x ∈ xs, 0 ≤ x ∧ x < 256) : (on (putB B 4096 c i xs)).Ok N := by
  refine ins_ok (o := false) (k := -1) (ins_ok (o := false) (k := -1) h hx (by omega) (by omega)) ?_ (by omega) (by omega)
  intro x hx
  rw [List.mem_singleton.1 hx]
  have hb := G_byte h (3856 + i / 8)
  exact (or_bit _ hb.1 hb.2 _ (Nat.mod_lt _ (by decide))).2
theorem store_on {N : Nat} {B : List Int} {v s : Int} {c i l : Nat} {xs : List Int} (h : (on B).Ok N) (hN : N = 10240) (hc : 4 ≤ c) (hd : Hd B v (l : Int) s c) (hl1 : 1 ≤ l) (hl2 : l ≤ 6144) (hi : i < nch l c) (hx : xs.length = clen l c i) (hs : stB B i = false) :
    (on B).store 4096 c (i : Int) xs = (on (putB B 4096 c i xs), 0) := by
  have hB : B.length = N := h.len
  rcases store_spec h hN hc (hd.act rfl (show 4096 ≤ B.length by omega) (by omega) (by omega)) hd.l hi hx hs with ⟨_, k', h1, _, _, h2⟩ | ⟨n, _, h0, _, _⟩
  · rw [h2, h1 (by omega)]
  · omega
theorem misA_on {B : List Int} {v s : Int} {c l : Nat} (hB : 10240 ≤ B.length) (hd : Hd B v (l : Int) s c) (hl1 : 1 ≤ l) (hl2 : l ≤ 6144) : (on B).misA c = (on B).mis (nch l c) := by
  unfold Dv.misA
  rw [if_pos (hd.act rfl (show 4096 ≤ B.length by omega) (by omega) (by omega)), n52 rfl (show 4096 ≤ B.length by omega), hd.l, Int.toNat_natCast]
theorem mis_first {B : List Int} {n i : Nat} (hB : 10240 ≤ B.length) (hi : i < n) (hn : n ≤ 1536) (h : ∀ j < i, stB B j = true) (hs : stB B i = false) : (on B).mis n = some i :=
  mis_some hi (fun j hj => by rw [st_on rfl (show 4096 ≤ B.length by omega) j (by omega)]; exact h j hj) (by rw [st_on rfl (show 4096 ≤ B.length by omega) i (by omega)]; exact hs)
theorem mis_end {B : List Int} {n : Nat} (hB : 10240 ≤ B.length) (hn : n ≤ 1536) (h : ∀ j < n, stB B j = true) : (on B).mis n = none :=
  mis_none (fun j hj => by rw [st_on rfl (show 4096 ≤ B.length by omega) j (by omega)]; exact h j hj)
/-! ### The example -/
theorem off_ok {N : Nat} {B : List Int} {v l s : Int} {c m : Nat} (h : (on B).Ok N) : (on (offB B v l s c m)).Ok N := by
  refine ins_ok (o := false) (k := -1) (ins_ok (o := false) (k := -1) (ins_ok (o := false) (k := -1) (ins_ok (o := false) (k := -1) h ?_ (by omega) (by omega)) ?_ (by omega) (by omega)) ?_ (by omega) (by omega)) ?_ (by omega) (by omega)
  · simp
  · intro x hx; have := (List.mem_replicate.1 hx).2; omega
  · intro x hx
    unfold head at hx
    simp only [List.mem_cons, List.not_mem_nil, or_false] at hx
    rcases hx with rfl | rfl | rfl | rfl | rfl | rfl | rfl | rfl | rfl <;> omega
  · simp
theorem zero_ok (N : Nat) : (on (List.replicate N 0)).Ok N := ⟨by simp, by simp, by simp, fun x hx => by have := (List.mem_replicate.1 hx).2; omega⟩
theorem zero_act {B : List Int} (hB : 4096 ≤ B.length) (h : G B 3840 = 0) (c : Nat) : (on B).act (c : Int) = false := by
  cases ha : (on B).act (c : Int) with
  | false => rfl
  | true =>
    have h1 : G B 3840 = 1 := ((act_iff rfl hB).1 ha).1
    omega
theorem zero_G (N j : Nat) : G (List.replicate N 0) j = 0 := by
  show (List.replicate N (0 : Int)).getD j 0 = 0
  rw [List.getD_eq_getElem?_getD, List.getElem?_replicate]
  split <;> rfl
structure Wk (N : Nat) (B0 B1 B2 B3 : List Int) : Prop where
  ok0 : (on B0).Ok N
  offer : (on B0).offer 4 2 10 5 = (on B1, 0)
  store1 : (on B1).store 4096 4 1 [97, 98, 99, 100] = (on B2, 0)
  mis : (on B2).misA 4 = some 0
  act : (on B2).act 4 = true
  ver : (on B2).num 1 4 = 2
  store2 : (on B2).store 4096 4 2 [97, 98] = (on B3, 0)
  store3 : (on B3).store 4096 4 2 [97, 98, 99] = (on B3, 1)
  rd : (on B3).rd 3840 = 1
theorem wk_ex {N : Nat} (hN : N = 10240) : ∃ B0 B1 B2 B3, B0 = List.replicate N 0 ∧ Wk N B0 B1 B2 B3 := by
  obtain ⟨B0, h0⟩ : ∃ B0 : List Int, B0 = List.replicate N 0 := ⟨_, rfl⟩
  have o0 : (on B0).Ok N := by rw [h0]; exact zero_ok N
  have l0 : 10240 ≤ B0.length := by have h : B0.length = N := o0.len; omega
  have a0 : (on B0).act ((4 : Nat) : Int) = false := zero_act (by omega) (by rw [h0]; exact zero_G N 3840) 4
  obtain ⟨B1, h1⟩ : ∃ B1 : List Int, B1 = offB B0 2 10 5 4 1 := ⟨_, rfl⟩
  have e1 : (on B0).offer 4 2 10 5 = (on B1, 0) := by rw [h1]; exact offer_on l0 (by omega) (by omega) (by omega) (by omega) (by omega) a0
  have o1 : (on B1).Ok N := by rw [h1]; exact off_ok o0
  have l1 : 10240 ≤ B1.length := by have h : B1.length = N := o1.len; omega
  have d1 : Hd B1 2 ((10 : Nat) : Int) 5 4 := by rw [h1]; exact off_Hd l0 (by omega) (by omega) (by omega) (by omega) (by omega)
  have s1 : ∀ i < 8, stB B1 i = false := fun i hi => by rw [h1]; exact off_st l0 (by omega) i (by omega)
  have hn : nch 10 4 = 3 := by decide
  obtain ⟨B2, h2⟩ : ∃ B2 : List Int, B2 = putB B1 4096 4 1 [97, 98, 99, 100] := ⟨_, rfl⟩
  have e2 : (on B1).store 4096 4 ((1 : Nat) : Int) [97, 98, 99, 100] = (on B2, 0) := by rw [h2]; exact store_on o1 hN (by omega) d1 (by omega) (by omega) (by omega) (by decide) (s1 1 (by omega))
  have o2 : (on B2).Ok N := by rw [h2]; exact putB_ok o1 (by simp)
  have l2 : 10240 ≤ B2.length := by have h : B2.length = N := o2.len; omega
  have d2 : Hd B2 2 ((10 : Nat) : Int) 5 4 := by rw [h2]; exact putB_Hd d1 l1 (by omega) (by simp)
  have s2 : ∀ i < 8, stB B2 i = decide (i = 1) := fun i hi => by rw [h2, putB_st o1 l1 (by omega) (by simp) i (by omega), s1 i hi]; rfl
  obtain ⟨B3, h3⟩ : ∃ B3 : List Int, B3 = putB B2 4096 4 2 [97, 98] := ⟨_, rfl⟩
  have e3 : (on B2).store 4096 4 ((2 : Nat) : Int) [97, 98] = (on B3, 0) := by rw [h3]; exact store_on o2 hN (by omega) d2 (by omega) (by omega) (by omega) (by decide) (by rw [s2 2 (by omega)]; rfl)
  have o3 : (on B3).Ok N := by rw [h3]; exact putB_ok o2 (by simp)
  have l3 : 10240 ≤ B3.length := by have h : B3.length = N := o3.len; omega
  have d3 : Hd B3 2 ((10 : Nat) : Int) 5 4 := by rw [h3]; exact putB_Hd d2 l2 (by omega) (by simp)
  have m4 : ∀ B : List Int, 10240 ≤ B.length → 4096 ≤ (on B).B.length := fun B h => by show 4096 ≤ B.length; omega
  clear h1 h2 h3
  refine ⟨B0, B1, B2, B3, h0, o0, e1, e2, ?_, d2.act rfl (m4 _ l2) (by omega) (by omega), ?_, e3, ?_, d3.a⟩
  · rw [misA_on l2 d2 (by omega) (by omega), hn]
    exact mis_first l2 (by omega) (by omega) (fun j hj => by omega) (by rw [s2 0 (by omega)]; rfl)
  · rw [n14 rfl (m4 _ l2)]
    exact d2.v
  · unfold Dv.store
    rw [if_neg (by have h := d3.act rfl (m4 _ l3) (by omega) (by omega); rw [h]; simp), n52 rfl (m4 _ l3), d3.l, if_pos (by right; right; decide)]
theorem C_of_marked {W : World} {g : Nat} {xs : List Int} {fr : Nat × Nat} (h : W.heap[g]? = some (.cells (xs.map (Value.int .u8)).toArray 5 fr)) (hl : xs.length ≤ 100000) : (Kd.int .u8).C W (some ⟨g, 0, none⟩) xs.length xs := by
  have hm : maxLen = 9223372036854775807 := rfl
  refine ⟨rfl, by omega, fun _ => ⟨⟨g, 0, none⟩, rfl, fun j p hj => ⟨[.int .u8 p], rfl, rfl, fun i u hu => ?_⟩⟩⟩
  have hi : i = 0 := by
    cases i with
    | zero => rfl
    | succ i => simp at hu
  subst hi
  have hu : Value.int .u8 p = u := by simpa using hu
  subst hu
  have e : (⟨g, 0, none⟩ : Addr).add (j * (Kd.int .u8).sz + 0) = ⟨g, j, none⟩ := by
    rw [show (Kd.int .u8).sz = 1 from rfl, Nat.mul_one, Nat.add_zero]
    by_cases h0 : j = 0
    · subst h0; simp [Addr.add]
    · simp [Addr.add, h0]
  rw [e, cell_of_row W g j _ 5 fr h]
  simp [hj]
section
variable {L : List Chunk} {w0 w : World} {gm gb gu N : Nat} {B0 B1 B2 B3 : List Int}
theorem wc_chunk {B B' : List Int} {r i : Int} {xs : List Int} (hM : NvM w0 w gm gb N (on B) (upd gu gm 4096 4 L)) (hN : N = 10240) (hi : (Lit.int .i64 i).wf = true) (hx : ∀ x ∈ xs, 0 ≤ x ∧ x < 256) (hl : xs.length ≤ 100) (hs : (on B).store 4096 4 i xs = (on B', r))
    {cs : Array Value} (hcs : cs = (xs.map (Value.int .u8)).toArray) {fr : Nat × Nat} {n : Nat} (hn : xs.length = n) {g : Nat} (hg : w.heap.size = g) :
    Calls Try.prog 14 #[.pointer (some ⟨gu, 0, none⟩), .int .i64 i, .slice (some ⟨g, 0, none⟩) n n] (w.alloc (.cells cs 5 fr)) fun e w' => e = .returned (.int .i64 r) ∧ NvM w0 w' gm gb N (on B') (upd gu gm 4096 4 L) := by
  subst hcs hg
  have h := Chunk_call (sl := 4096) (c := 4) (cp := n) (hM.add (.cells (xs.map (Value.int .u8)).toArray 5 fr)) hN (by omega) (by omega) (by omega) i hi hn (fun d' W hW => C_of_marked hW.top (by omega)) hx
  rw [hs] at h
  refine h.mono ?_
  rintro e w1 ⟨rfl, hm⟩
  exact ⟨rfl, hm.drop⟩
theorem wc_offer (K : Wk N B0 B1 B2 B3) (hM : NvM w0 w gm gb N (on B0) (upd gu gm 4096 4 L)) (hN : N = 10240) :
    Calls Try.prog 13 #[.pointer (some ⟨gu, 0, none⟩), .int .i64 2, .int .i64 10, .int .u16 5] w fun e w' => e = .returned (.int .i64 0) ∧ NvM w0 w' gm gb N (on B1) (upd gu gm 4096 4 L) := by
  have h := Offer_call (c := 4) hM hN (by omega) (by omega) 2 10 5 (by omega) (by omega)
  rw [K.offer] at h
  exact h
theorem wc_mis (K : Wk N B0 B1 B2 B3) (hM : NvM w0 w gm gb N (on B2) (upd gu gm 4096 4 L)) (hN : N = 10240) :
    Calls Try.prog 18 #[.pointer (some ⟨gu, 0, none⟩)] w fun e w' => e = .returned (.tuple #[.int .i64 0, .bool true]) ∧ NvM w0 w' gm gb N (on B2) (upd gu gm 4096 4 L) := by
  have h := Missing_call (c := 4) hM hN (by omega) (by omega)
  rw [K.mis] at h
  exact h.mono fun e w' ⟨h1, h2⟩ => ⟨h1, hM.step h2⟩
theorem wc_ver (K : Wk N B0 B1 B2 B3) (hM : NvM w0 w gm gb N (on B2) (upd gu gm 4096 4 L)) (hN : N = 10240) :
    Calls Try.prog 22 #[.pointer (some ⟨gu, 0, none⟩)] w fun e w' => e = .returned (.tuple #[.int .i64 2, .bool true]) ∧ NvM w0 w' gm gb N (on B2) (upd gu gm 4096 4 L) := by
  have h := Version_call hM hN
  rw [K.act, K.ver, if_pos rfl] at h
  exact h.mono fun e w' ⟨h1, h2⟩ => ⟨h1, hM.step h2⟩
theorem wc_rd (K : Wk N B0 B1 B2 B3) (hM : NvM w0 w gm gb N (on B3) (upd gu gm 4096 4 L)) (hN : N = 10240) :
    Calls Try.prog 30 #[.pointer (some ⟨gm, 0, none⟩), .int .i64 3840] w fun e w' => e = .returned (.int .u8 1) ∧ w = w' := by
  obtain ⟨hd, lf, wv, hlf, hm⟩ := hM
  have h := Read_call hm hd 3840 (by omega) (by omega)
  rw [K.rd] at h
  exact h
set_option maxRecDepth 100000 in
set_option maxHeartbeats 2000000 in
theorem wakes_call (hM : Mem w0 w L) : Calls Try.prog 8 #[] w fun e w' => e = .returned (.bool true) ∧ Mem w0 w' L := by
  obtain ⟨N, hN⟩ : ∃ N : Nat, N = 10240 := ⟨_, rfl⟩
  have hNI : (N : Int) = 10240 := by omega
  have HNEW := Aside0.mk (New_call hM (N := N) (by omega) (by omega))
  rw [hNI] at HNEW
  have HN := Aside0.mk hN
  obtain ⟨B0, B1, B2, B3, hB0, hK⟩ := wk_ex hN
  have HB0 := Aside0.mk hB0
  have K := Aside0.mk hK
  rw [← hB0] at HNEW
  clear hB0 hK
  have kc := fun (w : World) (C : Array Value) (n c : Nat) => Lib.run_convert_bytes_const (P := Try.prog) w 22 5 C n c Try.underlying22 Try.underlying5
  clear hM hN hNI
  go_enter Try.func8, Try.ntmps8
  go_wp2_with fail
  refine HNEW.out.mono ?_
  rintro e w1 ⟨gm, gb, rfl, hm⟩
  have HM1 := Aside0.mk hm
  clear hm HNEW
  go_wp2_with fail
  refine (Open_ok (c := 4) HM1.out K.out.ok0.len HN.out (by omega) (by omega)).mono ?_
  rintro e w2 ⟨gu, rfl, hm⟩
  have HM2 := Aside0.mk (show NvM w0 w2 gm gb N (on B0) (upd gu gm 4096 4 L) from ⟨K.out.ok0, 0, 0, fun h => absurd h (by show ¬ (0 : Int) ≤ -1; decide), hm⟩)
  clear hm
  go_wp2_with fail
  refine (wc_offer K.out HM2.out HN.out).mono ?_
  rintro e w3 ⟨rfl, hm⟩
  have HM3 := Aside0.mk hm
  clear hm HM2
  go_wp2_with fail
  refine (wc_chunk HM3.out HN.out (by decide) (by decide) (by decide) K.out.store1 rfl rfl rfl).mono ?_
  rintro e w4 ⟨rfl, hm⟩
  have HM4 := Aside0.mk hm
  clear hm HM3
  go_wp2_with fail
  refine (wc_mis K.out HM4.out HN.out).mono ?_
  rintro e w5 ⟨rfl, hm⟩
  have HM5 := Aside0.mk hm
  clear hm HM4
  go_wp2_with fail
  refine (wc_ver K.out HM5.out HN.out).mono ?_
  rintro e w6 ⟨rfl, hm⟩
  have HM6 := Aside0.mk hm
  clear hm HM5
  go_wp2_with fail
  refine (wc_chunk HM6.out HN.out (by decide) (by decide) (by decide) K.out.store2 rfl rfl rfl).mono ?_
  rintro e w7 ⟨rfl, hm⟩
  have HM7 := Aside0.mk hm
  clear hm HM6
  go_wp2_with fail
  refine (wc_chunk HM7.out HN.out (by decide) (by decide) (by decide) K.out.store3 rfl rfl rfl).mono ?_
  rintro e w8 ⟨rfl, hm⟩
  have HM8 := Aside0.mk hm
  clear hm HM7
  go_wp2_with fail
  refine (wc_rd K.out HM8.out HN.out).mono ?_
  rintro e w9 ⟨rfl, rfl⟩
  go_wp2_with fail
  go_ret
  obtain ⟨_, _, _, _, hm⟩ := HM8.out
  exact ⟨rfl, hm.drop.drop.drop⟩
end
end Go.Proofs.Ytfcldacjnegacaa.Up
