/- The law's start: a memory, an updater and the reference's device over the same bytes. -/
import Derived.Test.YtfcldacjnegacaaUpL
import Derived.Test.YtfcldacjnegacaaUpS
namespace Go.Proofs.Ytfcldacjnegacaa.Up
open Go.RowKit Go.Proofs.YtfcldacjnegacaaW.PrintWords Go.Proofs.YtfcldacjnegacaaW.PrintLast Go.Proofs.YtfcldacjnegacaaW.PrintMore Go.Proofs.Ytfcldacjnegacaa.Sl
set_option linter.unusedVariables false
set_option linter.unusedSimpArgs false
section
variable {L : List Chunk} {w0 w w' : World} {gm gb gu gd gr N c : Nat} {d e : Dv}
/-- The memory, the updater and the device. -/
def St (w0 w : World) (gm gb gu gd gr N : Nat) (d e : Dv) (c : Nat) (L : List Chunk) : Prop := NvM w0 w gm gb N d (upd gu gm 4096 (c : Int) (dev w0 gd gr N e L)) ∧ e.Ok N
theorem St.ref (h : St w0 w gm gb gu gd gr N d e c L) : ∃ M : List Chunk, DvM w0 w gd gr N e (L ++ M) ∧ ∀ w' e' L', DvM w0 w' gd gr N e' (L' ++ M) → St w0 w' gm gb gu gd gr N d e' c L' := by
  obtain ⟨⟨hd, lf, wv, hlf, hm⟩, he⟩ := h
  refine ⟨[blk gm #[.slice (some ⟨gb, 0, none⟩) N N, .bool d.off, .bool (decide (0 ≤ d.left)), .int .i64 lf, .nilFunc, .int .i64 wv] 69, row w0 (Kd.int .u8) 5 (.slice (some ⟨gb, 0, none⟩) N N) d.B, blk gu #[.pointer (some ⟨gm, 0, none⟩), .int .i64 4096, .int .i64 (c : Int)] 77], ⟨he, hm.c3⟩, ?_⟩
  rintro w1 e1 L1 ⟨he1, hm1⟩
  exact ⟨⟨hd, lf, wv, hlf, Mem.u3 (L := dev w0 gd gr N e1 L1) hm1⟩, he1⟩
theorem Mem.q4 {x a b c d : Chunk} (h : Mem w0 w (x :: a :: b :: c :: d :: L)) : Mem w0 w (a :: b :: c :: d :: x :: L) := h.perm (List.perm_middle (l₁ := [a, b, c, d])).symm
theorem info30 : (Try.prog.info? 30).map (·.size) = some 5 := by kernel_rfl
theorem St.step (h : St w0 w gm gb gu gd gr N d e c L) (hb : Below w.heap.size w w') : St w0 w' gm gb gu gd gr N d e c L := ⟨h.1.step hb, h.2⟩
theorem St.below (h : St w0 w gm gb gu gd gr N d e c L) : Below w0.heap.size w0 w := by
  obtain ⟨⟨hd, lf, wv, hlf, hm⟩, he⟩ := h
  exact hm.below
/-- The bytes at the start. -/
def startB (N : Nat) (p : List Int) : List Int := (List.replicate N 0).take 3840 ++ p ++ (List.replicate N 0).drop (3840 + p.length)
theorem startB_len {p : List Int} (h : p.length ≤ 256) (hN : N = 10240) : (startB N p).length = N := by
  unfold startB
  simp only [List.length_append, List.length_take, List.length_drop, List.length_replicate]
  omega
theorem startB_byte {p : List Int} (h : ∀ x ∈ p, 0 ≤ x ∧ x < 256) : ∀ x ∈ startB N p, 0 ≤ x ∧ x < 256 := by
  intro x hx
  unfold startB at hx
  rcases List.mem_append.1 hx with hx | hx
  · rcases List.mem_append.1 hx with hx | hx
    · have := (List.mem_replicate.1 (List.mem_of_mem_take hx)).2
      omega
    · exact h x hx
  · have := (List.mem_replicate.1 (List.mem_of_mem_drop hx)).2
    omega
theorem startD {p : List Int} (h : p.length ≤ 256) (hp : ∀ x ∈ p, 0 ≤ x ∧ x < 256) (hN : N = 10240) : Dv.Ok N ⟨startB N p, false, -1⟩ := ⟨startB_len h hN, by simp, by simp, startB_byte hp⟩
end
theorem open_t {lf wv : Int} {L : List Chunk} {w0 w : World} {gm gb N : Nat} {d : Dv} {s c : Int} (hM : Mem w0 w (nv w0 gm gb N d lf wv L)) (hl : d.B.length = N) (hN : N = 10240) (hc : 4 ≤ c) (hc2 : c ≤ 36) (hs : s < 0 ∨ 4096 < s) :
    Calls Try.prog 24 #[.pointer (some ⟨gm, 0, none⟩), .int .i64 s, .int .i64 c] w fun e w' => e = .returned (.tuple #[.pointer none, .int .i64 1]) ∧ Below w.heap.size w w' := by
  have HI := Aside0.mk (Image_call hM hl (by omega))
  have HL := Aside0.mk (hl.trans hN)
  have c1 : ¬ c < 4 := by omega
  have c2 : ¬ (36 : Int) < c := by omega
  by_cases h0 : s < 0
  · clear hM hl hN hc hc2 hs
    go_enter Try.func24, Try.ntmps24
    go_wp2_with fail
    refine HI.out.mono ?_
    rintro e w1 ⟨v, rfl, hm⟩
    obtain ⟨A, cp, rfl, _, _⟩ := hm.readsN HL.out
    have HB := Aside0.mk hm.below
    clear hm
    go_wp2_with fail
    go_ret2
    exact ⟨rfl, HB.out⟩
  · have h1 : (4096 : Int) < s := by omega
    clear hM hl hN hc hc2 hs
    go_enter Try.func24, Try.ntmps24
    go_wp2_with fail
    refine HI.out.mono ?_
    rintro e w1 ⟨v, rfl, hm⟩
    obtain ⟨A, cp, rfl, _, _⟩ := hm.readsN HL.out
    have HB := Aside0.mk hm.below
    clear hm
    go_wp2_with fail
    go_ret2
    exact ⟨rfl, HB.out⟩
theorem open_m {lf wv : Int} {L : List Chunk} {w0 w : World} {gm gb N : Nat} {d : Dv} {s c : Int} (hM : Mem w0 w (nv w0 gm gb N d lf wv L)) (hl : d.B.length = N) (hN : N = 10240) (hc : 4 ≤ c) (hc2 : c ≤ 36) (h0 : 0 ≤ s) (h1 : s < 4096) :
    Calls Try.prog 24 #[.pointer (some ⟨gm, 0, none⟩), .int .i64 s, .int .i64 c] w fun e w' => e = .returned (.tuple #[.pointer none, .int .i64 1]) ∧ Below w.heap.size w w' := by
  have HI := Aside0.mk (Image_call hM hl (by omega))
  have HL := Aside0.mk (hl.trans hN)
  have c1 : ¬ c < 4 := by omega
  have c2 : ¬ (36 : Int) < c := by omega
  have c3 : ¬ s < 0 := by omega
  have c4 : ¬ (4096 : Int) < s := by omega
  have c5 : wrap64 (s + 6144) = s + 6144 := by unfold wrap64; omega
  have c6 : (3840 : Int) < s + 6144 := by omega
  clear hM hl hN hc hc2 h0
  go_enter Try.func24, Try.ntmps24
  go_wp2_with fail
  refine HI.out.mono ?_
  rintro e w1 ⟨v, rfl, hm⟩
  obtain ⟨A, cp, rfl, _, _⟩ := hm.readsN HL.out
  have HB := Aside0.mk hm.below
  clear hm
  go_wp2_with fail
  go_ret2
  exact ⟨rfl, HB.out⟩
theorem open_c {lf wv : Int} {L : List Chunk} {w0 w : World} {gm gb N : Nat} {d : Dv} {s c : Int} (hM : Mem w0 w (nv w0 gm gb N d lf wv L)) (hc : c < 4 ∨ 36 < c) :
    Calls Try.prog 24 #[.pointer (some ⟨gm, 0, none⟩), .int .i64 s, .int .i64 c] w fun e w' => e = .returned (.tuple #[.pointer none, .int .i64 1]) ∧ Below w.heap.size w w' := by
  by_cases h1 : c < 4
  · clear hM hc
    go_enter Try.func24, Try.ntmps24
    go_wp2_with fail
    go_ret2
    exact ⟨rfl, Below.refl _ _⟩
  · have h2 : (36 : Int) < c := by omega
    clear hM hc
    go_enter Try.func24, Try.ntmps24
    go_wp2_with fail
    go_ret2
    exact ⟨rfl, Below.refl _ _⟩
/-- What Open takes of a memory of 10240 bytes. -/
def goodO (s c : Int) : Prop := s = 4096 ∧ 4 ≤ c ∧ c ≤ 36
theorem Open_bad {lf wv : Int} {L : List Chunk} {w0 w : World} {gm gb N : Nat} {d : Dv} {s c : Int} (hM : Mem w0 w (nv w0 gm gb N d lf wv L)) (hl : d.B.length = N) (hN : N = 10240) (h : ¬ goodO s c) :
    Calls Try.prog 24 #[.pointer (some ⟨gm, 0, none⟩), .int .i64 s, .int .i64 c] w fun e w' => e = .returned (.tuple #[.pointer none, .int .i64 1]) ∧ Below w.heap.size w w' := by
  by_cases h1 : c < 4 ∨ 36 < c
  · exact open_c hM h1
  · by_cases h2 : s < 0 ∨ 4096 < s
    · exact open_t hM hl hN (by omega) (by omega) h2
    · exact open_m hM hl hN (by omega) (by omega) (by omega) (by unfold goodO at h; omega)

set_option maxRecDepth 100000 in
set_option maxHeartbeats 2000000 in
theorem start_good0 {w0 w : World} {L : List Chunk} {A : Option Addr} {cp n : Nat} {p : List Int} {c : Nat} (hM : Mem w0 w L) (hC : (Kd.int .u8).C w0 A n p) (hp : ∀ x ∈ p, 0 ≤ x ∧ x < 256) (hn : n ≤ 256) (hc : 4 ≤ c) (hc2 : c ≤ 36) :
    Calls Try.prog 9 #[.slice A n cp, .int .i64 4096, .int .i64 (c : Int)] w fun e w' => ∃ gm gb gu gd gr N, N = 10240 ∧ e = .returned (.tuple #[.agg #[.pointer (some ⟨gm, 0, none⟩), .pointer (some ⟨gu, 0, none⟩), .pointer (some ⟨gd, 0, none⟩), .int .i64 4096, .int .i64 (c : Int)], .int .i64 0]) ∧ Mem w0 w' (nv w0 gm gb N ⟨startB N p, false, -1⟩ 0 0 (upd gu gm 4096 (c : Int) (dev w0 gd gr N ⟨startB N p, false, -1⟩ L))) ∧ Dv.Ok N ⟨startB N p, false, -1⟩ := by
  obtain ⟨N, hN⟩ : ∃ N : Nat, N = 10240 := ⟨_, rfl⟩
  have hNI : (N : Int) = 10240 := by omega
  have hlen : p.length = n := hC.1
  have HNEW := Aside0.mk (fun (W : World) (L' : List Chunk) (h : Mem w0 W L') => New_call h (N := N) (by omega) (by omega))
  have hmk := print_make (P := Try.prog) 22 5 .u8 1 Try.underlying22 info5 (by decide) N (by omega)
  rw [hNI] at HNEW hmk
  have HN := Aside0.mk hN
  have HC := Aside0.mk hC
  have HP := Aside0.mk hp
  have HLEN := Aside0.mk hlen
  have HNN := Aside0.mk hn
  have b1 : 4096 ≤ N := by omega
  have b2 : (4096 : Int) ≤ (N : Int) := by omega
  have b3 : ¬ N = 3840 := by omega
  have HCC := Aside0.mk (And.intro hc hc2)
  have HM := Aside0.mk ((hM.new (.cells #[.pointer none, .pointer none, .pointer none, .int .i64 0, .int .i64 0] 30)).new_ (g := w.heap.size + 1) (.cells #[.pointer none, .pointer none, .pointer none, .int .i64 0, .int .i64 0] 30) (by simp))
  have hlt0 : w.heap.size < w.heap.size + 1 := by omega
  clear hM hC hp hn hN hlen hNI
  go_enter Try.func9, Try.ntmps9
  go_wp2_with fail
  refine (HNEW.out _ _ HM.out).mono ?_
  rintro e w1 ⟨gm, gb, rfl, hm⟩
  have HM1 := Aside0.mk hm
  clear hm HM
  go_wp2_with fail
  have HM2 := Aside0.mk (bytes_made HM1.out N (by have := HN.out; omega))
  obtain ⟨w2, hrun, hm⟩ := Mem.copy_run .u8 (c := cp) 22 22 3 Try.underlying22 (by kernel_rfl) HM2.out (HM2.out.came HC.out) 3840 256 (N - 3840) (by rw [List.length_replicate]; omega) (cnt := n) (by have := HNN.out; omega)
  have HM3 := Aside0.mk hm
  clear hm HM2
  go_wp2_with fail
  rw [hrun]
  clear hrun
  go_wp2_with fail
  have hbytes : (List.replicate N (0 : Int)).take 3840 ++ p.take n ++ (List.replicate N (0 : Int)).drop (3840 + n) = startB N p := by unfold startB; rw [HLEN.out, List.take_of_length_le (l := p) (by rw [HLEN.out]; exact Nat.le_refl _)]
  have hm := HM3.out
  rw [hbytes] at hm
  have HBL := Aside0.mk (startB_len (N := N) (p := p) (by rw [HLEN.out]; exact HNN.out) HN.out)
  have HDO := Aside0.mk (startD (N := N) (p := p) (by rw [HLEN.out]; exact HNN.out) HP.out HN.out)
  obtain ⟨bs, hbs⟩ : ∃ bs, startB N p = bs := ⟨_, rfl⟩
  rw [hbs] at HBL HDO hm
  have HBS := Aside0.mk hbs
  clear hbytes HM3 hbs
  have hm' : Mem w0 w2 (nv w0 gm gb N ⟨List.replicate N 0, false, -1⟩ 0 0 (ob (w.heap.size + 1) (.cells #[.pointer none, .pointer none, .pointer none, .int .i64 0, .int .i64 0] 30) :: ob w.heap.size (.cells #[.pointer none, .pointer none, .pointer none, .int .i64 0, .int .i64 0] 30) :: (L ++ [row w0 (Kd.int .u8) 5 (.slice (some ⟨w1.heap.size, 0, none⟩) N N) bs]))) := hm.c1
  refine (Load_call hm' (by simp) hm.readsE.2 HBL.out).mono ?_
  rintro e w3 ⟨rfl, hm4⟩
  have x0 := blk_cell hm4.p2.get 0
  have f0 := blk_frozen hm4.p2.get 0
  have HM4 := Aside0.mk hm4
  clear hm hm4 hm'
  go_wp2_with fail
  refine (Open_ok ((HM4.out.p2.put 0 (.pointer (some ⟨gm, 0, none⟩)) rfl).q2) HBL.out HN.out c HCC.out.1 HCC.out.2).mono ?_
  rintro e w4 ⟨gu, rfl, hm⟩
  have z0 := blk_cell hm.p3.get 0
  have z1 := blk_cell hm.p3.get 1
  have z2 := blk_cell hm.p3.get 2
  have z3 := blk_cell hm.p3.get 3
  have z4 := blk_cell hm.p3.get 4
  have f1 := blk_frozen hm.p3.get 1
  have f2 := blk_frozen hm.p3.get 2
  have f3 := blk_frozen hm.p3.get 3
  have f4 := blk_frozen hm.p3.get 4
  have hg1 : w.heap.size + 1 < w4.heap.size := blk_lt hm.p3.get
  have hg0 : w.heap.size < w4.heap.size := blk_lt hm.c4.get
  have y0 := blk_cell hm.c4.get 0
  have e0 := blk_frozen hm.c4.get 0
  have y1 := blk_cell hm.c4.get 1
  have e1 := blk_frozen hm.c4.get 1
  have y2 := blk_cell hm.c4.get 2
  have e2 := blk_frozen hm.c4.get 2
  have y3 := blk_cell hm.c4.get 3
  have e3 := blk_frozen hm.c4.get 3
  have y4 := blk_cell hm.c4.get 4
  have e4 := blk_frozen hm.c4.get 4
  have HM5 := Aside0.mk hm
  clear hm x0 f0
  go_wp2_with fail
  have hmA := (((((HM5.out.p3.put 1 (.pointer (some ⟨gu, 0, none⟩)) rfl).put 2 (.pointer (some ⟨w4.heap.size, 0, none⟩)) rfl).put 3 (.int .i64 4096) rfl).put 4 (.int .i64 (c : Int)) rfl).drop).p3
  have hmB := ((((hmA.put 0 (.pointer (some ⟨gm, 0, none⟩)) rfl).put 1 (.pointer (some ⟨gu, 0, none⟩)) rfl).put 2 (.pointer (some ⟨w4.heap.size, 0, none⟩)) rfl).put 3 (.int .i64 4096) rfl).put 4 (.int .i64 (c : Int)) rfl
  have hmC := (hmB.alloc (.cells #[.slice (some ⟨w1.heap.size, 0, none⟩) N N, .bool false, .int .i64 (-1)] 62)).get
  have hmD := (hmB.drop.new_ (g := w4.heap.size) (.cells #[.slice (some ⟨w1.heap.size, 0, none⟩) N N, .bool false, .int .i64 (-1)] 62) (by simp)).q3.c4
  rw [List.append_assoc] at hmD
  refine bodyPost_ret (results_ct rfl _ _ w.heap.size 30 #[.pointer (some ⟨gm, 0, none⟩), .pointer (some ⟨gu, 0, none⟩), .pointer (some ⟨w4.heap.size, 0, none⟩), .int .i64 4096, .int .i64 (c : Int)] (0, 0) _ rfl hmC Try.underlying30 rfl info30) rfl ⟨gm, gb, gu, w4.heap.size, w1.heap.size, N, HN.out, rfl, ?_⟩
  rw [HBS.out]
  exact ⟨Mem.q4 (Mem.u5 (L := L) hmD), HDO.out⟩

theorem start_good {w0 w : World} {L : List Chunk} {A : Option Addr} {cp n : Nat} {p : List Int} {c : Nat} (hM : Mem w0 w L) (hC : (Kd.int .u8).C w0 A n p) (hp : ∀ x ∈ p, 0 ≤ x ∧ x < 256) (hn : n ≤ 256) (hc : 4 ≤ c) (hc2 : c ≤ 36) :
    Calls Try.prog 9 #[.slice A n cp, .int .i64 4096, .int .i64 (c : Int)] w fun e w' => ∃ gm gb gu gd gr N, N = 10240 ∧ e = .returned (.tuple #[.agg #[.pointer (some ⟨gm, 0, none⟩), .pointer (some ⟨gu, 0, none⟩), .pointer (some ⟨gd, 0, none⟩), .int .i64 4096, .int .i64 (c : Int)], .int .i64 0]) ∧ St w0 w' gm gb gu gd gr N ⟨startB N p, false, -1⟩ ⟨startB N p, false, -1⟩ c L := by
  refine (start_good0 hM hC hp hn hc hc2).mono ?_
  rintro e w' ⟨gm, gb, gu, gd, gr, N, hN, he, hm, ho⟩
  exact ⟨gm, gb, gu, gd, gr, N, hN, he, ⟨ho, 0, 0, fun h => absurd h (by show ¬ (0 : Int) ≤ -1; decide), hm⟩, ho⟩
theorem start_nil {w0 w : World} {L : List Chunk} {c : Nat} (hM : Mem w0 w L) (hc : 4 ≤ c) (hc2 : c ≤ 36) :
    Calls Try.prog 9 #[.slice none 0 0, .int .i64 4096, .int .i64 (c : Int)] w fun e w' => ∃ gm gb gu gd N, N = 10240 ∧ e = .returned (.tuple #[.agg #[.pointer (some ⟨gm, 0, none⟩), .pointer (some ⟨gu, 0, none⟩), .pointer (some ⟨gd, 0, none⟩), .int .i64 4096, .int .i64 (c : Int)], .int .i64 0]) ∧ NvM w0 w' gm gb N ⟨List.replicate N 0, false, -1⟩ (upd gu gm 4096 (c : Int) L) := by
  refine (start_good hM (p := []) (n := 0) ⟨rfl, Nat.zero_le _, fun h => absurd h (by simp)⟩ (by simp) (by omega) hc hc2).mono ?_
  rintro e w' ⟨gm, gb, gu, gd, gr, N, hN, he, ⟨hd, lf, wv, hlf, hm⟩, ho⟩
  have e0 : startB N [] = List.replicate N 0 := by
    unfold startB
    rw [List.append_nil, List.length_nil, Nat.add_zero, List.take_append_drop]
  rw [e0] at hd hm hlf
  exact ⟨gm, gb, gu, gd, N, hN, he, hd, lf, wv, hlf, hm.p3.drop.p3.drop⟩

set_option maxRecDepth 100000 in
set_option maxHeartbeats 2000000 in
theorem start_bad {w0 w : World} {L : List Chunk} {A : Option Addr} {cp n : Nat} {p : List Int} {s c : Int} (hM : Mem w0 w L) (hC : (Kd.int .u8).C w0 A n p) (hp : ∀ x ∈ p, 0 ≤ x ∧ x < 256) (hn : n ≤ 256) (hg : ¬ goodO s c) :
    Calls Try.prog 9 #[.slice A n cp, .int .i64 s, .int .i64 c] w fun e w' => ∃ gm gd, e = .returned (.tuple #[.agg #[.pointer (some ⟨gm, 0, none⟩), .pointer none, .pointer (some ⟨gd, 0, none⟩), .int .i64 s, .int .i64 c], .int .i64 1]) ∧ Below w0.heap.size w0 w' := by
  obtain ⟨N, hN⟩ : ∃ N : Nat, N = 10240 := ⟨_, rfl⟩
  have hNI : (N : Int) = 10240 := by omega
  have hlen : p.length = n := hC.1
  have HNEW := Aside0.mk (fun (W : World) (L' : List Chunk) (h : Mem w0 W L') => New_call h (N := N) (by omega) (by omega))
  have hmk := print_make (P := Try.prog) 22 5 .u8 1 Try.underlying22 info5 (by decide) N (by omega)
  rw [hNI] at HNEW hmk
  have HN := Aside0.mk hN
  have HC := Aside0.mk hC
  have HP := Aside0.mk hp
  have HLEN := Aside0.mk hlen
  have HNN := Aside0.mk hn
  have b1 : 4096 ≤ N := by omega
  have b2 : (4096 : Int) ≤ (N : Int) := by omega
  have b3 : ¬ N = 3840 := by omega
  have HNG := Aside0.mk hg
  have HM := Aside0.mk ((hM.new (.cells #[.pointer none, .pointer none, .pointer none, .int .i64 0, .int .i64 0] 30)).new_ (g := w.heap.size + 1) (.cells #[.pointer none, .pointer none, .pointer none, .int .i64 0, .int .i64 0] 30) (by simp))
  have hlt0 : w.heap.size < w.heap.size + 1 := by omega
  clear hg hM hC hp hn hN hlen hNI
  go_enter Try.func9, Try.ntmps9
  go_wp2_with fail
  refine (HNEW.out _ _ HM.out).mono ?_
  rintro e w1 ⟨gm, gb, rfl, hm⟩
  have HM1 := Aside0.mk hm
  clear hm HM
  go_wp2_with fail
  have HM2 := Aside0.mk (bytes_made HM1.out N (by have := HN.out; omega))
  obtain ⟨w2, hrun, hm⟩ := Mem.copy_run .u8 (c := cp) 22 22 3 Try.underlying22 (by kernel_rfl) HM2.out (HM2.out.came HC.out) 3840 256 (N - 3840) (by rw [List.length_replicate]; omega) (cnt := n) (by have := HNN.out; omega)
  have HM3 := Aside0.mk hm
  clear hm HM2
  go_wp2_with fail
  rw [hrun]
  clear hrun
  go_wp2_with fail
  have hbytes : (List.replicate N (0 : Int)).take 3840 ++ p.take n ++ (List.replicate N (0 : Int)).drop (3840 + n) = startB N p := by unfold startB; rw [HLEN.out, List.take_of_length_le (l := p) (by rw [HLEN.out]; exact Nat.le_refl _)]
  have hm := HM3.out
  rw [hbytes] at hm
  have HBL := Aside0.mk (startB_len (N := N) (p := p) (by rw [HLEN.out]; exact HNN.out) HN.out)
  have HDO := Aside0.mk (startD (N := N) (p := p) (by rw [HLEN.out]; exact HNN.out) HP.out HN.out)
  obtain ⟨bs, hbs⟩ : ∃ bs, startB N p = bs := ⟨_, rfl⟩
  rw [hbs] at HBL HDO hm
  have HBS := Aside0.mk hbs
  clear hbytes HM3 hbs
  have hm' : Mem w0 w2 (nv w0 gm gb N ⟨List.replicate N 0, false, -1⟩ 0 0 (ob (w.heap.size + 1) (.cells #[.pointer none, .pointer none, .pointer none, .int .i64 0, .int .i64 0] 30) :: ob w.heap.size (.cells #[.pointer none, .pointer none, .pointer none, .int .i64 0, .int .i64 0] 30) :: (L ++ [row w0 (Kd.int .u8) 5 (.slice (some ⟨w1.heap.size, 0, none⟩) N N) bs]))) := hm.c1
  refine (Load_call hm' (by simp) hm.readsE.2 HBL.out).mono ?_
  rintro e w3 ⟨rfl, hm4⟩
  have x0 := blk_cell hm4.p2.get 0
  have f0 := blk_frozen hm4.p2.get 0
  have HM4 := Aside0.mk hm4
  clear hm hm4 hm'
  go_wp2_with fail
  refine (Open_bad ((HM4.out.p2.put 0 (.pointer (some ⟨gm, 0, none⟩)) rfl).q2) HBL.out HN.out HNG.out).mono ?_
  rintro e w4 ⟨rfl, hb⟩
  have hm := (HM4.out.p2.put 0 (.pointer (some ⟨gm, 0, none⟩)) rfl).q2.step hb
  have z0 := blk_cell hm.p2.get 0
  have z1 := blk_cell hm.p2.get 1
  have z2 := blk_cell hm.p2.get 2
  have z3 := blk_cell hm.p2.get 3
  have z4 := blk_cell hm.p2.get 4
  have f1 := blk_frozen hm.p2.get 1
  have f2 := blk_frozen hm.p2.get 2
  have f3 := blk_frozen hm.p2.get 3
  have f4 := blk_frozen hm.p2.get 4
  have hg1 : w.heap.size + 1 < w4.heap.size := blk_lt hm.p2.get
  have hg0 : w.heap.size < w4.heap.size := blk_lt hm.p3.get
  have y0 := blk_cell hm.p3.get 0
  have e0 := blk_frozen hm.p3.get 0
  have y1 := blk_cell hm.p3.get 1
  have e1 := blk_frozen hm.p3.get 1
  have y2 := blk_cell hm.p3.get 2
  have e2 := blk_frozen hm.p3.get 2
  have y3 := blk_cell hm.p3.get 3
  have e3 := blk_frozen hm.p3.get 3
  have y4 := blk_cell hm.p3.get 4
  have e4 := blk_frozen hm.p3.get 4
  have HM5 := Aside0.mk hm
  clear hm hb x0 f0
  go_wp2_with fail
  have hmA := (((((HM5.out.p2.put 1 (.pointer none) rfl).put 2 (.pointer (some ⟨w4.heap.size, 0, none⟩)) rfl).put 3 (.int .i64 s) rfl).put 4 (.int .i64 c) rfl).drop).p2
  have hmB := ((((hmA.put 0 (.pointer (some ⟨gm, 0, none⟩)) rfl).put 1 (.pointer none) rfl).put 2 (.pointer (some ⟨w4.heap.size, 0, none⟩)) rfl).put 3 (.int .i64 s) rfl).put 4 (.int .i64 c) rfl
  have hmC := hmB.alloc (.cells #[.slice (some ⟨w1.heap.size, 0, none⟩) N N, .bool false, .int .i64 (-1)] 62)
  refine bodyPost_ret (results_ct rfl _ _ w.heap.size 30 #[.pointer (some ⟨gm, 0, none⟩), .pointer none, .pointer (some ⟨w4.heap.size, 0, none⟩), .int .i64 s, .int .i64 c] (0, 0) _ rfl hmC.get Try.underlying30 rfl info30) rfl ⟨gm, w4.heap.size, rfl, hmC.below⟩

end Go.Proofs.Ytfcldacjnegacaa.Up
