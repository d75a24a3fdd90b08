/- The operations over a memory, an updater and a device. -/
import Derived.Test.YtfcldacjnegacaaSm
import Derived.Test.YtfcldacjnegacaaUpY
namespace Go.Proofs.Ytfcldacjnegacaa.Up
open Go.RowKit Go.Proofs.YtfcldacjnegacaaW.PrintWords Go.Proofs.YtfcldacjnegacaaW.PrintLast Go.Proofs.YtfcldacjnegacaaW.PrintMore Go.Proofs.Ytfcldacjnegacaa.Sl
set_option linter.unusedVariables false
set_option linter.unusedSimpArgs false

variable {L : List Chunk} {w0 w w' : World} {gm gb gu gd gr N c : Nat} {d e : Dv}
theorem Mem.q5 {x a b c d e : Chunk} (h : Mem w0 w (x :: a :: b :: c :: d :: e :: L)) : Mem w0 w (a :: b :: c :: d :: e :: x :: L) := h.perm (List.perm_middle (l₁ := [a, b, c, d, e])).symm
theorem Mem.p5 {x a b c d e : Chunk} (h : Mem w0 w (a :: b :: c :: d :: e :: x :: L)) : Mem w0 w (x :: a :: b :: c :: d :: e :: L) := h.perm (List.perm_middle (l₁ := [a, b, c, d, e]))
theorem St.add (h : St w0 w gm gb gu gd gr N d e c L) (o : Obj) : St w0 (w.alloc o) gm gb gu gd gr N d e c (ob w.heap.size o :: L) := by
  obtain ⟨⟨hd, lf, wv, hlf, hm⟩, he⟩ := h
  exact ⟨⟨hd, lf, wv, hlf, Mem.q5 (hm.new o)⟩, he⟩
theorem St.add_ {g : Nat} (h : St w0 w gm gb gu gd gr N d e c L) (o : Obj) (hg : w.heap.size = g) : St w0 (w.alloc o) gm gb gu gd gr N d e c (ob g o :: L) := by subst hg; exact h.add o
theorem St.front {x : Chunk} (h : St w0 w gm gb gu gd gr N d e c (x :: L)) : ∃ M, Mem w0 w (x :: M) := by
  obtain ⟨⟨hd, lf, wv, hlf, hm⟩, he⟩ := h
  exact ⟨_, Mem.p5 hm⟩
theorem St.top {o : Obj} {g : Nat} (h : St w0 w gm gb gu gd gr N d e c (ob g o :: L)) : w.heap[g]? = some o := by
  obtain ⟨M, hm⟩ := h.front
  exact hm.get
theorem St.swap {x y : Chunk} (h : St w0 w gm gb gu gd gr N d e c (x :: y :: L)) : St w0 w gm gb gu gd gr N d e c (y :: x :: L) := by
  obtain ⟨⟨hd, lf, wv, hlf, hm⟩, he⟩ := h
  exact ⟨⟨hd, lf, wv, hlf, hm.perm (List.Perm.append_left [_, _, _, _, _] (List.Perm.swap y x L))⟩, he⟩
theorem St.third {x y z : Chunk} (h : St w0 w gm gb gu gd gr N d e c (x :: y :: z :: L)) : St w0 w gm gb gu gd gr N d e c (z :: x :: y :: L) := by
  obtain ⟨⟨hd, lf, wv, hlf, hm⟩, he⟩ := h
  exact ⟨⟨hd, lf, wv, hlf, hm.perm (List.Perm.append_left [_, _, _, _, _] (List.perm_middle (l₁ := [x, y])))⟩, he⟩
theorem St.fourth {x y z u : Chunk} (h : St w0 w gm gb gu gd gr N d e c (x :: y :: z :: u :: L)) : St w0 w gm gb gu gd gr N d e c (u :: x :: y :: z :: L) := by
  obtain ⟨⟨hd, lf, wv, hlf, hm⟩, he⟩ := h
  exact ⟨⟨hd, lf, wv, hlf, hm.perm (List.Perm.append_left [_, _, _, _, _] (List.perm_middle (l₁ := [x, y, z])))⟩, he⟩
theorem St.drop {x : Chunk} (h : St w0 w gm gb gu gd gr N d e c (x :: L)) : St w0 w gm gb gu gd gr N d e c L := by
  obtain ⟨⟨hd, lf, wv, hlf, hm⟩, he⟩ := h
  exact ⟨⟨hd, lf, wv, hlf, Mem.q5 (x := x) (L := L) (Mem.p5 hm) |> fun h => (Mem.p5 h).drop⟩, he⟩
theorem St.drew (h : St w0 w gm gb gu gd gr N d e c L) : St w0 w.drew gm gb gu gd gr N d e c L := h.step (below_drew (Below.refl _ _))
theorem St.came {A : Option Addr} {n : Nat} {xs : List Int} (h : St w0 w gm gb gu gd gr N d e c L) (hc : (Kd.int .u8).C w0 A n xs) : (Kd.int .u8).C w A n xs := Kd.C_below hc h.below
abbrev PM (gm : Nat) : Value := .pointer (some ⟨gm, 0, none⟩)
abbrev XV (gd c : Nat) : Value := .agg #[.pointer (some ⟨gd, 0, none⟩), .int .i64 4096, .int .i64 (c : Int)]
theorem St.offer (h : St w0 w gm gb gu gd gr N d e c L) (hN : N = 10240) (hc : 4 ≤ c) (hc2 : c ≤ 36) (v l s : Int) (hs0 : 0 ≤ s) (hs1 : s < 65536) :
    Calls Try.prog 13 #[.pointer (some ⟨gu, 0, none⟩), .int .i64 v, .int .i64 l, .int .u16 s] w fun x w' => x = .returned (.int .i64 (d.offer c v l s).2) ∧ St w0 w' gm gb gu gd gr N (d.offer c v l s).1 e c L :=
  (Offer_call h.1 hN hc hc2 v l s hs0 hs1).mono fun _ _ ⟨a, b⟩ => ⟨a, b, h.2⟩
theorem St.roffer (h : St w0 w gm gb gu gd gr N d e c L) (hN : N = 10240) (hc : 4 ≤ c) (hc2 : c ≤ 36) (v l s : Int) (hs0 : 0 ≤ s) (hs1 : s < 65536) :
    Calls Try.prog 45 #[.agg #[.pointer (some ⟨gd, 0, none⟩), .int .i64 4096, .int .i64 (c : Int)], .int .i64 v, .int .i64 l, .int .u16 s] w fun x w' => x = .returned (.int .i64 (e.offer c v l s).2) ∧ St w0 w' gm gb gu gd gr N d (e.offer c v l s).1 c L := by
  obtain ⟨M, hD, hback⟩ := h.ref
  exact (rOffer_call (slot := 4096) hD hN hc hc2 v l s hs0 hs1).mono fun _ _ ⟨a, b⟩ => ⟨a, hback _ _ _ b⟩
theorem St.chunk (h : St w0 w gm gb gu gd gr N d e c L) (hN : N = 10240) (hc : 4 ≤ c) (hc2 : c ≤ 36) (i : Int) (hi : (Lit.int .i64 i).wf = true) {A : Option Addr} {n cp : Nat} {xs : List Int} (hC : (Kd.int .u8).C w0 A n xs) (hx : ∀ x ∈ xs, 0 ≤ x ∧ x < 256) :
    Calls Try.prog 14 #[.pointer (some ⟨gu, 0, none⟩), .int .i64 i, .slice A n cp] w fun x w' => x = .returned (.int .i64 (d.store 4096 c i xs).2) ∧ St w0 w' gm gb gu gd gr N (d.store 4096 c i xs).1 e c L :=
  (Chunk_call (sl := 4096) h.1 hN hc hc2 (by omega) i hi hC.1 (fun d' W hW => by obtain ⟨_, _, _, _, hm⟩ := hW; rw [hC.1]; exact hm.came hC) hx).mono fun _ _ ⟨a, b⟩ => ⟨a, b, h.2⟩
theorem St.rchunk (h : St w0 w gm gb gu gd gr N d e c L) (hN : N = 10240) (hc : 4 ≤ c) (hc2 : c ≤ 36) (i : Int) {A : Option Addr} {n cp : Nat} {xs : List Int} (hC : (Kd.int .u8).C w0 A n xs) (hx : ∀ x ∈ xs, 0 ≤ x ∧ x < 256) :
    Calls Try.prog 46 #[.agg #[.pointer (some ⟨gd, 0, none⟩), .int .i64 4096, .int .i64 (c : Int)], .int .i64 i, .slice A n cp] w fun x w' => x = .returned (.int .i64 (e.store 4096 c i xs).2) ∧ St w0 w' gm gb gu gd gr N d (e.store 4096 c i xs).1 c L := by
  obtain ⟨M, hD, hback⟩ := h.ref
  exact (Store_call (sl := 4096) (cp := cp) hD hN hc hc2 (by omega) i hC.1 (fun d' W L' hW => by rw [hC.1]; exact hW.2.came hC) hx).mono fun _ _ ⟨a, b⟩ => ⟨a, hback _ _ _ b⟩
theorem St.compl (h : St w0 w gm gb gu gd gr N d e c L) (hN : N = 10240) (hc : 4 ≤ c) (hc2 : c ≤ 36) :
    Calls Try.prog 21 #[.pointer (some ⟨gu, 0, none⟩)] w fun x w' => ∃ v, x = .returned (.tuple #[v, .int .i64 (d.compl 4096 c).2.2.1, .int .i64 (d.compl 4096 c).2.2.2]) ∧ St w0 w' gm gb gu gd gr N (d.compl 4096 c).1 e c (row w0 (Kd.int .u8) 5 v (d.compl 4096 c).2.1 :: L) := by
  refine (Complete_call (sl := 4096) h.1 hN hc hc2 (by omega)).mono ?_
  rintro x w' ⟨v, hv, hd, lf, wv, hlf, hm⟩
  exact ⟨v, hv, ⟨hd, lf, wv, hlf, hm.perm (List.Perm.append_left [_, _, _] (List.perm_middle (l₁ := [_, _])).symm)⟩, h.2⟩
theorem St.rcompl (h : St w0 w gm gb gu gd gr N d e c L) (hN : N = 10240) (hc : 4 ≤ c) (hc2 : c ≤ 36) :
    Calls Try.prog 47 #[.agg #[.pointer (some ⟨gd, 0, none⟩), .int .i64 4096, .int .i64 (c : Int)]] w fun x w' => ∃ v, x = .returned (.tuple #[v, .int .i64 (e.compl 4096 c).2.2.1, .int .i64 (e.compl 4096 c).2.2.2]) ∧ St w0 w' gm gb gu gd gr N d (e.compl 4096 c).1 c (row w0 (Kd.int .u8) 5 v (e.compl 4096 c).2.1 :: L) := by
  obtain ⟨M, hD, hback⟩ := h.ref
  refine (rComplete_call (sl := 4096) hD hN hc hc2 (by omega)).mono ?_
  rintro x w' ⟨v, hv, hm⟩
  exact ⟨v, hv, hback _ _ (row w0 (Kd.int .u8) 5 v (e.compl 4096 c).2.1 :: L) hm⟩
theorem St.discard (h : St w0 w gm gb gu gd gr N d e c L) (hN : N = 10240) :
    Calls Try.prog 44 #[.pointer (some ⟨gu, 0, none⟩)] w fun x w' => x = .returned (.int .i64 (errP (d.wrs 3840 [0]).2)) ∧ St w0 w' gm gb gu gd gr N (d.wrs 3840 [0]).1 e c L :=
  (Discard_call h.1 hN).mono fun _ _ ⟨a, b⟩ => ⟨a, b, h.2⟩
theorem St.rdiscard (h : St w0 w gm gb gu gd gr N d e c L) (hN : N = 10240) :
    Calls Try.prog 48 #[.agg #[.pointer (some ⟨gd, 0, none⟩), .int .i64 4096, .int .i64 (c : Int)]] w fun x w' => x = .returned (.int .i64 (errP (e.wrs 3840 [0]).2)) ∧ St w0 w' gm gb gu gd gr N d (e.wrs 3840 [0]).1 c L := by
  obtain ⟨M, hD, hback⟩ := h.ref
  exact (rDiscard_call (slot := 4096) (chunk := (c : Int)) hD hN).mono fun _ _ ⟨a, b⟩ => ⟨a, hback _ _ _ b⟩
theorem St.arm (h : St w0 w gm gb gu gd gr N d e c L) (n : Int) (h0 : 0 ≤ n) (h1 : n ≤ 1000) :
    Calls Try.prog 16 #[.pointer (some ⟨gm, 0, none⟩), .int .i64 n] w fun x w' => x = .returned (.tuple #[]) ∧ St w0 w' gm gb gu gd gr N ⟨d.B, d.off, n⟩ e c L := (Arm_call h.1 n h0 h1).mono fun _ _ ⟨a, b⟩ => ⟨a, b, h.2⟩
theorem St.power (h : St w0 w gm gb gu gd gr N d e c L) :
    Calls Try.prog 17 #[.pointer (some ⟨gm, 0, none⟩)] w fun x w' => x = .returned (.tuple #[]) ∧ St w0 w' gm gb gu gd gr N ⟨d.B, false, -1⟩ e c L := (PowerOn_call h.1).mono fun _ _ ⟨a, b⟩ => ⟨a, b, h.2⟩
/-- The device's switches are set. -/
theorem St.dev_left (h : St w0 w gm gb gu gd gr N d e c L) (n : Int) (h0 : -1 ≤ n) (h1 : n ≤ 1000) : St w0 (w.setCell ⟨gd, 2, none⟩ (.int .i64 n)) gm gb gu gd gr N d ⟨e.B, e.off, n⟩ c L := by
  obtain ⟨M, hD, hback⟩ := h.ref
  exact hback _ ⟨e.B, e.off, n⟩ L ⟨⟨hD.1.len, h0, h1, hD.1.byte⟩, hD.2.put 2 (.int .i64 n) rfl⟩
theorem St.dev_on (h : St w0 w gm gb gu gd gr N d e c L) : St w0 ((w.setCell ⟨gd, 1, none⟩ (.bool false)).setCell ⟨gd, 2, none⟩ (.int .i64 (-1))) gm gb gu gd gr N d ⟨e.B, false, -1⟩ c L := by
  obtain ⟨M, hD, hback⟩ := h.ref
  exact hback _ ⟨e.B, false, -1⟩ L ⟨⟨hD.1.len, by show -1 ≤ (-1 : Int); omega, by show (-1 : Int) ≤ 1000; omega, hD.1.byte⟩, (hD.2.put 1 (.bool false) rfl).put 2 (.int .i64 (-1)) rfl⟩
end Go.Proofs.Ytfcldacjnegacaa.Up
