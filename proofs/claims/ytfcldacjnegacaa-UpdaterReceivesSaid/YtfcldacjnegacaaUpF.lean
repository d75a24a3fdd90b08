/- The updater's writes: write, Discard, Offer. -/
import Derived.Test.YtfcldacjnegacaaUpE
import Derived.Test.YtfcldacjnegacaaWEqStruct
namespace Go.Proofs.Ytfcldacjnegacaa.Up
open Go.RowKit Go.Proofs.YtfcldacjnegacaaW.PrintWords Go.Proofs.YtfcldacjnegacaaW.PrintLast Go.Proofs.YtfcldacjnegacaaW.PrintMore Go.Proofs.Ytfcldacjnegacaa.Sl
set_option linter.unusedVariables false
set_option linter.unusedSimpArgs false
variable {L : List Chunk} {w0 w w' : World} {gm gb gu N c : Nat} {d : Dv} {slot chunk : Int}
theorem C_of_cells {W : World} {g : Nat} {xs : List Int} (h : W.heap[g]? = some (.cells (xs.map (Value.int .u8)).toArray 5)) (hl : xs.length ≤ 100000) : (Kd.int .u8).C W (some ⟨g, 0, none⟩) xs.length xs := by
  have hm : maxLen = 9223372036854775807 := rfl
  refine ⟨rfl, by omega, fun _ => ⟨⟨g, 0, none⟩, rfl, fun j p hj => ⟨[.int .u8 p], rfl, rfl, fun i u hu => ?_⟩⟩⟩
  have hi : i = 0 := by
    cases i with
    | zero => rfl
    | succ i => simp at hu
  subst hi
  have hu : Value.int .u8 p = u := by simpa using hu
  subst hu
  have e : (⟨g, 0, none⟩ : Addr).add (j * (Kd.int .u8).sz + 0) = ⟨g, j, none⟩ := by
    rw [show (Kd.int .u8).sz = 1 from rfl, Nat.mul_one, Nat.add_zero]
    by_cases h0 : j = 0
    · subst h0; simp [Addr.add]
    · simp [Addr.add, h0]
  rw [e, blk_cell h j]
  simp [hj]
theorem NvM.add (h : NvM w0 w gm gb N d (upd gu gm slot chunk L)) (o : Obj) : NvM w0 (w.alloc o) gm gb N d (upd gu gm slot chunk (ob w.heap.size o :: L)) := by
  obtain ⟨hd, lf, wv, hlf, hm⟩ := h
  exact ⟨hd, lf, wv, hlf, (hm.new o).q3⟩
theorem NvM.top {o : Obj} {g : Nat} (h : NvM w0 w gm gb N d (upd gu gm slot chunk (ob g o :: L))) : w.heap[g]? = some o := by
  obtain ⟨hd, lf, wv, hlf, hm⟩ := h
  exact hm.p3.get
theorem NvM.drop {x : Chunk} (h : NvM w0 w gm gb N d (upd gu gm slot chunk (x :: L))) : NvM w0 w gm gb N d (upd gu gm slot chunk L) := by
  obtain ⟨hd, lf, wv, hlf, hm⟩ := h
  exact ⟨hd, lf, wv, hlf, hm.p3.drop⟩
def errP (b : Bool) : Int := if b = true then 0 else 9
theorem write_call (hM : NvM w0 w gm gb N d (upd gu gm slot chunk L)) (a : Nat) {A : Option Addr} {cp n : Nat} {xs : List Int} (hX : ∀ d' W, NvM w0 W gm gb N d' (upd gu gm slot chunk L) → (Kd.int .u8).C W A xs.length xs) (hx : ∀ x ∈ xs, 0 ≤ x ∧ x < 256) (hn : xs.length = n) (h : 3840 + a + n ≤ N) (hN : N = 10240) :
    Calls Try.prog 35 #[.pointer (some ⟨gu, 0, none⟩), .int .i64 (a : Int), .slice A n cp] w fun e w' => e = .returned (.int .i64 (errP (d.wrs (3840 + a) xs).2)) ∧ NvM w0 w' gm gb N (d.wrs (3840 + a) xs).1 (upd gu gm slot chunk L) := by
  obtain ⟨x0, x1, x2⟩ := hM.u
  have HW := Aside0.mk (WriteBytes_call (c := cp) hM (3840 + a) hX hx (by omega) (by omega))
  rw [hn] at HW
  have e1 : wrap64 (3840 + (a : Int)) = ((3840 + a : Nat) : Int) := by unfold wrap64; omega
  clear hM hX hx hN hn h
  generalize d.wrs (3840 + a) xs = p at *
  generalize 3840 + a = s at *
  obtain ⟨d', ok⟩ := p
  dsimp only at HW ⊢
  cases ok with
  | true =>
    go_enter Try.func35, Try.ntmps35
    go_wp2_with fail
    refine HW.out.mono ?_
    rintro e w1 ⟨rfl, hm⟩
    have HM := Aside0.mk hm
    clear hm
    go_wp2_with fail
    go_ret
    exact ⟨rfl, HM.out⟩
  | false =>
    go_enter Try.func35, Try.ntmps35
    go_wp2_with fail
    refine HW.out.mono ?_
    rintro e w1 ⟨rfl, hm⟩
    have HM := Aside0.mk hm
    clear hm
    go_wp2_with fail
    go_ret
    exact ⟨rfl, HM.out⟩
/-- A write of bytes that were just laid. -/
theorem write_lit (hM : NvM w0 w gm gb N d (upd gu gm slot chunk L)) (a : Nat) (xs : List Int) (cs : Array Value) (hcs : cs = (xs.map (Value.int .u8)).toArray) (hx : ∀ x ∈ xs, 0 ≤ x ∧ x < 256) {n : Nat} (hn : xs.length = n) (h : 3840 + a + n ≤ N) (hN : N = 10240) {g : Nat} (hg : w.heap.size = g) :
    Calls Try.prog 35 #[.pointer (some ⟨gu, 0, none⟩), .int .i64 (a : Int), .slice (some ⟨g, 0, none⟩) n n] (w.alloc (.cells cs 5)) fun e w' => e = .returned (.int .i64 (errP (d.wrs (3840 + a) xs).2)) ∧ NvM w0 w' gm gb N (d.wrs (3840 + a) xs).1 (upd gu gm slot chunk L) := by
  subst hcs hg
  refine (write_call (hM.add _) a (cp := n) (fun d' W hW => C_of_cells hW.top (by omega)) hx hn h hN).mono ?_
  rintro e w1 ⟨rfl, hm⟩
  exact ⟨rfl, hm.drop⟩
theorem write0 (hM : NvM w0 w gm gb N d (upd gu gm slot chunk L)) (x : Int) (hx : 0 ≤ x ∧ x < 256) (hN : N = 10240) {g : Nat} (hg : w.heap.size = g) :
    Calls Try.prog 35 #[.pointer (some ⟨gu, 0, none⟩), .int .i64 0, .slice (some ⟨g, 0, none⟩) 1 1] (w.alloc (.cells #[.int .u8 x] 5)) fun e w' => e = .returned (.int .i64 (errP (d.wrs 3840 [x]).2)) ∧ NvM w0 w' gm gb N (d.wrs 3840 [x]).1 (upd gu gm slot chunk L) :=
  write_lit (n := 1) hM 0 [x] _ rfl (by simpa using hx) rfl (by omega) hN hg
theorem Discard_call (hM : NvM w0 w gm gb N d (upd gu gm slot chunk L)) (hN : N = 10240) :
    Calls Try.prog 44 #[.pointer (some ⟨gu, 0, none⟩)] w fun e w' => e = .returned (.int .i64 (errP (d.wrs 3840 [0]).2)) ∧ NvM w0 w' gm gb N (d.wrs 3840 [0]).1 (upd gu gm slot chunk L) := by
  have HW := Aside0.mk (write0 hM 0 (by omega) hN rfl)
  clear hM hN
  go_enter Try.func44, Try.ntmps44
  go_wp2_with fail
  refine HW.out.mono ?_
  rintro e w1 ⟨rfl, hm⟩
  have HM := Aside0.mk hm
  clear hm
  go_wp2_with fail
  go_ret
  exact ⟨rfl, HM.out⟩
theorem eq71 (a b s x y z : Int) (W : World) : (binOp .eql 71 (.agg #[.int .i64 a, .int .i64 b, .int .u16 s]) (.agg #[.int .i64 x, .int .i64 y, .int .u16 z])).run Try.prog W = .ok (.bool (a == x && (b == y && s == z))) W := by
  rw [run_eql_struct]
  have h : (Op.equalIn 10000 71 (.agg #[.int .i64 a, .int .i64 b, .int .u16 s]) (.agg #[.int .i64 x, .int .i64 y, .int .u16 z])).run Try.prog W = .ok (a == x && (b == y && s == z)) W := by
    refine eqA_of Try.underlying71 (by kernel_rfl) ?_
    refine eqf_cons (by kernel_rfl) rfl rfl (run_equalIn_int _ _ _ _ _ _ _ Try.underlying3) ?_
    refine eqf_cons (by kernel_rfl) rfl rfl (run_equalIn_int _ _ _ _ _ _ _ Try.underlying3) ?_
    exact eqf_last (by kernel_rfl) rfl rfl (run_equalIn_int _ _ _ _ _ _ _ Try.underlying38)
  rw [h]
  rfl
end Go.Proofs.Ytfcldacjnegacaa.Up
