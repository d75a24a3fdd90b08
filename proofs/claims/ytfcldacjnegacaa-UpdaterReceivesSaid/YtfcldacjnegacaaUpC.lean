/- UpA, UpB, UpC, merged. -/
import Derived.Test.YtfcldacjnegacaaProg
import Derived.Below
import Derived.Deep.Draws
import Derived.Deep.AppendLies
import Derived.Maps.AppendAt
import Derived.OwnWalk
import Derived.Laws.BytesArg
import Derived.Laws.MakeOwn
import Derived.Laws.OwnMore
import Derived.Deep.OwnRows
import Derived.Tactics
import Derived.Lib.ConvBytes
import Derived.Laws.Slices
import Derived.WalkKit
import Derived.KernelRfl
import Derived.RowKit3
import Derived.Deep.LoopGhost
import Derived.Deep.QuietTactic
import Derived.BigQuiet
import Derived.WideLaws
import Derived.Deep.DeepCutAuto
import Derived.Deep.CutBlock
import Derived.Deep.RegionHeld3
import Derived.Laws.Rows
import Derived.Lib.AppendStr
import Derived.ArgAppend
import Derived.Laws.IdiomCopy
import Derived.OrdersHeld
import Derived.Laws.BitsLemmas
import Derived.RowKit
import Derived.Lib.SliceRun
import Derived.Test.YtfcldacjnegacaaSl
import Derived.Test.YtfcldacjnegacaaWLast
import Derived.Deep.RegionWith
/- The memory and the reference's device: one pure device, the walks of valid, Write, Read. -/
namespace Go.Proofs.Ytfcldacjnegacaa.Up
open Go.RowKit Go.Proofs.YtfcldacjnegacaaW.PrintWords Go.Proofs.YtfcldacjnegacaaW.PrintLast Go.Proofs.YtfcldacjnegacaaW.PrintMore Go.Proofs.Ytfcldacjnegacaa.Sl
set_option linter.unusedVariables false
set_option linter.unusedSimpArgs false
/-- A device: its bytes, whether it is off, the writes that are left (-1: no end). -/
structure Dv where
  B : List Int
  off : Bool
  left : Int
def Dv.wr (d : Dv) (a : Nat) (x : Int) : Dv × Bool :=
  if d.off = true then (d, false)
  else if d.left = 0 then (⟨d.B, true, 0⟩, false)
  else (⟨d.B.set a x, false, if 0 < d.left then d.left - 1 else d.left⟩, true)
def Dv.wrs (d : Dv) (a : Nat) : List Int → Dv × Bool
  | [] => (d, !d.off)
  | x :: l => if (d.wr a x).2 = true then (d.wr a x).1.wrs (a + 1) l else ((d.wr a x).1, false)
def Dv.rd (d : Dv) (a : Nat) : Int := if d.off = true then 0 else d.B.getD a 0
def Dv.rds (d : Dv) (a n : Nat) : List Int := if d.off = true then List.replicate n 0 else (d.B.drop a).take n
structure Dv.Ok (N : Nat) (d : Dv) : Prop where
  len : d.B.length = N
  lo : -1 ≤ d.left
  hi : d.left ≤ 1000
  byte : ∀ x ∈ d.B, 0 ≤ x ∧ x < 256
theorem Dv.Ok.wr {N : Nat} {d : Dv} (h : d.Ok N) {a : Nat} {x : Int} (hx : 0 ≤ x ∧ x < 256) : (d.wr a x).1.Ok N := by
  obtain ⟨h1, h2, h3, h4⟩ := h
  unfold Dv.wr
  split
  · exact ⟨h1, h2, h3, h4⟩
  · split
    · exact ⟨h1, by simp, by simp, h4⟩
    · refine ⟨by simpa using h1, ?_, ?_, ?_⟩
      · dsimp only; split <;> omega
      · dsimp only; split <;> omega
      · intro y hy
        rcases List.mem_or_eq_of_mem_set hy with hy | rfl
        · exact h4 y hy
        · exact hx
theorem Dv.Ok.wrs {N : Nat} : ∀ {l : List Int} {d : Dv} {a : Nat}, d.Ok N → (∀ x ∈ l, 0 ≤ x ∧ x < 256) → (d.wrs a l).1.Ok N
  | [], _, _, h, _ => h
  | x :: l, d, a, h, hl => by
    have h1 := h.wr (a := a) (hl x (by simp))
    unfold Dv.wrs
    split
    · exact Dv.Ok.wrs h1 (fun y hy => hl y (by simp [hy]))
    · exact h1
/-- The memory's block and its row. -/
@[reducible] def nv (w0 : World) (gm gb N : Nat) (d : Dv) (lf wv : Int) (L : List Chunk) : List Chunk :=
  blk gm #[.slice (some ⟨gb, 0, none⟩) N N, .bool d.off, .bool (decide (0 ≤ d.left)), .int .i64 lf, .nilFunc, .int .i64 wv] 69 :: row w0 (Kd.int .u8) 5 (.slice (some ⟨gb, 0, none⟩) N N) d.B :: L
section
variable {L : List Chunk} {w0 w : World} {gm gb N : Nat} {d : Dv} {lf wv : Int}
theorem run_nf (W : World) : (binOp BinOp.neq 23 Value.nilFunc Value.nilFunc).run Try.prog W = .ok (.bool false) W := rfl
theorem valid_call (hM : Mem w0 w (nv w0 gm gb N d lf wv L)) (a n : Nat) (h : a + n ≤ N) (hN : N ≤ 20000) :
    Calls Try.prog 41 #[.pointer (some ⟨gm, 0, none⟩), .int .i64 (a : Int), .int .i64 (n : Int)] w fun e w' => e = .returned (.bool true) ∧ w = w' := by
  have hc0 := blk_cell hM.get 0
  have c1 : decide ((0 : Int) ≤ (a : Int)) = true := decide_eq_true (by omega)
  have c2 : decide ((0 : Int) ≤ (n : Int)) = true := decide_eq_true (by omega)
  have c3 : decide ((a : Int) ≤ (N : Int)) = true := decide_eq_true (by omega)
  have c3' : decide (a ≤ N) = true := decide_eq_true (by omega)
  have c4 : decide ((n : Int) ≤ (N : Int) - (a : Int)) = true := decide_eq_true (by omega)
  have c5 : wrap64 ((N : Int) - (a : Int)) = (N : Int) - (a : Int) := by unfold wrap64; omega
  clear hM h hN
  go_enter Try.func41, Try.ntmps41
  go_wp2
  go_ret
  exact ⟨rfl, rfl⟩
theorem valid1_call (hM : Mem w0 w (nv w0 gm gb N d lf wv L)) (a : Nat) (h : a < N) (hN : N ≤ 20000) :
    Calls Try.prog 41 #[.pointer (some ⟨gm, 0, none⟩), .int .i64 (a : Int), .int .i64 1] w fun e w' => e = .returned (.bool true) ∧ w = w' := valid_call hM a 1 h hN
theorem Read_call (hM : Mem w0 w (nv w0 gm gb N d lf wv L)) (hd : d.Ok N) (a : Nat) (h : a < N) (hN : N ≤ 20000) :
    Calls Try.prog 30 #[.pointer (some ⟨gm, 0, none⟩), .int .i64 (a : Int)] w fun e w' => e = .returned (.int .u8 (d.rd a)) ∧ w = w' := by
  have hc0 := blk_cell hM.get 0
  have hc1 := blk_cell hM.get 1
  obtain ⟨hr, _⟩ := hM.drop.row_cell (0 : Int) a (by rw [hd.len]; exact h)
  have HM := Aside0.mk hM
  clear hM
  unfold Dv.rd
  cases ho : d.off with
  | true =>
    rw [ho] at hc1
    have HD := Aside0.mk ho
    clear ho hr hd
    rw [if_pos rfl]
    go_enter Try.func30, Try.ntmps30
    go_wp2
    go_ret
    exact ⟨rfl, rfl⟩
  | false =>
    rw [ho] at hc1
    rw [if_neg (by simp)]
    have HD := Aside0.mk ho
    have c3 : decide (a < N) = true := decide_eq_true (by omega)
    have HH := Aside0.mk h
    have HHN := Aside0.mk hN
    clear ho hd
    go_enter Try.func30, Try.ntmps30
    go_wp2_with (go_at_call 41; refine (valid1_call HM.out a HH.out HHN.out).mono ?_; rintro e w' ⟨rfl, rfl⟩)
    go_ret
    exact ⟨rfl, rfl⟩
theorem Write_off (hM : Mem w0 w (nv w0 gm gb N d lf wv L)) (a : Nat) (x : Int) (h : a < N) (hN : N ≤ 20000) (ho : d.off = true) :
    Calls Try.prog 53 #[.pointer (some ⟨gm, 0, none⟩), .int .i64 (a : Int), .int .u8 x] w fun e w' => e = .returned (.bool false) ∧ w = w' := by
  have hc1 := blk_cell hM.get 1
  have HM := Aside0.mk hM
  have HH := Aside0.mk h
  have HHN := Aside0.mk hN
  have HO := Aside0.mk ho
  simp only [ho] at hc1
  clear hM h hN ho
  go_enter Try.func53, Try.ntmps53
  go_wp2_with (go_at_call 41; refine (valid1_call HM.out a HH.out HHN.out).mono ?_; rintro e w' ⟨rfl, rfl⟩)
  go_ret
  exact ⟨rfl, rfl⟩
theorem Write_zero (hM : Mem w0 w (nv w0 gm gb N d 0 wv L)) (a : Nat) (x : Int) (h : a < N) (hN : N ≤ 20000) (ho : d.off = false) (hl : d.left = 0) :
    Calls Try.prog 53 #[.pointer (some ⟨gm, 0, none⟩), .int .i64 (a : Int), .int .u8 x] w fun e w' => e = .returned (.bool false) ∧ Mem w0 w' (nv w0 gm gb N ⟨d.B, true, 0⟩ 0 wv L) := by
  obtain ⟨B, o, l⟩ := d
  obtain rfl : o = false := ho
  obtain rfl : l = 0 := hl
  have hc1 := blk_cell hM.get 1
  have hc2 := blk_cell hM.get 2
  have hc3 := blk_cell hM.get 3
  have hf := blk_frozen hM.get 1
  have HM := Aside0.mk hM
  have HH := Aside0.mk h
  have HHN := Aside0.mk hN
  clear hM h hN
  go_enter Try.func53, Try.ntmps53
  go_wp2_with (go_at_call 41; refine (valid1_call HM.out a HH.out HHN.out).mono ?_; rintro e w' ⟨rfl, rfl⟩)
  go_ret
  exact ⟨rfl, HM.out.put 1 (.bool true) rfl⟩
theorem Write_armed (hM : Mem w0 w (nv w0 gm gb N d lf wv L)) (hd : d.Ok N) (a : Nat) (x : Int) (h : a < N) (hN : N ≤ 20000) (ho : d.off = false) (hl : 0 < d.left) (hlf : lf = d.left) :
    Calls Try.prog 53 #[.pointer (some ⟨gm, 0, none⟩), .int .i64 (a : Int), .int .u8 x] w fun e w' => e = .returned (.bool true) ∧ Mem w0 w' (nv w0 gm gb N ⟨d.B.set a x, false, d.left - 1⟩ (d.left - 1) (wrap64 (wv + 1)) L) := by
  obtain ⟨B, o, l⟩ := d
  obtain rfl : o = false := ho
  obtain rfl : lf = l := hlf
  obtain ⟨hB, _, hhi, _⟩ := hd
  have hB : B.length = N := hB
  have hhi : lf ≤ 1000 := hhi
  have hl : 0 < lf := hl
  have c3 : a < N := h
  have c1 : decide (0 ≤ lf) = true := decide_eq_true (by omega)
  have c1' : decide (0 ≤ lf - 1) = true := decide_eq_true (by omega)
  have c2 : ¬ lf = 0 := by omega
  have c4 : wrap64 (lf - 1) = lf - 1 := by unfold wrap64; omega
  have hM : Mem w0 w (blk gm #[.slice (some ⟨gb, 0, none⟩) N N, .bool false, .bool (decide (0 ≤ lf)), .int .i64 lf, .nilFunc, .int .i64 wv] 69 :: row w0 (Kd.int .u8) 5 (.slice (some ⟨gb, 0, none⟩) N N) B :: L) := hM
  show Calls _ _ _ _ fun e w' => _ ∧ Mem w0 w' (blk gm #[.slice (some ⟨gb, 0, none⟩) N N, .bool false, .bool (decide (0 ≤ lf - 1)), .int .i64 (lf - 1), .nilFunc, .int .i64 (wrap64 (wv + 1))] 69 :: row w0 (Kd.int .u8) 5 (.slice (some ⟨gb, 0, none⟩) N N) (B.set a x) :: L)
  have hV := Aside0.mk (valid1_call (d := ⟨B, false, lf⟩) hM a h hN)
  have HH := Aside0.mk h
  rw [c1'] 
  rw [c1] at hM
  have hc0 := blk_cell hM.get 0
  have hc1 := blk_cell hM.get 1
  have hc2 := blk_cell hM.get 2
  have hc3 := blk_cell hM.get 3
  have hc4 := blk_cell hM.get 4
  have hc5 := blk_cell hM.get 5
  have hf3 := blk_frozen hM.get 3
  have hf5 := blk_frozen hM.get 5
  have hne := hM.ne_own
  have hne' : ¬ gb = gm := fun e => hne e.symm
  obtain ⟨hr, hrf⟩ := hM.drop.row_cell (0 : Int) a (by rw [hB]; exact h)
  have HM := Aside0.mk hM
  clear hM h hN hB hhi hl c1 c1'
  have hnf := run_nf
  go_enter Try.func53, Try.ntmps53
  go_wp2_with (go_at_call 41; refine hV.out.mono ?_; rintro e w' ⟨rfl, rfl⟩)
  go_ret
  refine ⟨rfl, ?_⟩
  have h1 := (HM.out.put 3 (.int .i64 (lf - 1)) rfl).p1.row_put a x
  exact h1.p1.put 5 (.int .i64 (wrap64 (wv + 1))) rfl
theorem Write_free (hM : Mem w0 w (nv w0 gm gb N d lf wv L)) (hd : d.Ok N) (a : Nat) (x : Int) (h : a < N) (hN : N ≤ 20000) (ho : d.off = false) (hl : d.left < 0) :
    Calls Try.prog 53 #[.pointer (some ⟨gm, 0, none⟩), .int .i64 (a : Int), .int .u8 x] w fun e w' => e = .returned (.bool true) ∧ Mem w0 w' (nv w0 gm gb N ⟨d.B.set a x, false, d.left⟩ lf (wrap64 (wv + 1)) L) := by
  obtain ⟨B, o, l⟩ := d
  obtain rfl : o = false := ho
  obtain ⟨hB, _, hhi, _⟩ := hd
  have hB : B.length = N := hB
  have hl : l < 0 := hl
  have c3 : a < N := h
  have c1 : decide (0 ≤ l) = false := decide_eq_false (by omega)
  have hM : Mem w0 w (blk gm #[.slice (some ⟨gb, 0, none⟩) N N, .bool false, .bool (decide (0 ≤ l)), .int .i64 lf, .nilFunc, .int .i64 wv] 69 :: row w0 (Kd.int .u8) 5 (.slice (some ⟨gb, 0, none⟩) N N) B :: L) := hM
  show Calls _ _ _ _ fun e w' => _ ∧ Mem w0 w' (blk gm #[.slice (some ⟨gb, 0, none⟩) N N, .bool false, .bool (decide (0 ≤ l)), .int .i64 lf, .nilFunc, .int .i64 (wrap64 (wv + 1))] 69 :: row w0 (Kd.int .u8) 5 (.slice (some ⟨gb, 0, none⟩) N N) (B.set a x) :: L)
  have hV := Aside0.mk (valid1_call (d := ⟨B, false, l⟩) hM a h hN)
  have HH := Aside0.mk h
  rw [c1] at hM ⊢
  have hc0 := blk_cell hM.get 0
  have hc1 := blk_cell hM.get 1
  have hc2 := blk_cell hM.get 2
  have hc4 := blk_cell hM.get 4
  have hc5 := blk_cell hM.get 5
  have hf5 := blk_frozen hM.get 5
  have hne := hM.ne_own
  have hne' : ¬ gb = gm := fun e => hne e.symm
  obtain ⟨hr, hrf⟩ := hM.drop.row_cell (0 : Int) a (by rw [hB]; exact h)
  have HM := Aside0.mk hM
  clear hM h hN hB hhi hl c1
  have hnf := run_nf
  go_enter Try.func53, Try.ntmps53
  go_wp2_with (go_at_call 41; refine hV.out.mono ?_; rintro e w' ⟨rfl, rfl⟩)
  go_ret
  refine ⟨rfl, ?_⟩
  have h1 := HM.out.p1.row_put a x
  exact h1.p1.put 5 (.int .i64 (wrap64 (wv + 1))) rfl
/-- The memory with what lies beside it; the armed count where it matters. -/
def NvM (w0 w : World) (gm gb N : Nat) (d : Dv) (L : List Chunk) : Prop := d.Ok N ∧ ∃ lf wv, (0 ≤ d.left → lf = d.left) ∧ Mem w0 w (nv w0 gm gb N d lf wv L)
theorem Write_call (hM : NvM w0 w gm gb N d L) (a : Nat) (x : Int) (hx : 0 ≤ x ∧ x < 256) (h : a < N) (hN : N ≤ 20000) :
    Calls Try.prog 53 #[.pointer (some ⟨gm, 0, none⟩), .int .i64 (a : Int), .int .u8 x] w fun e w' => e = .returned (.bool (d.wr a x).2) ∧ NvM w0 w' gm gb N (d.wr a x).1 L := by
  obtain ⟨hd, lf, wv, hlf, hM⟩ := hM
  have hd' := hd.wr (a := a) hx
  revert hd'
  by_cases ho : d.off = true
  · intro hd'
    refine (Write_off hM a x h hN ho).mono ?_
    rintro e w' ⟨rfl, rfl⟩
    refine ⟨by unfold Dv.wr; rw [if_pos ho], hd', lf, wv, ?_, ?_⟩
    · unfold Dv.wr; rw [if_pos ho]; exact hlf
    · unfold Dv.wr; rw [if_pos ho]; exact hM
  · by_cases hz : d.left = 0
    · intro hd'
      obtain rfl : lf = 0 := by rw [hlf (by omega), hz]
      refine (Write_zero hM a x h hN (by simpa using ho) hz).mono ?_
      rintro e w' ⟨rfl, hm⟩
      have e : d.wr a x = (⟨d.B, true, 0⟩, false) := by unfold Dv.wr; rw [if_neg ho, if_pos hz]
      rw [e] at hd' ⊢
      exact ⟨rfl, hd', 0, wv, fun _ => rfl, hm⟩
    · by_cases hp : 0 < d.left
      · intro hd'
        refine (Write_armed hM hd a x h hN (by simpa using ho) hp (hlf (by omega))).mono ?_
        rintro e w' ⟨rfl, hm⟩
        have e : d.wr a x = (⟨d.B.set a x, false, d.left - 1⟩, true) := by unfold Dv.wr; rw [if_neg ho, if_neg hz, if_pos hp]
        rw [e] at hd' ⊢
        exact ⟨rfl, hd', _, _, fun _ => rfl, hm⟩
      · intro hd'
        refine (Write_free hM hd a x h hN (by simpa using ho) (by omega)).mono ?_
        rintro e w' ⟨rfl, hm⟩
        have e : d.wr a x = (⟨d.B.set a x, false, d.left⟩, true) := by unfold Dv.wr; rw [if_neg ho, if_neg hz, if_neg hp]
        rw [e] at hd' ⊢
        exact ⟨rfl, hd', lf, _, fun h => by dsimp only at h; omega, hm⟩
end
end Go.Proofs.Ytfcldacjnegacaa.Up

/- The walks of WriteBytes, slices.Clone, ReadBytes. -/
namespace Go.Proofs.Ytfcldacjnegacaa.Up
open Go.RowKit Go.Proofs.YtfcldacjnegacaaW.PrintWords Go.Proofs.YtfcldacjnegacaaW.PrintLast Go.Proofs.YtfcldacjnegacaaW.PrintMore Go.Proofs.Ytfcldacjnegacaa.Sl
set_option linter.unusedVariables false
set_option linter.unusedSimpArgs false
variable {L : List Chunk} {w0 w : World} {gm gb N : Nat} {d : Dv}
theorem byte_cell {w : World} {A : Option Addr} {n : Nat} {d : List Int} (h : (Kd.int .u8).C w A n d) {j : Nat} (hj : j < n) : ∃ b o, A = some ⟨b, o, none⟩ ∧ w.cell? ⟨b, o + j, none⟩ = some (.int .u8 (d.getD j 0)) := by
  obtain ⟨b, o, cs, rfl, _, hK, hc⟩ := C_at 0 (by decide) h j hj
  have hK : cs = [.int .u8 (d.getD j 0)] := hK
  subst hK
  have e : (Kd.int .u8).sz = 1 := rfl
  rw [e] at hc
  refine ⟨b, o, rfl, ?_⟩
  have := hc 0 _ rfl
  simpa using this
def WbRel (w0 : World) (gm gb N : Nat) (d : Dv) (L : List Chunk) (a : Nat) (xs : List Int) (vi : Value) (wr : World) : Prop :=
  ∃ (i : Nat) (d' : Dv), i ≤ xs.length ∧ vi = .int .i64 (i : Int) ∧ d.wrs a xs = d'.wrs (a + i) (xs.drop i) ∧ NvM w0 wr gm gb N d' L
theorem WriteBytes_call (hM : NvM w0 w gm gb N d L) (a : Nat) {A : Option Addr} {c : Nat} {xs : List Int} (hX : ∀ d' W, NvM w0 W gm gb N d' L → (Kd.int .u8).C W A xs.length xs) (hx : ∀ x ∈ xs, 0 ≤ x ∧ x < 256) (h : a + xs.length ≤ N) (hN : N ≤ 20000) :
    Calls Try.prog 38 #[.pointer (some ⟨gm, 0, none⟩), .int .i64 (a : Int), .slice A xs.length c] w fun e w' => e = .returned (.bool (d.wrs a xs).2) ∧ NvM w0 w' gm gb N (d.wrs a xs).1 L := by
  have HX := Aside0.mk hX
  have HB := Aside0.mk hx
  obtain ⟨n, hn⟩ : ∃ n, n = xs.length := ⟨_, rfl⟩
  have HN := Aside0.mk hn
  rw [← hn] at h ⊢
  have HA := Aside0.mk h
  have HNN := Aside0.mk hN
  have HM := Aside0.mk hM
  have hn2 : n ≤ 20000 := by omega
  have ha2 : a ≤ 20000 := by omega
  have hV : Aside0 (Calls Try.prog 41 #[.pointer (some ⟨gm, 0, none⟩), .int .i64 (a : Int), .int .i64 (n : Int)] w fun e w' => e = .returned (.bool true) ∧ w = w') := by
    obtain ⟨hd, lf, wv, hlf, hm⟩ := hM
    exact ⟨valid_call hm a n h hN⟩
  clear hX hx hn h hN hM
  go_enter Try.func38, Try.ntmps38
  go_wp2_with fail
  refine hV.out.mono ?_
  rintro e w' ⟨rfl, rfl⟩
  go_wp2_with fail
  go_loopw [17] (fun vi wr => WbRel w0 gm gb N d L a xs vi wr) (fun vi _ => n - (intOf vi).toNat)
  case atStart => exact ⟨0, d, Nat.zero_le _, rfl, rfl, HM.out⟩
  case round =>
    obtain ⟨i, d', hi, rfl, hw, hM⟩ := hrel
    clear HM
    have HW := Aside0.mk hw
    have HM := Aside0.mk hM
    rw [← HN.out] at hi
    by_cases hlt : i < n
    · obtain ⟨b, o, rfl, x0⟩ := byte_cell (HX.out _ _ hM) (by rw [← HN.out]; exact hlt)
      have hdr : Aside0 (xs.drop i = xs.getD i 0 :: xs.drop (i + 1)) := ⟨by
        have hl : i < xs.length := by rw [← HN.out]; exact hlt
        rw [List.drop_eq_getElem_cons hl, List.getD_eq_getElem?_getD, List.getElem?_eq_getElem hl]; rfl⟩
      have hby : 0 ≤ xs.getD i 0 ∧ xs.getD i 0 < 256 := HB.out _ (by
        have hl : i < xs.length := by rw [← HN.out]; exact hlt
        rw [List.getD_eq_getElem?_getD, List.getElem?_eq_getElem hl]; exact List.getElem_mem hl)
      have HBY := Aside0.mk hby
      generalize xs.getD i 0 = x at *
      have e1 : wrap64 ((a : Int) + (i : Int)) = ((a + i : Nat) : Int) := by unfold wrap64; omega
      have hC := Aside0.mk (Write_call hM (a + i) x hby (by have := HA.out; omega) HNN.out)
      by_cases hok : (d'.wr (a + i) x).2 = true
      · clear hM hw hi hby
        go_wp2_with fail
        refine hC.out.mono ?_
        rintro e w2 ⟨rfl, hM2⟩
        rw [hok]
        have HM2 := Aside0.mk hM2
        have HOK := Aside0.mk hok
        clear hM2 hok hC
        go_wp2_with fail
        go_roundw
        case rel =>
          refine ⟨i + 1, (d'.wr (a + i) x).1, by rw [← HN.out]; omega, by first | go_num | (congr 1), ?_, HM2.out⟩
          rw [HW.out, hdr.out]
          conv => lhs; unfold Dv.wrs
          rw [if_pos HOK.out]
          rfl
        case measure => simp [intOf]; omega
      · clear hM hw hi hby
        have hok : (d'.wr (a + i) x).2 = false := by simpa using hok
        go_wp2_with fail
        refine hC.out.mono ?_
        rintro e w2 ⟨rfl, hM2⟩
        rw [hok]
        have HM2 := Aside0.mk hM2
        have HOK := Aside0.mk hok
        clear hM2 hok hC
        go_wp2_with fail
        go_ret
        have e2 : d.wrs a xs = ((d'.wr (a + i) x).1, false) := by
          rw [HW.out, hdr.out]
          conv => lhs; unfold Dv.wrs
          rw [if_neg (by rw [HOK.out]; simp)]
        rw [e2]
        exact ⟨rfl, HM2.out⟩
    · have hin : i = n := by omega
      subst hin
      have hc1 : wr.cell? ⟨gm, 1, none⟩ = some (.bool d'.off) := by
        obtain ⟨hd, lf, wv, hlf, hm⟩ := hM
        exact blk_cell hm.get 1
      have e2 : Aside0 (d.wrs a xs = (d', !d'.off)) := ⟨by
        rw [hw, List.drop_eq_nil_of_le (by rw [← HN.out]; exact Nat.le_refl _)]
        rfl⟩
      clear hM hw hi
      go_wp2_with fail
      go_ret
      rw [e2.out]
      exact ⟨rfl, HM.out⟩
/-- A row of bytes read through a slice of it. -/
theorem C_sub {n : Nat} {b : Nat} {xs : List Int} (h : (Kd.int .u8).C w (some ⟨b, 0, none⟩) n xs) {a m : Nat} (hm : a + m ≤ n) (hl : xs.length = n) (hlt : a < n) :
    (Kd.int .u8).C w (some ⟨b, a, none⟩) m ((xs.drop a).take m) := by
  subst hl
  have h1 := Kd.C_drop (m := a) (c := xs.length) h (by omega) (Nat.le_refl _)
  rw [if_neg (by omega)] at h1
  have h2 := Kd.C_take (m := m) h1 (by rw [List.length_drop]; omega)
  rw [List.length_take, List.length_drop, Nat.min_eq_left (by omega)] at h2
  have e : Option.map (fun x => Addr.add x (a * (Kd.int .u8).sz)) (some (⟨b, 0, none⟩ : Addr)) = some ⟨b, a, none⟩ := by
    rw [show (Kd.int .u8).sz = 1 from rfl, Nat.mul_one, Option.map_some]
    simp [Addr.add]
    try omega
  rw [e] at h2
  exact h2
theorem info5 : (Try.prog.info? 5).map (fun i => (i.zero, i.size, i.bytes)) = some (some (.int .u8 0), 1, 1) := by kernel_rfl
/-- slices.Clone of what is read. -/
theorem Clone_call (hM : Mem w0 w L) {b o c : Nat} {xs : List Int} (hC : ∀ W, Mem w0 W L → (Kd.int .u8).C W (some ⟨b, o, none⟩) xs.length xs) (hn : xs.length ≤ 20000) :
    Calls Try.prog 42 #[.slice (some ⟨b, o, none⟩) xs.length c] w fun e w' => ∃ v, e = .returned v ∧ Mem w0 w' (row w0 (Kd.int .u8) 5 v xs :: L) := by
  have HM := Aside0.mk (hM.row_empty (Kd.int .u8) 5)
  have HC := Aside0.mk (hC _ (hM.alloc (.cells #[] 5)))
  obtain ⟨n, hn'⟩ : ∃ n, n = xs.length := ⟨_, rfl⟩
  have HN := Aside0.mk hn'
  have hnn := Aside0.mk hn
  rw [← hn']
  clear hM hC hn hn'
  have hsn : ∀ W, (binOp BinOp.eql 22 (.slice (some ⟨b, o, none⟩) n c) (.slice none 0 0)).run Try.prog W = .ok (.bool false) W := fun W => rfl
  go_enter Try.func42, Try.ntmps42
  go_wp2_with (
      (with_reducible refine gate_builtin (b := .append) (xs := #[.tmp 5, .tmp 6]) rfl ?_); at_builtin
      refine Mem.wp_append_ints .u8 (w0 := w0) rfl (.tmp 5) (.tmp 6) 22 5 1 rfl Try.underlying22 info5 (by omega) _ [] xs (some ⟨b, o, none⟩) n c rfl rfl (HN.out ▸ HC.out) HM.out (by rw [HN.out]; have := hnn.out; simp; omega) ?_
      intro v1 w1 hm
      have HM1 := Aside0.mk hm
      clear hm)
  go_ret
  exact ⟨_, rfl, HM1.out⟩
theorem bytes_made {w0 w : World} {L : List Chunk} (h : Mem w0 w L) (m : Nat) (hm : m ≤ 9223372036854775807) :
    Mem w0 (w.alloc (.cells (madeCells #[.int .u8 0] m) 5)) (row w0 (Kd.int .u8) 5 (.slice (some ⟨w.heap.size, 0, none⟩) m m) (List.replicate m 0) :: L) := by
  refine h.row_made (d := Kd.int .u8) (e := 5) (ok := fun _ => True) (below_alloc (Below.refl _ _) _) ?_
  exact Kd.R_of_own (enc := Value.int .u8) (h1 := fun _ => rfl) (by rw [List.length_replicate]; exact own_made w w.heap.size 5 .u8 m (Nat.le_refl _) hm) (fun _ _ => trivial)
theorem ReadBytes_call (hM : NvM w0 w gm gb N d L) (a n : Nat) (h : a + n ≤ N) (ha : a < N) (hN : N ≤ 20000) :
    Calls Try.prog 19 #[.pointer (some ⟨gm, 0, none⟩), .int .i64 (a : Int), .int .i64 (n : Int)] w fun e w' => ∃ v, e = .returned v ∧ Mem w w' [row w (Kd.int .u8) 5 v (d.rds a n)] := by
  obtain ⟨hd, lf, wv, hlf, hM⟩ := hM
  have hc0 := blk_cell hM.get 0
  have hc1 := blk_cell hM.get 1
  have hV := Aside0.mk (valid_call hM a n h hN)
  have HM := Aside0.mk hM
  have HLF := Aside0.mk hlf
  have HH := Aside0.mk h
  have hlen := hd.len
  unfold Dv.rds
  cases ho : d.off with
  | true =>
    rw [ho] at hc1
    rw [if_pos rfl]
    have hmk := print_make (P := Try.prog) 22 5 .u8 1 Try.underlying22 info5 (by decide) n (by omega)
    have HB := Aside0.mk (bytes_made (Mem.start w) n (by omega))
    have HO := Aside0.mk ho
    clear hM hlf h ho hd
    go_enter Try.func19, Try.ntmps19
    go_wp2_with (go_at_call 41; refine hV.out.mono ?_; rintro e w' ⟨rfl, rfl⟩)
    go_ret
    exact ⟨_, rfl, HB.out⟩
  | false =>
    rw [ho] at hc1
    rw [if_neg (by simp)]
    have e1 : wrap64 ((a : Int) + (n : Int)) = ((a + n : Nat) : Int) := by unfold wrap64; omega
    have HC := Aside0.mk (Clone_call (xs := (d.B.drop a).take n) (c := N - a) (o := a) (b := gb) (Mem.start w) (fun W hW => by
      have h1 := C_sub (m := n) (a := a) (Kd.C_below hM.drop.readsE.2 hW.below) (by omega) hlen (by omega)
      have e2 : ((d.B.drop a).take n).length = n := by rw [List.length_take, List.length_drop]; omega
      rw [e2]; exact h1) (by rw [List.length_take, List.length_drop]; omega))
    rw [show ((d.B.drop a).take n).length = n by rw [List.length_take, List.length_drop]; omega] at HC
    have HO := Aside0.mk ho
    have c1 : (a : Int) ≤ ((a + n : Nat) : Int) := by omega
    have c2 : ((a + n : Nat) : Int) ≤ (N : Int) := by omega
    have c1' : a ≤ a + n := by omega
    have c2' : a + n ≤ N := h
    have c3 : ¬ N = a := by omega
    have c4 : a + n - a = n := by omega
    generalize a + n = s at *
    clear hM hlf h ho hd hlen
    go_enter Try.func19, Try.ntmps19
    go_wp2_with (first
      | (go_at_call 41; refine hV.out.mono ?_; rintro e w' ⟨rfl, rfl⟩)
      | (go_at_call 42; refine HC.out.mono ?_; rintro e w' ⟨v, rfl, hm⟩; have HMM := Aside0.mk hm; clear hm))
    go_ret
    exact ⟨_, rfl, HMM.out⟩
end Go.Proofs.Ytfcldacjnegacaa.Up

/- The updater's reads: number, chunks, bit, stored, current, Version, Missing. -/
namespace Go.Proofs.Ytfcldacjnegacaa.Up
open Go.RowKit Go.Proofs.YtfcldacjnegacaaW.PrintWords Go.Proofs.YtfcldacjnegacaaW.PrintLast Go.Proofs.YtfcldacjnegacaaW.PrintMore Go.Proofs.Ytfcldacjnegacaa.Sl
set_option linter.unusedVariables false
set_option linter.unusedSimpArgs false
variable {L : List Chunk} {w0 w w' : World} {gm gb gu N : Nat} {d : Dv} {slot chunk : Int}
/-- The updater's block beside the memory. -/
@[reducible] def upd (gu gm : Nat) (slot chunk : Int) (L : List Chunk) : List Chunk := blk gu #[.pointer (some ⟨gm, 0, none⟩), .int .i64 slot, .int .i64 chunk] 77 :: L
theorem NvM.step (h : NvM w0 w gm gb N d L) (hb : Below w.heap.size w w') : NvM w0 w' gm gb N d L := by
  obtain ⟨hd, lf, wv, hlf, hm⟩ := h
  exact ⟨hd, lf, wv, hlf, hm.step hb⟩
theorem NvM.u (h : NvM w0 w gm gb N d (upd gu gm slot chunk L)) : w.cell? ⟨gu, 0, none⟩ = some (.pointer (some ⟨gm, 0, none⟩)) ∧ w.cell? ⟨gu, 1, none⟩ = some (.int .i64 slot) ∧ w.cell? ⟨gu, 2, none⟩ = some (.int .i64 chunk) := by
  obtain ⟨hd, lf, wv, hlf, hm⟩ := h
  have := hm.p2.get
  exact ⟨blk_cell this 0, blk_cell this 1, blk_cell this 2⟩
theorem NvM.ult (h : NvM w0 w gm gb N d (upd gu gm slot chunk L)) : gu < w.heap.size := by
  obtain ⟨hd, lf, wv, hlf, hm⟩ := h
  exact hm.p2.lt
/-- Little endian. -/
def le : List Int → Int
  | [] => 0
  | x :: l => x + 256 * le l
theorem le_append (x : Int) : ∀ l : List Int, le (l ++ [x]) = le l + 256 ^ l.length * x
  | [] => by simp [le]
  | y :: l => by
    rw [List.cons_append]
    unfold le
    rw [le_append x l, List.length_cons, Int.pow_succ]
    grind
theorem le_lt : ∀ {l : List Int}, (∀ x ∈ l, 0 ≤ x ∧ x < 256) → 0 ≤ le l ∧ le l < 256 ^ l.length
  | [], _ => by simp [le]
  | y :: l, h => by
    have h1 := h y (by simp)
    have h2 := le_lt (l := l) (fun x hx => h x (by simp [hx]))
    unfold le
    rw [List.length_cons, Int.pow_succ]
    omega
def Dv.num (d : Dv) (i n : Nat) : Int := le (d.rds (3840 + i) n)
theorem rds_byte (hd : d.Ok N) (a n : Nat) : ∀ x ∈ d.rds a n, 0 ≤ x ∧ x < 256 := by
  intro x hx
  unfold Dv.rds at hx
  split at hx
  · rw [List.mem_replicate] at hx
    omega
  · exact hd.byte x (List.mem_of_mem_drop (List.mem_of_mem_take hx))
theorem rds_len (hd : d.Ok N) {a n : Nat} (h : a + n ≤ N) : (d.rds a n).length = n := by
  unfold Dv.rds
  split
  · simp
  · rw [List.length_take, List.length_drop, hd.len]; omega
theorem bits_or_comm (k : IntKind) (x y : Int) : bits .or k x y = bits .or k y x := by
  simp only [bits]
  rw [BitVec.or_comm]
theorem or_le (y x : Int) (k s : Nat) (hk : k ≤ 3) (hs : s = 8 * k) (hy : 0 ≤ y ∧ y < 256 ^ k) (hx : 0 ≤ x ∧ x < 256) :
    wrap64 (x * 2 ^ s) = x * 2 ^ s ∧ bits .or .i64 y (x * 2 ^ s) = y + 256 ^ k * x := by
  subst hs
  have hj : ∀ n : Int, 0 ≤ n → n < 2 ^ 62 → IntKind.i64.wrap n = n := by
    intro n h0 h1
    rw [IntKind.wrap_i64]
    have : (2 : Int) ^ 62 = 4611686018427387904 := by decide
    omega
  have hk4 : k = 0 ∨ k = 1 ∨ k = 2 ∨ k = 3 := by omega
  have e0 : (2 : Int) ^ (8 * 0) = 1 := by decide
  have e1 : (2 : Int) ^ (8 * 1) = 256 := by decide
  have e2 : (2 : Int) ^ (8 * 2) = 65536 := by decide
  have e3 : (2 : Int) ^ (8 * 3) = 16777216 := by decide
  have f0 : (256 : Int) ^ 0 = 1 := by decide
  have f1 : (256 : Int) ^ 1 = 256 := by decide
  have f2 : (256 : Int) ^ 2 = 65536 := by decide
  have f3 : (256 : Int) ^ 3 = 16777216 := by decide
  have g : (2 : Int) ^ 62 = 4611686018427387904 := by decide
  rcases hk4 with rfl | rfl | rfl | rfl
  · rw [e0, f0] at *
    refine ⟨by unfold wrap64; omega, ?_⟩
    rw [bits_or_comm, bits_join .i64 62 (by decide) hj 0 (x * 1) y (by omega) (by omega) (by omega) (by omega) (by omega) (by omega)]
    omega
  · rw [e1, f1] at *
    refine ⟨by unfold wrap64; omega, ?_⟩
    have h : (2 : Int) ^ 8 = 256 := by decide
    rw [bits_or_comm, bits_join .i64 62 (by decide) hj 8 (x * 256) y (by omega) (by omega) (by omega) (by omega) (by omega) (by omega)]
    omega
  · rw [e2, f2] at *
    refine ⟨by unfold wrap64; omega, ?_⟩
    have h : (2 : Int) ^ 16 = 65536 := by decide
    rw [bits_or_comm, bits_join .i64 62 (by decide) hj 16 (x * 65536) y (by omega) (by omega) (by omega) (by omega) (by omega) (by omega)]
    omega
  · rw [e3, f3] at *
    refine ⟨by unfold wrap64; omega, ?_⟩
    have h : (2 : Int) ^ 24 = 16777216 := by decide
    rw [bits_or_comm, bits_join .i64 62 (by decide) hj 24 (x * 16777216) y (by omega) (by omega) (by omega) (by omega) (by omega) (by omega)]
    omega
def NumRel (w : World) (v : Value) (xs : List Int) (v7 v19 : Value) (wr : World) : Prop :=
  ∃ i : Nat, i ≤ xs.length ∧ v7 = .int .i64 (le (xs.take i)) ∧ v19 = .int .i64 (i : Int) ∧ Mem w wr [row w (Kd.int .u8) 5 v xs]
theorem number_call (hM : NvM w0 w gm gb N d (upd gu gm slot chunk L)) (i n : Nat) (hi : 3840 + i + n ≤ N) (hn : n ≤ 4) (hn0 : 0 < n) (hN : N ≤ 20000) :
    Calls Try.prog 40 #[.pointer (some ⟨gu, 0, none⟩), .int .i64 (i : Int), .int .i64 (n : Int)] w fun e w' => e = .returned (.int .i64 (d.num i n)) ∧ Below w.heap.size w w' := by
  obtain ⟨x0, x1, x2⟩ := hM.u
  have hgu := hM.ult
  have e1 : wrap64 (3840 + (i : Int)) = ((3840 + i : Nat) : Int) := by unfold wrap64; omega
  have HR := Aside0.mk (ReadBytes_call hM (3840 + i) n hi (by omega) hN)
  unfold Dv.num
  have HL := Aside0.mk (rds_len hM.1 hi)
  have HB := Aside0.mk (rds_byte hM.1 (3840 + i) n)
  generalize d.rds (3840 + i) n = xs at *
  have hnn := Aside0.mk hn
  clear hM hi hN hn hn0
  go_enter Try.func40, Try.ntmps40
  go_wp2_with fail
  refine HR.out.mono ?_
  rintro e w1 ⟨v, rfl, hm⟩
  have HM := Aside0.mk hm
  obtain ⟨A, c, rfl, _, hC⟩ := hm.readsN HL.out
  clear hm
  go_wp2_with fail
  go_loopw [7, 19] (fun v7 v19 wr => NumRel w (.slice A n c) xs v7 v19 wr) (fun _ i _ => n - (intOf i).toNat)
  case atStart => exact ⟨0, Nat.zero_le _, rfl, rfl, HM.out⟩
  case round =>
    obtain ⟨k, hk, rfl, rfl, hM⟩ := hrel
    clear HM hC
    rw [HL.out] at hk
    by_cases hlt : k < n
    · have hkl : k < xs.length := by rw [HL.out]; exact hlt
      obtain ⟨b, o, rfl, y0⟩ := byte_cell hM.readsE.2 hlt
      have hx : xs[k] = xs.getD k 0 := by rw [List.getD_eq_getElem?_getD, List.getElem?_eq_getElem hkl]; rfl
      have hby := HB.out _ (List.getElem_mem hkl)
      have HE := Aside0.mk (le_append xs[k] (xs.take k))
      rw [List.length_take, Nat.min_eq_left (by omega)] at HE
      have hb2 := le_lt (l := xs.take k) (fun x hx => HB.out x (List.mem_of_mem_take hx))
      rw [List.length_take, Nat.min_eq_left (by omega)] at hb2
      have HT : Aside0 (xs.take (k + 1) = xs.take k ++ [xs[k]]) := ⟨List.take_succ_eq_append_getElem hkl⟩
      rw [← hx] at y0
      generalize xs[k] = x at *
      generalize le (xs.take k) = y at *
      have hk3 : k ≤ 3 := by have := hnn.out; omega
      obtain ⟨s, hs⟩ : ∃ s, s = 8 * k := ⟨_, rfl⟩
      have e2 : wrap64 (8 * (k : Int)) = (s : Int) := by unfold wrap64; omega
      have hs1 : (s : Int) ≤ 64 := by have := hnn.out; omega
      have hs2 : s ≤ 64 := by omega
      have e3 : wrap64 x = x := by unfold wrap64; omega
      obtain ⟨e4, e5⟩ := or_le y x k s (by have := hnn.out; omega) hs hb2 hby
      have HMi := Aside0.mk hM
      have HHS := Aside0.mk hs
      have HHB := Aside0.mk hb2
      have HHE := Aside0.mk e5
      clear hM hx hs hb2 e5 hby
      go_wp2_with fail
      go_roundw
      case rel =>
        refine ⟨k + 1, by rw [HL.out]; omega, ?_, by first | go_num | (congr 1), HMi.out⟩
        rw [HT.out, HE.out, ← HHE.out, ← HHS.out, e4]
      case measure => simp [intOf]; omega
    · have hkn : k = n := by omega
      subst hkn
      have e6 : Aside0 (xs.take k = xs) := ⟨List.take_of_length_le (by rw [HL.out]; exact Nat.le_refl _)⟩
      have HMi := Aside0.mk hM
      clear hM
      go_wp2_with fail
      go_ret
      exact ⟨by rw [e6.out]; rfl, HMi.out.below⟩
theorem num_nn (hd : d.Ok N) (i n : Nat) : 0 ≤ d.num i n := (le_lt (rds_byte hd _ _)).1
theorem num_lt (hd : d.Ok N) {i n : Nat} (h : 3840 + i + n ≤ N) : d.num i n < 256 ^ n := by
  have := (le_lt (rds_byte hd (3840 + i) n)).2
  rwa [rds_len hd h] at this
theorem number0 (hM : NvM w0 w gm gb N d (upd gu gm slot chunk L)) (hN : N = 10240) :
    Calls Try.prog 40 #[.pointer (some ⟨gu, 0, none⟩), .int .i64 0, .int .i64 1] w fun e w' => e = .returned (.int .i64 (d.num 0 1)) ∧ Below w.heap.size w w' := number_call hM 0 1 (by omega) (by omega) (by omega) (by omega)
theorem number1 (hM : NvM w0 w gm gb N d (upd gu gm slot chunk L)) (hN : N = 10240) :
    Calls Try.prog 40 #[.pointer (some ⟨gu, 0, none⟩), .int .i64 1, .int .i64 4] w fun e w' => e = .returned (.int .i64 (d.num 1 4)) ∧ Below w.heap.size w w' := number_call hM 1 4 (by omega) (by omega) (by omega) (by omega)
theorem number5 (hM : NvM w0 w gm gb N d (upd gu gm slot chunk L)) (hN : N = 10240) :
    Calls Try.prog 40 #[.pointer (some ⟨gu, 0, none⟩), .int .i64 5, .int .i64 2] w fun e w' => e = .returned (.int .i64 (d.num 5 2)) ∧ Below w.heap.size w w' := number_call hM 5 2 (by omega) (by omega) (by omega) (by omega)
theorem number7 (hM : NvM w0 w gm gb N d (upd gu gm slot chunk L)) (hN : N = 10240) :
    Calls Try.prog 40 #[.pointer (some ⟨gu, 0, none⟩), .int .i64 7, .int .i64 2] w fun e w' => e = .returned (.int .i64 (d.num 7 2)) ∧ Below w.heap.size w w' := number_call hM 7 2 (by omega) (by omega) (by omega) (by omega)
theorem number9 (hM : NvM w0 w gm gb N d (upd gu gm slot chunk L)) (hN : N = 10240) :
    Calls Try.prog 40 #[.pointer (some ⟨gu, 0, none⟩), .int .i64 9, .int .i64 1] w fun e w' => e = .returned (.int .i64 (d.num 9 1)) ∧ Below w.heap.size w w' := number_call hM 9 1 (by omega) (by omega) (by omega) (by omega)
/-- Whether there is a transfer. -/
def Dv.act (d : Dv) (chunk : Int) : Bool := (decide (d.num 0 1 = 1) && decide (1 ≤ d.num 5 2)) && decide (d.num 5 2 ≤ 6144) && decide (d.num 9 1 = chunk)
theorem info71 : (Try.prog.info? 71).map (·.size) = some 3 := by kernel_rfl
end Go.Proofs.Ytfcldacjnegacaa.Up
