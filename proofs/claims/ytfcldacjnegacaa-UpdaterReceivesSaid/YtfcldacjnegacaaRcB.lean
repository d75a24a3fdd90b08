/- UpdaterReceives: the law answers true. Printed by mkRc.py. -/
import Derived.Test.YtfcldacjnegacaaRcA
namespace Go.Proofs.Ytfcldacjnegacaa.Up
open Go.RowKit Go.Proofs.YtfcldacjnegacaaW.PrintWords Go.Proofs.YtfcldacjnegacaaW.PrintLast Go.Proofs.YtfcldacjnegacaaW.PrintMore Go.Proofs.Ytfcldacjnegacaa.Sl
set_option linter.unusedVariables false
set_option linter.unusedSimpArgs false
attribute [local go_sem] max_two min_two
theorem NvM.put {L : List Chunk} {w0 w : World} {gm gb gu N g t : Nat} {d : Dv} {s c : Int} {cs cs' : Array Value} (h : NvM w0 w gm gb N d (upd gu gm s c (blk g cs t :: L))) (i : Nat) (u : Value) (e : cs.setIfInBounds i u = cs') : NvM w0 (w.setCell ⟨g, i, none⟩ u) gm gb N d (upd gu gm s c (blk g cs' t :: L)) := by
  obtain ⟨hd, lf, wv, hlf, hm⟩ := h
  exact ⟨hd, lf, wv, hlf, (hm.p3.put i u e).q3⟩
def RcRel1 (w : World) (b : List Int) (gm gb gd N g7 g3 nf n c0 : Nat) (A : Option Addr) (v61 : Value) (wr : World) : Prop :=
  ∃ (j gu : Nat) (B : List Int), j ≤ nf ∧ v61 = .int .i64 (j : Int) ∧ RInv B b ∧ NvM w wr gm gb N (on B) (upd gu gm 4096 8 [ob g7 (o30n gm gu gd 8), ob g3 (o22 A n c0)])
def RcRel2 (w : World) (b : List Int) (gm gb gu gd N g7 g3 nl n c0 : Nat) (A : Option Addr) (v81 : Value) (wr : World) : Prop :=
  ∃ (i : Nat) (d : Dv), i ≤ nl ∧ v81 = .int .i64 (i : Int) ∧ Rcv d.B b ∧ NvM w wr gm gb N d (upd gu gm 4096 8 [ob g7 (o30n gm gu gd 8), ob g3 (o22 A n c0)])
def RcRel3 (w : World) (b : List Int) (gm gb gu gd N g7 g3 q n c0 : Nat) (A : Option Addr) (v122 : Value) (wr : World) : Prop :=
  ∃ (j : Nat) (B : List Int), j ≤ q ∧ v122 = .int .i64 (j : Int) ∧ Rcv B b ∧ (∀ i < j, stB B i = true) ∧ NvM w wr gm gb N (on B) (upd gu gm 4096 8 [ob g7 (o30n gm gu gd 8), ob g3 (o22 A n c0)])
theorem rc_wrap {j : Nat} (h : j ≤ 1000) : wrap64 ((j : Int) + 1) = ((j + 1 : Nat) : Int) := by unfold wrap64; omega
theorem rc_wrap0 {j : Nat} (h : j ≤ 100000) : wrap64 (j : Int) = (j : Int) ∧ IntKind.i64.wrap (j : Int) = (j : Int) := by
  rw [IntKind.wrap_i64]
  unfold wrap64
  omega
theorem rc_idx {x q at_ : Nat} (h : at_ = x % q) (h2 : at_ < q) (hq : q ≤ 40) (hx : x < 256) : (x : Int) % (q : Int) = (at_ : Int) ∧ (x : Int).tmod (q : Int) = (at_ : Int) ∧ wrap64 (at_ : Int) = (at_ : Int) ∧ wrap64 (x : Int) = (x : Int) ∧ IntKind.i64.wrap (x : Int) = (x : Int) ∧ IntKind.i64.wrap (at_ : Int) = (at_ : Int) := by
  have h1 : (x : Int) % (q : Int) = (at_ : Int) := by rw [h]; rfl
  rw [IntKind.wrap_i64, IntKind.wrap_i64]
  refine ⟨h1, by rw [Int.tmod_eq_emod_of_nonneg (by omega)]; exact h1, ?_⟩
  clear h h1
  unfold wrap64
  omega
/-- order[lo:]. -/
theorem rc_slice {A : Option Addr} {no c lo : Nat} {w : World} {o : List Int} (hC : (Kd.int .u8).C w A no o) (hc : no ≤ c) (hlo : lo ≤ no) :
    ∃ A' c', (Kd.int .u8).C w A' (no - lo) (o.drop lo) ∧ no - lo ≤ c' ∧ ∀ W, (Instr.slice 22 (.slice A no c) (some (.int .i64 (lo : Int))) none none).run Try.prog W = .ok (.slice A' (no - lo) c') W := by
  have hlen : o.length = no := hC.1
  subst hlen
  have h1 := Kd.C_drop (m := lo) (c := c) hC hlo hc
  rw [List.length_drop] at h1
  refine ⟨_, c - lo, h1, by omega, fun W => ?_⟩
  rw [run_slice_l (P := Try.prog) W 22 A o.length c (by kernel_rfl) .i64 (lo : Int) (by omega) (by omega)]
  rw [show (Go.sizeOf (Try.prog.elem 22)).run Try.prog W = .ok 1 W by kernel_rfl]
  show Result.ok (sliced A (lo : Int).toNat o.length c 1) W = _
  rw [Int.toNat_natCast]
  unfold sliced
  rfl
end Go.Proofs.Ytfcldacjnegacaa.Up
