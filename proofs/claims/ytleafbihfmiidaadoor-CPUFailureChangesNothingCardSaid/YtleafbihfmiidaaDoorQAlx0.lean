-- Printed by a program of this session (myprint.py) over the kit's print: functions, contracts; not trusted, Lean checks it.
import Derived.Test.YtleafbihfmiidaaDoorProg
import Derived.Below
import Derived.Deep.Draws
import Derived.Deep.AppendLies
import Derived.Maps.AppendAt
import Derived.OwnWalk
import Derived.Laws.BytesArg
import Derived.Laws.MakeOwn
import Derived.Laws.OwnMore
import Derived.Deep.OwnRows
import Derived.Tactics
import Derived.Lib.ConvBytes
import Derived.Laws.Slices
import Derived.WalkKit
import Derived.KernelRfl
import Derived.RowKit3
import Derived.Deep.LoopGhost
import Derived.Deep.QuietTactic
import Derived.BigQuiet
import Derived.WideLaws
import Derived.Deep.DeepCutAuto
import Derived.Deep.CutBlock
import Derived.Deep.RegionHeld3
import Derived.Laws.Rows
import Derived.Lib.AppendStr
import Derived.ArgAppend
import Derived.Laws.IdiomCopy
import Derived.OrdersHeld
import Derived.Laws.BitsLemmas
import Derived.RowKit
import Derived.Lib.SliceRun
import Derived.Test.YtleafbihfmiidaaDoorWWords
import Derived.Test.YtleafbihfmiidaaDoorWLast
import Derived.Test.YtleafbihfmiidaaDoorWTab
import Derived.Test.YtleafbihfmiidaaDoorWFour
import Derived.Test.YtleafbihfmiidaaDoorWQPut
import Derived.Test.YtleafbihfmiidaaDoorWApart
import Derived.Test.YtleafbihfmiidaaDoorWArr
import Derived.Test.YtleafbihfmiidaaDoorWZeros
import Derived.Test.YtleafbihfmiidaaDoorWFoot
import Derived.Test.YtleafbihfmiidaaDoorWKept
import Derived.Test.YtleafbihfmiidaaDoorWShare
import Derived.Test.YtleafbihfmiidaaDoorWN
import Derived.Test.YtleafbihfmiidaaDoorWFootNe
import Derived.Test.YtleafbihfmiidaaDoorWAt
import Derived.Test.YtleafbihfmiidaaDoorWEqStruct
import Derived.Test.YtleafbihfmiidaaDoorWRepsOne
import Derived.Test.YtleafbihfmiidaaDoorWInv
import Derived.Test.YtleafbihfmiidaaDoorWInvWords
import Derived.Test.YtleafbihfmiidaaDoorWGuard
import Derived.Test.YtleafbihfmiidaaDoorWNEv
import Derived.Test.YtleafbihfmiidaaDoorWMore
namespace Go.Proofs.YtleafbihfmiidaaDoor.QAl
open Go.RowKit Go.Proofs.YtleafbihfmiidaaDoorW.PrintWords Go.Proofs.YtleafbihfmiidaaDoorW.PrintLast Go.Proofs.YtleafbihfmiidaaDoorW.PrintMore
attribute [local go_sem] max2_int min2_int max_two min_two max_three min_three max_four min_four   -- for this text's walks alone
set_option linter.unusedVariables false
set_option linter.unusedSimpArgs false



def errW : Option Int → Value
  | none => .nilIface
  | some c => .iface 0 (.int .i64 c)
theorem errW_none : errW none = .nilIface := rfl
theorem errW_some (c : Int) : errW (some c) = .iface 0 (.int .i64 c) := rfl

theorem info3 : (Tryd.prog.info? 3).map (fun i => (i.zero, i.size, i.bytes)) = some (some (.int .i64 0), 1, 8) := by kernel_rfl
theorem info9 : (Tryd.prog.info? 9).map (fun i => (i.zero, i.size, i.bytes)) = some (some (.string ⟨#[]⟩), 1, 16) := by kernel_rfl
theorem info22 : (Tryd.prog.info? 22).map (fun i => (i.zero, i.size, i.bytes)) = some (some (.int .i16 0), 1, 2) := by kernel_rfl
theorem info100 : (Tryd.prog.info? 100).map (fun i => (i.zero, i.size, i.bytes)) = some (some (.agg #[(.int .i64 0), (.int .i64 0), (.int .i64 0)]), 3, 24) := by kernel_rfl
theorem info103 : (Tryd.prog.info? 103).map (fun i => (i.zero, i.size, i.bytes)) = some (some (.agg #[(.string ⟨#[]⟩), (.slice none 0 0)]), 2, 40) := by kernel_rfl
theorem info106 : (Tryd.prog.info? 106).map (fun i => (i.zero, i.size, i.bytes)) = some (some (.int .i64 0), 1, 8) := by kernel_rfl
-- the values' own types
def rd_L2 (xs : List (List Int)) (i : Int) : (List Int) := xs.getD i.toNat ([] : List Int)
theorem at_L2 {w : World} {A : Option Addr} {n : Nat} {xs : List (List Int)} (h : Kd.C (Kd.slice 106 (Kd.int .i64)) w A n xs) (i : Int) (h0 : 0 ≤ i) (h1 : i < n) : ∃ ad A0 c0, A = some ad ∧ w.cell? (ad.add i.toNat) = some (.slice A0 (rd_L2 xs i).length c0) ∧ (rd_L2 xs i).length ≤ c0 ∧ (Kd.int .i64).C w A0 (rd_L2 xs i).length (rd_L2 xs i) := by
  obtain ⟨ad, c, e, _, hK, hc0⟩ := Kd.C_get h ([] : List Int) i h0 h1
  have hc : ∀ j u, c[j]? = some u → w.cell? (ad.add (i.toNat * 1 + j)) = some u := hc0
  obtain ⟨A0, c0, rfl, l0, g0⟩ := hK
  exact ⟨ad, A0, c0, e, by have hq := hc 0 _ rfl; rwa [Nat.mul_one, Nat.add_zero] at hq, l0, g0⟩

/-! #### struct type 103 -/
structure S103 where
  f0 : ByteArray
  f1 : (List Int)
def z103 : S103 := ⟨(⟨#[]⟩ : ByteArray), ([] : List Int)⟩
def k103 : Kd S103 := Kd.iso (Kd.pair Kd.string (Kd.slice 106 (Kd.int .i64))) (fun x : S103 => (x.f0, x.f1))
theorem k103_open {w : World} {x : S103} {cs : List Value} (h : k103.K w x cs) : ∃ A1 c1, cs = [.string x.f0, .slice A1 x.f1.length c1] ∧ x.f1.length ≤ c1 ∧ (Kd.int .i64).C w A1 x.f1.length x.f1 := by
  obtain ⟨_, _, rfl, rfl, ⟨A1, c1, rfl, l1, g1⟩⟩ := h
  exact ⟨A1, c1, rfl, l1, g1⟩
theorem k103_openM {w : World} {base : Nat} {ok : Nat → Prop} {x : S103} {cs : List Value} (h : k103.M w base ok x cs) : ∃ v1, cs = [.string x.f0, v1] ∧ (Kd.int .i64).R 106 w base ok v1 x.f1 := by
  obtain ⟨_, _, rfl, rfl, ⟨v1, rfl, g1⟩⟩ := h
  exact ⟨v1, rfl, g1⟩
theorem k103_mk (w : World) (x : S103) {A1 : Option Addr} {c1 : Nat} (l1 : x.f1.length ≤ c1) (g1 : (Kd.int .i64).C w A1 x.f1.length x.f1) : k103.K w x [.string x.f0, .slice A1 x.f1.length c1] := ⟨[.string x.f0], [.slice A1 x.f1.length c1], rfl, rfl, ⟨A1, c1, rfl, l1, g1⟩⟩
theorem k103_mkM (w : World) (base : Nat) (ok : Nat → Prop) (x : S103) {v1 : Value} (g1 : (Kd.int .i64).R 106 w base ok v1 x.f1) : k103.M w base ok x [.string x.f0, v1] := ⟨[.string x.f0], [v1], rfl, rfl, ⟨v1, rfl, g1⟩⟩
theorem k103_openF {W : World} {ok : Nat → Prop} {x : S103} {cs : List Value} (h : Kd.FK k103 W ok x cs) : ∃ A1 c1, cs = [.string x.f0, .slice A1 x.f1.length c1] ∧ x.f1.length ≤ c1 ∧ Kd.F (Kd.int .i64) W ok A1 x.f1.length x.f1 := by
  obtain ⟨A1, c1, rfl, l1, _⟩ := k103_open (Kd.FK_now h)
  exact ⟨A1, c1, rfl, l1, (fun W' hW => by obtain ⟨A1_, c1_, he, l1_, g1_⟩ := k103_open (h W' hW); injection (Option.some.inj (show some (Value.slice A1 x.f1.length c1) = some (Value.slice A1_ x.f1.length c1_) from congrArg (fun l => l[1]?) he)) with ha_ _ _; rw [ha_]; exact g1_)⟩
theorem k103_mkF (W : World) (ok : Nat → Prop) (x : S103) {A1 : Option Addr} {c1 : Nat} (l1 : x.f1.length ≤ c1) (g1 : Kd.F (Kd.int .i64) W ok A1 x.f1.length x.f1) : Kd.FK k103 W ok x [.string x.f0, .slice A1 x.f1.length c1] := fun W2 hW => k103_mk W2 x l1 (g1 W2 hW)
def rd_T103 (xs : List S103) (i : Int) : S103 := xs.getD i.toNat z103
theorem at_T103 {w : World} {A : Option Addr} {n : Nat} {xs : List S103} (h : Kd.C k103 w A n xs) (i : Int) (h0 : 0 ≤ i) (h1 : i < n) : ∃ ad A1 c1, A = some ad ∧ w.cell? (ad.add (i.toNat * 2)) = some (.string (rd_T103 xs i).f0) ∧ w.cell? ⟨(ad.add (i.toNat * 2)).block, (ad.add (i.toNat * 2)).off + 1, none⟩ = some (.slice A1 (rd_T103 xs i).f1.length c1) ∧ (rd_T103 xs i).f1.length ≤ c1 ∧ (Kd.int .i64).C w A1 (rd_T103 xs i).f1.length (rd_T103 xs i).f1 := by
  obtain ⟨ad, c, e, _, hK, hc0⟩ := Kd.C_get h z103 i h0 h1
  have hc : ∀ j u, c[j]? = some u → w.cell? (ad.add (i.toNat * 2 + j)) = some u := hc0
  obtain ⟨A1, c1, rfl, l1, g1⟩ := k103_open hK
  exact ⟨ad, A1, c1, e, hc 0 _ rfl, by rw [← add_field _ _ 1 (by omega)]; exact hc 1 _ rfl, l1, g1⟩

/-! #### struct type 96 -/
structure S96 where
  f0 : ByteArray
  f1 : Int
  f2 : Int
  f3 : Int
def z96 : S96 := ⟨(⟨#[]⟩ : ByteArray), (0 : Int), (0 : Int), (0 : Int)⟩
def k96 : Kd S96 := Kd.iso (Kd.pair Kd.string (Kd.pair (Kd.int .i64) (Kd.pair (Kd.int .i16) (Kd.int .i64)))) (fun x : S96 => (x.f0, x.f1, x.f2, x.f3))
theorem k96_open {w : World} {x : S96} {cs : List Value} (h : k96.K w x cs) : cs = [.string x.f0, .int .i64 x.f1, .int .i16 x.f2, .int .i64 x.f3] := by
  obtain ⟨_, _, rfl, rfl, ⟨_, _, rfl, rfl, ⟨_, _, rfl, rfl, rfl⟩⟩⟩ := h
  exact rfl
theorem k96_openM {w : World} {base : Nat} {ok : Nat → Prop} {x : S96} {cs : List Value} (h : k96.M w base ok x cs) : cs = [.string x.f0, .int .i64 x.f1, .int .i16 x.f2, .int .i64 x.f3] := by
  obtain ⟨_, _, rfl, rfl, ⟨_, _, rfl, rfl, ⟨_, _, rfl, rfl, rfl⟩⟩⟩ := h
  exact rfl
theorem k96_mk (w : World) (x : S96)  : k96.K w x [.string x.f0, .int .i64 x.f1, .int .i16 x.f2, .int .i64 x.f3] := ⟨[.string x.f0], [.int .i64 x.f1, .int .i16 x.f2, .int .i64 x.f3], rfl, rfl, ⟨[.int .i64 x.f1], [.int .i16 x.f2, .int .i64 x.f3], rfl, rfl, ⟨[.int .i16 x.f2], [.int .i64 x.f3], rfl, rfl, rfl⟩⟩⟩
theorem k96_mkM (w : World) (base : Nat) (ok : Nat → Prop) (x : S96)  : k96.M w base ok x [.string x.f0, .int .i64 x.f1, .int .i16 x.f2, .int .i64 x.f3] := ⟨[.string x.f0], [.int .i64 x.f1, .int .i16 x.f2, .int .i64 x.f3], rfl, rfl, ⟨[.int .i64 x.f1], [.int .i16 x.f2, .int .i64 x.f3], rfl, rfl, ⟨[.int .i16 x.f2], [.int .i64 x.f3], rfl, rfl, rfl⟩⟩⟩
theorem k96_mkF (W : World) (ok : Nat → Prop) (x : S96) : Kd.FK k96 W ok x [.string x.f0, .int .i64 x.f1, .int .i16 x.f2, .int .i64 x.f3] := fun W2 _ => k96_mk W2 x
def rd_T96 (xs : List S96) (i : Int) : S96 := xs.getD i.toNat z96
theorem at_T96 {w : World} {A : Option Addr} {n : Nat} {xs : List S96} (h : Kd.C k96 w A n xs) (i : Int) (h0 : 0 ≤ i) (h1 : i < n) : ∃ ad , A = some ad ∧ w.cell? (ad.add (i.toNat * 4)) = some (.string (rd_T96 xs i).f0) ∧ w.cell? ⟨(ad.add (i.toNat * 4)).block, (ad.add (i.toNat * 4)).off + 1, none⟩ = some (.int .i64 (rd_T96 xs i).f1) ∧ w.cell? ⟨(ad.add (i.toNat * 4)).block, (ad.add (i.toNat * 4)).off + 2, none⟩ = some (.int .i16 (rd_T96 xs i).f2) ∧ w.cell? ⟨(ad.add (i.toNat * 4)).block, (ad.add (i.toNat * 4)).off + 3, none⟩ = some (.int .i64 (rd_T96 xs i).f3) := by
  obtain ⟨ad, c, e, _, hK, hc0⟩ := Kd.C_get h z96 i h0 h1
  have hc : ∀ j u, c[j]? = some u → w.cell? (ad.add (i.toNat * 4 + j)) = some u := hc0
  obtain rfl := k96_open hK
  exact ⟨ad, e, hc 0 _ rfl, by rw [← add_field _ _ 1 (by omega)]; exact hc 1 _ rfl, by rw [← add_field _ _ 2 (by omega)]; exact hc 2 _ rfl, by rw [← add_field _ _ 3 (by omega)]; exact hc 3 _ rfl⟩

/-! #### struct type 153, nested in itself -/
structure S153 where
  f0 : Int
  f1 : ByteArray
  f2 : Int
  f3 : Int
  f4 : (List S153)
  f5 : Int
def z153 : S153 := ⟨(0 : Int), (⟨#[]⟩ : ByteArray), (0 : Int), (0 : Int), ([] : List S153), (0 : Int)⟩
def F153 (d : Kd S153) : Kd S153 := Kd.iso (Kd.pair (Kd.int .i64) (Kd.pair Kd.string (Kd.pair (Kd.int .i16) (Kd.pair (Kd.int .i64) (Kd.pair (Kd.slice 153 d) (Kd.int .i64)))))) (fun x : S153 => (x.f0, x.f1, x.f2, x.f3, x.f4, x.f5))
theorem mono153 : Kd.Mono F153 := Kd.mono_iso _ (Kd.mono_pair (Kd.mono_const _) (Kd.mono_pair (Kd.mono_const _) (Kd.mono_pair (Kd.mono_const _) (Kd.mono_pair (Kd.mono_const _) (Kd.mono_pair (Kd.mono_slice 153 Kd.mono_id) (Kd.mono_const _))))))
theorem sub153 : Kd.Sub F153 [153] := Kd.sub_iso _ (Kd.sub_pair (Kd.sub_const _ (by decide)) (Kd.sub_pair (Kd.sub_const _ (by decide)) (Kd.sub_pair (Kd.sub_const _ (by decide)) (Kd.sub_pair (Kd.sub_const _ (by decide)) (Kd.sub_pair (Kd.sub_slice 153 (by decide) Kd.sub_id) (Kd.sub_const _ (by decide)))))))
theorem sz153 : ∀ n, (Kd.upto F153 6 [153] n).sz = 6 := Kd.upto_sz (fun _ => rfl)
def k153 : Kd S153 := Kd.fix F153 6 [153] sz153 (Kd.upto_E sub153)
theorem k153_open {w : World} {x : S153} {cs : List Value} (h : k153.K w x cs) : ∃ A4 c4, cs = [.int .i64 x.f0, .string x.f1, .int .i16 x.f2, .int .i64 x.f3, .slice A4 x.f4.length c4, .int .i64 x.f5] ∧ x.f4.length ≤ c4 ∧ k153.C w A4 x.f4.length x.f4 := by
  obtain ⟨n, h⟩ := h
  cases n with
  | zero => exact h.elim
  | succ n =>
    obtain ⟨_, _, rfl, rfl, ⟨_, _, rfl, rfl, ⟨_, _, rfl, rfl, ⟨_, _, rfl, rfl, ⟨_, _, rfl, ⟨A4, c4, rfl, l4, g4⟩, rfl⟩⟩⟩⟩⟩ := h
    exact ⟨A4, c4, rfl, l4, Kd.fix_C g4⟩
theorem k153_openM {w : World} {base : Nat} {ok : Nat → Prop} {x : S153} {cs : List Value} (h : k153.M w base ok x cs) : ∃ v4, cs = [.int .i64 x.f0, .string x.f1, .int .i16 x.f2, .int .i64 x.f3, v4, .int .i64 x.f5] ∧ k153.R 153 w base ok v4 x.f4 := by
  obtain ⟨n, h⟩ := h
  cases n with
  | zero => exact h.elim
  | succ n =>
    obtain ⟨_, _, rfl, rfl, ⟨_, _, rfl, rfl, ⟨_, _, rfl, rfl, ⟨_, _, rfl, rfl, ⟨_, _, rfl, ⟨v4, rfl, g4⟩, rfl⟩⟩⟩⟩⟩ := h
    exact ⟨v4, rfl, Kd.fix_R g4⟩
theorem k153_mk (w : World) (x : S153) {A4 : Option Addr} {c4 : Nat} (l4 : x.f4.length ≤ c4) (g4 : k153.C w A4 x.f4.length x.f4) : k153.K w x [.int .i64 x.f0, .string x.f1, .int .i16 x.f2, .int .i64 x.f3, .slice A4 x.f4.length c4, .int .i64 x.f5] := by
  obtain ⟨n4, q4⟩ := Kd.fix_C_back mono153 g4
  have r4 := Kd.upto_C_le mono153 sz153 (show n4 ≤ n4 by omega) q4
  exact ⟨n4 + 1, ⟨[.int .i64 x.f0], [.string x.f1, .int .i16 x.f2, .int .i64 x.f3, .slice A4 x.f4.length c4, .int .i64 x.f5], rfl, rfl, ⟨[.string x.f1], [.int .i16 x.f2, .int .i64 x.f3, .slice A4 x.f4.length c4, .int .i64 x.f5], rfl, rfl, ⟨[.int .i16 x.f2], [.int .i64 x.f3, .slice A4 x.f4.length c4, .int .i64 x.f5], rfl, rfl, ⟨[.int .i64 x.f3], [.slice A4 x.f4.length c4, .int .i64 x.f5], rfl, rfl, ⟨[.slice A4 x.f4.length c4], [.int .i64 x.f5], rfl, ⟨A4, c4, rfl, l4, r4⟩, rfl⟩⟩⟩⟩⟩⟩
theorem k153_mkM (w : World) (base : Nat) (ok : Nat → Prop) (x : S153) {v4 : Value} (g4 : k153.R 153 w base ok v4 x.f4) : k153.M w base ok x [.int .i64 x.f0, .string x.f1, .int .i16 x.f2, .int .i64 x.f3, v4, .int .i64 x.f5] := by
  obtain ⟨n4, q4⟩ := Kd.fix_R_back mono153 g4
  have r4 := Kd.upto_R_le mono153 sz153 (show n4 ≤ n4 by omega) q4
  exact ⟨n4 + 1, ⟨[.int .i64 x.f0], [.string x.f1, .int .i16 x.f2, .int .i64 x.f3, v4, .int .i64 x.f5], rfl, rfl, ⟨[.string x.f1], [.int .i16 x.f2, .int .i64 x.f3, v4, .int .i64 x.f5], rfl, rfl, ⟨[.int .i16 x.f2], [.int .i64 x.f3, v4, .int .i64 x.f5], rfl, rfl, ⟨[.int .i64 x.f3], [v4, .int .i64 x.f5], rfl, rfl, ⟨[v4], [.int .i64 x.f5], rfl, ⟨v4, rfl, r4⟩, rfl⟩⟩⟩⟩⟩⟩
theorem k153_openF {W : World} {ok : Nat → Prop} {x : S153} {cs : List Value} (h : Kd.FK k153 W ok x cs) : ∃ A4 c4, cs = [.int .i64 x.f0, .string x.f1, .int .i16 x.f2, .int .i64 x.f3, .slice A4 x.f4.length c4, .int .i64 x.f5] ∧ x.f4.length ≤ c4 ∧ Kd.F k153 W ok A4 x.f4.length x.f4 := by
  obtain ⟨A4, c4, rfl, l4, _⟩ := k153_open (Kd.FK_now h)
  exact ⟨A4, c4, rfl, l4, (fun W' hW => by obtain ⟨A4_, c4_, he, l4_, g4_⟩ := k153_open (h W' hW); injection (Option.some.inj (show some (Value.slice A4 x.f4.length c4) = some (Value.slice A4_ x.f4.length c4_) from congrArg (fun l => l[4]?) he)) with ha_ _ _; rw [ha_]; exact g4_)⟩
theorem k153_mkF (W : World) (ok : Nat → Prop) (x : S153) {A4 : Option Addr} {c4 : Nat} (l4 : x.f4.length ≤ c4) (g4 : Kd.F k153 W ok A4 x.f4.length x.f4) : Kd.FK k153 W ok x [.int .i64 x.f0, .string x.f1, .int .i16 x.f2, .int .i64 x.f3, .slice A4 x.f4.length c4, .int .i64 x.f5] := fun W2 hW => k153_mk W2 x l4 (g4 W2 hW)
def rd_T153 (xs : List S153) (i : Int) : S153 := xs.getD i.toNat z153
theorem at_T153 {w : World} {A : Option Addr} {n : Nat} {xs : List S153} (h : Kd.C k153 w A n xs) (i : Int) (h0 : 0 ≤ i) (h1 : i < n) : ∃ ad A4 c4, A = some ad ∧ w.cell? (ad.add (i.toNat * 6)) = some (.int .i64 (rd_T153 xs i).f0) ∧ w.cell? ⟨(ad.add (i.toNat * 6)).block, (ad.add (i.toNat * 6)).off + 1, none⟩ = some (.string (rd_T153 xs i).f1) ∧ w.cell? ⟨(ad.add (i.toNat * 6)).block, (ad.add (i.toNat * 6)).off + 2, none⟩ = some (.int .i16 (rd_T153 xs i).f2) ∧ w.cell? ⟨(ad.add (i.toNat * 6)).block, (ad.add (i.toNat * 6)).off + 3, none⟩ = some (.int .i64 (rd_T153 xs i).f3) ∧ w.cell? ⟨(ad.add (i.toNat * 6)).block, (ad.add (i.toNat * 6)).off + 4, none⟩ = some (.slice A4 (rd_T153 xs i).f4.length c4) ∧ w.cell? ⟨(ad.add (i.toNat * 6)).block, (ad.add (i.toNat * 6)).off + 5, none⟩ = some (.int .i64 (rd_T153 xs i).f5) ∧ (rd_T153 xs i).f4.length ≤ c4 ∧ k153.C w A4 (rd_T153 xs i).f4.length (rd_T153 xs i).f4 := by
  obtain ⟨ad, c, e, _, hK, hc0⟩ := Kd.C_get h z153 i h0 h1
  have hc : ∀ j u, c[j]? = some u → w.cell? (ad.add (i.toNat * 6 + j)) = some u := hc0
  obtain ⟨A4, c4, rfl, l4, g4⟩ := k153_open hK
  exact ⟨ad, A4, c4, e, hc 0 _ rfl, by rw [← add_field _ _ 1 (by omega)]; exact hc 1 _ rfl, by rw [← add_field _ _ 2 (by omega)]; exact hc 2 _ rfl, by rw [← add_field _ _ 3 (by omega)]; exact hc 3 _ rfl, by rw [← add_field _ _ 4 (by omega)]; exact hc 4 _ rfl, by rw [← add_field _ _ 5 (by omega)]; exact hc 5 _ rfl, l4, g4⟩

def rd_L8 (xs : List (List S153)) (i : Int) : (List S153) := xs.getD i.toNat ([] : List S153)
theorem at_L8 {w : World} {A : Option Addr} {n : Nat} {xs : List (List S153)} (h : Kd.C (Kd.slice 153 k153) w A n xs) (i : Int) (h0 : 0 ≤ i) (h1 : i < n) : ∃ ad A0 c0, A = some ad ∧ w.cell? (ad.add i.toNat) = some (.slice A0 (rd_L8 xs i).length c0) ∧ (rd_L8 xs i).length ≤ c0 ∧ k153.C w A0 (rd_L8 xs i).length (rd_L8 xs i) := by
  obtain ⟨ad, c, e, _, hK, hc0⟩ := Kd.C_get h ([] : List S153) i h0 h1
  have hc : ∀ j u, c[j]? = some u → w.cell? (ad.add (i.toNat * 1 + j)) = some u := hc0
  obtain ⟨A0, c0, rfl, l0, g0⟩ := hK
  exact ⟨ad, A0, c0, e, by have hq := hc 0 _ rfl; rwa [Nat.mul_one, Nat.add_zero] at hq, l0, g0⟩

/-! #### struct type 151, nested in itself -/
structure S151 where
  f0 : Int
  f1 : ByteArray
  f2 : Int
  f3 : (List S153)
  f4 : (List S151)
  f5 : (List S151)
  f6 : Int
def z151 : S151 := ⟨(0 : Int), (⟨#[]⟩ : ByteArray), (0 : Int), ([] : List S153), ([] : List S151), ([] : List S151), (0 : Int)⟩
def F151 (d : Kd S151) : Kd S151 := Kd.iso (Kd.pair (Kd.int .i64) (Kd.pair Kd.string (Kd.pair (Kd.int .i64) (Kd.pair (Kd.slice 153 k153) (Kd.pair (Kd.slice 151 d) (Kd.pair (Kd.slice 151 d) (Kd.int .i64))))))) (fun x : S151 => (x.f0, x.f1, x.f2, x.f3, x.f4, x.f5, x.f6))
theorem mono151 : Kd.Mono F151 := Kd.mono_iso _ (Kd.mono_pair (Kd.mono_const _) (Kd.mono_pair (Kd.mono_const _) (Kd.mono_pair (Kd.mono_const _) (Kd.mono_pair (Kd.mono_const _) (Kd.mono_pair (Kd.mono_slice 151 Kd.mono_id) (Kd.mono_pair (Kd.mono_slice 151 Kd.mono_id) (Kd.mono_const _)))))))
theorem sub151 : Kd.Sub F151 [151, 153] := Kd.sub_iso _ (Kd.sub_pair (Kd.sub_const _ (by decide)) (Kd.sub_pair (Kd.sub_const _ (by decide)) (Kd.sub_pair (Kd.sub_const _ (by decide)) (Kd.sub_pair (Kd.sub_const _ (by decide)) (Kd.sub_pair (Kd.sub_slice 151 (by decide) Kd.sub_id) (Kd.sub_pair (Kd.sub_slice 151 (by decide) Kd.sub_id) (Kd.sub_const _ (by decide))))))))
theorem sz151 : ∀ n, (Kd.upto F151 7 [151, 153] n).sz = 7 := Kd.upto_sz (fun _ => rfl)
def k151 : Kd S151 := Kd.fix F151 7 [151, 153] sz151 (Kd.upto_E sub151)
theorem k151_open {w : World} {x : S151} {cs : List Value} (h : k151.K w x cs) : ∃ A3 c3 A4 c4 A5 c5, cs = [.int .i64 x.f0, .string x.f1, .int .i64 x.f2, .slice A3 x.f3.length c3, .slice A4 x.f4.length c4, .slice A5 x.f5.length c5, .int .i64 x.f6] ∧ x.f3.length ≤ c3 ∧ k153.C w A3 x.f3.length x.f3 ∧ x.f4.length ≤ c4 ∧ k151.C w A4 x.f4.length x.f4 ∧ x.f5.length ≤ c5 ∧ k151.C w A5 x.f5.length x.f5 := by
  obtain ⟨n, h⟩ := h
  cases n with
  | zero => exact h.elim
  | succ n =>
    obtain ⟨_, _, rfl, rfl, ⟨_, _, rfl, rfl, ⟨_, _, rfl, rfl, ⟨_, _, rfl, ⟨A3, c3, rfl, l3, g3⟩, ⟨_, _, rfl, ⟨A4, c4, rfl, l4, g4⟩, ⟨_, _, rfl, ⟨A5, c5, rfl, l5, g5⟩, rfl⟩⟩⟩⟩⟩⟩ := h
    exact ⟨A3, c3, A4, c4, A5, c5, rfl, l3, g3, l4, Kd.fix_C g4, l5, Kd.fix_C g5⟩
theorem k151_openM {w : World} {base : Nat} {ok : Nat → Prop} {x : S151} {cs : List Value} (h : k151.M w base ok x cs) : ∃ v3 v4 v5, cs = [.int .i64 x.f0, .string x.f1, .int .i64 x.f2, v3, v4, v5, .int .i64 x.f6] ∧ k153.R 153 w base ok v3 x.f3 ∧ k151.R 151 w base ok v4 x.f4 ∧ k151.R 151 w base ok v5 x.f5 := by
  obtain ⟨n, h⟩ := h
  cases n with
  | zero => exact h.elim
  | succ n =>
    obtain ⟨_, _, rfl, rfl, ⟨_, _, rfl, rfl, ⟨_, _, rfl, rfl, ⟨_, _, rfl, ⟨v3, rfl, g3⟩, ⟨_, _, rfl, ⟨v4, rfl, g4⟩, ⟨_, _, rfl, ⟨v5, rfl, g5⟩, rfl⟩⟩⟩⟩⟩⟩ := h
    exact ⟨v3, v4, v5, rfl, g3, Kd.fix_R g4, Kd.fix_R g5⟩
theorem k151_mk (w : World) (x : S151) {A3 : Option Addr} {c3 : Nat} (l3 : x.f3.length ≤ c3) (g3 : k153.C w A3 x.f3.length x.f3) {A4 : Option Addr} {c4 : Nat} (l4 : x.f4.length ≤ c4) (g4 : k151.C w A4 x.f4.length x.f4) {A5 : Option Addr} {c5 : Nat} (l5 : x.f5.length ≤ c5) (g5 : k151.C w A5 x.f5.length x.f5) : k151.K w x [.int .i64 x.f0, .string x.f1, .int .i64 x.f2, .slice A3 x.f3.length c3, .slice A4 x.f4.length c4, .slice A5 x.f5.length c5, .int .i64 x.f6] := by
  obtain ⟨n4, q4⟩ := Kd.fix_C_back mono151 g4
  obtain ⟨n5, q5⟩ := Kd.fix_C_back mono151 g5
  have r4 := Kd.upto_C_le mono151 sz151 (show n4 ≤ (max n4 n5) by omega) q4
  have r5 := Kd.upto_C_le mono151 sz151 (show n5 ≤ (max n4 n5) by omega) q5
  exact ⟨(max n4 n5) + 1, ⟨[.int .i64 x.f0], [.string x.f1, .int .i64 x.f2, .slice A3 x.f3.length c3, .slice A4 x.f4.length c4, .slice A5 x.f5.length c5, .int .i64 x.f6], rfl, rfl, ⟨[.string x.f1], [.int .i64 x.f2, .slice A3 x.f3.length c3, .slice A4 x.f4.length c4, .slice A5 x.f5.length c5, .int .i64 x.f6], rfl, rfl, ⟨[.int .i64 x.f2], [.slice A3 x.f3.length c3, .slice A4 x.f4.length c4, .slice A5 x.f5.length c5, .int .i64 x.f6], rfl, rfl, ⟨[.slice A3 x.f3.length c3], [.slice A4 x.f4.length c4, .slice A5 x.f5.length c5, .int .i64 x.f6], rfl, ⟨A3, c3, rfl, l3, g3⟩, ⟨[.slice A4 x.f4.length c4], [.slice A5 x.f5.length c5, .int .i64 x.f6], rfl, ⟨A4, c4, rfl, l4, r4⟩, ⟨[.slice A5 x.f5.length c5], [.int .i64 x.f6], rfl, ⟨A5, c5, rfl, l5, r5⟩, rfl⟩⟩⟩⟩⟩⟩⟩
theorem k151_mkM (w : World) (base : Nat) (ok : Nat → Prop) (x : S151) {v3 : Value} (g3 : k153.R 153 w base ok v3 x.f3) {v4 : Value} (g4 : k151.R 151 w base ok v4 x.f4) {v5 : Value} (g5 : k151.R 151 w base ok v5 x.f5) : k151.M w base ok x [.int .i64 x.f0, .string x.f1, .int .i64 x.f2, v3, v4, v5, .int .i64 x.f6] := by
  obtain ⟨n4, q4⟩ := Kd.fix_R_back mono151 g4
  obtain ⟨n5, q5⟩ := Kd.fix_R_back mono151 g5
  have r4 := Kd.upto_R_le mono151 sz151 (show n4 ≤ (max n4 n5) by omega) q4
  have r5 := Kd.upto_R_le mono151 sz151 (show n5 ≤ (max n4 n5) by omega) q5
  exact ⟨(max n4 n5) + 1, ⟨[.int .i64 x.f0], [.string x.f1, .int .i64 x.f2, v3, v4, v5, .int .i64 x.f6], rfl, rfl, ⟨[.string x.f1], [.int .i64 x.f2, v3, v4, v5, .int .i64 x.f6], rfl, rfl, ⟨[.int .i64 x.f2], [v3, v4, v5, .int .i64 x.f6], rfl, rfl, ⟨[v3], [v4, v5, .int .i64 x.f6], rfl, ⟨v3, rfl, g3⟩, ⟨[v4], [v5, .int .i64 x.f6], rfl, ⟨v4, rfl, r4⟩, ⟨[v5], [.int .i64 x.f6], rfl, ⟨v5, rfl, r5⟩, rfl⟩⟩⟩⟩⟩⟩⟩
theorem k151_openF {W : World} {ok : Nat → Prop} {x : S151} {cs : List Value} (h : Kd.FK k151 W ok x cs) : ∃ A3 c3 A4 c4 A5 c5, cs = [.int .i64 x.f0, .string x.f1, .int .i64 x.f2, .slice A3 x.f3.length c3, .slice A4 x.f4.length c4, .slice A5 x.f5.length c5, .int .i64 x.f6] ∧ x.f3.length ≤ c3 ∧ Kd.F k153 W ok A3 x.f3.length x.f3 ∧ x.f4.length ≤ c4 ∧ Kd.F k151 W ok A4 x.f4.length x.f4 ∧ x.f5.length ≤ c5 ∧ Kd.F k151 W ok A5 x.f5.length x.f5 := by
  obtain ⟨A3, c3, A4, c4, A5, c5, rfl, l3, _, l4, _, l5, _⟩ := k151_open (Kd.FK_now h)
  exact ⟨A3, c3, A4, c4, A5, c5, rfl, l3, (fun W' hW => by obtain ⟨A3_, c3_, A4_, c4_, A5_, c5_, he, l3_, g3_, l4_, g4_, l5_, g5_⟩ := k151_open (h W' hW); injection (Option.some.inj (show some (Value.slice A3 x.f3.length c3) = some (Value.slice A3_ x.f3.length c3_) from congrArg (fun l => l[3]?) he)) with ha_ _ _; rw [ha_]; exact g3_), l4, (fun W' hW => by obtain ⟨A3_, c3_, A4_, c4_, A5_, c5_, he, l3_, g3_, l4_, g4_, l5_, g5_⟩ := k151_open (h W' hW); injection (Option.some.inj (show some (Value.slice A4 x.f4.length c4) = some (Value.slice A4_ x.f4.length c4_) from congrArg (fun l => l[4]?) he)) with ha_ _ _; rw [ha_]; exact g4_), l5, (fun W' hW => by obtain ⟨A3_, c3_, A4_, c4_, A5_, c5_, he, l3_, g3_, l4_, g4_, l5_, g5_⟩ := k151_open (h W' hW); injection (Option.some.inj (show some (Value.slice A5 x.f5.length c5) = some (Value.slice A5_ x.f5.length c5_) from congrArg (fun l => l[5]?) he)) with ha_ _ _; rw [ha_]; exact g5_)⟩
theorem k151_mkF (W : World) (ok : Nat → Prop) (x : S151) {A3 : Option Addr} {c3 : Nat} (l3 : x.f3.length ≤ c3) (g3 : Kd.F k153 W ok A3 x.f3.length x.f3) {A4 : Option Addr} {c4 : Nat} (l4 : x.f4.length ≤ c4) (g4 : Kd.F k151 W ok A4 x.f4.length x.f4) {A5 : Option Addr} {c5 : Nat} (l5 : x.f5.length ≤ c5) (g5 : Kd.F k151 W ok A5 x.f5.length x.f5) : Kd.FK k151 W ok x [.int .i64 x.f0, .string x.f1, .int .i64 x.f2, .slice A3 x.f3.length c3, .slice A4 x.f4.length c4, .slice A5 x.f5.length c5, .int .i64 x.f6] := fun W2 hW => k151_mk W2 x l3 (g3 W2 hW) l4 (g4 W2 hW) l5 (g5 W2 hW)
def rd_T151 (xs : List S151) (i : Int) : S151 := xs.getD i.toNat z151
theorem at_T151 {w : World} {A : Option Addr} {n : Nat} {xs : List S151} (h : Kd.C k151 w A n xs) (i : Int) (h0 : 0 ≤ i) (h1 : i < n) : ∃ ad A3 c3 A4 c4 A5 c5, A = some ad ∧ w.cell? (ad.add (i.toNat * 7)) = some (.int .i64 (rd_T151 xs i).f0) ∧ w.cell? ⟨(ad.add (i.toNat * 7)).block, (ad.add (i.toNat * 7)).off + 1, none⟩ = some (.string (rd_T151 xs i).f1) ∧ w.cell? ⟨(ad.add (i.toNat * 7)).block, (ad.add (i.toNat * 7)).off + 2, none⟩ = some (.int .i64 (rd_T151 xs i).f2) ∧ w.cell? ⟨(ad.add (i.toNat * 7)).block, (ad.add (i.toNat * 7)).off + 3, none⟩ = some (.slice A3 (rd_T151 xs i).f3.length c3) ∧ w.cell? ⟨(ad.add (i.toNat * 7)).block, (ad.add (i.toNat * 7)).off + 4, none⟩ = some (.slice A4 (rd_T151 xs i).f4.length c4) ∧ w.cell? ⟨(ad.add (i.toNat * 7)).block, (ad.add (i.toNat * 7)).off + 5, none⟩ = some (.slice A5 (rd_T151 xs i).f5.length c5) ∧ w.cell? ⟨(ad.add (i.toNat * 7)).block, (ad.add (i.toNat * 7)).off + 6, none⟩ = some (.int .i64 (rd_T151 xs i).f6) ∧ (rd_T151 xs i).f3.length ≤ c3 ∧ k153.C w A3 (rd_T151 xs i).f3.length (rd_T151 xs i).f3 ∧ (rd_T151 xs i).f4.length ≤ c4 ∧ k151.C w A4 (rd_T151 xs i).f4.length (rd_T151 xs i).f4 ∧ (rd_T151 xs i).f5.length ≤ c5 ∧ k151.C w A5 (rd_T151 xs i).f5.length (rd_T151 xs i).f5 := by
  obtain ⟨ad, c, e, _, hK, hc0⟩ := Kd.C_get h z151 i h0 h1
  have hc : ∀ j u, c[j]? = some u → w.cell? (ad.add (i.toNat * 7 + j)) = some u := hc0
  obtain ⟨A3, c3, A4, c4, A5, c5, rfl, l3, g3, l4, g4, l5, g5⟩ := k151_open hK
  exact ⟨ad, A3, c3, A4, c4, A5, c5, e, hc 0 _ rfl, by rw [← add_field _ _ 1 (by omega)]; exact hc 1 _ rfl, by rw [← add_field _ _ 2 (by omega)]; exact hc 2 _ rfl, by rw [← add_field _ _ 3 (by omega)]; exact hc 3 _ rfl, by rw [← add_field _ _ 4 (by omega)]; exact hc 4 _ rfl, by rw [← add_field _ _ 5 (by omega)]; exact hc 5 _ rfl, by rw [← add_field _ _ 6 (by omega)]; exact hc 6 _ rfl, l3, g3, l4, g4, l5, g5⟩

def rd_L10 (xs : List (List S151)) (i : Int) : (List S151) := xs.getD i.toNat ([] : List S151)
theorem at_L10 {w : World} {A : Option Addr} {n : Nat} {xs : List (List S151)} (h : Kd.C (Kd.slice 151 k151) w A n xs) (i : Int) (h0 : 0 ≤ i) (h1 : i < n) : ∃ ad A0 c0, A = some ad ∧ w.cell? (ad.add i.toNat) = some (.slice A0 (rd_L10 xs i).length c0) ∧ (rd_L10 xs i).length ≤ c0 ∧ k151.C w A0 (rd_L10 xs i).length (rd_L10 xs i) := by
  obtain ⟨ad, c, e, _, hK, hc0⟩ := Kd.C_get h ([] : List S151) i h0 h1
  have hc : ∀ j u, c[j]? = some u → w.cell? (ad.add (i.toNat * 1 + j)) = some u := hc0
  obtain ⟨A0, c0, rfl, l0, g0⟩ := hK
  exact ⟨ad, A0, c0, e, by have hq := hc 0 _ rfl; rwa [Nat.mul_one, Nat.add_zero] at hq, l0, g0⟩

/-! #### struct type 147 -/
structure S147 where
  f0 : ByteArray
  f1 : Int
  f2 : Int
  f3 : ByteArray
  f4 : ByteArray
  f5 : Int
  f6 : (List S151)
  f7 : Int
def z147 : S147 := ⟨(⟨#[]⟩ : ByteArray), (0 : Int), (0 : Int), (⟨#[]⟩ : ByteArray), (⟨#[]⟩ : ByteArray), (0 : Int), ([] : List S151), (0 : Int)⟩
def k147 : Kd S147 := Kd.iso (Kd.pair Kd.string (Kd.pair (Kd.int .i64) (Kd.pair (Kd.int .i64) (Kd.pair Kd.string (Kd.pair Kd.string (Kd.pair (Kd.int .i64) (Kd.pair (Kd.slice 151 k151) (Kd.int .i64)))))))) (fun x : S147 => (x.f0, x.f1, x.f2, x.f3, x.f4, x.f5, x.f6, x.f7))
theorem k147_open {w : World} {x : S147} {cs : List Value} (h : k147.K w x cs) : ∃ A6 c6, cs = [.string x.f0, .int .i64 x.f1, .int .i64 x.f2, .string x.f3, .string x.f4, .int .i64 x.f5, .slice A6 x.f6.length c6, .int .i64 x.f7] ∧ x.f6.length ≤ c6 ∧ k151.C w A6 x.f6.length x.f6 := by
  obtain ⟨_, _, rfl, rfl, ⟨_, _, rfl, rfl, ⟨_, _, rfl, rfl, ⟨_, _, rfl, rfl, ⟨_, _, rfl, rfl, ⟨_, _, rfl, rfl, ⟨_, _, rfl, ⟨A6, c6, rfl, l6, g6⟩, rfl⟩⟩⟩⟩⟩⟩⟩ := h
  exact ⟨A6, c6, rfl, l6, g6⟩
theorem k147_openM {w : World} {base : Nat} {ok : Nat → Prop} {x : S147} {cs : List Value} (h : k147.M w base ok x cs) : ∃ v6, cs = [.string x.f0, .int .i64 x.f1, .int .i64 x.f2, .string x.f3, .string x.f4, .int .i64 x.f5, v6, .int .i64 x.f7] ∧ k151.R 151 w base ok v6 x.f6 := by
  obtain ⟨_, _, rfl, rfl, ⟨_, _, rfl, rfl, ⟨_, _, rfl, rfl, ⟨_, _, rfl, rfl, ⟨_, _, rfl, rfl, ⟨_, _, rfl, rfl, ⟨_, _, rfl, ⟨v6, rfl, g6⟩, rfl⟩⟩⟩⟩⟩⟩⟩ := h
  exact ⟨v6, rfl, g6⟩
theorem k147_mk (w : World) (x : S147) {A6 : Option Addr} {c6 : Nat} (l6 : x.f6.length ≤ c6) (g6 : k151.C w A6 x.f6.length x.f6) : k147.K w x [.string x.f0, .int .i64 x.f1, .int .i64 x.f2, .string x.f3, .string x.f4, .int .i64 x.f5, .slice A6 x.f6.length c6, .int .i64 x.f7] := ⟨[.string x.f0], [.int .i64 x.f1, .int .i64 x.f2, .string x.f3, .string x.f4, .int .i64 x.f5, .slice A6 x.f6.length c6, .int .i64 x.f7], rfl, rfl, ⟨[.int .i64 x.f1], [.int .i64 x.f2, .string x.f3, .string x.f4, .int .i64 x.f5, .slice A6 x.f6.length c6, .int .i64 x.f7], rfl, rfl, ⟨[.int .i64 x.f2], [.string x.f3, .string x.f4, .int .i64 x.f5, .slice A6 x.f6.length c6, .int .i64 x.f7], rfl, rfl, ⟨[.string x.f3], [.string x.f4, .int .i64 x.f5, .slice A6 x.f6.length c6, .int .i64 x.f7], rfl, rfl, ⟨[.string x.f4], [.int .i64 x.f5, .slice A6 x.f6.length c6, .int .i64 x.f7], rfl, rfl, ⟨[.int .i64 x.f5], [.slice A6 x.f6.length c6, .int .i64 x.f7], rfl, rfl, ⟨[.slice A6 x.f6.length c6], [.int .i64 x.f7], rfl, ⟨A6, c6, rfl, l6, g6⟩, rfl⟩⟩⟩⟩⟩⟩⟩
theorem k147_mkM (w : World) (base : Nat) (ok : Nat → Prop) (x : S147) {v6 : Value} (g6 : k151.R 151 w base ok v6 x.f6) : k147.M w base ok x [.string x.f0, .int .i64 x.f1, .int .i64 x.f2, .string x.f3, .string x.f4, .int .i64 x.f5, v6, .int .i64 x.f7] := ⟨[.string x.f0], [.int .i64 x.f1, .int .i64 x.f2, .string x.f3, .string x.f4, .int .i64 x.f5, v6, .int .i64 x.f7], rfl, rfl, ⟨[.int .i64 x.f1], [.int .i64 x.f2, .string x.f3, .string x.f4, .int .i64 x.f5, v6, .int .i64 x.f7], rfl, rfl, ⟨[.int .i64 x.f2], [.string x.f3, .string x.f4, .int .i64 x.f5, v6, .int .i64 x.f7], rfl, rfl, ⟨[.string x.f3], [.string x.f4, .int .i64 x.f5, v6, .int .i64 x.f7], rfl, rfl, ⟨[.string x.f4], [.int .i64 x.f5, v6, .int .i64 x.f7], rfl, rfl, ⟨[.int .i64 x.f5], [v6, .int .i64 x.f7], rfl, rfl, ⟨[v6], [.int .i64 x.f7], rfl, ⟨v6, rfl, g6⟩, rfl⟩⟩⟩⟩⟩⟩⟩
theorem k147_openF {W : World} {ok : Nat → Prop} {x : S147} {cs : List Value} (h : Kd.FK k147 W ok x cs) : ∃ A6 c6, cs = [.string x.f0, .int .i64 x.f1, .int .i64 x.f2, .string x.f3, .string x.f4, .int .i64 x.f5, .slice A6 x.f6.length c6, .int .i64 x.f7] ∧ x.f6.length ≤ c6 ∧ Kd.F k151 W ok A6 x.f6.length x.f6 := by
  obtain ⟨A6, c6, rfl, l6, _⟩ := k147_open (Kd.FK_now h)
  exact ⟨A6, c6, rfl, l6, (fun W' hW => by obtain ⟨A6_, c6_, he, l6_, g6_⟩ := k147_open (h W' hW); injection (Option.some.inj (show some (Value.slice A6 x.f6.length c6) = some (Value.slice A6_ x.f6.length c6_) from congrArg (fun l => l[6]?) he)) with ha_ _ _; rw [ha_]; exact g6_)⟩
theorem k147_mkF (W : World) (ok : Nat → Prop) (x : S147) {A6 : Option Addr} {c6 : Nat} (l6 : x.f6.length ≤ c6) (g6 : Kd.F k151 W ok A6 x.f6.length x.f6) : Kd.FK k147 W ok x [.string x.f0, .int .i64 x.f1, .int .i64 x.f2, .string x.f3, .string x.f4, .int .i64 x.f5, .slice A6 x.f6.length c6, .int .i64 x.f7] := fun W2 hW => k147_mk W2 x l6 (g6 W2 hW)
def rd_T147 (xs : List S147) (i : Int) : S147 := xs.getD i.toNat z147
theorem at_T147 {w : World} {A : Option Addr} {n : Nat} {xs : List S147} (h : Kd.C k147 w A n xs) (i : Int) (h0 : 0 ≤ i) (h1 : i < n) : ∃ ad A6 c6, A = some ad ∧ w.cell? (ad.add (i.toNat * 8)) = some (.string (rd_T147 xs i).f0) ∧ w.cell? ⟨(ad.add (i.toNat * 8)).block, (ad.add (i.toNat * 8)).off + 1, none⟩ = some (.int .i64 (rd_T147 xs i).f1) ∧ w.cell? ⟨(ad.add (i.toNat * 8)).block, (ad.add (i.toNat * 8)).off + 2, none⟩ = some (.int .i64 (rd_T147 xs i).f2) ∧ w.cell? ⟨(ad.add (i.toNat * 8)).block, (ad.add (i.toNat * 8)).off + 3, none⟩ = some (.string (rd_T147 xs i).f3) ∧ w.cell? ⟨(ad.add (i.toNat * 8)).block, (ad.add (i.toNat * 8)).off + 4, none⟩ = some (.string (rd_T147 xs i).f4) ∧ w.cell? ⟨(ad.add (i.toNat * 8)).block, (ad.add (i.toNat * 8)).off + 5, none⟩ = some (.int .i64 (rd_T147 xs i).f5) ∧ w.cell? ⟨(ad.add (i.toNat * 8)).block, (ad.add (i.toNat * 8)).off + 6, none⟩ = some (.slice A6 (rd_T147 xs i).f6.length c6) ∧ w.cell? ⟨(ad.add (i.toNat * 8)).block, (ad.add (i.toNat * 8)).off + 7, none⟩ = some (.int .i64 (rd_T147 xs i).f7) ∧ (rd_T147 xs i).f6.length ≤ c6 ∧ k151.C w A6 (rd_T147 xs i).f6.length (rd_T147 xs i).f6 := by
  obtain ⟨ad, c, e, _, hK, hc0⟩ := Kd.C_get h z147 i h0 h1
  have hc : ∀ j u, c[j]? = some u → w.cell? (ad.add (i.toNat * 8 + j)) = some u := hc0
  obtain ⟨A6, c6, rfl, l6, g6⟩ := k147_open hK
  exact ⟨ad, A6, c6, e, hc 0 _ rfl, by rw [← add_field _ _ 1 (by omega)]; exact hc 1 _ rfl, by rw [← add_field _ _ 2 (by omega)]; exact hc 2 _ rfl, by rw [← add_field _ _ 3 (by omega)]; exact hc 3 _ rfl, by rw [← add_field _ _ 4 (by omega)]; exact hc 4 _ rfl, by rw [← add_field _ _ 5 (by omega)]; exact hc 5 _ rfl, by rw [← add_field _ _ 6 (by omega)]; exact hc 6 _ rfl, by rw [← add_field _ _ 7 (by omega)]; exact hc 7 _ rfl, l6, g6⟩

def rd_L12 (xs : List (List Int)) (i : Int) : (List Int) := xs.getD i.toNat ([] : List Int)
theorem at_L12 {w : World} {A : Option Addr} {n : Nat} {xs : List (List Int)} (h : Kd.C (Kd.slice 3 (Kd.int .i64)) w A n xs) (i : Int) (h0 : 0 ≤ i) (h1 : i < n) : ∃ ad A0 c0, A = some ad ∧ w.cell? (ad.add i.toNat) = some (.slice A0 (rd_L12 xs i).length c0) ∧ (rd_L12 xs i).length ≤ c0 ∧ (Kd.int .i64).C w A0 (rd_L12 xs i).length (rd_L12 xs i) := by
  obtain ⟨ad, c, e, _, hK, hc0⟩ := Kd.C_get h ([] : List Int) i h0 h1
  have hc : ∀ j u, c[j]? = some u → w.cell? (ad.add (i.toNat * 1 + j)) = some u := hc0
  obtain ⟨A0, c0, rfl, l0, g0⟩ := hK
  exact ⟨ad, A0, c0, e, by have hq := hc 0 _ rfl; rwa [Nat.mul_one, Nat.add_zero] at hq, l0, g0⟩

/-! #### struct type 29 -/
structure S29 where
  f0 : Int
  f1 : (List Int)
def z29 : S29 := ⟨(0 : Int), ([] : List Int)⟩
def k29 : Kd S29 := Kd.iso (Kd.pair (Kd.int .i64) (Kd.slice 3 (Kd.int .i64))) (fun x : S29 => (x.f0, x.f1))
theorem k29_open {w : World} {x : S29} {cs : List Value} (h : k29.K w x cs) : ∃ A1 c1, cs = [.int .i64 x.f0, .slice A1 x.f1.length c1] ∧ x.f1.length ≤ c1 ∧ (Kd.int .i64).C w A1 x.f1.length x.f1 := by
  obtain ⟨_, _, rfl, rfl, ⟨A1, c1, rfl, l1, g1⟩⟩ := h
  exact ⟨A1, c1, rfl, l1, g1⟩
theorem k29_openM {w : World} {base : Nat} {ok : Nat → Prop} {x : S29} {cs : List Value} (h : k29.M w base ok x cs) : ∃ v1, cs = [.int .i64 x.f0, v1] ∧ (Kd.int .i64).R 3 w base ok v1 x.f1 := by
  obtain ⟨_, _, rfl, rfl, ⟨v1, rfl, g1⟩⟩ := h
  exact ⟨v1, rfl, g1⟩
theorem k29_mk (w : World) (x : S29) {A1 : Option Addr} {c1 : Nat} (l1 : x.f1.length ≤ c1) (g1 : (Kd.int .i64).C w A1 x.f1.length x.f1) : k29.K w x [.int .i64 x.f0, .slice A1 x.f1.length c1] := ⟨[.int .i64 x.f0], [.slice A1 x.f1.length c1], rfl, rfl, ⟨A1, c1, rfl, l1, g1⟩⟩
theorem k29_mkM (w : World) (base : Nat) (ok : Nat → Prop) (x : S29) {v1 : Value} (g1 : (Kd.int .i64).R 3 w base ok v1 x.f1) : k29.M w base ok x [.int .i64 x.f0, v1] := ⟨[.int .i64 x.f0], [v1], rfl, rfl, ⟨v1, rfl, g1⟩⟩
theorem k29_openF {W : World} {ok : Nat → Prop} {x : S29} {cs : List Value} (h : Kd.FK k29 W ok x cs) : ∃ A1 c1, cs = [.int .i64 x.f0, .slice A1 x.f1.length c1] ∧ x.f1.length ≤ c1 ∧ Kd.F (Kd.int .i64) W ok A1 x.f1.length x.f1 := by
  obtain ⟨A1, c1, rfl, l1, _⟩ := k29_open (Kd.FK_now h)
  exact ⟨A1, c1, rfl, l1, (fun W' hW => by obtain ⟨A1_, c1_, he, l1_, g1_⟩ := k29_open (h W' hW); injection (Option.some.inj (show some (Value.slice A1 x.f1.length c1) = some (Value.slice A1_ x.f1.length c1_) from congrArg (fun l => l[1]?) he)) with ha_ _ _; rw [ha_]; exact g1_)⟩
theorem k29_mkF (W : World) (ok : Nat → Prop) (x : S29) {A1 : Option Addr} {c1 : Nat} (l1 : x.f1.length ≤ c1) (g1 : Kd.F (Kd.int .i64) W ok A1 x.f1.length x.f1) : Kd.FK k29 W ok x [.int .i64 x.f0, .slice A1 x.f1.length c1] := fun W2 hW => k29_mk W2 x l1 (g1 W2 hW)
def rd_T29 (xs : List S29) (i : Int) : S29 := xs.getD i.toNat z29
theorem at_T29 {w : World} {A : Option Addr} {n : Nat} {xs : List S29} (h : Kd.C k29 w A n xs) (i : Int) (h0 : 0 ≤ i) (h1 : i < n) : ∃ ad A1 c1, A = some ad ∧ w.cell? (ad.add (i.toNat * 2)) = some (.int .i64 (rd_T29 xs i).f0) ∧ w.cell? ⟨(ad.add (i.toNat * 2)).block, (ad.add (i.toNat * 2)).off + 1, none⟩ = some (.slice A1 (rd_T29 xs i).f1.length c1) ∧ (rd_T29 xs i).f1.length ≤ c1 ∧ (Kd.int .i64).C w A1 (rd_T29 xs i).f1.length (rd_T29 xs i).f1 := by
  obtain ⟨ad, c, e, _, hK, hc0⟩ := Kd.C_get h z29 i h0 h1
  have hc : ∀ j u, c[j]? = some u → w.cell? (ad.add (i.toNat * 2 + j)) = some u := hc0
  obtain ⟨A1, c1, rfl, l1, g1⟩ := k29_open hK
  exact ⟨ad, A1, c1, e, hc 0 _ rfl, by rw [← add_field _ _ 1 (by omega)]; exact hc 1 _ rfl, l1, g1⟩

/-! #### struct type 72 -/
structure S72 where
  f0 : Int
  f1 : Int
  f2 : Int
  f3 : Int
  f4 : Int
def z72 : S72 := ⟨(0 : Int), (0 : Int), (0 : Int), (0 : Int), (0 : Int)⟩
def k72 : Kd S72 := Kd.iso (Kd.pair (Kd.int .i64) (Kd.pair (Kd.int .i64) (Kd.pair (Kd.int .i64) (Kd.pair (Kd.int .i64) (Kd.int .i16))))) (fun x : S72 => (x.f0, x.f1, x.f2, x.f3, x.f4))
theorem k72_open {w : World} {x : S72} {cs : List Value} (h : k72.K w x cs) : cs = [.int .i64 x.f0, .int .i64 x.f1, .int .i64 x.f2, .int .i64 x.f3, .int .i16 x.f4] := by
  obtain ⟨_, _, rfl, rfl, ⟨_, _, rfl, rfl, ⟨_, _, rfl, rfl, ⟨_, _, rfl, rfl, rfl⟩⟩⟩⟩ := h
  exact rfl
theorem k72_openM {w : World} {base : Nat} {ok : Nat → Prop} {x : S72} {cs : List Value} (h : k72.M w base ok x cs) : cs = [.int .i64 x.f0, .int .i64 x.f1, .int .i64 x.f2, .int .i64 x.f3, .int .i16 x.f4] := by
  obtain ⟨_, _, rfl, rfl, ⟨_, _, rfl, rfl, ⟨_, _, rfl, rfl, ⟨_, _, rfl, rfl, rfl⟩⟩⟩⟩ := h
  exact rfl
theorem k72_mk (w : World) (x : S72)  : k72.K w x [.int .i64 x.f0, .int .i64 x.f1, .int .i64 x.f2, .int .i64 x.f3, .int .i16 x.f4] := ⟨[.int .i64 x.f0], [.int .i64 x.f1, .int .i64 x.f2, .int .i64 x.f3, .int .i16 x.f4], rfl, rfl, ⟨[.int .i64 x.f1], [.int .i64 x.f2, .int .i64 x.f3, .int .i16 x.f4], rfl, rfl, ⟨[.int .i64 x.f2], [.int .i64 x.f3, .int .i16 x.f4], rfl, rfl, ⟨[.int .i64 x.f3], [.int .i16 x.f4], rfl, rfl, rfl⟩⟩⟩⟩
theorem k72_mkM (w : World) (base : Nat) (ok : Nat → Prop) (x : S72)  : k72.M w base ok x [.int .i64 x.f0, .int .i64 x.f1, .int .i64 x.f2, .int .i64 x.f3, .int .i16 x.f4] := ⟨[.int .i64 x.f0], [.int .i64 x.f1, .int .i64 x.f2, .int .i64 x.f3, .int .i16 x.f4], rfl, rfl, ⟨[.int .i64 x.f1], [.int .i64 x.f2, .int .i64 x.f3, .int .i16 x.f4], rfl, rfl, ⟨[.int .i64 x.f2], [.int .i64 x.f3, .int .i16 x.f4], rfl, rfl, ⟨[.int .i64 x.f3], [.int .i16 x.f4], rfl, rfl, rfl⟩⟩⟩⟩
theorem k72_mkF (W : World) (ok : Nat → Prop) (x : S72) : Kd.FK k72 W ok x [.int .i64 x.f0, .int .i64 x.f1, .int .i64 x.f2, .int .i64 x.f3, .int .i16 x.f4] := fun W2 _ => k72_mk W2 x
def rd_T72 (xs : List S72) (i : Int) : S72 := xs.getD i.toNat z72
theorem at_T72 {w : World} {A : Option Addr} {n : Nat} {xs : List S72} (h : Kd.C k72 w A n xs) (i : Int) (h0 : 0 ≤ i) (h1 : i < n) : ∃ ad , A = some ad ∧ w.cell? (ad.add (i.toNat * 5)) = some (.int .i64 (rd_T72 xs i).f0) ∧ w.cell? ⟨(ad.add (i.toNat * 5)).block, (ad.add (i.toNat * 5)).off + 1, none⟩ = some (.int .i64 (rd_T72 xs i).f1) ∧ w.cell? ⟨(ad.add (i.toNat * 5)).block, (ad.add (i.toNat * 5)).off + 2, none⟩ = some (.int .i64 (rd_T72 xs i).f2) ∧ w.cell? ⟨(ad.add (i.toNat * 5)).block, (ad.add (i.toNat * 5)).off + 3, none⟩ = some (.int .i64 (rd_T72 xs i).f3) ∧ w.cell? ⟨(ad.add (i.toNat * 5)).block, (ad.add (i.toNat * 5)).off + 4, none⟩ = some (.int .i16 (rd_T72 xs i).f4) := by
  obtain ⟨ad, c, e, _, hK, hc0⟩ := Kd.C_get h z72 i h0 h1
  have hc : ∀ j u, c[j]? = some u → w.cell? (ad.add (i.toNat * 5 + j)) = some u := hc0
  obtain rfl := k72_open hK
  exact ⟨ad, e, hc 0 _ rfl, by rw [← add_field _ _ 1 (by omega)]; exact hc 1 _ rfl, by rw [← add_field _ _ 2 (by omega)]; exact hc 2 _ rfl, by rw [← add_field _ _ 3 (by omega)]; exact hc 3 _ rfl, by rw [← add_field _ _ 4 (by omega)]; exact hc 4 _ rfl⟩

/-! #### struct type 100 -/
structure S100 where
  f0 : Int
  f1 : Int
  f2 : Int
def z100 : S100 := ⟨(0 : Int), (0 : Int), (0 : Int)⟩
def k100 : Kd S100 := Kd.iso (Kd.pair (Kd.int .i64) (Kd.pair (Kd.int .i64) (Kd.int .i64))) (fun x : S100 => (x.f0, x.f1, x.f2))
theorem k100_open {w : World} {x : S100} {cs : List Value} (h : k100.K w x cs) : cs = [.int .i64 x.f0, .int .i64 x.f1, .int .i64 x.f2] := by
  obtain ⟨_, _, rfl, rfl, ⟨_, _, rfl, rfl, rfl⟩⟩ := h
  exact rfl
theorem k100_openM {w : World} {base : Nat} {ok : Nat → Prop} {x : S100} {cs : List Value} (h : k100.M w base ok x cs) : cs = [.int .i64 x.f0, .int .i64 x.f1, .int .i64 x.f2] := by
  obtain ⟨_, _, rfl, rfl, ⟨_, _, rfl, rfl, rfl⟩⟩ := h
  exact rfl
theorem k100_mk (w : World) (x : S100)  : k100.K w x [.int .i64 x.f0, .int .i64 x.f1, .int .i64 x.f2] := ⟨[.int .i64 x.f0], [.int .i64 x.f1, .int .i64 x.f2], rfl, rfl, ⟨[.int .i64 x.f1], [.int .i64 x.f2], rfl, rfl, rfl⟩⟩
theorem k100_mkM (w : World) (base : Nat) (ok : Nat → Prop) (x : S100)  : k100.M w base ok x [.int .i64 x.f0, .int .i64 x.f1, .int .i64 x.f2] := ⟨[.int .i64 x.f0], [.int .i64 x.f1, .int .i64 x.f2], rfl, rfl, ⟨[.int .i64 x.f1], [.int .i64 x.f2], rfl, rfl, rfl⟩⟩
theorem k100_mkF (W : World) (ok : Nat → Prop) (x : S100) : Kd.FK k100 W ok x [.int .i64 x.f0, .int .i64 x.f1, .int .i64 x.f2] := fun W2 _ => k100_mk W2 x
def rd_T100 (xs : List S100) (i : Int) : S100 := xs.getD i.toNat z100
theorem at_T100 {w : World} {A : Option Addr} {n : Nat} {xs : List S100} (h : Kd.C k100 w A n xs) (i : Int) (h0 : 0 ≤ i) (h1 : i < n) : ∃ ad , A = some ad ∧ w.cell? (ad.add (i.toNat * 3)) = some (.int .i64 (rd_T100 xs i).f0) ∧ w.cell? ⟨(ad.add (i.toNat * 3)).block, (ad.add (i.toNat * 3)).off + 1, none⟩ = some (.int .i64 (rd_T100 xs i).f1) ∧ w.cell? ⟨(ad.add (i.toNat * 3)).block, (ad.add (i.toNat * 3)).off + 2, none⟩ = some (.int .i64 (rd_T100 xs i).f2) := by
  obtain ⟨ad, c, e, _, hK, hc0⟩ := Kd.C_get h z100 i h0 h1
  have hc : ∀ j u, c[j]? = some u → w.cell? (ad.add (i.toNat * 3 + j)) = some u := hc0
  obtain rfl := k100_open hK
  exact ⟨ad, e, hc 0 _ rfl, by rw [← add_field _ _ 1 (by omega)]; exact hc 1 _ rfl, by rw [← add_field _ _ 2 (by omega)]; exact hc 2 _ rfl⟩

end Go.Proofs.YtleafbihfmiidaaDoor.QAl
