/- slices.SortStableFunc: swapRange, rotate. -/
import Derived.Test.YtlklcfaejmeljaaSl
import Derived.Test.YtlklcfaejmeljaaSrt
import Derived.Test.YtlklcfaejmeljaaQUtx0
import Derived.Deep.RegionHeld3
namespace Go.Proofs.Ytlklcfaejmeljaa.St
open Go.RowKit Go.Proofs.YtlklcfaejmeljaaW.PrintWords Go.Proofs.Ytlklcfaejmeljaa.Sl Go.Proofs.Ytlklcfaejmeljaa.Srt
set_option linter.unusedVariables false
set_option linter.unusedSimpArgs false

/-- A row that a call's own memory holds, and the rest. -/
@[reducible] def rws (w0 : World) (v : Value) (xs : List Int) (L : List Chunk) : List Chunk := row w0 (Kd.int .i64) 3 v xs :: L
theorem cell2 {w0 w : World} {go n c : Nat} {xs : List Int} {L : List Chunk} (hM : Mem w0 w (rws w0 (.slice (some ⟨go, 0, none⟩) n c) xs L)) {k : Nat} (hk : k < xs.length) :
    w.cell? ⟨go, k, none⟩ = some (.int .i64 (at_ xs k)) ∧ w.frozen? ⟨go, k, none⟩ = false := hM.row_cell (0 : Int) k hk
theorem sw_put {w0 w : World} {go n c : Nat} {xs : List Int} {L : List Chunk} (hM : Mem w0 w (rws w0 (.slice (some ⟨go, 0, none⟩) n c) xs L)) (i j : Nat) :
    Mem w0 ((w.setCell ⟨go, i, none⟩ (.int .i64 (at_ xs j))).setCell ⟨go, j, none⟩ (.int .i64 (at_ xs i))) (rws w0 (.slice (some ⟨go, 0, none⟩) n c) (sw xs i j) L) :=
  (hM.row_put i (at_ xs j)).row_put j (at_ xs i)
theorem ww {x : Int} {p : Nat} (h : x = (p : Int)) (hp : p ≤ 1000000) : wrap64 x = (p : Int) := by
  subst h
  unfold wrap64
  omega
theorem wk {x : Int} {p : Nat} (h : x = (p : Int)) (hp : p ≤ 1000000) : IntKind.i64.wrap x = (p : Int) := by
  subst h
  rw [IntKind.wrap_i64]
  omega
def SwRel (w0 : World) (v : Value) (xs : List Int) (a b n : Nat) (L : List Chunk) (v10 : Value) (wr : World) : Prop :=
  ∃ i : Nat, i ≤ n ∧ v10 = .int .i64 (i : Int) ∧ Mem w0 wr (rws w0 v (swp xs a b i) L)
theorem meas {a q : Nat} {x : Int} (hx : x = ((q + 1 : Nat) : Int)) (h : q < a) : a - (intOf (.int .i64 x)).toNat < a - (intOf (.int .i64 (q : Int))).toNat := by
  subst hx
  simp [intOf]
  omega
set_option maxHeartbeats 4000000 in
theorem swapR {w0 w : World} {go c : Nat} {xs : List Int} {L : List Chunk} (a b n : Nat) (f : Value) (h1 : a + n ≤ b) (h2 : b + n ≤ xs.length) (h9 : xs.length ≤ 1000) (hM : Mem w0 w (rws w0 (.slice (some ⟨go, 0, none⟩) xs.length c) xs L)) :
    Calls Try.prog 55 #[.slice (some ⟨go, 0, none⟩) xs.length c, .int .i64 (a : Int), .int .i64 (b : Int), .int .i64 (n : Int), f] w fun e w' => e = .returned (.tuple #[]) ∧ Mem w0 w' (rws w0 (.slice (some ⟨go, 0, none⟩) xs.length c) (swp xs a b n) L) := by
  have HM := Aside0.mk hM
  clear hM
  go_enter Try.func55, Try.ntmps55
  go_wp2_with fail
  go_loopw [10] (fun v10 wr => SwRel w0 (.slice (some ⟨go, 0, none⟩) xs.length c) xs a b n L v10 wr) (fun i _ => n - (intOf i).toNat)
  case atStart => exact ⟨0, Nat.zero_le _, rfl, HM.out⟩
  case round =>
    obtain ⟨i, hi, rfl, hM⟩ := hrel
    clear HM
    by_cases hlt : i < n
    · obtain ⟨p, hp⟩ : ∃ p, p = a + i := ⟨_, rfl⟩
      obtain ⟨q, hq⟩ : ∃ q, q = b + i := ⟨_, rfl⟩
      obtain ⟨ys, hys⟩ : ∃ ys, ys = swp xs a b i := ⟨_, rfl⟩
      have hl : ys.length = xs.length := by rw [hys]; exact swp_len xs a b i
      rw [← hys] at hM
      have b1 : (0 : Int) ≤ (p : Int) := by omega
      have b2 : (p : Int) < (xs.length : Int) := by omega
      have b3 : (0 : Int) ≤ (q : Int) := by omega
      have b4 : (q : Int) < (xs.length : Int) := by omega
      have n1 : p ≠ q := by omega
      have n2 : q ≠ p := by omega
      obtain ⟨z0, z1⟩ := cell2 hM (k := p) (by omega)
      obtain ⟨z2, z3⟩ := cell2 hM (k := q) (by omega)
      have hs := sw_put hM p q
      have hsw : sw ys p q = swp xs a b (i + 1) := by rw [hys, hp, hq]; rfl
      rw [hsw] at hs
      have E1 := Aside0.mk (show IntKind.i64.wrap ((a : Int) + (i : Int)) = (p : Int) from wk (by omega) (by omega))
      have E2 := Aside0.mk (show IntKind.i64.wrap ((b : Int) + (i : Int)) = (q : Int) from wk (by omega) (by omega))
      have E3 := Aside0.mk (show wrap64 ((a : Int) + (i : Int)) = (p : Int) from ww (by omega) (by omega))
      have E4 := Aside0.mk (show wrap64 ((b : Int) + (i : Int)) = (q : Int) from ww (by omega) (by omega))
      have HW := Aside0.mk (show wrap64 ((i : Int) + 1) = ((i + 1 : Nat) : Int) from ww (by omega) (by omega))
      clear hM hsw hl hp hq hys
      generalize at_ ys p = x at *
      generalize at_ ys q = y at *
      have HS := Aside0.mk hs
      clear hs
      have e1 := E1.out
      have e2 := E2.out
      have HL := Aside0.mk (And.intro hi hlt)
      go_wp2_with fail
      clear h1 h2 h9 hi hlt
      go_region
      go_wp2_with fail
      rw [HW.out]
      refine ⟨⟨i + 1, HL.out.2, rfl, HS.out.drew⟩, meas rfl HL.out.2⟩
    · obtain rfl : i = n := by omega
      have HM := Aside0.mk hM
      clear hM
      go_wp2_with fail
      go_end0
      exact ⟨rfl, HM.out⟩
end Go.Proofs.Ytlklcfaejmeljaa.St
