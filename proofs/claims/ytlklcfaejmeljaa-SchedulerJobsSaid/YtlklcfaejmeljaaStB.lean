/- slices.SortStableFunc: rotate. -/
import Derived.Test.YtlklcfaejmeljaaStA
namespace Go.Proofs.Ytlklcfaejmeljaa.St
open Go.RowKit Go.Proofs.YtlklcfaejmeljaaW.PrintWords Go.Proofs.Ytlklcfaejmeljaa.Sl Go.Proofs.Ytlklcfaejmeljaa.Srt
set_option linter.unusedVariables false
set_option linter.unusedSimpArgs false

/-- What is left to rotate: [m - i, m) and [m, m + j). -/
structure Rt (xs ys : List Int) (a m b i j : Nat) : Prop where
  i1 : 1 ≤ i
  j1 : 1 ≤ j
  im : a + i ≤ m
  jb : m + j ≤ b
  same : Same xs ys a b
  fn : ∀ k, rotF xs a m b k = rotF ys (m - i) m (m + j) k
def RtRel (w0 : World) (v : Value) (xs : List Int) (a m b : Nat) (L : List Chunk) (v10 v11 : Value) (wr : World) : Prop :=
  ∃ (i j : Nat) (ys : List Int), v10 = .int .i64 (i : Int) ∧ v11 = .int .i64 (j : Int) ∧ Rt xs ys a m b i j ∧ Mem w0 wr (rws w0 v ys L)
theorem Rt.gt {xs ys : List Int} {a m b i j : Nat} (h : Rt xs ys a m b i j) (hb : b ≤ xs.length) (hij : j < i) : Rt xs (swp ys (m - i) m j) a m b (i - j) j := by
  have h1 := h.i1
  have h2 := h.j1
  have h3 := h.im
  have h4 := h.jb
  have h5 := h.same.len
  refine ⟨by omega, by omega, by omega, by omega, h.same.trans (Same.swp (by omega) (by omega) (by omega) (by omega) (by omega)), fun k => ?_⟩
  rw [h.fn k, rot_gt hij (by omega) (by omega)]
theorem Rt.lt {xs ys : List Int} {a m b i j : Nat} (h : Rt xs ys a m b i j) (hb : b ≤ xs.length) (hij : i < j) : Rt xs (swp ys (m - i) (m + j - i) i) a m b i (j - i) := by
  have h1 := h.i1
  have h2 := h.j1
  have h3 := h.im
  have h4 := h.jb
  have h5 := h.same.len
  refine ⟨by omega, by omega, by omega, by omega, h.same.trans (Same.swp (by omega) (by omega) (by omega) (by omega) (by omega)), fun k => ?_⟩
  rw [h.fn k, rot_lt hij (by omega) (by omega)]
theorem Rt.eq {xs ys : List Int} {a m b i : Nat} (h : Rt xs ys a m b i i) (hb : b ≤ xs.length) : Rot xs (swp ys (m - i) m i) a m b := by
  have h1 := h.i1
  have h3 := h.im
  have h4 := h.jb
  have h5 := h.same.len
  refine ⟨h.same.trans (Same.swp (by omega) (by omega) (by omega) (by omega) (by omega)), fun k => ?_⟩
  rw [h.fn k, rot_eq (by omega) (by omega)]
theorem meas2 {i j i' j' : Nat} (h : i' + j' < i + j) : (intOf (.int .i64 (i' : Int))).toNat + (intOf (.int .i64 (j' : Int))).toNat < (intOf (.int .i64 (i : Int))).toNat + (intOf (.int .i64 (j : Int))).toNat := by
  simp [intOf]
  omega
set_option maxHeartbeats 4000000 in
theorem rotate {w0 w : World} {go c : Nat} {xs : List Int} {L : List Chunk} (a m b : Nat) (f : Value) (h1 : a < m) (h2 : m < b) (h3 : b ≤ xs.length) (h9 : xs.length ≤ 1000) (hM : Mem w0 w (rws w0 (.slice (some ⟨go, 0, none⟩) xs.length c) xs L)) :
    Calls Try.prog 54 #[.slice (some ⟨go, 0, none⟩) xs.length c, .int .i64 (a : Int), .int .i64 (m : Int), .int .i64 (b : Int), f] w fun e w' => e = .returned (.tuple #[]) ∧ ∃ ys, Rot xs ys a m b ∧ Mem w0 w' (rws w0 (.slice (some ⟨go, 0, none⟩) xs.length c) ys L) := by
  have HM := Aside0.mk hM
  clear hM
  obtain ⟨i0, hi0⟩ : ∃ i0, m = a + i0 := ⟨m - a, by omega⟩
  obtain ⟨j0, hj0⟩ : ∃ j0, b = m + j0 := ⟨b - m, by omega⟩
  have H0 := Aside0.mk (show Rt xs xs a m b i0 j0 from ⟨by omega, by omega, by omega, by omega, Same.refl _ _ _, fun k => by rw [show m - i0 = a by omega, show m + j0 = b by omega]⟩)
  have e1 : (m : Int) - (a : Int) = (i0 : Int) := by omega
  have e2 : (b : Int) - (m : Int) = (j0 : Int) := by omega
  have HB := Aside0.mk h3
  have B1 : b ≤ 1000 := by omega
  have B2 : m ≤ 1000 := by omega
  have B3 : i0 ≤ 1000 := by omega
  have B4 : j0 ≤ 1000 := by omega
  clear hi0 hj0 h3
  go_enter Try.func54, Try.ntmps54
  go_wp2_with fail
  clear e1 e2
  go_loopw [10, 11] (fun v10 v11 wr => RtRel w0 (.slice (some ⟨go, 0, none⟩) xs.length c) xs a m b L v10 v11 wr) (fun i j _ => (intOf i).toNat + (intOf j).toNat)
  case atStart => exact ⟨i0, j0, xs, rfl, rfl, H0.out, HM.out⟩
  case round =>
    obtain ⟨i, j, ys, rfl, rfl, hr, hM⟩ := hrel
    clear HM H0
    have q1 := hr.i1
    have q2 := hr.j1
    have q3 := hr.im
    have q4 := hr.jb
    have hl := hr.same.len
    have hb := HB.out
    obtain ⟨p, hp⟩ : ∃ p, m = p + i := ⟨m - i, by omega⟩
    have b0 : i ≤ 1000 := by omega
    have b1 : j ≤ 1000 := by omega
    have b2 : m ≤ 1000 := by omega
    by_cases hgt : j < i
    · have c1 : ((i : Int) != (j : Int)) = true := bne_iff_ne.2 (by omega)
      have c2 : ((i : Int) == (j : Int)) = false := beq_eq_false_iff_ne.2 (by omega)
      have c3 : decide ((j : Int) < (i : Int)) = true := decide_eq_true (by omega)
      have c4 : decide (j < i) = true := decide_eq_true hgt
      obtain ⟨i', hi'⟩ : ∃ i', i = i' + j := ⟨i - j, by omega⟩
      have hs := (swapR (c := c) (L := L) (w0 := w0) (w := wr) (go := go) (xs := ys) p m j f (by omega) (by omega) (by omega))
      rw [hl] at hs
      have HS := Aside0.mk (hs hM)
      have HR := Aside0.mk (hr.gt HB.out hgt)
      rw [show m - i = p by omega, show i - j = i' by omega] at HR
      have e1 : (m : Int) - (i : Int) = (p : Int) := by omega
      have e2 : (i : Int) - (j : Int) = (i' : Int) := by omega
      have HI := Aside0.mk (show i' + j < i + j by omega)
      clear hr hM hs hl hb hi' hp hgt
      go_wp2_with fail
      refine HS.out.mono ?_
      rintro e w2 ⟨rfl, hM⟩
      have HM := Aside0.mk hM
      clear hM
      go_wp2_with fail
      exact ⟨⟨i', j, _, rfl, rfl, HR.out, HM.out⟩, meas2 HI.out⟩
    by_cases hlt : i < j
    · have c1 : ((i : Int) != (j : Int)) = true := bne_iff_ne.2 (by omega)
      have c2 : ((i : Int) == (j : Int)) = false := beq_eq_false_iff_ne.2 (by omega)
      have c3 : decide ((j : Int) < (i : Int)) = false := decide_eq_false (by omega)
      have c4 : decide (j < i) = false := decide_eq_false hgt
      obtain ⟨j', hj'⟩ : ∃ j', j = j' + i := ⟨j - i, by omega⟩
      obtain ⟨q, hq⟩ : ∃ q, q = m + j' := ⟨_, rfl⟩
      have hs := (swapR (c := c) (L := L) (w0 := w0) (w := wr) (go := go) (xs := ys) p q i f (by omega) (by omega) (by omega))
      rw [hl] at hs
      have HS := Aside0.mk (hs hM)
      have HR := Aside0.mk (hr.lt HB.out hlt)
      rw [show m - i = p by omega, show m + j - i = q by omega, show j - i = j' by omega] at HR
      have e1 : (m : Int) - (i : Int) = (p : Int) := by omega
      have e2 : (m : Int) + (j : Int) - (i : Int) = (q : Int) := by omega
      have e3 : (j : Int) - (i : Int) = (j' : Int) := by omega
      have HI := Aside0.mk (show i + j' < i + j by omega)
      clear hr hM hs hl hb hj' hp hgt hlt hq
      go_wp2_with fail
      refine HS.out.mono ?_
      rintro e w2 ⟨rfl, hM⟩
      have HM := Aside0.mk hM
      clear hM
      go_wp2_with fail
      exact ⟨⟨i, j', _, rfl, rfl, HR.out, HM.out⟩, meas2 HI.out⟩
    · obtain rfl : i = j := by omega
      have c1 : ((i : Int) != (i : Int)) = false := by simp
      have hs := (swapR (c := c) (L := L) (w0 := w0) (w := wr) (go := go) (xs := ys) p m i f (by omega) (by omega) (by omega))
      rw [hl] at hs
      have HS := Aside0.mk (hs hM)
      have HR := Aside0.mk (hr.eq HB.out)
      rw [show m - i = p by omega] at HR
      have e1 : (m : Int) - (i : Int) = (p : Int) := by omega
      clear hr hM hs hl hb hp hgt hlt
      go_wp2_with fail
      refine HS.out.mono ?_
      rintro e w2 ⟨rfl, hM⟩
      have HM := Aside0.mk hM
      clear hM
      go_wp2_with fail
      go_end0
      exact ⟨rfl, _, HR.out, HM.out⟩
end Go.Proofs.Ytlklcfaejmeljaa.St
