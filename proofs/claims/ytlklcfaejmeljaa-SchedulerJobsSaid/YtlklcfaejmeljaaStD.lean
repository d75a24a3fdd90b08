/- slices.SortStableFunc: the symmetric merge where a half has one element. -/
import Derived.Test.YtlklcfaejmeljaaStC
namespace Go.Proofs.Ytlklcfaejmeljaa.St
open Go.RowKit Go.Proofs.YtlklcfaejmeljaaW.PrintWords Go.Proofs.Ytlklcfaejmeljaa.Sl Go.Proofs.Ytlklcfaejmeljaa.Srt
set_option linter.unusedVariables false
set_option linter.unusedSimpArgs false

/-- The search for the place of element a in [lo, hi): it lies in [i, j]. -/
def SrRel (w0 : World) (v : Value) (cf : Int → Int → Int) (xs : List Int) (a lo hi : Nat) (L : List Chunk) (v10 v11 : Value) (wr : World) : Prop :=
  ∃ (i j : Nat), lo ≤ i ∧ i ≤ j ∧ j ≤ hi ∧ v10 = .int .i64 (i : Int) ∧ v11 = .int .i64 (j : Int) ∧ (i = lo ∨ R (lt_ cf) (at_ xs (i - 1)) (at_ xs a)) ∧ (j = hi ∨ R (lt_ cf) (at_ xs a) (at_ xs j)) ∧ Mem w0 wr (rws w0 v xs L)
def UpRel (w0 : World) (v : Value) (xs : List Int) (a i : Nat) (L : List Chunk) (v13 : Value) (wr : World) : Prop :=
  ∃ k : Nat, k ≤ i - 1 - a ∧ v13 = .int .i64 ((a : Int) + (k : Int)) ∧ Mem w0 wr (rws w0 v (up xs a k) L)
theorem meas3 {i j i' j' : Nat} (h : j' - i' < j - i) : (intOf (.int .i64 (j' : Int))).toNat - (intOf (.int .i64 (i' : Int))).toNat < (intOf (.int .i64 (j : Int))).toNat - (intOf (.int .i64 (i : Int))).toNat := by
  simp [intOf]
  omega
set_option maxRecDepth 100000 in
set_option maxHeartbeats 8000000 in
theorem symA {w0 w : World} {go c gb n : Nat} {cf : Int → Int → Int} {xs : List Int} {L : List Chunk} (a m b : Nat) (hR : SWO (lt_ cf)) (hC : CmpOk w0 (.slice (some ⟨go, 0, none⟩) xs.length c) gb cf n L) (hm : m = a + 1) (hmb : m < b) (hb : b ≤ xs.length) (h9 : xs.length ≤ 1000) (hin : inR n xs) (hh : Halves (lt_ cf) xs a m b) (hM : Mem w0 w (rws w0 (.slice (some ⟨go, 0, none⟩) xs.length c) xs L)) :
    Calls Try.prog 53 #[.slice (some ⟨go, 0, none⟩) xs.length c, .int .i64 (a : Int), .int .i64 (m : Int), .int .i64 (b : Int), fnv gb] w fun e w' => e = .returned (.tuple #[]) ∧ ∃ ys, Merged (lt_ cf) xs ys a b ∧ Mem w0 w' (rws w0 (.slice (some ⟨go, 0, none⟩) xs.length c) ys L) := by
  have HM := Aside0.mk hM
  have HIN := Aside0.mk hin
  have HC := Aside0.mk hC
  have HR := Aside0.mk hR
  have HH := Aside0.mk hh
  have HB := Aside0.mk hb
  have HMA := Aside0.mk hm
  have B1 : b ≤ 1000 := by omega
  have B2 : m ≤ 1000 := by omega
  have B3 : a ≤ 1000 := by omega
  have e1 : (m : Int) - (a : Int) = 1 := by omega
  clear hM hin hC hR hh hb hm
  go_enter Try.func53, Try.ntmps53
  go_wp2_with fail
  clear e1
  go_loopw [10, 11] (fun v10 v11 wr => SrRel w0 (.slice (some ⟨go, 0, none⟩) xs.length c) cf xs a m b L v10 v11 wr) (fun i j _ => (intOf j).toNat - (intOf i).toNat)
  case atStart => exact ⟨m, b, Nat.le_refl _, by omega, Nat.le_refl _, rfl, rfl, .inl rfl, .inl rfl, HM.out⟩
  case round =>
    obtain ⟨i, j, h1, h2, h3, rfl, rfl, h4, h5, hM⟩ := hrel
    clear HM
    by_cases hlt : i < j
    · obtain ⟨h, hd⟩ : ∃ h, h = (i + j) / 2 := ⟨_, rfl⟩
      have hb := HB.out
      have hma := HMA.out
      have q1 : i ≤ h := by omega
      have q2 : h < j := by omega
      obtain ⟨z0, z1⟩ := cell2 hM (k := h) (by omega)
      obtain ⟨z2, z3⟩ := cell2 hM (k := a) (by omega)
      have hf := HH.out.f a h (Nat.le_refl _) (by omega) (by omega) (by omega)
      have HX := Aside0.mk (HIN.out.at (k := h) (by omega))
      have HY := Aside0.mk (HIN.out.at (k := a) (by omega))
      have HLT := Aside0.mk (fun (hc : lt_ cf (at_ xs h) (at_ xs a)) => (show R (lt_ cf) (at_ xs (h + 1 - 1)) (at_ xs a) from .inl hc))
      have HGE := Aside0.mk (fun (hc : ¬ lt_ cf (at_ xs h) (at_ xs a)) => (show R (lt_ cf) (at_ xs a) (at_ xs h) from .inr ⟨hc, hf⟩))
      have H4 := Aside0.mk h4
      have H5 := Aside0.mk h5
      have HQ := Aside0.mk (show m ≤ h ∧ h + 1 ≤ j ∧ j ≤ b ∧ m ≤ i ∧ i ≤ h by omega)
      have HM := Aside0.mk hM
      have b1 : (0 : Int) ≤ (h : Int) := by omega
      have b2 : (h : Int) < (xs.length : Int) := by omega
      have b3 : (0 : Int) ≤ (a : Int) := by omega
      have b4 : (a : Int) < (xs.length : Int) := by omega
      have b5 : h ≤ 1000 := by omega
      have b6 : i ≤ 1000 := by omega
      have b7 : j ≤ 1000 := by omega
      have e2 : ((i : Int) + (j : Int)) / 2 = (h : Int) := by omega
      clear hM h4 h5 hf hb hd h1 h2 h3 q1 q2 hma
      obtain ⟨x, hx⟩ : ∃ x, at_ xs h = x := ⟨_, rfl⟩
      obtain ⟨y, hy⟩ : ∃ y, at_ xs a = y := ⟨_, rfl⟩
      have HXE := Aside0.mk hx
      have HYE := Aside0.mk hy
      rw [hx] at z0 HX HLT HGE
      rw [hy] at z2 HY HLT HGE
      clear hx hy
      go_wp2_with fail
      clear e2
      go_region_held3 (fun W => W.cell? ⟨go, h, none⟩ = some (.int .i64 x) ∧ W.cell? ⟨go, a, none⟩ = some (.int .i64 y))
        (first
          | exact ⟨z0, z2⟩
          | exact ⟨zz0, zz2⟩
          | (go_split_ands; refine ⟨?_, ?_⟩ <;> assumption))
        (first
          | (go_at_call 39
             refine (HC.out _ xs x y HM.out.drew HX.out HY.out).mono ?_
             rintro e w2 ⟨rfl, hM⟩
             have HM2 := Aside0.mk hM
             obtain ⟨zz0, zz1⟩ := cell2 hM (k := h) (by have := HQ.out; have := HB.out; omega)
             obtain ⟨zz2, zz3⟩ := cell2 hM (k := a) (by have := HQ.out; have := HB.out; have := HMA.out; omega)
             rw [HXE.out] at zz0
             rw [HYE.out] at zz2
             clear hM))
      by_cases hc : cf x y < 0
      · have d1 : decide (cf x y < 0) = true := decide_eq_true hc
        have HCX := Aside0.mk (HLT.out hc)
        have HNC := Aside0.mk hc
        clear hc
        go_wp2_with fail
        rotate_left
        · exfalso; have := HNC.out; omega
        exact ⟨⟨h + 1, j, by have := HQ.out; omega, by have := HQ.out; omega, by have := HQ.out; omega, by go_num, rfl, .inr (by rw [HYE.out]; exact HCX.out), by rw [HYE.out] at H5 ⊢; exact H5.out, HM2.out⟩, by have := HQ.out; simp [intOf]; omega⟩
      · have d1 : decide (cf x y < 0) = false := decide_eq_false hc
        have HCX := Aside0.mk (HGE.out hc)
        have hge : 0 ≤ cf x y := by omega
        clear hc
        go_wp2_with fail
        exact ⟨⟨i, h, by have := HQ.out; omega, by have := HQ.out; omega, by have := HQ.out; omega, rfl, rfl, H4.out, .inr (by rw [HYE.out, HXE.out]; exact HCX.out), HM2.out⟩, meas3 (by have := HQ.out; omega)⟩
    · obtain rfl : i = j := by omega
      have HUP := Aside0.mk (up_merged HR.out (xs := xs) (a := a) (b := b) (i := i) HB.out (by have := HH.out.r; rwa [HMA.out] at this) (by have := HMA.out; omega) (by omega) (h4.imp (fun h => by have := HMA.out; omega) id) h5)
      have HQ := Aside0.mk (show a + 1 ≤ i ∧ i ≤ b by have := HMA.out; omega)
      have HM := Aside0.mk hM
      have e2 : (i : Int) - 1 = ((i - 1 : Nat) : Int) := by have := HMA.out; omega
      have B4 : i ≤ 1000 := by omega
      clear hM h4 h5 h1 h2 h3
      go_wp2_with fail
      go_loopw [13] (fun v13 wr => UpRel w0 (.slice (some ⟨go, 0, none⟩) xs.length c) xs a i L v13 wr) (fun k _ => i - (intOf k).toNat)
      case atStart => exact ⟨0, by have := HQ.out; omega, by simp, HM.out⟩
      case round =>
        obtain ⟨k', hk, rfl, hM⟩ := hrel
        clear HM
        obtain ⟨k, hk2⟩ : ∃ k, k = a + k' := ⟨_, rfl⟩
        obtain ⟨p, hp⟩ : ∃ p, p + 1 = i := ⟨i - 1, by have := HQ.out; omega⟩
        have e3 : (i : Int) - 1 = (p : Int) := by omega
        rw [show ((a : Int) + (k' : Int)) = (k : Int) by omega]
        by_cases hkl : k < p
        · obtain ⟨ys, hys⟩ : ∃ ys, ys = up xs a k' := ⟨_, rfl⟩
          have hyl : ys.length = xs.length := by rw [hys, up_len]
          rw [← hys] at hM
          have hq := HQ.out
          have hb := HB.out
          obtain ⟨q, hq2⟩ : ∃ q, q = k + 1 := ⟨_, rfl⟩
          obtain ⟨z0, z1⟩ := cell2 hM (k := k) (by omega)
          obtain ⟨z2, z3⟩ := cell2 hM (k := q) (by omega)
          have hs := sw_put hM k q
          have hsw : sw ys k q = up xs a (k' + 1) := by rw [hys, hq2, hk2]; rfl
          rw [hsw] at hs
          have HK := Aside0.mk (show k' + 1 ≤ i - 1 - a ∧ k < i ∧ (q : Int) = (a : Int) + ((k' + 1 : Nat) : Int) ∧ (q : Int) = ((k + 1 : Nat) : Int) by omega)
          have b1 : (0 : Int) ≤ (k : Int) := by omega
          have b2 : (k : Int) < (xs.length : Int) := by omega
          have b3 : (0 : Int) ≤ (q : Int) := by omega
          have b4 : (q : Int) < (xs.length : Int) := by omega
          have n1 : k ≠ q := by omega
          have n2 : q ≠ k := by omega
          have c1 : decide ((k : Int) < (p : Int)) = true := decide_eq_true (by omega)
          have c2 : decide (k < p) = true := decide_eq_true hkl
          have HW := Aside0.mk (show wrap64 ((k : Int) + 1) = ((k + 1 : Nat) : Int) from ww (by omega) (by omega))
          have E1 := Aside0.mk (show IntKind.i64.wrap ((k : Int) + 1) = (q : Int) from wk (by omega) (by omega))
          obtain ⟨x, hx⟩ : ∃ x, at_ ys k = x := ⟨_, rfl⟩
          obtain ⟨y, hy⟩ : ∃ y, at_ ys q = y := ⟨_, rfl⟩
          rw [hx] at z0 hs
          rw [hy] at z2 hs
          have HS := Aside0.mk hs
          have P1 : p ≤ 1000 := by omega
          clear hM hsw hs hx hy hyl hys hq hb hq2 hk hp hk2
          go_wp2_with fail
          have e1 := E1.out
          clear B1 B2 B3 B4 P1 hkl c1 c2 e3 e2 hmb h9
          go_region
          go_wp2_with fail
          first
            | rw [HW.out]
            | skip
          exact ⟨⟨k' + 1, HK.out.1, by rw [HK.out.2.2.1], HS.out.drew⟩, meas HK.out.2.2.2 HK.out.2.1⟩
        · have hek : k' = i - 1 - a := by have := HQ.out; omega
          have c1 : decide ((k : Int) < (p : Int)) = false := decide_eq_false (by omega)
          have c2 : decide (k < p) = false := decide_eq_false hkl
          rw [hek] at hM
          have HM := Aside0.mk hM
          have P1 : p ≤ 1000 := by omega
          clear hM hek
          go_wp2_with fail
          refine bodyPost_ret (results_none rfl _ _ _) rfl ?_
          exact ⟨rfl, _, HUP.out, HM.out⟩
end Go.Proofs.Ytlklcfaejmeljaa.St
