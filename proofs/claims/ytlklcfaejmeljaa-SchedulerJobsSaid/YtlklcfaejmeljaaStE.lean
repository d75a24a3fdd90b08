/- slices.SortStableFunc: the symmetric merge where the right half has one element. -/
import Derived.Test.YtlklcfaejmeljaaStD
namespace Go.Proofs.Ytlklcfaejmeljaa.St
open Go.RowKit Go.Proofs.YtlklcfaejmeljaaW.PrintWords Go.Proofs.Ytlklcfaejmeljaa.Sl Go.Proofs.Ytlklcfaejmeljaa.Srt
set_option linter.unusedVariables false
set_option linter.unusedSimpArgs false

def DnRel (w0 : World) (v : Value) (xs : List Int) (m i : Nat) (L : List Chunk) (v17 : Value) (wr : World) : Prop :=
  ∃ k : Nat, k ≤ m - i ∧ v17 = .int .i64 ((m - k : Nat) : Int) ∧ Mem w0 wr (rws w0 v (dn xs m k) L)
set_option maxRecDepth 100000 in
set_option maxHeartbeats 8000000 in
theorem symB {w0 w : World} {go c gb n : Nat} {cf : Int → Int → Int} {xs : List Int} {L : List Chunk} (a m b : Nat) (hR : SWO (lt_ cf)) (hC : CmpOk w0 (.slice (some ⟨go, 0, none⟩) xs.length c) gb cf n L) (ham : a + 1 < m) (hm : b = m + 1) (hb : b ≤ xs.length) (h9 : xs.length ≤ 1000) (hin : inR n xs) (hh : Halves (lt_ cf) xs a m b) (hM : Mem w0 w (rws w0 (.slice (some ⟨go, 0, none⟩) xs.length c) xs L)) :
    Calls Try.prog 53 #[.slice (some ⟨go, 0, none⟩) xs.length c, .int .i64 (a : Int), .int .i64 (m : Int), .int .i64 (b : Int), fnv gb] w fun e w' => e = .returned (.tuple #[]) ∧ ∃ ys, Merged (lt_ cf) xs ys a b ∧ Mem w0 w' (rws w0 (.slice (some ⟨go, 0, none⟩) xs.length c) ys L) := by
  have HM := Aside0.mk hM
  have HIN := Aside0.mk hin
  have HC := Aside0.mk hC
  have HR := Aside0.mk hR
  have HH := Aside0.mk hh
  have HB := Aside0.mk hb
  have HMA := Aside0.mk hm
  have B1 : b ≤ 1000 := by omega
  have B2 : m ≤ 1000 := by omega
  have B3 : a ≤ 1000 := by omega
  have c8 : ((m : Int) - (a : Int) == 1) = false := beq_eq_false_iff_ne.2 (by omega)
  have c9 : decide ((m : Int) - (a : Int) = 1) = false := decide_eq_false (by omega)
  have e1 : (b : Int) - (m : Int) = 1 := by omega
  clear hM hin hC hR hh hb hm
  go_enter Try.func53, Try.ntmps53
  go_wp2_with fail
  clear e1 c8 c9
  go_loopw [14, 15] (fun v14 v15 wr => SrRel w0 (.slice (some ⟨go, 0, none⟩) xs.length c) cf xs m a m L v14 v15 wr) (fun i j _ => (intOf j).toNat - (intOf i).toNat)
  case atStart => exact ⟨a, m, Nat.le_refl _, by omega, Nat.le_refl _, rfl, rfl, .inl rfl, .inl rfl, HM.out⟩
  case round =>
    obtain ⟨i, j, h1, h2, h3, rfl, rfl, h4, h5, hM⟩ := hrel
    clear HM
    by_cases hlt : i < j
    · obtain ⟨h, hd⟩ : ∃ h, h = (i + j) / 2 := ⟨_, rfl⟩
      have hb := HB.out
      have hma := HMA.out
      have q1 : i ≤ h := by omega
      have q2 : h < j := by omega
      obtain ⟨z0, z1⟩ := cell2 hM (k := m) (by omega)
      obtain ⟨z2, z3⟩ := cell2 hM (k := h) (by omega)
      have hf := HH.out.f h m (by omega) (by omega) (Nat.le_refl _) (by omega)
      have HX := Aside0.mk (HIN.out.at (k := m) (by omega))
      have HY := Aside0.mk (HIN.out.at (k := h) (by omega))
      have HLT := Aside0.mk (fun (hc : lt_ cf (at_ xs m) (at_ xs h)) => (show R (lt_ cf) (at_ xs m) (at_ xs h) from .inl hc))
      have HGE := Aside0.mk (fun (hc : ¬ lt_ cf (at_ xs m) (at_ xs h)) => (show R (lt_ cf) (at_ xs (h + 1 - 1)) (at_ xs m) from .inr ⟨hc, hf⟩))
      have H4 := Aside0.mk h4
      have H5 := Aside0.mk h5
      have HQ := Aside0.mk (show a ≤ h ∧ h + 1 ≤ j ∧ j ≤ m ∧ a ≤ i ∧ i ≤ h by omega)
      have HM := Aside0.mk hM
      have b1 : (0 : Int) ≤ (h : Int) := by omega
      have b2 : (h : Int) < (xs.length : Int) := by omega
      have b3 : (0 : Int) ≤ (m : Int) := by omega
      have b4 : (m : Int) < (xs.length : Int) := by omega
      have b5 : h ≤ 1000 := by omega
      have b6 : i ≤ 1000 := by omega
      have b7 : j ≤ 1000 := by omega
      have e2 : ((i : Int) + (j : Int)) / 2 = (h : Int) := by omega
      clear hM h4 h5 hf hb hd h1 h2 h3 q1 q2 hma
      obtain ⟨x, hx⟩ : ∃ x, at_ xs m = x := ⟨_, rfl⟩
      obtain ⟨y, hy⟩ : ∃ y, at_ xs h = y := ⟨_, rfl⟩
      have HXE := Aside0.mk hx
      have HYE := Aside0.mk hy
      rw [hx] at z0 HX HLT HGE
      rw [hy] at z2 HY HLT HGE
      clear hx hy
      go_wp2_with fail
      clear e2
      go_region_held3 (fun W => W.cell? ⟨go, m, none⟩ = some (.int .i64 x) ∧ W.cell? ⟨go, h, none⟩ = some (.int .i64 y))
        (first
          | exact ⟨z0, z2⟩
          | exact ⟨zz0, zz2⟩
          | (go_split_ands; refine ⟨?_, ?_⟩ <;> assumption))
        (first
          | (go_at_call 39
             refine (HC.out _ xs x y HM.out.drew HX.out HY.out).mono ?_
             rintro e w2 ⟨rfl, hM⟩
             have HM2 := Aside0.mk hM
             obtain ⟨zz0, zz1⟩ := cell2 hM (k := m) (by have := HB.out; have := HMA.out; omega)
             obtain ⟨zz2, zz3⟩ := cell2 hM (k := h) (by have := HQ.out; have := HB.out; have := HMA.out; omega)
             rw [HXE.out] at zz0
             rw [HYE.out] at zz2
             clear hM))
      by_cases hc : cf x y < 0
      · have d1 : decide (cf x y < 0) = true := decide_eq_true hc
        have HCX := Aside0.mk (HLT.out hc)
        have HNC := Aside0.mk hc
        clear hc
        go_wp2_with fail
        · rename_i hx
          rw [d1] at hx
          cases hx
        exact ⟨⟨i, h, by have := HQ.out; omega, by have := HQ.out; omega, by have := HQ.out; omega, rfl, rfl, H4.out, .inr (by rw [HYE.out, HXE.out]; exact HCX.out), HM2.out⟩, meas3 (by have := HQ.out; omega)⟩
      · have d1 : decide (cf x y < 0) = false := decide_eq_false hc
        have HCX := Aside0.mk (HGE.out hc)
        have hge : 0 ≤ cf x y := by omega
        clear hc
        go_wp2_with fail
        rotate_left
        · rename_i hx
          rw [d1] at hx
          cases hx
        exact ⟨⟨h + 1, j, by have := HQ.out; omega, by have := HQ.out; omega, by have := HQ.out; omega, by go_num, rfl, .inr (by rw [HXE.out]; exact HCX.out), by rw [HXE.out] at H5 ⊢; exact H5.out, HM2.out⟩, by have := HQ.out; simp [intOf]; omega⟩
    · obtain rfl : i = j := by omega
      have HUP := Aside0.mk (dn_merged HR.out (xs := xs) (a := a) (m := m) (i := i) (by have := HB.out; have := HMA.out; omega) HH.out.l h1 h3 h4 h5)
      rw [← HMA.out] at HUP
      have HQ := Aside0.mk (show a ≤ i ∧ i ≤ m from ⟨h1, h3⟩)
      have HM := Aside0.mk hM
      have B4 : i ≤ 1000 := by omega
      clear hM h4 h5 h1 h2 h3
      go_wp2_with fail
      go_loopw [17] (fun v17 wr => DnRel w0 (.slice (some ⟨go, 0, none⟩) xs.length c) xs m i L v17 wr) (fun k _ => (intOf k).toNat)
      case atStart => exact ⟨0, Nat.zero_le _, rfl, HM.out⟩
      case round =>
        obtain ⟨k', hk, rfl, hM⟩ := hrel
        clear HM
        obtain ⟨k, hk2⟩ : ∃ k, k = m - k' := ⟨_, rfl⟩
        rw [← hk2]
        have hq := HQ.out
        by_cases hkl : i < k
        · obtain ⟨ys, hys⟩ : ∃ ys, ys = dn xs m k' := ⟨_, rfl⟩
          have hyl : ys.length = xs.length := by rw [hys, dn_len]
          rw [← hys] at hM
          have hb := HB.out
          have hma := HMA.out
          obtain ⟨q, hq2⟩ : ∃ q, k = q + 1 := ⟨k - 1, by omega⟩
          obtain ⟨z0, z1⟩ := cell2 hM (k := k) (by omega)
          obtain ⟨z2, z3⟩ := cell2 hM (k := q) (by omega)
          have hs := sw_put hM k q
          have hsw : sw ys k q = dn xs m (k' + 1) := by
            show _ = sw (dn xs m k') (m - k') (m - k' - 1)
            rw [hys, ← hk2, show k - 1 = q by omega]
          rw [hsw] at hs
          have HK := Aside0.mk (show k' + 1 ≤ m - i ∧ q < k ∧ q = m - (k' + 1) by omega)
          have b1 : (0 : Int) ≤ (k : Int) := by omega
          have b2 : (k : Int) < (xs.length : Int) := by omega
          have b3 : (0 : Int) ≤ (q : Int) := by omega
          have b4 : (q : Int) < (xs.length : Int) := by omega
          have b5 : (0 : Int) ≤ (k : Int) - 1 := by omega
          have b6 : (k : Int) - 1 < (xs.length : Int) := by omega
          have b7 : (1 : Int) ≤ (k : Int) := by omega
          have n1 : k ≠ q := by omega
          have n2 : q ≠ k := by omega
          have c1 : decide ((i : Int) < (k : Int)) = true := decide_eq_true (by omega)
          have c2 : decide (i < k) = true := decide_eq_true hkl
          have E1 := Aside0.mk (show IntKind.i64.wrap ((k : Int) - 1) = (q : Int) from wk (by omega) (by omega))
          have E5 := Aside0.mk (show IntKind.i64.wrap (q : Int) = (q : Int) from wk rfl (by omega))
          have E6 := Aside0.mk (show wrap64 (q : Int) = (q : Int) from ww rfl (by omega))
          have e4 : ((k : Int) - 1).toNat = q := by omega
          have e3 : (k : Int) - 1 = (q : Int) := by omega
          obtain ⟨x, hx⟩ : ∃ x, at_ ys k = x := ⟨_, rfl⟩
          obtain ⟨y, hy⟩ : ∃ y, at_ ys q = y := ⟨_, rfl⟩
          rw [hx] at z0 hs
          rw [hy] at z2 hs
          have HS := Aside0.mk hs
          have P1 : k ≤ 1000 := by omega
          clear hM hsw hs hx hy hyl hys hb hma hq2 hk hk2 hq
          go_wp2_with fail
          have e1 := E1.out
          have e5 := E5.out
          have e6 := E6.out
          clear B1 B2 B3 B4 P1 hkl c1 c2 ham h9
          go_region
          go_wp2_with fail
          exact ⟨⟨k' + 1, HK.out.1, by rw [← HK.out.2.2], HS.out.drew⟩, by have := HK.out.2.1; simp [intOf]; omega⟩
        · have hek : k' = m - i := by omega
          have c1 : decide ((i : Int) < (k : Int)) = false := decide_eq_false (by omega)
          have c2 : decide (i < k) = false := decide_eq_false hkl
          rw [hek] at hM
          have HM := Aside0.mk hM
          have P1 : k ≤ 1000 := by omega
          clear hM hek
          go_wp2_with fail
          refine bodyPost_ret (results_none rfl _ _ _) rfl ?_
          exact ⟨rfl, _, HUP.out, HM.out⟩
end Go.Proofs.Ytlklcfaejmeljaa.St
