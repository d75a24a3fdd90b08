/- slices.SortStableFunc: the symmetric merge. -/
import Derived.Test.YtlklcfaejmeljaaStE
namespace Go.Proofs.Ytlklcfaejmeljaa.St
open Go.RowKit Go.Proofs.YtlklcfaejmeljaaW.PrintWords Go.Proofs.Ytlklcfaejmeljaa.Sl Go.Proofs.Ytlklcfaejmeljaa.Srt
set_option linter.unusedVariables false
set_option linter.unusedSimpArgs false

/-- Where the search begins and ends. -/
structure Lim (a m b mid lo hi : Nat) : Prop where
  a1 : a + 1 < m
  b1 : m + 1 < b
  md : mid = (a + b) / 2
  lh : lo ≤ hi
  lo1 : a ≤ lo
  lo2 : mid + m ≤ lo + b
  lo3 : lo = a ∨ lo + b = mid + m
  hi1 : hi ≤ m
  hi2 : hi ≤ mid
  hi3 : hi = m ∨ hi = mid
theorem lim_gt {a m b mid : Nat} (h1 : a + 1 < m) (h2 : m + 1 < b) (hd : mid = (a + b) / 2) (h : mid < m) : Lim a m b mid (mid + m - b) mid :=
  ⟨h1, h2, hd, by omega, by omega, by omega, by omega, by omega, by omega, by omega⟩
theorem lim_le {a m b mid : Nat} (h1 : a + 1 < m) (h2 : m + 1 < b) (hd : mid = (a + b) / 2) (h : ¬ mid < m) : Lim a m b mid a m :=
  ⟨h1, h2, hd, by omega, by omega, by omega, by omega, by omega, by omega, by omega⟩
/-- The search for the split: it lies in [s, r]. -/
structure Sy (cf : Int → Int → Int) (xs : List Int) (q lo hi s r : Nat) : Prop where
  ls : lo ≤ s
  sr : s ≤ r
  rh : r ≤ hi
  low : s = lo ∨ R (lt_ cf) (at_ xs (s - 1)) (at_ xs (q - s))
  high : r = hi ∨ R (lt_ cf) (at_ xs (q - 1 - r)) (at_ xs r)
theorem Sy.split {cf : Int → Int → Int} {xs : List Int} {a m b mid lo hi s : Nat} (hl : Lim a m b mid lo hi) (h : Sy cf xs (mid + m) lo hi s s) : Split (lt_ cf) xs a m b s (mid + m - s) := by
  have h1 := h.ls
  have h2 := h.rh
  have k1 := hl.lo1
  have k2 := hl.lo2
  have k3 := hl.lo3
  have k4 := hl.hi1
  have k5 := hl.hi2
  have k6 := hl.hi3
  refine ⟨by omega, by omega, by omega, by omega, ?_, ?_⟩
  · rcases h.low with h | h
    · rcases k3 with k3 | k3
      · exact .inl (by omega)
      · exact .inr (.inl (by omega))
    · exact .inr (.inr h)
  · rcases h.high with h | h
    · rcases k6 with k6 | k6
      · exact .inr (.inl (by omega))
      · exact .inl (by omega)
    · refine .inr (.inr ?_)
      rw [show mid + m - s - 1 = mid + m - 1 - s by omega]
      exact h
def SyRel (w0 : World) (v : Value) (cf : Int → Int → Int) (xs : List Int) (q lo hi : Nat) (L : List Chunk) (v20 v21 : Value) (wr : World) : Prop :=
  ∃ (s r : Nat), v20 = .int .i64 (s : Int) ∧ v21 = .int .i64 (r : Int) ∧ Sy cf xs q lo hi s r ∧ Mem w0 wr (rws w0 v xs L)
def LimCut (w0 : World) (v : Value) (xs : List Int) (a m b mid : Nat) (L : List Chunk) (v20 v21 : Value) (wr : World) : Prop :=
  ∃ (lo hi : Nat), v20 = .int .i64 (lo : Int) ∧ v21 = .int .i64 (hi : Int) ∧ Lim a m b mid lo hi ∧ Mem w0 wr (rws w0 v xs L)
/-- The merge, as a recursive call may use it. -/
def SymAt (w0 : World) (go c gb : Nat) (cf : Int → Int → Int) (xs : List Int) (n : Nat) (L : List Chunk) (d : Nat) : Prop :=
  ∀ (W : World) (ys : List Int) (a m b : Nat), b - a ≤ d → a < m → m < b → b ≤ xs.length → ys.length = xs.length → inR n ys → Halves (lt_ cf) ys a m b → Mem w0 W (rws w0 (.slice (some ⟨go, 0, none⟩) xs.length c) ys L) →
    Calls Try.prog 53 #[.slice (some ⟨go, 0, none⟩) xs.length c, .int .i64 (a : Int), .int .i64 (m : Int), .int .i64 (b : Int), fnv gb] W fun e w' => e = .returned (.tuple #[]) ∧ ∃ zs, Merged (lt_ cf) ys zs a b ∧ Mem w0 w' (rws w0 (.slice (some ⟨go, 0, none⟩) xs.length c) zs L)
theorem halvesR {lt : Int → Int → Prop} (hR : SWO lt) {xs ys zs : List Int} {a m b s e mid : Nat} (h : Halves lt xs a m b) (hs : Split lt xs a m b s e) (hc : mid + m = s + e) (hr : Rot xs ys s m e) (h1 : Merged lt ys zs a mid) (hac : a ≤ mid) (hce : mid ≤ e) (heb : e ≤ b) : Halves lt zs mid e b :=
  ((mid_of hR h hs hc hr).left h1 hac hce heb).2.1
theorem fin {lt : Int → Int → Prop} (hR : SWO lt) {xs ys zs us : List Int} {a m b s e mid : Nat} (h : Halves lt xs a m b) (hs : Split lt xs a m b s e) (hc : mid + m = s + e) (hr : Rot xs ys s m e) (h1 : Merged lt ys zs a mid) (h2 : Merged lt zs us mid b) (hac : a ≤ mid) (hce : mid ≤ e) (heb : e ≤ b) : Merged lt xs us a b := by
  have k := (mid_of hR h hs hc hr).left h1 hac hce heb
  have k1 := hs.s0
  have k2 := hs.e1
  exact ⟨((hr.same.wide k1 k2).trans (h1.same.wide (Nat.le_refl _) (by omega))).trans (h2.same.wide hac (Nat.le_refl _)), ord_join hac (by omega) k.1 k.2.2 h2⟩
/-- What is known when the search has ended at s. -/
structure Tail (cf : Int → Int → Int) (xs : List Int) (a m b mid s e : Nat) : Prop where
  hs : Split (lt_ cf) xs a m b s e
  hc : mid + m = s + e
  ac : a < mid
  cb : mid < b
  ce : mid ≤ e
  sc : s ≤ mid
theorem Tail.mk' {cf : Int → Int → Int} {xs : List Int} {a m b mid lo hi s : Nat} (hl : Lim a m b mid lo hi) (h : Sy cf xs (mid + m) lo hi s s) : Tail cf xs a m b mid s (mid + m - s) := by
  have hs := Sy.split hl h
  have h1 := h.ls
  have h2 := h.rh
  have k1 := hl.a1
  have k2 := hl.b1
  have k3 := hl.md
  have k4 := hl.hi1
  have k5 := hl.hi2
  exact ⟨hs, by omega, by omega, by omega, by omega, by omega⟩
set_option maxRecDepth 100000 in
set_option maxHeartbeats 16000000 in
theorem symC {w0 w : World} {go c gb n : Nat} {cf : Int → Int → Int} {xs : List Int} {L : List Chunk} (a m b : Nat) (hR : SWO (lt_ cf)) (hC : CmpOk w0 (.slice (some ⟨go, 0, none⟩) xs.length c) gb cf n L) (ham : a + 1 < m) (hmb : m + 1 < b) (hb : b ≤ xs.length) (h9 : xs.length ≤ 1000) (IH : SymAt w0 go c gb cf xs n L (b - a - 1)) (hin : inR n xs) (hh : Halves (lt_ cf) xs a m b) (hM : Mem w0 w (rws w0 (.slice (some ⟨go, 0, none⟩) xs.length c) xs L)) :
    Calls Try.prog 53 #[.slice (some ⟨go, 0, none⟩) xs.length c, .int .i64 (a : Int), .int .i64 (m : Int), .int .i64 (b : Int), fnv gb] w fun e w' => e = .returned (.tuple #[]) ∧ ∃ ys, Merged (lt_ cf) xs ys a b ∧ Mem w0 w' (rws w0 (.slice (some ⟨go, 0, none⟩) xs.length c) ys L) := by
  have HM := Aside0.mk hM
  have HIN := Aside0.mk hin
  have HC := Aside0.mk hC
  have HR := Aside0.mk hR
  have HH := Aside0.mk hh
  have HB := Aside0.mk hb
  have HA := Aside0.mk ham
  have HMB := Aside0.mk hmb
  have HIH := Aside0.mk IH
  obtain ⟨mid, hmid⟩ : ∃ mid, mid = (a + b) / 2 := ⟨_, rfl⟩
  have HMID := Aside0.mk hmid
  have B1 : b ≤ 1000 := by omega
  have B2 : m ≤ 1000 := by omega
  have B3 : a ≤ 1000 := by omega
  have B4 : mid ≤ 1000 := by omega
  have e1 : ((a : Int) + (b : Int)) / 2 = (mid : Int) := by omega
  have c8 : ((m : Int) - (a : Int) == 1) = false := beq_eq_false_iff_ne.2 (by omega)
  have c9 : decide ((m : Int) - (a : Int) = 1) = false := decide_eq_false (by omega)
  have c6 : ((b : Int) - (m : Int) == 1) = false := beq_eq_false_iff_ne.2 (by omega)
  have c7 : decide ((b : Int) - (m : Int) = 1) = false := decide_eq_false (by omega)
  clear hM hin hC hR hh hb IH hmid ham hmb
  go_enter Try.func53, Try.ntmps53
  go_upto_if 140 with (fail)
  clear c6 c7 c8 c9 e1
  go_cut [20, 21] (fun v20 v21 wx => LimCut w0 (.slice (some ⟨go, 0, none⟩) xs.length c) xs a m b mid L v20 v21 wx)
  case first =>
    go_wp2_with fail
    · rename_i hlt
      have HL := Aside0.mk (lim_gt HA.out HMB.out HMID.out hlt)
      have e1 : (mid : Int) + (m : Int) - (b : Int) = ((mid + m - b : Nat) : Int) := by have := HA.out; have := HMB.out; have := HMID.out; omega
      rw [e1]
      go_meet
      exact ⟨_, _, rfl, rfl, HL.out, HM.out⟩
    · rename_i hlt
      have HL := Aside0.mk (lim_le HA.out HMB.out HMID.out hlt)
      go_meet
      exact ⟨_, _, rfl, rfl, HL.out, HM.out⟩
  case rest =>
    obtain ⟨lo, hi, rfl, rfl, hL, hM⟩ := hcut
    clear HM
    have HM := Aside0.mk hM
    have HL := Aside0.mk hL
    have h1 := hL.lo1
    have h2 := hL.lo2
    have h3 := hL.hi1
    have h4 := hL.hi2
    have h5 := hL.lh
    have ham := HA.out
    have hmb := HMB.out
    have hmd := HMID.out
    obtain ⟨q, hq⟩ : ∃ q, q = mid + m := ⟨_, rfl⟩
    obtain ⟨p, hp⟩ : ∃ p, q = p + 1 := ⟨q - 1, by omega⟩
    have HQ := Aside0.mk hq
    have HP := Aside0.mk hp
    have B5 : q ≤ 2000 := by omega
    have B6 : p ≤ 2000 := by omega
    rw [show (mid : Int) + (m : Int) = (q : Int) by omega]
    have e2 : (q : Int) - 1 = (p : Int) := by omega
    have HSY := Aside0.mk (show Sy cf xs q lo hi lo hi from ⟨Nat.le_refl _, h5, Nat.le_refl _, .inl rfl, .inl rfl⟩)
    clear hM hL h1 h2 h3 h4 h5 ham hmb hmd hq hp
    go_wp2_with fail
    clear e2
    go_loopw [20, 21] (fun v20 v21 wr => SyRel w0 (.slice (some ⟨go, 0, none⟩) xs.length c) cf xs q lo hi L v20 v21 wr) (fun s r _ => (intOf r).toNat - (intOf s).toNat)
    case atStart => exact ⟨lo, hi, rfl, rfl, HSY.out, HM.out⟩
    case round =>
      obtain ⟨s, r, rfl, rfl, hsy, hM⟩ := hrel
      clear HM HSY
      by_cases hlt : s < r
      · obtain ⟨k, hk⟩ : ∃ k, k = (s + r) / 2 := ⟨_, rfl⟩
        have hb := HB.out
        have l1 := HL.out.lo1
        have l2 := HL.out.lo2
        have l3 := HL.out.hi1
        have l4 := HL.out.hi2
        have y1 := hsy.ls
        have y2 := hsy.rh
        have ham := HA.out
        have hmb := HMB.out
        have hq := HQ.out
        have hp := HP.out
        obtain ⟨d, hd⟩ : ∃ d, d = p - k := ⟨_, rfl⟩
        have q1 : s ≤ k := by omega
        have q2 : k < r := by omega
        have q3 : m ≤ d := by omega
        have q4 : d < b := by omega
        obtain ⟨z0, z1⟩ := cell2 hM (k := d) (by omega)
        obtain ⟨z2, z3⟩ := cell2 hM (k := k) (by omega)
        have hf := HH.out.f k d (by omega) (by omega) q3 q4
        have HX := Aside0.mk (HIN.out.at (k := d) (by omega))
        have HY := Aside0.mk (HIN.out.at (k := k) (by omega))
        have HLT := Aside0.mk (fun (hc : lt_ cf (at_ xs d) (at_ xs k)) => (show Sy cf xs q lo hi s k from ⟨hsy.ls, q1, by omega, hsy.low, .inr (by rw [show q - 1 - k = d by omega]; exact .inl hc)⟩))
        have HGE := Aside0.mk (fun (hc : ¬ lt_ cf (at_ xs d) (at_ xs k)) => (show Sy cf xs q lo hi (k + 1) r from ⟨by omega, by omega, hsy.rh, .inr (by rw [show q - (k + 1) = d by omega, show k + 1 - 1 = k by omega]; exact .inr ⟨hc, hf⟩), hsy.high⟩))
        have HKQ := Aside0.mk (And.intro q1 q2)
        have HDL := Aside0.mk (show d < xs.length ∧ k < xs.length by omega)
        have HM := Aside0.mk hM
        have b1 : (0 : Int) ≤ (d : Int) := by omega
        have b2 : (d : Int) < (xs.length : Int) := by omega
        have b3 : (0 : Int) ≤ (k : Int) := by omega
        have b4 : (k : Int) < (xs.length : Int) := by omega
        have b5 : k ≤ 1000 := by omega
        have b6 : s ≤ 1000 := by omega
        have b7 : r ≤ 1000 := by omega
        have b8 : (0 : Int) ≤ (p : Int) - (k : Int) := by omega
        have b9 : (p : Int) - (k : Int) < (xs.length : Int) := by omega
        have e2 : ((s : Int) + (r : Int)) / 2 = (k : Int) := by omega
        have e3 : (p : Int) - (k : Int) = (d : Int) := by omega
        have e4 : ((p : Int) - (k : Int)).toNat = d := by omega
        have E5 := Aside0.mk (show IntKind.i64.wrap ((p : Int) - (k : Int)) = (d : Int) from wk (by omega) (by omega))
        have E6 := Aside0.mk (show IntKind.i64.wrap (d : Int) = (d : Int) from wk rfl (by omega))
        have HWK := Aside0.mk (show wrap64 ((k : Int) + 1) = ((k + 1 : Nat) : Int) from ww (by omega) (by omega))
        have E7 := Aside0.mk (show wrap64 (d : Int) = (d : Int) from ww rfl (by omega))
        clear hM hf hb hk hsy q1 q2 q3 q4 l1 l2 l3 l4 y1 y2 ham hmb hq hp hd
        obtain ⟨x, hx⟩ : ∃ x, at_ xs d = x := ⟨_, rfl⟩
        obtain ⟨y, hy⟩ : ∃ y, at_ xs k = y := ⟨_, rfl⟩
        have HXE := Aside0.mk hx
        have HYE := Aside0.mk hy
        rw [hx] at z0 HX HLT HGE
        rw [hy] at z2 HY HLT HGE
        clear hx hy
        go_wp2_with fail
        have e5 := E5.out
        have e6 := E6.out
        have e7 := E7.out
        clear e2 b5 b6 b7 hlt B1 B2 B3 B4 B5 B6 h9
        go_region_held3 (fun W => W.cell? ⟨go, d, none⟩ = some (.int .i64 x) ∧ W.cell? ⟨go, k, none⟩ = some (.int .i64 y))
          (first
            | exact ⟨z0, z2⟩
            | exact ⟨zz0, zz2⟩
            | (go_split_ands; refine ⟨?_, ?_⟩ <;> assumption))
          (first
            | (go_at_call 39
               refine (HC.out _ xs x y HM.out.drew HX.out HY.out).mono ?_
               rintro e w2 ⟨rfl, hM⟩
               have HM2 := Aside0.mk hM
               obtain ⟨zz0, zz1⟩ := cell2 hM (k := d) HDL.out.1
               obtain ⟨zz2, zz3⟩ := cell2 hM (k := k) HDL.out.2
               rw [HXE.out] at zz0
               rw [HYE.out] at zz2
               clear hM))
        clear e3 e4 e5 e6 e7
        by_cases hc : cf x y < 0
        · have d1 : decide (cf x y < 0) = true := decide_eq_true hc
          have HCX := Aside0.mk (HLT.out hc)
          clear hc
          go_wp2_with fail
          · rename_i hx
            rw [d1] at hx
            cases hx
          exact ⟨⟨s, k, rfl, rfl, HCX.out, HM2.out⟩, meas3 (by have := HKQ.out; omega)⟩
        · have d1 : decide (cf x y < 0) = false := decide_eq_false hc
          have HCX := Aside0.mk (HGE.out hc)
          have hge : 0 ≤ cf x y := by omega
          clear hc
          go_wp2_with fail
          rotate_left
          · rename_i hx
            rw [d1] at hx
            cases hx
          first
            | rw [HWK.out]
            | skip
          exact ⟨⟨k + 1, r, by go_num, rfl, HCX.out, HM2.out⟩, by have := HKQ.out; simp [intOf]; omega⟩
      · obtain rfl : s = r := by have := hsy.sr; omega
        rw [HQ.out] at hsy
        have ht := Tail.mk' HL.out hsy
        obtain ⟨e_, he⟩ : ∃ e_, e_ = mid + m - s := ⟨_, rfl⟩
        rw [← he] at ht
        have s0 := ht.hs.s0
        have s1 := ht.hs.s1
        have s2 := ht.hs.e0
        have s3 := ht.hs.e1
        have s4 := ht.hc
        have s5 := ht.ac
        have s6 := ht.cb
        have s7 := ht.ce
        have s8 := ht.sc
        have hq := HQ.out
        have hb := HB.out
        have ham := HA.out
        have hmb := HMB.out
        have HT := Aside0.mk ht
        have HM := Aside0.mk hM
        have b5 : e_ ≤ 1000 := by omega
        have b6 : s ≤ 1000 := by omega
        have e2 : (q : Int) - (s : Int) = (e_ : Int) := by omega
        clear ht hM hsy HL he hlt
        by_cases k1x : s < m
        · by_cases k1y : m < e_
          · have t1x : decide ((s : Int) < (m : Int)) = true := decide_eq_true (by omega)
            have t1xn : decide (s < m) = true := decide_eq_true (by omega)
            have t1y : decide ((m : Int) < (e_ : Int)) = true := decide_eq_true (by omega)
            have t1yn : decide (m < e_) = true := decide_eq_true (by omega)
            by_cases k2x : a < s
            · by_cases k2y : s < mid
              · have t2x : decide ((a : Int) < (s : Int)) = true := decide_eq_true (by omega)
                have t2xn : decide (a < s) = true := decide_eq_true (by omega)
                have t2y : decide ((s : Int) < (mid : Int)) = true := decide_eq_true (by omega)
                have t2yn : decide (s < mid) = true := decide_eq_true (by omega)
                by_cases k3x : mid < e_
                · by_cases k3y : e_ < b
                  · have t3x : decide ((mid : Int) < (e_ : Int)) = true := decide_eq_true (by omega)
                    have t3xn : decide (mid < e_) = true := decide_eq_true (by omega)
                    have t3y : decide ((e_ : Int) < (b : Int)) = true := decide_eq_true (by omega)
                    have t3yn : decide (e_ < b) = true := decide_eq_true (by omega)
                    have HR1 := Aside0.mk (show s < m ∧ m < e_ by omega)
                    have HR2 := Aside0.mk (show a < s ∧ s < mid by omega)
                    have HR3 := Aside0.mk (show mid < e_ ∧ e_ < b by omega)
                    clear hq hb ham hmb s0 s1 s2 s3 s4 s5 s6 s7 s8 k1x k1y k2x k2y k3x k3y
                    go_wp2_with fail
                    have key := rotate (c := c) (L := L) (w0 := w0) (go := go) (xs := xs) s m e_ (fnv gb) HR1.out.1 HR1.out.2 (by have := HT.out.hs.e1; have := HB.out; omega) h9 HM.out
                    refine key.mono ?_
                    clear key
                    rintro e w2 ⟨rfl, ys, hrot, hM⟩
                    have HY := Aside0.mk hrot
                    have HMY := Aside0.mk hM
                    clear hrot hM
                    go_wp2_with fail
                    have key := HIH.out _ ys a s mid (by have := HT.out.cb; omega) HR2.out.1 HR2.out.2 (by have := HT.out.cb; have := HB.out; omega) HY.out.same.len (HIN.out.same HY.out.same) (mid_of HR.out HH.out HT.out.hs HT.out.hc HY.out).l HMY.out
                    refine key.mono ?_
                    clear key
                    rintro e w3 ⟨rfl, zs, hmz, hM⟩
                    have HZ := Aside0.mk hmz
                    have HMZ := Aside0.mk hM
                    clear hmz hM
                    go_wp2_with fail
                    have key := HIH.out _ zs mid e_ b (by have := HT.out.ac; have := HT.out.cb; omega) HR3.out.1 HR3.out.2 HB.out (HZ.out.same.len.trans HY.out.same.len) ((HIN.out.same HY.out.same).same HZ.out.same) (halvesR HR.out HH.out HT.out.hs HT.out.hc HY.out HZ.out (Nat.le_of_lt HT.out.ac) HT.out.ce HT.out.hs.e1) HMZ.out
                    refine key.mono ?_
                    clear key
                    rintro e w4 ⟨rfl, us, hmu, hM⟩
                    have HU := Aside0.mk hmu
                    have HMU := Aside0.mk hM
                    clear hmu hM
                    go_wp2_with fail
                    go_end0
                    exact ⟨rfl, _, fin HR.out HH.out HT.out.hs HT.out.hc HY.out HZ.out HU.out (Nat.le_of_lt HT.out.ac) HT.out.ce HT.out.hs.e1, HMU.out⟩
                  · have t3x : decide ((mid : Int) < (e_ : Int)) = true := decide_eq_true (by omega)
                    have t3xn : decide (mid < e_) = true := decide_eq_true (by omega)
                    have t3y : decide ((e_ : Int) < (b : Int)) = false := decide_eq_false (by omega)
                    have t3yn : decide (e_ < b) = false := decide_eq_false (by omega)
                    have HR1 := Aside0.mk (show s < m ∧ m < e_ by omega)
                    have HR2 := Aside0.mk (show a < s ∧ s < mid by omega)
                    have HR3 := Aside0.mk (show e_ ≤ mid ∨ b ≤ e_ by omega)
                    clear hq hb ham hmb s0 s1 s2 s3 s4 s5 s6 s7 s8 k1x k1y k2x k2y k3x k3y
                    go_wp2_with fail
                    have key := rotate (c := c) (L := L) (w0 := w0) (go := go) (xs := xs) s m e_ (fnv gb) HR1.out.1 HR1.out.2 (by have := HT.out.hs.e1; have := HB.out; omega) h9 HM.out
                    refine key.mono ?_
                    clear key
                    rintro e w2 ⟨rfl, ys, hrot, hM⟩
                    have HY := Aside0.mk hrot
                    have HMY := Aside0.mk hM
                    clear hrot hM
                    go_wp2_with fail
                    have key := HIH.out _ ys a s mid (by have := HT.out.cb; omega) HR2.out.1 HR2.out.2 (by have := HT.out.cb; have := HB.out; omega) HY.out.same.len (HIN.out.same HY.out.same) (mid_of HR.out HH.out HT.out.hs HT.out.hc HY.out).l HMY.out
                    refine key.mono ?_
                    clear key
                    rintro e w3 ⟨rfl, zs, hmz, hM⟩
                    have HZ := Aside0.mk hmz
                    have HMZ := Aside0.mk hM
                    clear hmz hM
                    go_wp2_with fail
                    go_end0
                    exact ⟨rfl, _, fin HR.out HH.out HT.out.hs HT.out.hc HY.out HZ.out ((halvesR HR.out HH.out HT.out.hs HT.out.hc HY.out HZ.out (Nat.le_of_lt HT.out.ac) HT.out.ce HT.out.hs.e1).done HR3.out) (Nat.le_of_lt HT.out.ac) HT.out.ce HT.out.hs.e1, HMZ.out⟩
                · have t3x : decide ((mid : Int) < (e_ : Int)) = false := decide_eq_false (by omega)
                  have t3xn : decide (mid < e_) = false := decide_eq_false (by omega)
                  have HR1 := Aside0.mk (show s < m ∧ m < e_ by omega)
                  have HR2 := Aside0.mk (show a < s ∧ s < mid by omega)
                  have HR3 := Aside0.mk (show e_ ≤ mid ∨ b ≤ e_ by omega)
                  clear hq hb ham hmb s0 s1 s2 s3 s4 s5 s6 s7 s8 k1x k1y k2x k2y k3x
                  go_wp2_with fail
                  have key := rotate (c := c) (L := L) (w0 := w0) (go := go) (xs := xs) s m e_ (fnv gb) HR1.out.1 HR1.out.2 (by have := HT.out.hs.e1; have := HB.out; omega) h9 HM.out
                  refine key.mono ?_
                  clear key
                  rintro e w2 ⟨rfl, ys, hrot, hM⟩
                  have HY := Aside0.mk hrot
                  have HMY := Aside0.mk hM
                  clear hrot hM
                  go_wp2_with fail
                  have key := HIH.out _ ys a s mid (by have := HT.out.cb; omega) HR2.out.1 HR2.out.2 (by have := HT.out.cb; have := HB.out; omega) HY.out.same.len (HIN.out.same HY.out.same) (mid_of HR.out HH.out HT.out.hs HT.out.hc HY.out).l HMY.out
                  refine key.mono ?_
                  clear key
                  rintro e w3 ⟨rfl, zs, hmz, hM⟩
                  have HZ := Aside0.mk hmz
                  have HMZ := Aside0.mk hM
                  clear hmz hM
                  go_wp2_with fail
                  go_end0
                  exact ⟨rfl, _, fin HR.out HH.out HT.out.hs HT.out.hc HY.out HZ.out ((halvesR HR.out HH.out HT.out.hs HT.out.hc HY.out HZ.out (Nat.le_of_lt HT.out.ac) HT.out.ce HT.out.hs.e1).done HR3.out) (Nat.le_of_lt HT.out.ac) HT.out.ce HT.out.hs.e1, HMZ.out⟩
              · have t2x : decide ((a : Int) < (s : Int)) = true := decide_eq_true (by omega)
                have t2xn : decide (a < s) = true := decide_eq_true (by omega)
                have t2y : decide ((s : Int) < (mid : Int)) = false := decide_eq_false (by omega)
                have t2yn : decide (s < mid) = false := decide_eq_false (by omega)
                by_cases k3x : mid < e_
                · by_cases k3y : e_ < b
                  · have t3x : decide ((mid : Int) < (e_ : Int)) = true := decide_eq_true (by omega)
                    have t3xn : decide (mid < e_) = true := decide_eq_true (by omega)
                    have t3y : decide ((e_ : Int) < (b : Int)) = true := decide_eq_true (by omega)
                    have t3yn : decide (e_ < b) = true := decide_eq_true (by omega)
                    have HR1 := Aside0.mk (show s < m ∧ m < e_ by omega)
                    have HR2 := Aside0.mk (show s ≤ a ∨ mid ≤ s by omega)
                    have HR3 := Aside0.mk (show mid < e_ ∧ e_ < b by omega)
                    clear hq hb ham hmb s0 s1 s2 s3 s4 s5 s6 s7 s8 k1x k1y k2x k2y k3x k3y
                    go_wp2_with fail
                    have key := rotate (c := c) (L := L) (w0 := w0) (go := go) (xs := xs) s m e_ (fnv gb) HR1.out.1 HR1.out.2 (by have := HT.out.hs.e1; have := HB.out; omega) h9 HM.out
                    refine key.mono ?_
                    clear key
                    rintro e w2 ⟨rfl, ys, hrot, hM⟩
                    have HY := Aside0.mk hrot
                    have HMY := Aside0.mk hM
                    clear hrot hM
                    go_wp2_with fail
                    have key := HIH.out _ ys mid e_ b (by have := HT.out.ac; have := HT.out.cb; omega) HR3.out.1 HR3.out.2 HB.out (((mid_of HR.out HH.out HT.out.hs HT.out.hc HY.out).l.done HR2.out).same.len.trans HY.out.same.len) ((HIN.out.same HY.out.same).same ((mid_of HR.out HH.out HT.out.hs HT.out.hc HY.out).l.done HR2.out).same) (halvesR HR.out HH.out HT.out.hs HT.out.hc HY.out ((mid_of HR.out HH.out HT.out.hs HT.out.hc HY.out).l.done HR2.out) (Nat.le_of_lt HT.out.ac) HT.out.ce HT.out.hs.e1) HMY.out
                    refine key.mono ?_
                    clear key
                    rintro e w4 ⟨rfl, us, hmu, hM⟩
                    have HU := Aside0.mk hmu
                    have HMU := Aside0.mk hM
                    clear hmu hM
                    go_wp2_with fail
                    go_end0
                    exact ⟨rfl, _, fin HR.out HH.out HT.out.hs HT.out.hc HY.out ((mid_of HR.out HH.out HT.out.hs HT.out.hc HY.out).l.done HR2.out) HU.out (Nat.le_of_lt HT.out.ac) HT.out.ce HT.out.hs.e1, HMU.out⟩
                  · have t3x : decide ((mid : Int) < (e_ : Int)) = true := decide_eq_true (by omega)
                    have t3xn : decide (mid < e_) = true := decide_eq_true (by omega)
                    have t3y : decide ((e_ : Int) < (b : Int)) = false := decide_eq_false (by omega)
                    have t3yn : decide (e_ < b) = false := decide_eq_false (by omega)
                    have HR1 := Aside0.mk (show s < m ∧ m < e_ by omega)
                    have HR2 := Aside0.mk (show s ≤ a ∨ mid ≤ s by omega)
                    have HR3 := Aside0.mk (show e_ ≤ mid ∨ b ≤ e_ by omega)
                    clear hq hb ham hmb s0 s1 s2 s3 s4 s5 s6 s7 s8 k1x k1y k2x k2y k3x k3y
                    go_wp2_with fail
                    have key := rotate (c := c) (L := L) (w0 := w0) (go := go) (xs := xs) s m e_ (fnv gb) HR1.out.1 HR1.out.2 (by have := HT.out.hs.e1; have := HB.out; omega) h9 HM.out
                    refine key.mono ?_
                    clear key
                    rintro e w2 ⟨rfl, ys, hrot, hM⟩
                    have HY := Aside0.mk hrot
                    have HMY := Aside0.mk hM
                    clear hrot hM
                    go_wp2_with fail
                    go_end0
                    exact ⟨rfl, _, fin HR.out HH.out HT.out.hs HT.out.hc HY.out ((mid_of HR.out HH.out HT.out.hs HT.out.hc HY.out).l.done HR2.out) ((halvesR HR.out HH.out HT.out.hs HT.out.hc HY.out ((mid_of HR.out HH.out HT.out.hs HT.out.hc HY.out).l.done HR2.out) (Nat.le_of_lt HT.out.ac) HT.out.ce HT.out.hs.e1).done HR3.out) (Nat.le_of_lt HT.out.ac) HT.out.ce HT.out.hs.e1, HMY.out⟩
                · have t3x : decide ((mid : Int) < (e_ : Int)) = false := decide_eq_false (by omega)
                  have t3xn : decide (mid < e_) = false := decide_eq_false (by omega)
                  have HR1 := Aside0.mk (show s < m ∧ m < e_ by omega)
                  have HR2 := Aside0.mk (show s ≤ a ∨ mid ≤ s by omega)
                  have HR3 := Aside0.mk (show e_ ≤ mid ∨ b ≤ e_ by omega)
                  clear hq hb ham hmb s0 s1 s2 s3 s4 s5 s6 s7 s8 k1x k1y k2x k2y k3x
                  go_wp2_with fail
                  have key := rotate (c := c) (L := L) (w0 := w0) (go := go) (xs := xs) s m e_ (fnv gb) HR1.out.1 HR1.out.2 (by have := HT.out.hs.e1; have := HB.out; omega) h9 HM.out
                  refine key.mono ?_
                  clear key
                  rintro e w2 ⟨rfl, ys, hrot, hM⟩
                  have HY := Aside0.mk hrot
                  have HMY := Aside0.mk hM
                  clear hrot hM
                  go_wp2_with fail
                  go_end0
                  exact ⟨rfl, _, fin HR.out HH.out HT.out.hs HT.out.hc HY.out ((mid_of HR.out HH.out HT.out.hs HT.out.hc HY.out).l.done HR2.out) ((halvesR HR.out HH.out HT.out.hs HT.out.hc HY.out ((mid_of HR.out HH.out HT.out.hs HT.out.hc HY.out).l.done HR2.out) (Nat.le_of_lt HT.out.ac) HT.out.ce HT.out.hs.e1).done HR3.out) (Nat.le_of_lt HT.out.ac) HT.out.ce HT.out.hs.e1, HMY.out⟩
            · have t2x : decide ((a : Int) < (s : Int)) = false := decide_eq_false (by omega)
              have t2xn : decide (a < s) = false := decide_eq_false (by omega)
              by_cases k3x : mid < e_
              · by_cases k3y : e_ < b
                · have t3x : decide ((mid : Int) < (e_ : Int)) = true := decide_eq_true (by omega)
                  have t3xn : decide (mid < e_) = true := decide_eq_true (by omega)
                  have t3y : decide ((e_ : Int) < (b : Int)) = true := decide_eq_true (by omega)
                  have t3yn : decide (e_ < b) = true := decide_eq_true (by omega)
                  have HR1 := Aside0.mk (show s < m ∧ m < e_ by omega)
                  have HR2 := Aside0.mk (show s ≤ a ∨ mid ≤ s by omega)
                  have HR3 := Aside0.mk (show mid < e_ ∧ e_ < b by omega)
                  clear hq hb ham hmb s0 s1 s2 s3 s4 s5 s6 s7 s8 k1x k1y k2x k3x k3y
                  go_wp2_with fail
                  have key := rotate (c := c) (L := L) (w0 := w0) (go := go) (xs := xs) s m e_ (fnv gb) HR1.out.1 HR1.out.2 (by have := HT.out.hs.e1; have := HB.out; omega) h9 HM.out
                  refine key.mono ?_
                  clear key
                  rintro e w2 ⟨rfl, ys, hrot, hM⟩
                  have HY := Aside0.mk hrot
                  have HMY := Aside0.mk hM
                  clear hrot hM
                  go_wp2_with fail
                  have key := HIH.out _ ys mid e_ b (by have := HT.out.ac; have := HT.out.cb; omega) HR3.out.1 HR3.out.2 HB.out (((mid_of HR.out HH.out HT.out.hs HT.out.hc HY.out).l.done HR2.out).same.len.trans HY.out.same.len) ((HIN.out.same HY.out.same).same ((mid_of HR.out HH.out HT.out.hs HT.out.hc HY.out).l.done HR2.out).same) (halvesR HR.out HH.out HT.out.hs HT.out.hc HY.out ((mid_of HR.out HH.out HT.out.hs HT.out.hc HY.out).l.done HR2.out) (Nat.le_of_lt HT.out.ac) HT.out.ce HT.out.hs.e1) HMY.out
                  refine key.mono ?_
                  clear key
                  rintro e w4 ⟨rfl, us, hmu, hM⟩
                  have HU := Aside0.mk hmu
                  have HMU := Aside0.mk hM
                  clear hmu hM
                  go_wp2_with fail
                  go_end0
                  exact ⟨rfl, _, fin HR.out HH.out HT.out.hs HT.out.hc HY.out ((mid_of HR.out HH.out HT.out.hs HT.out.hc HY.out).l.done HR2.out) HU.out (Nat.le_of_lt HT.out.ac) HT.out.ce HT.out.hs.e1, HMU.out⟩
                · have t3x : decide ((mid : Int) < (e_ : Int)) = true := decide_eq_true (by omega)
                  have t3xn : decide (mid < e_) = true := decide_eq_true (by omega)
                  have t3y : decide ((e_ : Int) < (b : Int)) = false := decide_eq_false (by omega)
                  have t3yn : decide (e_ < b) = false := decide_eq_false (by omega)
                  have HR1 := Aside0.mk (show s < m ∧ m < e_ by omega)
                  have HR2 := Aside0.mk (show s ≤ a ∨ mid ≤ s by omega)
                  have HR3 := Aside0.mk (show e_ ≤ mid ∨ b ≤ e_ by omega)
                  clear hq hb ham hmb s0 s1 s2 s3 s4 s5 s6 s7 s8 k1x k1y k2x k3x k3y
                  go_wp2_with fail
                  have key := rotate (c := c) (L := L) (w0 := w0) (go := go) (xs := xs) s m e_ (fnv gb) HR1.out.1 HR1.out.2 (by have := HT.out.hs.e1; have := HB.out; omega) h9 HM.out
                  refine key.mono ?_
                  clear key
                  rintro e w2 ⟨rfl, ys, hrot, hM⟩
                  have HY := Aside0.mk hrot
                  have HMY := Aside0.mk hM
                  clear hrot hM
                  go_wp2_with fail
                  go_end0
                  exact ⟨rfl, _, fin HR.out HH.out HT.out.hs HT.out.hc HY.out ((mid_of HR.out HH.out HT.out.hs HT.out.hc HY.out).l.done HR2.out) ((halvesR HR.out HH.out HT.out.hs HT.out.hc HY.out ((mid_of HR.out HH.out HT.out.hs HT.out.hc HY.out).l.done HR2.out) (Nat.le_of_lt HT.out.ac) HT.out.ce HT.out.hs.e1).done HR3.out) (Nat.le_of_lt HT.out.ac) HT.out.ce HT.out.hs.e1, HMY.out⟩
              · have t3x : decide ((mid : Int) < (e_ : Int)) = false := decide_eq_false (by omega)
                have t3xn : decide (mid < e_) = false := decide_eq_false (by omega)
                have HR1 := Aside0.mk (show s < m ∧ m < e_ by omega)
                have HR2 := Aside0.mk (show s ≤ a ∨ mid ≤ s by omega)
                have HR3 := Aside0.mk (show e_ ≤ mid ∨ b ≤ e_ by omega)
                clear hq hb ham hmb s0 s1 s2 s3 s4 s5 s6 s7 s8 k1x k1y k2x k3x
                go_wp2_with fail
                have key := rotate (c := c) (L := L) (w0 := w0) (go := go) (xs := xs) s m e_ (fnv gb) HR1.out.1 HR1.out.2 (by have := HT.out.hs.e1; have := HB.out; omega) h9 HM.out
                refine key.mono ?_
                clear key
                rintro e w2 ⟨rfl, ys, hrot, hM⟩
                have HY := Aside0.mk hrot
                have HMY := Aside0.mk hM
                clear hrot hM
                go_wp2_with fail
                go_end0
                exact ⟨rfl, _, fin HR.out HH.out HT.out.hs HT.out.hc HY.out ((mid_of HR.out HH.out HT.out.hs HT.out.hc HY.out).l.done HR2.out) ((halvesR HR.out HH.out HT.out.hs HT.out.hc HY.out ((mid_of HR.out HH.out HT.out.hs HT.out.hc HY.out).l.done HR2.out) (Nat.le_of_lt HT.out.ac) HT.out.ce HT.out.hs.e1).done HR3.out) (Nat.le_of_lt HT.out.ac) HT.out.ce HT.out.hs.e1, HMY.out⟩
          · have t1x : decide ((s : Int) < (m : Int)) = true := decide_eq_true (by omega)
            have t1xn : decide (s < m) = true := decide_eq_true (by omega)
            have t1y : decide ((m : Int) < (e_ : Int)) = false := decide_eq_false (by omega)
            have t1yn : decide (m < e_) = false := decide_eq_false (by omega)
            by_cases k2x : a < s
            · by_cases k2y : s < mid
              · have t2x : decide ((a : Int) < (s : Int)) = true := decide_eq_true (by omega)
                have t2xn : decide (a < s) = true := decide_eq_true (by omega)
                have t2y : decide ((s : Int) < (mid : Int)) = true := decide_eq_true (by omega)
                have t2yn : decide (s < mid) = true := decide_eq_true (by omega)
                by_cases k3x : mid < e_
                · by_cases k3y : e_ < b
                  · have t3x : decide ((mid : Int) < (e_ : Int)) = true := decide_eq_true (by omega)
                    have t3xn : decide (mid < e_) = true := decide_eq_true (by omega)
                    have t3y : decide ((e_ : Int) < (b : Int)) = true := decide_eq_true (by omega)
                    have t3yn : decide (e_ < b) = true := decide_eq_true (by omega)
                    have HR1 := Aside0.mk (show s = m ∨ m = e_ by omega)
                    have HR2 := Aside0.mk (show a < s ∧ s < mid by omega)
                    have HR3 := Aside0.mk (show mid < e_ ∧ e_ < b by omega)
                    clear hq hb ham hmb s0 s1 s2 s3 s4 s5 s6 s7 s8 k1x k1y k2x k2y k3x k3y
                    go_wp2_with fail
                    have key := HIH.out _ xs a s mid (by have := HT.out.cb; omega) HR2.out.1 HR2.out.2 (by have := HT.out.cb; have := HB.out; omega) (Rot.refl HT.out.hs.s1 HT.out.hs.e0 HR1.out).same.len (HIN.out.same (Rot.refl HT.out.hs.s1 HT.out.hs.e0 HR1.out).same) (mid_of HR.out HH.out HT.out.hs HT.out.hc (Rot.refl HT.out.hs.s1 HT.out.hs.e0 HR1.out)).l HM.out
                    refine key.mono ?_
                    clear key
                    rintro e w3 ⟨rfl, zs, hmz, hM⟩
                    have HZ := Aside0.mk hmz
                    have HMZ := Aside0.mk hM
                    clear hmz hM
                    go_wp2_with fail
                    have key := HIH.out _ zs mid e_ b (by have := HT.out.ac; have := HT.out.cb; omega) HR3.out.1 HR3.out.2 HB.out (HZ.out.same.len.trans (Rot.refl HT.out.hs.s1 HT.out.hs.e0 HR1.out).same.len) ((HIN.out.same (Rot.refl HT.out.hs.s1 HT.out.hs.e0 HR1.out).same).same HZ.out.same) (halvesR HR.out HH.out HT.out.hs HT.out.hc (Rot.refl HT.out.hs.s1 HT.out.hs.e0 HR1.out) HZ.out (Nat.le_of_lt HT.out.ac) HT.out.ce HT.out.hs.e1) HMZ.out
                    refine key.mono ?_
                    clear key
                    rintro e w4 ⟨rfl, us, hmu, hM⟩
                    have HU := Aside0.mk hmu
                    have HMU := Aside0.mk hM
                    clear hmu hM
                    go_wp2_with fail
                    go_end0
                    exact ⟨rfl, _, fin HR.out HH.out HT.out.hs HT.out.hc (Rot.refl HT.out.hs.s1 HT.out.hs.e0 HR1.out) HZ.out HU.out (Nat.le_of_lt HT.out.ac) HT.out.ce HT.out.hs.e1, HMU.out⟩
                  · have t3x : decide ((mid : Int) < (e_ : Int)) = true := decide_eq_true (by omega)
                    have t3xn : decide (mid < e_) = true := decide_eq_true (by omega)
                    have t3y : decide ((e_ : Int) < (b : Int)) = false := decide_eq_false (by omega)
                    have t3yn : decide (e_ < b) = false := decide_eq_false (by omega)
                    have HR1 := Aside0.mk (show s = m ∨ m = e_ by omega)
                    have HR2 := Aside0.mk (show a < s ∧ s < mid by omega)
                    have HR3 := Aside0.mk (show e_ ≤ mid ∨ b ≤ e_ by omega)
                    clear hq hb ham hmb s0 s1 s2 s3 s4 s5 s6 s7 s8 k1x k1y k2x k2y k3x k3y
                    go_wp2_with fail
                    have key := HIH.out _ xs a s mid (by have := HT.out.cb; omega) HR2.out.1 HR2.out.2 (by have := HT.out.cb; have := HB.out; omega) (Rot.refl HT.out.hs.s1 HT.out.hs.e0 HR1.out).same.len (HIN.out.same (Rot.refl HT.out.hs.s1 HT.out.hs.e0 HR1.out).same) (mid_of HR.out HH.out HT.out.hs HT.out.hc (Rot.refl HT.out.hs.s1 HT.out.hs.e0 HR1.out)).l HM.out
                    refine key.mono ?_
                    clear key
                    rintro e w3 ⟨rfl, zs, hmz, hM⟩
                    have HZ := Aside0.mk hmz
                    have HMZ := Aside0.mk hM
                    clear hmz hM
                    go_wp2_with fail
                    go_end0
                    exact ⟨rfl, _, fin HR.out HH.out HT.out.hs HT.out.hc (Rot.refl HT.out.hs.s1 HT.out.hs.e0 HR1.out) HZ.out ((halvesR HR.out HH.out HT.out.hs HT.out.hc (Rot.refl HT.out.hs.s1 HT.out.hs.e0 HR1.out) HZ.out (Nat.le_of_lt HT.out.ac) HT.out.ce HT.out.hs.e1).done HR3.out) (Nat.le_of_lt HT.out.ac) HT.out.ce HT.out.hs.e1, HMZ.out⟩
                · have t3x : decide ((mid : Int) < (e_ : Int)) = false := decide_eq_false (by omega)
                  have t3xn : decide (mid < e_) = false := decide_eq_false (by omega)
                  have HR1 := Aside0.mk (show s = m ∨ m = e_ by omega)
                  have HR2 := Aside0.mk (show a < s ∧ s < mid by omega)
                  have HR3 := Aside0.mk (show e_ ≤ mid ∨ b ≤ e_ by omega)
                  clear hq hb ham hmb s0 s1 s2 s3 s4 s5 s6 s7 s8 k1x k1y k2x k2y k3x
                  go_wp2_with fail
                  have key := HIH.out _ xs a s mid (by have := HT.out.cb; omega) HR2.out.1 HR2.out.2 (by have := HT.out.cb; have := HB.out; omega) (Rot.refl HT.out.hs.s1 HT.out.hs.e0 HR1.out).same.len (HIN.out.same (Rot.refl HT.out.hs.s1 HT.out.hs.e0 HR1.out).same) (mid_of HR.out HH.out HT.out.hs HT.out.hc (Rot.refl HT.out.hs.s1 HT.out.hs.e0 HR1.out)).l HM.out
                  refine key.mono ?_
                  clear key
                  rintro e w3 ⟨rfl, zs, hmz, hM⟩
                  have HZ := Aside0.mk hmz
                  have HMZ := Aside0.mk hM
                  clear hmz hM
                  go_wp2_with fail
                  go_end0
                  exact ⟨rfl, _, fin HR.out HH.out HT.out.hs HT.out.hc (Rot.refl HT.out.hs.s1 HT.out.hs.e0 HR1.out) HZ.out ((halvesR HR.out HH.out HT.out.hs HT.out.hc (Rot.refl HT.out.hs.s1 HT.out.hs.e0 HR1.out) HZ.out (Nat.le_of_lt HT.out.ac) HT.out.ce HT.out.hs.e1).done HR3.out) (Nat.le_of_lt HT.out.ac) HT.out.ce HT.out.hs.e1, HMZ.out⟩
              · have t2x : decide ((a : Int) < (s : Int)) = true := decide_eq_true (by omega)
                have t2xn : decide (a < s) = true := decide_eq_true (by omega)
                have t2y : decide ((s : Int) < (mid : Int)) = false := decide_eq_false (by omega)
                have t2yn : decide (s < mid) = false := decide_eq_false (by omega)
                by_cases k3x : mid < e_
                · by_cases k3y : e_ < b
                  · have t3x : decide ((mid : Int) < (e_ : Int)) = true := decide_eq_true (by omega)
                    have t3xn : decide (mid < e_) = true := decide_eq_true (by omega)
                    have t3y : decide ((e_ : Int) < (b : Int)) = true := decide_eq_true (by omega)
                    have t3yn : decide (e_ < b) = true := decide_eq_true (by omega)
                    have HR1 := Aside0.mk (show s = m ∨ m = e_ by omega)
                    have HR2 := Aside0.mk (show s ≤ a ∨ mid ≤ s by omega)
                    have HR3 := Aside0.mk (show mid < e_ ∧ e_ < b by omega)
                    clear hq hb ham hmb s0 s1 s2 s3 s4 s5 s6 s7 s8 k1x k1y k2x k2y k3x k3y
                    go_wp2_with fail
                    have key := HIH.out _ xs mid e_ b (by have := HT.out.ac; have := HT.out.cb; omega) HR3.out.1 HR3.out.2 HB.out (((mid_of HR.out HH.out HT.out.hs HT.out.hc (Rot.refl HT.out.hs.s1 HT.out.hs.e0 HR1.out)).l.done HR2.out).same.len.trans (Rot.refl HT.out.hs.s1 HT.out.hs.e0 HR1.out).same.len) ((HIN.out.same (Rot.refl HT.out.hs.s1 HT.out.hs.e0 HR1.out).same).same ((mid_of HR.out HH.out HT.out.hs HT.out.hc (Rot.refl HT.out.hs.s1 HT.out.hs.e0 HR1.out)).l.done HR2.out).same) (halvesR HR.out HH.out HT.out.hs HT.out.hc (Rot.refl HT.out.hs.s1 HT.out.hs.e0 HR1.out) ((mid_of HR.out HH.out HT.out.hs HT.out.hc (Rot.refl HT.out.hs.s1 HT.out.hs.e0 HR1.out)).l.done HR2.out) (Nat.le_of_lt HT.out.ac) HT.out.ce HT.out.hs.e1) HM.out
                    refine key.mono ?_
                    clear key
                    rintro e w4 ⟨rfl, us, hmu, hM⟩
                    have HU := Aside0.mk hmu
                    have HMU := Aside0.mk hM
                    clear hmu hM
                    go_wp2_with fail
                    go_end0
                    exact ⟨rfl, _, fin HR.out HH.out HT.out.hs HT.out.hc (Rot.refl HT.out.hs.s1 HT.out.hs.e0 HR1.out) ((mid_of HR.out HH.out HT.out.hs HT.out.hc (Rot.refl HT.out.hs.s1 HT.out.hs.e0 HR1.out)).l.done HR2.out) HU.out (Nat.le_of_lt HT.out.ac) HT.out.ce HT.out.hs.e1, HMU.out⟩
                  · have t3x : decide ((mid : Int) < (e_ : Int)) = true := decide_eq_true (by omega)
                    have t3xn : decide (mid < e_) = true := decide_eq_true (by omega)
                    have t3y : decide ((e_ : Int) < (b : Int)) = false := decide_eq_false (by omega)
                    have t3yn : decide (e_ < b) = false := decide_eq_false (by omega)
                    have HR1 := Aside0.mk (show s = m ∨ m = e_ by omega)
                    have HR2 := Aside0.mk (show s ≤ a ∨ mid ≤ s by omega)
                    have HR3 := Aside0.mk (show e_ ≤ mid ∨ b ≤ e_ by omega)
                    clear hq hb ham hmb s0 s1 s2 s3 s4 s5 s6 s7 s8 k1x k1y k2x k2y k3x k3y
                    go_wp2_with fail
                    go_end0
                    exact ⟨rfl, _, fin HR.out HH.out HT.out.hs HT.out.hc (Rot.refl HT.out.hs.s1 HT.out.hs.e0 HR1.out) ((mid_of HR.out HH.out HT.out.hs HT.out.hc (Rot.refl HT.out.hs.s1 HT.out.hs.e0 HR1.out)).l.done HR2.out) ((halvesR HR.out HH.out HT.out.hs HT.out.hc (Rot.refl HT.out.hs.s1 HT.out.hs.e0 HR1.out) ((mid_of HR.out HH.out HT.out.hs HT.out.hc (Rot.refl HT.out.hs.s1 HT.out.hs.e0 HR1.out)).l.done HR2.out) (Nat.le_of_lt HT.out.ac) HT.out.ce HT.out.hs.e1).done HR3.out) (Nat.le_of_lt HT.out.ac) HT.out.ce HT.out.hs.e1, HM.out⟩
                · have t3x : decide ((mid : Int) < (e_ : Int)) = false := decide_eq_false (by omega)
                  have t3xn : decide (mid < e_) = false := decide_eq_false (by omega)
                  have HR1 := Aside0.mk (show s = m ∨ m = e_ by omega)
                  have HR2 := Aside0.mk (show s ≤ a ∨ mid ≤ s by omega)
                  have HR3 := Aside0.mk (show e_ ≤ mid ∨ b ≤ e_ by omega)
                  clear hq hb ham hmb s0 s1 s2 s3 s4 s5 s6 s7 s8 k1x k1y k2x k2y k3x
                  go_wp2_with fail
                  go_end0
                  exact ⟨rfl, _, fin HR.out HH.out HT.out.hs HT.out.hc (Rot.refl HT.out.hs.s1 HT.out.hs.e0 HR1.out) ((mid_of HR.out HH.out HT.out.hs HT.out.hc (Rot.refl HT.out.hs.s1 HT.out.hs.e0 HR1.out)).l.done HR2.out) ((halvesR HR.out HH.out HT.out.hs HT.out.hc (Rot.refl HT.out.hs.s1 HT.out.hs.e0 HR1.out) ((mid_of HR.out HH.out HT.out.hs HT.out.hc (Rot.refl HT.out.hs.s1 HT.out.hs.e0 HR1.out)).l.done HR2.out) (Nat.le_of_lt HT.out.ac) HT.out.ce HT.out.hs.e1).done HR3.out) (Nat.le_of_lt HT.out.ac) HT.out.ce HT.out.hs.e1, HM.out⟩
            · have t2x : decide ((a : Int) < (s : Int)) = false := decide_eq_false (by omega)
              have t2xn : decide (a < s) = false := decide_eq_false (by omega)
              by_cases k3x : mid < e_
              · by_cases k3y : e_ < b
                · have t3x : decide ((mid : Int) < (e_ : Int)) = true := decide_eq_true (by omega)
                  have t3xn : decide (mid < e_) = true := decide_eq_true (by omega)
                  have t3y : decide ((e_ : Int) < (b : Int)) = true := decide_eq_true (by omega)
                  have t3yn : decide (e_ < b) = true := decide_eq_true (by omega)
                  have HR1 := Aside0.mk (show s = m ∨ m = e_ by omega)
                  have HR2 := Aside0.mk (show s ≤ a ∨ mid ≤ s by omega)
                  have HR3 := Aside0.mk (show mid < e_ ∧ e_ < b by omega)
                  clear hq hb ham hmb s0 s1 s2 s3 s4 s5 s6 s7 s8 k1x k1y k2x k3x k3y
                  go_wp2_with fail
                  have key := HIH.out _ xs mid e_ b (by have := HT.out.ac; have := HT.out.cb; omega) HR3.out.1 HR3.out.2 HB.out (((mid_of HR.out HH.out HT.out.hs HT.out.hc (Rot.refl HT.out.hs.s1 HT.out.hs.e0 HR1.out)).l.done HR2.out).same.len.trans (Rot.refl HT.out.hs.s1 HT.out.hs.e0 HR1.out).same.len) ((HIN.out.same (Rot.refl HT.out.hs.s1 HT.out.hs.e0 HR1.out).same).same ((mid_of HR.out HH.out HT.out.hs HT.out.hc (Rot.refl HT.out.hs.s1 HT.out.hs.e0 HR1.out)).l.done HR2.out).same) (halvesR HR.out HH.out HT.out.hs HT.out.hc (Rot.refl HT.out.hs.s1 HT.out.hs.e0 HR1.out) ((mid_of HR.out HH.out HT.out.hs HT.out.hc (Rot.refl HT.out.hs.s1 HT.out.hs.e0 HR1.out)).l.done HR2.out) (Nat.le_of_lt HT.out.ac) HT.out.ce HT.out.hs.e1) HM.out
                  refine key.mono ?_
                  clear key
                  rintro e w4 ⟨rfl, us, hmu, hM⟩
                  have HU := Aside0.mk hmu
                  have HMU := Aside0.mk hM
                  clear hmu hM
                  go_wp2_with fail
                  go_end0
                  exact ⟨rfl, _, fin HR.out HH.out HT.out.hs HT.out.hc (Rot.refl HT.out.hs.s1 HT.out.hs.e0 HR1.out) ((mid_of HR.out HH.out HT.out.hs HT.out.hc (Rot.refl HT.out.hs.s1 HT.out.hs.e0 HR1.out)).l.done HR2.out) HU.out (Nat.le_of_lt HT.out.ac) HT.out.ce HT.out.hs.e1, HMU.out⟩
                · have t3x : decide ((mid : Int) < (e_ : Int)) = true := decide_eq_true (by omega)
                  have t3xn : decide (mid < e_) = true := decide_eq_true (by omega)
                  have t3y : decide ((e_ : Int) < (b : Int)) = false := decide_eq_false (by omega)
                  have t3yn : decide (e_ < b) = false := decide_eq_false (by omega)
                  have HR1 := Aside0.mk (show s = m ∨ m = e_ by omega)
                  have HR2 := Aside0.mk (show s ≤ a ∨ mid ≤ s by omega)
                  have HR3 := Aside0.mk (show e_ ≤ mid ∨ b ≤ e_ by omega)
                  clear hq hb ham hmb s0 s1 s2 s3 s4 s5 s6 s7 s8 k1x k1y k2x k3x k3y
                  go_wp2_with fail
                  go_end0
                  exact ⟨rfl, _, fin HR.out HH.out HT.out.hs HT.out.hc (Rot.refl HT.out.hs.s1 HT.out.hs.e0 HR1.out) ((mid_of HR.out HH.out HT.out.hs HT.out.hc (Rot.refl HT.out.hs.s1 HT.out.hs.e0 HR1.out)).l.done HR2.out) ((halvesR HR.out HH.out HT.out.hs HT.out.hc (Rot.refl HT.out.hs.s1 HT.out.hs.e0 HR1.out) ((mid_of HR.out HH.out HT.out.hs HT.out.hc (Rot.refl HT.out.hs.s1 HT.out.hs.e0 HR1.out)).l.done HR2.out) (Nat.le_of_lt HT.out.ac) HT.out.ce HT.out.hs.e1).done HR3.out) (Nat.le_of_lt HT.out.ac) HT.out.ce HT.out.hs.e1, HM.out⟩
              · have t3x : decide ((mid : Int) < (e_ : Int)) = false := decide_eq_false (by omega)
                have t3xn : decide (mid < e_) = false := decide_eq_false (by omega)
                have HR1 := Aside0.mk (show s = m ∨ m = e_ by omega)
                have HR2 := Aside0.mk (show s ≤ a ∨ mid ≤ s by omega)
                have HR3 := Aside0.mk (show e_ ≤ mid ∨ b ≤ e_ by omega)
                clear hq hb ham hmb s0 s1 s2 s3 s4 s5 s6 s7 s8 k1x k1y k2x k3x
                go_wp2_with fail
                go_end0
                exact ⟨rfl, _, fin HR.out HH.out HT.out.hs HT.out.hc (Rot.refl HT.out.hs.s1 HT.out.hs.e0 HR1.out) ((mid_of HR.out HH.out HT.out.hs HT.out.hc (Rot.refl HT.out.hs.s1 HT.out.hs.e0 HR1.out)).l.done HR2.out) ((halvesR HR.out HH.out HT.out.hs HT.out.hc (Rot.refl HT.out.hs.s1 HT.out.hs.e0 HR1.out) ((mid_of HR.out HH.out HT.out.hs HT.out.hc (Rot.refl HT.out.hs.s1 HT.out.hs.e0 HR1.out)).l.done HR2.out) (Nat.le_of_lt HT.out.ac) HT.out.ce HT.out.hs.e1).done HR3.out) (Nat.le_of_lt HT.out.ac) HT.out.ce HT.out.hs.e1, HM.out⟩
        · have t1x : decide ((s : Int) < (m : Int)) = false := decide_eq_false (by omega)
          have t1xn : decide (s < m) = false := decide_eq_false (by omega)
          by_cases k2x : a < s
          · by_cases k2y : s < mid
            · have t2x : decide ((a : Int) < (s : Int)) = true := decide_eq_true (by omega)
              have t2xn : decide (a < s) = true := decide_eq_true (by omega)
              have t2y : decide ((s : Int) < (mid : Int)) = true := decide_eq_true (by omega)
              have t2yn : decide (s < mid) = true := decide_eq_true (by omega)
              by_cases k3x : mid < e_
              · by_cases k3y : e_ < b
                · have t3x : decide ((mid : Int) < (e_ : Int)) = true := decide_eq_true (by omega)
                  have t3xn : decide (mid < e_) = true := decide_eq_true (by omega)
                  have t3y : decide ((e_ : Int) < (b : Int)) = true := decide_eq_true (by omega)
                  have t3yn : decide (e_ < b) = true := decide_eq_true (by omega)
                  have HR1 := Aside0.mk (show s = m ∨ m = e_ by omega)
                  have HR2 := Aside0.mk (show a < s ∧ s < mid by omega)
                  have HR3 := Aside0.mk (show mid < e_ ∧ e_ < b by omega)
                  clear hq hb ham hmb s0 s1 s2 s3 s4 s5 s6 s7 s8 k1x k2x k2y k3x k3y
                  go_wp2_with fail
                  have key := HIH.out _ xs a s mid (by have := HT.out.cb; omega) HR2.out.1 HR2.out.2 (by have := HT.out.cb; have := HB.out; omega) (Rot.refl HT.out.hs.s1 HT.out.hs.e0 HR1.out).same.len (HIN.out.same (Rot.refl HT.out.hs.s1 HT.out.hs.e0 HR1.out).same) (mid_of HR.out HH.out HT.out.hs HT.out.hc (Rot.refl HT.out.hs.s1 HT.out.hs.e0 HR1.out)).l HM.out
                  refine key.mono ?_
                  clear key
                  rintro e w3 ⟨rfl, zs, hmz, hM⟩
                  have HZ := Aside0.mk hmz
                  have HMZ := Aside0.mk hM
                  clear hmz hM
                  go_wp2_with fail
                  have key := HIH.out _ zs mid e_ b (by have := HT.out.ac; have := HT.out.cb; omega) HR3.out.1 HR3.out.2 HB.out (HZ.out.same.len.trans (Rot.refl HT.out.hs.s1 HT.out.hs.e0 HR1.out).same.len) ((HIN.out.same (Rot.refl HT.out.hs.s1 HT.out.hs.e0 HR1.out).same).same HZ.out.same) (halvesR HR.out HH.out HT.out.hs HT.out.hc (Rot.refl HT.out.hs.s1 HT.out.hs.e0 HR1.out) HZ.out (Nat.le_of_lt HT.out.ac) HT.out.ce HT.out.hs.e1) HMZ.out
                  refine key.mono ?_
                  clear key
                  rintro e w4 ⟨rfl, us, hmu, hM⟩
                  have HU := Aside0.mk hmu
                  have HMU := Aside0.mk hM
                  clear hmu hM
                  go_wp2_with fail
                  go_end0
                  exact ⟨rfl, _, fin HR.out HH.out HT.out.hs HT.out.hc (Rot.refl HT.out.hs.s1 HT.out.hs.e0 HR1.out) HZ.out HU.out (Nat.le_of_lt HT.out.ac) HT.out.ce HT.out.hs.e1, HMU.out⟩
                · have t3x : decide ((mid : Int) < (e_ : Int)) = true := decide_eq_true (by omega)
                  have t3xn : decide (mid < e_) = true := decide_eq_true (by omega)
                  have t3y : decide ((e_ : Int) < (b : Int)) = false := decide_eq_false (by omega)
                  have t3yn : decide (e_ < b) = false := decide_eq_false (by omega)
                  have HR1 := Aside0.mk (show s = m ∨ m = e_ by omega)
                  have HR2 := Aside0.mk (show a < s ∧ s < mid by omega)
                  have HR3 := Aside0.mk (show e_ ≤ mid ∨ b ≤ e_ by omega)
                  clear hq hb ham hmb s0 s1 s2 s3 s4 s5 s6 s7 s8 k1x k2x k2y k3x k3y
                  go_wp2_with fail
                  have key := HIH.out _ xs a s mid (by have := HT.out.cb; omega) HR2.out.1 HR2.out.2 (by have := HT.out.cb; have := HB.out; omega) (Rot.refl HT.out.hs.s1 HT.out.hs.e0 HR1.out).same.len (HIN.out.same (Rot.refl HT.out.hs.s1 HT.out.hs.e0 HR1.out).same) (mid_of HR.out HH.out HT.out.hs HT.out.hc (Rot.refl HT.out.hs.s1 HT.out.hs.e0 HR1.out)).l HM.out
                  refine key.mono ?_
                  clear key
                  rintro e w3 ⟨rfl, zs, hmz, hM⟩
                  have HZ := Aside0.mk hmz
                  have HMZ := Aside0.mk hM
                  clear hmz hM
                  go_wp2_with fail
                  go_end0
                  exact ⟨rfl, _, fin HR.out HH.out HT.out.hs HT.out.hc (Rot.refl HT.out.hs.s1 HT.out.hs.e0 HR1.out) HZ.out ((halvesR HR.out HH.out HT.out.hs HT.out.hc (Rot.refl HT.out.hs.s1 HT.out.hs.e0 HR1.out) HZ.out (Nat.le_of_lt HT.out.ac) HT.out.ce HT.out.hs.e1).done HR3.out) (Nat.le_of_lt HT.out.ac) HT.out.ce HT.out.hs.e1, HMZ.out⟩
              · have t3x : decide ((mid : Int) < (e_ : Int)) = false := decide_eq_false (by omega)
                have t3xn : decide (mid < e_) = false := decide_eq_false (by omega)
                have HR1 := Aside0.mk (show s = m ∨ m = e_ by omega)
                have HR2 := Aside0.mk (show a < s ∧ s < mid by omega)
                have HR3 := Aside0.mk (show e_ ≤ mid ∨ b ≤ e_ by omega)
                clear hq hb ham hmb s0 s1 s2 s3 s4 s5 s6 s7 s8 k1x k2x k2y k3x
                go_wp2_with fail
                have key := HIH.out _ xs a s mid (by have := HT.out.cb; omega) HR2.out.1 HR2.out.2 (by have := HT.out.cb; have := HB.out; omega) (Rot.refl HT.out.hs.s1 HT.out.hs.e0 HR1.out).same.len (HIN.out.same (Rot.refl HT.out.hs.s1 HT.out.hs.e0 HR1.out).same) (mid_of HR.out HH.out HT.out.hs HT.out.hc (Rot.refl HT.out.hs.s1 HT.out.hs.e0 HR1.out)).l HM.out
                refine key.mono ?_
                clear key
                rintro e w3 ⟨rfl, zs, hmz, hM⟩
                have HZ := Aside0.mk hmz
                have HMZ := Aside0.mk hM
                clear hmz hM
                go_wp2_with fail
                go_end0
                exact ⟨rfl, _, fin HR.out HH.out HT.out.hs HT.out.hc (Rot.refl HT.out.hs.s1 HT.out.hs.e0 HR1.out) HZ.out ((halvesR HR.out HH.out HT.out.hs HT.out.hc (Rot.refl HT.out.hs.s1 HT.out.hs.e0 HR1.out) HZ.out (Nat.le_of_lt HT.out.ac) HT.out.ce HT.out.hs.e1).done HR3.out) (Nat.le_of_lt HT.out.ac) HT.out.ce HT.out.hs.e1, HMZ.out⟩
            · have t2x : decide ((a : Int) < (s : Int)) = true := decide_eq_true (by omega)
              have t2xn : decide (a < s) = true := decide_eq_true (by omega)
              have t2y : decide ((s : Int) < (mid : Int)) = false := decide_eq_false (by omega)
              have t2yn : decide (s < mid) = false := decide_eq_false (by omega)
              by_cases k3x : mid < e_
              · by_cases k3y : e_ < b
                · have t3x : decide ((mid : Int) < (e_ : Int)) = true := decide_eq_true (by omega)
                  have t3xn : decide (mid < e_) = true := decide_eq_true (by omega)
                  have t3y : decide ((e_ : Int) < (b : Int)) = true := decide_eq_true (by omega)
                  have t3yn : decide (e_ < b) = true := decide_eq_true (by omega)
                  have HR1 := Aside0.mk (show s = m ∨ m = e_ by omega)
                  have HR2 := Aside0.mk (show s ≤ a ∨ mid ≤ s by omega)
                  have HR3 := Aside0.mk (show mid < e_ ∧ e_ < b by omega)
                  clear hq hb ham hmb s0 s1 s2 s3 s4 s5 s6 s7 s8 k1x k2x k2y k3x k3y
                  go_wp2_with fail
                  have key := HIH.out _ xs mid e_ b (by have := HT.out.ac; have := HT.out.cb; omega) HR3.out.1 HR3.out.2 HB.out (((mid_of HR.out HH.out HT.out.hs HT.out.hc (Rot.refl HT.out.hs.s1 HT.out.hs.e0 HR1.out)).l.done HR2.out).same.len.trans (Rot.refl HT.out.hs.s1 HT.out.hs.e0 HR1.out).same.len) ((HIN.out.same (Rot.refl HT.out.hs.s1 HT.out.hs.e0 HR1.out).same).same ((mid_of HR.out HH.out HT.out.hs HT.out.hc (Rot.refl HT.out.hs.s1 HT.out.hs.e0 HR1.out)).l.done HR2.out).same) (halvesR HR.out HH.out HT.out.hs HT.out.hc (Rot.refl HT.out.hs.s1 HT.out.hs.e0 HR1.out) ((mid_of HR.out HH.out HT.out.hs HT.out.hc (Rot.refl HT.out.hs.s1 HT.out.hs.e0 HR1.out)).l.done HR2.out) (Nat.le_of_lt HT.out.ac) HT.out.ce HT.out.hs.e1) HM.out
                  refine key.mono ?_
                  clear key
                  rintro e w4 ⟨rfl, us, hmu, hM⟩
                  have HU := Aside0.mk hmu
                  have HMU := Aside0.mk hM
                  clear hmu hM
                  go_wp2_with fail
                  go_end0
                  exact ⟨rfl, _, fin HR.out HH.out HT.out.hs HT.out.hc (Rot.refl HT.out.hs.s1 HT.out.hs.e0 HR1.out) ((mid_of HR.out HH.out HT.out.hs HT.out.hc (Rot.refl HT.out.hs.s1 HT.out.hs.e0 HR1.out)).l.done HR2.out) HU.out (Nat.le_of_lt HT.out.ac) HT.out.ce HT.out.hs.e1, HMU.out⟩
                · have t3x : decide ((mid : Int) < (e_ : Int)) = true := decide_eq_true (by omega)
                  have t3xn : decide (mid < e_) = true := decide_eq_true (by omega)
                  have t3y : decide ((e_ : Int) < (b : Int)) = false := decide_eq_false (by omega)
                  have t3yn : decide (e_ < b) = false := decide_eq_false (by omega)
                  have HR1 := Aside0.mk (show s = m ∨ m = e_ by omega)
                  have HR2 := Aside0.mk (show s ≤ a ∨ mid ≤ s by omega)
                  have HR3 := Aside0.mk (show e_ ≤ mid ∨ b ≤ e_ by omega)
                  clear hq hb ham hmb s0 s1 s2 s3 s4 s5 s6 s7 s8 k1x k2x k2y k3x k3y
                  go_wp2_with fail
                  go_end0
                  exact ⟨rfl, _, fin HR.out HH.out HT.out.hs HT.out.hc (Rot.refl HT.out.hs.s1 HT.out.hs.e0 HR1.out) ((mid_of HR.out HH.out HT.out.hs HT.out.hc (Rot.refl HT.out.hs.s1 HT.out.hs.e0 HR1.out)).l.done HR2.out) ((halvesR HR.out HH.out HT.out.hs HT.out.hc (Rot.refl HT.out.hs.s1 HT.out.hs.e0 HR1.out) ((mid_of HR.out HH.out HT.out.hs HT.out.hc (Rot.refl HT.out.hs.s1 HT.out.hs.e0 HR1.out)).l.done HR2.out) (Nat.le_of_lt HT.out.ac) HT.out.ce HT.out.hs.e1).done HR3.out) (Nat.le_of_lt HT.out.ac) HT.out.ce HT.out.hs.e1, HM.out⟩
              · have t3x : decide ((mid : Int) < (e_ : Int)) = false := decide_eq_false (by omega)
                have t3xn : decide (mid < e_) = false := decide_eq_false (by omega)
                have HR1 := Aside0.mk (show s = m ∨ m = e_ by omega)
                have HR2 := Aside0.mk (show s ≤ a ∨ mid ≤ s by omega)
                have HR3 := Aside0.mk (show e_ ≤ mid ∨ b ≤ e_ by omega)
                clear hq hb ham hmb s0 s1 s2 s3 s4 s5 s6 s7 s8 k1x k2x k2y k3x
                go_wp2_with fail
                go_end0
                exact ⟨rfl, _, fin HR.out HH.out HT.out.hs HT.out.hc (Rot.refl HT.out.hs.s1 HT.out.hs.e0 HR1.out) ((mid_of HR.out HH.out HT.out.hs HT.out.hc (Rot.refl HT.out.hs.s1 HT.out.hs.e0 HR1.out)).l.done HR2.out) ((halvesR HR.out HH.out HT.out.hs HT.out.hc (Rot.refl HT.out.hs.s1 HT.out.hs.e0 HR1.out) ((mid_of HR.out HH.out HT.out.hs HT.out.hc (Rot.refl HT.out.hs.s1 HT.out.hs.e0 HR1.out)).l.done HR2.out) (Nat.le_of_lt HT.out.ac) HT.out.ce HT.out.hs.e1).done HR3.out) (Nat.le_of_lt HT.out.ac) HT.out.ce HT.out.hs.e1, HM.out⟩
          · have t2x : decide ((a : Int) < (s : Int)) = false := decide_eq_false (by omega)
            have t2xn : decide (a < s) = false := decide_eq_false (by omega)
            by_cases k3x : mid < e_
            · by_cases k3y : e_ < b
              · have t3x : decide ((mid : Int) < (e_ : Int)) = true := decide_eq_true (by omega)
                have t3xn : decide (mid < e_) = true := decide_eq_true (by omega)
                have t3y : decide ((e_ : Int) < (b : Int)) = true := decide_eq_true (by omega)
                have t3yn : decide (e_ < b) = true := decide_eq_true (by omega)
                have HR1 := Aside0.mk (show s = m ∨ m = e_ by omega)
                have HR2 := Aside0.mk (show s ≤ a ∨ mid ≤ s by omega)
                have HR3 := Aside0.mk (show mid < e_ ∧ e_ < b by omega)
                clear hq hb ham hmb s0 s1 s2 s3 s4 s5 s6 s7 s8 k1x k2x k3x k3y
                go_wp2_with fail
                have key := HIH.out _ xs mid e_ b (by have := HT.out.ac; have := HT.out.cb; omega) HR3.out.1 HR3.out.2 HB.out (((mid_of HR.out HH.out HT.out.hs HT.out.hc (Rot.refl HT.out.hs.s1 HT.out.hs.e0 HR1.out)).l.done HR2.out).same.len.trans (Rot.refl HT.out.hs.s1 HT.out.hs.e0 HR1.out).same.len) ((HIN.out.same (Rot.refl HT.out.hs.s1 HT.out.hs.e0 HR1.out).same).same ((mid_of HR.out HH.out HT.out.hs HT.out.hc (Rot.refl HT.out.hs.s1 HT.out.hs.e0 HR1.out)).l.done HR2.out).same) (halvesR HR.out HH.out HT.out.hs HT.out.hc (Rot.refl HT.out.hs.s1 HT.out.hs.e0 HR1.out) ((mid_of HR.out HH.out HT.out.hs HT.out.hc (Rot.refl HT.out.hs.s1 HT.out.hs.e0 HR1.out)).l.done HR2.out) (Nat.le_of_lt HT.out.ac) HT.out.ce HT.out.hs.e1) HM.out
                refine key.mono ?_
                clear key
                rintro e w4 ⟨rfl, us, hmu, hM⟩
                have HU := Aside0.mk hmu
                have HMU := Aside0.mk hM
                clear hmu hM
                go_wp2_with fail
                go_end0
                exact ⟨rfl, _, fin HR.out HH.out HT.out.hs HT.out.hc (Rot.refl HT.out.hs.s1 HT.out.hs.e0 HR1.out) ((mid_of HR.out HH.out HT.out.hs HT.out.hc (Rot.refl HT.out.hs.s1 HT.out.hs.e0 HR1.out)).l.done HR2.out) HU.out (Nat.le_of_lt HT.out.ac) HT.out.ce HT.out.hs.e1, HMU.out⟩
              · have t3x : decide ((mid : Int) < (e_ : Int)) = true := decide_eq_true (by omega)
                have t3xn : decide (mid < e_) = true := decide_eq_true (by omega)
                have t3y : decide ((e_ : Int) < (b : Int)) = false := decide_eq_false (by omega)
                have t3yn : decide (e_ < b) = false := decide_eq_false (by omega)
                have HR1 := Aside0.mk (show s = m ∨ m = e_ by omega)
                have HR2 := Aside0.mk (show s ≤ a ∨ mid ≤ s by omega)
                have HR3 := Aside0.mk (show e_ ≤ mid ∨ b ≤ e_ by omega)
                clear hq hb ham hmb s0 s1 s2 s3 s4 s5 s6 s7 s8 k1x k2x k3x k3y
                go_wp2_with fail
                go_end0
                exact ⟨rfl, _, fin HR.out HH.out HT.out.hs HT.out.hc (Rot.refl HT.out.hs.s1 HT.out.hs.e0 HR1.out) ((mid_of HR.out HH.out HT.out.hs HT.out.hc (Rot.refl HT.out.hs.s1 HT.out.hs.e0 HR1.out)).l.done HR2.out) ((halvesR HR.out HH.out HT.out.hs HT.out.hc (Rot.refl HT.out.hs.s1 HT.out.hs.e0 HR1.out) ((mid_of HR.out HH.out HT.out.hs HT.out.hc (Rot.refl HT.out.hs.s1 HT.out.hs.e0 HR1.out)).l.done HR2.out) (Nat.le_of_lt HT.out.ac) HT.out.ce HT.out.hs.e1).done HR3.out) (Nat.le_of_lt HT.out.ac) HT.out.ce HT.out.hs.e1, HM.out⟩
            · have t3x : decide ((mid : Int) < (e_ : Int)) = false := decide_eq_false (by omega)
              have t3xn : decide (mid < e_) = false := decide_eq_false (by omega)
              have HR1 := Aside0.mk (show s = m ∨ m = e_ by omega)
              have HR2 := Aside0.mk (show s ≤ a ∨ mid ≤ s by omega)
              have HR3 := Aside0.mk (show e_ ≤ mid ∨ b ≤ e_ by omega)
              clear hq hb ham hmb s0 s1 s2 s3 s4 s5 s6 s7 s8 k1x k2x k3x
              go_wp2_with fail
              go_end0
              exact ⟨rfl, _, fin HR.out HH.out HT.out.hs HT.out.hc (Rot.refl HT.out.hs.s1 HT.out.hs.e0 HR1.out) ((mid_of HR.out HH.out HT.out.hs HT.out.hc (Rot.refl HT.out.hs.s1 HT.out.hs.e0 HR1.out)).l.done HR2.out) ((halvesR HR.out HH.out HT.out.hs HT.out.hc (Rot.refl HT.out.hs.s1 HT.out.hs.e0 HR1.out) ((mid_of HR.out HH.out HT.out.hs HT.out.hc (Rot.refl HT.out.hs.s1 HT.out.hs.e0 HR1.out)).l.done HR2.out) (Nat.le_of_lt HT.out.ac) HT.out.ce HT.out.hs.e1).done HR3.out) (Nat.le_of_lt HT.out.ac) HT.out.ce HT.out.hs.e1, HM.out⟩
end Go.Proofs.Ytlklcfaejmeljaa.St
