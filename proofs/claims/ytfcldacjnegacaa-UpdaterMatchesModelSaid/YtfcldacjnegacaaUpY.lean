/- The reference's Offer. Printed by mkUpY.py. -/
import Derived.Test.YtfcldacjnegacaaUpX
namespace Go.Proofs.Ytfcldacjnegacaa.Up
open Go.RowKit Go.Proofs.YtfcldacjnegacaaW.PrintWords Go.Proofs.YtfcldacjnegacaaW.PrintLast Go.Proofs.YtfcldacjnegacaaW.PrintMore Go.Proofs.Ytfcldacjnegacaa.Sl
set_option linter.unusedVariables false
set_option linter.unusedSimpArgs false
variable {L : List Chunk} {w0 w w' : World} {gd gr N c : Nat} {d : Dv} {slot chunk : Int}
def OfRel (w0 : World) (gd gr N c : Nat) (L : List Chunk) (C : Chunk) (T : Dv × Bool) (a : Nat) (xs : List Int) (v9 v10 : Value) (wr : World) : Prop :=
  ∃ (k : Nat) (p : Dv × Bool), k ≤ xs.length ∧ v9 = .bool p.2 ∧ v10 = .int .i64 (k : Int) ∧ T = bindW p (a + k) (xs.drop k) ∧ (p.2 = true → p.1.off = false) ∧ DvM w0 wr gd gr N p.1 (C :: L)
theorem put_call' (hM : DvM w0 w gd gr N d L) (i : Nat) (n : Int) (h : 3840 + i < N) (hN : N ≤ 20000) :
    Calls Try.prog 54 #[.agg #[.pointer (some ⟨gd, 0, none⟩), .int .i64 slot, .int .i64 (c : Int)], .int .i64 (i : Int), .int .i64 n] w fun e w' => e = .returned (.bool (d.wr (3840 + i) (n % 256)).2) ∧ DvM w0 w' gd gr N (d.wr (3840 + i) (n % 256)).1 L := put_call hM i n h hN
theorem rOffer_bad (w : World) (v l s : Int) (h : badO v l = true) :
    Calls Try.prog 45 #[rup gd slot chunk, .int .i64 v, .int .i64 l, .int .u16 s] w fun e w' => e = .returned (.int .i64 1) ∧ Below w.heap.size w w' := by
  unfold badO at h
  unfold rup
  by_cases h1 : v < 1
  · clear h
    go_enter Try.func45, Try.ntmps45
    go_wp2
    go_ret
    exact ⟨rfl, below_alloc (Below.refl _ _) _⟩
  · by_cases h2 : 2147483647 < v
    · clear h
      go_enter Try.func45, Try.ntmps45
      go_wp2
      go_ret
      exact ⟨rfl, below_alloc (Below.refl _ _) _⟩
    · by_cases h3 : l < 1
      · clear h
        go_enter Try.func45, Try.ntmps45
        go_wp2
        go_ret
        exact ⟨rfl, below_alloc (Below.refl _ _) _⟩
      · have h4 : 6144 < l := by simpa [h1, h2, h3] using h
        clear h
        go_enter Try.func45, Try.ntmps45
        go_wp2
        go_ret
        exact ⟨rfl, below_alloc (Below.refl _ _) _⟩
theorem of_t {k m t N : Nat} (h : k < m) (hm : m ≤ 200) (hN : N = 10240) (ht : 16 + k = t) : (t : Int) = 16 + (k : Int) ∧ 3840 + t = 3856 + k ∧ 3840 + t < N := ⟨by omega, by omega, by omega⟩
theorem of_t1 {j t N : Nat} (h : j < 9) (hN : N = 10240) (ht : 1 + j = t) : IntKind.i64.wrap (1 + (j : Int)) = (t : Int) ∧ wrap64 (1 + (j : Int)) = (t : Int) ∧ 3840 + t = 3841 + j ∧ 3840 + t < N := by
  refine ⟨?_, ?_, by omega, by omega⟩
  · rw [IntKind.wrap_i64]; omega
  · unfold wrap64; omega
def raw (v l s : Int) (c : Nat) : List Int := [v, v / 256, v / 65536, v / 16777216, l, l / 256, s, s / 256, (c : Int)]
theorem raw_get (v l s : Int) (c : Nat) {j : Nat} (hj : j < 9) : (#[Value.int .i64 v, .int .i64 (v / 256), .int .i64 (v / 65536), .int .i64 (v / 16777216), .int .i64 l, .int .i64 (l / 256), .int .i64 s, .int .i64 (s / 256), .int .i64 (c : Int)] : Array Value)[j]? = some (.int .i64 ((raw v l s c).getD j 0)) := by
  have : j = 0 ∨ j = 1 ∨ j = 2 ∨ j = 3 ∨ j = 4 ∨ j = 5 ∨ j = 6 ∨ j = 7 ∨ j = 8 := by omega
  rcases this with rfl | rfl | rfl | rfl | rfl | rfl | rfl | rfl | rfl <;> rfl
theorem head_drop (v l s : Int) (c : Nat) {j : Nat} (hj : j < 9) : (head v l s c).drop j = (raw v l s c).getD j 0 % 256 :: (head v l s c).drop (j + 1) := by
  have : j = 0 ∨ j = 1 ∨ j = 2 ∨ j = 3 ∨ j = 4 ∨ j = 5 ∨ j = 6 ∨ j = 7 ∨ j = 8 := by omega
  rcases this with rfl | rfl | rfl | rfl | rfl | rfl | rfl | rfl | rfl <;> rfl
theorem bindW_f {p : Dv × Bool} {a : Nat} {l : List Int} (h : p.2 = false) : bindW p a l = p := by
  unfold bindW
  exact if_neg (by rw [h]; simp)
theorem bindW_t {p : Dv × Bool} {a : Nat} {l : List Int} (h : p.2 = true) : bindW p a l = p.1.wrs a l := by
  unfold bindW
  exact if_pos h
theorem seq4 (d : Dv) (a0 a1 a2 a3 : Nat) (x0 x1 x2 x3 : List Int) : d.seq [(a0, x0), (a1, x1), (a2, x2), (a3, x3)] = bindW (bindW (bindW (d.wrs a0 x0) a1 x1) a2 x2) a3 x3 := by
  cases h0 : (d.wrs a0 x0).2 with
  | false => rw [seq_f h0, bindW_f (p := d.wrs a0 x0) (a := a1) h0, bindW_f (a := a2) h0, bindW_f (a := a3) h0, ← h0]
  | true =>
    rw [seq_t h0, bindW_t h0]
    generalize (d.wrs a0 x0).1 = e
    cases h1 : (e.wrs a1 x1).2 with
    | false => rw [seq_f h1, bindW_f (a := a2) h1, bindW_f (a := a3) h1, ← h1]
    | true =>
      rw [seq_t h1, bindW_t h1]
      generalize (e.wrs a1 x1).1 = f
      cases h2 : (f.wrs a2 x2).2 with
      | false => rw [seq_f h2, bindW_f (a := a3) h2, ← h2]
      | true => rw [seq_t h2, bindW_t h2, seq_one]
set_option maxRecDepth 100000 in
set_option maxHeartbeats 2000000 in
theorem rOffer_call (hM : DvM w0 w gd gr N d L) (hN : N = 10240) (hc : 4 ≤ c) (hc2 : c ≤ 36) (v l s : Int) (hs0 : 0 ≤ s) (hs1 : s < 65536) :
    Calls Try.prog 45 #[rup gd slot (c : Int), .int .i64 v, .int .i64 l, .int .u16 s] w fun e w' => e = .returned (.int .i64 (d.offer c v l s).2) ∧ DvM w0 w' gd gr N (d.offer c v l s).1 L := by
  unfold Dv.offer
  cases hbad : badO v l with
  | true =>
    rw [if_pos rfl]
    refine (rOffer_bad w v l s hbad).mono ?_
    rintro e w' ⟨rfl, hb⟩
    exact ⟨rfl, hM.step hb⟩
  | false =>
    rw [if_neg (by simp)]
    unfold badO at hbad
    simp at hbad
    obtain ⟨⟨⟨h1, h2⟩, h3⟩, h4⟩ := hbad
    obtain ⟨n, rfl⟩ : ∃ n : Nat, l = (n : Int) := ⟨l.toNat, by omega⟩
    rw [Int.toNat_natCast]
    have HM := Aside0.mk hM
    have HN := Aside0.mk hN
    have hn2 : n ≤ 6144 := by omega
    have HRC := Aside0.mk (fun W => rchunks_call (gd := gd) (slot := slot) W n hn2 hc hc2)
    have hq : nch n c ≤ 1536 := nch_le hn2 hc
    obtain ⟨m, hm⟩ : ∃ m, m = (nch n c + 7) / 8 := ⟨_, rfl⟩
    rw [← hm]
    have hm2 : m ≤ 200 := by omega
    have e1 : wrap64 ((nch n c : Int) + 7) = (nch n c : Int) + 7 := by unfold wrap64; omega
    have e2 : wrap64 (((nch n c : Int) + 7) / 8) = (m : Int) := by unfold wrap64; omega
    have e2b : ((nch n c : Int) + 7) / 8 = (m : Int) := by omega
    generalize nch n c = q at *
    have HC := Aside0.mk (fun W (hb : Below w.heap.size w W) => Active_call (slot := slot) (chunk := (c : Int)) (hM.step hb) hN)
    have K1 := Aside0.mk (fun W (hb : Below w.heap.size w W) => rnumber1 (slot := slot) (chunk := (c : Int)) (hM.step hb) hN)
    have K5 := Aside0.mk (fun W (hb : Below w.heap.size w W) => rnumber5 (slot := slot) (chunk := (c : Int)) (hM.step hb) hN)
    have K7 := Aside0.mk (fun W (hb : Below w.heap.size w W) => rnumber7 (slot := slot) (chunk := (c : Int)) (hM.step hb) hN)
    have HR := Aside0.mk (RQ.start w gd slot (c : Int))
    obtain ⟨g4, hg4⟩ : ∃ g4, g4 = w.heap.size := ⟨_, rfl⟩
    have HGE : Aside0 (w.heap.size ≤ g4) := ⟨by rw [hg4]; exact Nat.le_refl _⟩
    rw [← hg4] at HR
    have HS := Aside0.mk (And.intro hs0 hs1)
    have HCC := Aside0.mk (And.intro hc hc2)
    have h1' : ¬ v < 1 := by omega
    have h2' : ¬ 2147483647 < v := by omega
    have h3' : ¬ (n : Int) < 1 := by omega
    have h4' : ¬ 6144 < (n : Int) := by omega
    have h3n : ¬ n < 1 := by omega
    have h4n : ¬ 6144 < n := by omega
    have es : wrap64 s = s := by unfold wrap64; omega
    have es2 : wrap64 (s / 256) = s / 256 := by unfold wrap64; omega
    have HM2 := Aside0.mk hm2
    have HV := Aside0.mk (And.intro h1 h2)
    have HNN2 := Aside0.mk (And.intro h3 h4)
    clear hM hN hc hc2 h1 h2 h3 h4 hn2 hm
    generalize d.act (c : Int) = ac at *
    generalize d.num 1 4 = n1 at *
    generalize d.num 5 2 = n5 at *
    generalize d.num 7 2 = n7 at *
    generalize hR : (if ac = true ∧ (n1 == v && (n5 == (n : Int) && n7 == s)) = true then (d, (0 : Int)) else if ac = true ∧ v < n1 then (d, 11) else seqR (d.seq (offL v n s c m))) = R
    have HRR := Aside0.mk hR.symm
    have HSQ : Aside0 (d.seq (offL v (n : Int) s c m) = bindW (bindW (bindW (d.wr 3840 0) 3856 (List.replicate m 0)) 3841 (head v (n : Int) s c)) 3840 [1]) := ⟨by
      rw [← wrs_one]
      exact seq4 _ _ _ _ _ _ _ _ _⟩
    rw [HSQ.out] at HRR
    have HT2 : Aside0 (∃ T2, T2 = bindW (bindW (d.wr 3840 0) 3856 (List.replicate m 0)) 3841 (head v (n : Int) s c)) := ⟨_, rfl⟩
    obtain ⟨T2, hT2⟩ := HT2.out
    clear HT2 HSQ
    rw [← hT2] at HRR
    have HT2 := Aside0.mk hT2
    clear hR hT2
    unfold rup at *
    go_enter Try.func45, Try.ntmps45
    go_wp2_with fail
    rw [← hg4]
    refine (HC.out _ HR.out.1).mono ?_
    rintro e w1 ⟨rfl, hb⟩
    have HR1 := Aside0.mk (HR.out.step hb)
    have y0 := blk_cell HR1.out.2 0
    have y1 := blk_cell HR1.out.2 1
    have y2 := blk_cell HR1.out.2 2
    clear hb hg4 HR HC
    cases ac with
    | false =>
      have HRt := Aside0.mk ((HRR.out.trans (if_neg (by simp))).trans (if_neg (by simp)))
      have HA2 := Aside0.mk (HM.out.made HR1.out.1 HGE.out HR1.out.2)
      go_wp2_with fail
      refine (put_call' (c := c) HA2.out 0 0 (by have := HN.out; omega) (by have := HN.out; omega)).mono ?_
      rintro e w2 ⟨rfl, hm⟩
      have HT1 := Aside0.mk (show bindW (d.wr 3840 0) 3856 (List.replicate m 0) = bindW (d.wr (3840 + 0) (0 % 256)) (3856 + 0) ((List.replicate m 0).drop 0) from rfl)
      have HON0 := Aside0.mk (fun h => wr_ok (d := d) (a := 3840 + 0) (x := 0 % 256) h)
      have HMa := Aside0.mk hm
      generalize bindW (d.wr 3840 0) 3856 (List.replicate m 0) = T1 at *
      generalize d.wr (3840 + 0) (0 % 256) = p0 at *
      clear hm HA2 y0 y1 y2
      go_wp2_with fail
      go_loopw [9, 10] (fun v9 v10 wr => OfRel w0 gd gr N c L (blk g4 #[.pointer (some ⟨gd, 0, none⟩), .int .i64 slot, .int .i64 (c : Int)] 28) T1 3856 (List.replicate m 0) v9 v10 wr) (fun _ vi _ => m - (intOf vi).toNat)
      case atStart => exact ⟨0, p0, Nat.zero_le _, rfl, rfl, HT1.out, HON0.out, HMa.out⟩
      case round =>
        obtain ⟨k, ⟨pd, pk⟩, hk, rfl, rfl, hT, hon, hM⟩ := hrel
        clear HMa
        rw [List.length_replicate] at hk
        have HTk := Aside0.mk hT
        have HON := Aside0.mk hon
        have HMk := Aside0.mk hM
        have y0 := blk_cell hM.top 0
        have y1 := blk_cell hM.top 1
        have y2 := blk_cell hM.top 2
        clear hT hon hM
        have HM200 := HM2.out
        go_wp2_with fail
        refine (HRC.out _).mono ?_
        rintro e w3 ⟨rfl, hb⟩
        have HM3 := Aside0.mk (HMk.out.step hb)
        have y0 := blk_cell HM3.out.top 0
        have y1 := blk_cell HM3.out.top 1
        have y2 := blk_cell HM3.out.top 2
        clear hb HMk
        by_cases hlt : k < m
        · have hltd : decide ((k : Int) < (m : Int)) = true := decide_eq_true (by omega)
          have hltd2 : decide (k < m) = true := decide_eq_true hlt
          have hlt2 : (k : Int) < (m : Int) := by omega
          have hdr : Aside0 ((List.replicate m (0 : Int)).drop k = 0 :: (List.replicate m 0).drop (k + 1)) := ⟨by
            rw [List.drop_eq_getElem_cons (by simpa using hlt), List.getElem_replicate]⟩
          obtain ⟨t, ht⟩ : ∃ t, 16 + k = t := ⟨_, rfl⟩
          obtain ⟨e16, h56', HTN'⟩ := of_t hlt HM2.out HN.out ht
          have h56 := Aside0.mk h56'
          have HE16 := Aside0.mk e16
          have HTN := Aside0.mk HTN'
          clear h56' HTN' e16
          clear ht
          cases pk with
          | true =>
            go_wp2_with fail
            have HP := put_call' (c := c) (slot := slot) HM3.out t 0 HTN.out (by have := HN.out; omega)
            rw [HE16.out] at HP
            refine HP.mono ?_
            rintro e w4 ⟨rfl, hm⟩
            rw [h56.out] at hm ⊢
            have HM4 := Aside0.mk hm
            clear hm HM3 HP
            go_wp2_with fail
            go_roundw
            case rel =>
              exact ⟨k + 1, pd.wr (3856 + k) (0 % 256), by rw [List.length_replicate]; omega, rfl, by first | go_num | (congr 1), by rw [HTk.out, hdr.out, bindW_cons]; rfl, wr_ok, HM4.out⟩
            case measure => simp [intOf]; omega
          | false =>
            go_wp2_with fail
            go_roundw
            case rel =>
              exact ⟨k + 1, (pd, false), by rw [List.length_replicate]; omega, rfl, by first | go_num | (congr 1), by rw [HTk.out, hdr.out, bindW_cons]; rfl, (fun h => by cases h), HM3.out⟩
            case measure => simp [intOf]; omega
        · have hkm : k = m := by omega
          have HTe : Aside0 (T1 = (pd, pk)) := ⟨by
            rw [HTk.out, List.drop_eq_nil_of_le (by rw [List.length_replicate]; omega), bindW_nil _ HON.out]⟩
          have HTT := Aside0.mk (show T2 = bindW (pd, pk) (3841 + 0) ((head v (n : Int) s c).drop 0) by rw [HT2.out, HTe.out]; rfl)
          have hs3 := HS.out
          subst hkm
          have hltd : decide ((k : Int) < (k : Int)) = false := decide_eq_false (by omega)
          have hltd2 : decide (k < k) = false := decide_eq_false (by omega)
          have hlt2 : ¬ (k : Int) < (k : Int) := by omega
          go_wp2_with fail
          obtain ⟨gh, hgh⟩ : ∃ gh, gh = w3.heap.size := ⟨_, rfl⟩
          have HMb := Aside0.mk (HM3.out.add (.cells #[.int .i64 v, .int .i64 (v / 256), .int .i64 (v / 65536), .int .i64 (v / 16777216), .int .i64 (n : Int), .int .i64 ((n : Int) / 256), .int .i64 s, .int .i64 (s / 256), .int .i64 (c : Int)] 3))
          rw [← hgh] at HMb ⊢
          have HONb := Aside0.mk HON.out
          clear hgh HM3 HTk HON HTe y0 y1 y2 e1 e2 e2b es es2 hltd hltd2 hlt2 hs3 h1' h2' h3' h4' h3n h4n
          go_loopw [9, 12] (fun v9 v12 wr => OfRel w0 gd gr N c (blk g4 #[.pointer (some ⟨gd, 0, none⟩), .int .i64 slot, .int .i64 (c : Int)] 28 :: L) (blk gh #[.int .i64 v, .int .i64 (v / 256), .int .i64 (v / 65536), .int .i64 (v / 16777216), .int .i64 (n : Int), .int .i64 ((n : Int) / 256), .int .i64 s, .int .i64 (s / 256), .int .i64 (c : Int)] 3) T2 3841 (head v (n : Int) s c) v9 v12 wr) (fun _ vi _ => 9 - (intOf vi).toNat)
          case atStart => exact ⟨0, (pd, pk), Nat.zero_le _, rfl, rfl, HTT.out, HONb.out, HMb.out⟩
          case round =>
            obtain ⟨j, ⟨pe, pl⟩, hj, rfl, rfl, hT, hon, hM⟩ := hrel
            clear HMb HTT HONb
            have hj9 : j ≤ 9 := hj
            have HTj := Aside0.mk hT
            have HONj := Aside0.mk hon
            have HMj := Aside0.mk hM
            have t0 := blk_cell hM.drew'.drop.top 0
            have t1 := blk_cell hM.drew'.drop.top 1
            have t2 := blk_cell hM.drew'.drop.top 2
            clear hT hon hj
            by_cases hlt9 : j < 9
            · have hltj : decide ((j : Int) < 9) = true := decide_eq_true (by omega)
              have hltj2 : decide (j < 9) = true := decide_eq_true hlt9
              have hltj3 : (j : Int) < 9 := by omega
              have HXC0 := fun d' W (h : DvM w0 W gd gr N d' (blk gh #[.int .i64 v, .int .i64 (v / 256), .int .i64 (v / 65536), .int .i64 (v / 16777216), .int .i64 (n : Int), .int .i64 ((n : Int) / 256), .int .i64 s, .int .i64 (s / 256), .int .i64 (c : Int)] 3 :: blk g4 #[.pointer (some ⟨gd, 0, none⟩), .int .i64 slot, .int .i64 (c : Int)] 28 :: L)) => (blk_cell h.top j).trans (raw_get v (n : Int) s c hlt9)
              have HXC := Aside0.mk HXC0
              have x0 := HXC.out _ _ hM.drew'
              have hdr : Aside0 ((head v (n : Int) s c).drop j = (raw v (n : Int) s c).getD j 0 % 256 :: (head v (n : Int) s c).drop (j + 1)) := ⟨head_drop v (n : Int) s c hlt9⟩
              generalize (raw v (n : Int) s c).getD j 0 = x at *
              obtain ⟨t, ht⟩ : ∃ t, 1 + j = t := ⟨_, rfl⟩
              obtain ⟨f3, f4, f5, f6⟩ := of_t1 hlt9 HN.out ht
              have HDW := put_call' (c := c) (slot := slot) hM.drew' t x f6 (by have := HN.out; omega)
              rw [f5] at HDW
              have HDW := Aside0.mk HDW
              have HF5 := Aside0.mk f5
              clear HXC0 hM f5 f6 ht
              cases pl with
              | true =>
                go_wp2_with fail
                refine wp_region_held_drew (S := fun W => W.cell? ⟨g4, 0, none⟩ = some (.pointer (some ⟨gd, 0, none⟩)) ∧ W.cell? ⟨g4, 1, none⟩ = some (.int .i64 slot) ∧ W.cell? ⟨g4, 2, none⟩ = some (.int .i64 (c : Int)) ∧ W.cell? ⟨gh, j, none⟩ = some (.int .i64 x)) (by kernel_rfl) ⟨t0, t1, t2, x0⟩ (fun hS => ?_)
                refine wpAnyH_take (i := 0) (oi := { dst := some 92, op := Op.move (Operand.tmp 9), type := 4, pos := "ref.go:109", after := #[], guard := none }) (v := ?_) rfl (by kernel_rfl) (by kernel_rfl) (by kernel_rfl) (fun _ _ _ h => h) (Or.inl ⟨by rfl, ?_⟩) hS ?_
                rotate_left
                · intro W_ hSW_
                  obtain ⟨t0_, t1_, t2_, x0_⟩ := hSW_
                  go_simp
                  try with_reducible rfl
                try simp only [Act.put, List.setIfInBounds_toArray, List.set_cons_zero, List.set_cons_succ]
                refine wpAnyH_take (i := 1) (oi := { dst := some 93, op := Op.move (Operand.tmp 92), type := 4, pos := "ref.go:109", after := #[{ on := 0, ground := Ground.data }], guard := none }) (v := ?_) rfl (by kernel_rfl) (by kernel_rfl) (by kernel_rfl) (fun _ _ _ h => h) (Or.inl ⟨by rfl, ?_⟩) hS ?_
                rotate_left
                · intro W_ hSW_
                  obtain ⟨t0_, t1_, t2_, x0_⟩ := hSW_
                  go_simp
                  try with_reducible rfl
                try simp only [Act.put, List.setIfInBounds_toArray, List.set_cons_zero, List.set_cons_succ]
                refine wpAnyH_take (i := 2) (oi := { dst := some 94, op := Op.load 28 (Operand.tmp 4), type := 28, pos := "ref.go:109", after := #[{ on := 1, ground := Ground.guard }], guard := some (1, true) }) (v := ?_) rfl (by kernel_rfl) (by kernel_rfl) (by kernel_rfl) (fun _ _ _ h => h) (Or.inl ⟨by rfl, ?_⟩) hS ?_
                rotate_left
                · intro W_ hSW_
                  obtain ⟨t0_, t1_, t2_, x0_⟩ := hSW_
                  go_simp
                  try with_reducible rfl
                try simp only [Act.put, List.setIfInBounds_toArray, List.set_cons_zero, List.set_cons_succ]
                refine wpAnyH_take (i := 3) (oi := { dst := some 95, op := Op.move (Operand.tmp 12), type := 3, pos := "ref.go:109", after := #[{ on := 1, ground := Ground.guard }], guard := some (1, true) }) (v := ?_) rfl (by kernel_rfl) (by kernel_rfl) (by kernel_rfl) (fun _ _ _ h => h) (Or.inl ⟨by rfl, ?_⟩) hS ?_
                rotate_left
                · intro W_ hSW_
                  obtain ⟨t0_, t1_, t2_, x0_⟩ := hSW_
                  go_simp
                  try with_reducible rfl
                try simp only [Act.put, List.setIfInBounds_toArray, List.set_cons_zero, List.set_cons_succ]
                refine wpAnyH_take (i := 4) (oi := { dst := some 96, op := Op.binOp BinOp.add 3 (Operand.const (Value.int IntKind.i64 1)) (Operand.tmp 95) 3, type := 3, pos := "ref.go:109", after := #[{ on := 3, ground := Ground.data }, { on := 1, ground := Ground.guard }], guard := some (1, true) }) (v := ?_) rfl (by kernel_rfl) (by kernel_rfl) (by kernel_rfl) (fun _ _ _ h => h) (Or.inl ⟨by rfl, ?_⟩) hS ?_
                rotate_left
                · intro W_ hSW_
                  obtain ⟨t0_, t1_, t2_, x0_⟩ := hSW_
                  go_simp
                  try with_reducible rfl
                try simp only [Act.put, List.setIfInBounds_toArray, List.set_cons_zero, List.set_cons_succ]
                refine wpAnyH_take (i := 5) (oi := { dst := some 97, op := Op.move (Operand.tmp 11), type := 87, pos := "ref.go:109", after := #[{ on := 1, ground := Ground.guard }], guard := some (1, true) }) (v := ?_) rfl (by kernel_rfl) (by kernel_rfl) (by kernel_rfl) (fun _ _ _ h => h) (Or.inl ⟨by rfl, ?_⟩) hS ?_
                rotate_left
                · intro W_ hSW_
                  obtain ⟨t0_, t1_, t2_, x0_⟩ := hSW_
                  go_simp
                  try with_reducible rfl
                try simp only [Act.put, List.setIfInBounds_toArray, List.set_cons_zero, List.set_cons_succ]
                refine wpAnyH_take (i := 6) (oi := { dst := some 98, op := Op.move (Operand.tmp 12), type := 3, pos := "ref.go:109", after := #[{ on := 1, ground := Ground.guard }], guard := some (1, true) }) (v := ?_) rfl (by kernel_rfl) (by kernel_rfl) (by kernel_rfl) (fun _ _ _ h => h) (Or.inl ⟨by rfl, ?_⟩) hS ?_
                rotate_left
                · intro W_ hSW_
                  obtain ⟨t0_, t1_, t2_, x0_⟩ := hSW_
                  go_simp
                  try with_reducible rfl
                try simp only [Act.put, List.setIfInBounds_toArray, List.set_cons_zero, List.set_cons_succ]
                refine wpAnyH_take (i := 7) (oi := { dst := some 99, op := Op.indexAddr 87 (Operand.tmp 97) (Operand.tmp 98), type := 0, pos := "ref.go:109", after := #[{ on := 5, ground := Ground.data }, { on := 6, ground := Ground.data }, { on := 1, ground := Ground.guard }], guard := some (1, true) }) (v := ?_) rfl (by kernel_rfl) (by kernel_rfl) (by kernel_rfl) (fun _ _ _ h => h) (Or.inl ⟨by rfl, ?_⟩) hS ?_
                rotate_left
                · intro W_ hSW_
                  obtain ⟨t0_, t1_, t2_, x0_⟩ := hSW_
                  go_simp
                  try with_reducible rfl
                try simp only [Act.put, List.setIfInBounds_toArray, List.set_cons_zero, List.set_cons_succ]
                refine wpAnyH_take (i := 8) (oi := { dst := some 100, op := Op.load 3 (Operand.tmp 99), type := 3, pos := "ref.go:109", after := #[{ on := 7, ground := Ground.data }, { on := 1, ground := Ground.guard }], guard := some (1, true) }) (v := ?_) rfl (by kernel_rfl) (by kernel_rfl) (by kernel_rfl) (fun _ _ _ h => h) (Or.inl ⟨by rfl, ?_⟩) hS ?_
                rotate_left
                · intro W_ hSW_
                  obtain ⟨t0_, t1_, t2_, x0_⟩ := hSW_
                  go_simp
                  try with_reducible rfl
                try simp only [Act.put, List.setIfInBounds_toArray, List.set_cons_zero, List.set_cons_succ]
                refine wpAnyH_ready (rs := [9]) (by kernel_rfl) (by simp) ?_
                refine AllReadyH.cons (o := { dst := some 101, op := Op.call { callee := Callee.value (Operand.func 54), args := #[Operand.tmp 94, Operand.tmp 96, Operand.tmp 100], argTypes := #[28, 3, 3] }, type := 4, pos := "ref.go:109", after := #[{ on := 2, ground := Ground.data }, { on := 4, ground := Ground.data }, { on := 8, ground := Ground.data }, { on := 1, ground := Ground.chain }, { on := 1, ground := Ground.guard }], guard := some (1, true) }) rfl (fun K_ hK_ => ?_) AllReadyH.nil
                go_simp
                refine HDW.out.mono ?_
                rintro e w_ ⟨rfl, hm_⟩
                have HM_ := Aside0.mk hm_
                clear hm_
                refine hK_.out _ _ (⟨blk_cell HM_.out.drop.top 0, blk_cell HM_.out.drop.top 1, blk_cell HM_.out.drop.top 2, HXC.out _ _ HM_.out⟩) (fun hS_ => ?_)
                clear hK_ K_ hS
                have hS := hS_
                clear hS_
                try simp only [Act.put, List.setIfInBounds_toArray, List.set_cons_zero, List.set_cons_succ]
                refine wpAnyH_take (i := 10) (oi := { dst := some 102, op := Op.pick (Operand.tmp 93) (Operand.tmp 101) (Operand.const (Value.bool false)), type := 4, pos := "ref.go:109", after := #[{ on := 1, ground := Ground.data }, { on := 9, ground := Ground.data }], guard := none }) (v := ?_) rfl (by kernel_rfl) (by kernel_rfl) (by kernel_rfl) (fun _ _ _ h => h) (Or.inl ⟨by rfl, ?_⟩) hS ?_
                rotate_left
                · intro W_ hSW_
                  obtain ⟨t0_, t1_, t2_, x0_⟩ := hSW_
                  go_simp
                  try with_reducible rfl
                try simp only [Act.put, List.setIfInBounds_toArray, List.set_cons_zero, List.set_cons_succ]
                refine wpAnyH_take (i := 11) (oi := { dst := some 9, op := Op.assign (Operand.tmp 102), type := 4, pos := "ref.go:109", after := #[{ on := 10, ground := Ground.data }, { on := 9, ground := Ground.chain }, { on := 0, ground := Ground.phase }, { on := 1, ground := Ground.phase }, { on := 2, ground := Ground.phase }, { on := 3, ground := Ground.phase }, { on := 4, ground := Ground.phase }, { on := 5, ground := Ground.phase }, { on := 6, ground := Ground.phase }, { on := 7, ground := Ground.phase }, { on := 8, ground := Ground.phase }, { on := 9, ground := Ground.phase }, { on := 10, ground := Ground.phase }], guard := none }) (v := ?_) rfl (by kernel_rfl) (by kernel_rfl) (by kernel_rfl) (fun _ _ _ h => h) (Or.inl ⟨by rfl, ?_⟩) hS ?_
                rotate_left
                · intro W_ hSW_
                  obtain ⟨t0_, t1_, t2_, x0_⟩ := hSW_
                  go_simp
                  try with_reducible rfl
                try simp only [Act.put, List.setIfInBounds_toArray, List.set_cons_zero, List.set_cons_succ]
                refine wpAnyH_done (by kernel_rfl) ?_ _
                go_wp2_with fail
                go_roundw
                case rel =>
                  exact ⟨j + 1, pe.wr (3841 + j) (x % 256), by show j + 1 ≤ 9; omega, rfl, by first | go_num | (congr 1), by rw [HTj.out, hdr.out, bindW_cons]; rfl, wr_ok, HM_.out⟩
                case measure => simp [intOf]; omega
              | false =>
                go_wp2_with fail
                refine wp_region_held_drew (S := fun W => W.cell? ⟨g4, 0, none⟩ = some (.pointer (some ⟨gd, 0, none⟩)) ∧ W.cell? ⟨g4, 1, none⟩ = some (.int .i64 slot) ∧ W.cell? ⟨g4, 2, none⟩ = some (.int .i64 (c : Int)) ∧ W.cell? ⟨gh, j, none⟩ = some (.int .i64 x)) (by kernel_rfl) ⟨t0, t1, t2, x0⟩ (fun hS => ?_)
                refine wpAnyH_take (i := 0) (oi := { dst := some 92, op := Op.move (Operand.tmp 9), type := 4, pos := "ref.go:109", after := #[], guard := none }) (v := ?_) rfl (by kernel_rfl) (by kernel_rfl) (by kernel_rfl) (fun _ _ _ h => h) (Or.inl ⟨by rfl, ?_⟩) hS ?_
                rotate_left
                · intro W_ hSW_
                  obtain ⟨t0_, t1_, t2_, x0_⟩ := hSW_
                  go_simp
                  try with_reducible rfl
                try simp only [Act.put, List.setIfInBounds_toArray, List.set_cons_zero, List.set_cons_succ]
                refine wpAnyH_take (i := 1) (oi := { dst := some 93, op := Op.move (Operand.tmp 92), type := 4, pos := "ref.go:109", after := #[{ on := 0, ground := Ground.data }], guard := none }) (v := ?_) rfl (by kernel_rfl) (by kernel_rfl) (by kernel_rfl) (fun _ _ _ h => h) (Or.inl ⟨by rfl, ?_⟩) hS ?_
                rotate_left
                · intro W_ hSW_
                  obtain ⟨t0_, t1_, t2_, x0_⟩ := hSW_
                  go_simp
                  try with_reducible rfl
                try simp only [Act.put, List.setIfInBounds_toArray, List.set_cons_zero, List.set_cons_succ]
                refine wpAnyH_take (i := 2) (oi := { dst := some 94, op := Op.load 28 (Operand.tmp 4), type := 28, pos := "ref.go:109", after := #[{ on := 1, ground := Ground.guard }], guard := some (1, true) }) (v := undef) rfl (by kernel_rfl) (by kernel_rfl) (by kernel_rfl) (fun _ _ _ h => h) (Or.inr ⟨by rfl, rfl⟩) hS ?_
                try simp only [Act.put, List.setIfInBounds_toArray, List.set_cons_zero, List.set_cons_succ]
                refine wpAnyH_take (i := 3) (oi := { dst := some 95, op := Op.move (Operand.tmp 12), type := 3, pos := "ref.go:109", after := #[{ on := 1, ground := Ground.guard }], guard := some (1, true) }) (v := undef) rfl (by kernel_rfl) (by kernel_rfl) (by kernel_rfl) (fun _ _ _ h => h) (Or.inr ⟨by rfl, rfl⟩) hS ?_
                try simp only [Act.put, List.setIfInBounds_toArray, List.set_cons_zero, List.set_cons_succ]
                refine wpAnyH_take (i := 4) (oi := { dst := some 96, op := Op.binOp BinOp.add 3 (Operand.const (Value.int IntKind.i64 1)) (Operand.tmp 95) 3, type := 3, pos := "ref.go:109", after := #[{ on := 3, ground := Ground.data }, { on := 1, ground := Ground.guard }], guard := some (1, true) }) (v := undef) rfl (by kernel_rfl) (by kernel_rfl) (by kernel_rfl) (fun _ _ _ h => h) (Or.inr ⟨by rfl, rfl⟩) hS ?_
                try simp only [Act.put, List.setIfInBounds_toArray, List.set_cons_zero, List.set_cons_succ]
                refine wpAnyH_take (i := 5) (oi := { dst := some 97, op := Op.move (Operand.tmp 11), type := 87, pos := "ref.go:109", after := #[{ on := 1, ground := Ground.guard }], guard := some (1, true) }) (v := undef) rfl (by kernel_rfl) (by kernel_rfl) (by kernel_rfl) (fun _ _ _ h => h) (Or.inr ⟨by rfl, rfl⟩) hS ?_
                try simp only [Act.put, List.setIfInBounds_toArray, List.set_cons_zero, List.set_cons_succ]
                refine wpAnyH_take (i := 6) (oi := { dst := some 98, op := Op.move (Operand.tmp 12), type := 3, pos := "ref.go:109", after := #[{ on := 1, ground := Ground.guard }], guard := some (1, true) }) (v := undef) rfl (by kernel_rfl) (by kernel_rfl) (by kernel_rfl) (fun _ _ _ h => h) (Or.inr ⟨by rfl, rfl⟩) hS ?_
                try simp only [Act.put, List.setIfInBounds_toArray, List.set_cons_zero, List.set_cons_succ]
                refine wpAnyH_take (i := 7) (oi := { dst := some 99, op := Op.indexAddr 87 (Operand.tmp 97) (Operand.tmp 98), type := 0, pos := "ref.go:109", after := #[{ on := 5, ground := Ground.data }, { on := 6, ground := Ground.data }, { on := 1, ground := Ground.guard }], guard := some (1, true) }) (v := undef) rfl (by kernel_rfl) (by kernel_rfl) (by kernel_rfl) (fun _ _ _ h => h) (Or.inr ⟨by rfl, rfl⟩) hS ?_
                try simp only [Act.put, List.setIfInBounds_toArray, List.set_cons_zero, List.set_cons_succ]
                refine wpAnyH_take (i := 8) (oi := { dst := some 100, op := Op.load 3 (Operand.tmp 99), type := 3, pos := "ref.go:109", after := #[{ on := 7, ground := Ground.data }, { on := 1, ground := Ground.guard }], guard := some (1, true) }) (v := undef) rfl (by kernel_rfl) (by kernel_rfl) (by kernel_rfl) (fun _ _ _ h => h) (Or.inr ⟨by rfl, rfl⟩) hS ?_
                try simp only [Act.put, List.setIfInBounds_toArray, List.set_cons_zero, List.set_cons_succ]
                refine wpAnyH_take (i := 9) (oi := { dst := some 101, op := Op.call { callee := Callee.value (Operand.func 54), args := #[Operand.tmp 94, Operand.tmp 96, Operand.tmp 100], argTypes := #[28, 3, 3] }, type := 4, pos := "ref.go:109", after := #[{ on := 2, ground := Ground.data }, { on := 4, ground := Ground.data }, { on := 8, ground := Ground.data }, { on := 1, ground := Ground.chain }, { on := 1, ground := Ground.guard }], guard := some (1, true) }) (v := undef) rfl (by kernel_rfl) (by kernel_rfl) (by kernel_rfl) (fun _ _ _ h => h) (Or.inr ⟨by rfl, rfl⟩) hS ?_
                try simp only [Act.put, List.setIfInBounds_toArray, List.set_cons_zero, List.set_cons_succ]
                refine wpAnyH_take (i := 10) (oi := { dst := some 102, op := Op.pick (Operand.tmp 93) (Operand.tmp 101) (Operand.const (Value.bool false)), type := 4, pos := "ref.go:109", after := #[{ on := 1, ground := Ground.data }, { on := 9, ground := Ground.data }], guard := none }) (v := ?_) rfl (by kernel_rfl) (by kernel_rfl) (by kernel_rfl) (fun _ _ _ h => h) (Or.inl ⟨by rfl, ?_⟩) hS ?_
                rotate_left
                · intro W_ hSW_
                  obtain ⟨t0_, t1_, t2_, x0_⟩ := hSW_
                  go_simp
                  try with_reducible rfl
                try simp only [Act.put, List.setIfInBounds_toArray, List.set_cons_zero, List.set_cons_succ]
                refine wpAnyH_take (i := 11) (oi := { dst := some 9, op := Op.assign (Operand.tmp 102), type := 4, pos := "ref.go:109", after := #[{ on := 10, ground := Ground.data }, { on := 9, ground := Ground.chain }, { on := 0, ground := Ground.phase }, { on := 1, ground := Ground.phase }, { on := 2, ground := Ground.phase }, { on := 3, ground := Ground.phase }, { on := 4, ground := Ground.phase }, { on := 5, ground := Ground.phase }, { on := 6, ground := Ground.phase }, { on := 7, ground := Ground.phase }, { on := 8, ground := Ground.phase }, { on := 9, ground := Ground.phase }, { on := 10, ground := Ground.phase }], guard := none }) (v := ?_) rfl (by kernel_rfl) (by kernel_rfl) (by kernel_rfl) (fun _ _ _ h => h) (Or.inl ⟨by rfl, ?_⟩) hS ?_
                rotate_left
                · intro W_ hSW_
                  obtain ⟨t0_, t1_, t2_, x0_⟩ := hSW_
                  go_simp
                  try with_reducible rfl
                try simp only [Act.put, List.setIfInBounds_toArray, List.set_cons_zero, List.set_cons_succ]
                refine wpAnyH_done (by kernel_rfl) ?_ _
                go_wp2_with fail
                go_roundw
                case rel =>
                  exact ⟨j + 1, (pe, false), by show j + 1 ≤ 9; omega, rfl, by first | go_num | (congr 1), by rw [HTj.out, hdr.out, bindW_cons]; rfl, (fun h => by cases h), HMj.out.drew'⟩
                case measure => simp [intOf]; omega
            · have hj99 : j = 9 := by omega
              subst hj99
              have HTe : Aside0 (T2 = (pe, pl)) := ⟨by
                rw [HTj.out, show (head v (n : Int) s c).drop 9 = [] from rfl, bindW_nil _ HONj.out]⟩
              have y0 := blk_cell hM.drop.top 0
              have y1 := blk_cell hM.drop.top 1
              have y2 := blk_cell hM.drop.top 2
              clear t0 t1 t2 hM HTj HONj
              cases pl with
              | false =>
                have HRv := Aside0.mk (HRt.out.trans (congrArg seqR (show bindW T2 3840 [1] = (pe, false) by rw [HTe.out]; exact bindW_f rfl)))
                go_wp2_with fail
                go_ret
                rw [HRv.out]
                exact ⟨rfl, HMj.out.drop.drop⟩
              | true =>
                have HRv := Aside0.mk (HRt.out.trans (congrArg seqR (show bindW T2 3840 [1] = pe.wr (3840 + 0) (1 % 256) by rw [HTe.out]; exact (bindW_t rfl).trans (wrs_one _ _ _))))
                have HPZ := Aside0.mk (put_call' (c := c) (slot := slot) HMj.out 0 1 (by have := HN.out; omega) (by have := HN.out; omega))
                generalize pe.wr (3840 + 0) (1 % 256) = z at *
                obtain ⟨zd, zk⟩ := z
                go_wp2_with fail
                refine HPZ.out.mono ?_
                rintro e w8 ⟨rfl, hm⟩
                have HMz := Aside0.mk hm
                clear hm
                cases zk with
                | true =>
                  go_wp2_with fail
                  go_ret
                  rw [HRv.out]
                  exact ⟨rfl, HMz.out.drop.drop⟩
                | false =>
                  go_wp2_with fail
                  go_ret
                  rw [HRv.out]
                  exact ⟨rfl, HMz.out.drop.drop⟩
    | true =>
      by_cases hE1 : n1 = v
      · have hE1s := hE1.symm
        subst hE1s
        by_cases hE5 : n5 = (n : Int)
        · subst hE5
          by_cases hE7 : n7 = s
          · have hE7s := hE7.symm
            subst hE7s
            have HRt := Aside0.mk (HRR.out.trans (if_pos (by simp)))
            go_wp2_with fail
            refine (K1.out _ HR1.out.1).mono ?_
            rintro e w1_ ⟨rfl, hb⟩
            have HR2 := Aside0.mk (HR1.out.step hb)
            clear hb y0 y1 y2
            have y0 := blk_cell HR2.out.2 0
            have y1 := blk_cell HR2.out.2 1
            have y2 := blk_cell HR2.out.2 2
            go_wp2_with fail
            refine (K5.out _ HR2.out.1).mono ?_
            rintro e w2_ ⟨rfl, hb⟩
            have HR3 := Aside0.mk (HR2.out.step hb)
            clear hb y0 y1 y2
            have y0 := blk_cell HR3.out.2 0
            have y1 := blk_cell HR3.out.2 1
            have y2 := blk_cell HR3.out.2 2
            go_wp2_with fail
            refine (K7.out _ HR3.out.1).mono ?_
            rintro e w3_ ⟨rfl, hb⟩
            have HR4 := Aside0.mk (HR3.out.step hb)
            clear hb y0 y1 y2
            have y0 := blk_cell HR4.out.2 0
            have y1 := blk_cell HR4.out.2 1
            have y2 := blk_cell HR4.out.2 2
            go_wp2_with fail
            go_ret
            rw [HRt.out]
            exact ⟨rfl, HM.out.step HR4.out.1⟩
          · have hE7b : (n7 == s) = false := by simpa using hE7
            have HRt := Aside0.mk ((HRR.out.trans (if_neg (by simp [hE7]))).trans (if_neg (by simp)))
            go_wp2_with fail
            refine (K1.out _ HR1.out.1).mono ?_
            rintro e w1_ ⟨rfl, hb⟩
            have HR2 := Aside0.mk (HR1.out.step hb)
            clear hb y0 y1 y2
            have y0 := blk_cell HR2.out.2 0
            have y1 := blk_cell HR2.out.2 1
            have y2 := blk_cell HR2.out.2 2
            go_wp2_with fail
            refine (K5.out _ HR2.out.1).mono ?_
            rintro e w2_ ⟨rfl, hb⟩
            have HR3 := Aside0.mk (HR2.out.step hb)
            clear hb y0 y1 y2
            have y0 := blk_cell HR3.out.2 0
            have y1 := blk_cell HR3.out.2 1
            have y2 := blk_cell HR3.out.2 2
            go_wp2_with fail
            refine (K7.out _ HR3.out.1).mono ?_
            rintro e w3_ ⟨rfl, hb⟩
            have HR4 := Aside0.mk (HR3.out.step hb)
            clear hb y0 y1 y2
            have y0 := blk_cell HR4.out.2 0
            have y1 := blk_cell HR4.out.2 1
            have y2 := blk_cell HR4.out.2 2
            go_wp2_with fail
            refine (K1.out _ HR4.out.1).mono ?_
            rintro e w4_ ⟨rfl, hb⟩
            have HR5 := Aside0.mk (HR4.out.step hb)
            clear hb y0 y1 y2
            have y0 := blk_cell HR5.out.2 0
            have y1 := blk_cell HR5.out.2 1
            have y2 := blk_cell HR5.out.2 2
            have HA2 := Aside0.mk (HM.out.made HR5.out.1 HGE.out HR5.out.2)
            go_wp2_with fail
            refine (put_call' (c := c) HA2.out 0 0 (by have := HN.out; omega) (by have := HN.out; omega)).mono ?_
            rintro e w2 ⟨rfl, hm⟩
            have HT1 := Aside0.mk (show bindW (d.wr 3840 0) 3856 (List.replicate m 0) = bindW (d.wr (3840 + 0) (0 % 256)) (3856 + 0) ((List.replicate m 0).drop 0) from rfl)
            have HON0 := Aside0.mk (fun h => wr_ok (d := d) (a := 3840 + 0) (x := 0 % 256) h)
            have HMa := Aside0.mk hm
            generalize bindW (d.wr 3840 0) 3856 (List.replicate m 0) = T1 at *
            generalize d.wr (3840 + 0) (0 % 256) = p0 at *
            clear hm HA2 y0 y1 y2
            go_wp2_with fail
            go_loopw [9, 10] (fun v9 v10 wr => OfRel w0 gd gr N c L (blk g4 #[.pointer (some ⟨gd, 0, none⟩), .int .i64 slot, .int .i64 (c : Int)] 28) T1 3856 (List.replicate m 0) v9 v10 wr) (fun _ vi _ => m - (intOf vi).toNat)
            case atStart => exact ⟨0, p0, Nat.zero_le _, rfl, rfl, HT1.out, HON0.out, HMa.out⟩
            case round =>
              obtain ⟨k, ⟨pd, pk⟩, hk, rfl, rfl, hT, hon, hM⟩ := hrel
              clear HMa
              rw [List.length_replicate] at hk
              have HTk := Aside0.mk hT
              have HON := Aside0.mk hon
              have HMk := Aside0.mk hM
              have y0 := blk_cell hM.top 0
              have y1 := blk_cell hM.top 1
              have y2 := blk_cell hM.top 2
              clear hT hon hM
              have HM200 := HM2.out
              go_wp2_with fail
              refine (HRC.out _).mono ?_
              rintro e w3 ⟨rfl, hb⟩
              have HM3 := Aside0.mk (HMk.out.step hb)
              have y0 := blk_cell HM3.out.top 0
              have y1 := blk_cell HM3.out.top 1
              have y2 := blk_cell HM3.out.top 2
              clear hb HMk
              by_cases hlt : k < m
              · have hltd : decide ((k : Int) < (m : Int)) = true := decide_eq_true (by omega)
                have hltd2 : decide (k < m) = true := decide_eq_true hlt
                have hlt2 : (k : Int) < (m : Int) := by omega
                have hdr : Aside0 ((List.replicate m (0 : Int)).drop k = 0 :: (List.replicate m 0).drop (k + 1)) := ⟨by
                  rw [List.drop_eq_getElem_cons (by simpa using hlt), List.getElem_replicate]⟩
                obtain ⟨t, ht⟩ : ∃ t, 16 + k = t := ⟨_, rfl⟩
                obtain ⟨e16, h56', HTN'⟩ := of_t hlt HM2.out HN.out ht
                have h56 := Aside0.mk h56'
                have HE16 := Aside0.mk e16
                have HTN := Aside0.mk HTN'
                clear h56' HTN' e16
                clear ht
                cases pk with
                | true =>
                  go_wp2_with fail
                  have HP := put_call' (c := c) (slot := slot) HM3.out t 0 HTN.out (by have := HN.out; omega)
                  rw [HE16.out] at HP
                  refine HP.mono ?_
                  rintro e w4 ⟨rfl, hm⟩
                  rw [h56.out] at hm ⊢
                  have HM4 := Aside0.mk hm
                  clear hm HM3 HP
                  go_wp2_with fail
                  go_roundw
                  case rel =>
                    exact ⟨k + 1, pd.wr (3856 + k) (0 % 256), by rw [List.length_replicate]; omega, rfl, by first | go_num | (congr 1), by rw [HTk.out, hdr.out, bindW_cons]; rfl, wr_ok, HM4.out⟩
                  case measure => simp [intOf]; omega
                | false =>
                  go_wp2_with fail
                  go_roundw
                  case rel =>
                    exact ⟨k + 1, (pd, false), by rw [List.length_replicate]; omega, rfl, by first | go_num | (congr 1), by rw [HTk.out, hdr.out, bindW_cons]; rfl, (fun h => by cases h), HM3.out⟩
                  case measure => simp [intOf]; omega
              · have hkm : k = m := by omega
                have HTe : Aside0 (T1 = (pd, pk)) := ⟨by
                  rw [HTk.out, List.drop_eq_nil_of_le (by rw [List.length_replicate]; omega), bindW_nil _ HON.out]⟩
                have HTT := Aside0.mk (show T2 = bindW (pd, pk) (3841 + 0) ((head v (n : Int) s c).drop 0) by rw [HT2.out, HTe.out]; rfl)
                have hs3 := HS.out
                subst hkm
                have hltd : decide ((k : Int) < (k : Int)) = false := decide_eq_false (by omega)
                have hltd2 : decide (k < k) = false := decide_eq_false (by omega)
                have hlt2 : ¬ (k : Int) < (k : Int) := by omega
                go_wp2_with fail
                obtain ⟨gh, hgh⟩ : ∃ gh, gh = w3.heap.size := ⟨_, rfl⟩
                have HMb := Aside0.mk (HM3.out.add (.cells #[.int .i64 v, .int .i64 (v / 256), .int .i64 (v / 65536), .int .i64 (v / 16777216), .int .i64 (n : Int), .int .i64 ((n : Int) / 256), .int .i64 s, .int .i64 (s / 256), .int .i64 (c : Int)] 3))
                rw [← hgh] at HMb ⊢
                have HONb := Aside0.mk HON.out
                clear hgh HM3 HTk HON HTe y0 y1 y2 e1 e2 e2b es es2 hltd hltd2 hlt2 hs3 h1' h2' h3' h4' h3n h4n
                go_loopw [9, 12] (fun v9 v12 wr => OfRel w0 gd gr N c (blk g4 #[.pointer (some ⟨gd, 0, none⟩), .int .i64 slot, .int .i64 (c : Int)] 28 :: L) (blk gh #[.int .i64 v, .int .i64 (v / 256), .int .i64 (v / 65536), .int .i64 (v / 16777216), .int .i64 (n : Int), .int .i64 ((n : Int) / 256), .int .i64 s, .int .i64 (s / 256), .int .i64 (c : Int)] 3) T2 3841 (head v (n : Int) s c) v9 v12 wr) (fun _ vi _ => 9 - (intOf vi).toNat)
                case atStart => exact ⟨0, (pd, pk), Nat.zero_le _, rfl, rfl, HTT.out, HONb.out, HMb.out⟩
                case round =>
                  obtain ⟨j, ⟨pe, pl⟩, hj, rfl, rfl, hT, hon, hM⟩ := hrel
                  clear HMb HTT HONb
                  have hj9 : j ≤ 9 := hj
                  have HTj := Aside0.mk hT
                  have HONj := Aside0.mk hon
                  have HMj := Aside0.mk hM
                  have t0 := blk_cell hM.drew'.drop.top 0
                  have t1 := blk_cell hM.drew'.drop.top 1
                  have t2 := blk_cell hM.drew'.drop.top 2
                  clear hT hon hj
                  by_cases hlt9 : j < 9
                  · have hltj : decide ((j : Int) < 9) = true := decide_eq_true (by omega)
                    have hltj2 : decide (j < 9) = true := decide_eq_true hlt9
                    have hltj3 : (j : Int) < 9 := by omega
                    have HXC0 := fun d' W (h : DvM w0 W gd gr N d' (blk gh #[.int .i64 v, .int .i64 (v / 256), .int .i64 (v / 65536), .int .i64 (v / 16777216), .int .i64 (n : Int), .int .i64 ((n : Int) / 256), .int .i64 s, .int .i64 (s / 256), .int .i64 (c : Int)] 3 :: blk g4 #[.pointer (some ⟨gd, 0, none⟩), .int .i64 slot, .int .i64 (c : Int)] 28 :: L)) => (blk_cell h.top j).trans (raw_get v (n : Int) s c hlt9)
                    have HXC := Aside0.mk HXC0
                    have x0 := HXC.out _ _ hM.drew'
                    have hdr : Aside0 ((head v (n : Int) s c).drop j = (raw v (n : Int) s c).getD j 0 % 256 :: (head v (n : Int) s c).drop (j + 1)) := ⟨head_drop v (n : Int) s c hlt9⟩
                    generalize (raw v (n : Int) s c).getD j 0 = x at *
                    obtain ⟨t, ht⟩ : ∃ t, 1 + j = t := ⟨_, rfl⟩
                    obtain ⟨f3, f4, f5, f6⟩ := of_t1 hlt9 HN.out ht
                    have HDW := put_call' (c := c) (slot := slot) hM.drew' t x f6 (by have := HN.out; omega)
                    rw [f5] at HDW
                    have HDW := Aside0.mk HDW
                    have HF5 := Aside0.mk f5
                    clear HXC0 hM f5 f6 ht
                    cases pl with
                    | true =>
                      go_wp2_with fail
                      refine wp_region_held_drew (S := fun W => W.cell? ⟨g4, 0, none⟩ = some (.pointer (some ⟨gd, 0, none⟩)) ∧ W.cell? ⟨g4, 1, none⟩ = some (.int .i64 slot) ∧ W.cell? ⟨g4, 2, none⟩ = some (.int .i64 (c : Int)) ∧ W.cell? ⟨gh, j, none⟩ = some (.int .i64 x)) (by kernel_rfl) ⟨t0, t1, t2, x0⟩ (fun hS => ?_)
                      refine wpAnyH_take (i := 0) (oi := { dst := some 92, op := Op.move (Operand.tmp 9), type := 4, pos := "ref.go:109", after := #[], guard := none }) (v := ?_) rfl (by kernel_rfl) (by kernel_rfl) (by kernel_rfl) (fun _ _ _ h => h) (Or.inl ⟨by rfl, ?_⟩) hS ?_
                      rotate_left
                      · intro W_ hSW_
                        obtain ⟨t0_, t1_, t2_, x0_⟩ := hSW_
                        go_simp
                        try with_reducible rfl
                      try simp only [Act.put, List.setIfInBounds_toArray, List.set_cons_zero, List.set_cons_succ]
                      refine wpAnyH_take (i := 1) (oi := { dst := some 93, op := Op.move (Operand.tmp 92), type := 4, pos := "ref.go:109", after := #[{ on := 0, ground := Ground.data }], guard := none }) (v := ?_) rfl (by kernel_rfl) (by kernel_rfl) (by kernel_rfl) (fun _ _ _ h => h) (Or.inl ⟨by rfl, ?_⟩) hS ?_
                      rotate_left
                      · intro W_ hSW_
                        obtain ⟨t0_, t1_, t2_, x0_⟩ := hSW_
                        go_simp
                        try with_reducible rfl
                      try simp only [Act.put, List.setIfInBounds_toArray, List.set_cons_zero, List.set_cons_succ]
                      refine wpAnyH_take (i := 2) (oi := { dst := some 94, op := Op.load 28 (Operand.tmp 4), type := 28, pos := "ref.go:109", after := #[{ on := 1, ground := Ground.guard }], guard := some (1, true) }) (v := ?_) rfl (by kernel_rfl) (by kernel_rfl) (by kernel_rfl) (fun _ _ _ h => h) (Or.inl ⟨by rfl, ?_⟩) hS ?_
                      rotate_left
                      · intro W_ hSW_
                        obtain ⟨t0_, t1_, t2_, x0_⟩ := hSW_
                        go_simp
                        try with_reducible rfl
                      try simp only [Act.put, List.setIfInBounds_toArray, List.set_cons_zero, List.set_cons_succ]
                      refine wpAnyH_take (i := 3) (oi := { dst := some 95, op := Op.move (Operand.tmp 12), type := 3, pos := "ref.go:109", after := #[{ on := 1, ground := Ground.guard }], guard := some (1, true) }) (v := ?_) rfl (by kernel_rfl) (by kernel_rfl) (by kernel_rfl) (fun _ _ _ h => h) (Or.inl ⟨by rfl, ?_⟩) hS ?_
                      rotate_left
                      · intro W_ hSW_
                        obtain ⟨t0_, t1_, t2_, x0_⟩ := hSW_
                        go_simp
                        try with_reducible rfl
                      try simp only [Act.put, List.setIfInBounds_toArray, List.set_cons_zero, List.set_cons_succ]
                      refine wpAnyH_take (i := 4) (oi := { dst := some 96, op := Op.binOp BinOp.add 3 (Operand.const (Value.int IntKind.i64 1)) (Operand.tmp 95) 3, type := 3, pos := "ref.go:109", after := #[{ on := 3, ground := Ground.data }, { on := 1, ground := Ground.guard }], guard := some (1, true) }) (v := ?_) rfl (by kernel_rfl) (by kernel_rfl) (by kernel_rfl) (fun _ _ _ h => h) (Or.inl ⟨by rfl, ?_⟩) hS ?_
                      rotate_left
                      · intro W_ hSW_
                        obtain ⟨t0_, t1_, t2_, x0_⟩ := hSW_
                        go_simp
                        try with_reducible rfl
                      try simp only [Act.put, List.setIfInBounds_toArray, List.set_cons_zero, List.set_cons_succ]
                      refine wpAnyH_take (i := 5) (oi := { dst := some 97, op := Op.move (Operand.tmp 11), type := 87, pos := "ref.go:109", after := #[{ on := 1, ground := Ground.guard }], guard := some (1, true) }) (v := ?_) rfl (by kernel_rfl) (by kernel_rfl) (by kernel_rfl) (fun _ _ _ h => h) (Or.inl ⟨by rfl, ?_⟩) hS ?_
                      rotate_left
                      · intro W_ hSW_
                        obtain ⟨t0_, t1_, t2_, x0_⟩ := hSW_
                        go_simp
                        try with_reducible rfl
                      try simp only [Act.put, List.setIfInBounds_toArray, List.set_cons_zero, List.set_cons_succ]
                      refine wpAnyH_take (i := 6) (oi := { dst := some 98, op := Op.move (Operand.tmp 12), type := 3, pos := "ref.go:109", after := #[{ on := 1, ground := Ground.guard }], guard := some (1, true) }) (v := ?_) rfl (by kernel_rfl) (by kernel_rfl) (by kernel_rfl) (fun _ _ _ h => h) (Or.inl ⟨by rfl, ?_⟩) hS ?_
                      rotate_left
                      · intro W_ hSW_
                        obtain ⟨t0_, t1_, t2_, x0_⟩ := hSW_
                        go_simp
                        try with_reducible rfl
                      try simp only [Act.put, List.setIfInBounds_toArray, List.set_cons_zero, List.set_cons_succ]
                      refine wpAnyH_take (i := 7) (oi := { dst := some 99, op := Op.indexAddr 87 (Operand.tmp 97) (Operand.tmp 98), type := 0, pos := "ref.go:109", after := #[{ on := 5, ground := Ground.data }, { on := 6, ground := Ground.data }, { on := 1, ground := Ground.guard }], guard := some (1, true) }) (v := ?_) rfl (by kernel_rfl) (by kernel_rfl) (by kernel_rfl) (fun _ _ _ h => h) (Or.inl ⟨by rfl, ?_⟩) hS ?_
                      rotate_left
                      · intro W_ hSW_
                        obtain ⟨t0_, t1_, t2_, x0_⟩ := hSW_
                        go_simp
                        try with_reducible rfl
                      try simp only [Act.put, List.setIfInBounds_toArray, List.set_cons_zero, List.set_cons_succ]
                      refine wpAnyH_take (i := 8) (oi := { dst := some 100, op := Op.load 3 (Operand.tmp 99), type := 3, pos := "ref.go:109", after := #[{ on := 7, ground := Ground.data }, { on := 1, ground := Ground.guard }], guard := some (1, true) }) (v := ?_) rfl (by kernel_rfl) (by kernel_rfl) (by kernel_rfl) (fun _ _ _ h => h) (Or.inl ⟨by rfl, ?_⟩) hS ?_
                      rotate_left
                      · intro W_ hSW_
                        obtain ⟨t0_, t1_, t2_, x0_⟩ := hSW_
                        go_simp
                        try with_reducible rfl
                      try simp only [Act.put, List.setIfInBounds_toArray, List.set_cons_zero, List.set_cons_succ]
                      refine wpAnyH_ready (rs := [9]) (by kernel_rfl) (by simp) ?_
                      refine AllReadyH.cons (o := { dst := some 101, op := Op.call { callee := Callee.value (Operand.func 54), args := #[Operand.tmp 94, Operand.tmp 96, Operand.tmp 100], argTypes := #[28, 3, 3] }, type := 4, pos := "ref.go:109", after := #[{ on := 2, ground := Ground.data }, { on := 4, ground := Ground.data }, { on := 8, ground := Ground.data }, { on := 1, ground := Ground.chain }, { on := 1, ground := Ground.guard }], guard := some (1, true) }) rfl (fun K_ hK_ => ?_) AllReadyH.nil
                      go_simp
                      refine HDW.out.mono ?_
                      rintro e w_ ⟨rfl, hm_⟩
                      have HM_ := Aside0.mk hm_
                      clear hm_
                      refine hK_.out _ _ (⟨blk_cell HM_.out.drop.top 0, blk_cell HM_.out.drop.top 1, blk_cell HM_.out.drop.top 2, HXC.out _ _ HM_.out⟩) (fun hS_ => ?_)
                      clear hK_ K_ hS
                      have hS := hS_
                      clear hS_
                      try simp only [Act.put, List.setIfInBounds_toArray, List.set_cons_zero, List.set_cons_succ]
                      refine wpAnyH_take (i := 10) (oi := { dst := some 102, op := Op.pick (Operand.tmp 93) (Operand.tmp 101) (Operand.const (Value.bool false)), type := 4, pos := "ref.go:109", after := #[{ on := 1, ground := Ground.data }, { on := 9, ground := Ground.data }], guard := none }) (v := ?_) rfl (by kernel_rfl) (by kernel_rfl) (by kernel_rfl) (fun _ _ _ h => h) (Or.inl ⟨by rfl, ?_⟩) hS ?_
                      rotate_left
                      · intro W_ hSW_
                        obtain ⟨t0_, t1_, t2_, x0_⟩ := hSW_
                        go_simp
                        try with_reducible rfl
                      try simp only [Act.put, List.setIfInBounds_toArray, List.set_cons_zero, List.set_cons_succ]
                      refine wpAnyH_take (i := 11) (oi := { dst := some 9, op := Op.assign (Operand.tmp 102), type := 4, pos := "ref.go:109", after := #[{ on := 10, ground := Ground.data }, { on := 9, ground := Ground.chain }, { on := 0, ground := Ground.phase }, { on := 1, ground := Ground.phase }, { on := 2, ground := Ground.phase }, { on := 3, ground := Ground.phase }, { on := 4, ground := Ground.phase }, { on := 5, ground := Ground.phase }, { on := 6, ground := Ground.phase }, { on := 7, ground := Ground.phase }, { on := 8, ground := Ground.phase }, { on := 9, ground := Ground.phase }, { on := 10, ground := Ground.phase }], guard := none }) (v := ?_) rfl (by kernel_rfl) (by kernel_rfl) (by kernel_rfl) (fun _ _ _ h => h) (Or.inl ⟨by rfl, ?_⟩) hS ?_
                      rotate_left
                      · intro W_ hSW_
                        obtain ⟨t0_, t1_, t2_, x0_⟩ := hSW_
                        go_simp
                        try with_reducible rfl
                      try simp only [Act.put, List.setIfInBounds_toArray, List.set_cons_zero, List.set_cons_succ]
                      refine wpAnyH_done (by kernel_rfl) ?_ _
                      go_wp2_with fail
                      go_roundw
                      case rel =>
                        exact ⟨j + 1, pe.wr (3841 + j) (x % 256), by show j + 1 ≤ 9; omega, rfl, by first | go_num | (congr 1), by rw [HTj.out, hdr.out, bindW_cons]; rfl, wr_ok, HM_.out⟩
                      case measure => simp [intOf]; omega
                    | false =>
                      go_wp2_with fail
                      refine wp_region_held_drew (S := fun W => W.cell? ⟨g4, 0, none⟩ = some (.pointer (some ⟨gd, 0, none⟩)) ∧ W.cell? ⟨g4, 1, none⟩ = some (.int .i64 slot) ∧ W.cell? ⟨g4, 2, none⟩ = some (.int .i64 (c : Int)) ∧ W.cell? ⟨gh, j, none⟩ = some (.int .i64 x)) (by kernel_rfl) ⟨t0, t1, t2, x0⟩ (fun hS => ?_)
                      refine wpAnyH_take (i := 0) (oi := { dst := some 92, op := Op.move (Operand.tmp 9), type := 4, pos := "ref.go:109", after := #[], guard := none }) (v := ?_) rfl (by kernel_rfl) (by kernel_rfl) (by kernel_rfl) (fun _ _ _ h => h) (Or.inl ⟨by rfl, ?_⟩) hS ?_
                      rotate_left
                      · intro W_ hSW_
                        obtain ⟨t0_, t1_, t2_, x0_⟩ := hSW_
                        go_simp
                        try with_reducible rfl
                      try simp only [Act.put, List.setIfInBounds_toArray, List.set_cons_zero, List.set_cons_succ]
                      refine wpAnyH_take (i := 1) (oi := { dst := some 93, op := Op.move (Operand.tmp 92), type := 4, pos := "ref.go:109", after := #[{ on := 0, ground := Ground.data }], guard := none }) (v := ?_) rfl (by kernel_rfl) (by kernel_rfl) (by kernel_rfl) (fun _ _ _ h => h) (Or.inl ⟨by rfl, ?_⟩) hS ?_
                      rotate_left
                      · intro W_ hSW_
                        obtain ⟨t0_, t1_, t2_, x0_⟩ := hSW_
                        go_simp
                        try with_reducible rfl
                      try simp only [Act.put, List.setIfInBounds_toArray, List.set_cons_zero, List.set_cons_succ]
                      refine wpAnyH_take (i := 2) (oi := { dst := some 94, op := Op.load 28 (Operand.tmp 4), type := 28, pos := "ref.go:109", after := #[{ on := 1, ground := Ground.guard }], guard := some (1, true) }) (v := undef) rfl (by kernel_rfl) (by kernel_rfl) (by kernel_rfl) (fun _ _ _ h => h) (Or.inr ⟨by rfl, rfl⟩) hS ?_
                      try simp only [Act.put, List.setIfInBounds_toArray, List.set_cons_zero, List.set_cons_succ]
                      refine wpAnyH_take (i := 3) (oi := { dst := some 95, op := Op.move (Operand.tmp 12), type := 3, pos := "ref.go:109", after := #[{ on := 1, ground := Ground.guard }], guard := some (1, true) }) (v := undef) rfl (by kernel_rfl) (by kernel_rfl) (by kernel_rfl) (fun _ _ _ h => h) (Or.inr ⟨by rfl, rfl⟩) hS ?_
                      try simp only [Act.put, List.setIfInBounds_toArray, List.set_cons_zero, List.set_cons_succ]
                      refine wpAnyH_take (i := 4) (oi := { dst := some 96, op := Op.binOp BinOp.add 3 (Operand.const (Value.int IntKind.i64 1)) (Operand.tmp 95) 3, type := 3, pos := "ref.go:109", after := #[{ on := 3, ground := Ground.data }, { on := 1, ground := Ground.guard }], guard := some (1, true) }) (v := undef) rfl (by kernel_rfl) (by kernel_rfl) (by kernel_rfl) (fun _ _ _ h => h) (Or.inr ⟨by rfl, rfl⟩) hS ?_
                      try simp only [Act.put, List.setIfInBounds_toArray, List.set_cons_zero, List.set_cons_succ]
                      refine wpAnyH_take (i := 5) (oi := { dst := some 97, op := Op.move (Operand.tmp 11), type := 87, pos := "ref.go:109", after := #[{ on := 1, ground := Ground.guard }], guard := some (1, true) }) (v := undef) rfl (by kernel_rfl) (by kernel_rfl) (by kernel_rfl) (fun _ _ _ h => h) (Or.inr ⟨by rfl, rfl⟩) hS ?_
                      try simp only [Act.put, List.setIfInBounds_toArray, List.set_cons_zero, List.set_cons_succ]
                      refine wpAnyH_take (i := 6) (oi := { dst := some 98, op := Op.move (Operand.tmp 12), type := 3, pos := "ref.go:109", after := #[{ on := 1, ground := Ground.guard }], guard := some (1, true) }) (v := undef) rfl (by kernel_rfl) (by kernel_rfl) (by kernel_rfl) (fun _ _ _ h => h) (Or.inr ⟨by rfl, rfl⟩) hS ?_
                      try simp only [Act.put, List.setIfInBounds_toArray, List.set_cons_zero, List.set_cons_succ]
                      refine wpAnyH_take (i := 7) (oi := { dst := some 99, op := Op.indexAddr 87 (Operand.tmp 97) (Operand.tmp 98), type := 0, pos := "ref.go:109", after := #[{ on := 5, ground := Ground.data }, { on := 6, ground := Ground.data }, { on := 1, ground := Ground.guard }], guard := some (1, true) }) (v := undef) rfl (by kernel_rfl) (by kernel_rfl) (by kernel_rfl) (fun _ _ _ h => h) (Or.inr ⟨by rfl, rfl⟩) hS ?_
                      try simp only [Act.put, List.setIfInBounds_toArray, List.set_cons_zero, List.set_cons_succ]
                      refine wpAnyH_take (i := 8) (oi := { dst := some 100, op := Op.load 3 (Operand.tmp 99), type := 3, pos := "ref.go:109", after := #[{ on := 7, ground := Ground.data }, { on := 1, ground := Ground.guard }], guard := some (1, true) }) (v := undef) rfl (by kernel_rfl) (by kernel_rfl) (by kernel_rfl) (fun _ _ _ h => h) (Or.inr ⟨by rfl, rfl⟩) hS ?_
                      try simp only [Act.put, List.setIfInBounds_toArray, List.set_cons_zero, List.set_cons_succ]
                      refine wpAnyH_take (i := 9) (oi := { dst := some 101, op := Op.call { callee := Callee.value (Operand.func 54), args := #[Operand.tmp 94, Operand.tmp 96, Operand.tmp 100], argTypes := #[28, 3, 3] }, type := 4, pos := "ref.go:109", after := #[{ on := 2, ground := Ground.data }, { on := 4, ground := Ground.data }, { on := 8, ground := Ground.data }, { on := 1, ground := Ground.chain }, { on := 1, ground := Ground.guard }], guard := some (1, true) }) (v := undef) rfl (by kernel_rfl) (by kernel_rfl) (by kernel_rfl) (fun _ _ _ h => h) (Or.inr ⟨by rfl, rfl⟩) hS ?_
                      try simp only [Act.put, List.setIfInBounds_toArray, List.set_cons_zero, List.set_cons_succ]
                      refine wpAnyH_take (i := 10) (oi := { dst := some 102, op := Op.pick (Operand.tmp 93) (Operand.tmp 101) (Operand.const (Value.bool false)), type := 4, pos := "ref.go:109", after := #[{ on := 1, ground := Ground.data }, { on := 9, ground := Ground.data }], guard := none }) (v := ?_) rfl (by kernel_rfl) (by kernel_rfl) (by kernel_rfl) (fun _ _ _ h => h) (Or.inl ⟨by rfl, ?_⟩) hS ?_
                      rotate_left
                      · intro W_ hSW_
                        obtain ⟨t0_, t1_, t2_, x0_⟩ := hSW_
                        go_simp
                        try with_reducible rfl
                      try simp only [Act.put, List.setIfInBounds_toArray, List.set_cons_zero, List.set_cons_succ]
                      refine wpAnyH_take (i := 11) (oi := { dst := some 9, op := Op.assign (Operand.tmp 102), type := 4, pos := "ref.go:109", after := #[{ on := 10, ground := Ground.data }, { on := 9, ground := Ground.chain }, { on := 0, ground := Ground.phase }, { on := 1, ground := Ground.phase }, { on := 2, ground := Ground.phase }, { on := 3, ground := Ground.phase }, { on := 4, ground := Ground.phase }, { on := 5, ground := Ground.phase }, { on := 6, ground := Ground.phase }, { on := 7, ground := Ground.phase }, { on := 8, ground := Ground.phase }, { on := 9, ground := Ground.phase }, { on := 10, ground := Ground.phase }], guard := none }) (v := ?_) rfl (by kernel_rfl) (by kernel_rfl) (by kernel_rfl) (fun _ _ _ h => h) (Or.inl ⟨by rfl, ?_⟩) hS ?_
                      rotate_left
                      · intro W_ hSW_
                        obtain ⟨t0_, t1_, t2_, x0_⟩ := hSW_
                        go_simp
                        try with_reducible rfl
                      try simp only [Act.put, List.setIfInBounds_toArray, List.set_cons_zero, List.set_cons_succ]
                      refine wpAnyH_done (by kernel_rfl) ?_ _
                      go_wp2_with fail
                      go_roundw
                      case rel =>
                        exact ⟨j + 1, (pe, false), by show j + 1 ≤ 9; omega, rfl, by first | go_num | (congr 1), by rw [HTj.out, hdr.out, bindW_cons]; rfl, (fun h => by cases h), HMj.out.drew'⟩
                      case measure => simp [intOf]; omega
                  · have hj99 : j = 9 := by omega
                    subst hj99
                    have HTe : Aside0 (T2 = (pe, pl)) := ⟨by
                      rw [HTj.out, show (head v (n : Int) s c).drop 9 = [] from rfl, bindW_nil _ HONj.out]⟩
                    have y0 := blk_cell hM.drop.top 0
                    have y1 := blk_cell hM.drop.top 1
                    have y2 := blk_cell hM.drop.top 2
                    clear t0 t1 t2 hM HTj HONj
                    cases pl with
                    | false =>
                      have HRv := Aside0.mk (HRt.out.trans (congrArg seqR (show bindW T2 3840 [1] = (pe, false) by rw [HTe.out]; exact bindW_f rfl)))
                      go_wp2_with fail
                      go_ret
                      rw [HRv.out]
                      exact ⟨rfl, HMj.out.drop.drop⟩
                    | true =>
                      have HRv := Aside0.mk (HRt.out.trans (congrArg seqR (show bindW T2 3840 [1] = pe.wr (3840 + 0) (1 % 256) by rw [HTe.out]; exact (bindW_t rfl).trans (wrs_one _ _ _))))
                      have HPZ := Aside0.mk (put_call' (c := c) (slot := slot) HMj.out 0 1 (by have := HN.out; omega) (by have := HN.out; omega))
                      generalize pe.wr (3840 + 0) (1 % 256) = z at *
                      obtain ⟨zd, zk⟩ := z
                      go_wp2_with fail
                      refine HPZ.out.mono ?_
                      rintro e w8 ⟨rfl, hm⟩
                      have HMz := Aside0.mk hm
                      clear hm
                      cases zk with
                      | true =>
                        go_wp2_with fail
                        go_ret
                        rw [HRv.out]
                        exact ⟨rfl, HMz.out.drop.drop⟩
                      | false =>
                        go_wp2_with fail
                        go_ret
                        rw [HRv.out]
                        exact ⟨rfl, HMz.out.drop.drop⟩
        · have hE5b : (n5 == (n : Int)) = false := by simpa using hE5
          have HRt := Aside0.mk ((HRR.out.trans (if_neg (by simp [hE5]))).trans (if_neg (by simp)))
          go_wp2_with fail
          refine (K1.out _ HR1.out.1).mono ?_
          rintro e w1_ ⟨rfl, hb⟩
          have HR2 := Aside0.mk (HR1.out.step hb)
          clear hb y0 y1 y2
          have y0 := blk_cell HR2.out.2 0
          have y1 := blk_cell HR2.out.2 1
          have y2 := blk_cell HR2.out.2 2
          go_wp2_with fail
          refine (K5.out _ HR2.out.1).mono ?_
          rintro e w2_ ⟨rfl, hb⟩
          have HR3 := Aside0.mk (HR2.out.step hb)
          clear hb y0 y1 y2
          have y0 := blk_cell HR3.out.2 0
          have y1 := blk_cell HR3.out.2 1
          have y2 := blk_cell HR3.out.2 2
          go_wp2_with fail
          refine (K1.out _ HR3.out.1).mono ?_
          rintro e w3_ ⟨rfl, hb⟩
          have HR4 := Aside0.mk (HR3.out.step hb)
          clear hb y0 y1 y2
          have y0 := blk_cell HR4.out.2 0
          have y1 := blk_cell HR4.out.2 1
          have y2 := blk_cell HR4.out.2 2
          have HA2 := Aside0.mk (HM.out.made HR4.out.1 HGE.out HR4.out.2)
          go_wp2_with fail
          refine (put_call' (c := c) HA2.out 0 0 (by have := HN.out; omega) (by have := HN.out; omega)).mono ?_
          rintro e w2 ⟨rfl, hm⟩
          have HT1 := Aside0.mk (show bindW (d.wr 3840 0) 3856 (List.replicate m 0) = bindW (d.wr (3840 + 0) (0 % 256)) (3856 + 0) ((List.replicate m 0).drop 0) from rfl)
          have HON0 := Aside0.mk (fun h => wr_ok (d := d) (a := 3840 + 0) (x := 0 % 256) h)
          have HMa := Aside0.mk hm
          generalize bindW (d.wr 3840 0) 3856 (List.replicate m 0) = T1 at *
          generalize d.wr (3840 + 0) (0 % 256) = p0 at *
          clear hm HA2 y0 y1 y2
          go_wp2_with fail
          go_loopw [9, 10] (fun v9 v10 wr => OfRel w0 gd gr N c L (blk g4 #[.pointer (some ⟨gd, 0, none⟩), .int .i64 slot, .int .i64 (c : Int)] 28) T1 3856 (List.replicate m 0) v9 v10 wr) (fun _ vi _ => m - (intOf vi).toNat)
          case atStart => exact ⟨0, p0, Nat.zero_le _, rfl, rfl, HT1.out, HON0.out, HMa.out⟩
          case round =>
            obtain ⟨k, ⟨pd, pk⟩, hk, rfl, rfl, hT, hon, hM⟩ := hrel
            clear HMa
            rw [List.length_replicate] at hk
            have HTk := Aside0.mk hT
            have HON := Aside0.mk hon
            have HMk := Aside0.mk hM
            have y0 := blk_cell hM.top 0
            have y1 := blk_cell hM.top 1
            have y2 := blk_cell hM.top 2
            clear hT hon hM
            have HM200 := HM2.out
            go_wp2_with fail
            refine (HRC.out _).mono ?_
            rintro e w3 ⟨rfl, hb⟩
            have HM3 := Aside0.mk (HMk.out.step hb)
            have y0 := blk_cell HM3.out.top 0
            have y1 := blk_cell HM3.out.top 1
            have y2 := blk_cell HM3.out.top 2
            clear hb HMk
            by_cases hlt : k < m
            · have hltd : decide ((k : Int) < (m : Int)) = true := decide_eq_true (by omega)
              have hltd2 : decide (k < m) = true := decide_eq_true hlt
              have hlt2 : (k : Int) < (m : Int) := by omega
              have hdr : Aside0 ((List.replicate m (0 : Int)).drop k = 0 :: (List.replicate m 0).drop (k + 1)) := ⟨by
                rw [List.drop_eq_getElem_cons (by simpa using hlt), List.getElem_replicate]⟩
              obtain ⟨t, ht⟩ : ∃ t, 16 + k = t := ⟨_, rfl⟩
              obtain ⟨e16, h56', HTN'⟩ := of_t hlt HM2.out HN.out ht
              have h56 := Aside0.mk h56'
              have HE16 := Aside0.mk e16
              have HTN := Aside0.mk HTN'
              clear h56' HTN' e16
              clear ht
              cases pk with
              | true =>
                go_wp2_with fail
                have HP := put_call' (c := c) (slot := slot) HM3.out t 0 HTN.out (by have := HN.out; omega)
                rw [HE16.out] at HP
                refine HP.mono ?_
                rintro e w4 ⟨rfl, hm⟩
                rw [h56.out] at hm ⊢
                have HM4 := Aside0.mk hm
                clear hm HM3 HP
                go_wp2_with fail
                go_roundw
                case rel =>
                  exact ⟨k + 1, pd.wr (3856 + k) (0 % 256), by rw [List.length_replicate]; omega, rfl, by first | go_num | (congr 1), by rw [HTk.out, hdr.out, bindW_cons]; rfl, wr_ok, HM4.out⟩
                case measure => simp [intOf]; omega
              | false =>
                go_wp2_with fail
                go_roundw
                case rel =>
                  exact ⟨k + 1, (pd, false), by rw [List.length_replicate]; omega, rfl, by first | go_num | (congr 1), by rw [HTk.out, hdr.out, bindW_cons]; rfl, (fun h => by cases h), HM3.out⟩
                case measure => simp [intOf]; omega
            · have hkm : k = m := by omega
              have HTe : Aside0 (T1 = (pd, pk)) := ⟨by
                rw [HTk.out, List.drop_eq_nil_of_le (by rw [List.length_replicate]; omega), bindW_nil _ HON.out]⟩
              have HTT := Aside0.mk (show T2 = bindW (pd, pk) (3841 + 0) ((head v (n : Int) s c).drop 0) by rw [HT2.out, HTe.out]; rfl)
              have hs3 := HS.out
              subst hkm
              have hltd : decide ((k : Int) < (k : Int)) = false := decide_eq_false (by omega)
              have hltd2 : decide (k < k) = false := decide_eq_false (by omega)
              have hlt2 : ¬ (k : Int) < (k : Int) := by omega
              go_wp2_with fail
              obtain ⟨gh, hgh⟩ : ∃ gh, gh = w3.heap.size := ⟨_, rfl⟩
              have HMb := Aside0.mk (HM3.out.add (.cells #[.int .i64 v, .int .i64 (v / 256), .int .i64 (v / 65536), .int .i64 (v / 16777216), .int .i64 (n : Int), .int .i64 ((n : Int) / 256), .int .i64 s, .int .i64 (s / 256), .int .i64 (c : Int)] 3))
              rw [← hgh] at HMb ⊢
              have HONb := Aside0.mk HON.out
              clear hgh HM3 HTk HON HTe y0 y1 y2 e1 e2 e2b es es2 hltd hltd2 hlt2 hs3 h1' h2' h3' h4' h3n h4n
              go_loopw [9, 12] (fun v9 v12 wr => OfRel w0 gd gr N c (blk g4 #[.pointer (some ⟨gd, 0, none⟩), .int .i64 slot, .int .i64 (c : Int)] 28 :: L) (blk gh #[.int .i64 v, .int .i64 (v / 256), .int .i64 (v / 65536), .int .i64 (v / 16777216), .int .i64 (n : Int), .int .i64 ((n : Int) / 256), .int .i64 s, .int .i64 (s / 256), .int .i64 (c : Int)] 3) T2 3841 (head v (n : Int) s c) v9 v12 wr) (fun _ vi _ => 9 - (intOf vi).toNat)
              case atStart => exact ⟨0, (pd, pk), Nat.zero_le _, rfl, rfl, HTT.out, HONb.out, HMb.out⟩
              case round =>
                obtain ⟨j, ⟨pe, pl⟩, hj, rfl, rfl, hT, hon, hM⟩ := hrel
                clear HMb HTT HONb
                have hj9 : j ≤ 9 := hj
                have HTj := Aside0.mk hT
                have HONj := Aside0.mk hon
                have HMj := Aside0.mk hM
                have t0 := blk_cell hM.drew'.drop.top 0
                have t1 := blk_cell hM.drew'.drop.top 1
                have t2 := blk_cell hM.drew'.drop.top 2
                clear hT hon hj
                by_cases hlt9 : j < 9
                · have hltj : decide ((j : Int) < 9) = true := decide_eq_true (by omega)
                  have hltj2 : decide (j < 9) = true := decide_eq_true hlt9
                  have hltj3 : (j : Int) < 9 := by omega
                  have HXC0 := fun d' W (h : DvM w0 W gd gr N d' (blk gh #[.int .i64 v, .int .i64 (v / 256), .int .i64 (v / 65536), .int .i64 (v / 16777216), .int .i64 (n : Int), .int .i64 ((n : Int) / 256), .int .i64 s, .int .i64 (s / 256), .int .i64 (c : Int)] 3 :: blk g4 #[.pointer (some ⟨gd, 0, none⟩), .int .i64 slot, .int .i64 (c : Int)] 28 :: L)) => (blk_cell h.top j).trans (raw_get v (n : Int) s c hlt9)
                  have HXC := Aside0.mk HXC0
                  have x0 := HXC.out _ _ hM.drew'
                  have hdr : Aside0 ((head v (n : Int) s c).drop j = (raw v (n : Int) s c).getD j 0 % 256 :: (head v (n : Int) s c).drop (j + 1)) := ⟨head_drop v (n : Int) s c hlt9⟩
                  generalize (raw v (n : Int) s c).getD j 0 = x at *
                  obtain ⟨t, ht⟩ : ∃ t, 1 + j = t := ⟨_, rfl⟩
                  obtain ⟨f3, f4, f5, f6⟩ := of_t1 hlt9 HN.out ht
                  have HDW := put_call' (c := c) (slot := slot) hM.drew' t x f6 (by have := HN.out; omega)
                  rw [f5] at HDW
                  have HDW := Aside0.mk HDW
                  have HF5 := Aside0.mk f5
                  clear HXC0 hM f5 f6 ht
                  cases pl with
                  | true =>
                    go_wp2_with fail
                    refine wp_region_held_drew (S := fun W => W.cell? ⟨g4, 0, none⟩ = some (.pointer (some ⟨gd, 0, none⟩)) ∧ W.cell? ⟨g4, 1, none⟩ = some (.int .i64 slot) ∧ W.cell? ⟨g4, 2, none⟩ = some (.int .i64 (c : Int)) ∧ W.cell? ⟨gh, j, none⟩ = some (.int .i64 x)) (by kernel_rfl) ⟨t0, t1, t2, x0⟩ (fun hS => ?_)
                    refine wpAnyH_take (i := 0) (oi := { dst := some 92, op := Op.move (Operand.tmp 9), type := 4, pos := "ref.go:109", after := #[], guard := none }) (v := ?_) rfl (by kernel_rfl) (by kernel_rfl) (by kernel_rfl) (fun _ _ _ h => h) (Or.inl ⟨by rfl, ?_⟩) hS ?_
                    rotate_left
                    · intro W_ hSW_
                      obtain ⟨t0_, t1_, t2_, x0_⟩ := hSW_
                      go_simp
                      try with_reducible rfl
                    try simp only [Act.put, List.setIfInBounds_toArray, List.set_cons_zero, List.set_cons_succ]
                    refine wpAnyH_take (i := 1) (oi := { dst := some 93, op := Op.move (Operand.tmp 92), type := 4, pos := "ref.go:109", after := #[{ on := 0, ground := Ground.data }], guard := none }) (v := ?_) rfl (by kernel_rfl) (by kernel_rfl) (by kernel_rfl) (fun _ _ _ h => h) (Or.inl ⟨by rfl, ?_⟩) hS ?_
                    rotate_left
                    · intro W_ hSW_
                      obtain ⟨t0_, t1_, t2_, x0_⟩ := hSW_
                      go_simp
                      try with_reducible rfl
                    try simp only [Act.put, List.setIfInBounds_toArray, List.set_cons_zero, List.set_cons_succ]
                    refine wpAnyH_take (i := 2) (oi := { dst := some 94, op := Op.load 28 (Operand.tmp 4), type := 28, pos := "ref.go:109", after := #[{ on := 1, ground := Ground.guard }], guard := some (1, true) }) (v := ?_) rfl (by kernel_rfl) (by kernel_rfl) (by kernel_rfl) (fun _ _ _ h => h) (Or.inl ⟨by rfl, ?_⟩) hS ?_
                    rotate_left
                    · intro W_ hSW_
                      obtain ⟨t0_, t1_, t2_, x0_⟩ := hSW_
                      go_simp
                      try with_reducible rfl
                    try simp only [Act.put, List.setIfInBounds_toArray, List.set_cons_zero, List.set_cons_succ]
                    refine wpAnyH_take (i := 3) (oi := { dst := some 95, op := Op.move (Operand.tmp 12), type := 3, pos := "ref.go:109", after := #[{ on := 1, ground := Ground.guard }], guard := some (1, true) }) (v := ?_) rfl (by kernel_rfl) (by kernel_rfl) (by kernel_rfl) (fun _ _ _ h => h) (Or.inl ⟨by rfl, ?_⟩) hS ?_
                    rotate_left
                    · intro W_ hSW_
                      obtain ⟨t0_, t1_, t2_, x0_⟩ := hSW_
                      go_simp
                      try with_reducible rfl
                    try simp only [Act.put, List.setIfInBounds_toArray, List.set_cons_zero, List.set_cons_succ]
                    refine wpAnyH_take (i := 4) (oi := { dst := some 96, op := Op.binOp BinOp.add 3 (Operand.const (Value.int IntKind.i64 1)) (Operand.tmp 95) 3, type := 3, pos := "ref.go:109", after := #[{ on := 3, ground := Ground.data }, { on := 1, ground := Ground.guard }], guard := some (1, true) }) (v := ?_) rfl (by kernel_rfl) (by kernel_rfl) (by kernel_rfl) (fun _ _ _ h => h) (Or.inl ⟨by rfl, ?_⟩) hS ?_
                    rotate_left
                    · intro W_ hSW_
                      obtain ⟨t0_, t1_, t2_, x0_⟩ := hSW_
                      go_simp
                      try with_reducible rfl
                    try simp only [Act.put, List.setIfInBounds_toArray, List.set_cons_zero, List.set_cons_succ]
                    refine wpAnyH_take (i := 5) (oi := { dst := some 97, op := Op.move (Operand.tmp 11), type := 87, pos := "ref.go:109", after := #[{ on := 1, ground := Ground.guard }], guard := some (1, true) }) (v := ?_) rfl (by kernel_rfl) (by kernel_rfl) (by kernel_rfl) (fun _ _ _ h => h) (Or.inl ⟨by rfl, ?_⟩) hS ?_
                    rotate_left
                    · intro W_ hSW_
                      obtain ⟨t0_, t1_, t2_, x0_⟩ := hSW_
                      go_simp
                      try with_reducible rfl
                    try simp only [Act.put, List.setIfInBounds_toArray, List.set_cons_zero, List.set_cons_succ]
                    refine wpAnyH_take (i := 6) (oi := { dst := some 98, op := Op.move (Operand.tmp 12), type := 3, pos := "ref.go:109", after := #[{ on := 1, ground := Ground.guard }], guard := some (1, true) }) (v := ?_) rfl (by kernel_rfl) (by kernel_rfl) (by kernel_rfl) (fun _ _ _ h => h) (Or.inl ⟨by rfl, ?_⟩) hS ?_
                    rotate_left
                    · intro W_ hSW_
                      obtain ⟨t0_, t1_, t2_, x0_⟩ := hSW_
                      go_simp
                      try with_reducible rfl
                    try simp only [Act.put, List.setIfInBounds_toArray, List.set_cons_zero, List.set_cons_succ]
                    refine wpAnyH_take (i := 7) (oi := { dst := some 99, op := Op.indexAddr 87 (Operand.tmp 97) (Operand.tmp 98), type := 0, pos := "ref.go:109", after := #[{ on := 5, ground := Ground.data }, { on := 6, ground := Ground.data }, { on := 1, ground := Ground.guard }], guard := some (1, true) }) (v := ?_) rfl (by kernel_rfl) (by kernel_rfl) (by kernel_rfl) (fun _ _ _ h => h) (Or.inl ⟨by rfl, ?_⟩) hS ?_
                    rotate_left
                    · intro W_ hSW_
                      obtain ⟨t0_, t1_, t2_, x0_⟩ := hSW_
                      go_simp
                      try with_reducible rfl
                    try simp only [Act.put, List.setIfInBounds_toArray, List.set_cons_zero, List.set_cons_succ]
                    refine wpAnyH_take (i := 8) (oi := { dst := some 100, op := Op.load 3 (Operand.tmp 99), type := 3, pos := "ref.go:109", after := #[{ on := 7, ground := Ground.data }, { on := 1, ground := Ground.guard }], guard := some (1, true) }) (v := ?_) rfl (by kernel_rfl) (by kernel_rfl) (by kernel_rfl) (fun _ _ _ h => h) (Or.inl ⟨by rfl, ?_⟩) hS ?_
                    rotate_left
                    · intro W_ hSW_
                      obtain ⟨t0_, t1_, t2_, x0_⟩ := hSW_
                      go_simp
                      try with_reducible rfl
                    try simp only [Act.put, List.setIfInBounds_toArray, List.set_cons_zero, List.set_cons_succ]
                    refine wpAnyH_ready (rs := [9]) (by kernel_rfl) (by simp) ?_
                    refine AllReadyH.cons (o := { dst := some 101, op := Op.call { callee := Callee.value (Operand.func 54), args := #[Operand.tmp 94, Operand.tmp 96, Operand.tmp 100], argTypes := #[28, 3, 3] }, type := 4, pos := "ref.go:109", after := #[{ on := 2, ground := Ground.data }, { on := 4, ground := Ground.data }, { on := 8, ground := Ground.data }, { on := 1, ground := Ground.chain }, { on := 1, ground := Ground.guard }], guard := some (1, true) }) rfl (fun K_ hK_ => ?_) AllReadyH.nil
                    go_simp
                    refine HDW.out.mono ?_
                    rintro e w_ ⟨rfl, hm_⟩
                    have HM_ := Aside0.mk hm_
                    clear hm_
                    refine hK_.out _ _ (⟨blk_cell HM_.out.drop.top 0, blk_cell HM_.out.drop.top 1, blk_cell HM_.out.drop.top 2, HXC.out _ _ HM_.out⟩) (fun hS_ => ?_)
                    clear hK_ K_ hS
                    have hS := hS_
                    clear hS_
                    try simp only [Act.put, List.setIfInBounds_toArray, List.set_cons_zero, List.set_cons_succ]
                    refine wpAnyH_take (i := 10) (oi := { dst := some 102, op := Op.pick (Operand.tmp 93) (Operand.tmp 101) (Operand.const (Value.bool false)), type := 4, pos := "ref.go:109", after := #[{ on := 1, ground := Ground.data }, { on := 9, ground := Ground.data }], guard := none }) (v := ?_) rfl (by kernel_rfl) (by kernel_rfl) (by kernel_rfl) (fun _ _ _ h => h) (Or.inl ⟨by rfl, ?_⟩) hS ?_
                    rotate_left
                    · intro W_ hSW_
                      obtain ⟨t0_, t1_, t2_, x0_⟩ := hSW_
                      go_simp
                      try with_reducible rfl
                    try simp only [Act.put, List.setIfInBounds_toArray, List.set_cons_zero, List.set_cons_succ]
                    refine wpAnyH_take (i := 11) (oi := { dst := some 9, op := Op.assign (Operand.tmp 102), type := 4, pos := "ref.go:109", after := #[{ on := 10, ground := Ground.data }, { on := 9, ground := Ground.chain }, { on := 0, ground := Ground.phase }, { on := 1, ground := Ground.phase }, { on := 2, ground := Ground.phase }, { on := 3, ground := Ground.phase }, { on := 4, ground := Ground.phase }, { on := 5, ground := Ground.phase }, { on := 6, ground := Ground.phase }, { on := 7, ground := Ground.phase }, { on := 8, ground := Ground.phase }, { on := 9, ground := Ground.phase }, { on := 10, ground := Ground.phase }], guard := none }) (v := ?_) rfl (by kernel_rfl) (by kernel_rfl) (by kernel_rfl) (fun _ _ _ h => h) (Or.inl ⟨by rfl, ?_⟩) hS ?_
                    rotate_left
                    · intro W_ hSW_
                      obtain ⟨t0_, t1_, t2_, x0_⟩ := hSW_
                      go_simp
                      try with_reducible rfl
                    try simp only [Act.put, List.setIfInBounds_toArray, List.set_cons_zero, List.set_cons_succ]
                    refine wpAnyH_done (by kernel_rfl) ?_ _
                    go_wp2_with fail
                    go_roundw
                    case rel =>
                      exact ⟨j + 1, pe.wr (3841 + j) (x % 256), by show j + 1 ≤ 9; omega, rfl, by first | go_num | (congr 1), by rw [HTj.out, hdr.out, bindW_cons]; rfl, wr_ok, HM_.out⟩
                    case measure => simp [intOf]; omega
                  | false =>
                    go_wp2_with fail
                    refine wp_region_held_drew (S := fun W => W.cell? ⟨g4, 0, none⟩ = some (.pointer (some ⟨gd, 0, none⟩)) ∧ W.cell? ⟨g4, 1, none⟩ = some (.int .i64 slot) ∧ W.cell? ⟨g4, 2, none⟩ = some (.int .i64 (c : Int)) ∧ W.cell? ⟨gh, j, none⟩ = some (.int .i64 x)) (by kernel_rfl) ⟨t0, t1, t2, x0⟩ (fun hS => ?_)
                    refine wpAnyH_take (i := 0) (oi := { dst := some 92, op := Op.move (Operand.tmp 9), type := 4, pos := "ref.go:109", after := #[], guard := none }) (v := ?_) rfl (by kernel_rfl) (by kernel_rfl) (by kernel_rfl) (fun _ _ _ h => h) (Or.inl ⟨by rfl, ?_⟩) hS ?_
                    rotate_left
                    · intro W_ hSW_
                      obtain ⟨t0_, t1_, t2_, x0_⟩ := hSW_
                      go_simp
                      try with_reducible rfl
                    try simp only [Act.put, List.setIfInBounds_toArray, List.set_cons_zero, List.set_cons_succ]
                    refine wpAnyH_take (i := 1) (oi := { dst := some 93, op := Op.move (Operand.tmp 92), type := 4, pos := "ref.go:109", after := #[{ on := 0, ground := Ground.data }], guard := none }) (v := ?_) rfl (by kernel_rfl) (by kernel_rfl) (by kernel_rfl) (fun _ _ _ h => h) (Or.inl ⟨by rfl, ?_⟩) hS ?_
                    rotate_left
                    · intro W_ hSW_
                      obtain ⟨t0_, t1_, t2_, x0_⟩ := hSW_
                      go_simp
                      try with_reducible rfl
                    try simp only [Act.put, List.setIfInBounds_toArray, List.set_cons_zero, List.set_cons_succ]
                    refine wpAnyH_take (i := 2) (oi := { dst := some 94, op := Op.load 28 (Operand.tmp 4), type := 28, pos := "ref.go:109", after := #[{ on := 1, ground := Ground.guard }], guard := some (1, true) }) (v := undef) rfl (by kernel_rfl) (by kernel_rfl) (by kernel_rfl) (fun _ _ _ h => h) (Or.inr ⟨by rfl, rfl⟩) hS ?_
                    try simp only [Act.put, List.setIfInBounds_toArray, List.set_cons_zero, List.set_cons_succ]
                    refine wpAnyH_take (i := 3) (oi := { dst := some 95, op := Op.move (Operand.tmp 12), type := 3, pos := "ref.go:109", after := #[{ on := 1, ground := Ground.guard }], guard := some (1, true) }) (v := undef) rfl (by kernel_rfl) (by kernel_rfl) (by kernel_rfl) (fun _ _ _ h => h) (Or.inr ⟨by rfl, rfl⟩) hS ?_
                    try simp only [Act.put, List.setIfInBounds_toArray, List.set_cons_zero, List.set_cons_succ]
                    refine wpAnyH_take (i := 4) (oi := { dst := some 96, op := Op.binOp BinOp.add 3 (Operand.const (Value.int IntKind.i64 1)) (Operand.tmp 95) 3, type := 3, pos := "ref.go:109", after := #[{ on := 3, ground := Ground.data }, { on := 1, ground := Ground.guard }], guard := some (1, true) }) (v := undef) rfl (by kernel_rfl) (by kernel_rfl) (by kernel_rfl) (fun _ _ _ h => h) (Or.inr ⟨by rfl, rfl⟩) hS ?_
                    try simp only [Act.put, List.setIfInBounds_toArray, List.set_cons_zero, List.set_cons_succ]
                    refine wpAnyH_take (i := 5) (oi := { dst := some 97, op := Op.move (Operand.tmp 11), type := 87, pos := "ref.go:109", after := #[{ on := 1, ground := Ground.guard }], guard := some (1, true) }) (v := undef) rfl (by kernel_rfl) (by kernel_rfl) (by kernel_rfl) (fun _ _ _ h => h) (Or.inr ⟨by rfl, rfl⟩) hS ?_
                    try simp only [Act.put, List.setIfInBounds_toArray, List.set_cons_zero, List.set_cons_succ]
                    refine wpAnyH_take (i := 6) (oi := { dst := some 98, op := Op.move (Operand.tmp 12), type := 3, pos := "ref.go:109", after := #[{ on := 1, ground := Ground.guard }], guard := some (1, true) }) (v := undef) rfl (by kernel_rfl) (by kernel_rfl) (by kernel_rfl) (fun _ _ _ h => h) (Or.inr ⟨by rfl, rfl⟩) hS ?_
                    try simp only [Act.put, List.setIfInBounds_toArray, List.set_cons_zero, List.set_cons_succ]
                    refine wpAnyH_take (i := 7) (oi := { dst := some 99, op := Op.indexAddr 87 (Operand.tmp 97) (Operand.tmp 98), type := 0, pos := "ref.go:109", after := #[{ on := 5, ground := Ground.data }, { on := 6, ground := Ground.data }, { on := 1, ground := Ground.guard }], guard := some (1, true) }) (v := undef) rfl (by kernel_rfl) (by kernel_rfl) (by kernel_rfl) (fun _ _ _ h => h) (Or.inr ⟨by rfl, rfl⟩) hS ?_
                    try simp only [Act.put, List.setIfInBounds_toArray, List.set_cons_zero, List.set_cons_succ]
                    refine wpAnyH_take (i := 8) (oi := { dst := some 100, op := Op.load 3 (Operand.tmp 99), type := 3, pos := "ref.go:109", after := #[{ on := 7, ground := Ground.data }, { on := 1, ground := Ground.guard }], guard := some (1, true) }) (v := undef) rfl (by kernel_rfl) (by kernel_rfl) (by kernel_rfl) (fun _ _ _ h => h) (Or.inr ⟨by rfl, rfl⟩) hS ?_
                    try simp only [Act.put, List.setIfInBounds_toArray, List.set_cons_zero, List.set_cons_succ]
                    refine wpAnyH_take (i := 9) (oi := { dst := some 101, op := Op.call { callee := Callee.value (Operand.func 54), args := #[Operand.tmp 94, Operand.tmp 96, Operand.tmp 100], argTypes := #[28, 3, 3] }, type := 4, pos := "ref.go:109", after := #[{ on := 2, ground := Ground.data }, { on := 4, ground := Ground.data }, { on := 8, ground := Ground.data }, { on := 1, ground := Ground.chain }, { on := 1, ground := Ground.guard }], guard := some (1, true) }) (v := undef) rfl (by kernel_rfl) (by kernel_rfl) (by kernel_rfl) (fun _ _ _ h => h) (Or.inr ⟨by rfl, rfl⟩) hS ?_
                    try simp only [Act.put, List.setIfInBounds_toArray, List.set_cons_zero, List.set_cons_succ]
                    refine wpAnyH_take (i := 10) (oi := { dst := some 102, op := Op.pick (Operand.tmp 93) (Operand.tmp 101) (Operand.const (Value.bool false)), type := 4, pos := "ref.go:109", after := #[{ on := 1, ground := Ground.data }, { on := 9, ground := Ground.data }], guard := none }) (v := ?_) rfl (by kernel_rfl) (by kernel_rfl) (by kernel_rfl) (fun _ _ _ h => h) (Or.inl ⟨by rfl, ?_⟩) hS ?_
                    rotate_left
                    · intro W_ hSW_
                      obtain ⟨t0_, t1_, t2_, x0_⟩ := hSW_
                      go_simp
                      try with_reducible rfl
                    try simp only [Act.put, List.setIfInBounds_toArray, List.set_cons_zero, List.set_cons_succ]
                    refine wpAnyH_take (i := 11) (oi := { dst := some 9, op := Op.assign (Operand.tmp 102), type := 4, pos := "ref.go:109", after := #[{ on := 10, ground := Ground.data }, { on := 9, ground := Ground.chain }, { on := 0, ground := Ground.phase }, { on := 1, ground := Ground.phase }, { on := 2, ground := Ground.phase }, { on := 3, ground := Ground.phase }, { on := 4, ground := Ground.phase }, { on := 5, ground := Ground.phase }, { on := 6, ground := Ground.phase }, { on := 7, ground := Ground.phase }, { on := 8, ground := Ground.phase }, { on := 9, ground := Ground.phase }, { on := 10, ground := Ground.phase }], guard := none }) (v := ?_) rfl (by kernel_rfl) (by kernel_rfl) (by kernel_rfl) (fun _ _ _ h => h) (Or.inl ⟨by rfl, ?_⟩) hS ?_
                    rotate_left
                    · intro W_ hSW_
                      obtain ⟨t0_, t1_, t2_, x0_⟩ := hSW_
                      go_simp
                      try with_reducible rfl
                    try simp only [Act.put, List.setIfInBounds_toArray, List.set_cons_zero, List.set_cons_succ]
                    refine wpAnyH_done (by kernel_rfl) ?_ _
                    go_wp2_with fail
                    go_roundw
                    case rel =>
                      exact ⟨j + 1, (pe, false), by show j + 1 ≤ 9; omega, rfl, by first | go_num | (congr 1), by rw [HTj.out, hdr.out, bindW_cons]; rfl, (fun h => by cases h), HMj.out.drew'⟩
                    case measure => simp [intOf]; omega
                · have hj99 : j = 9 := by omega
                  subst hj99
                  have HTe : Aside0 (T2 = (pe, pl)) := ⟨by
                    rw [HTj.out, show (head v (n : Int) s c).drop 9 = [] from rfl, bindW_nil _ HONj.out]⟩
                  have y0 := blk_cell hM.drop.top 0
                  have y1 := blk_cell hM.drop.top 1
                  have y2 := blk_cell hM.drop.top 2
                  clear t0 t1 t2 hM HTj HONj
                  cases pl with
                  | false =>
                    have HRv := Aside0.mk (HRt.out.trans (congrArg seqR (show bindW T2 3840 [1] = (pe, false) by rw [HTe.out]; exact bindW_f rfl)))
                    go_wp2_with fail
                    go_ret
                    rw [HRv.out]
                    exact ⟨rfl, HMj.out.drop.drop⟩
                  | true =>
                    have HRv := Aside0.mk (HRt.out.trans (congrArg seqR (show bindW T2 3840 [1] = pe.wr (3840 + 0) (1 % 256) by rw [HTe.out]; exact (bindW_t rfl).trans (wrs_one _ _ _))))
                    have HPZ := Aside0.mk (put_call' (c := c) (slot := slot) HMj.out 0 1 (by have := HN.out; omega) (by have := HN.out; omega))
                    generalize pe.wr (3840 + 0) (1 % 256) = z at *
                    obtain ⟨zd, zk⟩ := z
                    go_wp2_with fail
                    refine HPZ.out.mono ?_
                    rintro e w8 ⟨rfl, hm⟩
                    have HMz := Aside0.mk hm
                    clear hm
                    cases zk with
                    | true =>
                      go_wp2_with fail
                      go_ret
                      rw [HRv.out]
                      exact ⟨rfl, HMz.out.drop.drop⟩
                    | false =>
                      go_wp2_with fail
                      go_ret
                      rw [HRv.out]
                      exact ⟨rfl, HMz.out.drop.drop⟩
      · have hE1b : (n1 == v) = false := by simpa using hE1
        have HRs := Aside0.mk (HRR.out.trans (if_neg (by simp [hE1])))
        by_cases hst : v < n1
        · have HRt := Aside0.mk (HRs.out.trans (if_pos ⟨rfl, hst⟩))
          go_wp2_with fail
          refine (K1.out _ HR1.out.1).mono ?_
          rintro e w1_ ⟨rfl, hb⟩
          have HR2 := Aside0.mk (HR1.out.step hb)
          clear hb y0 y1 y2
          have y0 := blk_cell HR2.out.2 0
          have y1 := blk_cell HR2.out.2 1
          have y2 := blk_cell HR2.out.2 2
          go_wp2_with fail
          refine (K1.out _ HR2.out.1).mono ?_
          rintro e w2_ ⟨rfl, hb⟩
          have HR3 := Aside0.mk (HR2.out.step hb)
          clear hb y0 y1 y2
          have y0 := blk_cell HR3.out.2 0
          have y1 := blk_cell HR3.out.2 1
          have y2 := blk_cell HR3.out.2 2
          go_wp2_with fail
          go_ret
          rw [HRt.out]
          exact ⟨rfl, HM.out.step HR3.out.1⟩
        · have HRt := Aside0.mk (HRs.out.trans (if_neg (fun h => hst h.2)))
          go_wp2_with fail
          refine (K1.out _ HR1.out.1).mono ?_
          rintro e w1_ ⟨rfl, hb⟩
          have HR2 := Aside0.mk (HR1.out.step hb)
          clear hb y0 y1 y2
          have y0 := blk_cell HR2.out.2 0
          have y1 := blk_cell HR2.out.2 1
          have y2 := blk_cell HR2.out.2 2
          go_wp2_with fail
          refine (K1.out _ HR2.out.1).mono ?_
          rintro e w2_ ⟨rfl, hb⟩
          have HR3 := Aside0.mk (HR2.out.step hb)
          clear hb y0 y1 y2
          have y0 := blk_cell HR3.out.2 0
          have y1 := blk_cell HR3.out.2 1
          have y2 := blk_cell HR3.out.2 2
          have HA2 := Aside0.mk (HM.out.made HR3.out.1 HGE.out HR3.out.2)
          go_wp2_with fail
          refine (put_call' (c := c) HA2.out 0 0 (by have := HN.out; omega) (by have := HN.out; omega)).mono ?_
          rintro e w2 ⟨rfl, hm⟩
          have HT1 := Aside0.mk (show bindW (d.wr 3840 0) 3856 (List.replicate m 0) = bindW (d.wr (3840 + 0) (0 % 256)) (3856 + 0) ((List.replicate m 0).drop 0) from rfl)
          have HON0 := Aside0.mk (fun h => wr_ok (d := d) (a := 3840 + 0) (x := 0 % 256) h)
          have HMa := Aside0.mk hm
          generalize bindW (d.wr 3840 0) 3856 (List.replicate m 0) = T1 at *
          generalize d.wr (3840 + 0) (0 % 256) = p0 at *
          clear hm HA2 y0 y1 y2
          go_wp2_with fail
          go_loopw [9, 10] (fun v9 v10 wr => OfRel w0 gd gr N c L (blk g4 #[.pointer (some ⟨gd, 0, none⟩), .int .i64 slot, .int .i64 (c : Int)] 28) T1 3856 (List.replicate m 0) v9 v10 wr) (fun _ vi _ => m - (intOf vi).toNat)
          case atStart => exact ⟨0, p0, Nat.zero_le _, rfl, rfl, HT1.out, HON0.out, HMa.out⟩
          case round =>
            obtain ⟨k, ⟨pd, pk⟩, hk, rfl, rfl, hT, hon, hM⟩ := hrel
            clear HMa
            rw [List.length_replicate] at hk
            have HTk := Aside0.mk hT
            have HON := Aside0.mk hon
            have HMk := Aside0.mk hM
            have y0 := blk_cell hM.top 0
            have y1 := blk_cell hM.top 1
            have y2 := blk_cell hM.top 2
            clear hT hon hM
            have HM200 := HM2.out
            go_wp2_with fail
            refine (HRC.out _).mono ?_
            rintro e w3 ⟨rfl, hb⟩
            have HM3 := Aside0.mk (HMk.out.step hb)
            have y0 := blk_cell HM3.out.top 0
            have y1 := blk_cell HM3.out.top 1
            have y2 := blk_cell HM3.out.top 2
            clear hb HMk
            by_cases hlt : k < m
            · have hltd : decide ((k : Int) < (m : Int)) = true := decide_eq_true (by omega)
              have hltd2 : decide (k < m) = true := decide_eq_true hlt
              have hlt2 : (k : Int) < (m : Int) := by omega
              have hdr : Aside0 ((List.replicate m (0 : Int)).drop k = 0 :: (List.replicate m 0).drop (k + 1)) := ⟨by
                rw [List.drop_eq_getElem_cons (by simpa using hlt), List.getElem_replicate]⟩
              obtain ⟨t, ht⟩ : ∃ t, 16 + k = t := ⟨_, rfl⟩
              obtain ⟨e16, h56', HTN'⟩ := of_t hlt HM2.out HN.out ht
              have h56 := Aside0.mk h56'
              have HE16 := Aside0.mk e16
              have HTN := Aside0.mk HTN'
              clear h56' HTN' e16
              clear ht
              cases pk with
              | true =>
                go_wp2_with fail
                have HP := put_call' (c := c) (slot := slot) HM3.out t 0 HTN.out (by have := HN.out; omega)
                rw [HE16.out] at HP
                refine HP.mono ?_
                rintro e w4 ⟨rfl, hm⟩
                rw [h56.out] at hm ⊢
                have HM4 := Aside0.mk hm
                clear hm HM3 HP
                go_wp2_with fail
                go_roundw
                case rel =>
                  exact ⟨k + 1, pd.wr (3856 + k) (0 % 256), by rw [List.length_replicate]; omega, rfl, by first | go_num | (congr 1), by rw [HTk.out, hdr.out, bindW_cons]; rfl, wr_ok, HM4.out⟩
                case measure => simp [intOf]; omega
              | false =>
                go_wp2_with fail
                go_roundw
                case rel =>
                  exact ⟨k + 1, (pd, false), by rw [List.length_replicate]; omega, rfl, by first | go_num | (congr 1), by rw [HTk.out, hdr.out, bindW_cons]; rfl, (fun h => by cases h), HM3.out⟩
                case measure => simp [intOf]; omega
            · have hkm : k = m := by omega
              have HTe : Aside0 (T1 = (pd, pk)) := ⟨by
                rw [HTk.out, List.drop_eq_nil_of_le (by rw [List.length_replicate]; omega), bindW_nil _ HON.out]⟩
              have HTT := Aside0.mk (show T2 = bindW (pd, pk) (3841 + 0) ((head v (n : Int) s c).drop 0) by rw [HT2.out, HTe.out]; rfl)
              have hs3 := HS.out
              subst hkm
              have hltd : decide ((k : Int) < (k : Int)) = false := decide_eq_false (by omega)
              have hltd2 : decide (k < k) = false := decide_eq_false (by omega)
              have hlt2 : ¬ (k : Int) < (k : Int) := by omega
              go_wp2_with fail
              obtain ⟨gh, hgh⟩ : ∃ gh, gh = w3.heap.size := ⟨_, rfl⟩
              have HMb := Aside0.mk (HM3.out.add (.cells #[.int .i64 v, .int .i64 (v / 256), .int .i64 (v / 65536), .int .i64 (v / 16777216), .int .i64 (n : Int), .int .i64 ((n : Int) / 256), .int .i64 s, .int .i64 (s / 256), .int .i64 (c : Int)] 3))
              rw [← hgh] at HMb ⊢
              have HONb := Aside0.mk HON.out
              clear hgh HM3 HTk HON HTe y0 y1 y2 e1 e2 e2b es es2 hltd hltd2 hlt2 hs3 h1' h2' h3' h4' h3n h4n
              go_loopw [9, 12] (fun v9 v12 wr => OfRel w0 gd gr N c (blk g4 #[.pointer (some ⟨gd, 0, none⟩), .int .i64 slot, .int .i64 (c : Int)] 28 :: L) (blk gh #[.int .i64 v, .int .i64 (v / 256), .int .i64 (v / 65536), .int .i64 (v / 16777216), .int .i64 (n : Int), .int .i64 ((n : Int) / 256), .int .i64 s, .int .i64 (s / 256), .int .i64 (c : Int)] 3) T2 3841 (head v (n : Int) s c) v9 v12 wr) (fun _ vi _ => 9 - (intOf vi).toNat)
              case atStart => exact ⟨0, (pd, pk), Nat.zero_le _, rfl, rfl, HTT.out, HONb.out, HMb.out⟩
              case round =>
                obtain ⟨j, ⟨pe, pl⟩, hj, rfl, rfl, hT, hon, hM⟩ := hrel
                clear HMb HTT HONb
                have hj9 : j ≤ 9 := hj
                have HTj := Aside0.mk hT
                have HONj := Aside0.mk hon
                have HMj := Aside0.mk hM
                have t0 := blk_cell hM.drew'.drop.top 0
                have t1 := blk_cell hM.drew'.drop.top 1
                have t2 := blk_cell hM.drew'.drop.top 2
                clear hT hon hj
                by_cases hlt9 : j < 9
                · have hltj : decide ((j : Int) < 9) = true := decide_eq_true (by omega)
                  have hltj2 : decide (j < 9) = true := decide_eq_true hlt9
                  have hltj3 : (j : Int) < 9 := by omega
                  have HXC0 := fun d' W (h : DvM w0 W gd gr N d' (blk gh #[.int .i64 v, .int .i64 (v / 256), .int .i64 (v / 65536), .int .i64 (v / 16777216), .int .i64 (n : Int), .int .i64 ((n : Int) / 256), .int .i64 s, .int .i64 (s / 256), .int .i64 (c : Int)] 3 :: blk g4 #[.pointer (some ⟨gd, 0, none⟩), .int .i64 slot, .int .i64 (c : Int)] 28 :: L)) => (blk_cell h.top j).trans (raw_get v (n : Int) s c hlt9)
                  have HXC := Aside0.mk HXC0
                  have x0 := HXC.out _ _ hM.drew'
                  have hdr : Aside0 ((head v (n : Int) s c).drop j = (raw v (n : Int) s c).getD j 0 % 256 :: (head v (n : Int) s c).drop (j + 1)) := ⟨head_drop v (n : Int) s c hlt9⟩
                  generalize (raw v (n : Int) s c).getD j 0 = x at *
                  obtain ⟨t, ht⟩ : ∃ t, 1 + j = t := ⟨_, rfl⟩
                  obtain ⟨f3, f4, f5, f6⟩ := of_t1 hlt9 HN.out ht
                  have HDW := put_call' (c := c) (slot := slot) hM.drew' t x f6 (by have := HN.out; omega)
                  rw [f5] at HDW
                  have HDW := Aside0.mk HDW
                  have HF5 := Aside0.mk f5
                  clear HXC0 hM f5 f6 ht
                  cases pl with
                  | true =>
                    go_wp2_with fail
                    refine wp_region_held_drew (S := fun W => W.cell? ⟨g4, 0, none⟩ = some (.pointer (some ⟨gd, 0, none⟩)) ∧ W.cell? ⟨g4, 1, none⟩ = some (.int .i64 slot) ∧ W.cell? ⟨g4, 2, none⟩ = some (.int .i64 (c : Int)) ∧ W.cell? ⟨gh, j, none⟩ = some (.int .i64 x)) (by kernel_rfl) ⟨t0, t1, t2, x0⟩ (fun hS => ?_)
                    refine wpAnyH_take (i := 0) (oi := { dst := some 92, op := Op.move (Operand.tmp 9), type := 4, pos := "ref.go:109", after := #[], guard := none }) (v := ?_) rfl (by kernel_rfl) (by kernel_rfl) (by kernel_rfl) (fun _ _ _ h => h) (Or.inl ⟨by rfl, ?_⟩) hS ?_
                    rotate_left
                    · intro W_ hSW_
                      obtain ⟨t0_, t1_, t2_, x0_⟩ := hSW_
                      go_simp
                      try with_reducible rfl
                    try simp only [Act.put, List.setIfInBounds_toArray, List.set_cons_zero, List.set_cons_succ]
                    refine wpAnyH_take (i := 1) (oi := { dst := some 93, op := Op.move (Operand.tmp 92), type := 4, pos := "ref.go:109", after := #[{ on := 0, ground := Ground.data }], guard := none }) (v := ?_) rfl (by kernel_rfl) (by kernel_rfl) (by kernel_rfl) (fun _ _ _ h => h) (Or.inl ⟨by rfl, ?_⟩) hS ?_
                    rotate_left
                    · intro W_ hSW_
                      obtain ⟨t0_, t1_, t2_, x0_⟩ := hSW_
                      go_simp
                      try with_reducible rfl
                    try simp only [Act.put, List.setIfInBounds_toArray, List.set_cons_zero, List.set_cons_succ]
                    refine wpAnyH_take (i := 2) (oi := { dst := some 94, op := Op.load 28 (Operand.tmp 4), type := 28, pos := "ref.go:109", after := #[{ on := 1, ground := Ground.guard }], guard := some (1, true) }) (v := ?_) rfl (by kernel_rfl) (by kernel_rfl) (by kernel_rfl) (fun _ _ _ h => h) (Or.inl ⟨by rfl, ?_⟩) hS ?_
                    rotate_left
                    · intro W_ hSW_
                      obtain ⟨t0_, t1_, t2_, x0_⟩ := hSW_
                      go_simp
                      try with_reducible rfl
                    try simp only [Act.put, List.setIfInBounds_toArray, List.set_cons_zero, List.set_cons_succ]
                    refine wpAnyH_take (i := 3) (oi := { dst := some 95, op := Op.move (Operand.tmp 12), type := 3, pos := "ref.go:109", after := #[{ on := 1, ground := Ground.guard }], guard := some (1, true) }) (v := ?_) rfl (by kernel_rfl) (by kernel_rfl) (by kernel_rfl) (fun _ _ _ h => h) (Or.inl ⟨by rfl, ?_⟩) hS ?_
                    rotate_left
                    · intro W_ hSW_
                      obtain ⟨t0_, t1_, t2_, x0_⟩ := hSW_
                      go_simp
                      try with_reducible rfl
                    try simp only [Act.put, List.setIfInBounds_toArray, List.set_cons_zero, List.set_cons_succ]
                    refine wpAnyH_take (i := 4) (oi := { dst := some 96, op := Op.binOp BinOp.add 3 (Operand.const (Value.int IntKind.i64 1)) (Operand.tmp 95) 3, type := 3, pos := "ref.go:109", after := #[{ on := 3, ground := Ground.data }, { on := 1, ground := Ground.guard }], guard := some (1, true) }) (v := ?_) rfl (by kernel_rfl) (by kernel_rfl) (by kernel_rfl) (fun _ _ _ h => h) (Or.inl ⟨by rfl, ?_⟩) hS ?_
                    rotate_left
                    · intro W_ hSW_
                      obtain ⟨t0_, t1_, t2_, x0_⟩ := hSW_
                      go_simp
                      try with_reducible rfl
                    try simp only [Act.put, List.setIfInBounds_toArray, List.set_cons_zero, List.set_cons_succ]
                    refine wpAnyH_take (i := 5) (oi := { dst := some 97, op := Op.move (Operand.tmp 11), type := 87, pos := "ref.go:109", after := #[{ on := 1, ground := Ground.guard }], guard := some (1, true) }) (v := ?_) rfl (by kernel_rfl) (by kernel_rfl) (by kernel_rfl) (fun _ _ _ h => h) (Or.inl ⟨by rfl, ?_⟩) hS ?_
                    rotate_left
                    · intro W_ hSW_
                      obtain ⟨t0_, t1_, t2_, x0_⟩ := hSW_
                      go_simp
                      try with_reducible rfl
                    try simp only [Act.put, List.setIfInBounds_toArray, List.set_cons_zero, List.set_cons_succ]
                    refine wpAnyH_take (i := 6) (oi := { dst := some 98, op := Op.move (Operand.tmp 12), type := 3, pos := "ref.go:109", after := #[{ on := 1, ground := Ground.guard }], guard := some (1, true) }) (v := ?_) rfl (by kernel_rfl) (by kernel_rfl) (by kernel_rfl) (fun _ _ _ h => h) (Or.inl ⟨by rfl, ?_⟩) hS ?_
                    rotate_left
                    · intro W_ hSW_
                      obtain ⟨t0_, t1_, t2_, x0_⟩ := hSW_
                      go_simp
                      try with_reducible rfl
                    try simp only [Act.put, List.setIfInBounds_toArray, List.set_cons_zero, List.set_cons_succ]
                    refine wpAnyH_take (i := 7) (oi := { dst := some 99, op := Op.indexAddr 87 (Operand.tmp 97) (Operand.tmp 98), type := 0, pos := "ref.go:109", after := #[{ on := 5, ground := Ground.data }, { on := 6, ground := Ground.data }, { on := 1, ground := Ground.guard }], guard := some (1, true) }) (v := ?_) rfl (by kernel_rfl) (by kernel_rfl) (by kernel_rfl) (fun _ _ _ h => h) (Or.inl ⟨by rfl, ?_⟩) hS ?_
                    rotate_left
                    · intro W_ hSW_
                      obtain ⟨t0_, t1_, t2_, x0_⟩ := hSW_
                      go_simp
                      try with_reducible rfl
                    try simp only [Act.put, List.setIfInBounds_toArray, List.set_cons_zero, List.set_cons_succ]
                    refine wpAnyH_take (i := 8) (oi := { dst := some 100, op := Op.load 3 (Operand.tmp 99), type := 3, pos := "ref.go:109", after := #[{ on := 7, ground := Ground.data }, { on := 1, ground := Ground.guard }], guard := some (1, true) }) (v := ?_) rfl (by kernel_rfl) (by kernel_rfl) (by kernel_rfl) (fun _ _ _ h => h) (Or.inl ⟨by rfl, ?_⟩) hS ?_
                    rotate_left
                    · intro W_ hSW_
                      obtain ⟨t0_, t1_, t2_, x0_⟩ := hSW_
                      go_simp
                      try with_reducible rfl
                    try simp only [Act.put, List.setIfInBounds_toArray, List.set_cons_zero, List.set_cons_succ]
                    refine wpAnyH_ready (rs := [9]) (by kernel_rfl) (by simp) ?_
                    refine AllReadyH.cons (o := { dst := some 101, op := Op.call { callee := Callee.value (Operand.func 54), args := #[Operand.tmp 94, Operand.tmp 96, Operand.tmp 100], argTypes := #[28, 3, 3] }, type := 4, pos := "ref.go:109", after := #[{ on := 2, ground := Ground.data }, { on := 4, ground := Ground.data }, { on := 8, ground := Ground.data }, { on := 1, ground := Ground.chain }, { on := 1, ground := Ground.guard }], guard := some (1, true) }) rfl (fun K_ hK_ => ?_) AllReadyH.nil
                    go_simp
                    refine HDW.out.mono ?_
                    rintro e w_ ⟨rfl, hm_⟩
                    have HM_ := Aside0.mk hm_
                    clear hm_
                    refine hK_.out _ _ (⟨blk_cell HM_.out.drop.top 0, blk_cell HM_.out.drop.top 1, blk_cell HM_.out.drop.top 2, HXC.out _ _ HM_.out⟩) (fun hS_ => ?_)
                    clear hK_ K_ hS
                    have hS := hS_
                    clear hS_
                    try simp only [Act.put, List.setIfInBounds_toArray, List.set_cons_zero, List.set_cons_succ]
                    refine wpAnyH_take (i := 10) (oi := { dst := some 102, op := Op.pick (Operand.tmp 93) (Operand.tmp 101) (Operand.const (Value.bool false)), type := 4, pos := "ref.go:109", after := #[{ on := 1, ground := Ground.data }, { on := 9, ground := Ground.data }], guard := none }) (v := ?_) rfl (by kernel_rfl) (by kernel_rfl) (by kernel_rfl) (fun _ _ _ h => h) (Or.inl ⟨by rfl, ?_⟩) hS ?_
                    rotate_left
                    · intro W_ hSW_
                      obtain ⟨t0_, t1_, t2_, x0_⟩ := hSW_
                      go_simp
                      try with_reducible rfl
                    try simp only [Act.put, List.setIfInBounds_toArray, List.set_cons_zero, List.set_cons_succ]
                    refine wpAnyH_take (i := 11) (oi := { dst := some 9, op := Op.assign (Operand.tmp 102), type := 4, pos := "ref.go:109", after := #[{ on := 10, ground := Ground.data }, { on := 9, ground := Ground.chain }, { on := 0, ground := Ground.phase }, { on := 1, ground := Ground.phase }, { on := 2, ground := Ground.phase }, { on := 3, ground := Ground.phase }, { on := 4, ground := Ground.phase }, { on := 5, ground := Ground.phase }, { on := 6, ground := Ground.phase }, { on := 7, ground := Ground.phase }, { on := 8, ground := Ground.phase }, { on := 9, ground := Ground.phase }, { on := 10, ground := Ground.phase }], guard := none }) (v := ?_) rfl (by kernel_rfl) (by kernel_rfl) (by kernel_rfl) (fun _ _ _ h => h) (Or.inl ⟨by rfl, ?_⟩) hS ?_
                    rotate_left
                    · intro W_ hSW_
                      obtain ⟨t0_, t1_, t2_, x0_⟩ := hSW_
                      go_simp
                      try with_reducible rfl
                    try simp only [Act.put, List.setIfInBounds_toArray, List.set_cons_zero, List.set_cons_succ]
                    refine wpAnyH_done (by kernel_rfl) ?_ _
                    go_wp2_with fail
                    go_roundw
                    case rel =>
                      exact ⟨j + 1, pe.wr (3841 + j) (x % 256), by show j + 1 ≤ 9; omega, rfl, by first | go_num | (congr 1), by rw [HTj.out, hdr.out, bindW_cons]; rfl, wr_ok, HM_.out⟩
                    case measure => simp [intOf]; omega
                  | false =>
                    go_wp2_with fail
                    refine wp_region_held_drew (S := fun W => W.cell? ⟨g4, 0, none⟩ = some (.pointer (some ⟨gd, 0, none⟩)) ∧ W.cell? ⟨g4, 1, none⟩ = some (.int .i64 slot) ∧ W.cell? ⟨g4, 2, none⟩ = some (.int .i64 (c : Int)) ∧ W.cell? ⟨gh, j, none⟩ = some (.int .i64 x)) (by kernel_rfl) ⟨t0, t1, t2, x0⟩ (fun hS => ?_)
                    refine wpAnyH_take (i := 0) (oi := { dst := some 92, op := Op.move (Operand.tmp 9), type := 4, pos := "ref.go:109", after := #[], guard := none }) (v := ?_) rfl (by kernel_rfl) (by kernel_rfl) (by kernel_rfl) (fun _ _ _ h => h) (Or.inl ⟨by rfl, ?_⟩) hS ?_
                    rotate_left
                    · intro W_ hSW_
                      obtain ⟨t0_, t1_, t2_, x0_⟩ := hSW_
                      go_simp
                      try with_reducible rfl
                    try simp only [Act.put, List.setIfInBounds_toArray, List.set_cons_zero, List.set_cons_succ]
                    refine wpAnyH_take (i := 1) (oi := { dst := some 93, op := Op.move (Operand.tmp 92), type := 4, pos := "ref.go:109", after := #[{ on := 0, ground := Ground.data }], guard := none }) (v := ?_) rfl (by kernel_rfl) (by kernel_rfl) (by kernel_rfl) (fun _ _ _ h => h) (Or.inl ⟨by rfl, ?_⟩) hS ?_
                    rotate_left
                    · intro W_ hSW_
                      obtain ⟨t0_, t1_, t2_, x0_⟩ := hSW_
                      go_simp
                      try with_reducible rfl
                    try simp only [Act.put, List.setIfInBounds_toArray, List.set_cons_zero, List.set_cons_succ]
                    refine wpAnyH_take (i := 2) (oi := { dst := some 94, op := Op.load 28 (Operand.tmp 4), type := 28, pos := "ref.go:109", after := #[{ on := 1, ground := Ground.guard }], guard := some (1, true) }) (v := undef) rfl (by kernel_rfl) (by kernel_rfl) (by kernel_rfl) (fun _ _ _ h => h) (Or.inr ⟨by rfl, rfl⟩) hS ?_
                    try simp only [Act.put, List.setIfInBounds_toArray, List.set_cons_zero, List.set_cons_succ]
                    refine wpAnyH_take (i := 3) (oi := { dst := some 95, op := Op.move (Operand.tmp 12), type := 3, pos := "ref.go:109", after := #[{ on := 1, ground := Ground.guard }], guard := some (1, true) }) (v := undef) rfl (by kernel_rfl) (by kernel_rfl) (by kernel_rfl) (fun _ _ _ h => h) (Or.inr ⟨by rfl, rfl⟩) hS ?_
                    try simp only [Act.put, List.setIfInBounds_toArray, List.set_cons_zero, List.set_cons_succ]
                    refine wpAnyH_take (i := 4) (oi := { dst := some 96, op := Op.binOp BinOp.add 3 (Operand.const (Value.int IntKind.i64 1)) (Operand.tmp 95) 3, type := 3, pos := "ref.go:109", after := #[{ on := 3, ground := Ground.data }, { on := 1, ground := Ground.guard }], guard := some (1, true) }) (v := undef) rfl (by kernel_rfl) (by kernel_rfl) (by kernel_rfl) (fun _ _ _ h => h) (Or.inr ⟨by rfl, rfl⟩) hS ?_
                    try simp only [Act.put, List.setIfInBounds_toArray, List.set_cons_zero, List.set_cons_succ]
                    refine wpAnyH_take (i := 5) (oi := { dst := some 97, op := Op.move (Operand.tmp 11), type := 87, pos := "ref.go:109", after := #[{ on := 1, ground := Ground.guard }], guard := some (1, true) }) (v := undef) rfl (by kernel_rfl) (by kernel_rfl) (by kernel_rfl) (fun _ _ _ h => h) (Or.inr ⟨by rfl, rfl⟩) hS ?_
                    try simp only [Act.put, List.setIfInBounds_toArray, List.set_cons_zero, List.set_cons_succ]
                    refine wpAnyH_take (i := 6) (oi := { dst := some 98, op := Op.move (Operand.tmp 12), type := 3, pos := "ref.go:109", after := #[{ on := 1, ground := Ground.guard }], guard := some (1, true) }) (v := undef) rfl (by kernel_rfl) (by kernel_rfl) (by kernel_rfl) (fun _ _ _ h => h) (Or.inr ⟨by rfl, rfl⟩) hS ?_
                    try simp only [Act.put, List.setIfInBounds_toArray, List.set_cons_zero, List.set_cons_succ]
                    refine wpAnyH_take (i := 7) (oi := { dst := some 99, op := Op.indexAddr 87 (Operand.tmp 97) (Operand.tmp 98), type := 0, pos := "ref.go:109", after := #[{ on := 5, ground := Ground.data }, { on := 6, ground := Ground.data }, { on := 1, ground := Ground.guard }], guard := some (1, true) }) (v := undef) rfl (by kernel_rfl) (by kernel_rfl) (by kernel_rfl) (fun _ _ _ h => h) (Or.inr ⟨by rfl, rfl⟩) hS ?_
                    try simp only [Act.put, List.setIfInBounds_toArray, List.set_cons_zero, List.set_cons_succ]
                    refine wpAnyH_take (i := 8) (oi := { dst := some 100, op := Op.load 3 (Operand.tmp 99), type := 3, pos := "ref.go:109", after := #[{ on := 7, ground := Ground.data }, { on := 1, ground := Ground.guard }], guard := some (1, true) }) (v := undef) rfl (by kernel_rfl) (by kernel_rfl) (by kernel_rfl) (fun _ _ _ h => h) (Or.inr ⟨by rfl, rfl⟩) hS ?_
                    try simp only [Act.put, List.setIfInBounds_toArray, List.set_cons_zero, List.set_cons_succ]
                    refine wpAnyH_take (i := 9) (oi := { dst := some 101, op := Op.call { callee := Callee.value (Operand.func 54), args := #[Operand.tmp 94, Operand.tmp 96, Operand.tmp 100], argTypes := #[28, 3, 3] }, type := 4, pos := "ref.go:109", after := #[{ on := 2, ground := Ground.data }, { on := 4, ground := Ground.data }, { on := 8, ground := Ground.data }, { on := 1, ground := Ground.chain }, { on := 1, ground := Ground.guard }], guard := some (1, true) }) (v := undef) rfl (by kernel_rfl) (by kernel_rfl) (by kernel_rfl) (fun _ _ _ h => h) (Or.inr ⟨by rfl, rfl⟩) hS ?_
                    try simp only [Act.put, List.setIfInBounds_toArray, List.set_cons_zero, List.set_cons_succ]
                    refine wpAnyH_take (i := 10) (oi := { dst := some 102, op := Op.pick (Operand.tmp 93) (Operand.tmp 101) (Operand.const (Value.bool false)), type := 4, pos := "ref.go:109", after := #[{ on := 1, ground := Ground.data }, { on := 9, ground := Ground.data }], guard := none }) (v := ?_) rfl (by kernel_rfl) (by kernel_rfl) (by kernel_rfl) (fun _ _ _ h => h) (Or.inl ⟨by rfl, ?_⟩) hS ?_
                    rotate_left
                    · intro W_ hSW_
                      obtain ⟨t0_, t1_, t2_, x0_⟩ := hSW_
                      go_simp
                      try with_reducible rfl
                    try simp only [Act.put, List.setIfInBounds_toArray, List.set_cons_zero, List.set_cons_succ]
                    refine wpAnyH_take (i := 11) (oi := { dst := some 9, op := Op.assign (Operand.tmp 102), type := 4, pos := "ref.go:109", after := #[{ on := 10, ground := Ground.data }, { on := 9, ground := Ground.chain }, { on := 0, ground := Ground.phase }, { on := 1, ground := Ground.phase }, { on := 2, ground := Ground.phase }, { on := 3, ground := Ground.phase }, { on := 4, ground := Ground.phase }, { on := 5, ground := Ground.phase }, { on := 6, ground := Ground.phase }, { on := 7, ground := Ground.phase }, { on := 8, ground := Ground.phase }, { on := 9, ground := Ground.phase }, { on := 10, ground := Ground.phase }], guard := none }) (v := ?_) rfl (by kernel_rfl) (by kernel_rfl) (by kernel_rfl) (fun _ _ _ h => h) (Or.inl ⟨by rfl, ?_⟩) hS ?_
                    rotate_left
                    · intro W_ hSW_
                      obtain ⟨t0_, t1_, t2_, x0_⟩ := hSW_
                      go_simp
                      try with_reducible rfl
                    try simp only [Act.put, List.setIfInBounds_toArray, List.set_cons_zero, List.set_cons_succ]
                    refine wpAnyH_done (by kernel_rfl) ?_ _
                    go_wp2_with fail
                    go_roundw
                    case rel =>
                      exact ⟨j + 1, (pe, false), by show j + 1 ≤ 9; omega, rfl, by first | go_num | (congr 1), by rw [HTj.out, hdr.out, bindW_cons]; rfl, (fun h => by cases h), HMj.out.drew'⟩
                    case measure => simp [intOf]; omega
                · have hj99 : j = 9 := by omega
                  subst hj99
                  have HTe : Aside0 (T2 = (pe, pl)) := ⟨by
                    rw [HTj.out, show (head v (n : Int) s c).drop 9 = [] from rfl, bindW_nil _ HONj.out]⟩
                  have y0 := blk_cell hM.drop.top 0
                  have y1 := blk_cell hM.drop.top 1
                  have y2 := blk_cell hM.drop.top 2
                  clear t0 t1 t2 hM HTj HONj
                  cases pl with
                  | false =>
                    have HRv := Aside0.mk (HRt.out.trans (congrArg seqR (show bindW T2 3840 [1] = (pe, false) by rw [HTe.out]; exact bindW_f rfl)))
                    go_wp2_with fail
                    go_ret
                    rw [HRv.out]
                    exact ⟨rfl, HMj.out.drop.drop⟩
                  | true =>
                    have HRv := Aside0.mk (HRt.out.trans (congrArg seqR (show bindW T2 3840 [1] = pe.wr (3840 + 0) (1 % 256) by rw [HTe.out]; exact (bindW_t rfl).trans (wrs_one _ _ _))))
                    have HPZ := Aside0.mk (put_call' (c := c) (slot := slot) HMj.out 0 1 (by have := HN.out; omega) (by have := HN.out; omega))
                    generalize pe.wr (3840 + 0) (1 % 256) = z at *
                    obtain ⟨zd, zk⟩ := z
                    go_wp2_with fail
                    refine HPZ.out.mono ?_
                    rintro e w8 ⟨rfl, hm⟩
                    have HMz := Aside0.mk hm
                    clear hm
                    cases zk with
                    | true =>
                      go_wp2_with fail
                      go_ret
                      rw [HRv.out]
                      exact ⟨rfl, HMz.out.drop.drop⟩
                    | false =>
                      go_wp2_with fail
                      go_ret
                      rw [HRv.out]
                      exact ⟨rfl, HMz.out.drop.drop⟩
end Go.Proofs.Ytfcldacjnegacaa.Up
