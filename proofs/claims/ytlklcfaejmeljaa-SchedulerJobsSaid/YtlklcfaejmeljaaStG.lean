/- slices.SortStableFunc on at most 40 elements. -/
import Derived.Test.YtlklcfaejmeljaaStF
namespace Go.Proofs.Ytlklcfaejmeljaa.St
open Go.RowKit Go.Proofs.YtlklcfaejmeljaaW.PrintWords Go.Proofs.Ytlklcfaejmeljaa.Sl Go.Proofs.Ytlklcfaejmeljaa.Srt
set_option linter.unusedVariables false
set_option linter.unusedSimpArgs false

theorem sym_all {w0 : World} {go c gb n : Nat} {cf : Int → Int → Int} {xs : List Int} {L : List Chunk} (hR : SWO (lt_ cf)) (hC : CmpOk w0 (.slice (some ⟨go, 0, none⟩) xs.length c) gb cf n L) (h9 : xs.length ≤ 1000) : ∀ d, SymAt w0 go c gb cf xs n L d := by
  intro d
  induction d with
  | zero => intro W ys a m b h1 h2 h3; omega
  | succ d ih =>
    intro W ys a m b h1 h2 h3 h4 hl hin hh hM
    rw [← hl] at hC hM h9 h4 ⊢
    by_cases e1 : m = a + 1
    · exact symA a m b hR hC e1 h3 h4 h9 hin hh hM
    · by_cases e2 : b = m + 1
      · exact symB a m b hR hC (by omega) e2 h4 h9 hin hh hM
      · refine symC a m b hR hC (by omega) (by omega) h4 h9 ?_ hin hh hM
        intro W' ys' a' m' b' k1 k2 k3 k4 k5 k6 k7 k8
        rw [hl] at k8 k5 k4 ⊢
        exact ih W' ys' a' m' b' (by omega) k2 k3 k4 k5 k6 k7 k8
/-- Blocks below 20 t are in order; each value lies in its own block. -/
structure Blk (cf : Int → Int → Int) (xs ys : List Int) (t : Nat) : Prop where
  perm : ys.Perm xs
  rest : ∀ k, 20 * t ≤ k → at_ ys k = at_ xs k
  o0 : 1 ≤ t → Ord (lt_ cf) ys 0 20
  o1 : 2 ≤ t → Ord (lt_ cf) ys 20 40
  lo : ∀ k, k < 20 → k < xs.length → at_ ys k < 20
  hi : ∀ k, 20 ≤ k → k < xs.length → 20 ≤ at_ ys k
def Iota (xs : List Int) : Prop := ∀ k, k < xs.length → at_ xs k = (k : Int)
theorem Iota.inR {xs : List Int} (h : Iota xs) : inR xs.length xs := by
  intro x hx
  obtain ⟨k, hk, rfl⟩ := List.getElem_of_mem hx
  have := h k hk
  rw [at_eq hk] at this
  omega
theorem Blk.start {cf : Int → Int → Int} {xs : List Int} (h : Iota xs) : Blk cf xs xs 0 :=
  ⟨List.Perm.refl _, fun _ _ => rfl, fun h => absurd h (by omega), fun h => absurd h (by omega), fun k h1 h2 => by rw [h k h2]; omega, fun k h1 h2 => by rw [h k h2]; omega⟩
theorem Blk.len {cf : Int → Int → Int} {xs ys : List Int} {t : Nat} (h : Blk cf xs ys t) : ys.length = xs.length := h.perm.length_eq
theorem Blk.inR {cf : Int → Int → Int} {xs ys : List Int} {t : Nat} (h : Blk cf xs ys t) (hx : Iota xs) : inR xs.length ys := fun x hx' => hx.inR x (h.perm.mem_iff.1 hx')
theorem Blk.inc {cf : Int → Int → Int} {xs ys : List Int} {t b : Nat} (h : Blk cf xs ys t) (hx : Iota xs) (hb : b ≤ xs.length) : Inc ys (20 * t) b := by
  intro i j h1 h2 h3
  rw [h.rest i h1, h.rest j (by omega), hx i (by omega), hx j (by omega)]
  omega
/-- A further block has been put in order. -/
theorem Blk.step {cf : Int → Int → Int} {xs ys zs : List Int} {t : Nat} (h : Blk cf xs ys t) (ht : t < 2) (hb : 20 * t + 20 ≤ xs.length) (hi : Ins cf ys zs (20 * t) (20 * t + 20)) : Blk cf xs zs (t + 1) := by
  have hs := hi.same
  refine ⟨hs.perm.trans h.perm, fun k hk => (hs.out k (.inr (by omega))).trans (h.rest k (by omega)), fun _ => ?_, fun h2 => ?_, fun k k1 k2 => ?_, fun k k1 k2 => ?_⟩
  · by_cases e : t = 0
    · subst e; exact hi.ord
    · intro i j h1 h2 h3
      rw [hs.out i (.inl (by omega)), hs.out j (.inl (by omega))]
      exact h.o0 (by omega) i j h1 h2 h3
  · obtain rfl : t = 1 := by omega
    exact hi.ord
  · by_cases e : t = 0
    · subst e
      obtain ⟨q, q1, q2, q3⟩ := hs.mem k (by omega) (by omega)
      rw [q3]; exact h.lo q (by omega) (by omega)
    · rw [hs.out k (.inl (by omega))]; exact h.lo k k1 k2
  · by_cases e : t = 1
    · subst e
      by_cases e2 : k < 40
      · obtain ⟨q, q1, q2, q3⟩ := hs.mem k (by omega) (by omega)
        rw [q3]; exact h.hi q (by omega) (by omega)
      · rw [hs.out k (.inr (by omega))]; exact h.hi k k1 k2
    · obtain rfl : t = 0 := by omega
      rw [hs.out k (.inr (by omega))]; exact h.hi k k1 k2
/-- All blocks are in order. -/
structure Blks (cf : Int → Int → Int) (xs ys : List Int) : Prop where
  perm : ys.Perm xs
  small : xs.length ≤ 20 → Ord (lt_ cf) ys 0 xs.length
  halves : 20 < xs.length → Halves (lt_ cf) ys 0 20 xs.length
theorem Blk.last {cf : Int → Int → Int} {xs ys zs : List Int} {t : Nat} (h : Blk cf xs ys t) (h40 : xs.length ≤ 40) (h1 : 20 * t ≤ xs.length) (h2 : xs.length < 20 * t + 20) (hi : Ins cf ys zs (20 * t) xs.length) : Blks cf xs zs := by
  have hs := hi.same
  have hf : 20 < xs.length → Fst zs 0 20 xs.length := by
    intro hn i j i1 i2 j1 j2
    have a1 : at_ zs i < 20 := by
      rw [hs.out i (.inl (by omega))]; exact h.lo i i2 (by omega)
    have a2 : 20 ≤ at_ zs j := by
      by_cases e : j < 20 * t
      · rw [hs.out j (.inl e)]; exact h.hi j j1 j2
      · obtain ⟨q, q1, q2, q3⟩ := hs.mem j (by omega) j2
        rw [q3]; exact h.hi q (by omega) (by omega)
    omega
  refine ⟨hs.perm.trans h.perm, fun hn => ?_, fun hn => ⟨?_, ?_, hf hn⟩⟩
  · by_cases e : t = 0
    · subst e; exact hi.ord
    · obtain rfl : t = 1 := by omega
      intro i j i1 i2 i3
      rw [hs.out i (.inl (by omega)), hs.out j (.inl (by omega))]
      exact h.o0 (by omega) i j i1 i2 (by omega)
  · intro i j i1 i2 i3
    rw [hs.out i (.inl (by omega)), hs.out j (.inl (by omega))]
    exact h.o0 (by omega) i j i1 i2 i3
  · by_cases e : t = 1
    · subst e; exact hi.ord
    · obtain rfl : t = 2 := by omega
      intro i j i1 i2 i3
      rw [hs.out i (.inl (by omega)), hs.out j (.inl (by omega))]
      exact h.o1 (by omega) i j i1 i2 (by omega)
theorem ins_none {cf : Int → Int → Int} {ys : List Int} {a b : Nat} (h : b ≤ a + 1) : Ins cf ys ys a b := ⟨Same.refl _ _ _, fun i j h1 h2 h3 => absurd h3 (by omega)⟩
def Fin (cf : Int → Int → Int) (xs ys : List Int) : Prop := ys.Perm xs ∧ Ord (lt_ cf) ys 0 xs.length
theorem Blks.fin {cf : Int → Int → Int} {xs ys zs : List Int} (h : Blks cf xs ys) (hm : Merged (lt_ cf) ys zs 0 xs.length) : Fin cf xs zs := ⟨hm.same.perm.trans h.perm, hm.ord⟩
def StRel (w0 : World) (v : Value) (cf : Int → Int → Int) (xs : List Int) (L : List Chunk) (v7 v8 : Value) (wr : World) : Prop :=
  ∃ (t : Nat) (ys : List Int), v7 = .int .i64 ((20 * t : Nat) : Int) ∧ v8 = .int .i64 ((20 * t + 20 : Nat) : Int) ∧ 20 * t ≤ xs.length ∧ Blk cf xs ys t ∧ Mem w0 wr (rws w0 v ys L)
def MgRel (w0 : World) (v : Value) (cf : Int → Int → Int) (xs : List Int) (L : List Chunk) (v6 : Value) (wr : World) : Prop :=
  ∃ ys, Mem w0 wr (rws w0 v ys L) ∧ ((v6 = .int .i64 20 ∧ Blks cf xs ys) ∨ (v6 = .int .i64 40 ∧ Fin cf xs ys))
def MiRel (w0 : World) (v : Value) (cf : Int → Int → Int) (xs : List Int) (L : List Chunk) (v7 v8 : Value) (wr : World) : Prop :=
  ∃ ys, Mem w0 wr (rws w0 v ys L) ∧ ((v7 = .int .i64 0 ∧ v8 = .int .i64 40 ∧ Blks cf xs ys) ∨ (xs.length = 40 ∧ v7 = .int .i64 40 ∧ v8 = .int .i64 80 ∧ Fin cf xs ys))
set_option maxRecDepth 100000 in
set_option maxHeartbeats 8000000 in
theorem stable {w0 w : World} {go c gb : Nat} {cf : Int → Int → Int} {xs : List Int} {L : List Chunk} (hR : SWO (lt_ cf)) (hC : CmpOk w0 (.slice (some ⟨go, 0, none⟩) xs.length c) gb cf xs.length L) (hn : 0 < xs.length) (h40 : xs.length ≤ 40) (hx : Iota xs) (hM : Mem w0 w (rws w0 (.slice (some ⟨go, 0, none⟩) xs.length c) xs L)) :
    Calls Try.prog 48 #[.slice (some ⟨go, 0, none⟩) xs.length c, .int .i64 (xs.length : Int), fnv gb] w fun e w' => e = .returned (.tuple #[]) ∧ ∃ ys, Fin cf xs ys ∧ Mem w0 w' (rws w0 (.slice (some ⟨go, 0, none⟩) xs.length c) ys L) := by
  have HM := Aside0.mk hM
  have HX := Aside0.mk hx
  have HC := Aside0.mk hC
  have HR := Aside0.mk hR
  have HSY := Aside0.mk (sym_all (n := xs.length) hR hC (by omega) 1000)
  clear hM hC hR hx
  go_enter Try.func48, Try.ntmps48
  go_wp2_with fail
  go_loopw [7, 8] (fun v7 v8 wr => StRel w0 (.slice (some ⟨go, 0, none⟩) xs.length c) cf xs L v7 v8 wr) (fun _ i _ => 100 - (intOf i).toNat)
  case atStart => exact ⟨0, xs, rfl, rfl, Nat.zero_le _, Blk.start HX.out, HM.out⟩
  case round =>
    obtain ⟨t, ys, rfl, rfl, ht, hB, hM⟩ := hrel
    clear HM
    have hl := hB.len
    obtain ⟨a, ha⟩ : ∃ a, a = 20 * t := ⟨_, rfl⟩
    obtain ⟨b, hb⟩ : ∃ b, b = a + 20 := ⟨_, rfl⟩
    rw [← ha, ← hb]
    by_cases hlt : b ≤ xs.length
    · have c1 : decide ((b : Int) ≤ (xs.length : Int)) = true := decide_eq_true (by omega)
      have c2 : decide (b ≤ xs.length) = true := decide_eq_true hlt
      have key := insSort (c := c) (gb := gb) (n := xs.length) (cf := cf) (xs := ys) (go := go) (L := L) (w0 := w0) (w := wr) a b HR.out (by rw [hl]; exact HC.out) (by omega) (by omega) (by omega) (hB.inR HX.out) (by rw [ha]; exact hB.inc HX.out hlt)
      rw [hl] at key
      have HK := Aside0.mk (key hM)
      have HST := Aside0.mk (fun zs (h : Ins cf ys zs a b) => hB.step (zs := zs) (by omega) (by omega) (by rw [← ha, ← hb]; exact h))
      have HA := Aside0.mk ha
      have HBB := Aside0.mk hb
      have b1 : a ≤ 40 := by omega
      have b2 : b ≤ 40 := by omega
      clear hM key hB hl ha hb ht
      go_wp2_with fail
      refine HK.out.mono ?_
      rintro e w2 ⟨rfl, zs, hz, hM⟩
      have HM := Aside0.mk hM
      have HZ := Aside0.mk (HST.out zs hz)
      clear hM hz
      go_wp2_with fail
      exact ⟨⟨t + 1, zs, by rw [show b = 20 * (t + 1) by have := HBB.out; have := HA.out; omega], by rw [show 20 * (t + 1) + 20 = b + 20 by have := HBB.out; have := HA.out; omega]; go_num, by have := HBB.out; have := HA.out; omega, HZ.out, HM.out⟩, by simp [intOf]; omega⟩
    · have c1 : decide ((b : Int) ≤ (xs.length : Int)) = false := decide_eq_false (by omega)
      have c2 : decide (b ≤ xs.length) = false := decide_eq_false hlt
      have key : Calls Try.prog 52 #[.slice (some ⟨go, 0, none⟩) xs.length c, .int .i64 (a : Int), .int .i64 (xs.length : Int), fnv gb] wr fun e w' => e = .returned (.tuple #[]) ∧ ∃ zs, Ins cf ys zs a xs.length ∧ Mem w0 w' (rws w0 (.slice (some ⟨go, 0, none⟩) xs.length c) zs L) := by
        by_cases hs : xs.length ≤ a + 1
        · refine (ins0 a xs.length hs (by omega) _).mono ?_
          rintro e w' ⟨rfl, rfl⟩
          exact ⟨rfl, ys, ins_none hs, hM⟩
        · have key := insSort (c := c) (gb := gb) (n := xs.length) (cf := cf) (xs := ys) (go := go) (L := L) (w0 := w0) (w := wr) a xs.length HR.out (by rw [hl]; exact HC.out) (by omega) (by omega) (by omega) (hB.inR HX.out) (by rw [ha]; exact hB.inc HX.out (Nat.le_refl _))
          rw [hl] at key
          exact key hM
      have HK := Aside0.mk key
      have HST := Aside0.mk (fun zs (h : Ins cf ys zs a xs.length) => hB.last (zs := zs) h40 ht (by omega) (by rw [← ha]; exact h))
      have b1 : a ≤ 40 := by omega
      have b2 : b ≤ 100 := by omega
      clear hM key hB hl ha hb ht
      go_wp2_with fail
      refine HK.out.mono ?_
      rintro e w2 ⟨rfl, zs, hz, hM⟩
      have HM := Aside0.mk hM
      have HZ := Aside0.mk (HST.out zs hz)
      clear hM hz c1 c2 hlt b1 b2
      go_wp2_with fail
      go_loopw [6] (fun v6 wr => MgRel w0 (.slice (some ⟨go, 0, none⟩) xs.length c) cf xs L v6 wr) (fun i _ => 100 - (intOf i).toNat)
      case atStart => exact ⟨zs, HM.out, .inl ⟨rfl, HZ.out⟩⟩
      case round =>
        obtain ⟨us, hM, hrel⟩ := hrel
        clear HM HZ HST HK
        rcases hrel with ⟨rfl, hB⟩ | ⟨rfl, hF⟩
        · by_cases h20 : 20 < xs.length
          · have c1 : decide ((20 : Int) < (xs.length : Int)) = true := decide_eq_true (by omega)
            have c2 : decide (20 < xs.length) = true := decide_eq_true h20
            have HB := Aside0.mk hB
            have HM := Aside0.mk hM
            clear hB hM
            go_wp2_with fail
            go_loopw [7, 8] (fun v7 v8 wr => MiRel w0 (.slice (some ⟨go, 0, none⟩) xs.length c) cf xs L v7 v8 wr) (fun _ i _ => 100 - (intOf i).toNat)
            case atStart => exact ⟨us, HM.out, .inl ⟨rfl, rfl, HB.out⟩⟩
            case round =>
              obtain ⟨vs, hM, hrel⟩ := hrel
              clear HM HB
              rcases hrel with ⟨rfl, rfl, hB⟩ | ⟨hl40, rfl, rfl, hF⟩
              · have hH := hB.halves h20
                have key := HSY.out _ vs 0 20 xs.length (by omega) (by omega) h20 (Nat.le_refl _) hB.perm.length_eq (fun x hx' => HX.out.inR x (hB.perm.mem_iff.1 hx')) hH hM
                have HK := Aside0.mk key
                have HF := Aside0.mk (fun zs (h : Merged (lt_ cf) vs zs 0 xs.length) => hB.fin h)
                by_cases h4 : xs.length = 40
                · have d1 : decide ((40 : Int) ≤ (xs.length : Int)) = true := decide_eq_true (by omega)
                  have d2 : decide (40 ≤ xs.length) = true := decide_eq_true (by omega)
                  have HL := Aside0.mk h4
                  have e4 : ((xs.length : Nat) : Int) = 40 := by omega
                  rw [e4] at HK
                  clear hB hM hH key h4 e4
                  go_wp2_with fail
                  refine HK.out.mono ?_
                  rintro e w3 ⟨rfl, zs', hz, hM⟩
                  have HM := Aside0.mk hM
                  have HZ := Aside0.mk (HF.out zs' hz)
                  clear hM hz
                  go_wp2_with fail
                  exact ⟨⟨zs', HM.out, .inr ⟨HL.out, rfl, rfl, HZ.out⟩⟩, by simp [intOf]⟩
                · have d1 : decide ((40 : Int) ≤ (xs.length : Int)) = false := decide_eq_false (by omega)
                  have d2 : decide (40 ≤ xs.length) = false := decide_eq_false (by omega)
                  clear hB hM hH key h4
                  go_wp2_with fail
                  refine HK.out.mono ?_
                  rintro e w3 ⟨rfl, zs', hz, hM⟩
                  have HM := Aside0.mk hM
                  have HZ := Aside0.mk (HF.out zs' hz)
                  clear hM hz
                  go_wp2_with fail
                  exact ⟨⟨zs', HM.out, .inr ⟨rfl, HZ.out⟩⟩, by simp [intOf]⟩
              · have d1 : decide ((80 : Int) ≤ (xs.length : Int)) = false := decide_eq_false (by omega)
                have d2 : decide (80 ≤ xs.length) = false := decide_eq_false (by omega)
                have d3 : decide ((60 : Int) < (xs.length : Int)) = false := decide_eq_false (by omega)
                have d4 : decide (60 < xs.length) = false := decide_eq_false (by omega)
                have HM := Aside0.mk hM
                have HF := Aside0.mk hF
                clear hM hF hl40
                go_wp2_with fail
                exact ⟨⟨vs, HM.out, .inr ⟨rfl, HF.out⟩⟩, by simp [intOf]⟩
          · have c1 : decide ((20 : Int) < (xs.length : Int)) = false := decide_eq_false (by omega)
            have c2 : decide (20 < xs.length) = false := decide_eq_false h20
            have HF := Aside0.mk (show Fin cf xs us from ⟨hB.perm, hB.small (by omega)⟩)
            have HM := Aside0.mk hM
            clear hM hB
            go_wp2_with fail
            go_end0
            exact ⟨rfl, us, HF.out, HM.out⟩
        · have c1 : decide ((40 : Int) < (xs.length : Int)) = false := decide_eq_false (by omega)
          have c2 : decide (40 < xs.length) = false := decide_eq_false (by omega)
          have HF := Aside0.mk hF
          have HM := Aside0.mk hM
          clear hM hF
          go_wp2_with fail
          go_end0
          exact ⟨rfl, us, HF.out, HM.out⟩
end Go.Proofs.Ytlklcfaejmeljaa.St
