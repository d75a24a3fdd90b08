/- The reference's Discard, Store. Printed by mkUpV.py. -/
import Derived.Test.YtfcldacjnegacaaUpU
namespace Go.Proofs.Ytfcldacjnegacaa.Up
open Go.RowKit Go.Proofs.YtfcldacjnegacaaW.PrintWords Go.Proofs.YtfcldacjnegacaaW.PrintLast Go.Proofs.YtfcldacjnegacaaW.PrintMore Go.Proofs.Ytfcldacjnegacaa.Sl
attribute [local go_sem] max2_int min2_int max_two min_two
set_option linter.unusedVariables false
set_option linter.unusedSimpArgs false
variable {L : List Chunk} {w0 w w' : World} {gd gr N c : Nat} {d : Dv} {slot chunk : Int}
theorem wr_ok {d : Dv} {a : Nat} {x : Int} (h : (d.wr a x).2 = true) : (d.wr a x).1.off = false := by
  unfold Dv.wr at h ⊢
  split at h
  · cases h
  · rename_i h1
    rw [if_neg h1]
    split at h
    · cases h
    · rename_i h2
      rw [if_neg h2]
theorem wrs_one (d : Dv) (a : Nat) (x : Int) : d.wrs a [x] = d.wr a x := by
  unfold Dv.wrs
  cases h : (d.wr a x).2 with
  | true =>
    rw [if_pos rfl]
    unfold Dv.wrs
    rw [wr_ok h]
    show ((d.wr a x).1, true) = d.wr a x
    rw [← h]
  | false => rw [if_neg (by simp), ← h]
/-- Writes behind others, if those did not fail. -/
def bindW (p : Dv × Bool) (a : Nat) (xs : List Int) : Dv × Bool := if p.2 = true then p.1.wrs a xs else p
def put1 (p : Dv × Bool) (a : Nat) (x : Int) : Dv × Bool := if p.2 = true then p.1.wr a x else p
theorem bindW_cons (p : Dv × Bool) (a : Nat) (x : Int) (l : List Int) : bindW p a (x :: l) = bindW (put1 p a x) (a + 1) l := by
  unfold bindW put1
  by_cases h : p.2 = true
  · rw [if_pos h, if_pos h]
    conv => lhs; unfold Dv.wrs
    by_cases h2 : (p.1.wr a x).2 = true
    · rw [if_pos h2, if_pos h2]
    · rw [if_neg h2, if_neg h2]
      have : (p.1.wr a x).2 = false := by simpa using h2
      rw [← this]
  · rw [if_neg h, if_neg h, if_neg h]
theorem bindW_nil {p : Dv × Bool} (a : Nat) (h : p.2 = true → p.1.off = false) : bindW p a [] = p := by
  unfold bindW
  by_cases h2 : p.2 = true
  · rw [if_pos h2]
    unfold Dv.wrs
    rw [h h2]
    show (p.1, true) = p
    rw [← h2]
  · rw [if_neg h2]
theorem put1_ok {p : Dv × Bool} {a : Nat} {x : Int} (hp : (put1 p a x).2 = true) : (put1 p a x).1.off = false := by
  unfold put1 at hp ⊢
  by_cases h : p.2 = true
  · rw [if_pos h] at hp ⊢
    exact wr_ok hp
  · rw [if_neg h] at hp
    exact absurd hp h
theorem DvM.add (h : DvM w0 w gd gr N d L) (o : Obj) : DvM w0 (w.alloc o) gd gr N d (ob w.heap.size o :: L) := ⟨h.1, (h.2.new o).q2⟩
theorem DvM.top {o : Obj} {g : Nat} (h : DvM w0 w gd gr N d (ob g o :: L)) : w.heap[g]? = some o := h.2.p2.get
theorem DvM.drop {x : Chunk} (h : DvM w0 w gd gr N d (x :: L)) : DvM w0 w gd gr N d L := ⟨h.1, h.2.p2.drop⟩
theorem rDiscard_call (hM : DvM w0 w gd gr N d L) (hN : N = 10240) :
    Calls Try.prog 48 #[rup gd slot chunk] w fun e w' => e = .returned (.int .i64 (errP (d.wrs 3840 [0]).2)) ∧ DvM w0 w' gd gr N (d.wrs 3840 [0]).1 L := by
  rw [wrs_one]
  have HK := Aside0.mk (fun W (hb : Below w.heap.size w W) => put_call (slot := slot) (chunk := chunk) (hM.step hb) 0 0 (by omega) (by omega))
  have HR := Aside0.mk (below_alloc (Below.refl w.heap.size w) (.cells #[.pointer (some ⟨gd, 0, none⟩), .int .i64 slot, .int .i64 chunk] 28))
  have e0 : d.wr (3840 + 0) (0 % 256) = d.wr 3840 0 := rfl
  simp only [e0] at HK
  unfold rup at *
  clear hM hN e0
  generalize d.wr 3840 0 = p at *
  obtain ⟨d', ok⟩ := p
  cases ok with
  | true =>
    go_enter Try.func48, Try.ntmps48
    go_wp2_with fail
    refine (HK.out _ HR.out).mono ?_
    rintro e w1 ⟨rfl, hm⟩
    have HM := Aside0.mk hm
    clear hm
    go_wp2_with fail
    go_ret
    exact ⟨rfl, HM.out⟩
  | false =>
    go_enter Try.func48, Try.ntmps48
    go_wp2_with fail
    refine (HK.out _ HR.out).mono ?_
    rintro e w1 ⟨rfl, hm⟩
    have HM := Aside0.mk hm
    clear hm
    go_wp2_with fail
    go_ret
    exact ⟨rfl, HM.out⟩
theorem or_bit64 : ∀ x : Fin 256, ∀ k : Fin 8, bits .or .i64 ((x.val : Nat) : Int) (2 ^ k.val) = orb ((x.val : Nat) : Int) k.val := by decide +kernel
theorem or_bit_int (x : Int) (h0 : 0 ≤ x) (h1 : x < 256) (k : Nat) (hk : k < 8) : bits .or .i64 x (2 ^ k) = orb x k := by
  obtain ⟨n, rfl⟩ := Int.eq_ofNat_of_zero_le h0
  exact or_bit64 ⟨n, by omega⟩ ⟨k, hk⟩
end Go.Proofs.Ytfcldacjnegacaa.Up
