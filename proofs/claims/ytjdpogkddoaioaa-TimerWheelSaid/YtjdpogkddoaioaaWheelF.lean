/- The reference's Fire, Set and Ready in memory; Set at whatever argument. -/
import Derived.Test.YtjdpogkddoaioaaWheelE
namespace Go.Proofs.Ytjdpogkddoaioaa.QWh
open Go.RowKit Go.Proofs.YtjdpogkddoaioaaW.PrintWords Go.Proofs.YtjdpogkddoaioaaW.PrintLast Go.Proofs.YtjdpogkddoaioaaW.PrintMore Go.Proofs.Ytjdpogkddoaioaa.Sl
set_option linter.unusedVariables false
set_option linter.unusedSimpArgs false

theorem RefFire {w0 w : World} {rp rn : Value} {ps ns : List Int} {L : List Chunk} (t lo hi : Int) (hI : WInv ps ns) (h9 : ps.length ≤ 1000) (hM : Mem w0 w (row2 w0 rp ps rn ns :: L)) :
    Calls Try.prog 30 #[.agg #[rp, rn], .int .i64 t, .agg #[.int .i64 lo, .int .i64 hi]] w fun e w' => ∃ v1 v2, e = .returned (.tuple #[.agg #[v1, v2], .int .i64 (fireW ps ns t lo hi).2.1, .int .i64 (fireW ps ns t lo hi).2.2]) ∧ Mem w0 w' (row2 w0 v1 ps v2 (fireW ps ns t lo hi).1 :: L) := by
  have hb := hM.below
  obtain ⟨T, hr, h2, h3⟩ := hM.front
  refine (trickleref39_Fire.calls 3 T rp ps T rn ns t lo hi ps (fireW ps ns t lo hi).1 (fireW ps ns t lo hi).2.1 (fireW ps ns t lo hi).2.2 w0 w hb hr.1 hr.2 (refFire_f ps ns t lo hi hI.len h9 hI.per hI.ok)).mono ?_
  rintro e w' ⟨v1, v2, rfl, h4, h5, h6, h7⟩
  have hm : ∀ k, (T k ∨ T k) ∨ w.heap.size ≤ k → T k ∨ w.heap.size ≤ k := fun k hk => hk.imp (fun h => h.elim id id) id
  exact ⟨v1, v2, rfl, h3 w' (row2 w0 v1 ps v2 _) h6 (h7.mono (fun k hk => hk.elim id id)) ⟨Kd.R_mono h4 hm, Kd.R_mono h5 hm⟩⟩
instance (ps l : List Int) : Decidable (goodSet ps l) := by unfold goodSet; exact inferInstance
def setW (ps ns l : List Int) : List Int × Int := if goodSet ps l then (l, 0) else (ns, 1)
theorem refSet_f {ps ns l : List Int} (h9 : ps.length ≤ 1000) : trickleref39_Set.f (ps.length + 1) ps ns l = some (ps, setW ps ns l) := by
  unfold setW
  by_cases h : goodSet ps l
  · rw [if_pos h]; exact refSet_good h9 h
  · rw [if_neg h]; exact refSet_bad h9 h
theorem RefSet {w0 w : World} {rp rn : Value} {ps ns l : List Int} {L : List Chunk} {A : Option Addr} {c : Nat} (hc0 : Kd.C (Kd.int .i64) w0 A l.length l) (hc : l.length ≤ c) (h9 : ps.length ≤ 1000) (hM : Mem w0 w (row2 w0 rp ps rn ns :: L)) :
    Calls Try.prog 31 #[.agg #[rp, rn], .slice A l.length c] w fun e w' => ∃ v1 v2, e = .returned (.tuple #[.agg #[v1, v2], .int .i64 (setW ps ns l).2]) ∧ Mem w0 w' (row2 w0 v1 ps v2 (setW ps ns l).1 :: L) := by
  have hb := hM.below
  obtain ⟨T, hr, h2, h3⟩ := hM.front
  refine (trickleref39_Set.calls (ps.length + 1) T rp ps T rn ns A c l ps (setW ps ns l).1 (setW ps ns l).2 w0 w hb hr.1 hr.2 (Kd.C_kept_came (Kd.heap_int _) hc0 hb (fun k hk => (h2 k (hk.elim id id)).1)) hc (refSet_f h9)).mono ?_
  rintro e w' ⟨v1, v2, rfl, h4, h5, h6, h7⟩
  have hm : ∀ k, (T k ∨ T k) ∨ w.heap.size ≤ k → T k ∨ w.heap.size ≤ k := fun k hk => hk.imp (fun h => h.elim id id) id
  exact ⟨v1, v2, rfl, h3 w' (row2 w0 v1 ps v2 _) h6 (h7.mono (fun k hk => hk.elim id id)) ⟨Kd.R_mono h4 hm, Kd.R_mono h5 hm⟩⟩
theorem Set_any {w0 w : World} {g : Nat} {vp vn : Value} {ps ns l : List Int} {L : List Chunk} {A : Option Addr} {c : Nat} (hC : Kd.C (Kd.int .i64) w A l.length l) (hc : l.length ≤ c) (hl : ps.length ≤ 1000) (hM : Mem w0 w (wheel w0 g vp vn ps ns L)) :
    Calls Try.prog 24 #[.pointer (some ⟨g, 0, none⟩), .slice A l.length c] w fun e w' => e = .returned (.int .i64 (setW ps ns l).2) ∧ ∃ vn', Mem w0 w' (wheel w0 g vp vn' ps (setW ps ns l).1 L) := by
  by_cases hll : l.length = ps.length
  · have key := Set.calls (c := c) (vn := vn) (ns := ns) (by rw [← hll]; exact hC) hll (by omega) hl hM
    rw [hll]
    refine key.mono ?_
    rintro e w' (⟨rfl, h1, vn', h2⟩ | ⟨rfl, ⟨i, h1, h3⟩, h2⟩)
    · have e : setW ps ns l = (l, 0) := if_pos ⟨hll, h1⟩
      rw [e]; exact ⟨rfl, vn', h2⟩
    · have e : setW ps ns l = (ns, 1) := if_neg (fun h => h3 (h.2 i h1))
      rw [e]; exact ⟨rfl, vn, h2⟩
  · refine (Set.short hll hM).mono ?_
    rintro e w' ⟨rfl, rfl⟩
    have e : setW ps ns l = (ns, 1) := if_neg (fun h => hll h.1)
    rw [e]; exact ⟨rfl, vn, hM⟩
theorem WInv.setW {ps ns l : List Int} (h : WInv ps ns) : WInv ps (setW ps ns l).1 := by
  unfold QWh.setW
  by_cases hg : goodSet ps l
  · rw [if_pos hg]; exact h.set hg
  · rw [if_neg hg]; exact h
/-- The reference's Ready in memory. -/
theorem RefReady {w0 w : World} {Ap An : Option Addr} {cp cn : Nat} {ps ns : List Int} {L : List Chunk} (lo hi : Int) (hl : ns.length = ps.length) (h9 : ps.length ≤ 900) (hM : Mem w0 w (row2 w0 (.slice Ap ps.length cp) ps (.slice An ps.length cn) ns :: L)) :
    Calls Try.prog 29 #[.agg #[.slice Ap ps.length cp, .slice An ps.length cn], .agg #[.int .i64 lo, .int .i64 hi]] w fun e w' => ∃ v, e = .returned v ∧ Mem w0 w' (row w0 (Kd.int .i64) 3 v (readyW ps ns lo) :: row2 w0 (.slice Ap ps.length cp) ps (.slice An ps.length cn) ns :: L) := by
  obtain ⟨k, hk⟩ := refReady_ev ps ns lo hi hl h9
  obtain ⟨⟨A, c, e1, h1, h2⟩, A', c', e2, h3, h4⟩ := row2_reads hM hl
  injection e1 with e1 _ e3
  injection e2 with e2 _ e4
  subst e1 e2 e3 e4
  have key := trickleref39_Ready.calls k Ap cp ps An cn ns lo hi (readyW ps ns lo) w h2 h1 (by rw [hl]; exact h4) (by rw [hl]; exact h3) hk
  rw [hl] at key
  refine key.mono ?_
  rintro e w' ⟨v, rfl, hr, hb⟩
  exact ⟨v, rfl, hM.row_made hb hr⟩
theorem same11_loop (l : List Int) (hl : l.length ≤ 1000000) : ∀ (n j : Nat), l.length - j ≤ n → j ≤ l.length → trickleref11_Same.l0 (n + 1) l l (j : Int) = some true := by
  intro n
  induction n with
  | zero => intro j h1 h2; rw [trickleref11_Same.l0.eq_2, if_neg (by omega)]
  | succ n ih =>
    intro j h1 h2
    rw [trickleref11_Same.l0.eq_2]
    by_cases h : (j : Int) < (l.length : Int)
    · rw [if_pos h, if_pos (by omega), if_pos h, if_pos rfl, show wrap64 ((j : Int) + 1) = ((j + 1 : Nat) : Int) by unfold wrap64; omega]
      exact ih (j + 1) (by omega) (by omega)
    · rw [if_neg h]
theorem same11_f (l : List Int) (hl : l.length ≤ 1000000) : trickleref11_Same.f (l.length + 1) l l = some true := by
  unfold trickleref11_Same.f
  rw [if_pos rfl]
  exact same11_loop l hl l.length 0 (by omega) (by omega)
theorem ready_len {ps ns : List Int} {lo : Int} : (readyW ps ns lo).length ≤ ps.length := by
  unfold readyW
  rw [srt_len]
  exact due_len ps ns lo ps.length
theorem Same11 {w : World} {A B : Option Addr} {c d : Nat} {l : List Int} (hl : l.length ≤ 1000000) (h1 : l.length ≤ c ∧ Kd.C (Kd.int .i64) w A l.length l) (h2 : l.length ≤ d ∧ Kd.C (Kd.int .i64) w B l.length l) :
    Calls Try.prog 28 #[.slice A l.length c, .slice B l.length d] w fun e w' => e = .returned (.bool true) ∧ Drawn0 w w' :=
  trickleref11_Same.calls (l.length + 1) A c l B d l true _ h1.2 h1.1 h2.2 h2.1 (same11_f _ hl)
theorem meas {a q : Nat} {x : Int} (hx : x = ((q + 1 : Nat) : Int)) (h : q < a) : a - (intOf (.int .i64 x)).toNat < a - (intOf (.int .i64 (q : Int))).toNat := by
  subst hx
  simp [intOf]
  omega
end Go.Proofs.Ytjdpogkddoaioaa.QWh
