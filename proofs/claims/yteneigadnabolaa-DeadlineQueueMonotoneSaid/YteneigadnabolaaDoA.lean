/- The law's 'do': one operation on a queue and on the reference's list. -/
import Derived.Test.YteneigadnabolaaDqP
namespace Go.Proofs.Yteneigadnabolaa.QAl
open Go.RowKit Go.Proofs.YteneigadnabolaaW.PrintWords Go.Proofs.YteneigadnabolaaW.PrintLast Go.Proofs.YteneigadnabolaaW.PrintMore Go.Proofs.Yteneigadnabolaa.Sl
set_option linter.unusedVariables false
set_option linter.unusedSimpArgs false
variable {L : List Chunk}
theorem _root_.Go.Proofs.Yteneigadnabolaa.Sl.Mem.q_C {α : Type} {d : Kd α} {e n c : Nat} {A : Option Addr} {xs : List α} {w0 w : World} (h : Mem w0 w (qrow w0 d e (.slice A n c) xs :: L)) : n = xs.length ∧ xs.length ≤ c ∧ d.C w A n xs := by
  obtain ⟨A', c', e', h1, h2⟩ := h.q_reads
  injection e' with e1 e2 e3
  subst e1 e2 e3
  exact ⟨rfl, h1, h2⟩
/-- A queue and the reference's list. -/
@[reducible] def both (w0 : World) (g : Nat) (v lv : Value) (q : List Dq.It) (L : List Chunk) : List Chunk := blk g #[v] 62 :: qrow w0 k30 30 v (q.map un) :: qrow w0 k36 36 lv (q.map u36) :: L
def stepQ (q : List Dq.It) (k : Int) (x : Dq.It) : List Dq.It := if k = 0 then Dq.push q x else if k = 1 then Dq.rm q x.1 else if k = 2 then q.drop 1 else q
theorem stepQ_ok {q : List Dq.It} (h : Dq.Ok q) (k : Int) (x : Dq.It) : Dq.Ok (stepQ q k x) ∧ (stepQ q k x).length ≤ q.length + 1 := by
  unfold stepQ
  split
  · exact ⟨h.push x, push_len q x⟩
  · split
    · exact ⟨h.rm _, Nat.le_trans (rm_len q x.1) (Nat.le_succ _)⟩
    · split
      · exact ⟨h.drop 1, by rw [List.length_drop]; omega⟩
      · exact ⟨h, Nat.le_succ _⟩
def DoPost (w0 : World) (g : Nat) (q : List Dq.It) (L : List Chunk) (e : Ending) (w' : World) : Prop :=
  ∃ v' lv', e = .returned (.tuple #[lv', .bool true]) ∧ Mem w0 w' (both w0 g v' lv' q L)
set_option maxRecDepth 100000 in
set_option maxHeartbeats 4000000 in
theorem Do_push {w0 W : World} {g : Nat} {v lv : Value} {q : List Dq.It} (xi xd : Int) (hM : Mem w0 W (both w0 g v lv q L)) (hl : q.length ≤ 900) (hq : Dq.Ok q) :
    Calls Try.prog 21 #[.pointer (some ⟨g, 0, none⟩), lv, .agg #[.int .i64 0, .int .i64 xi, .int .i64 xd]] W (DoPost w0 g (Dq.push q (xi, xd)) L) := by
  obtain ⟨A, c, rfl, hnc, hC⟩ := hM.p2.q_reads
  obtain ⟨kf, hkf⟩ := (refPush_ev q (xi, xd) (by omega)).rounds
  have HC := Aside0.mk hC
  have HNC := Aside0.mk hnc
  have HKF := Aside0.mk hkf
  have HQ := Aside0.mk hq
  obtain ⟨n, hn⟩ : ∃ n, n = (q.map u36).length := ⟨_, rfl⟩
  have key : Aside0 (∀ w, k36.C w A n (q.map u36) → Calls Try.prog 33 #[.slice A n c, .agg #[.int .i64 xi, .int .i64 xd]] w fun e w' => ∃ v0_ : Value, e = .returned (v0_) ∧ Kd.R k36 36 w' w.heap.size (fun _ => True) v0_ ((Dq.push q (xi, xd)).map u36) ∧ Below w.heap.size w w') :=
    ⟨fun w hC => by rw [hn] at hC ⊢; exact trickleref06_Push.calls kf A c (q.map u36) xi xd _ w hC HNC.out HKF.out⟩
  have HN := Aside0.mk hn
  obtain ⟨N, hN⟩ : ∃ N, W.heap.size = N := ⟨_, rfl⟩
  have HMb := Aside0.mk (hM.new_ (.cells #[.int .i64 0, .int .i64 xi, .int .i64 xd] 27) hN).q2
  rw [← hn]
  have HNW := Aside0.mk hN
  clear hM hC hnc hkf hq hn hN
  go_enter Try.func21, Try.ntmps21
  go_wp2_with fail
  rw [HNW.out]
  refine (Push_call ⟨xi, xd⟩ HMb.out hl HQ.out).mono ?_
  rintro e w2 ⟨v2, rfl, hM2⟩
  have z0 := blk_cell hM2.p2.get 0
  have z1 := blk_cell hM2.p2.get 1
  have z2 := blk_cell hM2.p2.get 2
  have HM2 := Aside0.mk hM2.p2.drop
  have HM2' := Aside0.mk hM2.p2.drop.p2
  clear hM2
  go_wp2_with fail
  refine (key.out w2 (by rw [HN.out]; exact HM2'.out.q_C.2.2)).mono ?_
  rintro e w3 ⟨v3, rfl, hR, hb⟩
  have HM3 := Aside0.mk (HM2.out.row_made hb hR).toQ
  clear hR hb
  go_wp2_with fail
  go_ret2
  exact ⟨v2, v3, rfl, HM3.out.q2.p3.drop⟩
set_option maxRecDepth 100000 in
set_option maxHeartbeats 4000000 in
theorem Do_remove {w0 W : World} {g : Nat} {v lv : Value} {q : List Dq.It} (xi xd : Int) (hM : Mem w0 W (both w0 g v lv q L)) (hl : q.length ≤ 900) (hq : Dq.Ok q) :
    Calls Try.prog 21 #[.pointer (some ⟨g, 0, none⟩), lv, .agg #[.int .i64 1, .int .i64 xi, .int .i64 xd]] W (DoPost w0 g (Dq.rm q xi) L) := by
  obtain ⟨A, c, rfl, hnc, hC⟩ := hM.p2.q_reads
  obtain ⟨kf, hkf⟩ := (refRemove_ev q xi (by omega)).rounds
  have HNC := Aside0.mk hnc
  have HKF := Aside0.mk hkf
  have HQ := Aside0.mk hq
  obtain ⟨n, hn⟩ : ∃ n, n = (q.map u36).length := ⟨_, rfl⟩
  have key : Aside0 (∀ w, k36.C w A n (q.map u36) → Calls Try.prog 25 #[.slice A n c, .int .i64 xi] w fun e w' => ∃ v0_ : Value, e = .returned (.tuple #[v0_, .bool (has q xi)]) ∧ Kd.R k36 36 w' w.heap.size (fun _ => True) v0_ ((Dq.rm q xi).map u36) ∧ Below w.heap.size w w') :=
    ⟨fun w hC => by rw [hn] at hC ⊢; exact trickleref06_Remove.calls kf A c (q.map u36) xi _ _ w hC HNC.out HKF.out⟩
  have HN := Aside0.mk hn
  obtain ⟨N, hN⟩ : ∃ N, W.heap.size = N := ⟨_, rfl⟩
  have HMb := Aside0.mk (hM.new_ (.cells #[.int .i64 1, .int .i64 xi, .int .i64 xd] 27) hN).q3
  rw [← hn]
  have HNW := Aside0.mk hN
  clear hM hC hnc hkf hq hn hN
  go_enter Try.func21, Try.ntmps21
  go_wp2_with fail
  rw [HNW.out]
  refine (key.out _ (by rw [HN.out]; exact HMb.out.p2.q_C.2.2)).mono ?_
  rintro e w2 ⟨v2, rfl, hR, hb⟩
  have hM2 := (HMb.out.row_made hb hR).toQ
  have z1 := blk_cell hM2.drop.drop.drop.drop.get 1
  obtain ⟨A2, c2, rfl, _, _⟩ := hM2.q_reads
  generalize ((Dq.rm q xi).map u36).length = n2 at hM2
  have HM2 := Aside0.mk hM2.q2
  clear hM2 hR hb
  go_wp2_with fail
  refine (Remove_call xi HM2.out (by omega) HQ.out).mono ?_
  rintro e w3 ⟨v3, rfl, hM3⟩
  have HM3 := Aside0.mk hM3
  have hbb : (has q xi == has q xi) = true := beq_self_eq_true _
  clear hM3
  go_wp2_with fail
  go_ret2
  exact ⟨v3, .slice A2 n2 c2, rfl, HM3.out.p3.drop.p3.drop⟩
theorem item36_at {w : World} {A : Option Addr} {n : Nat} {l : List S36} (h : k36.C w A n l) {j : Nat} (hj : j < n) : ∃ b o, A = some ⟨b, o, none⟩ ∧
    w.cell? ⟨b, o + j * 2, none⟩ = some (.int .i64 (l.getD j z36).f0) ∧ w.cell? ⟨b, o + j * 2 + 1, none⟩ = some (.int .i64 (l.getD j z36).f1) := by
  obtain ⟨b, o, cs, rfl, _, hK, hc⟩ := C_at z36 (by decide) h j hj
  obtain rfl := k36_open hK
  have e : k36.sz = 2 := rfl
  rw [e] at hc
  exact ⟨b, o, rfl, hc 0 _ rfl, hc 1 _ rfl⟩
set_option maxRecDepth 100000 in
set_option maxHeartbeats 4000000 in
theorem Do_pop_nil {w0 W : World} {g : Nat} {v lv : Value} (xi xd : Int) (hM : Mem w0 W (both w0 g v lv [] L)) :
    Calls Try.prog 21 #[.pointer (some ⟨g, 0, none⟩), lv, .agg #[.int .i64 2, .int .i64 xi, .int .i64 xd]] W (DoPost w0 g [] L) := by
  obtain ⟨A, c, rfl, hnc, hC⟩ := hM.p2.q_reads
  obtain ⟨N, hN⟩ : ∃ N, W.heap.size = N := ⟨_, rfl⟩
  have hM : Mem w0 W (both w0 g v (.slice A 0 c) [] L) := hM
  have HMb := Aside0.mk (hM.new_ (.cells #[.int .i64 2, .int .i64 xi, .int .i64 xd] 27) hN).q3
  have HNW := Aside0.mk hN
  have mixed : Try.prog.follows Departure.mixedOrders = true := by kernel_rfl
  clear hM hC hnc hN
  go_enter Try.func21, Try.ntmps21
  go_wp2_with fail
  rw [HNW.out]
  refine (Pop_call HMb.out).mono ?_
  rintro e w2 ⟨v2, rfl, hM2⟩
  have hp : pk (([] : List Dq.It).map un) = .tuple #[.agg #[.int .i64 0, .int .i64 0], .bool false] := rfl
  rw [hp]
  have HM2 := Aside0.mk (hM2.alloc (.cells #[.int .i64 0, .int .i64 0] 30))
  clear hM2 hp
  go_wp2_with fail
  go_region_law_o (fail)
  go_wp2_with fail
  go_ret2
  exact ⟨v2, .slice A 0 c, rfl, HM2.out.p3.drop.drew⟩
end Go.Proofs.Yteneigadnabolaa.QAl
