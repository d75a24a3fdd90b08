/- SchedulerJobs: the law, by hand. -/
import Derived.Test.YtlklcfaejmeljaaJbB
import Derived.Test.YtlklcfaejmeljaaStG
namespace Go.Proofs.Ytlklcfaejmeljaa.QJb
open Go.RowKit Go.Proofs.YtlklcfaejmeljaaW.PrintWords Go.Proofs.YtlklcfaejmeljaaW.PrintLast Go.Proofs.YtlklcfaejmeljaaW.PrintMore Go.Proofs.Ytlklcfaejmeljaa.Sl Go.Proofs.Ytlklcfaejmeljaa.Srt Go.Proofs.Ytlklcfaejmeljaa.St
set_option linter.unusedVariables false
set_option linter.unusedSimpArgs false
theorem awake_at : tricklelaw40_awake.f 60 = some true := by decide +kernel
theorem awake_ev : Ev (fun k => tricklelaw40_awake.f k) true := Ev.of tricklelaw40_awake.mono awake_at
theorem nat_wrap {j n : Nat} (h : j < n) (hn : n ≤ 140737488355328) : wrap64 ((j : Int) + 1) = ((j + 1 : Nat) : Int) := by unfold wrap64; omega
def jm (x : S58) : S54 := ⟨x.f0, x.f1, x.f2, x.f3⟩
theorem jobs_loop (l : List S58) (hl : l.length ≤ 4398046511103) : ∀ (n j : Nat), l.length - j ≤ n → j ≤ l.length → Ev (fun k => tricklelaw40_jobs.l0 k ((l.take j).map jm) l (l.length : Int) (j : Int)) (l.map jm) := by
  intro n
  induction n with
  | zero =>
    intro j h1 h2
    obtain rfl : j = l.length := by omega
    refine Ev.step (f := fun _ => some (l.map jm)) (fun k => ?_) (Ev.now _)
    rw [tricklelaw40_jobs.l0.eq_2, if_neg (by omega), List.take_length]
  | succ n ih =>
    intro j h1 h2
    by_cases hj : j < l.length
    · have ih := ih (j + 1) (by omega) (by omega)
      refine Ev.step (fun k => ?_) ih
      have e1 : rd_T58 l (j : Int) = l[j] := by
        unfold rd_T58
        rw [Int.toNat_natCast, List.getD_eq_getElem?_getD, List.getElem?_eq_getElem hj, Option.getD_some]
      rw [tricklelaw40_jobs.l0.eq_2, if_pos (by omega), if_pos (by omega), if_pos (by omega), if_pos (by rw [List.length_map, List.length_take]; omega), e1, nat_wrap hj (by omega), List.take_succ_eq_append_getElem hj, List.map_append]
      rfl
    · obtain rfl : j = l.length := by omega
      refine Ev.step (f := fun _ => some (l.map jm)) (fun k => ?_) (Ev.now _)
      rw [tricklelaw40_jobs.l0.eq_2, if_neg (by omega), List.take_length]
theorem jobs_ev (l : List S58) (hl : l.length ≤ 4398046511103) : Ev (fun k => tricklelaw40_jobs.f k l) (l.map jm) := by
  unfold tricklelaw40_jobs.f
  exact jobs_loop l hl l.length 0 (by omega) (by omega)
theorem jm_bk (l : List S54) : (l.map bk).map jm = l := by
  rw [List.map_map]
  exact (List.map_congr_left (g := id) (fun x _ => rfl)).trans (List.map_id l)
theorem job_at {w : World} {A : Option Addr} {n : Nat} {l : List S54} (h : k54.C w A n l) {j : Nat} (hj : j < n) : ∃ b o, A = some ⟨b, o, none⟩ ∧
    w.cell? ⟨b, o + j * 4, none⟩ = some (.int .i64 (l.getD j z54).f0) ∧ w.cell? ⟨b, o + j * 4 + 1, none⟩ = some (.int .i64 (l.getD j z54).f1) ∧ w.cell? ⟨b, o + j * 4 + 2, none⟩ = some (.int .i64 (l.getD j z54).f2) ∧ w.cell? ⟨b, o + j * 4 + 3, none⟩ = some (.int .i64 (l.getD j z54).f3) := by
  obtain ⟨b, o, cs, rfl, _, hK, hc⟩ := C_at z54 (by decide) h j hj
  obtain rfl := k54_open hK
  have e : k54.sz = 4 := rfl
  rw [e] at hc
  exact ⟨b, o, rfl, hc 0 _ rfl, hc 1 _ rfl, hc 2 _ rfl, hc 3 _ rfl⟩
theorem small_f (x : S40) : ∃ r, trickleref40_Small.f x.f0 x.f1 x.f2 x.f3 x.f4 x.f5 x.f6 x.f7 x.f8 x.f9 x.f10 x.f11 = some r ∧ (r = true → x.f5.length ≤ 12) := by
  unfold trickleref40_Small.f
  by_cases h : (x.f5.length : Int) ≤ 12
  · rw [if_pos h]
    by_cases h1 : (x.f7.length : Int) ≤ 20
    · rw [if_pos h1]; exact ⟨_, rfl, fun _ => by omega⟩
    · rw [if_neg h1]; exact ⟨_, rfl, fun _ => by omega⟩
  · rw [if_neg h]; exact ⟨_, rfl, fun e => by cases e⟩
theorem info2_ : (Try.prog.info? 2).map (fun i => (i.zero, i.size, i.bytes)) = some (some (.int .i64 0), 1, 8) := by kernel_rfl
section
open Go Go.Proofs
variable {P : Program} {ops : Array Oper} {rest : List Oper} {o : Oper} {a : Act} {Q : Exit → Act → World → Prop} {α : Type} {L : List Chunk}
/-- append(v, ys...) of whole numbers, behind 'at_builtin'. -/
theorem wp_append_ints (k : IntKind) {w0 W : World} (hgd : o.guard = none) (s x : Operand) (t e : TypeId) (bytes : Nat)
    (ho : o.op = .call { callee := .builtin .append, args := #[s, x], argTypes := #[t, t] })
    (ht : P.underlying t = some (.slice e)) (hinfo : (P.info? e).map (fun i => (i.zero, i.size, i.bytes)) = some (some (.int k 0), 1, bytes)) (hb0 : 0 < bytes)
    (v : Value) (xs ys : List Int) (A : Option Addr) (m c : Nat) (hs : a.eval s = v) (hx : a.eval x = .slice A m c) (HR : Kd.C (Kd.int k) W A m ys)
    (HM : Mem w0 W (row w0 (Kd.int k) e v xs :: L)) (hl : (xs.length + m) * bytes ≤ 140737488355328)
    (h : ∀ v1 w1, Mem w0 w1 (row w0 (Kd.int k) e v1 (xs ++ ys) :: L) → wpList P ops Q rest (a.put o.dst v1) w1) :
    wpList P ops Q (o :: rest) a W := by
  have hB := HM.below
  obtain ⟨T, hr, h2, h3⟩ := HM.front
  have hr : (Kd.int k).R e W w0.heap.size T v xs := hr
  refine Kd.R_append_rows (Kd.int k) (w0 := w0) w0.heap.size hgd s x t e (.int k 0) bytes ho ht hinfo rfl Nat.one_pos hb0 v xs ys A m c (fun k => T k ∨ W.heap.size ≤ k) (fun _ => False) hs hx (Kd.R_mono hr (fun _ hk => .inl hk)) HR (fun _ _ h => h) (fun _ h => h.elim) (fun _ hk => .inr hk) hB hB.size hl ?_
  intro v1 w1 hR hB1 hg hat
  exact h v1 w1 (h3 w1 (row w0 (Kd.int k) e v1 (xs ++ ys)) hB1 ⟨hg.size, fun i hi hn => hg.block i hi (fun e => hn (hr.1 i e.symm))⟩ hR)
end
section
variable {P : Program} {ops : Array Oper} {o : Oper} {a : Act} {Q : Exit → Act → World → Prop} {Kc : Act → World → Prop} {L : List Chunk}
theorem append_ints_step (k : IntKind) {w0 W : World} (hw : Region.wanted o (yielded ops a.tmps) = true) (s x : Operand) (t e : TypeId) (bytes : Nat)
    (ho : o.op = .call { callee := .builtin .append, args := #[s, x], argTypes := #[t, t] })
    (ht : P.underlying t = some (.slice e)) (hinfo : (P.info? e).map (fun i => (i.zero, i.size, i.bytes)) = some (some (.int k 0), 1, bytes)) (hb0 : 0 < bytes)
    (v : Value) (xs ys : List Int) (A : Option Addr) (m c : Nat) (hs : a.eval s = v) (hx : a.eval x = .slice A m c) (HR : Kd.C (Kd.int k) W A m ys)
    (HM : Mem w0 W (row w0 (Kd.int k) e v xs :: L)) (hl : (xs.length + m) * bytes ≤ 140737488355328)
    (h : ∀ v1 w1, Mem w0 w1 (row w0 (Kd.int k) e v1 (xs ++ ys) :: L) → Kc (a.put o.dst v1) w1) :
    if Region.wanted o (yielded ops a.tmps) = true then Oper.wp P o a W Kc Q else Kc (a.put o.dst undef) W := by
  have hB := HM.below
  obtain ⟨T, hr, h2, h3⟩ := HM.front
  have hr : (Kd.int k).R e W w0.heap.size T v xs := hr
  refine Kd.R_append_rows_step (Kd.int k) (w0 := w0) w0.heap.size hw s x t e (.int k 0) bytes ho ht hinfo rfl Nat.one_pos hb0 v xs ys A m c (fun k => T k ∨ W.heap.size ≤ k) (fun _ => False) hs hx (Kd.R_mono hr (fun _ hk => .inl hk)) HR (fun _ _ h => h) (fun _ h => h.elim) (fun _ hk => .inr hk) hB hB.size hl ?_
  intro v1 w1 hR hB1 hg hat
  exact h v1 w1 (h3 w1 (row w0 (Kd.int k) e v1 (xs ++ ys)) hB1 ⟨hg.size, fun i hi hn => hg.block i hi (fun e => hn (hr.1 i e.symm))⟩ hR)
theorem lit2_step {w0 W : World} (e : TypeId) (hw : Region.wanted o (yielded ops a.tmps) = true) {N : Tmp} (hd : o.dst = some N) (lo hi : Int)
    (hrun : (execOp a.eval o).run P W = .ok (.value (.slice (some ⟨W.heap.size, 0, none⟩) 2 2)) (W.alloc (.cells #[.int .i64 lo, .int .i64 hi] e)))
    (HM : Mem w0 W L) (h : ∀ v1 w1, Mem w0 w1 (row w0 (Kd.int .i64) e v1 [lo, hi] :: L) → Kc (a.put o.dst v1) w1) :
    if Region.wanted o (yielded ops a.tmps) = true then Oper.wp P o a W Kc Q else Kc (a.put o.dst undef) W :=
  Kd.R_lit_step (Kd.int .i64) (w0 := W) W.heap.size e hw hd (xs := [lo, hi]) (inner := [.int .i64 lo, .int .i64 hi]) (ok := fun _ => True) (okp := fun _ => False) hrun
    (show Reps ((Kd.int .i64).M W W.heap.size fun _ => False) 1 (([] : List Int) ++ [lo] ++ [hi]) (([] : List Value) ++ [.int .i64 lo] ++ [.int .i64 hi]) from Reps.snoc (Reps.snoc (Reps.none _ _) (p := lo) (c := [.int .i64 lo]) rfl rfl) (p := hi) (c := [.int .i64 hi]) rfl rfl) (fun _ h => h.elim) trivial (Below.refl _ _) (Nat.le_refl _) (by simp) (fun v1 w1 hR hB _ _ => h v1 w1 (HM.row_made hB hR))
end
theorem Img_of {W : World} {x : S40} {a : ImA} {rel wait since : List Int} {Ar Aw As : Option Addr} {cr cw cs gx : Nat} (hI : Im W x a) (hO : Oth W rel wait since Ar Aw As cr cw cs)
    (x5 : W.cell? ⟨gx, 5, none⟩ = some (.slice a.a5 x.f5.length a.c5)) (x7 : W.cell? ⟨gx, 7, none⟩ = some (.slice a.a7 x.f7.length a.c7)) (x9 : W.cell? ⟨gx, 9, none⟩ = some (.slice a.a9 x.f9.length a.c9)) :
    Img W gx x.f5 x.f7 x.f9 rel wait since a.a5 a.a7 a.a9 Ar Aw As a.c5 a.c7 a.c9 cr cw cs :=
  ⟨x5, x7, x9, hI.g5, hI.g7, hI.l7, hI.g9, hI.l9, hO.hR, hO.lR, hO.hW, hO.lW, hO.hS, hO.lS⟩
def L1Rel (w : World) (l : List Int) (gt gx : Nat) (A5 : Option Addr) (c5_ : Nat) (x : S40) (a : ImA) (rel wait since : List Int) (lo hi : Int) (Ar Aw As : Option Addr) (cr cw cs : Nat) (v49 : Value) (wr : World) : Prop :=
  ∃ j : Nat, j ≤ l.length ∧ v49 = .int .i64 (j : Int) ∧ Mem w wr [row w (Kd.int .i64) 2 (.slice A5 l.length c5_) l, ob gt (.cells #[.slice Ar rel.length cr, .slice As since.length cs, .slice Aw wait.length cw, .int .i64 lo, .int .i64 hi] 45), ob gx (.cells #[.int .i64 x.f0, .slice a.a1 x.f1.length a.c1, .int .i64 x.f2, .int .i64 x.f3, .slice a.a4 x.f4.length a.c4, .slice a.a5 x.f5.length a.c5, .slice a.a6 x.f6.length a.c6, .slice a.a7 x.f7.length a.c7, .slice a.a8 x.f8.length a.c8, .slice a.a9 x.f9.length a.c9, .slice a.a10 x.f10.length a.c10, .slice a.a11 x.f11.length a.c11] 40)]
def L2Rel (w : World) (n : Nat) (gt gx : Nat) (x : S40) (a : ImA) (rel wait since : List Int) (lo hi : Int) (Ar Aw As : Option Addr) (cr cw cs : Nat) (v63 : Value) (wr : World) : Prop :=
  ∃ j : Nat, j ≤ n ∧ v63 = .int .i64 (j : Int) ∧ Mem w wr [ob gt (.cells #[.slice Ar rel.length cr, .slice As since.length cs, .slice Aw wait.length cw, .int .i64 lo, .int .i64 hi] 45), ob gx (.cells #[.int .i64 x.f0, .slice a.a1 x.f1.length a.c1, .int .i64 x.f2, .int .i64 x.f3, .slice a.a4 x.f4.length a.c4, .slice a.a5 x.f5.length a.c5, .slice a.a6 x.f6.length a.c6, .slice a.a7 x.f7.length a.c7, .slice a.a8 x.f8.length a.c8, .slice a.a9 x.f9.length a.c9, .slice a.a10 x.f10.length a.c10, .slice a.a11 x.f11.length a.c11] 40)]
def L3Rel (w : World) (jl : List S54) (A8 A6 : Option Addr) (c8 c6 : Nat) (v103 : Value) (wr : World) : Prop :=
  ∃ j : Nat, j ≤ jl.length ∧ v103 = .int .i64 (j : Int) ∧ Mem w wr [row w k54 54 (.slice A8 jl.length c8) jl, row w k54 54 (.slice A6 jl.length c6) jl]
set_option maxRecDepth 100000 in
set_option maxHeartbeats 8000000 in
theorem Law_call {w : World} {x : S40} {a : ImA} {rel wait since : List Int} {Ar Aw As : Option Addr} {cr cw cs : Nat} (lo hi : Int) (hI : Im w x a) (hO : Oth w rel wait since Ar Aw As cr cw cs) :
    Calls Try.prog 5 #[.agg #[.int .i64 x.f0, .slice a.a1 x.f1.length a.c1, .int .i64 x.f2, .int .i64 x.f3, .slice a.a4 x.f4.length a.c4, .slice a.a5 x.f5.length a.c5, .slice a.a6 x.f6.length a.c6, .slice a.a7 x.f7.length a.c7, .slice a.a8 x.f8.length a.c8, .slice a.a9 x.f9.length a.c9, .slice a.a10 x.f10.length a.c10, .slice a.a11 x.f11.length a.c11], .agg #[.slice Ar rel.length cr, .slice As since.length cs, .slice Aw wait.length cw, .int .i64 lo, .int .i64 hi]] w fun e w' => e = .returned (.bool true) ∧ Below w.heap.size w w' := by
  have HI := Aside0.mk hI
  have HO := Aside0.mk hO
  obtain ⟨gx, hgx⟩ : ∃ g, g = w.heap.size := ⟨_, rfl⟩
  have hM := (((Mem.start w).new_ (g := gx) (.cells #[.int .i64 x.f0, .slice a.a1 x.f1.length a.c1, .int .i64 x.f2, .int .i64 x.f3, .slice a.a4 x.f4.length a.c4, .slice a.a5 x.f5.length a.c5, .slice a.a6 x.f6.length a.c6, .slice a.a7 x.f7.length a.c7, .slice a.a8 x.f8.length a.c8, .slice a.a9 x.f9.length a.c9, .slice a.a10 x.f10.length a.c10, .slice a.a11 x.f11.length a.c11] 40) hgx.symm).new_ (g := gx + 1) (.cells #[.slice Ar rel.length cr, .slice As since.length cs, .slice Aw wait.length cw, .int .i64 lo, .int .i64 hi] 45) (by rw [hgx]; simp))
  have HM := Aside0.mk hM
  clear hM hI hO
  go_enter Try.func5, Try.ntmps5
  go_wp2_with fail
  rw [← hgx]
  clear hgx
  obtain ⟨gt, hgt⟩ : ∃ g, g = gx + 1 := ⟨_, rfl⟩
  rw [← hgt] at HM ⊢
  clear hgt
  refine (tricklelaw40_awake.calls 60 true _ awake_at).mono ?_
  rintro e w1 ⟨rfl, hb⟩
  have hM := HM.out.step hb
  have z0 := blk_cell hM.drop.get 0
  have z1 := blk_cell hM.drop.get 1
  have z2 := blk_cell hM.drop.get 2
  have z3 := blk_cell hM.drop.get 3
  have z4 := blk_cell hM.drop.get 4
  have z5 := blk_cell hM.drop.get 5
  have z6 := blk_cell hM.drop.get 6
  have z7 := blk_cell hM.drop.get 7
  have z8 := blk_cell hM.drop.get 8
  have z9 := blk_cell hM.drop.get 9
  have z10 := blk_cell hM.drop.get 10
  have z11 := blk_cell hM.drop.get 11
  have HM1 := Aside0.mk hM
  clear hM hb HM
  go_wp2_with fail
  obtain ⟨sm, hsm, hts⟩ := small_f x
  have HI1 := HI.out.below HM1.out.below
  refine (trickleref40_Small.calls x.f0 a.a1 a.c1 x.f1 x.f2 x.f3 a.a4 a.c4 x.f4 a.a5 a.c5 x.f5 a.a6 a.c6 x.f6 a.a7 a.c7 x.f7 a.a8 a.c8 x.f8 a.a9 a.c9 x.f9 a.a10 a.c10 x.f10 a.a11 a.c11 x.f11 sm _ HI1.g1 HI1.l1 HI1.g4 HI1.l4 HI1.g5 HI1.l5 HI1.g6 HI1.l6 HI1.g7 HI1.l7 HI1.g8 HI1.l8 HI1.g9 HI1.l9 HI1.g10 HI1.l10 HI1.g11 HI1.l11 hsm).mono ?_
  clear HI1 hsm
  rintro e w2 ⟨rfl, hb⟩
  have hM := HM1.out.step hb
  clear hb HM1 z0 z1 z2 z3 z4 z5 z6 z7 z8 z9 z10 z11
  have HTS := Aside0.mk hts
  clear hts
  have t0 := blk_cell hM.get 0
  have t1 := blk_cell hM.get 1
  have t2 := blk_cell hM.get 2
  have t3 := blk_cell hM.get 3
  have t4 := blk_cell hM.get 4
  have HM2 := Aside0.mk hM
  clear hM
  cases sm
  case false =>
    go_wp2_with fail
    go_ret
    exact ⟨rfl, HM2.out.below⟩
  by_cases hr : 20 < rel.length
  case pos =>
    have c1 : decide ((20 : Int) < (rel.length : Int)) = true := decide_eq_true (by omega)
    have c2 : decide (20 < rel.length) = true := decide_eq_true hr
    clear hr
    go_wp2_with fail
    go_ret
    exact ⟨rfl, HM2.out.below⟩
  by_cases hs : 20 < since.length
  case pos =>
    have c1 : decide ((20 : Int) < (rel.length : Int)) = false := decide_eq_false (by omega)
    have c2 : decide (20 < rel.length) = false := decide_eq_false hr
    have c3 : decide ((20 : Int) < (since.length : Int)) = true := decide_eq_true (by omega)
    have c4 : decide (20 < since.length) = true := decide_eq_true hs
    clear hr hs
    go_wp2_with fail
    go_ret
    exact ⟨rfl, HM2.out.below⟩
  have c1 : decide ((20 : Int) < (rel.length : Int)) = false := decide_eq_false (by omega)
  have c2 : decide (20 < rel.length) = false := decide_eq_false hr
  have c3 : decide ((20 : Int) < (since.length : Int)) = false := decide_eq_false (by omega)
  have c4 : decide (20 < since.length) = false := decide_eq_false hs
  have HR := Aside0.mk hr
  have HS := Aside0.mk hs
  clear hr hs
  by_cases hw : 20 < wait.length
  case pos =>
    have c5 : decide ((20 : Int) < (wait.length : Int)) = true := decide_eq_true (by omega)
    have c6 : decide (20 < wait.length) = true := decide_eq_true hw
    clear hw
    go_wp2_with fail
    go_ret
    exact ⟨rfl, HM2.out.below⟩
  have c5 : decide ((20 : Int) < (wait.length : Int)) = false := decide_eq_false (by omega)
  have c6 : decide (20 < wait.length) = false := decide_eq_false hw
  clear hw
  go_wp2_with fail
  have HMd := Aside0.mk HM2.out.drew
  clear HM2 t0 t1 t2 t3 t4
  refine wp_region_held_drew (S := fun W => W.heap[gt]? = some (Obj.cells #[.slice Ar rel.length cr, .slice As since.length cs, .slice Aw wait.length cw, .int .i64 lo, .int .i64 hi] 45)) (by kernel_rfl) HMd.out.get (fun hS => ?_)
  refine wpAnyH_take (i := 0) (oi := { dst := some 35, op := Op.fieldAddr 45 (Operand.tmp 3) 3, type := 0, pos := "law.go:70", after := #[], guard := none }) (v := ?_) rfl (by kernel_rfl) (by kernel_rfl) (by kernel_rfl) (fun _ _ _ h => h) (Or.inl ⟨by rfl, ?_⟩) hS ?_
  rotate_left
  · intro W_ hSW_
    go_simp
    try with_reducible rfl
  try simp only [Act.put, List.setIfInBounds_toArray, List.set_cons_zero, List.set_cons_succ]
  refine wpAnyH_take (i := 1) (oi := { dst := some 36, op := Op.fieldAddr 43 (Operand.tmp 35) 0, type := 0, pos := "law.go:70", after := #[{ on := 0, ground := Ground.data }], guard := none }) (v := ?_) rfl (by kernel_rfl) (by kernel_rfl) (by kernel_rfl) (fun _ _ _ h => h) (Or.inl ⟨by rfl, ?_⟩) hS ?_
  rotate_left
  · intro W_ hSW_
    go_simp
    try with_reducible rfl
  try simp only [Act.put, List.setIfInBounds_toArray, List.set_cons_zero, List.set_cons_succ]
  refine wpAnyH_take (i := 2) (oi := { dst := some 37, op := Op.load 2 (Operand.tmp 36), type := 2, pos := "law.go:70", after := #[{ on := 1, ground := Ground.data }], guard := none }) (v := ?_) rfl (by kernel_rfl) (by kernel_rfl) (by kernel_rfl) (fun _ _ _ h => h) (Or.inl ⟨by rfl, ?_⟩) hS ?_
  rotate_left
  · intro W_ hSW_
    have e_ := blk_cell hSW_ 3
    go_simp
    try with_reducible rfl
  try simp only [Act.put, List.setIfInBounds_toArray, List.set_cons_zero, List.set_cons_succ]
  refine wpAnyH_take (i := 3) (oi := { dst := some 38, op := Op.fieldAddr 45 (Operand.tmp 3) 3, type := 0, pos := "law.go:70", after := #[], guard := none }) (v := ?_) rfl (by kernel_rfl) (by kernel_rfl) (by kernel_rfl) (fun _ _ _ h => h) (Or.inl ⟨by rfl, ?_⟩) hS ?_
  rotate_left
  · intro W_ hSW_
    go_simp
    try with_reducible rfl
  try simp only [Act.put, List.setIfInBounds_toArray, List.set_cons_zero, List.set_cons_succ]
  refine wpAnyH_take (i := 4) (oi := { dst := some 39, op := Op.fieldAddr 43 (Operand.tmp 38) 1, type := 0, pos := "law.go:70", after := #[{ on := 3, ground := Ground.data }], guard := none }) (v := ?_) rfl (by kernel_rfl) (by kernel_rfl) (by kernel_rfl) (fun _ _ _ h => h) (Or.inl ⟨by rfl, ?_⟩) hS ?_
  rotate_left
  · intro W_ hSW_
    go_simp
    try with_reducible rfl
  try simp only [Act.put, List.setIfInBounds_toArray, List.set_cons_zero, List.set_cons_succ]
  refine wpAnyH_take (i := 5) (oi := { dst := some 40, op := Op.load 2 (Operand.tmp 39), type := 2, pos := "law.go:70", after := #[{ on := 4, ground := Ground.data }], guard := none }) (v := ?_) rfl (by kernel_rfl) (by kernel_rfl) (by kernel_rfl) (fun _ _ _ h => h) (Or.inl ⟨by rfl, ?_⟩) hS ?_
  rotate_left
  · intro W_ hSW_
    have e_ := blk_cell hSW_ 4
    go_simp
    try with_reducible rfl
  try simp only [Act.put, List.setIfInBounds_toArray, List.set_cons_zero, List.set_cons_succ]
  refine wpAnyH_take (i := 7) (oi := { dst := some 42, op := Op.fieldAddr 45 (Operand.tmp 3) 0, type := 0, pos := "law.go:70", after := #[], guard := none }) (v := ?_) rfl (by kernel_rfl) (by kernel_rfl) (by kernel_rfl) (fun _ _ _ h => h) (Or.inl ⟨by rfl, ?_⟩) hS ?_
  rotate_left
  · intro W_ hSW_
    go_simp
    try with_reducible rfl
  try simp only [Act.put, List.setIfInBounds_toArray, List.set_cons_zero, List.set_cons_succ]
  refine wpAnyH_take (i := 8) (oi := { dst := some 43, op := Op.load 41 (Operand.tmp 42), type := 41, pos := "law.go:70", after := #[{ on := 7, ground := Ground.data }], guard := none }) (v := ?_) rfl (by kernel_rfl) (by kernel_rfl) (by kernel_rfl) (fun _ _ _ h => h) (Or.inl ⟨by rfl, ?_⟩) hS ?_
  rotate_left
  · intro W_ hSW_
    have e_ := blk_cell hSW_ 0
    go_simp
    try with_reducible rfl
  try simp only [Act.put, List.setIfInBounds_toArray, List.set_cons_zero, List.set_cons_succ]
  refine wpAnyH_take (i := 10) (oi := { dst := some 45, op := Op.fieldAddr 45 (Operand.tmp 3) 1, type := 0, pos := "law.go:70", after := #[], guard := none }) (v := ?_) rfl (by kernel_rfl) (by kernel_rfl) (by kernel_rfl) (fun _ _ _ h => h) (Or.inl ⟨by rfl, ?_⟩) hS ?_
  rotate_left
  · intro W_ hSW_
    go_simp
    try with_reducible rfl
  try simp only [Act.put, List.setIfInBounds_toArray, List.set_cons_zero, List.set_cons_succ]
  refine wpAnyH_take (i := 11) (oi := { dst := some 46, op := Op.load 41 (Operand.tmp 45), type := 41, pos := "law.go:70", after := #[{ on := 10, ground := Ground.data }], guard := none }) (v := ?_) rfl (by kernel_rfl) (by kernel_rfl) (by kernel_rfl) (fun _ _ _ h => h) (Or.inl ⟨by rfl, ?_⟩) hS ?_
  rotate_left
  · intro W_ hSW_
    have e_ := blk_cell hSW_ 1
    go_simp
    try with_reducible rfl
  try simp only [Act.put, List.setIfInBounds_toArray, List.set_cons_zero, List.set_cons_succ]
  refine wpAnyH_take (i := 14) (oi := { dst := some 49, op := Op.move (Operand.const (Value.int IntKind.i64 0)), type := 3, pos := "law.go:70", after := #[], guard := none }) (v := ?_) rfl (by kernel_rfl) (by kernel_rfl) (by kernel_rfl) (fun _ _ _ h => h) (Or.inl ⟨by rfl, ?_⟩) hS ?_
  rotate_left
  · intro W_ hSW_
    go_simp
    try with_reducible rfl
  try simp only [Act.put, List.setIfInBounds_toArray, List.set_cons_zero, List.set_cons_succ]
  refine wpAnyH_ready (rs := [6]) (by kernel_rfl) (by simp) ?_
  refine AllReadyH.cons (o := { dst := some 41, op := Op.buildSlice 41 2 #[(0, Operand.tmp 37), (1, Operand.tmp 40)], type := 41, pos := "law.go:70", after := #[{ on := 2, ground := Ground.data }, { on := 5, ground := Ground.data }], guard := none }) rfl (fun K_ hK_ => ?_) AllReadyH.nil
  refine lit2_step 2 rfl (N := 41) rfl lo hi ?hrun HMd.out ?_
  case hrun => first | (go_simp; done) | (go_simp; rfl)
  intro v1 w3 hm
  have HM3 := Aside0.mk hm
  have hs3 := hm.drop.get
  clear hm HMd
  refine hK_.out _ _ (hs3) (fun hS_ => ?_)
  clear hK_ K_ hS
  have hS := hS_
  clear hS_
  try simp only [Act.put, List.setIfInBounds_toArray, List.set_cons_zero, List.set_cons_succ]
  refine wpAnyH_ready (rs := [9]) (by kernel_rfl) (by simp) ?_
  refine AllReadyH.cons (o := { dst := some 44, op := Op.call { callee := Callee.builtin Builtin.append, args := #[Operand.tmp 41, Operand.tmp 43], argTypes := #[41, 41] }, type := 41, pos := "law.go:70", after := #[{ on := 6, ground := Ground.data }, { on := 8, ground := Ground.data }], guard := none }) rfl (fun K_ hK_ => ?_) AllReadyH.nil
  refine append_ints_step .i64 (w0 := w) rfl (.tmp 41) (.tmp 43) 41 2 8 rfl Try.underlying41 info2_ (by decide) v1 [lo, hi] rel Ar rel.length cr rfl rfl (HM3.out.came HO.out.hR) HM3.out (by have := HR.out; simp; omega) ?_
  intro v4 w4 hm
  have HM4 := Aside0.mk hm
  have hs4 := hm.drop.get
  clear hm HM3
  refine hK_.out _ _ (hs4) (fun hS_ => ?_)
  clear hK_ K_ hS
  have hS := hS_
  clear hS_
  try simp only [Act.put, List.setIfInBounds_toArray, List.set_cons_zero, List.set_cons_succ]
  refine wpAnyH_ready (rs := [12]) (by kernel_rfl) (by simp) ?_
  refine AllReadyH.cons (o := { dst := some 47, op := Op.call { callee := Callee.builtin Builtin.append, args := #[Operand.tmp 44, Operand.tmp 46], argTypes := #[41, 41] }, type := 41, pos := "law.go:70", after := #[{ on := 9, ground := Ground.data }, { on := 11, ground := Ground.data }, { on := 9, ground := Ground.chain }], guard := none }) rfl (fun K_ hK_ => ?_) AllReadyH.nil
  refine append_ints_step .i64 (w0 := w) rfl (.tmp 44) (.tmp 46) 41 2 8 rfl Try.underlying41 info2_ (by decide) v4 ([lo, hi] ++ rel) since As since.length cs rfl rfl (HM4.out.came HO.out.hS) HM4.out (by have := HR.out; have := HS.out; simp; omega) ?_
  intro v5 w5 hm
  obtain ⟨l, hl⟩ : ∃ l, [lo, hi] ++ rel ++ since = l := ⟨_, rfl⟩
  rw [hl] at hm
  have HLL := Aside0.mk (show l.length ≤ 100 by have := HR.out; have := HS.out; rw [← hl]; simp; omega)
  clear hl
  obtain ⟨A5, c5_, rfl, hl5, hC5⟩ := hm.reads
  have HM5 := Aside0.mk hm
  have hs5 := hm.drop.get
  clear hm HM4
  refine hK_.out _ _ (hs5) (fun hS_ => ?_)
  clear hK_ K_ hS
  have hS := hS_
  clear hS_
  try simp only [Act.put, List.setIfInBounds_toArray, List.set_cons_zero, List.set_cons_succ]
  refine wpAnyH_take (i := 13) (oi := { dst := some 48, op := Op.call { callee := Callee.builtin Builtin.len, args := #[Operand.tmp 47], argTypes := #[41] }, type := 3, pos := "law.go:70", after := #[{ on := 12, ground := Ground.data }], guard := none }) (v := ?_) rfl (by kernel_rfl) (by kernel_rfl) (by kernel_rfl) (fun _ _ _ h => h) (Or.inl ⟨by rfl, ?_⟩) hS ?_
  rotate_left
  · intro W_ hSW_
    go_simp
    try with_reducible rfl
  try simp only [Act.put, List.setIfInBounds_toArray, List.set_cons_zero, List.set_cons_succ]
  refine wpAnyH_done (by kernel_rfl) ?_ _
  clear hS hs5
  clear hl5 hC5 hs3 hs4
  go_wp2_with fail
  go_loopw [49, 6] (fun v49 v6 wr => L1Rel w l gt gx A5 c5_ x a rel wait since lo hi Ar Aw As cr cw cs v49 wr) (fun i _ _ => l.length - (intOf i).toNat)
  case atStart => exact ⟨0, Nat.zero_le _, rfl, HM5.out⟩
  case round =>
    obtain ⟨j, hj, rfl, hM⟩ := hrel
    clear HM5
    by_cases hlt : j < l.length
    case pos =>
      have hC := hM.readsE.2
      obtain ⟨b, o, rfl, z0⟩ := int_at hC hlt
      have HW := Aside0.mk (show wrap64 ((j : Int) + 1) = ((j + 1 : Nat) : Int) by have := HLL.out; unfold wrap64; omega)
      have HM := Aside0.mk hM
      generalize l.getD j 0 = u at *
      clear hM hC
      by_cases h1 : u < 0
      · have d1 : decide (u < 0) = true := decide_eq_true h1
        clear h1
        go_wp2_with fail
        go_ret
        exact ⟨rfl, HM.out.below⟩
      by_cases h2 : 1099511627776 < u
      · have d1 : decide (u < 0) = false := decide_eq_false h1
        have d2 : decide (1099511627776 < u) = true := decide_eq_true h2
        clear h1 h2
        go_wp2_with fail
        go_ret
        exact ⟨rfl, HM.out.below⟩
      have d1 : decide (u < 0) = false := decide_eq_false h1
      have d2 : decide (1099511627776 < u) = false := decide_eq_false h2
      clear h1 h2
      go_wp2_with fail
      go_roundw
      case rel => exact ⟨j + 1, by omega, by first | rw [HW.out] | (congr 1) | go_num, HM.out⟩
      case measure => first | exact meas HW.out hlt | exact meas (show ((j : Int) + 1) = ((j + 1 : Nat) : Int) by omega) hlt
    obtain rfl : j = l.length := by omega
    have H12 := Aside0.mk (by first | exact HTS.out rfl | exact HTS.out trivial)
    obtain ⟨T5, hT5⟩ : ∃ A, A = a.a5 := ⟨_, rfl⟩
    have HT5 := Aside0.mk hT5
    have hM1 := hM.drop
    have z5 := blk_cell hM1.drop.get 5
    rw [← hT5] at z5
    clear hT5
    have HM := Aside0.mk hM1
    clear hM hM1 hlt HTS HLL
    go_wp2_with fail
    go_loopw [63, 8] (fun v63 v8 wr => L2Rel w x.f5.length gt gx x a rel wait since lo hi Ar Aw As cr cw cs v63 wr) (fun i _ _ => x.f5.length - (intOf i).toNat)
    case atStart => exact ⟨0, Nat.zero_le _, rfl, HM.out⟩
    case round =>
      obtain ⟨j, hj, rfl, hM⟩ := hrel
      clear HM z5
      by_cases hlt : j < x.f5.length
      case pos =>
        obtain ⟨b, o, B, c, hA, x0, x1, x2, x3, x4, x5, x6, x7, hB, hC⟩ := task_at (HI.out.below hM.below).g5 hlt
        obtain rfl : T5 = some ⟨b, o, none⟩ := HT5.out.trans hA
        clear HT5 hA hB hC
        have HW := Aside0.mk (show wrap64 ((j : Int) + 1) = ((j + 1 : Nat) : Int) by have := H12.out; unfold wrap64; omega)
        generalize x.f5.getD j z49 = t at *
        have hM1 := hM.new (.cells #[.string t.f0, .int .i64 t.f1, .int .i64 t.f2, .string t.f3, .string t.f4, .int .i64 t.f5, .slice B t.f6.length c, .int .i64 t.f7] 49)
        have y2 := blk_cell hM1.get 2
        have HM1 := Aside0.mk hM1
        generalize hgN : wr.heap.size = gN at *
        clear hM hM1
        by_cases h1 : t.f2 < 0
        · have d1 : decide (t.f2 < 0) = true := decide_eq_true h1
          clear h1
          go_wp2_with fail
          go_ret
          exact ⟨rfl, HM1.out.below⟩
        by_cases h2 : 1048576 < t.f2
        · have d1 : decide (t.f2 < 0) = false := decide_eq_false h1
          have d2 : decide (1048576 < t.f2) = true := decide_eq_true h2
          clear h1 h2
          go_wp2_with fail
          go_ret
          exact ⟨rfl, HM1.out.below⟩
        have d1 : decide (t.f2 < 0) = false := decide_eq_false h1
        have d2 : decide (1048576 < t.f2) = false := decide_eq_false h2
        clear h1 h2
        go_wp2_with fail
        go_roundw
        case rel => exact ⟨j + 1, by omega, by first | rw [HW.out] | (congr 1) | go_num, HM1.out.drop⟩
        case measure => first | exact meas HW.out hlt | exact meas (show ((j : Int) + 1) = ((j + 1 : Nat) : Int) by omega) hlt
      obtain rfl : j = x.f5.length := by omega
      clear hlt HT5
      have t0 := blk_cell hM.get 0
      have t1 := blk_cell hM.get 1
      have t2 := blk_cell hM.get 2
      have t3 := blk_cell hM.get 3
      have t4 := blk_cell hM.get 4
      have z0 := blk_cell hM.drop.get 0
      have z1 := blk_cell hM.drop.get 1
      have z2 := blk_cell hM.drop.get 2
      have z3 := blk_cell hM.drop.get 3
      have z4 := blk_cell hM.drop.get 4
      have z5 := blk_cell hM.drop.get 5
      have z6 := blk_cell hM.drop.get 6
      have z7 := blk_cell hM.drop.get 7
      have z8 := blk_cell hM.drop.get 8
      have z9 := blk_cell hM.drop.get 9
      have z10 := blk_cell hM.drop.get 10
      have z11 := blk_cell hM.drop.get 11
      have HM := Aside0.mk hM
      clear hM
      go_wp2_with fail
      refine (Jobs_call lo hi (by have := H12.out; omega) (Img_of (HI.out.below HM.out.below) (HO.out.below HM.out.below) z5 z7 z9)).mono ?_
      rintro e w6 ⟨v6, rfl, hR6, hb⟩
      have hM := HM.out.row_made hb hR6
      clear hb hR6 HM t0 t1 t2 t3 t4 z0 z1 z2 z3 z4 z5 z6 z7 z8 z9 z10 z11
      have t0 := blk_cell hM.drop.get 0
      have t1 := blk_cell hM.drop.get 1
      have t2 := blk_cell hM.drop.get 2
      have t3 := blk_cell hM.drop.get 3
      have t4 := blk_cell hM.drop.get 4
      have z0 := blk_cell hM.drop.drop.get 0
      have z1 := blk_cell hM.drop.drop.get 1
      have z2 := blk_cell hM.drop.drop.get 2
      have z3 := blk_cell hM.drop.drop.get 3
      have z4 := blk_cell hM.drop.drop.get 4
      have z5 := blk_cell hM.drop.drop.get 5
      have z6 := blk_cell hM.drop.drop.get 6
      have z7 := blk_cell hM.drop.drop.get 7
      have z8 := blk_cell hM.drop.drop.get 8
      have z9 := blk_cell hM.drop.drop.get 9
      have z10 := blk_cell hM.drop.drop.get 10
      have z11 := blk_cell hM.drop.drop.get 11
      have HM := Aside0.mk hM
      clear hM
      go_wp2_with fail
      refine (RefJobs_call lo hi (by have := H12.out; omega) (HI.out.below HM.out.below) (HO.out.below HM.out.below)).mono ?_
      rintro e w7 ⟨v7, rfl, hR7, hb⟩
      have hM := HM.out.row_made hb hR7
      obtain ⟨A7, c7, rfl, hl7, hC7⟩ := hM.reads
      have hlen := jobsW_len x.f5 rel wait since lo x.f7 x.f9 x.f5.length
      generalize jobsW x.f5 rel wait since lo x.f7 x.f9 x.f5.length = jl at *
      have HLEN := Aside0.mk (show jl.length ≤ 12 by have := H12.out; omega)
      obtain ⟨k, hk⟩ := jobs_ev (jl.map bk) (by have := HLEN.out; rw [List.length_map]; omega)
      have hk := hk k (Nat.le_refl k)
      rw [jm_bk] at hk
      generalize jl.map bk = l7 at *
      have HM8 := Aside0.mk hM
      have HCK := Aside0.mk (And.intro hl7 (And.intro hC7 hk))
      clear hb hR7 HM hM hlen hl7 hC7 hk t0 t1 t2 t3 t4 z0 z1 z2 z3 z4 z5 z6 z7 z8 z9 z10 z11
      go_wp2_with fail
      refine (tricklelaw40_jobs.calls k A7 c7 l7 jl _ HCK.out.2.1 HCK.out.1 HCK.out.2.2).mono ?_
      rintro e w8 ⟨v8, rfl, hR8, hb⟩
      have hM := (HM8.out.drop.row_made hb (hR8 : Kd.R k54 54 _ _ _ _ _))
      obtain ⟨A8, c8, rfl, _⟩ := hM.reads
      obtain ⟨A6, c6, rfl, _⟩ := hM.drop.reads
      have HM9 := Aside0.mk (show Mem w w8 [row w k54 54 (.slice A8 jl.length c8) jl, row w k54 54 (.slice A6 jl.length c6) jl] from hM.c2.drop.drop)
      clear hM hR8 hb HM8 HCK HI HO
      have e1 : ((jl.length : Int) == (jl.length : Int)) = true := by simp
      have e2 : ((jl.length : Int) != (jl.length : Int)) = false := by simp
      go_wp2_with fail
      go_loopw [103, 11] (fun v103 v11 wr => L3Rel w jl A8 A6 c8 c6 v103 wr) (fun i _ _ => jl.length - (intOf i).toNat)
      case atStart => exact ⟨0, Nat.zero_le _, rfl, HM9.out⟩
      case round =>
        obtain ⟨j, hj, rfl, hM⟩ := hrel
        clear HM9
        by_cases hlt : j < jl.length
        case neg =>
          have HM := Aside0.mk hM
          clear hM
          obtain rfl : j = jl.length := by omega
          go_wp2_with fail
          go_ret
          exact ⟨rfl, HM.out.below⟩
        obtain ⟨b8, o8, rfl, p0, p1, p2, p3⟩ := job_at hM.readsC.2.2 hlt
        obtain ⟨b6, o6, rfl, q0, q1, q2, q3⟩ := job_at hM.drop.readsC.2.2 hlt
        have HW := Aside0.mk (show wrap64 ((j : Int) + 1) = ((j + 1 : Nat) : Int) by have := HLEN.out; unfold wrap64; omega)
        generalize jl.getD j z54 = t at *
        have HM := Aside0.mk hM
        clear hM
        go_wp2_with fail
        refine wp_region_held_drew (S := fun W => W = wr.drew) (by kernel_rfl) rfl (fun hS => ?_)
        refine wpAnyH_take (i := 0) (oi := { dst := some 106, op := Op.move (Operand.tmp 9), type := 26, pos := "law.go:86", after := #[], guard := none }) (v := ?_) rfl (by kernel_rfl) (by kernel_rfl) (by kernel_rfl) (fun _ _ _ h => h) (Or.inl ⟨by rfl, ?_⟩) hS ?_
        rotate_left
        · intro W_ hSW_
          subst hSW_
          have i0 : (0 : Int) ≤ (j : Int) := by omega
          have i1 : (j : Int) < (jl.length : Int) := by omega
          go_simp
          try with_reducible rfl
        try simp only [Act.put, List.setIfInBounds_toArray, List.set_cons_zero, List.set_cons_succ]
        refine wpAnyH_take (i := 1) (oi := { dst := some 107, op := Op.move (Operand.tmp 11), type := 3, pos := "law.go:86", after := #[], guard := none }) (v := ?_) rfl (by kernel_rfl) (by kernel_rfl) (by kernel_rfl) (fun _ _ _ h => h) (Or.inl ⟨by rfl, ?_⟩) hS ?_
        rotate_left
        · intro W_ hSW_
          subst hSW_
          have i0 : (0 : Int) ≤ (j : Int) := by omega
          have i1 : (j : Int) < (jl.length : Int) := by omega
          go_simp
          try with_reducible rfl
        try simp only [Act.put, List.setIfInBounds_toArray, List.set_cons_zero, List.set_cons_succ]
        refine wpAnyH_take (i := 2) (oi := { dst := some 108, op := Op.indexAddr 26 (Operand.tmp 106) (Operand.tmp 107), type := 0, pos := "law.go:86", after := #[{ on := 0, ground := Ground.data }, { on := 1, ground := Ground.data }], guard := none }) (v := ?_) rfl (by kernel_rfl) (by kernel_rfl) (by kernel_rfl) (fun _ _ _ h => h) (Or.inl ⟨by rfl, ?_⟩) hS ?_
        rotate_left
        · intro W_ hSW_
          subst hSW_
          have i0 : (0 : Int) ≤ (j : Int) := by omega
          have i1 : (j : Int) < (jl.length : Int) := by omega
          go_simp
          try with_reducible rfl
        try simp only [Act.put, List.setIfInBounds_toArray, List.set_cons_zero, List.set_cons_succ]
        refine wpAnyH_take (i := 3) (oi := { dst := some 109, op := Op.load 54 (Operand.tmp 108), type := 54, pos := "law.go:86", after := #[{ on := 2, ground := Ground.data }], guard := none }) (v := ?_) rfl (by kernel_rfl) (by kernel_rfl) (by kernel_rfl) (fun _ _ _ h => h) (Or.inl ⟨by rfl, ?_⟩) hS ?_
        rotate_left
        · intro W_ hSW_
          subst hSW_
          have i0 : (0 : Int) ≤ (j : Int) := by omega
          have i1 : (j : Int) < (jl.length : Int) := by omega
          go_simp
          try with_reducible rfl
        try simp only [Act.put, List.setIfInBounds_toArray, List.set_cons_zero, List.set_cons_succ]
        refine wpAnyH_take (i := 4) (oi := { dst := some 110, op := Op.move (Operand.tmp 10), type := 26, pos := "law.go:86", after := #[], guard := none }) (v := ?_) rfl (by kernel_rfl) (by kernel_rfl) (by kernel_rfl) (fun _ _ _ h => h) (Or.inl ⟨by rfl, ?_⟩) hS ?_
        rotate_left
        · intro W_ hSW_
          subst hSW_
          have i0 : (0 : Int) ≤ (j : Int) := by omega
          have i1 : (j : Int) < (jl.length : Int) := by omega
          go_simp
          try with_reducible rfl
        try simp only [Act.put, List.setIfInBounds_toArray, List.set_cons_zero, List.set_cons_succ]
        refine wpAnyH_take (i := 5) (oi := { dst := some 111, op := Op.move (Operand.tmp 11), type := 3, pos := "law.go:86", after := #[], guard := none }) (v := ?_) rfl (by kernel_rfl) (by kernel_rfl) (by kernel_rfl) (fun _ _ _ h => h) (Or.inl ⟨by rfl, ?_⟩) hS ?_
        rotate_left
        · intro W_ hSW_
          subst hSW_
          have i0 : (0 : Int) ≤ (j : Int) := by omega
          have i1 : (j : Int) < (jl.length : Int) := by omega
          go_simp
          try with_reducible rfl
        try simp only [Act.put, List.setIfInBounds_toArray, List.set_cons_zero, List.set_cons_succ]
        refine wpAnyH_take (i := 6) (oi := { dst := some 112, op := Op.indexAddr 26 (Operand.tmp 110) (Operand.tmp 111), type := 0, pos := "law.go:86", after := #[{ on := 4, ground := Ground.data }, { on := 5, ground := Ground.data }], guard := none }) (v := ?_) rfl (by kernel_rfl) (by kernel_rfl) (by kernel_rfl) (fun _ _ _ h => h) (Or.inl ⟨by rfl, ?_⟩) hS ?_
        rotate_left
        · intro W_ hSW_
          subst hSW_
          have i0 : (0 : Int) ≤ (j : Int) := by omega
          have i1 : (j : Int) < (jl.length : Int) := by omega
          go_simp
          try with_reducible rfl
        try simp only [Act.put, List.setIfInBounds_toArray, List.set_cons_zero, List.set_cons_succ]
        refine wpAnyH_take (i := 7) (oi := { dst := some 113, op := Op.load 54 (Operand.tmp 112), type := 54, pos := "law.go:86", after := #[{ on := 6, ground := Ground.data }], guard := none }) (v := ?_) rfl (by kernel_rfl) (by kernel_rfl) (by kernel_rfl) (fun _ _ _ h => h) (Or.inl ⟨by rfl, ?_⟩) hS ?_
        rotate_left
        · intro W_ hSW_
          subst hSW_
          have i0 : (0 : Int) ≤ (j : Int) := by omega
          have i1 : (j : Int) < (jl.length : Int) := by omega
          go_simp
          try with_reducible rfl
        try simp only [Act.put, List.setIfInBounds_toArray, List.set_cons_zero, List.set_cons_succ]
        refine wpAnyH_take (i := 8) (oi := { dst := some 114, op := Op.binOp BinOp.neq 54 (Operand.tmp 109) (Operand.tmp 113) 54, type := 4, pos := "law.go:86", after := #[{ on := 3, ground := Ground.data }, { on := 7, ground := Ground.data }], guard := none }) (v := ?_) rfl (by kernel_rfl) (by kernel_rfl) (by kernel_rfl) (fun _ _ _ h => h) (Or.inl ⟨by rfl, ?_⟩) hS ?_
        rotate_left
        · intro W_ hSW_
          subst hSW_
          have i0 : (0 : Int) ≤ (j : Int) := by omega
          have i1 : (j : Int) < (jl.length : Int) := by omega
          go_simp
          try with_reducible rfl
        try simp only [Act.put, List.setIfInBounds_toArray, List.set_cons_zero, List.set_cons_succ]
        refine wpAnyH_done (by kernel_rfl) ?_ _
        go_wp2_with fail
        go_roundw
        case rel => exact ⟨j + 1, by omega, by first | rw [HW.out] | (congr 1) | go_num, HM.out.drew⟩
        case measure => first | exact meas HW.out hlt | exact meas (show ((j : Int) + 1) = ((j + 1 : Nat) : Int) by omega) hlt
end Go.Proofs.Ytlklcfaejmeljaa.QJb
