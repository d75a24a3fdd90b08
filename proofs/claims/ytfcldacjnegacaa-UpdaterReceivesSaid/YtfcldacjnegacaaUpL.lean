/- UpZ, UpN, UpO, UpL, merged. -/
import Derived.Test.YtfcldacjnegacaaUpE
/- The memory's switches: Arm, PowerOn, Off, Writes. -/
namespace Go.Proofs.Ytfcldacjnegacaa.Up
open Go.RowKit Go.Proofs.YtfcldacjnegacaaW.PrintWords Go.Proofs.YtfcldacjnegacaaW.PrintLast Go.Proofs.YtfcldacjnegacaaW.PrintMore Go.Proofs.Ytfcldacjnegacaa.Sl
set_option linter.unusedVariables false
set_option linter.unusedSimpArgs false
variable {L : List Chunk} {w0 w w' : World} {gm gb N : Nat} {d : Dv}
theorem Off_call (hM : NvM w0 w gm gb N d L) :
    Calls Try.prog 26 #[.pointer (some ⟨gm, 0, none⟩)] w fun e w' => e = .returned (.bool d.off) ∧ w = w' := by
  obtain ⟨hd, lf, wv, hlf, hm⟩ := hM
  have hc1 := blk_cell hm.get 1
  clear hm hd hlf
  go_enter Try.func26, Try.ntmps26
  go_wp2
  go_ret
  exact ⟨rfl, rfl⟩
theorem PowerOn_call (hM : NvM w0 w gm gb N d L) :
    Calls Try.prog 17 #[.pointer (some ⟨gm, 0, none⟩)] w fun e w' => e = .returned (.tuple #[]) ∧ NvM w0 w' gm gb N ⟨d.B, false, -1⟩ L := by
  obtain ⟨hd, lf, wv, hlf, hm⟩ := hM
  have hc1 := blk_cell hm.get 1
  have hc2 := blk_cell hm.get 2
  have hf1 := blk_frozen hm.get 1
  have hf2 := blk_frozen hm.get 2
  have HM := Aside0.mk hm
  have HD := Aside0.mk hd
  clear hm hd hlf
  go_enter Try.func17, Try.ntmps17
  go_wp2
  go_end0
  exact ⟨rfl, ⟨HD.out.len, by simp, by simp, HD.out.byte⟩, lf, wv, fun h => by simp at h, (HM.out.put 1 (.bool false) rfl).put 2 (.bool false) rfl⟩
theorem Arm_call (hM : NvM w0 w gm gb N d L) (n : Int) (h0 : 0 ≤ n) (h1 : n ≤ 1000) :
    Calls Try.prog 16 #[.pointer (some ⟨gm, 0, none⟩), .int .i64 n] w fun e w' => e = .returned (.tuple #[]) ∧ NvM w0 w' gm gb N ⟨d.B, d.off, n⟩ L := by
  obtain ⟨hd, lf, wv, hlf, hm⟩ := hM
  have hc2 := blk_cell hm.get 2
  have hc3 := blk_cell hm.get 3
  have hf2 := blk_frozen hm.get 2
  have hf3 := blk_frozen hm.get 3
  have HM := Aside0.mk hm
  have HD := Aside0.mk hd
  have HB := Aside0.mk h1
  have hdec := Aside0.mk (show decide (0 ≤ n) = true from decide_eq_true h0)
  have H0 := Aside0.mk h0
  clear hm hd hlf h1
  go_enter Try.func16, Try.ntmps16
  go_wp2
  go_end0
  refine ⟨rfl, ⟨HD.out.len, by have := H0.out; show -1 ≤ n; omega, HB.out, HD.out.byte⟩, n, wv, fun _ => rfl, ?_⟩
  have h2 := (HM.out.put 2 (.bool true) rfl).put 3 (.int .i64 n) rfl
  show Mem w0 _ (blk gm #[.slice (some ⟨gb, 0, none⟩) N N, .bool d.off, .bool (decide (0 ≤ n)), .int .i64 n, .nilFunc, .int .i64 wv] 69 :: row w0 (Kd.int .u8) 5 (.slice (some ⟨gb, 0, none⟩) N N) d.B :: L)
  rw [hdec.out]
  exact h2
end Go.Proofs.Ytfcldacjnegacaa.Up

/- nvm.New. -/
namespace Go.Proofs.Ytfcldacjnegacaa.Up
open Go.RowKit Go.Proofs.YtfcldacjnegacaaW.PrintWords Go.Proofs.YtfcldacjnegacaaW.PrintLast Go.Proofs.YtfcldacjnegacaaW.PrintMore Go.Proofs.Ytfcldacjnegacaa.Sl
set_option linter.unusedVariables false
set_option linter.unusedSimpArgs false
variable {L : List Chunk} {w0 w w' : World} {gm gb N : Nat} {d : Dv}
theorem New_call (hM : Mem w0 w L) (hN0 : 1 ≤ N) (hN : N ≤ 20000) :
    Calls Try.prog 29 #[.int .i64 (N : Int)] w fun e w' => ∃ gm gb, e = .returned (.tuple #[.pointer (some ⟨gm, 0, none⟩), .int .i64 0]) ∧ Mem w0 w' (nv w0 gm gb N ⟨List.replicate N 0, false, -1⟩ 0 0 L) := by
  have hmk := print_make (P := Try.prog) 22 5 .u8 1 Try.underlying22 info5 (by decide) N (by omega)
  have c1 : ¬ (N : Int) < 1 := by omega
  have c2 : ¬ (65536 : Int) < (N : Int) := by omega
  have c1n : ¬ N < 1 := by omega
  have c2n : ¬ 65536 < N := by omega
  have HM := Aside0.mk (bytes_made hM N (by omega))
  clear hM hN hN0
  go_enter Try.func29, Try.ntmps29
  go_wp2
  go_ret2
  refine ⟨w.heap.size + 1, rfl, w.heap.size, ?_⟩
  exact HM.out.new_ (g := w.heap.size + 1) _ (by simp)
end Go.Proofs.Ytfcldacjnegacaa.Up

/- nvm.Image, updater.Open. -/
namespace Go.Proofs.Ytfcldacjnegacaa.Up
open Go.RowKit Go.Proofs.YtfcldacjnegacaaW.PrintWords Go.Proofs.YtfcldacjnegacaaW.PrintLast Go.Proofs.YtfcldacjnegacaaW.PrintMore Go.Proofs.Ytfcldacjnegacaa.Sl
set_option linter.unusedVariables false
set_option linter.unusedSimpArgs false
variable {L : List Chunk} {w0 w w' : World} {gm gb N : Nat} {d : Dv} {lf wv : Int}
theorem Image_call (hM : Mem w0 w (nv w0 gm gb N d lf wv L)) (hl : d.B.length = N) (hN : N ≤ 20000) :
    Calls Try.prog 28 #[.pointer (some ⟨gm, 0, none⟩)] w fun e w' => ∃ v, e = .returned v ∧ Mem w w' [row w (Kd.int .u8) 5 v d.B] := by
  have hc0 := blk_cell hM.get 0
  have HC := Aside0.mk (Clone_call (xs := d.B) (c := N) (o := 0) (b := gb) (Mem.start w) (fun W hW => by
    have := Kd.C_below hM.drop.readsE.2 hW.below
    rw [hl]; exact this) (by omega))
  rw [hl] at HC
  clear hM
  go_enter Try.func28, Try.ntmps28
  go_wp2_with fail
  refine HC.out.mono ?_
  rintro e w1 ⟨v, rfl, hm⟩
  have HM1 := Aside0.mk hm
  clear hm
  go_wp2_with fail
  go_ret
  exact ⟨_, rfl, HM1.out⟩
/-- What Open takes. -/
def okO (slot chunk : Int) : Prop := 4 ≤ chunk ∧ chunk ≤ 36 ∧ 4096 ≤ slot ∧ slot ≤ 4096
theorem Open_ok (hM : Mem w0 w (nv w0 gm gb N d lf wv L)) (hl : d.B.length = N) (hN : N = 10240) (c : Nat) (hc : 4 ≤ c) (hc2 : c ≤ 36) :
    Calls Try.prog 24 #[.pointer (some ⟨gm, 0, none⟩), .int .i64 4096, .int .i64 (c : Int)] w fun e w' => ∃ gu, e = .returned (.tuple #[.pointer (some ⟨gu, 0, none⟩), .int .i64 0]) ∧ Mem w0 w' (nv w0 gm gb N d lf wv (blk gu #[.pointer (some ⟨gm, 0, none⟩), .int .i64 4096, .int .i64 (c : Int)] 77 :: L)) := by
  have HI := Aside0.mk (Image_call hM hl (by omega))
  have HM := Aside0.mk hM
  have HL := Aside0.mk (hl.trans hN)
  have c1 : ¬ (c : Int) < 4 := by omega
  have c2 : ¬ (36 : Int) < (c : Int) := by omega
  have c1n : ¬ c < 4 := by omega
  have c2n : ¬ 36 < c := by omega
  clear hM hl hN hc hc2
  go_enter Try.func24, Try.ntmps24
  go_wp2_with fail
  refine HI.out.mono ?_
  rintro e w1 ⟨v, rfl, hm⟩
  obtain ⟨A, cp, rfl, _, _⟩ := hm.readsN HL.out
  have HB := Aside0.mk hm.below
  clear hm
  go_wp2_with fail
  go_ret2
  exact ⟨w1.heap.size, rfl, ((HM.out.step HB.out).new _).q2⟩
theorem Writes_call (hM : Mem w0 w (nv w0 gm gb N d lf wv L)) :
    Calls Try.prog 11 #[.pointer (some ⟨gm, 0, none⟩)] w fun e w' => e = .returned (.int .i64 wv) ∧ w = w' := by
  have hc0 := blk_cell hM.get 5
  clear hM
  go_enter Try.func11, Try.ntmps11
  go_wp2
  go_ret
  exact ⟨rfl, rfl⟩
end Go.Proofs.Ytfcldacjnegacaa.Up

/- copy into a part of a row of one's own; nvm.Load. -/
namespace Go.Proofs.Ytfcldacjnegacaa.Up
open Go.RowKit Go.Proofs.YtfcldacjnegacaaW.PrintWords Go.Proofs.YtfcldacjnegacaaW.PrintLast Go.Proofs.YtfcldacjnegacaaW.PrintMore Go.Proofs.Ytfcldacjnegacaa.Sl
set_option linter.unusedVariables false
set_option linter.unusedSimpArgs false
theorem seg_take {α : Type} (xs ys ts : List α) (n o : Nat) (h : o + ys.length ≤ n) (hn : xs.length = n) (ht : ts.take n = xs) :
    (ts.take o ++ ys ++ ts.drop (o + ys.length)).take n = xs.take o ++ ys ++ xs.drop (o + ys.length) := by
  subst ht
  rw [List.length_take] at hn
  rw [List.take_append, List.take_append, List.take_take, List.take_take, List.length_append, List.length_take]
  have e1 : min n o = min o n := Nat.min_comm _ _
  rw [e1]
  have e2 : min o n = o := by omega
  have e3 : min o ts.length = o := by omega
  rw [e2, e3, List.take_of_length_le (l := ys) (by omega), List.drop_take]
/-- copy(v[o:o+dl], ys), v a row of one's own. -/
theorem Mem.copy_run {P : Program} {L : List Chunk} (k : IntKind) {w0 W : World} {g n cap e : Nat} {xs ys : List Int} {A : Option Addr} {m c : Nat} (t t' ty : TypeId) (ht : P.underlying t = some (.slice e)) (hinfo : (P.info? e).map (·.size) = some 1)
    (HM : Mem w0 W (row w0 (Kd.int k) e (.slice (some ⟨g, 0, none⟩) n cap) xs :: L)) (HR : (Kd.int k).C W A m ys) (o dl dc : Nat) (hdl : o + dl ≤ xs.length) {cnt : Nat} (hcnt : min m dl = cnt) :
    ∃ w1, (Builtin.copy_ #[t, t'] ty #[.slice (some ⟨g, o, none⟩) dl dc, .slice A m c]).run P W = .ok (.int .i64 (cnt : Int)) w1 ∧ Mem w0 w1 (row w0 (Kd.int k) e (.slice (some ⟨g, 0, none⟩) n cap) (xs.take o ++ ys.take cnt ++ xs.drop (o + cnt)) :: L) := by
  have hB := HM.below
  obtain ⟨T, hr, h2, h3⟩ := HM.front
  have hr : (Kd.int k).R e W w0.heap.size T (.slice (some ⟨g, 0, none⟩) n cap) xs := hr
  have hTg : T g := hr.1 g (by simp [Value.ownBlock])
  have hown := Kd.own_of_R hr
  have hR := Kd.reads_of_C (d := (0 : Int)) HR
  have hm : ys.length = m := hR.1
  subst hcnt
  rcases Nat.eq_zero_or_pos (min m dl) with h0 | hp
  · refine ⟨W, ?_, ?_⟩
    · rw [h0]; exact run_copy_none W t t' ty e _ A dl dc m c ht hinfo h0
    · rw [h0, List.take_zero, List.append_nil, Nat.add_zero, List.take_append_drop]; exact HM
  obtain ⟨ad, hA, hc⟩ := hR.2.2 (by omega)
  rcases hown.2 with ⟨hv, _⟩ | ⟨g', cap', cur, hv, hb, hh, hnc, hcm, hcs, htake⟩
  · cases hv
  injection hv with e1 e2 e3
  injection e1 with e1
  injection e1 with e1
  subst e1 e2 e3
  have hkl : (encs (Value.int k) (ys.take (min m dl))).length = min m dl := by rw [encs_length, List.length_take]; omega
  have hsrc : ∀ j u, (encs (Value.int k) (ys.take (min m dl)))[j]? = some u → W.cell? (ad.add j) = some u := by
    intro j u hu
    have hj : j < (ys.take (min m dl)).length := by
      rcases Nat.lt_or_ge j (ys.take (min m dl)).length with h | h
      · exact h
      · rw [List.getElem?_eq_none (by rw [encs_length]; exact h)] at hu
        cases hu
    have hjm : j < min m dl := by rw [List.length_take] at hj; omega
    rw [encs_get (d := (0 : Int)) _ j hj] at hu
    rw [hc j (by omega), ← hu]
    simp [List.getD_eq_getElem?_getD, hjm]
  have hrun := run_copy_cells (P := P) W t t' ty e g o dl dc ad m c (encs (Value.int k) (ys.take (min m dl))) ht hinfo (by rw [hkl]) hsrc
    (fun j hj => by rw [cell_of_row W g _ cur e (0, 0) hh]; simp; omega) (fun j _ => blk_frozen hh _) (by intro u hu; simp only [encs, List.mem_map] at hu; obtain ⟨q, _, rfl⟩ := hu; rfl)
  obtain ⟨cur', h4, h5, h6⟩ := setCells_row (encs (Value.int k) (ys.take (min m dl))) o W cur hh (by rw [hkl]; omega)
  obtain ⟨s1, s2, s3, s4⟩ := setCells_same g (encs (Value.int k) (ys.take (min m dl))) o W
  refine ⟨_, by rw [hA, hrun, hkl]; rfl, ?_⟩
  have hln : (xs.take o ++ ys.take (min m dl) ++ xs.drop (o + min m dl)).length = xs.length := by
    rw [List.length_append, List.length_append, List.length_take, List.length_take, List.length_drop]
    omega
  have hK : Kept W (W.setCells g o (encs (Value.int k) (ys.take (min m dl)))) T := ⟨by rw [s4]; exact Nat.le_refl _, fun i hi hn => setCells_far _ _ i (fun he => hn (he ▸ hTg))⟩
  have hB1 : Below w0.heap.size w0 (W.setCells g o (encs (Value.int k) (ys.take (min m dl)))) := by
    exact hB.grown (row := some g) ⟨s1, s2, s3, by rw [s4]; exact Nat.le_refl _, fun k _ hk => setCells_far _ _ k (fun he => hk (by rw [he]))⟩ hB.size (fun k hk => by injection hk with hk; subst hk; exact (h2 g hTg).1)
  refine h3 _ (row w0 (Kd.int k) e (.slice (some ⟨g, 0, none⟩) xs.length cap) _) hB1 hK ?_
  refine Kd.R_mono (Kd.R_of_own (ok := T) ?_ hr.1) (fun _ hk => .inl hk)
  rw [hln]
  refine ⟨by rw [encs_length, hln, Nat.mul_one], .inr ⟨g, cap, cur', rfl, hb, h4, hnc, hcm, by rw [h5, hcs], ?_⟩⟩
  have := seg_take (encs (Value.int k) xs) (encs (Value.int k) (ys.take (min m dl))) cur.toList (xs.length * 1) o (by rw [hkl]; omega) (by rw [encs_length, Nat.mul_one]) htake
  rw [h6, this, hkl, encs_append, encs_append]
  simp [encs, List.map_drop, List.map_take]
theorem Load_call {L : List Chunk} {w0 w : World} {gm gb N : Nat} {d : Dv} {lf wv : Int} (hM : Mem w0 w (nv w0 gm gb N d lf wv L)) (hl : d.B.length = N) {A : Option Addr} {c : Nat} {ys : List Int} (hC : (Kd.int .u8).C w A N ys) (hy : ys.length = N) :
    Calls Try.prog 31 #[.pointer (some ⟨gm, 0, none⟩), .slice A N c] w fun e w' => e = .returned (.int .i64 0) ∧ Mem w0 w' (nv w0 gm gb N ⟨ys, d.off, d.left⟩ lf wv L) := by
  have hc0 := blk_cell hM.get 0
  obtain ⟨w1, hrun, hm⟩ := Mem.copy_run .u8 (c := c) 22 22 3 Try.underlying22 (by kernel_rfl) hM.p1 hC 0 N N (by omega) (cnt := N) (Nat.min_self N)
  rw [List.take_zero, List.nil_append, List.take_of_length_le (by omega), List.drop_eq_nil_of_le (by omega), List.append_nil] at hm
  have HM := Aside0.mk hm.p1
  clear hM hC hl hy hm
  go_enter Try.func31, Try.ntmps31
  go_wp2
  go_ret
  exact ⟨rfl, HM.out⟩
end Go.Proofs.Ytfcldacjnegacaa.Up
