/- DeadlineQueueMonotone: the law answers true. Printed by mkLwN.py. -/
import Derived.Test.YteneigadnabolaaLwO
namespace Go.Proofs.Yteneigadnabolaa.QAl
open Go.RowKit Go.Proofs.YteneigadnabolaaW.PrintWords Go.Proofs.YteneigadnabolaaW.PrintLast Go.Proofs.YteneigadnabolaaW.PrintMore Go.Proofs.Yteneigadnabolaa.Sl
set_option linter.unusedVariables false
set_option linter.unusedSimpArgs false
section
variable {P : Program} {ops : Array Oper} {o : Oper} {a : Act} {Q : Exit → Act → World → Prop} {Kc : Act → World → Prop} {L : List Chunk} {α : Type}
theorem append_rows_step (d : Kd α) {w0 W : World} (hw : Region.wanted o (yielded ops a.tmps) = true) (s x : Operand) (t e : TypeId) (z : Value) (bytes : Nat)
    (ho : o.op = .call { callee := .builtin .append, args := #[s, x], argTypes := #[t, t] })
    (ht : P.underlying t = some (.slice e)) (hinfo : (P.info? e).map (fun i => (i.zero, i.size, i.bytes)) = some (some z, d.sz, bytes)) (hz : z.cells.size = d.sz) (hs0 : 0 < d.sz) (hb0 : 0 < bytes)
    (v : Value) (xs ys : List α) (A : Option Addr) (m c : Nat) (hs : a.eval s = v) (hx : a.eval x = .slice A m c) (HR : d.C W A m ys) (hKM : ∀ x cs, d.K W x cs → d.M W w0.heap.size (fun _ => False) x cs)
    (HM : Mem w0 W (row w0 d e v xs :: L)) (hl : (xs.length + m) * bytes ≤ 140737488355328)
    (h : ∀ v1 w1, Mem w0 w1 (row w0 d e v1 (xs ++ ys) :: L) → Kc (a.put o.dst v1) w1) :
    if Region.wanted o (yielded ops a.tmps) = true then Oper.wp P o a W Kc Q else Kc (a.put o.dst undef) W := by
  have hB := HM.below
  obtain ⟨T, hr, h2, h3⟩ := HM.front
  have hr : d.R e W w0.heap.size T v xs := hr
  refine Kd.R_append_rows_step d (w0 := w0) w0.heap.size hw s x t e z bytes ho ht hinfo hz hs0 hb0 v xs ys A m c (fun k => T k ∨ W.heap.size ≤ k) (fun _ => False) hs hx (Kd.R_mono hr (fun _ hk => .inl hk)) HR hKM (fun _ h => h.elim) (fun _ hk => .inr hk) hB hB.size hl ?_
  intro v1 w1 hR hB1 hg hat
  exact h v1 w1 (h3 w1 (row w0 d e v1 (xs ++ ys)) hB1 ⟨hg.size, fun i hi hn => hg.block i hi (fun e => hn (hr.1 i e.symm))⟩ hR)
end
set_option maxRecDepth 100000 in
set_option maxHeartbeats 2000000 in
theorem Mono_law {W : World} {A B : Option Addr} {c cd : Nat} {l : List Dq.It} {d : List Int} (now dr : Int) (hA : k30.C W A l.length (l.map un)) (hcA : l.length ≤ c) (hB : (Kd.int .i64).C W B d.length d)
    (hw : ∀ x ∈ l, (Lit.int .i64 x.1).wf = true) (hd : ∀ x ∈ d, (Lit.int .i64 x).wf = true) (hdr0 : 0 ≤ dr) (hdr1 : dr ≤ 255) (hnw : now ≤ 9223372036854775807) :
    Calls Try.prog 6 #[.int .i64 now, .agg #[.slice A l.length c, .slice B d.length cd], .int .u8 dr] W fun e w' => e = .returned (.bool true) ∧ Below W.heap.size W w' := by
  obtain ⟨b, hb⟩ : ∃ b, W.heap.size = b := ⟨_, rfl⟩
  have HBB := Aside0.mk hb
  have HW := Aside0.mk hw
  have HM0' := (Mem.start W).new_ (.cells #[.slice A l.length c, .slice B d.length cd] 41) hb
  have HB0 := Aside0.mk (below_alloc (Below.refl W.heap.size W) (.cells #[.slice A l.length c, .slice B d.length cd] 41))
  have HCA : Aside0 (∀ w1, Below W.heap.size W w1 → k30.C w1 A l.length (l.map un)) := ⟨fun w1 h => Kd.C_below hA h⟩
  by_cases hskip : 40 < l.length ∨ l.length = 0 ∨ now < 1
  · obtain ⟨n, hn⟩ : ∃ n, n = l.length := ⟨_, rfl⟩
    rw [← hn] at hskip HB0 ⊢
    clear hA hcA hB hw hd HM0' hb hn HCA
    by_cases h1 : 40 < n
    · have h1a : decide ((40 : Int) < (n : Int)) = true := decide_eq_true (by omega)
      have h1b : decide (40 < n) = true := decide_eq_true h1
      clear h1 hskip
      go_enter Try.func6, Try.ntmps6
      go_wp2_with (go_at_call 11; refine (examples_call _).mono ?_; rintro e w2 ⟨rfl, hb2⟩; have HB2 := Aside0.mk hb2; clear hb2)
      go_ret
      exact ⟨rfl, below_step HB0.out HB2.out⟩
    have h1a : decide ((40 : Int) < (n : Int)) = false := decide_eq_false (by omega)
    have h1b : decide (40 < n) = false := decide_eq_false h1
    by_cases h2 : n = 0
    · subst h2
      clear hskip
      go_enter Try.func6, Try.ntmps6
      go_wp2_with (go_at_call 11; refine (examples_call _).mono ?_; rintro e w2 ⟨rfl, hb2⟩; have HB2 := Aside0.mk hb2; clear hb2)
      go_ret
      exact ⟨rfl, below_step HB0.out HB2.out⟩
    · have h3 : decide (now < 1) = true := decide_eq_true (by omega)
      have h2a : ((n : Int) == 0) = false := by simpa using h2
      have h2b : (n == 0) = false := by simpa using h2
      clear hskip
      go_enter Try.func6, Try.ntmps6
      go_wp2_with (go_at_call 11; refine (examples_call _).mono ?_; rintro e w2 ⟨rfl, hb2⟩; have HB2 := Aside0.mk hb2; clear hb2)
      go_ret
      exact ⟨rfl, below_step HB0.out HB2.out⟩
  · have hl40 : l.length ≤ 40 := by omega
    have hl0 : 0 < l.length := by omega
    have hn1 : 1 ≤ now := by omega
    have HDUR : Aside0 (∀ w1, Below W.heap.size W w1 → Calls Try.prog 17 #[.agg #[.slice A l.length c, .slice B d.length cd]] w1 fun e w' => ∃ g n, e = .returned (.map (some g)) ∧ Mem w1 w' [imap g n (durA l d l.length)]) :=
      ⟨fun w1 h => durations_call (Kd.C_below hA h) (Kd.C_below hB h) hl40 hw hd⟩
    generalize durA l d l.length = f at HDUR
    obtain ⟨ba, o, rfl, _, _⟩ := item_at hA hl0
    obtain ⟨k, hk⟩ : ∃ k : Nat, dr.toNat % l.length = k := ⟨_, rfl⟩
    have hkl : k < l.length := by rw [← hk]; exact Nat.mod_lt _ hl0
    have hm1 : dr % (l.length : Int) = (k : Int) := by rw [← hk, Int.natCast_emod, Int.toNat_of_nonneg hdr0]
    have hm2 : dr.tmod (l.length : Int) = (k : Int) := by rw [Int.tmod_eq_emod_of_nonneg hdr0]; exact hm1
    have HTK : Aside0 (∀ w1, Below W.heap.size W w1 → k30.C w1 (some ⟨ba, o, none⟩) k ((l.take k).map un)) := ⟨fun w1 h => by
      have h1 := Kd.C_take (m := k) (show k30.C w1 (some ⟨ba, o, none⟩) (l.map un).length (l.map un) by rw [List.length_map]; exact HCA.out w1 h) (by rw [List.length_map]; omega)
      rw [← List.map_take, List.length_map, List.length_take, Nat.min_eq_left (by omega)] at h1
      exact h1⟩
    obtain ⟨A', hA', HDR⟩ : ∃ A' : Addr, (if c = k + 1 then some (⟨ba, o, none⟩ : Addr) else some ⟨ba, o + (k + 1) * 2, none⟩) = some A' ∧ Aside0 (∀ w1, Below W.heap.size W w1 → k30.C w1 (some A') (l.length - (k + 1)) ((l.drop (k + 1)).map un)) := by
      have key : ∀ w1, Below W.heap.size W w1 → k30.C w1 (if c = k + 1 then some (⟨ba, o, none⟩ : Addr) else some ⟨ba, o + (k + 1) * 2, none⟩) (l.length - (k + 1)) ((l.drop (k + 1)).map un) := fun w1 h => by
        have h1 := Kd.C_drop (m := k + 1) (c := c) (show k30.C w1 (some ⟨ba, o, none⟩) (l.map un).length (l.map un) by rw [List.length_map]; exact HCA.out w1 h) (by rw [List.length_map]; omega) (by rw [List.length_map]; exact hcA)
        rw [← List.map_drop, List.length_map, List.length_drop, Option.map_some, add_at] at h1
        exact h1
      by_cases hc1 : c = k + 1
      · exact ⟨⟨ba, o, none⟩, by rw [if_pos hc1], ⟨fun w1 h => by have := key w1 h; rwa [if_pos hc1] at this⟩⟩
      · exact ⟨⟨ba, o + (k + 1) * 2, none⟩, by rw [if_neg hc1], ⟨fun w1 h => by have := key w1 h; rwa [if_neg hc1] at this⟩⟩
    have HKL := Aside0.mk hkl
    have hear := Aside0.mk (@earlier f now l hn1)
    have hfew := Aside0.mk (@fewer f now l k hkl)
    have hlw : Aside0 (∀ x ∈ l.take k ++ l.drop (k + 1), (Lit.int .i64 x.1).wf = true) := ⟨fun x hx => by
      rcases List.mem_append.1 hx with h | h
      · exact HW.out x (List.mem_of_mem_take h)
      · exact HW.out x (List.mem_of_mem_drop h)⟩
    have hlen : Aside0 ((l.take k ++ l.drop (k + 1)).length = l.length - 1) := ⟨by rw [List.length_append, List.length_take, List.length_drop]; omega⟩
    obtain ⟨n, hn⟩ : ∃ n, n = l.length := ⟨_, rfl⟩
    have HN := Aside0.mk hn
    have HM0 := Aside0.mk HM0'
    rw [← hn] at HDUR HCA HM0 HDR hl40 hl0 hm1 hm2 hkl hcA hlen ⊢
    have hd1 : decide ((40 : Int) < (n : Int)) = false := decide_eq_false (by omega)
    have hd2 : decide (40 < n) = false := decide_eq_false (by omega)
    have h2a : ((n : Int) == 0) = false := by simp; omega
    have h2b : (n == 0) = false := by simp; omega
    have h3 : decide (now < 1) = false := decide_eq_false (by omega)
    have hwr : IntKind.i64.wrap dr = dr := by rw [IntKind.wrap_i64]; omega
    clear hA hB hw hd HM0' hb hskip hn hk
    go_enter Try.func6, Try.ntmps6
    go_wp2_with fail
    refine (HDUR.out _ HM0.out.below).mono ?_
    rintro e w1 ⟨g, nm, rfl, h1⟩
    have HM1 := Aside0.mk (Mem.join HM0.out h1 (.cons (Lowers.refl _) .nil))
    have x0 := blk_cell HM1.out.drop.get 0
    clear h1
    rw [HBB.out]
    have keyF : Aside0 (∀ (w1 : World) (t : Int), Mem W w1 [imap g nm f, blk b #[.slice (some ⟨ba, o, none⟩) n c, .slice B d.length cd] 41] → Calls Try.prog 16 #[.int .i64 t, .slice (some ⟨ba, o, none⟩) n c, .map (some g)] w1 fun e w' => e = .returned (.tuple #[.int .i64 (feas f t l).1, .int .i64 (feas f t l).2]) ∧ Below w1.heap.size w1 w') :=
      ⟨fun w1 t h => by have := HCA.out w1 h.below; rw [HN.out] at this h ⊢; exact Feasible_call t h this (by rw [← HN.out]; exact hl40) HW.out⟩
    go_wp2_with fail
    refine (keyF.out _ now HM1.out).mono ?_
    rintro e w2 ⟨rfl, h2⟩
    have HM2 := Aside0.mk (HM1.out.step h2)
    have x0 := blk_cell HM2.out.drop.get 0
    clear h2
    obtain ⟨r, hr⟩ : ∃ r, feas f now l = r := ⟨_, rfl⟩
    obtain ⟨r1, r2⟩ := r
    rw [hr] at hear hfew ⊢
    clear hr
    by_cases hr2 : r2 = 0
    rotate_left
    · have hb : (r2 != 0) = true := by simpa using hr2
      clear hr2
      go_wp2_with fail
      refine (examples_call _).mono ?_
      rintro e w3 ⟨rfl, h3⟩
      have HB3 := Aside0.mk (below_step HM2.out.below h3)
      clear h3
      go_wp2_with fail
      go_ret
      exact ⟨rfl, HB3.out⟩
    subst hr2
    have hE := Aside0.mk (hear.out rfl)
    have hF := Aside0.mk (hfew.out rfl)
    have hk1 : (k : Int) + 1 ≤ n := by omega
    have hk2 : k ≤ c := by omega
    have hk3 : k + 1 ≤ c := by omega
    have hk4 : 0 ≤ (k : Int) + 1 := by omega
    have hk5 : k + 1 ≤ n := by omega
    have hwk : IntKind.i64.wrap ((k : Int) + 1) = (k : Int) + 1 := by rw [IntKind.wrap_i64]; omega
    go_wp2_with fail
    refine wp_region_held_drew (S := fun W_ => W_.heap[b]? = some (.cells #[.slice (some ⟨ba, o, none⟩) n c, .slice B d.length cd] 41 (0, 0))) (by kernel_rfl) HM2.out.drop.get (fun hS => ?_)
    refine wpAnyH_take (i := 1) (oi := { dst := some 51, op := Op.fieldAddr 41 (Operand.tmp 4) 0, type := 0, pos := "law.go:186", after := #[], guard := none }) (v := ?_) rfl (by kernel_rfl) (by kernel_rfl) (by kernel_rfl) (fun _ _ _ h => h) (Or.inl ⟨by rfl, ?_⟩) hS ?_
    rotate_left
    · intro W_ hSW_
      go_simp
      try with_reducible rfl
    try simp only [Act.put, List.setIfInBounds_toArray, List.set_cons_zero, List.set_cons_succ]
    refine wpAnyH_take (i := 2) (oi := { dst := some 52, op := Op.load 38 (Operand.tmp 51), type := 38, pos := "law.go:186", after := #[{ on := 1, ground := Ground.data }], guard := none }) (v := ?_) rfl (by kernel_rfl) (by kernel_rfl) (by kernel_rfl) (fun _ _ _ h => h) (Or.inl ⟨by rfl, ?_⟩) hS ?_
    rotate_left
    · intro W_ hSW_
      have e0 := blk_cell hSW_ 0
      go_simp
      try with_reducible rfl
    try simp only [Act.put, List.setIfInBounds_toArray, List.set_cons_zero, List.set_cons_succ]
    refine wpAnyH_take (i := 3) (oi := { dst := some 53, op := Op.move (Operand.tmp 10), type := 3, pos := "law.go:186", after := #[], guard := none }) (v := ?_) rfl (by kernel_rfl) (by kernel_rfl) (by kernel_rfl) (fun _ _ _ h => h) (Or.inl ⟨by rfl, ?_⟩) hS ?_
    rotate_left
    · intro W_ hSW_
      go_simp
      try with_reducible rfl
    try simp only [Act.put, List.setIfInBounds_toArray, List.set_cons_zero, List.set_cons_succ]
    refine wpAnyH_take (i := 4) (oi := { dst := some 54, op := Op.slice 38 (Operand.tmp 52) none (some (Operand.tmp 53)) none, type := 38, pos := "law.go:186", after := #[{ on := 2, ground := Ground.data }, { on := 3, ground := Ground.data }], guard := none }) (v := ?_) rfl (by kernel_rfl) (by kernel_rfl) (by kernel_rfl) (fun _ _ _ h => h) (Or.inl ⟨by rfl, ?_⟩) hS ?_
    rotate_left
    · intro W_ hSW_
      go_simp
      try with_reducible rfl
    try simp only [Act.put, List.setIfInBounds_toArray, List.set_cons_zero, List.set_cons_succ]
    refine wpAnyH_take (i := 6) (oi := { dst := some 56, op := Op.fieldAddr 41 (Operand.tmp 4) 0, type := 0, pos := "law.go:186", after := #[], guard := none }) (v := ?_) rfl (by kernel_rfl) (by kernel_rfl) (by kernel_rfl) (fun _ _ _ h => h) (Or.inl ⟨by rfl, ?_⟩) hS ?_
    rotate_left
    · intro W_ hSW_
      go_simp
      try with_reducible rfl
    try simp only [Act.put, List.setIfInBounds_toArray, List.set_cons_zero, List.set_cons_succ]
    refine wpAnyH_take (i := 7) (oi := { dst := some 57, op := Op.load 38 (Operand.tmp 56), type := 38, pos := "law.go:186", after := #[{ on := 6, ground := Ground.data }], guard := none }) (v := ?_) rfl (by kernel_rfl) (by kernel_rfl) (by kernel_rfl) (fun _ _ _ h => h) (Or.inl ⟨by rfl, ?_⟩) hS ?_
    rotate_left
    · intro W_ hSW_
      have e0 := blk_cell hSW_ 0
      go_simp
      try with_reducible rfl
    try simp only [Act.put, List.setIfInBounds_toArray, List.set_cons_zero, List.set_cons_succ]
    refine wpAnyH_take (i := 8) (oi := { dst := some 58, op := Op.move (Operand.tmp 10), type := 3, pos := "law.go:186", after := #[], guard := none }) (v := ?_) rfl (by kernel_rfl) (by kernel_rfl) (by kernel_rfl) (fun _ _ _ h => h) (Or.inl ⟨by rfl, ?_⟩) hS ?_
    rotate_left
    · intro W_ hSW_
      go_simp
      try with_reducible rfl
    try simp only [Act.put, List.setIfInBounds_toArray, List.set_cons_zero, List.set_cons_succ]
    refine wpAnyH_take (i := 9) (oi := { dst := some 59, op := Op.binOp BinOp.add 3 (Operand.tmp 58) (Operand.const (Value.int IntKind.i64 1)) 3, type := 3, pos := "law.go:186", after := #[{ on := 8, ground := Ground.data }], guard := none }) (v := ?_) rfl (by kernel_rfl) (by kernel_rfl) (by kernel_rfl) (fun _ _ _ h => h) (Or.inl ⟨by rfl, ?_⟩) hS ?_
    rotate_left
    · intro W_ hSW_
      go_simp
      try with_reducible rfl
    try simp only [Act.put, List.setIfInBounds_toArray, List.set_cons_zero, List.set_cons_succ]
    refine wpAnyH_take (i := 10) (oi := { dst := some 60, op := Op.slice 38 (Operand.tmp 57) (some (Operand.tmp 59)) none none, type := 38, pos := "law.go:186", after := #[{ on := 7, ground := Ground.data }, { on := 9, ground := Ground.data }], guard := none }) (v := ?_) rfl (by kernel_rfl) (by kernel_rfl) (by kernel_rfl) (fun _ _ _ h => h) (Or.inl ⟨by rfl, ?_⟩) hS ?_
    rotate_left
    · intro W_ hSW_
      go_simp
      try with_reducible rfl
    try simp only [Act.put, List.setIfInBounds_toArray, List.set_cons_zero, List.set_cons_succ]
    refine wpAnyH_ready (rs := [0]) (by kernel_rfl) (by simp) ?_
    refine AllReadyH.cons (o := { dst := some 50, op := Op.buildSlice 38 0 #[], type := 38, pos := "law.go:186", after := #[], guard := none }) rfl (fun K_ hK_ => ?_) AllReadyH.nil
    go_simp
    have HM3 := Aside0.mk (Mem.row_empty k30 30 HM2.out.drew)
    have hS3 := HM3.out.drop.drop.get
    refine hK_.out _ _ (hS3) (fun hS_ => ?_)
    clear hK_ K_ hS
    have hS := hS_
    clear hS_
    try simp only [Act.put, List.setIfInBounds_toArray, List.set_cons_zero, List.set_cons_succ]
    refine wpAnyH_ready (rs := [5]) (by kernel_rfl) (by simp) ?_
    refine AllReadyH.cons (o := { dst := some 55, op := Op.call { callee := Callee.builtin Builtin.append, args := #[Operand.tmp 50, Operand.tmp 54], argTypes := #[38, 38] }, type := 38, pos := "law.go:186", after := #[{ on := 0, ground := Ground.data }, { on := 4, ground := Ground.data }], guard := none }) rfl (fun K_ hK_ => ?_) AllReadyH.nil
    refine append_rows_step k30 (w0 := W) rfl (.tmp 50) (.tmp 54) 38 30 (.agg #[.int .i64 0, .int .i64 0]) 16 rfl Try.underlying38 info30 rfl (by decide) (by omega) _ ([] : List S30) ((l.take k).map un) (some ⟨ba, o, none⟩) k c rfl rfl (HTK.out _ HM3.out.below) (fun x cs hx => by rw [k30_open hx]; exact k30_mkM _ _ _ _) HM3.out (by simp; omega) ?_
    intro v1 w1 hm_
    have HM4 := Aside0.mk hm_
    have hSHM4 := HM4.out.drop.drop.get
    clear hm_
    refine hK_.out _ _ (hSHM4) (fun hS_ => ?_)
    clear hK_ K_ hS
    have hS := hS_
    clear hS_
    try simp only [Act.put, List.setIfInBounds_toArray, List.set_cons_zero, List.set_cons_succ]
    refine wpAnyH_ready (rs := [11]) (by kernel_rfl) (by simp) ?_
    refine AllReadyH.cons (o := { dst := some 61, op := Op.call { callee := Callee.builtin Builtin.append, args := #[Operand.tmp 55, Operand.tmp 60], argTypes := #[38, 38] }, type := 38, pos := "law.go:186", after := #[{ on := 5, ground := Ground.data }, { on := 10, ground := Ground.data }, { on := 5, ground := Ground.chain }], guard := none }) rfl (fun K_ hK_ => ?_) AllReadyH.nil
    refine append_rows_step k30 (w0 := W) rfl (.tmp 55) (.tmp 60) 38 30 (.agg #[.int .i64 0, .int .i64 0]) 16 rfl Try.underlying38 info30 rfl (by decide) (by omega) _ ([] ++ (l.take k).map un) ((l.drop (k + 1)).map un) (some A') (n - (k + 1)) (c - (k + 1)) rfl rfl (HDR.out _ HM4.out.below) (fun x cs hx => by rw [k30_open hx]; exact k30_mkM _ _ _ _) HM4.out (by simp; omega) ?_
    intro v1 w1 hm_
    have HM5 := Aside0.mk hm_
    have hSHM5 := HM5.out.drop.drop.get
    clear hm_
    refine hK_.out _ _ (hSHM5) (fun hS_ => ?_)
    clear hK_ K_ hS
    have hS := hS_
    clear hS_
    try simp only [Act.put, List.setIfInBounds_toArray, List.set_cons_zero, List.set_cons_succ]
    refine wpAnyH_take (i := 12) (oi := { dst := some 11, op := Op.assign (Operand.tmp 61), type := 38, pos := "law.go:186", after := #[{ on := 11, ground := Ground.data }, { on := 11, ground := Ground.chain }, { on := 0, ground := Ground.phase }, { on := 1, ground := Ground.phase }, { on := 2, ground := Ground.phase }, { on := 3, ground := Ground.phase }, { on := 4, ground := Ground.phase }, { on := 5, ground := Ground.phase }, { on := 6, ground := Ground.phase }, { on := 7, ground := Ground.phase }, { on := 8, ground := Ground.phase }, { on := 9, ground := Ground.phase }, { on := 10, ground := Ground.phase }, { on := 11, ground := Ground.phase }], guard := none }) (v := ?_) rfl (by kernel_rfl) (by kernel_rfl) (by kernel_rfl) (fun _ _ _ h => h) (Or.inl ⟨by rfl, ?_⟩) hS ?_
    rotate_left
    · intro W_ hSW_
      go_simp
      try with_reducible rfl
    try simp only [Act.put, List.setIfInBounds_toArray, List.set_cons_zero, List.set_cons_succ]
    refine wpAnyH_done (by kernel_rfl) ?_ _
    obtain ⟨A5, c5, rfl, hc5, hC5⟩ := HM5.out.readsN (n := n - 1) (by rw [List.nil_append, ← List.map_append, List.length_map]; exact hlen.out)
    rw [List.nil_append, ← List.map_append] at hC5
    have HC5 := Aside0.mk hC5
    have HML := Aside0.mk HM5.out.drop
    have x5 := blk_cell HML.out.drop.get 0
    have hwn : IntKind.i64.wrap (now - 1) = now - 1 := by rw [IntKind.wrap_i64]; omega
    clear hC5 HM3 HM4 hS hS3 hSHM4 hSHM5
    go_wp2_with fail
    refine (keyF.out _ (now - 1) HML.out).mono ?_
    rintro e w6 ⟨rfl, h6⟩
    rw [hE.out]
    have HM6 := Aside0.mk (HML.out.step h6)
    have hC6 := Kd.C_below HC5.out h6
    have key := Aside0.mk (Feasible_call (c := c5) (l := l.take k ++ l.drop (k + 1)) now HM6.out (by rw [hlen.out]; exact hC6) (by rw [hlen.out]; omega) hlw.out)
    rw [hlen.out, hF.out] at key
    clear h6 hC6
    go_wp2_with fail
    refine (key.out).mono ?_
    rintro e w7 ⟨rfl, h7⟩
    have HB7 := Aside0.mk (below_step HM6.out.below h7)
    clear h7 key
    go_wp2_with fail
    refine (examples_call _).mono ?_
    rintro e w8 ⟨rfl, h8⟩
    have HB8 := Aside0.mk (below_step HB7.out h8)
    clear h8
    go_wp2_with fail
    go_ret
    exact ⟨rfl, HB8.out⟩
theorem Mono_row (now : Int) (A : Option Addr) (c : Nat) (x : List S30) (B : Option Addr) (cd : Nat) (d : List Int) (dr : Int) (W : World) (hr : k30.C W A x.length x) (hc : x.length ≤ c) (hr2 : (Kd.int .i64).C W B d.length d) (hc2 : d.length ≤ cd) (g : (Lit.int .i64 now).wf = true) (g1 : GoodJ x d) (g2 : (Lit.int .u8 dr).wf = true) :
    Calls Try.prog 6 #[.int .i64 now, .agg #[.slice A x.length c, .slice B d.length cd], .int .u8 dr] W fun e w' => e = .returned (.bool true) ∧ Below W.heap.size W w' := by
  have e : x.length = (x.map it).length := (List.length_map _).symm
  rw [e] at hr hc ⊢
  have b1 : 0 ≤ dr ∧ dr ≤ 255 := by
    unfold Lit.wf at g2
    rw [Bool.and_eq_true, decide_eq_true_eq, decide_eq_true_eq] at g2
    exact g2
  have b2 : now ≤ 9223372036854775807 := by
    unfold Lit.wf at g
    rw [Bool.and_eq_true, decide_eq_true_eq, decide_eq_true_eq] at g
    exact g.2
  refine Mono_law (l := x.map it) now dr (by rw [map_un_it]; exact hr) hc hr2 (fun y hy => ?_) g1.2.2.2 b1.1 b1.2 b2
  obtain ⟨z, hz, rfl⟩ := List.mem_map.1 hy
  exact (g1.1.2.2 z hz).1
end Go.Proofs.Yteneigadnabolaa.QAl
