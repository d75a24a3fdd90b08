/- c12: CPURestores, walked. -/
import Derived.Test.YtleafbihfmiidaaDoorRr
namespace Go.Proofs.YtleafbihfmiidaaDoor.QAl
open Go.RowKit Go.Proofs.YtleafbihfmiidaaDoorW.PrintWords Go.Proofs.YtleafbihfmiidaaDoorW.PrintLast Go.Proofs.YtleafbihfmiidaaDoorW.PrintMore Go.Proofs.YtleafbihfmiidaaDoor.Sl
set_option linter.unusedVariables false
set_option linter.unusedSimpArgs false
theorem restR_ok : ∀ (ls vs : List Int) (s t : Cs), s.Ok → (∀ v ∈ vs, S16 v) → restR s ls vs = some t → t.Ok
  | [], _, s, t, hs, _, h => by
    simp only [restR, Option.some.injEq] at h
    exact h ▸ hs
  | _ :: _, [], s, t, _, _, h => by simp [restR] at h
  | n :: ns, v :: vs, s, t, hs, hv, h => by
    simp only [restR] at h
    split at h
    · exact restR_ok ns vs _ t (hs.set _ (hv v (by simp))) (fun u hu => hv u (by simp [hu])) h
    · cases h
theorem restC_ok {s : Cs} (ok : s.Ok) (st : Int) (ls vs : List Int) (hv : ∀ v ∈ vs, S16 v) : (restC s st ls vs).1.Ok := by
  unfold restC
  split
  · cases h : restR (zeroC st) ls vs with
    | none => exact ok
    | some t => exact restR_ok ls vs _ t (zeroC_ok st) hv h
  · exact ok
section
variable {ops : Array Oper} {op : Oper} {a : Act} {s : Cs} {t : Nat}
theorem wp_load32 {w : World} {K : Act → World → Prop} {Q : Exit → Act → World → Prop} (x : Operand) (ho : op.op = .load 32 x) (g : Nat) (hx : a.eval x = .pointer (some ⟨g, 0, none⟩)) (ok : s.Ok) (hg : w.heap[g]? = some (.cells s.cells t (0, 0)))
    (h : K (a.put op.dst (.agg s.cells)) w) : op.wp Tryd.prog a w K Q :=
  wp_load_mid 32 x ho g 0 hx (.int .i64 s.pc :: s.m.map (Value.int .i16)) _ (range_all hg) Tryd.underlying32 rfl (by rw [List.length_cons, List.length_map, ok.len]; exact i32) h
theorem wp_load26 {w : World} {K : Act → World → Prop} {Q : Exit → Act → World → Prop} (x : Operand) (ho : op.op = .load 26 x) (g : Nat) (hx : a.eval x = .pointer (some ⟨g, 0, none⟩)) (ok : s.Ok) (hg : w.heap[g]? = some (.cells s.cells t (0, 0)))
    (h : K (a.put op.dst (.agg s.cells)) w) : op.wp Tryd.prog a w K Q :=
  wp_load_mid 26 x ho g 0 hx (.int .i64 s.pc :: s.m.map (Value.int .i16)) _ (range_all hg) Tryd.underlying26 rfl (by rw [List.length_cons, List.length_map, ok.len]; exact i26) h
end
set_option maxRecDepth 100000 in
set_option maxHeartbeats 8000000 in
theorem Restores_row (s : Cs) (ok : s.Ok) (st : Int) (A : Option Addr) (c : Nat) (ls : List Int) (B : Option Addr) (d : Nat) (vs : List Int) (W : World) (hr : Kd.C (Kd.int .i64) W A ls.length ls) (hrv : Kd.C (Kd.int .i16) W B vs.length vs) (hvb : ∀ v ∈ vs, S16 v) (hG : GT W) :
    Calls Tryd.prog 3 #[.agg s.cells, .agg #[.int .i64 st, .slice A ls.length c], .slice B vs.length d] W fun e W' => e = .returned (.bool true) ∧ Below W.heap.size W W' := by
  obtain ⟨g, hg⟩ : ∃ g, W.heap.size = g := ⟨_, rfl⟩
  have h0 := (Mem.start W).new_ (.cells s.cells 26) hg
  have h1 := h0.new_ (g := g + 1) (.cells #[.int .i64 st, .slice A ls.length c] 29) (by simp [hg])
  have HAW := Aside0.mk (awake_call h1 hG)
  have HO := Aside0.mk ok
  have HR := Aside0.mk hr
  have HRV := Aside0.mk hrv
  have HVB := Aside0.mk hvb
  obtain ⟨n, hl⟩ : ∃ n, ls.length = n := ⟨_, rfl⟩
  obtain ⟨m, hv⟩ : ∃ m, vs.length = m := ⟨_, rfl⟩
  rw [hl] at HAW HR ⊢
  rw [hv] at HRV ⊢
  have HL := Aside0.mk hl
  have HV := Aside0.mk hv
  clear h0 h1 hr hrv hvb ok hG hl hv
  go_enter Tryd.func3, Tryd.ntmps3
  go_wp2_with fail
  refine HAW.out.mono ?_
  rintro e w2 ⟨rfl, h2⟩
  have x1 := blk_cell h2.get 1
  have H2 := Aside0.mk h2
  clear h2
  by_cases hn : n ≤ 100
  rotate_left
  · have hn' : 100 < n := by omega
    clear hn
    go_wp2_with fail
    go_ret
    exact ⟨rfl, by first | exact H2.out.below | (rw [← hg]; exact H2.out.below)⟩
  have hn' : ¬ 100 < n := by omega
  by_cases hm : m ≤ 100
  rotate_left
  · have hm' : 100 < m := by omega
    clear hm hn
    go_wp2_with fail
    go_ret
    exact ⟨rfl, by first | exact H2.out.below | (rw [← hg]; exact H2.out.below)⟩
  have hm' : ¬ 100 < m := by omega
  have HN := Aside0.mk hn
  clear hn hm
  go_wp2_with (refine wpList_load26 rfl (.tmp 3) rfl g rfl HO.out H2.out.drop.get ?_)
  refine (own_call H2.out HO.out).mono ?_
  rintro e w3 ⟨rfl, h3⟩
  obtain ⟨gc, hgc⟩ : ∃ gc, w3.heap.size = gc := ⟨_, rfl⟩
  have X4 := Aside0.mk (h3.new_ (.cells Tryd.zeroCells32 32) hgc).get
  have HSR := Aside0.mk (show (w3.alloc (.cells Tryd.zeroCells32 32)).setRow gc s.cells = w3.alloc (.cells s.cells 32) by rw [← hgc]; exact World.setRow_alloc_new w3 Tryd.zeroCells32 s.cells 32)
  have H5 := Aside0.mk (h3.new_ (.cells s.cells 32) hgc)
  clear h3 x1
  go_upto_region 6 with (refine wpList_store32 rfl (.tmp 7) (.tmp 23) rfl gc rfl rfl HO.out Tryd.zeroCells32 zero32 X4.out ?_)
  rw [HSR.out]
  clear HSR X4 hgc
  generalize w3.alloc (.cells s.cells 32) = w5 at *
  have x0 := blk_cell H5.out.drop.get 0
  have x1 := blk_cell H5.out.drop.get 1
  have HRE := Aside0.mk (Restore_call H5.out HO.out st A n c ls HL.out HN.out HR.out B m d vs HV.out HRV.out HVB.out)
  have HRR := Aside0.mk (fun (w6 : World) (L' : List Chunk) (h : Mem W w6 L') => rRestore_call h HO.out st A n c ls HL.out HN.out HR.out B m d vs HV.out HRV.out HVB.out)
  have HT := Aside0.mk (restC_ok HO.out st ls vs HVB.out)
  generalize restC s st ls vs = R at HRE HRR HT
  obtain ⟨t, code⟩ := R
  dsimp only at HRE HRR HT
  try simp only [Act.put, List.setIfInBounds_toArray, List.set_cons_zero, List.set_cons_succ]
  go_wp2_with fail
  refine HRE.out.mono ?_
  rintro e w6 ⟨rfl, h6⟩
  have H6 := Aside0.mk h6
  replace x0 := blk_cell h6.drop.get 0
  replace x1 := blk_cell h6.drop.get 1
  clear h6
  go_wp2_with (refine wpList_load26 rfl (.tmp 3) rfl g rfl HO.out H6.out.drop.drop.get ?_)
  refine (HRR.out _ _ H6.out).mono ?_
  rintro e w7 ⟨rfl, h7⟩
  obtain ⟨g7, hg7⟩ : ∃ g7, w7.heap.size = g7 := ⟨_, rfl⟩
  have X4 := Aside0.mk (h7.new_ (.cells Tryd.zeroCells26 26) hg7).get
  have HSR := Aside0.mk (show (w7.alloc (.cells Tryd.zeroCells26 26)).setRow g7 t.cells = w7.alloc (.cells t.cells 26) by rw [← hg7]; exact World.setRow_alloc_new w7 Tryd.zeroCells26 t.cells 26)
  have H8 := Aside0.mk (h7.new_ (.cells t.cells 26) hg7)
  clear h7 x0 x1
  go_upto_region 8 with (refine wpList_store26 rfl (.tmp 9) (.tmp 32) rfl g7 rfl rfl HT.out Tryd.zeroCells26 zero26 X4.out ?_)
  rw [HSR.out]
  clear HSR X4 hg7
  generalize w7.alloc (.cells t.cells 26) = w8 at *
  try simp only [Act.put, List.setIfInBounds_toArray, List.set_cons_zero, List.set_cons_succ]
  go_wp2_with (first
    | (refine wpList_step fun K hK => ?_; first
      | refine wp_load32 (.tmp 7) rfl gc rfl HT.out H8.out.drop.get ?_
      | refine wp_load26 (.tmp 9) rfl g7 rfl HT.out H8.out.get ?_))
  refine (same_call H8.out HT.out).mono ?_
  rintro e w9 ⟨rfl, h9⟩
  have H9 := Aside0.mk h9
  clear h9
  go_wp2_with fail
  go_ret
  exact ⟨by simp, by first | exact H9.out.below | (rw [← hg]; exact H9.out.below)⟩
end Go.Proofs.YtleafbihfmiidaaDoor.QAl
