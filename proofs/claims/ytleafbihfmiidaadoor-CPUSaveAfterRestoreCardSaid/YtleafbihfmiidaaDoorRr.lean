/- c12: the reference's Restore. -/
import Derived.Test.YtleafbihfmiidaaDoorRe
import Derived.Test.YtleafbihfmiidaaDoorRs
namespace Go.Proofs.YtleafbihfmiidaaDoor.QAl
open Go.RowKit Go.Proofs.YtleafbihfmiidaaDoorW.PrintWords Go.Proofs.YtleafbihfmiidaaDoorW.PrintLast Go.Proofs.YtleafbihfmiidaaDoorW.PrintMore Go.Proofs.YtleafbihfmiidaaDoor.Sl
set_option linter.unusedVariables false
set_option linter.unusedSimpArgs false
theorem results_ct {P : Program} {fn : Func} {p v : Tmp} {ty : TypeId} (h : fn.results = #[.cell p ty, .tmp v]) (tmps : Array Value) (w : World) (g : Nat) (t : TypeId) (cs : Array Value) (fr : Nat × Nat) (d : TypeDesc)
    (hp : tmps.getD p undef = .pointer (some ⟨g, 0, none⟩)) (hg : w.heap[g]? = some (.cells cs t fr))
    (hu : P.underlying ty = some d) (hd : (match d with | .struct _ | .array _ _ => true | _ => false) = true) (hi : (P.info? ty).map (·.size) = some cs.size) :
    (results fn tmps).run P w = .ok (.tuple #[.agg cs, tmps.getD v undef]) w := by
  have hp' : tmps[p]?.getD undef = .pointer (some ⟨g, 0, none⟩) := by simpa using hp
  simp [results, h, hp', asAddr, run_loadVar_row w g t ty cs fr d hg hu hd hi]
set_option maxRecDepth 100000 in
theorem built_zero26 (st : Int) : Tryd.prog.built 26 [(0, .int .i64 st)] = some (zeroC st).cells := by kernel_rfl
def RrRel (w0 : World) (g N : Nat) (s : Cs) (o : Obj) (st : Int) (ls vs : List Int) (L : List Chunk) (v24 : Value) (wr : World) : Prop :=
  ∃ (k : Nat) (t : Cs), k ≤ N ∧ v24 = .int .i64 (k : Int) ∧ t.Ok ∧ restR (zeroC st) ls vs = restR t (ls.drop k) (vs.drop k) ∧ Mem w0 wr (ob (g + 1 + 1 + 1) (.cells t.cells 26) :: ob (g + 1 + 1) (.cells Tryd.zeroCells26 26) :: ob (g + 1) o :: ob g (.cells s.cells 26) :: L)
set_option maxRecDepth 100000 in
set_option maxHeartbeats 8000000 in
theorem rRestore_call {w0 w : World} {L : List Chunk} {s : Cs} (h : Mem w0 w L) (ok : s.Ok) (st : Int) (A : Option Addr) (n c : Nat) (ls : List Int) (hl : ls.length = n) (hn : n ≤ 100) (hr : Kd.C (Kd.int .i64) w0 A n ls)
    (B : Option Addr) (m d : Nat) (vs : List Int) (hv : vs.length = m) (hrv : Kd.C (Kd.int .i16) w0 B m vs) (hvb : ∀ v ∈ vs, S16 v) :
    Calls Tryd.prog 13 #[.agg s.cells, .agg #[.int .i64 st, .slice A n c], .slice B m d] w fun e w' => e = .returned (.tuple #[.agg (restC s st ls vs).1.cells, .int .i64 (restC s st ls vs).2]) ∧ Mem w0 w' L := by
  obtain ⟨g, hg⟩ : ∃ g, w.heap.size = g := ⟨_, rfl⟩
  have h0 := h.new_ (.cells s.cells 26) hg
  have h1 := h0.new_ (g := g + 1) (.cells #[.int .i64 st, .slice A n c] 29) (by simp [hg])
  have h2 := h1.new_ (g := g + 1 + 1) (.cells Tryd.zeroCells26 26) (by simp [hg])
  have x1 := blk_cell h2.drop.get 1
  have x0 := blk_cell h2.drop.get 0
  have HO := Aside0.mk ok
  have HR := Aside0.mk hr
  have HRV := Aside0.mk hrv
  have HL := Aside0.mk hl
  have HV := Aside0.mk hv
  have HN := Aside0.mk hn
  have HVB := Aside0.mk hvb
  have H2 := Aside0.mk h2
  have HG := Aside0.mk hg
  clear h hl ok hr hn hrv hv hvb h0 h1 h2
  by_cases hmn : m = n
  rotate_left
  · have HX := Aside0.mk hmn
    go_enter Tryd.func13, Tryd.ntmps13
    go_wp2_with (first
      | refine wpList_load26 rfl (.tmp 3) rfl g rfl HO.out H2.out.drop.drop.get ?_
      | refine wpList_store26 rfl (.tmp 6) (.tmp 17) rfl (g + 1 + 1) rfl rfl HO.out Tryd.zeroCells26 zero26 H2.out.get ?_)
    have e : restC s st ls vs = (s, 1) := if_neg (by rw [HL.out, HV.out]; exact HX.out)
    rw [e]
    have h5 := putRow H2.out s.cells
    refine bodyPost_ret (results_ct rfl _ _ (g + 1 + 1) 26 s.cells (0, 0) _ rfl h5.get Tryd.underlying26 rfl (by rw [HO.out.size]; exact i26)) rfl ?_
    exact ⟨rfl, h5.drop.drop.drop⟩
  subst hmn
  have HC : Aside0 (restC s st ls vs = (match restR (zeroC st) ls vs with | some t => (t, 0) | none => (s, 1))) := ⟨if_pos (by rw [HL.out, HV.out])⟩
  have h3 := H2.out.new_ (g := g + 1 + 1 + 1) (.cells Tryd.zeroCells26 26) (by simp [HG.out])
  have X4 := Aside0.mk h3.get
  have h4 := H2.out.new_ (g := g + 1 + 1 + 1) (.cells (zeroC st).cells 26) (by simp [HG.out])
  have HSR := Aside0.mk (show ((((w.alloc (.cells s.cells 26)).alloc (.cells #[.int .i64 st, .slice A m c] 29)).alloc (.cells Tryd.zeroCells26 26)).alloc (.cells Tryd.zeroCells26 26)).setRow (g + 1 + 1 + 1) (zeroC st).cells = (((w.alloc (.cells s.cells 26)).alloc (.cells #[.int .i64 st, .slice A m c] 29)).alloc (.cells Tryd.zeroCells26 26)).alloc (.cells (zeroC st).cells 26) by
    have := World.setRow_alloc_new (((w.alloc (.cells s.cells 26)).alloc (.cells #[.int .i64 st, .slice A m c] 29)).alloc (.cells Tryd.zeroCells26 26)) Tryd.zeroCells26 (zeroC st).cells 26
    rw [← this]; simp [HG.out])
  have H3 := Aside0.mk h4
  clear h3 h4
  go_enter Tryd.func13, Tryd.ntmps13
  go_upto_region 4 with (first
    | refine wpList_buildTo rfl 26 _ rfl (some 20) rfl (zeroC st).cells (by simp only [List.map_toArray, List.map_cons, List.map_nil]; exact built_zero26 st) ?_
    | refine wpList_store26 rfl (.tmp 8) (.tmp 20) rfl (g + 1 + 1 + 1) rfl rfl (zeroC_ok st) Tryd.zeroCells26 zero26 X4.out ?_)
  rw [HSR.out]
  clear HSR X4 x0 x1 hg
  generalize (((w.alloc (.cells s.cells 26)).alloc (.cells #[.int .i64 st, .slice A m c] 29)).alloc (.cells Tryd.zeroCells26 26)).alloc (.cells (zeroC st).cells 26) = w3 at *
  have x1 := blk_cell H3.out.drop.drop.get 1
  try simp only [Act.put, List.setIfInBounds_toArray, List.set_cons_zero, List.set_cons_succ]
  go_wp2_with fail
  go_loopw [24] (fun v24 wr => RrRel w0 g m s (.cells #[.int .i64 st, .slice A m c] 29) st ls vs L v24 wr) (fun i _ => m - (intOf i).toNat)
  case atStart => exact ⟨0, zeroC st, Nat.zero_le _, rfl, zeroC_ok st, rfl, H3.out⟩
  case round =>
    obtain ⟨k, t, hk, rfl, ht, hrs, hM⟩ := hrel
    clear x1
    by_cases hlt : k < m
    · have hkl : k < ls.length := by rw [HL.out]; exact hlt
      have hkv : k < vs.length := by rw [HV.out]; exact hlt
      obtain ⟨b, o, rfl, y0⟩ := i64_cell (Kd.C_below HR.out hM.below) hlt
      obtain ⟨b2, o2, rfl, y2⟩ := i16_cell (Kd.C_below HRV.out hM.below) hlt
      have hx : ls[k] = ls.getD k 0 := by rw [List.getD_eq_getElem?_getD, List.getElem?_eq_getElem hkl]; rfl
      have hy : vs[k] = vs.getD k 0 := by rw [List.getD_eq_getElem?_getD, List.getElem?_eq_getElem hkv]; rfl
      have hyb : S16 vs[k] := HVB.out _ (List.getElem_mem hkv)
      rw [List.drop_eq_getElem_cons hkl, List.drop_eq_getElem_cons hkv] at hrs
      rw [← hx] at y0
      rw [← hy] at y2
      generalize ls[k] = x at *
      generalize vs[k] = y at *
      have HW : Aside0 (wrap64 ((k : Int) + 1) = ((k + 1 : Nat) : Int)) := ⟨by have := HN.out; unfold wrap64; omega⟩
      have HLOC := Aside0.mk (rlocation_call x wr)
      have HMi := Aside0.mk hM
      have HK := Aside0.mk hlt
      have HT := Aside0.mk ht
      have HY := Aside0.mk hyb
      have HRS := Aside0.mk hrs
      clear hM hx hy ht hyb hrs
      go_wp2_with fail
      refine HLOC.out.mono ?_
      rintro e w2 ⟨rfl, rfl⟩
      by_cases hrg : 0 ≤ x ∧ x < 72
      · have HV2 : Aside0 (restR (zeroC st) ls vs = restR (t.set x.toNat y) (ls.drop (k + 1)) (vs.drop (k + 1))) := ⟨by rw [HRS.out]; exact if_pos hrg⟩
        have y1 := cpu_r HMi.out.get HT.out (i := x.toNat) (by omega)
        have f1 := blk_frozen HMi.out.get (1 + x.toNat)
        have HE := Aside0.mk (HMi.out.put (1 + x.toNat) (.int .i16 y) (cells_set x.toNat y))
        rw [decide_eq_true hrg]
        obtain ⟨h0, h72⟩ := hrg
        by_cases h8 : x < 8
        · go_wp2_with fail
          go_roundw
          case rel => exact ⟨k + 1, t.set x.toNat y, by have := HK.out; omega, by first | rw [HW.out] | go_num, HT.out.set _ HY.out, HV2.out, HE.out⟩
          case measure => have := HK.out; rw [HW.out]; simp only [intOf, Int.toNat_natCast]; omega
        · have e1 : wrap64 (x - 8) = x - 8 := by unfold wrap64; omega
          have b0 : 0 ≤ x - 8 := by omega
          have b1 : x - 8 < 64 := by omega
          have e2 : 9 + (x - 8).toNat = 1 + x.toNat := by omega
          go_wp2_with fail
          go_roundw
          case rel => exact ⟨k + 1, t.set x.toNat y, by have := HK.out; omega, by first | rw [HW.out] | go_num, HT.out.set _ HY.out, HV2.out, HE.out⟩
          case measure => have := HK.out; rw [HW.out]; simp only [intOf, Int.toNat_natCast]; omega
      · have HV2 : Aside0 (restR (zeroC st) ls vs = none) := ⟨by rw [HRS.out]; exact if_neg hrg⟩
        rw [decide_eq_false hrg]
        clear hrg
        go_wp2_with (first
          | refine wpList_load26 rfl (.tmp 3) rfl g rfl HO.out HMi.out.drop.drop.drop.get ?_
          | refine wpList_store26 rfl (.tmp 6) (.tmp 41) rfl (g + 1 + 1) rfl rfl HO.out Tryd.zeroCells26 zero26 HMi.out.drop.get ?_)
        have h5 := putRow HMi.out.drop s.cells
        refine bodyPost_ret (results_ct rfl _ _ (g + 1 + 1) 26 s.cells (0, 0) _ rfl h5.get Tryd.underlying26 rfl (by rw [HO.out.size]; exact i26)) rfl ?_
        rw [HC.out, HV2.out]
        exact ⟨rfl, h5.drop.drop.drop⟩
    · obtain rfl : k = m := by omega
      have HF : Aside0 (restR (zeroC st) ls vs = some t) := ⟨by rw [hrs, List.drop_of_length_le (by rw [HL.out]; exact Nat.le_refl _)]; rfl⟩
      have n0 : ¬ (k : Int) < (k : Int) := by omega
      have HMi := Aside0.mk hM
      have HT := Aside0.mk ht
      clear hM hlt hrs ht
      go_wp2_with (first
        | refine wpList_load26 rfl (.tmp 8) rfl (g + 1 + 1 + 1) rfl HT.out HMi.out.get ?_
        | refine wpList_store26 rfl (.tmp 6) (.tmp 53) rfl (g + 1 + 1) rfl rfl HT.out Tryd.zeroCells26 zero26 HMi.out.drop.get ?_)
      have h5 := putRow HMi.out.drop t.cells
      refine bodyPost_ret (results_ct rfl _ _ (g + 1 + 1) 26 t.cells (0, 0) _ rfl h5.get Tryd.underlying26 rfl (by rw [HT.out.size]; exact i26)) rfl ?_
      rw [HC.out, HF.out]
      exact ⟨rfl, h5.drop.drop.drop⟩
end Go.Proofs.YtleafbihfmiidaaDoor.QAl
