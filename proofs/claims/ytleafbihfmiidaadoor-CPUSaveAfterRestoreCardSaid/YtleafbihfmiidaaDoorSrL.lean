/- c12: CPUSaveAfterRestore, walked. -/
import Derived.Test.YtleafbihfmiidaaDoorReL
import Derived.Test.YtleafbihfmiidaaDoorSrp
namespace Go.Proofs.YtleafbihfmiidaaDoor.QAl
open Go.RowKit Go.Proofs.YtleafbihfmiidaaDoorW.PrintWords Go.Proofs.YtleafbihfmiidaaDoorW.PrintLast Go.Proofs.YtleafbihfmiidaaDoorW.PrintMore Go.Proofs.YtleafbihfmiidaaDoor.Sl
set_option linter.unusedVariables false
set_option linter.unusedSimpArgs false
def SrRel1 (W : World) (g n : Nat) (s : Cs) (o : Obj) (ls : List Int) (v21 : Value) (wr : World) : Prop :=
  ∃ k : Nat, k ≤ n ∧ v21 = .int .i64 (k : Int) ∧ (ls.take k).Nodup ∧ Mem W wr (ob (g + 1) o :: ob g (.cells s.cells 26) :: [])
def SrRel2 (W : World) (g k : Nat) (x : Int) (s : Cs) (o : Obj) (ls : List Int) (v31 : Value) (wr : World) : Prop :=
  ∃ j : Nat, j ≤ k ∧ v31 = .int .i64 (j : Int) ∧ x ∉ ls.take j ∧ Mem W wr (ob (g + 1) o :: ob g (.cells s.cells 26) :: [])
set_option maxRecDepth 100000 in
set_option maxHeartbeats 8000000 in
theorem SaveAfterRestore_row (s : Cs) (ok : s.Ok) (st : Int) (A : Option Addr) (c : Nat) (ls : List Int) (B : Option Addr) (d : Nat) (vs : List Int) (W : World) (hr : Kd.C (Kd.int .i64) W A ls.length ls) (hc : ls.length ≤ c) (hrv : Kd.C (Kd.int .i16) W B vs.length vs) (hd : vs.length ≤ d) (hvb : ∀ v ∈ vs, S16 v) (hG : GT W) :
    Calls Tryd.prog 4 #[.agg s.cells, .agg #[.int .i64 st, .slice A ls.length c], .slice B vs.length d] W fun e W' => e = .returned (.bool true) ∧ Below W.heap.size W W' := by
  obtain ⟨g, hg⟩ : ∃ g, W.heap.size = g := ⟨_, rfl⟩
  have h0 := (Mem.start W).new_ (.cells s.cells 26) hg
  have h1 := h0.new_ (g := g + 1) (.cells #[.int .i64 st, .slice A ls.length c] 29) (by simp [hg])
  have HAW := Aside0.mk (awake_call h1 hG)
  have HO := Aside0.mk ok
  have HR := Aside0.mk hr
  have HRV := Aside0.mk hrv
  have HVB := Aside0.mk hvb
  have HD := Aside0.mk hd
  obtain ⟨n, hl⟩ : ∃ n, ls.length = n := ⟨_, rfl⟩
  obtain ⟨m, hv⟩ : ∃ m, vs.length = m := ⟨_, rfl⟩
  rw [hl] at HAW HR hc ⊢
  rw [hv] at HRV HD ⊢
  have HL := Aside0.mk hl
  have HV := Aside0.mk hv
  have HCC := Aside0.mk hc
  clear h0 h1 hr hrv hvb ok hG hl hv hd hc
  go_enter Tryd.func4, Tryd.ntmps4
  go_wp2_with fail
  refine HAW.out.mono ?_
  rintro e w2 ⟨rfl, h2⟩
  have x1 := blk_cell h2.get 1
  have H2 := Aside0.mk h2
  clear h2
  by_cases hn : n ≤ 72
  rotate_left
  · have hn' : 72 < n := by omega
    clear hn
    go_wp2_with fail
    go_ret
    exact ⟨rfl, by first | exact H2.out.below | (rw [← hg]; exact H2.out.below)⟩
  have hn' : ¬ 72 < n := by omega
  have HN := Aside0.mk hn
  clear hn
  go_wp2_with fail
  go_loopw [21] (fun v21 wr => SrRel1 W g n s (.cells #[.int .i64 st, .slice A n c] 29) ls v21 wr) (fun i _ => n - (intOf i).toNat)
  case atStart => exact ⟨0, Nat.zero_le _, rfl, List.nodup_nil, H2.out⟩
  case round =>
    obtain ⟨k, hk, rfl, hnd, hM⟩ := hrel
    clear x1 hn'
    by_cases hlt : k < n
    · have hkl : k < ls.length := by rw [HL.out]; exact hlt
      obtain ⟨b, o, rfl, y0⟩ := i64_cell (Kd.C_below HR.out hM.below) hlt
      have hx : ls[k] = ls.getD k 0 := by rw [List.getD_eq_getElem?_getD, List.getElem?_eq_getElem hkl]; rfl
      have HT : Aside0 (ls.take (k + 1) = ls.take k ++ [ls[k]]) := ⟨List.take_succ_eq_append_getElem hkl⟩
      rw [← hx] at y0
      generalize ls[k] = x at *
      have HW : Aside0 (wrap64 ((k : Int) + 1) = ((k + 1 : Nat) : Int)) := ⟨by have := HN.out; unfold wrap64; omega⟩
      have x1 := blk_cell hM.get 1
      have HMi := Aside0.mk hM
      have HK := Aside0.mk hlt
      have HND := Aside0.mk hnd
      have hkc : k ≤ c := by have := HCC.out; omega
      clear hM hx hnd
      go_wp2_with fail
      go_loopw [31] (fun v31 wr => SrRel2 W g k x s (.cells #[.int .i64 st, .slice (some ⟨b, o, none⟩) n c] 29) ls v31 wr) (fun i _ => k - (intOf i).toNat)
      case atStart => exact ⟨0, Nat.zero_le _, rfl, by simp, HMi.out⟩
      case round =>
        obtain ⟨j, hj, rfl, hni, hM⟩ := hrel
        clear x1 y0
        by_cases hlt2 : j < k
        · have hjl : j < ls.length := by rw [HL.out]; omega
          obtain ⟨b', o', hbo, y1⟩ := i64_cell (Kd.C_below HR.out hM.below) (show j < n by omega)
          injection hbo with hbo
          injection hbo with hb ho
          subst hb ho
          have hx : ls[j] = ls.getD j 0 := by rw [List.getD_eq_getElem?_getD, List.getElem?_eq_getElem hjl]; rfl
          have HT2 : Aside0 (ls.take (j + 1) = ls.take j ++ [ls[j]]) := ⟨List.take_succ_eq_append_getElem hjl⟩
          rw [← hx] at y1
          generalize ls[j] = y at *
          have HW2 : Aside0 (wrap64 ((j : Int) + 1) = ((j + 1 : Nat) : Int)) := ⟨by have := HN.out; unfold wrap64; omega⟩
          have HMj := Aside0.mk hM
          have HJ := Aside0.mk hlt2
          have HNI := Aside0.mk hni
          clear hM hx hni
          by_cases hyx : y = x
          · subst hyx
            go_wp2_with fail
            go_ret
            exact ⟨rfl, by first | exact HMj.out.below | (rw [← hg]; exact HMj.out.below)⟩
          · have HYX := Aside0.mk hyx
            go_wp2_with fail
            go_roundw
            case rel => exact ⟨j + 1, by have := HJ.out; omega, by first | rw [HW2.out] | go_num, by rw [HT2.out]; simp only [List.mem_append, List.mem_singleton]; rintro (h | h); exact HNI.out h; exact HYX.out h.symm, HMj.out⟩
            case measure => have := HJ.out; (try rw [HW2.out]); simp only [intOf, Int.toNat_natCast]; omega
        · obtain rfl : j = k := by omega
          have HNI := Aside0.mk hni
          have HMj := Aside0.mk hM
          have n0 : ¬ (j : Int) < (j : Int) := by omega
          clear hM hni hlt2
          go_wp2_with fail
          go_roundw
          case rel => exact ⟨j + 1, by have := HK.out; omega, by first | rw [HW.out] | go_num, by rw [HT.out]; exact nodup_snoc HND.out HNI.out, HMj.out⟩
          case measure => have := HK.out; (try rw [HW.out]); simp only [intOf, Int.toNat_natCast]; omega
    · obtain rfl : k = n := by omega
      have HND : Aside0 ls.Nodup := ⟨by have := hnd; rw [List.take_of_length_le (by rw [HL.out]; exact Nat.le_refl _)] at this; exact this⟩
      have n0 : ¬ (k : Int) < (k : Int) := by omega
      have HMi := Aside0.mk hM
      clear hM hlt hnd H2 HAW
      go_wp2_with (refine wpList_load26 rfl (.tmp 3) rfl g rfl HO.out HMi.out.drop.get ?_)
      refine (own_call HMi.out HO.out).mono ?_
      rintro e w3 ⟨rfl, h3⟩
      obtain ⟨gc, hgc⟩ : ∃ gc, w3.heap.size = gc := ⟨_, rfl⟩
      have X4 := Aside0.mk (h3.new_ (.cells Tryd.zeroCells32 32) hgc).get
      have HSR := Aside0.mk (show (w3.alloc (.cells Tryd.zeroCells32 32)).setRow gc s.cells = w3.alloc (.cells s.cells 32) by rw [← hgc]; exact World.setRow_alloc_new w3 Tryd.zeroCells32 s.cells 32)
      have H5 := Aside0.mk (h3.new_ (.cells s.cells 32) hgc)
      clear h3
      go_upto_region 16 with (refine wpList_store32 rfl (.tmp 11) (.tmp 41) rfl gc rfl rfl HO.out Tryd.zeroCells32 zero32 X4.out ?_)
      rw [HSR.out]
      clear HSR X4 hgc
      generalize w3.alloc (.cells s.cells 32) = w5 at *
      have x0 := blk_cell H5.out.drop.get 0
      have x1 := blk_cell H5.out.drop.get 1
      have HRE := Aside0.mk (Restore_call H5.out HO.out st A k c ls HL.out (by have := HN.out; omega) HR.out B m d vs HV.out HRV.out HVB.out)
      have HT := Aside0.mk (restC_ok HO.out st ls vs HVB.out)
      have HRS := Aside0.mk (rest_save (s := s) (st := st) HND.out HVB.out)
      generalize restC s st ls vs = R at HRE HT HRS
      obtain ⟨t, code⟩ := R
      dsimp only at HRE HT HRS
      try simp only [Act.put, List.setIfInBounds_toArray, List.set_cons_zero, List.set_cons_succ]
      go_wp2_with fail
      refine HRE.out.mono ?_
      rintro e w6 ⟨rfl, h6⟩
      have H6 := Aside0.mk h6
      replace x0 := blk_cell h6.drop.get 0
      replace x1 := blk_cell h6.drop.get 1
      have z0 := cpu_pc h6.get
      clear h6
      rcases HRS.out with ⟨hcode, hts⟩ | ⟨hcode, hpc, hlen, hsv⟩
      · subst hcode hts
        go_wp2_with (first
          | refine wpList_load32 rfl (.tmp 11) rfl gc rfl HT.out H6.out.get ?_
          | refine wpList_load26 rfl (.tmp 3) rfl g rfl HT.out H6.out.drop.drop.get ?_)
        refine (same_call H6.out HT.out).mono ?_
        rintro e w9 ⟨rfl, h9⟩
        have H9 := Aside0.mk h9
        clear h9
        go_wp2_with fail
        go_ret
        exact ⟨rfl, by first | exact H9.out.below | (rw [← hg]; exact H9.out.below)⟩
      · subst hcode
        rw [hpc] at z0
        have HSV := Aside0.mk hsv
        have HLE := Aside0.mk hlen
        clear hpc hsv hlen
        go_wp2_with fail
        refine (Save_call H6.out HT.out st A k c ls HL.out HCC.out (by have := HN.out; omega) HR.out).mono ?_
        rintro e w7 ⟨v1, rfl, h7⟩
        rw [HSV.out] at h7
        obtain ⟨A1, c1, rfl, hc1, hC1⟩ := h7.reads
        have H7 := Aside0.mk h7
        have HSM := Aside0.mk (trickleref12_Same.calls _ A1 c1 _ B d _ true w7 hC1 hc1 (Kd.C_below (by rw [HV.out]; exact HRV.out) h7.below) (by rw [HV.out]; exact HD.out) (same_self vs (by rw [HLE.out, HL.out]; have := HN.out; omega)))
        rw [HV.out] at HSM
        have HVV := HV.out
        rw [HVV]
        clear h7 hc1 hC1 HVV
        go_wp2_with fail
        refine HSM.out.mono ?_
        rintro e w8 ⟨rfl, hd8⟩
        have H8 := Aside0.mk (H7.out.step hd8.below)
        clear hd8
        go_wp2_with fail
        go_ret
        exact ⟨by simp, by first | exact H8.out.below | (rw [← hg]; exact H8.out.below)⟩
end Go.Proofs.YtleafbihfmiidaaDoor.QAl
