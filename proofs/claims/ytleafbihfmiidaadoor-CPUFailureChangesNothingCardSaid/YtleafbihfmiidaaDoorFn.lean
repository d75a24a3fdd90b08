/- c12: CPUFailureChangesNothing, walked. -/
import Derived.Test.YtleafbihfmiidaaDoorCa
import Derived.Test.YtleafbihfmiidaaDoorFnp
namespace Go.Proofs.YtleafbihfmiidaaDoor.QAl
open Go.RowKit Go.Proofs.YtleafbihfmiidaaDoorW.PrintWords Go.Proofs.YtleafbihfmiidaaDoorW.PrintLast Go.Proofs.YtleafbihfmiidaaDoorW.PrintMore Go.Proofs.YtleafbihfmiidaaDoor.Sl
set_option linter.unusedVariables false
set_option linter.unusedSimpArgs false
section
variable {ops : Array Oper} {op : Oper} {a : Act} {s : Cs} {t : Nat}
theorem wp_load32 {w : World} {K : Act → World → Prop} {Q : Exit → Act → World → Prop} (x : Operand) (ho : op.op = .load 32 x) (g : Nat) (hx : a.eval x = .pointer (some ⟨g, 0, none⟩)) (ok : s.Ok) (hg : w.heap[g]? = some (.cells s.cells t (0, 0)))
    (h : K (a.put op.dst (.agg s.cells)) w) : op.wp Tryd.prog a w K Q :=
  wp_load_mid 32 x ho g 0 hx (.int .i64 s.pc :: s.m.map (Value.int .i16)) _ (range_all hg) Tryd.underlying32 rfl (by rw [List.length_cons, List.length_map, ok.len]; exact i32) h
end
def FnRel (W : World) (g : Nat) (o o' : Obj) (v5 : Value) (wr : World) : Prop :=
  ∃ f : Nat, 1 ≤ f ∧ f ≤ 3 ∧ v5 = .int .i64 (f : Int) ∧ Mem W wr (ob (g + 1) o :: ob g o' :: [])
set_option maxRecDepth 100000 in
set_option maxHeartbeats 8000000 in
theorem Failure_row (s : Cs) (ok : s.Ok) (p : XP) (x : Img) (hxi : ∀ c ∈ x.codes, S16 c.f4) (B0 B1 B3 : Option Addr) (n0 n1 n3 d0 d1 d3 : Nat) (fl : Int) (ws rs : List Int) (cs : List S100) (W : World)
    (hr0 : Kd.C (Kd.int .i16) W B0 n0 ws) (hr1 : Kd.C (Kd.int .i16) W B1 n1 rs) (hr3 : Kd.C k100 W B3 n3 cs) (hw : ws.length = n0) (hrl : rs.length = n1) (hcl : cs.length = n3) (hws : ∀ v ∈ ws, S16 v) (hrs : ∀ v ∈ rs, S16 v) (hXR : XR p x W) (hG : GT W) :
    Calls Tryd.prog 8 #[.agg (p.arr x), .agg (caseA s [.slice B0 n0 d0, .slice B1 n1 d1, .int .i64 fl, .slice B3 n3 d3])] W fun e W' => e = .returned (.bool true) ∧ Below W.heap.size W W' := by
  obtain ⟨g, hg⟩ : ∃ g, W.heap.size = g := ⟨_, rfl⟩
  obtain ⟨CA, hCA⟩ : ∃ CA, caseA s [.slice B0 n0 d0, .slice B1 n1 d1, .int .i64 fl, .slice B3 n3 d3] = CA := ⟨_, rfl⟩
  have HCA := Aside0.mk hCA
  rw [hCA]
  have h0 := (Mem.start W).new_ (.cells (p.arr x) 47) hg
  have h1 := h0.new_ (g := g + 1) (.cells CA 52) (by simp [hg])
  have HAW := Aside0.mk (awake_call h1 hG)
  have HO := Aside0.mk ok
  have HXR := Aside0.mk hXR
  have HG := Aside0.mk hG
  have HXI := Aside0.mk hxi
  have R0 := Aside0.mk (And.intro hr0 hw)
  have R1 := Aside0.mk (And.intro hr1 hrl)
  have R3 := Aside0.mk (And.intro hr3 hcl)
  have HWS := Aside0.mk hws
  have HRS := Aside0.mk hrs
  clear h0 h1 hr0 hr1 hr3 hw hrl hcl hws hrs hXR hG hxi ok hCA
  go_enter Tryd.func8, Tryd.ntmps8
  go_wp2_with fail
  refine HAW.out.mono ?_
  rintro e w2 ⟨rfl, h2⟩
  have H2 := Aside0.mk h2
  have y0 := blk_cell h2.drop.get 0
  have y1 := blk_cell h2.drop.get 1
  have y2 := blk_cell h2.drop.get 2
  have y3 := blk_cell h2.drop.get 3
  have y4 := blk_cell h2.drop.get 4
  have y5 := blk_cell h2.drop.get 5
  have y6 := blk_cell h2.drop.get 6
  have y7 := blk_cell h2.drop.get 7
  have y8 := blk_cell h2.drop.get 8
  have y9 := blk_cell h2.drop.get 9
  have y10 := blk_cell h2.drop.get 10
  have y11 := blk_cell h2.drop.get 11
  clear h2
  have HC2 := Aside0.mk (show w2.heap[g + 1]? = some (.cells (caseA s [.slice B0 n0 d0, .slice B1 n1 d1, .int .i64 fl, .slice B3 n3 d3]) 52 (0, 0)) by rw [HCA.out]; exact H2.out.get)
  go_wp2_with (refine wpList_case1 rfl (.tmp 12) rfl (g + 1) rfl HO.out rfl HC2.out ?_)
  refine (Small_call H2.out p x B0 B1 B3 n0 n1 n3 d0 d1 d3 fl).mono ?_
  rintro e w3 ⟨rfl, h3⟩
  clear y0 y1 y2 y3 y4 y5 y6 y7 y8 y9 y10 y11
  have H3 := Aside0.mk h3
  clear h3
  cases hsm : smallB x.codes.length x.globals.length x.addr.length x.chans n0 n1 n3 with
  | false =>
    go_wp2_with fail
    go_ret
    exact ⟨rfl, by first | exact H3.out.below | (rw [← hg]; exact H3.out.below)⟩
  | true =>
  have HSM : Aside0 (x.codes.length ≤ 60 ∧ n0 ≤ 600 ∧ n1 ≤ 60 ∧ n3 = 0) := ⟨by
    unfold smallB at hsm
    simp only [Bool.and_eq_true, decide_eq_true_eq] at hsm
    omega⟩
  have HXO := Aside0.mk (Img.Ok.mk HXI.out (by have := HSM.out.1; omega))
  clear hsm
  go_wp2_with fail
  go_loopw [5] (fun v5 wr => FnRel W g (.cells CA 52) (.cells (p.arr x) 47) v5 wr) (fun i _ => 3 - (intOf i).toNat)
  case atStart => exact ⟨1, by decide, by decide, rfl, H3.out⟩
  case round =>
    obtain ⟨f, hf1, hf3, rfl, hM⟩ := hrel
    have HMi := Aside0.mk hM
    clear hM
    by_cases hlt : f ≤ 2
    rotate_left
    · have hff : f = 3 := by omega
      subst hff
      go_wp2_with fail
      go_ret
      exact ⟨rfl, by first | exact HMi.out.below | (rw [← hg]; exact HMi.out.below)⟩
    have HC3 := Aside0.mk (show wr.heap[g + 1]? = some (.cells (caseA s [.slice B0 n0 d0, .slice B1 n1 d1, .int .i64 fl, .slice B3 n3 d3]) 52 (0, 0)) by rw [HCA.out]; exact HMi.out.get)
    go_wp2_with (refine wpList_case1 rfl (.tmp 20) rfl (g + 1) rfl HO.out rfl HC3.out ?_)
    refine (Copy_call HMi.out B0 B1 B3 n0 n1 n3 d0 d1 d3 fl ws rs cs R0.out.1 R1.out.1 R3.out.1 HSM.out.2.1 HSM.out.2.2.1 HSM.out.2.2.2 R0.out.2 R1.out.2 R3.out.2).mono ?_
    rintro e w4 ⟨v0, v1, v3, rfl, h4⟩
    obtain ⟨A3, c3, rfl, _, _⟩ := h4.readsN R3.out.2
    obtain ⟨A1, c1, rfl, _, _⟩ := h4.drop.readsN R1.out.2
    obtain ⟨A0, c0, rfl, _, _⟩ := h4.drop.drop.readsN R0.out.2
    obtain ⟨gw, hgw⟩ : ∃ gw, w4.heap.size = gw := ⟨_, rfl⟩
    have X4 := Aside0.mk (h4.new_ (.cells #[.slice none 0 0, .slice none 0 0, .int .i64 0, .slice none 0 0] 50) hgw).get
    have HSR := Aside0.mk (show (w4.alloc (.cells #[.slice none 0 0, .slice none 0 0, .int .i64 0, .slice none 0 0] 50)).setRow gw #[.slice A0 n0 c0, .slice A1 n1 c1, .int .i64 fl, .slice A3 n3 c3] = w4.alloc (.cells #[.slice A0 n0 c0, .slice A1 n1 c1, .int .i64 fl, .slice A3 n3 c3] 50) by rw [← hgw]; exact World.setRow_alloc_new w4 _ _ 50)
    have H5 := Aside0.mk (h4.new_ (.cells #[.slice A0 n0 c0, .slice A1 n1 c1, .int .i64 fl, .slice A3 n3 c3] 50) hgw)
    clear h4
    go_upto_region 9 with (refine wpList_store_row rfl 50 (.tmp 6) (.tmp 22) rfl gw #[.slice A0 n0 c0, .slice A1 n1 c1, .int .i64 fl, .slice A3 n3 c3] rfl rfl 50 #[.slice none 0 0, .slice none 0 0, .int .i64 0, .slice none 0 0] X4.out i50 rfl (by simp [Value.oneCell']) ?_)
    rw [HSR.out]
    clear HSR X4 hgw
    generalize w4.alloc (.cells #[.slice A0 n0 c0, .slice A1 n1 c1, .int .i64 fl, .slice A3 n3 c3] 50) = w5 at *
    have f2 := blk_frozen H5.out.get 2
    have c2_ := blk_cell H5.out.get 2
    have H6 := Aside0.mk (H5.out.put 2 (.int .i64 (f : Int)) rfl)
    try simp only [Act.put, List.setIfInBounds_toArray, List.set_cons_zero, List.set_cons_succ]
    go_upto_region 10 with fail
    clear f2 c2_ H5
    generalize w5.setCell _ _ = w6 at *
    have HC6 := Aside0.mk (show w6.heap[g + 1]? = some (.cells (caseA s [.slice B0 n0 d0, .slice B1 n1 d1, .int .i64 fl, .slice B3 n3 d3]) 52 (0, 0)) by rw [HCA.out]; exact H6.out.drop.drop.drop.drop.get)
    try simp only [Act.put, List.setIfInBounds_toArray, List.set_cons_zero, List.set_cons_succ]
    go_wp2_with (refine wpList_case0 rfl (.tmp 25) rfl (g + 1) rfl HO.out HC6.out ?_)
    refine (own_call H6.out HO.out).mono ?_
    rintro e w7 ⟨rfl, h7⟩
    obtain ⟨gc, hgc⟩ : ∃ gc, w7.heap.size = gc := ⟨_, rfl⟩
    have X7 := Aside0.mk (h7.new_ (.cells Tryd.zeroCells32 32) hgc).get
    have HSR := Aside0.mk (show (w7.alloc (.cells Tryd.zeroCells32 32)).setRow gc s.cells = w7.alloc (.cells s.cells 32) by rw [← hgc]; exact World.setRow_alloc_new w7 Tryd.zeroCells32 s.cells 32)
    have hb7 : BusM W w7 gw ⟨ws, rs, (f : Int), cs⟩ (ob (g + 1) (.cells CA 52) :: ob g (.cells (p.arr x) 47) :: []) :=
      ⟨_, _, _, _, _, seen_row h7.drop.drop, h7.perm (List.Perm.cons _ (List.Perm.append_right _ (List.reverse_perm [_, _, _]).symm))⟩
    have H8 := Aside0.mk (hb7.swap.new_ (.cells s.cells 32) hgc)
    clear h7 hb7
    go_upto_region 11 with (refine wpList_store32 rfl (.tmp 7) (.tmp 27) rfl gc rfl rfl HO.out Tryd.zeroCells32 zero32 X7.out ?_)
    rw [HSR.out]
    clear HSR X7 hgc
    generalize w7.alloc (.cells s.cells 32) = w8 at *
    have hcs : cs = [] := List.length_eq_zero_iff.1 (by have := HSM.out.2.2.2; have := R3.out.2; omega)
    have HST := Aside0.mk (Step_call H8.out (by show cs.length ≤ 50000; rw [hcs]; decide) HO.out ⟨HWS.out, HRS.out⟩ HXO.out HG.out (fun Wx s' B' hW => HXR.out.below hW.below))
    have HSF := Aside0.mk (step_fail x s ⟨ws, rs, (f : Int), cs⟩ f (by omega) hcs rfl)
    clear hcs
    generalize stepC x s ⟨ws, rs, (f : Int), cs⟩ = R at HST HSF
    obtain ⟨s2, B2, oc⟩ := R
    dsimp only at HST HSF
    try simp only [Act.put, List.setIfInBounds_toArray, List.set_cons_zero, List.set_cons_succ]
    go_wp2_with fail
    refine HST.out.mono ?_
    rintro e w9 ⟨rfl, h9⟩
    have HB9 := Aside0.mk h9
    have HC9 := Aside0.mk (show w9.heap[g + 1]? = some (.cells (caseA s [.slice B0 n0 d0, .slice B1 n1 d1, .int .i64 fl, .slice B3 n3 d3]) 52 (0, 0)) by rw [HCA.out]; exact h9.drop.drop.top)
    have HM9 := Aside0.mk h9.mem
    have HEND0 := Aside0.mk h9.drop.swap.mem
    have x3 : ∃ Ac cc, w9.cell? ⟨gw, 3, none⟩ = some (.slice Ac B2.calls.length cc) := by
      obtain ⟨wv, rv, rv0, cv, rs0, hs, hm⟩ := h9
      obtain ⟨Ac, cc, rfl, _, _⟩ := hm.drop.drop.drop.reads
      exact ⟨Ac, cc, blk_cell hm.get 3⟩
    obtain ⟨Ac, cc, x3⟩ := x3
    clear h9
    obtain ⟨m, hm⟩ : ∃ m, B2.calls.length = m := ⟨_, rfl⟩
    rw [hm] at x3 HSF
    clear hm
    have HW : Aside0 (wrap64 ((f : Int) + 1) = ((f + 1 : Nat) : Int)) := ⟨by unfold wrap64; omega⟩
    obtain ⟨hm2, hmf, hss⟩ := HSF.out
    have hm2' : ¬ 2 < m := by omega
    by_cases ho4 : oc = 4
    · obtain rfl : f = m := (hmf.2 ho4).symm
      obtain rfl := hss (.inl ho4)
      subst ho4
      clear hmf hss
      skip
      go_wp2_with (first
        | (refine wpList_step fun K hK => ?_; first
          | refine wp_load32 (.tmp 7) rfl gc rfl HO.out HB9.out.top ?_
          | refine wp_case0 (.tmp 52) rfl (g + 1) rfl HO.out HC9.out ?_))
      refine (same_call HM9.out HO.out).mono ?_
      rintro e w10 ⟨rfl, h10⟩
      have HEND := Aside0.mk h10.drop.p1
      clear h10
      go_wp2_with fail
      go_roundw
      case rel => exact ⟨f + 1, by omega, by omega, by first | rw [HW.out] | go_num, HEND.out⟩
      case measure => (try rw [HW.out]); simp only [intOf, Int.toNat_natCast]; omega
    · have hmn : ¬ m = f := fun h => ho4 (hmf.1 h)
      have hmi : ¬ (m : Int) = (f : Int) := by omega
      have hmb : ((m : Int) == (f : Int)) = false := beq_eq_false_iff_ne.2 hmi
      have hmb2 : (m == f) = false := beq_eq_false_iff_ne.2 hmn
      have hob : (oc == 4) = false := beq_eq_false_iff_ne.2 ho4
      by_cases ho5 : oc = 5
      · obtain rfl := hss (.inr ho5)
        subst ho5
        clear hmf hss ho4 hob
        go_wp2_with (first
          | (refine wpList_step fun K hK => ?_; first
            | refine wp_load32 (.tmp 7) rfl gc rfl HO.out HB9.out.top ?_
            | refine wp_case0 (.tmp 52) rfl (g + 1) rfl HO.out HC9.out ?_))
        refine (same_call HM9.out HO.out).mono ?_
        rintro e w10 ⟨rfl, h10⟩
        have HEND := Aside0.mk h10.drop.p1
        clear h10
        go_wp2_with fail
        go_roundw
        case rel => exact ⟨f + 1, by omega, by omega, by first | rw [HW.out] | go_num, HEND.out⟩
        case measure => (try rw [HW.out]); simp only [intOf, Int.toNat_natCast]; omega
      · have HEND := HEND0
        have hob5 : (oc == 5) = false := beq_eq_false_iff_ne.2 ho5
        clear hmf hss
        go_wp2_with fail
        go_roundw
        case rel => exact ⟨f + 1, by omega, by omega, by first | rw [HW.out] | go_num, HEND.out⟩
        case measure => (try rw [HW.out]); simp only [intOf, Int.toNat_natCast]; omega
end Go.Proofs.YtleafbihfmiidaaDoor.QAl
