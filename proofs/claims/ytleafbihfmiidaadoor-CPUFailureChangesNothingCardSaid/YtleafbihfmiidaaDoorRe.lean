/- c12: Restore. -/
import Derived.Test.YtleafbihfmiidaaDoorSv
import Derived.Laws.CopyOwn
namespace Go.Proofs.YtleafbihfmiidaaDoor.QAl
open Go.RowKit Go.Proofs.YtleafbihfmiidaaDoorW.PrintWords Go.Proofs.YtleafbihfmiidaaDoorW.PrintLast Go.Proofs.YtleafbihfmiidaaDoorW.PrintMore Go.Proofs.YtleafbihfmiidaaDoor.Sl
set_option linter.unusedVariables false
set_option linter.unusedSimpArgs false
def restR : Cs → List Int → List Int → Option Cs
  | s, [], _ => some s
  | _, _ :: _, [] => none
  | s, n :: ns, v :: vs => if 0 ≤ n ∧ n < 72 then restR (s.set n.toNat v) ns vs else none
def zeroC (st : Int) : Cs := ⟨st, List.replicate 72 0⟩
def restC (s : Cs) (st : Int) (ls vs : List Int) : Cs × Int := if vs.length = ls.length then (match restR (zeroC st) ls vs with | some t => (t, 0) | none => (s, 1)) else (s, 1)
theorem zeroC_ok (st : Int) : (zeroC st).Ok := ⟨rfl, fun v hv => by
  obtain rfl := (List.mem_replicate.1 hv).2
  exact ⟨by decide, by decide⟩⟩
set_option maxRecDepth 100000 in
theorem built_zero (st : Int) : Tryd.prog.built 32 [(0, .int .i64 st)] = some (zeroC st).cells := by kernel_rfl
theorem putRow {w0 w : World} {L : List Chunk} {g t : Nat} {old : Array Value} (h : Mem w0 w (ob g (.cells old t) :: L)) (new : Array Value) : Mem w0 (w.setRow g new) (ob g (.cells new t) :: L) := by
  have hg := h.ge
  have hw := h.get
  obtain ⟨T, h1, h2, h3⟩ := h.front
  exact h3 _ _ (below_setRow h.below hg new) ⟨by simp [World.setRow], fun i hi hn => setRow_other w g i new (fun e => hn (e ▸ h1.1))⟩ ⟨.inl h1.1, setRow_heap w g old new t (0, 0) hw⟩
section
variable {ops : Array Oper} {S : World → Prop} {op : Oper} {a : Act} {s : Cs} {g t : Nat}
theorem range_all {w : World} (h : w.heap[g]? = some (.cells s.cells t (0, 0))) : w.rangeAt g 0 (.int .i64 s.pc :: s.m.map (Value.int .i16)) := by
  intro j v hv
  rw [blk_cell h (0 + j)]
  unfold Cs.cells
  rw [List.getElem?_toArray, Nat.zero_add]
  exact hv
theorem wpList_load26 {rest : List Oper} {w : World} {Q : Exit → Act → World → Prop} (hgd : op.guard = none) (x : Operand) (ho : op.op = .load 26 x) (g : Nat) (hx : a.eval x = .pointer (some ⟨g, 0, none⟩)) (ok : s.Ok) (hg : w.heap[g]? = some (.cells s.cells t (0, 0)))
    (h : wpList Tryd.prog ops Q rest (a.put op.dst (.agg s.cells)) w) : wpList Tryd.prog ops Q (op :: rest) a w :=
  wpList_load_mid hgd 26 x ho g 0 hx (.int .i64 s.pc :: s.m.map (Value.int .i16)) _ (range_all hg) Tryd.underlying26 rfl (by rw [List.length_cons, List.length_map, ok.len]; exact i26) h
theorem wpList_load32 {rest : List Oper} {w : World} {Q : Exit → Act → World → Prop} (hgd : op.guard = none) (x : Operand) (ho : op.op = .load 32 x) (g : Nat) (hx : a.eval x = .pointer (some ⟨g, 0, none⟩)) (ok : s.Ok) (hg : w.heap[g]? = some (.cells s.cells t (0, 0)))
    (h : wpList Tryd.prog ops Q rest (a.put op.dst (.agg s.cells)) w) : wpList Tryd.prog ops Q (op :: rest) a w :=
  wpList_load_mid hgd 32 x ho g 0 hx (.int .i64 s.pc :: s.m.map (Value.int .i16)) _ (range_all hg) Tryd.underlying32 rfl (by rw [List.length_cons, List.length_map, ok.len]; exact i32) h
theorem zero32 : Tryd.zeroCells32.size = 73 := by kernel_rfl
theorem zero26 : Tryd.zeroCells26.size = 73 := by kernel_rfl
theorem cs_one (s : Cs) : s.cells.all (·.oneCell') = true := by unfold Cs.cells; simp [Value.oneCell']
theorem wpList_store32 {rest : List Oper} {w : World} {Q : Exit → Act → World → Prop} (hgd : op.guard = none) (x y : Operand) (ho : op.op = .store 32 x y) (g : Nat) (hx : a.eval x = .pointer (some ⟨g, 0, none⟩)) (hy : a.eval y = .agg s.cells) (ok : s.Ok) (old : Array Value) (hz : old.size = 73) (hg : w.heap[g]? = some (.cells old t (0, 0)))
    (h : wpList Tryd.prog ops Q rest (a.put op.dst undef) (w.setRow g s.cells)) : wpList Tryd.prog ops Q (op :: rest) a w :=
  wpList_store_row hgd 32 x y ho g s.cells hx hy t old hg (by rw [ok.size]; exact i32) (by rw [ok.size]; exact hz) (cs_one s) h
theorem wpList_store26 {rest : List Oper} {w : World} {Q : Exit → Act → World → Prop} (hgd : op.guard = none) (x y : Operand) (ho : op.op = .store 26 x y) (g : Nat) (hx : a.eval x = .pointer (some ⟨g, 0, none⟩)) (hy : a.eval y = .agg s.cells) (ok : s.Ok) (old : Array Value) (hz : old.size = 73) (hg : w.heap[g]? = some (.cells old t (0, 0)))
    (h : wpList Tryd.prog ops Q rest (a.put op.dst undef) (w.setRow g s.cells)) : wpList Tryd.prog ops Q (op :: rest) a w :=
  wpList_store_row hgd 26 x y ho g s.cells hx hy t old hg (by rw [ok.size]; exact i26) (by rw [ok.size]; exact hz) (cs_one s) h
end
def ReRel (w0 : World) (g gr gn N : Nat) (s : Cs) (o : Obj) (st : Int) (ls vs : List Int) (L : List Chunk) (v23 : Value) (wr : World) : Prop :=
  ∃ (k : Nat) (t : Cs), k ≤ N ∧ v23 = .int .i64 (k : Int) ∧ t.Ok ∧ restR (zeroC st) ls vs = restR t (ls.drop k) (vs.drop k) ∧ Mem w0 wr (ob gn (.cells t.cells 32) :: ob gr o :: ob g (.cells s.cells 32) :: L)
set_option maxRecDepth 100000 in
set_option maxHeartbeats 8000000 in
theorem Restore_call {w0 w : World} {L : List Chunk} {g : Nat} {s : Cs} (h : Mem w0 w (ob g (.cells s.cells 32) :: L)) (ok : s.Ok) (st : Int) (A : Option Addr) (n c : Nat) (ls : List Int) (hl : ls.length = n) (hn : n ≤ 100) (hr : Kd.C (Kd.int .i64) w0 A n ls)
    (B : Option Addr) (m d : Nat) (vs : List Int) (hv : vs.length = m) (hrv : Kd.C (Kd.int .i16) w0 B m vs) (hvb : ∀ v ∈ vs, S16 v) :
    Calls Tryd.prog 12 #[.pointer (some ⟨g, 0, none⟩), .agg #[.int .i64 st, .slice A n c], .slice B m d] w fun e w' => e = .returned (.int .i64 (restC s st ls vs).2) ∧ Mem w0 w' (ob g (.cells (restC s st ls vs).1.cells 32) :: L) := by
  obtain ⟨gr, hgr⟩ : ∃ gr, w.heap.size = gr := ⟨_, rfl⟩
  have h1 := h.new_ (.cells #[.int .i64 st, .slice A n c] 29) hgr
  have x1 := blk_cell h1.get 1
  have x0 := blk_cell h1.get 0
  have HO := Aside0.mk ok
  have HR := Aside0.mk hr
  have HRV := Aside0.mk hrv
  have HL := Aside0.mk hl
  have HV := Aside0.mk hv
  have HN := Aside0.mk hn
  have HVB := Aside0.mk hvb
  have H1 := Aside0.mk h1
  have HGR := Aside0.mk hgr
  clear h hl ok hr hn hrv hv hvb h1
  by_cases hmn : m = n
  rotate_left
  · have HX := Aside0.mk hmn
    go_enter Tryd.func12, Tryd.ntmps12
    go_wp2_with fail
    go_ret
    have e : restC s st ls vs = (s, 1) := if_neg (by rw [HL.out, HV.out]; exact HX.out)
    rw [e]
    exact ⟨rfl, H1.out.drop⟩
  subst hmn
  have HC : Aside0 (restC s st ls vs = (match restR (zeroC st) ls vs with | some t => (t, 0) | none => (s, 1))) := ⟨if_pos (by rw [HL.out, HV.out])⟩
  have h2 := H1.out.new_ (g := gr + 1) (.cells Tryd.zeroCells32 32) (by simp [HGR.out])
  have X4 := Aside0.mk h2.get
  have h3 := H1.out.new_ (g := gr + 1) (.cells (zeroC st).cells 32) (by simp [HGR.out])
  have HSR := Aside0.mk (show ((w.alloc (.cells #[.int .i64 st, .slice A m c] 29)).alloc (.cells Tryd.zeroCells32 32)).setRow (gr + 1) (zeroC st).cells = (w.alloc (.cells #[.int .i64 st, .slice A m c] 29)).alloc (.cells (zeroC st).cells 32) by
    have := World.setRow_alloc_new (w.alloc (.cells #[.int .i64 st, .slice A m c] 29)) Tryd.zeroCells32 (zeroC st).cells 32
    rw [← this]; simp [HGR.out])
  have H3 := Aside0.mk h3
  clear h2 h3
  go_enter Tryd.func12, Tryd.ntmps12
  go_upto_region 4 with (first
    | refine wpList_buildTo rfl 32 _ rfl (some 19) rfl (zeroC st).cells (by simp only [List.map_toArray, List.map_cons, List.map_nil]; exact built_zero st) ?_
    | refine wpList_store32 rfl (.tmp 7) (.tmp 19) rfl (gr + 1) rfl rfl (zeroC_ok st) Tryd.zeroCells32 zero32 X4.out ?_)
  rw [HSR.out]
  clear HSR X4 x0 x1 hgr
  generalize (w.alloc (.cells #[.int .i64 st, .slice A m c] 29)).alloc (.cells (zeroC st).cells 32) = w3 at *
  have x1 := blk_cell H3.out.drop.get 1
  try simp only [Act.put, List.setIfInBounds_toArray, List.set_cons_zero, List.set_cons_succ]
  go_wp2_with fail
  go_loopw [23] (fun v23 wr => ReRel w0 g gr (gr + 1) m s (.cells #[.int .i64 st, .slice A m c] 29) st ls vs L v23 wr) (fun i _ => m - (intOf i).toNat)
  case atStart => exact ⟨0, zeroC st, Nat.zero_le _, rfl, zeroC_ok st, rfl, H3.out⟩
  case round =>
    obtain ⟨k, t, hk, rfl, ht, hrs, hM⟩ := hrel
    clear x1
    by_cases hlt : k < m
    · have hkl : k < ls.length := by rw [HL.out]; exact hlt
      have hkv : k < vs.length := by rw [HV.out]; exact hlt
      obtain ⟨b, o, rfl, y0⟩ := i64_cell (Kd.C_below HR.out hM.below) hlt
      obtain ⟨b2, o2, rfl, y2⟩ := i16_cell (Kd.C_below HRV.out hM.below) hlt
      have hx : ls[k] = ls.getD k 0 := by rw [List.getD_eq_getElem?_getD, List.getElem?_eq_getElem hkl]; rfl
      have hy : vs[k] = vs.getD k 0 := by rw [List.getD_eq_getElem?_getD, List.getElem?_eq_getElem hkv]; rfl
      have hyb : S16 vs[k] := HVB.out _ (List.getElem_mem hkv)
      rw [List.drop_eq_getElem_cons hkl, List.drop_eq_getElem_cons hkv] at hrs
      rw [← hx] at y0
      rw [← hy] at y2
      generalize ls[k] = x at *
      generalize vs[k] = y at *
      have HW : Aside0 (wrap64 ((k : Int) + 1) = ((k + 1 : Nat) : Int)) := ⟨by have := HN.out; unfold wrap64; omega⟩
      have HLOC := Aside0.mk (location_call (gr + 1) x wr)
      have HMi := Aside0.mk hM
      have HK := Aside0.mk hlt
      have HT := Aside0.mk ht
      have HY := Aside0.mk hyb
      have HRS := Aside0.mk hrs
      clear hM hx hy ht hyb hrs
      go_wp2_with fail
      refine HLOC.out.mono ?_
      rintro e w2 ⟨rfl, rfl⟩
      by_cases hrg : 0 ≤ x ∧ x < 72
      · have HV2 : Aside0 (restR (zeroC st) ls vs = restR (t.set x.toNat y) (ls.drop (k + 1)) (vs.drop (k + 1))) := ⟨by rw [HRS.out]; exact if_pos hrg⟩
        have hloc : locP (gr + 1) x = .pointer (some ⟨gr + 1, 1 + x.toNat, none⟩) := if_pos hrg
        have y1 := cpu_r HMi.out.get HT.out (i := x.toNat) (by omega)
        have f1 := blk_frozen HMi.out.get (1 + x.toNat)
        have HE := Aside0.mk (HMi.out.put (1 + x.toNat) (.int .i16 y) (cells_set x.toNat y))
        rw [hloc]
        clear hloc hrg
        obtain ⟨q, hq⟩ : ∃ q, 1 + x.toNat = q := ⟨_, rfl⟩
        rw [hq] at y1 f1 HE ⊢
        clear hq
        go_wp2_with fail
        go_roundw
        case rel => exact ⟨k + 1, t.set x.toNat y, by have := HK.out; omega, by first | rw [HW.out] | go_num, HT.out.set _ HY.out, HV2.out, HE.out⟩
        case measure => have := HK.out; rw [HW.out]; simp only [intOf, Int.toNat_natCast]; omega
      · have HV2 : Aside0 (restR (zeroC st) ls vs = none) := ⟨by rw [HRS.out]; exact if_neg hrg⟩
        have hloc : locP (gr + 1) x = .pointer none := if_neg hrg
        rw [hloc]
        clear hloc hrg
        go_wp2_with fail
        go_ret
        rw [HC.out, HV2.out]
        exact ⟨rfl, HMi.out.drop.drop⟩
    · obtain rfl : k = m := by omega
      have HF : Aside0 (restR (zeroC st) ls vs = some t) := ⟨by rw [hrs, List.drop_of_length_le (by rw [HL.out]; exact Nat.le_refl _)]; rfl⟩
      have n0 : ¬ (k : Int) < (k : Int) := by omega
      have HMi := Aside0.mk hM
      have HT := Aside0.mk ht
      clear hM hlt hrs ht
      go_wp2_with (first
        | refine wpList_load32 rfl (.tmp 7) rfl (gr + 1) rfl HT.out HMi.out.get ?_
        | refine wpList_store32 rfl (.tmp 41) (.tmp 40) rfl g rfl rfl HT.out s.cells HO.out.size HMi.out.drop.drop.get ?_)
      go_ret
      rw [HC.out, HF.out]
      exact ⟨rfl, putRow HMi.out.drop.drop t.cells⟩
end Go.Proofs.YtleafbihfmiidaaDoor.QAl
