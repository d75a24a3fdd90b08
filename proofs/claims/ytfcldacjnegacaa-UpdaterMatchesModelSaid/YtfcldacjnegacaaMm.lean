/- UpdaterMatchesModel: the law answers true. Printed by mkMm.py. -/
import Derived.Test.YtfcldacjnegacaaDo
namespace Go.Proofs.Ytfcldacjnegacaa.Up
open Go.RowKit Go.Proofs.YtfcldacjnegacaaW.PrintWords Go.Proofs.YtfcldacjnegacaaW.PrintLast Go.Proofs.YtfcldacjnegacaaW.PrintMore Go.Proofs.Ytfcldacjnegacaa.Sl
open PUpdaterMatchesModel (S58 k58 z58 k58_open tricklelaw47_small.l0 tricklelaw47_small.f tricklelaw47_small.calls)
set_option linter.unusedVariables false
set_option linter.unusedSimpArgs false
theorem small_tot (l : List S58) (hm : l.length ≤ 9223372036854775807) : ∀ d i : Nat, i + d = l.length → ∃ r, tricklelaw47_small.l0 (d + 1) l l (l.length : Int) (i : Int) = some r
  | 0, i, h => by
    simp only [tricklelaw47_small.l0]
    rw [if_neg (by omega)]
    exact ⟨_, rfl⟩
  | d + 1, i, h => by
    have hw : wrap64 ((i : Int) + 1) = ((i + 1 : Nat) : Int) := by unfold wrap64; omega
    obtain ⟨r, hr⟩ := small_tot l hm d (i + 1) (by omega)
    rw [tricklelaw47_small.l0.eq_2, if_pos (by omega), if_pos (by omega), if_pos (by omega), hw, hr]
    split
    · exact ⟨_, rfl⟩
    · split
      · split
        · exact ⟨_, rfl⟩
        · exact ⟨_, rfl⟩
      · exact ⟨_, rfl⟩
theorem small_call {w : World} {B : Option Addr} {cb : Nat} {l : List S58} (hl : k58.C w B l.length l) (hc : l.length ≤ cb) (hm : l.length ≤ 9223372036854775807) :
    ∃ r, Calls Try.prog 25 #[.slice B l.length cb] w fun e w' => e = .returned (.bool r) ∧ Below w.heap.size w w' := by
  obtain ⟨r, hr⟩ := small_tot l hm l.length 0 (by omega)
  exact ⟨r, tricklelaw47_small.calls _ B cb l r w hl hc hr⟩
theorem op_at {w : World} {A : Option Addr} {n : Nat} {l : List S58} (h : k58.C w A n l) {j : Nat} (hj : j < n) : ∃ b o B c, A = some ⟨b, o, none⟩ ∧
    w.cell? ⟨b, o + j * 6, none⟩ = some (.int .u8 (l.getD j z58).f0) ∧ w.cell? ⟨b, o + j * 6 + 1, none⟩ = some (.int .i64 (l.getD j z58).f1) ∧ w.cell? ⟨b, o + j * 6 + 2, none⟩ = some (.int .i64 (l.getD j z58).f2) ∧ w.cell? ⟨b, o + j * 6 + 3, none⟩ = some (.int .u16 (l.getD j z58).f3) ∧ w.cell? ⟨b, o + j * 6 + 4, none⟩ = some (.int .i64 (l.getD j z58).f4) ∧ w.cell? ⟨b, o + j * 6 + 5, none⟩ = some (.slice B (l.getD j z58).f5.length c) ∧ (Kd.int .u8).C w B (l.getD j z58).f5.length (l.getD j z58).f5 := by
  obtain ⟨b, o, cs, rfl, _, hK, hc⟩ := C_at z58 (by decide) h j hj
  obtain ⟨B, c, rfl, hl, hC⟩ := k58_open hK
  have e : k58.sz = 6 := rfl
  rw [e] at hc
  exact ⟨b, o, B, c, rfl, hc 0 _ rfl, hc 1 _ rfl, hc 2 _ rfl, hc 3 _ rfl, hc 4 _ rfl, hc 5 _ rfl, hC⟩
/-- What an operation of the argument bears. -/
def GoodOp (x : S58) : Prop := 0 ≤ x.f0 ∧ 0 ≤ x.f3 ∧ x.f3 < 65536 ∧ (Lit.int .i64 x.f4).wf = true ∧ ∀ y ∈ x.f5, 0 ≤ y ∧ y < 256
variable {L : List Chunk} {w0 w w' : World} {gm gb gu gd gr N c : Nat} {d e : Dv}
theorem same_true (hS : St w0 w gm gb gu gd gr N d d c L) (hN : N = 10240) (hc : 4 ≤ c) (hc2 : c ≤ 36) :
    Calls Try.prog 12 #[.agg #[.pointer (some ⟨gm, 0, none⟩), .pointer (some ⟨gu, 0, none⟩), .pointer (some ⟨gd, 0, none⟩), .int .i64 4096, .int .i64 (c : Int)]] w fun e w' => e = .returned (.bool true) ∧ Below w.heap.size w w' := by
  cases h : d.misA c with
  | some i => exact same_any (i := (i : Int)) (b := true) hS hN hc hc2 (by rw [h]; rfl) rfl rfl
  | none => exact same_any (i := 0) (b := false) hS hN hc hc2 (by rw [h]; rfl) rfl rfl
def MmRel (w : World) (gm gb gu gd gr N c g7 n : Nat) (v44 : Value) (wr : World) : Prop :=
  ∃ (j : Nat) (d : Dv), j ≤ n ∧ v44 = .int .i64 (j : Int) ∧ St w wr gm gb gu gd gr N d d c [ob g7 (o30 gm gu gd c)]
theorem St.image (h : St w0 w gm gb gu gd gr N d e c L) (hN : N = 10240) : Calls Try.prog 28 #[.pointer (some ⟨gm, 0, none⟩)] w fun x w' => ∃ v, x = .returned v ∧ Mem w w' [row w (Kd.int .u8) 5 v d.B] := by
  obtain ⟨⟨hd, lf, wv, hlf, hm⟩, he⟩ := h
  exact Image_call hm hd.len (by omega)
theorem meas {i n : Nat} (hw : wrap64 ((i : Int) + 1) = ((i + 1 : Nat) : Int)) (h : i < n) : n - (intOf (.int .i64 (wrap64 ((i : Int) + 1)))).toNat < n - (intOf (.int .i64 (i : Int))).toNat := by
  rw [hw]
  simp [intOf]
  omega
set_option maxRecDepth 100000 in
set_option maxHeartbeats 8000000 in
theorem MatchesModel_law (A : Option Addr) (cp : Nat) (p : List Int) (ch : Int) (B : Option Addr) (cb : Nat) (l : List S58) (w : World) (hr0 : (Kd.int .u8).C w A p.length p) (hr1 : k58.C w B l.length l) (hcb : l.length ≤ cb) (hp : ∀ x ∈ p, 0 ≤ x ∧ x < 256) (hg : ∀ x ∈ l, GoodOp x) (hm : l.length ≤ 9223372036854775807) :
    Calls Try.prog 7 #[.slice A p.length cp, .int .i64 ch, .slice B l.length cb] w fun e w' => e = .returned (.bool true) ∧ Below w.heap.size w w' := by
  have HWK := Aside0.mk (wakes_call (Mem.start w))
  have HSM := Aside0.mk (fun W (hb : Below w.heap.size w W) => small_call (Kd.C_below hr1 hb) hcb hm)
  have HR0 := Aside0.mk hr0
  have HR1 := Aside0.mk hr1
  have HP := Aside0.mk hp
  have HG := Aside0.mk hg
  have HM := Aside0.mk hm
  clear hr0 hr1 hp hg hm hcb
  obtain ⟨n, hn⟩ : ∃ n, n = p.length := ⟨_, rfl⟩
  have HNP := Aside0.mk hn
  rw [← hn] at HR0 ⊢
  clear hn
  by_cases h256 : n ≤ 256
  case neg =>
    have c1 : decide ((256 : Int) < (n : Int)) = true := decide_eq_true (by omega)
    have c1' : decide (256 < n) = true := decide_eq_true (by omega)
    clear h256
    go_enter Try.func7, Try.ntmps7
    go_wp2_with fail
    refine HWK.out.mono ?_
    rintro e w1 ⟨rfl, h1⟩
    have HB1 := Aside0.mk h1.below
    clear h1 HWK
    go_wp2_with fail
    obtain ⟨r, hr⟩ := HSM.out _ HB1.out
    refine hr.mono ?_
    rintro e w2 ⟨rfl, h2⟩
    have HB2 := Aside0.mk (below_step HB1.out h2)
    clear hr h2
    cases r with
    | true =>
      go_wp2_with fail
      go_ret
      exact ⟨rfl, HB2.out⟩
    | false =>
      go_wp2_with fail
      go_ret
      exact ⟨rfl, HB2.out⟩
  have c1 : decide ((256 : Int) < (n : Int)) = false := decide_eq_false (by omega)
  have c1' : decide (256 < n) = false := decide_eq_false (by omega)
  by_cases hc4 : ch < 4
  · clear h256
    go_enter Try.func7, Try.ntmps7
    go_wp2_with fail
    refine HWK.out.mono ?_
    rintro e w1 ⟨rfl, h1⟩
    have HB1 := Aside0.mk h1.below
    clear h1 HWK
    go_wp2_with fail
    obtain ⟨r, hr⟩ := HSM.out _ HB1.out
    refine hr.mono ?_
    rintro e w2 ⟨rfl, h2⟩
    have HB2 := Aside0.mk (below_step HB1.out h2)
    clear hr h2
    cases r with
    | true =>
      go_wp2_with fail
      go_ret
      exact ⟨rfl, HB2.out⟩
    | false =>
      go_wp2_with fail
      go_ret
      exact ⟨rfl, HB2.out⟩
  by_cases hc36 : 36 < ch
  · clear h256
    go_enter Try.func7, Try.ntmps7
    go_wp2_with fail
    refine HWK.out.mono ?_
    rintro e w1 ⟨rfl, h1⟩
    have HB1 := Aside0.mk h1.below
    clear h1 HWK
    go_wp2_with fail
    obtain ⟨r, hr⟩ := HSM.out _ HB1.out
    refine hr.mono ?_
    rintro e w2 ⟨rfl, h2⟩
    have HB2 := Aside0.mk (below_step HB1.out h2)
    clear hr h2
    cases r with
    | true =>
      go_wp2_with fail
      go_ret
      exact ⟨rfl, HB2.out⟩
    | false =>
      go_wp2_with fail
      go_ret
      exact ⟨rfl, HB2.out⟩
  obtain ⟨c, rfl⟩ : ∃ c : Nat, ch = (c : Int) := ⟨ch.toNat, by omega⟩
  have HC := Aside0.mk (show 4 ≤ c ∧ c ≤ 36 by omega)
  have c4n : ¬ c < 4 := by omega
  have c36n : ¬ 36 < c := by omega
  have H256 := Aside0.mk h256
  clear h256
  go_enter Try.func7, Try.ntmps7
  go_wp2_with fail
  refine HWK.out.mono ?_
  rintro e w1 ⟨rfl, h1⟩
  have HM1 := Aside0.mk h1
  clear h1 HWK
  go_wp2_with fail
  obtain ⟨r, hr⟩ := HSM.out _ HM1.out.below
  refine hr.mono ?_
  rintro e w2 ⟨rfl, h2⟩
  have HM2 := Aside0.mk (HM1.out.step h2)
  clear hr h2 HM1
  cases r with
  | false =>
    go_wp2_with fail
    go_ret
    exact ⟨rfl, HM2.out.below⟩
  | true =>
    go_wp2_with fail
    refine (start_good HM2.out HR0.out HP.out H256.out HC.out.1 HC.out.2).mono ?_
    rintro e w3 ⟨gm, gb, gu, gd, gr, N, hN, rfl, h3⟩
    have HN := Aside0.mk hN
    clear hN
    have h3' := h3.add (o30 gm gu gd c)
    obtain ⟨g7, hg7⟩ : ∃ g7, g7 = w3.heap.size := ⟨_, rfl⟩
    rw [← hg7] at h3'
    have hx := h3'.top
    have z0 := blk_cell hx 0
    have z1 := blk_cell hx 1
    have H3 := Aside0.mk h3'
    clear h3 h3' hx
    go_wp2_with fail
    rw [← hg7]
    clear hg7 z0 z1
    go_loopw [44] (fun v44 wr => MmRel w gm gb gu gd gr N c g7 l.length v44 wr) (fun i _ => l.length - (intOf i).toNat)
    case atStart => exact ⟨0, _, Nat.zero_le _, rfl, H3.out⟩
    case round =>
      obtain ⟨j, d, hj, rfl, hS⟩ := hrel
      clear H3
      have hx := hS.top
      have z0 := blk_cell hx 0
      have z1 := blk_cell hx 1
      have z2 := blk_cell hx 2
      have z3 := blk_cell hx 3
      have z4 := blk_cell hx 4
      have hg7 : g7 < wr.heap.size := blk_lt hx
      have HS := Aside0.mk hS
      clear hx
      by_cases hlt : j < l.length
      · have hx := HG.out _ (List.getElem_mem hlt)
        rw [show l[j] = l.getD j z58 by rw [List.getD_eq_getElem?_getD, List.getElem?_eq_getElem hlt]; rfl] at hx
        obtain ⟨b, o, Bq, cq, rfl, y0, y1, y2, y3, y4, y5, hC0⟩ := op_at HR1.out hlt
        have x0 := Kd.cell_heap hS.below.block y0
        have x1 := Kd.cell_heap hS.below.block y1
        have x2 := Kd.cell_heap hS.below.block y2
        have x3 := Kd.cell_heap hS.below.block y3
        have x4 := Kd.cell_heap hS.below.block y4
        have x5 := Kd.cell_heap hS.below.block y5
        clear y0 y1 y2 y3 y4 y5
        generalize l.getD j z58 = x at *
        obtain ⟨k, v, len, s, i, bs⟩ := x
        obtain ⟨g1, g2, g3, g4, g5⟩ := hx
        dsimp only at x0 x1 x2 x3 x4 x5 hC0 g1 g2 g3 g4 g5
        have HGD := Aside0.mk (And.intro g1 (And.intro g2 (And.intro g3 (And.intro g4 g5))))
        have HC0 := Aside0.mk hC0
        have HW := Aside0.mk (show wrap64 ((j : Int) + 1) = ((j + 1 : Nat) : Int) by have := HM.out; unfold wrap64; omega)
        have HSX := Aside0.mk (hS.add (o58 k v len s i Bq bs.length cq))
        have HSE := Aside0.mk (show w.heap.size ≤ wr.heap.size from hS.below.size)
        clear hS hC0 g2 g3 g4 g5
        obtain ⟨bl, hbl⟩ : ∃ bl, bl = bs.length := ⟨_, rfl⟩
        rw [← hbl] at x5 HSX HC0
        have HBL := Aside0.mk hbl
        obtain ⟨kr, hkr, hkr2⟩ : ∃ r : Int, k % 7 = r ∧ k.tmod 7 = r := ⟨_, rfl, by rw [Int.tmod_eq_emod_of_nonneg g1]⟩
        have hdo : ∀ W, St w W gm gb gu gd gr N d d c (ob wr.heap.size (o58 k v len s i Bq bl cq) :: [ob g7 (o30 gm gu gd c)]) → (k % 7 = 5 → d.off = false) → ∃ d', Calls Try.prog 27 (args27 gm gu gd c k v len s i Bq bl cq) W fun e w' => e = .returned (.bool true) ∧ St w w' gm gb gu gd gr N d' d' c (ob wr.heap.size (o58 k v len s i Bq bl cq) :: [ob g7 (o30 gm gu gd c)]) := fun W hW ho => Do_call hW HN.out HC.out.1 HC.out.2 HC0.out HGD.out.2.2.2.2 HGD.out.1 HGD.out.2.1 HGD.out.2.2.1 HGD.out.2.2.2.1 ho
        have HDO := Aside0.mk hdo
        clear hbl hdo g1
        have HLT := Aside0.mk hlt
        by_cases h5 : k % 7 = 5
        · have b5 : (k % 7 == 5) = true := by rw [h5]; rfl
          have c5 : (k.tmod 7 == 5) = true := by rw [hkr2, ← hkr, h5]; rfl
          have HK5 := Aside0.mk h5
          clear h5 hkr hkr2
          cases ho : d.off with
          | true =>
            have HOF := Aside0.mk (HSX.out.off_call)
            rw [ho] at HOF
            clear ho
            go_wp2_with fail
            refine HOF.out.mono ?_
            rintro e w4 ⟨rfl, rfl⟩
            go_wp2_with fail
            go_roundw
            case rel => exact ⟨j + 1, d, by have := HLT.out; omega, by rw [HW.out], HSX.out.drop⟩
            case measure => exact meas HW.out HLT.out
          | false =>
            have HOF := Aside0.mk (HSX.out.off_call)
            rw [ho] at HOF
            have HO := Aside0.mk ho
            clear ho
            go_wp2_with fail
            refine HOF.out.mono ?_
            rintro e w4 ⟨rfl, rfl⟩
            go_wp2_with fail
            obtain ⟨d', hd'⟩ := HDO.out _ HSX.out (fun _ => HO.out)
            refine hd'.mono ?_
            rintro e w5 ⟨rfl, h5⟩
            have hx := h5.drop.top
            have z0 := blk_cell hx 0
            have z1 := blk_cell hx 1
            have z2 := blk_cell hx 2
            have z3 := blk_cell hx 3
            have z4 := blk_cell hx 4
            have H5 := Aside0.mk h5
            clear h5 hx hd'
            go_wp2_with fail
            refine (same_true H5.out HN.out HC.out.1 HC.out.2).mono ?_
            rintro e w6 ⟨rfl, h6⟩
            have H6 := Aside0.mk (H5.out.step h6)
            clear h6
            go_wp2_with fail
            go_roundw
            case rel => exact ⟨j + 1, d', by have := HLT.out; omega, by rw [HW.out], H6.out.drop⟩
            case measure => exact meas HW.out HLT.out
        · have b5 : (k % 7 == 5) = false := by rw [hkr]; simp; omega
          have c5 : (k.tmod 7 == 5) = false := by rw [hkr2]; simp; omega
          have HK5 := Aside0.mk h5
          clear h5 hkr hkr2
          go_wp2_with fail
          obtain ⟨d', hd'⟩ := HDO.out _ HSX.out (fun h => absurd h HK5.out)
          refine hd'.mono ?_
          rintro e w5 ⟨rfl, h5⟩
          have hx := h5.drop.top
          have z0 := blk_cell hx 0
          have z1 := blk_cell hx 1
          have z2 := blk_cell hx 2
          have z3 := blk_cell hx 3
          have z4 := blk_cell hx 4
          have H5 := Aside0.mk h5
          clear h5 hx hd'
          go_wp2_with fail
          refine (same_true H5.out HN.out HC.out.1 HC.out.2).mono ?_
          rintro e w6 ⟨rfl, h6⟩
          have H6 := Aside0.mk (H5.out.step h6)
          clear h6
          go_wp2_with fail
          go_roundw
          case rel => exact ⟨j + 1, d', by have := HLT.out; omega, by rw [HW.out], H6.out.drop⟩
          case measure => exact meas HW.out HLT.out
      · have hjl : j = l.length := by omega
        have yd := blk_cell hS.gdev 0
        obtain ⟨Mx, hDx, _⟩ := hS.ref
        have hCD := hDx.2.drop.readsE.2
        have HIM := Aside0.mk (fun W (h : Below wr.heap.size wr W) => (HS.out.step h).image HN.out)
        have HBL := Aside0.mk hS.2.len
        clear hS hDx
        subst hjl
        clear hlt
        go_wp2_with fail
        refine wp_region_held_drew (S := fun W => W.cell? ⟨g7, 0, none⟩ = some (.pointer (some ⟨gm, 0, none⟩)) ∧ W.cell? ⟨g7, 2, none⟩ = some (.pointer (some ⟨gd, 0, none⟩)) ∧ W.cell? ⟨gd, 0, none⟩ = some (.slice (some ⟨gr, 0, none⟩) N N) ∧ (Kd.int .u8).C W (some ⟨gr, 0, none⟩) N d.B) (by kernel_rfl) ⟨z0, z2, yd, hCD⟩ (fun hS => ?_)
        refine wpAnyH_take (i := 0) (oi := { dst := some 67, op := Op.fieldAddr 30 (Operand.tmp 7) 0, type := 0, pos := "law.go:129", after := #[], guard := none }) (v := ?_) rfl (by kernel_rfl) (by kernel_rfl) (by kernel_rfl) (fun _ _ _ h => h) (Or.inl ⟨by rfl, ?_⟩) hS ?_
        rotate_left
        · intro W_ hSW_
          obtain ⟨z0_, z2_, yd_, hCD_⟩ := hSW_
          have k2_ := Kd.C_string (P := Try.prog) (src := 22) (dst := 9) (c := N) Try.underlying22 Try.underlying5 Try.underlying9 hCD_
          go_simp
          try with_reducible rfl
        try simp only [Act.put, List.setIfInBounds_toArray, List.set_cons_zero, List.set_cons_succ]
        refine wpAnyH_take (i := 1) (oi := { dst := some 68, op := Op.load 24 (Operand.tmp 67), type := 24, pos := "law.go:129", after := #[{ on := 0, ground := Ground.data }], guard := none }) (v := ?_) rfl (by kernel_rfl) (by kernel_rfl) (by kernel_rfl) (fun _ _ _ h => h) (Or.inl ⟨by rfl, ?_⟩) hS ?_
        rotate_left
        · intro W_ hSW_
          obtain ⟨z0_, z2_, yd_, hCD_⟩ := hSW_
          have k2_ := Kd.C_string (P := Try.prog) (src := 22) (dst := 9) (c := N) Try.underlying22 Try.underlying5 Try.underlying9 hCD_
          go_simp
          try with_reducible rfl
        try simp only [Act.put, List.setIfInBounds_toArray, List.set_cons_zero, List.set_cons_succ]
        refine wpAnyH_take (i := 4) (oi := { dst := some 71, op := Op.fieldAddr 30 (Operand.tmp 7) 2, type := 0, pos := "law.go:129", after := #[], guard := none }) (v := ?_) rfl (by kernel_rfl) (by kernel_rfl) (by kernel_rfl) (fun _ _ _ h => h) (Or.inl ⟨by rfl, ?_⟩) hS ?_
        rotate_left
        · intro W_ hSW_
          obtain ⟨z0_, z2_, yd_, hCD_⟩ := hSW_
          have k2_ := Kd.C_string (P := Try.prog) (src := 22) (dst := 9) (c := N) Try.underlying22 Try.underlying5 Try.underlying9 hCD_
          go_simp
          try with_reducible rfl
        try simp only [Act.put, List.setIfInBounds_toArray, List.set_cons_zero, List.set_cons_succ]
        refine wpAnyH_take (i := 5) (oi := { dst := some 72, op := Op.fieldAddr 28 (Operand.tmp 71) 0, type := 0, pos := "law.go:129", after := #[{ on := 4, ground := Ground.data }], guard := none }) (v := ?_) rfl (by kernel_rfl) (by kernel_rfl) (by kernel_rfl) (fun _ _ _ h => h) (Or.inl ⟨by rfl, ?_⟩) hS ?_
        rotate_left
        · intro W_ hSW_
          obtain ⟨z0_, z2_, yd_, hCD_⟩ := hSW_
          have k2_ := Kd.C_string (P := Try.prog) (src := 22) (dst := 9) (c := N) Try.underlying22 Try.underlying5 Try.underlying9 hCD_
          go_simp
          try with_reducible rfl
        try simp only [Act.put, List.setIfInBounds_toArray, List.set_cons_zero, List.set_cons_succ]
        refine wpAnyH_take (i := 6) (oi := { dst := some 73, op := Op.load 26 (Operand.tmp 72), type := 26, pos := "law.go:129", after := #[{ on := 5, ground := Ground.data }], guard := none }) (v := ?_) rfl (by kernel_rfl) (by kernel_rfl) (by kernel_rfl) (fun _ _ _ h => h) (Or.inl ⟨by rfl, ?_⟩) hS ?_
        rotate_left
        · intro W_ hSW_
          obtain ⟨z0_, z2_, yd_, hCD_⟩ := hSW_
          have k2_ := Kd.C_string (P := Try.prog) (src := 22) (dst := 9) (c := N) Try.underlying22 Try.underlying5 Try.underlying9 hCD_
          go_simp
          try with_reducible rfl
        try simp only [Act.put, List.setIfInBounds_toArray, List.set_cons_zero, List.set_cons_succ]
        refine wpAnyH_take (i := 7) (oi := { dst := some 74, op := Op.nilCheck (Operand.tmp 73), type := 0, pos := "law.go:129", after := #[{ on := 6, ground := Ground.data }], guard := none }) (v := ?_) rfl (by kernel_rfl) (by kernel_rfl) (by kernel_rfl) (fun _ _ _ h => h) (Or.inl ⟨by rfl, ?_⟩) hS ?_
        rotate_left
        · intro W_ hSW_
          obtain ⟨z0_, z2_, yd_, hCD_⟩ := hSW_
          have k2_ := Kd.C_string (P := Try.prog) (src := 22) (dst := 9) (c := N) Try.underlying22 Try.underlying5 Try.underlying9 hCD_
          go_simp
          try with_reducible rfl
        try simp only [Act.put, List.setIfInBounds_toArray, List.set_cons_zero, List.set_cons_succ]
        refine wpAnyH_take (i := 8) (oi := { dst := some 75, op := Op.fieldAddr 62 (Operand.tmp 74) 0, type := 0, pos := "law.go:129", after := #[{ on := 7, ground := Ground.data }], guard := none }) (v := ?_) rfl (by kernel_rfl) (by kernel_rfl) (by kernel_rfl) (fun _ _ _ h => h) (Or.inl ⟨by rfl, ?_⟩) hS ?_
        rotate_left
        · intro W_ hSW_
          obtain ⟨z0_, z2_, yd_, hCD_⟩ := hSW_
          have k2_ := Kd.C_string (P := Try.prog) (src := 22) (dst := 9) (c := N) Try.underlying22 Try.underlying5 Try.underlying9 hCD_
          go_simp
          try with_reducible rfl
        try simp only [Act.put, List.setIfInBounds_toArray, List.set_cons_zero, List.set_cons_succ]
        refine wpAnyH_take (i := 9) (oi := { dst := some 76, op := Op.load 22 (Operand.tmp 75), type := 22, pos := "law.go:129", after := #[{ on := 8, ground := Ground.data }], guard := none }) (v := ?_) rfl (by kernel_rfl) (by kernel_rfl) (by kernel_rfl) (fun _ _ _ h => h) (Or.inl ⟨by rfl, ?_⟩) hS ?_
        rotate_left
        · intro W_ hSW_
          obtain ⟨z0_, z2_, yd_, hCD_⟩ := hSW_
          have k2_ := Kd.C_string (P := Try.prog) (src := 22) (dst := 9) (c := N) Try.underlying22 Try.underlying5 Try.underlying9 hCD_
          go_simp
          try with_reducible rfl
        try simp only [Act.put, List.setIfInBounds_toArray, List.set_cons_zero, List.set_cons_succ]
        refine wpAnyH_take (i := 10) (oi := { dst := some 77, op := Op.convert 22 9 (Operand.tmp 76), type := 9, pos := "law.go:129", after := #[{ on := 9, ground := Ground.data }], guard := none }) (v := ?_) rfl (by kernel_rfl) (by kernel_rfl) (by kernel_rfl) (fun _ _ _ h => h) (Or.inl ⟨by rfl, ?_⟩) hS ?_
        rotate_left
        · intro W_ hSW_
          obtain ⟨z0_, z2_, yd_, hCD_⟩ := hSW_
          have k2_ := Kd.C_string (P := Try.prog) (src := 22) (dst := 9) (c := N) Try.underlying22 Try.underlying5 Try.underlying9 hCD_
          go_simp
          try with_reducible rfl
        try simp only [Act.put, List.setIfInBounds_toArray, List.set_cons_zero, List.set_cons_succ]
        refine wpAnyH_ready (rs := [2]) (by kernel_rfl) (by simp) ?_
        refine AllReadyH.cons (o := { dst := some 69, op := Op.call { callee := Callee.value (Operand.func 28), args := #[Operand.tmp 68], argTypes := #[24] }, type := 22, pos := "law.go:129", after := #[{ on := 1, ground := Ground.data }], guard := none }) rfl (fun K_ hK_ => ?_) AllReadyH.nil
        go_simp
        refine (HIM.out _ (below_drew (Below.refl _ _))).mono ?_
        rintro e w6 ⟨v6, rfl, h6⟩
        obtain ⟨A6, c6, rfl, _, hC6⟩ := h6.readsN HBL.out
        have k6 := Kd.C_string (P := Try.prog) (src := 22) (dst := 9) (c := c6) Try.underlying22 Try.underlying5 Try.underlying9 hC6
        have HB6 := Aside0.mk h6.below
        have H6 := Aside0.mk (HS.out.drew.step h6.below)
        have HCD := Aside0.mk (Kd.C_below (show (Kd.int .u8).C wr.drew (some ⟨gr, 0, none⟩) N d.B from hS.2.2.2) h6.below)
        clear h6 hC6
        refine hK_.out _ _ (⟨blk_cell H6.out.top 0, blk_cell H6.out.top 2, blk_cell H6.out.gdev 0, HCD.out⟩) (fun hS_ => ?_)
        clear hK_ K_ hS
        have hS := hS_
        clear hS_
        try simp only [Act.put, List.setIfInBounds_toArray, List.set_cons_zero, List.set_cons_succ]
        refine wpAnyH_ready (rs := [3]) (by kernel_rfl) (by simp) ?_
        refine AllReadyH.cons (o := { dst := some 70, op := Op.convert 22 9 (Operand.tmp 69), type := 9, pos := "law.go:129", after := #[{ on := 2, ground := Ground.data }], guard := none }) rfl (fun K_ hK_ => ?_) AllReadyH.nil
        refine event_step (v := .string (strOfNums d.B)) (w1 := w6) rfl ?hrun ?_
        case hrun => first | (go_simp; done) | (go_simp; rfl)
        refine hK_.out _ _ (⟨blk_cell H6.out.top 0, blk_cell H6.out.top 2, blk_cell H6.out.gdev 0, HCD.out⟩) (fun hS_ => ?_)
        clear hK_ K_ hS
        have hS := hS_
        clear hS_
        try simp only [Act.put, List.setIfInBounds_toArray, List.set_cons_zero, List.set_cons_succ]
        refine wpAnyH_take (i := 11) (oi := { dst := some 78, op := Op.binOp BinOp.eql 9 (Operand.tmp 70) (Operand.tmp 77) 9, type := 4, pos := "law.go:129", after := #[{ on := 3, ground := Ground.data }, { on := 10, ground := Ground.data }], guard := none }) (v := ?_) rfl (by kernel_rfl) (by kernel_rfl) (by kernel_rfl) (fun _ _ _ h => h) (Or.inl ⟨by rfl, ?_⟩) hS ?_
        rotate_left
        · intro W_ hSW_
          go_simp
          try with_reducible rfl
        try simp only [Act.put, List.setIfInBounds_toArray, List.set_cons_zero, List.set_cons_succ]
        refine wpAnyH_take (i := 12) (oi := { dst := some 6, op := Op.assign (Operand.tmp 78), type := 4, pos := "law.go:129", after := #[{ on := 11, ground := Ground.data }, { on := 2, ground := Ground.chain }, { on := 0, ground := Ground.phase }, { on := 1, ground := Ground.phase }, { on := 2, ground := Ground.phase }, { on := 3, ground := Ground.phase }, { on := 4, ground := Ground.phase }, { on := 5, ground := Ground.phase }, { on := 6, ground := Ground.phase }, { on := 7, ground := Ground.phase }, { on := 8, ground := Ground.phase }, { on := 9, ground := Ground.phase }, { on := 10, ground := Ground.phase }, { on := 11, ground := Ground.phase }], guard := none }) (v := ?_) rfl (by kernel_rfl) (by kernel_rfl) (by kernel_rfl) (fun _ _ _ h => h) (Or.inl ⟨by rfl, ?_⟩) hS ?_
        rotate_left
        · intro W_ hSW_
          go_simp
          try with_reducible rfl
        try simp only [Act.put, List.setIfInBounds_toArray, List.set_cons_zero, List.set_cons_succ]
        refine wpAnyH_done (by kernel_rfl) ?_ _
        clear hS
        go_wp2_with fail
        go_ret
        exact ⟨by simp, below_step (HS.out.drew).below HB6.out⟩
theorem wf_b {l : List Int} (h : ∀ x ∈ l, (Lit.int .u8 x).wf = true) : ∀ x ∈ l, 0 ≤ x ∧ x < 256 := by
  intro x hx
  have := PUpdaterMatchesModel.wf_u8 h x hx
  omega
theorem MatchesModel_row {R0 R1 : Prop} (A : Option Addr) (cp : Nat) (p : List Int) (ch : Int) (B : Option Addr) (cb : Nat) (l : List S58) (w : World) (hr0 : (Kd.int .u8).C w A p.length p) (hc0 : p.length ≤ cp) (hr1 : k58.C w B l.length l) (hcb : l.length ≤ cb)
    (g0 : R0 ∧ p.length ≤ maxLen ∧ ∀ x ∈ p, (Lit.int .u8 x).wf = true) (g1 : (Lit.int .i64 ch).wf = true) (g2 : R1 ∧ l.length ≤ maxLen ∧ ∀ x ∈ l, (Lit.int .u8 x.f0).wf = true ∧ (Lit.int .i64 x.f1).wf = true ∧ (Lit.int .i64 x.f2).wf = true ∧ (Lit.int .u16 x.f3).wf = true ∧ (Lit.int .i64 x.f4).wf = true ∧ x.f5.length * Try.prog.bytesOf 5 ≤ reachBytes ∧ x.f5.length ≤ maxLen ∧ ∀ y ∈ x.f5, (Lit.int .u8 y).wf = true) :
    Calls Try.prog 7 #[.slice A p.length cp, .int .i64 ch, .slice B l.length cb] w fun e w' => e = .returned (.bool true) ∧ Below w.heap.size w w' := by
  have hm : maxLen = 9223372036854775807 := rfl
  refine MatchesModel_law A cp p ch B cb l w hr0 hr1 hcb (wf_b g0.2.2) (fun x hx => ?_) (by have := g2.2.1; omega)
  obtain ⟨h0, h1, h2, h3, h4, _, _, h5⟩ := g2.2.2 x hx
  have e0 := wf_b (l := [x.f0]) (by simpa using h0) x.f0 (by simp)
  obtain ⟨v, hv⟩ := PUpdaterMatchesModel.wf_u16 h3
  have := v.isLt
  exact ⟨e0.1, by omega, by omega, h4, wf_b h5⟩
end Go.Proofs.Ytfcldacjnegacaa.Up
