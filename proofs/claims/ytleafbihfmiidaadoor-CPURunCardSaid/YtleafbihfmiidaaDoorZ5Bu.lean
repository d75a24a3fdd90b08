/- What this claim needs of Bu. Parted by prune.py. -/
import Derived.Test.YtleafbihfmiidaaDoorZ5QAlx0
import Derived.Test.YtleafbihfmiidaaDoorZ5Sl
import Derived.Deep.RegionHeld
import Derived.Deep.RegionWith
import Derived.Deep.MidRow
namespace Go.Proofs.YtleafbihfmiidaaDoor.QAl
open Go.RowKit Go.Proofs.YtleafbihfmiidaaDoorW.PrintWords Go.Proofs.YtleafbihfmiidaaDoorW.PrintLast Go.Proofs.YtleafbihfmiidaaDoorW.PrintMore Go.Proofs.YtleafbihfmiidaaDoor.Sl
set_option linter.unusedVariables false
set_option linter.unusedSimpArgs false
/-- A bus: its words, the readings that are left, the failing call, the calls. -/
structure Bs where
  words : List Int
  reads : List Int
  fail : Int
  calls : List S100
/-- A call is recorded. -/
def Bs.log (B : Bs) (k a b : Int) : Bs := { B with calls := B.calls ++ [⟨k, a, b⟩] }
/-- Whether a call that is now made does not fail. -/
def Bs.ok (B : Bs) : Bool := !decide (((B.calls.length : Int) + 1) = B.fail)
/-- A slice value that reads as xs while c stands. -/
def SeenIn (c : Chunk) (v : Value) (xs : List Int) : Prop := ∃ A cp, v = .slice A xs.length cp ∧ xs.length ≤ cp ∧ ∀ W S, c.P W S → (Kd.int .i16).C W A xs.length xs
theorem seen_row {w0 w : World} {v : Value} {xs : List Int} {L : List Chunk} (h : Mem w0 w (row w0 (Kd.int .i16) 22 v xs :: L)) : SeenIn (row w0 (Kd.int .i16) 22 v xs) v xs := by
  obtain ⟨A, c, e, h1, h2⟩ := h.reads
  refine ⟨A, c, e, h1, fun W S hp => ?_⟩
  have hp : (Kd.int .i16).R 22 W w0.heap.size S v xs := hp
  obtain ⟨A', c', e', _, h3⟩ := Kd.R_reads hp
  rw [e] at e'
  injection e' with e1 _ e3
  subst e1
  exact h3
/-- The bus at block gw: its words' row, the row in which the readings lie, its calls' row. -/
def BusM (w0 w : World) (gw : Nat) (B : Bs) (L : List Chunk) : Prop :=
  ∃ (wv rv rv0 cv : Value) (rs0 : List Int), SeenIn (row w0 (Kd.int .i16) 22 rv0 rs0) rv B.reads ∧
    Mem w0 w (ob gw (.cells #[wv, rv, .int .i64 B.fail, cv] 50) :: row w0 (Kd.int .i16) 22 wv B.words :: row w0 (Kd.int .i16) 22 rv0 rs0 :: row w0 k100 100 cv B.calls :: L)
section
variable {L : List Chunk} {w0 w w' : World} {gw : Nat} {B : Bs}
theorem BusM.below (h : BusM w0 w gw B L) : Below w0.heap.size w0 w := by
  obtain ⟨_, _, _, _, _, _, hm⟩ := h
  exact hm.below
theorem BusM.step (h : BusM w0 w gw B L) (hb : Below w.heap.size w w') : BusM w0 w' gw B L := by
  obtain ⟨wv, rv, rv0, cv, rs0, hs, hm⟩ := h
  exact ⟨wv, rv, rv0, cv, rs0, hs, hm.step hb⟩
theorem BusM.lift (h : BusM w0 w gw B L) : ∃ M, Mem w0 w (L ++ M) ∧ ∀ w' L', Mem w0 w' (L' ++ M) → BusM w0 w' gw B L' := by
  obtain ⟨wv, rv, rv0, cv, rs0, hs, hm⟩ := h
  exact ⟨_, hm.c4, fun w' L' hm' => ⟨wv, rv, rv0, cv, rs0, hs, hm'.u4⟩⟩
end
set_option maxRecDepth 100000 in
set_option maxHeartbeats 4000000 in
theorem call_call {L : List Chunk} {w0 w : World} {gw : Nat} {B : Bs} (h : BusM w0 w gw B L) (hl : B.calls.length ≤ 100000) (k a b : Int) :
    Calls Tryd.prog 64 #[.pointer (some ⟨gw, 0, none⟩), .int .i64 k, .int .i64 a, .int .i64 b] w fun e w' => e = .returned (.bool B.ok) ∧ BusM w0 w' gw (B.log k a b) L := by
  obtain ⟨words, reads, fail, calls⟩ := B
  obtain ⟨wv, rv, rv0, cv, rs0, hs, hm⟩ := h
  dsimp only at hs hm hl
  obtain ⟨n, hn⟩ : ∃ n, calls.length = n := ⟨_, rfl⟩
  have hc3 := hm.p3
  obtain ⟨A, c, rfl, hnc⟩ : ∃ A c, cv = .slice A n c ∧ n ≤ c := by
    obtain ⟨A, c, e, h1, _⟩ := hc3.readsN hn
    exact ⟨A, c, e, h1⟩
  have HM := Aside0.mk hc3
  have HN := Aside0.mk hn
  have x3 := blk_cell hm.get 3
  have hgl := hm.lt
  have HS := Aside0.mk hs
  have HL := Aside0.mk hl
  clear hs hm hc3 hl hn hnc
  have hB : (Bs.mk words reads fail calls).ok = !decide (((n : Int) + 1) = fail) := by rw [← HN.out]; rfl
  rw [hB]
  clear hB
  go_enter Tryd.func64, Tryd.ntmps64
  go_wp2_with (
      (with_reducible refine gate_builtin (b := .append) (xs := #[.tmp 13, .tmp 18]) rfl ?_); at_builtin
      refine Mem.wp_append k100 (w0 := w0) rfl (.tmp 13) (.tmp 18) 48 100 (.agg #[.int .i64 0, .int .i64 0, .int .i64 0]) 24 rfl Tryd.underlying48 info100 rfl (by decide) (by omega) (.slice A n c) calls (⟨k, a, b⟩ : S100) [.int .i64 k, .int .i64 a, .int .i64 b] rfl _ rfl (by simp) (k100_mkM _ _ _ (⟨k, a, b⟩ : S100)) HM.out (by have := HL.out; have := HN.out; omega) ?_
      intro v1 w1 hm1
      obtain ⟨A1, cc1, rfl, _⟩ := hm1.readsN (n := n + 1) (by rw [List.length_append, HN.out]; rfl)
      have hmq := hm1.q3
      have hb := hmq.get
      have x3 := blk_cell hb 3
      have x2 := blk_cell hb 2
      have f3 := blk_frozen hb 3
      have HM1 := Aside0.mk (hmq.put (cs' := #[wv, rv, .int .i64 fail, .slice A1 (n + 1) cc1]) 3 (.slice A1 (n + 1) cc1) rfl)
      clear hm1 hmq hb)
  have hq := HM1.out.get
  have y2 := blk_cell hq 2
  have y3 := blk_cell hq 3
  clear hq x2 x3 f3
  by_cases he : ((n : Int) + 1) = fail
  · subst he
    go_region
    go_wp2_with fail
    go_ret
    exact ⟨by simp, wv, rv, rv0, _, rs0, HS.out, HM1.out.drewN _⟩
  · have e1 : (((n : Int) + 1) != fail) = true := by simpa using he
    have e2 : (((n : Int) + 1) == fail) = false := beq_eq_false_iff_ne.2 he
    go_region
    go_wp2_with fail
    go_ret
    exact ⟨by simp [he], wv, rv, rv0, _, rs0, HS.out, HM1.out.drewN _⟩
theorem Spend_call {L : List Chunk} {w0 w : World} {gw : Nat} {B : Bs} (h : BusM w0 w gw B L) (hl : B.calls.length ≤ 100000) (a b : Int) :
    Calls Tryd.prog 36 #[.pointer (some ⟨gw, 0, none⟩), .int .i64 a, .int .i64 b] w fun e w' => e = .returned (.bool B.ok) ∧ BusM w0 w' gw (B.log 8 a b) L := by
  have HK := Aside0.mk (call_call h hl 8 a b)
  clear h hl
  go_enter Tryd.func36, Tryd.ntmps36
  go_wp2_with fail
  refine HK.out.mono ?_
  rintro e w1 ⟨rfl, h1⟩
  have H1 := Aside0.mk h1
  clear h1
  go_wp2_with fail
  go_ret
  exact ⟨rfl, H1.out⟩
theorem Send_call {L : List Chunk} {w0 w : World} {gw : Nat} {B : Bs} (h : BusM w0 w gw B L) (hl : B.calls.length ≤ 100000) (a b : Int) (hb0 : -32768 ≤ b) (hb1 : b ≤ 32767) :
    Calls Tryd.prog 45 #[.pointer (some ⟨gw, 0, none⟩), .int .i64 a, .int .i16 b] w fun e w' => e = .returned (.bool B.ok) ∧ BusM w0 w' gw (B.log 4 a b) L := by
  have HK := Aside0.mk (call_call h hl 4 a b)
  clear h hl
  have hw : wrap64 b = b := by unfold wrap64; omega
  go_enter Tryd.func45, Tryd.ntmps45
  go_wp2_with fail
  refine HK.out.mono ?_
  rintro e w1 ⟨rfl, h1⟩
  have H1 := Aside0.mk h1
  clear h1
  go_wp2_with fail
  go_ret
  exact ⟨rfl, H1.out⟩
theorem Emit_call {L : List Chunk} {w0 w : World} {gw : Nat} {B : Bs} (h : BusM w0 w gw B L) (hl : B.calls.length ≤ 100000) (a : Int) (hb0 : -32768 ≤ a) (hb1 : a ≤ 32767) :
    Calls Tryd.prog 46 #[.pointer (some ⟨gw, 0, none⟩), .int .i16 a] w fun e w' => e = .returned (.bool B.ok) ∧ BusM w0 w' gw (B.log 5 a 0) L := by
  have HK := Aside0.mk (call_call h hl 5 a 0)
  clear h hl
  have hw : wrap64 a = a := by unfold wrap64; omega
  go_enter Tryd.func46, Tryd.ntmps46
  go_wp2_with fail
  refine HK.out.mono ?_
  rintro e w1 ⟨rfl, h1⟩
  have H1 := Aside0.mk h1
  clear h1
  go_wp2_with fail
  go_ret
  exact ⟨rfl, H1.out⟩
theorem Output_call {L : List Chunk} {w0 w : World} {gw : Nat} {B : Bs} (h : BusM w0 w gw B L) (hl : B.calls.length ≤ 100000) (a b : Int) (hb0 : -32768 ≤ b) (hb1 : b ≤ 32767) :
    Calls Tryd.prog 47 #[.pointer (some ⟨gw, 0, none⟩), .int .i64 a, .int .i16 b] w fun e w' => e = .returned (.bool B.ok) ∧ BusM w0 w' gw (B.log 6 a b) L := by
  have HK := Aside0.mk (call_call h hl 6 a b)
  clear h hl
  have hw : wrap64 b = b := by unfold wrap64; omega
  go_enter Tryd.func47, Tryd.ntmps47
  go_wp2_with fail
  refine HK.out.mono ?_
  rintro e w1 ⟨rfl, h1⟩
  have H1 := Aside0.mk h1
  clear h1
  go_wp2_with fail
  go_ret
  exact ⟨rfl, H1.out⟩
theorem Log_call {L : List Chunk} {w0 w : World} {gw : Nat} {B : Bs} (h : BusM w0 w gw B L) (hl : B.calls.length ≤ 100000) (a : Int) :
    Calls Tryd.prog 48 #[.pointer (some ⟨gw, 0, none⟩), .int .i64 a] w fun e w' => e = .returned (.bool B.ok) ∧ BusM w0 w' gw (B.log 7 a 0) L := by
  have HK := Aside0.mk (call_call h hl 7 a 0)
  clear h hl
  go_enter Tryd.func48, Tryd.ntmps48
  go_wp2_with fail
  refine HK.out.mono ?_
  rintro e w1 ⟨rfl, h1⟩
  have H1 := Aside0.mk h1
  clear h1
  go_wp2_with fail
  go_ret
  exact ⟨rfl, H1.out⟩
/-- An address of data. -/
structure DataAt (ad : Int) (i : Nat) : Prop where
  e : ad = 2560 + 2 * (i : Int)
  lt : i < 512
theorem da_eqs {ad : Int} {i : Nat} (h : DataAt ad i) : ∃ j : Nat, wrap64 (ad - 2560) = (j : Int) ∧ ad - 2560 = (j : Int) ∧ (j : Int).tdiv 2 = (i : Int) ∧ (j : Int) / 2 = (i : Int) ∧ wrap64 (i : Int) = (i : Int) ∧ wrap64 (j : Int) = (j : Int) := by
  obtain ⟨e, lt⟩ := h
  refine ⟨2 * i, ?_, by omega, ?_, by omega, ?_, by unfold wrap64; omega⟩
  · unfold wrap64; omega
  · rw [Int.tdiv_eq_ediv_of_nonneg (by omega)]; omega
  · unfold wrap64; omega
def Bs.setW (B : Bs) (i : Nat) (v : Int) : Bs := { B with words := B.words.set i v }
theorem BusM.words {L : List Chunk} {w0 w : World} {gw : Nat} {B : Bs} (h : BusM w0 w gw B L) : ∃ A c, B.words.length ≤ c ∧ w.cell? ⟨gw, 0, none⟩ = some (.slice A B.words.length c) ∧ (Kd.int .i16).C w A B.words.length B.words := by
  obtain ⟨wv, rv, rv0, cv, rs0, hs, hm⟩ := h
  obtain ⟨A, c, rfl, h1, h2⟩ := hm.drop.reads
  exact ⟨A, c, h1, blk_cell hm.get 0, h2⟩
theorem i16_cell {w : World} {A : Option Addr} {n : Nat} {d : List Int} (h : (Kd.int .i16).C w A n d) {j : Nat} (hj : j < n) : ∃ b o, A = some ⟨b, o, none⟩ ∧ w.cell? ⟨b, o + j, none⟩ = some (.int .i16 (d.getD j 0)) := by
  obtain ⟨b, o, cs, rfl, _, hK, hc⟩ := C_at 0 (by decide) h j hj
  have hK : cs = [.int .i16 (d.getD j 0)] := hK
  subst hK
  have e : (Kd.int .i16).sz = 1 := rfl
  rw [e] at hc
  refine ⟨b, o, rfl, ?_⟩
  have := hc 0 _ rfl
  simpa using this
set_option maxRecDepth 100000 in
set_option maxHeartbeats 2000000 in
theorem Load_call {L : List Chunk} {w0 w : World} {gw : Nat} {B : Bs} (h : BusM w0 w gw B L) (hl : B.calls.length ≤ 100000) {ad : Int} {i : Nat} (hd : DataAt ad i) :
    Calls Tryd.prog 41 #[.pointer (some ⟨gw, 0, none⟩), .int .i64 ad] w fun e w' => e = .returned (.tuple #[.int .i16 (B.words.getD i 0), .bool B.ok]) ∧ BusM w0 w' gw (B.log 1 ad 0) L := by
  have HK := Aside0.mk (call_call h hl 1 ad 0)
  obtain ⟨x, hx⟩ : ∃ x, B.words.getD i 0 = x := ⟨_, rfl⟩
  rw [hx]
  have HX := Aside0.mk hx
  clear hx
  obtain ⟨j, e1, e2, e3, e4, e5, e6⟩ := da_eqs hd
  have HE := Aside0.mk (And.intro e1 (And.intro e2 (And.intro e3 (And.intro e4 (And.intro e5 e6)))))
  clear h hl hd e1 e2 e3 e4 e5 e6
  go_enter Tryd.func41, Tryd.ntmps41
  go_wp2_with fail
  refine HK.out.mono ?_
  rintro e w1 ⟨rfl, h1⟩
  have H1 := Aside0.mk h1
  obtain ⟨A, c, hc, x0, hC⟩ := h1.words
  replace hC : (Kd.int .i16).C w1 A B.words.length B.words := hC
  replace x0 : w1.cell? ⟨gw, 0, none⟩ = some (.slice A B.words.length c) := x0
  clear h1 hc
  obtain ⟨n, hn⟩ : ∃ n, B.words.length = n := ⟨_, rfl⟩
  rw [hn] at x0 hC
  have HC := Aside0.mk hC
  have HN := Aside0.mk hn
  clear hC hn
  obtain ⟨e1, e2, e3, e4, e5, e6⟩ := HE.out
  by_cases hi : i < n
  · have c1 : decide (n ≤ i) = false := decide_eq_false (by omega)
    have c1' : decide ((n : Int) ≤ (i : Int)) = false := decide_eq_false (by omega)
    obtain ⟨b, o, rfl, y0⟩ := i16_cell HC.out hi
    rw [HX.out] at y0
    go_wp2_with fail
    go_ret2
    exact ⟨rfl, H1.out⟩
  · have c1 : decide (n ≤ i) = true := decide_eq_true (by omega)
    have c1' : decide ((n : Int) ≤ (i : Int)) = true := decide_eq_true (by omega)
    have HZ := Aside0.mk (show x = 0 by rw [← HX.out]; rw [List.getD_eq_getElem?_getD, List.getElem?_eq_none (by rw [HN.out]; omega)]; rfl)
    go_wp2_with fail
    go_ret2
    exact ⟨by rw [HZ.out]; rfl, H1.out⟩
set_option maxRecDepth 100000 in
set_option maxHeartbeats 2000000 in
theorem Store_call {L : List Chunk} {w0 w : World} {gw : Nat} {B : Bs} (h : BusM w0 w gw B L) (hl : B.calls.length ≤ 100000) {ad : Int} {i : Nat} (hd : DataAt ad i) (v : Int) (hv0 : -32768 ≤ v) (hv1 : v ≤ 32767) :
    Calls Tryd.prog 42 #[.pointer (some ⟨gw, 0, none⟩), .int .i64 ad, .int .i16 v] w fun e w' => e = .returned (.bool B.ok) ∧ BusM w0 w' gw (if B.ok = true then (B.log 2 ad v).setW i v else B.log 2 ad v) L := by
  have HK := Aside0.mk (call_call h hl 2 ad v)
  obtain ⟨j, e1, e2, e3, e4, e5, e6⟩ := da_eqs hd
  have HE := Aside0.mk (And.intro e1 (And.intro e2 (And.intro e3 (And.intro e4 (And.intro e5 e6)))))
  have hw : wrap64 v = v := by unfold wrap64; omega
  clear h hl hd e1 e2 e3 e4 e5 e6
  obtain ⟨k, hk⟩ : ∃ k, B.ok = k := ⟨_, rfl⟩
  rw [hk] at HK ⊢
  cases k with
  | false =>
    rw [if_neg (by simp)]
    clear hk
    go_enter Tryd.func42, Tryd.ntmps42
    go_wp2_with fail
    refine HK.out.mono ?_
    rintro e w1 ⟨rfl, h1⟩
    have H1 := Aside0.mk h1
    clear h1
    go_wp2_with fail
    go_ret
    exact ⟨rfl, H1.out⟩
  | true =>
    rw [if_pos rfl]
    clear hk
    go_enter Tryd.func42, Tryd.ntmps42
    go_wp2_with fail
    refine HK.out.mono ?_
    rintro e w1 ⟨rfl, h1⟩
    obtain ⟨wv, rv, rv0, cv, rs0, hs, hm⟩ := h1
    have HS := Aside0.mk hs
    clear hs
    have hm : Mem w0 w1 (ob gw (.cells #[wv, rv, .int .i64 B.fail, cv] 50) :: row w0 (Kd.int .i16) 22 wv B.words :: row w0 (Kd.int .i16) 22 rv0 rs0 :: row w0 k100 100 cv (B.log 2 ad v).calls :: L) := hm
    obtain ⟨n, hn⟩ : ∃ n, B.words.length = n := ⟨_, rfl⟩
    obtain ⟨A, c, rfl, hnc⟩ : ∃ A c, wv = .slice A n c ∧ n ≤ c := by
      obtain ⟨A, c, e, h1, _⟩ := hm.drop.readsN hn
      exact ⟨A, c, e, h1⟩
    have x0 := blk_cell hm.get 0
    have HM := Aside0.mk hm
    have HN := Aside0.mk hn
    clear hm hn hnc
    obtain ⟨e1, e2, e3, e4, e5, e6⟩ := HE.out
    by_cases hi : i < n
    · have c1 : decide (i < n) = true := decide_eq_true hi
      have c1' : decide ((i : Int) < (n : Int)) = true := decide_eq_true (by omega)
      obtain ⟨g, cp, hg, _⟩ := HM.out.drop.row_form (by rw [HN.out]; omega)
      rw [HN.out] at hg
      injection hg with hA _ hcp
      subst hA hcp
      obtain ⟨y0, f0⟩ := HM.out.drop.row_cell (0 : Int) i (by rw [HN.out]; exact hi)
      have HM2 := Aside0.mk ((HM.out.p1.row_put i v).p1)
      go_wp2_with fail
      go_ret
      exact ⟨rfl, _, rv, rv0, cv, rs0, HS.out, HM2.out⟩
    · have c1 : decide (i < n) = false := decide_eq_false hi
      have c1' : decide ((i : Int) < (n : Int)) = false := decide_eq_false (by omega)
      have hz : (B.log 2 ad v).setW i v = B.log 2 ad v := by
        unfold Bs.setW Bs.log
        rw [List.set_eq_of_length_le (by show B.words.length ≤ i; rw [HN.out]; omega)]
      have HZ := Aside0.mk hz
      clear hz
      go_wp2_with fail
      go_ret
      exact ⟨rfl, by rw [HZ.out]; exact ⟨_, rv, rv0, cv, rs0, HS.out, HM.out⟩⟩
def Bs.readV (B : Bs) : Int := B.reads.getD 0 0
def Bs.readN (B : Bs) : Bs := { B with reads := B.reads.tail }
set_option maxRecDepth 100000 in
set_option maxHeartbeats 2000000 in
theorem Read_call {L : List Chunk} {w0 w : World} {gw : Nat} {B : Bs} (h : BusM w0 w gw B L) (hl : B.calls.length ≤ 100000) (a : Int) :
    Calls Tryd.prog 44 #[.pointer (some ⟨gw, 0, none⟩), .int .i64 a] w fun e w' => e = .returned (.tuple #[.int .i16 B.readV, .bool B.ok]) ∧ BusM w0 w' gw (B.log 3 a 0).readN L := by
  have HK := Aside0.mk (call_call h hl 3 a 0)
  clear h hl
  go_enter Tryd.func44, Tryd.ntmps44
  go_wp2_with fail
  refine HK.out.mono ?_
  rintro e w1 ⟨rfl, h1⟩
  obtain ⟨words, reads, fail, calls⟩ := B
  obtain ⟨wv, rv, rv0, cv, rs0, hs, hm⟩ := h1
  have hm : Mem w0 w1 (ob gw (.cells #[wv, rv, .int .i64 fail, cv] 50) :: row w0 (Kd.int .i16) 22 wv words :: row w0 (Kd.int .i16) 22 rv0 rs0 :: row w0 k100 100 cv (Bs.log ⟨words, reads, fail, calls⟩ 3 a 0).calls :: L) := hm
  have hs : SeenIn (row w0 (Kd.int .i16) 22 rv0 rs0) rv reads := hs
  have HM := Aside0.mk hm
  have x1 := blk_cell hm.get 1
  have f1 := blk_frozen hm.get 1
  clear hm
  obtain ⟨A, c, rfl, hlc, hC⟩ := hs
  obtain ⟨rr, hrr⟩ : ∃ rr, (Bs.log ⟨words, reads, fail, calls⟩ 3 a 0).calls = rr := ⟨_, rfl⟩
  cases reads with
  | nil =>
    have HS := Aside0.mk (show SeenIn (row w0 (Kd.int .i16) 22 rv0 rs0) (.slice A 0 c) [] from ⟨A, c, rfl, hlc, hC⟩)
    clear hC hlc hrr
    go_wp2_with fail
    go_ret2
    exact ⟨rfl, wv, _, rv0, cv, rs0, HS.out, HM.out⟩
  | cons x xs =>
    have hR : ∃ T, (row w0 (Kd.int .i16) 22 rv0 rs0).P w1 T := by
      obtain ⟨T, h1, _⟩ := HM.out.drop.drop.front
      exact ⟨T, h1⟩
    obtain ⟨T, hR⟩ := hR
    have hC1 := hC w1 T hR
    obtain ⟨b, o, rfl, y0⟩ := i16_cell hC1 (j := 0) (by simp)
    replace y0 : w1.cell? ⟨b, o, none⟩ = some (.int .i16 x) := y0
    have hlc' : xs.length + 1 ≤ c := hlc
    have h0 : ¬ c = 0 := by omega
    replace x1 : w1.cell? ⟨gw, 1, none⟩ = some (.slice (some ⟨b, o, none⟩) (xs.length + 1) c) := x1
    have hz : ((xs.length : Int) + 1 == 0) = false := beq_eq_false_iff_ne.2 (by omega)
    have hz' : (xs.length + 1 == 0) = false := rfl
    have hc1 : (1 : Int) ≤ (xs.length : Int) + 1 := by omega
    have hadd : (some (⟨b, o, none⟩ : Addr)).map (fun x => x.add (1 * (Kd.int .i16).sz)) = some ⟨b, o + 1, none⟩ := by
      rw [show (Kd.int .i16).sz = 1 from rfl, Nat.mul_one, Option.map_some, Addr.add_mid]
    have HADD := Aside0.mk hadd
    clear hadd
    by_cases hc2 : c = 1
    · have hx0 : xs.length = 0 := by omega
      have HS := Aside0.mk (show SeenIn (row w0 (Kd.int .i16) 22 rv0 rs0) (.slice (some ⟨b, o, none⟩) xs.length (c - 1)) xs from ⟨_, c - 1, rfl, by omega, fun W S hp => by
        have h1 := Kd.C_drop (m := 1) (c := c) (hC W S hp) (by simp) hlc
        rw [if_pos hc2] at h1
        exact h1⟩)
      have HM1 := Aside0.mk (HM.out.put (cs' := #[wv, .slice (some ⟨b, o, none⟩) xs.length (c - 1), .int .i64 fail, cv]) 1 (.slice (some ⟨b, o, none⟩) xs.length (c - 1)) rfl)
      subst hc2
      clear hx0 hC1 hR hC hlc hlc' hrr
      generalize xs.length = n at *
      go_wp2_with fail
      go_ret2
      exact ⟨rfl, wv, _, rv0, cv, rs0, HS.out, HM1.out⟩
    · have HS := Aside0.mk (show SeenIn (row w0 (Kd.int .i16) 22 rv0 rs0) (.slice (some ⟨b, o + 1, none⟩) xs.length (c - 1)) xs from ⟨_, c - 1, rfl, by omega, fun W S hp => by
        have h1 := Kd.C_drop (m := 1) (c := c) (hC W S hp) (by simp) hlc
        rw [if_neg hc2, HADD.out] at h1
        exact h1⟩)
      have HM1 := Aside0.mk (HM.out.put (cs' := #[wv, .slice (some ⟨b, o + 1, none⟩) xs.length (c - 1), .int .i64 fail, cv]) 1 (.slice (some ⟨b, o + 1, none⟩) xs.length (c - 1)) rfl)
      clear hC1 hR hC hlc hlc' hrr
      generalize xs.length = n at *
      go_wp2_with fail
      go_ret2
      exact ⟨rfl, wv, _, rv0, cv, rs0, HS.out, HM1.out⟩
theorem tkH {P : Program} {ops : Array Oper} {Q : Exit → Act → World → Prop} {md : Region.Mode} {S : World → Prop} {i : Nat} {N : Option Tmp} {oi : Oper} {v : Value} {fuel : Nat} {listed : Array Bool} {a : Act} {w : World} (hi : ops[i]? = some oi) (hN : oi.dst = N)
    (hs : Region.noSelect ops = true) (hf : Region.free md ops listed i = true) (hr : (Region.ready md ops listed).contains i = true) (hQ : ∀ c a w, Q (.panic c) (a.put N v) w → Q (.panic c) a w) (hy : YieldsIf P ops S oi v a) (hS : S w)
    (h : wpAnyH P md ops Q S fuel (listed.setIfInBounds i true) (a.put N v) w) : wpAnyH P md ops Q S (fuel + 1) listed a w := by
  subst hN
  exact wpAnyH_take hi hs hf hr hQ hy hS h
end Go.Proofs.YtleafbihfmiidaaDoor.QAl
