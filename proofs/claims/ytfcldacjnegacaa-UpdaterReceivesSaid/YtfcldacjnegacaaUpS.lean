/- UpR, UpS, merged. -/
import Derived.Test.YtfcldacjnegacaaUpG
/- The reference: its device's read and write, at, put, number, chunks. -/
namespace Go.Proofs.Ytfcldacjnegacaa.Up
open Go.RowKit Go.Proofs.YtfcldacjnegacaaW.PrintWords Go.Proofs.YtfcldacjnegacaaW.PrintLast Go.Proofs.YtfcldacjnegacaaW.PrintMore Go.Proofs.Ytfcldacjnegacaa.Sl
set_option linter.unusedVariables false
set_option linter.unusedSimpArgs false
variable {L : List Chunk} {w0 w w' : World} {gd gr N c : Nat} {d : Dv} {slot chunk : Int}
/-- The reference's device: its block and its row. -/
@[reducible] def dev (w0 : World) (gd gr N : Nat) (d : Dv) (L : List Chunk) : List Chunk :=
  blk gd #[.slice (some ⟨gr, 0, none⟩) N N, .bool d.off, .int .i64 d.left] 62 :: row w0 (Kd.int .u8) 5 (.slice (some ⟨gr, 0, none⟩) N N) d.B :: L
def DvM (w0 w : World) (gd gr N : Nat) (d : Dv) (L : List Chunk) : Prop := d.Ok N ∧ Mem w0 w (dev w0 gd gr N d L)
theorem DvM.step (h : DvM w0 w gd gr N d L) (hb : Below w.heap.size w w') : DvM w0 w' gd gr N d L := ⟨h.1, h.2.step hb⟩
theorem DvM.drew' (h : DvM w0 w gd gr N d L) : DvM w0 w.drew gd gr N d L := ⟨h.1, h.2.drew⟩
theorem DvM.lt (h : DvM w0 w gd gr N d L) : gd < w.heap.size := h.2.lt
/-- The reference's updater, passed by value. -/
def rup (gd : Nat) (slot chunk : Int) : Value := .agg #[.pointer (some ⟨gd, 0, none⟩), .int .i64 slot, .int .i64 chunk]
theorem read_call (hM : DvM w0 w gd gr N d L) (a : Nat) (h : a < N) (hN : N ≤ 20000) :
    Calls Try.prog 59 #[.pointer (some ⟨gd, 0, none⟩), .int .i64 (a : Int)] w fun e w' => e = .returned (.int .i64 (d.rd a)) ∧ w = w' := by
  obtain ⟨hd, hM⟩ := hM
  have hc0 := blk_cell hM.get 0
  have hc1 := blk_cell hM.get 1
  obtain ⟨hr, _⟩ := hM.drop.row_cell (0 : Int) a (by rw [hd.len]; exact h)
  have hby : 0 ≤ d.B.getD a 0 ∧ d.B.getD a 0 < 256 := by
    have hl : a < d.B.length := by rw [hd.len]; exact h
    have := hd.byte (d.B.getD a 0) (by rw [List.getD_eq_getElem?_getD, List.getElem?_eq_getElem hl]; exact List.getElem_mem hl)
    exact this
  unfold Dv.rd
  generalize d.B.getD a 0 = x at *
  have e1 : wrap64 x = x := by unfold wrap64; omega
  have e2 : IntKind.i64.wrap x = x := by rw [IntKind.wrap_i64]; omega
  have c3 : a < N := h
  clear hM
  cases ho : d.off with
  | true =>
    rw [ho] at hc1
    clear ho hr hd
    rw [if_pos rfl]
    go_enter Try.func59, Try.ntmps59
    go_wp2
    go_ret
    exact ⟨rfl, rfl⟩
  | false =>
    rw [ho] at hc1
    rw [if_neg (by simp)]
    clear ho hd
    go_enter Try.func59, Try.ntmps59
    go_wp2
    go_ret
    exact ⟨rfl, rfl⟩
theorem dwrite_call (hM : DvM w0 w gd gr N d L) (a : Nat) (x : Int) (hx : 0 ≤ x ∧ x < 256) (h : a < N) (hN : N ≤ 20000) :
    Calls Try.prog 56 #[.pointer (some ⟨gd, 0, none⟩), .int .i64 (a : Int), .int .u8 x] w fun e w' => e = .returned (.bool (d.wr a x).2) ∧ DvM w0 w' gd gr N (d.wr a x).1 L := by
  obtain ⟨hd, hM⟩ := hM
  have hd' := hd.wr (a := a) hx
  obtain ⟨B, o, l⟩ := d
  have hB : B.length = N := hd.len
  have hhi : l ≤ 1000 := hd.hi
  have hlo : -1 ≤ l := hd.lo
  have hM : Mem w0 w (blk gd #[.slice (some ⟨gr, 0, none⟩) N N, .bool o, .int .i64 l] 62 :: row w0 (Kd.int .u8) 5 (.slice (some ⟨gr, 0, none⟩) N N) B :: L) := hM
  have hc0 := blk_cell hM.get 0
  have hc1 := blk_cell hM.get 1
  have hc2 := blk_cell hM.get 2
  have hf1 := blk_frozen hM.get 1
  have hf2 := blk_frozen hM.get 2
  have hne := hM.ne_own
  have hne' : ¬ gr = gd := fun e => hne e.symm
  obtain ⟨hr, hrf⟩ := hM.drop.row_cell (0 : Int) a (by rw [hB]; exact h)
  have HM := Aside0.mk hM
  have c3 : a < N := h
  have HD := Aside0.mk hd'
  clear hM hd hd' h hN hx
  cases o with
  | true =>
    have e : Dv.wr ⟨B, true, l⟩ a x = (⟨B, true, l⟩, false) := rfl
    rw [e] at HD ⊢
    clear hB hhi
    go_enter Try.func56, Try.ntmps56
    go_wp2
    go_ret
    exact ⟨rfl, HD.out, HM.out⟩
  | false =>
    by_cases hz : l = 0
    · subst hz
      have e : Dv.wr ⟨B, false, 0⟩ a x = (⟨B, true, 0⟩, false) := rfl
      rw [e] at HD ⊢
      clear hB hhi
      go_enter Try.func56, Try.ntmps56
      go_wp2
      go_ret
      exact ⟨rfl, HD.out, HM.out.put 1 (.bool true) rfl⟩
    · by_cases hp : 0 < l
      · have e : Dv.wr ⟨B, false, l⟩ a x = (⟨B.set a x, false, l - 1⟩, true) := by
          unfold Dv.wr
          rw [if_neg (by simp), if_neg hz, if_pos hp]
        rw [e] at HD ⊢
        have e1 : wrap64 (l - 1) = l - 1 := by unfold wrap64; omega
        have HB := Aside0.mk hB
        clear hB hhi e
        go_enter Try.func56, Try.ntmps56
        go_wp2
        go_ret
        refine ⟨rfl, HD.out, ?_⟩
        exact ((HM.out.put 2 (.int .i64 (l - 1)) rfl).p1.row_put a x).p1
      · have e : Dv.wr ⟨B, false, l⟩ a x = (⟨B.set a x, false, l⟩, true) := by
          unfold Dv.wr
          rw [if_neg (by simp), if_neg hz, if_neg hp]
        rw [e] at HD ⊢
        have HB := Aside0.mk hB
        clear hB hhi e
        go_enter Try.func56, Try.ntmps56
        go_wp2
        go_ret
        exact ⟨rfl, HD.out, (HM.out.p1.row_put a x).p1⟩
theorem at_call (hM : DvM w0 w gd gr N d L) (i : Nat) (h : 3840 + i < N) (hN : N ≤ 20000) :
    Calls Try.prog 57 #[rup gd slot chunk, .int .i64 (i : Int)] w fun e w' => e = .returned (.int .i64 (d.rd (3840 + i))) ∧ Below w.heap.size w w' := by
  have HR := Aside0.mk (fun W (hb : Below w.heap.size w W) => read_call (hM.step hb) (3840 + i) h hN)
  have e1 : wrap64 (3840 + (i : Int)) = ((3840 + i : Nat) : Int) := by unfold wrap64; omega
  unfold rup
  clear hM h hN
  generalize d.rd (3840 + i) = x at *
  generalize 3840 + i = t at *
  go_enter Try.func57, Try.ntmps57
  go_wp2_with fail
  refine (HR.out _ (below_alloc (Below.refl _ _) _)).mono ?_
  rintro e w' ⟨rfl, rfl⟩
  go_wp2_with fail
  go_ret
  exact ⟨rfl, below_alloc (Below.refl _ _) _⟩
theorem put_call (hM : DvM w0 w gd gr N d L) (i : Nat) (n : Int) (h : 3840 + i < N) (hN : N ≤ 20000) :
    Calls Try.prog 54 #[rup gd slot chunk, .int .i64 (i : Int), .int .i64 n] w fun e w' => e = .returned (.bool (d.wr (3840 + i) (n % 256)).2) ∧ DvM w0 w' gd gr N (d.wr (3840 + i) (n % 256)).1 L := by
  have HR := Aside0.mk (fun W (hb : Below w.heap.size w W) => dwrite_call (hM.step hb) (3840 + i) (n % 256) (by omega) h hN)
  have e1 : wrap64 (3840 + (i : Int)) = ((3840 + i : Nat) : Int) := by unfold wrap64; omega
  unfold rup
  clear hM h hN
  generalize d.wr (3840 + i) (n % 256) = x at *
  generalize 3840 + i = t at *
  go_enter Try.func54, Try.ntmps54
  go_wp2_with fail
  refine (HR.out _ (below_alloc (Below.refl _ _) _)).mono ?_
  rintro e w' ⟨rfl, hm⟩
  have HM := Aside0.mk hm
  clear hm
  go_wp2_with fail
  go_ret
  exact ⟨rfl, HM.out⟩
theorem rchunks_call (w : World) (l : Nat) (hl : l ≤ 6144) (hc : 4 ≤ c) (hc2 : c ≤ 36) :
    Calls Try.prog 50 #[rup gd slot (c : Int), .int .i64 (l : Int)] w fun e w' => e = .returned (.int .i64 (nch l c : Int)) ∧ Below w.heap.size w w' := by
  have e1 : wrap64 ((l : Int) + (c : Int)) = (l : Int) + (c : Int) := by unfold wrap64; omega
  have e2 : wrap64 ((l : Int) + (c : Int) - 1) = ((l + c - 1 : Nat) : Int) := by unfold wrap64; omega
  have hc0 : ¬ (c : Int) = 0 := by omega
  have hc1 : ¬ (c : Int) = -1 := by omega
  have HB := Aside0.mk (show (((l + c - 1 : Nat) : Int) / (c : Int)) = (nch l c : Int) by unfold nch; omega)
  have hq : (l + c - 1) / c ≤ 100000 := Nat.le_trans (Nat.div_le_self _ _) (by omega)
  have HQ := Aside0.mk hq
  unfold rup
  clear hl hc hc2
  go_enter Try.func50, Try.ntmps50
  go_wp2
  go_ret
  refine ⟨?_, below_alloc (Below.refl _ _) _⟩
  have e : wrap64 (((l + c - 1 : Nat) : Int) / (c : Int)) = (nch l c : Int) := by
    rw [HB.out]
    have h : nch l c ≤ 100000 := HQ.out
    generalize nch l c = q at h
    unfold wrap64
    omega
  rw [← e]
  rfl
end Go.Proofs.Ytfcldacjnegacaa.Up

/- The reference: number, stored, Version, Discard. -/
namespace Go.Proofs.Ytfcldacjnegacaa.Up
open Go.RowKit Go.Proofs.YtfcldacjnegacaaW.PrintWords Go.Proofs.YtfcldacjnegacaaW.PrintLast Go.Proofs.YtfcldacjnegacaaW.PrintMore Go.Proofs.Ytfcldacjnegacaa.Sl
set_option linter.unusedVariables false
set_option linter.unusedSimpArgs false
variable {L : List Chunk} {w0 w w' : World} {gd gr N c : Nat} {d : Dv} {slot chunk : Int}
theorem rds_get {d : Dv} (hd : d.Ok N) {a n k : Nat} (h : a + n ≤ N) (hk : k < n) : (d.rds a n)[k]? = some (d.rd (a + k)) := by
  unfold Dv.rds Dv.rd
  split
  · rw [List.getElem?_replicate, if_pos hk]
  · have hl : a + k < d.B.length := by rw [hd.len]; omega
    rw [List.getElem?_take, if_pos hk, List.getElem?_drop, List.getD_eq_getElem?_getD, List.getElem?_eq_getElem hl]
    rfl
theorem rds_drop {d : Dv} (hd : d.Ok N) {a n k : Nat} (h : a + n ≤ N) (hk : k < n) : (d.rds a n).drop k = d.rd (a + k) :: (d.rds a n).drop (k + 1) := by
  have hl : k < (d.rds a n).length := by rw [rds_len hd h]; exact hk
  have h1 := rds_get hd h hk
  rw [List.getElem?_eq_getElem hl] at h1
  rw [List.drop_eq_getElem_cons hl, Option.some.inj h1]
theorem num_one {d : Dv} (hd : d.Ok N) {i : Nat} (h : 3840 + i + 1 ≤ N) : d.num i 1 = d.rd (3840 + i) := by
  unfold Dv.num
  have h1 := rds_drop hd h (k := 0) (by omega)
  rw [List.drop_zero, List.drop_eq_nil_of_le (by rw [rds_len hd h]; exact Nat.le_refl _), Nat.add_zero] at h1
  rw [h1]
  simp [le]
/-- What is left to read, from the end. -/
def RnRel (w0 : World) (w : World) (gd gr N : Nat) (slot chunk : Int) (d : Dv) (L : List Chunk) (i n g3 : Nat) (v7 v8 : Value) (wr : World) : Prop :=
  ∃ k : Nat, k ≤ n ∧ v7 = .int .i64 (le ((d.rds (3840 + i) n).drop k)) ∧ v8 = .int .i64 ((k : Int) - 1) ∧ Below w.heap.size w wr ∧ wr.heap[g3]? = some (.cells #[.pointer (some ⟨gd, 0, none⟩), .int .i64 slot, .int .i64 chunk] 28 (0, 0))
theorem rnumber_call (hM : DvM w0 w gd gr N d L) (i n : Nat) (hi : 3840 + i + n ≤ N) (hn : n ≤ 4) (hN : N ≤ 20000) :
    Calls Try.prog 51 #[rup gd slot chunk, .int .i64 (i : Int), .int .i64 (n : Int)] w fun e w' => e = .returned (.int .i64 (d.num i n)) ∧ Below w.heap.size w w' := by
  have HA := Aside0.mk (fun W (hb : Below w.heap.size w W) (k : Nat) (hk : k < n) => at_call (slot := slot) (chunk := chunk) (hM.step hb) (i + k) (by omega) hN)
  have HM := Aside0.mk hM
  have HI := Aside0.mk hi
  have hib : i ≤ 20000 := by omega
  obtain ⟨g3, hg3⟩ : ∃ g3, g3 = w.heap.size := ⟨_, rfl⟩
  have HG3 := Aside0.mk hg3
  have HB0 := Aside0.mk (below_alloc (Below.refl w.heap.size w) (.cells #[.pointer (some ⟨gd, 0, none⟩), .int .i64 slot, .int .i64 chunk] 28))
  have HG0 : Aside0 ((w.alloc (.cells #[.pointer (some ⟨gd, 0, none⟩), .int .i64 slot, .int .i64 chunk] 28)).heap[g3]? = some (.cells #[.pointer (some ⟨gd, 0, none⟩), .int .i64 slot, .int .i64 chunk] 28 (0, 0))) := ⟨by rw [hg3]; exact blk_new _ _⟩
  have e0 : wrap64 ((n : Int) - 1) = (n : Int) - 1 := by unfold wrap64; omega
  have hre : Aside0 (le ((d.rds (3840 + i) n).drop n) = 0) := ⟨by rw [List.drop_eq_nil_of_le (by rw [rds_len hM.1 hi]; exact Nat.le_refl _)]; rfl⟩
  have hr0 : Aside0 (d.num i n = le ((d.rds (3840 + i) n).drop 0)) := ⟨rfl⟩
  unfold rup at *
  clear hM hi hN
  rw [hr0.out]
  go_enter Try.func51, Try.ntmps51
  go_wp2_with fail
  rw [← hg3]
  clear hg3
  go_loopw [7, 8] (fun v7 v8 wr => RnRel w0 w gd gr N slot chunk d L i n g3 v7 v8 wr) (fun _ k _ => (intOf k + 1).toNat)
  case atStart => exact ⟨n, Nat.le_refl _, by rw [hre.out], rfl, HB0.out, HG0.out⟩
  case round =>
    obtain ⟨k, hk, rfl, rfl, hb, hg⟩ := hrel
    have HB := Aside0.mk hb
    have HG := Aside0.mk hg
    clear HB0 HG0 hb
    by_cases hk0 : k = 0
    · subst hk0
      clear hg
      go_wp2_with fail
      go_ret
      exact ⟨rfl, HB.out⟩
    · obtain ⟨j, rfl⟩ : ∃ j, k = j + 1 := ⟨k - 1, by omega⟩
      have y0 := blk_cell hg 0
      have y1 := blk_cell hg 1
      have y2 := blk_cell hg 2
      have hj : ((j + 1 : Nat) : Int) - 1 = (j : Int) := by omega
      rw [hj]
      have HD := Aside0.mk (rds_drop HM.out.1 HI.out (k := j) (by omega))
      have hlt := le_lt (l := (d.rds (3840 + i) n).drop j) (fun x hx => rds_byte HM.out.1 _ _ x (List.mem_of_mem_drop hx))
      have hpw : (256 : Int) ^ ((d.rds (3840 + i) n).drop j).length ≤ 256 ^ 4 := by
        have h4 : ((d.rds (3840 + i) n).drop j).length ≤ 4 := by rw [List.length_drop, rds_len HM.out.1 HI.out]; omega
        generalize ((d.rds (3840 + i) n).drop j).length = q at h4
        have : q = 0 ∨ q = 1 ∨ q = 2 ∨ q = 3 ∨ q = 4 := by omega
        rcases this with rfl | rfl | rfl | rfl | rfl <;> decide
      rw [HD.out] at hlt hpw
      have hlt2 : le (d.rd (3840 + i + j) :: (d.rds (3840 + i) n).drop (j + 1)) = d.rd (3840 + i + j) + 256 * le ((d.rds (3840 + i) n).drop (j + 1)) := rfl
      have hrdn : 0 ≤ d.rd (3840 + i + j) ∧ d.rd (3840 + i + j) < 256 := rds_byte HM.out.1 (3840 + i) n _ (List.mem_of_getElem? (rds_get HM.out.1 HI.out (by omega)))
      have HK := Aside0.mk (HA.out _ HB.out j (by omega))
      rw [show 3840 + (i + j) = 3840 + i + j by omega] at HK
      have hz : Aside0 (le ((d.rds (3840 + i) n).drop j) = d.rd (3840 + i + j) + 256 * le ((d.rds (3840 + i) n).drop (j + 1))) := ⟨by rw [HD.out]; rfl⟩
      have e256 : (256 : Int) ^ 4 = 4294967296 := by decide
      rw [hlt2] at hlt
      rw [e256] at hpw
      generalize d.rd (3840 + i + j) = x at *
      generalize le ((d.rds (3840 + i) n).drop (j + 1)) = v at *
      have e1 : wrap64 (256 * v) = 256 * v := by unfold wrap64; omega
      have e2 : wrap64 ((i : Int) + (j : Int)) = ((i + j : Nat) : Int) := by unfold wrap64; omega
      have e3 : wrap64 (256 * v + x) = 256 * v + x := by unfold wrap64; omega
      have e4 : wrap64 ((j : Int) - 1) = (j : Int) - 1 := by unfold wrap64; omega
      have hj0 : (0 : Int) ≤ (j : Int) := by omega
      clear hg hlt hpw hlt2 e256
      go_wp2_with fail
      refine HK.out.mono ?_
      rintro e w2 ⟨rfl, hb⟩
      have HB2 := Aside0.mk (below_step HB.out hb)
      have HG2 := Aside0.mk (blk_below HG.out hb)
      clear hb HK
      go_wp2_with fail
      go_roundw
      case rel => exact ⟨j, by omega, by rw [hz.out, e3, Int.add_comm], rfl, HB2.out, HG2.out⟩
      case measure => simp [intOf] <;> omega
theorem rnumber1 (hM : DvM w0 w gd gr N d L) (hN : N = 10240) :
    Calls Try.prog 51 #[rup gd slot chunk, .int .i64 1, .int .i64 4] w fun e w' => e = .returned (.int .i64 (d.num 1 4)) ∧ Below w.heap.size w w' := rnumber_call hM 1 4 (by omega) (by omega) (by omega)
theorem rnumber5 (hM : DvM w0 w gd gr N d L) (hN : N = 10240) :
    Calls Try.prog 51 #[rup gd slot chunk, .int .i64 5, .int .i64 2] w fun e w' => e = .returned (.int .i64 (d.num 5 2)) ∧ Below w.heap.size w w' := rnumber_call hM 5 2 (by omega) (by omega) (by omega)
theorem rnumber7 (hM : DvM w0 w gd gr N d L) (hN : N = 10240) :
    Calls Try.prog 51 #[rup gd slot chunk, .int .i64 7, .int .i64 2] w fun e w' => e = .returned (.int .i64 (d.num 7 2)) ∧ Below w.heap.size w w' := rnumber_call hM 7 2 (by omega) (by omega) (by omega)
theorem at0 (hM : DvM w0 w gd gr N d L) (hN : N = 10240) :
    Calls Try.prog 57 #[rup gd slot chunk, .int .i64 0] w fun e w' => e = .returned (.int .i64 (d.num 0 1)) ∧ Below w.heap.size w w' := by
  rw [num_one hM.1 (by omega)]
  exact at_call hM 0 (by omega) (by omega)
theorem at9 (hM : DvM w0 w gd gr N d L) (hN : N = 10240) :
    Calls Try.prog 57 #[rup gd slot chunk, .int .i64 9] w fun e w' => e = .returned (.int .i64 (d.num 9 1)) ∧ Below w.heap.size w w' := by
  rw [num_one hM.1 (by omega)]
  exact at_call hM 9 (by omega) (by omega)
theorem st_div8 : ∀ x : Fin 256, ∀ k : Fin 8, ((((x.val : Nat) : Int) / 2 ^ k.val).tmod 2 == 1) = decide (((x.val : Nat) : Int) / 2 ^ k.val % 2 = 1) := by decide +kernel
theorem st_div (x : Int) (h0 : 0 ≤ x) (h1 : x < 256) (k : Nat) (hk : k < 8) : ((x / 2 ^ k).tmod 2 == 1) = decide (x / 2 ^ k % 2 = 1) := by
  obtain ⟨n, rfl⟩ := Int.eq_ofNat_of_zero_le h0
  exact st_div8 ⟨n, by omega⟩ ⟨k, hk⟩
theorem rstored_call (hM : DvM w0 w gd gr N d L) (hN : N = 10240) (i : Nat) (hi : i < 1600) :
    Calls Try.prog 52 #[rup gd slot chunk, .int .i64 (i : Int)] w fun e w' => e = .returned (.bool (d.st i)) ∧ Below w.heap.size w w' := by
  have HK := Aside0.mk (fun W (hb : Below w.heap.size w W) => at_call (slot := slot) (chunk := chunk) (hM.step hb) (16 + i / 8) (by omega) (by omega))
  have h0 : 0 ≤ d.num (16 + i / 8) 1 := num_nn hM.1 _ _
  have h1 : d.num (16 + i / 8) 1 < 256 := num_lt hM.1 (by omega)
  have HS := Aside0.mk (show d.st i = decide (d.num (16 + i / 8) 1 / 2 ^ (i % 8) % 2 = 1) from rfl)
  have HA := Aside0.mk (st_div _ h0 h1 (i % 8) (by omega))
  rw [← num_one hM.1 (by omega)] at HK
  generalize d.num (16 + i / 8) 1 = x at *
  have hm : min (i % 8) 64 = i % 8 := by omega
  have HB0 := Aside0.mk (below_alloc (Below.refl w.heap.size w) (.cells #[.pointer (some ⟨gd, 0, none⟩), .int .i64 slot, .int .i64 chunk] 28))
  unfold rup at *
  clear hM
  go_enter Try.func52, Try.ntmps52
  go_wp2_with fail
  refine (HK.out _ HB0.out).mono ?_
  rintro e w2 ⟨rfl, hb⟩
  have HB2 := Aside0.mk (below_step HB0.out hb)
  clear hb
  go_wp2_with fail
  go_ret
  refine ⟨?_, HB2.out⟩
  rw [HS.out, ← HA.out]
  rfl
end Go.Proofs.Ytfcldacjnegacaa.Up
