/- The four bytes of an output: Pack and Unpack, the program's and the reference's. -/
import Derived.Test.YtfacjkcndfpmpaaBank
import Derived.Handy
import Derived.Laws.BitsAllLaws
import Derived.Deep.RegionWith
import Derived.Deep.RegionHeld3
namespace Go.Proofs.Ytfacjkcndfpmpaa.QAl
open Go.RowKit Go.Proofs.YtfacjkcndfpmpaaW.PrintWords Go.Proofs.YtfacjkcndfpmpaaW.PrintLast Go.Proofs.YtfacjkcndfpmpaaW.PrintMore Go.Proofs.Ytfacjkcndfpmpaa.Sl
set_option linter.unusedVariables false
set_option linter.unusedSimpArgs false

theorem wrap_i16 (n : Int) : IntKind.i16.wrap n = (n + 32768) % 65536 - 32768 := by
  simp [IntKind.wrap, IntKind.bits, IntKind.signed]
  split <;> omega
theorem or_bytes16 (a b : Int) (ha : 0 ≤ a) (ha2 : a ≤ 255) (hb : 0 ≤ b) (hb2 : b ≤ 255) : Go.bits .or .u16 a (b * 256) = a + b * 256 := by
  obtain ⟨m, rfl⟩ := Int.eq_ofNat_of_zero_le ha
  obtain ⟨n, rfl⟩ := Int.eq_ofNat_of_zero_le hb
  rw [show ((n : Int) * 256) = ((n * 256 : Nat) : Int) by omega, u16_or_nat _ _ (by omega) (by omega), Nat.or_comm, show n * 256 = 2 ^ 8 * n by omega, ← Nat.two_pow_add_eq_or_of_lt (show m < 2 ^ 8 by omega)]
  omega
theorem i16_get (v : Int) (h1 : -32768 ≤ v) (h2 : v ≤ 32767) : IntKind.i16.wrap (v % 256 + v / 256 % 256 * 256) = v := by
  rw [wrap_i16]
  omega

theorem Get (a b : Int) (ha : 0 ≤ a) (ha2 : a ≤ 255) (hb : 0 ≤ b) (hb2 : b ≤ 255) (w : World) :
    Calls Try.prog 26 #[.agg #[.int .u8 a, .int .u8 b]] w fun e w' => e = .returned (.int .i16 (IntKind.i16.wrap (a + b * 256))) ∧ Below w.heap.size w w' := by
  have ho := Aside0.mk (or_bytes16 a b ha ha2 hb hb2)
  go_enter Try.func26, Try.ntmps26
  go_wp2
  go_ret
  exact ⟨by rw [← ho.out]; rfl, below_alloc (Below.refl _ _) _⟩
theorem Put (v : Int) (ha : -32768 ≤ v) (ha2 : v ≤ 32767) (w : World) :
    Calls Try.prog 27 #[.int .i16 v] w fun e w' => e = .returned (.agg #[.int .u8 (v % 256), .int .u8 (v / 256 % 256)]) ∧ Below w.heap.size w w' := by
  have hw : IntKind.u16.wrap v / 256 % 256 = v / 256 % 256 := by rw [IntKind.wrap_u16]; omega
  go_enter Try.func27, Try.ntmps27
  go_wp2
  refine bodyPost_ret (v := .agg #[.int .u8 (v % 256), .int .u8 (v / 256 % 256)]) (by simp [results, Try.results27, go_sem]) rfl ⟨rfl, below_alloc (Below.refl _ _) _⟩
theorem RefPut (v : Int) (ha : -32768 ≤ v) (ha2 : v ≤ 32767) (w : World) :
    Calls Try.prog 28 #[.int .i16 v] w fun e w' => e = .returned (.agg #[.int .u8 (v % 256), .int .u8 (v / 256 % 256)]) ∧ Below w.heap.size w w' := by
  by_cases h : v < 0
  · have e1 : (v + 65536) % 256 = v % 256 := by omega
    have e2 : (v + 65536) / 256 = v / 256 % 256 := by omega
    go_enter Try.func28, Try.ntmps28
    go_wp2
    refine bodyPost_ret (v := .agg #[.int .u8 (v % 256), .int .u8 (v / 256 % 256)]) (by simp [results, Try.results28, go_sem]) rfl ⟨rfl, below_alloc (Below.refl _ _) _⟩
  · have h0 : 0 ≤ v := by omega
    have e2 : v / 256 = v / 256 % 256 := by omega
    have E2 := Aside0.mk e2
    clear h e2
    go_enter Try.func28, Try.ntmps28
    go_wp2
    refine bodyPost_ret (v := .agg #[.int .u8 (v % 256), .int .u8 (v / 256)]) (by simp [results, Try.results28, go_sem]) rfl ⟨by rw [← E2.out], below_alloc (Below.refl _ _) _⟩
theorem RefGet (a b : Int) (ha : 0 ≤ a) (ha2 : a ≤ 255) (hb : 0 ≤ b) (hb2 : b ≤ 255) (w : World) :
    Calls Try.prog 23 #[.agg #[.int .u8 a, .int .u8 b]] w fun e w' => e = .returned (.int .i16 (IntKind.i16.wrap (a + b * 256))) ∧ Below w.heap.size w w' := by
  have hf : trickleref01_Wrap.f (a + 256 * b) = some (IntKind.i16.wrap (a + b * 256)) := by
    unfold trickleref01_Wrap.f
    have e : Int.tmod (a + 256 * b) 65536 = a + 256 * b := by rw [Int.tmod_eq_emod_of_nonneg (by omega)]; omega
    rw [e, if_neg (by omega)]
    by_cases c : a + 256 * b ≥ 32768
    · rw [if_pos c]
      rw [wrap_i16, wrap_i16]
      congr 1
      have : wrap64 (a + 256 * b - 65536) = a + 256 * b - 65536 := by unfold wrap64; omega
      rw [this]; omega
    · rw [if_neg c, show a + 256 * b = a + b * 256 by omega]
  have HF := Aside0.mk hf
  clear hf
  go_enter Try.func23, Try.ntmps23
  go_wp2_with (go_at_call 29; refine (trickleref01_Wrap.calls _ _ _ HF.out).mono ?_; rintro e w1 ⟨rfl, hb1⟩)
  go_ret
  exact ⟨rfl, below_step (below_alloc (Below.refl _ _) _) hb1.below⟩
theorem Unpack (a c b0 b1 : Int) (h1 : 0 ≤ b0) (h2 : b0 ≤ 255) (h3 : 0 ≤ b1) (h4 : b1 ≤ 255) (ha : 0 ≤ a) (ha2 : a ≤ 255) (w : World) :
    Calls Try.prog 20 #[.agg #[.int .u8 a, .int .u8 c, .int .u8 b0, .int .u8 b1]] w fun e w' => e = .returned (.tuple #[.int .i64 a, .int .i16 (IntKind.i16.wrap (b0 + b1 * 256))]) ∧ Below w.heap.size w w' := by
  have ew : IntKind.i64.wrap a = a := by rw [IntKind.wrap_i64]; omega
  go_enter Try.func20, Try.ntmps20
  go_wp2
  go_region_held3 (fun W => W.cell? ⟨w.heap.size, 0, none⟩ = some (.int .u8 a) ∧ W.cell? ⟨w.heap.size, 2, none⟩ = some (.int .u8 b0) ∧ W.cell? ⟨w.heap.size, 3, none⟩ = some (.int .u8 b1) ∧ Aside0 (Below w.heap.size w W))
    (first
      | (refine ⟨?_, ?_, ?_, ⟨below_drew (below_alloc (Below.refl _ _) _)⟩⟩ <;> (go_simp; done))
      | (go_split_ands; exact ⟨pw_cell_below hb1 (by assumption), pw_cell_below hb1 (by assumption), pw_cell_below hb1 (by assumption), ⟨below_step (Aside0.out (by assumption)) hb1⟩⟩))
    ((go_at_call 26; refine (Get b0 b1 h1 h2 h3 h4 _).mono ?_; rintro e w1 ⟨rfl, hb1⟩))
  go_wp2
  go_ret2
  rename_i hH
  exact ⟨rfl, hH.2.2.2.out⟩
theorem Pack (p v : Int) (h1 : -32768 ≤ v) (h2 : v ≤ 32767) (w : World) :
    Calls Try.prog 21 #[.int .i64 p, .int .i16 v] w fun e w' => e = .returned (.agg #[.int .u8 (p % 256), .int .u8 0, .int .u8 (v % 256), .int .u8 (v / 256 % 256)]) ∧ Below w.heap.size w w' := by
  go_enter Try.func21, Try.ntmps21
  go_wp2_with (go_at_call 27; refine (Put v h1 h2 _).mono ?_; rintro e w1 ⟨rfl, hb1⟩
               have hk := blk_below (blk_new w (.cells #[.int .u8 0, .int .u8 0, .int .u8 0, .int .u8 0] 53)) hb1
               have hlt := blk_lt hk
               have hc0 := blk_cell hk 0
               have hc1 := blk_cell hk 1
               have hc2 := blk_cell hk 2
               have hc3 := blk_cell hk 3
               have hf0 := blk_frozen hk 0
               have hf1 := blk_frozen hk 1
               have hf2 := blk_frozen hk 2
               have hf3 := blk_frozen hk 3
               have HK := Aside0.mk hk
               have HB := Aside0.mk hb1
               clear hk hb1)
  have hk := blk_alloc (blk_put (cs' := #[.int .u8 (p % 256), .int .u8 0, .int .u8 (v % 256), .int .u8 (v / 256 % 256)]) (blk_put (cs' := #[.int .u8 (p % 256), .int .u8 0, .int .u8 (v % 256), .int .u8 0]) (blk_put (cs' := #[.int .u8 (p % 256), .int .u8 0, .int .u8 0, .int .u8 0]) (blk_put (cs' := #[.int .u8 (p % 256), .int .u8 0, .int .u8 0, .int .u8 0]) HK.out 0 (.int .u8 (p % 256)) rfl) 1 (.int .u8 0) rfl) 2 (.int .u8 (v % 256)) rfl) 3 (.int .u8 (v / 256 % 256)) rfl) (.cells #[.int .u8 (v % 256), .int .u8 (v / 256 % 256)] 58)
  refine bodyPost_ret (results_cell_row rfl _ _ w.heap.size 53 _ (0, 0) _ rfl hk Try.underlying53 rfl (by kernel_rfl)) rfl ⟨rfl, ?_⟩
  have hb := below_step (below_alloc (Below.refl w.heap.size w) _) HB.out
  exact (((((hb.setCell (p := ⟨w.heap.size, 0, none⟩) (Nat.le_refl _) _).setCell (p := ⟨w.heap.size, 1, none⟩) (Nat.le_refl _) _).setCell (p := ⟨w.heap.size, 2, none⟩) (Nat.le_refl _) _).setCell (p := ⟨w.heap.size, 3, none⟩) (Nat.le_refl _) _).alloc (by simp; omega) _)
theorem RefPack (p v : Int) (h1 : -32768 ≤ v) (h2 : v ≤ 32767) (w : World) :
    Calls Try.prog 22 #[.int .i64 p, .int .i16 v] w fun e w' => e = .returned (.agg #[.int .u8 (p % 256), .int .u8 0, .int .u8 (v % 256), .int .u8 (v / 256 % 256)]) ∧ Below w.heap.size w w' := by
  obtain ⟨q, hq⟩ : ∃ q, p.tmod 256 = q := ⟨_, rfl⟩
  have hlo : -256 < q ∧ q < 256 := by
    subst hq
    have h := Int.tmod_def p 256
    rcases Int.le_total 0 p with h0 | h0
    · rw [Int.tmod_eq_emod_of_nonneg h0]; omega
    · have e := Int.neg_tmod p 256
      rw [Int.tmod_eq_emod_of_nonneg (show 0 ≤ -p by omega)] at e
      omega
  obtain ⟨hl, hh⟩ := hlo
  by_cases c : q < 0
  · have E : Aside0 (q + 256 = p % 256) := ⟨by
      subst hq
      have := Int.emod_emod_of_dvd p (show (256 : Int) ∣ 256 by decide)
      have h := Int.tmod_add_tdiv_mul p 256; omega⟩
    have h0 : 0 ≤ q + 256 := by omega
    have h0' : q + 256 ≤ 255 := by omega
    go_enter Try.func22, Try.ntmps22
    go_wp2_with (go_at_call 28; refine (RefPut v h1 h2 _).mono ?_; rintro e w1 ⟨rfl, hb1⟩
                 have hk := blk_below (blk_new w (.cells #[.int .u8 0, .int .u8 0, .int .u8 0, .int .u8 0] 53)) hb1
                 have hlt := blk_lt hk
                 have hc0 := blk_cell hk 0
                 have hc1 := blk_cell hk 1
                 have hc2 := blk_cell hk 2
                 have hc3 := blk_cell hk 3
                 have hf0 := blk_frozen hk 0
                 have hf1 := blk_frozen hk 1
                 have hf2 := blk_frozen hk 2
                 have hf3 := blk_frozen hk 3
                 have HK := Aside0.mk hk
                 have HB := Aside0.mk hb1
                 clear hk hb1)
    have hk := blk_alloc (blk_put (cs' := #[.int .u8 (q + 256), .int .u8 0, .int .u8 (v % 256), .int .u8 (v / 256 % 256)]) (blk_put (cs' := #[.int .u8 (q + 256), .int .u8 0, .int .u8 (v % 256), .int .u8 0]) (blk_put (cs' := #[.int .u8 (q + 256), .int .u8 0, .int .u8 0, .int .u8 0]) (blk_put (cs' := #[.int .u8 (q + 256), .int .u8 0, .int .u8 0, .int .u8 0]) HK.out 0 (.int .u8 (q + 256)) rfl) 1 (.int .u8 0) rfl) 2 (.int .u8 (v % 256)) rfl) 3 (.int .u8 (v / 256 % 256)) rfl) (.cells #[.int .u8 (v % 256), .int .u8 (v / 256 % 256)] 58)
    refine bodyPost_ret (results_cell_row rfl _ _ w.heap.size 53 _ (0, 0) _ rfl hk Try.underlying53 rfl (by kernel_rfl)) rfl ⟨by rw [E.out], ?_⟩
    have hb := below_step (below_alloc (Below.refl w.heap.size w) _) HB.out
    exact (((((hb.setCell (p := ⟨w.heap.size, 0, none⟩) (Nat.le_refl _) _).setCell (p := ⟨w.heap.size, 1, none⟩) (Nat.le_refl _) _).setCell (p := ⟨w.heap.size, 2, none⟩) (Nat.le_refl _) _).setCell (p := ⟨w.heap.size, 3, none⟩) (Nat.le_refl _) _).alloc (by simp; omega) _)

  · have E : Aside0 (q = p % 256) := ⟨by
      subst hq
      have h := Int.tmod_add_tdiv_mul p 256; omega⟩
    have h0 : 0 ≤ q := by omega
    have h0' : q ≤ 255 := by omega
    clear c
    go_enter Try.func22, Try.ntmps22
    go_wp2_with (go_at_call 28; refine (RefPut v h1 h2 _).mono ?_; rintro e w1 ⟨rfl, hb1⟩
                 have hk := blk_below (blk_new w (.cells #[.int .u8 0, .int .u8 0, .int .u8 0, .int .u8 0] 53)) hb1
                 have hlt := blk_lt hk
                 have hc0 := blk_cell hk 0
                 have hc1 := blk_cell hk 1
                 have hc2 := blk_cell hk 2
                 have hc3 := blk_cell hk 3
                 have hf0 := blk_frozen hk 0
                 have hf1 := blk_frozen hk 1
                 have hf2 := blk_frozen hk 2
                 have hf3 := blk_frozen hk 3
                 have HK := Aside0.mk hk
                 have HB := Aside0.mk hb1
                 clear hk hb1)
    have hk := blk_alloc (blk_put (cs' := #[.int .u8 q, .int .u8 0, .int .u8 (v % 256), .int .u8 (v / 256 % 256)]) (blk_put (cs' := #[.int .u8 q, .int .u8 0, .int .u8 (v % 256), .int .u8 0]) (blk_put (cs' := #[.int .u8 q, .int .u8 0, .int .u8 0, .int .u8 0]) (blk_put (cs' := #[.int .u8 q, .int .u8 0, .int .u8 0, .int .u8 0]) HK.out 0 (.int .u8 q) rfl) 1 (.int .u8 0) rfl) 2 (.int .u8 (v % 256)) rfl) 3 (.int .u8 (v / 256 % 256)) rfl) (.cells #[.int .u8 (v % 256), .int .u8 (v / 256 % 256)] 58)
    refine bodyPost_ret (results_cell_row rfl _ _ w.heap.size 53 _ (0, 0) _ rfl hk Try.underlying53 rfl (by kernel_rfl)) rfl ⟨by rw [E.out], ?_⟩
    have hb := below_step (below_alloc (Below.refl w.heap.size w) _) HB.out
    exact (((((hb.setCell (p := ⟨w.heap.size, 0, none⟩) (Nat.le_refl _) _).setCell (p := ⟨w.heap.size, 1, none⟩) (Nat.le_refl _) _).setCell (p := ⟨w.heap.size, 2, none⟩) (Nat.le_refl _) _).setCell (p := ⟨w.heap.size, 3, none⟩) (Nat.le_refl _) _).alloc (by simp; omega) _)
end Go.Proofs.Ytfacjkcndfpmpaa.QAl
