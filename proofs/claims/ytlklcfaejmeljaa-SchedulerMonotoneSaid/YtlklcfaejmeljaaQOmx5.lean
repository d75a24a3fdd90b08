-- Printed by a program of this session (myprint.py) over the kit's print: functions, contracts; not trusted, Lean checks it.
import Derived.Test.YtlklcfaejmeljaaQOmx0
import Derived.Test.YtlklcfaejmeljaaQOmx1
namespace Go.Proofs.Ytlklcfaejmeljaa.QOm
open Go.RowKit Go.Proofs.YtlklcfaejmeljaaW.PrintWords Go.Proofs.YtlklcfaejmeljaaW.PrintLast Go.Proofs.YtlklcfaejmeljaaW.PrintMore
attribute [local go_sem] max2_int min2_int max_two min_two max_three min_three max_four min_four   -- for this text's walks alone
set_option linter.unusedVariables false
set_option linter.unusedSimpArgs false


/-! ### scheduler_Order: function 19 -/
open Go.Proofs.Ytlklcfaejmeljaa.Sl Go.Proofs.Ytlklcfaejmeljaa.Srt Go.Proofs.Ytlklcfaejmeljaa.St
def ordI (a b : Int) : Int := if a < b then -1 else if a > b then 1 else 0
def ordJ (a b : S54) : Int := if ordI a.f2 b.f2 ≠ 0 then ordI a.f2 b.f2 else if ordI a.f1 b.f1 ≠ 0 then ordI a.f1 b.f1 else ordI a.f0 b.f0
theorem ord_cmp64 (a b : Int) : cmp_Compare_int64.f a b = some (ordI a b) := by
  unfold cmp_Compare_int64.f cmp_isNaN_int64.f ordI
  simp only [bne_self_eq_false, Option.bind_some, Bool.false_eq_true, if_false]
  split
  · rfl
  · split <;> rfl
theorem ord_cmpi (a b : Int) : cmp_Compare_int.f a b = some (ordI a b) := by
  unfold cmp_Compare_int.f cmp_isNaN_int.f ordI
  simp only [bne_self_eq_false, Option.bind_some, Bool.false_eq_true, if_false]
  split
  · rfl
  · split <;> rfl
theorem ord_or3 (a b c : Int) (k : Nat) : cmp_Or_int.f (k + 4) [a, b, c] = some (if a ≠ 0 then a else if b ≠ 0 then b else c) := by
  unfold cmp_Or_int.f
  rw [cmp_Or_int.l0.eq_2]
  have r0 : rd [a, b, c] 0 = a := rfl
  have r1 : rd [a, b, c] 1 = b := rfl
  have r2 : rd [a, b, c] 2 = c := rfl
  have w0 : wrap64 (0 + 1) = 1 := by unfold wrap64; omega
  have w1 : wrap64 (1 + 1) = 2 := by unfold wrap64; omega
  have w2 : wrap64 (2 + 1) = 3 := by unfold wrap64; omega
  have l3 : (([a, b, c] : List Int).length : Int) = 3 := rfl
  rw [l3, if_pos (by decide), if_pos (by decide), if_pos (by decide), r0]
  by_cases ha : a = 0
  · rw [if_pos ha, w0, cmp_Or_int.l0.eq_2, l3, if_pos (by decide), if_pos (by decide), if_pos (by decide), r1]
    rw [if_neg (show ¬ a ≠ 0 from fun h => h ha)]
    by_cases hb : b = 0
    · rw [if_pos hb, w1, cmp_Or_int.l0.eq_2, l3, if_pos (by decide), if_pos (by decide), if_pos (by decide), r2]
      rw [if_neg (show ¬ b ≠ 0 from fun h => h hb)]
      by_cases hc : c = 0
      · rw [if_pos hc, w2, cmp_Or_int.l0.eq_2, if_neg (by decide), hc]
      · rw [if_neg hc]
    · rw [if_neg hb, if_pos hb]
  · rw [if_neg ha, if_pos ha]
theorem ord_compare (a b : S54) (k : Nat) : scheduler_compare.f (k + 4) a.f0 a.f1 a.f2 a.f3 b.f0 b.f1 b.f2 b.f3 = some (ordJ a b) := by
  unfold scheduler_compare.f
  rw [ord_cmp64, Option.bind_some, ord_cmp64, Option.bind_some, ord_cmpi, Option.bind_some, ord_or3, Option.bind_some]
  rfl
/-- The comparison by places in the list. -/
def ordC (l : List S54) (x y : Int) : Int := ordJ (l.getD x.toNat z54) (l.getD y.toNat z54)
theorem ordJ_lt (a b : S54) : ordJ a b < 0 ↔ a.f2 < b.f2 ∨ (a.f2 = b.f2 ∧ (a.f1 < b.f1 ∨ (a.f1 = b.f1 ∧ a.f0 < b.f0))) := by
  unfold ordJ ordI
  by_cases h1 : a.f2 < b.f2
  · rw [if_pos h1]; simp [h1]
  · rw [if_neg h1]
    by_cases h2 : a.f2 > b.f2
    · rw [if_pos h2]; simp; omega
    · have e : a.f2 = b.f2 := by omega
      rw [if_neg h2]
      by_cases h3 : a.f1 < b.f1
      · rw [if_pos h3]; simp [h3, e]
      · rw [if_neg h3]
        by_cases h4 : a.f1 > b.f1
        · rw [if_pos h4]; simp; omega
        · have e1 : a.f1 = b.f1 := by omega
          rw [if_neg h4]
          by_cases h5 : a.f0 < b.f0
          · rw [if_pos h5]; simp [h5, e, e1]
          · rw [if_neg h5]
            by_cases h6 : a.f0 > b.f0
            · rw [if_pos h6]; simp; omega
            · rw [if_neg h6]; simp; omega
theorem ord_swo (l : List S54) : SWO (lt_ (ordC l)) := by
  constructor
  · intro x y h h'
    unfold lt_ ordC at h h'
    rw [ordJ_lt] at h h'
    omega
  · intro x y z h
    unfold lt_ ordC at h ⊢
    rw [ordJ_lt] at h
    rw [ordJ_lt, ordJ_lt]
    omega
set_option maxRecDepth 100000 in
set_option maxHeartbeats 8000000 in
theorem ord_less {w : World} {gb : Nat} {A : Option Addr} {c : Nat} {l : List S54} (x y : Nat) (hx : x < l.length) (hy : y < l.length) (h9 : l.length ≤ 1000) (hC : Kd.C k54 w A l.length l) (hb : w.cell? ⟨gb, 0, none⟩ = some (.slice A l.length c)) :
    Calls Try.prog 39 #[.int .i64 (x : Int), .int .i64 (y : Int), .pointer (some ⟨gb, 0, none⟩)] w fun e w' => e = .returned (.int .i64 (ordJ (l.getD x z54) (l.getD y z54))) ∧ Below w.heap.size w w' := by
  obtain ⟨b, o, cs, rfl, _, hK, hc⟩ := C_at z54 (by decide) hC x hx
  obtain ⟨b', o', cs', e1, _, hK', hc'⟩ := C_at z54 (by decide) hC y hy
  injection e1 with e1
  injection e1 with e1 e2 _
  subst e1 e2
  obtain rfl := k54_open hK
  obtain rfl := k54_open hK'
  have e : k54.sz = 4 := rfl
  rw [e] at hc hc'
  have x0 := hc 0 _ rfl
  have x1 := hc 1 _ rfl
  have x2 := hc 2 _ rfl
  have x3 := hc 3 _ rfl
  have y0 := hc' 0 _ rfl
  have y1 := hc' 1 _ rfl
  have y2 := hc' 2 _ rfl
  have y3 := hc' 3 _ rfl
  clear hc hc' hC hK hK' e
  generalize l.getD x z54 = p at *
  generalize l.getD y z54 = q at *
  have b1 : (0 : Int) ≤ (x : Int) := by omega
  have b2 : (x : Int) < (l.length : Int) := by omega
  have b3 : (0 : Int) ≤ (y : Int) := by omega
  have b4 : (y : Int) < (l.length : Int) := by omega
  have hu54 := Try.underlying54
  go_enter Try.func39, Try.ntmps39
  go_wp2_with fail
  go_region_held3 (fun W => W.cell? ⟨gb, 0, none⟩ = some (.slice (some ⟨b, o, none⟩) l.length c) ∧ (W.cell? ⟨b, o + x * 4, none⟩ = some (.int .i64 p.f0) ∧ W.cell? ⟨b, o + x * 4 + 1, none⟩ = some (.int .i64 p.f1) ∧ W.cell? ⟨b, o + x * 4 + 2, none⟩ = some (.int .i64 p.f2) ∧ W.cell? ⟨b, o + x * 4 + 3, none⟩ = some (.int .i64 p.f3)) ∧ (W.cell? ⟨b, o + y * 4, none⟩ = some (.int .i64 q.f0) ∧ W.cell? ⟨b, o + y * 4 + 1, none⟩ = some (.int .i64 q.f1) ∧ W.cell? ⟨b, o + y * 4 + 2, none⟩ = some (.int .i64 q.f2) ∧ W.cell? ⟨b, o + y * 4 + 3, none⟩ = some (.int .i64 q.f3)))
    (first
      | exact ⟨k0, ⟨k1, k2, k3, k4⟩, ⟨k5, k6, k7, k8⟩⟩
      | exact ⟨hb, ⟨x0, x1, x2, x3⟩, ⟨y0, y1, y2, y3⟩⟩
      | (go_split_ands; refine ⟨?_, ⟨?_, ?_, ?_, ?_⟩, ⟨?_, ?_, ?_, ?_⟩⟩ <;> assumption))
    (first
      | (go_at_call 26
         refine (scheduler_compare.calls 4 p.f0 p.f1 p.f2 p.f3 q.f0 q.f1 q.f2 q.f3 (ordJ p q) _ (ord_compare p q 0)).mono ?_
         rintro e w2 ⟨rfl, hbw⟩
         have hbl : ∀ k, k < w.heap.size → w2.heap[k]? = w.heap[k]? := hbw.block
         have k0 := Kd.cell_heap hbl hb
         have k1 := Kd.cell_heap hbl x0
         have k2 := Kd.cell_heap hbl x1
         have k3 := Kd.cell_heap hbl x2
         have k4 := Kd.cell_heap hbl x3
         have k5 := Kd.cell_heap hbl y0
         have k6 := Kd.cell_heap hbl y1
         have k7 := Kd.cell_heap hbl y2
         have k8 := Kd.cell_heap hbl y3
         have HBW := Aside0.mk (show Below w.heap.size w w2 from (below_drew (Below.refl _ _)).trans hbw)
         clear hbw hbl))
  go_wp2
  go_ret
  exact ⟨rfl, HBW.out⟩
theorem ord_cmp {w0 : World} {v : Value} {gb : Nat} {A : Option Addr} {c : Nat} {l : List S54} (h9 : l.length ≤ 1000) (hC : Kd.C k54 w0 A l.length l) : CmpOk w0 v gb (ordC l) l.length [blk gb #[.slice A l.length c] 26] := by
  intro W ys x y hM hx hy
  obtain ⟨a, rfl⟩ := Int.eq_ofNat_of_zero_le hx.1
  obtain ⟨b, rfl⟩ := Int.eq_ofNat_of_zero_le hy.1
  refine (ord_less (gb := gb) (A := A) (c := c) a b (by omega) (by omega) h9 (hM.came hC) (blk_cell hM.p1.get 0)).mono ?_
  rintro e w' ⟨rfl, hb⟩
  exact ⟨by unfold ordC; rw [Int.toNat_natCast, Int.toNat_natCast], hM.step hb⟩
theorem ord_stable0 {w : World} {A : Option Addr} {c : Nat} (f : Value) :
    Calls Try.prog 48 #[.slice A 0 c, .int .i64 0, f] w fun e w' => e = .returned (.tuple #[]) ∧ w = w' := by
  go_enter Try.func48, Try.ntmps48
  go_wp2_with fail
  go_loopw [7, 8] (fun v7 v8 wr => v7 = .int .i64 0 ∧ v8 = .int .i64 20 ∧ wr = w) (fun _ i _ => 0)
  case atStart => exact ⟨rfl, rfl, rfl⟩
  case round =>
    obtain ⟨rfl, rfl, rfl⟩ := hrel
    go_wp2_with fail
    refine (ins0 (n := 0) 0 0 (by decide) (by decide) f).mono ?_
    rintro e w2 ⟨rfl, hw⟩
    subst hw
    go_wp2_with fail
    go_loopw [6] (fun v6 w3 => v6 = .int .i64 20 ∧ w3 = wr) (fun _ _ => 0)
    case atStart => exact ⟨rfl, rfl⟩
    case round =>
      obtain ⟨rfl, rfl⟩ := hrel
      go_wp2_with fail
      go_end0
      exact ⟨rfl, rfl⟩
theorem ord_sort {w0 w : World} {go c gb : Nat} {cf : Int → Int → Int} {xs : List Int} {L : List Chunk} (hR : SWO (lt_ cf)) (hC : CmpOk w0 (.slice (some ⟨go, 0, none⟩) xs.length c) gb cf xs.length L) (h40 : xs.length ≤ 40) (hx : Iota xs) (hM : Mem w0 w (rws w0 (.slice (some ⟨go, 0, none⟩) xs.length c) xs L)) :
    Calls Try.prog 38 #[.slice (some ⟨go, 0, none⟩) xs.length c, fnv gb] w fun e w' => e = .returned (.tuple #[]) ∧ ∃ ys, Fin cf xs ys ∧ Mem w0 w' (rws w0 (.slice (some ⟨go, 0, none⟩) xs.length c) ys L) := by
  by_cases hn : 0 < xs.length
  · have key := Aside0.mk (stable hR hC hn h40 hx hM)
    clear hM hC hR hx hn
    go_enter Try.func38, Try.ntmps38
    go_wp2_with fail
    refine key.out.mono ?_
    rintro e w2 ⟨rfl, hM⟩
    have HM := Aside0.mk hM
    clear hM
    go_wp2_with fail
    go_end0
    exact ⟨rfl, HM.out⟩
  · have e0 : xs = [] := List.eq_nil_of_length_eq_zero (by omega)
    subst e0
    have HM := Aside0.mk hM
    clear hM hC hR hx hn h40
    go_enter Try.func38, Try.ntmps38
    go_wp2_with fail
    refine (ord_stable0 _).mono ?_
    rintro e w2 ⟨rfl, hw⟩
    subst hw
    go_wp2_with fail
    go_end0
    exact ⟨rfl, [], ⟨List.Perm.refl _, fun i j h1 h2 h3 => absurd h3 (by simp)⟩, HM.out⟩
/-- 0, 1, .. below i, then zeros. -/
def ord_fil (n : Nat) : Nat → List Int
  | 0 => List.replicate n 0
  | i + 1 => (ord_fil n i).set i (i : Int)
theorem ord_fil_len (n : Nat) : ∀ i, (ord_fil n i).length = n
  | 0 => by simp [ord_fil]
  | i + 1 => by show (List.set _ _ _).length = n; rw [List.length_set, ord_fil_len n i]
theorem ord_fil_at (n : Nat) : ∀ i, i ≤ n → ∀ k, k < i → at_ (ord_fil n i) k = (k : Int)
  | 0, _, k, h => absurd h (by omega)
  | i + 1, hi, k, h => by
    show at_ ((ord_fil n i).set i (i : Int)) k = _
    rw [at_set (by rw [ord_fil_len]; omega)]
    by_cases e : i = k
    · rw [if_pos e, e]
    · rw [if_neg e]; exact ord_fil_at n i (by omega) k (by omega)
/-- Job x goes into its place, the last first. -/
def ordIns (l : List S54) (x : Int) : List Int → List Int
  | [] => [x]
  | y :: ys => if ordC l x y < 0 then y :: ordIns l x ys else x :: y :: ys
def ordAcc (l : List S54) : Nat → List Int
  | 0 => []
  | j + 1 => ordIns l (j : Int) (ordAcc l j)
theorem ordIns_mem (l : List S54) (x : Int) : ∀ ys z, z ∈ ordIns l x ys ↔ z = x ∨ z ∈ ys
  | [], z => by simp [ordIns]
  | y :: ys, z => by
    unfold ordIns
    split
    · rw [List.mem_cons, ordIns_mem l x ys z, List.mem_cons]
      constructor
      · rintro (h | h | h)
        · exact .inr (.inl h)
        · exact .inl h
        · exact .inr (.inr h)
      · rintro (h | h | h)
        · exact .inr (.inl h)
        · exact .inl h
        · exact .inr (.inr h)
    · rw [List.mem_cons]
theorem ordIns_ord (l : List S54) (x : Int) : ∀ ys, ys.Pairwise (fun a b => R (lt_ (ordC l)) b a) → (∀ y ∈ ys, y < x) → (ordIns l x ys).Pairwise (fun a b => R (lt_ (ordC l)) b a)
  | [], _, _ => by simp [ordIns]
  | y :: ys, h, hx => by
    rw [List.pairwise_cons] at h
    unfold ordIns
    split
    · rename_i hc
      rw [List.pairwise_cons]
      refine ⟨fun z hz => ?_, ordIns_ord l x ys h.2 (fun z hz => hx z (by simp [hz]))⟩
      rcases (ordIns_mem l x ys z).1 hz with rfl | hz
      · exact .inl hc
      · exact h.1 z hz
    · rename_i hc
      have hyx : R (lt_ (ordC l)) y x := .inr ⟨hc, hx y (by simp)⟩
      rw [List.pairwise_cons]
      refine ⟨fun z hz => ?_, ?_⟩
      · rcases List.mem_cons.1 hz with rfl | hz
        · exact hyx
        · exact (h.1 z hz).trans (ord_swo l) hyx
      · rw [List.pairwise_cons]; exact h
theorem ordAcc_mem (l : List S54) : ∀ j z, z ∈ ordAcc l j ↔ 0 ≤ z ∧ z < (j : Int)
  | 0, z => by
    constructor
    · intro h; cases h
    · intro h; omega
  | j + 1, z => by
    show z ∈ ordIns l (j : Int) (ordAcc l j) ↔ _
    rw [ordIns_mem, ordAcc_mem l j z]
    omega
theorem ordAcc_ord (l : List S54) : ∀ j, (ordAcc l j).Pairwise (fun a b => R (lt_ (ordC l)) b a)
  | 0 => List.Pairwise.nil
  | j + 1 => ordIns_ord l _ _ (ordAcc_ord l j) (fun y hy => ((ordAcc_mem l j y).1 hy).2)
/-- The jobs in order. -/
def ordW (l : List S54) : List Int := (ordAcc l l.length).reverse
theorem ordW_mem (l : List S54) (z : Int) : z ∈ ordW l ↔ 0 ≤ z ∧ z < (l.length : Int) := by
  unfold ordW
  rw [List.mem_reverse, ordAcc_mem]
theorem ordW_ord (l : List S54) : (ordW l).Pairwise (R (lt_ (ordC l))) := by
  unfold ordW
  rw [List.pairwise_reverse]
  exact ordAcc_ord l _
theorem iota_mem {xs : List Int} (h : Iota xs) (z : Int) : z ∈ xs ↔ 0 ≤ z ∧ z < (xs.length : Int) := by
  constructor
  · exact h.inR z
  · intro hz
    obtain ⟨k, rfl⟩ := Int.eq_ofNat_of_zero_le hz.1
    have hk : k < xs.length := by omega
    rw [← h k hk, at_eq hk]
    exact List.getElem_mem hk
theorem ord_done {l : List S54} {xs ys : List Int} (hx : Iota xs) (hl : xs.length = l.length) (h : Fin (ordC l) xs ys) : ys = ordW l := by
  refine ord_unique (ord_swo l) ?_ (ordW_ord l) (fun z => ?_)
  · have := h.2
    rw [← h.1.length_eq] at this
    exact this.pairwise
  · rw [h.1.mem_iff, iota_mem hx, ordW_mem, hl]
theorem ord_made {w0 w : World} {L : List Chunk} (h : Mem w0 w L) (m : Nat) (hm : m ≤ 9223372036854775807) :
    Mem w0 (w.alloc (.cells (madeCells #[.int .i64 0] m) 3)) (rws w0 (.slice (some ⟨w.heap.size, 0, none⟩) m m) (List.replicate m 0) L) := by
  refine h.row_made (d := Kd.int .i64) (e := 3) (ok := fun _ => True) (below_alloc (Below.refl _ _) _) ?_
  exact Kd.R_of_own (enc := Value.int .i64) (h1 := fun _ => rfl) (by rw [List.length_replicate]; exact own_made w w.heap.size 3 .i64 m (Nat.le_refl _) hm) (fun _ _ => trivial)
def scheduler_Order.f (l0 : List S54) : Option (List Int) := if l0.length ≤ 40 then some (ordW l0) else none
def OrRel (w : World) (g n : Nat) (L : List Chunk) (v10 : Value) (wr : World) : Prop :=
  ∃ i : Nat, i ≤ n ∧ v10 = .int .i64 (i : Int) ∧ Mem w wr (rws w (.slice (some ⟨g, 0, none⟩) n n) (ord_fil n i) L)
set_option maxRecDepth 100000 in
set_option maxHeartbeats 8000000 in
theorem scheduler_Order.calls (A0 : Option Addr) (c0 : Nat) (l0 : List S54) (r : List Int) (w : World) (hr0 : Kd.C k54 w A0 l0.length l0) (hc0 : l0.length ≤ c0) (h : scheduler_Order.f l0 = some r) :
    Calls Try.prog 19 #[.slice A0 l0.length c0] w fun e w' => ∃ v0_ : Value, e = .returned (v0_) ∧ Kd.R (Kd.int .i64) 3 w' w.heap.size (fun _ => True) v0_ r ∧ Below w.heap.size w w' := by
  have h40 : l0.length ≤ 40 := by
    unfold scheduler_Order.f at h
    by_cases e : l0.length ≤ 40
    · exact e
    · rw [if_neg e] at h; cases h
  unfold scheduler_Order.f at h
  rw [if_pos h40] at h
  obtain rfl := Option.some.inj h
  clear h
  have HC := Aside0.mk hr0
  obtain ⟨gb, hgb⟩ : ∃ gb, gb = w.heap.size := ⟨_, rfl⟩
  have hM := (Mem.start w).new_ (g := gb) (.cells #[.slice A0 l0.length c0] 26) hgb.symm
  have t0 := blk_cell hM.get 0
  have HM := Aside0.mk hM
  clear hM hr0
  have hmk := print_make (P := Try.prog) 30 3 .i64 8 Try.underlying30 info3 (by decide) l0.length (by omega)
  go_enter Try.func19, Try.ntmps19
  go_wp2_with fail
  clear hmk
  have HM2 := Aside0.mk ((ord_made HM.out l0.length (by omega)))
  rw [show (w.alloc (Obj.cells #[Value.slice A0 l0.length c0] 26)).heap.size = gb + 1 by rw [hgb]; simp] at HM2
  rw [← hgb]
  clear hgb
  go_loopw [10] (fun v10 wr => OrRel w (gb + 1) l0.length [blk gb #[.slice A0 l0.length c0] 26] v10 wr) (fun i _ => l0.length - (intOf i).toNat)
  case atStart => exact ⟨0, Nat.zero_le _, rfl, HM2.out⟩
  case round =>
    obtain ⟨i, hi, rfl, hM⟩ := hrel
    clear HM HM2 t0
    have hl := ord_fil_len l0.length i
    by_cases hlt : i < l0.length
    · obtain ⟨z0, z1⟩ := cell2 hM (k := i) (by omega)
      have hs := hM.row_put i (i : Int)
      have HS := Aside0.mk hs
      have b1 : (0 : Int) ≤ (i : Int) := by omega
      have b2 : (i : Int) < (l0.length : Int) := by omega
      have HW := Aside0.mk (show wrap64 ((i : Int) + 1) = ((i + 1 : Nat) : Int) from ww (by omega) (by omega))
      clear hM hl hs
      generalize at_ (ord_fil l0.length i) i = x at *
      go_wp2_with fail
      first
        | rw [HW.out]
        | skip
      exact ⟨⟨i + 1, by omega, by go_num, HS.out⟩, by simp [intOf]; omega⟩
    · obtain rfl : i = l0.length := by omega
      obtain ⟨xs, hxs⟩ : ∃ xs, xs = ord_fil l0.length l0.length := ⟨_, rfl⟩
      have hio : Iota xs := by
        rw [hxs]
        intro k hk
        rw [hl] at hk
        exact ord_fil_at _ _ (Nat.le_refl _) k hk
      rw [← hxs] at hM hl
      have key := ord_sort (go := gb + 1) (c := l0.length) (gb := gb) (cf := ordC l0) (xs := xs) (w0 := w) (L := [blk gb #[.slice A0 l0.length c0] 26]) (w := wr) (ord_swo l0) (by rw [hl]; exact ord_cmp (by omega) HC.out) (by omega) hio (by rw [hl]; exact hM)
      rw [hl] at key
      have HK := Aside0.mk key
      have HD := Aside0.mk (fun ys (h : Fin (ordC l0) xs ys) => ord_done hio hl h)
      clear hM key hio hl hxs hlt hi
      go_wp2_with fail
      refine HK.out.mono ?_
      rintro e w2 ⟨rfl, ys, hf, hM⟩
      obtain rfl := HD.out ys hf
      have HM := Aside0.mk hM
      clear hM hf
      go_wp2_with fail
      go_ret
      obtain ⟨hb, T, h1, _⟩ := HM.out
      exact ⟨_, rfl, Kd.R_mono h1 (fun _ _ => trivial), hb⟩

end Go.Proofs.Ytlklcfaejmeljaa.QOm
