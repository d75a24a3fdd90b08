/- What the methods of output.Bank do to its blocks. -/
import Derived.Test.YtfacjkcndfpmpaaQAlx2
import Derived.Test.YtfacjkcndfpmpaaSl
namespace Go.Proofs.Ytfacjkcndfpmpaa.QAl
open Go.RowKit Go.Proofs.YtfacjkcndfpmpaaW.PrintWords Go.Proofs.YtfacjkcndfpmpaaW.PrintLast Go.Proofs.YtfacjkcndfpmpaaW.PrintMore Go.Proofs.Ytfacjkcndfpmpaa.Sl
set_option linter.unusedVariables false
set_option linter.unusedSimpArgs false

theorem info35 : (Try.prog.info? 35).map (fun i => (i.zero, i.size, i.bytes)) = some (some (.int .i16 0), 1, 2) := by kernel_rfl

/-- A bank: its block, its levels' row and its log's row. -/
@[reducible] def bank (w0 : World) (g : Nat) (lv lg : Value) (levels : List Int) (log : List S37) (L : List Chunk) : List Chunk :=
  blk g #[lv, lg] 64 :: row w0 (Kd.int .i16) 35 lv levels :: row w0 k37 37 lg log :: L

theorem row_of_made {w0 w : World} {L : List Chunk} (h : Mem w0 w L) (m : Nat) (hm : m ≤ 9223372036854775807) :
    Mem w0 (w.alloc (.cells (madeCells #[.int .i16 0] m) 35)) (row w0 (Kd.int .i16) 35 (.slice (some ⟨w.heap.size, 0, none⟩) m m) (List.replicate m 0) :: L) := by
  refine h.row_made (d := Kd.int .i16) (e := 35) (ok := fun _ => True) (below_alloc (Below.refl _ _) _) ?_
  exact Kd.R_of_own (enc := Value.int .i16) (h1 := fun _ => rfl) (by rw [List.length_replicate]; exact own_made w w.heap.size 35 .i16 m (Nat.le_refl _) hm) (fun _ _ => trivial)

theorem New.good {w0 w : World} {L : List Chunk} (m : Nat) (h1 : m ≤ 8) (hM : Mem w0 w L) :
    Calls Try.prog 17 #[.int .i64 (m : Int)] w fun e w' => ∃ g lv, e = .returned (.tuple #[.pointer (some ⟨g, 0, none⟩), .int .i64 0]) ∧ Mem w0 w' (bank w0 g lv (.slice none 0 0) (List.replicate m 0) [] L) := by
  have hmk := print_make (P := Try.prog) 48 35 .i16 2 Try.underlying48 info35 (by decide) m (by omega)
  have c1 : decide ((m : Int) < 0) = false := decide_eq_false (by omega)
  have c2 : decide ((8 : Int) < (m : Int)) = false := decide_eq_false (by omega)
  have c3 : decide (8 < m) = false := decide_eq_false (by omega)
  have HM := Aside0.mk hM
  clear hM
  go_enter Try.func17, Try.ntmps17
  go_wp2
  go_ret2
  refine ⟨w.heap.size + 1, .slice (some ⟨w.heap.size, 0, none⟩) m m, rfl, ?_⟩
  have h1 := (row_of_made HM.out m (by omega)).row_nil k37 37
  exact (h1.p1.new_ (g := w.heap.size + 1) _ (by simp))
theorem New.bad {w : World} (n : Int) (h : n < 0 ∨ 8 < n) :
    Calls Try.prog 17 #[.int .i64 n] w fun e w' => e = .returned (.tuple #[.pointer none, .int .i64 1]) ∧ w = w' := by
  by_cases c : n < 0
  · have c1 : decide (n < 0) = true := decide_eq_true c
    clear h c
    go_enter Try.func17, Try.ntmps17
    go_wp2
    go_ret2
    exact ⟨rfl, rfl⟩
  · have c1 : decide (n < 0) = false := decide_eq_false c
    have c2 : decide (8 < n) = true := decide_eq_true (by omega)
    clear h c
    go_enter Try.func17, Try.ntmps17
    go_wp2
    go_ret2
    exact ⟨rfl, rfl⟩

/-- The bank's cells. -/
theorem bank_cells {w0 w : World} {g : Nat} {lv lg : Value} {levels : List Int} {log : List S37} {L : List Chunk} (hM : Mem w0 w (bank w0 g lv lg levels log L)) :
    w.cell? ⟨g, 0, none⟩ = some lv ∧ w.cell? ⟨g, 1, none⟩ = some lg ∧ w.frozen? ⟨g, 1, none⟩ = false ∧ (∃ A c, lv = .slice A levels.length c) ∧ (∃ A c, lg = .slice A log.length c) := by
  have hb := hM.get
  obtain ⟨A, c, rfl, _⟩ := hM.drop.reads
  obtain ⟨A', c', rfl, _⟩ := hM.drop.drop.reads
  exact ⟨blk_cell hb 0, blk_cell hb 1, blk_frozen hb 1, ⟨A, c, rfl⟩, ⟨A', c', rfl⟩⟩

theorem Next {w0 w : World} {g : Nat} {lv lg : Value} {levels : List Int} {log : List S37} {L : List Chunk} (hM : Mem w0 w (bank w0 g lv lg levels log L)) :
    Calls Try.prog 18 #[.pointer (some ⟨g, 0, none⟩)] w fun e w' => e = .returned (.int .i64 (log.length : Int)) ∧ w = w' := by
  obtain ⟨hc0, hc1, hf1, ⟨A, c, rfl⟩, ⟨A', c', rfl⟩⟩ := bank_cells hM
  clear hM
  go_enter Try.func18, Try.ntmps18
  go_wp2
  go_ret
  exact ⟨rfl, rfl⟩

/-- What a write does. -/
def wrB (levels : List Int) (log : List S37) (seq port : Int) : Int :=
  if seq < 0 ∨ port < 0 ∨ (levels.length : Int) ≤ port then 1 else if seq < (log.length : Int) then 11 else if (log.length : Int) < seq then 10 else 0
theorem Write.bad {w0 w : World} {g : Nat} {lv lg : Value} {levels : List Int} {log : List S37} {L : List Chunk} (seq port v : Int) (hM : Mem w0 w (bank w0 g lv lg levels log L)) (h : wrB levels log seq port ≠ 0) :
    Calls Try.prog 19 #[.pointer (some ⟨g, 0, none⟩), .int .i64 seq, .int .i64 port, .int .i16 v] w fun e w' => e = .returned (.int .i64 (wrB levels log seq port)) ∧ w = w' := by
  have HM := Aside0.mk hM
  obtain ⟨hc0, hc1, hf1, ⟨A, c, rfl⟩, ⟨A', c', rfl⟩⟩ := bank_cells hM
  clear hM
  unfold wrB at h ⊢
  by_cases h1 : seq < 0
  · have c1 : decide (seq < 0) = true := decide_eq_true h1
    rw [if_pos (.inl h1)]
    clear h h1
    go_enter Try.func19, Try.ntmps19
    go_wp2
    go_ret
    exact ⟨rfl, rfl⟩
  have c1 : decide (seq < 0) = false := decide_eq_false h1
  by_cases h2 : port < 0
  · have c2 : decide (port < 0) = true := decide_eq_true h2
    rw [if_pos (.inr (.inl h2))]
    clear h h1 h2
    go_enter Try.func19, Try.ntmps19
    go_wp2
    go_ret
    exact ⟨rfl, rfl⟩
  have c2 : decide (port < 0) = false := decide_eq_false h2
  by_cases h3 : (levels.length : Int) ≤ port
  · have c3 : decide ((levels.length : Int) ≤ port) = true := decide_eq_true h3
    rw [if_pos (.inr (.inr h3))]
    clear h h1 h2 h3
    go_enter Try.func19, Try.ntmps19
    go_wp2
    go_ret
    exact ⟨rfl, rfl⟩
  have c3 : decide ((levels.length : Int) ≤ port) = false := decide_eq_false h3
  rw [if_neg (by omega)] at h ⊢
  by_cases h4 : seq < (log.length : Int)
  · have c4 : decide (seq < (log.length : Int)) = true := decide_eq_true h4
    rw [if_pos h4]
    clear h h1 h2 h3 h4
    go_enter Try.func19, Try.ntmps19
    go_wp2_with (go_at_call 18; refine (Next HM.out).mono ?_; rintro e w' ⟨rfl, rfl⟩)
    go_ret
    exact ⟨rfl, rfl⟩
  have c4 : decide (seq < (log.length : Int)) = false := decide_eq_false h4
  rw [if_neg h4] at h ⊢
  by_cases h5 : (log.length : Int) < seq
  · have c5 : decide ((log.length : Int) < seq) = true := decide_eq_true h5
    rw [if_pos h5]
    clear h h1 h2 h3 h4 h5
    go_enter Try.func19, Try.ntmps19
    go_wp2_with (go_at_call 18; refine (Next HM.out).mono ?_; rintro e w' ⟨rfl, rfl⟩)
    go_ret
    exact ⟨rfl, rfl⟩
  · rw [if_neg h5] at h
    exact absurd rfl h
theorem Write.good {w0 w : World} {g : Nat} {lv lg : Value} {levels : List Int} {log : List S37} {L : List Chunk} (port : Nat) (v : Int) (hM : Mem w0 w (bank w0 g lv lg levels log L)) (hp : port < levels.length) (hlen : levels.length ≤ 1000) (hl : log.length < 5864062014805) :
    Calls Try.prog 19 #[.pointer (some ⟨g, 0, none⟩), .int .i64 (log.length : Int), .int .i64 (port : Int), .int .i16 v] w fun e w' => ∃ lg', e = .returned (.int .i64 0) ∧ Mem w0 w' (bank w0 g lv lg' (levels.set port v) (log ++ [⟨(log.length : Int), (port : Int), v⟩]) L) := by
  have HM := Aside0.mk hM
  obtain ⟨gl, cl, rfl, _⟩ := hM.drop.row_form (by omega)
  obtain ⟨hc0, hc1, hf1, ⟨A, c, e0⟩, ⟨A', c', rfl⟩⟩ := bank_cells hM
  clear e0 A c
  have hne := hM.ne_own
  have hne' : gl ≠ g := fun h => hne h.symm
  have hM2 := (hM.p1.row_put port v)
  obtain ⟨hlc, hlf⟩ := hM.drop.row_cell (0 : Int) port hp
  clear hM
  have HM2 := Aside0.mk hM2
  clear hM2
  have c1 : decide ((log.length : Int) < 0) = false := decide_eq_false (by omega)
  have c2 : decide ((port : Int) < 0) = false := decide_eq_false (by omega)
  have c3 : decide (levels.length ≤ port) = false := decide_eq_false (by omega)
  have c3' : decide (port < levels.length) = true := decide_eq_true (by omega)
  have HL := Aside0.mk hl
  have HP := Aside0.mk hp
  clear hl
  go_enter Try.func19, Try.ntmps19
  go_wp2_with (first
    | (go_at_call 18; refine (Next HM.out).mono ?_; rintro e w' ⟨rfl, rfl⟩)
    | ((with_reducible refine gate_builtin (b := .append) (xs := #[.tmp 46, .tmp 51]) rfl ?_); at_builtin
       refine Mem.wp_append k37 (w0 := w0) rfl (.tmp 46) (.tmp 51) 31 37 (.agg #[.int .i64 0, .int .i64 0, .int .i16 0]) 24 rfl Try.underlying31 info37 rfl (by decide) (by omega) (.slice A' log.length c') log (⟨(log.length : Int), (port : Int), v⟩ : S37) [.int .i64 (log.length : Int), .int .i64 (port : Int), .int .i16 v] rfl _ rfl (by simp) (k37_mkM _ _ _ (⟨(log.length : Int), (port : Int), v⟩ : S37)) HM2.out.p2 (by have := HL.out; omega) ?_
       intro v1 w1 hm
       obtain ⟨A1, cc1, rfl, _⟩ := hm.readsN (n := log.length + 1) (by simp)
       have hb := hm.p2.get
       have hx1 : w1.cell? ⟨g, 1, none⟩ = some (.slice A' log.length c') := blk_cell hb 1
       have hx2 := blk_frozen hb 1
       have HM3 := Aside0.mk hm
       clear hm hb))
  go_ret
  have h3 := (HM3.out.p2).put (cs' := #[.slice (some ⟨gl, 0, none⟩) levels.length cl, .slice A1 (log.length + 1) cc1]) 1 (.slice A1 (log.length + 1) cc1) rfl
  exact ⟨_, rfl, h3.p2.p1⟩
end Go.Proofs.Ytfacjkcndfpmpaa.QAl
