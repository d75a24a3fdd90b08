/- The queue's methods: Peek, Pop, Items. -/
import Derived.Test.YteneigadnabolaaDqH
namespace Go.Proofs.Yteneigadnabolaa.QAl
open Go.RowKit Go.Proofs.YteneigadnabolaaW.PrintWords Go.Proofs.YteneigadnabolaaW.PrintLast Go.Proofs.YteneigadnabolaaW.PrintMore Go.Proofs.Yteneigadnabolaa.Sl
set_option linter.unusedVariables false
set_option linter.unusedSimpArgs false
variable {L : List Chunk}
/-- A queue: its block and its row. -/
@[reducible] def que (w0 : World) (g : Nat) (v : Value) (l : List S30) (L : List Chunk) : List Chunk := blk g #[v] 62 :: qrow w0 k30 30 v l :: L
theorem info30s : (Try.prog.info? 30).map (·.size) = some 2 := by kernel_rfl
theorem Peek_nil {w0 W : World} {g : Nat} {v : Value} (hM : Mem w0 W (que w0 g v [] L)) :
    Calls Try.prog 22 #[.pointer (some ⟨g, 0, none⟩)] W fun e w' => e = .returned (.tuple #[.agg #[.int .i64 0, .int .i64 0], .bool false]) ∧ Below W.heap.size W w' := by
  obtain ⟨A, c, rfl, _, _⟩ := hM.p1.q_reads
  have x0 := blk_cell hM.get 0
  have g0 := hM.lt
  have hgne : ¬ g = W.heap.size := by omega
  clear hM
  go_enter Try.func22, Try.ntmps22
  go_wp2_with fail
  refine bodyPost_ret (results_ct rfl _ _ W.heap.size 30 #[.int .i64 0, .int .i64 0] (0, 0) _ rfl (blk_new W _) Try.underlying30 rfl info30s) rfl ⟨rfl, ?_⟩
  exact below_alloc (Below.refl _ _) _
theorem Peek_cons {w0 W : World} {g : Nat} {v : Value} {y : S30} {l : List S30} (hM : Mem w0 W (que w0 g v (y :: l) L)) :
    Calls Try.prog 22 #[.pointer (some ⟨g, 0, none⟩)] W fun e w' => e = .returned (.tuple #[.agg #[.int .i64 y.f0, .int .i64 y.f1], .bool true]) ∧ Below W.heap.size W w' := by
  obtain ⟨A, c, rfl, _, hC⟩ := hM.p1.q_reads
  have x0 := blk_cell hM.get 0
  have g0 := hM.lt
  obtain ⟨b, o, rfl, y0, y1⟩ := item_at hC (j := 0) (by simp)
  have hb : b < W.heap.size := World.block_lt_of_cell? W _ y0
  rw [Nat.zero_mul, Nat.add_zero] at y0 y1
  have e0 : (y :: l).getD 0 z30 = y := rfl
  rw [e0] at y0 y1
  have hl : (0 : Int) < ((y :: l).length : Int) := by simp
  have hl' : (0 : Int) ≤ (l.length : Int) := by omega
  clear hM hC e0
  go_enter Try.func22, Try.ntmps22
  go_wp2_with fail
  refine bodyPost_ret (results_ct rfl _ _ W.heap.size 30 #[.int .i64 y.f0, .int .i64 y.f1] (0, 0) _ rfl (blk_new W _) Try.underlying30 rfl info30s) rfl ⟨rfl, ?_⟩
  exact below_alloc (Below.refl _ _) _
/-- The first item, or none. -/
def pk (l : List S30) : Value := .tuple #[.agg #[.int .i64 (l.headD z30).f0, .int .i64 (l.headD z30).f1], .bool (!l.isEmpty)]
theorem Peek_call {w0 W : World} {g : Nat} {v : Value} {l : List S30} (hM : Mem w0 W (que w0 g v l L)) :
    Calls Try.prog 22 #[.pointer (some ⟨g, 0, none⟩)] W fun e w' => e = .returned (pk l) ∧ Below W.heap.size W w' := by
  cases l with
  | nil => exact Peek_nil hM
  | cons y l => exact Peek_cons hM
theorem Pop_nil {w0 W : World} {g : Nat} {v : Value} (hM : Mem w0 W (que w0 g v [] L)) :
    Calls Try.prog 14 #[.pointer (some ⟨g, 0, none⟩)] W fun e w' => e = .returned (pk []) ∧ Below W.heap.size W w' := by
  have HM := Aside0.mk hM
  clear hM
  go_enter Try.func14, Try.ntmps14
  go_wp2_with fail
  refine (Peek_nil (HM.out.alloc _)).mono ?_
  rintro e w' ⟨rfl, hb⟩
  have hb1 := below_step (below_alloc (Below.refl W.heap.size W) _) hb
  have hg := blk_below (blk_new W (.cells #[.int .i64 0, .int .i64 0] 30)) hb
  have HB := Aside0.mk hb1
  have HG := Aside0.mk hg
  have hlt : W.heap.size < w'.heap.size := blk_lt hg
  have hne : ¬ W.heap.size = w'.heap.size := by omega
  have hfz := blk_frozen hg 0
  have hfz1 := blk_frozen hg 1
  have hx0 := blk_cell hg 0
  have hx1 := blk_cell hg 1
  clear hb hb1 hg
  go_wp2_with fail
  refine bodyPost_ret (results_ct rfl _ _ W.heap.size 30 #[.int .i64 0, .int .i64 0] (0, 0) _ rfl (blk_alloc (blk_put (cs := #[.int .i64 0, .int .i64 0]) (blk_put (cs := #[.int .i64 0, .int .i64 0]) HG.out 0 _ rfl) 1 _ rfl) _) Try.underlying30 rfl info30s) rfl ⟨rfl, ?_⟩
  exact below_alloc ((HB.out.setCell (Nat.le_refl _) _).setCell (Nat.le_refl _) _) _
theorem Pop_cons {w0 W : World} {g : Nat} {v : Value} {y : S30} {l : List S30} (hM : Mem w0 W (que w0 g v (y :: l) L)) :
    Calls Try.prog 14 #[.pointer (some ⟨g, 0, none⟩)] W fun e w' => ∃ v', e = .returned (pk (y :: l)) ∧ Mem w0 w' (que w0 g v' l L) := by
  obtain ⟨A, c, rfl, hnc, hC⟩ := hM.p1.q_reads
  obtain ⟨b, o, rfl, _, _⟩ := item_at hC (j := 0) (by simp)
  obtain ⟨n, hn⟩ : ∃ n, l.length = n := ⟨_, rfl⟩
  have hn1 : (y :: l).length = n + 1 := by rw [← hn]; rfl
  rw [hn1] at hM hnc
  have HM := Aside0.mk hM
  obtain ⟨A', hA'⟩ : ∃ A' : Option Addr, (if c = 1 then some (⟨b, o, none⟩ : Addr) else some ⟨b, o + 2, none⟩) = A' := ⟨_, rfl⟩
  have hq := (hM.p1.q_drop (k := 1) (by simp))
  have hv' : (if c = 1 then some (⟨b, o, none⟩ : Addr) else Option.map (fun x => x.add (1 * k30.sz)) (some (⟨b, o, none⟩ : Addr))) = A' := by
    rw [← hA']
    split
    · rfl
    · rw [Option.map_some, add_at]; rfl
  rw [hv'] at hq
  have hq : Mem w0 W (qrow w0 k30 30 (.slice A' n (c - 1)) l :: blk g #[.slice (some ⟨b, o, none⟩) (n + 1) c] 62 :: L) := hq
  have HQ := Aside0.mk hq.p1
  have hgW := hM.lt
  have hnN := Aside0.mk hn
  clear hM hC hq hv' hn hn1
  go_enter Try.func14, Try.ntmps14
  go_wp2_with fail
  refine (Peek_cons ((by have := HM.out; exact this : Mem w0 W (que w0 g _ (y :: l) L)).alloc _)).mono ?_
  rintro e w' ⟨rfl, hb⟩
  have hg := blk_below (blk_new W (.cells #[.int .i64 0, .int .i64 0] 30)) hb
  have HMw := Aside0.mk ((HQ.out.new (.cells #[.int .i64 0, .int .i64 0] 30)).step hb)
  have HG := Aside0.mk hg
  have hlt : W.heap.size < w'.heap.size := blk_lt hg
  have hne : ¬ W.heap.size = w'.heap.size := by omega
  have hne2 : ¬ g = W.heap.size := by omega
  have hne3 : ¬ W.heap.size = g := by omega
  have hne4 : ¬ g = w'.heap.size := by omega
  have hne5 : g < w'.heap.size := by omega
  have hfz := blk_frozen hg 0
  have hfz1 := blk_frozen hg 1
  have hx0 := blk_cell hg 0
  have hx1 := blk_cell hg 1
  have hgc := blk_cell HMw.out.p1.get 0
  have hgf := blk_frozen HMw.out.p1.get 0
  have hl0 : (0 : Int) < (n : Int) + 1 := by omega
  have hl1 : (1 : Int) ≤ (n : Int) + 1 := by omega
  clear hb hg
  by_cases hc1 : c = 1
  · rw [if_pos hc1] at hA'
    subst hA'
    subst hc1
    obtain rfl : n = 0 := by omega
    go_wp2_with fail
    refine bodyPost_ret (results_ct rfl _ _ W.heap.size 30 #[.int .i64 y.f0, .int .i64 y.f1] (0, 0) _ rfl (blk_alloc (blk_put (cs := #[.int .i64 y.f0, .int .i64 0]) (blk_put (cs := #[.int .i64 0, .int .i64 0]) (blk_far HG.out (fun e => hne3 e) _) 0 _ rfl) 1 _ rfl) _) Try.underlying30 rfl info30s) rfl ?_
    have h1 := HMw.out.p1.put 0 (.slice (some ⟨b, o, none⟩) 0 0) rfl
    have h2 := (h1.p1.put 0 (.int .i64 y.f0) rfl).put 1 (.int .i64 y.f1) rfl
    exact ⟨_, rfl, h2.drop.alloc _⟩
  · rw [if_neg hc1] at hA'
    subst hA'
    go_wp2_with fail
    refine bodyPost_ret (results_ct rfl _ _ W.heap.size 30 #[.int .i64 y.f0, .int .i64 y.f1] (0, 0) _ rfl (blk_alloc (blk_put (cs := #[.int .i64 y.f0, .int .i64 0]) (blk_put (cs := #[.int .i64 0, .int .i64 0]) (blk_far HG.out (fun e => hne3 e) _) 0 _ rfl) 1 _ rfl) _) Try.underlying30 rfl info30s) rfl ?_
    have h1 := HMw.out.p1.put 0 (.slice (some ⟨b, o + 2, none⟩) n (c - 1)) rfl
    have h2 := (h1.p1.put 0 (.int .i64 y.f0) rfl).put 1 (.int .i64 y.f1) rfl
    exact ⟨_, rfl, h2.drop.alloc _⟩
theorem Pop_call {w0 W : World} {g : Nat} {v : Value} {l : List S30} (hM : Mem w0 W (que w0 g v l L)) :
    Calls Try.prog 14 #[.pointer (some ⟨g, 0, none⟩)] W fun e w' => ∃ v', e = .returned (pk l) ∧ Mem w0 w' (que w0 g v' (l.drop 1) L) := by
  cases l with
  | nil => exact (Pop_nil hM).mono fun e w' ⟨he, hb⟩ => ⟨v, he, hM.step hb⟩
  | cons y l => exact Pop_cons hM
end Go.Proofs.Yteneigadnabolaa.QAl
