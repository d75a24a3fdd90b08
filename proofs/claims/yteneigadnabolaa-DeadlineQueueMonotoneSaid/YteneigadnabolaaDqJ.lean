/- The queue's methods: Items (slices.Clone), Remove, Push. -/
import Derived.Test.YteneigadnabolaaDqI
namespace Go.Proofs.Yteneigadnabolaa.QAl
open Go.RowKit Go.Proofs.YteneigadnabolaaW.PrintWords Go.Proofs.YteneigadnabolaaW.PrintLast Go.Proofs.YteneigadnabolaaW.PrintMore Go.Proofs.Yteneigadnabolaa.Sl
set_option linter.unusedVariables false
set_option linter.unusedSimpArgs false
variable {L : List Chunk}
theorem Clone_call {W : World} {A : Option Addr} {c : Nat} {l : List S30} (hC : k30.C W A l.length l) (hl : l.length ≤ 1000) :
    Calls Try.prog 34 #[.slice A l.length c] W fun e w' => ∃ v, e = .returned v ∧ Mem W w' [row W k30 30 v l] := by
  cases A with
  | none =>
    have h0 : l = [] := by
      cases l with
      | nil => rfl
      | cons y r =>
        obtain ⟨b, o, e, _⟩ := item_at hC (j := 0) (by simp)
        cases e
    subst h0
    clear hC
    have hnil := fun w => Lib.run_eql_slice_nil (P := Try.prog) w 38 30 none 0 c 0 0 Try.underlying38
    go_enter Try.func34, Try.ntmps34
    go_wp2_with fail
    go_ret
    exact ⟨_, rfl, (Mem.start W).row_nil k30 30⟩
  | some a =>
    obtain ⟨ab, ao, asp⟩ := a
    have HC := Aside0.mk hC
    obtain ⟨n, hn⟩ : ∃ n, l.length = n := ⟨_, rfl⟩
    have hM := (Mem.start W).row_empty k30 30
    have HM := Aside0.mk hM
    have HN := Aside0.mk hn
    rw [hn] at hl ⊢
    clear hC hM hn
    have hnil := fun w => Lib.run_eql_slice_nil (P := Try.prog) w 38 30 (some ⟨ab, ao, asp⟩) n c 0 0 Try.underlying38
    go_enter Try.func34, Try.ntmps34
    go_wp2_with ((with_reducible refine gate_builtin (b := .append) (xs := #[.tmp 5, .tmp 6]) rfl ?_); at_builtin
                 refine Mem.wp_append_rows k30 (w0 := W) rfl (.tmp 5) (.tmp 6) 38 30 (.agg #[.int .i64 0, .int .i64 0]) 16 rfl Try.underlying38 info30 rfl (by decide) (by omega) _ ([] : List S30) l (some ⟨ab, ao, asp⟩) n c rfl rfl (by have := Kd.C_below HC.out HM.out.below; rwa [HN.out] at this) (fun x cs hx => by rw [k30_open hx]; exact k30_mkM _ _ _ _) HM.out (by simp; omega) ?_
                 intro v1 w1 hm
                 have HM1 := Aside0.mk hm
                 clear hm)
    go_ret
    exact ⟨_, rfl, HM1.out⟩
theorem Items_call {w0 W : World} {g : Nat} {v : Value} {l : List S30} (hM : Mem w0 W (que w0 g v l L)) (hl : l.length ≤ 1000) :
    Calls Try.prog 24 #[.pointer (some ⟨g, 0, none⟩)] W fun e w' => ∃ v', e = .returned v' ∧ Mem w0 w' (row w0 k30 30 v' l :: que w0 g v l L) := by
  obtain ⟨A, c, rfl, hnc, hC⟩ := hM.p1.q_reads
  have x0 := blk_cell hM.get 0
  have HM := Aside0.mk hM
  have HC := Aside0.mk hC
  obtain ⟨n, hn⟩ : ∃ n, n = l.length := ⟨_, rfl⟩
  have key := Aside0.mk (Clone_call (c := c) hC hl)
  rw [← hn] at x0 key
  clear hM hC hn
  go_enter Try.func24, Try.ntmps24
  go_wp2_with fail
  refine (key.out).mono ?_
  rintro e w' ⟨v', rfl, h⟩
  have HJ := Aside0.mk (HM.out.join h (.cons (Lowers.row HM.out.size) .nil))
  clear h
  go_wp2_with fail
  go_ret
  exact ⟨_, rfl, HJ.out⟩
/-- An item out of a pair. -/
def un (a : Dq.It) : S30 := ⟨a.1, a.2⟩
theorem it_un (a : Dq.It) : it (un a) = a := rfl
theorem un_it (x : S30) : un (it x) = x := rfl
theorem map_it_un (q : List Dq.It) : (q.map un).map it = q := by rw [List.map_map]; exact List.map_id _
theorem map_un_it (l : List S30) : (l.map it).map un = l := by rw [List.map_map]; exact List.map_id _
theorem getD_un (q : List Dq.It) (j : Nat) (h : j < q.length) : (q.map un).getD j z30 = un q[j] := by
  rw [List.getD_eq_getElem?_getD, List.getElem?_map, List.getElem?_eq_getElem h]
  rfl
/-- Is there an item of this ID? -/
def has (q : List Dq.It) (id : Int) : Bool := q.any (fun y => y.1 == id)
theorem has_false {q : List Dq.It} {id : Int} (h : ∀ y ∈ q, y.1 ≠ id) : has q id = false := by
  unfold has
  rw [List.any_eq_false]
  intro y hy
  simpa using h y hy
theorem has_true {q : List Dq.It} {id : Int} {i : Nat} (h : i < q.length) (he : q[i].1 = id) : has q id = true := by
  unfold has
  rw [List.any_eq_true]
  exact ⟨q[i], List.getElem_mem h, by simpa using he⟩
set_option maxRecDepth 100000 in
theorem Remove_call {w0 W : World} {g : Nat} {v : Value} {q : List Dq.It} (id : Int) (hM : Mem w0 W (que w0 g v (q.map un) L)) (hl : q.length ≤ 1000) (hq : Dq.Ok q) :
    Calls Try.prog 26 #[.pointer (some ⟨g, 0, none⟩), .int .i64 id] W fun e w' => ∃ v', e = .returned (.bool (has q id)) ∧ Mem w0 w' (que w0 g v' ((Dq.rm q id).map un) L) := by
  obtain ⟨A, c, rfl, hnc, hC⟩ := hM.p1.q_reads
  have x0 := blk_cell hM.get 0
  have f0 := blk_frozen hM.get 0
  have hgW := hM.lt
  have hgne : ¬ g = W.heap.size := by omega
  have HM := Aside0.mk hM
  obtain ⟨n, hn⟩ : ∃ n, n = (q.map un).length := ⟨_, rfl⟩
  have hn' : n = q.length := by rw [hn, List.length_map]
  have hC1 := Kd.C_below hC (below_alloc (Below.refl W.heap.size W) (.cells #[.int .i64 id] 3))
  have hcid : (W.alloc (.cells #[.int .i64 id] 3)).cell? ⟨W.heap.size, 0, none⟩ = some (.int .i64 id) := (blk_cell (blk_new W _) 0).trans rfl
  have key := Aside0.mk (Index_call (c := c) hC1 (by rw [List.length_map]; exact hl) hcid)
  have HQ := Aside0.mk hq
  have HN := Aside0.mk hn
  have HN' := Aside0.mk hn'
  rw [← hn] at x0 key
  have HM1 := Aside0.mk (hM.alloc (.cells #[.int .i64 id] 3))
  rw [← hn] at HM1
  clear hM hC hn hC1 hcid hq hn'
  go_enter Try.func26, Try.ntmps26
  go_wp2_with fail
  refine (key.out).mono ?_
  rintro e w' ⟨r, rfl, hr, hb⟩
  have HM2 := Aside0.mk (HM1.out.step hb)
  have x2 := blk_cell HM2.out.get 0
  have f2 := blk_frozen HM2.out.get 0
  clear hb
  rcases hr with ⟨rfl, hno⟩ | ⟨k, rfl, hk, he, hno⟩
  · have hno' : Aside0 (∀ y ∈ q, y.1 ≠ id) := ⟨fun y hy => by
      obtain ⟨j, hj, rfl⟩ := List.mem_iff_getElem.1 hy
      have := hno j (by have := HN'.out; omega)
      rwa [getD_un q j hj] at this⟩
    clear hno
    go_wp2_with fail
    go_ret
    rw [has_false hno'.out, Dq.rm_none hno'.out]
    exact ⟨_, rfl, by rw [HN.out] at HM2; exact HM2.out⟩
  · have hk' : k < q.length := by have := HN'.out; omega
    rw [getD_un q k hk'] at he
    have HE := Aside0.mk he
    have hrm := Aside0.mk (Dq.rm_at q k hk' HQ.out he)
    have hM3 : Mem w0 w' (qrow w0 k30 30 (.slice A n c) (q.map un) :: blk g #[.slice A n c] 62 :: L) := HM2.out.p1
    have key2 := Aside0.mk (Delete_call hM3 k (by rw [List.length_map]; exact hk') (by rw [List.length_map]; exact hl))
    have hw1 : IntKind.i64.wrap ((k : Int) + 1) = (k : Int) + 1 := by rw [IntKind.wrap_i64]; omega
    have hk0 : decide ((k : Int) < 0) = false := decide_eq_false (by omega)
    clear he hno hM3
    go_wp2_with fail
    refine (key2.out).mono ?_
    rintro e w3 ⟨v', rfl, h3⟩
    obtain ⟨A3, c3, rfl, _, _⟩ := h3.q_reads
    generalize ((q.map un).take k ++ (q.map un).drop (k + 1)).length = n3 at h3 ⊢
    have HM3 := Aside0.mk h3.p1
    have x3 := blk_cell HM3.out.get 0
    have f3 := blk_frozen HM3.out.get 0
    clear h3
    go_wp2_with fail
    go_ret
    rw [has_true hk' HE.out]
    have e1 : (q.map un).take k ++ (q.map un).drop (k + 1) = (Dq.rm q id).map un := by rw [hrm.out, List.map_append, List.map_take, List.map_drop]
    refine ⟨.slice A3 n3 c3, rfl, ?_⟩
    rw [← e1]
    exact HM3.out.put 0 _ rfl
end Go.Proofs.Yteneigadnabolaa.QAl
