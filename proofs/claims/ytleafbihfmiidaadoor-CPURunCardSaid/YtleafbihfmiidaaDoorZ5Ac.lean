/- What this claim needs of Ac. Parted by prune.py. -/
import Derived.Test.YtleafbihfmiidaaDoorZ5Cp
namespace Go.Proofs.YtleafbihfmiidaaDoor.QAl
open Go.RowKit Go.Proofs.YtleafbihfmiidaaDoorW.PrintWords Go.Proofs.YtleafbihfmiidaaDoorW.PrintLast Go.Proofs.YtleafbihfmiidaaDoorW.PrintMore Go.Proofs.YtleafbihfmiidaaDoor.Sl
set_option linter.unusedVariables false
set_option linter.unusedSimpArgs false
section
variable {L : List Chunk} {w0 w w' : World} {gw : Nat} {B : Bs} {x y : Chunk} {g : Nat} {o : Obj}
theorem BusM.new_ (h : BusM w0 w gw B L) (o : Obj) (hg : w.heap.size = g) : BusM w0 (w.alloc o) gw B (ob g o :: L) := by
  obtain ⟨M, hm, hb⟩ := h.lift
  exact hb _ (ob g o :: L) (hm.new_ o hg)
theorem BusM.top (h : BusM w0 w gw B (ob g o :: L)) : w.heap[g]? = some o := by
  obtain ⟨M, hm, _⟩ := h.lift
  have hm : Mem w0 w (ob g o :: (L ++ M)) := hm
  exact hm.get
theorem BusM.swap (h : BusM w0 w gw B (x :: y :: L)) : BusM w0 w gw B (y :: x :: L) := by
  obtain ⟨M, hm, hb⟩ := h.lift
  have hm : Mem w0 w (x :: y :: (L ++ M)) := hm
  exact hb w (y :: x :: L) hm.p1
theorem BusM.drop (h : BusM w0 w gw B (x :: L)) : BusM w0 w gw B L := by
  obtain ⟨M, hm, hb⟩ := h.lift
  have hm : Mem w0 w (x :: (L ++ M)) := hm
  exact hb w L hm.drop
theorem BusM.put {t i : Nat} {cs cs' : Array Value} {u : Value} (h : BusM w0 w gw B (blk g cs t :: L)) (e : cs.setIfInBounds i u = cs') : BusM w0 (w.setCell ⟨g, i, none⟩ u) gw B (blk g cs' t :: L) := by
  obtain ⟨M, hm, hb⟩ := h.lift
  have hm : Mem w0 w (blk g cs t :: (L ++ M)) := hm
  exact hb _ (blk g cs' t :: L) (hm.put i u e)
theorem BusM.drew (h : BusM w0 w gw B L) : BusM w0 w.drew gw B L := h.step (below_drew (Below.refl _ _))
theorem BusM.drewN (h : BusM w0 w gw B L) (n : Nat) : BusM w0 (w.drewN n) gw B L := h.step (pw_below_drewN (Below.refl _ _) n)
end
abbrev busV (gw : Nat) : Value := .iface 57 (.pointer (some ⟨gw, 0, none⟩))
theorem ahead_Spend (a : Addr) (w : World) : (nilAhead 157 57 (.pointer (some a)) "Spend").run Tryd.prog w = .ok (some false) w := by kernel_rfl
theorem aheadB_Spend (a : Addr) (w : World) : (nilAhead 254 57 (.pointer (some a)) "Spend").run Tryd.prog w = .ok (some false) w := by kernel_rfl
theorem methB_Spend (a : Addr) (w : World) : (method 254 57 (.pointer (some a)) "Spend").run Tryd.prog w = .ok (36, .pointer (some a)) w := by kernel_rfl
theorem meth_Spend (a : Addr) (w : World) : (method 157 57 (.pointer (some a)) "Spend").run Tryd.prog w = .ok (36, .pointer (some a)) w := by kernel_rfl
theorem ahead_Load (a : Addr) (w : World) : (nilAhead 157 57 (.pointer (some a)) "Load").run Tryd.prog w = .ok (some false) w := by kernel_rfl
theorem meth_Load (a : Addr) (w : World) : (method 157 57 (.pointer (some a)) "Load").run Tryd.prog w = .ok (41, .pointer (some a)) w := by kernel_rfl
theorem ahead_Store (a : Addr) (w : World) : (nilAhead 157 57 (.pointer (some a)) "Store").run Tryd.prog w = .ok (some false) w := by kernel_rfl
theorem aheadB_Store (a : Addr) (w : World) : (nilAhead 254 57 (.pointer (some a)) "Store").run Tryd.prog w = .ok (some false) w := by kernel_rfl
theorem methB_Store (a : Addr) (w : World) : (method 254 57 (.pointer (some a)) "Store").run Tryd.prog w = .ok (42, .pointer (some a)) w := by kernel_rfl
theorem meth_Store (a : Addr) (w : World) : (method 157 57 (.pointer (some a)) "Store").run Tryd.prog w = .ok (42, .pointer (some a)) w := by kernel_rfl
theorem ahead_Read (a : Addr) (w : World) : (nilAhead 157 57 (.pointer (some a)) "Read").run Tryd.prog w = .ok (some false) w := by kernel_rfl
theorem meth_Read (a : Addr) (w : World) : (method 157 57 (.pointer (some a)) "Read").run Tryd.prog w = .ok (44, .pointer (some a)) w := by kernel_rfl
theorem ahead_Send (a : Addr) (w : World) : (nilAhead 157 57 (.pointer (some a)) "Send").run Tryd.prog w = .ok (some false) w := by kernel_rfl
theorem aheadB_Send (a : Addr) (w : World) : (nilAhead 254 57 (.pointer (some a)) "Send").run Tryd.prog w = .ok (some false) w := by kernel_rfl
theorem methB_Send (a : Addr) (w : World) : (method 254 57 (.pointer (some a)) "Send").run Tryd.prog w = .ok (45, .pointer (some a)) w := by kernel_rfl
theorem meth_Send (a : Addr) (w : World) : (method 157 57 (.pointer (some a)) "Send").run Tryd.prog w = .ok (45, .pointer (some a)) w := by kernel_rfl
theorem ahead_Emit (a : Addr) (w : World) : (nilAhead 157 57 (.pointer (some a)) "Emit").run Tryd.prog w = .ok (some false) w := by kernel_rfl
theorem aheadB_Emit (a : Addr) (w : World) : (nilAhead 254 57 (.pointer (some a)) "Emit").run Tryd.prog w = .ok (some false) w := by kernel_rfl
theorem methB_Emit (a : Addr) (w : World) : (method 254 57 (.pointer (some a)) "Emit").run Tryd.prog w = .ok (46, .pointer (some a)) w := by kernel_rfl
theorem meth_Emit (a : Addr) (w : World) : (method 157 57 (.pointer (some a)) "Emit").run Tryd.prog w = .ok (46, .pointer (some a)) w := by kernel_rfl
theorem ahead_Output (a : Addr) (w : World) : (nilAhead 157 57 (.pointer (some a)) "Output").run Tryd.prog w = .ok (some false) w := by kernel_rfl
theorem aheadB_Output (a : Addr) (w : World) : (nilAhead 254 57 (.pointer (some a)) "Output").run Tryd.prog w = .ok (some false) w := by kernel_rfl
theorem methB_Output (a : Addr) (w : World) : (method 254 57 (.pointer (some a)) "Output").run Tryd.prog w = .ok (47, .pointer (some a)) w := by kernel_rfl
theorem meth_Output (a : Addr) (w : World) : (method 157 57 (.pointer (some a)) "Output").run Tryd.prog w = .ok (47, .pointer (some a)) w := by kernel_rfl
theorem ahead_Log (a : Addr) (w : World) : (nilAhead 157 57 (.pointer (some a)) "Log").run Tryd.prog w = .ok (some false) w := by kernel_rfl
theorem meth_Log (a : Addr) (w : World) : (method 157 57 (.pointer (some a)) "Log").run Tryd.prog w = .ok (48, .pointer (some a)) w := by kernel_rfl
def widx (ad : Int) : Nat := ((ad - 2560) / 2).toNat
def bstore (B : Bs) (ad v : Int) : Bs := if B.ok = true then (B.log 2 ad v).setW (widx ad) v else B.log 2 ad v
/-- What access does: the value, whether there is one, whether the power holds, the bus. -/
def accC (B : Bs) (s : Cs) (op : Int) (a b : Nat) (im : Int) : Int × Bool × Bool × Bs :=
  if op = 14 then (B.words.getD (widx (adrC s op a b im).1) 0, true, B.ok, B.log 1 (adrC s op a b im).1 0)
  else if op = 16 then (B.words.getD (widx (adrC s op a b im).1) 0, true, B.ok, B.log 1 (adrC s op a b im).1 0)
  else if op = 23 then (B.readV, true, B.ok, (B.log 3 im 0).readN)
  else if op = 15 then (0, false, B.ok, bstore B (adrC s op a b im).1 (s.r a))
  else if op = 17 then (0, false, B.ok, bstore B (adrC s op a b im).1 (s.r a))
  else if op = 24 then (0, false, B.ok, B.log 4 im (s.r a))
  else if op = 25 then (0, false, B.ok, B.log 5 (s.r a) 0)
  else if op = 26 then (0, false, B.ok, B.log 6 im (s.r a))
  else if op = 27 then (0, false, B.ok, B.log 7 (adrC s op a b im).1 0)
  else if op = 28 then (0, false, B.ok, B.log 7 (adrC s op a b im).1 0)
  else (0, false, true, B)
set_option maxRecDepth 100000 in
set_option maxHeartbeats 16000000 in
theorem access_call {L : List Chunk} {w0 w : World} {gc gw : Nat} {s : Cs} {B : Bs} (h : BusM w0 w gw B (ob gc (.cells s.cells 32) :: L)) (hl : B.calls.length ≤ 100000) (hs : s.Ok) (op : Int) {a b : Nat} (cc : Nat) {im : Int} (ha : a < 8) (hb : b < 8) (hi : S16 im) (hd : (adrC s op a b im).2 = true → dataOk (adrC s op a b im).1 = true) :
    Calls Tryd.prog 32 #[.pointer (some ⟨gc, 0, none⟩), iV op a b cc im, busV gw] w fun e w' => e = .returned (.tuple #[.int .i16 (accC B s op a b im).1, .bool (accC B s op a b im).2.1, .bool (accC B s op a b im).2.2.1]) ∧ BusM w0 w' gw (accC B s op a b im).2.2.2 (ob gc (.cells s.cells 32) :: L) := by
  have hw := w64_s16 hi
  have hwi : IntKind.i64.wrap im = im := by rw [i64_w]; exact hw
  obtain ⟨g1, hg1⟩ : ∃ g1, w.heap.size = g1 := ⟨_, rfl⟩
  have h1 := h.new_ (iO op a b cc im) hg1
  have HG := Aside0.mk hg1
  have HAD := Aside0.mk (address_call (w := w.alloc (iO op a b cc im)) h1.swap.top hs op cc ha hb hi)
  have H1 := Aside0.mk h1
  have y0 := blk_cell h1.top 0
  have y1 := blk_cell h1.top 1
  have y2 := blk_cell h1.top 2
  have y3 := blk_cell h1.top 3
  have y4 := blk_cell h1.top 4
  have HI := Aside0.mk hi
  have HS := Aside0.mk hs
  have HA := Aside0.mk ha
  have HL := Aside0.mk hl
  have HC := Aside0.mk (show accC B s op a b im = (if op = 14 then (B.words.getD (widx (adrC s op a b im).1) 0, true, B.ok, B.log 1 (adrC s op a b im).1 0)
  else if op = 16 then (B.words.getD (widx (adrC s op a b im).1) 0, true, B.ok, B.log 1 (adrC s op a b im).1 0)
  else if op = 23 then (B.readV, true, B.ok, (B.log 3 im 0).readN)
  else if op = 15 then (0, false, B.ok, bstore B (adrC s op a b im).1 (s.r a))
  else if op = 17 then (0, false, B.ok, bstore B (adrC s op a b im).1 (s.r a))
  else if op = 24 then (0, false, B.ok, B.log 4 im (s.r a))
  else if op = 25 then (0, false, B.ok, B.log 5 (s.r a) 0)
  else if op = 26 then (0, false, B.ok, B.log 6 im (s.r a))
  else if op = 27 then (0, false, B.ok, B.log 7 (adrC s op a b im).1 0)
  else if op = 28 then (0, false, B.ok, B.log 7 (adrC s op a b im).1 0)
  else (0, false, true, B)) from rfl)
  have HD14 := Aside0.mk (show op = 14 → DataAt (adrC s op a b im).1 (widx (adrC s op a b im).1) from fun e => data_at (hd (by subst e; rfl)))
  have HD15 := Aside0.mk (show op = 15 → DataAt (adrC s op a b im).1 (widx (adrC s op a b im).1) from fun e => data_at (hd (by subst e; rfl)))
  have HD16 := Aside0.mk (show op = 16 → DataAt (adrC s op a b im).1 (widx (adrC s op a b im).1) from fun e => data_at (hd (by subst e; rfl)))
  have HD17 := Aside0.mk (show op = 17 → DataAt (adrC s op a b im).1 (widx (adrC s op a b im).1) from fun e => data_at (hd (by subst e; rfl)))
  rw [HC.out]
  generalize adrC s op a b im = AA at *
  obtain ⟨ad, is⟩ := AA
  dsimp only at HAD HD14 HD15 HD16 HD17 ⊢
  clear h h1 hl hs hi hd hg1 HC hb
  have ha' : (a : Int) < 8 := by omega
  by_cases e14 : op = 14
  · subst e14
    go_enter Tryd.func32, Tryd.ntmps32
    go_wp2_with fail
    rw [HG.out]
    refine HAD.out.mono ?_
    rintro e w1 ⟨rfl, hb1⟩
    have H2 := Aside0.mk (H1.out.step hb1)
    clear hb1 y0 y1 y2 y3 y4
    have y0 := blk_cell H2.out.top 0
    have y1 := blk_cell H2.out.top 1
    have y4 := blk_cell H2.out.top 4
    have n1 := ahead_Load ⟨gw, 0, none⟩
    have n2 := meth_Load ⟨gw, 0, none⟩
    go_wp2_with fail
    refine (Load_call H2.out HL.out (HD14.out (by first | rfl | trivial))).mono ?_
    rintro e w2 ⟨rfl, h2⟩
    have H3 := Aside0.mk h2
    clear h2 n1 n2
    go_wp2_with fail
    go_ret3
    exact ⟨by simp [bstore], by simpa [bstore] using H3.out.drop⟩
  by_cases e16 : op = 16
  · subst e16
    go_enter Tryd.func32, Tryd.ntmps32
    go_wp2_with fail
    rw [HG.out]
    refine HAD.out.mono ?_
    rintro e w1 ⟨rfl, hb1⟩
    have H2 := Aside0.mk (H1.out.step hb1)
    clear hb1 y0 y1 y2 y3 y4
    have y0 := blk_cell H2.out.top 0
    have y1 := blk_cell H2.out.top 1
    have y4 := blk_cell H2.out.top 4
    have n1 := ahead_Load ⟨gw, 0, none⟩
    have n2 := meth_Load ⟨gw, 0, none⟩
    go_wp2_with fail
    refine (Load_call H2.out HL.out (HD16.out (by first | rfl | trivial))).mono ?_
    rintro e w2 ⟨rfl, h2⟩
    have H3 := Aside0.mk h2
    clear h2 n1 n2
    go_wp2_with fail
    go_ret3
    exact ⟨by simp [bstore], by simpa [bstore] using H3.out.drop⟩
  by_cases e23 : op = 23
  · subst e23
    go_enter Tryd.func32, Tryd.ntmps32
    go_wp2_with fail
    rw [HG.out]
    refine HAD.out.mono ?_
    rintro e w1 ⟨rfl, hb1⟩
    have H2 := Aside0.mk (H1.out.step hb1)
    clear hb1 y0 y1 y2 y3 y4
    have y0 := blk_cell H2.out.top 0
    have y1 := blk_cell H2.out.top 1
    have y4 := blk_cell H2.out.top 4
    have n1 := ahead_Read ⟨gw, 0, none⟩
    have n2 := meth_Read ⟨gw, 0, none⟩
    go_wp2_with fail
    refine (Read_call H2.out HL.out im).mono ?_
    rintro e w2 ⟨rfl, h2⟩
    have H3 := Aside0.mk h2
    clear h2 n1 n2
    go_wp2_with fail
    go_ret3
    exact ⟨by simp [bstore], by simpa [bstore] using H3.out.drop⟩
  by_cases e27 : op = 27
  · subst e27
    go_enter Tryd.func32, Tryd.ntmps32
    go_wp2_with fail
    rw [HG.out]
    refine HAD.out.mono ?_
    rintro e w1 ⟨rfl, hb1⟩
    have H2 := Aside0.mk (H1.out.step hb1)
    clear hb1 y0 y1 y2 y3 y4
    have y0 := blk_cell H2.out.top 0
    have y1 := blk_cell H2.out.top 1
    have y4 := blk_cell H2.out.top 4
    have n1 := ahead_Log ⟨gw, 0, none⟩
    have n2 := meth_Log ⟨gw, 0, none⟩
    go_wp2_with fail
    refine (Log_call H2.out HL.out ad).mono ?_
    rintro e w2 ⟨rfl, h2⟩
    have H3 := Aside0.mk h2
    clear h2 n1 n2
    go_wp2_with fail
    go_ret3
    exact ⟨by simp [bstore], by simpa [bstore] using H3.out.drop⟩
  by_cases e28 : op = 28
  · subst e28
    go_enter Tryd.func32, Tryd.ntmps32
    go_wp2_with fail
    rw [HG.out]
    refine HAD.out.mono ?_
    rintro e w1 ⟨rfl, hb1⟩
    have H2 := Aside0.mk (H1.out.step hb1)
    clear hb1 y0 y1 y2 y3 y4
    have y0 := blk_cell H2.out.top 0
    have y1 := blk_cell H2.out.top 1
    have y4 := blk_cell H2.out.top 4
    have n1 := ahead_Log ⟨gw, 0, none⟩
    have n2 := meth_Log ⟨gw, 0, none⟩
    go_wp2_with fail
    refine (Log_call H2.out HL.out ad).mono ?_
    rintro e w2 ⟨rfl, h2⟩
    have H3 := Aside0.mk h2
    clear h2 n1 n2
    go_wp2_with fail
    go_ret3
    exact ⟨by simp [bstore], by simpa [bstore] using H3.out.drop⟩
  by_cases e15 : op = 15
  · subst e15
    go_enter Tryd.func32, Tryd.ntmps32
    go_wp2_with fail
    rw [HG.out]
    refine HAD.out.mono ?_
    rintro e w1 ⟨rfl, hb1⟩
    have H2 := Aside0.mk (H1.out.step hb1)
    clear hb1 y0 y1 y2 y3 y4
    have y0 := blk_cell H2.out.top 0
    have y1 := blk_cell H2.out.top 1
    have y4 := blk_cell H2.out.top 4
    have xa := cpu_r H2.out.swap.top HS.out (i := a) (by have := HA.out; omega)
    obtain ⟨va, hva⟩ : ∃ v, s.r a = v := ⟨_, rfl⟩
    have HVA := Aside0.mk (show S16 va by rw [← hva]; exact HS.out.r a)
    rw [hva] at xa
    have HVV := Aside0.mk hva
    clear hva
    have n1 := ahead_Store ⟨gw, 0, none⟩
    have n2 := meth_Store ⟨gw, 0, none⟩
    have n3 := aheadB_Store ⟨gw, 0, none⟩
    have n4 := methB_Store ⟨gw, 0, none⟩
    go_wp2_with fail
    refine wp_region_held_drew (S := fun W => W.cell? ⟨gc, 1 + a, none⟩ = some (.int .i16 va) ∧ W.cell? ⟨g1, 1, none⟩ = some (.int .i64 (a : Int)) ∧ W.cell? ⟨g1, 4, none⟩ = some (.int .i16 im)) (by kernel_rfl) ⟨xa, y1, y4⟩ (fun hS => ?_)
    refine tkH (i := 0) (N := some 45) (v := ?_) rfl rfl (by kernel_rfl) (by kernel_rfl) (by kernel_rfl) (fun _ _ _ h => h) (Or.inl ⟨by rfl, ?_⟩) hS ?_
    rotate_left
    · intro W_ hSW_
      obtain ⟨za_, z1_, z4_⟩ := hSW_
      go_simp
      try with_reducible rfl
    try simp only [Act.put, List.setIfInBounds_toArray, List.set_cons_zero, List.set_cons_succ]
    refine tkH (i := 1) (N := some 46) (v := ?_) rfl rfl (by kernel_rfl) (by kernel_rfl) (by kernel_rfl) (fun _ _ _ h => h) (Or.inl ⟨by rfl, ?_⟩) hS ?_
    rotate_left
    · intro W_ hSW_
      obtain ⟨za_, z1_, z4_⟩ := hSW_
      go_simp
      try with_reducible rfl
    try simp only [Act.put, List.setIfInBounds_toArray, List.set_cons_zero, List.set_cons_succ]
    refine tkH (i := 2) (N := some 47) (v := ?_) rfl rfl (by kernel_rfl) (by kernel_rfl) (by kernel_rfl) (fun _ _ _ h => h) (Or.inl ⟨by rfl, ?_⟩) hS ?_
    rotate_left
    · intro W_ hSW_
      obtain ⟨za_, z1_, z4_⟩ := hSW_
      go_simp
      try with_reducible rfl
    try simp only [Act.put, List.setIfInBounds_toArray, List.set_cons_zero, List.set_cons_succ]
    refine tkH (i := 3) (N := some 48) (v := ?_) rfl rfl (by kernel_rfl) (by kernel_rfl) (by kernel_rfl) (fun _ _ _ h => h) (Or.inl ⟨by rfl, ?_⟩) hS ?_
    rotate_left
    · intro W_ hSW_
      obtain ⟨za_, z1_, z4_⟩ := hSW_
      go_simp
      try with_reducible rfl
    try simp only [Act.put, List.setIfInBounds_toArray, List.set_cons_zero, List.set_cons_succ]
    refine tkH (i := 4) (N := some 49) (v := ?_) rfl rfl (by kernel_rfl) (by kernel_rfl) (by kernel_rfl) (fun _ _ _ h => h) (Or.inl ⟨by rfl, ?_⟩) hS ?_
    rotate_left
    · intro W_ hSW_
      obtain ⟨za_, z1_, z4_⟩ := hSW_
      go_simp
      try with_reducible rfl
    try simp only [Act.put, List.setIfInBounds_toArray, List.set_cons_zero, List.set_cons_succ]
    refine tkH (i := 5) (N := some 50) (v := ?_) rfl rfl (by kernel_rfl) (by kernel_rfl) (by kernel_rfl) (fun _ _ _ h => h) (Or.inl ⟨by rfl, ?_⟩) hS ?_
    rotate_left
    · intro W_ hSW_
      obtain ⟨za_, z1_, z4_⟩ := hSW_
      go_simp
      try with_reducible rfl
    try simp only [Act.put, List.setIfInBounds_toArray, List.set_cons_zero, List.set_cons_succ]
    refine tkH (i := 6) (N := some 51) (v := ?_) rfl rfl (by kernel_rfl) (by kernel_rfl) (by kernel_rfl) (fun _ _ _ h => h) (Or.inl ⟨by rfl, ?_⟩) hS ?_
    rotate_left
    · intro W_ hSW_
      obtain ⟨za_, z1_, z4_⟩ := hSW_
      go_simp
      try with_reducible rfl
    try simp only [Act.put, List.setIfInBounds_toArray, List.set_cons_zero, List.set_cons_succ]
    refine tkH (i := 7) (N := some 52) (v := ?_) rfl rfl (by kernel_rfl) (by kernel_rfl) (by kernel_rfl) (fun _ _ _ h => h) (Or.inl ⟨by rfl, ?_⟩) hS ?_
    rotate_left
    · intro W_ hSW_
      obtain ⟨za_, z1_, z4_⟩ := hSW_
      go_simp
      try with_reducible rfl
    try simp only [Act.put, List.setIfInBounds_toArray, List.set_cons_zero, List.set_cons_succ]
    refine tkH (i := 8) (N := some 53) (v := ?_) rfl rfl (by kernel_rfl) (by kernel_rfl) (by kernel_rfl) (fun _ _ _ h => h) (Or.inl ⟨by rfl, ?_⟩) hS ?_
    rotate_left
    · intro W_ hSW_
      obtain ⟨za_, z1_, z4_⟩ := hSW_
      go_simp
      try with_reducible rfl
    try simp only [Act.put, List.setIfInBounds_toArray, List.set_cons_zero, List.set_cons_succ]
    refine tkH (i := 9) (N := some 54) (v := ?_) rfl rfl (by kernel_rfl) (by kernel_rfl) (by kernel_rfl) (fun _ _ _ h => h) (Or.inl ⟨by rfl, ?_⟩) hS ?_
    rotate_left
    · intro W_ hSW_
      obtain ⟨za_, z1_, z4_⟩ := hSW_
      go_simp
      try with_reducible rfl
    try simp only [Act.put, List.setIfInBounds_toArray, List.set_cons_zero, List.set_cons_succ]
    refine tkH (i := 10) (N := some 55) (v := ?_) rfl rfl (by kernel_rfl) (by kernel_rfl) (by kernel_rfl) (fun _ _ _ h => h) (Or.inl ⟨by rfl, ?_⟩) hS ?_
    rotate_left
    · intro W_ hSW_
      obtain ⟨za_, z1_, z4_⟩ := hSW_
      go_simp
      try with_reducible rfl
    try simp only [Act.put, List.setIfInBounds_toArray, List.set_cons_zero, List.set_cons_succ]
    refine tkH (i := 11) (N := some 56) (v := ?_) rfl rfl (by kernel_rfl) (by kernel_rfl) (by kernel_rfl) (fun _ _ _ h => h) (Or.inl ⟨by rfl, ?_⟩) hS ?_
    rotate_left
    · intro W_ hSW_
      obtain ⟨za_, z1_, z4_⟩ := hSW_
      go_simp
      try with_reducible rfl
    try simp only [Act.put, List.setIfInBounds_toArray, List.set_cons_zero, List.set_cons_succ]
    refine wpAnyH_ready (rs := [12]) (by kernel_rfl) (by simp) ?_
    refine AllReadyH.cons (o := { dst := some 57, op := Op.call { callee := Callee.invoke (Operand.tmp 56) "Store", args := #[Operand.tmp 46, Operand.tmp 53], argTypes := #[3, 22] }, type := 4, pos := "cpu.go:93", after := #[{ on := 11, ground := Ground.data }, { on := 1, ground := Ground.data }, { on := 8, ground := Ground.data }], guard := none }) rfl (fun K_ hK_ => ?_) AllReadyH.nil
    go_simp
    refine (Store_call H2.out.drew HL.out (HD15.out (by first | rfl | trivial)) va HVA.out.1 HVA.out.2).mono ?_
    rintro e w2 ⟨rfl, h2⟩
    have H3 := Aside0.mk h2
    clear h2
    refine hK_.out _ _ (⟨by have := cpu_r H3.out.swap.top HS.out (i := a) (by have := HA.out; omega); rw [HVV.out] at this; exact this, blk_cell H3.out.top 1, blk_cell H3.out.top 4⟩) (fun hS_ => ?_)
    clear hK_ K_ hS
    have hS := hS_
    clear hS_
    try simp only [Act.put, List.setIfInBounds_toArray, List.set_cons_zero, List.set_cons_succ]
    refine tkH (i := 13) (N := some 6) (v := ?_) rfl rfl (by kernel_rfl) (by kernel_rfl) (by kernel_rfl) (fun _ _ _ h => h) (Or.inl ⟨by rfl, ?_⟩) hS ?_
    rotate_left
    · intro W_ hSW_
      obtain ⟨za_, z1_, z4_⟩ := hSW_
      go_simp
      try with_reducible rfl
    try simp only [Act.put, List.setIfInBounds_toArray, List.set_cons_zero, List.set_cons_succ]
    refine tkH (i := 14) (N := some 7) (v := ?_) rfl rfl (by kernel_rfl) (by kernel_rfl) (by kernel_rfl) (fun _ _ _ h => h) (Or.inl ⟨by rfl, ?_⟩) hS ?_
    rotate_left
    · intro W_ hSW_
      obtain ⟨za_, z1_, z4_⟩ := hSW_
      go_simp
      try with_reducible rfl
    try simp only [Act.put, List.setIfInBounds_toArray, List.set_cons_zero, List.set_cons_succ]
    refine tkH (i := 15) (N := some 8) (v := ?_) rfl rfl (by kernel_rfl) (by kernel_rfl) (by kernel_rfl) (fun _ _ _ h => h) (Or.inl ⟨by rfl, ?_⟩) hS ?_
    rotate_left
    · intro W_ hSW_
      obtain ⟨za_, z1_, z4_⟩ := hSW_
      go_simp
      try with_reducible rfl
    try simp only [Act.put, List.setIfInBounds_toArray, List.set_cons_zero, List.set_cons_succ]
    refine wpAnyH_done (by kernel_rfl) ?_ _
    clear hS n1 n2 n3 n4
    go_wp2_with fail
    go_ret3
    exact ⟨by simp, by simpa [bstore, HVV.out] using H3.out.drop⟩
  by_cases e17 : op = 17
  · subst e17
    go_enter Tryd.func32, Tryd.ntmps32
    go_wp2_with fail
    rw [HG.out]
    refine HAD.out.mono ?_
    rintro e w1 ⟨rfl, hb1⟩
    have H2 := Aside0.mk (H1.out.step hb1)
    clear hb1 y0 y1 y2 y3 y4
    have y0 := blk_cell H2.out.top 0
    have y1 := blk_cell H2.out.top 1
    have y4 := blk_cell H2.out.top 4
    have xa := cpu_r H2.out.swap.top HS.out (i := a) (by have := HA.out; omega)
    obtain ⟨va, hva⟩ : ∃ v, s.r a = v := ⟨_, rfl⟩
    have HVA := Aside0.mk (show S16 va by rw [← hva]; exact HS.out.r a)
    rw [hva] at xa
    have HVV := Aside0.mk hva
    clear hva
    have n1 := ahead_Store ⟨gw, 0, none⟩
    have n2 := meth_Store ⟨gw, 0, none⟩
    have n3 := aheadB_Store ⟨gw, 0, none⟩
    have n4 := methB_Store ⟨gw, 0, none⟩
    go_wp2_with fail
    refine wp_region_held_drew (S := fun W => W.cell? ⟨gc, 1 + a, none⟩ = some (.int .i16 va) ∧ W.cell? ⟨g1, 1, none⟩ = some (.int .i64 (a : Int)) ∧ W.cell? ⟨g1, 4, none⟩ = some (.int .i16 im)) (by kernel_rfl) ⟨xa, y1, y4⟩ (fun hS => ?_)
    refine tkH (i := 0) (N := some 45) (v := ?_) rfl rfl (by kernel_rfl) (by kernel_rfl) (by kernel_rfl) (fun _ _ _ h => h) (Or.inl ⟨by rfl, ?_⟩) hS ?_
    rotate_left
    · intro W_ hSW_
      obtain ⟨za_, z1_, z4_⟩ := hSW_
      go_simp
      try with_reducible rfl
    try simp only [Act.put, List.setIfInBounds_toArray, List.set_cons_zero, List.set_cons_succ]
    refine tkH (i := 1) (N := some 46) (v := ?_) rfl rfl (by kernel_rfl) (by kernel_rfl) (by kernel_rfl) (fun _ _ _ h => h) (Or.inl ⟨by rfl, ?_⟩) hS ?_
    rotate_left
    · intro W_ hSW_
      obtain ⟨za_, z1_, z4_⟩ := hSW_
      go_simp
      try with_reducible rfl
    try simp only [Act.put, List.setIfInBounds_toArray, List.set_cons_zero, List.set_cons_succ]
    refine tkH (i := 2) (N := some 47) (v := ?_) rfl rfl (by kernel_rfl) (by kernel_rfl) (by kernel_rfl) (fun _ _ _ h => h) (Or.inl ⟨by rfl, ?_⟩) hS ?_
    rotate_left
    · intro W_ hSW_
      obtain ⟨za_, z1_, z4_⟩ := hSW_
      go_simp
      try with_reducible rfl
    try simp only [Act.put, List.setIfInBounds_toArray, List.set_cons_zero, List.set_cons_succ]
    refine tkH (i := 3) (N := some 48) (v := ?_) rfl rfl (by kernel_rfl) (by kernel_rfl) (by kernel_rfl) (fun _ _ _ h => h) (Or.inl ⟨by rfl, ?_⟩) hS ?_
    rotate_left
    · intro W_ hSW_
      obtain ⟨za_, z1_, z4_⟩ := hSW_
      go_simp
      try with_reducible rfl
    try simp only [Act.put, List.setIfInBounds_toArray, List.set_cons_zero, List.set_cons_succ]
    refine tkH (i := 4) (N := some 49) (v := ?_) rfl rfl (by kernel_rfl) (by kernel_rfl) (by kernel_rfl) (fun _ _ _ h => h) (Or.inl ⟨by rfl, ?_⟩) hS ?_
    rotate_left
    · intro W_ hSW_
      obtain ⟨za_, z1_, z4_⟩ := hSW_
      go_simp
      try with_reducible rfl
    try simp only [Act.put, List.setIfInBounds_toArray, List.set_cons_zero, List.set_cons_succ]
    refine tkH (i := 5) (N := some 50) (v := ?_) rfl rfl (by kernel_rfl) (by kernel_rfl) (by kernel_rfl) (fun _ _ _ h => h) (Or.inl ⟨by rfl, ?_⟩) hS ?_
    rotate_left
    · intro W_ hSW_
      obtain ⟨za_, z1_, z4_⟩ := hSW_
      go_simp
      try with_reducible rfl
    try simp only [Act.put, List.setIfInBounds_toArray, List.set_cons_zero, List.set_cons_succ]
    refine tkH (i := 6) (N := some 51) (v := ?_) rfl rfl (by kernel_rfl) (by kernel_rfl) (by kernel_rfl) (fun _ _ _ h => h) (Or.inl ⟨by rfl, ?_⟩) hS ?_
    rotate_left
    · intro W_ hSW_
      obtain ⟨za_, z1_, z4_⟩ := hSW_
      go_simp
      try with_reducible rfl
    try simp only [Act.put, List.setIfInBounds_toArray, List.set_cons_zero, List.set_cons_succ]
    refine tkH (i := 7) (N := some 52) (v := ?_) rfl rfl (by kernel_rfl) (by kernel_rfl) (by kernel_rfl) (fun _ _ _ h => h) (Or.inl ⟨by rfl, ?_⟩) hS ?_
    rotate_left
    · intro W_ hSW_
      obtain ⟨za_, z1_, z4_⟩ := hSW_
      go_simp
      try with_reducible rfl
    try simp only [Act.put, List.setIfInBounds_toArray, List.set_cons_zero, List.set_cons_succ]
    refine tkH (i := 8) (N := some 53) (v := ?_) rfl rfl (by kernel_rfl) (by kernel_rfl) (by kernel_rfl) (fun _ _ _ h => h) (Or.inl ⟨by rfl, ?_⟩) hS ?_
    rotate_left
    · intro W_ hSW_
      obtain ⟨za_, z1_, z4_⟩ := hSW_
      go_simp
      try with_reducible rfl
    try simp only [Act.put, List.setIfInBounds_toArray, List.set_cons_zero, List.set_cons_succ]
    refine tkH (i := 9) (N := some 54) (v := ?_) rfl rfl (by kernel_rfl) (by kernel_rfl) (by kernel_rfl) (fun _ _ _ h => h) (Or.inl ⟨by rfl, ?_⟩) hS ?_
    rotate_left
    · intro W_ hSW_
      obtain ⟨za_, z1_, z4_⟩ := hSW_
      go_simp
      try with_reducible rfl
    try simp only [Act.put, List.setIfInBounds_toArray, List.set_cons_zero, List.set_cons_succ]
    refine tkH (i := 10) (N := some 55) (v := ?_) rfl rfl (by kernel_rfl) (by kernel_rfl) (by kernel_rfl) (fun _ _ _ h => h) (Or.inl ⟨by rfl, ?_⟩) hS ?_
    rotate_left
    · intro W_ hSW_
      obtain ⟨za_, z1_, z4_⟩ := hSW_
      go_simp
      try with_reducible rfl
    try simp only [Act.put, List.setIfInBounds_toArray, List.set_cons_zero, List.set_cons_succ]
    refine tkH (i := 11) (N := some 56) (v := ?_) rfl rfl (by kernel_rfl) (by kernel_rfl) (by kernel_rfl) (fun _ _ _ h => h) (Or.inl ⟨by rfl, ?_⟩) hS ?_
    rotate_left
    · intro W_ hSW_
      obtain ⟨za_, z1_, z4_⟩ := hSW_
      go_simp
      try with_reducible rfl
    try simp only [Act.put, List.setIfInBounds_toArray, List.set_cons_zero, List.set_cons_succ]
    refine wpAnyH_ready (rs := [12]) (by kernel_rfl) (by simp) ?_
    refine AllReadyH.cons (o := { dst := some 57, op := Op.call { callee := Callee.invoke (Operand.tmp 56) "Store", args := #[Operand.tmp 46, Operand.tmp 53], argTypes := #[3, 22] }, type := 4, pos := "cpu.go:93", after := #[{ on := 11, ground := Ground.data }, { on := 1, ground := Ground.data }, { on := 8, ground := Ground.data }], guard := none }) rfl (fun K_ hK_ => ?_) AllReadyH.nil
    go_simp
    refine (Store_call H2.out.drew HL.out (HD17.out (by first | rfl | trivial)) va HVA.out.1 HVA.out.2).mono ?_
    rintro e w2 ⟨rfl, h2⟩
    have H3 := Aside0.mk h2
    clear h2
    refine hK_.out _ _ (⟨by have := cpu_r H3.out.swap.top HS.out (i := a) (by have := HA.out; omega); rw [HVV.out] at this; exact this, blk_cell H3.out.top 1, blk_cell H3.out.top 4⟩) (fun hS_ => ?_)
    clear hK_ K_ hS
    have hS := hS_
    clear hS_
    try simp only [Act.put, List.setIfInBounds_toArray, List.set_cons_zero, List.set_cons_succ]
    refine tkH (i := 13) (N := some 6) (v := ?_) rfl rfl (by kernel_rfl) (by kernel_rfl) (by kernel_rfl) (fun _ _ _ h => h) (Or.inl ⟨by rfl, ?_⟩) hS ?_
    rotate_left
    · intro W_ hSW_
      obtain ⟨za_, z1_, z4_⟩ := hSW_
      go_simp
      try with_reducible rfl
    try simp only [Act.put, List.setIfInBounds_toArray, List.set_cons_zero, List.set_cons_succ]
    refine tkH (i := 14) (N := some 7) (v := ?_) rfl rfl (by kernel_rfl) (by kernel_rfl) (by kernel_rfl) (fun _ _ _ h => h) (Or.inl ⟨by rfl, ?_⟩) hS ?_
    rotate_left
    · intro W_ hSW_
      obtain ⟨za_, z1_, z4_⟩ := hSW_
      go_simp
      try with_reducible rfl
    try simp only [Act.put, List.setIfInBounds_toArray, List.set_cons_zero, List.set_cons_succ]
    refine tkH (i := 15) (N := some 8) (v := ?_) rfl rfl (by kernel_rfl) (by kernel_rfl) (by kernel_rfl) (fun _ _ _ h => h) (Or.inl ⟨by rfl, ?_⟩) hS ?_
    rotate_left
    · intro W_ hSW_
      obtain ⟨za_, z1_, z4_⟩ := hSW_
      go_simp
      try with_reducible rfl
    try simp only [Act.put, List.setIfInBounds_toArray, List.set_cons_zero, List.set_cons_succ]
    refine wpAnyH_done (by kernel_rfl) ?_ _
    clear hS n1 n2 n3 n4
    go_wp2_with fail
    go_ret3
    exact ⟨by simp, by simpa [bstore, HVV.out] using H3.out.drop⟩
  by_cases e24 : op = 24
  · subst e24
    go_enter Tryd.func32, Tryd.ntmps32
    go_wp2_with fail
    rw [HG.out]
    refine HAD.out.mono ?_
    rintro e w1 ⟨rfl, hb1⟩
    have H2 := Aside0.mk (H1.out.step hb1)
    clear hb1 y0 y1 y2 y3 y4
    have y0 := blk_cell H2.out.top 0
    have y1 := blk_cell H2.out.top 1
    have y4 := blk_cell H2.out.top 4
    have xa := cpu_r H2.out.swap.top HS.out (i := a) (by have := HA.out; omega)
    obtain ⟨va, hva⟩ : ∃ v, s.r a = v := ⟨_, rfl⟩
    have HVA := Aside0.mk (show S16 va by rw [← hva]; exact HS.out.r a)
    rw [hva] at xa
    have HVV := Aside0.mk hva
    clear hva
    have n1 := ahead_Send ⟨gw, 0, none⟩
    have n2 := meth_Send ⟨gw, 0, none⟩
    have n3 := aheadB_Send ⟨gw, 0, none⟩
    have n4 := methB_Send ⟨gw, 0, none⟩
    go_wp2_with fail
    refine wp_region_held_drew (S := fun W => W.cell? ⟨gc, 1 + a, none⟩ = some (.int .i16 va) ∧ W.cell? ⟨g1, 1, none⟩ = some (.int .i64 (a : Int)) ∧ W.cell? ⟨g1, 4, none⟩ = some (.int .i16 im)) (by kernel_rfl) ⟨xa, y1, y4⟩ (fun hS => ?_)
    refine tkH (i := 0) (N := some 60) (v := ?_) rfl rfl (by kernel_rfl) (by kernel_rfl) (by kernel_rfl) (fun _ _ _ h => h) (Or.inl ⟨by rfl, ?_⟩) hS ?_
    rotate_left
    · intro W_ hSW_
      obtain ⟨za_, z1_, z4_⟩ := hSW_
      go_simp
      try with_reducible rfl
    try simp only [Act.put, List.setIfInBounds_toArray, List.set_cons_zero, List.set_cons_succ]
    refine tkH (i := 1) (N := some 61) (v := ?_) rfl rfl (by kernel_rfl) (by kernel_rfl) (by kernel_rfl) (fun _ _ _ h => h) (Or.inl ⟨by rfl, ?_⟩) hS ?_
    rotate_left
    · intro W_ hSW_
      obtain ⟨za_, z1_, z4_⟩ := hSW_
      go_simp
      try with_reducible rfl
    try simp only [Act.put, List.setIfInBounds_toArray, List.set_cons_zero, List.set_cons_succ]
    refine tkH (i := 2) (N := some 62) (v := ?_) rfl rfl (by kernel_rfl) (by kernel_rfl) (by kernel_rfl) (fun _ _ _ h => h) (Or.inl ⟨by rfl, ?_⟩) hS ?_
    rotate_left
    · intro W_ hSW_
      obtain ⟨za_, z1_, z4_⟩ := hSW_
      go_simp
      try with_reducible rfl
    try simp only [Act.put, List.setIfInBounds_toArray, List.set_cons_zero, List.set_cons_succ]
    refine tkH (i := 3) (N := some 63) (v := ?_) rfl rfl (by kernel_rfl) (by kernel_rfl) (by kernel_rfl) (fun _ _ _ h => h) (Or.inl ⟨by rfl, ?_⟩) hS ?_
    rotate_left
    · intro W_ hSW_
      obtain ⟨za_, z1_, z4_⟩ := hSW_
      go_simp
      try with_reducible rfl
    try simp only [Act.put, List.setIfInBounds_toArray, List.set_cons_zero, List.set_cons_succ]
    refine tkH (i := 4) (N := some 64) (v := ?_) rfl rfl (by kernel_rfl) (by kernel_rfl) (by kernel_rfl) (fun _ _ _ h => h) (Or.inl ⟨by rfl, ?_⟩) hS ?_
    rotate_left
    · intro W_ hSW_
      obtain ⟨za_, z1_, z4_⟩ := hSW_
      go_simp
      try with_reducible rfl
    try simp only [Act.put, List.setIfInBounds_toArray, List.set_cons_zero, List.set_cons_succ]
    refine tkH (i := 5) (N := some 65) (v := ?_) rfl rfl (by kernel_rfl) (by kernel_rfl) (by kernel_rfl) (fun _ _ _ h => h) (Or.inl ⟨by rfl, ?_⟩) hS ?_
    rotate_left
    · intro W_ hSW_
      obtain ⟨za_, z1_, z4_⟩ := hSW_
      go_simp
      try with_reducible rfl
    try simp only [Act.put, List.setIfInBounds_toArray, List.set_cons_zero, List.set_cons_succ]
    refine tkH (i := 6) (N := some 66) (v := ?_) rfl rfl (by kernel_rfl) (by kernel_rfl) (by kernel_rfl) (fun _ _ _ h => h) (Or.inl ⟨by rfl, ?_⟩) hS ?_
    rotate_left
    · intro W_ hSW_
      obtain ⟨za_, z1_, z4_⟩ := hSW_
      go_simp
      try with_reducible rfl
    try simp only [Act.put, List.setIfInBounds_toArray, List.set_cons_zero, List.set_cons_succ]
    refine tkH (i := 7) (N := some 67) (v := ?_) rfl rfl (by kernel_rfl) (by kernel_rfl) (by kernel_rfl) (fun _ _ _ h => h) (Or.inl ⟨by rfl, ?_⟩) hS ?_
    rotate_left
    · intro W_ hSW_
      obtain ⟨za_, z1_, z4_⟩ := hSW_
      go_simp
      try with_reducible rfl
    try simp only [Act.put, List.setIfInBounds_toArray, List.set_cons_zero, List.set_cons_succ]
    refine tkH (i := 8) (N := some 68) (v := ?_) rfl rfl (by kernel_rfl) (by kernel_rfl) (by kernel_rfl) (fun _ _ _ h => h) (Or.inl ⟨by rfl, ?_⟩) hS ?_
    rotate_left
    · intro W_ hSW_
      obtain ⟨za_, z1_, z4_⟩ := hSW_
      go_simp
      try with_reducible rfl
    try simp only [Act.put, List.setIfInBounds_toArray, List.set_cons_zero, List.set_cons_succ]
    refine tkH (i := 9) (N := some 69) (v := ?_) rfl rfl (by kernel_rfl) (by kernel_rfl) (by kernel_rfl) (fun _ _ _ h => h) (Or.inl ⟨by rfl, ?_⟩) hS ?_
    rotate_left
    · intro W_ hSW_
      obtain ⟨za_, z1_, z4_⟩ := hSW_
      go_simp
      try with_reducible rfl
    try simp only [Act.put, List.setIfInBounds_toArray, List.set_cons_zero, List.set_cons_succ]
    refine tkH (i := 10) (N := some 70) (v := ?_) rfl rfl (by kernel_rfl) (by kernel_rfl) (by kernel_rfl) (fun _ _ _ h => h) (Or.inl ⟨by rfl, ?_⟩) hS ?_
    rotate_left
    · intro W_ hSW_
      obtain ⟨za_, z1_, z4_⟩ := hSW_
      go_simp
      try with_reducible rfl
    try simp only [Act.put, List.setIfInBounds_toArray, List.set_cons_zero, List.set_cons_succ]
    refine tkH (i := 11) (N := some 71) (v := ?_) rfl rfl (by kernel_rfl) (by kernel_rfl) (by kernel_rfl) (fun _ _ _ h => h) (Or.inl ⟨by rfl, ?_⟩) hS ?_
    rotate_left
    · intro W_ hSW_
      obtain ⟨za_, z1_, z4_⟩ := hSW_
      go_simp
      try with_reducible rfl
    try simp only [Act.put, List.setIfInBounds_toArray, List.set_cons_zero, List.set_cons_succ]
    refine tkH (i := 12) (N := some 72) (v := ?_) rfl rfl (by kernel_rfl) (by kernel_rfl) (by kernel_rfl) (fun _ _ _ h => h) (Or.inl ⟨by rfl, ?_⟩) hS ?_
    rotate_left
    · intro W_ hSW_
      obtain ⟨za_, z1_, z4_⟩ := hSW_
      go_simp
      try with_reducible rfl
    try simp only [Act.put, List.setIfInBounds_toArray, List.set_cons_zero, List.set_cons_succ]
    refine tkH (i := 13) (N := some 73) (v := ?_) rfl rfl (by kernel_rfl) (by kernel_rfl) (by kernel_rfl) (fun _ _ _ h => h) (Or.inl ⟨by rfl, ?_⟩) hS ?_
    rotate_left
    · intro W_ hSW_
      obtain ⟨za_, z1_, z4_⟩ := hSW_
      go_simp
      try with_reducible rfl
    try simp only [Act.put, List.setIfInBounds_toArray, List.set_cons_zero, List.set_cons_succ]
    refine wpAnyH_ready (rs := [14]) (by kernel_rfl) (by simp) ?_
    refine AllReadyH.cons (o := { dst := some 74, op := Op.call { callee := Callee.invoke (Operand.tmp 73) "Send", args := #[Operand.tmp 63, Operand.tmp 70], argTypes := #[3, 22] }, type := 4, pos := "cpu.go:95", after := #[{ on := 13, ground := Ground.data }, { on := 3, ground := Ground.data }, { on := 10, ground := Ground.data }], guard := none }) rfl (fun K_ hK_ => ?_) AllReadyH.nil
    go_simp
    refine (Send_call H2.out.drew HL.out im va HVA.out.1 HVA.out.2).mono ?_
    rintro e w2 ⟨rfl, h2⟩
    have H3 := Aside0.mk h2
    clear h2
    refine hK_.out _ _ (⟨by have := cpu_r H3.out.swap.top HS.out (i := a) (by have := HA.out; omega); rw [HVV.out] at this; exact this, blk_cell H3.out.top 1, blk_cell H3.out.top 4⟩) (fun hS_ => ?_)
    clear hK_ K_ hS
    have hS := hS_
    clear hS_
    try simp only [Act.put, List.setIfInBounds_toArray, List.set_cons_zero, List.set_cons_succ]
    refine tkH (i := 15) (N := some 6) (v := ?_) rfl rfl (by kernel_rfl) (by kernel_rfl) (by kernel_rfl) (fun _ _ _ h => h) (Or.inl ⟨by rfl, ?_⟩) hS ?_
    rotate_left
    · intro W_ hSW_
      obtain ⟨za_, z1_, z4_⟩ := hSW_
      go_simp
      try with_reducible rfl
    try simp only [Act.put, List.setIfInBounds_toArray, List.set_cons_zero, List.set_cons_succ]
    refine tkH (i := 16) (N := some 7) (v := ?_) rfl rfl (by kernel_rfl) (by kernel_rfl) (by kernel_rfl) (fun _ _ _ h => h) (Or.inl ⟨by rfl, ?_⟩) hS ?_
    rotate_left
    · intro W_ hSW_
      obtain ⟨za_, z1_, z4_⟩ := hSW_
      go_simp
      try with_reducible rfl
    try simp only [Act.put, List.setIfInBounds_toArray, List.set_cons_zero, List.set_cons_succ]
    refine tkH (i := 17) (N := some 8) (v := ?_) rfl rfl (by kernel_rfl) (by kernel_rfl) (by kernel_rfl) (fun _ _ _ h => h) (Or.inl ⟨by rfl, ?_⟩) hS ?_
    rotate_left
    · intro W_ hSW_
      obtain ⟨za_, z1_, z4_⟩ := hSW_
      go_simp
      try with_reducible rfl
    try simp only [Act.put, List.setIfInBounds_toArray, List.set_cons_zero, List.set_cons_succ]
    refine wpAnyH_done (by kernel_rfl) ?_ _
    clear hS n1 n2 n3 n4
    go_wp2_with fail
    go_ret3
    exact ⟨by simp, by simpa [bstore, HVV.out] using H3.out.drop⟩
  by_cases e25 : op = 25
  · subst e25
    go_enter Tryd.func32, Tryd.ntmps32
    go_wp2_with fail
    rw [HG.out]
    refine HAD.out.mono ?_
    rintro e w1 ⟨rfl, hb1⟩
    have H2 := Aside0.mk (H1.out.step hb1)
    clear hb1 y0 y1 y2 y3 y4
    have y0 := blk_cell H2.out.top 0
    have y1 := blk_cell H2.out.top 1
    have y4 := blk_cell H2.out.top 4
    have xa := cpu_r H2.out.swap.top HS.out (i := a) (by have := HA.out; omega)
    obtain ⟨va, hva⟩ : ∃ v, s.r a = v := ⟨_, rfl⟩
    have HVA := Aside0.mk (show S16 va by rw [← hva]; exact HS.out.r a)
    rw [hva] at xa
    have HVV := Aside0.mk hva
    clear hva
    have n1 := ahead_Emit ⟨gw, 0, none⟩
    have n2 := meth_Emit ⟨gw, 0, none⟩
    have n3 := aheadB_Emit ⟨gw, 0, none⟩
    have n4 := methB_Emit ⟨gw, 0, none⟩
    go_wp2_with fail
    refine wp_region_held_drew (S := fun W => W.cell? ⟨gc, 1 + a, none⟩ = some (.int .i16 va) ∧ W.cell? ⟨g1, 1, none⟩ = some (.int .i64 (a : Int)) ∧ W.cell? ⟨g1, 4, none⟩ = some (.int .i16 im)) (by kernel_rfl) ⟨xa, y1, y4⟩ (fun hS => ?_)
    refine tkH (i := 0) (N := some 77) (v := ?_) rfl rfl (by kernel_rfl) (by kernel_rfl) (by kernel_rfl) (fun _ _ _ h => h) (Or.inl ⟨by rfl, ?_⟩) hS ?_
    rotate_left
    · intro W_ hSW_
      obtain ⟨za_, z1_, z4_⟩ := hSW_
      go_simp
      try with_reducible rfl
    try simp only [Act.put, List.setIfInBounds_toArray, List.set_cons_zero, List.set_cons_succ]
    refine tkH (i := 1) (N := some 78) (v := ?_) rfl rfl (by kernel_rfl) (by kernel_rfl) (by kernel_rfl) (fun _ _ _ h => h) (Or.inl ⟨by rfl, ?_⟩) hS ?_
    rotate_left
    · intro W_ hSW_
      obtain ⟨za_, z1_, z4_⟩ := hSW_
      go_simp
      try with_reducible rfl
    try simp only [Act.put, List.setIfInBounds_toArray, List.set_cons_zero, List.set_cons_succ]
    refine tkH (i := 2) (N := some 79) (v := ?_) rfl rfl (by kernel_rfl) (by kernel_rfl) (by kernel_rfl) (fun _ _ _ h => h) (Or.inl ⟨by rfl, ?_⟩) hS ?_
    rotate_left
    · intro W_ hSW_
      obtain ⟨za_, z1_, z4_⟩ := hSW_
      go_simp
      try with_reducible rfl
    try simp only [Act.put, List.setIfInBounds_toArray, List.set_cons_zero, List.set_cons_succ]
    refine tkH (i := 3) (N := some 80) (v := ?_) rfl rfl (by kernel_rfl) (by kernel_rfl) (by kernel_rfl) (fun _ _ _ h => h) (Or.inl ⟨by rfl, ?_⟩) hS ?_
    rotate_left
    · intro W_ hSW_
      obtain ⟨za_, z1_, z4_⟩ := hSW_
      go_simp
      try with_reducible rfl
    try simp only [Act.put, List.setIfInBounds_toArray, List.set_cons_zero, List.set_cons_succ]
    refine tkH (i := 4) (N := some 81) (v := ?_) rfl rfl (by kernel_rfl) (by kernel_rfl) (by kernel_rfl) (fun _ _ _ h => h) (Or.inl ⟨by rfl, ?_⟩) hS ?_
    rotate_left
    · intro W_ hSW_
      obtain ⟨za_, z1_, z4_⟩ := hSW_
      go_simp
      try with_reducible rfl
    try simp only [Act.put, List.setIfInBounds_toArray, List.set_cons_zero, List.set_cons_succ]
    refine tkH (i := 5) (N := some 82) (v := ?_) rfl rfl (by kernel_rfl) (by kernel_rfl) (by kernel_rfl) (fun _ _ _ h => h) (Or.inl ⟨by rfl, ?_⟩) hS ?_
    rotate_left
    · intro W_ hSW_
      obtain ⟨za_, z1_, z4_⟩ := hSW_
      go_simp
      try with_reducible rfl
    try simp only [Act.put, List.setIfInBounds_toArray, List.set_cons_zero, List.set_cons_succ]
    refine tkH (i := 6) (N := some 83) (v := ?_) rfl rfl (by kernel_rfl) (by kernel_rfl) (by kernel_rfl) (fun _ _ _ h => h) (Or.inl ⟨by rfl, ?_⟩) hS ?_
    rotate_left
    · intro W_ hSW_
      obtain ⟨za_, z1_, z4_⟩ := hSW_
      go_simp
      try with_reducible rfl
    try simp only [Act.put, List.setIfInBounds_toArray, List.set_cons_zero, List.set_cons_succ]
    refine tkH (i := 7) (N := some 84) (v := ?_) rfl rfl (by kernel_rfl) (by kernel_rfl) (by kernel_rfl) (fun _ _ _ h => h) (Or.inl ⟨by rfl, ?_⟩) hS ?_
    rotate_left
    · intro W_ hSW_
      obtain ⟨za_, z1_, z4_⟩ := hSW_
      go_simp
      try with_reducible rfl
    try simp only [Act.put, List.setIfInBounds_toArray, List.set_cons_zero, List.set_cons_succ]
    refine tkH (i := 8) (N := some 85) (v := ?_) rfl rfl (by kernel_rfl) (by kernel_rfl) (by kernel_rfl) (fun _ _ _ h => h) (Or.inl ⟨by rfl, ?_⟩) hS ?_
    rotate_left
    · intro W_ hSW_
      obtain ⟨za_, z1_, z4_⟩ := hSW_
      go_simp
      try with_reducible rfl
    try simp only [Act.put, List.setIfInBounds_toArray, List.set_cons_zero, List.set_cons_succ]
    refine tkH (i := 9) (N := some 86) (v := ?_) rfl rfl (by kernel_rfl) (by kernel_rfl) (by kernel_rfl) (fun _ _ _ h => h) (Or.inl ⟨by rfl, ?_⟩) hS ?_
    rotate_left
    · intro W_ hSW_
      obtain ⟨za_, z1_, z4_⟩ := hSW_
      go_simp
      try with_reducible rfl
    try simp only [Act.put, List.setIfInBounds_toArray, List.set_cons_zero, List.set_cons_succ]
    refine tkH (i := 10) (N := some 87) (v := ?_) rfl rfl (by kernel_rfl) (by kernel_rfl) (by kernel_rfl) (fun _ _ _ h => h) (Or.inl ⟨by rfl, ?_⟩) hS ?_
    rotate_left
    · intro W_ hSW_
      obtain ⟨za_, z1_, z4_⟩ := hSW_
      go_simp
      try with_reducible rfl
    try simp only [Act.put, List.setIfInBounds_toArray, List.set_cons_zero, List.set_cons_succ]
    refine wpAnyH_ready (rs := [11]) (by kernel_rfl) (by simp) ?_
    refine AllReadyH.cons (o := { dst := some 88, op := Op.call { callee := Callee.invoke (Operand.tmp 87) "Emit", args := #[Operand.tmp 84], argTypes := #[22] }, type := 4, pos := "cpu.go:97", after := #[{ on := 10, ground := Ground.data }, { on := 7, ground := Ground.data }], guard := none }) rfl (fun K_ hK_ => ?_) AllReadyH.nil
    go_simp
    refine (Emit_call H2.out.drew HL.out va HVA.out.1 HVA.out.2).mono ?_
    rintro e w2 ⟨rfl, h2⟩
    have H3 := Aside0.mk h2
    clear h2
    refine hK_.out _ _ (⟨by have := cpu_r H3.out.swap.top HS.out (i := a) (by have := HA.out; omega); rw [HVV.out] at this; exact this, blk_cell H3.out.top 1, blk_cell H3.out.top 4⟩) (fun hS_ => ?_)
    clear hK_ K_ hS
    have hS := hS_
    clear hS_
    try simp only [Act.put, List.setIfInBounds_toArray, List.set_cons_zero, List.set_cons_succ]
    refine tkH (i := 12) (N := some 6) (v := ?_) rfl rfl (by kernel_rfl) (by kernel_rfl) (by kernel_rfl) (fun _ _ _ h => h) (Or.inl ⟨by rfl, ?_⟩) hS ?_
    rotate_left
    · intro W_ hSW_
      obtain ⟨za_, z1_, z4_⟩ := hSW_
      go_simp
      try with_reducible rfl
    try simp only [Act.put, List.setIfInBounds_toArray, List.set_cons_zero, List.set_cons_succ]
    refine tkH (i := 13) (N := some 7) (v := ?_) rfl rfl (by kernel_rfl) (by kernel_rfl) (by kernel_rfl) (fun _ _ _ h => h) (Or.inl ⟨by rfl, ?_⟩) hS ?_
    rotate_left
    · intro W_ hSW_
      obtain ⟨za_, z1_, z4_⟩ := hSW_
      go_simp
      try with_reducible rfl
    try simp only [Act.put, List.setIfInBounds_toArray, List.set_cons_zero, List.set_cons_succ]
    refine tkH (i := 14) (N := some 8) (v := ?_) rfl rfl (by kernel_rfl) (by kernel_rfl) (by kernel_rfl) (fun _ _ _ h => h) (Or.inl ⟨by rfl, ?_⟩) hS ?_
    rotate_left
    · intro W_ hSW_
      obtain ⟨za_, z1_, z4_⟩ := hSW_
      go_simp
      try with_reducible rfl
    try simp only [Act.put, List.setIfInBounds_toArray, List.set_cons_zero, List.set_cons_succ]
    refine wpAnyH_done (by kernel_rfl) ?_ _
    clear hS n1 n2 n3 n4
    go_wp2_with fail
    go_ret3
    exact ⟨by simp, by simpa [bstore, HVV.out] using H3.out.drop⟩
  by_cases e26 : op = 26
  · subst e26
    go_enter Tryd.func32, Tryd.ntmps32
    go_wp2_with fail
    rw [HG.out]
    refine HAD.out.mono ?_
    rintro e w1 ⟨rfl, hb1⟩
    have H2 := Aside0.mk (H1.out.step hb1)
    clear hb1 y0 y1 y2 y3 y4
    have y0 := blk_cell H2.out.top 0
    have y1 := blk_cell H2.out.top 1
    have y4 := blk_cell H2.out.top 4
    have xa := cpu_r H2.out.swap.top HS.out (i := a) (by have := HA.out; omega)
    obtain ⟨va, hva⟩ : ∃ v, s.r a = v := ⟨_, rfl⟩
    have HVA := Aside0.mk (show S16 va by rw [← hva]; exact HS.out.r a)
    rw [hva] at xa
    have HVV := Aside0.mk hva
    clear hva
    have n1 := ahead_Output ⟨gw, 0, none⟩
    have n2 := meth_Output ⟨gw, 0, none⟩
    have n3 := aheadB_Output ⟨gw, 0, none⟩
    have n4 := methB_Output ⟨gw, 0, none⟩
    go_wp2_with fail
    refine wp_region_held_drew (S := fun W => W.cell? ⟨gc, 1 + a, none⟩ = some (.int .i16 va) ∧ W.cell? ⟨g1, 1, none⟩ = some (.int .i64 (a : Int)) ∧ W.cell? ⟨g1, 4, none⟩ = some (.int .i16 im)) (by kernel_rfl) ⟨xa, y1, y4⟩ (fun hS => ?_)
    refine tkH (i := 0) (N := some 91) (v := ?_) rfl rfl (by kernel_rfl) (by kernel_rfl) (by kernel_rfl) (fun _ _ _ h => h) (Or.inl ⟨by rfl, ?_⟩) hS ?_
    rotate_left
    · intro W_ hSW_
      obtain ⟨za_, z1_, z4_⟩ := hSW_
      go_simp
      try with_reducible rfl
    try simp only [Act.put, List.setIfInBounds_toArray, List.set_cons_zero, List.set_cons_succ]
    refine tkH (i := 1) (N := some 92) (v := ?_) rfl rfl (by kernel_rfl) (by kernel_rfl) (by kernel_rfl) (fun _ _ _ h => h) (Or.inl ⟨by rfl, ?_⟩) hS ?_
    rotate_left
    · intro W_ hSW_
      obtain ⟨za_, z1_, z4_⟩ := hSW_
      go_simp
      try with_reducible rfl
    try simp only [Act.put, List.setIfInBounds_toArray, List.set_cons_zero, List.set_cons_succ]
    refine tkH (i := 2) (N := some 93) (v := ?_) rfl rfl (by kernel_rfl) (by kernel_rfl) (by kernel_rfl) (fun _ _ _ h => h) (Or.inl ⟨by rfl, ?_⟩) hS ?_
    rotate_left
    · intro W_ hSW_
      obtain ⟨za_, z1_, z4_⟩ := hSW_
      go_simp
      try with_reducible rfl
    try simp only [Act.put, List.setIfInBounds_toArray, List.set_cons_zero, List.set_cons_succ]
    refine tkH (i := 3) (N := some 94) (v := ?_) rfl rfl (by kernel_rfl) (by kernel_rfl) (by kernel_rfl) (fun _ _ _ h => h) (Or.inl ⟨by rfl, ?_⟩) hS ?_
    rotate_left
    · intro W_ hSW_
      obtain ⟨za_, z1_, z4_⟩ := hSW_
      go_simp
      try with_reducible rfl
    try simp only [Act.put, List.setIfInBounds_toArray, List.set_cons_zero, List.set_cons_succ]
    refine tkH (i := 4) (N := some 95) (v := ?_) rfl rfl (by kernel_rfl) (by kernel_rfl) (by kernel_rfl) (fun _ _ _ h => h) (Or.inl ⟨by rfl, ?_⟩) hS ?_
    rotate_left
    · intro W_ hSW_
      obtain ⟨za_, z1_, z4_⟩ := hSW_
      go_simp
      try with_reducible rfl
    try simp only [Act.put, List.setIfInBounds_toArray, List.set_cons_zero, List.set_cons_succ]
    refine tkH (i := 5) (N := some 96) (v := ?_) rfl rfl (by kernel_rfl) (by kernel_rfl) (by kernel_rfl) (fun _ _ _ h => h) (Or.inl ⟨by rfl, ?_⟩) hS ?_
    rotate_left
    · intro W_ hSW_
      obtain ⟨za_, z1_, z4_⟩ := hSW_
      go_simp
      try with_reducible rfl
    try simp only [Act.put, List.setIfInBounds_toArray, List.set_cons_zero, List.set_cons_succ]
    refine tkH (i := 6) (N := some 97) (v := ?_) rfl rfl (by kernel_rfl) (by kernel_rfl) (by kernel_rfl) (fun _ _ _ h => h) (Or.inl ⟨by rfl, ?_⟩) hS ?_
    rotate_left
    · intro W_ hSW_
      obtain ⟨za_, z1_, z4_⟩ := hSW_
      go_simp
      try with_reducible rfl
    try simp only [Act.put, List.setIfInBounds_toArray, List.set_cons_zero, List.set_cons_succ]
    refine tkH (i := 7) (N := some 98) (v := ?_) rfl rfl (by kernel_rfl) (by kernel_rfl) (by kernel_rfl) (fun _ _ _ h => h) (Or.inl ⟨by rfl, ?_⟩) hS ?_
    rotate_left
    · intro W_ hSW_
      obtain ⟨za_, z1_, z4_⟩ := hSW_
      go_simp
      try with_reducible rfl
    try simp only [Act.put, List.setIfInBounds_toArray, List.set_cons_zero, List.set_cons_succ]
    refine tkH (i := 8) (N := some 99) (v := ?_) rfl rfl (by kernel_rfl) (by kernel_rfl) (by kernel_rfl) (fun _ _ _ h => h) (Or.inl ⟨by rfl, ?_⟩) hS ?_
    rotate_left
    · intro W_ hSW_
      obtain ⟨za_, z1_, z4_⟩ := hSW_
      go_simp
      try with_reducible rfl
    try simp only [Act.put, List.setIfInBounds_toArray, List.set_cons_zero, List.set_cons_succ]
    refine tkH (i := 9) (N := some 100) (v := ?_) rfl rfl (by kernel_rfl) (by kernel_rfl) (by kernel_rfl) (fun _ _ _ h => h) (Or.inl ⟨by rfl, ?_⟩) hS ?_
    rotate_left
    · intro W_ hSW_
      obtain ⟨za_, z1_, z4_⟩ := hSW_
      go_simp
      try with_reducible rfl
    try simp only [Act.put, List.setIfInBounds_toArray, List.set_cons_zero, List.set_cons_succ]
    refine tkH (i := 10) (N := some 101) (v := ?_) rfl rfl (by kernel_rfl) (by kernel_rfl) (by kernel_rfl) (fun _ _ _ h => h) (Or.inl ⟨by rfl, ?_⟩) hS ?_
    rotate_left
    · intro W_ hSW_
      obtain ⟨za_, z1_, z4_⟩ := hSW_
      go_simp
      try with_reducible rfl
    try simp only [Act.put, List.setIfInBounds_toArray, List.set_cons_zero, List.set_cons_succ]
    refine tkH (i := 11) (N := some 102) (v := ?_) rfl rfl (by kernel_rfl) (by kernel_rfl) (by kernel_rfl) (fun _ _ _ h => h) (Or.inl ⟨by rfl, ?_⟩) hS ?_
    rotate_left
    · intro W_ hSW_
      obtain ⟨za_, z1_, z4_⟩ := hSW_
      go_simp
      try with_reducible rfl
    try simp only [Act.put, List.setIfInBounds_toArray, List.set_cons_zero, List.set_cons_succ]
    refine tkH (i := 12) (N := some 103) (v := ?_) rfl rfl (by kernel_rfl) (by kernel_rfl) (by kernel_rfl) (fun _ _ _ h => h) (Or.inl ⟨by rfl, ?_⟩) hS ?_
    rotate_left
    · intro W_ hSW_
      obtain ⟨za_, z1_, z4_⟩ := hSW_
      go_simp
      try with_reducible rfl
    try simp only [Act.put, List.setIfInBounds_toArray, List.set_cons_zero, List.set_cons_succ]
    refine tkH (i := 13) (N := some 104) (v := ?_) rfl rfl (by kernel_rfl) (by kernel_rfl) (by kernel_rfl) (fun _ _ _ h => h) (Or.inl ⟨by rfl, ?_⟩) hS ?_
    rotate_left
    · intro W_ hSW_
      obtain ⟨za_, z1_, z4_⟩ := hSW_
      go_simp
      try with_reducible rfl
    try simp only [Act.put, List.setIfInBounds_toArray, List.set_cons_zero, List.set_cons_succ]
    refine wpAnyH_ready (rs := [14]) (by kernel_rfl) (by simp) ?_
    refine AllReadyH.cons (o := { dst := some 105, op := Op.call { callee := Callee.invoke (Operand.tmp 104) "Output", args := #[Operand.tmp 94, Operand.tmp 101], argTypes := #[3, 22] }, type := 4, pos := "cpu.go:99", after := #[{ on := 13, ground := Ground.data }, { on := 3, ground := Ground.data }, { on := 10, ground := Ground.data }], guard := none }) rfl (fun K_ hK_ => ?_) AllReadyH.nil
    go_simp
    refine (Output_call H2.out.drew HL.out im va HVA.out.1 HVA.out.2).mono ?_
    rintro e w2 ⟨rfl, h2⟩
    have H3 := Aside0.mk h2
    clear h2
    refine hK_.out _ _ (⟨by have := cpu_r H3.out.swap.top HS.out (i := a) (by have := HA.out; omega); rw [HVV.out] at this; exact this, blk_cell H3.out.top 1, blk_cell H3.out.top 4⟩) (fun hS_ => ?_)
    clear hK_ K_ hS
    have hS := hS_
    clear hS_
    try simp only [Act.put, List.setIfInBounds_toArray, List.set_cons_zero, List.set_cons_succ]
    refine tkH (i := 15) (N := some 6) (v := ?_) rfl rfl (by kernel_rfl) (by kernel_rfl) (by kernel_rfl) (fun _ _ _ h => h) (Or.inl ⟨by rfl, ?_⟩) hS ?_
    rotate_left
    · intro W_ hSW_
      obtain ⟨za_, z1_, z4_⟩ := hSW_
      go_simp
      try with_reducible rfl
    try simp only [Act.put, List.setIfInBounds_toArray, List.set_cons_zero, List.set_cons_succ]
    refine tkH (i := 16) (N := some 7) (v := ?_) rfl rfl (by kernel_rfl) (by kernel_rfl) (by kernel_rfl) (fun _ _ _ h => h) (Or.inl ⟨by rfl, ?_⟩) hS ?_
    rotate_left
    · intro W_ hSW_
      obtain ⟨za_, z1_, z4_⟩ := hSW_
      go_simp
      try with_reducible rfl
    try simp only [Act.put, List.setIfInBounds_toArray, List.set_cons_zero, List.set_cons_succ]
    refine tkH (i := 17) (N := some 8) (v := ?_) rfl rfl (by kernel_rfl) (by kernel_rfl) (by kernel_rfl) (fun _ _ _ h => h) (Or.inl ⟨by rfl, ?_⟩) hS ?_
    rotate_left
    · intro W_ hSW_
      obtain ⟨za_, z1_, z4_⟩ := hSW_
      go_simp
      try with_reducible rfl
    try simp only [Act.put, List.setIfInBounds_toArray, List.set_cons_zero, List.set_cons_succ]
    refine wpAnyH_done (by kernel_rfl) ?_ _
    clear hS n1 n2 n3 n4
    go_wp2_with fail
    go_ret3
    exact ⟨by simp, by simpa [bstore, HVV.out] using H3.out.drop⟩
  have b14 : (op == 14) = false := beq_eq_false_iff_ne.2 e14
  have b16 : (op == 16) = false := beq_eq_false_iff_ne.2 e16
  have b23 : (op == 23) = false := beq_eq_false_iff_ne.2 e23
  have b15 : (op == 15) = false := beq_eq_false_iff_ne.2 e15
  have b17 : (op == 17) = false := beq_eq_false_iff_ne.2 e17
  have b24 : (op == 24) = false := beq_eq_false_iff_ne.2 e24
  have b25 : (op == 25) = false := beq_eq_false_iff_ne.2 e25
  have b26 : (op == 26) = false := beq_eq_false_iff_ne.2 e26
  have b27 : (op == 27) = false := beq_eq_false_iff_ne.2 e27
  have b28 : (op == 28) = false := beq_eq_false_iff_ne.2 e28
  go_enter Tryd.func32, Tryd.ntmps32
  go_wp2_with fail
  rw [HG.out]
  refine HAD.out.mono ?_
  rintro e w1 ⟨rfl, hb1⟩
  have H2 := Aside0.mk (H1.out.step hb1)
  clear hb1 y0 y1 y2 y3 y4
  have y0 := blk_cell H2.out.top 0
  have y1 := blk_cell H2.out.top 1
  have y4 := blk_cell H2.out.top 4
  go_wp2_with fail
  go_ret3
  exact ⟨by simp [e14, e16, e23, e15, e17, e24, e25, e26, e27, e28], by simpa [e14, e16, e23, e15, e17, e24, e25, e26, e27, e28] using H2.out.drop⟩
end Go.Proofs.YtleafbihfmiidaaDoor.QAl
