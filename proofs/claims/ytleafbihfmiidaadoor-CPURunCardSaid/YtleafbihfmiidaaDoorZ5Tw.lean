/- What this claim needs of Tw. Parted by prune.py. -/
import Derived.Test.YtleafbihfmiidaaDoorZ5Ca
import Derived.Test.YtleafbihfmiidaaDoorZ5QAlx9
namespace Go.Proofs.YtleafbihfmiidaaDoor.QAl
open Go.RowKit Go.Proofs.YtleafbihfmiidaaDoorW.PrintWords Go.Proofs.YtleafbihfmiidaaDoorW.PrintLast Go.Proofs.YtleafbihfmiidaaDoorW.PrintMore Go.Proofs.YtleafbihfmiidaaDoor.Sl
set_option linter.unusedVariables false
set_option linter.unusedSimpArgs false
/-- The pieces of a bus. -/
def BusL (w0 : World) (gw : Nat) (B : Bs) (C : List Chunk) : Prop :=
  ∃ (wv rv rv0 cv : Value) (rs0 : List Int), SeenIn (row w0 (Kd.int .i16) 22 rv0 rs0) rv B.reads ∧
    C = [ob gw (.cells #[wv, rv, .int .i64 B.fail, cv] 50), row w0 (Kd.int .i16) 22 wv B.words, row w0 (Kd.int .i16) 22 rv0 rs0, row w0 k100 100 cv B.calls]
section
variable {L L' C : List Chunk} {w0 w w' : World} {ga gb gw : Nat} {A B : Bs}
theorem BusM.parts (h : BusM w0 w gw B L) : ∃ C, BusL w0 gw B C ∧ Mem w0 w (C ++ L) := by
  obtain ⟨wv, rv, rv0, cv, rs0, hs, hm⟩ := h
  exact ⟨_, ⟨wv, rv, rv0, cv, rs0, hs, rfl⟩, hm⟩
theorem BusL.bus (h : BusL w0 gw B C) (hm : Mem w0 w (C ++ L)) : BusM w0 w gw B L := by
  obtain ⟨wv, rv, rv0, cv, rs0, hs, rfl⟩ := h
  exact ⟨wv, rv, rv0, cv, rs0, hs, hm⟩
theorem BusM.perm (h : BusM w0 w gw B L) (hp : L.Perm L') : BusM w0 w gw B L' := by
  obtain ⟨C, hC, hm⟩ := h.parts
  exact hC.bus (hm.perm (List.Perm.append_left C hp))
/-- Two buses and more. -/
def Two (w0 w : World) (ga : Nat) (A : Bs) (gb : Nat) (B : Bs) (L : List Chunk) : Prop := ∃ C, BusL w0 gb B C ∧ BusM w0 w ga A (L ++ C)
theorem Two.swap (h : Two w0 w ga A gb B L) : Two w0 w gb B ga A L := by
  obtain ⟨C, hC, hm⟩ := h
  obtain ⟨D, hD, hm⟩ := hm.parts
  refine ⟨D, hD, hC.bus (L := L ++ D) (hm.perm ?_)⟩
  exact List.perm_append_comm.trans ((List.perm_append_comm.append_right D).trans (by rw [List.append_assoc]))
theorem Two.perm (h : Two w0 w ga A gb B L) (hp : L.Perm L') : Two w0 w ga A gb B L' := by
  obtain ⟨C, hC, hm⟩ := h
  exact ⟨C, hC, hm.perm (List.Perm.append_right C hp)⟩
theorem Two.step (h : Two w0 w ga A gb B L) (hb : Below w.heap.size w w') : Two w0 w' ga A gb B L := by
  obtain ⟨C, hC, hm⟩ := h
  exact ⟨C, hC, hm.step hb⟩
theorem Two.mem (h : Two w0 w ga A gb B L) : Mem w0 w L := by
  obtain ⟨C, hC, wv, rv, rv0, cv, rs0, hs, hm⟩ := h
  have := hm.drop.drop.drop.drop
  exact (List.length C).rec (motive := fun _ => Mem w0 w L) (by
    have hp : (L ++ C).Perm (C ++ L) := List.perm_append_comm
    have h2 := this.perm hp
    obtain ⟨_, _, _, _, _, _, rfl⟩ := hC
    exact h2.drop.drop.drop.drop) (fun _ h => h)
theorem Two.make {wv rv cv : Value} (h : Mem w0 w (ob ga (.cells #[wv, rv, .int .i64 A.fail, cv] 50) :: row w0 (Kd.int .i16) 22 wv A.words :: row w0 (Kd.int .i16) 22 rv A.reads :: row w0 k100 100 cv A.calls :: (L ++ C))) (hC : BusL w0 gb B C) : Two w0 w ga A gb B L :=
  ⟨C, hC, wv, rv, rv, cv, A.reads, seen_row h.drop.drop, h⟩
theorem BusM.open_ (h : BusM w0 w gw B L) : ∃ A0 c0 A1 c1 A3 c3, w.heap[gw]? = some (.cells #[.slice A0 B.words.length c0, .slice A1 B.reads.length c1, .int .i64 B.fail, .slice A3 B.calls.length c3] 50 (0, 0)) ∧
    (Kd.C (Kd.int .i16) w A0 B.words.length B.words ∧ B.words.length ≤ c0) ∧ (Kd.C (Kd.int .i16) w A1 B.reads.length B.reads ∧ B.reads.length ≤ c1) ∧ (Kd.C k100 w A3 B.calls.length B.calls ∧ B.calls.length ≤ c3) := by
  obtain ⟨wv, rv, rv0, cv, rs0, hs, hm⟩ := h
  obtain ⟨A0, c0, rfl, h0, r0⟩ := hm.drop.reads
  obtain ⟨A3, c3, rfl, h3, r3⟩ := hm.drop.drop.drop.reads
  obtain ⟨A1, c1, rfl, h1, r1⟩ := hs
  obtain ⟨T, hT, _⟩ := hm.drop.drop.front
  exact ⟨A0, c0, A1, c1, A3, c3, hm.get, ⟨r0, h0⟩, ⟨r1 w T hT, h1⟩, r3, h3⟩
end
theorem same_l0K (l : List Int) (hl : l.length ≤ 200000) : ∀ (m k K : Nat), k + m = l.length → m + 1 ≤ K → trickleref12_Same.l0 K l l (l.length : Int) (k : Int) = some true
  | _, _, 0, _, h => absurd h (by omega)
  | 0, k, K + 1, h, _ => by
    unfold trickleref12_Same.l0
    rw [if_neg (by omega)]
  | m + 1, k, K + 1, h, hK => by
    unfold trickleref12_Same.l0
    have e : wrap64 ((k : Int) + 1) = ((k + 1 : Nat) : Int) := by unfold wrap64; omega
    rw [if_pos (by omega), if_pos (by omega), if_pos (by omega), if_pos (by omega), if_pos rfl, e]
    exact same_l0K l hl m (k + 1) K (by omega) (by omega)
theorem same_selfK (l : List Int) (hl : l.length ≤ 200000) (K : Nat) (hK : l.length + 1 ≤ K) : trickleref12_Same.f K l l = some true := by
  unfold trickleref12_Same.f
  rw [if_pos rfl]
  exact same_l0K l hl l.length 0 K (by omega) hK
theorem sw_l0 (ws rs : List Int) (fa fb : Int) (cs : List S100) (hl : cs.length ≤ 200000) : ∀ (m k K : Nat), k + m = cs.length → m + 1 ≤ K → trickleref12_SameWorld.l0 K (cs.length : Int) (k : Int) ws rs fa cs ws rs fb cs = some true
  | _, _, 0, _, h => absurd h (by omega)
  | 0, k, K + 1, h, _ => by
    unfold trickleref12_SameWorld.l0
    rw [if_neg (by omega)]
  | m + 1, k, K + 1, h, hK => by
    unfold trickleref12_SameWorld.l0
    have e : wrap64 ((k : Int) + 1) = ((k + 1 : Nat) : Int) := by unfold wrap64; omega
    rw [if_pos (by omega), if_pos (by omega), if_pos (by omega), if_pos (by omega), if_neg (by simp), e]
    exact sw_l0 ws rs fa fb cs hl m (k + 1) K (by omega) (by omega)
theorem j0_no (K : Nat) (ws rs : List Int) (fa fb : Int) (cs : List S100) : trickleref12_SameWorld.j0 (K + 1) false ws rs fa cs ws rs fb cs = trickleref12_SameWorld.l0 K (cs.length : Int) 0 ws rs fa cs ws rs fb cs := by
  rw [trickleref12_SameWorld.j0.eq_2, if_neg (by simp)]
theorem sw_self (ws rs : List Int) (fa fb : Int) (cs : List S100) (h1 : ws.length ≤ 200000) (h2 : rs.length ≤ 200000) (hl : cs.length ≤ 200000) : trickleref12_SameWorld.f 300000 ws rs fa cs ws rs fb cs = some true := by
  unfold trickleref12_SameWorld.f
  rw [if_pos rfl, same_selfK ws h1 _ (by omega), Option.bind_some, if_pos rfl, same_selfK rs h2 _ (by omega), Option.bind_some]
  exact (j0_no 299999 ws rs fa fb cs).trans (sw_l0 ws rs fa fb cs hl cs.length 0 299999 (by omega) (by omega))
/-- SameWorld of two buses with the same words, readings and calls. -/
theorem SameW_call {A B : Bs} {w : World} {A0 A1 A3 B0 B1 B3 : Option Addr} {c0 c1 c3 d0 d1 d3 : Nat} (hw : B.words = A.words) (hr : B.reads = A.reads) (hc : B.calls = A.calls) (l0 : A.words.length ≤ 200000) (l1 : A.reads.length ≤ 200000) (l3 : A.calls.length ≤ 200000)
    (a0 : Kd.C (Kd.int .i16) w A0 A.words.length A.words ∧ A.words.length ≤ c0) (a1 : Kd.C (Kd.int .i16) w A1 A.reads.length A.reads ∧ A.reads.length ≤ c1) (a3 : Kd.C k100 w A3 A.calls.length A.calls ∧ A.calls.length ≤ c3)
    (b0 : Kd.C (Kd.int .i16) w B0 B.words.length B.words ∧ B.words.length ≤ d0) (b1 : Kd.C (Kd.int .i16) w B1 B.reads.length B.reads ∧ B.reads.length ≤ d1) (b3 : Kd.C k100 w B3 B.calls.length B.calls ∧ B.calls.length ≤ d3) :
    Calls Tryd.prog 21 #[.agg #[.slice A0 A.words.length c0, .slice A1 A.reads.length c1, .int .i64 A.fail, .slice A3 A.calls.length c3], .agg #[.slice B0 B.words.length d0, .slice B1 B.reads.length d1, .int .i64 B.fail, .slice B3 B.calls.length d3]] w
      fun e w' => e = .returned (.bool true) ∧ Below w.heap.size w w' := by
  obtain ⟨bw, br, bf, bc⟩ := B
  dsimp only at hw hr hc b0 b1 b3 ⊢
  subst hw hr hc
  exact trickleref12_SameWorld.calls 300000 _ _ _ _ _ _ _ _ _ _ _ _ _ _ _ _ _ _ _ _ true w a0.1 a0.2 a1.1 a1.2 a3.1 a3.2 b0.1 b0.2 b1.1 b1.2 b3.1 b3.2 (sw_self _ _ _ _ _ l0 l1 l3)
/-- The piece number i comes first. -/
def up : Nat → List Chunk → List Chunk
  | 0, L => L
  | _ + 1, [] => []
  | i + 1, a :: L => match up i L with | [] => [a] | b :: M => b :: a :: M
theorem up_perm : ∀ (i : Nat) (L : List Chunk), L.Perm (up i L)
  | 0, L => List.Perm.refl _
  | _ + 1, [] => List.Perm.refl _
  | i + 1, a :: L => by
    have h := up_perm i L
    show (a :: L).Perm (match up i L with | [] => [a] | b :: M => b :: a :: M)
    cases hu : up i L with
    | nil => rw [hu] at h; exact h.cons a
    | cons b M => rw [hu] at h; exact (h.cons a).trans (List.Perm.swap b a M)
theorem _root_.Go.Proofs.YtleafbihfmiidaaDoor.Sl.Mem.up {w0 w : World} {L : List Chunk} (h : Mem w0 w L) (i : Nat) : Mem w0 w (up i L) := h.perm (up_perm i L)
theorem Two.up {w0 w : World} {L : List Chunk} {ga gb : Nat} {A B : Bs} (h : Two w0 w ga A gb B L) (i : Nat) : Two w0 w ga A gb B (up i L) := h.perm (up_perm i L)
theorem BusM.up {w0 w : World} {L : List Chunk} {g : Nat} {B : Bs} (h : BusM w0 w g B L) (i : Nat) : BusM w0 w g B (up i L) := h.perm (up_perm i L)
theorem Two.lift {w0 w : World} {L : List Chunk} {ga gb : Nat} {A B : Bs} (h : Two w0 w ga A gb B L) : ∃ M, Mem w0 w (L ++ M) ∧ ∀ w' L', Mem w0 w' (L' ++ M) → Two w0 w' ga A gb B L' := by
  obtain ⟨C, hC, hm⟩ := h
  obtain ⟨M, hm, hb⟩ := hm.lift
  refine ⟨C ++ M, by rw [← List.append_assoc]; exact hm, fun w' L' h' => ⟨C, hC, hb w' (L' ++ C) (by rw [List.append_assoc]; exact h')⟩⟩
/-- What a bus needs, out of its box and its rows. -/
theorem busL_of {w0 w : World} {L : List Chunk} {gw : Nat} {B : Bs} {wv rv cv : Value} (h : Mem w0 w (row w0 (Kd.int .i16) 22 rv B.reads :: L)) :
    BusL w0 gw B [ob gw (.cells #[wv, rv, .int .i64 B.fail, cv] 50), row w0 (Kd.int .i16) 22 wv B.words, row w0 (Kd.int .i16) 22 rv B.reads, row w0 k100 100 cv B.calls] :=
  ⟨wv, rv, rv, cv, B.reads, seen_row h, rfl⟩
abbrev A16 : Type → Type := fun R => Nat → Nat → World → Option Addr → Nat → Option Addr → Nat → Option Addr → Nat → Option Addr → Nat → Option Addr → Nat → Option Addr → Nat → R
/-- One continuation for all orders of a region. -/
theorem share15 {R G : A16 Prop} {goal : Prop} (body : (∀ a b w A0 c0 A1 c1 A3 c3 B0 d0 B1 d1 B3 d3, R a b w A0 c0 A1 c1 A3 c3 B0 d0 B1 d1 B3 d3 → G a b w A0 c0 A1 c1 A3 c3 B0 d0 B1 d1 B3 d3) → goal)
    (key : ∀ a b w A0 c0 A1 c1 A3 c3 B0 d0 B1 d1 B3 d3, R a b w A0 c0 A1 c1 A3 c3 B0 d0 B1 d1 B3 d3 → G a b w A0 c0 A1 c1 A3 c3 B0 d0 B1 d1 B3 d3) : goal := body key
section
variable {ops : Array Oper} {S : World → Prop} {op : Oper} {a : Act} {s : Cs} {g t : Nat} {l : List Value}
theorem yields_case1 (hw : Region.wanted op (yielded ops a.tmps) = true) (x : Operand) (ho : op.op = .load 50 x) (g : Nat) (hx : a.eval x = .pointer (some ⟨g, 73, none⟩)) (ok : s.Ok) (hl : l.length = 4) (hS : ∀ w, S w → w.heap[g]? = some (.cells (caseA s l) t (0, 0))) : YieldsIf Tryd.prog ops S op (.agg l.toArray) a :=
  yieldsIf_load_mid hw 50 x ho g 73 hx l _ (fun w hw => range_case1 ok (hS w hw)) Tryd.underlying50 rfl (by rw [hl]; exact i50)
end
end Go.Proofs.YtleafbihfmiidaaDoor.QAl
