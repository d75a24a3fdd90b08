/- The law's durations, the reference's Feasible and Meets: contracts. -/
import Derived.Test.YteneigadnabolaaFeA
import Derived.Test.YteneigadnabolaaDqP
import Derived.Deep.RegionLaw
import Derived.Shelf.RegionOpenPlain
namespace Go.Proofs.Yteneigadnabolaa.QAl
open Go.RowKit Go.Proofs.YteneigadnabolaaW.PrintWords Go.Proofs.YteneigadnabolaaW.PrintLast Go.Proofs.YteneigadnabolaaW.PrintMore Go.Proofs.Yteneigadnabolaa.Sl
set_option linter.unusedVariables false
set_option linter.unusedSimpArgs false
variable {L : List Chunk}
/-- A map from IDs to durations. -/
@[reducible] def imap (g n : Nat) (f : Int → Int) : Chunk := mpc 3 (Elt.int (P := Try.prog) (e := 2) (q := .i64) Try.underlying2) 0 g n f
theorem imap_look {w0 w : World} {g n : Nat} {f : Int → Int} (h : Mem w0 w (imap g n f :: L)) (x : Int) (hx : (Lit.int .i64 x).wf = true) : (Instr.lookup 45 (.map (some g)) (.int .i64 x) false).run Try.prog w = .ok (.int .i64 (f x)) w :=
  h.map_look (t := 45) (Go.Maps.int_keyed Try.underlying3) Try.underlying45 (by kernel_rfl) (by kernel_rfl) Try.underlying3 x hx
/-- The durations of the first j items. -/
def durA (l : List Dq.It) (d : List Int) : Nat → Int → Int
  | 0, _ => 0
  | j + 1, y => if j < d.length then (if y = (l.getD j (0, 0)).1 then d.getD j 0 else durA l d j y) else durA l d j y
theorem int_cell {w : World} {A : Option Addr} {n : Nat} {d : List Int} (h : (Kd.int .i64).C w A n d) {j : Nat} (hj : j < n) : ∃ b o, A = some ⟨b, o, none⟩ ∧ w.cell? ⟨b, o + j, none⟩ = some (.int .i64 (d.getD j 0)) := by
  obtain ⟨b, o, cs, rfl, _, hK, hc⟩ := C_at 0 (by decide) h j hj
  have hK : cs = [.int .i64 (d.getD j 0)] := hK
  subst hK
  have e : (Kd.int .i64).sz = 1 := rfl
  rw [e] at hc
  refine ⟨b, o, rfl, ?_⟩
  have := hc 0 _ rfl
  simpa using this
def DuR (W : World) (l : List Dq.It) (d : List Int) (b g : Nat) (cs : Array Value) (vi : Value) (wr : World) : Prop :=
  ∃ j n : Nat, j ≤ l.length ∧ n ≤ j ∧ vi = .int .i64 (j : Int) ∧ Mem W wr [imap g n (durA l d j), blk b cs 41]
set_option maxRecDepth 100000 in
set_option maxHeartbeats 2000000 in
theorem durations_call {W : World} {A B : Option Addr} {c cd : Nat} {l : List Dq.It} {d : List Int} (hA : k30.C W A l.length (l.map un)) (hB : (Kd.int .i64).C W B d.length d) (hl : l.length ≤ 40)
    (hw : ∀ x ∈ l, (Lit.int .i64 x.1).wf = true) (hd : ∀ x ∈ d, (Lit.int .i64 x).wf = true) :
    Calls Try.prog 17 #[.agg #[.slice A l.length c, .slice B d.length cd]] W fun e w' => ∃ g n, e = .returned (.map (some g)) ∧ Mem W w' [imap g n (durA l d l.length)] := by
  obtain ⟨n, hn⟩ : ∃ n, n = l.length := ⟨_, rfl⟩
  obtain ⟨nd, hnd⟩ : ∃ nd, nd = d.length := ⟨_, rfl⟩
  have HN := Aside0.mk hn
  have HND := Aside0.mk hnd
  have HA := Aside0.mk hA
  have HBd := Aside0.mk hB
  have HW := Aside0.mk hw
  have HD := Aside0.mk hd
  have hn40 : n ≤ 40 := by omega
  rw [← hn, ← hnd]
  obtain ⟨b, hb⟩ : ∃ b, W.heap.size = b := ⟨_, rfl⟩
  have HM := Aside0.mk (((Mem.start W).new_ (.cells #[.slice A n c, .slice B nd cd] 41) hb).map_new_ (g := b + 1) 3 (Elt.int (P := Try.prog) (e := 2) (q := .i64) Try.underlying2) 0 (by rw [← hb]; simp))
  have HBB := Aside0.mk hb
  have hmk := fun w => run_makeMap (P := Try.prog) 45 w
  clear hA hB hw hd hn hnd hl hb
  go_enter Try.func17, Try.ntmps17
  go_wp2_with fail
  rw [HBB.out]
  generalize b + 1 = g at *
  clear hmk
  go_loopw [10] (fun vi wr => DuR W l d b g #[.slice A n c, .slice B nd cd] vi wr) (fun vi _ => n - (intOf vi).toNat)
  case atStart => exact ⟨0, 0, Nat.zero_le _, Nat.le_refl _, rfl, HM.out⟩
  case round =>
    obtain ⟨j, m, hj, hmj, rfl, hM⟩ := hrel
    clear HM
    rw [← HN.out] at hj
    by_cases hlt : j < n
    · have hjl : j < l.length := by rw [← HN.out]; exact hlt
      obtain ⟨xi, xd, hx⟩ : ∃ xi xd, l.getD j (0, 0) = (xi, xd) := ⟨_, _, rfl⟩
      have hxl : l[j] = (xi, xd) := by rw [← hx, List.getD_eq_getElem?_getD, List.getElem?_eq_getElem hjl]; rfl
      obtain ⟨ba, o, rfl, x0, x1⟩ := item_at (Kd.C_below HA.out hM.below) hjl
      rw [getD_un l j hjl, hxl] at x0 x1
      replace x0 : wr.cell? ⟨ba, o + j * 2, none⟩ = some (.int .i64 xi) := x0
      replace x1 : wr.cell? ⟨ba, o + j * 2 + 1, none⟩ = some (.int .i64 xd) := x1
      have hbw : ba < wr.heap.size := World.block_lt_of_cell? wr _ x0
      have hwx : (Lit.int .i64 xi).wf = true := HW.out (xi, xd) (hxl ▸ List.getElem_mem hjl)
      have y0 := blk_cell hM.drop.get 0
      have y1 := blk_cell hM.drop.get 1
      have hb41 : b < wr.heap.size := hM.drop.lt
      have HM := Aside0.mk (hM.alloc (.cells #[.int .i64 xi, .int .i64 xd] 30))
      by_cases hjd : j < nd
      · have hjdl : j < d.length := by rw [← HND.out]; exact hjd
        obtain ⟨bd, od, rfl, z0⟩ := int_cell (Kd.C_below HBd.out hM.below) hjdl
        have hwd : (Lit.int .i64 (d.getD j 0)).wf = true := HD.out _ (by rw [List.getD_eq_getElem?_getD, List.getElem?_eq_getElem hjdl]; exact List.getElem_mem hjdl)
        have hst : Aside0 (durA l d (j + 1) = fun y => if y = xi then d.getD j 0 else durA l d j y) := ⟨by
          funext y
          have e : durA l d (j + 1) y = if j < d.length then (if y = (l.getD j (0, 0)).1 then d.getD j 0 else durA l d j y) else durA l d j y := rfl
          rw [e, if_pos hjdl, hx]⟩
        generalize d.getD j 0 = dv at *
        have hbd : bd < wr.heap.size := World.block_lt_of_cell? wr _ z0
        obtain ⟨w5, hr, hM5⟩ := (hM.alloc (.cells #[.int .i64 xi, .int .i64 xd] 30)).drew.map_put (t := 45) (Go.Maps.int_keyed Try.underlying3) Try.underlying45 Try.underlying3 (by omega) xi hwx dv (by simp [plainElem, Try.underlying2, Elt.int, hwd])
        replace hr : (Instr.mapUpdate 45 (.map (some g)) (.int .i64 xi) (.int .i64 dv)).run Try.prog (wr.alloc (.cells #[.int .i64 xi, .int .i64 xd] 30)).drew = .ok () w5 := hr
        have HM5 := Aside0.mk hM5
        have hjd2 : (j : Int) < (nd : Int) := by omega
        have hd1 : decide ((j : Int) < (nd : Int)) = true := decide_eq_true hjd2
        have hd2 : decide (j < nd) = true := decide_eq_true hjd
        have mixed : Try.prog.follows Departure.mixedOrders = true := by kernel_rfl
        clear hM hM5 hx hxl hjl hjdl
        go_wp2_with fail
        go_region_law_o (fail)
        all_goals
          go_wp2_with fail
          go_roundw
          case rel => exact ⟨j + 1, m + 1, by rw [← HN.out]; omega, by omega, by first | go_num | (congr 1), by rw [hst.out]; exact HM5.out⟩
          case measure => simp [intOf]; omega
      · have hst : Aside0 (durA l d (j + 1) = durA l d j) := ⟨by
          funext y
          have e : durA l d (j + 1) y = if j < d.length then (if y = (l.getD j (0, 0)).1 then d.getD j 0 else durA l d j y) else durA l d j y := rfl
          rw [e, if_neg (by rw [← HND.out]; exact hjd)]⟩
        have hd1 : decide ((j : Int) < (nd : Int)) = false := decide_eq_false (by omega)
        have hd2 : decide (j < nd) = false := decide_eq_false hjd
        clear hM hx hxl hjl
        go_wp2_with fail
        go_roundw
        case rel => exact ⟨j + 1, m, by rw [← HN.out]; omega, by omega, by first | go_num | (congr 1), by rw [hst.out]; exact HM.out⟩
        case measure => simp [intOf]; omega
    · obtain rfl : j = n := by omega
      have HM := Aside0.mk hM
      clear hM hlt hj
      go_wp2_with fail
      go_ret
      exact ⟨g, m, rfl, HM.out.p1.drop⟩
end Go.Proofs.Yteneigadnabolaa.QAl
