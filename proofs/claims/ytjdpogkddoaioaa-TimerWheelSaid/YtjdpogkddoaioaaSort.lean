/- slices.SortStableFunc on at most 20 elements: insertion sort. -/
import Derived.Test.YtjdpogkddoaioaaWheelD
namespace Go.Proofs.Ytjdpogkddoaioaa.QWh
open Go.RowKit Go.Proofs.YtjdpogkddoaioaaW.PrintWords Go.Proofs.YtjdpogkddoaioaaW.PrintLast Go.Proofs.YtjdpogkddoaioaaW.PrintMore Go.Proofs.Ytjdpogkddoaioaa.Sl
set_option linter.unusedVariables false
set_option linter.unusedSimpArgs false

def cmpI (a b : Int) : Int := if a < b then -1 else if a > b then 1 else 0
theorem isNaN {w0 w : World} {L : List Chunk} (a : Int) (hM : Mem w0 w L) : Calls Try.prog 46 #[.int .i64 a] w fun e w' => e = .returned (.bool false) ∧ w = w' := by
  clear hM
  have c : (a != a) = false := by simp
  go_enter Try.func46, Try.ntmps46
  go_wp2
  go_ret
  exact ⟨rfl, rfl⟩
theorem Compare (a b : Int) (w : World) : Calls Try.prog 44 #[.int .i64 a, .int .i64 b] w fun e w' => e = .returned (.int .i64 (cmpI a b)) ∧ w = w' := by
  unfold cmpI
  by_cases h1 : a < b
  · have c1 : decide (a < b) = true := decide_eq_true h1
    rw [if_pos h1]
    clear h1
    go_enter Try.func44, Try.ntmps44
    go_wp2_with (go_at_call 46; refine (isNaN _ (Mem.start w)).mono ?_; rintro e w' ⟨rfl, hw⟩; subst hw)
    go_ret
    exact ⟨rfl, rfl⟩
  · have c1 : decide (a < b) = false := decide_eq_false h1
    rw [if_neg h1]
    by_cases h2 : a > b
    · have c2 : decide (b < a) = true := decide_eq_true h2
      rw [if_pos h2]
      clear h1 h2
      go_enter Try.func44, Try.ntmps44
      go_wp2_with (go_at_call 46; refine (isNaN _ (Mem.start w)).mono ?_; rintro e w' ⟨rfl, hw⟩; subst hw)
      go_ret
      exact ⟨rfl, rfl⟩
    · have c2 : decide (b < a) = false := decide_eq_false h2
      rw [if_neg h2]
      clear h1 h2
      go_enter Try.func44, Try.ntmps44
      go_wp2_with (go_at_call 46; refine (isNaN _ (Mem.start w)).mono ?_; rintro e w' ⟨rfl, hw⟩; subst hw)
      go_ret
      exact ⟨rfl, rfl⟩
/-- The comparison that Ready hands to the sort: by the releases. -/
theorem lessReady {w0 w : World} {g gb : Nat} {vp vn : Value} {ps ns : List Int} {L : List Chunk} (a b : Nat) (ha : a < ns.length) (hb : b < ns.length) (hM : Mem w0 w (wheel w0 g vp vn ps ns L)) (hbx : w.cell? ⟨gb, 0, none⟩ = some (.pointer (some ⟨g, 0, none⟩))) :
    Calls Try.prog 43 #[.int .i64 (a : Int), .int .i64 (b : Int), .pointer (some ⟨gb, 0, none⟩)] w fun e w' => e = .returned (.int .i64 (cmpI (ns.getD a 0) (ns.getD b 0))) ∧ Below w.heap.size w w' := by
  obtain ⟨gn, cn, rfl, _⟩ := hM.drop.drop.row_form (by omega)
  obtain ⟨z0, _⟩ := hM.drop.drop.row_cell (0 : Int) a ha
  obtain ⟨z1, _⟩ := hM.drop.drop.row_cell (0 : Int) b hb
  obtain ⟨_, y1, _⟩ := wheel_cells hM
  clear hM
  generalize ns.getD a 0 = p at *
  generalize ns.getD b 0 = q at *
  have h1 : (0 : Int) ≤ (a : Int) := by omega
  have h2 : (0 : Int) ≤ (b : Int) := by omega
  have h3 : (a : Int) < (ns.length : Int) := by omega
  have h4 : (b : Int) < (ns.length : Int) := by omega
  go_enter Try.func43, Try.ntmps43
  go_wp2_with fail
  go_region_held3 (fun W => W.cell? ⟨gb, 0, none⟩ = some (.pointer (some ⟨g, 0, none⟩)) ∧ W.cell? ⟨g, 1, none⟩ = some (.slice (some ⟨gn, 0, none⟩) ns.length cn) ∧ W.cell? ⟨gn, a, none⟩ = some (.int .i64 p) ∧ W.cell? ⟨gn, b, none⟩ = some (.int .i64 q) ∧ Aside0 (Below w.heap.size w W))
    (first
      | exact ⟨hbx, y1, z0, z1, ⟨below_drew (Below.refl _ _)⟩⟩
      | (go_split_ands; refine ⟨?_, ?_, ?_, ?_, ?_⟩ <;> assumption))
    (first
      | (go_at_call 44
         refine (Compare p q _).mono ?_
         rintro e w2 ⟨rfl, rfl⟩))
  go_wp2
  go_ret
  rename_i hH
  exact ⟨rfl, hH.2.2.2.2.out⟩

/-! ## The sort -/
/-- Element j goes down to its place. -/
def insJ (cf : Int → Int → Int) (xs : List Int) : Nat → List Int
  | 0 => xs
  | j + 1 => if cf (xs.getD (j + 1) 0) (xs.getD j 0) < 0 then insJ cf ((xs.set (j + 1) (xs.getD j 0)).set j (xs.getD (j + 1) 0)) j else xs
/-- The first i elements are in order. -/
def srt (cf : Int → Int → Int) (xs : List Int) : Nat → List Int
  | 0 => xs
  | i + 1 => insJ cf (srt cf xs i) i
theorem insJ_len (cf : Int → Int → Int) : ∀ (j : Nat) (xs : List Int), (insJ cf xs j).length = xs.length
  | 0, xs => rfl
  | j + 1, xs => by
    unfold insJ
    split
    · rw [insJ_len cf j, List.length_set, List.length_set]
    · rfl
theorem srt_len (cf : Int → Int → Int) (xs : List Int) : ∀ i, (srt cf xs i).length = xs.length
  | 0 => rfl
  | i + 1 => by show (insJ cf (srt cf xs i) i).length = _; rw [insJ_len, srt_len cf xs i]
/-- Elements that are somewhere in the row. -/
theorem insJ_mem (cf : Int → Int → Int) : ∀ (j : Nat) (xs : List Int), j < xs.length → ∀ x, x ∈ insJ cf xs j → x ∈ xs
  | 0, xs, _, x, h => h
  | j + 1, xs, hj, x, h => by
    unfold insJ at h
    split at h
    · have := insJ_mem cf j _ (by simp; omega) x h
      rcases List.mem_or_eq_of_mem_set this with h | h
      · rcases List.mem_or_eq_of_mem_set h with h | h
        · exact h
        · rw [h]; exact getD_mem (by omega)
      · rw [h]; exact getD_mem hj
    · exact h
theorem srt_mem (cf : Int → Int → Int) (xs : List Int) : ∀ i, i ≤ xs.length → ∀ x, x ∈ srt cf xs i → x ∈ xs
  | 0, _, x, h => h
  | i + 1, hi, x, h => srt_mem cf xs i (by omega) x (insJ_mem cf i _ (by rw [srt_len]; omega) x h)

/-- What the sort asks of the comparison: it answers cf on the row's elements, whatever the row looks like, and leaves what is there. -/
def Cmp (w0 : World) (gf : FuncId) (cb : Array Value) (cf : Int → Int → Int) (dom : Int → Prop) (L : List Chunk) : Prop :=
  ∀ (W : World) (v : Value) (xs : List Int) (x y : Int), Mem w0 W (row w0 (Kd.int .i64) 3 v xs :: L) → dom x → dom y → Calls Try.prog gf (#[.int .i64 x, .int .i64 y] ++ cb) W fun e w' => e = .returned (.int .i64 (cf x y)) ∧ Below W.heap.size W w'
end Go.Proofs.Ytjdpogkddoaioaa.QWh
