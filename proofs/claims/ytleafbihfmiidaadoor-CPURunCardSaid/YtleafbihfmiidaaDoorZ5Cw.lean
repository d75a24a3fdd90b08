/- What this claim needs of Cw. Parted by prune.py. -/
import Derived.Test.YtleafbihfmiidaaDoorZ5QAlx4
import Derived.Test.YtleafbihfmiidaaDoorZ5Vq
namespace Go.Proofs.YtleafbihfmiidaaDoor.QAl
open Go.RowKit Go.Proofs.YtleafbihfmiidaaDoorW.PrintWords
set_option linter.unusedVariables false
set_option linter.unusedSimpArgs false
/-! ### Costs -/
def enC (op : Int) : Int := (isa_Energy.f 5 op).getD 0
def wrC (op : Int) : Int := (isa_NVMWrites.f 5 op).getD 0
def tiC (op : Int) : Int := (isa_Ticks.f 5 op).getD 0
set_option maxRecDepth 100000 in
theorem cost_all : ∀ k : Fin 30, isa_Energy.f 5 ((k.val + 1 : Nat) : Int) = some (enC ((k.val + 1 : Nat) : Int)) ∧ isa_NVMWrites.f 5 ((k.val + 1 : Nat) : Int) = some (wrC ((k.val + 1 : Nat) : Int)) ∧ isa_Ticks.f 5 ((k.val + 1 : Nat) : Int) = some (tiC ((k.val + 1 : Nat) : Int)) ∧
    True ∧ True ∧ True ∧
    (0 ≤ enC ((k.val + 1 : Nat) : Int) ∧ enC ((k.val + 1 : Nat) : Int) ≤ 100 ∧ 0 ≤ wrC ((k.val + 1 : Nat) : Int) ∧ wrC ((k.val + 1 : Nat) : Int) ≤ 100) := by decide +kernel
theorem costs {op : Int} (h : 1 ≤ op ∧ op ≤ 30) : isa_Energy.f 5 op = some (enC op) ∧ isa_NVMWrites.f 5 op = some (wrC op) ∧ isa_Ticks.f 5 op = some (tiC op) ∧
    True ∧ True ∧ True ∧ (0 ≤ enC op ∧ enC op ≤ 100 ∧ 0 ≤ wrC op ∧ wrC op ≤ 100) := by
  have := cost_all ⟨op.toNat - 1, by omega⟩
  have e : ((op.toNat - 1 + 1 : Nat) : Int) = op := by omega
  simp only [e] at this
  exact this
/-! ### Words -/
def S16 (v : Int) : Prop := -32768 ≤ v ∧ v ≤ 32767
theorem s16_wrap (n : Int) : S16 (IntKind.i16.wrap n) := by
  rw [wrap_i16]
  unfold S16
  omega
theorem w64_small {n : Int} (h0 : -4611686018427387904 ≤ n) (h1 : n ≤ 4611686018427387904) : wrap64 n = n := by unfold wrap64; omega
theorem tmod_cases (a n : Int) (hn : 0 < n) : (0 ≤ a ∧ a.tmod n = a % n) ∨ (a < 0 ∧ a.tmod n = -((-a) % n)) := by
  rcases Int.lt_or_le a 0 with h | h
  · refine .inr ⟨h, ?_⟩
    have h1 : a.tmod n = -((-a).tmod n) := by
      have := Int.neg_tmod (a := a) (b := n)
      omega
    rw [h1, Int.tmod_eq_emod_of_nonneg (by omega)]
  · exact .inl ⟨h, Int.tmod_eq_emod_of_nonneg h⟩
def negV (v : Int) : Int := IntKind.i16.wrap (-v)
def notV (v : Int) : Int := if v = 0 then 1 else 0
theorem s16_not (v : Int) : S16 (notV v) := by
  unfold notV S16
  split <;> omega
theorem wneg_f (v : Int) : word_Unary.f 1 v = some (negV v, 0) := rfl
theorem wnot_f (v : Int) : word_Unary.f 2 v = some (notV v, 0) := by
  unfold word_Unary.f word_truth.f notV
  by_cases h : v = 0 <;> simp [h]
def binV (op a b : Int) : Int :=
  if op = 3 then IntKind.i16.wrap (a + b) else if op = 4 then IntKind.i16.wrap (a - b) else if op = 5 then IntKind.i16.wrap (a * b)
  else if op = 6 then (if b = 0 then 0 else IntKind.i16.wrap (a.tdiv b)) else if op = 7 then (if b = 0 then 0 else a.tmod b)
  else if op = 8 then (if a = b then 1 else 0) else if op = 10 then (if a < b then 1 else 0) else if op = 11 then (if a ≤ b then 1 else 0) else 0
/-- The operators that instructions have. -/
def Bop (op : Int) : Prop := op = 3 ∨ op = 4 ∨ op = 5 ∨ op = 6 ∨ op = 7 ∨ op = 8 ∨ op = 10 ∨ op = 11
theorem tmod_small {a b : Int} (h : S16 a) (hb : S16 b) (h0 : ¬ b = 0) : S16 (a.tmod b) := by
  have h1 := Int.natAbs_tmod a b
  have h2 : a.natAbs % b.natAbs ≤ a.natAbs := Nat.mod_le _ _
  have h3 : a.natAbs % b.natAbs < b.natAbs := Nat.mod_lt _ (by omega)
  unfold S16 at *
  omega
theorem s16_bin (op : Int) {a b : Int} (ha : S16 a) (hb : S16 b) : S16 (binV op a b) := by
  have one : S16 1 := ⟨by decide, by decide⟩
  have zero : S16 0 := ⟨by decide, by decide⟩
  unfold binV
  repeat' split
  all_goals first | exact s16_wrap _ | exact zero | exact one | exact tmod_small ha hb ‹_›
theorem wbin_f {op : Int} (h : Bop op) (a b : Int) : word_Binary.f op a b = some (binV op a b, 0) := by
  rcases h with rfl | rfl | rfl | rfl | rfl | rfl | rfl | rfl
  · rfl
  · rfl
  · rfl
  · show (word_Div.f a b).bind _ = _
    unfold word_Div.f
    show _ = some (if b = 0 then 0 else IntKind.i16.wrap (a.tdiv b), 0)
    by_cases h : b = 0
    · rw [if_pos h, if_pos h]; rfl
    · rw [if_neg h, if_neg h]; rfl
  · show (word_Mod.f a b).bind _ = _
    unfold word_Mod.f
    show _ = some (if b = 0 then 0 else a.tmod b, 0)
    by_cases h : b = 0
    · rw [if_pos h, if_pos h]; rfl
    · rw [if_neg h, if_neg h]; rfl
  · show (word_truth.f (a == b)).bind _ = some (if a = b then 1 else 0, 0)
    unfold word_truth.f
    by_cases h : a = b <;> simp [h]
  · show (word_truth.f (decide (a < b))).bind _ = some (if a < b then 1 else 0, 0)
    unfold word_truth.f
    by_cases h : a < b <;> simp [h]
  · show (word_truth.f (decide (a ≤ b))).bind _ = some (if a ≤ b then 1 else 0, 0)
    unfold word_truth.f
    by_cases h : a ≤ b <;> simp [h]
theorem mul_small {a b : Int} (ha : S16 a) (hb : S16 b) : -1073741824 ≤ a * b ∧ a * b ≤ 1073741824 := by
  unfold S16 at *
  have h1 : (a * b).natAbs = a.natAbs * b.natAbs := Int.natAbs_mul a b
  have h2 : a.natAbs * b.natAbs ≤ 32768 * 32768 := Nat.mul_le_mul (by omega) (by omega)
  omega
theorem tdiv_small {a b : Int} (ha : S16 a) : -32768 ≤ a.tdiv b ∧ a.tdiv b ≤ 32768 := by
  unfold S16 at *
  have h1 : (a.tdiv b).natAbs = a.natAbs / b.natAbs := Int.natAbs_tdiv a b
  have h2 : a.natAbs / b.natAbs ≤ a.natAbs := Nat.div_le_self _ _
  omega
/-- The index of an element. -/
def idxV (v n : Int) : Int := (v % 65536) % n
theorem widx_f {v n : Int} (hn : 1 ≤ n) : word_Index.f v n = some (idxV v n, 0) := by
  have e : IntKind.u16.wrap v = v % 65536 := by simp [IntKind.wrap, IntKind.bits, IntKind.signed]
  unfold word_Index.f idxV
  rw [if_neg (by omega), if_neg (by omega), e, w64_small (by omega) (by omega), Int.tmod_eq_emod_of_nonneg (by omega)]
theorem idx_small {v n : Int} (hn : 1 ≤ n) : 0 ≤ idxV v n ∧ idxV v n < 65536 := by
  unfold idxV
  have h1 : 0 ≤ v % 65536 := by omega
  have h2 : v % 65536 < 65536 := by omega
  refine ⟨Int.emod_nonneg _ (by omega), ?_⟩
  generalize v % 65536 = x at *
  rcases Int.lt_or_le x n with h | h
  · rw [Int.emod_eq_of_lt h1 h]; exact h2
  · have := Int.emod_lt_of_pos x (show 0 < n by omega)
    omega
end Go.Proofs.YtleafbihfmiidaaDoor.QAl
