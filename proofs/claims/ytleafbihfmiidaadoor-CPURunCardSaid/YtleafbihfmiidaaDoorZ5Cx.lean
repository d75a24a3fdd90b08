/- What this claim needs of Cx. Parted by prune.py. -/
import Derived.Test.YtleafbihfmiidaaDoorZ5QAlx8
import Derived.Test.YtleafbihfmiidaaDoorZ5Vp
import Derived.Test.YtleafbihfmiidaaDoorZ5Cp
namespace Go.Proofs.YtleafbihfmiidaaDoor.QAl
open Go.RowKit Go.Proofs.YtleafbihfmiidaaDoorW.PrintWords
set_option linter.unusedVariables false
set_option linter.unusedSimpArgs false
set_option maxRecDepth 100000 in
theorem rcost_all : ∀ k : Fin 30, isa_Energy.f 5 ((k.val + 1 : Nat) : Int) = some (enC ((k.val + 1 : Nat) : Int)) ∧ isa_NVMWrites.f 5 ((k.val + 1 : Nat) : Int) = some (wrC ((k.val + 1 : Nat) : Int)) ∧ isa_Ticks.f 5 ((k.val + 1 : Nat) : Int) = some (tiC ((k.val + 1 : Nat) : Int)) ∧
    trickleref11_Energy.f 5 ((k.val + 1 : Nat) : Int) = some (enC ((k.val + 1 : Nat) : Int)) ∧ trickleref11_NVMWrites.f 5 ((k.val + 1 : Nat) : Int) = some (wrC ((k.val + 1 : Nat) : Int)) ∧ trickleref11_Ticks.f 5 ((k.val + 1 : Nat) : Int) = some (tiC ((k.val + 1 : Nat) : Int)) ∧
    (0 ≤ enC ((k.val + 1 : Nat) : Int) ∧ enC ((k.val + 1 : Nat) : Int) ≤ 100 ∧ 0 ≤ wrC ((k.val + 1 : Nat) : Int) ∧ wrC ((k.val + 1 : Nat) : Int) ≤ 100) := by decide +kernel
theorem rcosts {op : Int} (h : 1 ≤ op ∧ op ≤ 30) : isa_Energy.f 5 op = some (enC op) ∧ isa_NVMWrites.f 5 op = some (wrC op) ∧ isa_Ticks.f 5 op = some (tiC op) ∧
    trickleref11_Energy.f 5 op = some (enC op) ∧ trickleref11_NVMWrites.f 5 op = some (wrC op) ∧ trickleref11_Ticks.f 5 op = some (tiC op) ∧ (0 ≤ enC op ∧ enC op ≤ 100 ∧ 0 ≤ wrC op ∧ wrC op ≤ 100) := by
  have := rcost_all ⟨op.toNat - 1, by omega⟩
  have e : ((op.toNat - 1 + 1 : Nat) : Int) = op := by omega
  simp only [e] at this
  exact this
theorem Wrap_f (n : Int) : trickleref01_Wrap.f n = some (IntKind.i16.wrap n) := by
  unfold trickleref01_Wrap.f
  have h1 := tmod_cases n 65536 (by decide)
  generalize ht : n.tmod 65536 = t at *
  have hb : -65536 < t ∧ t < 65536 := by omega
  by_cases h : t < 0
  · rw [if_pos h, w64_small (by omega) (by omega)]
    by_cases h2 : t + 65536 ≥ 32768
    · rw [if_pos h2, w64_small (by omega) (by omega)]
      congr 1
      rw [wrap_i16, wrap_i16]
      omega
    · rw [if_neg h2]
      congr 1
      rw [wrap_i16, wrap_i16]
      omega
  · rw [if_neg h]
    by_cases h2 : t ≥ 32768
    · rw [if_pos h2, w64_small (by omega) (by omega)]
      congr 1
      rw [wrap_i16, wrap_i16]
      omega
    · rw [if_neg h2]
      congr 1
      rw [wrap_i16, wrap_i16]
      omega
theorem rneg_f {v : Int} (h : S16 v) : trickleref01_Unary.f 1 v = some (negV v, 0) := by
  unfold trickleref01_Unary.f
  rw [if_pos rfl, w64_small (n := v) (by unfold S16 at h; omega) (by unfold S16 at h; omega), w64_small (by unfold S16 at h; omega) (by unfold S16 at h; omega), Wrap_f]
  rfl
theorem truth_wrap (p : Bool) : (trickleref01_truth.f p).bind (fun t => (trickleref01_Wrap.f t).bind fun u => some (u, (0 : Int))) = some (if p = true then 1 else 0, 0) := by
  unfold trickleref01_truth.f
  cases p with
  | true => rw [if_pos rfl, if_pos rfl, Option.bind_some, Wrap_f]; rfl
  | false => rw [if_neg (by simp), if_neg (by simp), Option.bind_some, Wrap_f]; rfl
theorem rnot_f (v : Int) : trickleref01_Unary.f 2 v = some (notV v, 0) := by
  unfold trickleref01_Unary.f
  rw [if_neg (by decide), if_pos rfl, truth_wrap]
  unfold notV
  by_cases h : v = 0 <;> simp [h]
theorem rbin_f {op : Int} (h : Bop op) {a b : Int} (ha : S16 a) (hb : S16 b) : trickleref01_Binary.f op a b = some (binV op a b, 0) := by
  have wa : wrap64 a = a := w64_small (by unfold S16 at ha; omega) (by unfold S16 at ha; omega)
  have wb : wrap64 b = b := w64_small (by unfold S16 at hb; omega) (by unfold S16 at hb; omega)
  unfold trickleref01_Binary.f
  rw [wa, wb]
  have hm := mul_small ha hb
  have hd := tdiv_small (b := b) ha
  rcases h with rfl | rfl | rfl | rfl | rfl | rfl | rfl | rfl
  · rw [if_pos rfl, w64_small (by unfold S16 at *; omega) (by unfold S16 at *; omega), Wrap_f]; rfl
  · rw [if_neg (by decide), if_pos rfl, w64_small (by unfold S16 at *; omega) (by unfold S16 at *; omega), Wrap_f]; rfl
  · rw [if_neg (by decide), if_neg (by decide), if_pos rfl, w64_small (by omega) (by omega), Wrap_f]; rfl
  · rw [if_neg (by decide), if_neg (by decide), if_neg (by decide), if_pos rfl]
    show _ = some (if b = 0 then 0 else IntKind.i16.wrap (a.tdiv b), 0)
    unfold trickleref01_Quotient.f
    by_cases h : b = 0
    · rw [if_pos h, if_pos h, Option.bind_some, Wrap_f]; rfl
    · rw [if_neg h, if_neg h, Option.bind_some, Wrap_f, w64_small (by omega) (by omega)]; rfl
  · rw [if_neg (by decide), if_neg (by decide), if_neg (by decide), if_neg (by decide), if_pos rfl]
    show _ = some (if b = 0 then 0 else a.tmod b, 0)
    unfold trickleref01_Remainder.f trickleref01_Quotient.f
    by_cases h : b = 0
    · rw [if_pos h, if_pos h, Option.bind_some, Wrap_f]; rfl
    · have hr := tmod_small ha hb h
      have hid : b * a.tdiv b + a.tmod b = a := Int.mul_tdiv_add_tmod a b
      have hw : IntKind.i16.wrap (a.tmod b) = a.tmod b := wrap16_small hr.1 hr.2
      rw [if_neg h, if_neg h, if_neg h, Option.bind_some, Option.bind_some, Wrap_f, w64_small (n := a.tdiv b) (by omega) (by omega)]
      have h1 : a - b * a.tdiv b = a.tmod b := by omega
      have h2 : b * a.tdiv b = a - a.tmod b := by omega
      rw [w64_small (n := b * a.tdiv b) (by rw [h2]; unfold S16 at *; omega) (by rw [h2]; unfold S16 at *; omega), h1, w64_small (by unfold S16 at *; omega) (by unfold S16 at *; omega), hw]
      rfl
  · rw [if_neg (by decide), if_neg (by decide), if_neg (by decide), if_neg (by decide), if_neg (by decide), if_pos rfl, truth_wrap]
    show _ = some (if a = b then 1 else 0, 0)
    by_cases h : a = b <;> simp [h]
  · rw [if_neg (by decide), if_neg (by decide), if_neg (by decide), if_neg (by decide), if_neg (by decide), if_neg (by decide), if_neg (by decide), if_pos rfl, truth_wrap]
    show _ = some (if a < b then 1 else 0, 0)
    by_cases h : a < b <;> simp [h]
  · rw [if_neg (by decide), if_neg (by decide), if_neg (by decide), if_neg (by decide), if_neg (by decide), if_neg (by decide), if_neg (by decide), if_neg (by decide), if_pos rfl, truth_wrap]
    show _ = some (if a ≤ b then 1 else 0, 0)
    by_cases h : a ≤ b <;> simp [h]
theorem ridx_f {v n : Int} (hv : S16 v) (hn : 1 ≤ n) : trickleref01_Index.f v n = some (idxV v n, 0) := by
  have wv : wrap64 v = v := w64_small (by unfold S16 at hv; omega) (by unfold S16 at hv; omega)
  unfold trickleref01_Index.f idxV
  unfold S16 at hv
  rw [if_neg (by omega), wv]
  by_cases h : v < 0
  · rw [if_pos h, if_neg (by omega), w64_small (by omega) (by omega), Int.tmod_eq_emod_of_nonneg (by omega)]
    have : v % 65536 = v + 65536 := by omega
    rw [this]
  · rw [if_neg h, if_neg (by omega), Int.tmod_eq_emod_of_nonneg (by omega)]
    have : v % 65536 = v := by omega
    rw [this]
theorem rdata_f (ad : Int) : trickleref12_data.f ad = some (dataOk ad) := by
  unfold dataOk cpu_dataAddress.f trickleref12_data.f
  by_cases h1 : ad.tmod 2 = 0 <;> by_cases h2 : ad ≥ 2560 <;> by_cases h3 : ad < 3584 <;> simp [h1, h2, h3]
end Go.Proofs.YtleafbihfmiidaaDoor.QAl
