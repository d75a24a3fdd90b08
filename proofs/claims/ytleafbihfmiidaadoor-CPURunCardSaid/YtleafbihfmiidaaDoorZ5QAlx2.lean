/- What this claim needs of QAlx2. Parted by prune.py. -/
import Derived.Test.YtleafbihfmiidaaDoorZ5QAlx0
-- Printed by a program of this session (myprint.py) over the kit's print: functions, contracts; not trusted, Lean checks it.
namespace Go.Proofs.YtleafbihfmiidaaDoor.QAl
open Go.RowKit Go.Proofs.YtleafbihfmiidaaDoorW.PrintWords Go.Proofs.YtleafbihfmiidaaDoorW.PrintLast Go.Proofs.YtleafbihfmiidaaDoorW.PrintMore
attribute [local go_sem] max2_int min2_int max_two min_two max_three min_three max_four min_four   -- for this text's walks alone
set_option linter.unusedVariables false
set_option linter.unusedSimpArgs false
/-! ### isa_operations: function 70 -/
def isa_operations.f  : Option ((List (S103))) := (some (([0] : List Int) : List Int)).bind fun y101 => ((some (([0, 1] : List Int) : List Int)).bind fun y104 => ((some (([0, 1, 2] : List Int) : List Int)).bind fun y107 => ((some (([0, 3] : List Int) : List Int)).bind fun y110 => ((some (([3] : List Int) : List Int)).bind fun y113 => (some (([(⟨(⟨#[]⟩ : ByteArray), ([] : List Int)⟩ : S103), (⟨(⟨#[104, 97, 108, 116]⟩ : ByteArray), ([] : List Int)⟩ : S103), (⟨(⟨#[109, 111, 118, 105]⟩ : ByteArray), y110⟩ : S103), (⟨(⟨#[109, 111, 118]⟩ : ByteArray), y104⟩ : S103), (⟨(⟨#[110, 101, 103]⟩ : ByteArray), y104⟩ : S103), (⟨(⟨#[110, 111, 116]⟩ : ByteArray), y104⟩ : S103), (⟨(⟨#[97, 100, 100]⟩ : ByteArray), y107⟩ : S103), (⟨(⟨#[115, 117, 98]⟩ : ByteArray), y107⟩ : S103), (⟨(⟨#[109, 117, 108]⟩ : ByteArray), y107⟩ : S103), (⟨(⟨#[100, 105, 118]⟩ : ByteArray), y107⟩ : S103), (⟨(⟨#[109, 111, 100]⟩ : ByteArray), y107⟩ : S103), (⟨(⟨#[101, 113]⟩ : ByteArray), y107⟩ : S103), (⟨(⟨#[108, 116]⟩ : ByteArray), y107⟩ : S103), (⟨(⟨#[108, 101]⟩ : ByteArray), y107⟩ : S103), (⟨(⟨#[108, 111, 97, 100]⟩ : ByteArray), y110⟩ : S103), (⟨(⟨#[115, 116, 111, 114, 101]⟩ : ByteArray), y110⟩ : S103), (⟨(⟨#[108, 111, 97, 100, 120]⟩ : ByteArray), y104⟩ : S103), (⟨(⟨#[115, 116, 111, 114, 101, 120]⟩ : ByteArray), y104⟩ : S103), (⟨(⟨#[105, 110, 100, 101, 120]⟩ : ByteArray), (([0, 1, 3] : List Int))⟩ : S103), (⟨(⟨#[115, 112, 105, 108, 108]⟩ : ByteArray), y110⟩ : S103), (⟨(⟨#[102, 105, 108, 108]⟩ : ByteArray), y110⟩ : S103), (⟨(⟨#[106, 117, 109, 112]⟩ : ByteArray), y113⟩ : S103), (⟨(⟨#[106, 117, 109, 112, 122]⟩ : ByteArray), y110⟩ : S103), (⟨(⟨#[114, 101, 97, 100]⟩ : ByteArray), y110⟩ : S103), (⟨(⟨#[115, 101, 110, 100]⟩ : ByteArray), y110⟩ : S103), (⟨(⟨#[101, 109, 105, 116]⟩ : ByteArray), y101⟩ : S103), (⟨(⟨#[111, 117, 116]⟩ : ByteArray), y110⟩ : S103), (⟨(⟨#[108, 111, 103]⟩ : ByteArray), y113⟩ : S103), (⟨(⟨#[108, 111, 103, 120]⟩ : ByteArray), y101⟩ : S103), (⟨(⟨#[99, 111, 109, 109, 105, 116]⟩ : ByteArray), y113⟩ : S103), (⟨(⟨#[110, 111, 112]⟩ : ByteArray), ([] : List Int)⟩ : S103)] : List (S103))))))))
set_option maxHeartbeats 8000000 in
set_option maxRecDepth 100000 in
theorem isa_operations.calls  (r : List (S103)) (w : World) (h : isa_operations.f  = some r) :
    Calls Tryd.prog 70 #[] w fun e w' => ∃ v0_ : Value, e = .returned (v0_) ∧ Kd.N k103 103 w' w.heap.size (fun k_ => (w.heap.size ≤ k_)) v0_ r ∧ Below w.heap.size w w' := by
  have hu103 := Tryd.underlying103
  have HB := Aside0.mk (Below.refl w.heap.size w)
  have H : ((some (([0] : List Int) : List Int)).bind fun y101 => ((some (([0, 1] : List Int) : List Int)).bind fun y104 => ((some (([0, 1, 2] : List Int) : List Int)).bind fun y107 => ((some (([0, 3] : List Int) : List Int)).bind fun y110 => ((some (([3] : List Int) : List Int)).bind fun y113 => (some (([(⟨(⟨#[]⟩ : ByteArray), ([] : List Int)⟩ : S103), (⟨(⟨#[104, 97, 108, 116]⟩ : ByteArray), ([] : List Int)⟩ : S103), (⟨(⟨#[109, 111, 118, 105]⟩ : ByteArray), y110⟩ : S103), (⟨(⟨#[109, 111, 118]⟩ : ByteArray), y104⟩ : S103), (⟨(⟨#[110, 101, 103]⟩ : ByteArray), y104⟩ : S103), (⟨(⟨#[110, 111, 116]⟩ : ByteArray), y104⟩ : S103), (⟨(⟨#[97, 100, 100]⟩ : ByteArray), y107⟩ : S103), (⟨(⟨#[115, 117, 98]⟩ : ByteArray), y107⟩ : S103), (⟨(⟨#[109, 117, 108]⟩ : ByteArray), y107⟩ : S103), (⟨(⟨#[100, 105, 118]⟩ : ByteArray), y107⟩ : S103), (⟨(⟨#[109, 111, 100]⟩ : ByteArray), y107⟩ : S103), (⟨(⟨#[101, 113]⟩ : ByteArray), y107⟩ : S103), (⟨(⟨#[108, 116]⟩ : ByteArray), y107⟩ : S103), (⟨(⟨#[108, 101]⟩ : ByteArray), y107⟩ : S103), (⟨(⟨#[108, 111, 97, 100]⟩ : ByteArray), y110⟩ : S103), (⟨(⟨#[115, 116, 111, 114, 101]⟩ : ByteArray), y110⟩ : S103), (⟨(⟨#[108, 111, 97, 100, 120]⟩ : ByteArray), y104⟩ : S103), (⟨(⟨#[115, 116, 111, 114, 101, 120]⟩ : ByteArray), y104⟩ : S103), (⟨(⟨#[105, 110, 100, 101, 120]⟩ : ByteArray), (([0, 1, 3] : List Int))⟩ : S103), (⟨(⟨#[115, 112, 105, 108, 108]⟩ : ByteArray), y110⟩ : S103), (⟨(⟨#[102, 105, 108, 108]⟩ : ByteArray), y110⟩ : S103), (⟨(⟨#[106, 117, 109, 112]⟩ : ByteArray), y113⟩ : S103), (⟨(⟨#[106, 117, 109, 112, 122]⟩ : ByteArray), y110⟩ : S103), (⟨(⟨#[114, 101, 97, 100]⟩ : ByteArray), y110⟩ : S103), (⟨(⟨#[115, 101, 110, 100]⟩ : ByteArray), y110⟩ : S103), (⟨(⟨#[101, 109, 105, 116]⟩ : ByteArray), y101⟩ : S103), (⟨(⟨#[111, 117, 116]⟩ : ByteArray), y110⟩ : S103), (⟨(⟨#[108, 111, 103]⟩ : ByteArray), y113⟩ : S103), (⟨(⟨#[108, 111, 103, 120]⟩ : ByteArray), y101⟩ : S103), (⟨(⟨#[99, 111, 109, 109, 105, 116]⟩ : ByteArray), y113⟩ : S103), (⟨(⟨#[110, 111, 112]⟩ : ByteArray), ([] : List Int)⟩ : S103)] : List (S103))))))))) = some r := h
  clear h
  obtain ⟨y101, hy101⟩ : ∃ y_ : List Int, y_ = (([0] : List Int)) := ⟨_, rfl⟩
  replace H : ((some (([0, 1] : List Int) : List Int)).bind fun y104 => ((some (([0, 1, 2] : List Int) : List Int)).bind fun y107 => ((some (([0, 3] : List Int) : List Int)).bind fun y110 => ((some (([3] : List Int) : List Int)).bind fun y113 => (some (([(⟨(⟨#[]⟩ : ByteArray), ([] : List Int)⟩ : S103), (⟨(⟨#[104, 97, 108, 116]⟩ : ByteArray), ([] : List Int)⟩ : S103), (⟨(⟨#[109, 111, 118, 105]⟩ : ByteArray), y110⟩ : S103), (⟨(⟨#[109, 111, 118]⟩ : ByteArray), y104⟩ : S103), (⟨(⟨#[110, 101, 103]⟩ : ByteArray), y104⟩ : S103), (⟨(⟨#[110, 111, 116]⟩ : ByteArray), y104⟩ : S103), (⟨(⟨#[97, 100, 100]⟩ : ByteArray), y107⟩ : S103), (⟨(⟨#[115, 117, 98]⟩ : ByteArray), y107⟩ : S103), (⟨(⟨#[109, 117, 108]⟩ : ByteArray), y107⟩ : S103), (⟨(⟨#[100, 105, 118]⟩ : ByteArray), y107⟩ : S103), (⟨(⟨#[109, 111, 100]⟩ : ByteArray), y107⟩ : S103), (⟨(⟨#[101, 113]⟩ : ByteArray), y107⟩ : S103), (⟨(⟨#[108, 116]⟩ : ByteArray), y107⟩ : S103), (⟨(⟨#[108, 101]⟩ : ByteArray), y107⟩ : S103), (⟨(⟨#[108, 111, 97, 100]⟩ : ByteArray), y110⟩ : S103), (⟨(⟨#[115, 116, 111, 114, 101]⟩ : ByteArray), y110⟩ : S103), (⟨(⟨#[108, 111, 97, 100, 120]⟩ : ByteArray), y104⟩ : S103), (⟨(⟨#[115, 116, 111, 114, 101, 120]⟩ : ByteArray), y104⟩ : S103), (⟨(⟨#[105, 110, 100, 101, 120]⟩ : ByteArray), (([0, 1, 3] : List Int))⟩ : S103), (⟨(⟨#[115, 112, 105, 108, 108]⟩ : ByteArray), y110⟩ : S103), (⟨(⟨#[102, 105, 108, 108]⟩ : ByteArray), y110⟩ : S103), (⟨(⟨#[106, 117, 109, 112]⟩ : ByteArray), y113⟩ : S103), (⟨(⟨#[106, 117, 109, 112, 122]⟩ : ByteArray), y110⟩ : S103), (⟨(⟨#[114, 101, 97, 100]⟩ : ByteArray), y110⟩ : S103), (⟨(⟨#[115, 101, 110, 100]⟩ : ByteArray), y110⟩ : S103), (⟨(⟨#[101, 109, 105, 116]⟩ : ByteArray), y101⟩ : S103), (⟨(⟨#[111, 117, 116]⟩ : ByteArray), y110⟩ : S103), (⟨(⟨#[108, 111, 103]⟩ : ByteArray), y113⟩ : S103), (⟨(⟨#[108, 111, 103, 120]⟩ : ByteArray), y101⟩ : S103), (⟨(⟨#[99, 111, 109, 109, 105, 116]⟩ : ByteArray), y113⟩ : S103), (⟨(⟨#[110, 111, 112]⟩ : ByteArray), ([] : List Int)⟩ : S103)] : List (S103)))))))) = some r := by first | (rw [hy101]; with_reducible exact H) | (have H2_ := (Option.bind_some _ _).symm.trans H; rw [hy101]; with_reducible exact H2_) | (have H2_ := (Option.bind_some _ _).symm.trans H; with_reducible exact H2_) | with_reducible exact H | (rw [hy101]; exact H) | exact H
  have Ny101 := Aside0.mk hy101
  clear hy101
  obtain ⟨y104, hy104⟩ : ∃ y_ : List Int, y_ = (([0, 1] : List Int)) := ⟨_, rfl⟩
  replace H : ((some (([0, 1, 2] : List Int) : List Int)).bind fun y107 => ((some (([0, 3] : List Int) : List Int)).bind fun y110 => ((some (([3] : List Int) : List Int)).bind fun y113 => (some (([(⟨(⟨#[]⟩ : ByteArray), ([] : List Int)⟩ : S103), (⟨(⟨#[104, 97, 108, 116]⟩ : ByteArray), ([] : List Int)⟩ : S103), (⟨(⟨#[109, 111, 118, 105]⟩ : ByteArray), y110⟩ : S103), (⟨(⟨#[109, 111, 118]⟩ : ByteArray), y104⟩ : S103), (⟨(⟨#[110, 101, 103]⟩ : ByteArray), y104⟩ : S103), (⟨(⟨#[110, 111, 116]⟩ : ByteArray), y104⟩ : S103), (⟨(⟨#[97, 100, 100]⟩ : ByteArray), y107⟩ : S103), (⟨(⟨#[115, 117, 98]⟩ : ByteArray), y107⟩ : S103), (⟨(⟨#[109, 117, 108]⟩ : ByteArray), y107⟩ : S103), (⟨(⟨#[100, 105, 118]⟩ : ByteArray), y107⟩ : S103), (⟨(⟨#[109, 111, 100]⟩ : ByteArray), y107⟩ : S103), (⟨(⟨#[101, 113]⟩ : ByteArray), y107⟩ : S103), (⟨(⟨#[108, 116]⟩ : ByteArray), y107⟩ : S103), (⟨(⟨#[108, 101]⟩ : ByteArray), y107⟩ : S103), (⟨(⟨#[108, 111, 97, 100]⟩ : ByteArray), y110⟩ : S103), (⟨(⟨#[115, 116, 111, 114, 101]⟩ : ByteArray), y110⟩ : S103), (⟨(⟨#[108, 111, 97, 100, 120]⟩ : ByteArray), y104⟩ : S103), (⟨(⟨#[115, 116, 111, 114, 101, 120]⟩ : ByteArray), y104⟩ : S103), (⟨(⟨#[105, 110, 100, 101, 120]⟩ : ByteArray), (([0, 1, 3] : List Int))⟩ : S103), (⟨(⟨#[115, 112, 105, 108, 108]⟩ : ByteArray), y110⟩ : S103), (⟨(⟨#[102, 105, 108, 108]⟩ : ByteArray), y110⟩ : S103), (⟨(⟨#[106, 117, 109, 112]⟩ : ByteArray), y113⟩ : S103), (⟨(⟨#[106, 117, 109, 112, 122]⟩ : ByteArray), y110⟩ : S103), (⟨(⟨#[114, 101, 97, 100]⟩ : ByteArray), y110⟩ : S103), (⟨(⟨#[115, 101, 110, 100]⟩ : ByteArray), y110⟩ : S103), (⟨(⟨#[101, 109, 105, 116]⟩ : ByteArray), y101⟩ : S103), (⟨(⟨#[111, 117, 116]⟩ : ByteArray), y110⟩ : S103), (⟨(⟨#[108, 111, 103]⟩ : ByteArray), y113⟩ : S103), (⟨(⟨#[108, 111, 103, 120]⟩ : ByteArray), y101⟩ : S103), (⟨(⟨#[99, 111, 109, 109, 105, 116]⟩ : ByteArray), y113⟩ : S103), (⟨(⟨#[110, 111, 112]⟩ : ByteArray), ([] : List Int)⟩ : S103)] : List (S103))))))) = some r := by first | (rw [hy104]; with_reducible exact H) | (have H2_ := (Option.bind_some _ _).symm.trans H; rw [hy104]; with_reducible exact H2_) | (have H2_ := (Option.bind_some _ _).symm.trans H; with_reducible exact H2_) | with_reducible exact H | (rw [hy104]; exact H) | exact H
  have Ny104 := Aside0.mk hy104
  clear hy104
  obtain ⟨y107, hy107⟩ : ∃ y_ : List Int, y_ = (([0, 1, 2] : List Int)) := ⟨_, rfl⟩
  replace H : ((some (([0, 3] : List Int) : List Int)).bind fun y110 => ((some (([3] : List Int) : List Int)).bind fun y113 => (some (([(⟨(⟨#[]⟩ : ByteArray), ([] : List Int)⟩ : S103), (⟨(⟨#[104, 97, 108, 116]⟩ : ByteArray), ([] : List Int)⟩ : S103), (⟨(⟨#[109, 111, 118, 105]⟩ : ByteArray), y110⟩ : S103), (⟨(⟨#[109, 111, 118]⟩ : ByteArray), y104⟩ : S103), (⟨(⟨#[110, 101, 103]⟩ : ByteArray), y104⟩ : S103), (⟨(⟨#[110, 111, 116]⟩ : ByteArray), y104⟩ : S103), (⟨(⟨#[97, 100, 100]⟩ : ByteArray), y107⟩ : S103), (⟨(⟨#[115, 117, 98]⟩ : ByteArray), y107⟩ : S103), (⟨(⟨#[109, 117, 108]⟩ : ByteArray), y107⟩ : S103), (⟨(⟨#[100, 105, 118]⟩ : ByteArray), y107⟩ : S103), (⟨(⟨#[109, 111, 100]⟩ : ByteArray), y107⟩ : S103), (⟨(⟨#[101, 113]⟩ : ByteArray), y107⟩ : S103), (⟨(⟨#[108, 116]⟩ : ByteArray), y107⟩ : S103), (⟨(⟨#[108, 101]⟩ : ByteArray), y107⟩ : S103), (⟨(⟨#[108, 111, 97, 100]⟩ : ByteArray), y110⟩ : S103), (⟨(⟨#[115, 116, 111, 114, 101]⟩ : ByteArray), y110⟩ : S103), (⟨(⟨#[108, 111, 97, 100, 120]⟩ : ByteArray), y104⟩ : S103), (⟨(⟨#[115, 116, 111, 114, 101, 120]⟩ : ByteArray), y104⟩ : S103), (⟨(⟨#[105, 110, 100, 101, 120]⟩ : ByteArray), (([0, 1, 3] : List Int))⟩ : S103), (⟨(⟨#[115, 112, 105, 108, 108]⟩ : ByteArray), y110⟩ : S103), (⟨(⟨#[102, 105, 108, 108]⟩ : ByteArray), y110⟩ : S103), (⟨(⟨#[106, 117, 109, 112]⟩ : ByteArray), y113⟩ : S103), (⟨(⟨#[106, 117, 109, 112, 122]⟩ : ByteArray), y110⟩ : S103), (⟨(⟨#[114, 101, 97, 100]⟩ : ByteArray), y110⟩ : S103), (⟨(⟨#[115, 101, 110, 100]⟩ : ByteArray), y110⟩ : S103), (⟨(⟨#[101, 109, 105, 116]⟩ : ByteArray), y101⟩ : S103), (⟨(⟨#[111, 117, 116]⟩ : ByteArray), y110⟩ : S103), (⟨(⟨#[108, 111, 103]⟩ : ByteArray), y113⟩ : S103), (⟨(⟨#[108, 111, 103, 120]⟩ : ByteArray), y101⟩ : S103), (⟨(⟨#[99, 111, 109, 109, 105, 116]⟩ : ByteArray), y113⟩ : S103), (⟨(⟨#[110, 111, 112]⟩ : ByteArray), ([] : List Int)⟩ : S103)] : List (S103)))))) = some r := by first | (rw [hy107]; with_reducible exact H) | (have H2_ := (Option.bind_some _ _).symm.trans H; rw [hy107]; with_reducible exact H2_) | (have H2_ := (Option.bind_some _ _).symm.trans H; with_reducible exact H2_) | with_reducible exact H | (rw [hy107]; exact H) | exact H
  have Ny107 := Aside0.mk hy107
  clear hy107
  obtain ⟨y110, hy110⟩ : ∃ y_ : List Int, y_ = (([0, 3] : List Int)) := ⟨_, rfl⟩
  replace H : ((some (([3] : List Int) : List Int)).bind fun y113 => (some (([(⟨(⟨#[]⟩ : ByteArray), ([] : List Int)⟩ : S103), (⟨(⟨#[104, 97, 108, 116]⟩ : ByteArray), ([] : List Int)⟩ : S103), (⟨(⟨#[109, 111, 118, 105]⟩ : ByteArray), y110⟩ : S103), (⟨(⟨#[109, 111, 118]⟩ : ByteArray), y104⟩ : S103), (⟨(⟨#[110, 101, 103]⟩ : ByteArray), y104⟩ : S103), (⟨(⟨#[110, 111, 116]⟩ : ByteArray), y104⟩ : S103), (⟨(⟨#[97, 100, 100]⟩ : ByteArray), y107⟩ : S103), (⟨(⟨#[115, 117, 98]⟩ : ByteArray), y107⟩ : S103), (⟨(⟨#[109, 117, 108]⟩ : ByteArray), y107⟩ : S103), (⟨(⟨#[100, 105, 118]⟩ : ByteArray), y107⟩ : S103), (⟨(⟨#[109, 111, 100]⟩ : ByteArray), y107⟩ : S103), (⟨(⟨#[101, 113]⟩ : ByteArray), y107⟩ : S103), (⟨(⟨#[108, 116]⟩ : ByteArray), y107⟩ : S103), (⟨(⟨#[108, 101]⟩ : ByteArray), y107⟩ : S103), (⟨(⟨#[108, 111, 97, 100]⟩ : ByteArray), y110⟩ : S103), (⟨(⟨#[115, 116, 111, 114, 101]⟩ : ByteArray), y110⟩ : S103), (⟨(⟨#[108, 111, 97, 100, 120]⟩ : ByteArray), y104⟩ : S103), (⟨(⟨#[115, 116, 111, 114, 101, 120]⟩ : ByteArray), y104⟩ : S103), (⟨(⟨#[105, 110, 100, 101, 120]⟩ : ByteArray), (([0, 1, 3] : List Int))⟩ : S103), (⟨(⟨#[115, 112, 105, 108, 108]⟩ : ByteArray), y110⟩ : S103), (⟨(⟨#[102, 105, 108, 108]⟩ : ByteArray), y110⟩ : S103), (⟨(⟨#[106, 117, 109, 112]⟩ : ByteArray), y113⟩ : S103), (⟨(⟨#[106, 117, 109, 112, 122]⟩ : ByteArray), y110⟩ : S103), (⟨(⟨#[114, 101, 97, 100]⟩ : ByteArray), y110⟩ : S103), (⟨(⟨#[115, 101, 110, 100]⟩ : ByteArray), y110⟩ : S103), (⟨(⟨#[101, 109, 105, 116]⟩ : ByteArray), y101⟩ : S103), (⟨(⟨#[111, 117, 116]⟩ : ByteArray), y110⟩ : S103), (⟨(⟨#[108, 111, 103]⟩ : ByteArray), y113⟩ : S103), (⟨(⟨#[108, 111, 103, 120]⟩ : ByteArray), y101⟩ : S103), (⟨(⟨#[99, 111, 109, 109, 105, 116]⟩ : ByteArray), y113⟩ : S103), (⟨(⟨#[110, 111, 112]⟩ : ByteArray), ([] : List Int)⟩ : S103)] : List (S103))))) = some r := by first | (rw [hy110]; with_reducible exact H) | (have H2_ := (Option.bind_some _ _).symm.trans H; rw [hy110]; with_reducible exact H2_) | (have H2_ := (Option.bind_some _ _).symm.trans H; with_reducible exact H2_) | with_reducible exact H | (rw [hy110]; exact H) | exact H
  have Ny110 := Aside0.mk hy110
  clear hy110
  obtain ⟨y113, hy113⟩ : ∃ y_ : List Int, y_ = (([3] : List Int)) := ⟨_, rfl⟩
  replace H : (some (([(⟨(⟨#[]⟩ : ByteArray), ([] : List Int)⟩ : S103), (⟨(⟨#[104, 97, 108, 116]⟩ : ByteArray), ([] : List Int)⟩ : S103), (⟨(⟨#[109, 111, 118, 105]⟩ : ByteArray), y110⟩ : S103), (⟨(⟨#[109, 111, 118]⟩ : ByteArray), y104⟩ : S103), (⟨(⟨#[110, 101, 103]⟩ : ByteArray), y104⟩ : S103), (⟨(⟨#[110, 111, 116]⟩ : ByteArray), y104⟩ : S103), (⟨(⟨#[97, 100, 100]⟩ : ByteArray), y107⟩ : S103), (⟨(⟨#[115, 117, 98]⟩ : ByteArray), y107⟩ : S103), (⟨(⟨#[109, 117, 108]⟩ : ByteArray), y107⟩ : S103), (⟨(⟨#[100, 105, 118]⟩ : ByteArray), y107⟩ : S103), (⟨(⟨#[109, 111, 100]⟩ : ByteArray), y107⟩ : S103), (⟨(⟨#[101, 113]⟩ : ByteArray), y107⟩ : S103), (⟨(⟨#[108, 116]⟩ : ByteArray), y107⟩ : S103), (⟨(⟨#[108, 101]⟩ : ByteArray), y107⟩ : S103), (⟨(⟨#[108, 111, 97, 100]⟩ : ByteArray), y110⟩ : S103), (⟨(⟨#[115, 116, 111, 114, 101]⟩ : ByteArray), y110⟩ : S103), (⟨(⟨#[108, 111, 97, 100, 120]⟩ : ByteArray), y104⟩ : S103), (⟨(⟨#[115, 116, 111, 114, 101, 120]⟩ : ByteArray), y104⟩ : S103), (⟨(⟨#[105, 110, 100, 101, 120]⟩ : ByteArray), (([0, 1, 3] : List Int))⟩ : S103), (⟨(⟨#[115, 112, 105, 108, 108]⟩ : ByteArray), y110⟩ : S103), (⟨(⟨#[102, 105, 108, 108]⟩ : ByteArray), y110⟩ : S103), (⟨(⟨#[106, 117, 109, 112]⟩ : ByteArray), y113⟩ : S103), (⟨(⟨#[106, 117, 109, 112, 122]⟩ : ByteArray), y110⟩ : S103), (⟨(⟨#[114, 101, 97, 100]⟩ : ByteArray), y110⟩ : S103), (⟨(⟨#[115, 101, 110, 100]⟩ : ByteArray), y110⟩ : S103), (⟨(⟨#[101, 109, 105, 116]⟩ : ByteArray), y101⟩ : S103), (⟨(⟨#[111, 117, 116]⟩ : ByteArray), y110⟩ : S103), (⟨(⟨#[108, 111, 103]⟩ : ByteArray), y113⟩ : S103), (⟨(⟨#[108, 111, 103, 120]⟩ : ByteArray), y101⟩ : S103), (⟨(⟨#[99, 111, 109, 109, 105, 116]⟩ : ByteArray), y113⟩ : S103), (⟨(⟨#[110, 111, 112]⟩ : ByteArray), ([] : List Int)⟩ : S103)] : List (S103)))) = some r := by first | (rw [hy113]; with_reducible exact H) | (have H2_ := (Option.bind_some _ _).symm.trans H; rw [hy113]; with_reducible exact H2_) | (have H2_ := (Option.bind_some _ _).symm.trans H; with_reducible exact H2_) | with_reducible exact H | (rw [hy113]; exact H) | exact H
  have Ny113 := Aside0.mk hy113
  clear hy113
  obtain ⟨y116, hy116⟩ : ∃ y_ : List Int, y_ = (([0, 1, 3] : List Int)) := ⟨_, rfl⟩
  replace H : (some (([(⟨(⟨#[]⟩ : ByteArray), ([] : List Int)⟩ : S103), (⟨(⟨#[104, 97, 108, 116]⟩ : ByteArray), ([] : List Int)⟩ : S103), (⟨(⟨#[109, 111, 118, 105]⟩ : ByteArray), y110⟩ : S103), (⟨(⟨#[109, 111, 118]⟩ : ByteArray), y104⟩ : S103), (⟨(⟨#[110, 101, 103]⟩ : ByteArray), y104⟩ : S103), (⟨(⟨#[110, 111, 116]⟩ : ByteArray), y104⟩ : S103), (⟨(⟨#[97, 100, 100]⟩ : ByteArray), y107⟩ : S103), (⟨(⟨#[115, 117, 98]⟩ : ByteArray), y107⟩ : S103), (⟨(⟨#[109, 117, 108]⟩ : ByteArray), y107⟩ : S103), (⟨(⟨#[100, 105, 118]⟩ : ByteArray), y107⟩ : S103), (⟨(⟨#[109, 111, 100]⟩ : ByteArray), y107⟩ : S103), (⟨(⟨#[101, 113]⟩ : ByteArray), y107⟩ : S103), (⟨(⟨#[108, 116]⟩ : ByteArray), y107⟩ : S103), (⟨(⟨#[108, 101]⟩ : ByteArray), y107⟩ : S103), (⟨(⟨#[108, 111, 97, 100]⟩ : ByteArray), y110⟩ : S103), (⟨(⟨#[115, 116, 111, 114, 101]⟩ : ByteArray), y110⟩ : S103), (⟨(⟨#[108, 111, 97, 100, 120]⟩ : ByteArray), y104⟩ : S103), (⟨(⟨#[115, 116, 111, 114, 101, 120]⟩ : ByteArray), y104⟩ : S103), (⟨(⟨#[105, 110, 100, 101, 120]⟩ : ByteArray), y116⟩ : S103), (⟨(⟨#[115, 112, 105, 108, 108]⟩ : ByteArray), y110⟩ : S103), (⟨(⟨#[102, 105, 108, 108]⟩ : ByteArray), y110⟩ : S103), (⟨(⟨#[106, 117, 109, 112]⟩ : ByteArray), y113⟩ : S103), (⟨(⟨#[106, 117, 109, 112, 122]⟩ : ByteArray), y110⟩ : S103), (⟨(⟨#[114, 101, 97, 100]⟩ : ByteArray), y110⟩ : S103), (⟨(⟨#[115, 101, 110, 100]⟩ : ByteArray), y110⟩ : S103), (⟨(⟨#[101, 109, 105, 116]⟩ : ByteArray), y101⟩ : S103), (⟨(⟨#[111, 117, 116]⟩ : ByteArray), y110⟩ : S103), (⟨(⟨#[108, 111, 103]⟩ : ByteArray), y113⟩ : S103), (⟨(⟨#[108, 111, 103, 120]⟩ : ByteArray), y101⟩ : S103), (⟨(⟨#[99, 111, 109, 109, 105, 116]⟩ : ByteArray), y113⟩ : S103), (⟨(⟨#[110, 111, 112]⟩ : ByteArray), ([] : List Int)⟩ : S103)] : List (S103)))) = some r := by first | (rw [hy116]; with_reducible exact H) | (have H2_ := (Option.bind_some _ _).symm.trans H; rw [hy116]; with_reducible exact H2_) | (have H2_ := (Option.bind_some _ _).symm.trans H; with_reducible exact H2_) | with_reducible exact H | (rw [hy116]; exact H) | exact H
  have Ny116 := Aside0.mk hy116
  clear hy116
  obtain ⟨y119, hy119⟩ : ∃ y_ : List (S103), y_ = (([(⟨(⟨#[]⟩ : ByteArray), ([] : List Int)⟩ : S103), (⟨(⟨#[104, 97, 108, 116]⟩ : ByteArray), ([] : List Int)⟩ : S103), (⟨(⟨#[109, 111, 118, 105]⟩ : ByteArray), y110⟩ : S103), (⟨(⟨#[109, 111, 118]⟩ : ByteArray), y104⟩ : S103), (⟨(⟨#[110, 101, 103]⟩ : ByteArray), y104⟩ : S103), (⟨(⟨#[110, 111, 116]⟩ : ByteArray), y104⟩ : S103), (⟨(⟨#[97, 100, 100]⟩ : ByteArray), y107⟩ : S103), (⟨(⟨#[115, 117, 98]⟩ : ByteArray), y107⟩ : S103), (⟨(⟨#[109, 117, 108]⟩ : ByteArray), y107⟩ : S103), (⟨(⟨#[100, 105, 118]⟩ : ByteArray), y107⟩ : S103), (⟨(⟨#[109, 111, 100]⟩ : ByteArray), y107⟩ : S103), (⟨(⟨#[101, 113]⟩ : ByteArray), y107⟩ : S103), (⟨(⟨#[108, 116]⟩ : ByteArray), y107⟩ : S103), (⟨(⟨#[108, 101]⟩ : ByteArray), y107⟩ : S103), (⟨(⟨#[108, 111, 97, 100]⟩ : ByteArray), y110⟩ : S103), (⟨(⟨#[115, 116, 111, 114, 101]⟩ : ByteArray), y110⟩ : S103), (⟨(⟨#[108, 111, 97, 100, 120]⟩ : ByteArray), y104⟩ : S103), (⟨(⟨#[115, 116, 111, 114, 101, 120]⟩ : ByteArray), y104⟩ : S103), (⟨(⟨#[105, 110, 100, 101, 120]⟩ : ByteArray), y116⟩ : S103), (⟨(⟨#[115, 112, 105, 108, 108]⟩ : ByteArray), y110⟩ : S103), (⟨(⟨#[102, 105, 108, 108]⟩ : ByteArray), y110⟩ : S103), (⟨(⟨#[106, 117, 109, 112]⟩ : ByteArray), y113⟩ : S103), (⟨(⟨#[106, 117, 109, 112, 122]⟩ : ByteArray), y110⟩ : S103), (⟨(⟨#[114, 101, 97, 100]⟩ : ByteArray), y110⟩ : S103), (⟨(⟨#[115, 101, 110, 100]⟩ : ByteArray), y110⟩ : S103), (⟨(⟨#[101, 109, 105, 116]⟩ : ByteArray), y101⟩ : S103), (⟨(⟨#[111, 117, 116]⟩ : ByteArray), y110⟩ : S103), (⟨(⟨#[108, 111, 103]⟩ : ByteArray), y113⟩ : S103), (⟨(⟨#[108, 111, 103, 120]⟩ : ByteArray), y101⟩ : S103), (⟨(⟨#[99, 111, 109, 109, 105, 116]⟩ : ByteArray), y113⟩ : S103), (⟨(⟨#[110, 111, 112]⟩ : ByteArray), ([] : List Int)⟩ : S103)] : List (S103))) := ⟨_, rfl⟩
  replace H : (some y119) = some r := by first | (rw [hy119]; with_reducible exact H) | (have H2_ := (Option.bind_some _ _).symm.trans H; rw [hy119]; with_reducible exact H2_) | (have H2_ := (Option.bind_some _ _).symm.trans H; with_reducible exact H2_) | with_reducible exact H | (rw [hy119]; exact H) | exact H
  have Ny119 := Aside0.mk hy119
  clear hy119
  obtain rfl := Option.some.inj H
  go_enter Tryd.func70, Tryd.ntmps70
  go_wp2_with (first | ((with_reducible refine gate_dst (N := 6) rfl ?_); refine Kd.R_lit (Kd.int .i64) _ 106 ?hg (N := 6) ?hd (xs := ([0] : List Int)) (inner := [.int .i64 0]) (ok := fun _ => True) (okp := fun _ => True) ?hr ?hp (fun _ hk => hk) trivial (Below.refl _ _) (Nat.le_refl _) (by simp) ?_; (case hd => rfl); (case hg => rfl); (case hr => first | (go_simp; done) | (go_simp; rfl)); (case hp => exact (Reps.one (show Kd.M (Kd.int .i64) _ _ _ 0 [.int .i64 0] from rfl) (Reps.none _ _))); intro v102 w1 ho2 hb hg_ hnew_; clear hg_ hnew_; (first | rw [← Ny101.out] at ho2 | (simp only [Int.reduceToNat] at ho2; rw [← Ny101.out] at ho2)); have n0_ := Aside0.mk (Kd.R_lower (Kd.R_newM (M := fun k_ => (w.heap.size ≤ k_)) ho2 (below_size (by repeat (first | (with_reducible first | exact HB.out | apply below_alloc | apply pw_below_drewN | apply below_drew1) | exact HB.out))) (fun k_ h_ => h_)) (below_size (by repeat (first | (with_reducible first | exact HB.out | apply below_alloc | apply pw_below_drewN | apply below_drew1) | exact HB.out)))); have n1_ := Aside0.mk (below_step (by repeat (first | (with_reducible first | exact HB.out | apply below_alloc | apply pw_below_drewN | apply below_drew1) | exact HB.out)) hb); clear HB; have HO103 := n0_; have HB := n1_; clear n0_ n1_; clear hb ho2) | ((with_reducible refine gate_dst (N := 7) rfl ?_); refine Kd.R_lit (Kd.int .i64) _ 106 ?hg (N := 7) ?hd (xs := ([0, 1] : List Int)) (inner := [.int .i64 0, .int .i64 1]) (ok := fun _ => True) (okp := fun _ => True) ?hr ?hp (fun _ hk => hk) trivial (Below.refl _ _) (Nat.le_refl _) (by simp) ?_; (case hd => rfl); (case hg => rfl); (case hr => first | (go_simp; done) | (go_simp; rfl)); (case hp => exact (Reps.one (show Kd.M (Kd.int .i64) _ _ _ 0 [.int .i64 0] from rfl) (Reps.one (show Kd.M (Kd.int .i64) _ _ _ 1 [.int .i64 1] from rfl) (Reps.none _ _)))); intro v105 w3 ho4 hb hg_ hnew_; clear hg_ hnew_; (first | rw [← Ny104.out] at ho4 | (simp only [Int.reduceToNat] at ho4; rw [← Ny104.out] at ho4)); have n0_ := Aside0.mk (Kd.R_elder' (by (with_reducible repeat (first | apply Kd.R_alloc | apply Kd.R_drewN | apply Kd.R_drew)); exact HO103.out) (Kd.R_base ho4) hb); have n1_ := Aside0.mk (Kd.R_lower (Kd.R_new' (Kd.R_newM (M := fun k_ => (w.heap.size ≤ k_)) ho4 (below_size (by repeat (first | (with_reducible first | exact HB.out | apply below_alloc | apply pw_below_drewN | apply below_drew1) | exact HB.out))) (fun k_ h_ => h_)) (Kd.R_lt (by (with_reducible repeat (first | apply Kd.R_alloc | apply Kd.R_drewN | apply Kd.R_drew)); exact HO103.out))) (below_size (by repeat (first | (with_reducible first | exact HB.out | apply below_alloc | apply pw_below_drewN | apply below_drew1) | exact HB.out)))); have n2_ := Aside0.mk (below_step (by repeat (first | (with_reducible first | exact HB.out | apply below_alloc | apply pw_below_drewN | apply below_drew1) | exact HB.out)) hb); clear HO103; clear HB; have HO103 := n0_; have HO106 := n1_; have HB := n2_; clear n0_ n1_ n2_; clear hb ho4) | ((with_reducible refine gate_dst (N := 8) rfl ?_); refine Kd.R_lit (Kd.int .i64) _ 106 ?hg (N := 8) ?hd (xs := ([0, 1, 2] : List Int)) (inner := [.int .i64 0, .int .i64 1, .int .i64 2]) (ok := fun _ => True) (okp := fun _ => True) ?hr ?hp (fun _ hk => hk) trivial (Below.refl _ _) (Nat.le_refl _) (by simp) ?_; (case hd => rfl); (case hg => rfl); (case hr => first | (go_simp; done) | (go_simp; rfl)); (case hp => exact (Reps.one (show Kd.M (Kd.int .i64) _ _ _ 0 [.int .i64 0] from rfl) (Reps.one (show Kd.M (Kd.int .i64) _ _ _ 1 [.int .i64 1] from rfl) (Reps.one (show Kd.M (Kd.int .i64) _ _ _ 2 [.int .i64 2] from rfl) (Reps.none _ _))))); intro v108 w5 ho6 hb hg_ hnew_; clear hg_ hnew_; (first | rw [← Ny107.out] at ho6 | (simp only [Int.reduceToNat] at ho6; rw [← Ny107.out] at ho6)); have n0_ := Aside0.mk (Kd.R_elder' (by (with_reducible repeat (first | apply Kd.R_alloc | apply Kd.R_drewN | apply Kd.R_drew)); exact HO103.out) (Kd.R_base ho6) hb); have n1_ := Aside0.mk (Kd.R_elder' (by (with_reducible repeat (first | apply Kd.R_alloc | apply Kd.R_drewN | apply Kd.R_drew)); exact HO106.out) (Kd.R_base ho6) hb); have n2_ := Aside0.mk (Kd.R_lower (Kd.R_new' (Kd.R_new' (Kd.R_newM (M := fun k_ => (w.heap.size ≤ k_)) ho6 (below_size (by repeat (first | (with_reducible first | exact HB.out | apply below_alloc | apply pw_below_drewN | apply below_drew1) | exact HB.out))) (fun k_ h_ => h_)) (Kd.R_lt (by (with_reducible repeat (first | apply Kd.R_alloc | apply Kd.R_drewN | apply Kd.R_drew)); exact HO103.out))) (Kd.R_lt (by (with_reducible repeat (first | apply Kd.R_alloc | apply Kd.R_drewN | apply Kd.R_drew)); exact HO106.out))) (below_size (by repeat (first | (with_reducible first | exact HB.out | apply below_alloc | apply pw_below_drewN | apply below_drew1) | exact HB.out)))); have n3_ := Aside0.mk (below_step (by repeat (first | (with_reducible first | exact HB.out | apply below_alloc | apply pw_below_drewN | apply below_drew1) | exact HB.out)) hb); clear HO103; clear HO106; clear HB; have HO103 := n0_; have HO106 := n1_; have HO109 := n2_; have HB := n3_; clear n0_ n1_ n2_ n3_; clear hb ho6) | ((with_reducible refine gate_dst (N := 9) rfl ?_); refine Kd.R_lit (Kd.int .i64) _ 106 ?hg (N := 9) ?hd (xs := ([0, 3] : List Int)) (inner := [.int .i64 0, .int .i64 3]) (ok := fun _ => True) (okp := fun _ => True) ?hr ?hp (fun _ hk => hk) trivial (Below.refl _ _) (Nat.le_refl _) (by simp) ?_; (case hd => rfl); (case hg => rfl); (case hr => first | (go_simp; done) | (go_simp; rfl)); (case hp => exact (Reps.one (show Kd.M (Kd.int .i64) _ _ _ 0 [.int .i64 0] from rfl) (Reps.one (show Kd.M (Kd.int .i64) _ _ _ 3 [.int .i64 3] from rfl) (Reps.none _ _)))); intro v111 w7 ho8 hb hg_ hnew_; clear hg_ hnew_; (first | rw [← Ny110.out] at ho8 | (simp only [Int.reduceToNat] at ho8; rw [← Ny110.out] at ho8)); have n0_ := Aside0.mk (Kd.R_elder' (by (with_reducible repeat (first | apply Kd.R_alloc | apply Kd.R_drewN | apply Kd.R_drew)); exact HO103.out) (Kd.R_base ho8) hb); have n1_ := Aside0.mk (Kd.R_elder' (by (with_reducible repeat (first | apply Kd.R_alloc | apply Kd.R_drewN | apply Kd.R_drew)); exact HO106.out) (Kd.R_base ho8) hb); have n2_ := Aside0.mk (Kd.R_elder' (by (with_reducible repeat (first | apply Kd.R_alloc | apply Kd.R_drewN | apply Kd.R_drew)); exact HO109.out) (Kd.R_base ho8) hb); have n3_ := Aside0.mk (Kd.R_lower (Kd.R_new' (Kd.R_new' (Kd.R_new' (Kd.R_newM (M := fun k_ => (w.heap.size ≤ k_)) ho8 (below_size (by repeat (first | (with_reducible first | exact HB.out | apply below_alloc | apply pw_below_drewN | apply below_drew1) | exact HB.out))) (fun k_ h_ => h_)) (Kd.R_lt (by (with_reducible repeat (first | apply Kd.R_alloc | apply Kd.R_drewN | apply Kd.R_drew)); exact HO103.out))) (Kd.R_lt (by (with_reducible repeat (first | apply Kd.R_alloc | apply Kd.R_drewN | apply Kd.R_drew)); exact HO106.out))) (Kd.R_lt (by (with_reducible repeat (first | apply Kd.R_alloc | apply Kd.R_drewN | apply Kd.R_drew)); exact HO109.out))) (below_size (by repeat (first | (with_reducible first | exact HB.out | apply below_alloc | apply pw_below_drewN | apply below_drew1) | exact HB.out)))); have n4_ := Aside0.mk (below_step (by repeat (first | (with_reducible first | exact HB.out | apply below_alloc | apply pw_below_drewN | apply below_drew1) | exact HB.out)) hb); clear HO103; clear HO106; clear HO109; clear HB; have HO103 := n0_; have HO106 := n1_; have HO109 := n2_; have HO112 := n3_; have HB := n4_; clear n0_ n1_ n2_ n3_ n4_; clear hb ho8) | ((with_reducible refine gate_dst (N := 10) rfl ?_); refine Kd.R_lit (Kd.int .i64) _ 106 ?hg (N := 10) ?hd (xs := ([3] : List Int)) (inner := [.int .i64 3]) (ok := fun _ => True) (okp := fun _ => True) ?hr ?hp (fun _ hk => hk) trivial (Below.refl _ _) (Nat.le_refl _) (by simp) ?_; (case hd => rfl); (case hg => rfl); (case hr => first | (go_simp; done) | (go_simp; rfl)); (case hp => exact (Reps.one (show Kd.M (Kd.int .i64) _ _ _ 3 [.int .i64 3] from rfl) (Reps.none _ _))); intro v114 w9 ho10 hb hg_ hnew_; clear hg_ hnew_; (first | rw [← Ny113.out] at ho10 | (simp only [Int.reduceToNat] at ho10; rw [← Ny113.out] at ho10)); have n0_ := Aside0.mk (Kd.R_elder' (by (with_reducible repeat (first | apply Kd.R_alloc | apply Kd.R_drewN | apply Kd.R_drew)); exact HO103.out) (Kd.R_base ho10) hb); have n1_ := Aside0.mk (Kd.R_elder' (by (with_reducible repeat (first | apply Kd.R_alloc | apply Kd.R_drewN | apply Kd.R_drew)); exact HO106.out) (Kd.R_base ho10) hb); have n2_ := Aside0.mk (Kd.R_elder' (by (with_reducible repeat (first | apply Kd.R_alloc | apply Kd.R_drewN | apply Kd.R_drew)); exact HO109.out) (Kd.R_base ho10) hb); have n3_ := Aside0.mk (Kd.R_elder' (by (with_reducible repeat (first | apply Kd.R_alloc | apply Kd.R_drewN | apply Kd.R_drew)); exact HO112.out) (Kd.R_base ho10) hb); have n4_ := Aside0.mk (Kd.R_lower (Kd.R_new' (Kd.R_new' (Kd.R_new' (Kd.R_new' (Kd.R_newM (M := fun k_ => (w.heap.size ≤ k_)) ho10 (below_size (by repeat (first | (with_reducible first | exact HB.out | apply below_alloc | apply pw_below_drewN | apply below_drew1) | exact HB.out))) (fun k_ h_ => h_)) (Kd.R_lt (by (with_reducible repeat (first | apply Kd.R_alloc | apply Kd.R_drewN | apply Kd.R_drew)); exact HO103.out))) (Kd.R_lt (by (with_reducible repeat (first | apply Kd.R_alloc | apply Kd.R_drewN | apply Kd.R_drew)); exact HO106.out))) (Kd.R_lt (by (with_reducible repeat (first | apply Kd.R_alloc | apply Kd.R_drewN | apply Kd.R_drew)); exact HO109.out))) (Kd.R_lt (by (with_reducible repeat (first | apply Kd.R_alloc | apply Kd.R_drewN | apply Kd.R_drew)); exact HO112.out))) (below_size (by repeat (first | (with_reducible first | exact HB.out | apply below_alloc | apply pw_below_drewN | apply below_drew1) | exact HB.out)))); have n5_ := Aside0.mk (below_step (by repeat (first | (with_reducible first | exact HB.out | apply below_alloc | apply pw_below_drewN | apply below_drew1) | exact HB.out)) hb); clear HO103; clear HO106; clear HO109; clear HO112; clear HB; have HO103 := n0_; have HO106 := n1_; have HO109 := n2_; have HO112 := n3_; have HO115 := n4_; have HB := n5_; clear n0_ n1_ n2_ n3_ n4_ n5_; clear hb ho10; obtain ⟨Ao11, co11, eo11⟩ := Kd.R_slice HO112.out; subst eo11; obtain ⟨Ao12, co12, eo12⟩ := Kd.R_slice HO106.out; subst eo12; obtain ⟨Ao13, co13, eo13⟩ := Kd.R_slice HO109.out; subst eo13) | ((with_reducible refine gate_dst (N := 45) rfl ?_); refine Kd.R_lit (Kd.int .i64) _ 106 ?hg (N := 45) ?hd (xs := ([0, 1, 3] : List Int)) (inner := [.int .i64 0, .int .i64 1, .int .i64 3]) (ok := fun _ => True) (okp := fun _ => True) ?hr ?hp (fun _ hk => hk) trivial (Below.refl _ _) (Nat.le_refl _) (by simp) ?_; (case hd => rfl); (case hg => rfl); (case hr => first | (go_simp; done) | (go_simp; rfl)); (case hp => exact (Reps.one (show Kd.M (Kd.int .i64) _ _ _ 0 [.int .i64 0] from rfl) (Reps.one (show Kd.M (Kd.int .i64) _ _ _ 1 [.int .i64 1] from rfl) (Reps.one (show Kd.M (Kd.int .i64) _ _ _ 3 [.int .i64 3] from rfl) (Reps.none _ _))))); intro v117 w14 ho15 hb hg_ hnew_; clear hg_ hnew_; (first | rw [← Ny116.out] at ho15 | (simp only [Int.reduceToNat] at ho15; rw [← Ny116.out] at ho15)); have n0_ := Aside0.mk (Kd.R_elder' (by (with_reducible repeat (first | apply Kd.R_alloc | apply Kd.R_drewN | apply Kd.R_drew)); exact HO103.out) (Kd.R_base ho15) hb); have n1_ := Aside0.mk (Kd.R_elder' (by (with_reducible repeat (first | apply Kd.R_alloc | apply Kd.R_drewN | apply Kd.R_drew)); exact HO106.out) (Kd.R_base ho15) hb); have n2_ := Aside0.mk (Kd.R_elder' (by (with_reducible repeat (first | apply Kd.R_alloc | apply Kd.R_drewN | apply Kd.R_drew)); exact HO109.out) (Kd.R_base ho15) hb); have n3_ := Aside0.mk (Kd.R_elder' (by (with_reducible repeat (first | apply Kd.R_alloc | apply Kd.R_drewN | apply Kd.R_drew)); exact HO112.out) (Kd.R_base ho15) hb); have n4_ := Aside0.mk (Kd.R_elder' (by (with_reducible repeat (first | apply Kd.R_alloc | apply Kd.R_drewN | apply Kd.R_drew)); exact HO115.out) (Kd.R_base ho15) hb); have n5_ := Aside0.mk (Kd.R_lower (Kd.R_new' (Kd.R_new' (Kd.R_new' (Kd.R_new' (Kd.R_new' (Kd.R_newM (M := fun k_ => (w.heap.size ≤ k_)) ho15 (below_size (by repeat (first | (with_reducible first | exact HB.out | apply below_alloc | apply pw_below_drewN | apply below_drew1) | exact HB.out))) (fun k_ h_ => h_)) (Kd.R_lt (by (with_reducible repeat (first | apply Kd.R_alloc | apply Kd.R_drewN | apply Kd.R_drew)); exact HO103.out))) (Kd.R_lt (by (with_reducible repeat (first | apply Kd.R_alloc | apply Kd.R_drewN | apply Kd.R_drew)); exact HO106.out))) (Kd.R_lt (by (with_reducible repeat (first | apply Kd.R_alloc | apply Kd.R_drewN | apply Kd.R_drew)); exact HO109.out))) (Kd.R_lt (by (with_reducible repeat (first | apply Kd.R_alloc | apply Kd.R_drewN | apply Kd.R_drew)); exact HO112.out))) (Kd.R_lt (by (with_reducible repeat (first | apply Kd.R_alloc | apply Kd.R_drewN | apply Kd.R_drew)); exact HO115.out))) (below_size (by repeat (first | (with_reducible first | exact HB.out | apply below_alloc | apply pw_below_drewN | apply below_drew1) | exact HB.out)))); have n6_ := Aside0.mk (below_step (by repeat (first | (with_reducible first | exact HB.out | apply below_alloc | apply pw_below_drewN | apply below_drew1) | exact HB.out)) hb); clear HO103; clear HO106; clear HO109; clear HO112; clear HO115; clear HB; have HO103 := n0_; have HO106 := n1_; have HO109 := n2_; have HO112 := n3_; have HO115 := n4_; have HO118 := n5_; have HB := n6_; clear n0_ n1_ n2_ n3_ n4_ n5_ n6_; clear hb ho15; obtain ⟨Ao16, co16, eo16⟩ := Kd.R_slice HO118.out; subst eo16; obtain ⟨Ao17, co17, eo17⟩ := Kd.R_slice HO115.out; subst eo17; obtain ⟨Ao18, co18, eo18⟩ := Kd.R_slice HO103.out; subst eo18) | ((with_reducible refine gate_dst (N := 70) rfl ?_); refine Kd.N_lit k103 _ 103 ?hg (N' := 70) ?hd (xs := ([(⟨(⟨#[]⟩ : ByteArray), ([] : List Int)⟩ : S103), (⟨(⟨#[104, 97, 108, 116]⟩ : ByteArray), ([] : List Int)⟩ : S103), (⟨(⟨#[109, 111, 118, 105]⟩ : ByteArray), y110⟩ : S103), (⟨(⟨#[109, 111, 118]⟩ : ByteArray), y104⟩ : S103), (⟨(⟨#[110, 101, 103]⟩ : ByteArray), y104⟩ : S103), (⟨(⟨#[110, 111, 116]⟩ : ByteArray), y104⟩ : S103), (⟨(⟨#[97, 100, 100]⟩ : ByteArray), y107⟩ : S103), (⟨(⟨#[115, 117, 98]⟩ : ByteArray), y107⟩ : S103), (⟨(⟨#[109, 117, 108]⟩ : ByteArray), y107⟩ : S103), (⟨(⟨#[100, 105, 118]⟩ : ByteArray), y107⟩ : S103), (⟨(⟨#[109, 111, 100]⟩ : ByteArray), y107⟩ : S103), (⟨(⟨#[101, 113]⟩ : ByteArray), y107⟩ : S103), (⟨(⟨#[108, 116]⟩ : ByteArray), y107⟩ : S103), (⟨(⟨#[108, 101]⟩ : ByteArray), y107⟩ : S103), (⟨(⟨#[108, 111, 97, 100]⟩ : ByteArray), y110⟩ : S103), (⟨(⟨#[115, 116, 111, 114, 101]⟩ : ByteArray), y110⟩ : S103), (⟨(⟨#[108, 111, 97, 100, 120]⟩ : ByteArray), y104⟩ : S103), (⟨(⟨#[115, 116, 111, 114, 101, 120]⟩ : ByteArray), y104⟩ : S103), (⟨(⟨#[105, 110, 100, 101, 120]⟩ : ByteArray), y116⟩ : S103), (⟨(⟨#[115, 112, 105, 108, 108]⟩ : ByteArray), y110⟩ : S103), (⟨(⟨#[102, 105, 108, 108]⟩ : ByteArray), y110⟩ : S103), (⟨(⟨#[106, 117, 109, 112]⟩ : ByteArray), y113⟩ : S103), (⟨(⟨#[106, 117, 109, 112, 122]⟩ : ByteArray), y110⟩ : S103), (⟨(⟨#[114, 101, 97, 100]⟩ : ByteArray), y110⟩ : S103), (⟨(⟨#[115, 101, 110, 100]⟩ : ByteArray), y110⟩ : S103), (⟨(⟨#[101, 109, 105, 116]⟩ : ByteArray), y101⟩ : S103), (⟨(⟨#[111, 117, 116]⟩ : ByteArray), y110⟩ : S103), (⟨(⟨#[108, 111, 103]⟩ : ByteArray), y113⟩ : S103), (⟨(⟨#[108, 111, 103, 120]⟩ : ByteArray), y101⟩ : S103), (⟨(⟨#[99, 111, 109, 109, 105, 116]⟩ : ByteArray), y113⟩ : S103), (⟨(⟨#[110, 111, 112]⟩ : ByteArray), ([] : List Int)⟩ : S103)] : List (S103))) (inner := [.string (⟨#[]⟩ : ByteArray), .slice none 0 0, .string (⟨#[104, 97, 108, 116]⟩ : ByteArray), .slice none 0 0, .string (⟨#[109, 111, 118, 105]⟩ : ByteArray), .slice Ao11 y110.length co11, .string (⟨#[109, 111, 118]⟩ : ByteArray), .slice Ao12 y104.length co12, .string (⟨#[110, 101, 103]⟩ : ByteArray), .slice Ao12 y104.length co12, .string (⟨#[110, 111, 116]⟩ : ByteArray), .slice Ao12 y104.length co12, .string (⟨#[97, 100, 100]⟩ : ByteArray), .slice Ao13 y107.length co13, .string (⟨#[115, 117, 98]⟩ : ByteArray), .slice Ao13 y107.length co13, .string (⟨#[109, 117, 108]⟩ : ByteArray), .slice Ao13 y107.length co13, .string (⟨#[100, 105, 118]⟩ : ByteArray), .slice Ao13 y107.length co13, .string (⟨#[109, 111, 100]⟩ : ByteArray), .slice Ao13 y107.length co13, .string (⟨#[101, 113]⟩ : ByteArray), .slice Ao13 y107.length co13, .string (⟨#[108, 116]⟩ : ByteArray), .slice Ao13 y107.length co13, .string (⟨#[108, 101]⟩ : ByteArray), .slice Ao13 y107.length co13, .string (⟨#[108, 111, 97, 100]⟩ : ByteArray), .slice Ao11 y110.length co11, .string (⟨#[115, 116, 111, 114, 101]⟩ : ByteArray), .slice Ao11 y110.length co11, .string (⟨#[108, 111, 97, 100, 120]⟩ : ByteArray), .slice Ao12 y104.length co12, .string (⟨#[115, 116, 111, 114, 101, 120]⟩ : ByteArray), .slice Ao12 y104.length co12, .string (⟨#[105, 110, 100, 101, 120]⟩ : ByteArray), .slice Ao16 y116.length co16, .string (⟨#[115, 112, 105, 108, 108]⟩ : ByteArray), .slice Ao11 y110.length co11, .string (⟨#[102, 105, 108, 108]⟩ : ByteArray), .slice Ao11 y110.length co11, .string (⟨#[106, 117, 109, 112]⟩ : ByteArray), .slice Ao17 y113.length co17, .string (⟨#[106, 117, 109, 112, 122]⟩ : ByteArray), .slice Ao11 y110.length co11, .string (⟨#[114, 101, 97, 100]⟩ : ByteArray), .slice Ao11 y110.length co11, .string (⟨#[115, 101, 110, 100]⟩ : ByteArray), .slice Ao11 y110.length co11, .string (⟨#[101, 109, 105, 116]⟩ : ByteArray), .slice Ao18 y101.length co18, .string (⟨#[111, 117, 116]⟩ : ByteArray), .slice Ao11 y110.length co11, .string (⟨#[108, 111, 103]⟩ : ByteArray), .slice Ao17 y113.length co17, .string (⟨#[108, 111, 103, 120]⟩ : ByteArray), .slice Ao18 y101.length co18, .string (⟨#[99, 111, 109, 109, 105, 116]⟩ : ByteArray), .slice Ao17 y113.length co17, .string (⟨#[110, 111, 112]⟩ : ByteArray), .slice none 0 0]) (ok := (fun k_ => (w.heap.size ≤ k_))) (okp := (fun k_ => (w.heap.size ≤ k_))) ?hr ?hp (fun _ hk => hk) ((show ∀ k_, w14.heap.size ≤ k_ → (fun k_ => (w.heap.size ≤ k_)) k_ from fun k_ hk => (Nat.le_trans (below_size (by repeat (first | (with_reducible first | exact HB.out | apply below_alloc | apply pw_below_drewN | apply below_drew1) | exact HB.out))) hk)) _ (Nat.le_refl _)) (Below.refl _ _) (Nat.le_refl _) (by simp) ?_; (case hd => rfl); (case hg => rfl); (case hr => first | (go_simp; done) | (go_simp; rfl)); (case hp => exact (Reps.c2 (show Kd.FK k103 _ _ (⟨(⟨#[]⟩ : ByteArray), ([] : List Int)⟩ : S103) [.string (⟨#[]⟩ : ByteArray), .slice none 0 0] from (k103_mkF _ _ (⟨(⟨#[]⟩ : ByteArray), ([] : List Int)⟩ : S103) (Nat.le_refl _) (Kd.F_nil _ _ _))) (Reps.c2 (show Kd.FK k103 _ _ (⟨(⟨#[104, 97, 108, 116]⟩ : ByteArray), ([] : List Int)⟩ : S103) [.string (⟨#[104, 97, 108, 116]⟩ : ByteArray), .slice none 0 0] from (k103_mkF _ _ (⟨(⟨#[104, 97, 108, 116]⟩ : ByteArray), ([] : List Int)⟩ : S103) (Nat.le_refl _) (Kd.F_nil _ _ _))) (Reps.c2 (show Kd.FK k103 _ _ (⟨(⟨#[109, 111, 118, 105]⟩ : ByteArray), y110⟩ : S103) [.string (⟨#[109, 111, 118, 105]⟩ : ByteArray), .slice Ao11 y110.length co11] from (k103_mkF _ _ (⟨(⟨#[109, 111, 118, 105]⟩ : ByteArray), y110⟩ : S103) (Kd.R_reads' (Kd.R_mono (ok' := (fun k_ => (w.heap.size ≤ k_))) (HO112.out) (fun k_ hk => hk.1.1.1.1.1.1))).2.1 (Kd.R_F (Kd.R_mono (ok' := (fun k_ => (w.heap.size ≤ k_))) (HO112.out) (fun k_ hk => hk.1.1.1.1.1.1))))) (Reps.c2 (show Kd.FK k103 _ _ (⟨(⟨#[109, 111, 118]⟩ : ByteArray), y104⟩ : S103) [.string (⟨#[109, 111, 118]⟩ : ByteArray), .slice Ao12 y104.length co12] from (k103_mkF _ _ (⟨(⟨#[109, 111, 118]⟩ : ByteArray), y104⟩ : S103) (Kd.R_reads' (Kd.R_mono (ok' := (fun k_ => (w.heap.size ≤ k_))) (HO106.out) (fun k_ hk => hk.1.1.1.1.1.1))).2.1 (Kd.R_F (Kd.R_mono (ok' := (fun k_ => (w.heap.size ≤ k_))) (HO106.out) (fun k_ hk => hk.1.1.1.1.1.1))))) (Reps.c2 (show Kd.FK k103 _ _ (⟨(⟨#[110, 101, 103]⟩ : ByteArray), y104⟩ : S103) [.string (⟨#[110, 101, 103]⟩ : ByteArray), .slice Ao12 y104.length co12] from (k103_mkF _ _ (⟨(⟨#[110, 101, 103]⟩ : ByteArray), y104⟩ : S103) (Kd.R_reads' (Kd.R_mono (ok' := (fun k_ => (w.heap.size ≤ k_))) (HO106.out) (fun k_ hk => hk.1.1.1.1.1.1))).2.1 (Kd.R_F (Kd.R_mono (ok' := (fun k_ => (w.heap.size ≤ k_))) (HO106.out) (fun k_ hk => hk.1.1.1.1.1.1))))) (Reps.c2 (show Kd.FK k103 _ _ (⟨(⟨#[110, 111, 116]⟩ : ByteArray), y104⟩ : S103) [.string (⟨#[110, 111, 116]⟩ : ByteArray), .slice Ao12 y104.length co12] from (k103_mkF _ _ (⟨(⟨#[110, 111, 116]⟩ : ByteArray), y104⟩ : S103) (Kd.R_reads' (Kd.R_mono (ok' := (fun k_ => (w.heap.size ≤ k_))) (HO106.out) (fun k_ hk => hk.1.1.1.1.1.1))).2.1 (Kd.R_F (Kd.R_mono (ok' := (fun k_ => (w.heap.size ≤ k_))) (HO106.out) (fun k_ hk => hk.1.1.1.1.1.1))))) (Reps.c2 (show Kd.FK k103 _ _ (⟨(⟨#[97, 100, 100]⟩ : ByteArray), y107⟩ : S103) [.string (⟨#[97, 100, 100]⟩ : ByteArray), .slice Ao13 y107.length co13] from (k103_mkF _ _ (⟨(⟨#[97, 100, 100]⟩ : ByteArray), y107⟩ : S103) (Kd.R_reads' (Kd.R_mono (ok' := (fun k_ => (w.heap.size ≤ k_))) (HO109.out) (fun k_ hk => hk.1.1.1.1.1.1))).2.1 (Kd.R_F (Kd.R_mono (ok' := (fun k_ => (w.heap.size ≤ k_))) (HO109.out) (fun k_ hk => hk.1.1.1.1.1.1))))) (Reps.c2 (show Kd.FK k103 _ _ (⟨(⟨#[115, 117, 98]⟩ : ByteArray), y107⟩ : S103) [.string (⟨#[115, 117, 98]⟩ : ByteArray), .slice Ao13 y107.length co13] from (k103_mkF _ _ (⟨(⟨#[115, 117, 98]⟩ : ByteArray), y107⟩ : S103) (Kd.R_reads' (Kd.R_mono (ok' := (fun k_ => (w.heap.size ≤ k_))) (HO109.out) (fun k_ hk => hk.1.1.1.1.1.1))).2.1 (Kd.R_F (Kd.R_mono (ok' := (fun k_ => (w.heap.size ≤ k_))) (HO109.out) (fun k_ hk => hk.1.1.1.1.1.1))))) (Reps.c2 (show Kd.FK k103 _ _ (⟨(⟨#[109, 117, 108]⟩ : ByteArray), y107⟩ : S103) [.string (⟨#[109, 117, 108]⟩ : ByteArray), .slice Ao13 y107.length co13] from (k103_mkF _ _ (⟨(⟨#[109, 117, 108]⟩ : ByteArray), y107⟩ : S103) (Kd.R_reads' (Kd.R_mono (ok' := (fun k_ => (w.heap.size ≤ k_))) (HO109.out) (fun k_ hk => hk.1.1.1.1.1.1))).2.1 (Kd.R_F (Kd.R_mono (ok' := (fun k_ => (w.heap.size ≤ k_))) (HO109.out) (fun k_ hk => hk.1.1.1.1.1.1))))) (Reps.c2 (show Kd.FK k103 _ _ (⟨(⟨#[100, 105, 118]⟩ : ByteArray), y107⟩ : S103) [.string (⟨#[100, 105, 118]⟩ : ByteArray), .slice Ao13 y107.length co13] from (k103_mkF _ _ (⟨(⟨#[100, 105, 118]⟩ : ByteArray), y107⟩ : S103) (Kd.R_reads' (Kd.R_mono (ok' := (fun k_ => (w.heap.size ≤ k_))) (HO109.out) (fun k_ hk => hk.1.1.1.1.1.1))).2.1 (Kd.R_F (Kd.R_mono (ok' := (fun k_ => (w.heap.size ≤ k_))) (HO109.out) (fun k_ hk => hk.1.1.1.1.1.1))))) (Reps.c2 (show Kd.FK k103 _ _ (⟨(⟨#[109, 111, 100]⟩ : ByteArray), y107⟩ : S103) [.string (⟨#[109, 111, 100]⟩ : ByteArray), .slice Ao13 y107.length co13] from (k103_mkF _ _ (⟨(⟨#[109, 111, 100]⟩ : ByteArray), y107⟩ : S103) (Kd.R_reads' (Kd.R_mono (ok' := (fun k_ => (w.heap.size ≤ k_))) (HO109.out) (fun k_ hk => hk.1.1.1.1.1.1))).2.1 (Kd.R_F (Kd.R_mono (ok' := (fun k_ => (w.heap.size ≤ k_))) (HO109.out) (fun k_ hk => hk.1.1.1.1.1.1))))) (Reps.c2 (show Kd.FK k103 _ _ (⟨(⟨#[101, 113]⟩ : ByteArray), y107⟩ : S103) [.string (⟨#[101, 113]⟩ : ByteArray), .slice Ao13 y107.length co13] from (k103_mkF _ _ (⟨(⟨#[101, 113]⟩ : ByteArray), y107⟩ : S103) (Kd.R_reads' (Kd.R_mono (ok' := (fun k_ => (w.heap.size ≤ k_))) (HO109.out) (fun k_ hk => hk.1.1.1.1.1.1))).2.1 (Kd.R_F (Kd.R_mono (ok' := (fun k_ => (w.heap.size ≤ k_))) (HO109.out) (fun k_ hk => hk.1.1.1.1.1.1))))) (Reps.c2 (show Kd.FK k103 _ _ (⟨(⟨#[108, 116]⟩ : ByteArray), y107⟩ : S103) [.string (⟨#[108, 116]⟩ : ByteArray), .slice Ao13 y107.length co13] from (k103_mkF _ _ (⟨(⟨#[108, 116]⟩ : ByteArray), y107⟩ : S103) (Kd.R_reads' (Kd.R_mono (ok' := (fun k_ => (w.heap.size ≤ k_))) (HO109.out) (fun k_ hk => hk.1.1.1.1.1.1))).2.1 (Kd.R_F (Kd.R_mono (ok' := (fun k_ => (w.heap.size ≤ k_))) (HO109.out) (fun k_ hk => hk.1.1.1.1.1.1))))) (Reps.c2 (show Kd.FK k103 _ _ (⟨(⟨#[108, 101]⟩ : ByteArray), y107⟩ : S103) [.string (⟨#[108, 101]⟩ : ByteArray), .slice Ao13 y107.length co13] from (k103_mkF _ _ (⟨(⟨#[108, 101]⟩ : ByteArray), y107⟩ : S103) (Kd.R_reads' (Kd.R_mono (ok' := (fun k_ => (w.heap.size ≤ k_))) (HO109.out) (fun k_ hk => hk.1.1.1.1.1.1))).2.1 (Kd.R_F (Kd.R_mono (ok' := (fun k_ => (w.heap.size ≤ k_))) (HO109.out) (fun k_ hk => hk.1.1.1.1.1.1))))) (Reps.c2 (show Kd.FK k103 _ _ (⟨(⟨#[108, 111, 97, 100]⟩ : ByteArray), y110⟩ : S103) [.string (⟨#[108, 111, 97, 100]⟩ : ByteArray), .slice Ao11 y110.length co11] from (k103_mkF _ _ (⟨(⟨#[108, 111, 97, 100]⟩ : ByteArray), y110⟩ : S103) (Kd.R_reads' (Kd.R_mono (ok' := (fun k_ => (w.heap.size ≤ k_))) (HO112.out) (fun k_ hk => hk.1.1.1.1.1.1))).2.1 (Kd.R_F (Kd.R_mono (ok' := (fun k_ => (w.heap.size ≤ k_))) (HO112.out) (fun k_ hk => hk.1.1.1.1.1.1))))) (Reps.c2 (show Kd.FK k103 _ _ (⟨(⟨#[115, 116, 111, 114, 101]⟩ : ByteArray), y110⟩ : S103) [.string (⟨#[115, 116, 111, 114, 101]⟩ : ByteArray), .slice Ao11 y110.length co11] from (k103_mkF _ _ (⟨(⟨#[115, 116, 111, 114, 101]⟩ : ByteArray), y110⟩ : S103) (Kd.R_reads' (Kd.R_mono (ok' := (fun k_ => (w.heap.size ≤ k_))) (HO112.out) (fun k_ hk => hk.1.1.1.1.1.1))).2.1 (Kd.R_F (Kd.R_mono (ok' := (fun k_ => (w.heap.size ≤ k_))) (HO112.out) (fun k_ hk => hk.1.1.1.1.1.1))))) (Reps.c2 (show Kd.FK k103 _ _ (⟨(⟨#[108, 111, 97, 100, 120]⟩ : ByteArray), y104⟩ : S103) [.string (⟨#[108, 111, 97, 100, 120]⟩ : ByteArray), .slice Ao12 y104.length co12] from (k103_mkF _ _ (⟨(⟨#[108, 111, 97, 100, 120]⟩ : ByteArray), y104⟩ : S103) (Kd.R_reads' (Kd.R_mono (ok' := (fun k_ => (w.heap.size ≤ k_))) (HO106.out) (fun k_ hk => hk.1.1.1.1.1.1))).2.1 (Kd.R_F (Kd.R_mono (ok' := (fun k_ => (w.heap.size ≤ k_))) (HO106.out) (fun k_ hk => hk.1.1.1.1.1.1))))) (Reps.c2 (show Kd.FK k103 _ _ (⟨(⟨#[115, 116, 111, 114, 101, 120]⟩ : ByteArray), y104⟩ : S103) [.string (⟨#[115, 116, 111, 114, 101, 120]⟩ : ByteArray), .slice Ao12 y104.length co12] from (k103_mkF _ _ (⟨(⟨#[115, 116, 111, 114, 101, 120]⟩ : ByteArray), y104⟩ : S103) (Kd.R_reads' (Kd.R_mono (ok' := (fun k_ => (w.heap.size ≤ k_))) (HO106.out) (fun k_ hk => hk.1.1.1.1.1.1))).2.1 (Kd.R_F (Kd.R_mono (ok' := (fun k_ => (w.heap.size ≤ k_))) (HO106.out) (fun k_ hk => hk.1.1.1.1.1.1))))) (Reps.c2 (show Kd.FK k103 _ _ (⟨(⟨#[105, 110, 100, 101, 120]⟩ : ByteArray), y116⟩ : S103) [.string (⟨#[105, 110, 100, 101, 120]⟩ : ByteArray), .slice Ao16 y116.length co16] from (k103_mkF _ _ (⟨(⟨#[105, 110, 100, 101, 120]⟩ : ByteArray), y116⟩ : S103) (Kd.R_reads' (Kd.R_mono (ok' := (fun k_ => (w.heap.size ≤ k_))) (HO118.out) (fun k_ hk => hk.1.1.1.1.1.1))).2.1 (Kd.R_F (Kd.R_mono (ok' := (fun k_ => (w.heap.size ≤ k_))) (HO118.out) (fun k_ hk => hk.1.1.1.1.1.1))))) (Reps.c2 (show Kd.FK k103 _ _ (⟨(⟨#[115, 112, 105, 108, 108]⟩ : ByteArray), y110⟩ : S103) [.string (⟨#[115, 112, 105, 108, 108]⟩ : ByteArray), .slice Ao11 y110.length co11] from (k103_mkF _ _ (⟨(⟨#[115, 112, 105, 108, 108]⟩ : ByteArray), y110⟩ : S103) (Kd.R_reads' (Kd.R_mono (ok' := (fun k_ => (w.heap.size ≤ k_))) (HO112.out) (fun k_ hk => hk.1.1.1.1.1.1))).2.1 (Kd.R_F (Kd.R_mono (ok' := (fun k_ => (w.heap.size ≤ k_))) (HO112.out) (fun k_ hk => hk.1.1.1.1.1.1))))) (Reps.c2 (show Kd.FK k103 _ _ (⟨(⟨#[102, 105, 108, 108]⟩ : ByteArray), y110⟩ : S103) [.string (⟨#[102, 105, 108, 108]⟩ : ByteArray), .slice Ao11 y110.length co11] from (k103_mkF _ _ (⟨(⟨#[102, 105, 108, 108]⟩ : ByteArray), y110⟩ : S103) (Kd.R_reads' (Kd.R_mono (ok' := (fun k_ => (w.heap.size ≤ k_))) (HO112.out) (fun k_ hk => hk.1.1.1.1.1.1))).2.1 (Kd.R_F (Kd.R_mono (ok' := (fun k_ => (w.heap.size ≤ k_))) (HO112.out) (fun k_ hk => hk.1.1.1.1.1.1))))) (Reps.c2 (show Kd.FK k103 _ _ (⟨(⟨#[106, 117, 109, 112]⟩ : ByteArray), y113⟩ : S103) [.string (⟨#[106, 117, 109, 112]⟩ : ByteArray), .slice Ao17 y113.length co17] from (k103_mkF _ _ (⟨(⟨#[106, 117, 109, 112]⟩ : ByteArray), y113⟩ : S103) (Kd.R_reads' (Kd.R_mono (ok' := (fun k_ => (w.heap.size ≤ k_))) (HO115.out) (fun k_ hk => hk.1.1.1.1.1.1))).2.1 (Kd.R_F (Kd.R_mono (ok' := (fun k_ => (w.heap.size ≤ k_))) (HO115.out) (fun k_ hk => hk.1.1.1.1.1.1))))) (Reps.c2 (show Kd.FK k103 _ _ (⟨(⟨#[106, 117, 109, 112, 122]⟩ : ByteArray), y110⟩ : S103) [.string (⟨#[106, 117, 109, 112, 122]⟩ : ByteArray), .slice Ao11 y110.length co11] from (k103_mkF _ _ (⟨(⟨#[106, 117, 109, 112, 122]⟩ : ByteArray), y110⟩ : S103) (Kd.R_reads' (Kd.R_mono (ok' := (fun k_ => (w.heap.size ≤ k_))) (HO112.out) (fun k_ hk => hk.1.1.1.1.1.1))).2.1 (Kd.R_F (Kd.R_mono (ok' := (fun k_ => (w.heap.size ≤ k_))) (HO112.out) (fun k_ hk => hk.1.1.1.1.1.1))))) (Reps.c2 (show Kd.FK k103 _ _ (⟨(⟨#[114, 101, 97, 100]⟩ : ByteArray), y110⟩ : S103) [.string (⟨#[114, 101, 97, 100]⟩ : ByteArray), .slice Ao11 y110.length co11] from (k103_mkF _ _ (⟨(⟨#[114, 101, 97, 100]⟩ : ByteArray), y110⟩ : S103) (Kd.R_reads' (Kd.R_mono (ok' := (fun k_ => (w.heap.size ≤ k_))) (HO112.out) (fun k_ hk => hk.1.1.1.1.1.1))).2.1 (Kd.R_F (Kd.R_mono (ok' := (fun k_ => (w.heap.size ≤ k_))) (HO112.out) (fun k_ hk => hk.1.1.1.1.1.1))))) (Reps.c2 (show Kd.FK k103 _ _ (⟨(⟨#[115, 101, 110, 100]⟩ : ByteArray), y110⟩ : S103) [.string (⟨#[115, 101, 110, 100]⟩ : ByteArray), .slice Ao11 y110.length co11] from (k103_mkF _ _ (⟨(⟨#[115, 101, 110, 100]⟩ : ByteArray), y110⟩ : S103) (Kd.R_reads' (Kd.R_mono (ok' := (fun k_ => (w.heap.size ≤ k_))) (HO112.out) (fun k_ hk => hk.1.1.1.1.1.1))).2.1 (Kd.R_F (Kd.R_mono (ok' := (fun k_ => (w.heap.size ≤ k_))) (HO112.out) (fun k_ hk => hk.1.1.1.1.1.1))))) (Reps.c2 (show Kd.FK k103 _ _ (⟨(⟨#[101, 109, 105, 116]⟩ : ByteArray), y101⟩ : S103) [.string (⟨#[101, 109, 105, 116]⟩ : ByteArray), .slice Ao18 y101.length co18] from (k103_mkF _ _ (⟨(⟨#[101, 109, 105, 116]⟩ : ByteArray), y101⟩ : S103) (Kd.R_reads' (Kd.R_mono (ok' := (fun k_ => (w.heap.size ≤ k_))) (HO103.out) (fun k_ hk => hk.1.1.1.1.1.1))).2.1 (Kd.R_F (Kd.R_mono (ok' := (fun k_ => (w.heap.size ≤ k_))) (HO103.out) (fun k_ hk => hk.1.1.1.1.1.1))))) (Reps.c2 (show Kd.FK k103 _ _ (⟨(⟨#[111, 117, 116]⟩ : ByteArray), y110⟩ : S103) [.string (⟨#[111, 117, 116]⟩ : ByteArray), .slice Ao11 y110.length co11] from (k103_mkF _ _ (⟨(⟨#[111, 117, 116]⟩ : ByteArray), y110⟩ : S103) (Kd.R_reads' (Kd.R_mono (ok' := (fun k_ => (w.heap.size ≤ k_))) (HO112.out) (fun k_ hk => hk.1.1.1.1.1.1))).2.1 (Kd.R_F (Kd.R_mono (ok' := (fun k_ => (w.heap.size ≤ k_))) (HO112.out) (fun k_ hk => hk.1.1.1.1.1.1))))) (Reps.c2 (show Kd.FK k103 _ _ (⟨(⟨#[108, 111, 103]⟩ : ByteArray), y113⟩ : S103) [.string (⟨#[108, 111, 103]⟩ : ByteArray), .slice Ao17 y113.length co17] from (k103_mkF _ _ (⟨(⟨#[108, 111, 103]⟩ : ByteArray), y113⟩ : S103) (Kd.R_reads' (Kd.R_mono (ok' := (fun k_ => (w.heap.size ≤ k_))) (HO115.out) (fun k_ hk => hk.1.1.1.1.1.1))).2.1 (Kd.R_F (Kd.R_mono (ok' := (fun k_ => (w.heap.size ≤ k_))) (HO115.out) (fun k_ hk => hk.1.1.1.1.1.1))))) (Reps.c2 (show Kd.FK k103 _ _ (⟨(⟨#[108, 111, 103, 120]⟩ : ByteArray), y101⟩ : S103) [.string (⟨#[108, 111, 103, 120]⟩ : ByteArray), .slice Ao18 y101.length co18] from (k103_mkF _ _ (⟨(⟨#[108, 111, 103, 120]⟩ : ByteArray), y101⟩ : S103) (Kd.R_reads' (Kd.R_mono (ok' := (fun k_ => (w.heap.size ≤ k_))) (HO103.out) (fun k_ hk => hk.1.1.1.1.1.1))).2.1 (Kd.R_F (Kd.R_mono (ok' := (fun k_ => (w.heap.size ≤ k_))) (HO103.out) (fun k_ hk => hk.1.1.1.1.1.1))))) (Reps.c2 (show Kd.FK k103 _ _ (⟨(⟨#[99, 111, 109, 109, 105, 116]⟩ : ByteArray), y113⟩ : S103) [.string (⟨#[99, 111, 109, 109, 105, 116]⟩ : ByteArray), .slice Ao17 y113.length co17] from (k103_mkF _ _ (⟨(⟨#[99, 111, 109, 109, 105, 116]⟩ : ByteArray), y113⟩ : S103) (Kd.R_reads' (Kd.R_mono (ok' := (fun k_ => (w.heap.size ≤ k_))) (HO115.out) (fun k_ hk => hk.1.1.1.1.1.1))).2.1 (Kd.R_F (Kd.R_mono (ok' := (fun k_ => (w.heap.size ≤ k_))) (HO115.out) (fun k_ hk => hk.1.1.1.1.1.1))))) (Reps.c2 (show Kd.FK k103 _ _ (⟨(⟨#[110, 111, 112]⟩ : ByteArray), ([] : List Int)⟩ : S103) [.string (⟨#[110, 111, 112]⟩ : ByteArray), .slice none 0 0] from (k103_mkF _ _ (⟨(⟨#[110, 111, 112]⟩ : ByteArray), ([] : List Int)⟩ : S103) (Nat.le_refl _) (Kd.F_nil _ _ _))) (Reps.none _ _))))))))))))))))))))))))))))))))); intro v120 w19 ho20 hb hg_ hnew_; clear hg_ hnew_; (first | rw [← Ny119.out] at ho20 | (simp only [Int.reduceToNat] at ho20; rw [← Ny119.out] at ho20)); have n0_ := Aside0.mk (Kd.N_lower ho20 (below_size (by repeat (first | (with_reducible first | exact HB.out | apply below_alloc | apply pw_below_drewN | apply below_drew1) | exact HB.out)))); have n1_ := Aside0.mk (below_step (by repeat (first | (with_reducible first | exact HB.out | apply below_alloc | apply pw_below_drewN | apply below_drew1) | exact HB.out)) hb); clear HB; clear HO103; clear HO106; clear HO109; clear HO112; clear HO115; clear HO118; have HO121 := n0_; have HB := n1_; clear n0_ n1_; clear hb ho20))
  go_ret
  exact ⟨_, by first | rfl | (simp [errW_none, errW_some] <;> rfl) | (simp [*, errW_none, errW_some] <;> rfl), by (with_reducible repeat (first | apply Kd.N_alloc | apply Kd.N_drewN | apply Kd.N_drew)); exact HO121.out, by repeat (first | (with_reducible first | exact HB.out | apply below_alloc | apply pw_below_drewN | apply below_drew1) | exact HB.out)⟩
/-! ### isa_describe: function 51 -/
def isa_describe.f (a0 : Int) : Option (ByteArray × List Int × Bool) := (isa_operations.f).bind fun t123 => (if a0 < 1 then (some ((⟨#[]⟩ : ByteArray), ([] : List Int), false)) else (if a0 ≥ (t123.length : Int) then (some ((⟨#[]⟩ : ByteArray), ([] : List Int), false)) else (if 0 ≤ a0 then (if a0 < (t123.length : Int) then (some ((rd_T103 t123 a0).f0, (rd_T103 t123 a0).f1, true)) else (none)) else (none))))
set_option maxHeartbeats 8000000 in
set_option maxRecDepth 100000 in
theorem isa_describe.calls (a0 : Int) (r1 : ByteArray) (r2 : List Int) (r3 : Bool) (w : World) (h : isa_describe.f a0 = some (r1, r2, r3)) :
    Calls Tryd.prog 51 #[.int .i64 a0] w fun e w' => ∃ v1_ : Value, e = .returned (.tuple #[.agg #[.string r1, v1_], .bool r3]) ∧ Kd.V (Kd.int .i64) 106 w' w.heap.size (fun k_ => (w.heap.size ≤ k_)) v1_ r2 ∧ Below w.heap.size w w' := by
  have hu103 := Tryd.underlying103
  have HB := Aside0.mk (Below.refl w.heap.size w)
  have H : ((isa_operations.f).bind fun t123 => (if a0 < 1 then (some ((⟨#[]⟩ : ByteArray), ([] : List Int), false)) else (if a0 ≥ (t123.length : Int) then (some ((⟨#[]⟩ : ByteArray), ([] : List Int), false)) else (if 0 ≤ a0 then (if a0 < (t123.length : Int) then (some ((rd_T103 t123 a0).f0, (rd_T103 t123 a0).f1, true)) else (none)) else (none))))) = some (r1, r2, r3) := h
  clear h
  replace H := Option.bind_eq_some_iff.mp H
  obtain ⟨t123, A20, H⟩ := H
  replace H : (if a0 < 1 then (some ((⟨#[]⟩ : ByteArray), ([] : List Int), false)) else (if a0 ≥ (t123.length : Int) then (some ((⟨#[]⟩ : ByteArray), ([] : List Int), false)) else (if 0 ≤ a0 then (if a0 < (t123.length : Int) then (some ((rd_T103 t123 a0).f0, (rd_T103 t123 a0).f1, true)) else (none)) else (none)))) = some (r1, r2, r3) := H
  have A2 := Aside0.mk A20
  clear A20
  by_cases c3 : a0 < 1
  · rw [if_pos c3] at H
    have c3b0 : decide (a0 < 1) = true := decide_eq_true c3
    clear c3
    simp only [Option.some.injEq, Prod.mk.injEq] at H
    obtain ⟨rfl, rfl, rfl⟩ := H
    go_enter Tryd.func51, Tryd.ntmps51
    go_wp2_with (first | ((with_reducible refine gate_dst (N := 2) rfl ?_); (try (refine gate_guard (by rfl) ?_; dsimp only)); refine box_event ?hg (N := 2) ?hd (cs := #[.string (⟨#[]⟩ : ByteArray), .slice none 0 0]) (t := 103) ?hr ?_; (case hd => rfl); (case hg => rfl); (case hr => first | (go_simp; done) | (go_simp; rfl)); intro gb122 hg w4 hbox hb; have n0_ := Aside0.mk (below_step (by repeat (first | (with_reducible first | exact HB.out | apply below_alloc | apply pw_below_drewN | apply below_drew1) | exact HB.out)) hb); have n1_ := Aside0.mk (hbox); have n2_ := Aside0.mk ((by rw [hg]; exact (below_size (by repeat (first | (with_reducible first | exact HB.out | apply below_alloc | apply pw_below_drewN | apply below_drew1) | exact HB.out))) : w.heap.size ≤ gb122)); have n3_ := Aside0.mk ((by rw [hg]; exact (below_size (by repeat (first | (with_reducible first | exact HB.out | apply below_alloc | apply pw_below_drewN | apply below_drew1) | exact HB.out))) : w.heap.size ≤ gb122)); clear HB; have HB := n0_; have BK122 := n1_; have GW122 := n2_; have GE122 := n3_; clear n0_ n1_ n2_ n3_; clear hb hbox hg) | ((with_reducible refine gate_callee (f := 70) rfl ?_); refine goesL_ (some 5) rfl rfl Tryd.func70 (by kernel_rfl) rfl #[] rfl (by (try simp only [List.map_toArray, List.map_cons, List.map_nil]); first | done | rfl | (simp only [List.length_drop, List.length_take]; rfl)) ?_; (with_reducible refine (isa_operations.calls  t123 _ A2.out).mono ?_); rintro e w5 ⟨v124, rfl, ho0, hb⟩; refine ⟨_, rfl, ?_⟩; have n0_ := Aside0.mk (Kd.N_lower (Kd.N_mono (ok' := fun k_ => (w.heap.size ≤ k_) ∧ k_ ≠ gb122) ho0 (fun k_ hk_ => ⟨(Nat.le_trans (below_size (by repeat (first | (with_reducible first | exact HB.out | apply below_alloc | apply pw_below_drewN | apply below_drew1 | refine below_set ?_ GE122.out) | exact HB.out))) hk_), (Kd.freshB (g := gb122) (o := .cells #[.string (⟨#[]⟩ : ByteArray), .slice none 0 0] 103 (0, 0)) (by (with_reducible repeat (first | refine blk_drewN ?_ _ | refine blk_drew ?_ | refine blk_alloc ?_ _)); exact BK122.out) k_ hk_)⟩)) (below_size (by repeat (first | (with_reducible first | exact HB.out | apply below_alloc | apply pw_below_drewN | apply below_drew1 | refine below_set ?_ GE122.out) | exact HB.out)))); have n1_ := Aside0.mk (blk_below (g := gb122) (o := .cells #[.string (⟨#[]⟩ : ByteArray), .slice none 0 0] 103 (0, 0)) (by (with_reducible repeat (first | refine blk_drewN ?_ _ | refine blk_drew ?_ | refine blk_alloc ?_ _)); exact BK122.out) hb); have n2_ := Aside0.mk (below_step (by repeat (first | (with_reducible first | exact HB.out | apply below_alloc | apply pw_below_drewN | apply below_drew1 | refine below_set ?_ GE122.out) | exact HB.out)) hb); clear BK122; clear HB; have HO125 := n0_; have BK122 := n1_; have HB := n2_; clear n0_ n1_ n2_; (try clear hb); (try clear hb2); (try clear hk); (try clear hi); (try clear ho0); have hcz6_0 : w5.cell? ⟨gb122, 0, none⟩ = some (.string (⟨#[]⟩ : ByteArray)) := (blk_cell BK122.out 0).trans rfl; have hcz6_1 : w5.cell? ⟨gb122, 1, none⟩ = some (.slice none 0 0) := (blk_cell BK122.out 1).trans rfl; have hfz6_0 := blk_frozen BK122.out 0; have hfz6_1 := blk_frozen BK122.out 1))
    refine bodyPost_ret (results_ct rfl _ _ gb122 103 #[.string (⟨#[]⟩ : ByteArray), .slice none 0 0] (0, 0) _ rfl (by (with_reducible repeat (first | refine blk_drewN ?_ _ | refine blk_drew ?_ | refine blk_alloc ?_ _)); refine blk_put (cs := #[.string (⟨#[]⟩ : ByteArray), .slice none 0 0]) ?_ 1 _ rfl; (with_reducible repeat (first | refine blk_drewN ?_ _ | refine blk_drew ?_ | refine blk_alloc ?_ _)); refine blk_put (cs := #[.string (⟨#[]⟩ : ByteArray), .slice none 0 0]) ?_ 0 _ rfl; (with_reducible repeat (first | refine blk_drewN ?_ _ | refine blk_drew ?_ | refine blk_alloc ?_ _)); exact BK122.out) Tryd.underlying103 rfl (by kernel_rfl)) rfl ?_
    exact ⟨_, by first | rfl | (simp [errW_none, errW_some] <;> rfl) | (simp [*, errW_none, errW_some] <;> rfl), Kd.V_nil _ _ _ _ _, by repeat (first | (with_reducible first | exact HB.out | apply below_alloc | apply pw_below_drewN | apply below_drew1 | refine below_set ?_ GE122.out) | exact HB.out)⟩
  · rw [if_neg c3] at H
    have c3b0 : decide (a0 < 1) = false := decide_eq_false c3
    clear c3
    by_cases c7 : a0 ≥ (t123.length : Int)
    · rw [if_pos c7] at H
      have c7b0 : decide ((t123.length : Int) ≤ a0) = true := decide_eq_true c7
      clear c7
      simp only [Option.some.injEq, Prod.mk.injEq] at H
      obtain ⟨rfl, rfl, rfl⟩ := H
      go_enter Tryd.func51, Tryd.ntmps51
      go_wp2_with (first | ((with_reducible refine gate_dst (N := 2) rfl ?_); (try (refine gate_guard (by rfl) ?_; dsimp only)); refine box_event ?hg (N := 2) ?hd (cs := #[.string (⟨#[]⟩ : ByteArray), .slice none 0 0]) (t := 103) ?hr ?_; (case hd => rfl); (case hg => rfl); (case hr => first | (go_simp; done) | (go_simp; rfl)); intro gb122 hg w8 hbox hb; have n0_ := Aside0.mk (below_step (by repeat (first | (with_reducible first | exact HB.out | apply below_alloc | apply pw_below_drewN | apply below_drew1) | exact HB.out)) hb); have n1_ := Aside0.mk (hbox); have n2_ := Aside0.mk ((by rw [hg]; exact (below_size (by repeat (first | (with_reducible first | exact HB.out | apply below_alloc | apply pw_below_drewN | apply below_drew1) | exact HB.out))) : w.heap.size ≤ gb122)); have n3_ := Aside0.mk ((by rw [hg]; exact (below_size (by repeat (first | (with_reducible first | exact HB.out | apply below_alloc | apply pw_below_drewN | apply below_drew1) | exact HB.out))) : w.heap.size ≤ gb122)); clear HB; have HB := n0_; have BK122 := n1_; have GW122 := n2_; have GE122 := n3_; clear n0_ n1_ n2_ n3_; clear hb hbox hg) | ((with_reducible refine gate_callee (f := 70) rfl ?_); refine goesL_ (some 5) rfl rfl Tryd.func70 (by kernel_rfl) rfl #[] rfl (by (try simp only [List.map_toArray, List.map_cons, List.map_nil]); first | done | rfl | (simp only [List.length_drop, List.length_take]; rfl)) ?_; (with_reducible refine (isa_operations.calls  t123 _ A2.out).mono ?_); rintro e w9 ⟨v124, rfl, ho0, hb⟩; refine ⟨_, rfl, ?_⟩; have n0_ := Aside0.mk (Kd.N_lower (Kd.N_mono (ok' := fun k_ => (w.heap.size ≤ k_) ∧ k_ ≠ gb122) ho0 (fun k_ hk_ => ⟨(Nat.le_trans (below_size (by repeat (first | (with_reducible first | exact HB.out | apply below_alloc | apply pw_below_drewN | apply below_drew1 | refine below_set ?_ GE122.out) | exact HB.out))) hk_), (Kd.freshB (g := gb122) (o := .cells #[.string (⟨#[]⟩ : ByteArray), .slice none 0 0] 103 (0, 0)) (by (with_reducible repeat (first | refine blk_drewN ?_ _ | refine blk_drew ?_ | refine blk_alloc ?_ _)); exact BK122.out) k_ hk_)⟩)) (below_size (by repeat (first | (with_reducible first | exact HB.out | apply below_alloc | apply pw_below_drewN | apply below_drew1 | refine below_set ?_ GE122.out) | exact HB.out)))); have n1_ := Aside0.mk (blk_below (g := gb122) (o := .cells #[.string (⟨#[]⟩ : ByteArray), .slice none 0 0] 103 (0, 0)) (by (with_reducible repeat (first | refine blk_drewN ?_ _ | refine blk_drew ?_ | refine blk_alloc ?_ _)); exact BK122.out) hb); have n2_ := Aside0.mk (below_step (by repeat (first | (with_reducible first | exact HB.out | apply below_alloc | apply pw_below_drewN | apply below_drew1 | refine below_set ?_ GE122.out) | exact HB.out)) hb); clear BK122; clear HB; have HO125 := n0_; have BK122 := n1_; have HB := n2_; clear n0_ n1_ n2_; (try clear hb); (try clear hb2); (try clear hk); (try clear hi); (try clear ho0); obtain ⟨Ao10, co10, eo10⟩ := Kd.N_slice HO125.out; subst eo10; have hcz11_0 : w9.cell? ⟨gb122, 0, none⟩ = some (.string (⟨#[]⟩ : ByteArray)) := (blk_cell BK122.out 0).trans rfl; have hcz11_1 : w9.cell? ⟨gb122, 1, none⟩ = some (.slice none 0 0) := (blk_cell BK122.out 1).trans rfl; have hfz11_0 := blk_frozen BK122.out 0; have hfz11_1 := blk_frozen BK122.out 1))
      refine bodyPost_ret (results_ct rfl _ _ gb122 103 #[.string (⟨#[]⟩ : ByteArray), .slice none 0 0] (0, 0) _ rfl (by (with_reducible repeat (first | refine blk_drewN ?_ _ | refine blk_drew ?_ | refine blk_alloc ?_ _)); refine blk_put (cs := #[.string (⟨#[]⟩ : ByteArray), .slice none 0 0]) ?_ 1 _ rfl; (with_reducible repeat (first | refine blk_drewN ?_ _ | refine blk_drew ?_ | refine blk_alloc ?_ _)); refine blk_put (cs := #[.string (⟨#[]⟩ : ByteArray), .slice none 0 0]) ?_ 0 _ rfl; (with_reducible repeat (first | refine blk_drewN ?_ _ | refine blk_drew ?_ | refine blk_alloc ?_ _)); exact BK122.out) Tryd.underlying103 rfl (by kernel_rfl)) rfl ?_
      exact ⟨_, by first | rfl | (simp [errW_none, errW_some] <;> rfl) | (simp [*, errW_none, errW_some] <;> rfl), Kd.V_nil _ _ _ _ _, by repeat (first | (with_reducible first | exact HB.out | apply below_alloc | apply pw_below_drewN | apply below_drew1 | refine below_set ?_ GE122.out) | exact HB.out)⟩
    · rw [if_neg c7] at H
      have c7b0 : decide ((t123.length : Int) ≤ a0) = false := decide_eq_false c7
      clear c7
      by_cases c12 : 0 ≤ a0
      · rw [if_pos c12] at H
        have c12b0 : decide (0 ≤ a0) = true := decide_eq_true c12
        clear c12
        by_cases c13 : a0 < (t123.length : Int)
        · rw [if_pos c13] at H
          have c13b0 : decide (a0 < (t123.length : Int)) = true := decide_eq_true c13
          clear c13
          simp only [Option.some.injEq, Prod.mk.injEq] at H
          obtain ⟨rfl, rfl, rfl⟩ := H
          go_enter Tryd.func51, Tryd.ntmps51
          go_wp2_with (first | ((with_reducible refine gate_dst (N := 2) rfl ?_); (try (refine gate_guard (by rfl) ?_; dsimp only)); refine box_event ?hg (N := 2) ?hd (cs := #[.string (⟨#[]⟩ : ByteArray), .slice none 0 0]) (t := 103) ?hr ?_; (case hd => rfl); (case hg => rfl); (case hr => first | (go_simp; done) | (go_simp; rfl)); intro gb122 hg w14 hbox hb; have n0_ := Aside0.mk (below_step (by repeat (first | (with_reducible first | exact HB.out | apply below_alloc | apply pw_below_drewN | apply below_drew1) | exact HB.out)) hb); have n1_ := Aside0.mk (hbox); have n2_ := Aside0.mk ((by rw [hg]; exact (below_size (by repeat (first | (with_reducible first | exact HB.out | apply below_alloc | apply pw_below_drewN | apply below_drew1) | exact HB.out))) : w.heap.size ≤ gb122)); have n3_ := Aside0.mk ((by rw [hg]; exact (below_size (by repeat (first | (with_reducible first | exact HB.out | apply below_alloc | apply pw_below_drewN | apply below_drew1) | exact HB.out))) : w.heap.size ≤ gb122)); clear HB; have HB := n0_; have BK122 := n1_; have GW122 := n2_; have GE122 := n3_; clear n0_ n1_ n2_ n3_; clear hb hbox hg) | ((with_reducible refine gate_callee (f := 70) rfl ?_); refine goesL_ (some 5) rfl rfl Tryd.func70 (by kernel_rfl) rfl #[] rfl (by (try simp only [List.map_toArray, List.map_cons, List.map_nil]); first | done | rfl | (simp only [List.length_drop, List.length_take]; rfl)) ?_; (with_reducible refine (isa_operations.calls  t123 _ A2.out).mono ?_); rintro e w15 ⟨v124, rfl, ho0, hb⟩; refine ⟨_, rfl, ?_⟩; have n0_ := Aside0.mk (Kd.N_lower (Kd.N_mono (ok' := fun k_ => (w.heap.size ≤ k_) ∧ k_ ≠ gb122) ho0 (fun k_ hk_ => ⟨(Nat.le_trans (below_size (by repeat (first | (with_reducible first | exact HB.out | apply below_alloc | apply pw_below_drewN | apply below_drew1 | refine below_set ?_ GE122.out) | exact HB.out))) hk_), (Kd.freshB (g := gb122) (o := .cells #[.string (⟨#[]⟩ : ByteArray), .slice none 0 0] 103 (0, 0)) (by (with_reducible repeat (first | refine blk_drewN ?_ _ | refine blk_drew ?_ | refine blk_alloc ?_ _)); exact BK122.out) k_ hk_)⟩)) (below_size (by repeat (first | (with_reducible first | exact HB.out | apply below_alloc | apply pw_below_drewN | apply below_drew1 | refine below_set ?_ GE122.out) | exact HB.out)))); have n1_ := Aside0.mk (blk_below (g := gb122) (o := .cells #[.string (⟨#[]⟩ : ByteArray), .slice none 0 0] 103 (0, 0)) (by (with_reducible repeat (first | refine blk_drewN ?_ _ | refine blk_drew ?_ | refine blk_alloc ?_ _)); exact BK122.out) hb); have n2_ := Aside0.mk (below_step (by repeat (first | (with_reducible first | exact HB.out | apply below_alloc | apply pw_below_drewN | apply below_drew1 | refine below_set ?_ GE122.out) | exact HB.out)) hb); clear BK122; clear HB; have HO125 := n0_; have BK122 := n1_; have HB := n2_; clear n0_ n1_ n2_; (try clear hb); (try clear hb2); (try clear hk); (try clear hi); (try clear ho0); obtain ⟨Ao16, co16, eo16⟩ := Kd.N_slice HO125.out; subst eo16; have p126 : 0 ≤ (a0 : Int) := of_decide_eq_true (by first | (with_reducible assumption) | assumption); have q126 : a0 < (t123.length : Int) := of_decide_eq_true (by first | (with_reducible assumption) | assumption); obtain ⟨ad126, A126_1, c126_1, e126, hx126_0, hx126_1, hl126_1, hi126_1⟩ := at_T103 (Kd.N_reads' HO125.out).2.2 a0 p126 q126; cases e126; obtain ⟨ce126, hce126, hMe126, hcc126⟩ := Kd.N_get HO125.out z103 a0 p126 (by first | exact q126 | exact of_decide_eq_true (by first | (with_reducible assumption) | assumption) | (have e_ := (Kd.N_reads' HO125.out).1; omega)); obtain ⟨ua126_1, uc126_1, rfl, ul126_1, ge126_1⟩ := k103_openF hMe126; have hv126_1 := hcc126 1 _ rfl; rw [add_field _ _ 1 (by omega)] at hv126_1; replace hv126_1 := Option.some.inj (hv126_1.symm.trans hx126_1); injection hv126_1 with hva_ hvn_ hvc_; rw [hva_] at ge126_1; rw [hvc_] at ul126_1; have HL126_1 := Aside0.mk (show Kd.V (Kd.int .i64) 106 _ w.heap.size _ _ ((rd_T103 t123 a0).f1) from Kd.V_mk ul126_1 ge126_1); clear hva_ hvn_ hvc_ ge126_1 ul126_1; clear hcc126 hce126; have HR126_1 := Aside0.mk hi126_1; have HC126_1 := Aside0.mk hl126_1; clear hi126_1 hl126_1; replace p126 := eq_true p126; replace q126 := eq_true q126; have hcz17_0 : w15.cell? ⟨gb122, 0, none⟩ = some (.string (⟨#[]⟩ : ByteArray)) := (blk_cell BK122.out 0).trans rfl; have hcz17_1 : w15.cell? ⟨gb122, 1, none⟩ = some (.slice none 0 0) := (blk_cell BK122.out 1).trans rfl; have hfz17_0 := blk_frozen BK122.out 0; have hfz17_1 := blk_frozen BK122.out 1))
          refine bodyPost_ret (results_ct rfl _ _ gb122 103 #[.string ((rd_T103 t123 a0).f0), .slice A126_1 ((rd_T103 t123 a0).f1).length c126_1] (0, 0) _ rfl (by (with_reducible repeat (first | refine blk_drewN ?_ _ | refine blk_drew ?_ | refine blk_alloc ?_ _)); refine blk_put (cs := #[.string ((rd_T103 t123 a0).f0), .slice none 0 0]) ?_ 1 _ rfl; (with_reducible repeat (first | refine blk_drewN ?_ _ | refine blk_drew ?_ | refine blk_alloc ?_ _)); refine blk_put (cs := #[.string (⟨#[]⟩ : ByteArray), .slice none 0 0]) ?_ 0 _ rfl; (with_reducible repeat (first | refine blk_drewN ?_ _ | refine blk_drew ?_ | refine blk_alloc ?_ _)); exact BK122.out) Tryd.underlying103 rfl (by kernel_rfl)) rfl ?_
          exact ⟨_, by first | rfl | (simp [errW_none, errW_some] <;> rfl) | (simp [*, errW_none, errW_some] <;> rfl), by (with_reducible repeat (first | apply Kd.V_alloc | apply Kd.V_drewN | apply Kd.V_drew)); exact Kd.V_mono (Kd.V_far (p := ⟨gb122, 1, none⟩) (Kd.V_far (p := ⟨gb122, 0, none⟩) (Kd.V_mono HL126_1.out (fun k_ hk => (⟨hk, hk.1.2⟩ : _ ∧ k_ ≠ gb122))) (fun _ hk => hk.2) (.string ((rd_T103 t123 a0).f0))) (fun _ hk => hk.2) (.slice A126_1 ((rd_T103 t123 a0).f1).length c126_1)) (fun _ hk => hk.1.1.1), by repeat (first | (with_reducible first | exact HB.out | apply below_alloc | apply pw_below_drewN | apply below_drew1 | refine below_set ?_ GE122.out) | exact HB.out)⟩
        · rw [if_neg c13] at H
          exact absurd H (by simp)
      · rw [if_neg c12] at H
        exact absurd H (by simp)
/-! ### isa_get: function 52 -/
def isa_get.f (a0_0 : Int) (a0_1 : Int) (a0_2 : Int) (a0_3 : Int) (a0_4 : Int) (a1 : Int) : Option (Int) := (some (([a0_1, a0_2, a0_3, wrap64 (a0_4)] : List Int) : List Int)).bind fun y128 => (if 0 ≤ a1 then (if a1 < (y128.length : Int) then (some (rd y128 a1)) else (none)) else (none))
set_option maxHeartbeats 8000000 in
set_option maxRecDepth 100000 in
theorem isa_get.calls (a0_0 : Int) (a0_1 : Int) (a0_2 : Int) (a0_3 : Int) (a0_4 : Int) (a1 : Int) (r : Int) (w : World) (h : isa_get.f a0_0 a0_1 a0_2 a0_3 a0_4 a1 = some r) :
    Calls Tryd.prog 52 #[.agg #[.int .i64 a0_0, .int .i64 a0_1, .int .i64 a0_2, .int .i64 a0_3, .int .i16 a0_4], .int .i64 a1] w fun e w' => e = .returned (.int .i64 r) ∧ Below w.heap.size w w' := by
  have hu72 := Tryd.underlying72
  have HB := Aside0.mk (Below.refl w.heap.size w)
  have H : ((some (([a0_1, a0_2, a0_3, wrap64 (a0_4)] : List Int) : List Int)).bind fun y128 => (if 0 ≤ a1 then (if a1 < (y128.length : Int) then (some (rd y128 a1)) else (none)) else (none))) = some r := h
  clear h
  obtain ⟨y128, hy128⟩ : ∃ y_ : List Int, y_ = (([a0_1, a0_2, a0_3, wrap64 (a0_4)] : List Int)) := ⟨_, rfl⟩
  replace H : (if 0 ≤ a1 then (if a1 < (y128.length : Int) then (some (rd y128 a1)) else (none)) else (none)) = some r := by first | (rw [hy128]; with_reducible exact H) | (have H2_ := (Option.bind_some _ _).symm.trans H; rw [hy128]; with_reducible exact H2_) | (have H2_ := (Option.bind_some _ _).symm.trans H; with_reducible exact H2_) | with_reducible exact H | (rw [hy128]; exact H) | exact H
  have Ny128 := Aside0.mk hy128
  clear hy128
  by_cases c3 : 0 ≤ a1
  · rw [if_pos c3] at H
    have c3b0 : decide (0 ≤ a1) = true := decide_eq_true c3
    clear c3
    by_cases c4 : a1 < (y128.length : Int)
    · rw [if_pos c4] at H
      have c4b0 : decide (a1 < (y128.length : Int)) = true := decide_eq_true c4
      clear c4
      obtain rfl := Option.some.inj H
      go_enter Tryd.func52, Tryd.ntmps52
      go_wp2_with (first | ((with_reducible refine gate_dst (N := 2) rfl ?_); refine box_event ?hg (N := 2) ?hd (cs := #[.int .i64 a0_0, .int .i64 a0_1, .int .i64 a0_2, .int .i64 a0_3, .int .i16 a0_4]) (t := 72) ?hr ?_; (case hd => rfl); (case hg => rfl); (case hr => first | (go_simp; done) | (go_simp; rfl)); intro gb127 hg w5 hbox hb; have n0_ := Aside0.mk (below_step (by repeat (first | (with_reducible first | exact HB.out | apply below_alloc | apply pw_below_drewN | apply below_drew1) | exact HB.out)) hb); have n1_ := Aside0.mk (hbox); have n2_ := Aside0.mk ((by rw [hg]; exact (below_size (by repeat (first | (with_reducible first | exact HB.out | apply below_alloc | apply pw_below_drewN | apply below_drew1) | exact HB.out))) : w.heap.size ≤ gb127)); have n3_ := Aside0.mk ((by rw [hg]; exact (below_size (by repeat (first | (with_reducible first | exact HB.out | apply below_alloc | apply pw_below_drewN | apply below_drew1) | exact HB.out))) : w.heap.size ≤ gb127)); clear HB; have HB := n0_; have BK127 := n1_; have GW127 := n2_; have GE127 := n3_; clear n0_ n1_ n2_ n3_; clear hb hbox hg; have hcz6_0 : w5.cell? ⟨gb127, 0, none⟩ = some (.int .i64 a0_0) := (blk_cell BK127.out 0).trans rfl; have hcz6_1 : w5.cell? ⟨gb127, 1, none⟩ = some (.int .i64 a0_1) := (blk_cell BK127.out 1).trans rfl; have hcz6_2 : w5.cell? ⟨gb127, 2, none⟩ = some (.int .i64 a0_2) := (blk_cell BK127.out 2).trans rfl; have hcz6_3 : w5.cell? ⟨gb127, 3, none⟩ = some (.int .i64 a0_3) := (blk_cell BK127.out 3).trans rfl; have hcz6_4 : w5.cell? ⟨gb127, 4, none⟩ = some (.int .i16 a0_4) := (blk_cell BK127.out 4).trans rfl; have hfz6_0 := blk_frozen BK127.out 0; have hfz6_1 := blk_frozen BK127.out 1; have hfz6_2 := blk_frozen BK127.out 2; have hfz6_3 := blk_frozen BK127.out 3; have hfz6_4 := blk_frozen BK127.out 4) | ((with_reducible refine gate_dst (N := 14) rfl ?_); refine Kd.R_lit (Kd.int .i64) _ 3 ?hg (N := 14) ?hd (xs := ([a0_1, a0_2, a0_3, wrap64 (a0_4)] : List Int)) (inner := [.int .i64 a0_1, .int .i64 a0_2, .int .i64 a0_3, .int .i64 (wrap64 (a0_4))]) (ok := fun _ => True) (okp := fun _ => True) ?hr ?hp (fun _ hk => hk) trivial (Below.refl _ _) (Nat.le_refl _) (by simp) ?_; (case hd => rfl); (case hg => rfl); (case hr => first | (go_simp; done) | (go_simp; rfl)); (case hp => exact (Reps.one (show Kd.M (Kd.int .i64) _ _ _ a0_1 [.int .i64 a0_1] from rfl) (Reps.one (show Kd.M (Kd.int .i64) _ _ _ a0_2 [.int .i64 a0_2] from rfl) (Reps.one (show Kd.M (Kd.int .i64) _ _ _ a0_3 [.int .i64 a0_3] from rfl) (Reps.one (show Kd.M (Kd.int .i64) _ _ _ (wrap64 (a0_4)) [.int .i64 (wrap64 (a0_4))] from rfl) (Reps.none _ _)))))); intro v129 w7 ho8 hb hg_ hnew_; clear hg_ hnew_; (first | rw [← Ny128.out] at ho8 | (simp only [Int.reduceToNat] at ho8; rw [← Ny128.out] at ho8)); have n0_ := Aside0.mk (Kd.R_lower ho8 (below_size (by repeat (first | (with_reducible first | exact HB.out | apply below_alloc | apply pw_below_drewN | apply below_drew1 | refine below_set ?_ GE127.out) | exact HB.out)))); have n1_ := Aside0.mk (blk_below (g := gb127) (o := .cells #[.int .i64 a0_0, .int .i64 a0_1, .int .i64 a0_2, .int .i64 a0_3, .int .i16 a0_4] 72 (0, 0)) (by (with_reducible repeat (first | refine blk_drewN ?_ _ | refine blk_drew ?_ | refine blk_alloc ?_ _)); exact BK127.out) hb); have n2_ := Aside0.mk (below_step (by repeat (first | (with_reducible first | exact HB.out | apply below_alloc | apply pw_below_drewN | apply below_drew1 | refine below_set ?_ GE127.out) | exact HB.out)) hb); clear BK127; clear HB; have HO130 := n0_; have BK127 := n1_; have HB := n2_; clear n0_ n1_ n2_; clear hb ho8; obtain ⟨Ao9, co9, eo9⟩ := Kd.R_slice HO130.out; subst eo9; have p131 : 0 ≤ (a1 : Int) := of_decide_eq_true (by first | (with_reducible assumption) | assumption); have q131 : a1 < (y128.length : Int) := of_decide_eq_true (by first | (with_reducible assumption) | assumption); obtain ⟨ad131, e131, hx131_0⟩ := Kd.at_int (Kd.R_reads' HO130.out).2.2 a1 p131 q131; cases e131; replace p131 := eq_true p131; replace q131 := eq_true q131))
      go_ret
      exact ⟨by first | rfl | (simp [errW_none, errW_some] <;> rfl) | (simp [*, errW_none, errW_some] <;> rfl), by repeat (first | (with_reducible first | exact HB.out | apply below_alloc | apply pw_below_drewN | apply below_drew1 | refine below_set ?_ GE127.out) | exact HB.out)⟩
    · rw [if_neg c4] at H
      exact absurd H (by simp)
  · rw [if_neg c3] at H
    exact absurd H (by simp)
/-! ### isa_immediate: function 53 -/
/-- The number of valid values of Imm; 0: any. -/
def immN (op : Int) : Int :=
  if op = 14 then 16383 else if op = 15 then 16383 else if op = 27 then 16383 else if op = 18 then 32 else if op = 19 then 64 else if op = 20 then 64 else if op = 21 then 480 else if op = 22 then 480 else if op = 23 then 8 else if op = 24 then 8 else if op = 26 then 8 else if op = 29 then 120 else 0
def immB (op n : Int) : Bool :=
  if immN op = 0 then true else if 0 ≤ n ∧ n < immN op then (if immN op = 16383 then decide (n % 2 = 0) else true) else false
def isa_immediate.f (a0 a1 : Int) : Option Bool := if -32768 ≤ a1 ∧ a1 ≤ 32767 then some (immB a0 a1) else none
theorem imm_below {W : World} {g : Nat} {n lim : Int} (hc : W.cell? ⟨g, 0, none⟩ = some (.int .i64 n)) :
    Calls Tryd.prog 71 #[.int .i64 lim, .pointer (some ⟨g, 0, none⟩)] W fun e w' => e = .returned (.bool (decide (0 ≤ n) && decide (n < lim))) ∧ W = w' := by
  by_cases h0 : 0 ≤ n
  · have d0 : decide (0 ≤ n) = true := decide_eq_true h0
    by_cases h1 : n < lim
    · have d1 : decide (n < lim) = true := decide_eq_true h1
      go_enter Tryd.func71, Tryd.ntmps71
      go_wp2
      go_ret
      exact ⟨by simp [d0, d1], rfl⟩
    · have d1 : decide (n < lim) = false := decide_eq_false h1
      go_enter Tryd.func71, Tryd.ntmps71
      go_wp2
      go_ret
      exact ⟨by simp [d0, d1], rfl⟩
  · have d0 : decide (0 ≤ n) = false := decide_eq_false h0
    go_enter Tryd.func71, Tryd.ntmps71
    go_wp2
    go_ret
    exact ⟨by simp [d0], rfl⟩
set_option maxRecDepth 100000 in
set_option maxHeartbeats 2000000 in
theorem imm_14 (n : Int) (w : World) (hn0 : -32768 ≤ n) (hn1 : n ≤ 32767) : Calls Tryd.prog 53 #[.int .i64 14, .int .i16 n] w fun e w' => e = .returned (.bool (immB 14 n)) ∧ Below w.heap.size w w' := by
  have hb := Aside0.mk (below_alloc (Below.refl w.heap.size w) (.cells #[.int .i64 n] 3))
  have hw : wrap64 n = n := by unfold wrap64; omega
  obtain ⟨g, hg⟩ : ∃ g, w.heap.size = g := ⟨_, rfl⟩
  have hc : (w.alloc (.cells #[.int .i64 n] 3)).cell? ⟨g, 0, none⟩ = some (.int .i64 n) := by rw [← hg]; exact (blk_cell (heap_alloc_new w _) 0).trans rfl
  have HK := Aside0.mk (imm_below (lim := 16383) hc)
  have HG := Aside0.mk hg
  clear hg
  by_cases h : 0 ≤ n ∧ n < 16383
  · have hd : (decide (0 ≤ n) && decide (n < 16383)) = true := by simp [h.1, h.2]
    have K := HK.out
    rw [hd] at K
    obtain ⟨h0, h1⟩ := h
    clear hd HK
    by_cases h2 : n % 2 = 0
    · have t2 : n.tmod 2 = 0 := by rw [Int.tmod_eq_emod_of_nonneg h0]; exact h2
      go_enter Tryd.func53, Tryd.ntmps53
      go_wp2_with fail
      rw [HG.out]
      refine K.mono ?_
      rintro e w1 ⟨rfl, rfl⟩
      clear K
      go_wp2_with fail
      go_ret
      exact ⟨by simp [immB, immN] <;> omega, hb.out⟩
    · have t2 : ¬ n.tmod 2 = 0 := by rw [Int.tmod_eq_emod_of_nonneg h0]; exact h2
      have t3 : (n % 2 == 0) = false := beq_eq_false_iff_ne.2 h2
      have t4 : (n.tmod 2 == 0) = false := beq_eq_false_iff_ne.2 t2
      go_enter Tryd.func53, Tryd.ntmps53
      go_wp2_with fail
      rw [HG.out]
      refine K.mono ?_
      rintro e w1 ⟨rfl, rfl⟩
      clear K
      go_wp2_with fail
      go_ret
      exact ⟨by simp [immB, immN] <;> omega, hb.out⟩
  · have hd : (decide (0 ≤ n) && decide (n < 16383)) = false := by simp; omega
    have K := HK.out
    rw [hd] at K
    clear hd HK
    go_enter Tryd.func53, Tryd.ntmps53
    go_wp2_with fail
    rw [HG.out]
    refine K.mono ?_
    rintro e w1 ⟨rfl, rfl⟩
    clear K
    go_wp2_with fail
    go_ret
    exact ⟨by simp [immB, immN] <;> omega, hb.out⟩
set_option maxRecDepth 100000 in
set_option maxHeartbeats 2000000 in
theorem imm_15 (n : Int) (w : World) (hn0 : -32768 ≤ n) (hn1 : n ≤ 32767) : Calls Tryd.prog 53 #[.int .i64 15, .int .i16 n] w fun e w' => e = .returned (.bool (immB 15 n)) ∧ Below w.heap.size w w' := by
  have hb := Aside0.mk (below_alloc (Below.refl w.heap.size w) (.cells #[.int .i64 n] 3))
  have hw : wrap64 n = n := by unfold wrap64; omega
  obtain ⟨g, hg⟩ : ∃ g, w.heap.size = g := ⟨_, rfl⟩
  have hc : (w.alloc (.cells #[.int .i64 n] 3)).cell? ⟨g, 0, none⟩ = some (.int .i64 n) := by rw [← hg]; exact (blk_cell (heap_alloc_new w _) 0).trans rfl
  have HK := Aside0.mk (imm_below (lim := 16383) hc)
  have HG := Aside0.mk hg
  clear hg
  by_cases h : 0 ≤ n ∧ n < 16383
  · have hd : (decide (0 ≤ n) && decide (n < 16383)) = true := by simp [h.1, h.2]
    have K := HK.out
    rw [hd] at K
    obtain ⟨h0, h1⟩ := h
    clear hd HK
    by_cases h2 : n % 2 = 0
    · have t2 : n.tmod 2 = 0 := by rw [Int.tmod_eq_emod_of_nonneg h0]; exact h2
      go_enter Tryd.func53, Tryd.ntmps53
      go_wp2_with fail
      rw [HG.out]
      refine K.mono ?_
      rintro e w1 ⟨rfl, rfl⟩
      clear K
      go_wp2_with fail
      go_ret
      exact ⟨by simp [immB, immN] <;> omega, hb.out⟩
    · have t2 : ¬ n.tmod 2 = 0 := by rw [Int.tmod_eq_emod_of_nonneg h0]; exact h2
      have t3 : (n % 2 == 0) = false := beq_eq_false_iff_ne.2 h2
      have t4 : (n.tmod 2 == 0) = false := beq_eq_false_iff_ne.2 t2
      go_enter Tryd.func53, Tryd.ntmps53
      go_wp2_with fail
      rw [HG.out]
      refine K.mono ?_
      rintro e w1 ⟨rfl, rfl⟩
      clear K
      go_wp2_with fail
      go_ret
      exact ⟨by simp [immB, immN] <;> omega, hb.out⟩
  · have hd : (decide (0 ≤ n) && decide (n < 16383)) = false := by simp; omega
    have K := HK.out
    rw [hd] at K
    clear hd HK
    go_enter Tryd.func53, Tryd.ntmps53
    go_wp2_with fail
    rw [HG.out]
    refine K.mono ?_
    rintro e w1 ⟨rfl, rfl⟩
    clear K
    go_wp2_with fail
    go_ret
    exact ⟨by simp [immB, immN] <;> omega, hb.out⟩
set_option maxRecDepth 100000 in
set_option maxHeartbeats 2000000 in
theorem imm_27 (n : Int) (w : World) (hn0 : -32768 ≤ n) (hn1 : n ≤ 32767) : Calls Tryd.prog 53 #[.int .i64 27, .int .i16 n] w fun e w' => e = .returned (.bool (immB 27 n)) ∧ Below w.heap.size w w' := by
  have hb := Aside0.mk (below_alloc (Below.refl w.heap.size w) (.cells #[.int .i64 n] 3))
  have hw : wrap64 n = n := by unfold wrap64; omega
  obtain ⟨g, hg⟩ : ∃ g, w.heap.size = g := ⟨_, rfl⟩
  have hc : (w.alloc (.cells #[.int .i64 n] 3)).cell? ⟨g, 0, none⟩ = some (.int .i64 n) := by rw [← hg]; exact (blk_cell (heap_alloc_new w _) 0).trans rfl
  have HK := Aside0.mk (imm_below (lim := 16383) hc)
  have HG := Aside0.mk hg
  clear hg
  by_cases h : 0 ≤ n ∧ n < 16383
  · have hd : (decide (0 ≤ n) && decide (n < 16383)) = true := by simp [h.1, h.2]
    have K := HK.out
    rw [hd] at K
    obtain ⟨h0, h1⟩ := h
    clear hd HK
    by_cases h2 : n % 2 = 0
    · have t2 : n.tmod 2 = 0 := by rw [Int.tmod_eq_emod_of_nonneg h0]; exact h2
      go_enter Tryd.func53, Tryd.ntmps53
      go_wp2_with fail
      rw [HG.out]
      refine K.mono ?_
      rintro e w1 ⟨rfl, rfl⟩
      clear K
      go_wp2_with fail
      go_ret
      exact ⟨by simp [immB, immN] <;> omega, hb.out⟩
    · have t2 : ¬ n.tmod 2 = 0 := by rw [Int.tmod_eq_emod_of_nonneg h0]; exact h2
      have t3 : (n % 2 == 0) = false := beq_eq_false_iff_ne.2 h2
      have t4 : (n.tmod 2 == 0) = false := beq_eq_false_iff_ne.2 t2
      go_enter Tryd.func53, Tryd.ntmps53
      go_wp2_with fail
      rw [HG.out]
      refine K.mono ?_
      rintro e w1 ⟨rfl, rfl⟩
      clear K
      go_wp2_with fail
      go_ret
      exact ⟨by simp [immB, immN] <;> omega, hb.out⟩
  · have hd : (decide (0 ≤ n) && decide (n < 16383)) = false := by simp; omega
    have K := HK.out
    rw [hd] at K
    clear hd HK
    go_enter Tryd.func53, Tryd.ntmps53
    go_wp2_with fail
    rw [HG.out]
    refine K.mono ?_
    rintro e w1 ⟨rfl, rfl⟩
    clear K
    go_wp2_with fail
    go_ret
    exact ⟨by simp [immB, immN] <;> omega, hb.out⟩
set_option maxRecDepth 100000 in
set_option maxHeartbeats 2000000 in
theorem imm_18 (n : Int) (w : World) (hn0 : -32768 ≤ n) (hn1 : n ≤ 32767) : Calls Tryd.prog 53 #[.int .i64 18, .int .i16 n] w fun e w' => e = .returned (.bool (immB 18 n)) ∧ Below w.heap.size w w' := by
  have hb := Aside0.mk (below_alloc (Below.refl w.heap.size w) (.cells #[.int .i64 n] 3))
  have hw : wrap64 n = n := by unfold wrap64; omega
  obtain ⟨g, hg⟩ : ∃ g, w.heap.size = g := ⟨_, rfl⟩
  have hc : (w.alloc (.cells #[.int .i64 n] 3)).cell? ⟨g, 0, none⟩ = some (.int .i64 n) := by rw [← hg]; exact (blk_cell (heap_alloc_new w _) 0).trans rfl
  have HK := Aside0.mk (imm_below (lim := 32) hc)
  have HG := Aside0.mk hg
  clear hg
  by_cases h : 0 ≤ n ∧ n < 32
  · have hd : (decide (0 ≤ n) && decide (n < 32)) = true := by simp [h.1, h.2]
    have K := HK.out
    rw [hd] at K
    obtain ⟨h0, h1⟩ := h
    clear hd HK
    go_enter Tryd.func53, Tryd.ntmps53
    go_wp2_with fail
    rw [HG.out]
    refine K.mono ?_
    rintro e w1 ⟨rfl, rfl⟩
    clear K
    go_wp2_with fail
    go_ret
    exact ⟨by simp [immB, immN] <;> omega, hb.out⟩
  · have hd : (decide (0 ≤ n) && decide (n < 32)) = false := by simp; omega
    have K := HK.out
    rw [hd] at K
    clear hd HK
    go_enter Tryd.func53, Tryd.ntmps53
    go_wp2_with fail
    rw [HG.out]
    refine K.mono ?_
    rintro e w1 ⟨rfl, rfl⟩
    clear K
    go_wp2_with fail
    go_ret
    exact ⟨by simp [immB, immN] <;> omega, hb.out⟩
set_option maxRecDepth 100000 in
set_option maxHeartbeats 2000000 in
theorem imm_19 (n : Int) (w : World) (hn0 : -32768 ≤ n) (hn1 : n ≤ 32767) : Calls Tryd.prog 53 #[.int .i64 19, .int .i16 n] w fun e w' => e = .returned (.bool (immB 19 n)) ∧ Below w.heap.size w w' := by
  have hb := Aside0.mk (below_alloc (Below.refl w.heap.size w) (.cells #[.int .i64 n] 3))
  have hw : wrap64 n = n := by unfold wrap64; omega
  obtain ⟨g, hg⟩ : ∃ g, w.heap.size = g := ⟨_, rfl⟩
  have hc : (w.alloc (.cells #[.int .i64 n] 3)).cell? ⟨g, 0, none⟩ = some (.int .i64 n) := by rw [← hg]; exact (blk_cell (heap_alloc_new w _) 0).trans rfl
  have HK := Aside0.mk (imm_below (lim := 64) hc)
  have HG := Aside0.mk hg
  clear hg
  by_cases h : 0 ≤ n ∧ n < 64
  · have hd : (decide (0 ≤ n) && decide (n < 64)) = true := by simp [h.1, h.2]
    have K := HK.out
    rw [hd] at K
    obtain ⟨h0, h1⟩ := h
    clear hd HK
    go_enter Tryd.func53, Tryd.ntmps53
    go_wp2_with fail
    rw [HG.out]
    refine K.mono ?_
    rintro e w1 ⟨rfl, rfl⟩
    clear K
    go_wp2_with fail
    go_ret
    exact ⟨by simp [immB, immN] <;> omega, hb.out⟩
  · have hd : (decide (0 ≤ n) && decide (n < 64)) = false := by simp; omega
    have K := HK.out
    rw [hd] at K
    clear hd HK
    go_enter Tryd.func53, Tryd.ntmps53
    go_wp2_with fail
    rw [HG.out]
    refine K.mono ?_
    rintro e w1 ⟨rfl, rfl⟩
    clear K
    go_wp2_with fail
    go_ret
    exact ⟨by simp [immB, immN] <;> omega, hb.out⟩
set_option maxRecDepth 100000 in
set_option maxHeartbeats 2000000 in
theorem imm_20 (n : Int) (w : World) (hn0 : -32768 ≤ n) (hn1 : n ≤ 32767) : Calls Tryd.prog 53 #[.int .i64 20, .int .i16 n] w fun e w' => e = .returned (.bool (immB 20 n)) ∧ Below w.heap.size w w' := by
  have hb := Aside0.mk (below_alloc (Below.refl w.heap.size w) (.cells #[.int .i64 n] 3))
  have hw : wrap64 n = n := by unfold wrap64; omega
  obtain ⟨g, hg⟩ : ∃ g, w.heap.size = g := ⟨_, rfl⟩
  have hc : (w.alloc (.cells #[.int .i64 n] 3)).cell? ⟨g, 0, none⟩ = some (.int .i64 n) := by rw [← hg]; exact (blk_cell (heap_alloc_new w _) 0).trans rfl
  have HK := Aside0.mk (imm_below (lim := 64) hc)
  have HG := Aside0.mk hg
  clear hg
  by_cases h : 0 ≤ n ∧ n < 64
  · have hd : (decide (0 ≤ n) && decide (n < 64)) = true := by simp [h.1, h.2]
    have K := HK.out
    rw [hd] at K
    obtain ⟨h0, h1⟩ := h
    clear hd HK
    go_enter Tryd.func53, Tryd.ntmps53
    go_wp2_with fail
    rw [HG.out]
    refine K.mono ?_
    rintro e w1 ⟨rfl, rfl⟩
    clear K
    go_wp2_with fail
    go_ret
    exact ⟨by simp [immB, immN] <;> omega, hb.out⟩
  · have hd : (decide (0 ≤ n) && decide (n < 64)) = false := by simp; omega
    have K := HK.out
    rw [hd] at K
    clear hd HK
    go_enter Tryd.func53, Tryd.ntmps53
    go_wp2_with fail
    rw [HG.out]
    refine K.mono ?_
    rintro e w1 ⟨rfl, rfl⟩
    clear K
    go_wp2_with fail
    go_ret
    exact ⟨by simp [immB, immN] <;> omega, hb.out⟩
set_option maxRecDepth 100000 in
set_option maxHeartbeats 2000000 in
theorem imm_21 (n : Int) (w : World) (hn0 : -32768 ≤ n) (hn1 : n ≤ 32767) : Calls Tryd.prog 53 #[.int .i64 21, .int .i16 n] w fun e w' => e = .returned (.bool (immB 21 n)) ∧ Below w.heap.size w w' := by
  have hb := Aside0.mk (below_alloc (Below.refl w.heap.size w) (.cells #[.int .i64 n] 3))
  have hw : wrap64 n = n := by unfold wrap64; omega
  obtain ⟨g, hg⟩ : ∃ g, w.heap.size = g := ⟨_, rfl⟩
  have hc : (w.alloc (.cells #[.int .i64 n] 3)).cell? ⟨g, 0, none⟩ = some (.int .i64 n) := by rw [← hg]; exact (blk_cell (heap_alloc_new w _) 0).trans rfl
  have HK := Aside0.mk (imm_below (lim := 480) hc)
  have HG := Aside0.mk hg
  clear hg
  by_cases h : 0 ≤ n ∧ n < 480
  · have hd : (decide (0 ≤ n) && decide (n < 480)) = true := by simp [h.1, h.2]
    have K := HK.out
    rw [hd] at K
    obtain ⟨h0, h1⟩ := h
    clear hd HK
    go_enter Tryd.func53, Tryd.ntmps53
    go_wp2_with fail
    rw [HG.out]
    refine K.mono ?_
    rintro e w1 ⟨rfl, rfl⟩
    clear K
    go_wp2_with fail
    go_ret
    exact ⟨by simp [immB, immN] <;> omega, hb.out⟩
  · have hd : (decide (0 ≤ n) && decide (n < 480)) = false := by simp; omega
    have K := HK.out
    rw [hd] at K
    clear hd HK
    go_enter Tryd.func53, Tryd.ntmps53
    go_wp2_with fail
    rw [HG.out]
    refine K.mono ?_
    rintro e w1 ⟨rfl, rfl⟩
    clear K
    go_wp2_with fail
    go_ret
    exact ⟨by simp [immB, immN] <;> omega, hb.out⟩
set_option maxRecDepth 100000 in
set_option maxHeartbeats 2000000 in
theorem imm_22 (n : Int) (w : World) (hn0 : -32768 ≤ n) (hn1 : n ≤ 32767) : Calls Tryd.prog 53 #[.int .i64 22, .int .i16 n] w fun e w' => e = .returned (.bool (immB 22 n)) ∧ Below w.heap.size w w' := by
  have hb := Aside0.mk (below_alloc (Below.refl w.heap.size w) (.cells #[.int .i64 n] 3))
  have hw : wrap64 n = n := by unfold wrap64; omega
  obtain ⟨g, hg⟩ : ∃ g, w.heap.size = g := ⟨_, rfl⟩
  have hc : (w.alloc (.cells #[.int .i64 n] 3)).cell? ⟨g, 0, none⟩ = some (.int .i64 n) := by rw [← hg]; exact (blk_cell (heap_alloc_new w _) 0).trans rfl
  have HK := Aside0.mk (imm_below (lim := 480) hc)
  have HG := Aside0.mk hg
  clear hg
  by_cases h : 0 ≤ n ∧ n < 480
  · have hd : (decide (0 ≤ n) && decide (n < 480)) = true := by simp [h.1, h.2]
    have K := HK.out
    rw [hd] at K
    obtain ⟨h0, h1⟩ := h
    clear hd HK
    go_enter Tryd.func53, Tryd.ntmps53
    go_wp2_with fail
    rw [HG.out]
    refine K.mono ?_
    rintro e w1 ⟨rfl, rfl⟩
    clear K
    go_wp2_with fail
    go_ret
    exact ⟨by simp [immB, immN] <;> omega, hb.out⟩
  · have hd : (decide (0 ≤ n) && decide (n < 480)) = false := by simp; omega
    have K := HK.out
    rw [hd] at K
    clear hd HK
    go_enter Tryd.func53, Tryd.ntmps53
    go_wp2_with fail
    rw [HG.out]
    refine K.mono ?_
    rintro e w1 ⟨rfl, rfl⟩
    clear K
    go_wp2_with fail
    go_ret
    exact ⟨by simp [immB, immN] <;> omega, hb.out⟩
set_option maxRecDepth 100000 in
set_option maxHeartbeats 2000000 in
theorem imm_23 (n : Int) (w : World) (hn0 : -32768 ≤ n) (hn1 : n ≤ 32767) : Calls Tryd.prog 53 #[.int .i64 23, .int .i16 n] w fun e w' => e = .returned (.bool (immB 23 n)) ∧ Below w.heap.size w w' := by
  have hb := Aside0.mk (below_alloc (Below.refl w.heap.size w) (.cells #[.int .i64 n] 3))
  have hw : wrap64 n = n := by unfold wrap64; omega
  obtain ⟨g, hg⟩ : ∃ g, w.heap.size = g := ⟨_, rfl⟩
  have hc : (w.alloc (.cells #[.int .i64 n] 3)).cell? ⟨g, 0, none⟩ = some (.int .i64 n) := by rw [← hg]; exact (blk_cell (heap_alloc_new w _) 0).trans rfl
  have HK := Aside0.mk (imm_below (lim := 8) hc)
  have HG := Aside0.mk hg
  clear hg
  by_cases h : 0 ≤ n ∧ n < 8
  · have hd : (decide (0 ≤ n) && decide (n < 8)) = true := by simp [h.1, h.2]
    have K := HK.out
    rw [hd] at K
    obtain ⟨h0, h1⟩ := h
    clear hd HK
    go_enter Tryd.func53, Tryd.ntmps53
    go_wp2_with fail
    rw [HG.out]
    refine K.mono ?_
    rintro e w1 ⟨rfl, rfl⟩
    clear K
    go_wp2_with fail
    go_ret
    exact ⟨by simp [immB, immN] <;> omega, hb.out⟩
  · have hd : (decide (0 ≤ n) && decide (n < 8)) = false := by simp; omega
    have K := HK.out
    rw [hd] at K
    clear hd HK
    go_enter Tryd.func53, Tryd.ntmps53
    go_wp2_with fail
    rw [HG.out]
    refine K.mono ?_
    rintro e w1 ⟨rfl, rfl⟩
    clear K
    go_wp2_with fail
    go_ret
    exact ⟨by simp [immB, immN] <;> omega, hb.out⟩
set_option maxRecDepth 100000 in
set_option maxHeartbeats 2000000 in
theorem imm_24 (n : Int) (w : World) (hn0 : -32768 ≤ n) (hn1 : n ≤ 32767) : Calls Tryd.prog 53 #[.int .i64 24, .int .i16 n] w fun e w' => e = .returned (.bool (immB 24 n)) ∧ Below w.heap.size w w' := by
  have hb := Aside0.mk (below_alloc (Below.refl w.heap.size w) (.cells #[.int .i64 n] 3))
  have hw : wrap64 n = n := by unfold wrap64; omega
  obtain ⟨g, hg⟩ : ∃ g, w.heap.size = g := ⟨_, rfl⟩
  have hc : (w.alloc (.cells #[.int .i64 n] 3)).cell? ⟨g, 0, none⟩ = some (.int .i64 n) := by rw [← hg]; exact (blk_cell (heap_alloc_new w _) 0).trans rfl
  have HK := Aside0.mk (imm_below (lim := 8) hc)
  have HG := Aside0.mk hg
  clear hg
  by_cases h : 0 ≤ n ∧ n < 8
  · have hd : (decide (0 ≤ n) && decide (n < 8)) = true := by simp [h.1, h.2]
    have K := HK.out
    rw [hd] at K
    obtain ⟨h0, h1⟩ := h
    clear hd HK
    go_enter Tryd.func53, Tryd.ntmps53
    go_wp2_with fail
    rw [HG.out]
    refine K.mono ?_
    rintro e w1 ⟨rfl, rfl⟩
    clear K
    go_wp2_with fail
    go_ret
    exact ⟨by simp [immB, immN] <;> omega, hb.out⟩
  · have hd : (decide (0 ≤ n) && decide (n < 8)) = false := by simp; omega
    have K := HK.out
    rw [hd] at K
    clear hd HK
    go_enter Tryd.func53, Tryd.ntmps53
    go_wp2_with fail
    rw [HG.out]
    refine K.mono ?_
    rintro e w1 ⟨rfl, rfl⟩
    clear K
    go_wp2_with fail
    go_ret
    exact ⟨by simp [immB, immN] <;> omega, hb.out⟩
set_option maxRecDepth 100000 in
set_option maxHeartbeats 2000000 in
theorem imm_26 (n : Int) (w : World) (hn0 : -32768 ≤ n) (hn1 : n ≤ 32767) : Calls Tryd.prog 53 #[.int .i64 26, .int .i16 n] w fun e w' => e = .returned (.bool (immB 26 n)) ∧ Below w.heap.size w w' := by
  have hb := Aside0.mk (below_alloc (Below.refl w.heap.size w) (.cells #[.int .i64 n] 3))
  have hw : wrap64 n = n := by unfold wrap64; omega
  obtain ⟨g, hg⟩ : ∃ g, w.heap.size = g := ⟨_, rfl⟩
  have hc : (w.alloc (.cells #[.int .i64 n] 3)).cell? ⟨g, 0, none⟩ = some (.int .i64 n) := by rw [← hg]; exact (blk_cell (heap_alloc_new w _) 0).trans rfl
  have HK := Aside0.mk (imm_below (lim := 8) hc)
  have HG := Aside0.mk hg
  clear hg
  by_cases h : 0 ≤ n ∧ n < 8
  · have hd : (decide (0 ≤ n) && decide (n < 8)) = true := by simp [h.1, h.2]
    have K := HK.out
    rw [hd] at K
    obtain ⟨h0, h1⟩ := h
    clear hd HK
    go_enter Tryd.func53, Tryd.ntmps53
    go_wp2_with fail
    rw [HG.out]
    refine K.mono ?_
    rintro e w1 ⟨rfl, rfl⟩
    clear K
    go_wp2_with fail
    go_ret
    exact ⟨by simp [immB, immN] <;> omega, hb.out⟩
  · have hd : (decide (0 ≤ n) && decide (n < 8)) = false := by simp; omega
    have K := HK.out
    rw [hd] at K
    clear hd HK
    go_enter Tryd.func53, Tryd.ntmps53
    go_wp2_with fail
    rw [HG.out]
    refine K.mono ?_
    rintro e w1 ⟨rfl, rfl⟩
    clear K
    go_wp2_with fail
    go_ret
    exact ⟨by simp [immB, immN] <;> omega, hb.out⟩
set_option maxRecDepth 100000 in
set_option maxHeartbeats 2000000 in
theorem imm_29 (n : Int) (w : World) (hn0 : -32768 ≤ n) (hn1 : n ≤ 32767) : Calls Tryd.prog 53 #[.int .i64 29, .int .i16 n] w fun e w' => e = .returned (.bool (immB 29 n)) ∧ Below w.heap.size w w' := by
  have hb := Aside0.mk (below_alloc (Below.refl w.heap.size w) (.cells #[.int .i64 n] 3))
  have hw : wrap64 n = n := by unfold wrap64; omega
  obtain ⟨g, hg⟩ : ∃ g, w.heap.size = g := ⟨_, rfl⟩
  have hc : (w.alloc (.cells #[.int .i64 n] 3)).cell? ⟨g, 0, none⟩ = some (.int .i64 n) := by rw [← hg]; exact (blk_cell (heap_alloc_new w _) 0).trans rfl
  have HK := Aside0.mk (imm_below (lim := 120) hc)
  have HG := Aside0.mk hg
  clear hg
  by_cases h : 0 ≤ n ∧ n < 120
  · have hd : (decide (0 ≤ n) && decide (n < 120)) = true := by simp [h.1, h.2]
    have K := HK.out
    rw [hd] at K
    obtain ⟨h0, h1⟩ := h
    clear hd HK
    go_enter Tryd.func53, Tryd.ntmps53
    go_wp2_with fail
    rw [HG.out]
    refine K.mono ?_
    rintro e w1 ⟨rfl, rfl⟩
    clear K
    go_wp2_with fail
    go_ret
    exact ⟨by simp [immB, immN] <;> omega, hb.out⟩
  · have hd : (decide (0 ≤ n) && decide (n < 120)) = false := by simp; omega
    have K := HK.out
    rw [hd] at K
    clear hd HK
    go_enter Tryd.func53, Tryd.ntmps53
    go_wp2_with fail
    rw [HG.out]
    refine K.mono ?_
    rintro e w1 ⟨rfl, rfl⟩
    clear K
    go_wp2_with fail
    go_ret
    exact ⟨by simp [immB, immN] <;> omega, hb.out⟩
set_option maxRecDepth 100000 in
set_option maxHeartbeats 2000000 in
theorem imm_any (op n : Int) (w : World) (hn0 : -32768 ≤ n) (hn1 : n ≤ 32767) (h14 : ¬ op = 14) (h15 : ¬ op = 15) (h27 : ¬ op = 27) (h18 : ¬ op = 18) (h19 : ¬ op = 19) (h20 : ¬ op = 20) (h21 : ¬ op = 21) (h22 : ¬ op = 22) (h23 : ¬ op = 23) (h24 : ¬ op = 24) (h26 : ¬ op = 26) (h29 : ¬ op = 29) : Calls Tryd.prog 53 #[.int .i64 op, .int .i16 n] w fun e w' => e = .returned (.bool true) ∧ Below w.heap.size w w' := by
  have hb := Aside0.mk (below_alloc (Below.refl w.heap.size w) (.cells #[.int .i64 n] 3))
  have hw : wrap64 n = n := by unfold wrap64; omega
  have b14 : (op == 14) = false := beq_eq_false_iff_ne.2 h14
  have b15 : (op == 15) = false := beq_eq_false_iff_ne.2 h15
  have b27 : (op == 27) = false := beq_eq_false_iff_ne.2 h27
  have b18 : (op == 18) = false := beq_eq_false_iff_ne.2 h18
  have b19 : (op == 19) = false := beq_eq_false_iff_ne.2 h19
  have b20 : (op == 20) = false := beq_eq_false_iff_ne.2 h20
  have b21 : (op == 21) = false := beq_eq_false_iff_ne.2 h21
  have b22 : (op == 22) = false := beq_eq_false_iff_ne.2 h22
  have b23 : (op == 23) = false := beq_eq_false_iff_ne.2 h23
  have b24 : (op == 24) = false := beq_eq_false_iff_ne.2 h24
  have b26 : (op == 26) = false := beq_eq_false_iff_ne.2 h26
  have b29 : (op == 29) = false := beq_eq_false_iff_ne.2 h29
  go_enter Tryd.func53, Tryd.ntmps53
  go_wp2_with fail
  go_ret
  exact ⟨rfl, hb.out⟩
theorem isa_immediate.calls (a0 : Int) (a1 : Int) (r : Bool) (w : World) (h : isa_immediate.f a0 a1 = some r) :
    Calls Tryd.prog 53 #[.int .i64 a0, .int .i16 a1] w fun e w' => e = .returned (.bool r) ∧ Below w.heap.size w w' := by
  unfold isa_immediate.f at h
  split at h
  · rename_i hb
    obtain rfl := Option.some.inj h
    by_cases h14 : a0 = 14
    · subst h14
      exact imm_14 a1 w hb.1 hb.2
    by_cases h15 : a0 = 15
    · subst h15
      exact imm_15 a1 w hb.1 hb.2
    by_cases h27 : a0 = 27
    · subst h27
      exact imm_27 a1 w hb.1 hb.2
    by_cases h18 : a0 = 18
    · subst h18
      exact imm_18 a1 w hb.1 hb.2
    by_cases h19 : a0 = 19
    · subst h19
      exact imm_19 a1 w hb.1 hb.2
    by_cases h20 : a0 = 20
    · subst h20
      exact imm_20 a1 w hb.1 hb.2
    by_cases h21 : a0 = 21
    · subst h21
      exact imm_21 a1 w hb.1 hb.2
    by_cases h22 : a0 = 22
    · subst h22
      exact imm_22 a1 w hb.1 hb.2
    by_cases h23 : a0 = 23
    · subst h23
      exact imm_23 a1 w hb.1 hb.2
    by_cases h24 : a0 = 24
    · subst h24
      exact imm_24 a1 w hb.1 hb.2
    by_cases h26 : a0 = 26
    · subst h26
      exact imm_26 a1 w hb.1 hb.2
    by_cases h29 : a0 = 29
    · subst h29
      exact imm_29 a1 w hb.1 hb.2
    rw [show immB a0 a1 = true by simp [immB, immN, h14, h15, h27, h18, h19, h20, h21, h22, h23, h24, h26, h29]]
    exact imm_any a0 a1 w hb.1 hb.2 h14 h15 h27 h18 h19 h20 h21 h22 h23 h24 h26 h29
  · cases h
end Go.Proofs.YtleafbihfmiidaaDoor.QAl
