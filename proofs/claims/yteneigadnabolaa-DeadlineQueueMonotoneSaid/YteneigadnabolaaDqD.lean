/- A queue in memory: Len and Peek, by hand. -/
import Derived.Test.YteneigadnabolaaDqC
import Derived.Test.YteneigadnabolaaQu
namespace Go.Proofs.Yteneigadnabolaa.QAl
open Go.RowKit Go.Proofs.YteneigadnabolaaW.PrintWords Go.Proofs.YteneigadnabolaaW.PrintLast Go.Proofs.YteneigadnabolaaW.PrintMore Go.Proofs.Yteneigadnabolaa.Sl
set_option linter.unusedVariables false
set_option linter.unusedSimpArgs false
variable {L : List Chunk}
theorem Len_call {w0 W : World} {g : Nat} {v : Value} {l : List S30} (hM : Mem w0 W (blk g #[v] 62 :: qrow w0 k30 30 v l :: L)) :
    Calls Try.prog 13 #[.pointer (some ⟨g, 0, none⟩)] W fun e w' => e = .returned (.int .i64 (l.length : Int)) ∧ w' = W := by
  obtain ⟨A, c, rfl, _, _⟩ := hM.p1.q_reads
  have x0 := blk_cell hM.get 0
  have HM := Aside0.mk hM
  clear hM
  go_enter Try.func13, Try.ntmps13
  go_wp2_with fail
  go_ret
  exact ⟨rfl, rfl⟩
end Go.Proofs.Yteneigadnabolaa.QAl
