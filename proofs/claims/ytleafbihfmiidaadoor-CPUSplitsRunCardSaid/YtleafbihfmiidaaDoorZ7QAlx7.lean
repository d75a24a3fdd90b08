/- What this claim needs of QAlx7. Parted by prune.py. -/
import Derived.Test.YtleafbihfmiidaaDoorZ7QAlx0
import Derived.Test.YtleafbihfmiidaaDoorZ7QAlx4
-- Printed by a program of this session (myprint.py) over the kit's print: functions, contracts; not trusted, Lean checks it.
namespace Go.Proofs.YtleafbihfmiidaaDoor.QAl
open Go.RowKit Go.Proofs.YtleafbihfmiidaaDoorW.PrintWords Go.Proofs.YtleafbihfmiidaaDoorW.PrintLast Go.Proofs.YtleafbihfmiidaaDoorW.PrintMore
attribute [local go_sem] max2_int min2_int max_two min_two max_three min_three max_four min_four   -- for this text's walks alone
set_option linter.unusedVariables false
set_option linter.unusedSimpArgs false
/-! ### trickleref12_array: function 63 -/
-- NOT PRINTED: function 35 (trickleref12_trapped)
-- NOT PRINTED: function 64 (trickleref12_World_call)
-- NOT PRINTED: function 36 (trickleref12_World_Spend)
/-! ### trickleref11_Energy: function 37 -/
/-! ### trickleref11_NVMWrites: function 38 -/
/-! ### trickleref11_Ticks: function 39 -/
/-! ### trickleref01_Wrap: function 66 -/
end Go.Proofs.YtleafbihfmiidaaDoor.QAl
