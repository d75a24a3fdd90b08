/- What this claim needs of Sv. Parted by prune.py. -/
import Derived.Test.YtleafbihfmiidaaDoorZ5Ow
namespace Go.Proofs.YtleafbihfmiidaaDoor.QAl
open Go.RowKit Go.Proofs.YtleafbihfmiidaaDoorW.PrintWords Go.Proofs.YtleafbihfmiidaaDoorW.PrintLast Go.Proofs.YtleafbihfmiidaaDoorW.PrintMore Go.Proofs.YtleafbihfmiidaaDoor.Sl
set_option linter.unusedVariables false
set_option linter.unusedSimpArgs false
end Go.Proofs.YtleafbihfmiidaaDoor.QAl
