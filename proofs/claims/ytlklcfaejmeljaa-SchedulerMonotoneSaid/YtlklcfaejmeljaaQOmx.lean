-- Printed by a program of this session (myprint.py) over the kit's print: functions, contracts; not trusted, Lean checks it.
import Derived.Test.YtlklcfaejmeljaaQOmx0
import Derived.Test.YtlklcfaejmeljaaQOmx1
import Derived.Test.YtlklcfaejmeljaaQOmx2
import Derived.Test.YtlklcfaejmeljaaQOmx3
import Derived.Test.YtlklcfaejmeljaaQOmx4
import Derived.Test.YtlklcfaejmeljaaQOmx5
import Derived.Test.YtlklcfaejmeljaaQOmx6
namespace Go.Proofs.Ytlklcfaejmeljaa.QOm
open Go.RowKit Go.Proofs.YtlklcfaejmeljaaW.PrintWords Go.Proofs.YtlklcfaejmeljaaW.PrintLast Go.Proofs.YtlklcfaejmeljaaW.PrintMore
attribute [local go_sem] max2_int min2_int max_two min_two max_three min_three max_four min_four   -- for this text's walks alone
set_option linter.unusedVariables false
set_option linter.unusedSimpArgs false

end Go.Proofs.Ytlklcfaejmeljaa.QOm
