-- PRINTED by print.py (a twelfth state) out of the translation. Not trusted: Lean checks it.
import Derived.Test.YtieelnpfpfiboaaRefx0
import Derived.Test.YtieelnpfpfiboaaRefx1
import Derived.Test.YtieelnpfpfiboaaRefx2
import Derived.Test.YtieelnpfpfiboaaRefx3
namespace Go.Proofs.Ytieelnpfpfiboaa.Ref
open Go.RowKit Go.Proofs.YtieelnpfpfiboaaW.PrintWords Go.Proofs.YtieelnpfpfiboaaW.PrintLast Go.Proofs.YtieelnpfpfiboaaW.PrintMore
attribute [local go_sem] max2_int min2_int max_two min_two max_three min_three max_four min_four   -- for this text's walks alone
set_option linter.unusedVariables false
set_option linter.unusedSimpArgs false

end Go.Proofs.Ytieelnpfpfiboaa.Ref
