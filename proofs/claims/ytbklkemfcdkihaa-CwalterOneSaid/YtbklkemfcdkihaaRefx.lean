-- PRINTED by print.py (a twelfth state) out of the translation. Not trusted: Lean checks it.
import Derived.Test.YtbklkemfcdkihaaRefx0
import Derived.Test.YtbklkemfcdkihaaRefx1
import Derived.Test.YtbklkemfcdkihaaRefx2
import Derived.Test.YtbklkemfcdkihaaRefx3
import Derived.Test.YtbklkemfcdkihaaRefx4
import Derived.Test.YtbklkemfcdkihaaRefx5
namespace Go.Proofs.Ytbklkemfcdkihaa.Ref
open Go.RowKit Go.Proofs.YtbklkemfcdkihaaW.PrintWords Go.Proofs.YtbklkemfcdkihaaW.PrintLast Go.Proofs.YtbklkemfcdkihaaW.PrintMore
attribute [local go_sem] max2_int min2_int max_two min_two max_three min_three max_four min_four   -- for this text's walks alone
set_option linter.unusedVariables false
set_option linter.unusedSimpArgs false

end Go.Proofs.Ytbklkemfcdkihaa.Ref
