-- PRINTED by print.py (a twelfth state) out of the translation. Not trusted: Lean checks it.
import Derived.Test.YtglalojbdlepfaaRefx0
import Derived.Test.YtglalojbdlepfaaRefx1
import Derived.Test.YtglalojbdlepfaaRefx2
import Derived.Test.YtglalojbdlepfaaRefx3
import Derived.Test.YtglalojbdlepfaaRefx4
namespace Go.Proofs.Ytglalojbdlepfaa.Ref
open Go.RowKit Go.Proofs.YtglalojbdlepfaaW.PrintWords Go.Proofs.YtglalojbdlepfaaW.PrintLast Go.Proofs.YtglalojbdlepfaaW.PrintMore
attribute [local go_sem] max2_int min2_int max_two min_two max_three min_three max_four min_four   -- for this text's walks alone
set_option linter.unusedVariables false
set_option linter.unusedSimpArgs false

end Go.Proofs.Ytglalojbdlepfaa.Ref
