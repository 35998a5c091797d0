-- PRINTED by print.py (a twelfth state) out of the translation. Not trusted: Lean checks it.
import Derived.Test.YtcajccknkjljfaaRefx0
import Derived.Test.YtcajccknkjljfaaRefx1
import Derived.Test.YtcajccknkjljfaaRefx2
namespace Go.Proofs.Ytcajccknkjljfaa.Ref
open Go.RowKit Go.Proofs.YtcajccknkjljfaaW.PrintWords Go.Proofs.YtcajccknkjljfaaW.PrintLast Go.Proofs.YtcajccknkjljfaaW.PrintMore
attribute [local go_sem] max2_int min2_int max_two min_two max_three min_three max_four min_four   -- for this text's walks alone
set_option linter.unusedVariables false
set_option linter.unusedSimpArgs false

end Go.Proofs.Ytcajccknkjljfaa.Ref
