-- Written by a program of this session (wip/gen) out of the translation. Lean checks it.
import Derived.Test.YthdccdbiichabaaDoorCut
import Derived.Test.YthdccdbiichabaaDoorPx0
import Derived.Test.YthdccdbiichabaaDoorPx2
import Derived.Test.YthdccdbiichabaaDoorPx3
import Derived.Test.YthdccdbiichabaaDoorPx4
namespace Go.Proofs.YthdccdbiichabaaDoor.P
open Go.RowKit Go.Proofs.YthdccdbiichabaaDoorW.PrintWords Go.Proofs.YthdccdbiichabaaDoorW.PrintLast Go.Proofs.YthdccdbiichabaaDoorW.PrintMore
attribute [local go_sem] max2_int min2_int max_two min_two max_three min_three max_four min_four   -- for this text's walks alone
set_option linter.unusedVariables false
set_option linter.unusedSimpArgs false

end Go.Proofs.YthdccdbiichabaaDoor.P
