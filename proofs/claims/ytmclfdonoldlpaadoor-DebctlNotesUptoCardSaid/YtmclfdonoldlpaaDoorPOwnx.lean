-- The kit's print of functions of this seat (print.py), for this claim: Lean checks it.
import Derived.Test.YtmclfdonoldlpaaDoorPOwnx0
import Derived.Test.YtmclfdonoldlpaaDoorPOwnx1
import Derived.Test.YtmclfdonoldlpaaDoorPOwnx2
import Derived.Test.YtmclfdonoldlpaaDoorPOwnx3
import Derived.Test.YtmclfdonoldlpaaDoorPOwnx4
import Derived.Test.YtmclfdonoldlpaaDoorPOwnx5
import Derived.Test.YtmclfdonoldlpaaDoorPOwnx6
import Derived.Test.YtmclfdonoldlpaaDoorPOwnx7
namespace Go.Proofs.YtmclfdonoldlpaaDoor.POwn
open Go.RowKit Go.Proofs.YtmclfdonoldlpaaDoorW.PrintWords Go.Proofs.YtmclfdonoldlpaaDoorW.PrintLast Go.Proofs.YtmclfdonoldlpaaDoorW.PrintMore
attribute [local go_sem] max2_int min2_int max_two min_two max_three min_three max_four min_four   -- for this text's walks alone
set_option linter.unusedVariables false
set_option linter.unusedSimpArgs false

end Go.Proofs.YtmclfdonoldlpaaDoor.POwn
