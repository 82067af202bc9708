import Derived.Test.YteciceelinbfoaaDoorCw
set_option linter.unusedVariables false
namespace Go.Proofs.YteciceelinbfoaaDoor
open Go.RowKit Mq
attribute [local go_sem high] max2_ii min2_ii

end Go.Proofs.YteciceelinbfoaaDoor
