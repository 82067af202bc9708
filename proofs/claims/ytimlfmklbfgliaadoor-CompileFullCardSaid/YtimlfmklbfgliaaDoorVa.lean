import Derived.Test.YtimlfmklbfgliaaDoorCz
set_option linter.unusedVariables false
namespace Go.Proofs.YtimlfmklbfgliaaDoor
open Go.RowKit Mq

end Go.Proofs.YtimlfmklbfgliaaDoor
