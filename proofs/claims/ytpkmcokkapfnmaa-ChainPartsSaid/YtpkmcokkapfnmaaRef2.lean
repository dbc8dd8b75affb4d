/- Layer 4 (token): the document's answer: Add. -/
import Derived.Test.YtpkmcokkapfnmaaRef1
namespace Go.Proofs.Ytpkmcokkapfnmaa
open Go.RowKit Go.Maps Go.WideMaps
set_option maxRecDepth 100000
set_option linter.unusedVariables false
set_option linter.unusedSimpArgs false

end Go.Proofs.Ytpkmcokkapfnmaa
