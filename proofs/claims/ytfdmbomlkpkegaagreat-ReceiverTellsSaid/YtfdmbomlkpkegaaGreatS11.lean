/- Lemmas. -/
import Derived.Test.YtfdmbomlkpkegaaGreatS6
import Derived.Laws.Externs
set_option maxRecDepth 100000
set_option maxHeartbeats 8000000
set_option linter.all false
namespace Go.Proofs.YtfdmbomlkpkegaaGreat
open Go Go.RowKit
end Go.Proofs.YtfdmbomlkpkegaaGreat
