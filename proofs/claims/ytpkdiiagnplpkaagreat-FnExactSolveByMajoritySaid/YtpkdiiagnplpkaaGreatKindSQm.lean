import Derived.Test.YtpkdiiagnplpkaaGreatKindPQm
import Derived.Test.YtpkdiiagnplpkaaGreatRowBQm
import Derived.Test.YtpkdiiagnplpkaaGreatRowsBQm
set_option linter.unusedSimpArgs false
set_option linter.unusedVariables false
namespace Go.Proofs.YtpkdiiagnplpkaaGreat
open Go.RowKit Go.Shelf Go.IntWalk
open Rep (Rd Own sz)
end Go.Proofs.YtpkdiiagnplpkaaGreat
