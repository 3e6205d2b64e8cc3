/-
  CONTRACTS: RankOfSystem, CountAnswers. (Printed by wip/gensys.py.)
-/
import Derived.Test.YtoblfnoaepbhfaaSysF
import Derived.Test.YtoblfnoaepbhfaaReduced
import Derived.Test.YtoblfnoaepbhfaaPredR
import Derived.Test.YtoblfnoaepbhfaaReduceS
import Derived.Test.YtoblfnoaepbhfaaOwnS
import Derived.Test.YtoblfnoaepbhfaaDig
namespace Go.Proofs.Ytoblfnoaepbhfaa
open Go.RowKit Go.Shelf Go.IntWalk
open Rep (Rd Own sz)
set_option linter.unusedSimpArgs false
set_option linter.unusedVariables false


end Go.Proofs.Ytoblfnoaepbhfaa
