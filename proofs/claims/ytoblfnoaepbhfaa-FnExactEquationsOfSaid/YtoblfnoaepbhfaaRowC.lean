/-
  CONTRACTS: small functions on rows: the first number other than 0; none.
-/
import Derived.Test.YtoblfnoaepbhfaaPred
import Derived.Test.YtoblfnoaepbhfaaBase
namespace Go.Proofs.Ytoblfnoaepbhfaa
open Go.RowKit Go.Shelf
open Rep (Rd Own sz)
set_option linter.unusedSimpArgs false
set_option linter.unusedVariables false


end Go.Proofs.Ytoblfnoaepbhfaa
