/-
  CONTRACTS AT INTS: order.Both, order.Less.
-/
import Derived.Test.YtojecaeblgghjaaGreatMerge
import Derived.OneCell
set_option linter.unusedVariables false
set_option linter.unusedSimpArgs false
namespace Go.Proofs.YtojecaeblgghjaaGreat
open Go.RowKit Go.Sort LsP

end Go.Proofs.YtojecaeblgghjaaGreat
