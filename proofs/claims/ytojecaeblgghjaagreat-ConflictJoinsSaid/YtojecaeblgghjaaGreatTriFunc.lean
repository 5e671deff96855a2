/-
  slices.SortFunc AT TRIPLES by facet.compare.
-/
import Derived.Test.YtojecaeblgghjaaGreatTriM
set_option linter.unusedVariables false
set_option linter.unusedSimpArgs false
namespace Go.Proofs.YtojecaeblgghjaaGreat
open Go.RowKit Go.Sort LsP

end Go.Proofs.YtojecaeblgghjaaGreat
