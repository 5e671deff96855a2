/-
  TRIPLES AS THREE CELLS: the order of facet.compare.
-/
import Derived.Test.YtojecaeblgghjaaTriMem
import Derived.Shelf.GgSortFunc.InsertionK
set_option linter.unusedVariables false
set_option linter.unusedSimpArgs false
namespace Go.Proofs.Ytojecaeblgghjaa
open Go.RowKit Go.Sort LsP

def encL (t : T3) : List Value := [.int .i64 t.a, .int .i64 t.b, .int .i64 t.c]
def cmpT (s t : T3) : Int := cmpL s.l t.l

end Go.Proofs.Ytojecaeblgghjaa
