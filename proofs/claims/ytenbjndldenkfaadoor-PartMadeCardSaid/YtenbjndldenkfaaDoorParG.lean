/-
  The answers of layer 19: Find, Same.
-/
import Derived.Test.YtenbjndldenkfaaDoorParF
namespace Go.Proofs.YtenbjndldenkfaaDoor
open Go.RowKit Go.Sort

end Go.Proofs.YtenbjndldenkfaaDoor
