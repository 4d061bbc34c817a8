/-
  The answers of layer 19: values, pieces.
-/
import Derived.Test.YtenbjndldenkfaaDoorParR
namespace Go.Proofs.YtenbjndldenkfaaDoor
open Go.RowKit Go.Sort

end Go.Proofs.YtenbjndldenkfaaDoor
