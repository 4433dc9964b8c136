/-
  Are two lists of numbers the same? What the references' SameInts and the laws' intsAre answer.
-/
import Derived.Test.YthaoohckgilahaaDoorBase3
import Derived.Test.YthaoohckgilahaaDoorPlain
namespace Go.Proofs.YthaoohckgilahaaDoor
open Go.RowKit

end Go.Proofs.YthaoohckgilahaaDoor
