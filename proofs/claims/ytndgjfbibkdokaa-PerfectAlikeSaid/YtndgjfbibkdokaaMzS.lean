/-
  What the reading of a slice, as an argument, tells. It proves nothing of the program by itself.
-/
import Derived.Test.YtndgjfbibkdokaaMzW
set_option linter.unusedVariables false
namespace Go.Mz
open Go.RowKit
end Go.Mz
