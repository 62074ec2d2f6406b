/-
  Plain law: no matching has more edges than a set of nodes allows that leaves odd parts (each odd part has a node that is left, or one that is matched into the set). No program in sight.
-/
import Derived.Test.YtjdhhepphbhjgaaVouS1
import Derived.Test.YtjdhhepphbhjgaaPkW
set_option linter.unusedSimpArgs false
set_option linter.unusedVariables false
namespace Go.Mz

section
variable {N : Int} {n : Nat} {e : Nat → Edg} {W : Nat → Bool}

end

end Go.Mz
