/-
  Plain law: no matching of all nodes costs less than duals allow. No program in sight.
-/
import Derived.Test.YtjdhhepphbhjgaaVouS2
import Derived.Test.YtjdhhepphbhjgaaPkW
import Derived.Test.YtjdhhepphbhjgaaPkX
set_option linter.unusedSimpArgs false
set_option linter.unusedVariables false
namespace Go.Mz

theorem psum_sm {f : Nat → Nat} {n : Nat} : psum (fun i => (f i : Int)) n = (sm f n : Int) := by
  induction n with
  | zero => rfl
  | succ n ih => simp only [psum, sm, ih]; omega

section
variable {N : Int} {n : Nat} {e : Nat → Edg} {m : Nat → Int} {k : Nat}

end
end Go.Mz
