/-
  firthlaw02.same; the walk of firthlaw02.FramePuts.
-/
import Derived.Test.YtgnedaihchmoaaaFramePut
namespace Go.Proofs.Ytgnedaihchmoaaa
open Go.RowKit
set_option linter.unusedVariables false

end Go.Proofs.Ytgnedaihchmoaaa
