/-
  PWhose: walks and laws, written by gen/gen.py out of gen/thy/PWhose.py.
-/
import Derived.Test.YtlkpgeopcdhgjaaPRange
set_option linter.unusedVariables false
namespace Go.Proofs.Ytlkpgeopcdhgjaa
open Go Go.Eng Go.RowKit

end Go.Proofs.Ytlkpgeopcdhgjaa
