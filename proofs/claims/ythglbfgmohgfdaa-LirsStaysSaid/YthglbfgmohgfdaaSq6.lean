/- slices.Insert at the front of a row. Conditions: the row has a million elements at most. -/
import Derived.Test.YthglbfgmohgfdaaSq5
set_option linter.unusedVariables false
set_option linter.unusedSimpArgs false
namespace Go.Al
open Go.Proofs
end Go.Al
