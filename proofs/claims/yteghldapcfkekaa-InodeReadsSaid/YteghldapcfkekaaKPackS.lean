import Derived.Test.YteghldapcfkekaaKPackV
namespace Go.Proofs.YteghldapcfkekaaK
open Go.RowKit
set_option linter.unusedSimpArgs false
set_option linter.unusedVariables false
theorem speaks_bytes : numsB 2 [1, 515] = [1, 0, 3, 2] := by decide +kernel
end Go.Proofs.YteghldapcfkekaaK
