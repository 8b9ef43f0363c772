-- Written by a program of this session (after the kit's print) out of the translation. Nothing here is trusted: Lean checks it.
import Derived.Test.YtnkgclcmjojeiaaDoorPFnExactEncodeSuperx0
import Derived.Test.YtnkgclcmjojeiaaDoorPFnExactEncodeSuperx1
import Derived.Test.YtnkgclcmjojeiaaDoorPFnExactEncodeSuperx2
import Derived.Test.YtnkgclcmjojeiaaDoorPFnExactEncodeSuperx3
import Derived.Test.YtnkgclcmjojeiaaDoorPFnExactEncodeSuperx4
import Derived.Test.YtnkgclcmjojeiaaDoorPFnExactEncodeSuperx5
import Derived.Test.YtnkgclcmjojeiaaDoorPFnExactEncodeSuperx6
import Derived.Test.YtnkgclcmjojeiaaDoorPFnExactEncodeSuperx7
import Derived.Test.YtnkgclcmjojeiaaDoorPFnExactEncodeSuperx8
import Derived.Test.YtnkgclcmjojeiaaDoorPFnExactEncodeSuperx9
import Derived.Test.YtnkgclcmjojeiaaDoorPFnExactEncodeSuperx10
import Derived.Test.YtnkgclcmjojeiaaDoorPFnExactEncodeSuperx11
namespace Go.Proofs.YtnkgclcmjojeiaaDoor.PFnExactEncodeSuper
open Go.RowKit Go.Proofs.YtnkgclcmjojeiaaDoorW.PrintWords Go.Proofs.YtnkgclcmjojeiaaDoorW.PrintLast Go.Proofs.YtnkgclcmjojeiaaDoorW.PrintMore
attribute [local go_sem] max2_int min2_int max_two min_two max_three min_three max_four min_four   -- for this text's walks alone
set_option linter.unusedVariables false
set_option linter.unusedSimpArgs false

end Go.Proofs.YtnkgclcmjojeiaaDoor.PFnExactEncodeSuper
