-- Written by a program of this session (after the kit's print) out of the translation. Nothing here is trusted: Lean checks it.
import Derived.Test.YtnkgclcmjojeiaaDoorPFnExactEncodeTablex0
import Derived.Test.YtnkgclcmjojeiaaDoorPFnExactEncodeTablex1
import Derived.Test.YtnkgclcmjojeiaaDoorPFnExactEncodeTablex2
import Derived.Test.YtnkgclcmjojeiaaDoorPFnExactEncodeTablex3
import Derived.Test.YtnkgclcmjojeiaaDoorPFnExactEncodeTablex4
import Derived.Test.YtnkgclcmjojeiaaDoorPFnExactEncodeTablex5
import Derived.Test.YtnkgclcmjojeiaaDoorPFnExactEncodeTablex6
import Derived.Test.YtnkgclcmjojeiaaDoorPFnExactEncodeTablex7
import Derived.Test.YtnkgclcmjojeiaaDoorPFnExactEncodeTablex8
import Derived.Test.YtnkgclcmjojeiaaDoorPFnExactEncodeTablex9
import Derived.Test.YtnkgclcmjojeiaaDoorPFnExactEncodeTablex10
import Derived.Test.YtnkgclcmjojeiaaDoorPFnExactEncodeTablex11
namespace Go.Proofs.YtnkgclcmjojeiaaDoor.PFnExactEncodeTable
open Go.RowKit Go.Proofs.YtnkgclcmjojeiaaDoorW.PrintWords Go.Proofs.YtnkgclcmjojeiaaDoorW.PrintLast Go.Proofs.YtnkgclcmjojeiaaDoorW.PrintMore
attribute [local go_sem] max2_int min2_int max_two min_two max_three min_three max_four min_four   -- for this text's walks alone
set_option linter.unusedVariables false
set_option linter.unusedSimpArgs false

end Go.Proofs.YtnkgclcmjojeiaaDoor.PFnExactEncodeTable
