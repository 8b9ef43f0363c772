-- Written by a program of this session (after the kit's print) out of the translation. Nothing here is trusted: Lean checks it.
import Derived.Test.YtnkgclcmjojeiaaVPFnDeviceReadsx0
import Derived.Test.YtnkgclcmjojeiaaVPFnDeviceReadsx1
import Derived.Test.YtnkgclcmjojeiaaVPFnDeviceReadsx2
import Derived.Test.YtnkgclcmjojeiaaVPFnDeviceReadsx3
import Derived.Test.YtnkgclcmjojeiaaVPFnDeviceReadsx4
import Derived.Test.YtnkgclcmjojeiaaVPFnDeviceReadsx5
import Derived.Test.YtnkgclcmjojeiaaVPFnDeviceReadsx6
import Derived.Test.YtnkgclcmjojeiaaVPFnDeviceReadsx7
import Derived.Test.YtnkgclcmjojeiaaVPFnDeviceReadsx8
import Derived.Test.YtnkgclcmjojeiaaVPFnDeviceReadsx9
import Derived.Test.YtnkgclcmjojeiaaVPFnDeviceReadsx10
import Derived.Test.YtnkgclcmjojeiaaVPFnDeviceReadsx11
import Derived.Test.YtnkgclcmjojeiaaVPFnDeviceReadsx12
import Derived.Test.YtnkgclcmjojeiaaVPFnDeviceReadsx13
import Derived.Test.YtnkgclcmjojeiaaVPFnDeviceReadsx14
import Derived.Test.YtnkgclcmjojeiaaVPFnDeviceReadsx15
import Derived.Test.YtnkgclcmjojeiaaVPFnDeviceReadsx16
import Derived.Test.YtnkgclcmjojeiaaVPFnDeviceReadsx17
namespace Go.Proofs.Ytnkgclcmjojeiaa.PFnDeviceReads
open Go.RowKit Go.Proofs.YtnkgclcmjojeiaaW.PrintWords Go.Proofs.YtnkgclcmjojeiaaW.PrintLast Go.Proofs.YtnkgclcmjojeiaaW.PrintMore
attribute [local go_sem] max2_int min2_int max_two min_two max_three min_three max_four min_four   -- for this text's walks alone
set_option linter.unusedVariables false
set_option linter.unusedSimpArgs false

end Go.Proofs.Ytnkgclcmjojeiaa.PFnDeviceReads
