/- Written by a program (the kit's printer) for this claim: functions of the translation as plain Lean functions, and that the calls come to them. -/
import Derived.Test.YtelehacakbaobaaDoorPRx0
import Derived.Test.YtelehacakbaobaaDoorPRx1
import Derived.Test.YtelehacakbaobaaDoorPRx2
import Derived.Test.YtelehacakbaobaaDoorPRx3
import Derived.Test.YtelehacakbaobaaDoorPRx4
import Derived.Test.YtelehacakbaobaaDoorPRx5
namespace Go.Proofs.YtelehacakbaobaaDoor.PR
open Go.RowKit Go.Proofs.YtelehacakbaobaaDoorW.PrintWords Go.Proofs.YtelehacakbaobaaDoorW.PrintLast Go.Proofs.YtelehacakbaobaaDoorW.PrintMore
attribute [local go_sem] max2_int min2_int max_two min_two max_three min_three max_four min_four   -- for this text's walks alone
set_option linter.unusedVariables false
set_option linter.unusedSimpArgs false

end Go.Proofs.YtelehacakbaobaaDoor.PR
