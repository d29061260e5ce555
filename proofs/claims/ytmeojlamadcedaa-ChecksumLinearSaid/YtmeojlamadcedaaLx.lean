/- Functions of the program as Lean functions, each with a proof that its Go code comes to them; written by given.py of this session over the kit's print. Conditions: those of each theorem. -/
import Derived.Test.YtmeojlamadcedaaLx0
import Derived.Test.YtmeojlamadcedaaLx1
import Derived.Test.YtmeojlamadcedaaLx2
import Derived.Test.YtmeojlamadcedaaLx3
import Derived.Test.YtmeojlamadcedaaLx4
import Derived.Test.YtmeojlamadcedaaLx5
import Derived.Test.YtmeojlamadcedaaLx6
import Derived.Test.YtmeojlamadcedaaLx7
namespace Go.Proofs.Ytmeojlamadcedaa.L
open Go.Proofs.Ytmeojlamadcedaa.Given
open Go.RowKit Go.Proofs.YtmeojlamadcedaaW.PrintWords Go.Proofs.YtmeojlamadcedaaW.PrintLast Go.Proofs.YtmeojlamadcedaaW.PrintMore
attribute [local go_sem] max2_int min2_int max_two min_two max_three min_three max_four min_four   -- for this text's walks alone
set_option linter.unusedVariables false
set_option linter.unusedSimpArgs false

end Go.Proofs.Ytmeojlamadcedaa.L
