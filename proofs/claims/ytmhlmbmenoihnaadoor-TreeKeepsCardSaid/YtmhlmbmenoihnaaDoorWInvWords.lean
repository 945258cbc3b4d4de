import Derived.Test.YtmhlmbmenoihnaaDoorWInv
import Derived.Test.YtmhlmbmenoihnaaDoorWFootNe
namespace Go.Proofs.YtmhlmbmenoihnaaDoorW.PrintWords
open Go.RowKit
end Go.Proofs.YtmhlmbmenoihnaaDoorW.PrintWords
namespace Go.Proofs.YtmhlmbmenoihnaaDoorW.PrintLast
section
variable {ops : Array Oper} {a : Act} {o og : Oper} {g : Nat} {t : Tmp} {u : Bool}
end
end Go.Proofs.YtmhlmbmenoihnaaDoorW.PrintLast
