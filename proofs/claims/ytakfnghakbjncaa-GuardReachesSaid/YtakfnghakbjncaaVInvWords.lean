/- Words of the kit's print, those alone that this seat's texts use (cut by a program of this session). -/
import Derived.Test.YtakfnghakbjncaaVInv
import Derived.Test.YtakfnghakbjncaaVFootNe
namespace Go.Proofs.YtakfnghakbjncaaW.PrintWords
open Go.RowKit
end Go.Proofs.YtakfnghakbjncaaW.PrintWords
namespace Go.Proofs.YtakfnghakbjncaaW.PrintLast
section
variable {ops : Array Oper} {a : Act} {o og : Oper} {g : Nat} {t : Tmp} {u : Bool}
end
end Go.Proofs.YtakfnghakbjncaaW.PrintLast
