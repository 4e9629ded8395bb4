/- Words of the kit's print, those alone that this seat's texts use (cut by a program of this session). -/
import Derived.Test.YtakfnghakbjncaaVTab
namespace Go.Proofs.YtakfnghakbjncaaW.PrintLast
section
variable {P : Program} {ops : Array Oper} {Q : Exit → Act → World → Prop} {md : Region.Mode} {S : World → Prop} {ds : List Nat} {T : Bool × List (List Nat × List Nat)}
end
end Go.Proofs.YtakfnghakbjncaaW.PrintLast
