/- Words of the kit's print, those alone that this seat's texts use (cut by a program of this session). -/
import Derived.Test.YtakfnghakbjncaaVN
namespace Go.Proofs.YtakfnghakbjncaaW.PrintWords
open Go.RowKit
namespace Kd
section
variable {α : Type} {d : Kd α} {W : World} {g n : Nat} {S ok : Nat → Prop} {A : Option Addr} {ad : Addr} {xs : List α}
end
end Kd
end Go.Proofs.YtakfnghakbjncaaW.PrintWords
