-- Of the printed words only what this claim's texts use (by a program of this session).
import Derived.Test.YtjheabcffkbfkaaDoorWInv
import Derived.Test.YtjheabcffkbfkaaDoorWFootNe
namespace Go.Proofs.YtjheabcffkbfkaaDoorW.PrintWords
open Go.RowKit
end Go.Proofs.YtjheabcffkbfkaaDoorW.PrintWords
namespace Go.Proofs.YtjheabcffkbfkaaDoorW.PrintLast
section
variable {ops : Array Oper} {a : Act} {o og : Oper} {g : Nat} {t : Tmp} {u : Bool}
end
end Go.Proofs.YtjheabcffkbfkaaDoorW.PrintLast
