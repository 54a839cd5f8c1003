-- Of the printed words only what this claim's texts use (by a program of this session).
import Derived.Test.YtjheabcffkbfkaaDoorWTab
/-! ### 56. Four, five, six operations that may come up next, in any order -/
namespace Go.Proofs.YtjheabcffkbfkaaDoorW.PrintLast
section
variable {P : Program} {ops : Array Oper} {Q : Exit → Act → World → Prop} {md : Region.Mode} {S : World → Prop} {ds : List Nat} {T : Bool × List (List Nat × List Nat)}
end
end Go.Proofs.YtjheabcffkbfkaaDoorW.PrintLast
