-- Of the printed words only what this claim's texts use (by a program of this session).
import Derived.Test.YtjheabcffkbfkaaDoorWWords
import Derived.Laws.StructEq
/-! ### 53. '==' of structs as_ one Bool -/
namespace Go.Proofs.YtjheabcffkbfkaaDoorW.PrintWords
open Go.RowKit
section
variable {P : Program} {d : Nat} {xs ys : Array Value} {f : Field} {fs : List Field} {a b : Value} {r s : Bool} {w : World}
end
end Go.Proofs.YtjheabcffkbfkaaDoorW.PrintWords
