-- A selection of the printed words. Not trusted: Lean checks it.
import Derived.Test.YtjgehecnamadcaaDoorWWords
import Derived.Laws.StructEq
/-! ### 53. '==' of structs as_ one Bool -/
namespace Go.Proofs.YtjgehecnamadcaaDoorW.PrintWords
open Go.RowKit
section
variable {P : Program} {d : Nat} {xs ys : Array Value} {f : Field} {fs : List Field} {a b : Value} {r s : Bool} {w : World}
end
end Go.Proofs.YtjgehecnamadcaaDoorW.PrintWords
