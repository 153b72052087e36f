-- A selection of the printed words. Not trusted: Lean checks it.
import Derived.Test.YtjgehecnamadcaaDoorWInv
import Derived.Test.YtjgehecnamadcaaDoorWFootNe
namespace Go.Proofs.YtjgehecnamadcaaDoorW.PrintWords
open Go.RowKit
end Go.Proofs.YtjgehecnamadcaaDoorW.PrintWords
namespace Go.Proofs.YtjgehecnamadcaaDoorW.PrintLast
section
variable {ops : Array Oper} {a : Act} {o og : Oper} {g : Nat} {t : Tmp} {u : Bool}
end
end Go.Proofs.YtjgehecnamadcaaDoorW.PrintLast
