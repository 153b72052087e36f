-- A selection of the printed words. Not trusted: Lean checks it.
import Derived.Test.YtjgehecnamadcaaDoorWTab
/-! ### 57. A region of open order by ONE relation over what is listed so far: each operation is shown once, whatever came up before it -/
namespace Go.Proofs.YtjgehecnamadcaaDoorW.PrintLast
section
variable {P : Program} {ops : Array Oper} {Q : Exit → Act → World → Prop} {md : Region.Mode} {T : Bool × List (List Nat × List Nat)} {B : List Nat} {O : List Nat} {b : Nat → Bool} {i j n : Nat}
end
end Go.Proofs.YtjgehecnamadcaaDoorW.PrintLast
