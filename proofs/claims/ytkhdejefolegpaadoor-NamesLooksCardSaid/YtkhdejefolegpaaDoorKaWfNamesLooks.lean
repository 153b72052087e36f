/- What the arguments of a row are known to be, by their types. -/
import Derived.Test.YtkhdejefolegpaaDoorQx0
import Derived.Test.YtkhdejefolegpaaDoorKaRow
namespace Go.Proofs.YtkhdejefolegpaaDoor.Q
open Go.RowKit Go.Proofs.YtkhdejefolegpaaDoorW.PrintWords
def wf43 (x : S43) : Prop := (Lit.int .i64 x.f0).wf = true ∧ (Lit.int .i64 x.f1).wf = true ∧ (Lit.int .i64 x.f2).wf = true ∧ x.f3.size ≤ 140737488351232
def m43 (x : S43) : Nat := ((fun _ => 1) x.f0 + ((fun _ => 1) x.f1 + ((fun _ => 1) x.f2 + (fun s => s.size + 1) x.f3))) + 1
theorem opens43 : KaRow.Opens Tryd.prog 43 k43 wf43 m43 :=
  KaRow.opens_struct Tryd.underlying43 (KaRow.opens_cons (KaRow.opens_int (k := .i64) Tryd.underlying3) (by kernel_rfl) (KaRow.opens_cons (KaRow.opens_int (k := .i64) Tryd.underlying3) (by kernel_rfl) (KaRow.opens_cons (KaRow.opens_int (k := .i64) Tryd.underlying3) (by kernel_rfl) (KaRow.opens_last (KaRow.opens_string Tryd.underlying9) (by kernel_rfl) (by kernel_rfl))))) (fun x : S43 => (x.f0, x.f1, x.f2, x.f3)) (fun a => (⟨a.1, a.2.1, a.2.2.1, a.2.2.2⟩ : S43)) (fun _ => rfl)
end Go.Proofs.YtkhdejefolegpaaDoor.Q
