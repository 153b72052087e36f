/- What the arguments of a row are known to be, by their types. -/
import Derived.Test.YtadjaakmpjhdhaaDoorQx0
import Derived.Test.YtadjaakmpjhdhaaDoorKaRow
namespace Go.Proofs.YtadjaakmpjhdhaaDoor.Q
open Go.RowKit Go.Proofs.YtadjaakmpjhdhaaDoorW.PrintWords
def wf23 (x : S23) : Prop := (Lit.int .i64 x.f0).wf = true ∧ (Lit.int .i64 x.f1).wf = true ∧ (Lit.int .i64 x.f2).wf = true
def m23 (x : S23) : Nat := ((fun _ => 1) x.f0 + ((fun _ => 1) x.f1 + (fun _ => 1) x.f2)) + 1
theorem opens23 : KaRow.Opens Tryd.prog 23 k23 wf23 m23 :=
  KaRow.opens_struct Tryd.underlying23 (KaRow.opens_cons (KaRow.opens_int (k := .i64) Tryd.underlying3) (by kernel_rfl) (KaRow.opens_cons (KaRow.opens_int (k := .i64) Tryd.underlying3) (by kernel_rfl) (KaRow.opens_last (KaRow.opens_int (k := .i64) Tryd.underlying3) (by kernel_rfl) (by kernel_rfl)))) (fun x : S23 => (x.f0, x.f1, x.f2)) (fun a => (⟨a.1, a.2.1, a.2.2⟩ : S23)) (fun _ => rfl)
end Go.Proofs.YtadjaakmpjhdhaaDoor.Q
