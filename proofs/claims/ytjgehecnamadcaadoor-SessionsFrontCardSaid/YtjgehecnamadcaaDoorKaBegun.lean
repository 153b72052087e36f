/- The small example of law 41 answers true. -/
import Derived.Test.YtjgehecnamadcaaDoorQx6
import Derived.Test.YtjgehecnamadcaaDoorKaEvs
namespace Go.Proofs.YtjgehecnamadcaaDoor.Q
open Go.RowKit Go.Proofs.YtjgehecnamadcaaDoorW.PrintWords
set_option linter.unusedVariables false
set_option linter.unusedSimpArgs false
def be1 : SE := actE 1 (⟨#[102, 111, 114, 107]⟩ : ByteArray) 5 3 7 0 0 (⟨#[121, 101, 115]⟩ : ByteArray)
def be2 : SE := actE 2 (⟨#[101, 120, 105, 116]⟩ : ByteArray) 5 3 0 0 0 (⟨#[121, 101, 115]⟩ : ByteArray)
theorem begun_runs : KaOf.runs 12 1 [be1, be2] [] = some [⟨3, 7, 1, 2, 2, 0, [5, 7], [7]⟩] := by kernel_rfl
theorem begun_fits : KaOf.fits [⟨3, 7, 1, 2, 2, 0, [5, 7], [7]⟩] = true := by kernel_rfl
theorem srt_of {l : List Int} (h : l.Pairwise (fun a b => decide (a ≤ b) = true)) : KaOf.srt l = l := List.mergeSort_of_pairwise h
def beS : S31 := ⟨3, 7, 1, 2, 2, 0, 1, [5, 7], [7]⟩
theorem begun_outs : KaOf.outs false [⟨3, 7, 1, 2, 2, 0, [5, 7], [7]⟩] = [beS] := by
  have h1 : KaOf.srt [3] = [3] := srt_of (by decide)
  have h2 : KaOf.srt [7] = [7] := srt_of (by decide)
  have h3 : KaOf.srt [5, 7] = [5, 7] := srt_of (by decide)
  simp [KaOf.outs, KaOf.fin, KaOf.look, KaOf.stOf, h1, h2, h3, beS]
theorem begun_of : sessions_Of.f 12 [be1, be2] 1 false = some [beS] := by
  unfold sessions_Of.f
  rw [begun_runs, Option.bind_some, if_pos begun_fits, begun_outs]
def beL : ByteArray := ⟨#[115, 101, 115, 115, 105, 111, 110, 32, 51, 32, 97, 117, 105, 100, 32, 55, 32, 101, 118, 101, 110, 116, 115, 32, 50, 32, 102, 97, 105, 108, 101, 100, 32, 48, 32, 102, 114, 111, 109, 32, 49, 32, 116, 111, 32, 50, 32, 111, 112, 101, 110]⟩
theorem begun_line : sessions_Format.f 3 7 1 2 2 0 1 [5, 7] [7] = some beL := by kernel_rfl
theorem begun_ev : Ev (fun k => kauditlaw41_begun.f k) true := by
  have hof : Ev (fun k => sessions_Of.f k [be1, be2] 1 false) [beS] := Ev.of (fun k => sessions_Of.mono _ _ _ k) begun_of
  refine Ev.congr (fun k => by rw [kauditlaw41_begun.f]) (Ev.bind (a := true) ?_ (Ev.pos rfl (Ev.now _)))
  refine Ev.congr (fun k => by rw [kauditlaw41_begun.g]) (Ev.call (act_eq _ _ _ _ _ _ _ _) (Ev.call (act_eq _ _ _ _ _ _ _ _) (Ev.bind hof ?_)))
  have hl : (([beS].length : Int)) = 1 := rfl
  have hl0 : (0 : Int) < ([beS].length : Int) := by decide
  have h0 : rd_T31 [beS] 0 = beS := rfl
  rw [h0]
  refine Ev.pos hl (Ev.pos hl0 (Ev.pos rfl (Ev.pos rfl (Ev.pos rfl (Ev.pos (by decide) (Ev.pos rfl (Ev.call begun_line ?_)))))))
  exact Ev.congr (fun k => by rw [show (beL.toList == [115, 101, 115, 115, 105, 111, 110, 32, 51, 32, 97, 117, 105, 100, 32, 55, 32, 101, 118, 101, 110, 116, 115, 32, 50, 32, 102, 97, 105, 108, 101, 100, 32, 48, 32, 102, 114, 111, 109, 32, 49, 32, 116, 111, 32, 50, 32, 111, 112, 101, 110]) = true by decide +kernel]) (Ev.now true)
end Go.Proofs.YtjgehecnamadcaaDoor.Q
