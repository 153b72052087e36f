/- From the reading of a row's arguments to what the contracts ask of them; and the end of a law's row: what the call leaves of its arguments. -/
import Derived.Test.YtjgehecnamadcaaDoorRows
import Derived.Test.YtjgehecnamadcaaDoorWWords
import Derived.Deep.Slices
import Derived.ChangeSame
import Derived.Below
import Derived.Carry
import Derived.OpenShut
import Derived.SizedLaws
import Derived.Lib.LaidTab
import Derived.Lib.LaidU8
import Derived.WalkKit
import Derived.ProofKit
namespace Go.Proofs.YtjgehecnamadcaaDoor.KaRow
open Go.RowKit Go.ChangeShapes Go.WideShapes Go.Proofs.YtjgehecnamadcaaDoorW.PrintWords
set_option linter.unusedVariables false

/-- A reading of type t, each string and slice in it at most 'reachBytes' wide, is a value of kind d. wf: what is known of the value; m: no more than the reading's bulk. -/
def Opens {α : Type} (P : Program) (t : TypeId) (d : Kd α) (wf : α → Prop) (m : α → Nat) : Prop :=
  ∀ (H : Type) (enc : TypeId × Value → H) (W : World) (base : Nat) (spare : Nat → Bool) (held : Bool) (fuel : Nat) (cs : List Value) (x : DataW H × List MemPlace),
    DataW.trod enc P W base spare held fuel t cs = some x → (∀ n ∈ x.1.weights P t, n ≤ reachBytes) → ∃ a : α, d.K W a cs ∧ wf a ∧ m a ≤ Rows.uptoBulk x.1

theorem opens_int {P : Program} {t : TypeId} {k : IntKind} (h : P.underlying t = some (.int k)) : Opens P t (Kd.int k) (fun a => (Lit.int k a).wf = true) (fun _ => 1) := by
  intro H enc W base spare held fuel cs x hx _
  obtain ⟨n, rfl, rfl, hw⟩ := DataW.trod_int h hx
  exact ⟨n, rfl, hw, by simp [Rows.uptoBulk]⟩
theorem list_of {α : Type} {Q : Nat → α → Prop} : ∀ n : Nat, (∀ i, i < n → ∃ a, Q i a) → ∃ l : List α, l.length = n ∧ ∀ i a, l[i]? = some a → Q i a
  | 0, _ => ⟨[], rfl, fun i a h => by simp at h⟩
  | n + 1, h => by
    obtain ⟨l, hl, hq⟩ := list_of n (fun i hi => h i (by omega))
    obtain ⟨a, ha⟩ := h n (by omega)
    refine ⟨l ++ [a], by simp [hl], fun i b hb => ?_⟩
    by_cases hi : i < l.length
    · rw [List.getElem?_append_left hi] at hb
      exact hq i b hb
    · rw [List.getElem?_append_right (by omega)] at hb
      have h0 : i - l.length = 0 := by
        rcases Nat.eq_zero_or_pos (i - l.length) with h0 | h0
        · exact h0
        · rw [List.getElem?_eq_none (by simp; omega)] at hb; cases hb
      rw [h0] at hb
      obtain rfl : a = b := by simpa using hb
      obtain rfl : i = n := by omega
      exact ha

theorem weightsAll_mem {H : Type} {P : Program} {e : TypeId} : ∀ {l : List (DataW H)} {d : DataW H}, d ∈ l → ∀ n ∈ d.weights P e, n ∈ DataW.weightsAll P e l
  | x :: l, d, hd, n, hn => by
    simp only [DataW.weightsAll, List.mem_append]
    rcases List.mem_cons.1 hd with rfl | hd
    · exact .inl hn
    · exact .inr (weightsAll_mem hd n hn)

theorem bulk_sum {H α : Type} {m : α → Nat} {D : Nat → DataW H} : ∀ (l : List α) (o : Nat), (∀ i a, l[i]? = some a → m a ≤ Rows.uptoBulk (D (o + i))) → (l.map m).sum ≤ Rows.uptoBulkAll ((List.range' o l.length).map D)
  | [], _, _ => by simp [Rows.uptoBulkAll]
  | a :: l, o, h => by
    simp only [List.map_cons, List.sum_cons, List.length_cons, List.range'_succ, Rows.uptoBulkAll]
    have h0 := h 0 a rfl
    have h1 := bulk_sum l (o + 1) (fun i b hb => by have := h (i + 1) b (by simpa using hb); rwa [show o + (i + 1) = o + 1 + i by omega] at this)
    simp only [Nat.add_zero] at h0
    omega

theorem opens_slice {α : Type} {P : Program} {t e : TypeId} {d : Kd α} {wf : α → Prop} {m : α → Nat} {b : Nat} (ht : P.underlying t = some (.slice e)) (he : Opens P e d wf m) (hsz : P.cellsOf e = d.sz) (hby : P.bytesOf e = b) :
    Opens P t (Kd.slice e d) (fun l => l.length * b ≤ 140737488351232 ∧ ∀ a ∈ l, wf a) (fun l => (l.map m).sum + 1) := by
  intro H enc W base spare held fuel cs x hx hw
  rcases Go.Deep.open_slice ht hx with ⟨rfl, rfl⟩ | ⟨a, len, cap, m', n, D, Pl, rfl, _, hlc, hcm, hm', rfl, hi⟩
  · exact ⟨[], ⟨none, 0, rfl, Nat.le_refl _, Kd.C_nil d W⟩, ⟨by simp, fun a ha => by cases ha⟩, by simp [Rows.uptoBulk]⟩
  · have hle : len ≤ m' := by rw [hm']; split <;> omega
    have hwt : ∀ i, i < len → ∀ n ∈ (D i).weights P e, n ≤ reachBytes := by
      intro i hi' n hn
      refine hw n ?_
      simp only [DataW.weights, ht, List.mem_cons, List.mem_append]
      exact .inr (.inl (weightsAll_mem (d := D i) (List.mem_map.2 ⟨i, List.mem_range.2 hi', rfl⟩) n hn))
    obtain ⟨l, hl, hq⟩ := list_of (Q := fun i p => (∃ c, c.length = d.sz ∧ d.K W p c ∧ ∀ j u, c[j]? = some u → W.cell? (a.add (i * d.sz + j)) = some u) ∧ wf p ∧ m p ≤ Rows.uptoBulk (D i)) len (fun i hil => by
      obtain ⟨cs', hc, htr⟩ := hi i (by omega)
      obtain ⟨p, hK, hwf, hm⟩ := he H enc W base spare held n cs' (D i, Pl i) htr (hwt i hil)
      refine ⟨p, ⟨cs', d.K_len hK, hK, fun j u hu => ?_⟩, hwf, hm⟩
      obtain ⟨_, hcl, hat⟩ := World.cells?_some hc
      have hj : j < P.cellsOf e := by
        have := (List.getElem?_eq_some_iff.1 hu).1
        omega
      have h1 := hat j hj
      rw [hsz] at h1
      rw [← Go.Deep.add_add, h1]
      exact hu)
    subst hl
    refine ⟨l, ⟨some a, cap, rfl, hlc, rfl, by have : maxLen = 9223372036854775807 := rfl; omega, fun _ => ⟨a, rfl, fun j p hj => (hq j p hj).1⟩⟩, ⟨?_, ?_⟩, ?_⟩
    · have := hw _ (by simp only [DataW.weights, ht]; exact List.mem_cons_self)
      rw [List.length_map, List.length_range, hby] at this
      have h2 : reachBytes = 140737488351232 := rfl
      have h3 : l.length * b ≤ (l.length + ((List.range (m' - l.length)).map fun j => D (l.length + j)).length) * b := Nat.mul_le_mul_right _ (by omega)
      omega
    · intro p hp
      obtain ⟨j, hj⟩ := List.getElem?_of_mem hp
      exact (hq j p hj).2.1
    · simp only [Rows.uptoBulk]
      have := bulk_sum (m := m) (D := D) l 0 (fun i p hp => by rw [Nat.zero_add]; exact (hq i p hp).2.2)
      rw [← List.range_eq_range'] at this
      omega

/-- An argument by its kind. -/
theorem arg_slice {H α : Type} {enc : TypeId × Value → H} {P : Program} {W : World} {base : Nat} {t e : TypeId} {v : Value} {dd : DataW H} {p : List MemPlace} {d : Kd α} {wf : List α → Prop} {m : List α → Nat} (ht : P.underlying t = some (.slice e))
    (ho : Opens P t (Kd.slice e d) wf m) (hv : Value.okWide P W .any base t v) (h : DataW.Trod enc P W 0 (fun _ => true) true t v dd p) (hw : ∀ n ∈ dd.weights P t, n ≤ reachBytes) :
    ∃ A c l, v = .slice A (l : List α).length c ∧ l.length ≤ c ∧ Kd.C d W A l.length l ∧ wf l ∧ m l ≤ Rows.uptoBulk dd := by
  obtain ⟨a, len, cap, rfl⟩ := okWide_slice ht hv
  obtain ⟨fuel, hf⟩ := h
  obtain ⟨l, ⟨A, c, e0, hlc, hC⟩, hwf, hm⟩ := ho H enc W 0 _ true fuel _ _ hf hw
  have e1 : Value.slice a len cap = .slice A l.length c := by simpa [Value.cells] using e0
  exact ⟨A, c, l, e1, hlc, hC, hwf, hm⟩
theorem all_le {l : List Nat} (h : l.all (· ≤ reachBytes) = true) : ∀ n ∈ l, n ≤ reachBytes := fun n hn => by simpa using List.all_eq_true.1 h n hn
theorem weights_head {H : Type} {P : Program} {t : TypeId} {ts : List TypeId} {d : DataW H} {ds : List (DataW H)} (h : ∀ n ∈ DataW.weightsEach P (t :: ts) (d :: ds), n ≤ reachBytes) : (∀ n ∈ d.weights P t, n ≤ reachBytes) ∧ ∀ n ∈ DataW.weightsEach P ts ds, n ≤ reachBytes :=
  ⟨fun n hn => h n (by simp [DataW.weightsEach, hn]), fun n hn => h n (by simp [DataW.weightsEach, hn])⟩

theorem trodAll_stays {H : Type} {enc : TypeId × Value → H} {P : Program} (hl : laidOutB P = true) {W W' : World} (hb : Below W.heap.size W W') {sp : Nat → Bool} : ∀ {ts : List TypeId} {vs : List Value} {ds : List (DataW H)} {ps : List MemPlace},
    (∀ t ∈ ts, P.readableRec t = true ∧ t < P.types.size) → DataW.TrodAll enc P W 0 (fun _ => true) true ts vs ds ps → (∀ p ∈ ps, p.block < W.heap.size) → (∀ p ∈ ps, sp p.block = true) → DataW.TrodAll enc P W' 0 sp true ts vs ds ps
  | [], vs, ds, ps, _, h, _, _ => by
    obtain ⟨rfl, rfl, rfl⟩ := trodAll_nil h
    rfl
  | t :: ts, vs, ds, ps, hr, h, hlt, hsp => by
    obtain ⟨v, vs', d, ds', p, q, rfl, rfl, rfl, h0, h1⟩ := trodAll_cons h
    obtain ⟨hr0, hr1⟩ := hr t List.mem_cons_self
    refine ⟨p, q, WideElems.Trod_stays hl hr0 hr1 h0 (fun x hx => hb.same (hlt x (by simp [hx]))) (fun x hx => hsp x (by simp [hx])), ?_, rfl⟩
    exact trodAll_stays hl hb (fun t' ht' => hr t' (List.mem_cons_of_mem _ ht')) h1 (fun x hx => hlt x (by simp [hx])) (fun x hx => hsp x (by simp [hx]))

/-- THE END OF A LAW's ROW: the call handed back true, and below the heap's old size nothing has turned. -/
theorem post_law {H : Type} {enc : TypeId × Value → H} {P : Program} {f : Func} {s : ChangeSpec} {tb : TypeId} (hl : laidOutB P = true) (hready : ∀ t ∈ f.params.toList, P.readableRec t = true ∧ t < P.types.size) (hrt : f.resultTypes = #[tb])
    (htb : P.underlying tb = some .bool) {W W' : World} {args : Array Value} {ds gs : List (DataW H)} {before : List MemPlace} (hvars : s.vars = [])
    (hW : DataW.Whole enc P f.params.toList s.vars false W args.toList ds gs before) (hfn : s.fn H (ds ++ gs) = { results := [.lit (.bool true)], args := ds }) (hb : Below W.heap.size W W') :
    s.post enc P f false true false false W args (.bool true) W' := by
  have hlt : ∀ p ∈ before, p.block < W.heap.size := fun p hp => hW.lt p hp
  have hW0 := hW
  obtain ⟨p, q, hA, hV, hpq, hfz, hnd⟩ := hW
  rw [hvars] at hV
  obtain ⟨rfl, rfl⟩ := trodVars_none hV
  rw [List.append_nil] at hpq
  subst hpq
  have hstay : ∀ sp : Nat → Bool, (∀ p ∈ before, sp p.block = true) → DataW.TrodAll enc P W' 0 sp true f.params.toList args.toList ds before := fun sp hsp => trodAll_stays hl hb hready hA hlt hsp
  have hres : ∀ (b : Nat) (sp : Nat → Bool) (hd : Bool), DataW.TrodAll enc P W' b sp hd f.resultTypes.toList ((Value.bool true).resultList f.resultTypes.size) (s.fn H (ds ++ [])).results [] := by
    intro b sp hd
    rw [hfn, hrt]
    exact trodAll_mk1 (shut_bool htb true)
  have hargs : ∀ sp : Nat → Bool, (∀ p ∈ before, sp p.block = true) → DataW.TrodAll enc P W' 0 sp true f.params.toList args.toList (s.fn H (ds ++ [])).args before := by
    intro sp hsp
    rw [hfn]
    exact hstay sp hsp
  have hvs : ∀ sp : Nat → Bool, (∀ p ∈ before, sp p.block = true) → DataW.TrodVars enc P W' sp s.vars (s.fn H (ds ++ [])).vars [] := by
    intro sp _
    rw [hfn, hvars]
    rfl
  have hold : ∀ p ∈ before, (fun b => decide (b < W.heap.size)) p.block = true := fun p hp => by simpa using hlt p hp
  exact ⟨ds, [], before, [], before, [], hW0, hres _ _ _, hargs _ hold, hvs _ hold, World.keptBut_mono (fun p hp => ⟨hp, by simpa using hp⟩) (hb.frame (· ∈ before)), fun h => by cases h⟩

/-- A table of integers that stands anywhere on the row's list. -/
theorem tabIs_of_mem {P : Program} {W : World} {name : String} {k : IntKind} {zs : List Int} {laid : List (String × DataW Unit)} {g : Nat} {t e : TypeId} {n : Nat}
    (hg : P.globalNamed name = some g) (hty : (P.globals[g]?).map (·.type) = some t) (ht : P.underlying t = some (.array n e)) (he : P.underlying e = some (.int k)) (hce : P.cellsOf e = 1) (hct : P.cellsOf t = n)
    (h : laidMet P laid W) (hm : (name, Lib.tabData k zs) ∈ laid) : Lib.TabIs P W name k zs := by
  obtain ⟨g', t', cs, fuel, p, hg', ht', hvar, hd⟩ := Lib.laidMet.reads h hm
  obtain rfl := Option.some.inj (hg.symm.trans hg')
  obtain rfl := Option.some.inj (hty.symm.trans ht')
  unfold Lib.TabIs
  rw [hvar, ← Lib.cells_of_tab ht he hce hct hd]

end Go.Proofs.YtjgehecnamadcaaDoor.KaRow
