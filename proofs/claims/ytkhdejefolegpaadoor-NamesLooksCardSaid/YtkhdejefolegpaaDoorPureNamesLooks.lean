/- The pure statement of NamesLooks. -/
import Derived.Test.YtkhdejefolegpaaDoorQx6
import Derived.Test.YtkhdejefolegpaaDoorKaWfNamesLooks
import Derived.Test.YtkhdejefolegpaaDoorPureNamesAgree
namespace Go.Proofs.YtkhdejefolegpaaDoor.Q.PNamesLooks
open Go.RowKit Go.Proofs.YtkhdejefolegpaaDoorW.PrintWords Go.Proofs.YtkhdejefolegpaaDoor.Q.PNamesAgree
set_option linter.unusedVariables false
set_option linter.unusedSimpArgs false

def step (a1 a2 a3 : Int) (acc : ByteArray) (x : T) : ByteArray := if KaName.hit a1 a2 a3 x = true then x.f3 else acc
theorem fold_find (a1 a2 a3 : Int) : ∀ (l : List T) (acc : ByteArray), l.foldl (step a1 a2 a3) acc = match l.reverse.find? (KaName.hit a1 a2 a3) with | some x => x.f3 | none => acc
  | [], acc => rfl
  | x :: l, acc => by
    rw [List.foldl_cons, fold_find a1 a2 a3 l, List.reverse_cons, List.find?_append]
    cases l.reverse.find? (KaName.hit a1 a2 a3) with
    | some y => rfl
    | none =>
      by_cases h : KaName.hit a1 a2 a3 x = true
      · simp [step, h]
      · simp [step, h]
theorem res_fold (l : List T) (a1 a2 a3 : Int) : KaName.res l a1 a2 a3 = (l.foldl (step a1 a2 a3) ⟨#[]⟩, (l.foldl (step a1 a2 a3) ⟨#[]⟩).toList != ([] : List UInt8)) := by
  rw [fold_find]
  unfold KaName.res
  cases l.reverse.find? (KaName.hit a1 a2 a3) with
  | some x =>
    have : (x.f3.toList != ([] : List UInt8)) = !x.f3.toList.isEmpty := by cases x.f3.toList <;> rfl
    simp only [this]
  | none =>
    have : ((⟨#[]⟩ : ByteArray).toList != ([] : List UInt8)) = false := by decide +kernel
    simp only [this]
theorem dropT {l : List T} {i : Nat} (h : i < l.length) : l.drop i = rd_T43 l (i : Int) :: l.drop (i + 1) := by
  rw [List.drop_eq_getElem_cons h]
  unfold rd_T43
  rw [Int.toNat_natCast, List.getD_eq_getElem?_getD, List.getElem?_eq_getElem h]
  rfl
theorem rn_loop (a1 a2 a3 : Int) (l : List T) (hl : l.length < 9223372036854775807) : ∀ (d i : Nat) (acc : ByteArray), l.length - i = d → i ≤ l.length →
    Ev (fun q => kauditref37_Name.l0 q a1 a2 a3 acc l (l.length : Int) (i : Int)) ((l.drop i).foldl (step a1 a2 a3) acc, ((l.drop i).foldl (step a1 a2 a3) acc).toList != ([] : List UInt8))
  | 0, i, acc, hd, hi => by
    rw [List.drop_eq_nil_of_le (by omega), List.foldl_nil]
    refine Ev.step (fun q => by rw [kauditref37_Name.l0]) ?_
    refine Ev.neg (by omega) ?_
    exact Ev.now _
  | d + 1, i, acc, hd, hi => by
    have hlt : i < l.length := by omega
    have hw : wrap64 ((i : Int) + 1) = ((i + 1 : Nat) : Int) := by rw [w64 (by omega) (by omega)]; omega
    refine Ev.step (fun q => by rw [kauditref37_Name.l0]) (Ev.pos (by omega) (Ev.pos (by omega) (Ev.pos (by omega) ?_)))
    rw [dropT hlt, List.foldl_cons, hw]
    have ih := rn_loop a1 a2 a3 l hl d (i + 1)
    by_cases h1 : (rd_T43 l (i : Int)).f1 = a1
    · by_cases h2 : (rd_T43 l (i : Int)).f2 = a2
      · by_cases h3 : (rd_T43 l (i : Int)).f0 ≤ a3
        · rw [show step a1 a2 a3 acc (rd_T43 l (i : Int)) = (rd_T43 l (i : Int)).f3 by simp [step, KaName.hit, h1, h2, h3]]
          exact Ev.pos h1 (Ev.pos h2 (Ev.pos h3 (ih _ (by omega) (by omega))))
        · rw [show step a1 a2 a3 acc (rd_T43 l (i : Int)) = acc by simp [step, KaName.hit, h1, h2, h3]]
          exact Ev.pos h1 (Ev.pos h2 (Ev.neg h3 (ih _ (by omega) (by omega))))
      · rw [show step a1 a2 a3 acc (rd_T43 l (i : Int)) = acc by simp [step, KaName.hit, h1, h2]]
        exact Ev.pos h1 (Ev.neg h2 (ih _ (by omega) (by omega)))
    · rw [show step a1 a2 a3 acc (rd_T43 l (i : Int)) = acc by simp [step, KaName.hit, h1]]
      exact Ev.neg h1 (ih _ (by omega) (by omega))
theorem rn_ev (l : List T) (a1 a2 a3 : Int) (hl : l.length < 9223372036854775807) : Ev (fun q => kauditref37_Name.f q l a1 a2 a3) (KaName.res l a1 a2 a3) := by
  rw [res_fold]
  have := rn_loop a1 a2 a3 l hl l.length 0 ⟨#[]⟩ (by omega) (by omega)
  rw [List.drop_zero] at this
  exact this

def sel (l : List T) (k t : Int) (s : ByteArray) (x : T) : Bool := (KaName.res l k x.f2 t).2 && ((KaName.res l k x.f2 t).1.toList == s.toList && decide (x.f1 = k))
theorem ri_loop (l0 : List T) (k t : Int) (s : ByteArray) (hl0 : l0.length < 9223372036854775807) (l : List T) (hl : l.length < 17592186044414) : ∀ (d i : Nat) (acc : List Int), l.length - i = d → i ≤ l.length → acc.length ≤ i →
    Ev (fun q => kauditref37_IDs.l0 q l0 k s t acc l (l.length : Int) (i : Int)) (addAll acc (((l.drop i).filter (sel l0 k t s)).map (·.f2)))
  | 0, i, acc, hd, hi, ha => by
    rw [List.drop_eq_nil_of_le (by omega), List.filter_nil, List.map_nil]
    refine Ev.step (fun q => by rw [kauditref37_IDs.l0]) ?_
    refine Ev.neg (by omega) ?_
    exact Ev.now _
  | d + 1, i, acc, hd, hi, ha => by
    have hlt : i < l.length := by omega
    have hw : wrap64 ((i : Int) + 1) = ((i + 1 : Nat) : Int) := by rw [w64 (by omega) (by omega)]; omega
    refine Ev.step (fun q => by rw [kauditref37_IDs.l0]) (Ev.pos (by omega) (Ev.pos (by omega) (Ev.pos (by omega) ?_)))
    rw [dropT hlt, hw, List.filter_cons]
    have ih := ri_loop l0 k t s hl0 l hl d (i + 1)
    refine Ev.bind (rn_ev l0 k _ t hl0) ?_
    generalize rd_T43 l (i : Int) = x
    by_cases h1 : (KaName.res l0 k x.f2 t).2 = true
    · by_cases h2 : (KaName.res l0 k x.f2 t).1.toList = s.toList
      · by_cases h3 : x.f1 = k
        · rw [if_pos (by simp [sel, h1, h2, h3]), List.map_cons]
          have hlen := addR_len x.f2 acc
          exact Ev.pos h1 (Ev.pos h2 (Ev.pos h3 (Ev.bind (add_ev _ _ (by omega)) (ih _ (by omega) (by omega) (by omega)))))
        · rw [if_neg (by simp [sel, h3])]
          exact Ev.pos h1 (Ev.pos h2 (Ev.neg h3 (ih _ (by omega) (by omega) (by omega))))
      · rw [if_neg (by simp [sel, h2])]
        exact Ev.pos h1 (Ev.neg h2 (ih _ (by omega) (by omega) (by omega)))
    · rw [if_neg (by simp [sel, h1])]
      exact Ev.neg h1 (ih _ (by omega) (by omega) (by omega))
theorem mem_sel (l : List T) (k n t : Int) (s : ByteArray) : n ∈ (l.filter (sel l k t s)).map (·.f2) ↔ n ∈ KaIds.ids l k s t l := by
  have h0 := mem_ids l k n t s
  rw [Bool.eq_iff_iff, decide_eq_true_eq, (uniq_spec _).2] at h0
  constructor
  · intro h
    obtain ⟨x, hx, rfl⟩ := List.mem_map.1 h
    have := (List.mem_filter.1 hx).2
    unfold sel at this
    simp only [Bool.and_eq_true] at this
    exact h0.2 (by rw [Bool.and_eq_true]; exact ⟨this.1, this.2.1⟩)
  · intro h
    have h1 := h0.1 h
    obtain ⟨x, hx, e⟩ := List.mem_map.1 h
    have hk := (List.mem_filter.1 hx).2
    unfold KaIds.keep at hk
    simp only [Bool.and_eq_true] at hk
    refine List.mem_map.2 ⟨x, List.mem_filter.2 ⟨(List.mem_filter.1 hx).1, ?_⟩, e⟩
    unfold sel
    simp only [Bool.and_eq_true]
    exact ⟨hk.2.2.1, hk.2.2.2, hk.1⟩
theorem ri_ev (l : List T) (k t : Int) (s : ByteArray) (hl : l.length < 17592186044414) : Ev (fun q => kauditref37_IDs.f q l k s t) (uniq (KaIds.ids l k s t l)) := by
  have := ri_loop l k t s (by omega) l hl l.length 0 [] (by omega) (by omega) (by simp)
  rw [List.drop_zero, addAll_uniq] at this
  have e : uniq ((l.filter (sel l k t s)).map (·.f2)) = uniq (KaIds.ids l k s t l) := asc_ext (uniq_spec _).1 (uniq_spec _).1 (fun x => by rw [(uniq_spec _).2, (uniq_spec _).2]; exact mem_sel l k x t s)
  rw [e] at this
  exact this

section
variable (x2 x3 x4 : Int) (x5 : ByteArray) (cs : List Int)
theorem l3_ev (db : List T) (hdb : db.length ≤ 3518437208783) (x17 x18 : Int) (x36 : List (List T)) (x37 x38 : Int) (x45 : List Int) (x46 x47 : Int) (b : Int) (y : List ByteArray) (hy : y.length < 1000) (r : Bool)
    (hc : Ev (fun q => kauditlaw37_NamesLooks.l2 q x2 x3 x4 x5 db x17 (wrap64 (x18 + 1)) x36 x37 x38 x45 x46 x47 cs b) r) : ∀ (d i : Nat), y.length - i = d → i ≤ y.length →
    Ev (fun q => kauditlaw37_NamesLooks.l3 q x2 x3 x4 x5 db x17 x18 x36 x37 x38 x45 x46 x47 y (y.length : Int) (i : Int) cs b) r
  | 0, i, hd, hi => Ev.step (fun q => by rw [kauditlaw37_NamesLooks.l3]) (Ev.neg (by omega) hc)
  | d + 1, i, hd, hi => by
    have hw : wrap64 ((i : Int) + 1) = ((i + 1 : Nat) : Int) := by rw [w64 (by omega) (by omega)]; omega
    have ih := l3_ev db hdb x17 x18 x36 x37 x38 x45 x46 x47 b y hy r hc d (i + 1) (by omega) (by omega)
    rw [← hw] at ih
    refine Ev.step (fun q => by rw [kauditlaw37_NamesLooks.l3]) (Ev.pos (by omega) (Ev.pos (by omega) (Ev.pos (by omega) ?_)))
    have hid : names_IDs.f db x18 (rdOf ByteArray.empty y (i : Int)) x17 = some (uniq (KaIds.ids db x18 (rdOf ByteArray.empty y (i : Int)) x17 db)) := by unfold names_IDs.f; rw [if_pos (by omega)]; rfl
    simp only [hid, Option.bind_some]
    have hlen := uniq_len (KaIds.ids db x18 (rdOf ByteArray.empty y (i : Int)) x17 db)
    have hlen2 := KaIds.ids_le db x18 (rdOf ByteArray.empty y (i : Int)) x17 db
    exact Ev.bind (ri_ev db x18 x17 _ (by omega)) (Ev.bind (same_ev _ (by omega)) (Ev.pos rfl ih))
theorem nm (db : List T) (hdb : db.length ≤ 3518437208783) (a1 a2 a3 : Int) : names_Name.f db a1 a2 a3 = some (KaName.res db a1 a2 a3) := by unfold names_Name.f; rw [if_pos (by omega)]
theorem res_two (db : List T) (a1 a2 a3 : Int) : (KaName.res db a1 a2 a3).2 = ((KaName.res db a1 a2 a3).1.toList != ([] : List UInt8)) := by rw [res_fold]
theorem l2_ev (db : List T) (hdb : db.length ≤ 3518437208783) (x17 : Int) (x36 : List (List T)) (x37 x38 : Int) (x45 : List Int) (x46 x47 : Int) (r : Bool)
    (hc : ∀ b, Ok cs b → Ev (fun q => kauditlaw37_NamesLooks.l1 q x2 x3 x4 x5 db x36 x37 x38 x45 x46 (wrap64 (x47 + 1)) cs b) r) : ∀ (d : Nat) (x18 b : Int), Ok cs b → 0 ≤ x18 → x18 ≤ 3 → (3 - x18).toNat = d →
    Ev (fun q => kauditlaw37_NamesLooks.l2 q x2 x3 x4 x5 db x17 x18 x36 x37 x38 x45 x46 x47 cs b) r
  | 0, x18, b, hb, h0, h1, hd => by
    refine Ev.step (fun q => by rw [kauditlaw37_NamesLooks.l2]) (Ev.neg (by omega) ?_)
    simp only [nm db hdb, Option.bind_some]
    exact Ev.bind (rn_ev db _ _ _ (by omega)) (Ev.bind (rn_ev db _ _ _ (by omega)) (Ev.pos rfl (Ev.neg (by simp) (Ev.pos rfl (Ev.neg (by simp) (hc b hb))))))
  | d + 1, x18, b, hb, h0, h1, hd => by
    obtain ⟨p, b2, e2, hb2⟩ := pick_ok hb [0, 7, 8, x3] (by simp)
    have hw : wrap64 (x18 + 1) = x18 + 1 := w64 (by omega) (by omega)
    have ih := l2_ev db hdb x17 x36 x37 x38 x45 x46 x47 r hc d (x18 + 1) b2 hb2 (by omega) (by omega) (by omega)
    rw [← hw] at ih
    refine Ev.step (fun q => by rw [kauditlaw37_NamesLooks.l2]) (Ev.pos (by omega) ?_)
    simp only [e2, nm db hdb, Option.bind_some]
    have h3 : Ev (fun q => kauditlaw37_NamesLooks.j3 q x2 x3 x4 x5 db x17 x18 x36 x37 x38 x45 x46 x47 false cs b2) r := by
      refine Ev.step (fun q => by rw [kauditlaw37_NamesLooks.j3]) (Ev.neg (by simp) ?_)
      simp only [Option.bind_some]
      exact l3_ev x2 x3 x4 x5 cs db hdb x17 x18 x36 x37 x38 x45 x46 x47 b2 _ (by simp) r ih _ 0 rfl (by omega)
    have h2 := res_two db x18 p x17
    by_cases he : (KaName.res db x18 p x17).1.toList = []
    · have h4 : (KaName.res db x18 p x17).2 = false := by rw [h2, he]; rfl
      exact Ev.pos he (Ev.neg (by rw [h4]; simp) h3)
    · have h4 : (KaName.res db x18 p x17).2 = true := by rw [h2]; simpa using he
      refine Ev.neg he ?_
      rw [h4]
      exact h3
theorem l1_ev (db : List T) (hdb : db.length ≤ 3518437208783) (x36 : List (List T)) (x37 x38 : Int) (y : List Int) (hy : y.length < 1000) (r : Bool)
    (hc : ∀ b, Ok cs b → Ev (fun q => kauditlaw37_NamesLooks.l0 q x2 x3 x4 x5 x36 x37 (wrap64 (x38 + 1)) cs b) r) : ∀ (d i : Nat) (b : Int), Ok cs b → y.length - i = d → i ≤ y.length →
    Ev (fun q => kauditlaw37_NamesLooks.l1 q x2 x3 x4 x5 db x36 x37 x38 y (y.length : Int) (i : Int) cs b) r
  | 0, i, b, hb, hd, hi => Ev.step (fun q => by rw [kauditlaw37_NamesLooks.l1]) (Ev.neg (by omega) (hc b hb))
  | d + 1, i, b, hb, hd, hi => by
    have hw : wrap64 ((i : Int) + 1) = ((i + 1 : Nat) : Int) := by rw [w64 (by omega) (by omega)]; omega
    refine Ev.step (fun q => by rw [kauditlaw37_NamesLooks.l1]) (Ev.pos (by omega) (Ev.pos (by omega) (Ev.pos (by omega) ?_)))
    refine l2_ev x2 x3 x4 x5 cs db hdb _ x36 x37 x38 y _ _ r (fun b2 hb2 => ?_) 3 0 b hb (by omega) (by omega) rfl
    rw [hw]
    exact l1_ev db hdb x36 x37 x38 y hy r hc d (i + 1) b2 hb2 (by omega) (by omega)
end

theorem pure : ∀ (x0 : List Int) (x1 : List S43) (x2 : Int) (x3 : Int) (x4 : Int) (x5 : ByteArray), ((x0).length * 1 ≤ 140737488351232 ∧ ∀ a ∈ (x0), (Lit.int .u8 a).wf = true) → ((x1).length * 40 ≤ 140737488351232 ∧ ∀ a ∈ (x1), wf43 a) → (Lit.int .i64 x2).wf = true → (Lit.int .i64 x3).wf = true → (Lit.int .i64 x4).wf = true → x5.size ≤ 140737488351232 → ∃ k, kauditlaw37_NamesLooks.f k x0 x1 x2 x3 x4 x5 = some true := by
  intro x0 x1 x2 x3 x4 x5 h0 h1 _ _ _ _
  obtain ⟨cs, e, hok⟩ := new_ok x0 100 (by omega) (by omega) (fun x hx => wf_u8 (h0.2 x hx))
  obtain ⟨l, b, e2, hl, hok2⟩ := namings_ev hok
  have hlen := h1.1
  have hw1 : wrap64 ((0 : Int) + 1) = 1 := w64 (by omega) (by omega)
  have hw2 : wrap64 ((1 : Int) + 1) = 2 := w64 (by omega) (by omega)
  have q2 : ∀ b, Ok cs b → Ev (fun q => kauditlaw37_NamesLooks.l0 q x2 x3 x4 x5 [l, x1] (([l, x1] : List (List S43)).length : Int) 2 cs b) true := fun b hb =>
    Ev.step (fun q => by rw [kauditlaw37_NamesLooks.l0]) (Ev.neg (by simp) (Ev.bind begun_ev (Ev.now _)))
  have q1 : ∀ b, Ok cs b → Ev (fun q => kauditlaw37_NamesLooks.l0 q x2 x3 x4 x5 [l, x1] (([l, x1] : List (List S43)).length : Int) 1 cs b) true := fun b hb => by
    obtain ⟨p, b2, e3, _, _, _, hb2⟩ := int_ok hb 9
    refine Ev.step (fun q => by rw [kauditlaw37_NamesLooks.l0]) (Ev.pos (by simp) (Ev.pos (by simp) (Ev.pos (by simp) ?_)))
    simp only [e3, Option.bind_some]
    refine l1_ev x2 x3 x4 x5 cs x1 (by omega) [l, x1] _ 1 [x4, 0, p] (by simp) true (fun b3 hb3 => ?_) _ 0 b2 hb2 rfl (by omega)
    rw [hw2]
    exact q2 b3 hb3
  have h : Ev (fun k => kauditlaw37_NamesLooks.f k x0 x1 x2 x3 x4 x5) true := by
    unfold kauditlaw37_NamesLooks.f
    simp only [e, Option.bind_some]
    refine Ev.bind e2 ?_
    simp only [Option.bind_some]
    obtain ⟨p, b2, e3, _, _, _, hb2⟩ := int_ok hok2 9
    refine Ev.step (fun q => by rw [kauditlaw37_NamesLooks.l0]) (Ev.pos (by simp) (Ev.pos (by simp) (Ev.pos (by simp) ?_)))
    simp only [e3, Option.bind_some]
    refine l1_ev x2 x3 x4 x5 cs l (by omega) [l, x1] _ 0 [x4, 0, p] (by simp) true (fun b3 hb3 => ?_) _ 0 b2 hb2 rfl (by omega)
    rw [hw1]
    exact q1 b3 hb3
  obtain ⟨K, hK⟩ := h
  exact ⟨K, hK K (Nat.le_refl _)⟩
end Go.Proofs.YtkhdejefolegpaaDoor.Q.PNamesLooks
