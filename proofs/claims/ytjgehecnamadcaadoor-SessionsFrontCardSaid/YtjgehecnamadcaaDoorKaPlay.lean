/- What the sessions are after events, in plain words; what stays true of them. -/
import Derived.Test.YtjgehecnamadcaaDoorQx5
import Derived.Test.YtjgehecnamadcaaDoorKaCase
namespace Go.Proofs.YtjgehecnamadcaaDoor.Q
open Go.RowKit Go.Proofs.YtjgehecnamadcaaDoorW.PrintWords Go.Proofs.YtjgehecnamadcaaDoor.KaSes Go.Proofs.YtjgehecnamadcaaDoor.KaTake
set_option linter.unusedVariables false
set_option linter.unusedSimpArgs false
abbrev SE := S34
abbrev SP := S70
def getP (l : List SP) (nm : ByteArray) : Option SP := l.find? fun p => decide (p.f0.toList = nm.toList)
def resP : Option SP → ByteArray × Int × Int × ByteArray × Bool
  | none => (⟨#[]⟩, 0, 0, ⟨#[]⟩, false)
  | some p => (p.f0, p.f1, p.f2, p.f3, true)
theorem get_loop (nm : ByteArray) (l : List SP) (hl : l.length < 1000000000000) : ∀ (d i : Nat), l.length - i = d → i ≤ l.length → Ev (fun k => record_Get.l0 k nm l (l.length : Int) (i : Int)) (resP (getP (l.drop i) nm)) := by
  intro d
  induction d with
  | zero =>
    intro i hd hi
    refine Ev.step (fun k => by rw [record_Get.l0]) (Ev.neg (by omega) ?_)
    rw [List.drop_of_length_le (by omega)]
    exact Ev.now _
  | succ d ih =>
    intro i hd hi
    have hlt : i < l.length := by omega
    have hr : rd_T70 l (i : Int) = l[i] := by simp [rd_T70, List.getD_eq_getElem?_getD, hlt]
    have h0 : (0 : Int) ≤ (i : Int) := by omega
    have h1 : (i : Int) < (l.length : Int) := by omega
    refine Ev.step (fun k => by rw [record_Get.l0]) (Ev.pos h1 (Ev.pos h0 (Ev.pos h1 ?_)))
    rw [hr, List.drop_eq_getElem_cons hlt]
    unfold getP
    rw [List.find?_cons]
    by_cases he : l[i].f0.toList = nm.toList
    · refine Ev.pos he ?_
      simp only [he, decide_true]
      exact Ev.now _
    · refine Ev.neg he ?_
      simp only [he, decide_false]
      rw [w64 (by omega) (by omega), show (i : Int) + 1 = ((i + 1 : Nat) : Int) by omega]
      exact ih (i + 1) (by omega) (by omega)
theorem get_ev (a b c : Int) (l : List SP) (nm : ByteArray) (hl : l.length < 1000000000000) : Ev (fun k => record_Get.f k a b c l nm) (resP (getP l nm)) := by
  have := get_loop nm l hl l.length 0 (by omega) (by omega)
  rw [List.drop_zero] at this
  exact Ev.congr (fun k => by rw [record_Get.f]; rfl) this
def numP (l : List SP) (nm : ByteArray) : Int × Bool := match getP l nm with
  | none => (0, false)
  | some p => (p.f2, p.f1 == 1)
def textP (l : List SP) (nm : ByteArray) : ByteArray × Bool := match getP l nm with
  | none => (⟨#[]⟩, false)
  | some p => (p.f3, p.f1 == 2)
theorem num_ev (a b c : Int) (l : List SP) (nm : ByteArray) (hl : l.length < 1000000000000) : Ev (fun k => sessions_number.f k a b c l nm) (numP l nm) := by
  refine Ev.congr (fun k => by rw [sessions_number.f]) (Ev.bind (get_ev a b c l nm hl) ?_)
  unfold numP
  cases getP l nm with
  | none => exact Ev.neg (fun h => Bool.noConfusion h) (Ev.now _)
  | some p => exact Ev.pos rfl (Ev.now _)
theorem text_ev (a b c : Int) (l : List SP) (nm : ByteArray) (hl : l.length < 1000000000000) : Ev (fun k => sessions_text.f k a b c l nm) (textP l nm) := by
  refine Ev.congr (fun k => by rw [sessions_text.f]) (Ev.bind (get_ev a b c l nm hl) ?_)
  unfold textP
  cases getP l nm with
  | none => exact Ev.neg (fun h => Bool.noConfusion h) (Ev.now _)
  | some p => exact Ev.pos rfl (Ev.now _)
def numsP (l : List SP) : List ByteArray → Option (List Int)
  | [] => some []
  | nm :: ns => if (numP l nm).2 = true then (numsP l ns).map ((numP l nm).1 :: ·) else none
theorem nums_ev (r : S75) (hl : r.f3.length < 1000000000000) : ∀ ns, Ev (fun k => KaRead.nums k r ns) (numsP r.f3 ns)
  | [] => Ev.now _
  | nm :: ns => by
    refine Ev.congr (fun k => by rw [KaRead.nums]) (Ev.bind (num_ev r.f0 r.f1 r.f2 r.f3 nm hl) ?_)
    unfold numsP
    by_cases h : (numP r.f3 nm).2 = true
    · rw [if_pos h]
      exact Ev.pos h (Ev.bind (nums_ev r hl ns) (Ev.now _))
    · rw [if_neg h]
      exact Ev.neg h (Ev.now _)
def readP (e : SE) (boot : Int) : KaTake.Act × Bool :=
  if e.f0 ≠ boot then (KaRead.zero, false) else if e.f3.length = 0 then (KaRead.zero, false) else if (rd_T75 e.f3 0).f0 ≠ 1300 then (KaRead.zero, false) else
  match numsP (rd_T75 e.f3 0).f3 KaRead.names with
    | none => (KaRead.zero, false)
    | some ns => if (textP (rd_T75 e.f3 0).f3 ⟨#[99, 97, 108, 108]⟩).2 = false then (KaRead.zero, false) else if (textP (rd_T75 e.f3 0).f3 ⟨#[115, 117, 99, 99, 101, 115, 115]⟩).2 = false then (KaRead.zero, false) else (KaRead.ofNums ns (textP (rd_T75 e.f3 0).f3 ⟨#[99, 97, 108, 108]⟩).1 ((textP (rd_T75 e.f3 0).f3 ⟨#[115, 117, 99, 99, 101, 115, 115]⟩).1.toList == [121, 101, 115]), true)
/-- Events whose numbers are of 64 bits, with few pairs. -/
def GoodE (e : SE) : Prop := GoodR e.f3 ∧ ∀ r ∈ e.f3, r.f3.length ≤ 11
theorem rdT_mem {l : List S75} (h : ¬ l.length = 0) : rd_T75 l 0 ∈ l := by
  have : 0 < l.length := by omega
  simp [rd_T75, List.getD_eq_getElem?_getD, this]
theorem read_ev (e : SE) (boot : Int) (he : GoodE e) : Ev (fun k => KaRead.read k e boot) (readP e boot) := by
  unfold KaRead.read readP
  by_cases h0 : e.f0 ≠ boot
  · rw [if_pos h0]; exact Ev.pos h0 (Ev.now _)
  rw [if_neg h0]; refine Ev.neg h0 ?_
  by_cases h1 : e.f3.length = 0
  · rw [if_pos h1]; exact Ev.pos h1 (Ev.now _)
  rw [if_neg h1]; refine Ev.neg h1 ?_
  have hl : (rd_T75 e.f3 0).f3.length < 1000000000000 := by
    have := he.2 _ (rdT_mem h1)
    omega
  by_cases h2 : (rd_T75 e.f3 0).f0 ≠ 1300
  · rw [if_pos h2]; exact Ev.pos h2 (Ev.now _)
  rw [if_neg h2]; refine Ev.neg h2 ?_
  refine Ev.bind (nums_ev _ hl _) ?_
  cases numsP (rd_T75 e.f3 0).f3 KaRead.names with
  | none => exact Ev.now _
  | some ns =>
    refine Ev.bind (text_ev _ _ _ _ _ hl) (Ev.bind (text_ev _ _ _ _ _ hl) ?_)
    dsimp only
    by_cases h3 : (textP (rd_T75 e.f3 0).f3 ⟨#[99, 97, 108, 108]⟩).2 = false
    · refine Ev.pos h3 ?_
      rw [if_pos h3]
      exact Ev.now _
    refine Ev.neg h3 ?_
    rw [if_neg h3]
    by_cases h4 : (textP (rd_T75 e.f3 0).f3 ⟨#[115, 117, 99, 99, 101, 115, 115]⟩).2 = false
    · refine Ev.pos h4 ?_
      rw [if_pos h4]
      exact Ev.now _
    refine Ev.neg h4 ?_
    rw [if_neg h4]
    exact Ev.now _
def stepP (boot : Int) (l : List Core) (e : SE) : List Core := if (readP e boot).2 = true then take (readP e boot).1 e.f1 l else l
def runsP (boot : Int) (es : List SE) (l : List Core) : List Core := es.foldl (stepP boot) l
theorem runs_ev (boot : Int) : ∀ (es : List SE) (l : List Core), (∀ e ∈ es, GoodE e) → Ev (fun k => KaOf.runs k boot es l) (runsP boot es l)
  | [], l, _ => Ev.now _
  | e :: es, l, h => by
    refine Ev.congr (fun k => by rw [KaOf.runs]) (Ev.bind (read_ev e boot (h e List.mem_cons_self)) ?_)
    exact runs_ev boot es _ (fun e he => h e (List.mem_cons_of_mem _ he))
theorem runsP_append (boot : Int) (es fs : List SE) (l : List Core) : runsP boot (es ++ fs) l = runsP boot fs (runsP boot es l) := by
  unfold runsP
  rw [List.foldl_append]
/-- The numbers of what is read are of 64 bits. -/
def GoodA (x : KaTake.Act) : Prop := I64 x.pid ∧ I64 x.ses ∧ I64 x.exit
theorem numP_good {l : List SP} (h : GoodP l) (nm : ByteArray) : I64 (numP l nm).1 := by
  unfold numP
  cases hg : getP l nm with
  | none => unfold I64; dsimp only; omega
  | some p => exact h p (List.mem_of_find?_eq_some hg)
theorem numsP_good {l : List SP} (h : GoodP l) : ∀ (ns : List ByteArray) (r : List Int), numsP l ns = some r → ∀ x ∈ r, I64 x
  | [], r, e => by
    obtain rfl := Option.some.inj (show some [] = some r from e)
    intro x hx
    cases hx
  | nm :: ns, r, e => by
    unfold numsP at e
    by_cases h1 : (numP l nm).2 = true
    · rw [if_pos h1] at e
      cases h2 : numsP l ns with
      | none => rw [h2] at e; cases e
      | some q =>
        rw [h2] at e
        obtain rfl := Option.some.inj (show some _ = some r from e)
        intro x hx
        rcases List.mem_cons.1 hx with rfl | hx
        · exact numP_good h nm
        · exact numsP_good h ns q h2 x hx
    · rw [if_neg h1] at e
      cases e
theorem getD_good {r : List Int} (h : ∀ x ∈ r, I64 x) (i : Nat) : I64 (r.getD i 0) := by
  rw [List.getD_eq_getElem?_getD]
  by_cases hi : i < r.length
  · rw [List.getElem?_eq_getElem hi]
    exact h _ (List.getElem_mem hi)
  · rw [List.getElem?_eq_none (by omega)]
    unfold I64
    simp
theorem zero_good : GoodA KaRead.zero := by
  unfold GoodA I64 KaRead.zero
  dsimp only
  omega
theorem readP_good (e : SE) (boot : Int) (he : GoodE e) : GoodA (readP e boot).1 := by
  unfold readP
  by_cases h0 : e.f0 ≠ boot
  · rw [if_pos h0]; exact zero_good
  rw [if_neg h0]
  by_cases h1 : e.f3.length = 0
  · rw [if_pos h1]; exact zero_good
  rw [if_neg h1]
  by_cases h2 : (rd_T75 e.f3 0).f0 ≠ 1300
  · rw [if_pos h2]; exact zero_good
  rw [if_neg h2]
  cases hn : numsP (rd_T75 e.f3 0).f3 KaRead.names with
  | none => exact zero_good
  | some ns =>
    dsimp only
    by_cases h3 : (textP (rd_T75 e.f3 0).f3 ⟨#[99, 97, 108, 108]⟩).2 = false
    · rw [if_pos h3]; exact zero_good
    rw [if_neg h3]
    by_cases h4 : (textP (rd_T75 e.f3 0).f3 ⟨#[115, 117, 99, 99, 101, 115, 115]⟩).2 = false
    · rw [if_pos h4]; exact zero_good
    rw [if_neg h4]
    have hg := numsP_good (he.1 _ (rdT_mem h1)) _ _ hn
    exact ⟨getD_good hg 0, getD_good hg 1, getD_good hg 3⟩
/-- What stays true of the sessions: numbers of 64 bits, no two with one number, and how long their lists are. -/
structure Inv (n : Nat) (cs : List Core) : Prop where
  wf : ∀ c ∈ cs, I64 c.id ∧ (∀ p ∈ c.ps, I64 p) ∧ ∀ q ∈ c.qs, I64 q
  nd : (cs.map (·.id)).Nodup
  len : cs.length ≤ n
  lens : ∀ c ∈ cs, c.ps.length ≤ 2 * n ∧ c.qs.length ≤ 2 * n
theorem put_mem {k x : Int} {l : List Int} : x ∈ put k l ↔ x = k ∨ x ∈ l := by
  unfold put
  split
  · exact ⟨.inr, fun h => h.elim (fun h => h ▸ ‹_›) id⟩
  · rw [List.mem_append, List.mem_singleton]
    exact or_comm
theorem put_len (k : Int) (l : List Int) : l.length ≤ (put k l).length ∧ (put k l).length ≤ l.length + 1 := by
  unfold put
  split
  · omega
  · simp
theorem upd_ids (id : Int) (f : Core → Core) (hf : ∀ c, (f c).id = c.id) (l : List Core) : (upd id f l).map (·.id) = l.map (·.id) := by
  unfold upd
  rw [List.map_map]
  refine List.map_congr_left (fun c _ => ?_)
  simp only [Function.comp]
  split
  · exact hf c
  · rfl
theorem upd_mem {id : Int} {f : Core → Core} {l : List Core} {c : Core} (h : c ∈ upd id f l) : ∃ c0 ∈ l, (c = f c0 ∧ c0.id = id) ∨ c = c0 := by
  unfold upd at h
  obtain ⟨c0, h0, rfl⟩ := List.mem_map.1 h
  refine ⟨c0, h0, ?_⟩
  split
  · exact .inl ⟨rfl, ‹_›⟩
  · exact .inr rfl
theorem gone_ids (k : Int) (l : List Core) : (goneC k l).map (·.id) = l.map (·.id) := by
  unfold goneC
  rw [List.map_map]
  rfl
theorem gone_mem {k : Int} {l : List Core} {c : Core} (h : c ∈ goneC k l) : ∃ c0 ∈ l, c = { c0 with qs := c0.qs.filter fun x => decide (x ≠ k) } := by
  unfold goneC at h
  obtain ⟨c0, h0, rfl⟩ := List.mem_map.1 h
  exact ⟨c0, h0, rfl⟩
theorem Inv.mono {n m : Nat} {cs : List Core} (h : Inv n cs) (hm : n ≤ m) : Inv m cs := ⟨h.wf, h.nd, Nat.le_trans h.len hm, fun c hc => by have := h.lens c hc; omega⟩
theorem seen_len (id au fi : Int) (l : List Core) : l.length ≤ (KaTake.seen id au fi l).length ∧ (KaTake.seen id au fi l).length ≤ l.length + 1 := by
  unfold KaTake.seen
  split
  · omega
  · simp
theorem seen_mem {id au fi : Int} {l : List Core} {c : Core} (h : c ∈ KaTake.seen id au fi l) : c ∈ l ∨ (c = ⟨id, au, fi, 0, 0, 0, [], []⟩ ∧ id ∉ l.map (·.id)) := by
  unfold KaTake.seen at h
  split at h
  · exact .inl h
  · rcases List.mem_append.1 h with h | h
    · exact .inl h
    · exact .inr ⟨List.mem_singleton.1 h, ‹_›⟩
theorem seen_nd {id au fi : Int} {l : List Core} (h : (l.map (·.id)).Nodup) : ((KaTake.seen id au fi l).map (·.id)).Nodup := by
  unfold KaTake.seen
  split
  · exact h
  · rename_i hn
    rw [List.map_append]
    refine List.nodup_append.2 ⟨h, by simp, fun x hx y hy => ?_⟩
    obtain rfl : y = id := by simpa using hy
    exact fun e => hn (e ▸ hx)
theorem Inv.note {n : Nat} {cs : List Core} (x : KaTake.Act) (m : Int) (hx : GoodA x) (h : Inv n cs) : (∀ c ∈ note x m cs, I64 c.id ∧ (∀ p ∈ c.ps, I64 p) ∧ (∀ q ∈ c.qs, I64 q) ∧ c.ps.length ≤ 2 * n + 1 ∧ c.qs.length ≤ 2 * n + 1) ∧ ((note x m cs).map (·.id)).Nodup ∧ (note x m cs).length ≤ n + 1 := by
  unfold KaTake.note
  by_cases hs : x.ses = 4294967295
  · rw [if_pos hs]
    refine ⟨fun c hc => ?_, h.nd, by have := h.len; omega⟩
    obtain ⟨h1, h2, h3⟩ := h.wf c hc
    have := h.lens c hc
    exact ⟨h1, h2, h3, by omega, by omega⟩
  · rw [if_neg hs]
    refine ⟨fun c hc => ?_, ?_, ?_⟩
    · obtain ⟨c0, h0, hc⟩ := upd_mem hc
      have hc0 : I64 c0.id ∧ (∀ p ∈ c0.ps, I64 p) ∧ (∀ q ∈ c0.qs, I64 q) ∧ c0.ps.length ≤ 2 * n ∧ c0.qs.length ≤ 2 * n := by
        rcases seen_mem h0 with h1 | ⟨rfl, _⟩
        · obtain ⟨a, b, c⟩ := h.wf c0 h1
          exact ⟨a, b, c, (h.lens c0 h1).1, (h.lens c0 h1).2⟩
        · exact ⟨hx.2.1, by simp, by simp, by simp, by simp⟩
      obtain ⟨h1, h2, h3, h4, h5⟩ := hc0
      rcases hc with ⟨rfl, _⟩ | rfl
      · have p1 := put_len x.pid c0.ps
        have p2 := put_len x.pid c0.qs
        refine ⟨h1, fun p hp => ?_, fun p hp => ?_, ?_, ?_⟩
        · rcases put_mem.1 (show p ∈ put x.pid c0.ps from hp) with rfl | hp
          · exact hx.1
          · exact h2 p hp
        · rcases put_mem.1 (show p ∈ put x.pid c0.qs from hp) with rfl | hp
          · exact hx.1
          · exact h3 p hp
        · show (put x.pid c0.ps).length ≤ _
          omega
        · show (put x.pid c0.qs).length ≤ _
          omega
      · exact ⟨h1, h2, h3, by omega, by omega⟩
    · rw [upd_ids x.ses (fun c => addC x.pid (bump m x.ok c)) (fun c => rfl)]
      exact seen_nd h.nd
    · have := seen_len x.ses x.auid m cs
      have := h.len
      unfold upd
      rw [List.length_map]
      omega
theorem Inv.take {n : Nat} {cs : List Core} (x : KaTake.Act) (m : Int) (hx : GoodA x) (h : Inv n cs) : Inv (n + 1) (take x m cs) := by
  obtain ⟨h1, h2, h3⟩ := h.note x m hx
  unfold KaTake.take
  obtain ⟨l, hl⟩ : ∃ l, l = KaTake.note x m cs := ⟨_, rfl⟩
  rw [← hl] at h1 h2 h3 ⊢
  have base : Inv (n + 1) l := ⟨fun c hc => ⟨(h1 c hc).1, (h1 c hc).2.1, (h1 c hc).2.2.1⟩, h2, h3, fun c hc => by have := (h1 c hc).2.2.2; omega⟩
  have gone : ∀ k, Inv (n + 1) (goneC k l) := by
    intro k
    refine ⟨fun c hc => ?_, by rw [gone_ids]; exact h2, by unfold goneC; rw [List.length_map]; exact h3, fun c hc => ?_⟩
    · obtain ⟨c0, h0, rfl⟩ := gone_mem hc
      exact ⟨(h1 c0 h0).1, (h1 c0 h0).2.1, fun q hq => (h1 c0 h0).2.2.1 q (List.mem_filter.1 hq).1⟩
    · obtain ⟨c0, h0, rfl⟩ := gone_mem hc
      have := (h1 c0 h0).2.2.2
      refine ⟨by dsimp only; omega, Nat.le_trans (List.length_filter_le _ _) (by omega)⟩
  unfold after
  by_cases e0 : x.ok = false
  · rw [if_pos e0]; exact base
  rw [if_neg e0]
  by_cases e1 : (x.call.toList == [102, 111, 114, 107]) = true
  · rw [if_pos e1]
    by_cases e2 : x.ses = 4294967295
    · rw [if_pos e2]; exact base
    · rw [if_neg e2]
      refine ⟨fun c hc => ?_, by rw [upd_ids x.ses (addC x.exit) (fun c => rfl)]; exact h2, by unfold upd; rw [List.length_map]; exact h3, fun c hc => ?_⟩
      · obtain ⟨c0, h0, ⟨rfl, _⟩ | rfl⟩ := upd_mem hc
        · obtain ⟨a, b, c, d⟩ := h1 c0 h0
          refine ⟨a, fun p hp => ?_, fun p hp => ?_⟩
          · rcases put_mem.1 (show p ∈ put x.exit c0.ps from hp) with rfl | hp
            · exact hx.2.2
            · exact b p hp
          · rcases put_mem.1 (show p ∈ put x.exit c0.qs from hp) with rfl | hp
            · exact hx.2.2
            · exact c p hp
        · exact ⟨(h1 c h0).1, (h1 c h0).2.1, (h1 c h0).2.2.1⟩
      · obtain ⟨c0, h0, ⟨rfl, _⟩ | rfl⟩ := upd_mem hc
        · have p1 := put_len x.exit c0.ps
          have p2 := put_len x.exit c0.qs
          have := (h1 c0 h0).2.2.2
          refine ⟨?_, ?_⟩
          · show (put x.exit c0.ps).length ≤ _
            omega
          · show (put x.exit c0.qs).length ≤ _
            omega
        · have := (h1 c h0).2.2.2
          omega
  rw [if_neg e1]
  by_cases e3 : (x.call.toList == [101, 120, 105, 116]) = true
  · rw [if_pos e3]; exact gone _
  rw [if_neg e3]
  by_cases e4 : (x.call.toList == [108, 111, 103, 105, 110]) = true
  · rw [if_pos e4]; exact gone _
  rw [if_neg e4]
  by_cases e5 : (x.call.toList == [107, 105, 108, 108]) = true
  · rw [if_pos e5]
    by_cases e6 : x.a1 = 0
    · rw [if_pos e6]; exact base
    · rw [if_neg e6]; exact gone _
  rw [if_neg e5]; exact base
theorem Inv.runs (boot : Int) : ∀ (es : List SE) (n : Nat) (cs : List Core), (∀ e ∈ es, GoodE e) → Inv n cs → Inv (n + es.length) (runsP boot es cs)
  | [], n, cs, _, h => h
  | e :: es, n, cs, he, h => by
    have h1 : Inv (n + 1) (stepP boot cs e) := by
      unfold stepP
      by_cases hr : (readP e boot).2 = true
      · rw [if_pos hr]; exact h.take _ _ (readP_good e boot (he e List.mem_cons_self))
      · rw [if_neg hr]; exact h.mono (by omega)
    have := Inv.runs boot es (n + 1) (stepP boot cs e) (fun e h => he e (List.mem_cons_of_mem _ h)) h1
    rw [show n + 1 + es.length = n + (e :: es).length by simp; omega] at this
    exact this
theorem inv0 : Inv 0 [] := ⟨by simp, by simp, by simp, by simp⟩
theorem w64_of {x : Int} (h : I64 x) : KaOf.w64 x = true := by
  unfold KaOf.w64 I64 at *
  simp only [Lit.wf, Bool.and_eq_true, decide_eq_true_eq]
  exact h
theorem Inv.fits {n : Nat} {cs : List Core} (h : Inv n cs) (hn : n ≤ 500000000) : KaOf.fits cs = true := by
  unfold KaOf.fits
  simp only [Bool.and_eq_true, List.all_eq_true, decide_eq_true_eq]
  refine ⟨fun c hc => ?_, by have := h.len; omega⟩
  unfold KaOf.fit
  obtain ⟨h1, h2, h3⟩ := h.wf c hc
  have := h.lens c hc
  simp only [Bool.and_eq_true, List.all_eq_true, decide_eq_true_eq]
  exact ⟨⟨⟨⟨w64_of h1, fun p hp => w64_of (h2 p hp)⟩, fun p hp => w64_of (h3 p hp)⟩, by omega⟩, by omega⟩
theorem of_ev (l : List SE) (boot : Int) (ended : Bool) (hl : ∀ e ∈ l, GoodE e) (hn : l.length ≤ 100000) : Ev (fun k => sessions_Of.f k l boot ended) (KaOf.outs ended (runsP boot l [])) ∧ Inv l.length (runsP boot l []) := by
  have hi := Inv.runs boot l 0 [] hl inv0
  rw [Nat.zero_add] at hi
  refine ⟨Ev.congr (fun k => by rw [sessions_Of.f]) (Ev.bind (runs_ev boot l [] hl) ?_), hi⟩
  exact Ev.pos (hi.fits (by omega)) (Ev.now _)
end Go.Proofs.YtjgehecnamadcaaDoor.Q
