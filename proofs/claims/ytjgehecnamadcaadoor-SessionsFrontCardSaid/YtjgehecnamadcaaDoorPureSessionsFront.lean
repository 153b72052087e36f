/- The pure statement of SessionsFront: sessions only grow. -/
import Derived.Test.YtjgehecnamadcaaDoorQx7
import Derived.Test.YtjgehecnamadcaaDoorKaBegun
namespace Go.Proofs.YtjgehecnamadcaaDoor.Q.PSessionsFront
open Go.RowKit Go.Proofs.YtjgehecnamadcaaDoorW.PrintWords Go.Proofs.YtjgehecnamadcaaDoor.KaTake
set_option linter.unusedVariables false
set_option linter.unusedSimpArgs false
abbrev SS := S31
/-- One session later. -/
structure Le (c d : Core) : Prop where
  id : d.id = c.id
  au : d.au = c.au
  fi : d.fi = c.fi
  la : c.la ≤ d.la
  ev : c.ev ≤ d.ev
  fa : c.fa ≤ d.fa
  ps : c.ps.length ≤ d.ps.length
theorem Le.refl (c : Core) : Le c c := ⟨rfl, rfl, rfl, Int.le_refl _, Int.le_refl _, Int.le_refl _, Nat.le_refl _⟩
theorem Le.trans {a b c : Core} (h : Le a b) (k : Le b c) : Le a c := ⟨k.id.trans h.id, k.au.trans h.au, k.fi.trans h.fi, Int.le_trans h.la k.la, Int.le_trans h.ev k.ev, Int.le_trans h.fa k.fa, Nat.le_trans h.ps k.ps⟩
def Grow (cs ds : List Core) : Prop := ∀ c ∈ cs, ∃ d ∈ ds, Le c d
theorem Grow.refl (cs : List Core) : Grow cs cs := fun c hc => ⟨c, hc, Le.refl c⟩
theorem Grow.trans {a b c : List Core} (h : Grow a b) (k : Grow b c) : Grow a c := fun x hx => by
  obtain ⟨y, hy, h1⟩ := h x hx
  obtain ⟨z, hz, h2⟩ := k y hy
  exact ⟨z, hz, h1.trans h2⟩
def Cap (n : Nat) (m : Int) (cs : List Core) : Prop := ∀ c ∈ cs, (0 ≤ c.ev ∧ c.ev ≤ n) ∧ (0 ≤ c.fa ∧ c.fa ≤ n) ∧ c.la ≤ m
theorem grow_upd (id : Int) (f : Core → Core) (l : List Core) (h : ∀ c ∈ l, Le c (f c)) : Grow l (upd id f l) := by
  intro c hc
  unfold upd
  refine ⟨_, List.mem_map.2 ⟨c, hc, rfl⟩, ?_⟩
  by_cases e : c.id = id
  · rw [if_pos e]; exact h c hc
  · rw [if_neg e]; exact Le.refl c
theorem grow_gone (k : Int) (l : List Core) : Grow l (goneC k l) := by
  intro c hc
  unfold goneC
  exact ⟨_, List.mem_map.2 ⟨c, hc, rfl⟩, rfl, rfl, rfl, Int.le_refl _, Int.le_refl _, Int.le_refl _, Nat.le_refl _⟩
theorem addC_le (k : Int) (c : Core) : Le c (addC k c) := ⟨rfl, rfl, rfl, Int.le_refl _, Int.le_refl _, Int.le_refl _, (put_len k c.ps).1⟩
theorem grow_after (x : KaTake.Act) (l : List Core) : Grow l (after x l) := by
  unfold after
  split
  · exact Grow.refl l
  split
  · split
    · exact Grow.refl l
    · exact grow_upd _ _ _ (fun c _ => addC_le _ c)
  split
  · exact grow_gone _ _
  split
  · exact grow_gone _ _
  split
  · split
    · exact Grow.refl l
    · exact grow_gone _ _
  · exact Grow.refl l
theorem bump_le {n : Nat} {m s : Int} {c : Core} (ok : Bool) (hn : n ≤ 1000000) (hs : m ≤ s) (h : (0 ≤ c.ev ∧ c.ev ≤ n) ∧ (0 ≤ c.fa ∧ c.fa ≤ n) ∧ c.la ≤ m) : Le c (bump s ok c) ∧ (0 ≤ (bump s ok c).ev ∧ (bump s ok c).ev ≤ n + 1) ∧ (0 ≤ (bump s ok c).fa ∧ (bump s ok c).fa ≤ n + 1) ∧ (bump s ok c).la = s := by
  have h1 : wrap64 (c.ev + 1) = c.ev + 1 := w64 (by omega) (by omega)
  have h2 : wrap64 (c.fa + 1) = c.fa + 1 := w64 (by omega) (by omega)
  unfold bump
  rw [h1, h2]
  cases ok
  · exact ⟨⟨rfl, rfl, rfl, by dsimp only; omega, by dsimp only; omega, by dsimp only; simp; omega, Nat.le_refl _⟩, by dsimp only; omega, by dsimp only; simp; omega, rfl⟩
  · exact ⟨⟨rfl, rfl, rfl, by dsimp only; omega, by dsimp only; omega, by dsimp only; simp, Nat.le_refl _⟩, by dsimp only; omega, by dsimp only; simp; omega, rfl⟩
theorem note_grow {n : Nat} {m s : Int} {cs : List Core} (x : KaTake.Act) (hn : n ≤ 1000000) (hm : 0 ≤ m) (hs : m ≤ s) (h : Cap n m cs) : Grow cs (note x s cs) ∧ Cap (n + 1) s (note x s cs) := by
  unfold KaTake.note
  by_cases hu : x.ses = 4294967295
  · rw [if_pos hu]
    exact ⟨Grow.refl cs, fun c hc => by have := h c hc; omega⟩
  · rw [if_neg hu]
    have hseen : Cap n m (KaTake.seen x.ses x.auid s cs) := by
      intro c hc
      rcases seen_mem hc with h1 | ⟨rfl, _⟩
      · exact h c h1
      · dsimp only
        omega
    have g1 : Grow cs (KaTake.seen x.ses x.auid s cs) := by
      intro c hc
      refine ⟨c, ?_, Le.refl c⟩
      unfold KaTake.seen
      split
      · exact hc
      · exact List.mem_append_left _ hc
    refine ⟨g1.trans (grow_upd _ _ _ (fun c hc => (bump_le x.ok hn hs (hseen c hc)).1.trans (addC_le _ _))), fun c hc => ?_⟩
    obtain ⟨c0, h0, ⟨rfl, _⟩ | rfl⟩ := upd_mem hc
    · obtain ⟨_, a, b, e⟩ := bump_le x.ok hn hs (hseen c0 h0)
      exact ⟨a, b, Int.le_of_eq e⟩
    · have := hseen c h0
      omega
theorem after_cap {n : Nat} {m : Int} {cs : List Core} (x : KaTake.Act) (h : Cap n m cs) : Cap n m (after x cs) := by
  have hu : ∀ id k, Cap n m (upd id (addC k) cs) := by
    intro id k c hc
    obtain ⟨c0, h0, ⟨rfl, _⟩ | rfl⟩ := upd_mem hc
    · exact h c0 h0
    · exact h c h0
  have hg : ∀ k, Cap n m (goneC k cs) := by
    intro k c hc
    obtain ⟨c0, h0, rfl⟩ := gone_mem hc
    exact h c0 h0
  unfold after
  split
  · exact h
  split
  · split
    · exact h
    · exact hu _ _
  split
  · exact hg _
  split
  · exact hg _
  split
  · split
    · exact h
    · exact hg _
  · exact h
theorem step_grow {n : Nat} {m : Int} {cs : List Core} (e : SE) (hn : n ≤ 1000000) (hm : 0 ≤ m) (hs : m ≤ e.f1) (h : Cap n m cs) : Grow cs (stepP 1 cs e) ∧ Cap (n + 1) e.f1 (stepP 1 cs e) := by
  unfold stepP
  by_cases hr : (readP e 1).2 = true
  · rw [if_pos hr]
    obtain ⟨g, c⟩ := note_grow (readP e 1).1 hn hm hs h
    exact ⟨g.trans (grow_after _ _), after_cap _ c⟩
  · rw [if_neg hr]
    exact ⟨Grow.refl cs, fun c hc => by have := h c hc; omega⟩
theorem runs_grow : ∀ (l : List SE) (n : Nat) (m : Int) (cs : List Core), n + l.length ≤ 1000000 → 0 ≤ m → (∀ e ∈ l, m ≤ e.f1) → l.Pairwise (fun a b => a.f1 ≤ b.f1) → Cap n m cs → Grow cs (runsP 1 l cs)
  | [], n, m, cs, _, _, _, _, _ => Grow.refl cs
  | e :: l, n, m, cs, hn, hm, hs, hp, h => by
    obtain ⟨h1, h2⟩ := List.pairwise_cons.1 hp
    have he := hs e List.mem_cons_self
    rw [List.length_cons] at hn
    obtain ⟨g, c⟩ := step_grow e (by omega) hm he h
    exact g.trans (runs_grow l (n + 1) e.f1 (stepP 1 cs e) (by omega) (by omega) h1 h2 c)
theorem runs_cap : ∀ (l : List SE) (n : Nat) (m M : Int) (cs : List Core), n + l.length ≤ 1000000 → 0 ≤ m → m ≤ M → (∀ e ∈ l, m ≤ e.f1 ∧ e.f1 ≤ M) → l.Pairwise (fun a b => a.f1 ≤ b.f1) → Cap n m cs → Cap (n + l.length) M (runsP 1 l cs)
  | [], n, m, M, cs, _, _, hM, _, _, h => fun c hc => by have := h c hc; simp only [List.length_nil]; omega
  | e :: l, n, m, M, cs, hn, hm, hM, hs, hp, h => by
    obtain ⟨h1, h2⟩ := List.pairwise_cons.1 hp
    have he := hs e List.mem_cons_self
    rw [List.length_cons] at hn
    obtain ⟨g, c⟩ := step_grow e (by omega) hm he.1 h
    have := runs_cap l (n + 1) e.f1 M (stepP 1 cs e) (by omega) (by omega) he.2 (fun e' h => ⟨h1 e' h, (hs e' (List.mem_cons_of_mem _ h)).2⟩) h2 c
    rw [show n + 1 + l.length = n + (e :: l).length by simp; omega] at this
    exact this
/-- Get, in plain words. -/
def resS : Option SS → Int × Int × Int × Int × Int × Int × Int × List Int × List Int × Bool
  | none => (0, 0, 0, 0, 0, 0, 0, [], [], false)
  | some s => (s.f0, s.f1, s.f2, s.f3, s.f4, s.f5, s.f6, s.f7, s.f8, true)
theorem rdS_at {l : List SS} {i : Nat} (h : i < l.length) : rd_T31 l (i : Int) = l[i] := by simp [rd_T31, List.getD_eq_getElem?_getD, h]
theorem clone_eq {l : List Int} (h : l.length < 17592186044416) : slices_Clone.f l = some l := by
  unfold slices_Clone.f
  rw [if_pos h]
theorem getS_loop (id : Int) (l : List SS) (hl : l.length ≤ 1000000) (hs : ∀ s ∈ l, s.f7.length < 17592186044416 ∧ s.f8.length < 17592186044416) : ∀ (d i : Nat), l.length - i = d → i ≤ l.length → Ev (fun k => sessions_Get.l0 k id l (l.length : Int) (i : Int)) (resS ((l.drop i).find? fun s => decide (s.f0 = id))) := by
  intro d
  induction d with
  | zero =>
    intro i hd hi
    have hn : ¬ (i : Int) < (l.length : Int) := by omega
    refine Ev.step (fun k => by rw [sessions_Get.l0]) (Ev.neg hn ?_)
    rw [List.drop_of_length_le (by omega)]
    exact Ev.now _
  | succ d ih =>
    intro i hd hi
    have hlt : i < l.length := by omega
    have h0 : (0 : Int) ≤ (i : Int) := by omega
    have h1 : (i : Int) < (l.length : Int) := by omega
    refine Ev.step (fun k => by rw [sessions_Get.l0]) (Ev.pos h1 (Ev.pos h0 (Ev.pos h1 ?_)))
    rw [rdS_at hlt, List.drop_eq_getElem_cons hlt, List.find?_cons]
    by_cases he : l[i].f0 = id
    · refine Ev.pos he ?_
      have hc := hs _ (List.getElem_mem hlt)
      simp only [he, decide_true]
      refine Ev.call (clone_eq hc.1) (Ev.call (clone_eq hc.2) ?_)
      unfold resS
      dsimp only
      rw [he]
      exact Ev.now _
    · refine Ev.neg he ?_
      simp only [he, decide_false]
      rw [w64 (by omega) (by omega), show (i : Int) + 1 = ((i + 1 : Nat) : Int) by omega]
      exact ih (i + 1) (by omega) (by omega)
theorem getS_ev (id : Int) (l : List SS) (hl : l.length ≤ 1000000) (hs : ∀ s ∈ l, s.f7.length < 17592186044416 ∧ s.f8.length < 17592186044416) : Ev (fun k => sessions_Get.f k l id) (resS (l.find? fun s => decide (s.f0 = id))) := by
  have := getS_loop id l hl hs l.length 0 (by omega) (by omega)
  rw [List.drop_zero] at this
  exact Ev.congr (fun k => by rw [sessions_Get.f]; rfl) this
theorem look_id {cs : List Core} {id : Int} (h : id ∈ cs.map (·.id)) : (KaOf.look cs id).id = id ∧ KaOf.look cs id ∈ cs := by
  unfold KaOf.look
  cases hf : cs.find? (fun c => decide (c.id = id)) with
  | none =>
    obtain ⟨c, hc, rfl⟩ := List.mem_map.1 h
    have := List.find?_eq_none.1 hf c hc
    simp at this
  | some c => exact ⟨by simpa using List.find?_some hf, List.mem_of_find?_eq_some hf⟩
theorem outs_mem {ended : Bool} {cs : List Core} {s : SS} (hs : s ∈ KaOf.outs ended cs) : ∃ c ∈ cs, s = KaOf.fin ended c := by
  unfold KaOf.outs at hs
  obtain ⟨id, hid, rfl⟩ := List.mem_map.1 hs
  exact ⟨_, (look_id (KaOf.srt_mem.1 hid)).2, rfl⟩
theorem outs_find {ended : Bool} {cs : List Core} (hn : (cs.map (·.id)).Nodup) {c : Core} (hc : c ∈ cs) : (KaOf.outs ended cs).find? (fun s => decide (s.f0 = c.id)) = some (KaOf.fin ended c) := by
  cases hf : (KaOf.outs ended cs).find? (fun s => decide (s.f0 = c.id)) with
  | none =>
    have hm : KaOf.fin ended c ∈ KaOf.outs ended cs := by
      unfold KaOf.outs
      exact List.mem_map.2 ⟨c.id, KaOf.srt_mem.2 (List.mem_map.2 ⟨c, hc, rfl⟩), by rw [KaOf.look_at hn hc]⟩
    have := List.find?_eq_none.1 hf _ hm
    simp [KaOf.fin] at this
  | some s =>
    obtain ⟨d, hd, rfl⟩ := outs_mem (List.mem_of_find?_eq_some hf)
    have he : d.id = c.id := by
      have h0 : decide (d.id = c.id) = true := List.find?_some (p := fun s : SS => decide (s.f0 = c.id)) hf
      exact of_decide_eq_true h0
    have h1 := KaOf.look_at hn hd
    have h2 := KaOf.look_at hn hc
    rw [he, h2] at h1
    rw [h1]
theorem outs_len {ended : Bool} (cs : List Core) : (KaOf.outs ended cs).length = cs.length := by
  unfold KaOf.outs
  rw [List.length_map, KaOf.srt_length, List.length_map]
theorem outs_lens {ended : Bool} {n : Nat} {cs : List Core} (h : Inv n cs) (hn : n ≤ 1000000) : ∀ s ∈ KaOf.outs ended cs, s.f7.length < 17592186044416 ∧ s.f8.length < 17592186044416 := by
  intro s hs
  obtain ⟨c, hc, rfl⟩ := outs_mem hs
  have := h.lens c hc
  show (KaOf.srt c.ps).length < _ ∧ (KaOf.srt c.qs).length < _
  rw [KaOf.srt_length, KaOf.srt_length]
  omega
/-- The loop over the sessions of the front. -/
theorem loop_ev (A B : List SS) (hA : A.length ≤ 1000000) (hAs : ∀ s ∈ A, s.f7.length < 17592186044416 ∧ s.f8.length < 17592186044416) (hB : B.length ≤ 1000000)
    (h : ∀ s ∈ B, ∃ t, A.find? (fun x => decide (x.f0 = s.f0)) = some t ∧ t.f2 = s.f2 ∧ t.f1 = s.f1 ∧ s.f4 ≤ t.f4 ∧ s.f5 ≤ t.f5 ∧ s.f7.length ≤ t.f7.length ∧ s.f3 ≤ t.f3) : ∀ (d i : Nat), B.length - i = d → i ≤ B.length → Ev (fun k => kauditlaw41_SessionsFront.l0 k A B (B.length : Int) (i : Int)) true := by
  intro d
  induction d with
  | zero =>
    intro i hd hi
    have hn : ¬ (i : Int) < (B.length : Int) := by omega
    exact Ev.step (fun k => by rw [kauditlaw41_SessionsFront.l0]) (Ev.neg hn (Ev.bind begun_ev (Ev.now _)))
  | succ d ih =>
    intro i hd hi
    have hlt : i < B.length := by omega
    have h0 : (0 : Int) ≤ (i : Int) := by omega
    have h1 : (i : Int) < (B.length : Int) := by omega
    obtain ⟨t, ht, e2, e1, l4, l5, l7, l3⟩ := h _ (List.getElem_mem hlt)
    have hg := getS_ev B[i].f0 A hA hAs
    rw [ht] at hg
    refine Ev.step (fun k => by rw [kauditlaw41_SessionsFront.l0]) (Ev.pos h1 (Ev.pos h0 (Ev.pos h1 ?_)))
    rw [rdS_at hlt]
    refine Ev.bind hg ?_
    have n4 : ¬ t.f4 < B[i].f4 := by omega
    have n5 : ¬ t.f5 < B[i].f5 := by omega
    have n7 : ¬ (t.f7.length : Int) < (B[i].f7.length : Int) := by omega
    have n3 : ¬ t.f3 < B[i].f3 := by omega
    refine Ev.pos rfl (Ev.pos e2 (Ev.pos e1 (Ev.neg n4 (Ev.neg n5 (Ev.neg n7 (Ev.neg n3 ?_))))))
    rw [w64 (by omega) (by omega), show (i : Int) + 1 = ((i + 1 : Nat) : Int) by omega]
    exact ih (i + 1) (by omega) (by omega)
theorem pure : ∀ (x0 : List Int) (x1 : Int), ((x0).length * 1 ≤ 140737488351232 ∧ ∀ a ∈ (x0), (Lit.int .u8 a).wf = true) → (Lit.int .u8 x1).wf = true → ∃ k, kauditlaw41_SessionsFront.f k x0 x1 = some true := by
  intro x0 x1 h hx
  refine Ev.rounds (g := fun k => kauditlaw41_SessionsFront.f k x0 x1) ?_
  have hx' := wf_u8 hx
  obtain ⟨cs, e1, ok⟩ := new_ok x0 300 (by omega) (by omega) (fun x hx => wf_u8 (h.2 x hx))
  obtain ⟨l, a', e2, hR, hl⟩ := events_ok ok
  have hw : wrap64 ((l.length : Int) + 1) = (l.length : Int) + 1 := w64 (by omega) (by omega)
  have hw1 : wrap64 x1 = x1 := w64 (by omega) (by omega)
  obtain ⟨n, hn⟩ : ∃ n, n = Int.tmod (wrap64 x1) (wrap64 ((l.length : Int) + 1)) := ⟨_, rfl⟩
  have hn0 : 0 ≤ n := by rw [hn, hw1]; exact Int.tmod_nonneg _ hx'.1
  have hn1 : n ≤ (l.length : Int) := by
    have : n < (l.length : Int) + 1 := by rw [hn, hw]; exact Int.tmod_lt_of_pos _ (by omega)
    omega
  have hgood : ∀ e ∈ l, GoodE e := fun e he => (hR.1 e he).1
  obtain ⟨e3, hI⟩ := of_ev l 1 false hgood (by omega)
  obtain ⟨e4, hJ⟩ := of_ev (l.take n.toNat) 1 false (fun e he => hgood e (List.mem_of_mem_take he)) (Nat.le_trans (List.length_take_le _ _) (by omega))
  have hne : ¬ wrap64 ((l.length : Int) + 1) = 0 := by rw [hw]; omega
  refine Ev.congr (fun k => by rw [kauditlaw41_SessionsFront.f]) (Ev.bind (a := true) ?_ (Ev.pos rfl (Ev.now _)))
  refine Ev.congr (fun k => by rw [kauditlaw41_SessionsFront.g]) (Ev.call e1 (Ev.bind e2 (Ev.neg hne (Ev.bind e3 ?_))))
  show Ev (fun k => if 0 ≤ Int.tmod (wrap64 x1) (wrap64 ((l.length : Int) + 1)) then (if Int.tmod (wrap64 x1) (wrap64 ((l.length : Int) + 1)) ≤ (l.length : Int) then (sessions_Of.f k (l.take (Int.tmod (wrap64 x1) (wrap64 ((l.length : Int) + 1))).toNat) 1 false).bind (fun t => kauditlaw41_SessionsFront.l0 k (KaOf.outs false (runsP 1 l [])) t (t.length : Int) 0) else none) else none) true
  rw [← hn]
  refine Ev.pos hn0 (Ev.pos hn1 (Ev.bind e4 ?_))
  have hcap : Cap (l.take n.toNat).length 29 (runsP 1 (l.take n.toNat) []) := by
    have := runs_cap (l.take n.toNat) 0 0 29 [] (by have := List.length_take_le n.toNat l; omega) (by omega) (by omega) (fun e he => by have := hR.1 e (List.mem_of_mem_take he); omega) (hR.2.sublist (List.take_sublist _ _)) (by intro c hc; cases hc)
    rw [Nat.zero_add] at this
    exact this
  have hgrow : Grow (runsP 1 (l.take n.toNat) []) (runsP 1 l []) := by
    have h1 : runsP 1 l [] = runsP 1 (l.drop n.toNat) (runsP 1 (l.take n.toNat) []) := by rw [← runsP_append, List.take_append_drop]
    rw [h1]
    -- a bound on what is behind: the serials of what follows are at least those before
    cases hd : l.drop n.toNat with
    | nil => exact Grow.refl _
    | cons e r =>
      have hpw := hR.2
      rw [← List.take_append_drop n.toNat l, hd] at hpw
      obtain ⟨p1, p2, p3⟩ := List.pairwise_append.1 hpw
      have hse : ∀ e' ∈ l.take n.toNat, e'.f1 ≤ e.f1 := fun e' h => p3 e' h e List.mem_cons_self
      have he : e ∈ l := List.mem_of_mem_drop (by rw [hd]; exact List.mem_cons_self)
      have hc2 : Cap (l.take n.toNat).length e.f1 (runsP 1 (l.take n.toNat) []) := by
        have := runs_cap (l.take n.toNat) 0 0 e.f1 [] (by have := List.length_take_le n.toNat l; omega) (by omega) (by have := (hR.1 e he).2; omega) (fun e' h => ⟨by have := hR.1 e' (List.mem_of_mem_take h); omega, hse e' h⟩) p1 (by intro c hc; cases hc)
        rw [Nat.zero_add] at this
        exact this
      refine runs_grow (e :: r) (l.take n.toNat).length e.f1 _ ?_ (by have := (hR.1 e he).2; omega) ?_ p2 hc2
      · have h5 := congrArg List.length (List.take_append_drop n.toNat l)
        rw [hd, List.length_append] at h5
        omega
      · intro e' h
        rcases List.mem_cons.1 h with rfl | h
        · exact Int.le_refl _
        · exact (List.pairwise_cons.1 p2).1 e' h
  refine loop_ev _ _ (by rw [outs_len]; have := hI.len; omega) (outs_lens hI (by omega)) (by rw [outs_len]; have := hJ.len; have := List.length_take_le n.toNat l; omega) (fun s hs => ?_) _ 0 rfl (Nat.zero_le _)
  obtain ⟨c, hc, rfl⟩ := outs_mem hs
  obtain ⟨d, hd, hle⟩ := hgrow c hc
  refine ⟨KaOf.fin false d, ?_, hle.fi, hle.au, hle.ev, hle.fa, ?_, hle.la⟩
  · show (KaOf.outs false (runsP 1 l [])).find? (fun x => decide (x.f0 = c.id)) = _
    rw [← hle.id]
    exact outs_find hI.nd hd
  · show (KaOf.srt c.ps).length ≤ (KaOf.srt d.ps).length
    rw [KaOf.srt_length, KaOf.srt_length]
    exact hle.ps
end Go.Proofs.YtjgehecnamadcaaDoor.Q.PSessionsFront
