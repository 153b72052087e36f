/- The pure statement of SessionsEnd: behind exits of all that is alive no session has a process that is alive. -/
import Derived.Test.YtjgehecnamadcaaDoorQx7
import Derived.Test.YtjgehecnamadcaaDoorKaBegun
namespace Go.Proofs.YtjgehecnamadcaaDoor.Q.PSessionsEnd
open Go.RowKit Go.Proofs.YtjgehecnamadcaaDoorW.PrintWords Go.Proofs.YtjgehecnamadcaaDoor.KaTake
set_option linter.unusedVariables false
set_option linter.unusedSimpArgs false
def exitE (t : Int × Int) : SE := actE 100 (⟨#[101, 120, 105, 116]⟩ : ByteArray) t.1 t.2 0 0 0 (⟨#[121, 101, 115]⟩ : ByteArray)
theorem exit_read (t : Int × Int) : readP (exitE t) 1 = (⟨t.1, t.2, 7, 0, 0, 0, (⟨#[101, 120, 105, 116]⟩ : ByteArray), true⟩, true) := by
  simp [readP, exitE, actE, rd_T75, KaRead.names, numsP, numP, getP, textP, ByteArray.toList_eq, KaRead.ofNums]
theorem exit_alive {cs : List Core} {t : Int × Int} {c : Core} {q : Int} (hc : c ∈ stepP 1 cs (exitE t)) (hq : q ∈ c.qs) : q ≠ t.1 ∧ ∃ c0 ∈ cs, q ∈ c0.qs := by
  have hc' : c ∈ goneC t.1 (KaTake.note ⟨t.1, t.2, 7, 0, 0, 0, (⟨#[101, 120, 105, 116]⟩ : ByteArray), true⟩ 100 cs) := by
    rw [stepP, exit_read] at hc
    have e : KaTake.take ⟨t.1, t.2, 7, 0, 0, 0, (⟨#[101, 120, 105, 116]⟩ : ByteArray), true⟩ 100 cs = goneC t.1 (KaTake.note ⟨t.1, t.2, 7, 0, 0, 0, (⟨#[101, 120, 105, 116]⟩ : ByteArray), true⟩ 100 cs) := by
      simp [KaTake.take, after, ByteArray.toList_eq]
    rw [← e]
    exact hc
  obtain ⟨c1, h1, rfl⟩ := gone_mem hc'
  obtain ⟨hq1, hq2⟩ := List.mem_filter.1 hq
  have hne : q ≠ t.1 := by simpa using hq2
  refine ⟨hne, ?_⟩
  unfold KaTake.note at h1
  dsimp only at h1
  by_cases hs : t.2 = 4294967295
  · rw [if_pos hs] at h1
    exact ⟨c1, h1, hq1⟩
  · rw [if_neg hs] at h1
    obtain ⟨c0, h0, hc⟩ := upd_mem h1
    have : q ∈ c0.qs := by
      rcases hc with ⟨rfl, _⟩ | rfl
      · exact (put_mem.1 (show q ∈ KaSes.put t.1 c0.qs from hq1)).resolve_left hne
      · exact hq1
    rcases seen_mem h0 with h | ⟨rfl, _⟩
    · exact ⟨c0, h, this⟩
    · cases this
theorem exits_alive : ∀ (X : List (Int × Int)) (cs : List Core) (c : Core) (q : Int), c ∈ runsP 1 (X.map exitE) cs → q ∈ c.qs → (∀ t ∈ X, q ≠ t.1) ∧ ∃ c0 ∈ cs, q ∈ c0.qs
  | [], cs, c, q, hc, hq => ⟨by simp, c, hc, hq⟩
  | t :: X, cs, c, q, hc, hq => by
    obtain ⟨h1, c1, h2, h3⟩ := exits_alive X (stepP 1 cs (exitE t)) c q hc hq
    obtain ⟨h4, h5⟩ := exit_alive h2 h3
    exact ⟨fun u hu => by
      rcases List.mem_cons.1 hu with rfl | hu
      · exact h4
      · exact h1 u hu, h5⟩
/-- Who is to exit: all that are alive in what is told. -/
def outX (S : List S31) : List (Int × Int) := S.flatMap fun s => s.f8.map fun p => (p, s.f0)
theorem look_id {cs : List Core} {id : Int} (h : id ∈ cs.map (·.id)) : (KaOf.look cs id).id = id ∧ KaOf.look cs id ∈ cs := by
  unfold KaOf.look
  cases hf : cs.find? (fun c => decide (c.id = id)) with
  | none =>
    obtain ⟨c, hc, rfl⟩ := List.mem_map.1 h
    have := List.find?_eq_none.1 hf c hc
    simp at this
  | some c => exact ⟨by simpa using List.find?_some hf, List.mem_of_find?_eq_some hf⟩
theorem outs_mem {ended : Bool} {cs : List Core} {s : S31} (hs : s ∈ KaOf.outs ended cs) : ∃ c ∈ cs, s = KaOf.fin ended c := by
  unfold KaOf.outs at hs
  obtain ⟨id, hid, rfl⟩ := List.mem_map.1 hs
  exact ⟨_, (look_id (KaOf.srt_mem.1 hid)).2, rfl⟩
theorem outX_all {cs : List Core} (hn : (cs.map (·.id)).Nodup) {c : Core} (hc : c ∈ cs) {q : Int} (hq : q ∈ c.qs) : ∃ t ∈ outX (KaOf.outs false cs), q = t.1 := by
  refine ⟨(q, c.id), ?_, rfl⟩
  unfold outX KaOf.outs
  refine List.mem_flatMap.2 ⟨KaOf.fin false c, List.mem_map.2 ⟨c.id, KaOf.srt_mem.2 (List.mem_map.2 ⟨c, hc, rfl⟩), by rw [KaOf.look_at hn hc]⟩, List.mem_map.2 ⟨q, KaOf.srt_mem.2 hq, rfl⟩⟩
theorem all_closed {cs : List Core} (hn : (cs.map (·.id)).Nodup) {s : S31} (hs : s ∈ KaOf.outs true (runsP 1 ((outX (KaOf.outs false cs)).map exitE) cs)) : s.f6 = 2 := by
  obtain ⟨c, hm, rfl⟩ := outs_mem hs
  show KaOf.stOf true c.qs = 2
  unfold KaOf.stOf
  rw [if_pos]
  cases hq : c.qs with
  | nil => rfl
  | cons q l =>
    exfalso
    obtain ⟨h1, c0, h2, h3⟩ := exits_alive _ _ _ q hm (by rw [hq]; exact List.mem_cons_self)
    obtain ⟨t, ht, e⟩ := outX_all hn h2 h3
    exact h1 t ht e
theorem outX_good {n : Nat} {cs : List Core} (h : Inv n cs) : (∀ t ∈ outX (KaOf.outs false cs), I64 t.1 ∧ I64 t.2) ∧ (outX (KaOf.outs false cs)).length ≤ n * (2 * n) := by
  have hf : ∀ s ∈ KaOf.outs false cs, I64 s.f0 ∧ (∀ p ∈ s.f8, I64 p) ∧ s.f8.length ≤ 2 * n := by
    intro s hs
    obtain ⟨_, hm, rfl⟩ := outs_mem hs
    obtain ⟨a, b, c⟩ := h.wf _ hm
    refine ⟨a, fun p hp => c p (KaOf.srt_mem.1 hp), ?_⟩
    show (KaOf.srt _).length ≤ _
    rw [KaOf.srt_length]
    exact (h.lens _ hm).2
  have hl : (KaOf.outs false cs).length ≤ n := by
    unfold KaOf.outs
    rw [List.length_map, KaOf.srt_length, List.length_map]
    exact h.len
  refine ⟨fun t ht => ?_, ?_⟩
  · obtain ⟨s, hs, ht⟩ := List.mem_flatMap.1 ht
    obtain ⟨p, hp, rfl⟩ := List.mem_map.1 ht
    exact ⟨(hf s hs).2.1 p hp, (hf s hs).1⟩
  · have hgen : ∀ (S : List S31), (∀ s ∈ S, s.f8.length ≤ 2 * n) → (outX S).length ≤ S.length * (2 * n) := by
      intro S
      induction S with
      | nil => intro _; simp [outX]
      | cons s S ih =>
        intro h
        have h1 := ih (fun s hs => h s (List.mem_cons_of_mem _ hs))
        have h2 := h s List.mem_cons_self
        unfold outX at h1 ⊢
        rw [List.flatMap_cons, List.length_append, List.length_map, List.length_cons, Nat.add_mul, Nat.one_mul]
        omega
    exact Nat.le_trans (hgen _ (fun s hs => (hf s hs).2.2)) (Nat.mul_le_mul_right _ hl)
theorem exit_good {t : Int × Int} (h : I64 t.1 ∧ I64 t.2) : GoodE (exitE t) := act_good h.1 h.2 (i64_of (by omega) (by omega)) (i64_of (by omega) (by omega)) (i64_of (by omega) (by omega))
theorem rd_at {l : List Int} {i : Nat} (h : i < l.length) : rd l (i : Int) = l[i] := by simp [rd, List.getD_eq_getElem?_getD, h]
theorem rdS_at {l : List S31} {i : Nat} (h : i < l.length) : rd_T31 l (i : Int) = l[i] := by simp [rd_T31, List.getD_eq_getElem?_getD, h]
/-- The loop over the sessions in the end. -/
theorem l2_ev (o : List S31) (h : ∀ s ∈ o, s.f6 = 2) (hl : o.length ≤ 1000000) : ∀ (d i : Nat), o.length - i = d → i ≤ o.length → Ev (fun k => kauditlaw41_SessionsEnd.l2 k o (o.length : Int) (i : Int)) true := by
  intro d
  induction d with
  | zero =>
    intro i hd hi
    have hn : ¬ (i : Int) < (o.length : Int) := by omega
    exact Ev.step (fun k => by rw [kauditlaw41_SessionsEnd.l2]) (Ev.neg hn (Ev.bind begun_ev (Ev.now _)))
  | succ d ih =>
    intro i hd hi
    have h0 : (0 : Int) ≤ (i : Int) := by omega
    have h1 : (i : Int) < (o.length : Int) := by omega
    have h2 : (rd_T31 o (i : Int)).f6 = 2 := by
      rw [rdS_at (by omega)]
      exact h _ (List.getElem_mem _)
    refine Ev.step (fun k => by rw [kauditlaw41_SessionsEnd.l2]) (Ev.pos h1 (Ev.pos h0 (Ev.pos h1 (Ev.pos h2 ?_))))
    rw [w64 (by omega) (by omega), show (i : Int) + 1 = ((i + 1 : Nat) : Int) by omega]
    exact ih (i + 1) (by omega) (by omega)
/-- The loop over one session's processes. -/
theorem l1_ev (S : List S31) (x16 : Int) (P : List Int) (f0 f1 f2 f3 f4 f5 f6 : Int) (f7 f8 : List Int) (hP : P.length ≤ 1000000) : ∀ (d i : Nat), P.length - i = d → i ≤ P.length → ∀ l : List SE, l.length + P.length ≤ 1000000 + i →
    Ev (fun k => kauditlaw41_SessionsEnd.l0 k (l ++ (P.drop i).map fun p => exitE (p, f0)) S (S.length : Int) (wrap64 (x16 + 1))) true →
    Ev (fun k => kauditlaw41_SessionsEnd.l1 k l S (S.length : Int) x16 P (P.length : Int) (i : Int) f0 f1 f2 f3 f4 f5 f6 f7 f8) true := by
  intro d
  induction d with
  | zero =>
    intro i hd hi l hl ev
    have hn : ¬ (i : Int) < (P.length : Int) := by omega
    rw [List.drop_of_length_le (by omega), List.map_nil, List.append_nil] at ev
    exact Ev.step (fun k => by rw [kauditlaw41_SessionsEnd.l1]) (Ev.neg hn ev)
  | succ d ih =>
    intro i hd hi l hl ev
    have h0 : (0 : Int) ≤ (i : Int) := by omega
    have h1 : (i : Int) < (P.length : Int) := by omega
    have h2 : l.length < 2513169434916 := by omega
    have hlt : i < P.length := by omega
    refine Ev.step (fun k => by rw [kauditlaw41_SessionsEnd.l1]) (Ev.pos h1 (Ev.pos h0 (Ev.pos h1 (Ev.call (act_eq _ _ _ _ _ _ _ _) (Ev.pos h2 ?_)))))
    rw [rd_at hlt, w64 (by omega) (by omega), show (i : Int) + 1 = ((i + 1 : Nat) : Int) by omega]
    refine ih (i + 1) (by omega) (by omega) _ (by simp; omega) ?_
    rw [List.drop_eq_getElem_cons hlt, List.map_cons] at ev
    rw [List.append_assoc]
    exact ev
/-- The loop over the sessions. -/
theorem l0_ev (S : List S31) (hS : S.length ≤ 1000000) (hP : ∀ s ∈ S, s.f8.length ≤ 1000) : ∀ (d i : Nat), S.length - i = d → i ≤ S.length → ∀ l : List SE, l.length + (outX (S.drop i)).length ≤ 900000 →
    Ev (fun k => (sessions_Of.f k (l ++ (outX (S.drop i)).map exitE) 1 true).bind fun t => kauditlaw41_SessionsEnd.l2 k t (t.length : Int) 0) true →
    Ev (fun k => kauditlaw41_SessionsEnd.l0 k l S (S.length : Int) (i : Int)) true := by
  intro d
  induction d with
  | zero =>
    intro i hd hi l hl ev
    have hn : ¬ (i : Int) < (S.length : Int) := by omega
    rw [List.drop_of_length_le (by omega), show (outX []).map exitE = [] from rfl, List.append_nil] at ev
    exact Ev.step (fun k => by rw [kauditlaw41_SessionsEnd.l0]) (Ev.neg hn ev)
  | succ d ih =>
    intro i hd hi l hl ev
    have h0 : (0 : Int) ≤ (i : Int) := by omega
    have h1 : (i : Int) < (S.length : Int) := by omega
    have hlt : i < S.length := by omega
    have hx : outX (S.drop i) = S[i].f8.map (fun p => (p, S[i].f0)) ++ outX (S.drop (i + 1)) := by
      rw [List.drop_eq_getElem_cons hlt]
      unfold outX
      rw [List.flatMap_cons]
    have hp := hP _ (List.getElem_mem hlt)
    rw [hx, List.length_append, List.length_map] at hl
    refine Ev.step (fun k => by rw [kauditlaw41_SessionsEnd.l0]) (Ev.pos h1 (Ev.pos h0 (Ev.pos h1 ?_)))
    rw [rdS_at hlt]
    refine l1_ev S (i : Int) S[i].f8 _ _ _ _ _ _ _ _ _ (by omega) _ 0 rfl (Nat.zero_le _) l (by omega) ?_
    rw [List.drop_zero, w64 (by omega) (by omega), show (i : Int) + 1 = ((i + 1 : Nat) : Int) by omega]
    refine ih (i + 1) (by omega) (by omega) _ (by simp; omega) ?_
    rw [hx, List.map_append, List.map_map, ← List.append_assoc] at ev
    exact ev
theorem pure : ∀ (x0 : List Int), ((x0).length * 1 ≤ 140737488351232 ∧ ∀ a ∈ (x0), (Lit.int .u8 a).wf = true) → ∃ k, kauditlaw41_SessionsEnd.f k x0 = some true := by
  intro x0 h
  refine Ev.rounds (g := fun k => kauditlaw41_SessionsEnd.f k x0) ?_
  obtain ⟨cs, e1, ok⟩ := new_ok x0 300 (by omega) (by omega) (fun x hx => wf_u8 (h.2 x hx))
  obtain ⟨l, a', e2, hR, hl⟩ := events_ok ok
  obtain ⟨e3, hI⟩ := of_ev l 1 false (fun e he => (hR.1 e he).1) (by omega)
  refine Ev.congr (fun k => by rw [kauditlaw41_SessionsEnd.f]) (Ev.bind (a := true) ?_ (Ev.pos rfl (Ev.now _)))
  refine Ev.congr (fun k => by rw [kauditlaw41_SessionsEnd.g]) (Ev.call e1 (Ev.bind e2 (Ev.bind e3 ?_)))
  obtain ⟨S, hS⟩ : ∃ S, S = KaOf.outs false (runsP 1 l []) := ⟨_, rfl⟩
  obtain ⟨x1, x2⟩ := outX_good hI
  have hmul : l.length * (2 * l.length) ≤ 29 * (2 * 29) := Nat.mul_le_mul hl (by omega)
  have hSl : S.length ≤ 29 := by
    rw [hS]
    unfold KaOf.outs
    rw [List.length_map, KaOf.srt_length, List.length_map]
    exact Nat.le_trans hI.len hl
  have hSp : ∀ s ∈ S, s.f8.length ≤ 1000 := by
    intro s hs
    rw [hS] at hs
    obtain ⟨_, hm, rfl⟩ := outs_mem hs
    show (KaOf.srt _).length ≤ _
    rw [KaOf.srt_length]
    have := (hI.lens _ hm).2
    omega
  rw [← hS] at x1 x2 ⊢
  have hgood : ∀ e ∈ l ++ (outX S).map exitE, GoodE e := by
    intro e he
    rcases List.mem_append.1 he with h | h
    · exact (hR.1 e h).1
    · obtain ⟨t, ht, rfl⟩ := List.mem_map.1 h
      exact exit_good (x1 t ht)
  have hlen : (l ++ (outX S).map exitE).length ≤ 100000 := by
    simp only [List.length_append, List.length_map]
    omega
  obtain ⟨e4, hI2⟩ := of_ev (l ++ (outX S).map exitE) 1 true hgood hlen
  refine l0_ev S (by omega) hSp S.length 0 (by omega) (Nat.zero_le _) l (by rw [List.drop_zero]; omega) ?_
  rw [List.drop_zero]
  refine Ev.bind e4 ?_
  refine l2_ev _ (fun s hs => ?_) ?_ _ 0 rfl (Nat.zero_le _)
  · rw [runsP_append, hS] at hs
    exact all_closed hI.nd hs
  · unfold KaOf.outs
    rw [List.length_map, KaOf.srt_length, List.length_map]
    exact Nat.le_trans hI2.len (by omega)
end Go.Proofs.YtjgehecnamadcaaDoor.Q.PSessionsEnd
