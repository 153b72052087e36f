/- sessions: what 'take' leaves of the state, plain laws first. -/
import Derived.Test.YtjgehecnamadcaaDoorKaSes
import Derived.Deep.CutRange
import Derived.BigRegion
namespace Go.Proofs.YtjgehecnamadcaaDoor.KaTake
set_option linter.unusedVariables false
set_option linter.unusedSimpArgs false
open Go.RowKit Go.Proofs.YtjgehecnamadcaaDoor.KaMap Go.Proofs.YtjgehecnamadcaaDoor.KaSes
/-- A session as the specification sees it. -/
structure Core where
  id : Int
  au : Int
  fi : Int
  la : Int
  ev : Int
  fa : Int
  ps : List Int
  qs : List Int
def core (c : Ses) : Core := ⟨c.id, c.au, c.fi, c.la, c.ev, c.fa, c.ps, c.qs⟩
def upd (id : Int) (f : Core → Core) (l : List Core) : List Core := l.map fun c => if c.id = id then f c else c
def seen (id au fi : Int) (l : List Core) : List Core := if id ∈ l.map (·.id) then l else l ++ [⟨id, au, fi, 0, 0, 0, [], []⟩]
def addC (k : Int) (c : Core) : Core := { c with ps := put k c.ps, qs := put k c.qs }
def bump (n : Int) (ok : Bool) (c : Core) : Core := { c with la := n, ev := wrap64 (c.ev + 1), fa := if ok then c.fa else wrap64 (c.fa + 1) }
def goneC (k : Int) (l : List Core) : List Core := l.map fun c => { c with qs := c.qs.filter fun x => decide (x ≠ k) }
structure Act where
  pid : Int
  ses : Int
  auid : Int
  exit : Int
  a0 : Int
  a1 : Int
  call : ByteArray
  ok : Bool
def Act.val (x : Act) : Value := .agg #[.int .i64 x.pid, .int .i64 x.ses, .int .i64 x.auid, .int .i64 x.exit, .int .i64 x.a0, .int .i64 x.a1, .string x.call, .bool x.ok]
def note (x : Act) (n : Int) (l : List Core) : List Core := if x.ses = 4294967295 then l else upd x.ses (fun c => addC x.pid (bump n x.ok c)) (seen x.ses x.auid n l)
def after (x : Act) (l : List Core) : List Core :=
  if x.ok = false then l else
  if (x.call.toList == [102, 111, 114, 107]) = true then (if x.ses = 4294967295 then l else upd x.ses (addC x.exit) l) else
  if (x.call.toList == [101, 120, 105, 116]) = true then goneC x.pid l else
  if (x.call.toList == [108, 111, 103, 105, 110]) = true then goneC x.pid l else
  if (x.call.toList == [107, 105, 108, 108]) = true then (if x.a1 = 0 then l else goneC x.a0 l) else l
def take (x : Act) (n : Int) (l : List Core) : List Core := after x (note x n l)
/-- The session at i turned into another at the same blocks. -/
theorem St.step {w w' : World} {m i : Nat} {L : List Ses} {c : Ses} (hS : St w m L) (hi : i < L.length) (hb : c.b = L[i].b) (hp : c.p = L[i].p) (hq : c.q = L[i].q) (hid : c.id = L[i].id) (hone : One w' c) (hoff : ∀ k, k < w.heap.size → k ∉ L[i].foot → w'.heap[k]? = w.heap[k]?) : St w' m (L.set i c) := by
  obtain ⟨hM, hO, hA⟩ := hS
  have hfoot : c.foot = L[i].foot := by simp [Ses.foot, hb, hp, hq]
  have hlt : ∀ c' ∈ L, ∀ x ∈ c'.foot, x < w.heap.size := by
    intro c' hc' x hx
    have := (hO c' hc').lt
    simp [Ses.foot] at hx
    omega
  have hids : (L.set i c).map (·.id) = L.map (·.id) := by
    apply List.ext_getElem?
    intro j
    simp only [List.getElem?_map, List.getElem?_set]
    by_cases e : i = j
    · subst e; simp [hi, hid]
    · simp [e]
  have hptr : (L.set i c).map (·.ptr) = L.map (·.ptr) := by
    apply List.ext_getElem?
    intro j
    simp only [List.getElem?_map, List.getElem?_set]
    by_cases e : i = j
    · subst e; simp [hi, Ses.ptr, hb]
    · simp [e]
  have hft : (L.set i c).map (·.foot) = L.map (·.foot) := by
    apply List.ext_getElem?
    intro j
    simp only [List.getElem?_map, List.getElem?_set]
    by_cases e : i = j
    · subst e; simp [hi, hfoot]
    · simp [e]
  have hmi : m ∉ L[i].foot := (hA.1 _ (List.getElem_mem hi)).1
  refine ⟨by rw [hids, hptr]; exact IsMap.move hM (hoff m (IsMap.lt hM) hmi), fun c' hc' => ?_, ?_, ?_⟩
  · obtain ⟨j, hj, rfl⟩ := List.mem_iff_getElem.1 hc'
    have hj' : j < L.length := by simpa using hj
    by_cases e : i = j
    · subst e; simpa using hone
    · rw [List.getElem_set_ne e]
      have h1 : ∀ x ∈ L[j].foot, w'.heap[x]? = w.heap[x]? := fun x hx => hoff x (hlt _ (List.getElem_mem hj') x hx) (hA.at_ hj' hi (Ne.symm e) x hx)
      exact (hO _ (List.getElem_mem hj')).move (h1 _ (by simp [Ses.foot])) (h1 _ (by simp [Ses.foot])) (h1 _ (by simp [Ses.foot]))
  · intro c' hc'
    have h1 : c'.foot ∈ (L.set i c).map (·.foot) := List.mem_map.2 ⟨c', hc', rfl⟩
    rw [hft] at h1
    obtain ⟨c0, h2, h3⟩ := List.mem_map.1 h1
    rw [← h3]
    exact hA.1 c0 h2
  · have h1 : (L.map (·.foot)).Pairwise fun a b => ∀ x ∈ a, x ∉ b := List.pairwise_map.2 hA.2
    rw [← hft] at h1
    exact List.pairwise_map.1 h1
/-- A new session. -/
theorem St.snoc {w w' : World} {m : Nat} {L : List Ses} {c : Ses} (hS : St w m L) (hM : IsMap w' m (L.map (·.id) ++ [c.id]) (L.map (·.ptr) ++ [c.ptr])) (hone : One w' c) (hnew : ∀ x ∈ c.foot, w.heap.size ≤ x) (hnd : c.foot.Nodup) (hoff : ∀ k, k < w.heap.size → k ≠ m → w'.heap[k]? = w.heap[k]?) : St w' m (L ++ [c]) := by
  obtain ⟨hM0, hO, hA⟩ := hS
  have hlt : ∀ c' ∈ L, ∀ x ∈ c'.foot, x < w.heap.size := by
    intro c' hc' x hx
    have := (hO c' hc').lt
    simp [Ses.foot] at hx
    omega
  refine ⟨by simpa using hM, fun c' hc' => ?_, fun c' hc' => ?_, ?_⟩
  · rcases List.mem_append.1 hc' with h | h
    · have h1 : ∀ x ∈ c'.foot, w'.heap[x]? = w.heap[x]? := fun x hx => hoff x (hlt c' h x hx) (fun e => (hA.1 c' h).1 (e ▸ hx))
      exact (hO c' h).move (h1 _ (by simp [Ses.foot])) (h1 _ (by simp [Ses.foot])) (h1 _ (by simp [Ses.foot]))
    · obtain rfl : c' = c := by simpa using h
      exact hone
  · rcases List.mem_append.1 hc' with h | h
    · exact hA.1 c' h
    · obtain rfl : c' = c := by simpa using h
      exact ⟨fun h => by have := hnew m h; have := IsMap.lt hM0; omega, hnd⟩
  · refine List.pairwise_append.2 ⟨hA.2, by simp, fun a ha b hb x hx hx2 => ?_⟩
    obtain rfl : b = c := by simpa using hb
    have := hnew x hx2
    have := hlt a ha x hx
    omega
theorem upd_set {L : List Ses} {i : Nat} {c : Ses} {f : Core → Core} (hn : (L.map (·.id)).Nodup) (hi : i < L.length) (hc : core c = f (core L[i])) : (L.set i c).map core = upd L[i].id f (L.map core) := by
  apply List.ext_getElem?
  intro j
  unfold upd
  rw [List.map_map, List.getElem?_map, List.getElem?_map, List.getElem?_set]
  by_cases e : i = j
  · subst e
    simp [hi, hc, show (core L[i]).id = L[i].id from rfl]
  · rw [if_neg e]
    by_cases hj : j < L.length
    · rw [List.getElem?_eq_getElem hj]
      have hne : ¬ L[j].id = L[i].id := fun h => e ((List.getElem_inj (h₀ := by simpa using hi) (h₁ := by simpa using hj) hn).1 (by simpa using h.symm))
      simp [core, hne]
    · simp [Nat.le_of_not_lt hj]
/-- Between: the sessions as they are, the two boxes, and that all else stands. -/
structure Mid (w : World) (m : Nat) (L : List Ses) (x : Act) (wc : World) (L1 : List Ses) : Prop where
  st : St wc m L1
  new : ∀ c ∈ L1, ∀ k ∈ c.foot, (∃ c0 ∈ L, k ∈ c0.foot) ∨ w.heap.size + 2 ≤ k
  kp : Kp w wc fun k => k = m ∨ ∃ c ∈ L, k ∈ c.foot
  b3 : wc.heap[w.heap.size]? = some (.cells #[.map (some m)] 54 (0, 0))
  b4 : wc.heap[w.heap.size + 1]? = some (.cells #[.int .i64 x.pid, .int .i64 x.ses, .int .i64 x.auid, .int .i64 x.exit, .int .i64 x.a0, .int .i64 x.a1, .string x.call, .bool x.ok] 56 (0, 0))
  same : Same w wc
theorem blk_set {w : World} {g : Nat} {t : TypeId} {cs : Array Value} (h : w.heap[g]? = some (.cells cs t (0, 0))) (i : Nat) (u : Value) : (w.setCell ⟨g, i, none⟩ u).heap[g]? = some (.cells (cs.setIfInBounds i u) t (0, 0)) := heap_setCell_same w g i cs t u h
theorem Mid.far {w wc : World} {m : Nat} {L L1 : List Ses} {x : Act} (hS : St w m L) (h : Mid w m L x wc L1) {i : Nat} (hi : i < L1.length) : ∀ k ∈ L1[i].foot, k ≠ w.heap.size ∧ k ≠ w.heap.size + 1 ∧ (k < w.heap.size → ∃ c0 ∈ L, k ∈ c0.foot) := by
  intro k hk
  rcases h.new _ (List.getElem_mem hi) k hk with ⟨c0, h1, h2⟩ | h1
  · have := (hS.2.1 c0 h1).lt
    have hlt : k < w.heap.size := by simp [Ses.foot] at h2; omega
    exact ⟨by omega, by omega, fun _ => ⟨c0, h1, h2⟩⟩
  · exact ⟨by omega, by omega, fun h => by omega⟩
theorem Mid.step {w wc w' : World} {m i : Nat} {L L1 : List Ses} {x : Act} {c : Ses} (hS : St w m L) (h : Mid w m L x wc L1) (hi : i < L1.length) (hb : c.b = L1[i].b) (hp : c.p = L1[i].p) (hq : c.q = L1[i].q) (hid : c.id = L1[i].id) (hone : One w' c) (hsz : wc.heap.size ≤ w'.heap.size) (hoff : ∀ k, k < wc.heap.size → k ∉ L1[i].foot → w'.heap[k]? = wc.heap[k]?) (hsm : Same wc w') : Mid w m L x w' (L1.set i c) := by
  have hfar := h.far hS hi
  have hs3 := (Array.getElem?_eq_some_iff.1 h.b3).1
  have hs4 := (Array.getElem?_eq_some_iff.1 h.b4).1
  refine ⟨St.step h.st hi hb hp hq hid hone hoff, fun c' hc' k hk => ?_, ⟨Nat.le_trans h.kp.1 hsz, fun k hk hn => ?_⟩, ?_, ?_, h.same.trans hsm⟩
  · rcases List.mem_or_eq_of_mem_set hc' with h1 | h1
    · exact h.new c' h1 k hk
    · subst h1
      exact h.new _ (List.getElem_mem hi) k (by simpa [Ses.foot, hb, hp, hq] using hk)
  · refine (hoff k (by have := h.kp.1; omega) (fun hf => hn (.inr ((hfar k hf).2.2 hk)))).trans (h.kp.2 k hk hn)
  · exact (hoff _ hs3 (fun hf => (hfar _ hf).1 rfl)).trans h.b3
  · exact (hoff _ hs4 (fun hf => (hfar _ hf).2.1 rfl)).trans h.b4
theorem foot3 {w : World} {m i : Nat} {L : List Ses} (hS : St w m L) (hi : i < L.length) : L[i].b ≠ L[i].p ∧ L[i].b ≠ L[i].q ∧ L[i].p ≠ L[i].q := by
  have := (hS.2.2.1 _ (List.getElem_mem hi)).2
  simp [Ses.foot] at this
  exact ⟨this.1.1, this.1.2, this.2⟩
theorem add_mid {w wc : World} {m i : Nat} {L L1 : List Ses} {x : Act} (k : Int) (hS : St w m L) (h : Mid w m L x wc L1) (hi : i < L1.length) :
    Calls Tryd.prog 41 #[.pointer (some ⟨L1[i].b, 0, none⟩), .int .i64 k] wc fun e w' => e = .returned (.tuple #[]) ∧ ∃ c, Mid w m L x w' (L1.set i c) ∧ core c = addC k (core L1[i]) ∧ c.b = L1[i].b := by
  have hone := h.st.2.1 _ (List.getElem_mem hi)
  obtain ⟨hbp, hbq, hpq⟩ := foot3 h.st hi
  refine (add_calls k hone.1 rfl rfl hone.2.1 hone.2.2 hbp hpq.symm).mono ?_
  rintro e w' ⟨rfl, o1, o2, rfl, h1, h2⟩
  refine ⟨rfl, { L1[i] with ps := put k L1[i].ps, qs := put k L1[i].qs }, h.step hS hi rfl rfl rfl rfl ⟨?_, h1, h2⟩ (by simp [put_size]) (fun k hk hf => ?_) ⟨rfl, rfl, rfl⟩, rfl, rfl⟩
  · exact (put_other hbq).trans ((put_other hbp).trans hone.1)
  · simp [Ses.foot] at hf
    exact (put_other (fun e => hf.2.2 e)).trans (put_other (fun e => hf.2.1 e))
theorem gone_mid {w wc : World} {m : Nat} {L L1 : List Ses} {x : Act} (k : Int) (hS : St w m L) (h : Mid w m L x wc L1) :
    Calls Tryd.prog 42 #[.agg #[.map (some m)], .int .i64 k] wc fun e w' => e = .returned (.tuple #[]) ∧ Mid w m L x w' (L1.map (drop k)) := by
  refine (gone_calls k h.st).mono ?_
  rintro e w' ⟨rfl, h1, h2, h9⟩
  have hs3 := (Array.getElem?_eq_some_iff.1 h.b3).1
  have hs4 := (Array.getElem?_eq_some_iff.1 h.b4).1
  have hfar : ∀ k, (∃ c ∈ L1, k = c.q) → k ≠ w.heap.size ∧ k ≠ w.heap.size + 1 ∧ (k < w.heap.size → ∃ c0 ∈ L, k ∈ c0.foot) := by
    rintro k ⟨c, hc, rfl⟩
    obtain ⟨i, hi, rfl⟩ := List.mem_iff_getElem.1 hc
    exact h.far hS hi _ (by simp [Ses.foot])
  refine ⟨rfl, h1, fun c' hc' k hk => ?_, ⟨Nat.le_trans h.kp.1 h2.1, fun k hk hn => ?_⟩, ?_, ?_, h.same.trans h9⟩
  · obtain ⟨c0, h3, rfl⟩ := List.mem_map.1 hc'
    exact h.new c0 h3 k hk
  · exact (h2.2 k (by have := h.kp.1; omega) (fun hf => hn (.inr ((hfar k hf).2.2 hk)))).trans (h.kp.2 k hk hn)
  · exact (h2.2 _ hs3 (fun hf => (hfar _ hf).1 rfl)).trans h.b3
  · exact (h2.2 _ hs4 (fun hf => (hfar _ hf).2.1 rfl)).trans h.b4
theorem gone_core (k : Int) (L : List Ses) : (L.map (drop k)).map core = goneC k (L.map core) := by
  simp [goneC, core, drop, Function.comp_def]
theorem Mid.out {w wc : World} {m : Nat} {L L1 : List Ses} {x : Act} (h : Mid w m L x wc L1) : (∀ c ∈ L1, ∀ k ∈ c.foot, (∃ c0 ∈ L, k ∈ c0.foot) ∨ w.heap.size ≤ k) := fun c hc k hk => (h.new c hc k hk).imp id (fun h => by omega)
set_option maxRecDepth 100000 in
set_option maxHeartbeats 2000000 in
theorem take_calls {w : World} {m : Nat} {L : List Ses} (x : Act) (n : Int) (hS : St w m L) :
    Calls Tryd.prog 22 #[.agg #[.map (some m)], x.val, .int .i64 n] w fun e w' => e = .returned (.tuple #[]) ∧ ∃ L1, St w' m L1 ∧ L1.map core = take x n (L.map core) ∧ (∀ c ∈ L1, ∀ k ∈ c.foot, (∃ c0 ∈ L, k ∈ c0.foot) ∨ w.heap.size ≤ k) ∧ Kp w w' (fun k => k = m ∨ ∃ c ∈ L, k ∈ c.foot) ∧ Same w w' := by
  unfold Act.val
  go_enter Tryd.func22, Tryd.ntmps22
  go_upto_if 9 with fail
  obtain ⟨W0, hW0⟩ : ∃ W, W = (w.alloc (.cells #[.map (some m)] 54)).alloc (.cells #[.int .i64 x.pid, .int .i64 x.ses, .int .i64 x.auid, .int .i64 x.exit, .int .i64 x.a0, .int .i64 x.a1, .string x.call, .bool x.ok] 56) := ⟨_, rfl⟩
  rw [← hW0]
  go_cut [6] from 9 to 72 (fun s6 wc => ∃ L1, Mid w m L x wc L1 ∧ L1.map core = note x n (L.map core) ∧ ((x.ses = 4294967295 ∧ s6 = .pointer none) ∨ (x.ses ≠ 4294967295 ∧ ∃ i, ∃ h : i < L1.length, L1[i].id = x.ses ∧ s6 = L1[i].ptr)))
  case first =>
    have hsz : W0.heap.size = w.heap.size + 2 := by rw [hW0]; simp
    have h0 : ∀ j, j < w.heap.size → W0.heap[j]? = w.heap[j]? := by
      intro j hj
      rw [hW0]
      rw [(MapKept.heap_alloc _ _).2 j (by simp; omega), (MapKept.heap_alloc _ _).2 j hj]
    have hb3 : W0.heap[w.heap.size]? = some (.cells #[.map (some m)] 54 (0, 0)) := by
      rw [hW0, (MapKept.heap_alloc _ _).2 _ (by simp)]
      exact (MapKept.heap_alloc _ _).1
    have hb4 : W0.heap[w.heap.size + 1]? = some (.cells #[.int .i64 x.pid, .int .i64 x.ses, .int .i64 x.auid, .int .i64 x.exit, .int .i64 x.a0, .int .i64 x.a1, .string x.call, .bool x.ok] 56 (0, 0)) := by
      rw [hW0]
      have := (MapKept.heap_alloc (w.alloc (.cells #[.map (some m)] 54)) (.cells #[.int .i64 x.pid, .int .i64 x.ses, .int .i64 x.auid, .int .i64 x.exit, .int .i64 x.a0, .int .i64 x.a1, .string x.call, .bool x.ok] 56)).1
      simpa using this
    have hbnd : ∀ c ∈ L, ∀ k ∈ c.foot, k < w.heap.size := fun c hc k hk => by have := (hS.2.1 c hc).lt; simp [Ses.foot] at hk; omega
    have hM0 : Mid w m L x W0 L := ⟨⟨IsMap.move hS.1 (h0 _ (IsMap.lt hS.1)), fun c hc => (hS.2.1 c hc).move (h0 _ (hbnd c hc _ (by simp [Ses.foot]))) (h0 _ (hbnd c hc _ (by simp [Ses.foot]))) (h0 _ (hbnd c hc _ (by simp [Ses.foot]))), hS.2.2⟩, fun c hc k hk => .inl ⟨c, hc, hk⟩, ⟨by omega, fun k hk _ => h0 k hk⟩, hb3, hb4, by rw [hW0]; exact ⟨rfl, rfl, rfl⟩⟩
    have HW := Lib.hid hW0
    clear hW0
    by_cases hu : x.ses = 4294967295
    · have e : (x.ses != 4294967295) = false := by simp [hu]
      go_wp2_with fail
      go_meet
      exact ⟨L, hM0, by rw [note, if_pos hu], .inl ⟨hu, rfl⟩⟩
    · have e : (x.ses != 4294967295) = true := by simp [hu]
      have f0 : W0.cell? ⟨w.heap.size, 0, none⟩ = some (.map (some m)) := by simp [World.cell?, hb3]
      have c1 : W0.cell? ⟨w.heap.size + 1, 1, none⟩ = some (.int .i64 x.ses) := by simp [World.cell?, hb4]
      obtain ⟨po, hlook, hpo⟩ : ∃ po : Option Addr, (Instr.lookup 52 (.map (some m)) (.int .i64 x.ses) false).run Tryd.prog W0 = .ok (.pointer po) W0 ∧ ((∃ i, ∃ h : i < L.length, L[i].id = x.ses ∧ po = some ⟨L[i].b, 0, none⟩) ∨ (x.ses ∉ L.map (·.id) ∧ po = none)) := by
        by_cases hm : x.ses ∈ L.map (·.id)
        · obtain ⟨i, hi, h1⟩ := List.mem_iff_getElem.1 hm
          have hi' : i < L.length := by simpa using hi
          have h2 : L[i].id = x.ses := by simpa using h1
          exact ⟨_, look_hit uMS uI hM0.st.1 (show (L.map (·.id))[i]? = some x.ses by simp [hi', h2]) (show (L.map (·.ptr))[i]? = some (.pointer (some ⟨L[i].b, 0, none⟩)) by simp [hi', Ses.ptr]), .inl ⟨i, hi', h2, rfl⟩⟩
        · exact ⟨none, look_miss uMS uI (fun w => by rfl) hM0.st.1 hm, .inr ⟨hm, rfl⟩⟩
      go_upto_if 16 with fail
      go_cut [6] from 17 to 42 (fun s6 wc => ∃ L1 i, ∃ h : i < L1.length, Mid w m L x wc L1 ∧ L1.map core = seen x.ses x.auid n (L.map core) ∧ L1[i].id = x.ses ∧ s6 = L1[i].ptr)
      case first =>
        rcases hpo with ⟨i, hi, hid, rfl⟩ | ⟨hmiss, rfl⟩
        · go_wp2_with fail
          go_meet
          exact ⟨L, i, hi, hM0, by rw [seen, if_pos]; rw [List.map_map]; exact List.mem_map.2 ⟨L[i], List.getElem_mem hi, hid⟩, hid, rfl⟩
        · have hmk : ∀ w : World, (Instr.makeMap 66 none).run Tryd.prog w = .ok (.map (some w.heap.size)) (w.alloc (.map #[] 0)) := fun w => rfl
          go_upto_region 6 with fail
          obtain ⟨W1, hW1⟩ : ∃ W, W = ((W0.alloc (.map #[] 0)).alloc (.map #[] 0)).alloc (.cells #[.int .i64 0, .int .i64 0, .int .i64 0, .int .i64 0, .int .i64 0, .int .i64 0, .int .i64 0, .slice none 0 0, .slice none 0 0, .map (some (w.heap.size + 2)), .map (some (w.heap.size + 2 + 1))] 68) := ⟨_, rfl⟩
          rw [← hW1]
          have g1 : W1.heap[w.heap.size + 2 + 1 + 1]? = some (.cells #[.int .i64 0, .int .i64 0, .int .i64 0, .int .i64 0, .int .i64 0, .int .i64 0, .int .i64 0, .slice none 0 0, .slice none 0 0, .map (some (w.heap.size + 2)), .map (some (w.heap.size + 2 + 1))] 68 (0, 0)) := by
            have := (MapKept.heap_alloc ((W0.alloc (.map #[] 0)).alloc (.map #[] 0)) (.cells #[.int .i64 0, .int .i64 0, .int .i64 0, .int .i64 0, .int .i64 0, .int .i64 0, .int .i64 0, .slice none 0 0, .slice none 0 0, .map (some (w.heap.size + 2)), .map (some (w.heap.size + 2 + 1))] 68)).1
            rw [hW1]
            simpa [hsz] using this
          have g2 : W1.heap[w.heap.size + 2]? = some (.map #[] 0) := by
            rw [hW1, (MapKept.heap_alloc _ _).2 _ (by simp; omega), (MapKept.heap_alloc _ _).2 _ (by simp; omega)]
            have := (MapKept.heap_alloc W0 (.map #[] 0)).1
            simpa [hsz] using this
          have g3 : W1.heap[w.heap.size + 2 + 1]? = some (.map #[] 0) := by
            rw [hW1, (MapKept.heap_alloc _ _).2 _ (by simp; omega)]
            have := (MapKept.heap_alloc (W0.alloc (.map #[] 0)) (.map #[] 0)).1
            simpa [hsz] using this
          have g4 : ∀ j, j < w.heap.size + 2 → W1.heap[j]? = W0.heap[j]? := by
            intro j hj
            rw [hW1, (MapKept.heap_alloc _ _).2 _ (by simp; omega), (MapKept.heap_alloc _ _).2 _ (by simp; omega), (MapKept.heap_alloc _ _).2 _ (by omega)]
          have g5 : W1.heap.size = w.heap.size + 5 := by rw [hW1]; simp [hsz]
          have gb4 := (g4 _ (by omega)).trans hb4
          have gb3 := (g4 _ (by omega)).trans hb3
          have k0 : W1.cell? ⟨w.heap.size + 2 + 1 + 1, 0, none⟩ = some (.int .i64 0) := by simp [World.cell?, g1]
          have k1 : W1.cell? ⟨w.heap.size + 2 + 1 + 1, 1, none⟩ = some (.int .i64 0) := by simp [World.cell?, g1]
          have k2 : W1.cell? ⟨w.heap.size + 2 + 1 + 1, 2, none⟩ = some (.int .i64 0) := by simp [World.cell?, g1]
          have z0 : W1.frozen? ⟨w.heap.size + 2 + 1 + 1, 0, none⟩ = false := by simp [World.frozen?, g1]
          have z1 : W1.frozen? ⟨w.heap.size + 2 + 1 + 1, 1, none⟩ = false := by simp [World.frozen?, g1]
          have z2 : W1.frozen? ⟨w.heap.size + 2 + 1 + 1, 2, none⟩ = false := by simp [World.frozen?, g1]
          have d1 : W1.cell? ⟨w.heap.size + 1, 1, none⟩ = some (.int .i64 x.ses) := by simp [World.cell?, gb4]
          have d2 : W1.cell? ⟨w.heap.size + 1, 2, none⟩ = some (.int .i64 x.auid) := by simp [World.cell?, gb4]
          have HW1 := Lib.hid hW1
          clear hW1
          go_region
          obtain ⟨W2, hW2⟩ : ∃ W, W = (((W1.setCell ⟨w.heap.size + 2 + 1 + 1, 0, none⟩ (.int .i64 x.ses)).setCell ⟨w.heap.size + 2 + 1 + 1, 1, none⟩ (.int .i64 x.auid)).setCell ⟨w.heap.size + 2 + 1 + 1, 2, none⟩ (.int .i64 n)).drew := ⟨_, rfl⟩
          rw [← hW2]
          have m1 : W2.heap[w.heap.size + 2 + 1 + 1]? = some (.cells (sesCells x.ses x.auid n 0 0 0 (w.heap.size + 2) (w.heap.size + 2 + 1)) 68 (0, 0)) := by
            rw [hW2]
            exact blk_set (blk_set (blk_set g1 0 _) 1 _) 2 _
          have m2 : ∀ j, j ≠ w.heap.size + 2 + 1 + 1 → W2.heap[j]? = W1.heap[j]? := by
            intro j hj
            rw [hW2]
            exact (heap_setCell_other _ ⟨_, 2, none⟩ _ _ hj).trans ((heap_setCell_other _ ⟨_, 1, none⟩ _ _ hj).trans (heap_setCell_other _ ⟨_, 0, none⟩ _ _ hj))
          have m3 : W2.heap.size = w.heap.size + 5 := by rw [hW2, ← g5]; show (((W1.setCell _ _).setCell _ _).setCell _ _).heap.size = _; simp
          have hmlt : m < w.heap.size := IsMap.lt hS.1
          have hIM : IsMap W2 m (L.map (·.id)) (L.map (·.ptr)) := IsMap.move hM0.st.1 ((m2 _ (by omega)).trans (g4 _ (by omega)))
          have n3 := (m2 _ (by omega)).trans gb3
          have n4 := (m2 _ (by omega)).trans gb4
          have q0 : W2.cell? ⟨w.heap.size, 0, none⟩ = some (.map (some m)) := by simp [World.cell?, n3]
          have q1 : W2.cell? ⟨w.heap.size + 1, 1, none⟩ = some (.int .i64 x.ses) := by simp [World.cell?, n4]
          obtain ⟨o, hput, hmap⟩ := put_new (.pointer (some ⟨w.heap.size + 2 + 1 + 1, 0, none⟩)) uMS uI hIM hmiss
          have HW2 := Lib.hid hW2
          clear hW2
          go_wp2_with fail
          go_meet
          have hsets : ∀ b, W2.heap[b]? = some (.map #[] 0) → b ≠ m → IsSet (W2.putObj m o) b [] := fun b hb hne => ⟨#[], 0, (put_other hne).trans hb, ⟨by simp, by simp, by simp⟩, rfl, rfl⟩
          refine ⟨L ++ [⟨w.heap.size + 2 + 1 + 1, w.heap.size + 2, w.heap.size + 2 + 1, x.ses, x.auid, n, 0, 0, 0, [], []⟩], L.length, by simp, ⟨St.snoc hM0.st hmap ⟨(put_other (show w.heap.size + 2 + 1 + 1 ≠ m by omega)).trans m1, hsets _ ((m2 _ (by omega)).trans g2) (by omega), hsets _ ((m2 _ (by omega)).trans g3) (by omega)⟩ (by simp [Ses.foot]; omega) (by simp [Ses.foot]) (fun k hk hne => (put_other hne).trans ((m2 _ (by omega)).trans (g4 _ (by omega)))), ?_, ⟨by rw [put_size]; omega, fun k hk hn => ?_⟩, (put_other (by omega)).trans n3, (put_other (by omega)).trans n4, hM0.same.trans (by rw [HW2.out, HW1.out]; exact ⟨rfl, rfl, rfl⟩)⟩, ?_, by simp, by simp [Ses.ptr]⟩
          · intro c hc k hk
            rcases List.mem_append.1 hc with h | h
            · exact .inl ⟨c, h, hk⟩
            · obtain rfl := List.mem_singleton.1 h
              simp [Ses.foot] at hk
              right; omega
          · exact (put_other (fun e => hn (.inl e))).trans ((m2 _ (by omega)).trans ((g4 _ (by omega)).trans (h0 _ hk)))
          · rw [seen, if_neg]
            · simp [core]
            · rw [List.map_map]; exact hmiss
      case rest =>
        obtain ⟨L1, i, hi, hM, hseen, hid, rfl⟩ := hcut
        have hone := hM.st.2.1 _ (List.getElem_mem hi)
        have hfar := hM.far hS hi
        have hbf := hfar L1[i].b (by simp [Ses.foot])
        have hbn : L1[i].b ≠ w.heap.size + 1 := hbf.2.1
        have hbn' : w.heap.size + 1 ≠ L1[i].b := Ne.symm hbf.2.1
        have k3 : wc.cell? ⟨L1[i].b, 3, none⟩ = some (.int .i64 L1[i].la) := by simp [World.cell?, hone.1, Ses.cells, sesCells]
        have k4 : wc.cell? ⟨L1[i].b, 4, none⟩ = some (.int .i64 L1[i].ev) := by simp [World.cell?, hone.1, Ses.cells, sesCells]
        have k5 : wc.cell? ⟨L1[i].b, 5, none⟩ = some (.int .i64 L1[i].fa) := by simp [World.cell?, hone.1, Ses.cells, sesCells]
        have z3 : wc.frozen? ⟨L1[i].b, 3, none⟩ = false := by simp [World.frozen?, hone.1]
        have z4 : wc.frozen? ⟨L1[i].b, 4, none⟩ = false := by simp [World.frozen?, hone.1]
        have z5 : wc.frozen? ⟨L1[i].b, 5, none⟩ = false := by simp [World.frozen?, hone.1]
        have r0 : wc.cell? ⟨w.heap.size + 1, 0, none⟩ = some (.int .i64 x.pid) := by simp [World.cell?, hM.b4]
        have r7 : wc.cell? ⟨w.heap.size + 1, 7, none⟩ = some (.bool x.ok) := by simp [World.cell?, hM.b4]
        have HM := Lib.hid hM
        have HSN := Lib.hid hseen
        have HID := Lib.hid hid
        have HO := Lib.hid hone
        have HI : RowKit.Hid ((L1.map (·.id)).Nodup) := Lib.hid (IsMap.nodup hM.st.1)
        clear hM hseen hid hone
        unfold Ses.ptr
        rcases (Bool.eq_false_or_eq_true x.ok).symm with hok | hok
        · rw [hok] at r7
          have HK := Lib.hid hok
          clear hok
          go_upto_region 12 with fail
          obtain ⟨c1, hc1⟩ : ∃ c : Ses, c = { L1[i] with la := n, ev := wrap64 (L1[i].ev + 1), fa := wrap64 (L1[i].fa + 1) } := ⟨_, rfl⟩
          obtain ⟨W3, hW3⟩ : ∃ W, W = ((wc.setCell ⟨L1[i].b, 3, none⟩ (.int .i64 n)).setCell ⟨L1[i].b, 4, none⟩ (.int .i64 (wrap64 (L1[i].ev + 1)))).setCell ⟨L1[i].b, 5, none⟩ (.int .i64 (wrap64 (L1[i].fa + 1))) := ⟨_, rfl⟩
          rw [← hW3]
          have m1 : W3.heap[L1[i].b]? = some (.cells c1.cells 68 (0, 0)) := by
            rw [hW3, hc1]
            exact blk_set (blk_set (blk_set HO.out.1 3 _) 4 _) 5 _
          have m2 : ∀ j, j ≠ L1[i].b → W3.heap[j]? = wc.heap[j]? := by
            intro j hj
            rw [hW3]
            exact (heap_setCell_other _ ⟨_, 5, none⟩ _ _ hj).trans ((heap_setCell_other _ ⟨_, 4, none⟩ _ _ hj).trans (heap_setCell_other _ ⟨_, 3, none⟩ _ _ hj))
          have hbpq := foot3 HM.out.st hi
          have hM1 : Mid w m L x W3 (L1.set i c1) := HM.out.step hS hi (by rw [hc1]) (by rw [hc1]) (by rw [hc1]) (by rw [hc1]) ⟨by rw [hc1] at m1 ⊢; exact m1, by rw [hc1]; exact IsMap.move HO.out.2.1 (m2 _ hbpq.1.symm), by rw [hc1]; exact IsMap.move HO.out.2.2 (m2 _ hbpq.2.1.symm)⟩ (by rw [hW3]; simp) (fun k _ hf => m2 k (fun e => hf (by simp [Ses.foot, e]))) (by rw [hW3]; exact ⟨rfl, rfl, rfl⟩)
          have hi1 : i < (L1.set i c1).length := by simpa using hi
          have he1 : (L1.set i c1)[i] = c1 := by simp
          have hb1 : (L1.set i c1)[i].b = L1[i].b := by rw [he1, hc1]
          have hadd := add_mid x.pid hS hM1 hi1
          rw [hb1] at hadd
          have HA := Lib.hid hadd
          have hn4 := hM1.b4
          have r0' : W3.cell? ⟨w.heap.size + 1, 0, none⟩ = some (.int .i64 x.pid) := by simp [World.cell?, hn4]
          have HW3 := Lib.hid hW3
          have HC1 := Lib.hid hc1
          have HE1 := Lib.hid he1
          have HB1 := Lib.hid hb1
          clear hW3 hc1 hadd he1 hb1
          go_wp2_with fail
          refine HA.out.mono ?_
          rintro e w' ⟨rfl, c2, h1, h2, h3⟩
          go_wp2_with fail
          go_meet
          rw [HE1.out] at h2
          rw [List.set_set] at h1
          have hcc : core c2 = addC x.pid (bump n x.ok (core L1[i])) := by rw [h2, HC1.out, HK.out]; rfl
          refine ⟨L1.set i c2, h1, ?_, .inr ⟨hu, i, by simpa using hi, ?_, ?_⟩⟩
          · rw [note, if_neg hu, ← HSN.out, ← HID.out]
            exact upd_set HI.out hi hcc
          · simp only [List.getElem_set_self]
            exact (congrArg Core.id hcc).trans HID.out
          · simp only [List.getElem_set_self, Ses.ptr]
            rw [h3]; try rw [HB1.out]
        · rw [hok] at r7
          have HK := Lib.hid hok
          clear hok
          go_upto_region 12 with fail
          obtain ⟨c1, hc1⟩ : ∃ c : Ses, c = { L1[i] with la := n, ev := wrap64 (L1[i].ev + 1) } := ⟨_, rfl⟩
          obtain ⟨W3, hW3⟩ : ∃ W, W = (wc.setCell ⟨L1[i].b, 3, none⟩ (.int .i64 n)).setCell ⟨L1[i].b, 4, none⟩ (.int .i64 (wrap64 (L1[i].ev + 1))) := ⟨_, rfl⟩
          rw [← hW3]
          have m1 : W3.heap[L1[i].b]? = some (.cells c1.cells 68 (0, 0)) := by
            rw [hW3, hc1]
            exact blk_set (blk_set HO.out.1 3 _) 4 _
          have m2 : ∀ j, j ≠ L1[i].b → W3.heap[j]? = wc.heap[j]? := by
            intro j hj
            rw [hW3]
            exact (heap_setCell_other _ ⟨_, 4, none⟩ _ _ hj).trans (heap_setCell_other _ ⟨_, 3, none⟩ _ _ hj)
          have hbpq := foot3 HM.out.st hi
          have hM1 : Mid w m L x W3 (L1.set i c1) := HM.out.step hS hi (by rw [hc1]) (by rw [hc1]) (by rw [hc1]) (by rw [hc1]) ⟨by rw [hc1] at m1 ⊢; exact m1, by rw [hc1]; exact IsMap.move HO.out.2.1 (m2 _ hbpq.1.symm), by rw [hc1]; exact IsMap.move HO.out.2.2 (m2 _ hbpq.2.1.symm)⟩ (by rw [hW3]; simp) (fun k _ hf => m2 k (fun e => hf (by simp [Ses.foot, e]))) (by rw [hW3]; exact ⟨rfl, rfl, rfl⟩)
          have hi1 : i < (L1.set i c1).length := by simpa using hi
          have he1 : (L1.set i c1)[i] = c1 := by simp
          have hb1 : (L1.set i c1)[i].b = L1[i].b := by rw [he1, hc1]
          have hadd := add_mid x.pid hS hM1 hi1
          rw [hb1] at hadd
          have HA := Lib.hid hadd
          have hn4 := hM1.b4
          have r0' : W3.cell? ⟨w.heap.size + 1, 0, none⟩ = some (.int .i64 x.pid) := by simp [World.cell?, hn4]
          have HW3 := Lib.hid hW3
          have HC1 := Lib.hid hc1
          have HE1 := Lib.hid he1
          have HB1 := Lib.hid hb1
          clear hW3 hc1 hadd he1 hb1
          go_wp2_with fail
          refine HA.out.mono ?_
          rintro e w' ⟨rfl, c2, h1, h2, h3⟩
          go_wp2_with fail
          go_meet
          rw [HE1.out] at h2
          rw [List.set_set] at h1
          have hcc : core c2 = addC x.pid (bump n x.ok (core L1[i])) := by rw [h2, HC1.out, HK.out]; rfl
          refine ⟨L1.set i c2, h1, ?_, .inr ⟨hu, i, by simpa using hi, ?_, ?_⟩⟩
          · rw [note, if_neg hu, ← HSN.out, ← HID.out]
            exact upd_set HI.out hi hcc
          · simp only [List.getElem_set_self]
            exact (congrArg Core.id hcc).trans HID.out
          · simp only [List.getElem_set_self, Ses.ptr]
            rw [h3]; try rw [HB1.out]
  case rest =>
    obtain ⟨L1, hM, hnote, hs⟩ := hcut
    have f0 : wc.cell? ⟨w.heap.size, 0, none⟩ = some (.map (some m)) := by simp [World.cell?, hM.b3]
    have c0 : wc.cell? ⟨w.heap.size + 1, 0, none⟩ = some (.int .i64 x.pid) := by simp [World.cell?, hM.b4]
    have c3 : wc.cell? ⟨w.heap.size + 1, 3, none⟩ = some (.int .i64 x.exit) := by simp [World.cell?, hM.b4]
    have c4 : wc.cell? ⟨w.heap.size + 1, 4, none⟩ = some (.int .i64 x.a0) := by simp [World.cell?, hM.b4]
    have c5 : wc.cell? ⟨w.heap.size + 1, 5, none⟩ = some (.int .i64 x.a1) := by simp [World.cell?, hM.b4]
    have c6 : wc.cell? ⟨w.heap.size + 1, 6, none⟩ = some (.string x.call) := by simp [World.cell?, hM.b4]
    have c7 : wc.cell? ⟨w.heap.size + 1, 7, none⟩ = some (.bool x.ok) := by simp [World.cell?, hM.b4]
    have HM := Lib.hid hM
    have HN := Lib.hid hnote
    have HS := Lib.hid hs
    have hids : (L1.map (·.id)).Nodup := IsMap.nodup hM.st.1
    have HI := Lib.hid hids
    clear hM hnote hW0 hids
    cases hok : x.ok with
    | false =>
      rw [hok] at c7
      go_wp2_with fail
      refine bodyPost_ret (results_none rfl _ _ _) rfl ?_
      exact ⟨rfl, L1, HM.out.st, by rw [take, after, if_pos hok]; exact HN.out, HM.out.out, HM.out.kp, HM.out.same⟩
    | true =>
      rw [hok] at c7
      have hok' : ¬ x.ok = false := by simp [hok]
      cases b1 : (x.call.toList == [102, 111, 114, 107]) with
      | true =>
        rcases hs with ⟨hu, rfl⟩ | ⟨hu, i, hi, hid, rfl⟩
        · go_wp2_with fail
          refine Go.Great.bodyPost_end0 rfl rfl ?_
          exact ⟨rfl, L1, HM.out.st, by rw [take, after, if_neg hok', if_pos b1, if_pos hu]; exact HN.out, HM.out.out, HM.out.kp, HM.out.same⟩
        · unfold Ses.ptr
          go_wp2_with fail
          refine (add_mid x.exit hS HM.out hi).mono ?_
          rintro e w' ⟨rfl, c, h1, h2, h3⟩
          go_wp2_with fail
          refine Go.Great.bodyPost_end0 rfl rfl ?_
          exact ⟨rfl, L1.set i c, h1.st, by rw [take, after, if_neg hok', if_pos b1, if_neg hu, upd_set HI.out hi h2, hid, HN.out], h1.out, h1.kp, h1.same⟩
      | false =>
        cases b2 : (x.call.toList == [101, 120, 105, 116]) with
        | true =>
          go_wp2_with fail
          refine (gone_mid x.pid hS HM.out).mono ?_
          rintro e w' ⟨rfl, h1⟩
          go_wp2_with fail
          refine Go.Great.bodyPost_end0 rfl rfl ?_
          exact ⟨rfl, _, h1.st, by rw [take, after, if_neg hok', if_neg (by simp [b1]), if_pos b2, gone_core, HN.out], h1.out, h1.kp, h1.same⟩
        | false =>
          cases b3 : (x.call.toList == [108, 111, 103, 105, 110]) with
          | true =>
            go_wp2_with fail
            refine (gone_mid x.pid hS HM.out).mono ?_
            rintro e w' ⟨rfl, h1⟩
            go_wp2_with fail
            refine Go.Great.bodyPost_end0 rfl rfl ?_
            exact ⟨rfl, _, h1.st, by rw [take, after, if_neg hok', if_neg (by simp [b1]), if_neg (by simp [b2]), if_pos b3, gone_core, HN.out], h1.out, h1.kp, h1.same⟩
          | false =>
            cases b4 : (x.call.toList == [107, 105, 108, 108]) with
            | true =>
              by_cases ha : x.a1 = 0
              · have ha' : (x.a1 != 0) = false := by simp [ha]
                go_wp2_with fail
                refine Go.Great.bodyPost_end0 rfl rfl ?_
                exact ⟨rfl, L1, HM.out.st, by rw [take, after, if_neg hok', if_neg (by simp [b1]), if_neg (by simp [b2]), if_neg (by simp [b3]), if_pos b4, if_pos ha]; exact HN.out, HM.out.out, HM.out.kp, HM.out.same⟩
              · have ha' : (x.a1 != 0) = true := by simp [ha]
                go_wp2_with fail
                refine (gone_mid x.a0 hS HM.out).mono ?_
                rintro e w' ⟨rfl, h1⟩
                go_wp2_with fail
                refine Go.Great.bodyPost_end0 rfl rfl ?_
                exact ⟨rfl, _, h1.st, by rw [take, after, if_neg hok', if_neg (by simp [b1]), if_neg (by simp [b2]), if_neg (by simp [b3]), if_pos b4, if_neg ha, gone_core, HN.out], h1.out, h1.kp, h1.same⟩
            | false =>
              go_wp2_with fail
              refine Go.Great.bodyPost_end0 rfl rfl ?_
              exact ⟨rfl, L1, HM.out.st, by rw [take, after, if_neg hok', if_neg (by simp [b1]), if_neg (by simp [b2]), if_neg (by simp [b3]), if_neg (by simp [b4])]; exact HN.out, HM.out.out, HM.out.kp, HM.out.same⟩
end Go.Proofs.YtjgehecnamadcaaDoor.KaTake
