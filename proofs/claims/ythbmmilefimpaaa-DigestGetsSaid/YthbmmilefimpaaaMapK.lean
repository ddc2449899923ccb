
/- Maps whose keys are arrays or structs, of values of whatever kind: make, look up, store, by content. -/
import Derived.Test.YthbmmilefimpaaaFlowK
import Derived.MapKept
import Derived.Maps.Keyed
import Derived.DeepKeys3
import Derived.WideKeyEntry
namespace Go.Proofs.Ythbmmilefimpaaa
open Go.RowKit Go.Maps

structure Holds (es : List MapEntry) (f : Value → Option Value) : Prop where
  there : ∀ e ∈ es, f e.key = some e.val
  only : ∀ v u, f v = some u → ∃ e ∈ es, e.key = v
  once : es.Pairwise fun p q => p.key ≠ q.key
structure Stamped (es : List MapEntry) (clock : Nat) : Prop where
  lt : ∀ e ∈ es, e.born < clock
  once : (es.map (·.born)).Nodup
/-- Block m is a map with keys of type kt that holds f. -/
def KMap (P : Program) (kt : TypeId) (w : World) (m : Nat) (f : Value → Option Value) : Prop :=
  ∃ es clock, w.heap[m]? = some (.map es clock) ∧ (∀ e ∈ es.toList, ∃ l, keyOf P kt e.key = some l) ∧ Holds es.toList f ∧ Stamped es.toList clock
/-- Likewise, and the entry at key k bears this stamp. -/
def KEnt (P : Program) (kt : TypeId) (w : World) (m : Nat) (f : Value → Option Value) (k : Value) (st : Nat) : Prop :=
  ∃ es clock, w.heap[m]? = some (.map es clock) ∧ (∀ e ∈ es.toList, ∃ l, keyOf P kt e.key = some l) ∧ Holds es.toList f ∧ Stamped es.toList clock ∧ ∃ (j : Nat) (e : MapEntry), es.toList[j]? = some e ∧ e.key = k ∧ e.born = st
theorem KEnt.map {P : Program} {kt : TypeId} {w : World} {m : Nat} {f : Value → Option Value} {k : Value} {st : Nat} (h : KEnt P kt w m f k st) : KMap P kt w m f := by
  obtain ⟨es, clock, h1, h2, h3, h4, _⟩ := h
  exact ⟨es, clock, h1, h2, h3, h4⟩
/-- w1 is w but for block g. -/
structure Oth (w w1 : World) (g : Nat) : Prop where
  oth : ∀ k, k ≠ g → w1.heap[k]? = w.heap[k]?
  size : w1.heap.size = w.heap.size
  os : w1.os = w.os
  tape : w1.tape = w.tape
  output : w1.output = w.output
theorem Oth.below {w w1 : World} {g : Nat} (h : Oth w w1 g) {B : Nat} (hB : B ≤ g) : Below B w w1 := ⟨h.os, h.tape, h.output, Nat.le_of_eq h.size.symm, fun k hk => h.oth k (by omega)⟩
theorem Oth.blk {w w1 : World} {g g' : Nat} (h : Oth w w1 g) {t : TypeId} {cs : Array Value} (hb : Blk w g' t cs) (hne : g' ≠ g) : Blk w1 g' t cs := (h.oth g' hne).trans hb
theorem Oth.trans {w w1 w2 : World} {g : Nat} (h : Oth w w1 g) (k : Oth w1 w2 g) : Oth w w2 g := ⟨fun j hj => (k.oth j hj).trans (h.oth j hj), k.size.trans h.size, k.os.trans h.os, k.tape.trans h.tape, k.output.trans h.output⟩
open Classical in
/-- What a map holds behind a store. -/
noncomputable def putV (f : Value → Option Value) (k v : Value) : Value → Option Value := fun j => if j = k then some v else f j
theorem putV_at (f : Value → Option Value) (k v : Value) : putV f k v k = some v := by simp [putV]
theorem putV_off {f : Value → Option Value} {k v j : Value} (h : j ≠ k) : putV f k v j = f j := by simp [putV, h]

section
variable {P : Program} {w : World} {t kt et m : Nat} {f : Value → Option Value}
theorem KMap.lt (h : KMap P kt w m f) : m < w.heap.size := by
  obtain ⟨es, clock, hb, _⟩ := h
  exact (Array.getElem?_eq_some_iff.1 hb).1
theorem KMap.of_same {w' : World} (h : KMap P kt w m f) (he : w'.heap[m]? = w.heap[m]?) : KMap P kt w' m f := by
  obtain ⟨es, clock, hb, h2, h3⟩ := h
  exact ⟨es, clock, he.trans hb, h2, h3⟩
theorem KMap.below {w' : World} {B : Nat} (h : KMap P kt w m f) (hb : Below B w w') (hm : m < B) : KMap P kt w' m f := h.of_same (hb.block m hm)
theorem KMap.ne_blk {g : Nat} (h : KMap P kt w m f) {ty : TypeId} {cs : Array Value} (hb : Blk w g ty cs) : g ≠ m := by
  rintro rfl
  obtain ⟨es, clock, h1, _⟩ := h
  unfold Blk at hb
  rw [hb] at h1
  cases h1
theorem kmap_new (P : Program) (kt : TypeId) (w : World) : KMap P kt (w.alloc (.map #[] 0)) w.heap.size fun _ => none :=
  ⟨#[], 0, heap_new rfl, (fun e he => by simp at he), ⟨(fun e he => by simp at he), (fun v u h => by cases h), by simp⟩, ⟨(fun e he => by simp at he), by simp⟩⟩
theorem run_lookK (K : Keyed P kt) (ht : P.underlying t = some (.map kt et)) {z : Value} (hz : ∀ w, (zeroValue et).run P w = .ok z w) (hm : KMap P kt w m f) {k : Value} {l : Lit} (hk : keyOf P kt k = some l) :
    (Instr.lookup t (.map (some m)) k false).run P w = .ok ((f k).getD z) w := by
  obtain ⟨es, clock, hb, hi, hf, _⟩ := hm
  rcases K.find w hk es.toList hi with ⟨h1, h2⟩ | ⟨j, e0, h1, h2, h3⟩
  · have hn : f k = none := by
      cases hfk : f k with
      | none => rfl
      | some u => obtain ⟨e, he, hek⟩ := hf.only k u hfk; exact absurd hek (h2 e he)
    rw [hn]
    simp [Instr.lookup, run_underlying ht, MapKept.run_getObj_map hb, K.check w _ hk, h1, hz, Result.andThen]
  · have hfe := hf.there e0 (List.mem_of_getElem? h2)
    rw [h3] at hfe
    rw [hfe]
    simp [Instr.lookup, run_underlying ht, MapKept.run_getObj_map hb, K.check w _ hk, h1, Result.andThen]
theorem holds_push {es : List MapEntry} (h : Holds es f) {k v : Value} {c : Nat} (hn : ∀ e ∈ es, e.key ≠ k) : Holds (es ++ [⟨k, v, c⟩]) (putV f k v) := by
  refine ⟨fun e he => ?_, fun j u hj => ?_, ?_⟩
  · rcases List.mem_append.1 he with he | he
    · rw [putV_off (hn e he)]; exact h.there e he
    · simp at he; subst he; exact putV_at f k v
  · by_cases hjk : j = k
    · exact ⟨⟨k, v, c⟩, by simp, hjk.symm⟩
    · rw [putV_off hjk] at hj
      obtain ⟨e, he, hek⟩ := h.only j u hj
      exact ⟨e, by simp [he], hek⟩
  · refine List.pairwise_append.2 ⟨h.once, by simp, fun a ha b hb => ?_⟩
    simp at hb
    subst hb
    exact hn a ha
theorem holds_set {a b : List MapEntry} {e e' : MapEntry} {k v : Value} (h : Holds (a ++ e :: b) f) (hk : e.key = k) (hk' : e'.key = k) (hv : e'.val = v) : Holds (a ++ e' :: b) (putV f k v) := by
  have hp := List.pairwise_append.1 h.once
  have hp2 := List.pairwise_cons.1 hp.2.1
  have ha : ∀ x ∈ a, x.key ≠ k := fun x hx => by rw [← hk]; exact hp.2.2 x hx e (by simp)
  have hb : ∀ x ∈ b, x.key ≠ k := fun x hx => by rw [← hk]; exact (hp2.1 x hx).symm
  refine ⟨fun x hx => ?_, fun j u hj => ?_, ?_⟩
  · rcases List.mem_append.1 hx with hx | hx
    · rw [putV_off (ha x hx)]; exact h.there x (by simp [hx])
    · rcases List.mem_cons.1 hx with hx | hx
      · subst hx; rw [hk', hv]; exact putV_at f k v
      · rw [putV_off (hb x hx)]; exact h.there x (by simp [hx])
  · by_cases hjk : j = k
    · exact ⟨e', by simp, hk'.trans hjk.symm⟩
    · rw [putV_off hjk] at hj
      obtain ⟨x, hx, hxk⟩ := h.only j u hj
      rcases List.mem_append.1 hx with hx | hx
      · exact ⟨x, by simp [hx], hxk⟩
      · rcases List.mem_cons.1 hx with hx | hx
        · subst hx; exact absurd (hxk.symm.trans hk) hjk
        · exact ⟨x, by simp [hx], hxk⟩
  · refine List.pairwise_append.2 ⟨hp.1, List.pairwise_cons.2 ⟨fun x hx => by rw [hk']; exact (hb x hx).symm, hp2.2⟩, fun x hx y hy => ?_⟩
    rcases List.mem_cons.1 hy with hy | hy
    · subst hy; rw [hk']; exact ha x hx
    · exact hp.2.2 x hx y (by simp [hy])
theorem modK_mid {α : Type} (g : α → α) (e : α) (b : List α) : ∀ a : List α, (a ++ e :: b).modify a.length g = a ++ g e :: b
  | [] => rfl
  | x :: a => by
    show (x :: (a ++ e :: b)).modify (a.length + 1) g = _
    rw [List.modify_succ_cons, modK_mid g e b a]
    rfl
theorem split_at {es : List MapEntry} {j : Nat} {e0 : MapEntry} (h2 : es[j]? = some e0) : ∃ a b, es = a ++ e0 :: b ∧ a.length = j := by
  have hlt := (List.getElem?_eq_some_iff.1 h2)
  refine ⟨es.take j, es.drop (j + 1), ?_, by simp; have := hlt.1; omega⟩
  conv => lhs; rw [← List.take_append_drop j es]
  rw [List.drop_eq_getElem_cons hlt.1, hlt.2]
theorem stamped_set {a b : List MapEntry} {e e' : MapEntry} {c : Nat} (h : Stamped (a ++ e :: b) c) (hb : e'.born = e.born) : Stamped (a ++ e' :: b) c := by
  refine ⟨fun x hx => ?_, ?_⟩
  · rcases List.mem_append.1 hx with hx | hx
    · exact h.lt x (by simp [hx])
    · rcases List.mem_cons.1 hx with hx | hx
      · subst hx; rw [hb]; exact h.lt e (by simp)
      · exact h.lt x (by simp [hx])
  · have := h.once
    simpa [hb] using this
theorem stamped_push {es : List MapEntry} {c : Nat} (h : Stamped es c) (k v : Value) : Stamped (es ++ [⟨k, v, c⟩]) (c + 1) := by
  refine ⟨fun x hx => ?_, ?_⟩
  · rcases List.mem_append.1 hx with hx | hx
    · have := h.lt x hx; omega
    · simp at hx; subst hx; exact Nat.lt_succ_self _
  · rw [List.map_append]
    refine List.nodup_append.2 ⟨h.once, by simp, fun x hx y hy => ?_⟩
    obtain ⟨e, he, rfl⟩ := List.mem_map.1 hx
    have h1 := h.lt e he
    have h2 : y = c := by simpa using hy
    omega
theorem run_updK (K : Keyed P kt) (ht : P.underlying t = some (.map kt et)) (hm : KMap P kt w m f) {k : Value} {l : Lit} (hk : keyOf P kt k = some l) (v : Value) :
    ∃ w1, (Instr.mapUpdate t (.map (some m)) k v).run P w = .ok () w1 ∧ KMap P kt w1 m (putV f k v) ∧ Oth w w1 m := by
  obtain ⟨es, clock, hb, hi, hf, hs⟩ := hm
  have oth : ∀ o, Oth w { w with heap := w.heap.setIfInBounds m o } m := fun o => ⟨(MapKept.heap_set hb).2, by simp, rfl, rfl, rfl⟩
  rcases K.find w hk es.toList hi with ⟨h1, h2⟩ | ⟨j, e0, h1, h2, h3⟩
  · refine ⟨{ w with heap := w.heap.setIfInBounds m (.map (es.push ⟨k, v, clock⟩) (clock + 1)) }, ?_, ⟨_, _, (MapKept.heap_set hb).1, ?_, ?_, ?_⟩, oth _⟩
    · simp [Instr.mapUpdate, run_underlying ht, MapKept.run_getObj_map hb, K.check w false hk, h1, MapKept.run_setObj_map _ hb, Result.andThen]
    · intro e he
      rw [Array.toList_push] at he
      rcases List.mem_append.1 he with he | he
      · exact hi e he
      · simp at he; subst he; exact ⟨l, hk⟩
    · rw [Array.toList_push]
      exact holds_push hf h2
    · rw [Array.toList_push]
      exact stamped_push hs k v
  · have hj : es[j]? = some e0 := by simpa using h2
    have hst := K.stays w hk
    obtain ⟨a, b, hab, hal⟩ := split_at h2
    have hmod : (es.modify j fun e => { e with key := k, val := v }).toList = a ++ { e0 with key := k, val := v } :: b := by
      rw [Array.toList_modify, hab, ← hal]
      exact modK_mid _ e0 b a
    refine ⟨{ w with heap := w.heap.setIfInBounds m (.map (es.modify j fun e => { e with key := k, val := v }) clock) }, ?_, ⟨_, _, (MapKept.heap_set hb).1, ?_, ?_, ?_⟩, oth _⟩
    · unfold Instr.mapUpdate
      simp only [Sem.run_bind, run_underlying ht, Result.andThen, MapKept.run_getObj_map hb, K.check w false hk, h1, hj, Option.map_some, Option.getD_some, h3, hst, MapKept.run_setObj_map _ hb]
    · intro x hx
      rw [hmod] at hx
      rcases List.mem_append.1 hx with hx | hx
      · exact hi x (by rw [hab]; simp [hx])
      · rcases List.mem_cons.1 hx with hx | hx
        · subst hx; exact ⟨l, hk⟩
        · exact hi x (by rw [hab]; simp [hx])
    · rw [hmod]
      exact holds_set (by rw [← hab]; exact hf) h3 rfl rfl
    · rw [hmod]
      exact stamped_set (e := e0) (by rw [← hab]; exact hs) rfl
/-- The entry of 'm[k]++'. -/
theorem run_entK (K : Keyed P kt) (ht : P.underlying t = some (.map kt et)) {z : Value} (hz : ∀ w, (zeroValue et).run P w = .ok z w) (hm : KMap P kt w m f) {k : Value} {l : Lit} (hk : keyOf P kt k = some l) :
    ∃ st w1, (Instr.mapEntry t (.map (some m)) k).run P w = .ok (.tuple #[(f k).getD z, .int .i64 (st : Nat)]) w1 ∧ KEnt P kt w1 m (putV f k ((f k).getD z)) k st ∧ Oth w w1 m := by
  obtain ⟨es, clock, hb, hi, hf, hs⟩ := hm
  have oth : ∀ o, Oth w { w with heap := w.heap.setIfInBounds m o } m := fun o => ⟨(MapKept.heap_set hb).2, by simp, rfl, rfl, rfl⟩
  rcases K.find w hk es.toList hi with ⟨h1, h2⟩ | ⟨j, e0, h1, h2, h3⟩
  · have hn : f k = none := by
      cases hfk : f k with
      | none => rfl
      | some u => obtain ⟨e, he, hek⟩ := hf.only k u hfk; exact absurd hek (h2 e he)
    rw [hn]
    refine ⟨clock, { w with heap := w.heap.setIfInBounds m (.map (es.push ⟨k, z, clock⟩) (clock + 1)) }, ?_, ⟨_, _, (MapKept.heap_set hb).1, ?_, ?_, ?_, es.size, ⟨k, z, clock⟩, by simp, rfl, rfl⟩, oth _⟩
    · simp [Instr.mapEntry, run_underlying ht, MapKept.run_getObj_map hb, K.check w false hk, h1, hz, MapKept.run_setObj_map _ hb, Result.andThen, goInt]
    · intro e he
      rw [Array.toList_push] at he
      rcases List.mem_append.1 he with he | he
      · exact hi e he
      · simp at he; subst he; exact ⟨l, hk⟩
    · rw [Array.toList_push]
      exact holds_push hf h2
    · rw [Array.toList_push]
      exact stamped_push hs k z
  · have hj : es[j]? = some e0 := by simpa using h2
    have hst := K.stays w hk
    have hfe := hf.there e0 (List.mem_of_getElem? h2)
    rw [h3] at hfe
    rw [hfe]
    obtain ⟨a, b, hab, hal⟩ := split_at h2
    have hmod : (es.modify j fun e => { e with key := k }).toList = a ++ { e0 with key := k } :: b := by
      rw [Array.toList_modify, hab, ← hal]
      exact modK_mid _ e0 b a
    refine ⟨e0.born, { w with heap := w.heap.setIfInBounds m (.map (es.modify j fun e => { e with key := k }) clock) }, ?_, ⟨_, _, (MapKept.heap_set hb).1, ?_, ?_, ?_, j, { e0 with key := k }, ?_, rfl, rfl⟩, oth _⟩
    · unfold Instr.mapEntry
      simp only [Sem.run_bind, run_underlying ht, Result.andThen, MapKept.run_getObj_map hb, K.check w false hk, h1, hj, Option.map_some, Option.getD_some, h3, hst, MapKept.run_setObj_map _ hb, Sem.run_pure, goInt]
    · intro x hx
      rw [hmod] at hx
      rcases List.mem_append.1 hx with hx | hx
      · exact hi x (by rw [hab]; simp [hx])
      · rcases List.mem_cons.1 hx with hx | hx
        · subst hx; exact ⟨l, hk⟩
        · exact hi x (by rw [hab]; simp [hx])
    · rw [hmod]
      exact holds_set (by rw [← hab]; exact hf) h3 rfl rfl
    · rw [hmod]
      exact stamped_set (e := e0) (by rw [← hab]; exact hs) rfl
    · rw [hmod, ← hal]
      simp
theorem run_putK {k : Value} {st : Nat} (hm : KEnt P kt w m f k st) (v : Value) :
    ∃ w1, (Instr.entryStore t (.map (some m)) (.int .i64 (st : Nat)) v).run P w = .ok () w1 ∧ KMap P kt w1 m (putV f k v) ∧ Oth w w1 m := by
  obtain ⟨es, clock, hb, hi, hf, hs, j, e0, h2, h3, h4⟩ := hm
  have oth : ∀ o, Oth w { w with heap := w.heap.setIfInBounds m o } m := fun o => ⟨(MapKept.heap_set hb).2, by simp, rfl, rfl, rfl⟩
  have hidx : es.findIdx? (fun e => ((e.born : Nat) : Int) == ((st : Nat) : Int)) = some j := by
    rw [WideElems.findIdx_arr, ← h4]
    exact WideElems.findIdx_born hs.once h2
  obtain ⟨a, b, hab, hal⟩ := split_at h2
  have hmod : (es.modify j fun e => { e with val := v }).toList = a ++ { e0 with val := v } :: b := by
    rw [Array.toList_modify, hab, ← hal]
    exact modK_mid _ e0 b a
  refine ⟨{ w with heap := w.heap.setIfInBounds m (.map (es.modify j fun e => { e with val := v }) clock) }, ?_, ⟨_, _, (MapKept.heap_set hb).1, ?_, ?_, ?_⟩, oth _⟩
  · simp [Instr.entryStore, MapKept.run_getObj_map hb, asInt, asIntOf, hidx, MapKept.run_setObj_map _ hb, Result.andThen]
  · intro x hx
    rw [hmod] at hx
    rcases List.mem_append.1 hx with hx | hx
    · exact hi x (by rw [hab]; simp [hx])
    · rcases List.mem_cons.1 hx with hx | hx
      · subst hx; exact hi e0 (by rw [hab]; simp)
      · exact hi x (by rw [hab]; simp [hx])
  · rw [hmod]
    exact holds_set (by rw [← hab]; exact hf) h3 h3 rfl
  · rw [hmod]
    exact stamped_set (e := e0) (by rw [← hab]; exact hs) rfl
theorem putV_putV (f : Value → Option Value) (k u v : Value) : putV (putV f k u) k v = putV f k v := by
  funext j
  unfold putV
  by_cases h : j = k <;> simp [h]
theorem gives_lookK {o : Oper} {a : Act} {S : Value → World → Prop} {x y : Operand} (ho : o.op = .lookup t x y false) {k : Value} {l : Lit} (hx : a.eval x = .map (some m)) (hy : a.eval y = k)
    (K : Keyed P kt) (hk : keyOf P kt k = some l) (ht : P.underlying t = some (.map kt et)) {z : Value} (hz : ∀ w, (zeroValue et).run P w = .ok z w) (hm : KMap P kt w m f) (h : S ((f k).getD z) w) : gives P o a w S := by
  unfold gives execOp
  simp only [ho, hx, hy, Sem.run_bind, run_lookK K ht hz hm hk, Result.andThen_ok, Sem.run_pure]
  exact h
theorem gives_entK {o : Oper} {a : Act} {S : Value → World → Prop} {x y : Operand} (ho : o.op = .mapEntry t x y) {k : Value} {l : Lit} (hx : a.eval x = .map (some m)) (hy : a.eval y = k)
    (K : Keyed P kt) (hk : keyOf P kt k = some l) (ht : P.underlying t = some (.map kt et)) {z : Value} (hz : ∀ w, (zeroValue et).run P w = .ok z w) (hm : KMap P kt w m f)
    (h : ∀ st w1, KEnt P kt w1 m (putV f k ((f k).getD z)) k st → Oth w w1 m → S (.tuple #[(f k).getD z, .int .i64 (st : Nat)]) w1) : gives P o a w S := by
  obtain ⟨st, w1, hrun, h1, h2⟩ := run_entK K ht hz hm hk
  unfold gives execOp
  simp only [ho, hx, hy, Sem.run_bind, hrun, Result.andThen_ok, Sem.run_pure]
  exact h st w1 h1 h2
theorem gives_putK {o : Oper} {a : Act} {S : Value → World → Prop} {x y u : Operand} (ho : o.op = .entryStore t x y u) {k v : Value} {st : Nat} (hx : a.eval x = .map (some m)) (hy : a.eval y = .int .i64 (st : Nat)) (hu : a.eval u = v)
    (hm : KEnt P kt w m f k st) (h : ∀ w1, KMap P kt w1 m (putV f k v) → Oth w w1 m → S undef w1) : gives P o a w S := by
  obtain ⟨w1, hrun, h1, h2⟩ := run_putK (t := t) (P := P) hm v
  unfold gives execOp
  simp only [ho, hx, hy, hu, Sem.run_bind, hrun, Result.andThen_ok, Sem.run_pure]
  exact h w1 h1 h2
theorem gives_loadA {P : Program} {o : Oper} {a : Act} {w : World} {S : Value → World → Prop} {ty : TypeId} {x : Operand} (ho : o.op = .load ty x) {g off : Nat} (hx : a.eval x = .pointer (some ⟨g, off, none⟩)) {cs : List Value} (hT : AggT P ty cs.length)
    (hc : ∀ j v, cs[j]? = some v → w.cell? ⟨g, off + j, none⟩ = some v) (h : S (.agg cs.toArray) w) : gives P o a w S := by
  unfold gives execOp
  simp only [ho, hx, Instr.loadAt, Instr.sureAddr, Sem.run_bind, Sem.run_pure, Result.andThen_ok, run_load_agg hT hc]
  exact h
theorem gives_eqA {o : Oper} {a : Act} {S : Value → World → Prop} {t t2 : TypeId} {x y : Operand} {xs ys : Array Value} {r : Bool} (hq : P.eqGuardType P.depth t = false) (ho : o.op = .binOp .eql t x y t2) (hx : a.eval x = .agg xs) (hy : a.eval y = .agg ys) (hr : (Op.equalIn 10000 t (.agg xs) (.agg ys)).run P w = .ok r w) (h : S (.bool r) w) : gives P o a w S := by
  unfold gives execOp
  simp only [ho, hx, hy, Sem.run_bind, run_eqGuard_agg _ _ _ _ _ _ _ hq, run_eql_struct, hr, Result.andThen_ok, Sem.run_pure]
  exact h
theorem gives_neqA {o : Oper} {a : Act} {S : Value → World → Prop} {t t2 : TypeId} {x y : Operand} {xs ys : Array Value} {r : Bool} (hq : P.eqGuardType P.depth t = false) (ho : o.op = .binOp .neq t x y t2) (hx : a.eval x = .agg xs) (hy : a.eval y = .agg ys) (hr : (Op.equalIn 10000 t (.agg xs) (.agg ys)).run P w = .ok r w) (h : S (.bool (!r)) w) : gives P o a w S := by
  unfold gives execOp
  simp only [ho, hx, hy, Sem.run_bind, run_eqGuard_agg _ _ _ _ _ _ _ hq, run_neq_struct, hr, Result.andThen_ok, Sem.run_pure]
  exact h
theorem wpList_eqA {ops : Array Oper} {rest : List Oper} {o : Oper} {a : Act} {Q : Exit → Act → World → Prop} (hgd : o.guard = none) {t t2 : TypeId} {x y : Operand} {xs ys : Array Value} {r : Bool} (hq : P.eqGuardType P.depth t = false) (ho : o.op = .binOp .eql t x y t2) (hx : a.eval x = .agg xs) (hy : a.eval y = .agg ys) (hr : (Op.equalIn 10000 t (.agg xs) (.agg ys)).run P w = .ok r w)
    (h : wpList P ops Q rest (a.put o.dst (.bool r)) w) : wpList P ops Q (o :: rest) a w := by
  refine wpList_val hgd ?_ h
  unfold execOp
  simp only [ho, hx, hy, Sem.run_bind, run_eqGuard_agg _ _ _ _ _ _ _ hq, run_eql_struct, hr, Result.andThen_ok, Sem.run_pure]
theorem gives_extract {o : Oper} {a : Act} {S : Value → World → Prop} {x : Operand} {i : Nat} (ho : o.op = .extract x i) {vs : Array Value} (hx : a.eval x = .tuple vs) {v : Value} (hv : vs[i]? = some v) (h : S v w) : gives P o a w S := by
  unfold gives execOp
  simp only [ho, hx, Instr.extract, hv, Sem.run_bind, Sem.run_pure, Result.andThen_ok]
  exact h
theorem wpList_lookK {ops : Array Oper} {rest : List Oper} {o : Oper} {a : Act} {Q : Exit → Act → World → Prop} (hgd : o.guard = none) (x y : Operand) (ho : o.op = .lookup t x y false) (k : Value) {l : Lit} (hx : a.eval x = .map (some m)) (hy : a.eval y = k)
    (K : Keyed P kt) (hk : keyOf P kt k = some l) (ht : P.underlying t = some (.map kt et)) {z : Value} (hz : ∀ w, (zeroValue et).run P w = .ok z w) (hm : KMap P kt w m f) (v : Value) (hv : (f k).getD z = v) (h : wpList P ops Q rest (a.put o.dst v) w) : wpList P ops Q (o :: rest) a w := by
  subst hv
  refine wpList_val hgd ?_ h
  unfold execOp
  simp only [ho, hx, hy, Sem.run_bind, run_lookK K ht hz hm hk, Result.andThen_ok, Sem.run_pure]
theorem wpList_updK {ops : Array Oper} {rest : List Oper} {o : Oper} {a : Act} {Q : Exit → Act → World → Prop} (hgd : o.guard = none) (x y u : Operand) (ho : o.op = .mapUpdate t x y u) (k : Value) {l : Lit} (v : Value) (hx : a.eval x = .map (some m)) (hy : a.eval y = k) (hu : a.eval u = v)
    (K : Keyed P kt) (hk : keyOf P kt k = some l) (ht : P.underlying t = some (.map kt et)) (hm : KMap P kt w m f) (h : ∀ w1, KMap P kt w1 m (putV f k v) → Oth w w1 m → wpList P ops Q rest (a.put o.dst undef) w1) : wpList P ops Q (o :: rest) a w := by
  obtain ⟨w1, hrun, h1, h2⟩ := run_updK (P := P) K ht hm hk v
  refine wpList_plain hgd fun K hK => ?_
  unfold Oper.wp execOp
  simp only [ho, hx, hy, hu, Sem.run_bind, hrun, Result.andThen_ok, Sem.run_pure]
  exact hK _ _ (h w1 h1 h2)
end
end Go.Proofs.Ythbmmilefimpaaa
