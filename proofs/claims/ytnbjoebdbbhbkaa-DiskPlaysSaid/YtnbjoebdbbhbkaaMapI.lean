
/- Maps whose keys are ints, of values of whatever kind: make, look up, store. -/
import Derived.Test.YtnbjoebdbbhbkaaBase
import Derived.MapKept
namespace Go.Proofs.Ytnbjoebdbbhbkaa
open Go.RowKit

def keyIs (k : Int) (e : MapEntry) : Bool := intOf e.key == k
/-- What a list of entries holds at a key. -/
def lookI (k : Int) : List MapEntry → Option Value
  | [] => none
  | e :: l => if keyIs k e then some e.val else lookI k l
def IntKeys (l : List MapEntry) : Prop := ∀ e ∈ l, ∃ j : Int, e.key = .int .i64 j
/-- Block m is a map that holds f. -/
def IMap (w : World) (m : Nat) (f : Int → Option Value) : Prop := ∃ es clock, w.heap[m]? = some (.map es clock) ∧ IntKeys es.toList ∧ ∀ k, lookI k es.toList = f k
/-- w1 is w but for block g. -/
structure Oth (w w1 : World) (g : Nat) : Prop where
  oth : ∀ k, k ≠ g → w1.heap[k]? = w.heap[k]?
  size : w1.heap.size = w.heap.size
  os : w1.os = w.os
  tape : w1.tape = w.tape
  output : w1.output = w.output
theorem Oth.below {w w1 : World} {g : Nat} (h : Oth w w1 g) {B : Nat} (hB : B ≤ g) : Below B w w1 := ⟨h.os, h.tape, h.output, Nat.le_of_eq h.size.symm, fun k hk => h.oth k (by omega)⟩
theorem Oth.blk {w w1 : World} {g g' : Nat} (h : Oth w w1 g) {t : TypeId} {cs : Array Value} (hb : Blk w g' t cs) (hne : g' ≠ g) : Blk w1 g' t cs := (h.oth g' hne).trans hb
theorem Put.toOth {w w1 : World} {g : Nat} {t : TypeId} {cs : Array Value} (h : Put w w1 g t cs) : Oth w w1 g := ⟨h.oth, h.size, h.os, h.tape, h.output⟩
theorem IMap.lt {w : World} {m : Nat} {f : Int → Option Value} (h : IMap w m f) : m < w.heap.size := by
  obtain ⟨es, clock, hb, _⟩ := h
  exact (Array.getElem?_eq_some_iff.1 hb).1
theorem IMap.of_same {w w' : World} {m : Nat} {f : Int → Option Value} (h : IMap w m f) (he : w'.heap[m]? = w.heap[m]?) : IMap w' m f := by
  obtain ⟨es, clock, hb, h2, h3⟩ := h
  exact ⟨es, clock, he.trans hb, h2, h3⟩
theorem IMap.below {w w' : World} {m B : Nat} {f : Int → Option Value} (h : IMap w m f) (hb : Below B w w') (hm : m < B) : IMap w' m f := h.of_same (hb.block m hm)
theorem IMap.ne_blk {w : World} {m g : Nat} {f : Int → Option Value} (h : IMap w m f) {t : TypeId} {cs : Array Value} (hb : Blk w g t cs) : g ≠ m := by
  rintro rfl
  obtain ⟨es, clock, h1, _⟩ := h
  unfold Blk at hb
  rw [hb] at h1
  cases h1

theorem findNow_int (k : Int) : ∀ (l : List MapEntry) (i : Nat), IntKeys l → ∃ r, Instr.findNow (.int .i64) (.int .i64 k) l i = some r ∧ r.map (·.2) = lookI k l ∧
    (r = none → ∀ e ∈ l, keyIs k e = false) ∧ ∀ j v, r = some (j, v) → i ≤ j ∧ ∃ a e b, l = a ++ e :: b ∧ a.length = j - i ∧ keyIs k e = true ∧ ∀ x ∈ a, keyIs k x = false
  | [], i, _ => ⟨none, rfl, rfl, fun _ => by simp, fun _ _ h => by cases h⟩
  | e :: l, i, h => by
    obtain ⟨q, hq⟩ := h e (by simp)
    by_cases hk : k = q
    · subst hk
      have hkey : keyIs k e = true := by simp [keyIs, hq, intOf]
      refine ⟨some (i, e.val), by simp [Instr.findNow, Instr.sameNow, hq], by simp [lookI, hkey], (fun h => by cases h), fun j v hjv => ?_⟩
      cases hjv
      exact ⟨Nat.le_refl _, [], e, l, rfl, by simp, hkey, by simp⟩
    · have hkey : keyIs k e = false := by simp [keyIs, hq, intOf]; omega
      obtain ⟨r, h1, h2, h3, h4⟩ := findNow_int k l (i + 1) (fun x hx => h x (by simp [hx]))
      have hkq : (k == q) = false := by simp [hk]
      refine ⟨r, by simp only [Instr.findNow, Instr.sameNow, hq, if_true, hkq, h1], by simp [lookI, hkey, h2], fun hr x hx => ?_, fun j v hjv => ?_⟩
      · rcases List.mem_cons.1 hx with hx | hx
        · subst hx; exact hkey
        · exact h3 hr x hx
      · obtain ⟨h5, a, x, b, h6, h7, h8, h9⟩ := h4 j v hjv
        refine ⟨by omega, e :: a, x, b, by rw [h6]; rfl, by simp; omega, h8, fun y hy => ?_⟩
        rcases List.mem_cons.1 hy with hy | hy
        · subst hy; exact hkey
        · exact h9 y hy
theorem lookI_skip (k : Int) : ∀ (a b : List MapEntry), (∀ x ∈ a, keyIs k x = false) → lookI k (a ++ b) = lookI k b
  | [], _, _ => rfl
  | e :: a, b, h => by
    show (if keyIs k e then some e.val else lookI k (a ++ b)) = _
    rw [h e (by simp)]
    simpa using lookI_skip k a b (fun x hx => h x (by simp [hx]))
theorem lookI_mid (j : Int) (e e' : MapEntry) (b : List MapEntry) (hk : e'.key = e.key) (hj : keyIs j e = false) : ∀ a : List MapEntry, lookI j (a ++ e' :: b) = lookI j (a ++ e :: b)
  | [] => by
    have : keyIs j e' = false := by unfold keyIs at *; rw [hk]; exact hj
    simp [lookI, this, hj]
  | x :: a => by
    show (if keyIs j x then some x.val else lookI j (a ++ e' :: b)) = (if keyIs j x then some x.val else lookI j (a ++ e :: b))
    rw [lookI_mid j e e' b hk hj a]
theorem lookI_end (j : Int) (e : MapEntry) (hj : keyIs j e = false) : ∀ a : List MapEntry, lookI j (a ++ [e]) = lookI j a
  | [] => by simp [lookI, hj]
  | x :: a => by
    show (if keyIs j x then some x.val else lookI j (a ++ [e])) = (if keyIs j x then some x.val else lookI j a)
    rw [lookI_end j e hj a]
theorem modify_mid {α : Type} (g : α → α) (e : α) (b : List α) : ∀ a : List α, (a ++ e :: b).modify a.length g = a ++ g e :: b
  | [] => rfl
  | x :: a => by
    show (x :: (a ++ e :: b)).modify (a.length + 1) g = _
    rw [List.modify_succ_cons, modify_mid g e b a]
    rfl
theorem key_same {e : MapEntry} {k : Int} {q : Int} (hq : e.key = .int .i64 q) (h : keyIs k e = true) : e.key = .int .i64 k := by
  simp [keyIs, hq, intOf] at h
  rw [hq, h]

section
variable {P : Program} {w : World} {t kt et m : Nat} {f : Int → Option Value}
theorem imap_new (w : World) : IMap (w.alloc (.map #[] 0)) w.heap.size fun _ => none := ⟨#[], 0, heap_new rfl, fun e he => by simp at he, fun k => rfl⟩
theorem run_lookI (ht : P.underlying t = some (.map kt et)) (hk : P.underlying kt = some (.int .i64)) {z : Value} (hz : ∀ w, (zeroValue et).run P w = .ok z w) (hm : IMap w m f) (k : Int) :
    (Instr.lookup t (.map (some m)) (.int .i64 k) false).run P w = .ok ((f k).getD z) w := by
  obtain ⟨es, clock, hb, hi, hf⟩ := hm
  obtain ⟨r, h1, h2, _, _⟩ := findNow_int k es.toList 0 hi
  rw [← hf k, ← h2]
  unfold Instr.lookup
  simp only [Sem.run_bind, run_underlying ht, Result.andThen, MapKept.run_getObj_map hb, Sem.run_pure, MapKept.run_checkKey (k := .int .i64 k) hk rfl, MapKept.run_findKey hk h1]
  cases r with
  | none => simp [hz]
  | some p => simp
theorem run_updI (ht : P.underlying t = some (.map kt et)) (hk : P.underlying kt = some (.int .i64)) (hm : IMap w m f) (k : Int) (v : Value) :
    ∃ w1, (Instr.mapUpdate t (.map (some m)) (.int .i64 k) v).run P w = .ok () w1 ∧ IMap w1 m (fun j => if j = k then some v else f j) ∧ Oth w w1 m := by
  obtain ⟨es, clock, hb, hi, hf⟩ := hm
  obtain ⟨r, h1, h2, h3, h4⟩ := findNow_int k es.toList 0 hi
  unfold Instr.mapUpdate
  simp only [Sem.run_bind, run_underlying ht, Result.andThen, MapKept.run_getObj_map hb, MapKept.run_checkKey (k := .int .i64 k) hk rfl, MapKept.run_findKey hk h1]
  have oth : ∀ o, Oth w { w with heap := w.heap.setIfInBounds m o } m := fun o => ⟨(MapKept.heap_set hb).2, by simp, rfl, rfl, rfl⟩
  cases r with
  | none =>
    simp only [MapKept.run_setObj_map _ hb]
    refine ⟨_, rfl, ⟨_, _, (MapKept.heap_set hb).1, ?_, fun j => ?_⟩, oth _⟩
    · intro e he
      rw [Array.toList_push] at he
      rcases List.mem_append.1 he with he | he
      · exact hi e he
      · simp at he; subst he; exact ⟨k, rfl⟩
    · rw [Array.toList_push]
      show _ = if j = k then some v else f j
      by_cases hj : j = k
      · subst hj
        rw [if_pos rfl, lookI_skip j _ _ (h3 rfl)]
        simp [lookI, keyIs, intOf]
      · rw [if_neg hj, lookI_end j _ (by simp [keyIs, intOf]; omega), hf j]
  | some p =>
    obtain ⟨i, u⟩ := p
    obtain ⟨_, a, e, b, h5, h6, h7, h8⟩ := h4 i u rfl
    obtain ⟨q, hq⟩ := hi e (by rw [h5]; simp)
    have hek := key_same hq h7
    have hei : es[i]? = some e := by
      rw [← Array.getElem?_toList, h5, List.getElem?_append_right (by omega)]
      simp [h6]
    have hstay : (Instr.keyThatStays (((es[i]?).map (·.key)).getD (.int .i64 k)) (.int .i64 k)).run P w = .ok (.int .i64 k) w := by
      rw [hei]
      simp [Instr.keyThatStays, hek, Instr.sameBits]
    simp only [Sem.run_bind, hstay, Result.andThen, MapKept.run_setObj_map _ hb]
    have hmod : (es.modify i fun e => { e with key := .int .i64 k, val := v }).toList = a ++ { e with key := .int .i64 k, val := v } :: b := by
      rw [Array.toList_modify, h5]
      have : i = a.length := by omega
      rw [this]
      exact modify_mid _ e b a
    refine ⟨_, rfl, ⟨_, _, (MapKept.heap_set hb).1, ?_, fun j => ?_⟩, oth _⟩
    · intro x hx
      rw [hmod] at hx
      rcases List.mem_append.1 hx with hx | hx
      · exact hi x (by rw [h5]; simp [hx])
      · rcases List.mem_cons.1 hx with hx | hx
        · subst hx; exact ⟨k, rfl⟩
        · exact hi x (by rw [h5]; simp [hx])
    · rw [hmod]
      show _ = if j = k then some v else f j
      by_cases hj : j = k
      · subst hj
        rw [if_pos rfl, lookI_skip j _ _ h8]
        simp [lookI, keyIs, intOf]
      · rw [if_neg hj, lookI_mid j e _ b hek.symm (by simp [keyIs, hek, intOf]; omega), ← h5, hf j]
theorem wpList_lookI {ops : Array Oper} {rest : List Oper} {o : Oper} {a : Act} {Q : Exit → Act → World → Prop} (hgd : o.guard = none) (x y : Operand) (ho : o.op = .lookup t x y false) (k : Int) (hx : a.eval x = .map (some m)) (hy : a.eval y = .int .i64 k)
    (ht : P.underlying t = some (.map kt et)) (hk : P.underlying kt = some (.int .i64)) {z : Value} (hz : ∀ w, (zeroValue et).run P w = .ok z w) (hm : IMap w m f) (v : Value) (hv : (f k).getD z = v) (h : wpList P ops Q rest (a.put o.dst v) w) : wpList P ops Q (o :: rest) a w := by
  subst hv
  refine wpList_val hgd ?_ h
  unfold execOp
  simp only [ho, hx, hy, Sem.run_bind, run_lookI ht hk hz hm k, Result.andThen_ok, Sem.run_pure]
theorem wpList_updI {ops : Array Oper} {rest : List Oper} {o : Oper} {a : Act} {Q : Exit → Act → World → Prop} (hgd : o.guard = none) (x y u : Operand) (ho : o.op = .mapUpdate t x y u) (k : Int) (v : Value) (hx : a.eval x = .map (some m)) (hy : a.eval y = .int .i64 k) (hu : a.eval u = v)
    (ht : P.underlying t = some (.map kt et)) (hk : P.underlying kt = some (.int .i64)) (hm : IMap w m f) (h : ∀ w1, IMap w1 m (fun j => if j = k then some v else f j) → Oth w w1 m → wpList P ops Q rest (a.put o.dst undef) w1) : wpList P ops Q (o :: rest) a w := by
  obtain ⟨w1, hrun, h1, h2⟩ := run_updI (P := P) ht hk hm k v
  refine wpList_plain hgd fun K hK => ?_
  unfold Oper.wp execOp
  simp only [ho, hx, hy, hu, Sem.run_bind, hrun, Result.andThen_ok, Sem.run_pure]
  exact hK _ _ (h w1 h1 h2)
end
end Go.Proofs.Ytnbjoebdbbhbkaa
